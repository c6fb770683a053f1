/- Part 5 of a proof. -/
import Derived.Test.YtofbcijbpfjliaaG4
import Derived.Test.YtofbcijbpfjliaaRows
import Derived.ChangeSlices
import Derived.OpenShut
import Derived.Carry
import Derived.ChangeSame
import Derived.ChangeMaps5
import Derived.WideShapes
import Derived.ProofKit
import Derived.Deep.DeepHandedRow
import Derived.Lib.LaidTab
import Derived.Stop.LaidErr
set_option linter.unusedVariables false
set_option linter.unusedSimpArgs false
set_option linter.defProp false
set_option linter.unusedSectionVars false
set_option linter.unnecessarySimpa false
namespace Go.Proofs.Ytofbcijbpfjliaa.Vc
noncomputable section
open Go.RowKit
set_option maxRecDepth 20000
set_option maxHeartbeats 8000000
def qk (b0_0:qa) (b0_1:qa) (b0_2:qa) (s:qf):(List qa×Int)→Option ((List qa×Int)⊕(List qa))|(left,k)=>if 0≤k then Option.bind (zI left s k) fun(a:Bool)=>if a=Bool.true then Option.bind (ql k (w64 (k+1)) left) fun(a2:List qa)=>some (Sum.inl (a2,w64 (((a2.length:Nat):Int)-1))) else some (Sum.inl (left,w64 (k-1))) else some (Sum.inr left)
theorem qV:∀(left:List qa) (b0_0_Course_School:Int) (b0_0_Course_Code:ByteArray) (b0_0_Credits b0_0_Grade b0_0_Day:Int) (b0_0_Sources:List Int) (b0_0_Bundle:Int) (b0_0_Path:List Int) (b0_1_Course_School:Int) (b0_1_Course_Code:ByteArray) (b0_1_Credits b0_1_Grade b0_1_Day:Int) (b0_1_Sources:List Int) (b0_1_Bundle:Int) (b0_1_Path:List Int) (b0_2_Course_School:Int) (b0_2_Course_Code:ByteArray) (b0_2_Credits b0_2_Grade b0_2_Day:Int) (b0_2_Sources:List Int) (b0_2_Bundle:Int) (b0_2_Path:List Int) (s_Worst s_Best s_Pass k:Int) (Q9:Nat),Q9=left.length→XL2 evo 11 1 9 ⟨[(6,rP 1),(10,rO 2 8 Q9),(13,rI k)],[(0,B.blk 52 [dI b0_0_Course_School,dS b0_0_Course_Code,dI b0_0_Credits,dI b0_0_Grade,dI b0_0_Day,dL 1 eI b0_0_Sources,dI b0_0_Bundle,dL 1 eI b0_0_Path,dI b0_1_Course_School,dS b0_1_Course_Code,dI b0_1_Credits,dI b0_1_Grade,dI b0_1_Day,dL 1 eI b0_1_Sources,dI b0_1_Bundle,dL 1 eI b0_1_Path,dI b0_2_Course_School,dS b0_2_Course_Code,dI b0_2_Credits,dI b0_2_Grade,dI b0_2_Day,dL 1 eI b0_2_Sources,dI b0_2_Bundle,dL 1 eI b0_2_Path]),(1,B.blk 30 [dI s_Worst,dI s_Best,dI s_Pass]),(2,bR 52 8 qc left)],3,53⟩=(qG (qk (qa.mk (qb.mk b0_0_Course_School b0_0_Course_Code) b0_0_Credits b0_0_Grade b0_0_Day b0_0_Sources b0_0_Bundle b0_0_Path) (qa.mk (qb.mk b0_1_Course_School b0_1_Course_Code) b0_1_Credits b0_1_Grade b0_1_Day b0_1_Sources b0_1_Bundle b0_1_Path) (qa.mk (qb.mk b0_2_Course_School b0_2_Course_Code) b0_2_Credits b0_2_Grade b0_2_Day b0_2_Sources b0_2_Bundle b0_2_Path) (qf.mk s_Worst s_Best s_Pass)) (left,k)).bind (fun(e:List qa)=>some (Exit.exit 2,⟨[(10,rO 1 8 e.length)],[(0,B.blk 52 [dI b0_0_Course_School,dS b0_0_Course_Code,dI b0_0_Credits,dI b0_0_Grade,dI b0_0_Day,dL 1 eI b0_0_Sources,dI b0_0_Bundle,dL 1 eI b0_0_Path,dI b0_1_Course_School,dS b0_1_Course_Code,dI b0_1_Credits,dI b0_1_Grade,dI b0_1_Day,dL 1 eI b0_1_Sources,dI b0_1_Bundle,dL 1 eI b0_1_Path,dI b0_2_Course_School,dS b0_2_Course_Code,dI b0_2_Credits,dI b0_2_Grade,dI b0_2_Day,dL 1 eI b0_2_Sources,dI b0_2_Bundle,dL 1 eI b0_2_Path]),(1,bR 52 8 qc e)],2,53⟩)):=
 by
 intro left b0_0_Course_School b0_0_Course_Code b0_0_Credits b0_0_Grade b0_0_Day b0_0_Sources b0_0_Bundle b0_0_Path b0_1_Course_School b0_1_Course_Code b0_1_Credits b0_1_Grade b0_1_Day b0_1_Sources b0_1_Bundle b0_1_Path b0_2_Course_School b0_2_Course_Code b0_2_Credits b0_2_Grade b0_2_Day b0_2_Sources b0_2_Bundle b0_2_Path s_Worst s_Best s_Pass k Q9 h0
 subst h0
 revert k;revert left;exact q8h qe4 qdT (fun e=>by exact⟨_,rfl,fun h=>by cases h⟩) fun left k=>by
  have:=qi3;have:=@q6q.eq_1;have:=@Z9;have:=@qC;have:=@qk.eq_1;exact gA
theorem Jl:∀  (b0_0_Course_School:Int) (b0_0_Course_Code:ByteArray) (b0_0_Credits b0_0_Grade b0_0_Day:Int) (b0_0_Sources:List Int) (b0_0_Bundle:Int) (b0_0_Path:List Int) (b0_1_Course_School:Int) (b0_1_Course_Code:ByteArray) (b0_1_Credits b0_1_Grade b0_1_Day:Int) (b0_1_Sources:List Int) (b0_1_Bundle:Int) (b0_1_Path:List Int) (b0_2_Course_School:Int) (b0_2_Course_Code:ByteArray) (b0_2_Credits b0_2_Grade b0_2_Day:Int) (b0_2_Sources:List Int) (b0_2_Bundle:Int) (b0_2_Path:List Int) (s_Worst s_Best s_Pass k:Int),XL2 evo 11 1 9 ⟨[(6,rP 1),(10,rO 2 8 0),(13,rI k)],[(0,B.blk 52 [dI b0_0_Course_School,dS b0_0_Course_Code,dI b0_0_Credits,dI b0_0_Grade,dI b0_0_Day,dL 1 eI b0_0_Sources,dI b0_0_Bundle,dL 1 eI b0_0_Path,dI b0_1_Course_School,dS b0_1_Course_Code,dI b0_1_Credits,dI b0_1_Grade,dI b0_1_Day,dL 1 eI b0_1_Sources,dI b0_1_Bundle,dL 1 eI b0_1_Path,dI b0_2_Course_School,dS b0_2_Course_Code,dI b0_2_Credits,dI b0_2_Grade,dI b0_2_Day,dL 1 eI b0_2_Sources,dI b0_2_Bundle,dL 1 eI b0_2_Path]),(1,B.blk 30 [dI s_Worst,dI s_Best,dI s_Pass]),(2,B.row 52 8 [])],3,53⟩=(qG (qk (qa.mk (qb.mk b0_0_Course_School b0_0_Course_Code) b0_0_Credits b0_0_Grade b0_0_Day b0_0_Sources b0_0_Bundle b0_0_Path) (qa.mk (qb.mk b0_1_Course_School b0_1_Course_Code) b0_1_Credits b0_1_Grade b0_1_Day b0_1_Sources b0_1_Bundle b0_1_Path) (qa.mk (qb.mk b0_2_Course_School b0_2_Course_Code) b0_2_Credits b0_2_Grade b0_2_Day b0_2_Sources b0_2_Bundle b0_2_Path) (qf.mk s_Worst s_Best s_Pass)) ([],k)).bind (fun(e:List qa)=>some (Exit.exit 2,⟨[(10,rO 1 8 e.length)],[(0,B.blk 52 [dI b0_0_Course_School,dS b0_0_Course_Code,dI b0_0_Credits,dI b0_0_Grade,dI b0_0_Day,dL 1 eI b0_0_Sources,dI b0_0_Bundle,dL 1 eI b0_0_Path,dI b0_1_Course_School,dS b0_1_Course_Code,dI b0_1_Credits,dI b0_1_Grade,dI b0_1_Day,dL 1 eI b0_1_Sources,dI b0_1_Bundle,dL 1 eI b0_1_Path,dI b0_2_Course_School,dS b0_2_Course_Code,dI b0_2_Credits,dI b0_2_Grade,dI b0_2_Day,dL 1 eI b0_2_Sources,dI b0_2_Bundle,dL 1 eI b0_2_Path]),(1,bR 52 8 qc e)],2,53⟩)):=by
 intro b0_0_Course_School b0_0_Course_Code b0_0_Credits b0_0_Grade b0_0_Day b0_0_Sources b0_0_Bundle b0_0_Path b0_1_Course_School b0_1_Course_Code b0_1_Credits b0_1_Grade b0_1_Day b0_1_Sources b0_1_Bundle b0_1_Path b0_2_Course_School b0_2_Course_Code b0_2_Credits b0_2_Grade b0_2_Day b0_2_Sources b0_2_Bundle b0_2_Path s_Worst s_Best s_Pass k;have h:=qV [] ((qa.mk (qb.mk b0_0_Course_School b0_0_Course_Code) b0_0_Credits b0_0_Grade b0_0_Day b0_0_Sources b0_0_Bundle b0_0_Path)).Course.School ((qa.mk (qb.mk b0_0_Course_School b0_0_Course_Code) b0_0_Credits b0_0_Grade b0_0_Day b0_0_Sources b0_0_Bundle b0_0_Path)).Course.Code ((qa.mk (qb.mk b0_0_Course_School b0_0_Course_Code) b0_0_Credits b0_0_Grade b0_0_Day b0_0_Sources b0_0_Bundle b0_0_Path)).Credits ((qa.mk (qb.mk b0_0_Course_School b0_0_Course_Code) b0_0_Credits b0_0_Grade b0_0_Day b0_0_Sources b0_0_Bundle b0_0_Path)).Grade ((qa.mk (qb.mk b0_0_Course_School b0_0_Course_Code) b0_0_Credits b0_0_Grade b0_0_Day b0_0_Sources b0_0_Bundle b0_0_Path)).Day ((qa.mk (qb.mk b0_0_Course_School b0_0_Course_Code) b0_0_Credits b0_0_Grade b0_0_Day b0_0_Sources b0_0_Bundle b0_0_Path)).Sources ((qa.mk (qb.mk b0_0_Course_School b0_0_Course_Code) b0_0_Credits b0_0_Grade b0_0_Day b0_0_Sources b0_0_Bundle b0_0_Path)).Bundle ((qa.mk (qb.mk b0_0_Course_School b0_0_Course_Code) b0_0_Credits b0_0_Grade b0_0_Day b0_0_Sources b0_0_Bundle b0_0_Path)).Path ((qa.mk (qb.mk b0_1_Course_School b0_1_Course_Code) b0_1_Credits b0_1_Grade b0_1_Day b0_1_Sources b0_1_Bundle b0_1_Path)).Course.School ((qa.mk (qb.mk b0_1_Course_School b0_1_Course_Code) b0_1_Credits b0_1_Grade b0_1_Day b0_1_Sources b0_1_Bundle b0_1_Path)).Course.Code ((qa.mk (qb.mk b0_1_Course_School b0_1_Course_Code) b0_1_Credits b0_1_Grade b0_1_Day b0_1_Sources b0_1_Bundle b0_1_Path)).Credits ((qa.mk (qb.mk b0_1_Course_School b0_1_Course_Code) b0_1_Credits b0_1_Grade b0_1_Day b0_1_Sources b0_1_Bundle b0_1_Path)).Grade ((qa.mk (qb.mk b0_1_Course_School b0_1_Course_Code) b0_1_Credits b0_1_Grade b0_1_Day b0_1_Sources b0_1_Bundle b0_1_Path)).Day ((qa.mk (qb.mk b0_1_Course_School b0_1_Course_Code) b0_1_Credits b0_1_Grade b0_1_Day b0_1_Sources b0_1_Bundle b0_1_Path)).Sources ((qa.mk (qb.mk b0_1_Course_School b0_1_Course_Code) b0_1_Credits b0_1_Grade b0_1_Day b0_1_Sources b0_1_Bundle b0_1_Path)).Bundle ((qa.mk (qb.mk b0_1_Course_School b0_1_Course_Code) b0_1_Credits b0_1_Grade b0_1_Day b0_1_Sources b0_1_Bundle b0_1_Path)).Path ((qa.mk (qb.mk b0_2_Course_School b0_2_Course_Code) b0_2_Credits b0_2_Grade b0_2_Day b0_2_Sources b0_2_Bundle b0_2_Path)).Course.School ((qa.mk (qb.mk b0_2_Course_School b0_2_Course_Code) b0_2_Credits b0_2_Grade b0_2_Day b0_2_Sources b0_2_Bundle b0_2_Path)).Course.Code ((qa.mk (qb.mk b0_2_Course_School b0_2_Course_Code) b0_2_Credits b0_2_Grade b0_2_Day b0_2_Sources b0_2_Bundle b0_2_Path)).Credits ((qa.mk (qb.mk b0_2_Course_School b0_2_Course_Code) b0_2_Credits b0_2_Grade b0_2_Day b0_2_Sources b0_2_Bundle b0_2_Path)).Grade ((qa.mk (qb.mk b0_2_Course_School b0_2_Course_Code) b0_2_Credits b0_2_Grade b0_2_Day b0_2_Sources b0_2_Bundle b0_2_Path)).Day ((qa.mk (qb.mk b0_2_Course_School b0_2_Course_Code) b0_2_Credits b0_2_Grade b0_2_Day b0_2_Sources b0_2_Bundle b0_2_Path)).Sources ((qa.mk (qb.mk b0_2_Course_School b0_2_Course_Code) b0_2_Credits b0_2_Grade b0_2_Day b0_2_Sources b0_2_Bundle b0_2_Path)).Bundle ((qa.mk (qb.mk b0_2_Course_School b0_2_Course_Code) b0_2_Credits b0_2_Grade b0_2_Day b0_2_Sources b0_2_Bundle b0_2_Path)).Path ((qf.mk s_Worst s_Best s_Pass)).Worst ((qf.mk s_Worst s_Best s_Pass)).Best ((qf.mk s_Worst s_Best s_Pass)).Pass k _ rfl
 first
  | exact h
  | (simp only[rL,dL,bR,bZ,Nat.reduceAdd] at h;exact h)
theorem Je:∀(left0_Course_School:Int) (left0_Course_Code:ByteArray) (left0_Credits left0_Grade left0_Day:Int) (left0_Sources:List Int) (left0_Bundle:Int) (left0_Path:List Int) (left1_Course_School:Int) (left1_Course_Code:ByteArray) (left1_Credits left1_Grade left1_Day:Int) (left1_Sources:List Int) (left1_Bundle:Int) (left1_Path:List Int) (left2_Course_School:Int) (left2_Course_Code:ByteArray) (left2_Credits left2_Grade left2_Day:Int) (left2_Sources:List Int) (left2_Bundle:Int) (left2_Path:List Int) (b0_0_Course_School:Int) (b0_0_Course_Code:ByteArray) (b0_0_Credits b0_0_Grade b0_0_Day:Int) (b0_0_Sources:List Int) (b0_0_Bundle:Int) (b0_0_Path:List Int) (b0_1_Course_School:Int) (b0_1_Course_Code:ByteArray) (b0_1_Credits b0_1_Grade b0_1_Day:Int) (b0_1_Sources:List Int) (b0_1_Bundle:Int) (b0_1_Path:List Int) (b0_2_Course_School:Int) (b0_2_Course_Code:ByteArray) (b0_2_Credits b0_2_Grade b0_2_Day:Int) (b0_2_Sources:List Int) (b0_2_Bundle:Int) (b0_2_Path:List Int) (s_Worst s_Best s_Pass k:Int),XL2 evo 11 1 9 ⟨[(6,rP 1),(10,rO 2 8 3),(13,rI k)],[(0,B.blk 52 [dI b0_0_Course_School,dS b0_0_Course_Code,dI b0_0_Credits,dI b0_0_Grade,dI b0_0_Day,dL 1 eI b0_0_Sources,dI b0_0_Bundle,dL 1 eI b0_0_Path,dI b0_1_Course_School,dS b0_1_Course_Code,dI b0_1_Credits,dI b0_1_Grade,dI b0_1_Day,dL 1 eI b0_1_Sources,dI b0_1_Bundle,dL 1 eI b0_1_Path,dI b0_2_Course_School,dS b0_2_Course_Code,dI b0_2_Credits,dI b0_2_Grade,dI b0_2_Day,dL 1 eI b0_2_Sources,dI b0_2_Bundle,dL 1 eI b0_2_Path]),(1,B.blk 30 [dI s_Worst,dI s_Best,dI s_Pass]),(2,B.row 52 8 [dI left0_Course_School,dS left0_Course_Code,dI left0_Credits,dI left0_Grade,dI left0_Day,dL 1 eI left0_Sources,dI left0_Bundle,dL 1 eI left0_Path,dI left1_Course_School,dS left1_Course_Code,dI left1_Credits,dI left1_Grade,dI left1_Day,dL 1 eI left1_Sources,dI left1_Bundle,dL 1 eI left1_Path,dI left2_Course_School,dS left2_Course_Code,dI left2_Credits,dI left2_Grade,dI left2_Day,dL 1 eI left2_Sources,dI left2_Bundle,dL 1 eI left2_Path])],3,53⟩=(qG (qk (qa.mk (qb.mk b0_0_Course_School b0_0_Course_Code) b0_0_Credits b0_0_Grade b0_0_Day b0_0_Sources b0_0_Bundle b0_0_Path) (qa.mk (qb.mk b0_1_Course_School b0_1_Course_Code) b0_1_Credits b0_1_Grade b0_1_Day b0_1_Sources b0_1_Bundle b0_1_Path) (qa.mk (qb.mk b0_2_Course_School b0_2_Course_Code) b0_2_Credits b0_2_Grade b0_2_Day b0_2_Sources b0_2_Bundle b0_2_Path) (qf.mk s_Worst s_Best s_Pass)) ([(qa.mk (qb.mk left0_Course_School left0_Course_Code) left0_Credits left0_Grade left0_Day left0_Sources left0_Bundle left0_Path),(qa.mk (qb.mk left1_Course_School left1_Course_Code) left1_Credits left1_Grade left1_Day left1_Sources left1_Bundle left1_Path),(qa.mk (qb.mk left2_Course_School left2_Course_Code) left2_Credits left2_Grade left2_Day left2_Sources left2_Bundle left2_Path)],k)).bind (fun(e:List qa)=>some (Exit.exit 2,⟨[(10,rO 1 8 e.length)],[(0,B.blk 52 [dI b0_0_Course_School,dS b0_0_Course_Code,dI b0_0_Credits,dI b0_0_Grade,dI b0_0_Day,dL 1 eI b0_0_Sources,dI b0_0_Bundle,dL 1 eI b0_0_Path,dI b0_1_Course_School,dS b0_1_Course_Code,dI b0_1_Credits,dI b0_1_Grade,dI b0_1_Day,dL 1 eI b0_1_Sources,dI b0_1_Bundle,dL 1 eI b0_1_Path,dI b0_2_Course_School,dS b0_2_Course_Code,dI b0_2_Credits,dI b0_2_Grade,dI b0_2_Day,dL 1 eI b0_2_Sources,dI b0_2_Bundle,dL 1 eI b0_2_Path]),(1,bR 52 8 qc e)],2,53⟩)):=by
 intro left0_Course_School left0_Course_Code left0_Credits left0_Grade left0_Day left0_Sources left0_Bundle left0_Path left1_Course_School left1_Course_Code left1_Credits left1_Grade left1_Day left1_Sources left1_Bundle left1_Path left2_Course_School left2_Course_Code left2_Credits left2_Grade left2_Day left2_Sources left2_Bundle left2_Path b0_0_Course_School b0_0_Course_Code b0_0_Credits b0_0_Grade b0_0_Day b0_0_Sources b0_0_Bundle b0_0_Path b0_1_Course_School b0_1_Course_Code b0_1_Credits b0_1_Grade b0_1_Day b0_1_Sources b0_1_Bundle b0_1_Path b0_2_Course_School b0_2_Course_Code b0_2_Credits b0_2_Grade b0_2_Day b0_2_Sources b0_2_Bundle b0_2_Path s_Worst s_Best s_Pass k;have h:=qV [(qa.mk (qb.mk left0_Course_School left0_Course_Code) left0_Credits left0_Grade left0_Day left0_Sources left0_Bundle left0_Path),(qa.mk (qb.mk left1_Course_School left1_Course_Code) left1_Credits left1_Grade left1_Day left1_Sources left1_Bundle left1_Path),(qa.mk (qb.mk left2_Course_School left2_Course_Code) left2_Credits left2_Grade left2_Day left2_Sources left2_Bundle left2_Path)] ((qa.mk (qb.mk b0_0_Course_School b0_0_Course_Code) b0_0_Credits b0_0_Grade b0_0_Day b0_0_Sources b0_0_Bundle b0_0_Path)).Course.School ((qa.mk (qb.mk b0_0_Course_School b0_0_Course_Code) b0_0_Credits b0_0_Grade b0_0_Day b0_0_Sources b0_0_Bundle b0_0_Path)).Course.Code ((qa.mk (qb.mk b0_0_Course_School b0_0_Course_Code) b0_0_Credits b0_0_Grade b0_0_Day b0_0_Sources b0_0_Bundle b0_0_Path)).Credits ((qa.mk (qb.mk b0_0_Course_School b0_0_Course_Code) b0_0_Credits b0_0_Grade b0_0_Day b0_0_Sources b0_0_Bundle b0_0_Path)).Grade ((qa.mk (qb.mk b0_0_Course_School b0_0_Course_Code) b0_0_Credits b0_0_Grade b0_0_Day b0_0_Sources b0_0_Bundle b0_0_Path)).Day ((qa.mk (qb.mk b0_0_Course_School b0_0_Course_Code) b0_0_Credits b0_0_Grade b0_0_Day b0_0_Sources b0_0_Bundle b0_0_Path)).Sources ((qa.mk (qb.mk b0_0_Course_School b0_0_Course_Code) b0_0_Credits b0_0_Grade b0_0_Day b0_0_Sources b0_0_Bundle b0_0_Path)).Bundle ((qa.mk (qb.mk b0_0_Course_School b0_0_Course_Code) b0_0_Credits b0_0_Grade b0_0_Day b0_0_Sources b0_0_Bundle b0_0_Path)).Path ((qa.mk (qb.mk b0_1_Course_School b0_1_Course_Code) b0_1_Credits b0_1_Grade b0_1_Day b0_1_Sources b0_1_Bundle b0_1_Path)).Course.School ((qa.mk (qb.mk b0_1_Course_School b0_1_Course_Code) b0_1_Credits b0_1_Grade b0_1_Day b0_1_Sources b0_1_Bundle b0_1_Path)).Course.Code ((qa.mk (qb.mk b0_1_Course_School b0_1_Course_Code) b0_1_Credits b0_1_Grade b0_1_Day b0_1_Sources b0_1_Bundle b0_1_Path)).Credits ((qa.mk (qb.mk b0_1_Course_School b0_1_Course_Code) b0_1_Credits b0_1_Grade b0_1_Day b0_1_Sources b0_1_Bundle b0_1_Path)).Grade ((qa.mk (qb.mk b0_1_Course_School b0_1_Course_Code) b0_1_Credits b0_1_Grade b0_1_Day b0_1_Sources b0_1_Bundle b0_1_Path)).Day ((qa.mk (qb.mk b0_1_Course_School b0_1_Course_Code) b0_1_Credits b0_1_Grade b0_1_Day b0_1_Sources b0_1_Bundle b0_1_Path)).Sources ((qa.mk (qb.mk b0_1_Course_School b0_1_Course_Code) b0_1_Credits b0_1_Grade b0_1_Day b0_1_Sources b0_1_Bundle b0_1_Path)).Bundle ((qa.mk (qb.mk b0_1_Course_School b0_1_Course_Code) b0_1_Credits b0_1_Grade b0_1_Day b0_1_Sources b0_1_Bundle b0_1_Path)).Path ((qa.mk (qb.mk b0_2_Course_School b0_2_Course_Code) b0_2_Credits b0_2_Grade b0_2_Day b0_2_Sources b0_2_Bundle b0_2_Path)).Course.School ((qa.mk (qb.mk b0_2_Course_School b0_2_Course_Code) b0_2_Credits b0_2_Grade b0_2_Day b0_2_Sources b0_2_Bundle b0_2_Path)).Course.Code ((qa.mk (qb.mk b0_2_Course_School b0_2_Course_Code) b0_2_Credits b0_2_Grade b0_2_Day b0_2_Sources b0_2_Bundle b0_2_Path)).Credits ((qa.mk (qb.mk b0_2_Course_School b0_2_Course_Code) b0_2_Credits b0_2_Grade b0_2_Day b0_2_Sources b0_2_Bundle b0_2_Path)).Grade ((qa.mk (qb.mk b0_2_Course_School b0_2_Course_Code) b0_2_Credits b0_2_Grade b0_2_Day b0_2_Sources b0_2_Bundle b0_2_Path)).Day ((qa.mk (qb.mk b0_2_Course_School b0_2_Course_Code) b0_2_Credits b0_2_Grade b0_2_Day b0_2_Sources b0_2_Bundle b0_2_Path)).Sources ((qa.mk (qb.mk b0_2_Course_School b0_2_Course_Code) b0_2_Credits b0_2_Grade b0_2_Day b0_2_Sources b0_2_Bundle b0_2_Path)).Bundle ((qa.mk (qb.mk b0_2_Course_School b0_2_Course_Code) b0_2_Credits b0_2_Grade b0_2_Day b0_2_Sources b0_2_Bundle b0_2_Path)).Path ((qf.mk s_Worst s_Best s_Pass)).Worst ((qf.mk s_Worst s_Best s_Pass)).Best ((qf.mk s_Worst s_Best s_Pass)).Pass k _ rfl
 first
  | exact h
  | (simp only[rL,dL,bR,bZ,Nat.reduceAdd] at h;exact h)
theorem Jb:∀(left0_Course_School:Int) (left0_Course_Code:ByteArray) (left0_Credits left0_Grade left0_Day:Int) (left0_Sources:List Int) (left0_Bundle:Int) (left0_Path:List Int) (left1_Course_School:Int) (left1_Course_Code:ByteArray) (left1_Credits left1_Grade left1_Day:Int) (left1_Sources:List Int) (left1_Bundle:Int) (left1_Path:List Int) (b0_0_Course_School:Int) (b0_0_Course_Code:ByteArray) (b0_0_Credits b0_0_Grade b0_0_Day:Int) (b0_0_Sources:List Int) (b0_0_Bundle:Int) (b0_0_Path:List Int) (b0_1_Course_School:Int) (b0_1_Course_Code:ByteArray) (b0_1_Credits b0_1_Grade b0_1_Day:Int) (b0_1_Sources:List Int) (b0_1_Bundle:Int) (b0_1_Path:List Int) (b0_2_Course_School:Int) (b0_2_Course_Code:ByteArray) (b0_2_Credits b0_2_Grade b0_2_Day:Int) (b0_2_Sources:List Int) (b0_2_Bundle:Int) (b0_2_Path:List Int) (s_Worst s_Best s_Pass k:Int),XL2 evo 11 1 9 ⟨[(6,rP 1),(10,rO 2 8 2),(13,rI k)],[(0,B.blk 52 [dI b0_0_Course_School,dS b0_0_Course_Code,dI b0_0_Credits,dI b0_0_Grade,dI b0_0_Day,dL 1 eI b0_0_Sources,dI b0_0_Bundle,dL 1 eI b0_0_Path,dI b0_1_Course_School,dS b0_1_Course_Code,dI b0_1_Credits,dI b0_1_Grade,dI b0_1_Day,dL 1 eI b0_1_Sources,dI b0_1_Bundle,dL 1 eI b0_1_Path,dI b0_2_Course_School,dS b0_2_Course_Code,dI b0_2_Credits,dI b0_2_Grade,dI b0_2_Day,dL 1 eI b0_2_Sources,dI b0_2_Bundle,dL 1 eI b0_2_Path]),(1,B.blk 30 [dI s_Worst,dI s_Best,dI s_Pass]),(2,B.row 52 8 [dI left0_Course_School,dS left0_Course_Code,dI left0_Credits,dI left0_Grade,dI left0_Day,dL 1 eI left0_Sources,dI left0_Bundle,dL 1 eI left0_Path,dI left1_Course_School,dS left1_Course_Code,dI left1_Credits,dI left1_Grade,dI left1_Day,dL 1 eI left1_Sources,dI left1_Bundle,dL 1 eI left1_Path])],3,53⟩=(qG (qk (qa.mk (qb.mk b0_0_Course_School b0_0_Course_Code) b0_0_Credits b0_0_Grade b0_0_Day b0_0_Sources b0_0_Bundle b0_0_Path) (qa.mk (qb.mk b0_1_Course_School b0_1_Course_Code) b0_1_Credits b0_1_Grade b0_1_Day b0_1_Sources b0_1_Bundle b0_1_Path) (qa.mk (qb.mk b0_2_Course_School b0_2_Course_Code) b0_2_Credits b0_2_Grade b0_2_Day b0_2_Sources b0_2_Bundle b0_2_Path) (qf.mk s_Worst s_Best s_Pass)) ([(qa.mk (qb.mk left0_Course_School left0_Course_Code) left0_Credits left0_Grade left0_Day left0_Sources left0_Bundle left0_Path),(qa.mk (qb.mk left1_Course_School left1_Course_Code) left1_Credits left1_Grade left1_Day left1_Sources left1_Bundle left1_Path)],k)).bind (fun(e:List qa)=>some (Exit.exit 2,⟨[(10,rO 1 8 e.length)],[(0,B.blk 52 [dI b0_0_Course_School,dS b0_0_Course_Code,dI b0_0_Credits,dI b0_0_Grade,dI b0_0_Day,dL 1 eI b0_0_Sources,dI b0_0_Bundle,dL 1 eI b0_0_Path,dI b0_1_Course_School,dS b0_1_Course_Code,dI b0_1_Credits,dI b0_1_Grade,dI b0_1_Day,dL 1 eI b0_1_Sources,dI b0_1_Bundle,dL 1 eI b0_1_Path,dI b0_2_Course_School,dS b0_2_Course_Code,dI b0_2_Credits,dI b0_2_Grade,dI b0_2_Day,dL 1 eI b0_2_Sources,dI b0_2_Bundle,dL 1 eI b0_2_Path]),(1,bR 52 8 qc e)],2,53⟩)):=by
 intro left0_Course_School left0_Course_Code left0_Credits left0_Grade left0_Day left0_Sources left0_Bundle left0_Path left1_Course_School left1_Course_Code left1_Credits left1_Grade left1_Day left1_Sources left1_Bundle left1_Path b0_0_Course_School b0_0_Course_Code b0_0_Credits b0_0_Grade b0_0_Day b0_0_Sources b0_0_Bundle b0_0_Path b0_1_Course_School b0_1_Course_Code b0_1_Credits b0_1_Grade b0_1_Day b0_1_Sources b0_1_Bundle b0_1_Path b0_2_Course_School b0_2_Course_Code b0_2_Credits b0_2_Grade b0_2_Day b0_2_Sources b0_2_Bundle b0_2_Path s_Worst s_Best s_Pass k;have h:=qV [(qa.mk (qb.mk left0_Course_School left0_Course_Code) left0_Credits left0_Grade left0_Day left0_Sources left0_Bundle left0_Path),(qa.mk (qb.mk left1_Course_School left1_Course_Code) left1_Credits left1_Grade left1_Day left1_Sources left1_Bundle left1_Path)] ((qa.mk (qb.mk b0_0_Course_School b0_0_Course_Code) b0_0_Credits b0_0_Grade b0_0_Day b0_0_Sources b0_0_Bundle b0_0_Path)).Course.School ((qa.mk (qb.mk b0_0_Course_School b0_0_Course_Code) b0_0_Credits b0_0_Grade b0_0_Day b0_0_Sources b0_0_Bundle b0_0_Path)).Course.Code ((qa.mk (qb.mk b0_0_Course_School b0_0_Course_Code) b0_0_Credits b0_0_Grade b0_0_Day b0_0_Sources b0_0_Bundle b0_0_Path)).Credits ((qa.mk (qb.mk b0_0_Course_School b0_0_Course_Code) b0_0_Credits b0_0_Grade b0_0_Day b0_0_Sources b0_0_Bundle b0_0_Path)).Grade ((qa.mk (qb.mk b0_0_Course_School b0_0_Course_Code) b0_0_Credits b0_0_Grade b0_0_Day b0_0_Sources b0_0_Bundle b0_0_Path)).Day ((qa.mk (qb.mk b0_0_Course_School b0_0_Course_Code) b0_0_Credits b0_0_Grade b0_0_Day b0_0_Sources b0_0_Bundle b0_0_Path)).Sources ((qa.mk (qb.mk b0_0_Course_School b0_0_Course_Code) b0_0_Credits b0_0_Grade b0_0_Day b0_0_Sources b0_0_Bundle b0_0_Path)).Bundle ((qa.mk (qb.mk b0_0_Course_School b0_0_Course_Code) b0_0_Credits b0_0_Grade b0_0_Day b0_0_Sources b0_0_Bundle b0_0_Path)).Path ((qa.mk (qb.mk b0_1_Course_School b0_1_Course_Code) b0_1_Credits b0_1_Grade b0_1_Day b0_1_Sources b0_1_Bundle b0_1_Path)).Course.School ((qa.mk (qb.mk b0_1_Course_School b0_1_Course_Code) b0_1_Credits b0_1_Grade b0_1_Day b0_1_Sources b0_1_Bundle b0_1_Path)).Course.Code ((qa.mk (qb.mk b0_1_Course_School b0_1_Course_Code) b0_1_Credits b0_1_Grade b0_1_Day b0_1_Sources b0_1_Bundle b0_1_Path)).Credits ((qa.mk (qb.mk b0_1_Course_School b0_1_Course_Code) b0_1_Credits b0_1_Grade b0_1_Day b0_1_Sources b0_1_Bundle b0_1_Path)).Grade ((qa.mk (qb.mk b0_1_Course_School b0_1_Course_Code) b0_1_Credits b0_1_Grade b0_1_Day b0_1_Sources b0_1_Bundle b0_1_Path)).Day ((qa.mk (qb.mk b0_1_Course_School b0_1_Course_Code) b0_1_Credits b0_1_Grade b0_1_Day b0_1_Sources b0_1_Bundle b0_1_Path)).Sources ((qa.mk (qb.mk b0_1_Course_School b0_1_Course_Code) b0_1_Credits b0_1_Grade b0_1_Day b0_1_Sources b0_1_Bundle b0_1_Path)).Bundle ((qa.mk (qb.mk b0_1_Course_School b0_1_Course_Code) b0_1_Credits b0_1_Grade b0_1_Day b0_1_Sources b0_1_Bundle b0_1_Path)).Path ((qa.mk (qb.mk b0_2_Course_School b0_2_Course_Code) b0_2_Credits b0_2_Grade b0_2_Day b0_2_Sources b0_2_Bundle b0_2_Path)).Course.School ((qa.mk (qb.mk b0_2_Course_School b0_2_Course_Code) b0_2_Credits b0_2_Grade b0_2_Day b0_2_Sources b0_2_Bundle b0_2_Path)).Course.Code ((qa.mk (qb.mk b0_2_Course_School b0_2_Course_Code) b0_2_Credits b0_2_Grade b0_2_Day b0_2_Sources b0_2_Bundle b0_2_Path)).Credits ((qa.mk (qb.mk b0_2_Course_School b0_2_Course_Code) b0_2_Credits b0_2_Grade b0_2_Day b0_2_Sources b0_2_Bundle b0_2_Path)).Grade ((qa.mk (qb.mk b0_2_Course_School b0_2_Course_Code) b0_2_Credits b0_2_Grade b0_2_Day b0_2_Sources b0_2_Bundle b0_2_Path)).Day ((qa.mk (qb.mk b0_2_Course_School b0_2_Course_Code) b0_2_Credits b0_2_Grade b0_2_Day b0_2_Sources b0_2_Bundle b0_2_Path)).Sources ((qa.mk (qb.mk b0_2_Course_School b0_2_Course_Code) b0_2_Credits b0_2_Grade b0_2_Day b0_2_Sources b0_2_Bundle b0_2_Path)).Bundle ((qa.mk (qb.mk b0_2_Course_School b0_2_Course_Code) b0_2_Credits b0_2_Grade b0_2_Day b0_2_Sources b0_2_Bundle b0_2_Path)).Path ((qf.mk s_Worst s_Best s_Pass)).Worst ((qf.mk s_Worst s_Best s_Pass)).Best ((qf.mk s_Worst s_Best s_Pass)).Pass k _ rfl
 first
  | exact h
  | (simp only[rL,dL,bR,bZ,Nat.reduceAdd] at h;exact h)
theorem Jj:∀(left0_Course_School:Int) (left0_Course_Code:ByteArray) (left0_Credits left0_Grade left0_Day:Int) (left0_Sources:List Int) (left0_Bundle:Int) (left0_Path:List Int) (b0_0_Course_School:Int) (b0_0_Course_Code:ByteArray) (b0_0_Credits b0_0_Grade b0_0_Day:Int) (b0_0_Sources:List Int) (b0_0_Bundle:Int) (b0_0_Path:List Int) (b0_1_Course_School:Int) (b0_1_Course_Code:ByteArray) (b0_1_Credits b0_1_Grade b0_1_Day:Int) (b0_1_Sources:List Int) (b0_1_Bundle:Int) (b0_1_Path:List Int) (b0_2_Course_School:Int) (b0_2_Course_Code:ByteArray) (b0_2_Credits b0_2_Grade b0_2_Day:Int) (b0_2_Sources:List Int) (b0_2_Bundle:Int) (b0_2_Path:List Int) (s_Worst s_Best s_Pass k:Int),XL2 evo 11 1 9 ⟨[(6,rP 1),(10,rO 2 8 1),(13,rI k)],[(0,B.blk 52 [dI b0_0_Course_School,dS b0_0_Course_Code,dI b0_0_Credits,dI b0_0_Grade,dI b0_0_Day,dL 1 eI b0_0_Sources,dI b0_0_Bundle,dL 1 eI b0_0_Path,dI b0_1_Course_School,dS b0_1_Course_Code,dI b0_1_Credits,dI b0_1_Grade,dI b0_1_Day,dL 1 eI b0_1_Sources,dI b0_1_Bundle,dL 1 eI b0_1_Path,dI b0_2_Course_School,dS b0_2_Course_Code,dI b0_2_Credits,dI b0_2_Grade,dI b0_2_Day,dL 1 eI b0_2_Sources,dI b0_2_Bundle,dL 1 eI b0_2_Path]),(1,B.blk 30 [dI s_Worst,dI s_Best,dI s_Pass]),(2,B.row 52 8 [dI left0_Course_School,dS left0_Course_Code,dI left0_Credits,dI left0_Grade,dI left0_Day,dL 1 eI left0_Sources,dI left0_Bundle,dL 1 eI left0_Path])],3,53⟩=(qG (qk (qa.mk (qb.mk b0_0_Course_School b0_0_Course_Code) b0_0_Credits b0_0_Grade b0_0_Day b0_0_Sources b0_0_Bundle b0_0_Path) (qa.mk (qb.mk b0_1_Course_School b0_1_Course_Code) b0_1_Credits b0_1_Grade b0_1_Day b0_1_Sources b0_1_Bundle b0_1_Path) (qa.mk (qb.mk b0_2_Course_School b0_2_Course_Code) b0_2_Credits b0_2_Grade b0_2_Day b0_2_Sources b0_2_Bundle b0_2_Path) (qf.mk s_Worst s_Best s_Pass)) ([(qa.mk (qb.mk left0_Course_School left0_Course_Code) left0_Credits left0_Grade left0_Day left0_Sources left0_Bundle left0_Path)],k)).bind (fun(e:List qa)=>some (Exit.exit 2,⟨[(10,rO 1 8 e.length)],[(0,B.blk 52 [dI b0_0_Course_School,dS b0_0_Course_Code,dI b0_0_Credits,dI b0_0_Grade,dI b0_0_Day,dL 1 eI b0_0_Sources,dI b0_0_Bundle,dL 1 eI b0_0_Path,dI b0_1_Course_School,dS b0_1_Course_Code,dI b0_1_Credits,dI b0_1_Grade,dI b0_1_Day,dL 1 eI b0_1_Sources,dI b0_1_Bundle,dL 1 eI b0_1_Path,dI b0_2_Course_School,dS b0_2_Course_Code,dI b0_2_Credits,dI b0_2_Grade,dI b0_2_Day,dL 1 eI b0_2_Sources,dI b0_2_Bundle,dL 1 eI b0_2_Path]),(1,bR 52 8 qc e)],2,53⟩)):=by
 intro left0_Course_School left0_Course_Code left0_Credits left0_Grade left0_Day left0_Sources left0_Bundle left0_Path b0_0_Course_School b0_0_Course_Code b0_0_Credits b0_0_Grade b0_0_Day b0_0_Sources b0_0_Bundle b0_0_Path b0_1_Course_School b0_1_Course_Code b0_1_Credits b0_1_Grade b0_1_Day b0_1_Sources b0_1_Bundle b0_1_Path b0_2_Course_School b0_2_Course_Code b0_2_Credits b0_2_Grade b0_2_Day b0_2_Sources b0_2_Bundle b0_2_Path s_Worst s_Best s_Pass k;have h:=qV [(qa.mk (qb.mk left0_Course_School left0_Course_Code) left0_Credits left0_Grade left0_Day left0_Sources left0_Bundle left0_Path)] ((qa.mk (qb.mk b0_0_Course_School b0_0_Course_Code) b0_0_Credits b0_0_Grade b0_0_Day b0_0_Sources b0_0_Bundle b0_0_Path)).Course.School ((qa.mk (qb.mk b0_0_Course_School b0_0_Course_Code) b0_0_Credits b0_0_Grade b0_0_Day b0_0_Sources b0_0_Bundle b0_0_Path)).Course.Code ((qa.mk (qb.mk b0_0_Course_School b0_0_Course_Code) b0_0_Credits b0_0_Grade b0_0_Day b0_0_Sources b0_0_Bundle b0_0_Path)).Credits ((qa.mk (qb.mk b0_0_Course_School b0_0_Course_Code) b0_0_Credits b0_0_Grade b0_0_Day b0_0_Sources b0_0_Bundle b0_0_Path)).Grade ((qa.mk (qb.mk b0_0_Course_School b0_0_Course_Code) b0_0_Credits b0_0_Grade b0_0_Day b0_0_Sources b0_0_Bundle b0_0_Path)).Day ((qa.mk (qb.mk b0_0_Course_School b0_0_Course_Code) b0_0_Credits b0_0_Grade b0_0_Day b0_0_Sources b0_0_Bundle b0_0_Path)).Sources ((qa.mk (qb.mk b0_0_Course_School b0_0_Course_Code) b0_0_Credits b0_0_Grade b0_0_Day b0_0_Sources b0_0_Bundle b0_0_Path)).Bundle ((qa.mk (qb.mk b0_0_Course_School b0_0_Course_Code) b0_0_Credits b0_0_Grade b0_0_Day b0_0_Sources b0_0_Bundle b0_0_Path)).Path ((qa.mk (qb.mk b0_1_Course_School b0_1_Course_Code) b0_1_Credits b0_1_Grade b0_1_Day b0_1_Sources b0_1_Bundle b0_1_Path)).Course.School ((qa.mk (qb.mk b0_1_Course_School b0_1_Course_Code) b0_1_Credits b0_1_Grade b0_1_Day b0_1_Sources b0_1_Bundle b0_1_Path)).Course.Code ((qa.mk (qb.mk b0_1_Course_School b0_1_Course_Code) b0_1_Credits b0_1_Grade b0_1_Day b0_1_Sources b0_1_Bundle b0_1_Path)).Credits ((qa.mk (qb.mk b0_1_Course_School b0_1_Course_Code) b0_1_Credits b0_1_Grade b0_1_Day b0_1_Sources b0_1_Bundle b0_1_Path)).Grade ((qa.mk (qb.mk b0_1_Course_School b0_1_Course_Code) b0_1_Credits b0_1_Grade b0_1_Day b0_1_Sources b0_1_Bundle b0_1_Path)).Day ((qa.mk (qb.mk b0_1_Course_School b0_1_Course_Code) b0_1_Credits b0_1_Grade b0_1_Day b0_1_Sources b0_1_Bundle b0_1_Path)).Sources ((qa.mk (qb.mk b0_1_Course_School b0_1_Course_Code) b0_1_Credits b0_1_Grade b0_1_Day b0_1_Sources b0_1_Bundle b0_1_Path)).Bundle ((qa.mk (qb.mk b0_1_Course_School b0_1_Course_Code) b0_1_Credits b0_1_Grade b0_1_Day b0_1_Sources b0_1_Bundle b0_1_Path)).Path ((qa.mk (qb.mk b0_2_Course_School b0_2_Course_Code) b0_2_Credits b0_2_Grade b0_2_Day b0_2_Sources b0_2_Bundle b0_2_Path)).Course.School ((qa.mk (qb.mk b0_2_Course_School b0_2_Course_Code) b0_2_Credits b0_2_Grade b0_2_Day b0_2_Sources b0_2_Bundle b0_2_Path)).Course.Code ((qa.mk (qb.mk b0_2_Course_School b0_2_Course_Code) b0_2_Credits b0_2_Grade b0_2_Day b0_2_Sources b0_2_Bundle b0_2_Path)).Credits ((qa.mk (qb.mk b0_2_Course_School b0_2_Course_Code) b0_2_Credits b0_2_Grade b0_2_Day b0_2_Sources b0_2_Bundle b0_2_Path)).Grade ((qa.mk (qb.mk b0_2_Course_School b0_2_Course_Code) b0_2_Credits b0_2_Grade b0_2_Day b0_2_Sources b0_2_Bundle b0_2_Path)).Day ((qa.mk (qb.mk b0_2_Course_School b0_2_Course_Code) b0_2_Credits b0_2_Grade b0_2_Day b0_2_Sources b0_2_Bundle b0_2_Path)).Sources ((qa.mk (qb.mk b0_2_Course_School b0_2_Course_Code) b0_2_Credits b0_2_Grade b0_2_Day b0_2_Sources b0_2_Bundle b0_2_Path)).Bundle ((qa.mk (qb.mk b0_2_Course_School b0_2_Course_Code) b0_2_Credits b0_2_Grade b0_2_Day b0_2_Sources b0_2_Bundle b0_2_Path)).Path ((qf.mk s_Worst s_Best s_Pass)).Worst ((qf.mk s_Worst s_Best s_Pass)).Best ((qf.mk s_Worst s_Best s_Pass)).Pass k _ rfl
 first
  | exact h
  | (simp only[rL,dL,bR,bZ,Nat.reduceAdd] at h;exact h)
theorem Jp:∀(left0_Course_School:Int) (left0_Course_Code:ByteArray) (left0_Credits left0_Grade left0_Day:Int) (left0_Sources:List Int) (left0_Bundle:Int) (left0_Path:List Int) (left1_Course_School:Int) (left1_Course_Code:ByteArray) (left1_Credits left1_Grade left1_Day:Int) (left1_Sources:List Int) (left1_Bundle:Int) (left1_Path:List Int) (left2_Course_School:Int) (left2_Course_Code:ByteArray) (left2_Credits left2_Grade left2_Day:Int) (left2_Sources:List Int) (left2_Bundle:Int) (left2_Path:List Int) (b0_0_Course_School:Int) (b0_0_Course_Code:ByteArray) (b0_0_Credits b0_0_Grade b0_0_Day:Int) (b0_0_Sources:List Int) (b0_0_Bundle:Int) (b0_0_Path:List Int) (b0_1_Course_School:Int) (b0_1_Course_Code:ByteArray) (b0_1_Credits b0_1_Grade b0_1_Day:Int) (b0_1_Sources:List Int) (b0_1_Bundle:Int) (b0_1_Path:List Int) (b0_2_Course_School:Int) (b0_2_Course_Code:ByteArray) (b0_2_Credits b0_2_Grade b0_2_Day:Int) (b0_2_Sources:List Int) (b0_2_Bundle:Int) (b0_2_Path:List Int) (s_Worst s_Best s_Pass k:Int),XL2 evo 11 1 9 ⟨[(6,rP 1),(10,rO 2 8 3),(13,rI k)],[(0,B.blk 52 [dI b0_0_Course_School,dS b0_0_Course_Code,dI b0_0_Credits,dI b0_0_Grade,dI b0_0_Day,dL 1 eI b0_0_Sources,dI b0_0_Bundle,dL 1 eI b0_0_Path,dI b0_1_Course_School,dS b0_1_Course_Code,dI b0_1_Credits,dI b0_1_Grade,dI b0_1_Day,dL 1 eI b0_1_Sources,dI b0_1_Bundle,dL 1 eI b0_1_Path,dI b0_2_Course_School,dS b0_2_Course_Code,dI b0_2_Credits,dI b0_2_Grade,dI b0_2_Day,dL 1 eI b0_2_Sources,dI b0_2_Bundle,dL 1 eI b0_2_Path]),(1,B.blk 30 [dI s_Worst,dI s_Best,dI s_Pass]),(2,B.row 52 8 [dI left0_Course_School,dS left0_Course_Code,dI left0_Credits,dI left0_Grade,dI left0_Day,dL 1 eI left0_Sources,dI left0_Bundle,dL 1 eI left0_Path,dI left1_Course_School,dS left1_Course_Code,dI left1_Credits,dI left1_Grade,dI left1_Day,dL 1 eI left1_Sources,dI left1_Bundle,dL 1 eI left1_Path,dI left2_Course_School,dS left2_Course_Code,dI left2_Credits,dI left2_Grade,dI left2_Day,dL 1 eI left2_Sources,dI left2_Bundle,dL 1 eI left2_Path])],3,53⟩=(qG (qk (qa.mk (qb.mk b0_0_Course_School b0_0_Course_Code) b0_0_Credits b0_0_Grade b0_0_Day b0_0_Sources b0_0_Bundle b0_0_Path) (qa.mk (qb.mk b0_1_Course_School b0_1_Course_Code) b0_1_Credits b0_1_Grade b0_1_Day b0_1_Sources b0_1_Bundle b0_1_Path) (qa.mk (qb.mk b0_2_Course_School b0_2_Course_Code) b0_2_Credits b0_2_Grade b0_2_Day b0_2_Sources b0_2_Bundle b0_2_Path) (qf.mk s_Worst s_Best s_Pass)) ([(qa.mk (qb.mk left0_Course_School left0_Course_Code) left0_Credits left0_Grade left0_Day left0_Sources left0_Bundle left0_Path),(qa.mk (qb.mk left1_Course_School left1_Course_Code) left1_Credits left1_Grade left1_Day left1_Sources left1_Bundle left1_Path),(qa.mk (qb.mk left2_Course_School left2_Course_Code) left2_Credits left2_Grade left2_Day left2_Sources left2_Bundle left2_Path)],k)).bind (fun(e:List qa)=>some (Exit.exit 2,⟨[(10,rO 1 8 e.length)],[(0,B.blk 52 [dI b0_0_Course_School,dS b0_0_Course_Code,dI b0_0_Credits,dI b0_0_Grade,dI b0_0_Day,dL 1 eI b0_0_Sources,dI b0_0_Bundle,dL 1 eI b0_0_Path,dI b0_1_Course_School,dS b0_1_Course_Code,dI b0_1_Credits,dI b0_1_Grade,dI b0_1_Day,dL 1 eI b0_1_Sources,dI b0_1_Bundle,dL 1 eI b0_1_Path,dI b0_2_Course_School,dS b0_2_Course_Code,dI b0_2_Credits,dI b0_2_Grade,dI b0_2_Day,dL 1 eI b0_2_Sources,dI b0_2_Bundle,dL 1 eI b0_2_Path]),(1,bR 52 8 qc e)],2,53⟩)):=by
 intro left0_Course_School left0_Course_Code left0_Credits left0_Grade left0_Day left0_Sources left0_Bundle left0_Path left1_Course_School left1_Course_Code left1_Credits left1_Grade left1_Day left1_Sources left1_Bundle left1_Path left2_Course_School left2_Course_Code left2_Credits left2_Grade left2_Day left2_Sources left2_Bundle left2_Path b0_0_Course_School b0_0_Course_Code b0_0_Credits b0_0_Grade b0_0_Day b0_0_Sources b0_0_Bundle b0_0_Path b0_1_Course_School b0_1_Course_Code b0_1_Credits b0_1_Grade b0_1_Day b0_1_Sources b0_1_Bundle b0_1_Path b0_2_Course_School b0_2_Course_Code b0_2_Credits b0_2_Grade b0_2_Day b0_2_Sources b0_2_Bundle b0_2_Path s_Worst s_Best s_Pass k;have h:=qV [(qa.mk (qb.mk left0_Course_School left0_Course_Code) left0_Credits left0_Grade left0_Day left0_Sources left0_Bundle left0_Path),(qa.mk (qb.mk left1_Course_School left1_Course_Code) left1_Credits left1_Grade left1_Day left1_Sources left1_Bundle left1_Path),(qa.mk (qb.mk left2_Course_School left2_Course_Code) left2_Credits left2_Grade left2_Day left2_Sources left2_Bundle left2_Path)] ((qa.mk (qb.mk b0_0_Course_School b0_0_Course_Code) b0_0_Credits b0_0_Grade b0_0_Day b0_0_Sources b0_0_Bundle b0_0_Path)).Course.School ((qa.mk (qb.mk b0_0_Course_School b0_0_Course_Code) b0_0_Credits b0_0_Grade b0_0_Day b0_0_Sources b0_0_Bundle b0_0_Path)).Course.Code ((qa.mk (qb.mk b0_0_Course_School b0_0_Course_Code) b0_0_Credits b0_0_Grade b0_0_Day b0_0_Sources b0_0_Bundle b0_0_Path)).Credits ((qa.mk (qb.mk b0_0_Course_School b0_0_Course_Code) b0_0_Credits b0_0_Grade b0_0_Day b0_0_Sources b0_0_Bundle b0_0_Path)).Grade ((qa.mk (qb.mk b0_0_Course_School b0_0_Course_Code) b0_0_Credits b0_0_Grade b0_0_Day b0_0_Sources b0_0_Bundle b0_0_Path)).Day ((qa.mk (qb.mk b0_0_Course_School b0_0_Course_Code) b0_0_Credits b0_0_Grade b0_0_Day b0_0_Sources b0_0_Bundle b0_0_Path)).Sources ((qa.mk (qb.mk b0_0_Course_School b0_0_Course_Code) b0_0_Credits b0_0_Grade b0_0_Day b0_0_Sources b0_0_Bundle b0_0_Path)).Bundle ((qa.mk (qb.mk b0_0_Course_School b0_0_Course_Code) b0_0_Credits b0_0_Grade b0_0_Day b0_0_Sources b0_0_Bundle b0_0_Path)).Path ((qa.mk (qb.mk b0_1_Course_School b0_1_Course_Code) b0_1_Credits b0_1_Grade b0_1_Day b0_1_Sources b0_1_Bundle b0_1_Path)).Course.School ((qa.mk (qb.mk b0_1_Course_School b0_1_Course_Code) b0_1_Credits b0_1_Grade b0_1_Day b0_1_Sources b0_1_Bundle b0_1_Path)).Course.Code ((qa.mk (qb.mk b0_1_Course_School b0_1_Course_Code) b0_1_Credits b0_1_Grade b0_1_Day b0_1_Sources b0_1_Bundle b0_1_Path)).Credits ((qa.mk (qb.mk b0_1_Course_School b0_1_Course_Code) b0_1_Credits b0_1_Grade b0_1_Day b0_1_Sources b0_1_Bundle b0_1_Path)).Grade ((qa.mk (qb.mk b0_1_Course_School b0_1_Course_Code) b0_1_Credits b0_1_Grade b0_1_Day b0_1_Sources b0_1_Bundle b0_1_Path)).Day ((qa.mk (qb.mk b0_1_Course_School b0_1_Course_Code) b0_1_Credits b0_1_Grade b0_1_Day b0_1_Sources b0_1_Bundle b0_1_Path)).Sources ((qa.mk (qb.mk b0_1_Course_School b0_1_Course_Code) b0_1_Credits b0_1_Grade b0_1_Day b0_1_Sources b0_1_Bundle b0_1_Path)).Bundle ((qa.mk (qb.mk b0_1_Course_School b0_1_Course_Code) b0_1_Credits b0_1_Grade b0_1_Day b0_1_Sources b0_1_Bundle b0_1_Path)).Path ((qa.mk (qb.mk b0_2_Course_School b0_2_Course_Code) b0_2_Credits b0_2_Grade b0_2_Day b0_2_Sources b0_2_Bundle b0_2_Path)).Course.School ((qa.mk (qb.mk b0_2_Course_School b0_2_Course_Code) b0_2_Credits b0_2_Grade b0_2_Day b0_2_Sources b0_2_Bundle b0_2_Path)).Course.Code ((qa.mk (qb.mk b0_2_Course_School b0_2_Course_Code) b0_2_Credits b0_2_Grade b0_2_Day b0_2_Sources b0_2_Bundle b0_2_Path)).Credits ((qa.mk (qb.mk b0_2_Course_School b0_2_Course_Code) b0_2_Credits b0_2_Grade b0_2_Day b0_2_Sources b0_2_Bundle b0_2_Path)).Grade ((qa.mk (qb.mk b0_2_Course_School b0_2_Course_Code) b0_2_Credits b0_2_Grade b0_2_Day b0_2_Sources b0_2_Bundle b0_2_Path)).Day ((qa.mk (qb.mk b0_2_Course_School b0_2_Course_Code) b0_2_Credits b0_2_Grade b0_2_Day b0_2_Sources b0_2_Bundle b0_2_Path)).Sources ((qa.mk (qb.mk b0_2_Course_School b0_2_Course_Code) b0_2_Credits b0_2_Grade b0_2_Day b0_2_Sources b0_2_Bundle b0_2_Path)).Bundle ((qa.mk (qb.mk b0_2_Course_School b0_2_Course_Code) b0_2_Credits b0_2_Grade b0_2_Day b0_2_Sources b0_2_Bundle b0_2_Path)).Path ((qf.mk s_Worst s_Best s_Pass)).Worst ((qf.mk s_Worst s_Best s_Pass)).Best ((qf.mk s_Worst s_Best s_Pass)).Pass k _ rfl
 first
  | exact h
  | (simp only[rL,dL,bR,bZ,Nat.reduceAdd] at h;exact h)
theorem Ji:∀(left0_Course_School:Int) (left0_Course_Code:ByteArray) (left0_Credits left0_Grade left0_Day:Int) (left0_Sources:List Int) (left0_Bundle:Int) (left0_Path:List Int) (left1_Course_School:Int) (left1_Course_Code:ByteArray) (left1_Credits left1_Grade left1_Day:Int) (left1_Sources:List Int) (left1_Bundle:Int) (left1_Path:List Int) (b0_0_Course_School:Int) (b0_0_Course_Code:ByteArray) (b0_0_Credits b0_0_Grade b0_0_Day:Int) (b0_0_Sources:List Int) (b0_0_Bundle:Int) (b0_0_Path:List Int) (b0_1_Course_School:Int) (b0_1_Course_Code:ByteArray) (b0_1_Credits b0_1_Grade b0_1_Day:Int) (b0_1_Sources:List Int) (b0_1_Bundle:Int) (b0_1_Path:List Int) (b0_2_Course_School:Int) (b0_2_Course_Code:ByteArray) (b0_2_Credits b0_2_Grade b0_2_Day:Int) (b0_2_Sources:List Int) (b0_2_Bundle:Int) (b0_2_Path:List Int) (s_Worst s_Best s_Pass k:Int),XL2 evo 11 1 9 ⟨[(6,rP 1),(10,rO 2 8 2),(13,rI k)],[(0,B.blk 52 [dI b0_0_Course_School,dS b0_0_Course_Code,dI b0_0_Credits,dI b0_0_Grade,dI b0_0_Day,dL 1 eI b0_0_Sources,dI b0_0_Bundle,dL 1 eI b0_0_Path,dI b0_1_Course_School,dS b0_1_Course_Code,dI b0_1_Credits,dI b0_1_Grade,dI b0_1_Day,dL 1 eI b0_1_Sources,dI b0_1_Bundle,dL 1 eI b0_1_Path,dI b0_2_Course_School,dS b0_2_Course_Code,dI b0_2_Credits,dI b0_2_Grade,dI b0_2_Day,dL 1 eI b0_2_Sources,dI b0_2_Bundle,dL 1 eI b0_2_Path]),(1,B.blk 30 [dI s_Worst,dI s_Best,dI s_Pass]),(2,B.row 52 8 [dI left0_Course_School,dS left0_Course_Code,dI left0_Credits,dI left0_Grade,dI left0_Day,dL 1 eI left0_Sources,dI left0_Bundle,dL 1 eI left0_Path,dI left1_Course_School,dS left1_Course_Code,dI left1_Credits,dI left1_Grade,dI left1_Day,dL 1 eI left1_Sources,dI left1_Bundle,dL 1 eI left1_Path])],3,53⟩=(qG (qk (qa.mk (qb.mk b0_0_Course_School b0_0_Course_Code) b0_0_Credits b0_0_Grade b0_0_Day b0_0_Sources b0_0_Bundle b0_0_Path) (qa.mk (qb.mk b0_1_Course_School b0_1_Course_Code) b0_1_Credits b0_1_Grade b0_1_Day b0_1_Sources b0_1_Bundle b0_1_Path) (qa.mk (qb.mk b0_2_Course_School b0_2_Course_Code) b0_2_Credits b0_2_Grade b0_2_Day b0_2_Sources b0_2_Bundle b0_2_Path) (qf.mk s_Worst s_Best s_Pass)) ([(qa.mk (qb.mk left0_Course_School left0_Course_Code) left0_Credits left0_Grade left0_Day left0_Sources left0_Bundle left0_Path),(qa.mk (qb.mk left1_Course_School left1_Course_Code) left1_Credits left1_Grade left1_Day left1_Sources left1_Bundle left1_Path)],k)).bind (fun(e:List qa)=>some (Exit.exit 2,⟨[(10,rO 1 8 e.length)],[(0,B.blk 52 [dI b0_0_Course_School,dS b0_0_Course_Code,dI b0_0_Credits,dI b0_0_Grade,dI b0_0_Day,dL 1 eI b0_0_Sources,dI b0_0_Bundle,dL 1 eI b0_0_Path,dI b0_1_Course_School,dS b0_1_Course_Code,dI b0_1_Credits,dI b0_1_Grade,dI b0_1_Day,dL 1 eI b0_1_Sources,dI b0_1_Bundle,dL 1 eI b0_1_Path,dI b0_2_Course_School,dS b0_2_Course_Code,dI b0_2_Credits,dI b0_2_Grade,dI b0_2_Day,dL 1 eI b0_2_Sources,dI b0_2_Bundle,dL 1 eI b0_2_Path]),(1,bR 52 8 qc e)],2,53⟩)):=by
 intro left0_Course_School left0_Course_Code left0_Credits left0_Grade left0_Day left0_Sources left0_Bundle left0_Path left1_Course_School left1_Course_Code left1_Credits left1_Grade left1_Day left1_Sources left1_Bundle left1_Path b0_0_Course_School b0_0_Course_Code b0_0_Credits b0_0_Grade b0_0_Day b0_0_Sources b0_0_Bundle b0_0_Path b0_1_Course_School b0_1_Course_Code b0_1_Credits b0_1_Grade b0_1_Day b0_1_Sources b0_1_Bundle b0_1_Path b0_2_Course_School b0_2_Course_Code b0_2_Credits b0_2_Grade b0_2_Day b0_2_Sources b0_2_Bundle b0_2_Path s_Worst s_Best s_Pass k;have h:=qV [(qa.mk (qb.mk left0_Course_School left0_Course_Code) left0_Credits left0_Grade left0_Day left0_Sources left0_Bundle left0_Path),(qa.mk (qb.mk left1_Course_School left1_Course_Code) left1_Credits left1_Grade left1_Day left1_Sources left1_Bundle left1_Path)] ((qa.mk (qb.mk b0_0_Course_School b0_0_Course_Code) b0_0_Credits b0_0_Grade b0_0_Day b0_0_Sources b0_0_Bundle b0_0_Path)).Course.School ((qa.mk (qb.mk b0_0_Course_School b0_0_Course_Code) b0_0_Credits b0_0_Grade b0_0_Day b0_0_Sources b0_0_Bundle b0_0_Path)).Course.Code ((qa.mk (qb.mk b0_0_Course_School b0_0_Course_Code) b0_0_Credits b0_0_Grade b0_0_Day b0_0_Sources b0_0_Bundle b0_0_Path)).Credits ((qa.mk (qb.mk b0_0_Course_School b0_0_Course_Code) b0_0_Credits b0_0_Grade b0_0_Day b0_0_Sources b0_0_Bundle b0_0_Path)).Grade ((qa.mk (qb.mk b0_0_Course_School b0_0_Course_Code) b0_0_Credits b0_0_Grade b0_0_Day b0_0_Sources b0_0_Bundle b0_0_Path)).Day ((qa.mk (qb.mk b0_0_Course_School b0_0_Course_Code) b0_0_Credits b0_0_Grade b0_0_Day b0_0_Sources b0_0_Bundle b0_0_Path)).Sources ((qa.mk (qb.mk b0_0_Course_School b0_0_Course_Code) b0_0_Credits b0_0_Grade b0_0_Day b0_0_Sources b0_0_Bundle b0_0_Path)).Bundle ((qa.mk (qb.mk b0_0_Course_School b0_0_Course_Code) b0_0_Credits b0_0_Grade b0_0_Day b0_0_Sources b0_0_Bundle b0_0_Path)).Path ((qa.mk (qb.mk b0_1_Course_School b0_1_Course_Code) b0_1_Credits b0_1_Grade b0_1_Day b0_1_Sources b0_1_Bundle b0_1_Path)).Course.School ((qa.mk (qb.mk b0_1_Course_School b0_1_Course_Code) b0_1_Credits b0_1_Grade b0_1_Day b0_1_Sources b0_1_Bundle b0_1_Path)).Course.Code ((qa.mk (qb.mk b0_1_Course_School b0_1_Course_Code) b0_1_Credits b0_1_Grade b0_1_Day b0_1_Sources b0_1_Bundle b0_1_Path)).Credits ((qa.mk (qb.mk b0_1_Course_School b0_1_Course_Code) b0_1_Credits b0_1_Grade b0_1_Day b0_1_Sources b0_1_Bundle b0_1_Path)).Grade ((qa.mk (qb.mk b0_1_Course_School b0_1_Course_Code) b0_1_Credits b0_1_Grade b0_1_Day b0_1_Sources b0_1_Bundle b0_1_Path)).Day ((qa.mk (qb.mk b0_1_Course_School b0_1_Course_Code) b0_1_Credits b0_1_Grade b0_1_Day b0_1_Sources b0_1_Bundle b0_1_Path)).Sources ((qa.mk (qb.mk b0_1_Course_School b0_1_Course_Code) b0_1_Credits b0_1_Grade b0_1_Day b0_1_Sources b0_1_Bundle b0_1_Path)).Bundle ((qa.mk (qb.mk b0_1_Course_School b0_1_Course_Code) b0_1_Credits b0_1_Grade b0_1_Day b0_1_Sources b0_1_Bundle b0_1_Path)).Path ((qa.mk (qb.mk b0_2_Course_School b0_2_Course_Code) b0_2_Credits b0_2_Grade b0_2_Day b0_2_Sources b0_2_Bundle b0_2_Path)).Course.School ((qa.mk (qb.mk b0_2_Course_School b0_2_Course_Code) b0_2_Credits b0_2_Grade b0_2_Day b0_2_Sources b0_2_Bundle b0_2_Path)).Course.Code ((qa.mk (qb.mk b0_2_Course_School b0_2_Course_Code) b0_2_Credits b0_2_Grade b0_2_Day b0_2_Sources b0_2_Bundle b0_2_Path)).Credits ((qa.mk (qb.mk b0_2_Course_School b0_2_Course_Code) b0_2_Credits b0_2_Grade b0_2_Day b0_2_Sources b0_2_Bundle b0_2_Path)).Grade ((qa.mk (qb.mk b0_2_Course_School b0_2_Course_Code) b0_2_Credits b0_2_Grade b0_2_Day b0_2_Sources b0_2_Bundle b0_2_Path)).Day ((qa.mk (qb.mk b0_2_Course_School b0_2_Course_Code) b0_2_Credits b0_2_Grade b0_2_Day b0_2_Sources b0_2_Bundle b0_2_Path)).Sources ((qa.mk (qb.mk b0_2_Course_School b0_2_Course_Code) b0_2_Credits b0_2_Grade b0_2_Day b0_2_Sources b0_2_Bundle b0_2_Path)).Bundle ((qa.mk (qb.mk b0_2_Course_School b0_2_Course_Code) b0_2_Credits b0_2_Grade b0_2_Day b0_2_Sources b0_2_Bundle b0_2_Path)).Path ((qf.mk s_Worst s_Best s_Pass)).Worst ((qf.mk s_Worst s_Best s_Pass)).Best ((qf.mk s_Worst s_Best s_Pass)).Pass k _ rfl
 first
  | exact h
  | (simp only[rL,dL,bR,bZ,Nat.reduceAdd] at h;exact h)
theorem Jn:∀(left0_Course_School:Int) (left0_Course_Code:ByteArray) (left0_Credits left0_Grade left0_Day:Int) (left0_Sources:List Int) (left0_Bundle:Int) (left0_Path:List Int) (b0_0_Course_School:Int) (b0_0_Course_Code:ByteArray) (b0_0_Credits b0_0_Grade b0_0_Day:Int) (b0_0_Sources:List Int) (b0_0_Bundle:Int) (b0_0_Path:List Int) (b0_1_Course_School:Int) (b0_1_Course_Code:ByteArray) (b0_1_Credits b0_1_Grade b0_1_Day:Int) (b0_1_Sources:List Int) (b0_1_Bundle:Int) (b0_1_Path:List Int) (b0_2_Course_School:Int) (b0_2_Course_Code:ByteArray) (b0_2_Credits b0_2_Grade b0_2_Day:Int) (b0_2_Sources:List Int) (b0_2_Bundle:Int) (b0_2_Path:List Int) (s_Worst s_Best s_Pass k:Int),XL2 evo 11 1 9 ⟨[(6,rP 1),(10,rO 2 8 1),(13,rI k)],[(0,B.blk 52 [dI b0_0_Course_School,dS b0_0_Course_Code,dI b0_0_Credits,dI b0_0_Grade,dI b0_0_Day,dL 1 eI b0_0_Sources,dI b0_0_Bundle,dL 1 eI b0_0_Path,dI b0_1_Course_School,dS b0_1_Course_Code,dI b0_1_Credits,dI b0_1_Grade,dI b0_1_Day,dL 1 eI b0_1_Sources,dI b0_1_Bundle,dL 1 eI b0_1_Path,dI b0_2_Course_School,dS b0_2_Course_Code,dI b0_2_Credits,dI b0_2_Grade,dI b0_2_Day,dL 1 eI b0_2_Sources,dI b0_2_Bundle,dL 1 eI b0_2_Path]),(1,B.blk 30 [dI s_Worst,dI s_Best,dI s_Pass]),(2,B.row 52 8 [dI left0_Course_School,dS left0_Course_Code,dI left0_Credits,dI left0_Grade,dI left0_Day,dL 1 eI left0_Sources,dI left0_Bundle,dL 1 eI left0_Path])],3,53⟩=(qG (qk (qa.mk (qb.mk b0_0_Course_School b0_0_Course_Code) b0_0_Credits b0_0_Grade b0_0_Day b0_0_Sources b0_0_Bundle b0_0_Path) (qa.mk (qb.mk b0_1_Course_School b0_1_Course_Code) b0_1_Credits b0_1_Grade b0_1_Day b0_1_Sources b0_1_Bundle b0_1_Path) (qa.mk (qb.mk b0_2_Course_School b0_2_Course_Code) b0_2_Credits b0_2_Grade b0_2_Day b0_2_Sources b0_2_Bundle b0_2_Path) (qf.mk s_Worst s_Best s_Pass)) ([(qa.mk (qb.mk left0_Course_School left0_Course_Code) left0_Credits left0_Grade left0_Day left0_Sources left0_Bundle left0_Path)],k)).bind (fun(e:List qa)=>some (Exit.exit 2,⟨[(10,rO 1 8 e.length)],[(0,B.blk 52 [dI b0_0_Course_School,dS b0_0_Course_Code,dI b0_0_Credits,dI b0_0_Grade,dI b0_0_Day,dL 1 eI b0_0_Sources,dI b0_0_Bundle,dL 1 eI b0_0_Path,dI b0_1_Course_School,dS b0_1_Course_Code,dI b0_1_Credits,dI b0_1_Grade,dI b0_1_Day,dL 1 eI b0_1_Sources,dI b0_1_Bundle,dL 1 eI b0_1_Path,dI b0_2_Course_School,dS b0_2_Course_Code,dI b0_2_Credits,dI b0_2_Grade,dI b0_2_Day,dL 1 eI b0_2_Sources,dI b0_2_Bundle,dL 1 eI b0_2_Path]),(1,bR 52 8 qc e)],2,53⟩)):=by
 intro left0_Course_School left0_Course_Code left0_Credits left0_Grade left0_Day left0_Sources left0_Bundle left0_Path b0_0_Course_School b0_0_Course_Code b0_0_Credits b0_0_Grade b0_0_Day b0_0_Sources b0_0_Bundle b0_0_Path b0_1_Course_School b0_1_Course_Code b0_1_Credits b0_1_Grade b0_1_Day b0_1_Sources b0_1_Bundle b0_1_Path b0_2_Course_School b0_2_Course_Code b0_2_Credits b0_2_Grade b0_2_Day b0_2_Sources b0_2_Bundle b0_2_Path s_Worst s_Best s_Pass k;have h:=qV [(qa.mk (qb.mk left0_Course_School left0_Course_Code) left0_Credits left0_Grade left0_Day left0_Sources left0_Bundle left0_Path)] ((qa.mk (qb.mk b0_0_Course_School b0_0_Course_Code) b0_0_Credits b0_0_Grade b0_0_Day b0_0_Sources b0_0_Bundle b0_0_Path)).Course.School ((qa.mk (qb.mk b0_0_Course_School b0_0_Course_Code) b0_0_Credits b0_0_Grade b0_0_Day b0_0_Sources b0_0_Bundle b0_0_Path)).Course.Code ((qa.mk (qb.mk b0_0_Course_School b0_0_Course_Code) b0_0_Credits b0_0_Grade b0_0_Day b0_0_Sources b0_0_Bundle b0_0_Path)).Credits ((qa.mk (qb.mk b0_0_Course_School b0_0_Course_Code) b0_0_Credits b0_0_Grade b0_0_Day b0_0_Sources b0_0_Bundle b0_0_Path)).Grade ((qa.mk (qb.mk b0_0_Course_School b0_0_Course_Code) b0_0_Credits b0_0_Grade b0_0_Day b0_0_Sources b0_0_Bundle b0_0_Path)).Day ((qa.mk (qb.mk b0_0_Course_School b0_0_Course_Code) b0_0_Credits b0_0_Grade b0_0_Day b0_0_Sources b0_0_Bundle b0_0_Path)).Sources ((qa.mk (qb.mk b0_0_Course_School b0_0_Course_Code) b0_0_Credits b0_0_Grade b0_0_Day b0_0_Sources b0_0_Bundle b0_0_Path)).Bundle ((qa.mk (qb.mk b0_0_Course_School b0_0_Course_Code) b0_0_Credits b0_0_Grade b0_0_Day b0_0_Sources b0_0_Bundle b0_0_Path)).Path ((qa.mk (qb.mk b0_1_Course_School b0_1_Course_Code) b0_1_Credits b0_1_Grade b0_1_Day b0_1_Sources b0_1_Bundle b0_1_Path)).Course.School ((qa.mk (qb.mk b0_1_Course_School b0_1_Course_Code) b0_1_Credits b0_1_Grade b0_1_Day b0_1_Sources b0_1_Bundle b0_1_Path)).Course.Code ((qa.mk (qb.mk b0_1_Course_School b0_1_Course_Code) b0_1_Credits b0_1_Grade b0_1_Day b0_1_Sources b0_1_Bundle b0_1_Path)).Credits ((qa.mk (qb.mk b0_1_Course_School b0_1_Course_Code) b0_1_Credits b0_1_Grade b0_1_Day b0_1_Sources b0_1_Bundle b0_1_Path)).Grade ((qa.mk (qb.mk b0_1_Course_School b0_1_Course_Code) b0_1_Credits b0_1_Grade b0_1_Day b0_1_Sources b0_1_Bundle b0_1_Path)).Day ((qa.mk (qb.mk b0_1_Course_School b0_1_Course_Code) b0_1_Credits b0_1_Grade b0_1_Day b0_1_Sources b0_1_Bundle b0_1_Path)).Sources ((qa.mk (qb.mk b0_1_Course_School b0_1_Course_Code) b0_1_Credits b0_1_Grade b0_1_Day b0_1_Sources b0_1_Bundle b0_1_Path)).Bundle ((qa.mk (qb.mk b0_1_Course_School b0_1_Course_Code) b0_1_Credits b0_1_Grade b0_1_Day b0_1_Sources b0_1_Bundle b0_1_Path)).Path ((qa.mk (qb.mk b0_2_Course_School b0_2_Course_Code) b0_2_Credits b0_2_Grade b0_2_Day b0_2_Sources b0_2_Bundle b0_2_Path)).Course.School ((qa.mk (qb.mk b0_2_Course_School b0_2_Course_Code) b0_2_Credits b0_2_Grade b0_2_Day b0_2_Sources b0_2_Bundle b0_2_Path)).Course.Code ((qa.mk (qb.mk b0_2_Course_School b0_2_Course_Code) b0_2_Credits b0_2_Grade b0_2_Day b0_2_Sources b0_2_Bundle b0_2_Path)).Credits ((qa.mk (qb.mk b0_2_Course_School b0_2_Course_Code) b0_2_Credits b0_2_Grade b0_2_Day b0_2_Sources b0_2_Bundle b0_2_Path)).Grade ((qa.mk (qb.mk b0_2_Course_School b0_2_Course_Code) b0_2_Credits b0_2_Grade b0_2_Day b0_2_Sources b0_2_Bundle b0_2_Path)).Day ((qa.mk (qb.mk b0_2_Course_School b0_2_Course_Code) b0_2_Credits b0_2_Grade b0_2_Day b0_2_Sources b0_2_Bundle b0_2_Path)).Sources ((qa.mk (qb.mk b0_2_Course_School b0_2_Course_Code) b0_2_Credits b0_2_Grade b0_2_Day b0_2_Sources b0_2_Bundle b0_2_Path)).Bundle ((qa.mk (qb.mk b0_2_Course_School b0_2_Course_Code) b0_2_Credits b0_2_Grade b0_2_Day b0_2_Sources b0_2_Bundle b0_2_Path)).Path ((qf.mk s_Worst s_Best s_Pass)).Worst ((qf.mk s_Worst s_Best s_Pass)).Best ((qf.mk s_Worst s_Best s_Pass)).Pass k _ rfl
 first
  | exact h
  | (simp only[rL,dL,bR,bZ,Nat.reduceAdd] at h;exact h)
def Q7 (l_n:Nat) (p:qe) (s:qf) (day:Int) (l_0:qa) (l_1:qa) (l_2:qa):Option (List qa×Int):=if 0<((l_n:Nat):Int) then if 0<((l_n:Nat):Int) then Option.bind (qs p l_0 day) fun(a:Bool)=>if(!a)=Bool.true then Option.bind (qv l_0) fun(a2:Unit)=>if 1≤maxLen then if 1<((l_n:Nat):Int) then if 1<((l_n:Nat):Int) then Option.bind (qs p l_1 day) fun(a3:Bool)=>if(!a3)=Bool.true then Option.bind (qv l_1) fun(a4:Unit)=>if 2≤maxLen then if 2<((l_n:Nat):Int) then if 2<((l_n:Nat):Int) then Option.bind (qs p l_2 day) fun(a5:Bool)=>if(!a5)=Bool.true then Option.bind (qv l_2) fun(a6:Unit)=>if 3≤maxLen then if 3<((l_n:Nat):Int) then none else Option.bind (qG (qk l_0 l_1 l_2 s) ([l_0,l_1,l_2],2)) fun(a7:List qa)=>if 10<((a7.length:Nat):Int) then some ([],2) else some (a7,0) else none else if 3<((l_n:Nat):Int) then none else Option.bind (qG (qk l_0 l_1 l_2 s) ([l_0,l_1],1)) fun(a8:List qa)=>if 10<((a8.length:Nat):Int) then some ([],2) else some (a8,0) else none else Option.bind (qG (qk l_0 l_1 l_2 s) ([l_0,l_1],1)) fun(a9:List qa)=>if 10<((a9.length:Nat):Int) then some ([],2) else some (a9,0) else none else if 2<((l_n:Nat):Int) then if 2<((l_n:Nat):Int) then Option.bind (qs p l_2 day) fun(a10:Bool)=>if(!a10)=Bool.true then Option.bind (qv l_2) fun(a11:Unit)=>if 2≤maxLen then if 3<((l_n:Nat):Int) then none else Option.bind (qG (qk l_0 l_1 l_2 s) ([l_0,l_2],1)) fun(a12:List qa)=>if 10<((a12.length:Nat):Int) then some ([],2) else some (a12,0) else none else if 3<((l_n:Nat):Int) then none else Option.bind (qG (qk l_0 l_1 l_2 s) ([l_0],0)) fun(a13:List qa)=>if 10<((a13.length:Nat):Int) then some ([],2) else some (a13,0) else none else Option.bind (qG (qk l_0 l_1 l_2 s) ([l_0],0)) fun(a14:List qa)=>if 10<((a14.length:Nat):Int) then some ([],2) else some (a14,0) else none else Option.bind (qG (qk l_0 l_1 l_2 s) ([l_0],0)) fun(a15:List qa)=>if 10<((a15.length:Nat):Int) then some ([],2) else some (a15,0) else none else if 1<((l_n:Nat):Int) then if 1<((l_n:Nat):Int) then Option.bind (qs p l_1 day) fun(a16:Bool)=>if(!a16)=Bool.true then Option.bind (qv l_1) fun(a17:Unit)=>if 1≤maxLen then if 2<((l_n:Nat):Int) then if 2<((l_n:Nat):Int) then Option.bind (qs p l_2 day) fun(a18:Bool)=>if(!a18)=Bool.true then Option.bind (qv l_2) fun(a19:Unit)=>if 2≤maxLen then if 3<((l_n:Nat):Int) then none else Option.bind (qG (qk l_0 l_1 l_2 s) ([l_1,l_2],1)) fun(a20:List qa)=>if 10<((a20.length:Nat):Int) then some ([],2) else some (a20,0) else none else if 3<((l_n:Nat):Int) then none else Option.bind (qG (qk l_0 l_1 l_2 s) ([l_1],0)) fun(a21:List qa)=>if 10<((a21.length:Nat):Int) then some ([],2) else some (a21,0) else none else Option.bind (qG (qk l_0 l_1 l_2 s) ([l_1],0)) fun(a22:List qa)=>if 10<((a22.length:Nat):Int) then some ([],2) else some (a22,0) else none else if 2<((l_n:Nat):Int) then if 2<((l_n:Nat):Int) then Option.bind (qs p l_2 day) fun(a23:Bool)=>if(!a23)=Bool.true then Option.bind (qv l_2) fun(a24:Unit)=>if 1≤maxLen then if 3<((l_n:Nat):Int) then none else Option.bind (qG (qk l_0 l_1 l_2 s) ([l_2],0)) fun(a25:List qa)=>if 10<((a25.length:Nat):Int) then some ([],2) else some (a25,0) else none else if 3<((l_n:Nat):Int) then none else Option.bind (qG (qk l_0 l_1 l_2 s) ([],(-1))) fun(a26:List qa)=>if 10<((a26.length:Nat):Int) then some ([],2) else some (a26,0) else none else Option.bind (qG (qk l_0 l_1 l_2 s) ([],(-1))) fun(a27:List qa)=>if 10<((a27.length:Nat):Int) then some ([],2) else some (a27,0) else none else Option.bind (qG (qk l_0 l_1 l_2 s) ([],(-1))) fun(a28:List qa)=>if 10<((a28.length:Nat):Int) then some ([],2) else some (a28,0) else none else Option.bind (qG (qk l_0 l_1 l_2 s) ([],(-1))) fun(a29:List qa)=>if 10<((a29.length:Nat):Int) then some ([],2) else some (a29,0)
theorem q1q:∀(l_n:Nat) (p_School p_Id p_Version p_From:Int) (p_Name:ByteArray) (p_Need_Kind p_Need_N p_Need_Min:Int) (p_Need_Set:List qb) (p_Need_L:List qg) (p_Total p_Own p_Age:Int) (p_Exclude:List (QF qb)) (s_Worst s_Best s_Pass day l_0_Course_School:Int) (l_0_Course_Code:ByteArray) (l_0_Credits l_0_Grade l_0_Day:Int) (l_0_Sources:List Int) (l_0_Bundle:Int) (l_0_Path:List Int) (l_1_Course_School:Int) (l_1_Course_Code:ByteArray) (l_1_Credits l_1_Grade l_1_Day:Int) (l_1_Sources:List Int) (l_1_Bundle:Int) (l_1_Path:List Int) (l_2_Course_School:Int) (l_2_Course_Code:ByteArray) (l_2_Credits l_2_Grade l_2_Day:Int) (l_2_Sources:List Int) (l_2_Bundle:Int) (l_2_Path:List Int),ev 11 1 [rO 0 8 l_n,R.agg [dI p_School,dI p_Id,dI p_Version,dI p_From,dS p_Name,dI p_Need_Kind,dI p_Need_N,dI p_Need_Min,dL 2 qh p_Need_Set,dL 5 qq p_Need_L,dI p_Total,dI p_Own,dI p_Age,dL 4 (eA2 qh) p_Exclude],R.agg [dI s_Worst,dI s_Best,dI s_Pass],rI day] [(0,B.blk 52 [dI l_0_Course_School,dS l_0_Course_Code,dI l_0_Credits,dI l_0_Grade,dI l_0_Day,dL 1 eI l_0_Sources,dI l_0_Bundle,dL 1 eI l_0_Path,dI l_1_Course_School,dS l_1_Course_Code,dI l_1_Credits,dI l_1_Grade,dI l_1_Day,dL 1 eI l_1_Sources,dI l_1_Bundle,dL 1 eI l_1_Path,dI l_2_Course_School,dS l_2_Course_Code,dI l_2_Credits,dI l_2_Grade,dI l_2_Day,dL 1 eI l_2_Sources,dI l_2_Bundle,dL 1 eI l_2_Path])]=(Q7 l_n (qe.mk p_School p_Id p_Version p_From p_Name (qg.mk p_Need_Kind p_Need_N p_Need_Min p_Need_Set p_Need_L) p_Total p_Own p_Age p_Exclude) (qf.mk s_Worst s_Best s_Pass) day (qa.mk (qb.mk l_0_Course_School l_0_Course_Code) l_0_Credits l_0_Grade l_0_Day l_0_Sources l_0_Bundle l_0_Path) (qa.mk (qb.mk l_1_Course_School l_1_Course_Code) l_1_Credits l_1_Grade l_1_Day l_1_Sources l_1_Bundle l_1_Path) (qa.mk (qb.mk l_2_Course_School l_2_Course_Code) l_2_Credits l_2_Grade l_2_Day l_2_Sources l_2_Bundle l_2_Path)).bind (fun(e:List qa×Int)=>some (R.tup [rL 8 qc e.1,rI e.2],[(0,B.blk 52 [dI l_0_Course_School,dS l_0_Course_Code,dI l_0_Credits,dI l_0_Grade,dI l_0_Day,dL 1 eI l_0_Sources,dI l_0_Bundle,dL 1 eI l_0_Path,dI l_1_Course_School,dS l_1_Course_Code,dI l_1_Credits,dI l_1_Grade,dI l_1_Day,dL 1 eI l_1_Sources,dI l_1_Bundle,dL 1 eI l_1_Path,dI l_2_Course_School,dS l_2_Course_Code,dI l_2_Credits,dI l_2_Grade,dI l_2_Day,dL 1 eI l_2_Sources,dI l_2_Bundle,dL 1 eI l_2_Path])])):=
 fun l_n p_School p_Id p_Version p_From p_Name p_Need_Kind p_Need_N p_Need_Min p_Need_Set p_Need_L p_Total p_Own p_Age p_Exclude s_Worst s_Best s_Pass day l_0_Course_School l_0_Course_Code l_0_Credits l_0_Grade l_0_Day l_0_Sources l_0_Bundle l_0_Path l_1_Course_School l_1_Course_Code l_1_Credits l_1_Grade l_1_Day l_1_Sources l_1_Bundle l_1_Path l_2_Course_School l_2_Course_Code l_2_Credits l_2_Grade l_2_Day l_2_Sources l_2_Bundle l_2_Path=>by
  rw[qD qi6 qp3.2.2.2 qlT]
  have:=qi3;have:=@QB;have:=@Jl;have:=@Zo;have:=@Je;have:=@Jb;have:=@Jj;have:=@Q7.eq_1;have:=fun(E:Orc) (k:Nat) (s:S)=>q7Y (E:=E) (k:=k) (s:=s) qdI qcm;have:=@q6T.eq_1;have:=@q4j;have:=@q7C;have:=@qca;have:=@q84;have:=@qaO;have:=@q7p;have:=@qaT;exact gA
theorem q0d:∀(p_School p_Id p_Version p_From:Int) (p_Name:ByteArray) (p_Need_Kind p_Need_N p_Need_Min p_Total p_Own p_Age l_0_Course_School:Int) (l_0_Course_Code:ByteArray) (l_0_Credits l_0_Grade l_0_Day l_0_Sources0 l_0_Bundle l_1_Course_School:Int) (l_1_Course_Code:ByteArray) (l_1_Credits l_1_Grade l_1_Day l_1_Sources0 l_1_Bundle l_2_Course_School:Int) (l_2_Course_Code:ByteArray) (l_2_Credits l_2_Grade l_2_Day l_2_Sources0 l_2_Bundle:Int) (l_n:Nat) (s_Worst s_Best s_Pass day:Int),ev 11 1 [rO 0 8 l_n,R.agg [dI p_School,dI p_Id,dI p_Version,dI p_From,dS p_Name,dI p_Need_Kind,dI p_Need_N,dI p_Need_Min,C.d (D.sl 2 0 []),C.d (D.sl 5 0 []),dI p_Total,dI p_Own,dI p_Age,C.d (D.sl 4 0 [])],R.agg [dI s_Worst,dI s_Best,dI s_Pass],rI day] [(0,B.blk 52 [dI l_0_Course_School,dS l_0_Course_Code,dI l_0_Credits,dI l_0_Grade,dI l_0_Day,C.d (D.sl 1 1 [D.int .i64 l_0_Sources0]),dI l_0_Bundle,C.d (D.sl 1 0 []),dI l_1_Course_School,dS l_1_Course_Code,dI l_1_Credits,dI l_1_Grade,dI l_1_Day,C.d (D.sl 1 1 [D.int .i64 l_1_Sources0]),dI l_1_Bundle,C.d (D.sl 1 0 []),dI l_2_Course_School,dS l_2_Course_Code,dI l_2_Credits,dI l_2_Grade,dI l_2_Day,C.d (D.sl 1 1 [D.int .i64 l_2_Sources0]),dI l_2_Bundle,C.d (D.sl 1 0 [])])]=(Q7 l_n (qe.mk p_School p_Id p_Version p_From p_Name (qg.mk p_Need_Kind p_Need_N p_Need_Min [] []) p_Total p_Own p_Age []) (qf.mk s_Worst s_Best s_Pass) day (qa.mk (qb.mk l_0_Course_School l_0_Course_Code) l_0_Credits l_0_Grade l_0_Day [l_0_Sources0] l_0_Bundle []) (qa.mk (qb.mk l_1_Course_School l_1_Course_Code) l_1_Credits l_1_Grade l_1_Day [l_1_Sources0] l_1_Bundle []) (qa.mk (qb.mk l_2_Course_School l_2_Course_Code) l_2_Credits l_2_Grade l_2_Day [l_2_Sources0] l_2_Bundle [])).bind (fun(e:List qa×Int)=>some (R.tup [rL 8 qc e.1,rI e.2],[(0,B.blk 52 [dI l_0_Course_School,dS l_0_Course_Code,dI l_0_Credits,dI l_0_Grade,dI l_0_Day,C.d (D.sl 1 [l_0_Sources0].length ([l_0_Sources0].flatMap eI)),dI l_0_Bundle,C.d (D.sl 1 ([]:List Int).length (([]:List Int).flatMap eI)),dI l_1_Course_School,dS l_1_Course_Code,dI l_1_Credits,dI l_1_Grade,dI l_1_Day,C.d (D.sl 1 [l_1_Sources0].length ([l_1_Sources0].flatMap eI)),dI l_1_Bundle,C.d (D.sl 1 ([]:List Int).length (([]:List Int).flatMap eI)),dI l_2_Course_School,dS l_2_Course_Code,dI l_2_Credits,dI l_2_Grade,dI l_2_Day,C.d (D.sl 1 [l_2_Sources0].length ([l_2_Sources0].flatMap eI)),dI l_2_Bundle,C.d (D.sl 1 ([]:List Int).length (([]:List Int).flatMap eI))])])):=by
 intro p_School p_Id p_Version p_From p_Name p_Need_Kind p_Need_N p_Need_Min p_Total p_Own p_Age l_0_Course_School l_0_Course_Code l_0_Credits l_0_Grade l_0_Day l_0_Sources0 l_0_Bundle l_1_Course_School l_1_Course_Code l_1_Credits l_1_Grade l_1_Day l_1_Sources0 l_1_Bundle l_2_Course_School l_2_Course_Code l_2_Credits l_2_Grade l_2_Day l_2_Sources0 l_2_Bundle l_n s_Worst s_Best s_Pass day;have h:=q1q l_n ((qe.mk p_School p_Id p_Version p_From p_Name (qg.mk p_Need_Kind p_Need_N p_Need_Min [] []) p_Total p_Own p_Age [])).School ((qe.mk p_School p_Id p_Version p_From p_Name (qg.mk p_Need_Kind p_Need_N p_Need_Min [] []) p_Total p_Own p_Age [])).Id ((qe.mk p_School p_Id p_Version p_From p_Name (qg.mk p_Need_Kind p_Need_N p_Need_Min [] []) p_Total p_Own p_Age [])).Version ((qe.mk p_School p_Id p_Version p_From p_Name (qg.mk p_Need_Kind p_Need_N p_Need_Min [] []) p_Total p_Own p_Age [])).From ((qe.mk p_School p_Id p_Version p_From p_Name (qg.mk p_Need_Kind p_Need_N p_Need_Min [] []) p_Total p_Own p_Age [])).Name ((qe.mk p_School p_Id p_Version p_From p_Name (qg.mk p_Need_Kind p_Need_N p_Need_Min [] []) p_Total p_Own p_Age [])).Need.Kind ((qe.mk p_School p_Id p_Version p_From p_Name (qg.mk p_Need_Kind p_Need_N p_Need_Min [] []) p_Total p_Own p_Age [])).Need.N ((qe.mk p_School p_Id p_Version p_From p_Name (qg.mk p_Need_Kind p_Need_N p_Need_Min [] []) p_Total p_Own p_Age [])).Need.Min ((qe.mk p_School p_Id p_Version p_From p_Name (qg.mk p_Need_Kind p_Need_N p_Need_Min [] []) p_Total p_Own p_Age [])).Need.Set ((qe.mk p_School p_Id p_Version p_From p_Name (qg.mk p_Need_Kind p_Need_N p_Need_Min [] []) p_Total p_Own p_Age [])).Need.L ((qe.mk p_School p_Id p_Version p_From p_Name (qg.mk p_Need_Kind p_Need_N p_Need_Min [] []) p_Total p_Own p_Age [])).Total ((qe.mk p_School p_Id p_Version p_From p_Name (qg.mk p_Need_Kind p_Need_N p_Need_Min [] []) p_Total p_Own p_Age [])).Own ((qe.mk p_School p_Id p_Version p_From p_Name (qg.mk p_Need_Kind p_Need_N p_Need_Min [] []) p_Total p_Own p_Age [])).Age ((qe.mk p_School p_Id p_Version p_From p_Name (qg.mk p_Need_Kind p_Need_N p_Need_Min [] []) p_Total p_Own p_Age [])).Exclude ((qf.mk s_Worst s_Best s_Pass)).Worst ((qf.mk s_Worst s_Best s_Pass)).Best ((qf.mk s_Worst s_Best s_Pass)).Pass day ((qa.mk (qb.mk l_0_Course_School l_0_Course_Code) l_0_Credits l_0_Grade l_0_Day [l_0_Sources0] l_0_Bundle [])).Course.School ((qa.mk (qb.mk l_0_Course_School l_0_Course_Code) l_0_Credits l_0_Grade l_0_Day [l_0_Sources0] l_0_Bundle [])).Course.Code ((qa.mk (qb.mk l_0_Course_School l_0_Course_Code) l_0_Credits l_0_Grade l_0_Day [l_0_Sources0] l_0_Bundle [])).Credits ((qa.mk (qb.mk l_0_Course_School l_0_Course_Code) l_0_Credits l_0_Grade l_0_Day [l_0_Sources0] l_0_Bundle [])).Grade ((qa.mk (qb.mk l_0_Course_School l_0_Course_Code) l_0_Credits l_0_Grade l_0_Day [l_0_Sources0] l_0_Bundle [])).Day ((qa.mk (qb.mk l_0_Course_School l_0_Course_Code) l_0_Credits l_0_Grade l_0_Day [l_0_Sources0] l_0_Bundle [])).Sources ((qa.mk (qb.mk l_0_Course_School l_0_Course_Code) l_0_Credits l_0_Grade l_0_Day [l_0_Sources0] l_0_Bundle [])).Bundle ((qa.mk (qb.mk l_0_Course_School l_0_Course_Code) l_0_Credits l_0_Grade l_0_Day [l_0_Sources0] l_0_Bundle [])).Path ((qa.mk (qb.mk l_1_Course_School l_1_Course_Code) l_1_Credits l_1_Grade l_1_Day [l_1_Sources0] l_1_Bundle [])).Course.School ((qa.mk (qb.mk l_1_Course_School l_1_Course_Code) l_1_Credits l_1_Grade l_1_Day [l_1_Sources0] l_1_Bundle [])).Course.Code ((qa.mk (qb.mk l_1_Course_School l_1_Course_Code) l_1_Credits l_1_Grade l_1_Day [l_1_Sources0] l_1_Bundle [])).Credits ((qa.mk (qb.mk l_1_Course_School l_1_Course_Code) l_1_Credits l_1_Grade l_1_Day [l_1_Sources0] l_1_Bundle [])).Grade ((qa.mk (qb.mk l_1_Course_School l_1_Course_Code) l_1_Credits l_1_Grade l_1_Day [l_1_Sources0] l_1_Bundle [])).Day ((qa.mk (qb.mk l_1_Course_School l_1_Course_Code) l_1_Credits l_1_Grade l_1_Day [l_1_Sources0] l_1_Bundle [])).Sources ((qa.mk (qb.mk l_1_Course_School l_1_Course_Code) l_1_Credits l_1_Grade l_1_Day [l_1_Sources0] l_1_Bundle [])).Bundle ((qa.mk (qb.mk l_1_Course_School l_1_Course_Code) l_1_Credits l_1_Grade l_1_Day [l_1_Sources0] l_1_Bundle [])).Path ((qa.mk (qb.mk l_2_Course_School l_2_Course_Code) l_2_Credits l_2_Grade l_2_Day [l_2_Sources0] l_2_Bundle [])).Course.School ((qa.mk (qb.mk l_2_Course_School l_2_Course_Code) l_2_Credits l_2_Grade l_2_Day [l_2_Sources0] l_2_Bundle [])).Course.Code ((qa.mk (qb.mk l_2_Course_School l_2_Course_Code) l_2_Credits l_2_Grade l_2_Day [l_2_Sources0] l_2_Bundle [])).Credits ((qa.mk (qb.mk l_2_Course_School l_2_Course_Code) l_2_Credits l_2_Grade l_2_Day [l_2_Sources0] l_2_Bundle [])).Grade ((qa.mk (qb.mk l_2_Course_School l_2_Course_Code) l_2_Credits l_2_Grade l_2_Day [l_2_Sources0] l_2_Bundle [])).Day ((qa.mk (qb.mk l_2_Course_School l_2_Course_Code) l_2_Credits l_2_Grade l_2_Day [l_2_Sources0] l_2_Bundle [])).Sources ((qa.mk (qb.mk l_2_Course_School l_2_Course_Code) l_2_Credits l_2_Grade l_2_Day [l_2_Sources0] l_2_Bundle [])).Bundle ((qa.mk (qb.mk l_2_Course_School l_2_Course_Code) l_2_Credits l_2_Grade l_2_Day [l_2_Sources0] l_2_Bundle [])).Path
 first
  | exact h
  | (simp only[rL,dL,bR,bZ,Nat.reduceAdd] at h;exact h)
def qr (w1:List Int) (b0_0:qa) (b0_1:qa) (b0_2_Course_School:Int) (b0_2_Course_Code:ByteArray) (b0_2_Credits:Int) (b0_2_Grade:Int) (b0_2_Day:Int) (b0_2_Bundle:Int) (b0_2_Path:List Int) (s:qf):(List qa×Int)→Option ((List qa×Int)⊕(List qa))|(left,k)=>if 0≤k then Option.bind (zI left s k) fun(a:Bool)=>if a=Bool.true then Option.bind (ql k (w64 (k+1)) left) fun(a2:List qa)=>some (Sum.inl (a2,w64 (((a2.length:Nat):Int)-1))) else some (Sum.inl (left,w64 (k-1))) else some (Sum.inr left)
theorem Qu:∀(w1:List Int) (left:List qa) (b0_0_Course_School:Int) (b0_0_Course_Code:ByteArray) (b0_0_Credits b0_0_Grade b0_0_Day:Int) (b0_0_Sources:List Int) (b0_0_Bundle:Int) (b0_0_Path:List Int) (b0_1_Course_School:Int) (b0_1_Course_Code:ByteArray) (b0_1_Credits b0_1_Grade b0_1_Day:Int) (b0_1_Sources:List Int) (b0_1_Bundle:Int) (b0_1_Path:List Int) (b0_2_Course_School:Int) (b0_2_Course_Code:ByteArray) (b0_2_Credits b0_2_Grade b0_2_Day b0_2_Bundle:Int) (b0_2_Path:List Int) (s_Worst s_Best s_Pass k:Int) (Q9 w1_len:Nat),Q9=left.length→w1_len=w1.length→XL2 evo 11 1 9 ⟨[(6,rP 2),(10,rO 3 8 Q9),(13,rI k)],[(0,B.blk 52 [dI b0_0_Course_School,dS b0_0_Course_Code,dI b0_0_Credits,dI b0_0_Grade,dI b0_0_Day,dL 1 eI b0_0_Sources,dI b0_0_Bundle,dL 1 eI b0_0_Path,dI b0_1_Course_School,dS b0_1_Course_Code,dI b0_1_Credits,dI b0_1_Grade,dI b0_1_Day,dL 1 eI b0_1_Sources,dI b0_1_Bundle,dL 1 eI b0_1_Path,dI b0_2_Course_School,dS b0_2_Course_Code,dI b0_2_Credits,dI b0_2_Grade,dI b0_2_Day,dO 1 1 w1_len,dI b0_2_Bundle,dL 1 eI b0_2_Path]),(1,bR 3 1 eI w1),(2,B.blk 30 [dI s_Worst,dI s_Best,dI s_Pass]),(3,bR 52 8 qc left)],4,53⟩=(qG (qr w1 (qa.mk (qb.mk b0_0_Course_School b0_0_Course_Code) b0_0_Credits b0_0_Grade b0_0_Day b0_0_Sources b0_0_Bundle b0_0_Path) (qa.mk (qb.mk b0_1_Course_School b0_1_Course_Code) b0_1_Credits b0_1_Grade b0_1_Day b0_1_Sources b0_1_Bundle b0_1_Path) b0_2_Course_School b0_2_Course_Code b0_2_Credits b0_2_Grade b0_2_Day b0_2_Bundle b0_2_Path (qf.mk s_Worst s_Best s_Pass)) (left,k)).bind (fun(e:List qa)=>some (Exit.exit 2,⟨[(10,rO 2 8 e.length)],[(0,B.blk 52 [dI b0_0_Course_School,dS b0_0_Course_Code,dI b0_0_Credits,dI b0_0_Grade,dI b0_0_Day,dL 1 eI b0_0_Sources,dI b0_0_Bundle,dL 1 eI b0_0_Path,dI b0_1_Course_School,dS b0_1_Course_Code,dI b0_1_Credits,dI b0_1_Grade,dI b0_1_Day,dL 1 eI b0_1_Sources,dI b0_1_Bundle,dL 1 eI b0_1_Path,dI b0_2_Course_School,dS b0_2_Course_Code,dI b0_2_Credits,dI b0_2_Grade,dI b0_2_Day,dO 1 1 w1.length,dI b0_2_Bundle,dL 1 eI b0_2_Path]),(1,bR 3 1 eI w1),(2,bR 52 8 qc e)],3,53⟩)):=
 by
 intro w1 left b0_0_Course_School b0_0_Course_Code b0_0_Credits b0_0_Grade b0_0_Day b0_0_Sources b0_0_Bundle b0_0_Path b0_1_Course_School b0_1_Course_Code b0_1_Credits b0_1_Grade b0_1_Day b0_1_Sources b0_1_Bundle b0_1_Path b0_2_Course_School b0_2_Course_Code b0_2_Credits b0_2_Grade b0_2_Day b0_2_Bundle b0_2_Path s_Worst s_Best s_Pass k Q9 w1_len h0 h1
 subst h0 h1
 revert k;revert left;exact q8h qe4 qdT (fun e=>by exact⟨_,rfl,fun h=>by cases h⟩) fun left k=>by
  have:=qi3;have:=@q6q.eq_1;have:=@Z9;have:=@qC;have:=@qr.eq_1;exact gA
theorem Jq:∀  (w1:List Int) (b0_0_Course_School:Int) (b0_0_Course_Code:ByteArray) (b0_0_Credits b0_0_Grade b0_0_Day:Int) (b0_0_Sources:List Int) (b0_0_Bundle:Int) (b0_0_Path:List Int) (b0_1_Course_School:Int) (b0_1_Course_Code:ByteArray) (b0_1_Credits b0_1_Grade b0_1_Day:Int) (b0_1_Sources:List Int) (b0_1_Bundle:Int) (b0_1_Path:List Int) (b0_2_Course_School:Int) (b0_2_Course_Code:ByteArray) (b0_2_Credits b0_2_Grade b0_2_Day b0_2_Bundle:Int) (b0_2_Path:List Int) (s_Worst s_Best s_Pass k:Int) (w1_len:Nat),w1_len=w1.length→XL2 evo 11 1 9 ⟨[(6,rP 2),(10,rO 3 8 0),(13,rI k)],[(0,B.blk 52 [dI b0_0_Course_School,dS b0_0_Course_Code,dI b0_0_Credits,dI b0_0_Grade,dI b0_0_Day,dL 1 eI b0_0_Sources,dI b0_0_Bundle,dL 1 eI b0_0_Path,dI b0_1_Course_School,dS b0_1_Course_Code,dI b0_1_Credits,dI b0_1_Grade,dI b0_1_Day,dL 1 eI b0_1_Sources,dI b0_1_Bundle,dL 1 eI b0_1_Path,dI b0_2_Course_School,dS b0_2_Course_Code,dI b0_2_Credits,dI b0_2_Grade,dI b0_2_Day,dO 1 1 w1_len,dI b0_2_Bundle,dL 1 eI b0_2_Path]),(1,bR 3 1 eI w1),(2,B.blk 30 [dI s_Worst,dI s_Best,dI s_Pass]),(3,B.row 52 8 [])],4,53⟩=(qG (qr w1 (qa.mk (qb.mk b0_0_Course_School b0_0_Course_Code) b0_0_Credits b0_0_Grade b0_0_Day b0_0_Sources b0_0_Bundle b0_0_Path) (qa.mk (qb.mk b0_1_Course_School b0_1_Course_Code) b0_1_Credits b0_1_Grade b0_1_Day b0_1_Sources b0_1_Bundle b0_1_Path) b0_2_Course_School b0_2_Course_Code b0_2_Credits b0_2_Grade b0_2_Day b0_2_Bundle b0_2_Path (qf.mk s_Worst s_Best s_Pass)) ([],k)).bind (fun(e:List qa)=>some (Exit.exit 2,⟨[(10,rO 2 8 e.length)],[(0,B.blk 52 [dI b0_0_Course_School,dS b0_0_Course_Code,dI b0_0_Credits,dI b0_0_Grade,dI b0_0_Day,dL 1 eI b0_0_Sources,dI b0_0_Bundle,dL 1 eI b0_0_Path,dI b0_1_Course_School,dS b0_1_Course_Code,dI b0_1_Credits,dI b0_1_Grade,dI b0_1_Day,dL 1 eI b0_1_Sources,dI b0_1_Bundle,dL 1 eI b0_1_Path,dI b0_2_Course_School,dS b0_2_Course_Code,dI b0_2_Credits,dI b0_2_Grade,dI b0_2_Day,dO 1 1 w1.length,dI b0_2_Bundle,dL 1 eI b0_2_Path]),(1,bR 3 1 eI w1),(2,bR 52 8 qc e)],3,53⟩)):=by
 intro w1 b0_0_Course_School b0_0_Course_Code b0_0_Credits b0_0_Grade b0_0_Day b0_0_Sources b0_0_Bundle b0_0_Path b0_1_Course_School b0_1_Course_Code b0_1_Credits b0_1_Grade b0_1_Day b0_1_Sources b0_1_Bundle b0_1_Path b0_2_Course_School b0_2_Course_Code b0_2_Credits b0_2_Grade b0_2_Day b0_2_Bundle b0_2_Path s_Worst s_Best s_Pass k w1_len h0;subst h0;have h:=Qu w1 [] ((qa.mk (qb.mk b0_0_Course_School b0_0_Course_Code) b0_0_Credits b0_0_Grade b0_0_Day b0_0_Sources b0_0_Bundle b0_0_Path)).Course.School ((qa.mk (qb.mk b0_0_Course_School b0_0_Course_Code) b0_0_Credits b0_0_Grade b0_0_Day b0_0_Sources b0_0_Bundle b0_0_Path)).Course.Code ((qa.mk (qb.mk b0_0_Course_School b0_0_Course_Code) b0_0_Credits b0_0_Grade b0_0_Day b0_0_Sources b0_0_Bundle b0_0_Path)).Credits ((qa.mk (qb.mk b0_0_Course_School b0_0_Course_Code) b0_0_Credits b0_0_Grade b0_0_Day b0_0_Sources b0_0_Bundle b0_0_Path)).Grade ((qa.mk (qb.mk b0_0_Course_School b0_0_Course_Code) b0_0_Credits b0_0_Grade b0_0_Day b0_0_Sources b0_0_Bundle b0_0_Path)).Day ((qa.mk (qb.mk b0_0_Course_School b0_0_Course_Code) b0_0_Credits b0_0_Grade b0_0_Day b0_0_Sources b0_0_Bundle b0_0_Path)).Sources ((qa.mk (qb.mk b0_0_Course_School b0_0_Course_Code) b0_0_Credits b0_0_Grade b0_0_Day b0_0_Sources b0_0_Bundle b0_0_Path)).Bundle ((qa.mk (qb.mk b0_0_Course_School b0_0_Course_Code) b0_0_Credits b0_0_Grade b0_0_Day b0_0_Sources b0_0_Bundle b0_0_Path)).Path ((qa.mk (qb.mk b0_1_Course_School b0_1_Course_Code) b0_1_Credits b0_1_Grade b0_1_Day b0_1_Sources b0_1_Bundle b0_1_Path)).Course.School ((qa.mk (qb.mk b0_1_Course_School b0_1_Course_Code) b0_1_Credits b0_1_Grade b0_1_Day b0_1_Sources b0_1_Bundle b0_1_Path)).Course.Code ((qa.mk (qb.mk b0_1_Course_School b0_1_Course_Code) b0_1_Credits b0_1_Grade b0_1_Day b0_1_Sources b0_1_Bundle b0_1_Path)).Credits ((qa.mk (qb.mk b0_1_Course_School b0_1_Course_Code) b0_1_Credits b0_1_Grade b0_1_Day b0_1_Sources b0_1_Bundle b0_1_Path)).Grade ((qa.mk (qb.mk b0_1_Course_School b0_1_Course_Code) b0_1_Credits b0_1_Grade b0_1_Day b0_1_Sources b0_1_Bundle b0_1_Path)).Day ((qa.mk (qb.mk b0_1_Course_School b0_1_Course_Code) b0_1_Credits b0_1_Grade b0_1_Day b0_1_Sources b0_1_Bundle b0_1_Path)).Sources ((qa.mk (qb.mk b0_1_Course_School b0_1_Course_Code) b0_1_Credits b0_1_Grade b0_1_Day b0_1_Sources b0_1_Bundle b0_1_Path)).Bundle ((qa.mk (qb.mk b0_1_Course_School b0_1_Course_Code) b0_1_Credits b0_1_Grade b0_1_Day b0_1_Sources b0_1_Bundle b0_1_Path)).Path b0_2_Course_School b0_2_Course_Code b0_2_Credits b0_2_Grade b0_2_Day b0_2_Bundle b0_2_Path ((qf.mk s_Worst s_Best s_Pass)).Worst ((qf.mk s_Worst s_Best s_Pass)).Best ((qf.mk s_Worst s_Best s_Pass)).Pass k _ _ rfl rfl
 first
  | exact h
  | (simp only[rL,dL,bR,bZ,Nat.reduceAdd] at h;exact h)
theorem Jm:∀(left0_Course_School:Int) (left0_Course_Code:ByteArray) (left0_Credits left0_Grade left0_Day:Int) (left0_Sources:List Int) (left0_Bundle:Int) (left0_Path:List Int) (left1_Course_School:Int) (left1_Course_Code:ByteArray) (left1_Credits left1_Grade left1_Day:Int) (left1_Sources:List Int) (left1_Bundle:Int) (left1_Path w1:List Int) (b0_0_Course_School:Int) (b0_0_Course_Code:ByteArray) (b0_0_Credits b0_0_Grade b0_0_Day:Int) (b0_0_Sources:List Int) (b0_0_Bundle:Int) (b0_0_Path:List Int) (b0_1_Course_School:Int) (b0_1_Course_Code:ByteArray) (b0_1_Credits b0_1_Grade b0_1_Day:Int) (b0_1_Sources:List Int) (b0_1_Bundle:Int) (b0_1_Path:List Int) (b0_2_Course_School:Int) (b0_2_Course_Code:ByteArray) (b0_2_Credits b0_2_Grade b0_2_Day b0_2_Bundle:Int) (b0_2_Path:List Int) (s_Worst s_Best s_Pass k:Int) (w1_len:Nat),w1_len=w1.length→XL2 evo 11 1 9 ⟨[(6,rP 2),(10,rO 3 8 2),(13,rI k)],[(0,B.blk 52 [dI b0_0_Course_School,dS b0_0_Course_Code,dI b0_0_Credits,dI b0_0_Grade,dI b0_0_Day,dL 1 eI b0_0_Sources,dI b0_0_Bundle,dL 1 eI b0_0_Path,dI b0_1_Course_School,dS b0_1_Course_Code,dI b0_1_Credits,dI b0_1_Grade,dI b0_1_Day,dL 1 eI b0_1_Sources,dI b0_1_Bundle,dL 1 eI b0_1_Path,dI b0_2_Course_School,dS b0_2_Course_Code,dI b0_2_Credits,dI b0_2_Grade,dI b0_2_Day,dO 1 1 w1_len,dI b0_2_Bundle,dL 1 eI b0_2_Path]),(1,bR 3 1 eI w1),(2,B.blk 30 [dI s_Worst,dI s_Best,dI s_Pass]),(3,B.row 52 8 [dI left0_Course_School,dS left0_Course_Code,dI left0_Credits,dI left0_Grade,dI left0_Day,dL 1 eI left0_Sources,dI left0_Bundle,dL 1 eI left0_Path,dI left1_Course_School,dS left1_Course_Code,dI left1_Credits,dI left1_Grade,dI left1_Day,dL 1 eI left1_Sources,dI left1_Bundle,dL 1 eI left1_Path])],4,53⟩=(qG (qr w1 (qa.mk (qb.mk b0_0_Course_School b0_0_Course_Code) b0_0_Credits b0_0_Grade b0_0_Day b0_0_Sources b0_0_Bundle b0_0_Path) (qa.mk (qb.mk b0_1_Course_School b0_1_Course_Code) b0_1_Credits b0_1_Grade b0_1_Day b0_1_Sources b0_1_Bundle b0_1_Path) b0_2_Course_School b0_2_Course_Code b0_2_Credits b0_2_Grade b0_2_Day b0_2_Bundle b0_2_Path (qf.mk s_Worst s_Best s_Pass)) ([(qa.mk (qb.mk left0_Course_School left0_Course_Code) left0_Credits left0_Grade left0_Day left0_Sources left0_Bundle left0_Path),(qa.mk (qb.mk left1_Course_School left1_Course_Code) left1_Credits left1_Grade left1_Day left1_Sources left1_Bundle left1_Path)],k)).bind (fun(e:List qa)=>some (Exit.exit 2,⟨[(10,rO 2 8 e.length)],[(0,B.blk 52 [dI b0_0_Course_School,dS b0_0_Course_Code,dI b0_0_Credits,dI b0_0_Grade,dI b0_0_Day,dL 1 eI b0_0_Sources,dI b0_0_Bundle,dL 1 eI b0_0_Path,dI b0_1_Course_School,dS b0_1_Course_Code,dI b0_1_Credits,dI b0_1_Grade,dI b0_1_Day,dL 1 eI b0_1_Sources,dI b0_1_Bundle,dL 1 eI b0_1_Path,dI b0_2_Course_School,dS b0_2_Course_Code,dI b0_2_Credits,dI b0_2_Grade,dI b0_2_Day,dO 1 1 w1.length,dI b0_2_Bundle,dL 1 eI b0_2_Path]),(1,bR 3 1 eI w1),(2,bR 52 8 qc e)],3,53⟩)):=by
 intro left0_Course_School left0_Course_Code left0_Credits left0_Grade left0_Day left0_Sources left0_Bundle left0_Path left1_Course_School left1_Course_Code left1_Credits left1_Grade left1_Day left1_Sources left1_Bundle left1_Path w1 b0_0_Course_School b0_0_Course_Code b0_0_Credits b0_0_Grade b0_0_Day b0_0_Sources b0_0_Bundle b0_0_Path b0_1_Course_School b0_1_Course_Code b0_1_Credits b0_1_Grade b0_1_Day b0_1_Sources b0_1_Bundle b0_1_Path b0_2_Course_School b0_2_Course_Code b0_2_Credits b0_2_Grade b0_2_Day b0_2_Bundle b0_2_Path s_Worst s_Best s_Pass k w1_len h0;subst h0;have h:=Qu w1 [(qa.mk (qb.mk left0_Course_School left0_Course_Code) left0_Credits left0_Grade left0_Day left0_Sources left0_Bundle left0_Path),(qa.mk (qb.mk left1_Course_School left1_Course_Code) left1_Credits left1_Grade left1_Day left1_Sources left1_Bundle left1_Path)] ((qa.mk (qb.mk b0_0_Course_School b0_0_Course_Code) b0_0_Credits b0_0_Grade b0_0_Day b0_0_Sources b0_0_Bundle b0_0_Path)).Course.School ((qa.mk (qb.mk b0_0_Course_School b0_0_Course_Code) b0_0_Credits b0_0_Grade b0_0_Day b0_0_Sources b0_0_Bundle b0_0_Path)).Course.Code ((qa.mk (qb.mk b0_0_Course_School b0_0_Course_Code) b0_0_Credits b0_0_Grade b0_0_Day b0_0_Sources b0_0_Bundle b0_0_Path)).Credits ((qa.mk (qb.mk b0_0_Course_School b0_0_Course_Code) b0_0_Credits b0_0_Grade b0_0_Day b0_0_Sources b0_0_Bundle b0_0_Path)).Grade ((qa.mk (qb.mk b0_0_Course_School b0_0_Course_Code) b0_0_Credits b0_0_Grade b0_0_Day b0_0_Sources b0_0_Bundle b0_0_Path)).Day ((qa.mk (qb.mk b0_0_Course_School b0_0_Course_Code) b0_0_Credits b0_0_Grade b0_0_Day b0_0_Sources b0_0_Bundle b0_0_Path)).Sources ((qa.mk (qb.mk b0_0_Course_School b0_0_Course_Code) b0_0_Credits b0_0_Grade b0_0_Day b0_0_Sources b0_0_Bundle b0_0_Path)).Bundle ((qa.mk (qb.mk b0_0_Course_School b0_0_Course_Code) b0_0_Credits b0_0_Grade b0_0_Day b0_0_Sources b0_0_Bundle b0_0_Path)).Path ((qa.mk (qb.mk b0_1_Course_School b0_1_Course_Code) b0_1_Credits b0_1_Grade b0_1_Day b0_1_Sources b0_1_Bundle b0_1_Path)).Course.School ((qa.mk (qb.mk b0_1_Course_School b0_1_Course_Code) b0_1_Credits b0_1_Grade b0_1_Day b0_1_Sources b0_1_Bundle b0_1_Path)).Course.Code ((qa.mk (qb.mk b0_1_Course_School b0_1_Course_Code) b0_1_Credits b0_1_Grade b0_1_Day b0_1_Sources b0_1_Bundle b0_1_Path)).Credits ((qa.mk (qb.mk b0_1_Course_School b0_1_Course_Code) b0_1_Credits b0_1_Grade b0_1_Day b0_1_Sources b0_1_Bundle b0_1_Path)).Grade ((qa.mk (qb.mk b0_1_Course_School b0_1_Course_Code) b0_1_Credits b0_1_Grade b0_1_Day b0_1_Sources b0_1_Bundle b0_1_Path)).Day ((qa.mk (qb.mk b0_1_Course_School b0_1_Course_Code) b0_1_Credits b0_1_Grade b0_1_Day b0_1_Sources b0_1_Bundle b0_1_Path)).Sources ((qa.mk (qb.mk b0_1_Course_School b0_1_Course_Code) b0_1_Credits b0_1_Grade b0_1_Day b0_1_Sources b0_1_Bundle b0_1_Path)).Bundle ((qa.mk (qb.mk b0_1_Course_School b0_1_Course_Code) b0_1_Credits b0_1_Grade b0_1_Day b0_1_Sources b0_1_Bundle b0_1_Path)).Path b0_2_Course_School b0_2_Course_Code b0_2_Credits b0_2_Grade b0_2_Day b0_2_Bundle b0_2_Path ((qf.mk s_Worst s_Best s_Pass)).Worst ((qf.mk s_Worst s_Best s_Pass)).Best ((qf.mk s_Worst s_Best s_Pass)).Pass k _ _ rfl rfl
 first
  | exact h
  | (simp only[rL,dL,bR,bZ,Nat.reduceAdd] at h;exact h)
theorem Jd:∀(left0_Course_School:Int) (left0_Course_Code:ByteArray) (left0_Credits left0_Grade left0_Day:Int) (left0_Sources:List Int) (left0_Bundle:Int) (left0_Path w1:List Int) (b0_0_Course_School:Int) (b0_0_Course_Code:ByteArray) (b0_0_Credits b0_0_Grade b0_0_Day:Int) (b0_0_Sources:List Int) (b0_0_Bundle:Int) (b0_0_Path:List Int) (b0_1_Course_School:Int) (b0_1_Course_Code:ByteArray) (b0_1_Credits b0_1_Grade b0_1_Day:Int) (b0_1_Sources:List Int) (b0_1_Bundle:Int) (b0_1_Path:List Int) (b0_2_Course_School:Int) (b0_2_Course_Code:ByteArray) (b0_2_Credits b0_2_Grade b0_2_Day b0_2_Bundle:Int) (b0_2_Path:List Int) (s_Worst s_Best s_Pass k:Int) (w1_len:Nat),w1_len=w1.length→XL2 evo 11 1 9 ⟨[(6,rP 2),(10,rO 3 8 1),(13,rI k)],[(0,B.blk 52 [dI b0_0_Course_School,dS b0_0_Course_Code,dI b0_0_Credits,dI b0_0_Grade,dI b0_0_Day,dL 1 eI b0_0_Sources,dI b0_0_Bundle,dL 1 eI b0_0_Path,dI b0_1_Course_School,dS b0_1_Course_Code,dI b0_1_Credits,dI b0_1_Grade,dI b0_1_Day,dL 1 eI b0_1_Sources,dI b0_1_Bundle,dL 1 eI b0_1_Path,dI b0_2_Course_School,dS b0_2_Course_Code,dI b0_2_Credits,dI b0_2_Grade,dI b0_2_Day,dO 1 1 w1_len,dI b0_2_Bundle,dL 1 eI b0_2_Path]),(1,bR 3 1 eI w1),(2,B.blk 30 [dI s_Worst,dI s_Best,dI s_Pass]),(3,B.row 52 8 [dI left0_Course_School,dS left0_Course_Code,dI left0_Credits,dI left0_Grade,dI left0_Day,dL 1 eI left0_Sources,dI left0_Bundle,dL 1 eI left0_Path])],4,53⟩=(qG (qr w1 (qa.mk (qb.mk b0_0_Course_School b0_0_Course_Code) b0_0_Credits b0_0_Grade b0_0_Day b0_0_Sources b0_0_Bundle b0_0_Path) (qa.mk (qb.mk b0_1_Course_School b0_1_Course_Code) b0_1_Credits b0_1_Grade b0_1_Day b0_1_Sources b0_1_Bundle b0_1_Path) b0_2_Course_School b0_2_Course_Code b0_2_Credits b0_2_Grade b0_2_Day b0_2_Bundle b0_2_Path (qf.mk s_Worst s_Best s_Pass)) ([(qa.mk (qb.mk left0_Course_School left0_Course_Code) left0_Credits left0_Grade left0_Day left0_Sources left0_Bundle left0_Path)],k)).bind (fun(e:List qa)=>some (Exit.exit 2,⟨[(10,rO 2 8 e.length)],[(0,B.blk 52 [dI b0_0_Course_School,dS b0_0_Course_Code,dI b0_0_Credits,dI b0_0_Grade,dI b0_0_Day,dL 1 eI b0_0_Sources,dI b0_0_Bundle,dL 1 eI b0_0_Path,dI b0_1_Course_School,dS b0_1_Course_Code,dI b0_1_Credits,dI b0_1_Grade,dI b0_1_Day,dL 1 eI b0_1_Sources,dI b0_1_Bundle,dL 1 eI b0_1_Path,dI b0_2_Course_School,dS b0_2_Course_Code,dI b0_2_Credits,dI b0_2_Grade,dI b0_2_Day,dO 1 1 w1.length,dI b0_2_Bundle,dL 1 eI b0_2_Path]),(1,bR 3 1 eI w1),(2,bR 52 8 qc e)],3,53⟩)):=by
 intro left0_Course_School left0_Course_Code left0_Credits left0_Grade left0_Day left0_Sources left0_Bundle left0_Path w1 b0_0_Course_School b0_0_Course_Code b0_0_Credits b0_0_Grade b0_0_Day b0_0_Sources b0_0_Bundle b0_0_Path b0_1_Course_School b0_1_Course_Code b0_1_Credits b0_1_Grade b0_1_Day b0_1_Sources b0_1_Bundle b0_1_Path b0_2_Course_School b0_2_Course_Code b0_2_Credits b0_2_Grade b0_2_Day b0_2_Bundle b0_2_Path s_Worst s_Best s_Pass k w1_len h0;subst h0;have h:=Qu w1 [(qa.mk (qb.mk left0_Course_School left0_Course_Code) left0_Credits left0_Grade left0_Day left0_Sources left0_Bundle left0_Path)] ((qa.mk (qb.mk b0_0_Course_School b0_0_Course_Code) b0_0_Credits b0_0_Grade b0_0_Day b0_0_Sources b0_0_Bundle b0_0_Path)).Course.School ((qa.mk (qb.mk b0_0_Course_School b0_0_Course_Code) b0_0_Credits b0_0_Grade b0_0_Day b0_0_Sources b0_0_Bundle b0_0_Path)).Course.Code ((qa.mk (qb.mk b0_0_Course_School b0_0_Course_Code) b0_0_Credits b0_0_Grade b0_0_Day b0_0_Sources b0_0_Bundle b0_0_Path)).Credits ((qa.mk (qb.mk b0_0_Course_School b0_0_Course_Code) b0_0_Credits b0_0_Grade b0_0_Day b0_0_Sources b0_0_Bundle b0_0_Path)).Grade ((qa.mk (qb.mk b0_0_Course_School b0_0_Course_Code) b0_0_Credits b0_0_Grade b0_0_Day b0_0_Sources b0_0_Bundle b0_0_Path)).Day ((qa.mk (qb.mk b0_0_Course_School b0_0_Course_Code) b0_0_Credits b0_0_Grade b0_0_Day b0_0_Sources b0_0_Bundle b0_0_Path)).Sources ((qa.mk (qb.mk b0_0_Course_School b0_0_Course_Code) b0_0_Credits b0_0_Grade b0_0_Day b0_0_Sources b0_0_Bundle b0_0_Path)).Bundle ((qa.mk (qb.mk b0_0_Course_School b0_0_Course_Code) b0_0_Credits b0_0_Grade b0_0_Day b0_0_Sources b0_0_Bundle b0_0_Path)).Path ((qa.mk (qb.mk b0_1_Course_School b0_1_Course_Code) b0_1_Credits b0_1_Grade b0_1_Day b0_1_Sources b0_1_Bundle b0_1_Path)).Course.School ((qa.mk (qb.mk b0_1_Course_School b0_1_Course_Code) b0_1_Credits b0_1_Grade b0_1_Day b0_1_Sources b0_1_Bundle b0_1_Path)).Course.Code ((qa.mk (qb.mk b0_1_Course_School b0_1_Course_Code) b0_1_Credits b0_1_Grade b0_1_Day b0_1_Sources b0_1_Bundle b0_1_Path)).Credits ((qa.mk (qb.mk b0_1_Course_School b0_1_Course_Code) b0_1_Credits b0_1_Grade b0_1_Day b0_1_Sources b0_1_Bundle b0_1_Path)).Grade ((qa.mk (qb.mk b0_1_Course_School b0_1_Course_Code) b0_1_Credits b0_1_Grade b0_1_Day b0_1_Sources b0_1_Bundle b0_1_Path)).Day ((qa.mk (qb.mk b0_1_Course_School b0_1_Course_Code) b0_1_Credits b0_1_Grade b0_1_Day b0_1_Sources b0_1_Bundle b0_1_Path)).Sources ((qa.mk (qb.mk b0_1_Course_School b0_1_Course_Code) b0_1_Credits b0_1_Grade b0_1_Day b0_1_Sources b0_1_Bundle b0_1_Path)).Bundle ((qa.mk (qb.mk b0_1_Course_School b0_1_Course_Code) b0_1_Credits b0_1_Grade b0_1_Day b0_1_Sources b0_1_Bundle b0_1_Path)).Path b0_2_Course_School b0_2_Course_Code b0_2_Credits b0_2_Grade b0_2_Day b0_2_Bundle b0_2_Path ((qf.mk s_Worst s_Best s_Pass)).Worst ((qf.mk s_Worst s_Best s_Pass)).Best ((qf.mk s_Worst s_Best s_Pass)).Pass k _ _ rfl rfl
 first
  | exact h
  | (simp only[rL,dL,bR,bZ,Nat.reduceAdd] at h;exact h)
end
noncomputable section
open Go.RowKit
set_option maxRecDepth 20000
set_option maxHeartbeats 8000000
def Q8 (l_n:Nat) (p:qe) (s:qf) (day:Int) (w1:List Int) (l_0:qa) (l_1:qa) (l_2_Course_School:Int) (l_2_Course_Code:ByteArray) (l_2_Credits:Int) (l_2_Grade:Int) (l_2_Day:Int) (l_2_Bundle:Int) (l_2_Path:List Int):Option ((List qa×Int×qa)⊕(List qa×Int)):=if 0<((l_n:Nat):Int) then if 0<((l_n:Nat):Int) then Option.bind (qs p l_0 day) fun(a:Bool)=>if(!a)=Bool.true then Option.bind (qv l_0) fun(a2:Unit)=>if 1≤maxLen then if 1<((l_n:Nat):Int) then if 1<((l_n:Nat):Int) then Option.bind (qs p l_1 day) fun(a3:Bool)=>if(!a3)=Bool.true then Option.bind (qv l_1) fun(a4:Unit)=>if 2≤maxLen then if 2<((l_n:Nat):Int) then if 2<((l_n:Nat):Int) then Option.bind (qs p (qa.mk (qb.mk l_2_Course_School l_2_Course_Code) l_2_Credits l_2_Grade l_2_Day w1 l_2_Bundle l_2_Path) day) fun(a5:Bool)=>if(!a5)=Bool.true then Option.bind (qv (qa.mk (qb.mk l_2_Course_School l_2_Course_Code) l_2_Credits l_2_Grade l_2_Day w1 l_2_Bundle l_2_Path)) fun(a6:Unit)=>if 3≤maxLen then if 3<((l_n:Nat):Int) then none else Option.bind (qG (qk l_0 l_1 (qa.mk (qb.mk l_2_Course_School l_2_Course_Code) l_2_Credits l_2_Grade l_2_Day w1 l_2_Bundle l_2_Path) s) ([l_0,l_1,qa.mk (qb.mk l_2_Course_School l_2_Course_Code) l_2_Credits l_2_Grade l_2_Day w1 l_2_Bundle l_2_Path],2)) fun(a7:List qa)=>if 10<((a7.length:Nat):Int) then some (Sum.inl ([],2,qa.mk (qb.mk l_2_Course_School l_2_Course_Code) l_2_Credits l_2_Grade l_2_Day w1 l_2_Bundle l_2_Path)) else some (Sum.inl (a7,0,qa.mk (qb.mk l_2_Course_School l_2_Course_Code) l_2_Credits l_2_Grade l_2_Day w1 l_2_Bundle l_2_Path)) else none else if 3<((l_n:Nat):Int) then none else Option.bind (qG (qr w1 l_0 l_1 l_2_Course_School l_2_Course_Code l_2_Credits l_2_Grade l_2_Day l_2_Bundle l_2_Path s) ([l_0,l_1],1)) fun(a8:List qa)=>if 10<((a8.length:Nat):Int) then some (Sum.inr ([],2)) else some (Sum.inr (a8,0)) else none else Option.bind (qG (qr w1 l_0 l_1 l_2_Course_School l_2_Course_Code l_2_Credits l_2_Grade l_2_Day l_2_Bundle l_2_Path s) ([l_0,l_1],1)) fun(a9:List qa)=>if 10<((a9.length:Nat):Int) then some (Sum.inr ([],2)) else some (Sum.inr (a9,0)) else none else if 2<((l_n:Nat):Int) then if 2<((l_n:Nat):Int) then Option.bind (qs p (qa.mk (qb.mk l_2_Course_School l_2_Course_Code) l_2_Credits l_2_Grade l_2_Day w1 l_2_Bundle l_2_Path) day) fun(a10:Bool)=>if(!a10)=Bool.true then Option.bind (qv (qa.mk (qb.mk l_2_Course_School l_2_Course_Code) l_2_Credits l_2_Grade l_2_Day w1 l_2_Bundle l_2_Path)) fun(a11:Unit)=>if 2≤maxLen then if 3<((l_n:Nat):Int) then none else Option.bind (qG (qk l_0 l_1 (qa.mk (qb.mk l_2_Course_School l_2_Course_Code) l_2_Credits l_2_Grade l_2_Day w1 l_2_Bundle l_2_Path) s) ([l_0,qa.mk (qb.mk l_2_Course_School l_2_Course_Code) l_2_Credits l_2_Grade l_2_Day w1 l_2_Bundle l_2_Path],1)) fun(a12:List qa)=>if 10<((a12.length:Nat):Int) then some (Sum.inl ([],2,qa.mk (qb.mk l_2_Course_School l_2_Course_Code) l_2_Credits l_2_Grade l_2_Day w1 l_2_Bundle l_2_Path)) else some (Sum.inl (a12,0,qa.mk (qb.mk l_2_Course_School l_2_Course_Code) l_2_Credits l_2_Grade l_2_Day w1 l_2_Bundle l_2_Path)) else none else if 3<((l_n:Nat):Int) then none else Option.bind (qG (qr w1 l_0 l_1 l_2_Course_School l_2_Course_Code l_2_Credits l_2_Grade l_2_Day l_2_Bundle l_2_Path s) ([l_0],0)) fun(a13:List qa)=>if 10<((a13.length:Nat):Int) then some (Sum.inr ([],2)) else some (Sum.inr (a13,0)) else none else Option.bind (qG (qr w1 l_0 l_1 l_2_Course_School l_2_Course_Code l_2_Credits l_2_Grade l_2_Day l_2_Bundle l_2_Path s) ([l_0],0)) fun(a14:List qa)=>if 10<((a14.length:Nat):Int) then some (Sum.inr ([],2)) else some (Sum.inr (a14,0)) else none else Option.bind (qG (qr w1 l_0 l_1 l_2_Course_School l_2_Course_Code l_2_Credits l_2_Grade l_2_Day l_2_Bundle l_2_Path s) ([l_0],0)) fun(a15:List qa)=>if 10<((a15.length:Nat):Int) then some (Sum.inr ([],2)) else some (Sum.inr (a15,0)) else none else if 1<((l_n:Nat):Int) then if 1<((l_n:Nat):Int) then Option.bind (qs p l_1 day) fun(a16:Bool)=>if(!a16)=Bool.true then Option.bind (qv l_1) fun(a17:Unit)=>if 1≤maxLen then if 2<((l_n:Nat):Int) then if 2<((l_n:Nat):Int) then Option.bind (qs p (qa.mk (qb.mk l_2_Course_School l_2_Course_Code) l_2_Credits l_2_Grade l_2_Day w1 l_2_Bundle l_2_Path) day) fun(a18:Bool)=>if(!a18)=Bool.true then Option.bind (qv (qa.mk (qb.mk l_2_Course_School l_2_Course_Code) l_2_Credits l_2_Grade l_2_Day w1 l_2_Bundle l_2_Path)) fun(a19:Unit)=>if 2≤maxLen then if 3<((l_n:Nat):Int) then none else Option.bind (qG (qk l_0 l_1 (qa.mk (qb.mk l_2_Course_School l_2_Course_Code) l_2_Credits l_2_Grade l_2_Day w1 l_2_Bundle l_2_Path) s) ([l_1,qa.mk (qb.mk l_2_Course_School l_2_Course_Code) l_2_Credits l_2_Grade l_2_Day w1 l_2_Bundle l_2_Path],1)) fun(a20:List qa)=>if 10<((a20.length:Nat):Int) then some (Sum.inl ([],2,qa.mk (qb.mk l_2_Course_School l_2_Course_Code) l_2_Credits l_2_Grade l_2_Day w1 l_2_Bundle l_2_Path)) else some (Sum.inl (a20,0,qa.mk (qb.mk l_2_Course_School l_2_Course_Code) l_2_Credits l_2_Grade l_2_Day w1 l_2_Bundle l_2_Path)) else none else if 3<((l_n:Nat):Int) then none else Option.bind (qG (qr w1 l_0 l_1 l_2_Course_School l_2_Course_Code l_2_Credits l_2_Grade l_2_Day l_2_Bundle l_2_Path s) ([l_1],0)) fun(a21:List qa)=>if 10<((a21.length:Nat):Int) then some (Sum.inr ([],2)) else some (Sum.inr (a21,0)) else none else Option.bind (qG (qr w1 l_0 l_1 l_2_Course_School l_2_Course_Code l_2_Credits l_2_Grade l_2_Day l_2_Bundle l_2_Path s) ([l_1],0)) fun(a22:List qa)=>if 10<((a22.length:Nat):Int) then some (Sum.inr ([],2)) else some (Sum.inr (a22,0)) else none else if 2<((l_n:Nat):Int) then if 2<((l_n:Nat):Int) then Option.bind (qs p (qa.mk (qb.mk l_2_Course_School l_2_Course_Code) l_2_Credits l_2_Grade l_2_Day w1 l_2_Bundle l_2_Path) day) fun(a23:Bool)=>if(!a23)=Bool.true then Option.bind (qv (qa.mk (qb.mk l_2_Course_School l_2_Course_Code) l_2_Credits l_2_Grade l_2_Day w1 l_2_Bundle l_2_Path)) fun(a24:Unit)=>if 1≤maxLen then if 3<((l_n:Nat):Int) then none else Option.bind (qG (qk l_0 l_1 (qa.mk (qb.mk l_2_Course_School l_2_Course_Code) l_2_Credits l_2_Grade l_2_Day w1 l_2_Bundle l_2_Path) s) ([qa.mk (qb.mk l_2_Course_School l_2_Course_Code) l_2_Credits l_2_Grade l_2_Day w1 l_2_Bundle l_2_Path],0)) fun(a25:List qa)=>if 10<((a25.length:Nat):Int) then some (Sum.inl ([],2,qa.mk (qb.mk l_2_Course_School l_2_Course_Code) l_2_Credits l_2_Grade l_2_Day w1 l_2_Bundle l_2_Path)) else some (Sum.inl (a25,0,qa.mk (qb.mk l_2_Course_School l_2_Course_Code) l_2_Credits l_2_Grade l_2_Day w1 l_2_Bundle l_2_Path)) else none else if 3<((l_n:Nat):Int) then none else Option.bind (qG (qr w1 l_0 l_1 l_2_Course_School l_2_Course_Code l_2_Credits l_2_Grade l_2_Day l_2_Bundle l_2_Path s) ([],(-1))) fun(a26:List qa)=>if 10<((a26.length:Nat):Int) then some (Sum.inr ([],2)) else some (Sum.inr (a26,0)) else none else Option.bind (qG (qr w1 l_0 l_1 l_2_Course_School l_2_Course_Code l_2_Credits l_2_Grade l_2_Day l_2_Bundle l_2_Path s) ([],(-1))) fun(a27:List qa)=>if 10<((a27.length:Nat):Int) then some (Sum.inr ([],2)) else some (Sum.inr (a27,0)) else none else Option.bind (qG (qr w1 l_0 l_1 l_2_Course_School l_2_Course_Code l_2_Credits l_2_Grade l_2_Day l_2_Bundle l_2_Path s) ([],(-1))) fun(a28:List qa)=>if 10<((a28.length:Nat):Int) then some (Sum.inr ([],2)) else some (Sum.inr (a28,0)) else none else Option.bind (qG (qr w1 l_0 l_1 l_2_Course_School l_2_Course_Code l_2_Credits l_2_Grade l_2_Day l_2_Bundle l_2_Path s) ([],(-1))) fun(a29:List qa)=>if 10<((a29.length:Nat):Int) then some (Sum.inr ([],2)) else some (Sum.inr (a29,0))
theorem q1e:∀(l_n:Nat) (p_School p_Id p_Version p_From:Int) (p_Name:ByteArray) (p_Need_Kind p_Need_N p_Need_Min:Int) (p_Need_Set:List qb) (p_Need_L:List qg) (p_Total p_Own p_Age:Int) (p_Exclude:List (QF qb)) (s_Worst s_Best s_Pass day:Int) (w1:List Int) (l_0_Course_School:Int) (l_0_Course_Code:ByteArray) (l_0_Credits l_0_Grade l_0_Day:Int) (l_0_Sources:List Int) (l_0_Bundle:Int) (l_0_Path:List Int) (l_1_Course_School:Int) (l_1_Course_Code:ByteArray) (l_1_Credits l_1_Grade l_1_Day:Int) (l_1_Sources:List Int) (l_1_Bundle:Int) (l_1_Path:List Int) (l_2_Course_School:Int) (l_2_Course_Code:ByteArray) (l_2_Credits l_2_Grade l_2_Day l_2_Bundle:Int) (l_2_Path:List Int) (w1_len:Nat),w1_len=w1.length→ev 11 1 [rO 0 8 l_n,R.agg [dI p_School,dI p_Id,dI p_Version,dI p_From,dS p_Name,dI p_Need_Kind,dI p_Need_N,dI p_Need_Min,dL 2 qh p_Need_Set,dL 5 qq p_Need_L,dI p_Total,dI p_Own,dI p_Age,dL 4 (eA2 qh) p_Exclude],R.agg [dI s_Worst,dI s_Best,dI s_Pass],rI day] [(0,B.blk 52 [dI l_0_Course_School,dS l_0_Course_Code,dI l_0_Credits,dI l_0_Grade,dI l_0_Day,dL 1 eI l_0_Sources,dI l_0_Bundle,dL 1 eI l_0_Path,dI l_1_Course_School,dS l_1_Course_Code,dI l_1_Credits,dI l_1_Grade,dI l_1_Day,dL 1 eI l_1_Sources,dI l_1_Bundle,dL 1 eI l_1_Path,dI l_2_Course_School,dS l_2_Course_Code,dI l_2_Credits,dI l_2_Grade,dI l_2_Day,dO 1 1 w1_len,dI l_2_Bundle,dL 1 eI l_2_Path]),(1,bR 3 1 eI w1)]=(Q8 l_n (qe.mk p_School p_Id p_Version p_From p_Name (qg.mk p_Need_Kind p_Need_N p_Need_Min p_Need_Set p_Need_L) p_Total p_Own p_Age p_Exclude) (qf.mk s_Worst s_Best s_Pass) day w1 (qa.mk (qb.mk l_0_Course_School l_0_Course_Code) l_0_Credits l_0_Grade l_0_Day l_0_Sources l_0_Bundle l_0_Path) (qa.mk (qb.mk l_1_Course_School l_1_Course_Code) l_1_Credits l_1_Grade l_1_Day l_1_Sources l_1_Bundle l_1_Path) l_2_Course_School l_2_Course_Code l_2_Credits l_2_Grade l_2_Day l_2_Bundle l_2_Path).bind (Sum.elim (fun(e:List qa×Int×qa)=>some (R.tup [rL 8 qc e.1,rI e.2.1],[(0,B.blk 52 [dI l_0_Course_School,dS l_0_Course_Code,dI l_0_Credits,dI l_0_Grade,dI l_0_Day,dL 1 eI l_0_Sources,dI l_0_Bundle,dL 1 eI l_0_Path,dI l_1_Course_School,dS l_1_Course_Code,dI l_1_Credits,dI l_1_Grade,dI l_1_Day,dL 1 eI l_1_Sources,dI l_1_Bundle,dL 1 eI l_1_Path,dI e.2.2.Course.School,dS e.2.2.Course.Code,dI e.2.2.Credits,dI e.2.2.Grade,dI e.2.2.Day,dL 1 eI e.2.2.Sources,dI e.2.2.Bundle,dL 1 eI e.2.2.Path])])) (fun(e:List qa×Int)=>some (R.tup [rL 8 qc e.1,rI e.2],[(0,B.blk 52 [dI l_0_Course_School,dS l_0_Course_Code,dI l_0_Credits,dI l_0_Grade,dI l_0_Day,dL 1 eI l_0_Sources,dI l_0_Bundle,dL 1 eI l_0_Path,dI l_1_Course_School,dS l_1_Course_Code,dI l_1_Credits,dI l_1_Grade,dI l_1_Day,dL 1 eI l_1_Sources,dI l_1_Bundle,dL 1 eI l_1_Path,dI l_2_Course_School,dS l_2_Course_Code,dI l_2_Credits,dI l_2_Grade,dI l_2_Day,dO 1 1 w1.length,dI l_2_Bundle,dL 1 eI l_2_Path]),(1,bR 3 1 eI w1)]))):=
 by
 intro l_n p_School p_Id p_Version p_From p_Name p_Need_Kind p_Need_N p_Need_Min p_Need_Set p_Need_L p_Total p_Own p_Age p_Exclude s_Worst s_Best s_Pass day w1 l_0_Course_School l_0_Course_Code l_0_Credits l_0_Grade l_0_Day l_0_Sources l_0_Bundle l_0_Path l_1_Course_School l_1_Course_Code l_1_Credits l_1_Grade l_1_Day l_1_Sources l_1_Bundle l_1_Path l_2_Course_School l_2_Course_Code l_2_Credits l_2_Grade l_2_Day l_2_Bundle l_2_Path w1_len h0
 subst h0
 rw[qD qi6 qp3.2.2.2 qlT]
 have:=qi3;have:=@QB;have:=@Jq;have:=@Zo;have:=@Jp;have:=@Jm;have:=@Ji;have:=@Jd;have:=@Jn;have:=@Q8.eq_1;have:=fun(E:Orc) (k:Nat) (s:S)=>q7Y (E:=E) (k:=k) (s:=s) qdI qcm;have:=@q6T.eq_1;have:=@q4j;have:=@q7C;have:=@qca;have:=@q84;have:=@qaO;have:=@q7p;have:=@qaT;exact gA
theorem q09:∀(p_School p_Id p_Version p_From:Int) (p_Name:ByteArray) (p_Need_Kind p_Need_N p_Need_Min p_Total p_Own p_Age w10 l_0_Course_School:Int) (l_0_Course_Code:ByteArray) (l_0_Credits l_0_Grade l_0_Day l_0_Sources0 l_0_Bundle l_1_Course_School:Int) (l_1_Course_Code:ByteArray) (l_1_Credits l_1_Grade l_1_Day l_1_Sources0 l_1_Bundle:Int) (l_n:Nat) (s_Worst s_Best s_Pass day l_2_Course_School:Int) (l_2_Course_Code:ByteArray) (l_2_Credits l_2_Grade l_2_Day l_2_Bundle:Int),ev 11 1 [rO 0 8 l_n,R.agg [dI p_School,dI p_Id,dI p_Version,dI p_From,dS p_Name,dI p_Need_Kind,dI p_Need_N,dI p_Need_Min,C.d (D.sl 2 0 []),C.d (D.sl 5 0 []),dI p_Total,dI p_Own,dI p_Age,C.d (D.sl 4 0 [])],R.agg [dI s_Worst,dI s_Best,dI s_Pass],rI day] [(0,B.blk 52 [dI l_0_Course_School,dS l_0_Course_Code,dI l_0_Credits,dI l_0_Grade,dI l_0_Day,C.d (D.sl 1 1 [D.int .i64 l_0_Sources0]),dI l_0_Bundle,C.d (D.sl 1 0 []),dI l_1_Course_School,dS l_1_Course_Code,dI l_1_Credits,dI l_1_Grade,dI l_1_Day,C.d (D.sl 1 1 [D.int .i64 l_1_Sources0]),dI l_1_Bundle,C.d (D.sl 1 0 []),dI l_2_Course_School,dS l_2_Course_Code,dI l_2_Credits,dI l_2_Grade,dI l_2_Day,dO 1 1 1,dI l_2_Bundle,C.d (D.sl 1 0 [])]),(1,B.row 3 1 [dI w10])]=(Q8 l_n (qe.mk p_School p_Id p_Version p_From p_Name (qg.mk p_Need_Kind p_Need_N p_Need_Min ([]:List qb) ([]:List qg)) p_Total p_Own p_Age ([]:List (QF qb))) (qf.mk s_Worst s_Best s_Pass) day [w10] (qa.mk (qb.mk l_0_Course_School l_0_Course_Code) l_0_Credits l_0_Grade l_0_Day [l_0_Sources0] l_0_Bundle ([]:List Int)) (qa.mk (qb.mk l_1_Course_School l_1_Course_Code) l_1_Credits l_1_Grade l_1_Day [l_1_Sources0] l_1_Bundle ([]:List Int)) l_2_Course_School l_2_Course_Code l_2_Credits l_2_Grade l_2_Day l_2_Bundle ([]:List Int)).bind (Sum.elim (fun(e:List qa×Int×qa)=>some (R.tup [rL 8 qc e.1,rI e.2.1],[(0,B.blk 52 [dI l_0_Course_School,dS l_0_Course_Code,dI l_0_Credits,dI l_0_Grade,dI l_0_Day,C.d (D.sl 1 [l_0_Sources0].length ([l_0_Sources0].flatMap eI)),dI l_0_Bundle,C.d (D.sl 1 ([]:List Int).length (([]:List Int).flatMap eI)),dI l_1_Course_School,dS l_1_Course_Code,dI l_1_Credits,dI l_1_Grade,dI l_1_Day,C.d (D.sl 1 [l_1_Sources0].length ([l_1_Sources0].flatMap eI)),dI l_1_Bundle,C.d (D.sl 1 ([]:List Int).length (([]:List Int).flatMap eI)),dI e.2.2.Course.School,dS e.2.2.Course.Code,dI e.2.2.Credits,dI e.2.2.Grade,dI e.2.2.Day,dL 1 eI e.2.2.Sources,dI e.2.2.Bundle,dL 1 eI e.2.2.Path])])) (fun(e:List qa×Int)=>some (R.tup [rL 8 qc e.1,rI e.2],[(0,B.blk 52 [dI l_0_Course_School,dS l_0_Course_Code,dI l_0_Credits,dI l_0_Grade,dI l_0_Day,C.d (D.sl 1 [l_0_Sources0].length ([l_0_Sources0].flatMap eI)),dI l_0_Bundle,C.d (D.sl 1 ([]:List Int).length (([]:List Int).flatMap eI)),dI l_1_Course_School,dS l_1_Course_Code,dI l_1_Credits,dI l_1_Grade,dI l_1_Day,C.d (D.sl 1 [l_1_Sources0].length ([l_1_Sources0].flatMap eI)),dI l_1_Bundle,C.d (D.sl 1 ([]:List Int).length (([]:List Int).flatMap eI)),dI l_2_Course_School,dS l_2_Course_Code,dI l_2_Credits,dI l_2_Grade,dI l_2_Day,C.own 1 1 0 [w10].length,dI l_2_Bundle,C.d (D.sl 1 ([]:List Int).length (([]:List Int).flatMap eI))]),(1,B.row 3 1 (([w10].flatMap eI).map C.d))]))):=by
 intro p_School p_Id p_Version p_From p_Name p_Need_Kind p_Need_N p_Need_Min p_Total p_Own p_Age w10 l_0_Course_School l_0_Course_Code l_0_Credits l_0_Grade l_0_Day l_0_Sources0 l_0_Bundle l_1_Course_School l_1_Course_Code l_1_Credits l_1_Grade l_1_Day l_1_Sources0 l_1_Bundle l_n s_Worst s_Best s_Pass day l_2_Course_School l_2_Course_Code l_2_Credits l_2_Grade l_2_Day l_2_Bundle;have h:=q1e l_n ((qe.mk p_School p_Id p_Version p_From p_Name (qg.mk p_Need_Kind p_Need_N p_Need_Min ([]:List qb) ([]:List qg)) p_Total p_Own p_Age ([]:List (QF qb)))).School ((qe.mk p_School p_Id p_Version p_From p_Name (qg.mk p_Need_Kind p_Need_N p_Need_Min ([]:List qb) ([]:List qg)) p_Total p_Own p_Age ([]:List (QF qb)))).Id ((qe.mk p_School p_Id p_Version p_From p_Name (qg.mk p_Need_Kind p_Need_N p_Need_Min ([]:List qb) ([]:List qg)) p_Total p_Own p_Age ([]:List (QF qb)))).Version ((qe.mk p_School p_Id p_Version p_From p_Name (qg.mk p_Need_Kind p_Need_N p_Need_Min ([]:List qb) ([]:List qg)) p_Total p_Own p_Age ([]:List (QF qb)))).From ((qe.mk p_School p_Id p_Version p_From p_Name (qg.mk p_Need_Kind p_Need_N p_Need_Min ([]:List qb) ([]:List qg)) p_Total p_Own p_Age ([]:List (QF qb)))).Name ((qe.mk p_School p_Id p_Version p_From p_Name (qg.mk p_Need_Kind p_Need_N p_Need_Min ([]:List qb) ([]:List qg)) p_Total p_Own p_Age ([]:List (QF qb)))).Need.Kind ((qe.mk p_School p_Id p_Version p_From p_Name (qg.mk p_Need_Kind p_Need_N p_Need_Min ([]:List qb) ([]:List qg)) p_Total p_Own p_Age ([]:List (QF qb)))).Need.N ((qe.mk p_School p_Id p_Version p_From p_Name (qg.mk p_Need_Kind p_Need_N p_Need_Min ([]:List qb) ([]:List qg)) p_Total p_Own p_Age ([]:List (QF qb)))).Need.Min ((qe.mk p_School p_Id p_Version p_From p_Name (qg.mk p_Need_Kind p_Need_N p_Need_Min ([]:List qb) ([]:List qg)) p_Total p_Own p_Age ([]:List (QF qb)))).Need.Set ((qe.mk p_School p_Id p_Version p_From p_Name (qg.mk p_Need_Kind p_Need_N p_Need_Min ([]:List qb) ([]:List qg)) p_Total p_Own p_Age ([]:List (QF qb)))).Need.L ((qe.mk p_School p_Id p_Version p_From p_Name (qg.mk p_Need_Kind p_Need_N p_Need_Min ([]:List qb) ([]:List qg)) p_Total p_Own p_Age ([]:List (QF qb)))).Total ((qe.mk p_School p_Id p_Version p_From p_Name (qg.mk p_Need_Kind p_Need_N p_Need_Min ([]:List qb) ([]:List qg)) p_Total p_Own p_Age ([]:List (QF qb)))).Own ((qe.mk p_School p_Id p_Version p_From p_Name (qg.mk p_Need_Kind p_Need_N p_Need_Min ([]:List qb) ([]:List qg)) p_Total p_Own p_Age ([]:List (QF qb)))).Age ((qe.mk p_School p_Id p_Version p_From p_Name (qg.mk p_Need_Kind p_Need_N p_Need_Min ([]:List qb) ([]:List qg)) p_Total p_Own p_Age ([]:List (QF qb)))).Exclude ((qf.mk s_Worst s_Best s_Pass)).Worst ((qf.mk s_Worst s_Best s_Pass)).Best ((qf.mk s_Worst s_Best s_Pass)).Pass day [w10] ((qa.mk (qb.mk l_0_Course_School l_0_Course_Code) l_0_Credits l_0_Grade l_0_Day [l_0_Sources0] l_0_Bundle ([]:List Int))).Course.School ((qa.mk (qb.mk l_0_Course_School l_0_Course_Code) l_0_Credits l_0_Grade l_0_Day [l_0_Sources0] l_0_Bundle ([]:List Int))).Course.Code ((qa.mk (qb.mk l_0_Course_School l_0_Course_Code) l_0_Credits l_0_Grade l_0_Day [l_0_Sources0] l_0_Bundle ([]:List Int))).Credits ((qa.mk (qb.mk l_0_Course_School l_0_Course_Code) l_0_Credits l_0_Grade l_0_Day [l_0_Sources0] l_0_Bundle ([]:List Int))).Grade ((qa.mk (qb.mk l_0_Course_School l_0_Course_Code) l_0_Credits l_0_Grade l_0_Day [l_0_Sources0] l_0_Bundle ([]:List Int))).Day ((qa.mk (qb.mk l_0_Course_School l_0_Course_Code) l_0_Credits l_0_Grade l_0_Day [l_0_Sources0] l_0_Bundle ([]:List Int))).Sources ((qa.mk (qb.mk l_0_Course_School l_0_Course_Code) l_0_Credits l_0_Grade l_0_Day [l_0_Sources0] l_0_Bundle ([]:List Int))).Bundle ((qa.mk (qb.mk l_0_Course_School l_0_Course_Code) l_0_Credits l_0_Grade l_0_Day [l_0_Sources0] l_0_Bundle ([]:List Int))).Path ((qa.mk (qb.mk l_1_Course_School l_1_Course_Code) l_1_Credits l_1_Grade l_1_Day [l_1_Sources0] l_1_Bundle ([]:List Int))).Course.School ((qa.mk (qb.mk l_1_Course_School l_1_Course_Code) l_1_Credits l_1_Grade l_1_Day [l_1_Sources0] l_1_Bundle ([]:List Int))).Course.Code ((qa.mk (qb.mk l_1_Course_School l_1_Course_Code) l_1_Credits l_1_Grade l_1_Day [l_1_Sources0] l_1_Bundle ([]:List Int))).Credits ((qa.mk (qb.mk l_1_Course_School l_1_Course_Code) l_1_Credits l_1_Grade l_1_Day [l_1_Sources0] l_1_Bundle ([]:List Int))).Grade ((qa.mk (qb.mk l_1_Course_School l_1_Course_Code) l_1_Credits l_1_Grade l_1_Day [l_1_Sources0] l_1_Bundle ([]:List Int))).Day ((qa.mk (qb.mk l_1_Course_School l_1_Course_Code) l_1_Credits l_1_Grade l_1_Day [l_1_Sources0] l_1_Bundle ([]:List Int))).Sources ((qa.mk (qb.mk l_1_Course_School l_1_Course_Code) l_1_Credits l_1_Grade l_1_Day [l_1_Sources0] l_1_Bundle ([]:List Int))).Bundle ((qa.mk (qb.mk l_1_Course_School l_1_Course_Code) l_1_Credits l_1_Grade l_1_Day [l_1_Sources0] l_1_Bundle ([]:List Int))).Path l_2_Course_School l_2_Course_Code l_2_Credits l_2_Grade l_2_Day l_2_Bundle ([]:List Int) _ rfl
 first
  | exact h
  | (simp only[rL,dL,bR,bZ,Nat.reduceAdd] at h;exact h)
theorem qtg:okL 18 q9n:=qI (qi qoE) (by kernel_rfl) (by kernel_rfl)
def qso:=JA_ @q9n.eq_1 (JA_ @Try.f18.eq_1 @qoE)
theorem qle:lbO 18 4=qc6:=Q3 (qi qoE) rfl
theorem ql4:okL 18 qc6:=zh qtg (qvW (i:=0) (by kernel_rfl))
def zo (a:List (List Int)) (b:List (List Int)):Int→Option (Int⊕(Unit⊕Unit))|k=>if k<((a.length:Nat):Int) then if 0≤k∧k<((a.length:Nat):Int) then Option.bind a[Int.toNat k]? fun(a2:List Int)=>if 0≤k∧k<((b.length:Nat):Int) then Option.bind b[Int.toNat k]? fun(a3:List Int)=>Option.bind (zW a2 a3) fun(a4:Bool)=>if(!a4)=Bool.true then some (Sum.inr (Sum.inl ())) else some (Sum.inl (w64 (k+1))) else none else none else some (Sum.inr (Sum.inr ()))
theorem Jw:∀(a b:List (List Int)) (k:Int),XL2 evo 18 0 4 ⟨[(0,rL 1 (eL 1 eI) a),(1,rL 1 (eL 1 eI) b),(5,rI k)],[],0,29⟩=(qG (zo a b) k).bind (Sum.elim (fun(e:Unit)=>some (Exit.ret,⟨[(4,rB Bool.false)],[],0,29⟩)) (fun(e:Unit)=>some (Exit.exit 0,⟨[(4,R.any)],[],0,29⟩))):=
 fun a b k=>by
  revert k;exact q8X qle ql4 (fun e=>by rcases e with _|_<;>exact⟨_,rfl,fun h=>by cases h⟩) fun x=>by
   have:=qso;have:=@qc6.eq_1;have:=@ZU;have:=@zo.eq_1;exact gA
def zy (a:List (List Int)) (b:List (List Int)):Option Bool:=if(((a.length:Nat):Int) != ((b.length:Nat):Int))=Bool.true then some Bool.false else Option.bind (qG (zo a b) 0) fun(a2:Sum Unit Unit)=>Sum.elim (fun(a3:Unit)=>some Bool.false) (fun(a4:Unit)=>some Bool.true) a2
theorem q0G:∀(a b:List (List Int)),ev 18 0 [rL 1 (eL 1 eI) a,rL 1 (eL 1 eI) b] []=(zy a b).bind (fun(e:Bool)=>some (rB e,[])):=
 fun a b=>by
  rw[qD qoE qts.2.2.2 qtg]
  have:=qso;have:=@Jw;have:=@zy.eq_1;exact gA
theorem Jx:∀(b00 b01 b02 b10:Int) (a:List (List Int)),ev 18 0 [rL 1 (eL 1 eI) a,R.c (C.d (D.sl 1 2 [D.sl 1 3 [D.int .i64 b00,D.int .i64 b01,D.int .i64 b02],D.sl 1 1 [D.int .i64 b10]]))] []=(zy a [[b00,b01,b02],[b10]]).bind (fun(e:Bool)=>some (rB e,[])):=by
 intro b00 b01 b02 b10 a;have h:=q0G a [[b00,b01,b02],[b10]]
 first
  | exact h
  | (simp only[rL,dL,bR,bZ,Nat.reduceAdd] at h;exact h)
def QV:Option Bool:=Option.bind (Q7 3 (qe.mk 1 0 0 0 (ByteArray.mk (List.toArray [])) (qg.mk 0 0 0 [] []) 0 0 0 []) (qf.mk 0 100 50) 100 (qa.mk (qb.mk 1 (ByteArray.mk (List.toArray [65,49]))) 5 60 5 [(1:Int)] 0 []) (qa.mk (qb.mk 1 (ByteArray.mk (List.toArray [65,49]))) 5 70 9 [(2:Int)] 0 []) (qa.mk (qb.mk 1 (ByteArray.mk (List.toArray [66,49]))) 5 50 0 [(3:Int)] 0 [])) fun(a:Prod (List qa) Int)=>Option.bind (Q8 3 (qe.mk 1 0 0 0 (ByteArray.mk (List.toArray [])) (qg.mk 0 0 0 [] []) 0 0 0 []) (qf.mk 0 100 50) 100 [(2:Int)] (qa.mk (qb.mk 1 (ByteArray.mk (List.toArray [65,49]))) 5 60 5 [(1:Int)] 0 []) (qa.mk (qb.mk 1 (ByteArray.mk (List.toArray [65,49]))) 5 70 9 [(2:Int)] 0 []) 1 (ByteArray.mk (List.toArray [66,49])) 5 50 0 1 []) fun(a2:Sum (Prod (List qa) (Prod Int qa)) (Prod (List qa) Int))=>Sum.elim (fun(a3:Prod (List qa) (Prod Int qa))=>if(a.2 != 0)=Bool.true then some Bool.false else if(a3.2.1 != 0)=Bool.true then some Bool.false else if(((a.1.length:Nat):Int) != 2)=Bool.true then some Bool.false else if 0<((a.1.length:Nat):Int) then Option.bind a.1[0]? fun(a5:qa)=>if(a5.Grade != 70)=Bool.true then some Bool.false else if 1<((a.1.length:Nat):Int) then Option.bind a.1[1]? fun(a6:qa)=>if(!(ByteArray.toList a6.Course.Code==ByteArray.toList (ByteArray.mk (List.toArray [66,49]))))=Bool.true then some Bool.false else if(((a3.1.length:Nat):Int) != 3)=Bool.true then some Bool.false else Option.bind (QE [qa.mk (qb.mk 1 (ByteArray.mk (List.toArray [65,49]))) 5 60 0 [(1:Int)] 0 [],qa.mk (qb.mk 1 (ByteArray.mk (List.toArray [66,49]))) 10 60 0 [(3:Int)] 0 [],qa.mk (qb.mk 1 (ByteArray.mk (List.toArray [65,49]))) 6 60 0 [(2:Int)] 0 []]) fun(a7:Prod Int Int)=>if(a7.2==0)=Bool.true then if(a7.1==16)=Bool.true then Option.bind (Qc [qa.mk (qb.mk 1 (ByteArray.mk (List.toArray [65,49]))) 5 60 0 [(1:Int)] 0 [],qa.mk (qb.mk 1 (ByteArray.mk (List.toArray [66,49]))) 10 60 0 [(3:Int)] 0 [],qa.mk (qb.mk 1 (ByteArray.mk (List.toArray [65,49]))) 6 60 0 [(2:Int)] 0 [],qa.mk (qb.mk 1 (ByteArray.mk (List.toArray [67,49]))) 5 60 0 [(2:Int)] 1 []]) fun(a8:List (List Int))=>Option.bind (zy a8 [[(0:Int),2,3],[(1:Int)]]) fun(e0:Bool)=>some e0 else some Bool.false else some Bool.false else none else none) (fun(a4:Prod (List qa) Int)=>if(a.2 != 0)=Bool.true then some Bool.false else if(a4.2 != 0)=Bool.true then some Bool.false else if(((a.1.length:Nat):Int) != 2)=Bool.true then some Bool.false else if 0<((a.1.length:Nat):Int) then Option.bind a.1[0]? fun(a9:qa)=>if(a9.Grade != 70)=Bool.true then some Bool.false else if 1<((a.1.length:Nat):Int) then Option.bind a.1[1]? fun(a10:qa)=>if(!(ByteArray.toList a10.Course.Code==ByteArray.toList (ByteArray.mk (List.toArray [66,49]))))=Bool.true then some Bool.false else if(((a4.1.length:Nat):Int) != 3)=Bool.true then some Bool.false else Option.bind (QE [qa.mk (qb.mk 1 (ByteArray.mk (List.toArray [65,49]))) 5 60 0 [(1:Int)] 0 [],qa.mk (qb.mk 1 (ByteArray.mk (List.toArray [66,49]))) 10 60 0 [(3:Int)] 0 [],qa.mk (qb.mk 1 (ByteArray.mk (List.toArray [65,49]))) 6 60 0 [(2:Int)] 0 []]) fun(a11:Prod Int Int)=>if(a11.2==0)=Bool.true then if(a11.1==16)=Bool.true then Option.bind (Qc [qa.mk (qb.mk 1 (ByteArray.mk (List.toArray [65,49]))) 5 60 0 [(1:Int)] 0 [],qa.mk (qb.mk 1 (ByteArray.mk (List.toArray [66,49]))) 10 60 0 [(3:Int)] 0 [],qa.mk (qb.mk 1 (ByteArray.mk (List.toArray [65,49]))) 6 60 0 [(2:Int)] 0 [],qa.mk (qb.mk 1 (ByteArray.mk (List.toArray [67,49]))) 5 60 0 [(2:Int)] 1 []]) fun(a12:List (List Int))=>Option.bind (zy a12 [[(0:Int),2,3],[(1:Int)]]) fun(e02:Bool)=>some e02 else some Bool.false else some Bool.false else none else none) a2
theorem q2w:ev 8 0 [] []=(QV).bind (fun(e:Bool)=>some (rB e,[])):=
 by
  rw[qD bd8 pw8.2.2.2 lo8]
  have:=cx8;have:=@q4w;have:=@J6;have:=@q0d;have:=@q09;have:=@q1O;have:=@q15;have:=@Jx;have:=@QV.eq_1;exact gA
end

noncomputable section
open Go.RowKit
structure Za (d:qd):Prop where
 lo:0≤d.At
 hi:d.At≤d.L.length
 len:d.L.length≤9223372036854775807
theorem JA {d:qd} (h:Za d) {most:Int} (h0:0<most) (h1:most≤1000000):∃v d',qj most d=some (v,d')∧0≤v∧v<most∧Za d':=by
 obtain⟨a,b,c⟩:=h
 unfold qj
 by_cases he:(d.L.length:Int)≤d.At
 ·exact⟨0,d,if_pos he,Int.le_refl _,h0,⟨a,b,c⟩⟩
 ·obtain⟨x,hx⟩:∃x,d.L[Int.toNat d.At]?=some x:=⟨_,qvX (by omega)⟩
  have e1:=Int.tmod_lt_of_pos x h0
  have e2 : -most<Int.tmod x most:=by
   have:=Int.tmod_lt_of_pos (-x) h0
   rw[Int.neg_tmod] at this;omega
  have e3:w64 (Int.tmod x most+most)=Int.tmod x most+most:=Qj (by omega) (by omega)
  have e4:=Int.tmod_lt_of_pos (Int.tmod x most+most) h0
  have e5:0≤Int.tmod (Int.tmod x most+most) most:=Int.tmod_nonneg _ (by omega)
  have e6:w64 (d.At+1)=d.At+1:=Qj (by omega) (by omega)
  refine⟨Int.tmod (Int.tmod x most+most) most,⟨d.L,d.At+1⟩,?_,e5,e4,⟨by show 0≤d.At+1;omega,by show d.At+1≤d.L.length;omega,c⟩⟩
  rw[if_neg he,if_pos ⟨a,by omega⟩,hx,qvV,if_neg (by omega),if_neg (by omega),e3,e6]
def q3b:List Int:=[1,1,1,2,2,3]
def qdj (c:qb):Prop:=c.School∈q3b∧c.Code∈qw
theorem qf2 {α:Type} (l:List α) (i:Int) (h0:0≤i) (h1:i<l.length):∃x,l[Int.toNat i]?=some x∧x∈l:=⟨l[Int.toNat i],qvX (by omega),qwM _⟩
theorem q7E {d:qd} (h:Za d):∃c d',Qf d=some (c,d')∧qdj c∧Za d':=by
 obtain⟨v,d1,e1,a1,b1,h1⟩:=JA h (most:=6) (by omega) (by omega)
 obtain⟨w,d2,e2,a2,b2,h2⟩:=JA h1 (most:=((qw.length:Nat):Int)) (by unfold qw;simp) (by unfold qw;simp)
 obtain⟨x,hx,mx⟩:=qf2 q3b v a1 (by simpa [q3b] using b1)
 obtain⟨y,hy,my⟩:=qf2 qw w a2 b2
 refine⟨⟨x,y⟩,d2,?_,⟨mx,my⟩,h2⟩
 unfold Qf
 rw[e1,qvV,if_pos ⟨a1,b1⟩]
 unfold q3b at hx
 rw[hx,qvV,e2,qvV,if_pos ⟨a2,b2⟩,hy,qvV]
def q7D (a b:qb):Bool:=zu a b
def ceq (a b:qb):Bool:=(a.School==b.School)&&(a.Code.toList==b.Code.toList)
def qk8 {α:Type} (l:List α) (k:Nat) (c:α):List α:=l.take k++c::l.drop k
theorem qgK {α:Type}:∀(ys l:List α) (k:Nat),k+ys.length≤l.length→spl l k ys=l.take k++(ys++l.drop (k+ys.length))
 | [],l,k,_=>by rw[spl,qwE,Nat.add_zero,qwf,qwJ]
 | x::ys,l,k,h=>by
  simp only[qw6] at h ⊢
  rw[spl,qgK ys (l.set k x) (k+1) (by rw[qwG];omega)]
  have e:l.set k x=l.take k++x::l.drop (k+1):=by rw[List.set_eq_take_append_cons_drop,if_pos (by omega)]
  have hl:(l.take k).length=k:=by rw[qwo];omega
  have e1:(l.set k x).take (k+1)=l.take k++[x]:=by
   rw[e,List.take_append,hl,qx0 (by omega),show k+1-k=1 by omega];rfl
  have e2:(l.set k x).drop (k+1+ys.length)=l.drop (k+(ys.length+1)):=by
   rw[e,List.drop_append,hl,qwB (by omega),qwf,show k+1+ys.length-k=ys.length+1 by omega,List.drop_succ_cons,qwI]
   congr 1;omega
  rw[e1,e2,qwA]
  rfl
theorem qh7 {α:Type} (l:List α) (z c:α) (k:Nat) (h:k<l.length):List.set (spl (l++[z]) (k+1) (List.take (min (l.length+1-k) (l.length+1-(k+1))) (List.take (l.length+1-k) (List.drop k (l++[z]))))) k c=qk8 l k c:=by
 have e1:List.take (min (l.length+1-k) (l.length+1-(k+1))) (List.take (l.length+1-k) (List.drop k (l++[z])))=l.drop k:=by
  rw[List.take_take,List.drop_append_of_le_length (by omega),show min (min (l.length+1-k) (l.length+1-(k+1))) (l.length+1-k)=l.length-k by omega,List.take_append_of_le_length (by rw[qwH];omega),qx0 (by rw[qwH];omega)]
 rw[e1,qgK _ _ _ (by rw[qwH,qw2,qwd];omega)]
 unfold qk8
 have e2:List.drop (k+1+(l.length-k)) (l++[z])=[]:=qwB (by rw[qw2,qwd];omega)
 rw[qwH,e2,qwg,List.take_append_of_le_length (by omega)]
 rw[List.take_add_one,qvX h,Option.toList_some,qwA,List.set_append_right _ _ (by rw[qwo];omega),qwo,Nat.min_eq_left (by omega),Nat.sub_self]
 rfl
theorem qg6 {α:Type} (l:List α) (z c:α):List.set (l++[z]) l.length c=qk8 l l.length c:=by
 unfold qk8
 rw[List.set_append_right _ _ (qwb _),Nat.sub_self,List.take_length,List.drop_length]
 rfl
def atF (l:List qb) (c:qb):Nat:=(l.takeWhile fun x=>q7D x c).length
theorem qh0 (l:List qb) (c:qb):atF l c≤l.length:=by
 unfold atF
 induction l with
 | nil=>simp
 | cons x l ih=>rw[List.takeWhile_cons];split<;>simp<;>omega
theorem qhm (out:List qb) (hl:out.length≤1000000) (d:qd) (c:qb) (many k:Int):qG (Qh out d c many k) 0=some ((atF out c:Nat):Int):=by
 have h1:=qat (ε:=Int) (step:=Qh out d c many k) out (fun(_:Unit) i=>(i:Int)) (fun i _ x=>if q7D x c=true then .inl () else .inr (i:Int)) (fun _=>(out.length:Int)) (fun _ i x hx=>by
   have hi:=Qb hx
   unfold Qh
   rw[if_pos (by omega),if_pos ⟨by omega,by omega⟩,qvY,hx,qvV,q5N hi (by omega)]
   show(if q7D x c=true then _ else _)=_
   cases q7D x c<;>simp) (fun _=>by
   unfold Qh
   rw[if_neg (by omega)]) ()
 rw[show((0:Nat):Int)=0 from rfl] at h1
 rw[h1]
 congr 1
 have:∀(l:List qb) (i:Nat) (n:Nat),i+l.length=n→q7Q (ε:=Int) (fun i (_:Unit) (x:qb)=>if q7D x c=true then .inl () else .inr (i:Int)) (fun _=>(n:Int)) l i ()=((i+atF l c:Nat):Int):=by
  intro l
  induction l with
  | nil=>intro i n h;simp at h;unfold q7Q atF;simp[h]
  | cons x l ih=>
   intro i n h
   simp only[qw6] at h
   unfold q7Q
   by_cases hx:q7D x c=true
   ·have e:atF (x::l) c=atF l c+1:=by unfold atF;rw[List.takeWhile_cons,if_pos hx];rfl
    simp only[hx,if_true]
    rw[ih (i+1) n (by omega),e]
    omega
   ·have e:atF (x::l) c=0:=by unfold atF;rw[List.takeWhile_cons,if_neg hx];rfl
    have hx':q7D x c=false:=by simpa using hx
    simp only[hx',Bool.false_eq_true,if_false]
    rw[e];rfl
 have:=this out 0 out.length (by simp)
 simpa using this
def qk4 (l:List qb) (c:qb):List qb:=if(l[atF l c]?).any (fun x=>ceq x c)=true then l else qk8 l (atF l c) c
theorem qjQ (l:List qb) (c:qb):l.length≤(qk4 l c).length∧(qk4 l c).length≤l.length+1∧1≤(qk4 l c).length:=by
 have h:=qh0 l c
 unfold qk4
 split
 ·rename_i h2
  refine⟨qwb _,by omega,?_⟩
  cases l with
  | nil=>simp at h2
  | cons x l=>simp
 ·unfold qk8
  simp only[qw2,qw6,qwo,qwH]
  omega
theorem qb4 (out:List qb) (hl:out.length≤1000) {d:qd} (hd:Za d) (many:Int) (k:Nat) (hk:(k:Int)<many) (hk2:k≤1000):∃c d',qdj c∧Za d'∧zE many (out,d,(k:Int))=some (.inl (qk4 out c,d',((k+1:Nat):Int))):=by
 obtain⟨c,d',h1,h2,h3⟩:=q7E hd
 refine⟨c,d',h2,h3,?_⟩
 have hML:100000≤maxLen:=by unfold maxLen;omega
 have hat:=qh0 out c
 unfold zE
 simp only
 rw[if_pos hk,h1,qvV]
 simp only
 rw[qhm out (by omega),qvV]
 have hwk:w64 ((k:Int)+1)=((k+1:Nat):Int):=by rw[Qj (by omega) (by omega)];omega
 have hwa:w64 (((atF out c:Nat):Int)+1)=((atF out c+1:Nat):Int):=by rw[Qj (by omega) (by omega)];omega
 rw[hwk,hwa]
 simp only[qvY,qwo,qwH,qw2,qw6,qwE]
 unfold qk4
 by_cases hlt:atF out c<out.length
 ·obtain⟨x,hx⟩:∃x,out[atF out c]?=some x:=⟨_,qvX hlt⟩
  rw[if_pos (by omega),if_pos ⟨by omega,by omega⟩,hx,qvV]
  simp only[Option.any_some]
  by_cases hc:ceq x c=true
  ·have hc2:=hc
   unfold ceq at hc2
   simp only[qwr] at hc2
   rw[if_pos hc2,if_pos hc]
  ·have hc2:¬ ((x.School==c.School)=true∧(x.Code.toList==c.Code.toList)=true):=fun h=>hc (by unfold ceq;rw[h.1,h.2];rfl)
   rw[if_neg hc2,if_neg hc]
   repeat (first|rw[if_pos (by omega)]|rw[if_neg (by omega)])
   rw[qh7 _ _ _ _ hlt]
 ·have he:atF out c=out.length:=by omega
  have hnone:out[out.length]?=none:=qwt (qwb _)
  rw[he,hnone]
  simp only[Option.any_none,Bool.false_eq_true,if_false]
  repeat (first|rw[if_pos (by omega)]|rw[if_neg (by omega)])
  rw[qg6]
theorem qtv {d:qd} (hd:Za d):∃S d',zT d=some (S,d')∧Za d':=by
 obtain⟨v,d1,e1,a1,b1,h1⟩:=JA hd (most:=3) (by omega) (by omega)
 obtain⟨m,rfl⟩:∃m:Nat,v=(m:Int):=⟨v.toNat,by omega⟩
 have hw:w64 (1+(m:Int))=((m+1:Nat):Int):=by rw[Qj (by omega) (by omega)];omega
 have key:∀(j k:Nat) (out:List qb) (d:qd),j+k=m+1→Za d→out.length≤k→∃S d',qG (zE ((m+1:Nat):Int)) (out,d,(k:Int))=some (S,d')∧Za d':=by
  intro j
  induction j with
  | zero=>
   intro k out d hk hd hl1
   refine⟨out,d,qW ?_,hd⟩
   unfold zE
   simp only
   rw[if_neg (by omega)]
  | succ j ih=>
   intro k out d hk hd hl1
   obtain⟨c,d',g1,g2,g3⟩:=qb4 out (by omega) hd ((m+1:Nat):Int) k (by omega) (by omega)
   obtain⟨p1,p2,p3⟩:=qjQ out c
   rw[zO g3]
   exact ih (k+1) _ d' (by omega) g2 (by omega)
 obtain⟨S,d',g1,g2⟩:=key (m+1) 0 [] d1 (by omega) h1 (by simp)
 refine⟨S,d',?_,g2⟩
 unfold zT
 rw[e1,qvV,hw]
 rw[show((0:Nat):Int)=0 from rfl] at g1
 simp only
 rw[g1,qvV]
def qbd (d:qd):Option (qg×qd):=Option.bind (qj (3:Int) d) fun a3=>if(a3.1==(0:Int))=Bool.true then Option.bind (qj (12:Int) a3.2) fun a4=>Option.bind (qj (3:Int) a4.2) fun a5=>if(0:Int)≤a5.1∧a5.1<(3:Int) then Option.bind [(0:Int),(50:Int),(60:Int)][Int.toNat a5.1]? fun a6=>Option.bind (zT a5.2) fun a7=>some (qg.mk (2:Int) (w64 ((1:Int)+a4.1)) a6 a7.1 [],a7.2) else none else Option.bind (qj (4:Int) a3.2) fun a8=>if(0:Int)≤a8.1∧a8.1<(4:Int) then Option.bind [(0:Int),(50:Int),(60:Int),(80:Int)][Int.toNat a8.1]? fun a9=>Option.bind (zT a8.2) fun a10=>some (qg.mk (1:Int) (0:Int) a9 a10.1 [],a10.2) else none
theorem q9a {d:qd} (hd:Za d):∃n d',qbd d=some (n,d')∧Za d':=by
 obtain⟨v,d1,e1,a1,b1,h1⟩:=JA hd (most:=3) (by omega) (by omega)
 unfold qbd
 rw[e1,qvV]
 simp only
 by_cases hv:v=0
 ·obtain⟨w,d2,e2,a2,b2,h2⟩:=JA h1 (most:=12) (by omega) (by omega)
  obtain⟨u,d3,e3,a3,b3,h3⟩:=JA h2 (most:=3) (by omega) (by omega)
  obtain⟨x,hx,mx⟩:=qf2 [(0:Int),50,60] u a3 (by simpa using b3)
  obtain⟨S,d4,e4,h4⟩:=qtv h3
  have hw:w64 (1+w)=1+w:=Qj (by omega) (by omega)
  refine⟨⟨2,1+w,x,S,[]⟩,d4,?_,h4⟩
  rw[if_pos (by simp[hv]),e2,qvV]
  simp only
  rw[e3,qvV]
  simp only
  rw[if_pos ⟨a3,b3⟩,hx,qvV,e4,qvV,hw]
 ·obtain⟨u,d3,e3,a3,b3,h3⟩:=JA h1 (most:=4) (by omega) (by omega)
  obtain⟨x,hx,mx⟩:=qf2 [(0:Int),50,60,80] u a3 (by simpa using b3)
  obtain⟨S,d4,e4,h4⟩:=qtv h3
  refine⟨⟨1,0,x,S,[]⟩,d4,?_,h4⟩
  rw[if_neg (by simpa using hv),e3,qvV]
  simp only
  rw[if_pos ⟨a3,b3⟩,hx,qvV,e4,qvV]
theorem q2O (rF:(Int×Int×qd)→Option (qg×qd)) (x1 x2:Int) (v:qd):QL rF (x1,x2,v)=(qj 6 v).bind fun a2=>
  if x1≤0 then qbd a2.2 else if x2<2 then qbd a2.2 else if a2.1<2 then qbd a2.2 else
  Option.bind (qj (min (3:Int) x2) a2.2) fun a27=>
  Option.bind (qG (zd rF (0:Int) (0:Int) (0:Int) (3:Int) (0:Int) (0:Int) x1 x2 a2.1 (w64 ((1:Int)+a27.1))) ([],(a27.2,(0:Int)))) fun a28=>
  if(3:Int)<a2.1 then Option.bind (qj (w64 ((1:Int)+a27.1)) a28.2) fun a29=>
   some (qg.mk (4:Int) (w64 ((1:Int)+a29.1)) (0:Int) [] a28.1,a29.2)
  else some (qg.mk (3:Int) (0:Int) (0:Int) [] a28.1,a28.2):=rfl
theorem qd6:∀(deep leaves:Nat) (d:qd),deep≤10→leaves≤100→Za d→∃n d',zz ((deep:Int),(leaves:Int),d)=some (n,d')∧Za d':=by
 intro deep
 induction deep with
 | zero=>
  intro leaves d _ _ hd
  obtain⟨v,d1,e1,a1,b1,h1⟩:=JA hd (most:=6) (by omega) (by omega)
  obtain⟨n,d',g1,g3⟩:=q9a h1
  refine⟨n,d',?_,g3⟩
  rw[q0z,q2O,e1,qvV,if_pos (by omega)]
  exact g1
 | succ deep ih=>
  intro leaves d hdp hlv hd
  obtain⟨v,d1,e1,a1,b1,h1⟩:=JA hd (most:=6) (by omega) (by omega)
  obtain⟨n0,d0,g1,g3⟩:=q9a h1
  rw[q0z,q2O,e1,qvV,if_neg (by omega)]
  by_cases hl:leaves<2
  ·exact⟨n0,d0,by rw[if_pos (by omega)];exact g1,g3⟩
  ·rw[if_neg (by omega)]
   by_cases hv:v<2
   ·exact⟨n0,d0,by rw[if_pos hv];exact g1,g3⟩
   ·rw[if_neg hv]
    clear g1 g3 n0 d0
    obtain⟨w,d2,e2,a2,b2,h2⟩:=JA h1 (most:=min 3 (leaves:Int)) (by omega) (by omega)
    simp only
    rw[e2,qvV]
    simp only
    obtain⟨m,hm⟩:∃m:Nat,(m:Int)=1+w:=⟨(1+w).toNat,by omega⟩
    have hw:w64 (1+w)=(m:Int):=by rw[Qj (by omega) (by omega)];omega
    rw[hw]
    have hm1:1≤m:=by omega
    have hm3:m≤3:=by omega
    have hml:m≤leaves:=by omega
    obtain⟨q,hq⟩:∃q,q=leaves / m:=⟨_,rfl⟩
    have hq1:1≤q:=by rw[hq];exact(Nat.le_div_iff_mul_le (by omega)).2 (by omega)
    have hqm:m*q≤leaves:=by rw[hq];exact Nat.mul_div_le _ _
    have hq2:q≤leaves:=by rw[hq];exact Nat.div_le_self _ _
    have hML:100000≤maxLen:=by unfold maxLen;omega
    have hdiv:w64 (Int.tdiv (leaves:Int) (m:Int))=(q:Int):=by
     rw[←Int.ofNat_tdiv,←hq,Qj (by omega) (by omega)]
    have hdeep:w64 (((deep+1:Nat):Int)-1)=(deep:Int):=by rw[Qj (by omega) (by omega)];omega
    have key:∀(j i:Nat) (l:List qg) (d:qd),j+i=m→l.length=i→Za d→∃l' d',qG (zd zz 0 0 0 3 0 0 ((deep+1:Nat):Int) (leaves:Int) v (m:Int)) (l,d,(i:Int))=some (l',d')∧l'.length=m∧Za d':=by
     intro j
     induction j with
     | zero=>
      intro i l d hi hl hd
      refine⟨l,d,qW ?_,by omega,hd⟩
      unfold zd
      simp only
      rw[if_neg (by omega)]
     | succ j ihj=>
      intro i l d hi hl hd
      obtain⟨n,d',q1,q3⟩:=ih q d (by omega) (by omega) hd
      have hs:zd zz 0 0 0 3 0 0 ((deep+1:Nat):Int) (leaves:Int) v (m:Int) (l,d,(i:Int))=some (.inl (l++[n],d',((i+1:Nat):Int))):=by
       unfold zd
       simp only
       rw[if_pos (by omega),if_neg (by omega),hdiv,hdeep,q1,qvV]
       simp only
       rw[if_pos ⟨by omega,by omega⟩,Qj (by omega) (by omega)]
       rfl
      rw[zO hs]
      exact ihj (i+1) (l++[n]) d' (by omega) (by simp[hl]) q3
    obtain⟨l,d3,q1,q2,q4⟩:=key m 0 [] d2 (by omega) rfl h2
    rw[show((0:Nat):Int)=0 from rfl] at q1
    rw[q1,qvV]
    by_cases hv3:(3:Int)<v
    ·obtain⟨u,d4,e4,a4,b4,h4⟩:=JA q4 (most:=(m:Int)) (by omega) (by omega)
     have hwu:w64 (1+u)=1+u:=Qj (by omega) (by omega)
     simp only
     rw[if_pos hv3,e4,qvV,hwu]
     exact⟨_,d4,rfl,h4⟩
    ·simp only
     rw[if_neg hv3]
     exact⟨_,d3,rfl,q4⟩
abbrev nmL:List ByteArray:=[ByteArray.mk (List.toArray [77,117,115,105,99]),ByteArray.mk (List.toArray [76,97,119]),ByteArray.mk (List.toArray [79,108,100,32,109,97,112,115])]
abbrev agL:List Int:=[(0:Int),(0:Int),(0:Int),(2:Int),(5:Int)]
theorem qn7 (l:List Int) (hl:l.length≤9223372036854775807):∃p,qP l=some p:=by
 obtain⟨v1,d1,e1,a1,b1,h1⟩:=JA (d:=⟨l,0⟩) ⟨by show(0:Int)≤0;omega,by show(0:Int)≤(l.length:Int);omega,hl⟩ (most:=3) (by omega) (by omega)
 obtain⟨v2,d2,e2,a2,b2,h2⟩:=JA h1 (most:=3) (by omega) (by omega)
 obtain⟨v3,d3,e3,a3,b3,h3⟩:=JA h2 (most:=5) (by omega) (by omega)
 obtain⟨v4,d4,e4,a4,b4,h4⟩:=JA h3 (most:=3) (by omega) (by omega)
 obtain⟨v6,d6,e6,a6,b6,h6⟩:=JA h4 (most:=20) (by omega) (by omega)
 obtain⟨v7,d7,e7,a7,b7,h7⟩:=JA h6 (most:=3) (by omega) (by omega)
 obtain⟨v8,d8,e8,a8,b8,h8⟩:=JA h7 (most:=6) (by omega) (by omega)
 obtain⟨v9,d9,e9,a9,b9,h9⟩:=JA h8 (most:=5) (by omega) (by omega)
 obtain⟨v11,d11,e11,a11,b11,h11⟩:=JA h9 (most:=3) (by omega) (by omega)
 obtain⟨c1,d12,e12,m12,h12⟩:=q7E h11
 obtain⟨c2,d13,e13,m13,h13⟩:=q7E h12
 obtain⟨n1,d14,e14,h14⟩:=qd6 3 6 d13 (by omega) (by omega) h13
 obtain⟨n2,d15,e15,h15⟩:=qd6 3 6 d11 (by omega) (by omega) h11
 obtain⟨nm,g5,q5⟩:=qf2 nmL v4 a4 (by show v4<((3:Nat):Int);omega)
 obtain⟨ag,g10,q10⟩:=qf2 agL v9 a9 (by show v9<((5:Nat):Int);omega)
 have w1:w64 (1+v1)=1+v1:=Qj (by omega) (by omega)
 have w2:w64 (1+v2)=1+v2:=Qj (by omega) (by omega)
 have w3:w64 (100*v3)=100*v3:=Qj (by omega) (by omega)
 have hm:0≤v7*v8∧v7*v8≤10:=by
  have hv7:v7=0∨v7=1∨v7=2:=by omega
  rcases hv7 with rfl|rfl|rfl<;>omega
 have w4:w64 (v7*v8)=v7*v8:=Qj (by omega) (by omega)
 have e14':zz ((3:Int),((6:Int),d13))=some (n1,d14):=e14
 have e15':zz ((3:Int),((6:Int),d11))=some (n2,d15):=e15
 unfold qP
 rw[e1,qvV];dsimp only
 rw[e2,qvV];dsimp only
 rw[e3,qvV];dsimp only
 rw[e4,qvV];dsimp only
 rw[if_pos ⟨a4,b4⟩,g5,qvV,e6,qvV];dsimp only
 rw[e7,qvV];dsimp only
 rw[e8,qvV];dsimp only
 rw[e9,qvV];dsimp only
 rw[if_pos ⟨a9,b9⟩,g10,qvV,e11,qvV];dsimp only
 rw[w1,w2,w3,w4]
 by_cases h0:v11=0
 ·rw[if_pos (by simpa using h0),e12,qvV];dsimp only
  rw[e13,qvV];dsimp only
  by_cases hp:zu c1 c2=true
  ·rw[if_pos hp,e14',qvV]
   exact⟨_,rfl⟩
  ·rw[if_neg hp,e14',qvV]
   exact⟨_,rfl⟩
 ·rw[if_neg (by simpa using h0),e15',qvV]
  exact⟨_,rfl⟩
end
noncomputable section
open Go.RowKit
section
variable {α ε:Type} {step:Int→Option (Int⊕ε)} (l:List α)
theorem q8Z (q:α→Bool) (e0 e1:ε) (hs:∀(i:Nat) (a:α),l[i]?=some a→step (i:Int)=some (if q a=true then .inl ((i+1:Nat):Int) else .inr e0)) (he:step ((l.length:Nat):Int)=some (.inr e1)) :
  qG step (0:Int)=some (if l.all q=true then e1 else e0):=by
 have key:∀(r:List α) (i:Nat),r.length+i=l.length→(∀j,r[j]?=l[i+j]?)→qG step (i:Int)=some (if r.all q=true then e1 else e0):=by
  intro r
  induction r with
  | nil=>
   intro i hi _
   have:i=l.length:=by simpa using hi
   subst this
   exact qW he
  | cons a r ih=>
   intro i hi hj
   have ha:l[i]?=some a:=by have:=hj 0;rw[Nat.add_zero] at this;exact this.symm
   have h1:=hs i a ha
   rw[List.all_cons]
   cases hq:q a
   ·rw[hq,if_neg (by decide)] at h1
    exact qW h1
   ·rw[hq,if_pos rfl] at h1
    rw[zO h1,ih (i+1) (by simp only[qw6] at hi;omega) (fun j=>by have:=hj (j+1);rw[qwk] at this;rw[this];congr 1;omega),qws]
 exact key l 0 (by omega) fun j=>by rw[qwj]
theorem q1x (q:α→Bool) (mk:Nat→ε) (e1:ε) (hs:∀(i:Nat) (a:α),l[i]?=some a→step (i:Int)=some (if q a=true then .inr (mk i) else .inl ((i+1:Nat):Int))) (he:step ((l.length:Nat):Int)=some (.inr e1)) :
  (l.any q=true∧∃i,qG step (0:Int)=some (mk i))∨(l.any q=false∧qG step (0:Int)=some e1):=by
 have key:∀(r:List α) (i:Nat),r.length+i=l.length→(∀j,r[j]?=l[i+j]?)→(r.any q=true∧∃k,qG step (i:Int)=some (mk k))∨(r.any q=false∧qG step (i:Int)=some e1):=by
  intro r
  induction r with
  | nil=>
   intro i hi _
   have:i=l.length:=by simpa using hi
   subst this
   exact .inr ⟨rfl,qW he⟩
  | cons a r ih=>
   intro i hi hj
   have ha:l[i]?=some a:=by have:=hj 0;rw[Nat.add_zero] at this;exact this.symm
   have h1:=hs i a ha
   rw[List.any_cons]
   cases hq:q a
   ·rw[hq,if_neg (by decide)] at h1
    rw[zO h1,Bool.false_or]
    exact ih (i+1) (by simp only[qw6] at hi;omega) (fun j=>by have:=hj (j+1);rw[qwk] at this;rw[this];congr 1;omega)
   ·rw[hq,if_pos rfl] at h1
    exact .inl ⟨rfl,i,qW h1⟩
 exact key l 0 (by omega) fun j=>by rw[qwj]
end
theorem Qm {i n:Nat} (h:i<n) (hn:n≤1000000):w64 ((i:Int)+1)=((i+1:Nat):Int):=q5N h (by omega)
theorem q2M (s:List Int) (hs:s.length≤1000000) (v:Int):qS s v=some (s.any fun x=>v==x):=by
 have h:=q1x (step:=qT s v ((s.length:Nat):Int)) s (fun x=>v==x) (fun i => .inl (i:Int)) (.inr ()) (fun i a ha=>by
  have hi:=Qb ha
  unfold qT
  rw[if_pos (by omega),if_pos ⟨by omega,by omega⟩,qvY,ha,qvV,Qm hi hs]
  split<;>rfl) (by
  unfold qT
  rw[if_neg (by omega)])
 unfold qS Q4
 rcases h with ⟨h1,i,h2⟩|⟨h1,h2⟩
 ·rw[h2,qvV,Sum.elim_inl,qvV,h1,qwV (by omega)]
 ·rw[h2,qvV,Sum.elim_inr,qvV,h1,decide_eq_false (by omega)]
def q6w (a b:List Int):Bool:=a.any fun x=>b.any fun y=>x==y
theorem qhv (a b:List Int) (ha:a.length≤1000000) (hb:b.length≤1000000):Q1 a b=some (q6w a b):=by
 have h:=q1x (step:=qH b a ((a.length:Nat):Int)) a (fun x=>b.any fun y=>x==y) (fun i => .inl (i:Int)) (.inr ()) (fun i x hx=>by
  have hi:=Qb hx
  unfold qH Qx
  rw[if_pos (by omega),if_pos ⟨by omega,by omega⟩,qvY,hx,qvV,q2M b hb,qvV,qvV,Qm hi ha]
  split<;>rfl) (by
  unfold qH
  rw[if_neg (by omega)])
 unfold Q1 zf zA q6w
 rcases h with ⟨h1,i,h2⟩|⟨h1,h2⟩
 ·rw[h2,qvV,Sum.elim_inl,qvV,h1,qwV (by omega),qvV]
 ·rw[h2,qvV,Sum.elim_inr,qvV,h1,decide_eq_false (by omega),qvV]
theorem q5Y (a b:List Int) (ha:a.length≤1000000):zb a b=some (decide (a=b)):=by
 unfold zb
 by_cases hl:a.length=b.length
 ·rw[if_neg (by rw[hl];simp)]
  have key:∀(r q:List Int) (i:Nat),r.length+i=a.length→q.length=r.length→(∀j,r[j]?=a[i+j]?)→(∀j,q[j]?=b[i+j]?)→qG (qK a b ((a.length:Nat):Int)) (i:Int)=some (if r=q then .inr () else .inl ()):=by
   intro r
   induction r with
   | nil=>
    intro q i hi hq _ _
    obtain rfl:=qwe hq
    have hi:i=a.length:=by simpa using hi
    refine qW ?_
    unfold qK
    rw[if_neg (by omega),if_pos rfl]
   | cons x r ih=>
    intro q i hi hq hr hb
    cases q with
    | nil=>cases hq
    | cons y q=>
     simp only[qw6] at hi hq
     have hx:a[i]?=some x:=by have:=hr 0;rw[Nat.add_zero] at this;exact this.symm
     have hy:b[i]?=some y:=by have:=hb 0;rw[Nat.add_zero] at this;exact this.symm
     have e:qK a b ((a.length:Nat):Int) (i:Int)=some (if(x != y)=true then .inr (.inl ()) else .inl ((i+1:Nat):Int)):=by
      unfold qK
      rw[if_pos (by omega),if_pos ⟨by omega,by omega⟩,qvY,hx,qvV,if_pos ⟨by omega,by omega⟩,hy,qvV,Qm (Qb hx) ha]
      split<;>rfl
     by_cases hxy:x=y
     ·subst hxy
      rw[if_neg (by simp)] at e
      rw[zO e,ih q (i+1) (by omega) (by omega) (fun j=>by have:=hr (j+1);rw[qwk] at this;rw[this];congr 1;omega) (fun j=>by have:=hb (j+1);rw[qwk] at this;rw[this];congr 1;omega)]
      simp
     ·rw[if_pos (by simpa using hxy)] at e
      rw[qW e,if_neg (fun h=>hxy (by injection h))]
  have h:=key a b 0 (by omega) hl.symm (fun j=>by rw[qwj]) (fun j=>by rw[qwj])
  change Option.bind (qG _ ((0:Nat):Int)) _=_
  rw[h,qvV]
  by_cases e:a=b
  ·rw[if_pos e,Sum.elim_inr,qwV e]
  ·rw[if_neg e,Sum.elim_inl,decide_eq_false e]
 ·rw[if_pos (by simpa using fun h=>hl (by omega)),decide_eq_false (fun e=>hl (by rw[e]))]
def zr (a:qa):Prop:=a.Sources.length≤1000∧a.Path.length≤1000
def J0 (a b:qa):Bool := !ceq a.Course b.Course&&((decide (0<a.Bundle)&&a.Bundle==b.Bundle&&decide (a.Path=b.Path)) || !q6w a.Sources b.Sources)
theorem q8r {a b:qa} (ha:zr a) (hb:zr b):Z1 a b=some (J0 a b):=by
 have h1:=ha.1;have h2:=ha.2;have h3:=hb.1
 unfold Z1 J0
 rw[q5Y _ _ (by omega),qhv _ _ (by omega) (by omega)]
 simp only[qvV]
 by_cases hc:ceq a.Course b.Course=true
 ·rw[if_pos (by unfold ceq at hc;rw[qwr] at hc;exact hc),hc];rfl
 ·rw[if_neg (by unfold ceq at hc;rw[qwr] at hc;exact hc),qwn.2 hc]
  by_cases h0:0<a.Bundle
  ·rw[if_pos h0,qwV h0]
   cases hbd:a.Bundle==b.Bundle
   ·rw[if_neg (by decide)];simp
   ·rw[if_pos rfl]
    cases hp:decide (a.Path=b.Path)
    ·rw[if_neg (by decide)];simp
    ·rw[if_pos rfl];simp
  ·rw[if_neg h0,decide_eq_false h0];simp
def q9K (p:qe) (a:qa) (day:Int):Bool:=(qs p a day).getD false
theorem qdo (d:Int):∃v,Zk d=some v:=by
 have h:∀n,∃v,QH n 100=some v:=fun n=>by
  unfold QH
  rw[if_neg (by decide),if_neg (by decide),if_neg (by decide)]
  exact⟨_,rfl⟩
 unfold Zk
 split
 ·obtain⟨v,hv⟩:=h (w64 (d+100));rw[hv];exact⟨_,rfl⟩
 ·obtain⟨v,hv⟩:=h d;rw[hv];exact⟨_,rfl⟩
theorem q8b (p:qe) (a:qa) (day:Int):qs p a day=some (q9K p a day):=by
 obtain⟨v,hv⟩:=qdo day
 obtain⟨w,hw⟩:=qdo a.Day
 have:∃b,qs p a day=some b:=by
  unfold qs
  rw[hv,hw]
  split<;>exact⟨_,rfl⟩
 obtain⟨b,hb⟩:=this
 unfold q9K
 rw[hb];rfl
def qiM (l:List qa):Int:=l.foldl (fun n a=>w64 (n+a.Credits)) 0
theorem q4U (l:List qa) (hl:l.length≤1000):QR l=some (qiM l):=by
 have h:=q0P (step:=zZ l ((l.length:Nat):Int)) l (fun(b:Int) k=>(b,(k:Int))) (fun b a=>w64 (b+a.Credits)) (fun b=>b) (fun b k a ha=>by
  have hi:=Qb ha
  unfold zZ
  dsimp only
  rw[if_pos (by omega),if_pos ⟨by omega,by omega⟩,qvY,ha,qvV,Qm hi (by omega)]) (fun b=>by
  unfold zZ
  dsimp only
  rw[if_neg (by omega)]) 0
 unfold QR
 change Option.bind (qG _ ((0:Int),((0:Nat):Int))) _=_
 rw[h];rfl
theorem q9s (x m:Int) (h0:0<m) (h1:m≤1000000):∃v,zS x m=some v∧0≤v∧v<m:=by
 have e1:=Int.tmod_lt_of_pos x h0
 have e2 : -m<Int.tmod x m:=by
  have:=Int.tmod_lt_of_pos (-x) h0
  rw[Int.neg_tmod] at this;omega
 have e3:w64 (Int.tmod x m+m)=Int.tmod x m+m:=Qj (by omega) (by omega)
 refine⟨Int.tmod (Int.tmod x m+m) m,?_,Int.tmod_nonneg _ (by omega),Int.tmod_lt_of_pos _ h0⟩
 unfold zS
 rw[if_neg (by omega),if_neg (by omega),e3]
theorem q4k {d:qd} (h:Za d) {most:Int} (h0:0<most) (h1:most≤1000000):∃v d',qt most d=some (v,d')∧0≤v∧v<most∧Za d':=by
 obtain⟨a,b,c⟩:=h
 unfold qt
 by_cases he:(d.L.length:Int)≤d.At
 ·exact⟨0,d,if_pos he,Int.le_refl _,h0,⟨a,b,c⟩⟩
 ·obtain⟨x,hx⟩:∃x,d.L[Int.toNat d.At]?=some x:=⟨_,qvX (by omega)⟩
  obtain⟨v,e1,e2,e3⟩:=q9s x most h0 h1
  have e6:w64 (d.At+1)=d.At+1:=Qj (by omega) (by omega)
  have e7:w64 (d.At+1-1)=d.At:=by rw[Qj (by omega) (by omega)];omega
  refine⟨v,⟨d.L,d.At+1⟩,?_,e2,e3,⟨by show 0≤d.At+1;omega,by show d.At+1≤d.L.length;omega,c⟩⟩
  rw[if_neg he,e6,e7,if_pos ⟨a,by omega⟩,hx,qvV,e1,qvV]
end
noncomputable section
open Go.RowKit
structure q6X (j:Nat) (a:qa):Prop where
 src:a.Sources.length≤2+j
 pth:a.Path.length≤1+j
 crd:0≤a.Credits∧a.Credits≤40
 day:0≤a.Day∧a.Day≤1000
theorem q6X.fit {j:Nat} {a:qa} (h:q6X j a) (hj:j≤900):zr a:=⟨by have:=h.src;omega,by have:=h.pth;omega⟩
theorem q6X.mono {j j':Nat} {a:qa} (h:q6X j a) (hj:j≤j'):q6X j' a:=⟨by have:=h.src;omega,by have:=h.pth;omega,h.crd,h.day⟩
theorem q6U (t0:List (List Int)) (hq:∀q∈t0,q.length≤9223372036854775807) (l:List qa) (k:Nat) (hl:l.length=k) (hk:k<t0.length) (h8:k<8) :
  ∃a,q6X 0 a∧zJ t0 (l,(k:Int))=some (.inl (l++[a],((k+1:Nat):Int))):=by
 have hML:100000≤maxLen:=by unfold maxLen;omega
 obtain⟨q,hqk⟩:∃q,t0[k]?=some q:=⟨_,qvX hk⟩
 have hd:Za ⟨q,0⟩:=⟨by show(0:Int)≤0;omega,by show(0:Int)≤(q.length:Int);omega,hq q (qvW hqk)⟩
 obtain⟨v1,d1,e1,a1,b1,h1⟩:=q4k hd (most:=6) (by omega) (by omega)
 obtain⟨c,hc,_⟩:=qf2 qw v1 a1 (by unfold qw;simpa using b1)
 obtain⟨v2,d2,e2,a2,b2,h2⟩:=q4k h1 (most:=3) (by omega) (by omega)
 obtain⟨cr,hcr,mcr⟩:=qf2 [(5:Int),6,10] v2 a2 (by simpa using b2)
 obtain⟨v3,d3,e3,a3,b3,h3⟩:=q4k h2 (most:=11) (by omega) (by omega)
 obtain⟨v4,d4,e4,a4,b4,h4⟩:=q4k h3 (most:=60) (by omega) (by omega)
 obtain⟨v5,d5,e5,a5,b5,h5⟩:=q4k h4 (most:=9) (by omega) (by omega)
 obtain⟨v6,d6,e6,a6,b6,h6⟩:=q4k h5 (most:=3) (by omega) (by omega)
 obtain⟨v7,d7,e7,a7,b7,h7⟩:=q4k h6 (most:=3) (by omega) (by omega)
 obtain⟨v8,d8,e8,a8,b8,h8'⟩:=q4k h7 (most:=4) (by omega) (by omega)
 obtain⟨v9,d9,e9,a9,b9,h9⟩:=q4k h8' (most:=3) (by omega) (by omega)
 obtain⟨v10,d10,e10,a10,b10,h10⟩:=q4k h9 (most:=3) (by omega) (by omega)
 obtain⟨v11,d11,e11,a11,b11,h11⟩:=q4k h10 (most:=3) (by omega) (by omega)
 have hw:w64 ((k:Int)+1)=((k+1:Nat):Int):=by rw[Qj (by omega) (by omega)];omega
 have hcr2:0≤cr∧cr≤40:=by
  have:cr=5∨cr=6∨cr=10:=by simpa using mcr
  omega
 have hdy:0≤w64 ((10:Int)*v4)∧w64 ((10:Int)*v4)≤1000:=by rw[Qj (by omega) (by omega)];omega
 unfold zJ
 dsimp only
 rw[if_pos (by omega),if_pos (by omega),if_pos ⟨by omega,by omega⟩,qvY,hqk,qvV,e1,qvV]
 dsimp only
 rw[if_pos ⟨a1,by unfold qw;simpa using b1⟩,hc,qvV,e2,qvV]
 dsimp only
 rw[if_pos ⟨a2,b2⟩,hcr,qvV,e3,qvV]
 dsimp only
 rw[e4,qvV]
 dsimp only
 rw[e5,qvV]
 dsimp only
 rw[e6,qvV]
 dsimp only
 rw[e7]
 by_cases h0:v6=0
 ·rw[if_pos (by simpa using h0),qvV]
  dsimp only
  rw[e8,qvV]
  dsimp only
  rw[e9,qvV]
  dsimp only
  rw[e10]
  by_cases h00:v9=0
  ·rw[if_pos (by simpa using h00),qvV]
   dsimp only
   rw[e11,qvV]
   dsimp only
   rw[if_pos ⟨by omega,by omega⟩,hw]
   exact⟨_,⟨qwb _,qwb _,hcr2,hdy⟩,rfl⟩
  ·rw[if_neg (by simpa using h00),qvV]
   dsimp only
   rw[if_pos ⟨by omega,by omega⟩,hw]
   exact⟨_,⟨by show 1≤2;omega,qwb _,hcr2,hdy⟩,rfl⟩
 ·rw[if_neg (by simpa using h0),if_pos ⟨by omega,by omega⟩,hw]
  exact⟨_,⟨by show 1≤2;omega,by show 0≤1;omega,hcr2,hdy⟩,rfl⟩
theorem qob (t0:List (List Int)) (hq:∀q∈t0,q.length≤9223372036854775807) (ht:t0.length≤9223372036854775807):∃l,Zu t0=some l∧l.length≤8∧∀a∈l,q6X 0 a:=by
 have key:∀(j k:Nat) (l:List qa),j+k=min t0.length 8→l.length=k→(∀a∈l,q6X 0 a)→∃l',qG (zJ t0) (l,(k:Int))=some l'∧l'.length=min t0.length 8∧∀a∈l',q6X 0 a:=by
  intro j
  induction j with
  | zero=>
   intro k l hk hl hs
   refine⟨l,qW ?_,by omega,hs⟩
   unfold zJ
   dsimp only
   by_cases h:(k:Int)<(t0.length:Int)
   ·rw[if_pos h,if_neg (by omega)]
   ·rw[if_neg h]
  | succ j ih=>
   intro k l hk hl hs
   obtain⟨a,h1,h2⟩:=q6U t0 hq l k hl (by omega) (by omega)
   rw[zO h2]
   refine ih (k+1) (l++[a]) (by omega) (by simp[hl]) fun x hx=>?_
   rcases qwp.1 hx with h|h
   ·exact hs x h
   ·rw[qwL.1 h];exact h1
 obtain⟨l,h1,h2,h3⟩:=key (min t0.length 8) 0 [] (by omega) rfl (fun a ha=>by cases ha)
 refine⟨l,?_,by omega,h3⟩
 unfold Zu
 change Option.bind (qG _ ([],((0:Nat):Int))) _=_
 rw[h1];rfl
theorem qd8 {a:qa} (h:zr a):Zy a=some (a.Course.School,a.Course.Code,a.Credits,a.Grade,a.Day,a.Bundle,a.Sources,a.Path):=by
 have hML:100000≤maxLen:=by unfold maxLen;omega
 have h1:=h.1;have h2:=h.2
 unfold Zy
 rw[if_pos ⟨by omega,by omega⟩,if_pos ⟨by omega,by omega⟩]
theorem qrT {j:Nat} (hj:j≤100) {a:qa} (h:q6X j a) (q:QF Int):∃b,Qq a q=some b∧q6X (j+1) b:=by
 have hML:100000≤maxLen:=by unfold maxLen;omega
 have h1:=h.src;have h2:=h.pth;have h3:=h.crd;have h9:=h.day
 obtain⟨n,e1,n0,n1⟩:=q9s q.a1 40 (by omega) (by omega)
 obtain⟨k,e2,k0,k1⟩:=q9s q.a0 8 (by omega) (by omega)
 unfold Qq
 rw[qd8 (h.fit (by omega)),qvV,e1,qvV,e2,qvV]
 dsimp only
 have hmod:0≤Int.tmod n 4∧Int.tmod n 4<4:=⟨Int.tmod_nonneg _ n0,Int.tmod_lt_of_pos _ (by omega)⟩
 obtain⟨c,hc,_⟩:=qf2 [ByteArray.mk (List.toArray [65,49]),ByteArray.mk (List.toArray [66,49]),ByteArray.mk (List.toArray []),ByteArray.mk (List.toArray [65])] (Int.tmod n 4) hmod.1 (by simpa using hmod.2)
 have hb:∀(sc:Int) (cd:ByteArray) (cr g d:Int) (S:List Int) (bd:Int) (P:List Int),S.length≤2+(j+1)→P.length≤1+(j+1)→0≤cr∧cr≤40→0≤d∧d≤1000→q6X (j+1) (qa.mk (qb.mk sc cd) cr g d S bd P):=fun sc cd cr g d S bd P a1 a2 a3 a4=>⟨a1,a2,a3,a4⟩
 by_cases h00:k=0
 ·rw[if_pos (by simpa using h00)];exact⟨_,rfl,hb _ _ _ _ _ _ _ _ (by omega) (by omega) h3 h9⟩
 rw[if_neg (by simpa using h00)]
 by_cases h01:k=1
 ·rw[if_pos (by simpa using h01),if_pos hmod,hc,qvV];exact⟨_,rfl,hb _ _ _ _ _ _ _ _ (by omega) (by omega) h3 h9⟩
 rw[if_neg (by simpa using h01)]
 by_cases h02:k=2
 ·rw[if_pos (by simpa using h02)];exact⟨_,rfl,hb _ _ _ _ _ _ _ _ (by omega) (by omega) ⟨n0,by omega⟩ h9⟩
 rw[if_neg (by simpa using h02)]
 by_cases h03:k=3
 ·rw[if_pos (by simpa using h03)];exact⟨_,rfl,hb _ _ _ _ _ _ _ _ (by omega) (by omega) h3 h9⟩
 rw[if_neg (by simpa using h03)]
 by_cases h04:k=4
 ·rw[if_pos (by simpa using h04)];exact⟨_,rfl,hb _ _ _ _ _ _ _ _ (by omega) (by omega) h3 (by rw[Qj (by omega) (by omega)];omega)⟩
 rw[if_neg (by simpa using h04)]
 by_cases h05:k=5
 ·rw[if_pos (by simpa using h05),if_pos ⟨by omega,by omega⟩];exact⟨_,rfl,hb _ _ _ _ _ _ _ _ (by simp;omega) (by omega) h3 h9⟩
 rw[if_neg (by simpa using h05)]
 by_cases h06:k=6
 ·rw[if_pos (by simpa using h06)];exact⟨_,rfl,hb _ _ _ _ _ _ _ _ (by omega) (by omega) h3 h9⟩
 rw[if_neg (by simpa using h06)]
 by_cases h07:k=7
 ·rw[if_pos (by simpa using h07),if_pos ⟨by omega,by omega⟩];exact⟨_,rfl,hb _ _ _ _ _ _ _ _ (by omega) (by simp;omega) h3 h9⟩
 ·rw[if_neg (by simpa using h07)];exact⟨_,rfl,hb _ _ _ _ _ _ _ _ (by omega) (by omega) h3 h9⟩
theorem qdY {j:Nat} (hj:j≤100) {l:List qa} (hl:l.length≤8) (hs:∀a∈l,q6X j a) (h0:0<l.length) (q:qgP Int):∃(k:Nat) (a b:qa),k<l.length∧zS q.a2 ((l.length:Nat):Int)=some (k:Int)∧l[k]?=some a∧Qq a (QF.mk q.a0 q.a1)=some b∧(List.set l k b).length≤8∧∀x∈List.set l k b,q6X (j+1) x:=by
 obtain⟨v,e1,v0,v1⟩:=q9s q.a2 ((l.length:Nat):Int) (by omega) (by omega)
 obtain⟨k,rfl⟩:∃k:Nat,v=(k:Int):=⟨v.toNat,by omega⟩
 have hk:k<l.length:=by omega
 obtain⟨b,e2,hb⟩:=qrT hj (hs _ (qwM hk)) (QF.mk q.a0 q.a1)
 refine⟨k,l[k],b,hk,e1,qvX hk,e2,by rw[qwG];exact hl,fun x hx=>?_⟩
 rcases List.mem_or_eq_of_mem_set hx with h|rfl
 ·exact(hs x h).mono (by omega)
 ·exact hb
theorem q9R (c:Ql) (hq:∀q∈c.Has,q.length≤9223372036854775807) (ht:c.Has.length≤9223372036854775807) (hp:c.Programme.length≤9223372036854775807):∃l p d,Q0 c=some (l,p,d)∧l.length≤8∧(∀a∈l,q6X 2 a)∧d=Int.tmod (w64 c.Day) 800:=by
 obtain⟨l,e1,l8,hs⟩:=qob c.Has hq ht
 obtain⟨p,hpe⟩:=qn7 c.Programme hp
 unfold Q0
 rw[e1,qvV,hpe]
 by_cases h0:0<l.length
 ·have h0':(0:Int)<((l.length:Nat):Int):=by omega
  rw[if_pos h0']
  obtain⟨k,a,b,hk,q1,q2,q3,q4,q5⟩:=qdY (j:=0) (by omega) l8 hs h0 c.Odd.a0
  by_cases h1:(0:Int)<c.Odd.a0.a0
  ·rw[if_pos h1,q1,qvV,if_pos ⟨by omega,by omega⟩,qvY,q2,qvV,q3,qvV,if_pos ⟨by omega,by omega⟩,if_pos (by omega),if_pos h0']
   by_cases h2:(0:Int)<c.Odd.a1.a0
   ·obtain⟨k',a',b',hk',r1,r2,r3,r4,r5⟩:=qdY (j:=1) (by omega) q4 q5 (by rw[qwG];exact h0) c.Odd.a1
    rw[qwG] at hk' r1
    rw[if_pos h2,r1,qvV,if_pos ⟨by omega,by omega⟩,qvY,r2,qvV,r3,qvV,if_pos ⟨by omega,by omega⟩,if_pos (by omega)]
    exact⟨_,_,_,rfl,r4,r5,rfl⟩
   ·rw[if_neg h2]
    exact⟨_,_,_,rfl,q4,fun x hx=>(q5 x hx).mono (by omega),rfl⟩
  ·rw[if_neg h1,if_pos h0']
   by_cases h2:(0:Int)<c.Odd.a1.a0
   ·obtain⟨k',a',b',hk',r1,r2,r3,r4,r5⟩:=qdY (j:=0) (by omega) l8 hs h0 c.Odd.a1
    rw[if_pos h2,r1,qvV,if_pos ⟨by omega,by omega⟩,qvY,r2,qvV,r3,qvV,if_pos ⟨by omega,by omega⟩,if_pos (by omega)]
    exact⟨_,_,_,rfl,r4,fun x hx=>(r5 x hx).mono (by omega),rfl⟩
   ·rw[if_neg h2]
    exact⟨_,_,_,rfl,l8,fun x hx=>(hs x hx).mono (by omega),rfl⟩
 ·have h0':¬ (0:Int)<((l.length:Nat):Int):=by omega
  rw[if_neg h0',if_neg h0']
  exact⟨_,_,_,rfl,l8,fun x hx=>(hs x hx).mono (by omega),rfl⟩
theorem qaY (c:Ql) (hq:∀q∈c.Has,q.length≤9223372036854775807) (ht:c.Has.length≤9223372036854775807) (hp:c.Programme.length≤9223372036854775807):∃l p d,Q0 c=some (l,p,d)∧l.length≤8∧∀a∈l,q6X 2 a:=by
 obtain⟨l,p,d,h1,h2,h3,-⟩:=q9R c hq ht hp
 exact⟨l,p,d,h1,h2,h3⟩
end
noncomputable section
section
variable {A:Type} (fr:List A→Bool) (cr:List A→Int)
def dfs:List A→List A→Int→Int
 | [],_,b=>b
 | a::r,s,b=>dfs r s (if fr (s++[a])=true then dfs r (s++[a]) (max b (cr (s++[a]))) else b)
variable {fr cr}
end
end
noncomputable section
open Go.RowKit
theorem qaL {α ε:Type} {step:Int→Option (Int⊕ε)} (l:List α) (q:α→Bool) (e0 e1:ε) (hs:∀(i:Nat) (a:α),l[i]?=some a→step (i:Int)=some (if q a=true then .inr e0 else .inl ((i+1:Nat):Int))) (he:step ((l.length:Nat):Int)=some (.inr e1)) :
  qG step (0:Int)=some (if l.any q=true then e0 else e1):=by
 rcases q1x l q (fun _=>e0) e1 hs he with ⟨h1,i,h2⟩|⟨h1,h2⟩
 ·rw[h2,h1];rfl
 ·rw[h2,h1];rfl
theorem q5D (a b:List Int) (ha:a.length≤1000000):zW a b=some (decide (a=b)):=by
 unfold zW
 by_cases hl:a.length=b.length
 ·rw[if_neg (by rw[hl];simp)]
  have key:∀(r q:List Int) (i:Nat),r.length+i=a.length→q.length=r.length→(∀j,r[j]?=a[i+j]?)→(∀j,q[j]?=b[i+j]?)→qG (zl a b) (i:Int)=some (if r=q then .inr () else .inl ()):=by
   intro r
   induction r with
   | nil=>
    intro q i hi hq _ _
    obtain rfl:=qwe hq
    have hi:i=a.length:=by simpa using hi
    refine qW ?_
    unfold zl
    rw[if_neg (by omega),if_pos rfl]
   | cons x r ih=>
    intro q i hi hq hr hb
    cases q with
    | nil=>cases hq
    | cons y q=>
     simp only[qw6] at hi hq
     have hx:a[i]?=some x:=by have:=hr 0;rw[Nat.add_zero] at this;exact this.symm
     have hy:b[i]?=some y:=by have:=hb 0;rw[Nat.add_zero] at this;exact this.symm
     have e:zl a b (i:Int)=some (if(x != y)=true then .inr (.inl ()) else .inl ((i+1:Nat):Int)):=by
      unfold zl
      rw[if_pos (by omega),if_pos ⟨by omega,by omega⟩,qvY,hx,qvV,if_pos ⟨by omega,by omega⟩,hy,qvV,Qm (Qb hx) ha]
      split<;>rfl
     by_cases hxy:x=y
     ·subst hxy
      rw[if_neg (by simp)] at e
      rw[zO e,ih q (i+1) (by omega) (by omega) (fun j=>by have:=hr (j+1);rw[qwk] at this;rw[this];congr 1;omega) (fun j=>by have:=hb (j+1);rw[qwk] at this;rw[this];congr 1;omega)]
      simp
     ·rw[if_pos (by simpa using hxy)] at e
      rw[qW e,if_neg (fun h=>hxy (by injection h))]
  have h:=key a b 0 (by omega) hl.symm (fun j=>by rw[qwj]) (fun j=>by rw[qwj])
  change Option.bind (qG _ ((0:Nat):Int)) _=_
  rw[h,qvV]
  by_cases e:a=b
  ·rw[if_pos e,Sum.elim_inr,qwV e]
  ·rw[if_neg e,Sum.elim_inl,decide_eq_false e]
 ·rw[if_pos (by simpa using fun h=>hl (by omega)),decide_eq_false (fun e=>hl (by rw[e]))]
theorem qf6 (a b:qb):ceq a b=ceq b a:=by
 unfold ceq
 rw[Bool.beq_comm (a:=a.School),Bool.beq_comm (a:=a.Code.toList)]
theorem qad (a b:List Int):q6w a b=q6w b a:=by
 have h:∀a b:List Int,q6w a b=true→q6w b a=true:=fun a b h=>by
  unfold q6w at h ⊢
  obtain⟨x,h1,h2⟩:=qwP.1 h
  obtain⟨y,h3,h4⟩:=qwP.1 h2
  have e:x=y:=by simpa using h4
  exact qwP.2 ⟨y,h3,qwP.2 ⟨x,h1,by simp[e]⟩⟩
 exact Bool.eq_iff_iff.2 ⟨h a b,h b a⟩
theorem q7d (a b:qa):J0 a b=J0 b a:=by
 unfold J0
 rw[qf6,qad]
 by_cases hb:a.Bundle=b.Bundle
 ·rw[hb]
  have e:decide (a.Path=b.Path)=decide (b.Path=a.Path):=by
   by_cases hp:a.Path=b.Path
   ·rw[hp]
   ·rw[decide_eq_false hp,decide_eq_false fun h=>hp h.symm]
  rw[e]
 ·rw[show(a.Bundle==b.Bundle)=false by simpa using hb,show(b.Bundle==a.Bundle)=false by simpa using fun h=>hb h.symm];simp
def q4n:List qa→Bool
 | []=>true
 | a::l=>l.all (fun b=>J0 a b)&&q4n l
theorem qjV (l:List qa) (hl:l.length≤1000) (hf:∀a∈l,zr a):Zn l=some (q4n l):=by
 have cf:∀(s:List qa) (a:qa),s.length≤1000→(∀b∈s,zr b)→zr a→qp s a=some (s.any fun b => !J0 a b):=fun s a hs hsf ha=>by
  have h:=q1x (step:=qm a s ((s.length:Nat):Int)) s (fun b => !J0 a b) (fun i => .inl (i:Int)) (.inr ()) (fun i b hb=>by
   have hi:=Qb hb
   unfold qm ZL
   rw[if_pos (by omega),if_pos ⟨by omega,by omega⟩,qvY,hb,qvV,q8r ha (hsf b (qvW hb)),qvV,qvV,Qm hi (by omega)]
   split<;>rfl) (by
   unfold qm
   rw[if_neg (by omega)])
  unfold qp qu
  rcases h with ⟨h1,i,h2⟩|⟨h1,h2⟩
  ·rw[h2,qvV,Sum.elim_inl,qvV,h1,qwV (by omega)]
  ·rw[h2,qvV,Sum.elim_inr,qvV,h1,decide_eq_false (by omega)]
 have key:∀(r:List qa) (i:Nat),r.length+i=l.length→l.drop i=r→qG (Qd l l ((l.length:Nat):Int)) (i:Int)=some (if q4n r=true then .inr () else .inl ()):=by
  intro r
  induction r with
  | nil=>
   intro i hi _
   have hi:i=l.length:=by simpa using hi
   refine qW ?_
   unfold Qd
   rw[if_neg (by omega)];rfl
  | cons a r ih=>
   intro i hi hd
   simp only[qw6] at hi
   have ha:l[i]?=some a:=by have:=congrArg (fun x:List qa=>x[0]?) hd;simpa [List.getElem?_drop] using this
   have hd1:l.drop (i+1)=r:=by rw[←qwI,hd];rfl
   have hr:∀b∈r,zr b:=fun b hb=>hf b (List.mem_of_mem_drop (i:=i) (by rw[hd];exact qw3 _ hb))
   have e:Qd l l ((l.length:Nat):Int) (i:Int)=some (if(r.any fun b => !J0 a b)=true then .inr (.inl ()) else .inl ((i+1:Nat):Int)):=by
    unfold Qd
    rw[if_pos (by omega),if_pos ⟨by omega,by omega⟩,qvY,ha,qvV,Qm (Qb ha) (by omega),if_pos ⟨by omega,by omega⟩,qvY,hd1,qx0 (by omega),cf r a (by omega) hr (hf a (qvW ha)),qvV]
    split<;>rfl
   unfold q4n
   cases hq:r.any fun b => !J0 a b
   ·have hall:r.all (fun b=>J0 a b)=true:=by
     rw[qwc];intro b hb
     have:=List.any_eq_false.1 hq b hb
     simpa using this
    rw[hq,if_neg (by decide)] at e
    rw[zO e,ih (i+1) (by omega) hd1,hall,qws]
   ·have hall:r.all (fun b=>J0 a b)=false:=by
     rw[List.all_eq_false]
     obtain⟨b,h1,h2⟩:=qwP.1 hq
     exact⟨b,h1,by simpa using h2⟩
    rw[hq,if_pos rfl] at e
    rw[qW e,hall];rfl
 unfold Zn
 change Option.bind (qG _ ((0:Nat):Int)) _=_
 rw[key l 0 (by omega) rfl,qvV]
 cases q4n l<;>rfl
end
noncomputable section
open Go.RowKit
theorem q3C {κ ν:Type} [DecidableEq κ] (z:ν) (k:κ) (v:ν) (b:κ):∀M:List (κ×ν),Z6 z (q2R M k v) b=if b=k then v else Z6 z M b
 | []=>by
  show(if b=k then v else z)=_
  rfl
 | p::M=>by
  unfold q2R
  by_cases h:k=p.1
  ·rw[if_pos h]
   show(if b=k then v else Z6 z M b)=if b=k then v else Z6 z (p::M) b
   by_cases hb:b=k
   ·rw[if_pos hb,if_pos hb]
   ·rw[if_neg hb,if_neg hb]
    show _=if b=p.1 then p.2 else Z6 z M b
    rw[if_neg (by rw[←h];exact hb)]
  ·rw[if_neg h]
   show(if b=p.1 then p.2 else Z6 z (q2R M k v) b)=if b=k then v else(if b=p.1 then p.2 else Z6 z M b)
   rw[q3C z k v b M]
   by_cases hb:b=p.1
   ·rw[if_pos hb,if_pos hb,if_neg (fun h'=>h (by rw[←h',hb]))]
   ·rw[if_neg hb,if_neg hb]
theorem q57 (x:Int):∀(l:List Int) (n:Int),n∈cpF x l↔n∈x::l
 | [],n=>Iff.rfl
 | y::l,n=>by
  unfold cpF
  by_cases h:x=y
  ·rw[if_pos h,q57 y l n];subst h;simp
  ·rw[if_neg h,qwh,q57 y l n,qwh (l:=y::l)]
theorem q47 (x:Int):∀(l:List Int),(x::l).Pairwise (·≤·)→(cpF x l).Nodup
 | [],_=>by simp[cpF]
 | y::l,h=>by
  unfold cpF
  obtain⟨h1,h2⟩:=List.pairwise_cons.1 h
  by_cases e:x=y
  ·rw[if_pos e];exact q47 y l h2
  ·rw[if_neg e,List.nodup_cons]
   refine⟨fun hx=>?_,q47 y l h2⟩
   have hy:=h1 y qwa
   rcases qwh.1 ((q57 y l x).1 hx) with h|h
   ·exact e h
   ·have:=(List.pairwise_cons.1 h2).1 x h
    omega
theorem qco (s:List Int) (n:Int):n∈cpI (ZJ s)↔n∈s:=by
 rw[←(q0U s).mem_iff]
 cases ZJ s with
 | nil=>exact Iff.rfl
 | cons x l=>exact q57 x l n
theorem qcC (s:List Int):(cpI (ZJ s)).Nodup:=by
 have:=q0I s
 cases h:ZJ s with
 | nil=>exact .nil
 | cons x l=>rw[h] at this;exact q47 x l this
def q4z (M:List (Int×Int)) (n:Int):List (Int×Int):=q2R M n (w64 (Z6 0 M n+1))
theorem q64:∀(ns:List Int) (M:List (Int×Int)) (k:Int),ns.Nodup→(∀n∈ns,0≤Z6 0 M n∧Z6 0 M n<1000000)→Z6 0 (ns.foldl q4z M) k=Z6 0 M k+if k∈ns then 1 else 0
 | [],M,k,_,_=>by simp
 | n::ns,M,k,hn,hb=>by
  obtain⟨h1,h2⟩:=List.nodup_cons.1 hn
  have hw:w64 (Z6 0 M n+1)=Z6 0 M n+1:=by have:=hb n qwa;exact Qj (by omega) (by omega)
  have hg:∀b,Z6 0 (q4z M n) b=if b=n then Z6 0 M n+1 else Z6 0 M b:=fun b=>by unfold q4z;rw[q3C,hw]
  rw[qwX,q64 ns (q4z M n) k h2 (fun m hm=>by
   rw[hg,if_neg (fun h:m=n=>h1 (by rw[←h];exact hm))];exact hb m (qw3 _ hm)),hg]
  by_cases e:k=n
  ·subst e;rw[if_pos rfl,if_neg h1,if_pos qwa];omega
  ·rw[if_neg e]
   by_cases hk:k∈ns
   ·rw[if_pos hk,if_pos (qw3 _ hk)]
   ·rw[if_neg hk,if_neg (fun h=>(qwh.1 h).elim e hk)]
def qaW (l:List (List Int)) (M:List (Int×Int)):List (Int×Int):=l.foldl (fun M s=>(cpI (ZJ s)).foldl q4z M) M
theorem qcJ:∀(l:List (List Int)) (M:List (Int×Int)) (b:Nat),(∀k,0≤Z6 0 M k∧Z6 0 M k≤(b:Int))→b+l.length<1000000→∀k,Z6 0 (qaW l M) k=Z6 0 M k+((l.filter fun s=>decide (k∈s)).length:Int)
 | [],M,b,_,_,k=>by simp[qaW]
 | s::l,M,b,hM,hl,k=>by
  simp only[qw6] at hl
  have hg:∀k,Z6 0 ((cpI (ZJ s)).foldl q4z M) k=Z6 0 M k+if k∈cpI (ZJ s) then 1 else 0:=fun k=>q64 _ M k (qcC s) fun n _=>by have:=hM n;omega
  have hs:qaW (s::l) M=qaW l ((cpI (ZJ s)).foldl q4z M):=rfl
  rw[hs,qcJ l _ (b+1) (fun k=>by
   rw[hg];have:=hM k
   split<;>omega) (by omega),hg,List.filter_cons]
  by_cases h:k∈s
  ·rw[if_pos ((qco s k).2 h),if_pos (by simpa using h),qw6];omega
  ·rw[if_neg (fun h'=>h ((qco s k).1 h')),if_neg (by simpa using h)];omega
theorem qk0 (l:List (List Int)) (hl:l.length<1000000) (k:Int):Z6 0 (qaW l []) k=((l.filter fun s=>decide (k∈s)).length:Int):=by
 rw[qcJ l [] 0 (fun k=>by show(0:Int)≤0∧(0:Int)≤0;omega) (by omega)]
 show(0:Int)+_=_
 omega
theorem qev {l:List (List Int)} {i:Nat} {s:List Int} {k:Int} (hi:l[i]?=some s) (hk:k∈s):(1:Int)<((l.filter fun s=>decide (k∈s)).length:Int)↔∃j t,j≠i∧l[j]?=some t∧k∈t:=by
 have hlt:=Qb hi
 have e:l=l.take i++s::l.drop (i+1):=by
  rw[qvX hlt] at hi
  injection hi with hi
  rw[←hi,List.getElem_cons_drop,qwJ]
 have hf:(l.filter fun s=>decide (k∈s)).length=((l.take i).filter fun s=>decide (k∈s)).length+(((l.drop (i+1)).filter fun s=>decide (k∈s)).length+1):=by
  conv=>lhs;rw[e]
  rw[List.filter_append,qw2,List.filter_cons,if_pos (by simpa using hk),qw6]
 rw[hf]
 constructor
 ·intro h
  have:0<((l.take i).filter fun s=>decide (k∈s)).length∨0<((l.drop (i+1)).filter fun s=>decide (k∈s)).length:=by omega
  rcases this with h|h
  ·obtain⟨t,ht⟩:=List.exists_mem_of_length_pos h
   obtain⟨h1,h2⟩:=qwQ.1 ht
   obtain⟨j,hj⟩:=List.getElem?_of_mem h1
   have hji:j<i:=by have:=Qb hj;rw[qwo] at this;omega
   rw[qwu hji] at hj
   exact⟨j,t,by omega,hj,by simpa using h2⟩
  ·obtain⟨t,ht⟩:=List.exists_mem_of_length_pos h
   obtain⟨h1,h2⟩:=qwQ.1 ht
   obtain⟨j,hj⟩:=List.getElem?_of_mem h1
   rw[List.getElem?_drop] at hj
   exact⟨i+1+j,t,by omega,hj,by simpa using h2⟩
 ·rintro⟨j,t,h1,h2,h3⟩
  by_cases hji:j<i
  ·have:0<((l.take i).filter fun s=>decide (k∈s)).length:=List.length_pos_of_mem (a:=t) (qwQ.2 ⟨qvW (i:=j) (by rw[qwu hji];exact h2),by simpa using h3⟩)
   omega
  ·have:0<((l.drop (i+1)).filter fun s=>decide (k∈s)).length:=List.length_pos_of_mem (a:=t) (qwQ.2 ⟨qvW (i:=j-(i+1)) (by rw[List.getElem?_drop,show i+1+(j-(i+1))=j by omega];exact h2),by simpa using h3⟩)
   omega
end
noncomputable section
open Go.RowKit
def q8P (n a b:Int):Int:=max (min a b) (min n (max a b))
def q5w (s:qf):Bool:=q8P s.Worst (-1000) 1000==s.Worst&&q8P s.Best (-1000) 1000==s.Best&&s.Worst != s.Best&&q8P s.Pass s.Worst s.Best==s.Pass
def q8F (s:qf) (g:Int):Bool:=q5w s&&q8P g s.Worst s.Best==g
def qcy (s:qf) (g m:Int):Bool:=q8F s g&&(g==m||(decide (m<g)==decide (s.Worst<s.Best)))
theorem q5G (s:qf):Z7 s=some (if q5w s then 0 else 10):=by
 have h1:=qbo (ε:=Unit⊕Unit) (step:=zV [s.Worst,s.Best] s 2) [s.Worst,s.Best] (fun i=>(i:Int)) (fun a=>if q8P a (-1000) 1000 != a then some (.inl ()) else none) (.inr ()) (fun i a ha=>by
   have hi:i<2:=by obtain⟨h,_⟩:=qvZ.1 ha;simpa using h
   have hw:w64 ((i:Int)+1)=((i+1:Nat):Int):=q5N hi (by omega)
   unfold zV
   rw[if_pos (by omega),if_pos ⟨by omega,by simpa using by omega⟩,qvY,ha,qvV,hw]
   show(if(q8P a (-1000) 1000 != a)=true then _ else _)=_
   split<;>simp_all) (by
   unfold zV
   rfl)
 unfold Z7
 rw[show((0:Int))=((0:Nat):Int) from rfl,h1,qvV]
 unfold q5w qQ
 simp only[List.findSome?_cons,List.findSome?_nil]
 show _=some (if(q8P s.Worst (-1000) 1000==s.Worst&&q8P s.Best (-1000) 1000==s.Best&&s.Worst != s.Best&&q8P s.Pass s.Worst s.Best==s.Pass)=true then 0 else 10)
 change (Sum.elim _ (fun _=>if(s.Worst==s.Best)=true then some (10:Int) else if(q8P s.Pass s.Worst s.Best != s.Pass)=true then some 10 else some 0) _)=_
 by_cases e1:q8P s.Worst (-1000) 1000=s.Worst<;>by_cases e2:q8P s.Best (-1000) 1000=s.Best<;>by_cases e3:s.Worst=s.Best<;>by_cases e4:q8P s.Pass s.Worst s.Best=s.Pass<;>simp[e1,e2,e3,e4,bne]
theorem q5U (s:qf) (g:Int):Z8 s g=some (q8F s g):=by
 unfold Z8 q8F
 rw[q5G,qvV]
 cases h:q5w s<;>simp[qQ,q8P]
theorem qae (s:qf) (g m:Int):QC s g m=some (qcy s g m):=by
 unfold QC qcy
 rw[q5U,qvV]
 cases h:q8F s g
 ·simp
 ·by_cases h2:g=m<;>simp[h2]
def q3X (s:qf) (a b:qa):Bool:=ceq a.Course b.Course&&(a.Bundle==b.Bundle)&&decide (a.Path=b.Path)&&decide (b.Credits≤a.Credits)&&decide (b.Day≤a.Day)&&qcy s a.Grade b.Grade
theorem qcg (s:qf) {a b:qa} (ha:zr a):QS s a b=some (q3X s a b):=by
 have h2:=ha.2
 unfold QS q3X
 rw[q5Y _ _ (by omega),qae]
 simp only[qvV]
 by_cases hc:ceq a.Course b.Course=true
 ·rw[if_pos (by unfold ceq at hc;rw[qwr] at hc;exact hc),hc]
  cases a.Bundle==b.Bundle
  ·rfl
  ·rw[if_pos rfl]
   by_cases hp:a.Path=b.Path
   ·rw[qwV hp,if_pos rfl]
    by_cases h3:b.Credits≤a.Credits
    ·rw[if_pos h3,qwV h3]
     by_cases h4:b.Day≤a.Day
     ·rw[if_pos h4,qwV h4];simp
     ·rw[if_neg h4,decide_eq_false h4];simp
    ·rw[if_neg h3,decide_eq_false h3];simp
   ·rw[decide_eq_false hp,if_neg (by decide)];simp
 ·rw[if_neg (by unfold ceq at hc;rw[qwr] at hc;exact hc),qwn.2 hc];rfl
theorem qbO {ε:Type} {step:Int→Option (Int⊕ε)} (n:Nat) (q:Nat→Bool) (e0 e1:ε) (hs:∀i,i<n→step (i:Int)=some (if q i=true then .inr e0 else .inl ((i+1:Nat):Int))) (he:step ((n:Nat):Int)=some (.inr e1)) :
  qG step (0:Int)=some (if(List.range n).any q=true then e0 else e1):=
 qaL (List.range n) q e0 e1 (fun i a ha=>by
  have hi:=Qb ha
  rw[List.length_range] at hi
  rw[List.getElem?_range hi] at ha
  injection ha with ha
  subst ha
  exact hs i hi) (by rw[List.length_range];exact he)
def qhD (l:List qa) (i:Nat) (n:Int):Bool:=(List.range l.length).any fun j=>decide (j≠i)&&(l[j]?.any fun c=>c.Sources.any fun x=>x==n)
def qnd (s:qf) (l:List qa) (i k:Nat) (a b:qa):Bool:=decide (i≠k)&&q3X s a b&&a.Sources.all fun n=>(b.Sources.any fun x=>n==x) || !qhD l i n
def plc (s:qf) (l:List qa) (k i:Nat):Bool:=match l[i]?,l[k]? with
 | some a,some b=>qnd s l i k a b
 | _,_=>false
def q7x (s:qf) (l:List qa) (k:Nat):Bool:=(List.range l.length).any (plc s l k)
theorem qhz {l:List qa} {i:Nat} {n:Int}:qhD l i n=true↔∃j t,j≠i∧(l.map fun a=>a.Sources)[j]?=some t∧n∈t:=by
 unfold qhD
 rw[qwP]
 constructor
 ·rintro⟨j,h1,h2⟩
  rw[qwr] at h2
  obtain⟨h2,h3⟩:=h2
  cases hj:l[j]? with
  | none=>rw[hj] at h3;cases h3
  | some c=>
   rw[hj] at h3
   refine⟨j,c.Sources,of_decide_eq_true h2,by rw[qw9,hj];rfl,?_⟩
   obtain⟨x,h4,h5⟩:=qwP.1 (show(c.Sources.any fun x=>x==n)=true from h3)
   rw[show n=x by simpa using (eq_comm.1 (beq_iff_eq.1 h5))];exact h4
 ·rintro⟨j,t,h1,h2,h3⟩
  rw[qw9] at h2
  obtain⟨c,h4,rfl⟩:=qw8.1 h2
  refine⟨j,qwR.2 (Qb h4),?_⟩
  rw[qwV h1,h4]
  show(c.Sources.any fun x=>x==n)=true
  exact qwP.2 ⟨n,h3,by simp⟩
theorem qeN (w:List Int) (hw:w.length≤1000) (l:List qa) (t11 t12:Int) (M:List (Int×Int)):qG (Qe w l t11 t12 ((w.length:Nat):Int)) (M,(0:Int))=some (w.foldl q4z M):=by
 exact q0P (step:=Qe w l t11 t12 ((w.length:Nat):Int)) w (fun(b:List (Int×Int)) k=>(b,(k:Int))) q4z (fun b=>b) (fun b k a ha=>by
  have hi:=Qb ha
  unfold Qe
  dsimp only
  rw[if_pos (by omega),if_pos ⟨by omega,by omega⟩,qvY,ha,qvV,Qm hi (by omega)]
  rfl) (fun b=>by
  unfold Qe
  dsimp only
  rw[if_neg (by omega)]) M
theorem qmW (l:List qa) (hl:l.length≤1000) (hf:∀a∈l,zr a):ZV l=some (qaW (l.map fun a=>a.Sources) []):=by
 have hML:100000≤maxLen:=by unfold maxLen;omega
 have h:=q0P (step:=Qt l ((l.length:Nat):Int)) l (fun(b:List (Int×Int)) k=>(b,(k:Int))) (fun M a=>(cpI (ZJ a.Sources)).foldl q4z M) (fun b=>b) (fun b k a ha=>by
  have hi:=Qb ha
  have hfa:=(hf a (qvW ha)).1
  have hc:(cpI (ZJ a.Sources)).length≤1000:=qww (q7P _) (by rw[q0u];exact hfa)
  unfold Qt qL qF
  dsimp only
  rw[if_pos (by omega),if_pos ⟨by omega,by omega⟩,qvY,ha,qvV,if_pos ⟨by omega,by omega⟩,qvV,if_pos (by omega),qeN _ hc,qvV,Qm hi (by omega)]) (fun b=>by
  unfold Qt
  dsimp only
  rw[if_neg (by omega)]) []
 unfold ZV
 change Option.bind (qG _ ([],((0:Nat):Int))) _=_
 rw[h,qvV]
 unfold qaW
 rw[List.foldl_map]
theorem q9O (S:List Int) (hS:S.length≤1000) (M:List (Int×Int)) (l:List qa) (k:Nat) (b:qa) (hb:l[k]?=some b) (hfb:zr b):qN S M l (k:Int)=some (S.any fun n=>decide (1<Z6 0 M n) && !(b.Sources.any fun x=>n==x)):=by
 have h2:=hfb.1
 have hk:=Qb hb
 have hq:∀n,Qk n M l (k:Int)=some (decide (1<Z6 0 M n) && !(b.Sources.any fun x=>n==x)):=fun n=>by
  unfold Qk
  by_cases h:1<Z6 0 M n
  ·rw[if_pos h,if_pos ⟨by omega,by omega⟩,qvY,hb,qvV,q2M _ (by omega),qvV,qwV h,qws]
  ·rw[if_neg h,decide_eq_false h,Bool.false_and]
 have h:=q1x (step:=qA M l (k:Int) S ((S.length:Nat):Int)) S (fun n=>decide (1<Z6 0 M n) && !(b.Sources.any fun x=>n==x)) (fun i => .inl (i:Int)) (.inr ()) (fun i n hn=>by
  have hi:=Qb hn
  unfold qA
  rw[if_pos (by omega),if_pos ⟨by omega,by omega⟩,qvY,hn,qvV,hq,qvV,Qm hi (by omega)]
  split<;>rfl) (by
  unfold qA
  rw[if_neg (by omega)])
 unfold qN zp
 rcases h with ⟨h1,i,h2⟩|⟨h1,h2⟩
 ·rw[h2,qvV,Sum.elim_inl,qvV,h1,qwV (by omega)]
 ·rw[h2,qvV,Sum.elim_inr,qvV,h1,decide_eq_false (by omega)]
theorem qil {l:List qa} (hl:l.length≤1000) {i:Nat} {a:qa} (ha:l[i]?=some a) (T:List Int):(!a.Sources.any fun n=>decide (1<Z6 0 (qaW (l.map fun a=>a.Sources) []) n) && !(T.any fun x=>n==x))=a.Sources.all fun n=>(T.any fun x=>n==x) || !qhD l i n:=by
 rw[List.not_any_eq_all_not]
 have key:∀n∈a.Sources,(!(decide (1<Z6 0 (qaW (l.map fun a=>a.Sources) []) n) && !(T.any fun x=>n==x)))=((T.any fun x=>n==x) || !qhD l i n):=fun n hn=>by
  have e:decide (1<Z6 0 (qaW (l.map fun a=>a.Sources) []) n)=qhD l i n:=by
   rw[Bool.eq_iff_iff,decide_eq_true_iff,qhz,qk0 _ (by rw[qwD];omega)]
   exact qev (i:=i) (s:=a.Sources) (by rw[qw9,ha];rfl) hn
  rw[e]
  cases qhD l i n<;>cases(T.any fun x=>n==x)<;>rfl
 rw[Bool.eq_iff_iff,qwc,qwc]
 exact⟨fun h n hn=>by rw[←key n hn];exact h n hn,fun h n hn=>by rw[key n hn];exact h n hn⟩
theorem q9I (s:qf) (l:List qa) (hl:l.length≤1000) (hf:∀a∈l,zr a) (k:Nat) (hk:k<l.length):zI l s (k:Int)=some (q7x s l k):=by
 have hb:l[k]?=some l[k]:=qvX hk
 have hfb:zr l[k]:=hf _ (qwM hk)
 have h:=qbO (step:=zM l s (k:Int) (qaW (l.map fun a=>a.Sources) []) l ((l.length:Nat):Int)) l.length (plc s l k) (Sum.inl ()) (Sum.inr ()) (fun i hi=>by
  have ha:l[i]?=some l[i]:=qvX hi
  have hfa:zr l[i]:=hf _ (qwM hi)
  have hp:plc s l k i=qnd s l i k l[i] l[k]:=by unfold plc;rw[ha,hb]
  rw[hp]
  unfold zM qnd
  rw[if_pos (by omega),if_pos ⟨by omega,by omega⟩,qvY,ha,qvV,Qm hi (by omega)]
  by_cases hik:i=k
  ·rw[if_pos (beq_iff_eq.2 (by omega:(i:Int)=(k:Int))),decide_eq_false (by simpa using hik)];rfl
  ·rw[if_neg (by simpa using fun h:(i:Int)=(k:Int)=>hik (by omega)),if_pos ⟨by omega,by omega⟩,qvY,hb,qvV,qcg s hfa,qvV,qwV hik,qws]
   cases q3X s l[i] l[k]
   ·rfl
   ·rw[if_neg (by decide),q9O _ hfa.1 _ _ _ _ hb hfb,qvV,qil hl ha,qws]
    split<;>rfl) (by
  unfold zM
  rw[if_neg (by omega)])
 unfold zI
 rw[qmW l hl hf,qvV,h,qvV]
 unfold q7x
 cases(List.range l.length).any (plc s l k)<;>rfl
end
noncomputable section
def q1v (p:Nat→Bool):Nat→Option Nat
 | 0=>none
 | n+1=>if p n=true then some n else q1v p n
theorem q4S {p:Nat→Bool}:∀{n:Nat},q1v p n=none↔∀k,k<n→p k=false
 | 0=>Iff.intro (fun _ k hk=>absurd hk (Nat.not_lt_zero k)) (fun _=>rfl)
 | n+1=>by
  unfold q1v
  by_cases h:p n=true
  ·rw[if_pos h]
   exact Iff.intro (fun h'=>by cases h') (fun h'=>by rw[h' n (by omega)] at h;cases h)
  ·rw[if_neg h,q4S]
   refine⟨fun h' k hk=>?_,fun h' k hk=>h' k (by omega)⟩
   by_cases hkn:k=n
   ·rw[hkn];exact qwn.2 h
   ·exact h' k (by omega)
theorem ZM {p:Nat→Bool} {i:Nat}:∀{n:Nat},q1v p n=some i→i<n∧p i=true∧∀k,i<k→k<n→p k=false
 | 0,h=>by cases h
 | n+1,h=>by
  unfold q1v at h
  by_cases hp:p n=true
  ·rw[if_pos hp] at h
   injection h with h
   subst h
   exact⟨by omega,hp,fun k h1 h2=>by omega⟩
  ·rw[if_neg hp] at h
   obtain⟨h1,h2,h3⟩:=ZM h
   refine⟨by omega,h2,fun k hk1 hk2=>?_⟩
   by_cases hkn:k=n
   ·rw[hkn];exact qwn.2 hp
   ·exact h3 k hk1 (by omega)
section
variable {A:Type} (cv:List A→Nat→Bool)
def qaS:Nat→List A→List A
 | 0,l=>l
 | f+1,l=>match q1v (cv l) l.length with
  | none=>l
  | some k=>qaS f (l.eraseIdx k)
def red (l:List A):List A:=qaS cv l.length l
variable {cv}
theorem q5Z:∀(f g:Nat) (l:List A),l.length≤f→l.length≤g→qaS cv f l=qaS cv g l
 | 0,0,l,_,_=>rfl
 | 0,g+1,l,h,_=>by
  have:l=[]:=qwe (by omega)
  subst this;rfl
 | f+1,0,l,_,h=>by
  have:l=[]:=qwe (by omega)
  subst this;rfl
 | f+1,g+1,l,h1,h2=>by
  unfold qaS
  cases h:q1v (cv l) l.length with
  | none=>rfl
  | some k=>
   have hk:=(ZM h).1
   have hl:(l.eraseIdx k).length=l.length-1:=by rw[List.length_eraseIdx,if_pos hk]
   exact q5Z f g _ (by omega) (by omega)
theorem q3m {l:List A} (h:q1v (cv l) l.length=none):red cv l=l:=by
 unfold red
 cases hl:l.length with
 | zero=>rfl
 | succ n=>unfold qaS;rw[h]
theorem q5d {l:List A} {k:Nat} (h:q1v (cv l) l.length=some k):red cv l=red cv (l.eraseIdx k):=by
 have hk:=(ZM h).1
 have hl:(l.eraseIdx k).length=l.length-1:=by rw[List.length_eraseIdx,if_pos hk]
 show qaS cv l.length l=qaS cv (l.eraseIdx k).length (l.eraseIdx k)
 cases hn:l.length with
 | zero=>omega
 | succ n=>
  have e:qaS cv (n+1) l=qaS cv n (l.eraseIdx k):=by
   conv=>lhs;unfold qaS
   rw[h]
  rw[e]
  exact q5Z n _ (l.eraseIdx k) (by omega) (qwb _)
theorem q7l {M:List A→Prop} (hstep:∀l k,q1v (cv l) l.length=some k→M l→M (l.eraseIdx k)):∀(n:Nat) (l:List A),l.length≤n→M l→M (red cv l)
 | 0,l,hl,h=>by
  have:l=[]:=qwe (by omega)
  subst this;exact h
 | n+1,l,hl,h=>by
  cases hc:q1v (cv l) l.length with
  | none=>rw[q3m hc];exact h
  | some k=>
   have hk:=(ZM hc).1
   have hlen:(l.eraseIdx k).length=l.length-1:=by rw[List.length_eraseIdx,if_pos hk]
   rw[q5d hc]
   exact q7l hstep n _ (by omega) (hstep l k hc h)
theorem q9m:∀(n:Nat) (l:List A),l.length≤n→q1v (cv (red cv l)) (red cv l).length=none
 | 0,l,hl=>by
  have:l=[]:=qwe (by omega)
  subst this;rfl
 | n+1,l,hl=>by
  cases hc:q1v (cv l) l.length with
  | none=>rw[q3m hc];exact hc
  | some k=>
   have hk:=(ZM hc).1
   have hlen:(l.eraseIdx k).length=l.length-1:=by rw[List.length_eraseIdx,if_pos hk]
   rw[q5d hc]
   exact q9m n _ (by omega)
theorem qj2 (l:List A):red cv (red cv l)=red cv l:=q3m (q9m l.length l (qwb _))
theorem q44 (l:List A):(red cv l).Sublist l:=
 q7l (M:=fun x=>x.Sublist l) (fun x k _ h=>(List.eraseIdx_sublist x k).trans h) l.length l (qwb _) (List.Sublist.refl l)
theorem qjX {B:Type} (key:A→B) (hcv:∀(l:List A) (k:Nat),k<l.length→cv l k=true→∃i,i≠k∧∃a b,l[i]?=some a∧l[k]?=some b∧key a=key b) (l:List A):∀x∈l,∃y∈red cv l,key y=key x:=by
 refine q7l (M:=fun m=>∀x∈l,∃y∈m,key y=key x) (fun m k hc h x hx=>?_) l.length l (qwb _) (fun x hx=>⟨x,hx,rfl⟩)
 obtain⟨y,hy,he⟩:=h x hx
 obtain⟨j,hj⟩:=List.getElem?_of_mem hy
 by_cases hjk:j=k
 ·subst hjk
  obtain⟨h1,h2,-⟩:=ZM hc
  obtain⟨i,h3,a,b,h4,h5,h6⟩:=hcv m j h1 h2
  rw[hj] at h5
  injection h5 with h5
  subst h5
  refine⟨a,?_,h6.trans he⟩
  exact List.mem_eraseIdx_iff_getElem?.2 ⟨i,h3,h4⟩
 ·exact⟨y,List.mem_eraseIdx_iff_getElem?.2 ⟨j,hjk,hj⟩,he⟩
end
def grd {A:Type} (sm:A→A→Bool):List A→List A→List A
 | [],t=>t
 | _::_,[]=>[]
 | a::l,b::t=>if sm a b=true then grd sm l t else grd sm l (b::t)
theorem qdE {A:Type} {sm:A→A→Bool}:∀l:List A,grd sm l []=[]
 | []=>rfl
 | _::_=>rfl
end
noncomputable section
open Go.RowKit
theorem q98 {p:Nat→Bool}:∀{n k:Nat},k<n→p k=true→(∀j,k<j→j<n→p j=false)→q1v p n=some k
 | n+1,k,hk,hp,h=>by
  unfold q1v
  by_cases e:k=n
  ·subst e;rw[if_pos hp]
  ·rw[if_neg (by rw[h n (by omega) (by omega)];decide)]
   exact q98 (by omega) hp fun j h1 h2=>h j h1 (by omega)
def JY (s:qf):(List qa×Int)→Option ((List qa×Int)⊕(List qa))|(left,k)=>if 0≤k then Option.bind (zI left s k) fun(a:Bool)=>if a=Bool.true then Option.bind (ql k (w64 (k+1)) left) fun(a2:List qa)=>some (Sum.inl (a2,w64 (((a2.length:Nat):Int)-1))) else some (Sum.inl (left,w64 (k-1))) else some (Sum.inr left)
theorem q5R (s:qf):∀(n k:Nat) (l:List qa),l.length≤n→n≤1000→(∀a∈l,zr a)→k≤l.length→(∀j,k≤j→j<l.length→q7x s l j=false)→qG (JY s) (l,((k:Int)-1))=some (red (q7x s) l):=by
 intro n
 induction n with
 | zero=>
  intro k l hl _ hf hk hc
  have hl0:l=[]:=qwe (by omega)
  subst hl0
  have hk:k=0:=by simpa using hk
  subst hk
  refine qW ?_
  unfold JY
  dsimp only
  rw[if_neg (by omega)];rfl
 | succ n ih=>
  intro k
  induction k with
  | zero=>
   intro l hl _ hf hk hc
   rw[q3m (q4S.2 fun j hj=>hc j (qwl _) hj)]
   refine qW ?_
   unfold JY
   dsimp only
   rw[if_neg (by omega)]
  | succ k ihk=>
   intro l hl hn hf hk hc
   have e1:((k+1:Nat):Int)-1=(k:Int):=by omega
   rw[e1]
   have hcov:=q9I s l (by omega) hf k (by omega)
   cases hq:q7x s l k
   ·have e:JY s (l,(k:Int))=some (.inl (l,((k:Int)-1))):=by
     unfold JY
     dsimp only
     rw[if_pos (by omega),hcov,qvV,hq,if_neg (by decide),Qj (by omega) (by omega)]
    rw[zO e]
    refine ihk l hl hn hf (by omega) fun j h1 h2=>?_
    by_cases hj:j=k
    ·rw[hj];exact hq
    ·exact hc j (by omega) h2
   ·have hlen:(l.eraseIdx k).length=l.length-1:=by rw[List.length_eraseIdx,if_pos (by omega)]
    have e:JY s (l,(k:Int))=some (.inl (l.eraseIdx k,(((l.eraseIdx k).length:Int)-1))):=by
     unfold JY ql
     dsimp only
     rw[if_pos (by omega),hcov,qvV,hq,if_pos rfl,Qj (by omega) (by omega),if_pos ⟨by omega,rfl,by omega⟩,qvV,qvY,Qj (by omega) (by omega)]
    rw[zO e,q5d (q98 (by omega) hq fun j h1 h2=>hc j (by omega) h2)]
    exact ih (l.eraseIdx k).length (l.eraseIdx k) (by omega) (by omega) (fun a ha=>hf a (List.mem_of_mem_eraseIdx ha)) (qwb _) fun j h1 h2=>by omega
end
noncomputable section
open Go.RowKit
set_option maxRecDepth 20000
set_option maxHeartbeats 8000000
def zn (p:qe) (s:qf) (day:Int) (t14:List qa) (t15:Int):(List qa×Int)→Option ((List qa×Int)⊕(List qa))|(left,t16)=>if t16<t15 then if 0≤t16∧t16<((t14.length:Nat):Int) then Option.bind t14[Int.toNat t16]? fun(a:qa)=>Option.bind (qs p a day) fun(a2:Bool)=>if(!a2)=Bool.true then Option.bind (qv a) fun(a3:Unit)=>if left.length+1≤maxLen∧(left.length+1)*104≤140737488355328 then some (Sum.inl (left++[a],w64 (t16+1))) else none else some (Sum.inl (left,w64 (t16+1))) else none else some (Sum.inr left)
theorem q0V:∀(left:List qa) (p_School p_Id p_Version p_From:Int) (p_Name:ByteArray) (p_Need_Kind p_Need_N p_Need_Min:Int) (p_Need_Set:List qb) (p_Need_L:List qg) (p_Total p_Own p_Age:Int) (p_Exclude:List (QF qb)) (s_Worst s_Best s_Pass day:Int) (t14:List qa) (t15 t16:Int) (Q9:Nat),Q9=left.length→XL2 evo 11 0 3 ⟨[(3,rI day),(5,rP 0),(6,rP 1),(10,rO 2 8 Q9),(14,rL 8 qc t14),(15,rI t15),(16,rI t16)],[(0,B.blk 39 [dI p_School,dI p_Id,dI p_Version,dI p_From,dS p_Name,dI p_Need_Kind,dI p_Need_N,dI p_Need_Min,dL 2 qh p_Need_Set,dL 5 qq p_Need_L,dI p_Total,dI p_Own,dI p_Age,dL 4 (eA2 qh) p_Exclude]),(1,B.blk 30 [dI s_Worst,dI s_Best,dI s_Pass]),(2,bR 52 8 qc left)],3,53⟩=(qG (zn (qe.mk p_School p_Id p_Version p_From p_Name (qg.mk p_Need_Kind p_Need_N p_Need_Min p_Need_Set p_Need_L) p_Total p_Own p_Age p_Exclude) (qf.mk s_Worst s_Best s_Pass) day t14 t15) (left,t16)).bind (fun(e:List qa)=>some (Exit.exit 0,⟨[(6,rP 0),(10,rO 1 8 e.length)],[(0,B.blk 30 [dI s_Worst,dI s_Best,dI s_Pass]),(1,bR 52 8 qc e)],2,53⟩)):=
 by
 intro left p_School p_Id p_Version p_From p_Name p_Need_Kind p_Need_N p_Need_Min p_Need_Set p_Need_L p_Total p_Own p_Age p_Exclude s_Worst s_Best s_Pass day t14 t15 t16 Q9 h0
 subst h0
 revert t16;revert left;exact q8h qdI qcm (fun e=>by exact⟨_,rfl,fun h=>by cases h⟩) fun left t16=>by
  have:=qi3;have:=@q6T.eq_1;have:=@QB;have:=@Zo;have:=@zn.eq_1;exact gA
theorem JR:∀  (p_School p_Id p_Version p_From:Int) (p_Name:ByteArray) (p_Need_Kind p_Need_N p_Need_Min:Int) (p_Need_Set:List qb) (p_Need_L:List qg) (p_Total p_Own p_Age:Int) (p_Exclude:List (QF qb)) (s_Worst s_Best s_Pass day:Int) (t14:List qa) (t15 t16:Int),XL2 evo 11 0 3 ⟨[(3,rI day),(5,rP 0),(6,rP 1),(10,rO 2 8 0),(14,rL 8 qc t14),(15,rI t15),(16,rI t16)],[(0,B.blk 39 [dI p_School,dI p_Id,dI p_Version,dI p_From,dS p_Name,dI p_Need_Kind,dI p_Need_N,dI p_Need_Min,dL 2 qh p_Need_Set,dL 5 qq p_Need_L,dI p_Total,dI p_Own,dI p_Age,dL 4 (eA2 qh) p_Exclude]),(1,B.blk 30 [dI s_Worst,dI s_Best,dI s_Pass]),(2,B.row 52 8 [])],3,53⟩=(qG (zn (qe.mk p_School p_Id p_Version p_From p_Name (qg.mk p_Need_Kind p_Need_N p_Need_Min p_Need_Set p_Need_L) p_Total p_Own p_Age p_Exclude) (qf.mk s_Worst s_Best s_Pass) day t14 t15) ([],t16)).bind (fun(e:List qa)=>some (Exit.exit 0,⟨[(6,rP 0),(10,rO 1 8 e.length)],[(0,B.blk 30 [dI s_Worst,dI s_Best,dI s_Pass]),(1,bR 52 8 qc e)],2,53⟩)):=by
 intro p_School p_Id p_Version p_From p_Name p_Need_Kind p_Need_N p_Need_Min p_Need_Set p_Need_L p_Total p_Own p_Age p_Exclude s_Worst s_Best s_Pass day t14 t15 t16;have h:=q0V [] ((qe.mk p_School p_Id p_Version p_From p_Name (qg.mk p_Need_Kind p_Need_N p_Need_Min p_Need_Set p_Need_L) p_Total p_Own p_Age p_Exclude)).School ((qe.mk p_School p_Id p_Version p_From p_Name (qg.mk p_Need_Kind p_Need_N p_Need_Min p_Need_Set p_Need_L) p_Total p_Own p_Age p_Exclude)).Id ((qe.mk p_School p_Id p_Version p_From p_Name (qg.mk p_Need_Kind p_Need_N p_Need_Min p_Need_Set p_Need_L) p_Total p_Own p_Age p_Exclude)).Version ((qe.mk p_School p_Id p_Version p_From p_Name (qg.mk p_Need_Kind p_Need_N p_Need_Min p_Need_Set p_Need_L) p_Total p_Own p_Age p_Exclude)).From ((qe.mk p_School p_Id p_Version p_From p_Name (qg.mk p_Need_Kind p_Need_N p_Need_Min p_Need_Set p_Need_L) p_Total p_Own p_Age p_Exclude)).Name ((qe.mk p_School p_Id p_Version p_From p_Name (qg.mk p_Need_Kind p_Need_N p_Need_Min p_Need_Set p_Need_L) p_Total p_Own p_Age p_Exclude)).Need.Kind ((qe.mk p_School p_Id p_Version p_From p_Name (qg.mk p_Need_Kind p_Need_N p_Need_Min p_Need_Set p_Need_L) p_Total p_Own p_Age p_Exclude)).Need.N ((qe.mk p_School p_Id p_Version p_From p_Name (qg.mk p_Need_Kind p_Need_N p_Need_Min p_Need_Set p_Need_L) p_Total p_Own p_Age p_Exclude)).Need.Min ((qe.mk p_School p_Id p_Version p_From p_Name (qg.mk p_Need_Kind p_Need_N p_Need_Min p_Need_Set p_Need_L) p_Total p_Own p_Age p_Exclude)).Need.Set ((qe.mk p_School p_Id p_Version p_From p_Name (qg.mk p_Need_Kind p_Need_N p_Need_Min p_Need_Set p_Need_L) p_Total p_Own p_Age p_Exclude)).Need.L ((qe.mk p_School p_Id p_Version p_From p_Name (qg.mk p_Need_Kind p_Need_N p_Need_Min p_Need_Set p_Need_L) p_Total p_Own p_Age p_Exclude)).Total ((qe.mk p_School p_Id p_Version p_From p_Name (qg.mk p_Need_Kind p_Need_N p_Need_Min p_Need_Set p_Need_L) p_Total p_Own p_Age p_Exclude)).Own ((qe.mk p_School p_Id p_Version p_From p_Name (qg.mk p_Need_Kind p_Need_N p_Need_Min p_Need_Set p_Need_L) p_Total p_Own p_Age p_Exclude)).Age ((qe.mk p_School p_Id p_Version p_From p_Name (qg.mk p_Need_Kind p_Need_N p_Need_Min p_Need_Set p_Need_L) p_Total p_Own p_Age p_Exclude)).Exclude ((qf.mk s_Worst s_Best s_Pass)).Worst ((qf.mk s_Worst s_Best s_Pass)).Best ((qf.mk s_Worst s_Best s_Pass)).Pass day t14 t15 t16 _ rfl
 first
  | exact h
  | (simp only[rL,dL,bR,bZ,Nat.reduceAdd] at h;exact h)
def QJ (s:qf):(List qa×Int)→Option ((List qa×Int)⊕(List qa))|(left,k)=>if 0≤k then Option.bind (zI left s k) fun(a:Bool)=>if a=Bool.true then Option.bind (ql k (w64 (k+1)) left) fun(a2:List qa)=>some (Sum.inl (a2,w64 (((a2.length:Nat):Int)-1))) else some (Sum.inl (left,w64 (k-1))) else some (Sum.inr left)
theorem q16:∀(left:List qa) (s_Worst s_Best s_Pass k:Int) (Q9:Nat),Q9=left.length→XL2 evo 11 0 9 ⟨[(6,rP 0),(10,rO 1 8 Q9),(13,rI k)],[(0,B.blk 30 [dI s_Worst,dI s_Best,dI s_Pass]),(1,bR 52 8 qc left)],2,53⟩=(qG (QJ (qf.mk s_Worst s_Best s_Pass)) (left,k)).bind (fun(e:List qa)=>some (Exit.exit 2,⟨[(10,rO 0 8 e.length)],[(0,bR 52 8 qc e)],1,53⟩)):=
 by
 intro left s_Worst s_Best s_Pass k Q9 h0
 subst h0
 revert k;revert left;exact q8h qe4 qdT (fun e=>by exact⟨_,rfl,fun h=>by cases h⟩) fun left k=>by
  have:=qi3;have:=@q6q.eq_1;have:=@Z9;have:=@qC;have:=@QJ.eq_1;exact gA
def zY (l:List qa) (p:qe) (s:qf) (day:Int):Option (List qa×Int):=Option.bind (qG (zn p s day l ((l.length:Nat):Int)) ([],0)) fun(a:List qa)=>Option.bind (qG (QJ s) (a,w64 (((a.length:Nat):Int)-1))) fun(a2:List qa)=>if 10<((a2.length:Nat):Int) then some ([],2) else some (a2,0)
theorem q2H:∀(l:List qa) (p_School p_Id p_Version p_From:Int) (p_Name:ByteArray) (p_Need_Kind p_Need_N p_Need_Min:Int) (p_Need_Set:List qb) (p_Need_L:List qg) (p_Total p_Own p_Age:Int) (p_Exclude:List (QF qb)) (s_Worst s_Best s_Pass day:Int),ev 11 0 [rL 8 qc l,R.agg [dI p_School,dI p_Id,dI p_Version,dI p_From,dS p_Name,dI p_Need_Kind,dI p_Need_N,dI p_Need_Min,dL 2 qh p_Need_Set,dL 5 qq p_Need_L,dI p_Total,dI p_Own,dI p_Age,dL 4 (eA2 qh) p_Exclude],R.agg [dI s_Worst,dI s_Best,dI s_Pass],rI day] []=(zY l (qe.mk p_School p_Id p_Version p_From p_Name (qg.mk p_Need_Kind p_Need_N p_Need_Min p_Need_Set p_Need_L) p_Total p_Own p_Age p_Exclude) (qf.mk s_Worst s_Best s_Pass) day).bind (fun(e:List qa×Int)=>some (R.tup [rL 8 qc e.1,rI e.2],[])):=
 fun l p_School p_Id p_Version p_From p_Name p_Need_Kind p_Need_N p_Need_Min p_Need_Set p_Need_L p_Total p_Own p_Age p_Exclude s_Worst s_Best s_Pass day=>by
  rw[qD qi6 qp3.2.2.2 qlT]
  have:=qi3;have:=@JR;have:=@q16;have:=@zY.eq_1;exact gA
end

noncomputable section
open Go.RowKit
theorem qqM (s:qf):QJ s=JY s:=rfl
def q04 (p:qe) (l:List qa) (day:Int):List qa:=l.filter fun a => !q9K p a day
def q0w (p:qe) (s:qf) (l:List qa) (day:Int):List qa:=red (q7x s) (q04 p l day)
theorem Q9 (p:qe) (s:qf) (l:List qa) (day:Int):(q0w p s l day).length≤l.length:=qww (q44 _).length_le (List.length_filter_le _ _)
theorem q5A {p:qe} {s:qf} {l:List qa} {day:Int} {a:qa} (h:a∈q0w p s l day):a∈l∧q9K p a day=false:=by
 obtain⟨h1,h2⟩:=qwQ.1 ((q44 _).subset h)
 exact⟨h1,by simpa using h2⟩
theorem q9W (p:qe) (s:qf) (day:Int) (l:List qa) (hl:l.length≤1000) (hf:∀a∈l,zr a):∀(r out:List qa) (k:Nat),r.length+k=l.length→l.drop k=r→out.length≤k→qG (zn p s day l ((l.length:Nat):Int)) (out,(k:Int))=some (out++q04 p r day):=by
 have hML:100000≤maxLen:=by unfold maxLen;omega
 intro r
 induction r with
 | nil=>
  intro out k hk hd ho
  have hk:k=l.length:=by simpa using hk
  refine(qW (e:=out) ?_).trans (by unfold q04;rw[List.filter_nil,qwg])
  unfold zn
  dsimp only
  rw[if_neg (by omega)]
 | cons a r ih=>
  intro out k hk hd ho
  simp only[qw6] at hk
  have ha:l[k]?=some a:=by have:=congrArg (fun x:List qa=>x[0]?) hd;simpa [List.getElem?_drop] using this
  have hd1:l.drop (k+1)=r:=by rw[←qwI,hd];rfl
  have hklt:=Qb ha
  have hfa:=hf a (qvW ha)
  have h1:=hfa.1;have h2:=hfa.2
  have e:zn p s day l ((l.length:Nat):Int) (out,(k:Int))=some (.inl (if q9K p a day=true then out else out++[a],((k+1:Nat):Int))):=by
   unfold zn qv qL
   dsimp only
   rw[if_pos (by omega),if_pos ⟨by omega,by omega⟩,qvY,ha,qvV,q8b,qvV,Qm hklt (by omega)]
   cases q9K p a day
   ·rw[if_pos (show(!false)=true by decide),if_pos ⟨by omega,by omega⟩,qvV,if_pos ⟨by omega,by omega⟩,qvV,qvV,if_pos ⟨by omega,by omega⟩];rfl
   ·rfl
  rw[zO e]
  unfold q04
  rw[List.filter_cons]
  cases ho2:q9K p a day
  ·rw[if_neg (by decide),if_pos (by decide),ih (out++[a]) (k+1) (by omega) hd1 (by simp;omega),qwA];rfl
  ·rw[if_pos rfl,if_neg (by decide),ih out (k+1) (by omega) hd1 (by omega)];rfl
theorem q67 (l:List qa) (p:qe) (s:qf) (day:Int) (hl:l.length≤1000) (hf:∀a∈l,zr a):zY l p s day=some (if 10<(q0w p s l day).length then([],2) else(q0w p s l day,0)):=by
 have hy:(q04 p l day).length≤l.length:=List.length_filter_le _ _
 unfold zY
 change Option.bind (qG _ ([],((0:Nat):Int))) _=_
 rw[q9W p s day l hl hf l [] 0 (by omega) rfl (qwb _),qvV,qwf,Qj (by omega) (by omega),qqM,q5R s (q04 p l day).length (q04 p l day).length (q04 p l day) (qwb _) (by omega) (fun a ha=>hf a ((qwQ.1 ha).1)) (qwb _) (fun j h1 h2=>by omega),qvV]
 show(if(10:Int)<(((q0w p s l day).length:Nat):Int) then _ else _)=_
 by_cases h:10<(q0w p s l day).length
 ·rw[if_pos (by omega),if_pos h]
 ·rw[if_neg (by omega),if_neg h];rfl
end
noncomputable section
open Go.RowKit
set_option maxRecDepth 20000
set_option maxHeartbeats 8000000
theorem qsg:okL 13 q94:=qI (qi qoP) (by kernel_rfl) (by kernel_rfl)
def qt1:=JA_ @q94.eq_1 (JA_ @Try.f13.eq_1 @qoP)
theorem qoi:lbO 13 4=qcQ:=Q3 (qi qoP) rfl
theorem qlB:okL 13 qcQ:=zh qsg (qvW (i:=0) (by kernel_rfl))
theorem quT:okL 37 qdG:=qI (qi qqZ) (by kernel_rfl) (by kernel_rfl)
def qvQ:=JA_ @qdG.eq_1 (JA_ @Try.f37.eq_1 @qqZ)
def Zz (a:qa) (b:qa):Option Bool:=Option.bind (zW a.Sources b.Sources) fun(a2:Bool)=>Option.bind (zW a.Path b.Path) fun(a3:Bool)=>if a2=Bool.true then if a3=Bool.true then if(a.Course.School==b.Course.School)=Bool.true∧(ByteArray.toList a.Course.Code==ByteArray.toList b.Course.Code)=Bool.true then if(a.Credits==b.Credits)=Bool.true then if(a.Grade==b.Grade)=Bool.true then if(a.Day==b.Day)=Bool.true then some (a.Bundle==b.Bundle) else some Bool.false else some Bool.false else some Bool.false else some Bool.false else some Bool.false else some Bool.false
theorem q3O:∀(a_Course_School:Int) (a_Course_Code:ByteArray) (a_Credits a_Grade a_Day:Int) (a_Sources:List Int) (a_Bundle:Int) (a_Path:List Int) (b_Course_School:Int) (b_Course_Code:ByteArray) (b_Credits b_Grade b_Day:Int) (b_Sources:List Int) (b_Bundle:Int) (b_Path:List Int),ev 37 0 [R.agg [dI a_Course_School,dS a_Course_Code,dI a_Credits,dI a_Grade,dI a_Day,dL 1 eI a_Sources,dI a_Bundle,dL 1 eI a_Path],R.agg [dI b_Course_School,dS b_Course_Code,dI b_Credits,dI b_Grade,dI b_Day,dL 1 eI b_Sources,dI b_Bundle,dL 1 eI b_Path]] []=(Zz (qa.mk (qb.mk a_Course_School a_Course_Code) a_Credits a_Grade a_Day a_Sources a_Bundle a_Path) (qa.mk (qb.mk b_Course_School b_Course_Code) b_Credits b_Grade b_Day b_Sources b_Bundle b_Path)).bind (fun(e:Bool)=>some (rB e,[])):=
 fun a_Course_School a_Course_Code a_Credits a_Grade a_Day a_Sources a_Bundle a_Path b_Course_School b_Course_Code b_Credits b_Grade b_Day b_Sources b_Bundle b_Path=>by
  rw[qD qqZ qsI.2.2.2 quT]
  have:=qvQ;have:=@ZU;have:=@Zz.eq_1;exact gA
def zN (a:List qa) (b:List qa):Int→Option (Int⊕(Unit⊕Unit))|k=>if k<((a.length:Nat):Int) then if 0≤k∧k<((a.length:Nat):Int) then Option.bind a[Int.toNat k]? fun(a2:qa)=>if 0≤k∧k<((b.length:Nat):Int) then Option.bind b[Int.toNat k]? fun(a3:qa)=>Option.bind (Zz a2 a3) fun(a4:Bool)=>if(!a4)=Bool.true then some (Sum.inr (Sum.inl ())) else some (Sum.inl (w64 (k+1))) else none else none else some (Sum.inr (Sum.inr ()))
theorem q0r:∀(a b:List qa) (k:Int),XL2 evo 13 0 4 ⟨[(0,rL 8 qc a),(1,rL 8 qc b),(5,rI k)],[],0,29⟩=(qG (zN a b) k).bind (Sum.elim (fun(e:Unit)=>some (Exit.ret,⟨[(4,rB Bool.false)],[],0,29⟩)) (fun(e:Unit)=>some (Exit.exit 0,⟨[(4,R.any)],[],0,29⟩))):=
 fun a b k=>by
  revert k;exact q8X qoi qlB (fun e=>by rcases e with _|_<;>exact⟨_,rfl,fun h=>by cases h⟩) fun x=>by
   have:=qt1;have:=@qcQ.eq_1;have:=@q3O;have:=@zN.eq_1;exact gA
def QD (a:List qa) (b:List qa):Option Bool:=if(((a.length:Nat):Int) != ((b.length:Nat):Int))=Bool.true then some Bool.false else Option.bind (qG (zN a b) 0) fun(a2:Sum Unit Unit)=>Sum.elim (fun(a3:Unit)=>some Bool.false) (fun(a4:Unit)=>some Bool.true) a2
theorem q1N:∀(a b:List qa),ev 13 0 [rL 8 qc a,rL 8 qc b] []=(QD a b).bind (fun(e:Bool)=>some (rB e,[])):=
 fun a b=>by
  rw[qD qoP qs1.2.2.2 qsg]
  have:=qt1;have:=@q0r;have:=@QD.eq_1;exact gA
theorem lo7:okL 7 qdH:=qI (qi bd7) (by kernel_rfl) (by kernel_rfl)
def cx7:=JA_ @qdH.eq_1 (JA_ @Try.f7.eq_1 @bd7)
theorem qqv:lbO 7 9=qhM:=Q3 (qi bd7) rfl
theorem qpd:okL 7 qhM:=zh lo7 (qvW (i:=0) (by kernel_rfl))
theorem ql6:lbO 7 15=qdf:=Q3 (qi bd7) rfl
theorem qn9:okL 7 qdf:=zh lo7 (qvW (i:=1) (by kernel_rfl))
theorem qtQ:okL 24 qdz:=qI (qi qqN) (by kernel_rfl) (by kernel_rfl)
def qvw:=JA_ @qdz.eq_1 (JA_ @Try.f24.eq_1 @qqN)
theorem quR:okL 49 qcb:=qI (qi qpl) (by kernel_rfl) (by kernel_rfl)
def quL:=JA_ @qcb.eq_1 (JA_ @Try.f49.eq_1 @qpl)
theorem qv4:okL 73 qd9:=qI (qi qrU) (by kernel_rfl) (by kernel_rfl)
def qu4:=JA_ @qd9.eq_1 (JA_ @Try.f73.eq_1 @qrU)
theorem quZ:okL 87 qdq:=qI (qi qqU) (by kernel_rfl) (by kernel_rfl)
def qva:=JA_ @qdq.eq_1 (JA_ @Try.f87.eq_1 @qqU)
def Zb (x:Int):Option Bool:=
 some (x != x)
def qR (x:Int):Bool:=
 x != x
theorem q1j (x:Int):Zb x=some (qR x):=by
 unfold Zb qR
 simp only[ZG]
theorem q1D:∀(x:Int),ev 87 0 [rI x] []=some (rB (qR x),[]):=
 fun x=>by
  have h:ev 87 0 [rI x] []=(Zb x).bind (fun(e:Bool)=>some (rB e,[])):=by
   rw[qD qqU qt8.2.2.2 quZ]
   have:=qva;have:=@Zb.eq_1;exact gA
  rw[q1j] at h
  exact h
def QG (x:Int) (y:Int):Option Int:=if qR x=Bool.true then if qR y=Bool.true then some 0 else some (-1) else if qR y=Bool.true then some 1 else if x<y then some (-1) else if y<x then some 1 else some 0
def qn (x:Int) (y:Int):Int:=if qR x=Bool.true then if qR y=Bool.true then 0 else(-1) else if qR y=Bool.true then 1 else if x<y then(-1) else if y<x then 1 else 0
theorem q0y (x y:Int):QG x y=some (qn x y):=by
 unfold QG qn
 simp only[ZG]
theorem ZE:∀(x y:Int),ev 73 0 [rI x,rI y] []=some (rI (qn x y),[]):=
 fun x y=>by
  have h:ev 73 0 [rI x,rI y] []=(QG x y).bind (fun(e:Int)=>some (rI e,[])):=by
   rw[qD qrU qsD.2.2.2 qv4]
   have:=qu4;have:=@q1D;have:=@QG.eq_1;exact gA
  rw[q0y] at h
  exact h
def QI (a:ByteArray) (b:ByteArray):Option Int:=
 some (qfb a b)
def zC (a:ByteArray) (b:ByteArray):Int:=
 qfb a b
theorem q0D (a b:ByteArray):QI a b=some (zC a b):=by
 unfold QI zC
 simp only[ZG]
theorem q18:∀(a b:ByteArray),ev 74 0 [rS a,rS b] []=some (rI (zC a b),[]):=
 fun a b=>by
  have h:ev 74 0 [rS a,rS b] []=(QI a b).bind (fun(e:Int)=>some (rI e,[])):=by
   rw[qdQ,qsy.2.2.2]
   have:=@QI.eq_1;exact gA
  rw[q0D] at h
  exact h
theorem qsp:okL 75 q8y:=qI (qi qp2) (by kernel_rfl) (by kernel_rfl)
def qtt:=JA_ @q8y.eq_1 (JA_ @Try.f75.eq_1 @qp2)
theorem qnX:lbO 75 2=qdM:=Q3 (qi qp2) rfl
theorem qlH:okL 75 qdM:=zh qsp (qvW (i:=0) (by kernel_rfl))
def qx (s1:List Int) (s2:List Int) (t9:List Int) (t10:Int):Int→Option (Int⊕(Int⊕Unit))|t11=>if t11<t10 then if 0≤t11∧t11<((t9.length:Nat):Int) then Option.bind t9[Int.toNat t11]? fun(a:Int)=>if((s2.length:Nat):Int)≤t11 then some (Sum.inr (Sum.inl 1)) else if 0≤t11∧t11<((s2.length:Nat):Int) then Option.bind s2[Int.toNat t11]? fun(a2:Int)=>if(qn a a2 != 0)=Bool.true then some (Sum.inr (Sum.inl (qn a a2))) else some (Sum.inl (w64 (t11+1))) else none else none else some (Sum.inr (Sum.inr ()))
theorem Zw:∀(s1 s2 t9:List Int) (t10 t11:Int),XL2 evo 75 0 2 ⟨[(0,rL 1 eI s1),(1,rL 1 eI s2),(9,rL 1 eI t9),(10,rI t10),(11,rI t11)],[],0,36⟩=(qG (qx s1 s2 t9 t10) t11).bind (Sum.elim (fun(e:Int)=>some (Exit.ret,⟨[(0,rL 1 eI s1),(1,rL 1 eI s2),(4,rI e)],[],0,36⟩)) (fun(e:Unit)=>some (Exit.exit 0,⟨[(0,rL 1 eI s1),(1,rL 1 eI s2),(4,R.any)],[],0,36⟩))):=
 fun s1 s2 t9 t10 t11=>by
  revert t11;exact q8X qnX qlH (fun e=>by rcases e with _|_<;>exact⟨_,rfl,fun h=>by cases h⟩) fun x=>by
   have:=qtt;have:=@qdM.eq_1;have:=@ZE;have:=@qx.eq_1;exact gA
def qY (s1:List Int) (s2:List Int):Option Int:=Option.bind (qG (qx s1 s2 s1 ((s1.length:Nat):Int)) 0) fun(a:Sum Int Unit)=>Sum.elim (fun(a2:Int)=>some a2) (fun(a3:Unit)=>if((s1.length:Nat):Int)<((s2.length:Nat):Int) then some (-1) else some 0) a
theorem ZZ:∀(s1 s2:List Int),ev 75 0 [rL 1 eI s1,rL 1 eI s2] []=(qY s1 s2).bind (fun(e:Int)=>some (rI e,[])):=
 fun s1 s2=>by
  rw[qD qp2 qsS.2.2.2 qsp]
  have:=qtt;have:=@Zw;have:=@qY.eq_1;exact gA
theorem qss:okL 72 q85:=qI (qi qp7) (by kernel_rfl) (by kernel_rfl)
def qsY:=JA_ @q85.eq_1 (JA_ @Try.f72.eq_1 @qp7)
theorem qnE:lbO 72 3=qbk:=Q3 (qi qp7) rfl
theorem qkV:okL 72 qbk:=zh qss (qvW (i:=0) (by kernel_rfl))
def Q2 (zero:Int) (t6:List Int) (t7:Int):Int→Option (Int⊕(Int⊕Unit))|t8=>if t8<t7 then if 0≤t8∧t8<((t6.length:Nat):Int) then Option.bind t6[Int.toNat t8]? fun(a:Int)=>if(a != zero)=Bool.true then some (Sum.inr (Sum.inl a)) else some (Sum.inl (w64 (t8+1))) else none else some (Sum.inr (Sum.inr ()))
theorem q1E:∀(zero:Int) (t6:List Int) (t7 t8:Int),XL2 evo 72 0 3 ⟨[(3,rI zero),(6,rL 1 eI t6),(7,rI t7),(8,rI t8)],[],0,18⟩=(qG (Q2 zero t6 t7) t8).bind (Sum.elim (fun(e:Int)=>some (Exit.ret,⟨[(2,rI e),(3,rI zero)],[],0,18⟩)) (fun(e:Unit)=>some (Exit.exit 0,⟨[(2,R.any),(3,rI zero)],[],0,18⟩))):=
 fun zero t6 t7 t8=>by
  revert t8;exact q8X qnE qkV (fun e=>by rcases e with _|_<;>exact⟨_,rfl,fun h=>by cases h⟩) fun x=>by
   have:=qsY;have:=@qbk.eq_1;have:=@Q2.eq_1;exact gA
def Z2 (vals:List Int):Option Int:=Option.bind (qG (Q2 0 vals ((vals.length:Nat):Int)) 0) fun(a:Sum Int Unit)=>Sum.elim (fun(a2:Int)=>some a2) (fun(a3:Unit)=>some 0) a
theorem q3G:∀(vals:List Int),ev 72 0 [rL 1 eI vals] []=(Z2 vals).bind (fun(e:Int)=>some (rI e,[])):=
 fun vals=>by
  rw[qD qp7 qrZ.2.2.2 qss]
  have:=qsY;have:=@q1E;have:=@Z2.eq_1;exact gA
theorem q1I:∀(vals0 vals1 vals2 vals3 vals4 vals5 vals6 vals7:Int) , ev 72 0 [R.c (C.d (D.sl 1 8 [D.int .i64 vals0,D.int .i64 vals1,D.int .i64 vals2,D.int .i64 vals3,D.int .i64 vals4,D.int .i64 vals5,D.int .i64 vals6,D.int .i64 vals7]))] []=(Z2 [vals0,vals1,vals2,vals3,vals4,vals5,vals6,vals7]).bind (fun(e:Int)=>some (rI e,[])):=by
 intro vals0 vals1 vals2 vals3 vals4 vals5 vals6 vals7;have h:=q3G [vals0,vals1,vals2,vals3,vals4,vals5,vals6,vals7]
 first
  | exact h
  | (simp only[rL,dL,bR,bZ,Nat.reduceAdd] at h;exact h)
def Zs (a:qa) (b:qa):Option Int:=Option.bind (qY a.Sources b.Sources) fun(a2:Int)=>Option.bind (qY a.Path b.Path) fun(a3:Int)=>Option.bind (Z2 [qn a.Course.School b.Course.School,zC a.Course.Code b.Course.Code,qn a.Day b.Day,a2,a3,qn a.Bundle b.Bundle,qn a.Credits b.Credits,qn a.Grade b.Grade]) fun(e0:Int)=>some e0
theorem q2u:∀(a_Course_School:Int) (a_Course_Code:ByteArray) (a_Credits a_Grade a_Day:Int) (a_Sources:List Int) (a_Bundle:Int) (a_Path:List Int) (b_Course_School:Int) (b_Course_Code:ByteArray) (b_Credits b_Grade b_Day:Int) (b_Sources:List Int) (b_Bundle:Int) (b_Path:List Int),ev 49 0 [R.agg [dI a_Course_School,dS a_Course_Code,dI a_Credits,dI a_Grade,dI a_Day,dL 1 eI a_Sources,dI a_Bundle,dL 1 eI a_Path],R.agg [dI b_Course_School,dS b_Course_Code,dI b_Credits,dI b_Grade,dI b_Day,dL 1 eI b_Sources,dI b_Bundle,dL 1 eI b_Path]] []=(Zs (qa.mk (qb.mk a_Course_School a_Course_Code) a_Credits a_Grade a_Day a_Sources a_Bundle a_Path) (qa.mk (qb.mk b_Course_School b_Course_Code) b_Credits b_Grade b_Day b_Sources b_Bundle b_Path)).bind (fun(e:Int)=>some (rI e,[])):=
 fun a_Course_School a_Course_Code a_Credits a_Grade a_Day a_Sources a_Bundle a_Path b_Course_School b_Course_Code b_Credits b_Grade b_Day b_Sources b_Bundle b_Path=>by
  rw[qD qpl qsq.2.2.2 quR]
  have:=quL;have:=@ZE;have:=@q18;have:=@ZZ;have:=@q1I;have:=@Zs.eq_1;exact gA
def QX (a:qa) (b:qa):Option Bool:=Option.bind (Zs a b) fun(a2:Int)=>some (a2==0)
theorem q4F:∀(a_Course_School:Int) (a_Course_Code:ByteArray) (a_Credits a_Grade a_Day:Int) (a_Sources:List Int) (a_Bundle:Int) (a_Path:List Int) (b_Course_School:Int) (b_Course_Code:ByteArray) (b_Credits b_Grade b_Day:Int) (b_Sources:List Int) (b_Bundle:Int) (b_Path:List Int),ev 24 0 [R.agg [dI a_Course_School,dS a_Course_Code,dI a_Credits,dI a_Grade,dI a_Day,dL 1 eI a_Sources,dI a_Bundle,dL 1 eI a_Path],R.agg [dI b_Course_School,dS b_Course_Code,dI b_Credits,dI b_Grade,dI b_Day,dL 1 eI b_Sources,dI b_Bundle,dL 1 eI b_Path]] []=(QX (qa.mk (qb.mk a_Course_School a_Course_Code) a_Credits a_Grade a_Day a_Sources a_Bundle a_Path) (qa.mk (qb.mk b_Course_School b_Course_Code) b_Credits b_Grade b_Day b_Sources b_Bundle b_Path)).bind (fun(e:Bool)=>some (rB e,[])):=
 fun a_Course_School a_Course_Code a_Credits a_Grade a_Day a_Sources a_Bundle a_Path b_Course_School b_Course_Code b_Credits b_Grade b_Day b_Sources b_Bundle b_Path=>by
  rw[qD qqN qsm.2.2.2 qtQ]
  have:=qvw;have:=@q2u;have:=@QX.eq_1;exact gA
def qJ (b0:qe) (b1:qa) (t3:Bool) (t6:Int) (t7:List qa) (t11:Int) (t52:List qa) (t53:Int) (t54:Int) (t76:List qa) (t77:Int):(Bool×Int)→Option ((Bool×Int)⊕(Bool⊕Bool))|(t14,t78)=>if t78<t77 then if 0≤t78∧t78<((t76.length:Nat):Int) then Option.bind t76[Int.toNat t78]? fun(a:qa)=>if t14=Bool.true then Option.bind (qs b0 a t6) fun(a2:Bool)=>if a2=Bool.true then some (Sum.inr (Sum.inl Bool.true)) else some (Sum.inl (Bool.true,w64 (t78+1))) else Option.bind (qs b0 a t6) fun(a3:Bool)=>if a3=Bool.true then some (Sum.inr (Sum.inl (a.Course.School==b1.Course.School&&ByteArray.toList a.Course.Code==ByteArray.toList b1.Course.Code))) else some (Sum.inl (a.Course.School==b1.Course.School&&ByteArray.toList a.Course.Code==ByteArray.toList b1.Course.Code,w64 (t78+1))) else none else some (Sum.inr (Sum.inr t14))
theorem Jt:∀(b0_School b0_Id b0_Version b0_From:Int) (b0_Name:ByteArray) (b0_Need_Kind b0_Need_N b0_Need_Min:Int) (b0_Need_Set:List qb) (b0_Need_L:List qg) (b0_Total b0_Own b0_Age:Int) (b0_Exclude:List (QF qb)) (b1_Course_School:Int) (b1_Course_Code:ByteArray) (b1_Credits b1_Grade b1_Day:Int) (b1_Sources:List Int) (b1_Bundle:Int) (b1_Path:List Int) (t3:Bool) (t6:Int) (t7:List qa) (t11:Int) (t14:Bool) (t52:List qa) (t53 t54:Int) (t76:List qa) (t77 t78:Int),XL2 evo 7 0 15 ⟨[(3,rB t3),(5,rP 0),(6,rI t6),(7,rL 8 qc t7),(11,rI t11),(13,rP 1),(14,rB t14),(52,rL 8 qc t52),(53,rI t53),(54,rI t54),(76,rL 8 qc t76),(77,rI t77),(78,rI t78)],[(0,B.blk 39 [dI b0_School,dI b0_Id,dI b0_Version,dI b0_From,dS b0_Name,dI b0_Need_Kind,dI b0_Need_N,dI b0_Need_Min,dL 2 qh b0_Need_Set,dL 5 qq b0_Need_L,dI b0_Total,dI b0_Own,dI b0_Age,dL 4 (eA2 qh) b0_Exclude]),(1,B.blk 52 [dI b1_Course_School,dS b1_Course_Code,dI b1_Credits,dI b1_Grade,dI b1_Day,dL 1 eI b1_Sources,dI b1_Bundle,dL 1 eI b1_Path])],2,105⟩=(qG (qJ (qe.mk b0_School b0_Id b0_Version b0_From b0_Name (qg.mk b0_Need_Kind b0_Need_N b0_Need_Min b0_Need_Set b0_Need_L) b0_Total b0_Own b0_Age b0_Exclude) (qa.mk (qb.mk b1_Course_School b1_Course_Code) b1_Credits b1_Grade b1_Day b1_Sources b1_Bundle b1_Path) t3 t6 t7 t11 t52 t53 t54 t76 t77) (t14,t78)).bind (Sum.elim (fun(e:Bool)=>some (Exit.ret,⟨[(2,rB Bool.false),(3,rB t3),(5,rP 0),(6,rI t6),(7,rL 8 qc t7),(11,rI t11),(14,rB e),(52,rL 8 qc t52),(53,rI t53),(54,rI t54)],[(0,B.blk 39 [dI b0_School,dI b0_Id,dI b0_Version,dI b0_From,dS b0_Name,dI b0_Need_Kind,dI b0_Need_N,dI b0_Need_Min,dL 2 qh b0_Need_Set,dL 5 qq b0_Need_L,dI b0_Total,dI b0_Own,dI b0_Age,dL 4 (eA2 qh) b0_Exclude])],1,105⟩)) (fun(e:Bool)=>some (Exit.exit 2,⟨[(2,R.any),(3,rB t3),(5,rP 0),(6,rI t6),(7,rL 8 qc t7),(11,rI t11),(14,rB e),(52,rL 8 qc t52),(53,rI t53),(54,rI t54)],[(0,B.blk 39 [dI b0_School,dI b0_Id,dI b0_Version,dI b0_From,dS b0_Name,dI b0_Need_Kind,dI b0_Need_N,dI b0_Need_Min,dL 2 qh b0_Need_Set,dL 5 qq b0_Need_L,dI b0_Total,dI b0_Own,dI b0_Age,dL 4 (eA2 qh) b0_Exclude])],1,105⟩))):=
 fun b0_School b0_Id b0_Version b0_From b0_Name b0_Need_Kind b0_Need_N b0_Need_Min b0_Need_Set b0_Need_L b0_Total b0_Own b0_Age b0_Exclude b1_Course_School b1_Course_Code b1_Credits b1_Grade b1_Day b1_Sources b1_Bundle b1_Path t3 t6 t7 t11 t14 t52 t53 t54 t76 t77 t78=>by
  revert t78;revert t14;exact q8h ql6 qn9 (fun e=>by rcases e with _|_<;>exact⟨_,rfl,fun h=>by cases h⟩) fun t14 t78=>by
   have:=cx7;have:=@qdf.eq_1;have:=@QB;have:=@qJ.eq_1;exact gA
def qM (b0:qe) (t3:Bool) (t6:Int) (t7:List qa) (t52:List qa) (t53:Int):(Int×Int)→Option ((Int×Int)⊕(Int⊕Int))|(t11,t54)=>if t54<t53 then if 0≤t54∧t54<((t52.length:Nat):Int) then Option.bind t52[Int.toNat t54]? fun(a:qa)=>if t11<((t7.length:Nat):Int) then if 0≤t11∧t11<((t7.length:Nat):Int) then Option.bind t7[Int.toNat t11]? fun(a2:qa)=>Option.bind (QX a a2) fun(a3:Bool)=>if a3=Bool.true then Option.bind (qs b0 a t6) fun(a4:Bool)=>Option.bind (qG (qJ b0 a t3 t6 t7 (w64 (t11+1)) t52 t53 t54 t7 ((t7.length:Nat):Int)) (a4,0)) fun(a5:Sum Bool Bool)=>Sum.elim (fun(a6:Bool)=>some (Sum.inr (Sum.inl (w64 (t11+1))))) (fun(a7:Bool)=>if(!a7)=Bool.true then some (Sum.inr (Sum.inl (w64 (t11+1)))) else some (Sum.inl (w64 (t11+1),w64 (t54+1)))) a5 else Option.bind (qs b0 a t6) fun(a8:Bool)=>Option.bind (qG (qJ b0 a t3 t6 t7 t11 t52 t53 t54 t7 ((t7.length:Nat):Int)) (a8,0)) fun(a9:Sum Bool Bool)=>Sum.elim (fun(a10:Bool)=>some (Sum.inr (Sum.inl t11))) (fun(a11:Bool)=>if(!a11)=Bool.true then some (Sum.inr (Sum.inl t11)) else some (Sum.inl (t11,w64 (t54+1)))) a9 else none else Option.bind (qs b0 a t6) fun(a12:Bool)=>Option.bind (qG (qJ b0 a t3 t6 t7 t11 t52 t53 t54 t7 ((t7.length:Nat):Int)) (a12,0)) fun(a13:Sum Bool Bool)=>Sum.elim (fun(a14:Bool)=>some (Sum.inr (Sum.inl t11))) (fun(a15:Bool)=>if(!a15)=Bool.true then some (Sum.inr (Sum.inl t11)) else some (Sum.inl (t11,w64 (t54+1)))) a13 else none else some (Sum.inr (Sum.inr t11))
theorem JO:∀(b0_School b0_Id b0_Version b0_From:Int) (b0_Name:ByteArray) (b0_Need_Kind b0_Need_N b0_Need_Min:Int) (b0_Need_Set:List qb) (b0_Need_L:List qg) (b0_Total b0_Own b0_Age:Int) (b0_Exclude:List (QF qb)) (t3:Bool) (t6:Int) (t7:List qa) (t11:Int) (t52:List qa) (t53 t54:Int),XL2 evo 7 0 9 ⟨[(3,rB t3),(5,rP 0),(6,rI t6),(7,rL 8 qc t7),(11,rI t11),(52,rL 8 qc t52),(53,rI t53),(54,rI t54)],[(0,B.blk 39 [dI b0_School,dI b0_Id,dI b0_Version,dI b0_From,dS b0_Name,dI b0_Need_Kind,dI b0_Need_N,dI b0_Need_Min,dL 2 qh b0_Need_Set,dL 5 qq b0_Need_L,dI b0_Total,dI b0_Own,dI b0_Age,dL 4 (eA2 qh) b0_Exclude])],1,105⟩=(qG (qM (qe.mk b0_School b0_Id b0_Version b0_From b0_Name (qg.mk b0_Need_Kind b0_Need_N b0_Need_Min b0_Need_Set b0_Need_L) b0_Total b0_Own b0_Age b0_Exclude) t3 t6 t7 t52 t53) (t11,t54)).bind (Sum.elim (fun(e:Int)=>some (Exit.ret,⟨[(2,rB Bool.false),(3,rB t3),(7,rL 8 qc t7),(11,rI e)],[],0,105⟩)) (fun(e:Int)=>some (Exit.exit 0,⟨[(2,R.any),(3,rB t3),(7,rL 8 qc t7),(11,rI e)],[],0,105⟩))):=
 fun b0_School b0_Id b0_Version b0_From b0_Name b0_Need_Kind b0_Need_N b0_Need_Min b0_Need_Set b0_Need_L b0_Total b0_Own b0_Age b0_Exclude t3 t6 t7 t11 t52 t53 t54=>by
  revert t54;revert t11;exact q8h qqv qpd (fun e=>by rcases e with _|_<;>exact⟨_,rfl,fun h=>by cases h⟩) fun t11 t54=>by
   have:=cx7;have:=@qhM.eq_1;have:=@q4F;have:=@QB;have:=@Jt;have:=@qM.eq_1;exact gA
def Qo (x0:Ql):Option Bool:=Option.bind QV fun(a:Bool)=>Option.bind (Q0 x0) fun(a2:Prod (List qa) (Prod qe Int))=>Option.bind (zY a2.1 a2.2.1 (qf.mk 0 100 50) a2.2.2) fun(a3:Prod (List qa) Int)=>Option.bind (zY a3.1 a2.2.1 (qf.mk 0 100 50) a2.2.2) fun(a4:Prod (List qa) Int)=>if(a3.2 != 0)=Bool.true then some Bool.false else if(a4.2 != 0)=Bool.true then some Bool.false else Option.bind (QD a3.1 a4.1) fun(a5:Bool)=>if(!a5)=Bool.true then some Bool.false else Option.bind (qG (qM a2.2.1 a a2.2.2 a3.1 a2.1 ((a2.1.length:Nat):Int)) (0,0)) fun(a6:Sum Int Int)=>Sum.elim (fun(a7:Int)=>some Bool.false) (fun(a8:Int)=>if a=Bool.true then some (a8==((a3.1.length:Nat):Int)) else some Bool.false) a6
theorem q0Y:∀(x0_Has:List (List Int)) (x0_Odd_0_0 x0_Odd_0_1 x0_Odd_0_2 x0_Odd_1_0 x0_Odd_1_1 x0_Odd_1_2:Int) (x0_Programme:List Int) (x0_Day:Int),ev 7 0 [R.agg [dL 1 (eL 1 eI) x0_Has,dI x0_Odd_0_0,dI x0_Odd_0_1,dI x0_Odd_0_2,dI x0_Odd_1_0,dI x0_Odd_1_1,dI x0_Odd_1_2,dL 1 eI x0_Programme,C.d (D.int .u16 x0_Day)]] []=(Qo (Ql.mk x0_Has (QF.mk (qgP.mk x0_Odd_0_0 x0_Odd_0_1 x0_Odd_0_2) (qgP.mk x0_Odd_1_0 x0_Odd_1_1 x0_Odd_1_2)) x0_Programme x0_Day)).bind (fun(e:Bool)=>some (rB e,[])):=
 fun x0_Has x0_Odd_0_0 x0_Odd_0_1 x0_Odd_0_2 x0_Odd_1_0 x0_Odd_1_1 x0_Odd_1_2 x0_Programme x0_Day=>by
  rw[qD bd7 pw7.2.2.2 lo7]
  have:=cx7;have:=@q2w;have:=@q17;have:=@J6;have:=@q2H;have:=@q1N;have:=@JO;have:=@Qo.eq_1;exact gA
end

noncomputable section
open Go.RowKit
theorem Zj (x:Int):qn x x=0:=by
 unfold qn qR
 rw[if_neg (by simp),if_neg (by simp),if_neg (by omega),if_neg (by omega)]
theorem q62:∀l:List UInt8,Lib.compareBytes l l=0
 | []=>rfl
 | a::l=>by
  unfold Lib.compareBytes
  have h:¬ a<a:=fun h=>by
   have:a.toNat<a.toNat:=h
   omega
  rw[if_neg h,if_neg h];exact q62 l
theorem q7G (a:ByteArray):zC a a=0:=q62 _
theorem q4Z (a b:List Int) (ha:a.length≤1000):∃v,qY a b=some v∧(a=b→v=0):=by
 have key:∀(r q:List Int) (i:Nat),r.length+i=a.length→a.drop i=r→b.drop i=q→∃v,qG (qx a b a ((a.length:Nat):Int)) (i:Int)=some v∧(a=b→v = .inr ()):=by
  intro r
  induction r with
  | nil=>
   intro q i hi hd hq
   have hi:i=a.length:=by simpa using hi
   refine⟨.inr (),qW ?_,fun _=>rfl⟩
   unfold qx
   rw[if_neg (by omega)]
  | cons x r ih=>
   intro q i hi hd hq
   simp only[qw6] at hi
   have hx:a[i]?=some x:=by have:=congrArg (fun y:List Int=>y[0]?) hd;simpa [List.getElem?_drop] using this
   have hd1:a.drop (i+1)=r:=by rw[←qwI,hd];rfl
   have hlt:=Qb hx
   by_cases hb:i<b.length
   ·have hy:b[i]?=some b[i]:=qvX hb
    have e:qx a b a ((a.length:Nat):Int) (i:Int)=some (if(qn x b[i] != 0)=true then .inr (.inl (qn x b[i])) else .inl ((i+1:Nat):Int)):=by
     unfold qx
     rw[if_pos (by omega),if_pos ⟨by omega,by omega⟩,qvY,hx,qvV,if_neg (by omega),if_pos ⟨by omega,by omega⟩,hy,qvV,Qm hlt (by omega)]
     split<;>rfl
    by_cases hc:(qn x b[i] != 0)=true
    ·rw[if_pos hc] at e
     refine⟨_,qW e,fun hab=>?_⟩
     subst hab
     rw[hx] at hy
     injection hy with hy
     rw[←hy,Zj] at hc
     simp at hc
    ·rw[if_neg hc] at e
     rw[zO e]
     exact ih (b.drop (i+1)) (i+1) (by omega) hd1 rfl
   ·refine⟨_,qW (e := .inl 1) ?_,fun hab=>?_⟩
    ·unfold qx
     rw[if_pos (by omega),if_pos ⟨by omega,by omega⟩,qvY,hx,qvV,if_pos (by omega)]
    ·subst hab;omega
 obtain⟨v,h1,h2⟩:=key a b 0 (by omega) rfl rfl
 unfold qY
 change ∃w,Option.bind (qG _ ((0:Nat):Int)) _=some w∧_
 rw[h1,qvV]
 cases v with
 | inl w=>exact⟨w,rfl,fun h=>by cases h2 h⟩
 | inr u=>
  by_cases hl:((a.length:Nat):Int)<((b.length:Nat):Int)
  ·exact⟨-1,by rw[Sum.elim_inr,if_pos hl],fun h=>by subst h;omega⟩
  ·exact⟨0,by rw[Sum.elim_inr,if_neg hl],fun _=>rfl⟩
theorem qpW (l:List Int) (hl:l.length≤1000):∃v,Z2 l=some v∧((∀x∈l,x=0)→v=0):=by
 have key:∀(r:List Int) (i:Nat),r.length+i=l.length→l.drop i=r→∃v,qG (Q2 0 l ((l.length:Nat):Int)) (i:Int)=some v∧((∀x∈r,x=0)→v = .inr ()):=by
  intro r
  induction r with
  | nil=>
   intro i hi hd
   have hi:i=l.length:=by simpa using hi
   refine⟨.inr (),qW ?_,fun _=>rfl⟩
   unfold Q2
   rw[if_neg (by omega)]
  | cons x r ih=>
   intro i hi hd
   simp only[qw6] at hi
   have hx:l[i]?=some x:=by have:=congrArg (fun y:List Int=>y[0]?) hd;simpa [List.getElem?_drop] using this
   have hd1:l.drop (i+1)=r:=by rw[←qwI,hd];rfl
   have hlt:=Qb hx
   have e:Q2 0 l ((l.length:Nat):Int) (i:Int)=some (if(x != 0)=true then .inr (.inl x) else .inl ((i+1:Nat):Int)):=by
    unfold Q2
    rw[if_pos (by omega),if_pos ⟨by omega,by omega⟩,qvY,hx,qvV,Qm hlt (by omega)]
    split<;>rfl
   by_cases hc:(x != 0)=true
   ·rw[if_pos hc] at e
    refine⟨_,qW e,fun h=>?_⟩
    rw[h x qwa] at hc
    simp at hc
   ·rw[if_neg hc] at e
    obtain⟨v,h1,h2⟩:=ih (i+1) (by omega) hd1
    exact⟨v,by rw[zO e];exact h1,fun h=>h2 fun y hy=>h y (qw3 _ hy)⟩
 obtain⟨v,h1,h2⟩:=key l 0 (by omega) rfl
 unfold Z2
 change ∃w,Option.bind (qG _ ((0:Nat):Int)) _=some w∧_
 rw[h1,qvV]
 cases v with
 | inl w=>exact⟨w,rfl,fun h=>by cases h2 h⟩
 | inr u=>exact⟨0,rfl,fun _=>rfl⟩
def q3M (a b:qa):Bool:=(QX a b).getD false
theorem qc0 {a b:qa} (ha:zr a):QX a b=some (q3M a b)∧(a=b→q3M a b=true):=by
 obtain⟨v1,h1,q1⟩:=q4Z a.Sources b.Sources ha.1
 obtain⟨v2,h2,q2⟩:=q4Z a.Path b.Path ha.2
 obtain⟨v,h3,q3⟩:=qpW [qn a.Course.School b.Course.School,zC a.Course.Code b.Course.Code,qn a.Day b.Day,v1,v2,qn a.Bundle b.Bundle,qn a.Credits b.Credits,qn a.Grade b.Grade] (by simp)
 have e:QX a b=some (v==0):=by
  unfold QX Zs
  rw[h1,qvV,h2,qvV,h3,qvV,qvV]
 have e2:q3M a b=(v==0):=by unfold q3M;rw[e];rfl
 refine⟨by rw[e,e2],fun hab=>?_⟩
 subst hab
 rw[e2,q3 (by
  intro x hx
  simp only[qwh,List.not_mem_nil,or_false] at hx
  rcases hx with rfl|rfl|rfl|rfl|rfl|rfl|rfl|rfl
  ·exact Zj _
  ·exact q7G _
  ·exact Zj _
  ·exact q1 rfl
  ·exact q2 rfl
  ·exact Zj _
  ·exact Zj _
  ·exact Zj _)]
 rfl
end
noncomputable section
open Go.RowKit
theorem qaC (l:List qa) (hl:l.length≤100) (hf:∀a∈l,zr a):∀(r set:List qa) (k:Nat) (b:Int),r.length+k=l.length→l.drop k=r→set.length≤k→(∀a∈set,zr a)→
  qG (zi zU set) (b,l,(k:Int))=some (.inr (dfs q4n qiM r set b,l)):=by
 have hML:100000≤maxLen:=by unfold maxLen;omega
 intro r
 induction r with
 | nil=>
  intro set k b hk hd hs hsf
  have hk:k=l.length:=by simpa using hk
  refine qW ?_
  unfold zi
  dsimp only
  rw[if_neg (by omega)];rfl
 | cons a r ih=>
  intro set k b hk hd hs hsf
  simp only[qw6] at hk
  have ha:l[k]?=some a:=by have:=congrArg (fun x:List qa=>x[0]?) hd;simpa [List.getElem?_drop] using this
  have hd1:l.drop (k+1)=r:=by rw[←qwI,hd];rfl
  have hklt:=Qb ha
  have hsf1:∀x∈set++[a],zr x:=fun x hx=>by
   rcases qwp.1 hx with h|h
   ·exact hsf x h
   ·rw[qwL.1 h];exact hf a (qvW ha)
  have hlen:(set++[a]).length=set.length+1:=by simp
  have e:zi zU set (b,l,(k:Int))=some (.inl (if q4n (set++[a])=true then dfs q4n qiM r (set++[a]) (max b (qiM (set++[a]))) else b,l,((k+1:Nat):Int))):=by
   unfold zi
   dsimp only
   rw[if_pos (by omega),if_pos ⟨by omega,by omega⟩,qvY,ha,qvV,if_pos ⟨by omega,by omega⟩,qjV _ (by omega) hsf1,qvV,Qm hklt (by omega)]
   by_cases hfr:q4n (set++[a])=true
   ·rw[if_pos hfr,if_pos hfr,ZX]
    unfold zF QA
    dsimp only
    rw[q4U _ (by omega),qvV,qvV,ih (set++[a]) (k+1) _ (by omega) hd1 (by omega) hsf1,qvV]
    rfl
   ·rw[if_neg hfr,if_neg hfr]
  rw[zO e,ih set (k+1) _ (by omega) hd1 (by omega) hsf]
  rfl
theorem qiq (l:List qa) (hl:l.length≤10) (hf:∀a∈l,zr a):QE l=some (dfs q4n qiM l [] 0,0):=by
 unfold QE Zt
 rw[if_neg (by omega),ZX]
 unfold zF QA
 dsimp only
 rw[q4U [] (by simp),qvV,qvV]
 change Option.bind (Option.bind (Option.bind (qG _ (max 0 (qiM []),l,((0:Nat):Int))) _) _) _=_
 rw[qaC l (by omega) hf l [] 0 _ (by omega) rfl (by simp) (by simp)]
 rfl
end
noncomputable section
inductive Cn (e:Nat→Nat→Prop):Nat→Nat→Prop
 | refl (k:Nat):Cn e k k
 | step {i j k:Nat}:Cn e i j→e j k→Cn e i k
def Lw (e:Nat→Nat→Prop) (k m:Nat):Prop:=Cn e k m∧∀j,Cn e k j→m≤j
section
variable {e:Nat→Nat→Prop}
theorem Cn.trans {i j k:Nat} (h:Cn e i j) (h2:Cn e j k):Cn e i k:=by
 induction h2 with
 | refl=>exact h
 | step _ h4 ih=>exact ih.step h4
theorem Cn.one {i j:Nat} (h:e i j):Cn e i j:=(Cn.refl i).step h
theorem Cn.symm (hs:∀i j,e i j→e j i) {i j:Nat} (h:Cn e i j):Cn e j i:=by
 induction h with
 | refl=>exact .refl _
 | step _ h4 ih=>exact(Cn.one (hs _ _ h4)).trans ih
theorem Cn.lt {n:Nat} (hn:∀i j,e i j→i<n∧j<n) {i j:Nat} (h:Cn e i j) (hi:i<n):j<n:=by
 cases h with
 | refl=>exact hi
 | step _ h4=>exact(hn _ _ h4).2
theorem Lw.uniq {k m m':Nat} (h:Lw e k m) (h':Lw e k m'):m=m':=Nat.le_antisymm (h.2 _ h'.1) (h'.2 _ h.1)
theorem Lw.same (hs:∀i j,e i j→e j i) {k j m:Nat} (h:Lw e k m) (hc:Cn e k j):Lw e j m:=⟨(hc.symm hs).trans h.1,fun i hi=>h.2 i (hc.trans hi)⟩
theorem Lw.self (hs:∀i j,e i j→e j i) {k m:Nat} (h:Lw e k m):Lw e m m:=h.same hs h.1
theorem qr7 (k:Nat):∃m,Lw e k m:=by
 have:∀b j,j≤b→Cn e k j→∃m,Lw e k m:=by
  intro b
  induction b with
  | zero=>intro j hj hc;exact⟨j,hc,fun i _=>by omega⟩
  | succ b ih=>
   intro j hj hc
   by_cases h:∃i,i≤b∧Cn e k i
   ·obtain⟨i,h1,h2⟩:=h;exact ih i h1 h2
   ·refine⟨j,hc,fun i hi=>?_⟩
    by_cases hib:i≤b
    ·exact absurd ⟨i,hib,hi⟩ h
    ·omega
 exact this k k (qwb k) (.refl k)
theorem qiO {l:List Nat} {p q:Nat→Bool} (h:∀x∈l,p x=true→q x=true) {y:Nat} (hy:y∈l) (h1:p y=false) (h2:q y=true):(l.filter p).length<(l.filter q).length:=by
 have mono:∀l:List Nat,(∀x∈l,p x=true→q x=true)→(l.filter p).length≤(l.filter q).length:=by
  intro l
  induction l with
  | nil=>intro _;exact qwb _
  | cons a l ih=>
   intro h
   have:=ih fun x hx=>h x (qw3 _ hx)
   rw[List.filter_cons,List.filter_cons]
   by_cases ha:p a=true
   ·rw[if_pos ha,if_pos (h a qwa ha)];simp only[qw6];omega
   ·rw[if_neg ha];split
    ·simp only[qw6];omega
    ·exact this
 induction l with
 | nil=>cases hy
 | cons a l ih=>
  have ht:=fun x hx=>h x (qw3 _ hx)
  rw[List.filter_cons,List.filter_cons]
  rcases qwh.1 hy with rfl|hy
  ·have:=mono l ht
   rw[if_neg (by rw[h1];simp),if_pos h2];simp only[qw6];omega
  ·have:=ih ht hy
   by_cases ha:p a=true
   ·rw[if_pos ha,if_pos (h a qwa ha)];simp only[qw6];omega
   ·rw[if_neg ha];split
    ·simp only[qw6];omega
    ·exact this
theorem q6h {n:Nat} (hn:∀i j,e i j→i<n∧j<n) (hs:∀i j,e i j→e j i) {G:Nat→Nat→Nat} (h0:∀k,k<n→G 0 k=k) (h1:∀r k,k<n→G (r+1) k≤G r k) (h2:∀r i k,e i k→G (r+1) i≤G r k)
  (h3:∀r k,k<n→Cn e k (G r k)) {k:Nat} (hk:k<n):Lw e k (G n k):=by
 obtain⟨m,hm⟩:=qr7 (e:=e) k
 have hmn:m<n:=hm.1.lt hn hk
 have hge:∀r j,Cn e m j→m≤G r j:=fun r j hj=>hm.2 _ ((hm.1.trans hj).trans (h3 r j (hj.lt hn hmn)))
 have hA:∀r j,Cn e m j→G r j=m→G (r+1) j=m:=fun r j hj h=>Nat.le_antisymm (by have:=h1 r j (hj.lt hn hmn);omega) (hge _ _ hj)
 have h0m:∀r,G r m=m:=by
  intro r
  induction r with
  | zero=>exact h0 m hmn
  | succ r ih=>exact hA r m (.refl m) ih
 -- either all that is joined has it, or there is one more
 have key:∀r,(∀j,Cn e m j→G r j=m)∨r+1≤((List.range n).filter fun j=>decide (G r j=m)).length:=by
  intro r
  induction r with
  | zero=>
   refine .inr ?_
   have:m∈(List.range n).filter fun j=>decide (G 0 j=m):=qwQ.2 ⟨qwR.2 hmn,qwV (h0 m hmn)⟩
   exact List.length_pos_of_mem this
  | succ r ih=>
   rcases ih with ih|ih
   ·exact .inl fun j hj=>hA r j hj (ih j hj)
   ·by_cases hcl:∀j,j<n→G (r+1) j=m→G r j=m
    ·refine .inl fun j hj=>?_
     have:G r j=m:=by
      induction hj with
      | refl=>exact h0m r
      | step hij he ih2=>
       rename_i j k
       have hk:=(hn _ _ he).2
       refine hcl k hk (Nat.le_antisymm ?_ (hge _ _ (hij.step he)))
       have:=h2 r k j (hs _ _ he)
       omega
     exact hA r j hj this
    ·refine .inr ?_
     simp only[Classical.not_forall] at hcl
     obtain⟨j,hj,hj1,hj2⟩:=hcl
     have:=qiO (l:=List.range n) (p:=fun j=>decide (G r j=m)) (q:=fun j=>decide (G (r+1) j=m)) (fun x hx hp=>by
      have hp:=of_decide_eq_true hp
      have hx:=qwR.1 hx
      have hcx:Cn e m x:=by have:=(h3 r x hx).symm hs;rw[hp] at this;exact this
      exact qwV (hA r x hcx hp)) (qwR.2 hj) (decide_eq_false hj2) (qwV hj1)
     omega
 rcases key n with h|h
 ·rw[h k (hm.1.symm hs)];exact hm
 ·have:=List.length_filter_le (fun j=>decide (G n j=m)) (List.range n)
  rw[List.length_range] at this
  omega
end
def qf9 (n:Nat) (f:Nat→Nat):List (List Nat):=((List.range n).filter fun k=>decide (f k=k)).map fun r=>(List.range n).filter fun i=>decide (f i=r)
theorem qai {n:Nat} {f g:Nat→Nat} (h:∀k,k<n→f k=g k):qf9 n f=qf9 n g:=by
 unfold qf9
 have e1:(List.range n).filter (fun k=>decide (f k=k))=(List.range n).filter fun k=>decide (g k=k):=List.filter_congr fun k hk=>by rw[h k (qwR.1 hk)]
 rw[e1]
 exact List.map_congr_left fun r _=>List.filter_congr fun k hk=>by rw[h k (qwR.1 hk)]
end
noncomputable section
def q1u (g:List Nat) (j:Nat×Nat):List Nat:=(g.set j.1 (min (g.getD j.1 0) (g.getD j.2 0))).set j.2 (min (g.getD j.1 0) (g.getD j.2 0))
def QT (js:List (Nat×Nat)) (g:List Nat):List Nat:=js.foldl q1u g
def QM (js:List (Nat×Nat)):Nat→List Nat→List Nat
 | 0,g=>g
 | r+1,g=>QM js r (QT js g)
theorem JH (g:List Nat) (j:Nat×Nat):(q1u g j).length=g.length:=by unfold q1u;rw[qwG,qwG]
theorem q0R:∀(js:List (Nat×Nat)) (g:List Nat),(QT js g).length=g.length
 | [],_=>rfl
 | j::js,g=>(q0R js (q1u g j)).trans (JH g j)
theorem q1g (js:List (Nat×Nat)):∀(r:Nat) (g:List Nat),(QM js r g).length=g.length
 | 0,_=>rfl
 | r+1,g=>(q1g js r _).trans (q0R js g)
theorem J7 (js:List (Nat×Nat)):∀(r:Nat) (g:List Nat),QM js (r+1) g=QT js (QM js r g)
 | 0,_=>rfl
 | r+1,g=>J7 js r (QT js g)
theorem q8V {g:List Nat} {i:Nat} (v k:Nat) (hi:i<g.length):(g.set i v).getD k 0=if k=i then v else g.getD k 0:=by
 simp only[List.getD_eq_getElem?_getD]
 by_cases h:k=i
 ·subst h;rw[if_pos rfl,qwS hi];rfl
 ·rw[if_neg h,qwT (by omega)]
theorem q29 {g:List Nat} {j:Nat×Nat} (h1:j.1<g.length) (h2:j.2<g.length) (k:Nat):(q1u g j).getD k 0=if k=j.1∨k=j.2 then min (g.getD j.1 0) (g.getD j.2 0) else g.getD k 0:=by
 unfold q1u
 rw[q8V _ _ (by rw[qwG];exact h2),q8V _ _ h1]
 by_cases a:k=j.2<;>by_cases b:k=j.1<;>simp[a,b]
section
variable {e:Nat→Nat→Prop}
theorem q59 {g:List Nat} {j:Nat×Nat} (h1:j.1<g.length) (h2:j.2<g.length) (k:Nat):(q1u g j).getD k 0≤g.getD k 0:=by
 rw[q29 h1 h2]
 split
 ·rename_i h
  rcases h with rfl|rfl
  ·exact Nat.min_le_left _ _
  ·exact Nat.min_le_right _ _
 ·exact qwb _
theorem q0A:∀(js:List (Nat×Nat)) (g:List Nat),(∀j∈js,j.1<g.length∧j.2<g.length)→∀k,(QT js g).getD k 0≤g.getD k 0
 | [],_,_,_=>qwb _
 | j::js,g,h,k=>by
  have hj:=h j qwa
  exact qww (q0A js (q1u g j) (fun x hx=>by rw[JH];exact h x (qw3 _ hx)) k) (q59 hj.1 hj.2 k)
theorem q1m:∀(js:List (Nat×Nat)) (g:List Nat),(∀j∈js,j.1<g.length∧j.2<g.length)→∀j∈js,(QT js g).getD j.1 0≤g.getD j.2 0∧(QT js g).getD j.2 0≤g.getD j.1 0
 | j::js,g,h,i,hi=>by
  have hj:=h j qwa
  have ht:∀x∈js,x.1<(q1u g j).length∧x.2<(q1u g j).length:=fun x hx=>by rw[JH];exact h x (qw3 _ hx)
  rcases qwh.1 hi with rfl|hi
  ·have a:=q0A js (q1u g i) ht i.1
   have b:=q0A js (q1u g i) ht i.2
   rw[q29 hj.1 hj.2,if_pos (.inl rfl)] at a
   rw[q29 hj.1 hj.2,if_pos (.inr rfl)] at b
   exact⟨qww a (Nat.min_le_right _ _),qww b (Nat.min_le_left _ _)⟩
  ·obtain⟨a,b⟩:=q1m js (q1u g j) ht i hi
   exact⟨qww a (q59 hj.1 hj.2 _),qww b (q59 hj.1 hj.2 _)⟩
theorem q6F (hs:∀i j,e i j→e j i):∀(js:List (Nat×Nat)) (g:List Nat),(∀j∈js,j.1<g.length∧j.2<g.length∧e j.1 j.2)→(∀k,k<g.length→Cn e k (g.getD k 0))→∀k,k<g.length→Cn e k ((QT js g).getD k 0)
 | [],_,_,h,k,hk=>h k hk
 | j::js,g,h,hc,k,hk=>by
  obtain⟨h1,h2,h3⟩:=h j qwa
  refine q6F hs js (q1u g j) (fun x hx=>by rw[JH];exact h x (qw3 _ hx)) (fun i hi=>?_) k (by rw[JH];exact hk)
  rw[JH] at hi
  rw[q29 h1 h2]
  have c1:=hc _ h1
  have c2:=hc _ h2
  have c3:∀i,Cn e i j.1→Cn e i (min (g.getD j.1 0) (g.getD j.2 0)):=fun i hi=>by
   by_cases hm:g.getD j.1 0≤g.getD j.2 0
   ·rw[Nat.min_eq_left hm];exact hi.trans c1
   ·rw[Nat.min_eq_right (by omega)];exact(hi.step h3).trans c2
  split
  ·rename_i h
   rcases h with rfl|rfl
   ·exact c3 _ (.refl _)
   ·exact c3 _ (Cn.one (hs _ _ h3))
  ·exact hc i hi
theorem qac {n:Nat} (hn:∀i j,e i j→i<n∧j<n) (hs:∀i j,e i j→e j i) {js:List (Nat×Nat)} (h1:∀j∈js,j.1<n∧j.2<n∧e j.1 j.2) (h2:∀i k,e i k→i=k∨(i,k)∈js∨(k,i)∈js) {k:Nat} (hk:k<n) :
  Lw e k ((QM js n (List.range n)).getD k 0):=by
 have hl:∀r,(QM js r (List.range n)).length=n:=fun r=>by rw[q1g,List.length_range]
 have hj:∀r,∀j∈js,j.1<(QM js r (List.range n)).length∧j.2<(QM js r (List.range n)).length:=fun r j hj=>by rw[hl];exact⟨(h1 j hj).1,(h1 j hj).2.1⟩
 have h0:∀k,k<n→(List.range n).getD k 0=k:=fun k hk=>by rw[List.getD_eq_getElem?_getD,List.getElem?_range hk];rfl
 refine q6h (G:=fun r k=>(QM js r (List.range n)).getD k 0) hn hs h0 (fun r k hk=>?_) (fun r i k he=>?_) (fun r k hk=>?_) hk
 ·show(QM js (r+1) _).getD k 0≤_
  rw[J7];exact q0A _ _ (hj r) k
 ·show(QM js (r+1) _).getD i 0≤(QM js r _).getD k 0
  rw[J7]
  rcases h2 i k he with rfl|h|h
  ·exact q0A _ _ (hj r) i
  ·exact(q1m _ _ (hj r) _ h).1
  ·exact(q1m _ _ (hj r) _ h).2
 ·show Cn e k ((QM js r _).getD k 0)
  clear hj
  induction r generalizing k with
  | zero=>show Cn e k ((List.range n).getD k 0);rw[h0 k hk];exact .refl k
  | succ r ih=>
   rw[J7]
   exact q6F hs js _ (fun j hj=>by rw[hl];exact h1 j hj) (fun k hk=>ih k (by rw[←hl r];exact hk)) k (by rw[hl];exact hk)
end
end
noncomputable section
end
noncomputable section
theorem qgE {p:Nat→Bool}:∀{n c r:Nat},((List.range n).filter p)[c]?=some r→r<n∧p r=true∧((List.range r).filter p).length=c
 | 0,c,r,h=>by simp at h
 | n+1,c,r,h=>by
  rw[List.range_succ,List.filter_append] at h
  by_cases hc:c<((List.range n).filter p).length
  ·rw[qwy hc] at h
   obtain⟨h1,h2⟩:=qgE h
   exact⟨by omega,h2⟩
  ·rw[qwx (by omega),List.filter_cons] at h
   by_cases hp:p n=true
   ·rw[if_pos hp] at h
    cases hd:c-((List.range n).filter p).length with
    | zero=>
     rw[hd] at h
     have h:n=r:=by simpa using h
     subst h
     exact⟨by omega,hp,by omega⟩
    | succ d=>rw[hd] at h;simp at h
   ·rw[if_neg hp] at h;simp at h
theorem qgY {p:Nat→Bool}:∀{n r:Nat},r<n→p r=true→((List.range n).filter p)[((List.range r).filter p).length]?=some r
 | n+1,r,h,hp=>by
  rw[List.range_succ,List.filter_append]
  by_cases hr:r=n
  ·subst hr
   rw[qwx (qwb _),Nat.sub_self,List.filter_cons,if_pos hp];rfl
  ·have:=qgY (n:=n) (by omega) hp
   rw[qwy (Qb this)];exact this
def rts (n:Nat) (f:Nat→Nat):List Nat:=(List.range n).filter fun k=>decide (f k=k)
def rows (n k:Nat) (f:Nat→Nat):List (List Int):=(rts n f).map fun r=>((List.range k).filter fun i=>decide (f i=r)).map fun(i:Nat)=>(i:Int)
def ixs (k:Nat) (f:Nat→Nat):List (Int×Int):=(rts k f).map fun(r:Nat)=>((r:Int),((rts r f).length:Int))
variable {f:Nat→Nat}
theorem q99 {g:Nat→Int}:∀{L:List Nat} {r:Nat},r∈L→Z6 0 (L.map fun(r:Nat)=>((r:Int),g r)) (r:Int)=g r
 | a::L,r,h=>by
  show(if(r:Int)=(a:Int) then g a else Z6 0 (L.map fun(r:Nat)=>((r:Int),g r)) (r:Int))=g r
  by_cases e:r=a
  ·subst e;rw[if_pos rfl]
  ·rw[if_neg (by omega)];exact q99 ((qwh.1 h).resolve_left e)
theorem q9d {g:Nat→Int} {k:Nat} {v:Int}:∀{L:List Nat},k ∉ L→q2R (L.map fun(r:Nat)=>((r:Int),g r)) (k:Int) v=(L.map fun(r:Nat)=>((r:Int),g r))++[((k:Int),v)]
 | [],_=>rfl
 | a::L,h=>by
  obtain⟨h1,h2⟩:=not_or.1 (fun h'=>h (qwh.2 h'):¬ (k=a∨k∈L))
  show(if(k:Int)=(a:Int) then _ else _)=_
  rw[if_neg (by omega),q9d h2];rfl
theorem qjY {k r:Nat} (h:f r=r) (hr:r<k):Z6 0 (ixs k f) (r:Int)=((rts r f).length:Int):=
 q99 (qwQ.2 ⟨qwR.2 hr,qwV h⟩)
theorem qj7 (k:Nat):(ixs k f).length=(rts k f).length:=qwD ..
theorem qek (k:Nat):ixs (k+1) f=if f k=k then q2R (ixs k f) (k:Int) ((ixs k f).length:Int) else ixs k f:=by
 have e:rts (k+1) f=rts k f++if f k=k then[k] else[]:=by
  unfold rts
  rw[List.range_succ,List.filter_append,List.filter_cons]
  by_cases h:f k=k
  ·rw[if_pos (qwV h),if_pos h];rfl
  ·rw[if_neg (by simpa using h),if_neg h];rfl
 by_cases h:f k=k
 ·rw[if_pos h]
  rw[if_pos h] at e
  have hn:k ∉ rts k f:=fun hm=>by have:=qwR.1 (qwQ.1 hm).1;omega
  rw[qj7]
  unfold ixs
  rw[q9d hn,e,List.map_append];rfl
 ·rw[if_neg h]
  rw[if_neg h,qwg] at e
  unfold ixs;rw[e]
theorem q7r {n k r:Nat} (h:f r=r) (hr:r<n):(rows n k f)[(rts r f).length]?=some (((List.range k).filter fun i=>decide (f i=r)).map fun(i:Nat)=>(i:Int)):=by
 unfold rows
 rw[qw9,show(rts n f)[(rts r f).length]?=some r from qgY hr (qwV h)];rfl
theorem qdu {n k r:Nat} (hk:f k=r) (h:f r=r) (hr:r<n):(rows n k f).set (rts r f).length ((((List.range k).filter fun i=>decide (f i=r)).map fun(i:Nat)=>(i:Int))++[(k:Int)])=rows n (k+1) f:=by
 have hc:=Qb (q7r (k:=k) h hr)
 apply List.ext_getElem?
 intro c
 have hrow:∀r',((List.range (k+1)).filter fun i=>decide (f i=r')).map (fun(i:Nat)=>(i:Int))=(((List.range k).filter fun i=>decide (f i=r')).map fun(i:Nat)=>(i:Int))++if r'=r then[(k:Int)] else[]:=fun r'=>by
  rw[List.range_succ,List.filter_append,List.map_append,List.filter_cons]
  by_cases e:r'=r
  ·subst e;rw[if_pos (qwV hk),if_pos rfl];rfl
  ·rw[if_neg (by simpa using fun h'=>e (by rw[←hk,h'])),if_neg e];rfl
 by_cases e:c=(rts r f).length
 ·subst e
  rw[qwS hc,q7r h hr,hrow r,if_pos rfl]
 ·rw[qwT (by omega)]
  unfold rows
  rw[qw9,qw9]
  cases hx:(rts n f)[c]? with
  | none=>rfl
  | some r'=>
   have hne:r'≠r:=fun h'=>by
    obtain⟨-,-,h3⟩:=qgE hx
    exact e (by rw[←h3,h'];rfl)
   rw[Option.map_some,Option.map_some]
   rw[hrow r',if_neg hne,qwg]
theorem qaG (n:Nat):rows n 0 f=List.replicate (rts n f).length []:=by
 unfold rows
 rw[List.range_zero]
 exact List.map_const' ..
theorem qgk (n:Nat):rows n n f=(qf9 n f).map fun g=>g.map fun(i:Nat)=>(i:Int):=by
 unfold rows qf9
 rw[List.map_map];rfl
end
noncomputable section
open Go.RowKit
def Z3 (g:List Nat):List Int:=g.map fun(x:Nat)=>(x:Int)
theorem J1 (g:List Nat):(Z3 g).length=g.length:=qwD ..
theorem q26 {g:List Nat} {k:Nat} (h:k<g.length):(Z3 g)[k]?=some ((g.getD k 0:Nat):Int):=by
 unfold Z3
 rw[qw9,qvX h,List.getD_eq_getElem?_getD,qvX h];rfl
theorem q6M (g:List Nat) (k v:Nat):(Z3 g).set k (v:Int)=Z3 (g.set k v):=by
 unfold Z3;rw[List.map_set]
def eF (l:List qa) (i k:Nat):Bool:=match l[i]?,l[k]? with
 | some a,some b => !J0 a b
 | _,_=>false
theorem qjv {l:List qa} {i k:Nat} {a b:qa} (ha:l[i]?=some a) (hb:l[k]?=some b):eF l i k = !J0 a b:=by unfold eF;rw[ha,hb]
theorem qfq {l:List qa} {i k:Nat} (h:eF l i k=true):i<l.length∧k<l.length:=by
 unfold eF at h
 split at h
 ·rename_i h1 h2;exact⟨Qb h1,Qb h2⟩
 ·cases h
theorem q7k {l:List qa} {i k:Nat} (h:eF l i k=true):eF l k i=true:=by
 obtain⟨h1,h2⟩:=qfq h
 have ha:l[i]?=some l[i]:=qvX h1
 have hb:l[k]?=some l[k]:=qvX h2
 rw[qjv ha hb] at h
 rw[qjv hb ha,q7d];exact h
def jl (l:List qa) (k m:Nat):List (Nat×Nat):=((List.range m).filter fun i=>eF l i k).map fun i=>(i,k)
def js (l:List qa) (m:Nat):List (Nat×Nat):=(List.range m).flatMap fun k=>jl l k k
theorem qhf (l:List qa) (k m:Nat):jl l k (m+1)=jl l k m++if eF l m k=true then[(m,k)] else[]:=by
 unfold jl
 rw[List.range_succ,List.filter_append,List.map_append,List.filter_cons]
 cases eF l m k<;>rfl
theorem qe0 (l:List qa) (m:Nat):js l (m+1)=js l m++jl l m m:=by
 unfold js
 rw[List.range_succ,List.flatMap_append];simp
theorem qgJ (l:List qa) (k m:Nat):(jl l k m).length≤m:=by
 unfold jl
 rw[qwD]
 exact qww (List.length_filter_le _ _) (by rw[List.length_range];exact qwb _)
theorem qdU (l:List qa):∀m,(js l m).length≤m*m
 | 0=>qwb _
 | m+1=>by
  rw[qe0,qw2]
  have:=qdU l m
  have:=qgJ l m m
  have:(m+1)*(m+1)=m*m+2*m+1:=by rw[Nat.add_mul,Nat.mul_add];omega
  omega
theorem q8f {l:List qa} {m:Nat} {j:Nat×Nat}:j∈js l m↔j.2<m∧j.1<j.2∧eF l j.1 j.2=true:=by
 unfold js jl
 simp only[List.mem_flatMap,qwF,qwQ,qwR]
 constructor
 ·rintro⟨k,h1,i,⟨h2,h3⟩,rfl⟩;exact⟨h1,h2,h3⟩
 ·rintro⟨h1,h2,h3⟩;exact⟨j.2,h1,j.1,⟨h2,h3⟩,rfl⟩
def arr (j:Nat×Nat):QF Int:=QF.mk (j.1:Int) (j.2:Int)
theorem qa8 (w1:List Int) (l:List qa) (hl:l.length≤1000) (hf:∀a∈l,zr a) (t19 t20:Int) (k:Nat) (hk:k<l.length) (J:List (Nat×Nat)) (hJ:J.length≤1000000):qG (zB w1 l (k:Int) t19 t20 (k:Int)) (J.map arr,(0:Int))=some ((J++jl l k k).map arr):=by
 have hML:10000000≤maxLen:=by unfold maxLen;omega
 have hb:l[k]?=some l[k]:=qvX hk
 have:=q1L (step:=zB w1 l (k:Int) t19 t20 (k:Int)) (fun i=>((J++jl l k i).map arr,(i:Int))) 0 k (qwl _) (fun i _ hi=>by
  have ha:l[i]?=some l[i]:=qvX (by omega)
  have hj:=qgJ l k i
  unfold zB
  dsimp only
  rw[if_pos (by omega),if_pos ⟨by omega,by omega⟩,qvY,ha,qvV,if_pos ⟨by omega,by omega⟩,qvY,hb,qvV,q8r (hf _ (qwM _)) (hf _ (qwM _)),qvV,Qm hi (by omega),qhf,qjv ha hb]
  cases J0 l[i] l[k]
  ·rw[if_pos (show(!false)=true by decide),if_pos ⟨by rw[qwD,qw2];omega,by rw[qwD,qw2];omega⟩,if_pos (show(!false)=true by decide),←qwA,List.map_append (l₁:=J++jl l k i)];rfl
  ·rw[if_neg (show ¬ (!true)=true by decide),if_neg (show ¬ (!true)=true by decide),qwg]) (e:=(J++jl l k k).map arr) (by
  unfold zB
  dsimp only
  rw[if_neg (by omega)])
 have e0:jl l k 0=[]:=rfl
 rw[e0,qwg] at this
 exact this
theorem q9H (l:List qa) (hl:l.length≤1000) (hf:∀a∈l,zr a):qG (zm l ((l.length:Nat):Int)) ([],List.replicate l.length (0:Int),(0:Int))=some ((js l l.length).map arr,Z3 (List.range l.length)):=by
 have hsq:l.length*l.length≤1000*1000:=Nat.mul_le_mul hl hl
 have st0:∀k,k≤l.length→(Z3 (List.range k)++List.replicate (l.length-k) (0:Int)).length=l.length:=fun k hk=>by rw[qw2,J1,List.length_range,qwC];omega
 have:=q1L (step:=zm l ((l.length:Nat):Int)) (fun k=>((js l k).map arr,Z3 (List.range k)++List.replicate (l.length-k) (0:Int),(k:Int))) 0 l.length (qwl _) (fun k _ hk=>by
  have hlen:=st0 k (by omega)
  have hset:(Z3 (List.range k)++List.replicate (l.length-k) (0:Int)).set k (k:Int)=Z3 (List.range (k+1))++List.replicate (l.length-(k+1)) (0:Int):=by
   obtain⟨q,hq⟩:∃q,l.length-k=q+1:=⟨l.length-k-1,by omega⟩
   rw[show l.length-(k+1)=q by omega,hq,List.replicate_succ,List.set_append_right _ _ (by rw[J1,List.length_range];exact qwb _),J1,List.length_range,Nat.sub_self,List.set_cons_zero,List.range_succ]
   unfold Z3
   rw[List.map_append,qwA];rfl
  have hjl:=qdU l k
  have hkk:k*k≤1000*1000:=Nat.mul_le_mul (by omega) (by omega)
  unfold zm
  dsimp only
  rw[if_pos (by omega),if_pos ⟨by omega,by omega⟩,qvY,if_pos (by omega),hset,qa8 _ l hl hf _ _ k hk _ (by omega),qvV,Qm hk (by omega),qe0]) (e:=((js l l.length).map arr,Z3 (List.range l.length))) (by
  unfold zm
  dsimp only
  rw[if_neg (by omega),Nat.sub_self,List.replicate_zero,qwg])
 rw[qwN,List.range_zero] at this
 exact this
theorem q9A (J:List (Nat×Nat)) (hJ:J.length≤1000000) (l:List qa) (t50 t51:Int) (g:List Nat) (hg:∀j∈J,j.1<g.length∧j.2<g.length):qG (zw (J.map arr) l t50 t51 (((J.map arr).length:Nat):Int)) (Z3 g,(0:Int))=some (Z3 (QT J g)):=by
 have hlen:∀i,(QT (J.take i) g).length=g.length:=fun i=>q0R _ _
 have:=q1L (step:=zw (J.map arr) l t50 t51 (((J.map arr).length:Nat):Int)) (fun i=>(Z3 (QT (J.take i) g),(i:Int))) 0 J.length (qwl _) (fun i _ hi=>by
  have hj:J[i]?=some J[i]:=qvX hi
  have hjm:=hg _ (qwM hi)
  have ha:(J.map arr)[i]?=some (arr J[i]):=by rw[qw9,hj];rfl
  have hl2:=hlen i
  have e1:QT (J.take (i+1)) g=q1u (QT (J.take i) g) J[i]:=by
   unfold QT
   rw[List.take_add_one,hj,List.foldl_append];rfl
  unfold zw
  dsimp only
  rw[if_pos (by rw[qwD];omega),if_pos ⟨by omega,by rw[qwD];omega⟩,qvY,ha,qvV]
  have a0:(arr J[i]).a0=((J[i].1:Nat):Int):=rfl
  have a1:(arr J[i]).a1=((J[i].2:Nat):Int):=rfl
  rw[a0,a1,J1,if_pos ⟨by omega,by omega⟩,qvY,q26 (by omega),qvV,if_pos ⟨by omega,by omega⟩,qvY,q26 (by omega),qvV,if_pos ⟨by omega,by omega⟩,if_pos (by omega),if_pos ⟨by omega,by omega⟩,if_pos (by omega),Qm hi hJ,e1]
  have hm:min (((QT (J.take i) g).getD J[i].1 0:Nat):Int) (((QT (J.take i) g).getD J[i].2 0:Nat):Int)=((min ((QT (J.take i) g).getD J[i].1 0) ((QT (J.take i) g).getD J[i].2 0):Nat):Int):=by omega
  rw[hm,q6M,q6M];rfl) (e:=Z3 (QT J g)) (by
  unfold zw
  dsimp only
  rw[if_neg (by rw[qwD];omega),List.take_length])
 exact this
theorem q4l (J:List (Nat×Nat)) (hJ:J.length≤1000000) (l:List qa):∀(m k:Nat) (g:List Nat),m+k=l.length→l.length≤1000→(∀j∈J,j.1<g.length∧j.2<g.length)→qG (zx (J.map arr) l ((l.length:Nat):Int)) (Z3 g,(k:Int))=some (Z3 (QM J m g))
 | 0,k,g,hk,hl,hg=>by
  refine qW ?_
  unfold zx
  dsimp only
  rw[if_neg (by omega)];rfl
 | m+1,k,g,hk,hl,hg=>by
  have e:zx (J.map arr) l ((l.length:Nat):Int) (Z3 g,(k:Int))=some (.inl (Z3 (QT J g),((k+1:Nat):Int))):=by
   unfold zx
   dsimp only
   rw[if_pos (by omega),q9A J hJ l _ _ g hg,qvV,Qm (n:=l.length) (by omega) (by omega)]
  rw[zO e]
  exact q4l J hJ l m (k+1) (QT J g) (by omega) hl fun j hj=>by rw[q0R];exact hg j hj
def lwF (l:List qa) (k:Nat):Nat:=(QM (js l l.length) l.length (List.range l.length)).getD k 0
theorem q97 (l:List qa) {k:Nat} (hk:k<l.length):Lw (fun i j=>eF l i j=true) k (lwF l k):=
 qac (fun i j h=>qfq h) (fun i j h=>q7k h) (fun j hj=>by
  obtain⟨h1,h2,h3⟩:=q8f.1 hj
  exact⟨by omega,h1,h3⟩) (fun i k h=>by
  obtain⟨h1,h2⟩:=qfq h
  by_cases e:i=k
  ·exact .inl e
  ·by_cases hik:i<k
   ·exact .inr (.inl (q8f.2 ⟨h2,hik,h⟩))
   ·exact .inr (.inr (q8f.2 ⟨h1,by show k<i;omega,q7k h⟩))) hk
theorem qon (l:List qa) {k:Nat} (hk:k<l.length):lwF l k<l.length:=(q97 l hk).1.lt (fun i j h=>qfq h) hk
theorem qnP (l:List qa) {k:Nat} (hk:k<l.length):lwF l k≤k:=(q97 l hk).2 k (.refl k)
theorem qfK (l:List qa) {k:Nat} (hk:k<l.length):lwF l (lwF l k)=lwF l k:=(q97 l (qon l hk)).uniq ((q97 l hk).self fun i j h=>q7k h)
theorem q9Z (g:List Nat) (hg:g.length≤1000):qG (za (Z3 g) ((g.length:Nat):Int)) ([],(0:Int))=some (List.replicate (rts g.length fun k=>g.getD k 0).length []):=by
 have hML:10000000≤maxLen:=by unfold maxLen;omega
 have hr:∀k,(rts k fun k=>g.getD k 0).length≤k:=fun k=>by unfold rts;exact qww (List.length_filter_le _ _) (by rw[List.length_range];exact qwb _)
 exact q1L (step:=za (Z3 g) ((g.length:Nat):Int)) (fun k=>(List.replicate (rts k fun k=>g.getD k 0).length ([]:List Int),(k:Int))) 0 g.length (qwl _) (fun k _ hk=>by
  have h1:=hr k
  unfold za
  dsimp only
  rw[if_pos (by omega),J1,if_pos ⟨by omega,by omega⟩,qvY,q26 hk,qvV,Qm hk (by omega),qwC]
  have e:rts (k+1) (fun k=>g.getD k 0)=rts k (fun k=>g.getD k 0)++if g.getD k 0=k then[k] else[]:=by
   unfold rts
   rw[List.range_succ,List.filter_append,List.filter_cons]
   by_cases h:g.getD k 0=k
   ·rw[if_pos (qwV h),if_pos h];rfl
   ·rw[if_neg (by simpa using h),if_neg h];rfl
  rw[e]
  by_cases h:g.getD k 0=k
  ·rw[if_pos (beq_iff_eq.2 (by omega:((g.getD k 0:Nat):Int)=(k:Int))),if_pos ⟨by omega,by omega⟩,if_pos h,qw2,qwd,List.replicate_succ']
  ·rw[if_neg (fun hh=>h (by have:=beq_iff_eq.1 hh;omega)),if_neg h,qwg]) (by
  unfold za
  dsimp only
  rw[if_neg (by omega)])
theorem qci (g:List Nat) (hg:g.length≤1000) (h1:∀k,k<g.length→g.getD k 0≤k) (h2:∀k,k<g.length→g.getD (g.getD k 0) 0=g.getD k 0):qG (zt (Z3 g) ((g.length:Nat):Int)) (List.replicate (rts g.length fun k=>g.getD k 0).length [],[],(0:Int))=some ((qf9 g.length fun k=>g.getD k 0).map Z3):=by
 have hML:10000000≤maxLen:=by unfold maxLen;omega
 obtain⟨f,hf⟩:∃f:Nat→Nat,f=fun k=>g.getD k 0:=⟨_,rfl⟩
 have hfk:∀k,g.getD k 0=f k:=fun k=>by rw[hf]
 rw[←hf]
 have e0:rows g.length 0 f=List.replicate (rts g.length f).length []:=qaG _
 have hall:rows g.length g.length f=(qf9 g.length f).map Z3:=qgk _
 rw[←hall,←e0]
 have hrl:∀k,(rts k f).length≤k:=fun k=>by unfold rts;exact qww (List.length_filter_le _ _) (by rw[List.length_range];exact qwb _)
 exact q1L (step:=zt (Z3 g) ((g.length:Nat):Int)) (fun k=>(rows g.length k f,ixs k f,(k:Int))) 0 g.length (qwl _) (fun k _ hk=>by
  have hle:f k≤k:=by rw[←hfk];exact h1 k hk
  have hid:f (f k)=f k:=by have:=h2 k hk;rw[hfk,hfk] at this;exact this
  have hM:Z6 0 (ixs (k+1) f) ((f k:Nat):Int)=(((rts (f k) f).length:Nat):Int):=qjY hid (by omega)
  have hrow:=q7r (n:=g.length) (k:=k) hid (by omega)
  have hlt:=Qb hrow
  have hfl:(((List.range k).filter fun i=>decide (f i=f k)).map fun(i:Nat)=>(i:Int)).length≤k:=by
   rw[qwD]
   exact qww (List.length_filter_le _ _) (by rw[List.length_range];exact qwb _)
  have hsucc:=qdu (n:=g.length) (k:=k) rfl hid (by omega:f k<g.length)
  have hx:=qek (f:=f) k
  unfold zt
  dsimp only
  rw[if_pos (by omega),J1,if_pos ⟨by omega,by omega⟩,qvY,q26 hk,qvV,hfk,Qm hk (by omega)]
  by_cases h:f k=k
  ·rw[if_pos h] at hx
   rw[if_pos (by rw[h];simp),←hx,hM,qvY,hrow,qvV,if_pos ⟨by omega,by omega⟩,qvV,if_pos ⟨by omega,by omega⟩,if_pos ⟨by omega,by omega⟩,if_pos hlt,hsucc]
  ·rw[if_neg h] at hx
   rw[hx] at hM
   rw[if_neg (fun hh=>h (by have:=beq_iff_eq.1 hh;omega)),hM,qvY,hrow,qvV,if_pos ⟨by omega,by omega⟩,qvV,if_pos ⟨by omega,by omega⟩,if_pos ⟨by omega,by omega⟩,if_pos hlt,hsucc,hx]) (by
  unfold zt
  dsimp only
  rw[if_neg (by omega)])
theorem qcw (l:List qa) (hl:l.length≤1000) (hf:∀a∈l,zr a):Qc l=some ((qf9 l.length (lwF l)).map Z3):=by
 obtain⟨g,hg⟩:∃g,g=QM (js l l.length) l.length (List.range l.length):=⟨_,rfl⟩
 have hgl:g.length=l.length:=by rw[hg,q1g,List.length_range]
 have hgf:∀k,g.getD k 0=lwF l k:=fun k=>by rw[hg];rfl
 have hsq:l.length*l.length≤1000*1000:=Nat.mul_le_mul hl hl
 have hjl:=qdU l l.length
 have hr:=q4l (js l l.length) (by omega) l l.length 0 (List.range l.length) (by omega) hl (fun j hj=>by
  obtain⟨h1,h2,-⟩:=q8f.1 hj
  rw[List.length_range];omega)
 have hroots:=q9Z g (by omega)
 have hfill:=qci g (by omega) (fun k hk=>by rw[hgf];exact qnP l (by omega)) (fun k hk=>by rw[hgf,hgf];exact qfK l (by omega))
 unfold Qc
 rw[if_pos ⟨by omega,by omega,by omega⟩,q9H l hl hf,qvV]
 dsimp only
 change Option.bind (qG _ (Z3 (List.range l.length),((0:Nat):Int))) _=_
 rw[hr,←hg,qvV,←hgl,hroots,qvV,J1,hfill,qvV]
 congr 2
 exact qai fun k _=>hgf k
end
noncomputable section
open Go.RowKit
theorem qcX (a b c:qa) (s:qf):qk a b c s=JY s:=rfl
def exO (c:List UInt8) (cr g d:Int) (S:List Int) (bd:Int):qa:=qa.mk (qb.mk 1 (ByteArray.mk (List.toArray c))) cr g d S bd []
def exP:qe:=qe.mk 1 0 0 0 (ByteArray.mk (List.toArray [])) (qg.mk 0 0 0 [] []) 0 0 0 []
def exS:qf:=qf.mk 0 100 50
theorem qk6 (a:qa) (d:Int):qs exP a d=some false:=by
 unfold qs
 rw[if_neg (by decide)]
theorem JE {a:qa} (ha:zr a):qv a=some ():=by
 have hML:100000≤maxLen:=by unfold maxLen;omega
 have h1:=ha.1;have h2:=ha.2
 unfold qv qL
 rw[if_pos ⟨by omega,by omega⟩,qvV,if_pos ⟨by omega,by omega⟩,qvV]
theorem q9z (a b c:qa) (ha:zr a) (hb:zr b) (hc:zr c):Q7 3 exP exS 100 a b c=some (red (q7x exS) [a,b,c],0):=by
 have hML:100000≤maxLen:=by unfold maxLen;omega
 have hl:=q5R exS 3 3 [a,b,c] (by simp) (by omega) (by simp[ha,hb,hc]) (by simp) (fun j h1 h2=>by simp at h2;omega)
 have hr:=(q44 (cv:=q7x exS) [a,b,c]).length_le
 unfold Q7
 rw[if_pos (by omega),if_pos (by omega),qk6,qvV,if_pos (by decide),JE ha,qvV,if_pos (by omega),if_pos (by omega),if_pos (by omega),qk6,qvV,if_pos (by decide),JE hb,qvV,if_pos (by omega),if_pos (by omega),if_pos (by omega),qk6,qvV,if_pos (by decide),JE hc,qvV,if_pos (by omega),if_neg (by omega),qcX]
 change Option.bind (qG _ ([a,b,c],((3:Nat):Int)-1)) _=_
 rw[hl,qvV,if_neg (by simp at hr;omega)]
theorem qan (a b:qa) (w:List Int) (x1:Int) (x2:ByteArray) (x3 x4 x5 x6:Int) (x7:List Int) (ha:zr a) (hb:zr b) (hc:zr (qa.mk (qb.mk x1 x2) x3 x4 x5 w x6 x7)) :
  Q8 3 exP exS 100 w a b x1 x2 x3 x4 x5 x6 x7=some (.inl (red (q7x exS) [a,b,qa.mk (qb.mk x1 x2) x3 x4 x5 w x6 x7],0,qa.mk (qb.mk x1 x2) x3 x4 x5 w x6 x7)):=by
 have hML:100000≤maxLen:=by unfold maxLen;omega
 obtain⟨c,hce⟩:∃c,c=qa.mk (qb.mk x1 x2) x3 x4 x5 w x6 x7:=⟨_,rfl⟩
 have hl:=q5R exS 3 3 [a,b,c] (by simp) (by omega) (by rw[hce];simp[ha,hb,hc]) (by simp) (fun j h1 h2=>by simp at h2;omega)
 have hr:=(q44 (cv:=q7x exS) [a,b,c]).length_le
 unfold Q8
 rw[if_pos (by omega),if_pos (by omega),qk6,qvV,if_pos (by decide),JE ha,qvV,if_pos (by omega),if_pos (by omega),if_pos (by omega),qk6,qvV,if_pos (by decide),JE hb,qvV,if_pos (by omega),if_pos (by omega),if_pos (by omega),qk6,qvV,if_pos (by decide),JE hc,qvV,if_pos (by omega),if_neg (by omega),qcX,←hce]
 change Option.bind (qG _ ([a,b,c],((3:Nat):Int)-1)) _=_
 rw[hl,qvV,if_neg (by simp at hr;omega)]
theorem q9M (a:List (List Int)) (ha:a.length≤1000000) (hs:∀x∈a,x.length≤1000000):zy a a=some true:=by
 have h:=q8Z (step:=zo a a) a (fun _=>true) (Sum.inl ()) (Sum.inr ()) (fun i x hx=>by
  have hi:=Qb hx
  unfold zo
  rw[if_pos (by omega),if_pos ⟨by omega,by omega⟩,qvY,hx,qvV,if_pos ⟨by omega,by omega⟩,qvV,q5D _ _ (hs x (qvW hx)),qvV,qwV rfl,if_neg (by decide),Qm hi ha]
  rfl) (by
  unfold zo
  rw[if_neg (by omega)])
 unfold zy
 rw[if_neg (by simp),h,qvV,if_pos (by simp)]
 rfl
theorem qiY:red (q7x exS) [exO [65,49] 5 60 5 [1] 0,exO [65,49] 5 70 9 [2] 0,exO [66,49] 5 50 0 [3] 0]=[exO [65,49] 5 70 9 [2] 0,exO [66,49] 5 50 0 [3] 0]:=by kernel_rfl
theorem qjk:red (q7x exS) [exO [65,49] 5 60 5 [1] 0,exO [65,49] 5 70 9 [2] 0,exO [66,49] 5 50 0 [2] 1]=[exO [65,49] 5 60 5 [1] 0,exO [65,49] 5 70 9 [2] 0,exO [66,49] 5 50 0 [2] 1]:=by kernel_rfl
theorem qh4:dfs q4n qiM [exO [65,49] 5 60 0 [1] 0,exO [66,49] 10 60 0 [3] 0,exO [65,49] 6 60 0 [2] 0] [] 0=16:=by kernel_rfl
theorem qhr:(qf9 4 (lwF [exO [65,49] 5 60 0 [1] 0,exO [66,49] 10 60 0 [3] 0,exO [65,49] 6 60 0 [2] 0,exO [67,49] 5 60 0 [2] 1])).map Z3=[[0,2,3],[1]]:=by kernel_rfl
theorem q0L (c:List UInt8) (cr g d x:Int) (bd:Int):zr (exO c cr g d [x] bd):=⟨by show 1≤1000;omega,by show 0≤1000;omega⟩
theorem q7Z:QV=some true:=by
 have h1:=q9z (exO [65,49] 5 60 5 [1] 0) (exO [65,49] 5 70 9 [2] 0) (exO [66,49] 5 50 0 [3] 0) (q0L ..) (q0L ..) (q0L ..)
 have h2:=qan (exO [65,49] 5 60 5 [1] 0) (exO [65,49] 5 70 9 [2] 0) [2] 1 (ByteArray.mk (List.toArray [66,49])) 5 50 0 1 [] (q0L ..) (q0L ..) (q0L [66,49] 5 50 0 2 1)
 have h3:=qiq [exO [65,49] 5 60 0 [1] 0,exO [66,49] 10 60 0 [3] 0,exO [65,49] 6 60 0 [2] 0] (by simp) (by simp[q0L])
 have h4:=qcw [exO [65,49] 5 60 0 [1] 0,exO [66,49] 10 60 0 [3] 0,exO [65,49] 6 60 0 [2] 0,exO [67,49] 5 60 0 [2] 1] (by simp) (by simp[q0L])
 rw[qiY] at h1
 rw[show(qa.mk (qb.mk 1 (ByteArray.mk (List.toArray [66,49]))) 5 50 0 [2] 1 [])=exO [66,49] 5 50 0 [2] 1 from rfl,qjk] at h2
 rw[qh4] at h3
 rw[show[exO [65,49] 5 60 0 [1] 0,exO [66,49] 10 60 0 [3] 0,exO [65,49] 6 60 0 [2] 0,exO [67,49] 5 60 0 [2] 1].length=4 from rfl,qhr] at h4
 unfold exO exP exS at h1 h2
 unfold exO at h3 h4
 have hc:(ByteArray.toList (ByteArray.mk (List.toArray [66,49]))==ByteArray.toList (ByteArray.mk (List.toArray [66,49])))=true:=by simp
 unfold QV
 rw[h1,qvV,h2,qvV,Sum.elim_inl]
 dsimp only
 rw[if_neg (by decide),if_neg (by decide),if_neg (by decide),if_pos (by decide)]
 simp only[qw5,qwk,qvV]
 rw[if_neg (by decide),if_pos (by decide),hc,if_neg (by decide),if_neg (by decide),h3,qvV]
 dsimp only
 rw[if_pos (by decide),if_pos (by decide),h4,qvV,q9M _ (by simp) (by simp)]
 rfl
end
noncomputable section
open Go.RowKit
set_option maxRecDepth 100000
theorem q1T {α:Type} (ds:List α) (o s:Nat):ds.drop o=(ds.drop o).take s++ds.drop (o+s):=by
 rw[←qwI];exact(qwJ s _).symm
theorem q7q {X:Type} {E:X→List D} {W:X→Prop} {sz:Nat} (hz:0<sz):∀(m:Nat) (es:List D),es.length=m*sz→(∀i,i<m→∃x,(es.drop (i*sz)).take sz=E x∧W x)→∃l:List X,es=l.flatMap E∧l.length=m∧∀x∈l,W x
 | 0,es,hl,_=>⟨[],by rw[Nat.zero_mul] at hl;exact qwe hl,rfl,by simp⟩
 | m+1,es,hl,h=>by
  obtain⟨x,hx,wx⟩:=h 0 (by omega)
  obtain⟨l,g1,g2,g3⟩:=q7q hz m (es.drop sz) (by rw[qwH,hl,Nat.add_mul];omega) fun i hi=>by
   obtain⟨y,hy,wy⟩:=h (i+1) (by omega)
   refine⟨y,?_,wy⟩
   rw[qwI,show sz+i*sz=(i+1)*sz by rw[Nat.add_mul,Nat.one_mul,Nat.add_comm]];exact hy
  refine⟨x::l,?_,by simp[g2],fun y hy=>?_⟩
  ·rw[Nat.zero_mul,List.drop_zero] at hx
   rw[qwY,←g1,←hx,qwJ]
  ·rcases qwh.1 hy with rfl|hy
   ·exact wx
   ·exact g3 y hy
abbrev qro:List TypeId:=[28,22,25,3,24,23,26,5,30]
theorem ql0:qt3 Try.prog qro=true:=by kernel_rfl
theorem ty3:∀(n:Nat) (ds:List D),Z0 Try.prog n 3 ds→∃v:Int,ds=[D.int .i64 v]∧(Lit.int .i64 v).wf=true:=by
 intro n ds h
 cases n with
 | zero=>exact h.elim
 | succ n=>
  unfold Z0 at h
  rw[Try.underlying3] at h
  obtain⟨z,h1,h2⟩:=h
  exact⟨z,h1,h2⟩
theorem cz3:Try.prog.cellsOf 3=1:=by kernel_rfl
theorem qsw:∀(n:Nat) (ds:List D),Z0 Try.prog n 25 ds→∃v:List Int,ds=[D.sl 1 v.length (v.flatMap eI)]∧(v.length≤maxLen∧∀y∈v,(Lit.int .i64 y).wf=true):=by
 intro n ds h
 cases n with
 | zero=>exact h.elim
 | succ n=>
  unfold Z0 at h
  rw[Try.underlying25] at h
  obtain⟨m,es,h1,h2,h3,h4⟩:=h
  rw[cz3] at h1 h3 h4
  obtain⟨l,g1,g2,g3⟩:=q7q (E:=eI) (W:=fun y=>(Lit.int .i64 y).wf=true) (sz:=1) (by decide) m es h3 fun i hi=>by
   obtain⟨v,q1,q2⟩:=ty3 n _ (h4 i hi)
   exact⟨v,q1.trans (rfl),q2⟩
  refine⟨l,?_,by omega,g3⟩
  rw[h1,g1,g2]
theorem qst:Try.prog.cellsOf 25=1:=by kernel_rfl
theorem qvL:∀(n:Nat) (ds:List D),Z0 Try.prog n 22 ds→∃v:List (List Int),ds=[D.sl 1 v.length (v.flatMap (eL 1 eI))]∧(v.length≤maxLen∧∀y∈v,(y.length≤maxLen∧∀yy∈y,(Lit.int .i64 yy).wf=true)):=by
 intro n ds h
 cases n with
 | zero=>exact h.elim
 | succ n=>
  unfold Z0 at h
  rw[Try.underlying22] at h
  obtain⟨m,es,h1,h2,h3,h4⟩:=h
  rw[qst] at h1 h3 h4
  obtain⟨l,g1,g2,g3⟩:=q7q (E:=(eL 1 eI)) (W:=fun y=>(y.length≤maxLen∧∀yy∈y,(Lit.int .i64 yy).wf=true)) (sz:=1) (by decide) m es h3 fun i hi=>by
   obtain⟨v,q1,q2⟩:=qsw n _ (h4 i hi)
   exact⟨v,q1.trans (rfl),q2⟩
  refine⟨l,?_,by omega,g3⟩
  rw[h1,g1,g2]
theorem qnT:Try.prog.cellsOf 23=3:=by kernel_rfl
theorem qt9:∀(n:Nat) (ds:List D),Z0 Try.prog n 23 ds→∃v:qgP Int,ds=[D.int .i64 v.a0,D.int .i64 v.a1,D.int .i64 v.a2]∧((Lit.int .i64 v.a0).wf=true∧(Lit.int .i64 v.a1).wf=true∧(Lit.int .i64 v.a2).wf=true):=by
 intro n ds h
 cases n with
 | zero=>exact h.elim
 | succ n=>
  unfold Z0 at h
  rw[Try.underlying23] at h
  obtain⟨hl,hf⟩:=h
  rw[qnT] at hl
  have h0:Z0 Try.prog n 3 ((ds.drop 0).take (Try.prog.cellsOf 3)):=by
   have:=hf 0 (by decide)
   rwa [cz3] at this ⊢
  rw[cz3] at h0
  obtain⟨v0,e0,w0⟩:=ty3 _ _ h0
  have c0:=q1T ds 0 1
  rw[e0] at c0
  have h1:Z0 Try.prog n 3 ((ds.drop 1).take (Try.prog.cellsOf 3)):=by
   have:=hf 1 (by decide)
   rwa [cz3] at this ⊢
  rw[cz3] at h1
  obtain⟨v1,e1,w1⟩:=ty3 _ _ h1
  have c1:=q1T ds 1 1
  rw[e1] at c1
  have h2:Z0 Try.prog n 3 ((ds.drop 2).take (Try.prog.cellsOf 3)):=by
   have:=hf 2 (by decide)
   rwa [cz3] at this ⊢
  rw[cz3] at h2
  obtain⟨v2,e2,w2⟩:=ty3 _ _ h2
  have c2:=q1T ds 2 1
  rw[e2] at c2
  have cl:ds.drop 3=[]:=qwB (by omega)
  refine⟨⟨v0,v1,v2⟩,?_,⟨w0,w1,w2⟩⟩
  have c:ds.drop 0=_:=c0
  simp only[Nat.reduceAdd] at c0 c1 c2 c
  rw[c1,c2,cl] at c
  exact c
theorem qtl:Try.prog.cellsOf 24=6:=by kernel_rfl
theorem quW:∀(n:Nat) (ds:List D),Z0 Try.prog n 24 ds→∃v:QF (qgP Int),ds=[D.int .i64 v.a0.a0,D.int .i64 v.a0.a1,D.int .i64 v.a0.a2,D.int .i64 v.a1.a0,D.int .i64 v.a1.a1,D.int .i64 v.a1.a2]∧(((Lit.int .i64 v.a0.a0).wf=true∧(Lit.int .i64 v.a0.a1).wf=true∧(Lit.int .i64 v.a0.a2).wf=true)∧((Lit.int .i64 v.a1.a0).wf=true∧(Lit.int .i64 v.a1.a1).wf=true∧(Lit.int .i64 v.a1.a2).wf=true)):=by
 intro n ds h
 cases n with
 | zero=>exact h.elim
 | succ n=>
  unfold Z0 at h
  rw[Try.underlying24] at h
  obtain⟨hl,hf⟩:=h
  rw[qtl] at hl
  have h0:Z0 Try.prog n 23 ((ds.drop 0).take (Try.prog.cellsOf 23)):=by
   have:=hf 0 (by decide)
   rwa [qnT] at this ⊢
  rw[qnT] at h0
  obtain⟨v0,e0,w0⟩:=qt9 _ _ h0
  have c0:=q1T ds 0 3
  rw[e0] at c0
  have h1:Z0 Try.prog n 23 ((ds.drop 3).take (Try.prog.cellsOf 23)):=by
   have:=hf 1 (by decide)
   rwa [qnT] at this ⊢
  rw[qnT] at h1
  obtain⟨v1,e1,w1⟩:=qt9 _ _ h1
  have c1:=q1T ds 3 3
  rw[e1] at c1
  have cl:ds.drop 6=[]:=qwB (by omega)
  refine⟨⟨v0,v1⟩,?_,⟨w0,w1⟩⟩
  have c:ds.drop 0=_:=c0
  simp only[Nat.reduceAdd] at c0 c1 c
  rw[c1,cl] at c
  exact c
theorem quX:∀(n:Nat) (ds:List D),Z0 Try.prog n 26 ds→∃v:Int,ds=[D.int .u16 v]∧(Lit.int .u16 v).wf=true:=by
 intro n ds h
 cases n with
 | zero=>exact h.elim
 | succ n=>
  unfold Z0 at h
  rw[Try.underlying26] at h
  obtain⟨z,h1,h2⟩:=h
  exact⟨z,h1,h2⟩
theorem qvv:Try.prog.cellsOf 22=1:=by kernel_rfl
theorem quQ:Try.prog.cellsOf 26=1:=by kernel_rfl
theorem qvq:Try.prog.cellsOf 28=9:=by kernel_rfl
def q0B (x:Ql):Prop:=(x.Has.length≤maxLen∧∀y∈x.Has,(y.length≤maxLen∧∀yy∈y,(Lit.int .i64 yy).wf=true))∧(((Lit.int .i64 x.Odd.a0.a0).wf=true∧(Lit.int .i64 x.Odd.a0.a1).wf=true∧(Lit.int .i64 x.Odd.a0.a2).wf=true)∧((Lit.int .i64 x.Odd.a1.a0).wf=true∧(Lit.int .i64 x.Odd.a1.a1).wf=true∧(Lit.int .i64 x.Odd.a1.a2).wf=true))∧(x.Programme.length≤maxLen∧∀y∈x.Programme,(Lit.int .i64 y).wf=true)∧(Lit.int .u16 x.Day).wf=true
theorem ty28:∀(n:Nat) (ds:List D),Z0 Try.prog n 28 ds→∃v:Ql,ds=[D.sl 1 v.Has.length (v.Has.flatMap (eL 1 eI)),D.int .i64 v.Odd.a0.a0,D.int .i64 v.Odd.a0.a1,D.int .i64 v.Odd.a0.a2,D.int .i64 v.Odd.a1.a0,D.int .i64 v.Odd.a1.a1,D.int .i64 v.Odd.a1.a2,D.sl 1 v.Programme.length (v.Programme.flatMap eI),D.int .u16 v.Day]∧q0B v:=by
 intro n ds h
 cases n with
 | zero=>exact h.elim
 | succ n=>
  unfold Z0 at h
  rw[Try.underlying28] at h
  obtain⟨hl,hf⟩:=h
  rw[qvq] at hl
  have h0:Z0 Try.prog n 22 ((ds.drop 0).take (Try.prog.cellsOf 22)):=hf _ (qvW (i:=0) rfl)
  rw[qvv] at h0
  obtain⟨v0,e0,w0⟩:=qvL _ _ h0
  have c0:=q1T ds 0 1
  rw[e0] at c0
  have h1:Z0 Try.prog n 24 ((ds.drop 1).take (Try.prog.cellsOf 24)):=hf _ (qvW (i:=1) rfl)
  rw[qtl] at h1
  obtain⟨v1,e1,w1⟩:=quW _ _ h1
  have c1:=q1T ds 1 6
  rw[e1] at c1
  have h2:Z0 Try.prog n 25 ((ds.drop 7).take (Try.prog.cellsOf 25)):=hf _ (qvW (i:=2) rfl)
  rw[qst] at h2
  obtain⟨v2,e2,w2⟩:=qsw _ _ h2
  have c2:=q1T ds 7 1
  rw[e2] at c2
  have h3:Z0 Try.prog n 26 ((ds.drop 8).take (Try.prog.cellsOf 26)):=hf _ (qvW (i:=3) rfl)
  rw[quQ] at h3
  obtain⟨v3,e3,w3⟩:=quX _ _ h3
  have c3:=q1T ds 8 1
  rw[e3] at c3
  have cl:ds.drop 9=[]:=qwB (by omega)
  refine⟨⟨v0,v1,v2,v3⟩,?_,⟨w0,w1,w2,w3⟩⟩
  have c:ds.drop 0=_:=c0
  simp only[Nat.reduceAdd] at c0 c1 c2 c3 c
  rw[c1,c2,c3,cl] at c
  exact c
end
noncomputable section
open Go.RowKit
theorem qm2 {c:Ql} (w:q0B c):(∀q∈c.Has,q.length≤9223372036854775807)∧c.Has.length≤9223372036854775807∧c.Programme.length≤9223372036854775807:=by
 have hm:maxLen≤9223372036854775807:=by unfold maxLen;omega
 obtain⟨⟨h1,h2⟩,-,⟨h3,-⟩,-⟩:=w
 exact⟨fun q hq=>qww (h2 q hq).1 hm,qww h1 hm,qww h3 hm⟩
end
noncomputable section
open Go.RowKit
theorem q6C {a:qa} (h:zr a):Zz a a=some true:=by
 have h1:=h.1;have h2:=h.2
 unfold Zz
 rw[q5D _ _ (by omega),qvV,q5D _ _ (by omega),qvV,qwV rfl,qwV rfl,if_pos rfl,if_pos rfl,if_pos ⟨by simp,by simp⟩,if_pos (by simp),if_pos (by simp),if_pos (by simp)]
 simp
theorem q5a (l:List qa) (hl:l.length≤1000) (hf:∀a∈l,zr a):QD l l=some true:=by
 have h:=q8Z (step:=zN l l) l (fun _=>true) (Sum.inl ()) (Sum.inr ()) (fun i a ha=>by
  have hi:=Qb ha
  unfold zN
  rw[if_pos (by omega),if_pos ⟨by omega,by omega⟩,qvY,ha,qvV,if_pos ⟨by omega,by omega⟩,qvV,q6C (hf a (qvW ha)),qvV,if_neg (by decide),Qm hi (by omega)];rfl) (by
  unfold zN
  rw[if_neg (by omega)])
 unfold QD
 rw[if_neg (by simp),h,qvV,if_pos (by simp)]
 rfl
def qjh (b a:qa):Bool:=a.Course.School==b.Course.School&&ByteArray.toList a.Course.Code==ByteArray.toList b.Course.Code
theorem q2g (p:qe) (a:qa) (t3:Bool) (d:Int) (t7:List qa) (t11:Int) (t52:List qa) (t53 t54:Int) (L:List qa) (hL:L.length≤1000) (ho:∀b∈L,q9K p b d=false) (o:Bool) :
  qG (qJ p a t3 d t7 t11 t52 t53 t54 L ((L.length:Nat):Int)) (o,(0:Int))=some (.inr (o||L.any (qjh a))):=by
 have h:=q0P (step:=qJ p a t3 d t7 t11 t52 t53 t54 L ((L.length:Nat):Int)) L (fun(b:Bool) k=>(b,(k:Int))) (fun o b=>o||qjh a b) (fun o=>(.inr o:Bool⊕Bool)) (fun o k b hb=>by
  have hk:=Qb hb
  unfold qJ
  dsimp only
  rw[if_pos (by omega),if_pos ⟨by omega,by omega⟩,qvY,hb,qvV,q8b,ho b (qvW hb),Qm hk (by omega)]
  cases o
  ·rw[if_neg (by decide),qvV,if_neg (by decide),Bool.false_or];rfl
  ·rw[if_pos rfl,qvV,if_neg (by decide),Bool.true_or]) (fun o=>by
  unfold qJ
  dsimp only
  rw[if_neg (by omega)]) o
 change qG _ (o,((0:Nat):Int))=_
 rw[h]
 have:∀(l:List qa) (o:Bool),l.foldl (fun o b=>o||qjh a b) o=(o||l.any (qjh a)):=by
  intro l
  induction l with
  | nil=>intro o;simp
  | cons b l ih=>intro o;rw[qwX,ih,List.any_cons,Bool.or_assoc]
 rw[this]
theorem q9L (p:qe) (t3:Bool) (d:Int) (L l:List qa) (hl:l.length≤1000) (hL:L.length≤1000) (hf:∀a∈l,zr a) (ho:∀b∈L,q9K p b d=false) (hfound:∀a∈l,(q9K p a d||L.any (qjh a))=true):∀(r:List qa) (i k:Nat),r.length+i=l.length→l.drop i=r→k≤L.length→
  ∃K:Nat,qG (qM p t3 d L l ((l.length:Nat):Int)) ((k:Int),(i:Int))=some (.inr (K:Int))∧L.drop K=grd q3M r (L.drop k)∧K≤L.length:=by
 intro r
 induction r with
 | nil=>
  intro i k hi hd hk
  have hi:i=l.length:=by simpa using hi
  refine⟨k,qW ?_,rfl,hk⟩
  unfold qM
  dsimp only
  rw[if_neg (by omega)]
 | cons a r ih=>
  intro i k hi hd hk
  simp only[qw6] at hi
  have ha:l[i]?=some a:=by have:=congrArg (fun x:List qa=>x[0]?) hd;simpa [List.getElem?_drop] using this
  have hd1:l.drop (i+1)=r:=by rw[←qwI,hd];rfl
  have hilt:=Qb ha
  have ham:=qvW ha
  have hfa:=hfound a ham
  by_cases hkl:k<L.length
  ·have hb:L[k]?=some L[k]:=qvX hkl
   have hdk:L.drop k=L[k]::L.drop (k+1):=List.drop_eq_getElem_cons hkl
   have hw:w64 ((k:Int)+1)=((k+1:Nat):Int):=Qm hkl (by omega)
   have e:qM p t3 d L l ((l.length:Nat):Int) ((k:Int),(i:Int))=some (.inl (((if q3M a L[k]=true then k+1 else k:Nat):Int),((i+1:Nat):Int))):=by
    unfold qM
    dsimp only
    rw[if_pos (by omega),if_pos ⟨by omega,by omega⟩,qvY,ha,qvV,if_pos (by omega),if_pos ⟨by omega,by omega⟩,qvY,hb,qvV,(qc0 (hf a ham)).1,qvV,q8b,hw,Qm hilt (by omega)]
    cases q3M a L[k]
    ·rw[if_neg (by decide),qvV,q2g p a t3 d L _ l _ _ L hL ho,qvV,Sum.elim_inr,hfa,if_neg (by decide),if_neg (by decide)]
    ·rw[if_pos rfl,qvV,q2g p a t3 d L _ l _ _ L hL ho,qvV,Sum.elim_inr,hfa,if_neg (by decide),if_pos rfl]
   rw[hdk,zO e]
   unfold grd
   by_cases hs:q3M a L[k]=true
   ·rw[if_pos hs,if_pos hs]
    exact ih (i+1) (k+1) (by omega) hd1 (by omega)
   ·rw[if_neg hs,if_neg hs]
    obtain⟨K,q1,q2,q3⟩:=ih (i+1) k (by omega) hd1 hk
    exact⟨K,q1,by rw[q2,hdk],q3⟩
  ·have hdk:L.drop k=[]:=qwB (by omega)
   have e:qM p t3 d L l ((l.length:Nat):Int) ((k:Int),(i:Int))=some (.inl ((k:Int),((i+1:Nat):Int))):=by
    unfold qM
    dsimp only
    rw[if_pos (by omega),if_pos ⟨by omega,by omega⟩,qvY,ha,qvV,if_neg (by omega),q8b,qvV,q2g p a t3 d L _ l _ _ L hL ho,qvV,Sum.elim_inr,hfa,if_neg (by decide),Qm hilt (by omega)]
   rw[zO e,hdk,qdE]
   obtain⟨K,q1,q2,q3⟩:=ih (i+1) k (by omega) hd1 hk
   exact⟨K,q1,by rw[q2,hdk,qdE],q3⟩
theorem q5o:∀(l t:List qa),(∀a∈l,zr a)→t.Sublist l→grd q3M l t=[]
 | [],t,_,h=>List.sublist_nil.1 h
 | a::l,[],_,_=>rfl
 | a::l,b::t,hf,h=>by
  have hf':∀x∈l,zr x:=fun x hx=>hf x (qw3 _ hx)
  unfold grd
  by_cases hs:q3M a b=true
  ·rw[if_pos hs]
   cases h with
   | cons _ h=>exact q5o l t hf' ((List.sublist_cons_self b t).trans h)
   | cons_cons _ h=>exact q5o l t hf' h
  ·rw[if_neg hs]
   cases h with
   | cons _ h=>exact q5o l _ hf' h
   | cons_cons _ h=>exact absurd ((qc0 (hf a qwa)).2 rfl) hs
theorem qap (p:qe) (s:qf) (l:List qa) (d:Int) (a:qa) (ha:a∈l):(q9K p a d||(q0w p s l d).any (qjh a))=true:=by
 cases ho:q9K p a d
 ·rw[Bool.false_or]
  obtain⟨y,hy,he⟩:=qjX (cv:=q7x s) (fun a:qa=>(a.Course.School,a.Course.Code.toList)) (fun l k hk hc=>by
   unfold q7x at hc
   obtain⟨i,hi,hp⟩:=qwP.1 hc
   have hi:=qwR.1 hi
   have ha:l[i]?=some l[i]:=qvX hi
   have hb:l[k]?=some l[k]:=qvX hk
   unfold plc at hp
   rw[ha,hb] at hp
   have hp:qnd s l i k l[i] l[k]=true:=hp
   unfold qnd q3X ceq at hp
   simp only[qwr,qwU,beq_iff_eq] at hp
   obtain⟨⟨h1,⟨⟨⟨⟨h2,-⟩,-⟩,-⟩,-⟩,-⟩,-⟩:=hp
   exact⟨i,h1,_,_,ha,hb,by rw[h2.1,h2.2]⟩) (q04 p l d) a (qwQ.2 ⟨ha,by rw[ho];rfl⟩)
  refine qwP.2 ⟨y,hy,?_⟩
  injection he with h1 h2
  unfold qjh
  rw[h1,h2];simp
 ·rfl
theorem qah (p:qe) (s:qf) (l:List qa) (d:Int):q0w p s (q0w p s l d) d=q0w p s l d:=by
 have h:q04 p (q0w p s l d) d=q0w p s l d:=by
  unfold q04
  rw[List.filter_eq_self]
  intro a ha
  rw[(q5A ha).2];rfl
 have e:q0w p s (q0w p s l d) d=red (q7x s) (q04 p (q0w p s l d) d):=rfl
 rw[e,h]
 exact qj2 _
theorem q4x (c:Ql) (hq:∀q∈c.Has,q.length≤9223372036854775807) (ht:c.Has.length≤9223372036854775807) (hp:c.Programme.length≤9223372036854775807):Qo c=some true:=by
 obtain⟨l,p,d,e,l8,hs⟩:=qaY c hq ht hp
 have hf:∀a∈l,zr a:=fun a ha=>(hs a ha).fit (by omega)
 obtain⟨L,hL⟩:∃L,L=q0w p (qf.mk 0 100 50) l d:=⟨_,rfl⟩
 have hLl:L.length≤8:=by rw[hL];exact qww (Q9 p _ l d) l8
 have hfL:∀a∈L,zr a:=fun a ha=>hf a (q5A (by rw[hL] at ha;exact ha)).1
 have hoL:∀b∈L,q9K p b d=false:=fun b hb=>(q5A (by rw[hL] at hb;exact hb)).2
 have hr:zY l p (qf.mk 0 100 50) d=some (L,0):=by
  rw[q67 l p _ d (by omega) hf,←hL,if_neg (by omega)]
 have hagain:q0w p (qf.mk 0 100 50) L d=L:=by rw[hL];exact qah p _ l d
 have hr2:zY L p (qf.mk 0 100 50) d=some (L,0):=by
  rw[q67 L p _ d (by omega) hfL,hagain,if_neg (by omega)]
 have hsub:L.Sublist l:=by rw[hL];exact(q44 _).trans List.filter_sublist
 obtain⟨K,q1,q2,q3⟩:=q9L p true d L l (by omega) (by omega) hf hoL (fun a ha=>by rw[hL];exact qap p _ l d a ha) l 0 0 (by omega) rfl (by omega)
 have hg:grd q3M l L=[]:=q5o l L hf hsub
 rw[List.drop_zero,hg] at q2
 have hK:K=L.length:=by
  have:=congrArg List.length q2
  rw[qwH,qwE] at this
  omega
 unfold Qo
 rw[q7Z,qvV,e,qvV]
 dsimp only
 rw[hr,qvV]
 dsimp only
 rw[hr2,qvV]
 dsimp only
 rw[if_neg (by decide),if_neg (by decide),q5a L (by omega) hfL,qvV,if_neg (by decide)]
 change Option.bind (qG _ (((0:Nat):Int),((0:Nat):Int))) _=_
 rw[q1,qvV,Sum.elim_inr,if_pos rfl,hK]
 simp
theorem q6J (c:Ql) (w:q0B c):Qo c=some true:=by
 obtain⟨h1,h2,h3⟩:=qm2 w
 exact q4x c h1 h2 h3
end
end Go.Proofs.Ytofbcijbpfjliaa.Vc
namespace Go.Proofs.Ytofbcijbpfjliaa
open Go.Proofs.Ytofbcijbpfjliaa.Vc (qw3 qw4 qw7 qwa qwg)
open Go.ChangeShapes Go.WideShapes Go.ChangeAt Go.RowKit Go.ChangeMaps
theorem own:ownKnob Try.prog.godebug=none:=by kernel_rfl
theorem qjO:laidOutB Try.prog=true:=by kernel_rfl
section
variable {H:Type} {enc:TypeId×Value→H} {P:Program} {W W':World}
theorem q6x (hl:laidOutB P=true) (hb:Below W.heap.size W W'):∀{ts:List TypeId} {vs:List Value} {ds:List (DataW H)} {ps:List MemPlace},(∀t∈ts,P.readableRec t=true∧t<P.types.size)→
  DataW.TrodAll enc P W 0 (fun _=>true) true ts vs ds ps→(∀p∈ps,p.block<W.heap.size)→DataW.TrodAll enc P W' 0 (fun b=>decide (b<W.heap.size)) true ts vs ds ps
 | [],_,_,_,_,h,_=>by
  obtain⟨rfl,rfl,rfl⟩:=trodAll_nil h
  exact trodAll_mk0
 | t::ts,_,_,_,ht,h,hlt=>by
  obtain⟨v,vs,d,ds,p,q,rfl,rfl,rfl,h1,h2⟩:=trodAll_cons h
  exact trodAll_cons_mk (Below.trod hl (ht t qwa).1 (ht t qwa).2 h1 hb (fun x hx=>hlt x (qw7 _ hx)))
   (q6x hl hb (fun u hu=>ht u (qw3 _ hu)) h2 (fun x hx=>hlt x (qw4 _ hx)))
theorem qeC {f:Func} {s:ChangeSpec} {apart fresh handsOn:Bool} {args:Array Value} {ds gs:List (DataW H)} {before:List MemPlace} {tb:TypeId} (hl:laidOutB P=true)
  (hts:∀t∈f.params.toList,P.readableRec t=true∧t<P.types.size) (hr:f.resultTypes=#[tb]) (htb:P.underlying tb=some .bool) (hv:s.vars=[])
  (h1:(s.fn H (ds++gs)).results=[.lit (.bool true)]) (h2:(s.fn H (ds++gs)).args=ds) (h3:(s.fn H (ds++gs)).vars=[])
  (hW:DataW.Whole enc P f.params.toList s.vars apart W args.toList ds gs before) (hb:Below W.heap.size W W') :
  s.post enc P f apart fresh handsOn false W args (.bool true) W':=by
 have hlt:∀p∈before,p.block<W.heap.size:=fun p hp=>hW.lt p hp
 have hW2:=hW
 obtain⟨pa,pv,hA,hV,hp,-,-⟩:=hW2
 rw[hv] at hV
 obtain⟨rfl,rfl⟩:=trodVars_none hV
 rw[qwg] at hp
 subst hp
 refine⟨ds,[],before,[],before,[],hW,?_,?_,?_,?_,fun h=>by cases h⟩
 ·rw[h1,hr]
  exact trodAll_mk1 (shut_bool htb true)
 ·rw[h2]
  exact q6x hl hb hts hA hlt
 ·rw[h3,hv]
  exact hV
 ·exact World.keptBut_mono (fun p hp=>⟨hp,.inr (.inl hp)⟩) (hb.frame (·∈before))
end
end Go.Proofs.Ytofbcijbpfjliaa
namespace Go.Proofs.Ytofbcijbpfjliaa.Vc
end Go.Proofs.Ytofbcijbpfjliaa.Vc
