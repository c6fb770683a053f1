/- Part 5 of a proof. -/
import Derived.Test.YtofbcijbpfjliaaF4
set_option linter.unusedVariables false
set_option linter.unusedSimpArgs false
set_option linter.defProp false
set_option linter.unusedSectionVars false
set_option linter.unnecessarySimpa false
namespace Go.Proofs.Ytofbcijbpfjliaa.Vc
noncomputable section
open Go.RowKit
set_option maxRecDepth 20000
set_option maxHeartbeats 8000000
def qk (b0_0:qa) (b0_1:qa) (b0_2:qa) (s:qe):(List qa×Int)→Option ((List qa×Int)⊕(List qa))|(left,k)=>if 0≤k then Option.bind (zT left s k) fun(a:Bool)=>if a=Bool.true then Option.bind (qm k (w64 (k+1)) left) fun(a2:List qa)=>some (Sum.inl (a2,w64 (((a2.length:Nat):Int)-1))) else some (Sum.inl (left,w64 (k-1))) else some (Sum.inr left)
theorem qX:∀(left:List qa) (b0_0_Course_School:Int) (b0_0_Course_Code:ByteArray) (b0_0_Credits b0_0_Grade b0_0_Day:Int) (b0_0_Sources:List Int) (b0_0_Bundle:Int) (b0_0_Path:List Int) (b0_1_Course_School:Int) (b0_1_Course_Code:ByteArray) (b0_1_Credits b0_1_Grade b0_1_Day:Int) (b0_1_Sources:List Int) (b0_1_Bundle:Int) (b0_1_Path:List Int) (b0_2_Course_School:Int) (b0_2_Course_Code:ByteArray) (b0_2_Credits b0_2_Grade b0_2_Day:Int) (b0_2_Sources:List Int) (b0_2_Bundle:Int) (b0_2_Path:List Int) (s_Worst s_Best s_Pass k:Int) (Qk:Nat),Qk=left.length→XL2 evo 11 1 9 ⟨[(6,rP 1),(10,rO 2 8 Qk),(13,rI k)],[(0,B.blk 52 [dI b0_0_Course_School,dS b0_0_Course_Code,dI b0_0_Credits,dI b0_0_Grade,dI b0_0_Day,dL 1 eI b0_0_Sources,dI b0_0_Bundle,dL 1 eI b0_0_Path,dI b0_1_Course_School,dS b0_1_Course_Code,dI b0_1_Credits,dI b0_1_Grade,dI b0_1_Day,dL 1 eI b0_1_Sources,dI b0_1_Bundle,dL 1 eI b0_1_Path,dI b0_2_Course_School,dS b0_2_Course_Code,dI b0_2_Credits,dI b0_2_Grade,dI b0_2_Day,dL 1 eI b0_2_Sources,dI b0_2_Bundle,dL 1 eI b0_2_Path]),(1,B.blk 30 [dI s_Worst,dI s_Best,dI s_Pass]),(2,bR 52 8 qc left)],3,53⟩=(qz (qk (qa.mk (qb.mk b0_0_Course_School b0_0_Course_Code) b0_0_Credits b0_0_Grade b0_0_Day b0_0_Sources b0_0_Bundle b0_0_Path) (qa.mk (qb.mk b0_1_Course_School b0_1_Course_Code) b0_1_Credits b0_1_Grade b0_1_Day b0_1_Sources b0_1_Bundle b0_1_Path) (qa.mk (qb.mk b0_2_Course_School b0_2_Course_Code) b0_2_Credits b0_2_Grade b0_2_Day b0_2_Sources b0_2_Bundle b0_2_Path) (qe.mk s_Worst s_Best s_Pass)) (left,k)).bind (fun(e:List qa)=>some (Exit.exit 2,⟨[(10,rO 1 8 e.length)],[(0,B.blk 52 [dI b0_0_Course_School,dS b0_0_Course_Code,dI b0_0_Credits,dI b0_0_Grade,dI b0_0_Day,dL 1 eI b0_0_Sources,dI b0_0_Bundle,dL 1 eI b0_0_Path,dI b0_1_Course_School,dS b0_1_Course_Code,dI b0_1_Credits,dI b0_1_Grade,dI b0_1_Day,dL 1 eI b0_1_Sources,dI b0_1_Bundle,dL 1 eI b0_1_Path,dI b0_2_Course_School,dS b0_2_Course_Code,dI b0_2_Credits,dI b0_2_Grade,dI b0_2_Day,dL 1 eI b0_2_Sources,dI b0_2_Bundle,dL 1 eI b0_2_Path]),(1,bR 52 8 qc e)],2,53⟩)):=
 by
 intro left b0_0_Course_School b0_0_Course_Code b0_0_Credits b0_0_Grade b0_0_Day b0_0_Sources b0_0_Bundle b0_0_Path b0_1_Course_School b0_1_Course_Code b0_1_Credits b0_1_Grade b0_1_Day b0_1_Sources b0_1_Bundle b0_1_Path b0_2_Course_School b0_2_Course_Code b0_2_Credits b0_2_Grade b0_2_Day b0_2_Sources b0_2_Bundle b0_2_Path s_Worst s_Best s_Pass k Qk h0
 subst h0
 revert k;revert left;exact qa0 qep qeD (fun e=>by exact⟨_,rfl,fun h=>by cases h⟩) fun left k=>by
  have:=qiY;have:=@q7a.eq_1;have:=@Zk;have:=@qF;have:=@qk.eq_1;exact gA
theorem Jx:∀  (b0_0_Course_School:Int) (b0_0_Course_Code:ByteArray) (b0_0_Credits b0_0_Grade b0_0_Day:Int) (b0_0_Sources:List Int) (b0_0_Bundle:Int) (b0_0_Path:List Int) (b0_1_Course_School:Int) (b0_1_Course_Code:ByteArray) (b0_1_Credits b0_1_Grade b0_1_Day:Int) (b0_1_Sources:List Int) (b0_1_Bundle:Int) (b0_1_Path:List Int) (b0_2_Course_School:Int) (b0_2_Course_Code:ByteArray) (b0_2_Credits b0_2_Grade b0_2_Day:Int) (b0_2_Sources:List Int) (b0_2_Bundle:Int) (b0_2_Path:List Int) (s_Worst s_Best s_Pass k:Int),XL2 evo 11 1 9 ⟨[(6,rP 1),(10,rO 2 8 0),(13,rI k)],[(0,B.blk 52 [dI b0_0_Course_School,dS b0_0_Course_Code,dI b0_0_Credits,dI b0_0_Grade,dI b0_0_Day,dL 1 eI b0_0_Sources,dI b0_0_Bundle,dL 1 eI b0_0_Path,dI b0_1_Course_School,dS b0_1_Course_Code,dI b0_1_Credits,dI b0_1_Grade,dI b0_1_Day,dL 1 eI b0_1_Sources,dI b0_1_Bundle,dL 1 eI b0_1_Path,dI b0_2_Course_School,dS b0_2_Course_Code,dI b0_2_Credits,dI b0_2_Grade,dI b0_2_Day,dL 1 eI b0_2_Sources,dI b0_2_Bundle,dL 1 eI b0_2_Path]),(1,B.blk 30 [dI s_Worst,dI s_Best,dI s_Pass]),(2,B.row 52 8 [])],3,53⟩=(qz (qk (qa.mk (qb.mk b0_0_Course_School b0_0_Course_Code) b0_0_Credits b0_0_Grade b0_0_Day b0_0_Sources b0_0_Bundle b0_0_Path) (qa.mk (qb.mk b0_1_Course_School b0_1_Course_Code) b0_1_Credits b0_1_Grade b0_1_Day b0_1_Sources b0_1_Bundle b0_1_Path) (qa.mk (qb.mk b0_2_Course_School b0_2_Course_Code) b0_2_Credits b0_2_Grade b0_2_Day b0_2_Sources b0_2_Bundle b0_2_Path) (qe.mk s_Worst s_Best s_Pass)) ([],k)).bind (fun(e:List qa)=>some (Exit.exit 2,⟨[(10,rO 1 8 e.length)],[(0,B.blk 52 [dI b0_0_Course_School,dS b0_0_Course_Code,dI b0_0_Credits,dI b0_0_Grade,dI b0_0_Day,dL 1 eI b0_0_Sources,dI b0_0_Bundle,dL 1 eI b0_0_Path,dI b0_1_Course_School,dS b0_1_Course_Code,dI b0_1_Credits,dI b0_1_Grade,dI b0_1_Day,dL 1 eI b0_1_Sources,dI b0_1_Bundle,dL 1 eI b0_1_Path,dI b0_2_Course_School,dS b0_2_Course_Code,dI b0_2_Credits,dI b0_2_Grade,dI b0_2_Day,dL 1 eI b0_2_Sources,dI b0_2_Bundle,dL 1 eI b0_2_Path]),(1,bR 52 8 qc e)],2,53⟩)):=by
 intro b0_0_Course_School b0_0_Course_Code b0_0_Credits b0_0_Grade b0_0_Day b0_0_Sources b0_0_Bundle b0_0_Path b0_1_Course_School b0_1_Course_Code b0_1_Credits b0_1_Grade b0_1_Day b0_1_Sources b0_1_Bundle b0_1_Path b0_2_Course_School b0_2_Course_Code b0_2_Credits b0_2_Grade b0_2_Day b0_2_Sources b0_2_Bundle b0_2_Path s_Worst s_Best s_Pass k;have h:=qX [] ((qa.mk (qb.mk b0_0_Course_School b0_0_Course_Code) b0_0_Credits b0_0_Grade b0_0_Day b0_0_Sources b0_0_Bundle b0_0_Path)).Course.School ((qa.mk (qb.mk b0_0_Course_School b0_0_Course_Code) b0_0_Credits b0_0_Grade b0_0_Day b0_0_Sources b0_0_Bundle b0_0_Path)).Course.Code ((qa.mk (qb.mk b0_0_Course_School b0_0_Course_Code) b0_0_Credits b0_0_Grade b0_0_Day b0_0_Sources b0_0_Bundle b0_0_Path)).Credits ((qa.mk (qb.mk b0_0_Course_School b0_0_Course_Code) b0_0_Credits b0_0_Grade b0_0_Day b0_0_Sources b0_0_Bundle b0_0_Path)).Grade ((qa.mk (qb.mk b0_0_Course_School b0_0_Course_Code) b0_0_Credits b0_0_Grade b0_0_Day b0_0_Sources b0_0_Bundle b0_0_Path)).Day ((qa.mk (qb.mk b0_0_Course_School b0_0_Course_Code) b0_0_Credits b0_0_Grade b0_0_Day b0_0_Sources b0_0_Bundle b0_0_Path)).Sources ((qa.mk (qb.mk b0_0_Course_School b0_0_Course_Code) b0_0_Credits b0_0_Grade b0_0_Day b0_0_Sources b0_0_Bundle b0_0_Path)).Bundle ((qa.mk (qb.mk b0_0_Course_School b0_0_Course_Code) b0_0_Credits b0_0_Grade b0_0_Day b0_0_Sources b0_0_Bundle b0_0_Path)).Path ((qa.mk (qb.mk b0_1_Course_School b0_1_Course_Code) b0_1_Credits b0_1_Grade b0_1_Day b0_1_Sources b0_1_Bundle b0_1_Path)).Course.School ((qa.mk (qb.mk b0_1_Course_School b0_1_Course_Code) b0_1_Credits b0_1_Grade b0_1_Day b0_1_Sources b0_1_Bundle b0_1_Path)).Course.Code ((qa.mk (qb.mk b0_1_Course_School b0_1_Course_Code) b0_1_Credits b0_1_Grade b0_1_Day b0_1_Sources b0_1_Bundle b0_1_Path)).Credits ((qa.mk (qb.mk b0_1_Course_School b0_1_Course_Code) b0_1_Credits b0_1_Grade b0_1_Day b0_1_Sources b0_1_Bundle b0_1_Path)).Grade ((qa.mk (qb.mk b0_1_Course_School b0_1_Course_Code) b0_1_Credits b0_1_Grade b0_1_Day b0_1_Sources b0_1_Bundle b0_1_Path)).Day ((qa.mk (qb.mk b0_1_Course_School b0_1_Course_Code) b0_1_Credits b0_1_Grade b0_1_Day b0_1_Sources b0_1_Bundle b0_1_Path)).Sources ((qa.mk (qb.mk b0_1_Course_School b0_1_Course_Code) b0_1_Credits b0_1_Grade b0_1_Day b0_1_Sources b0_1_Bundle b0_1_Path)).Bundle ((qa.mk (qb.mk b0_1_Course_School b0_1_Course_Code) b0_1_Credits b0_1_Grade b0_1_Day b0_1_Sources b0_1_Bundle b0_1_Path)).Path ((qa.mk (qb.mk b0_2_Course_School b0_2_Course_Code) b0_2_Credits b0_2_Grade b0_2_Day b0_2_Sources b0_2_Bundle b0_2_Path)).Course.School ((qa.mk (qb.mk b0_2_Course_School b0_2_Course_Code) b0_2_Credits b0_2_Grade b0_2_Day b0_2_Sources b0_2_Bundle b0_2_Path)).Course.Code ((qa.mk (qb.mk b0_2_Course_School b0_2_Course_Code) b0_2_Credits b0_2_Grade b0_2_Day b0_2_Sources b0_2_Bundle b0_2_Path)).Credits ((qa.mk (qb.mk b0_2_Course_School b0_2_Course_Code) b0_2_Credits b0_2_Grade b0_2_Day b0_2_Sources b0_2_Bundle b0_2_Path)).Grade ((qa.mk (qb.mk b0_2_Course_School b0_2_Course_Code) b0_2_Credits b0_2_Grade b0_2_Day b0_2_Sources b0_2_Bundle b0_2_Path)).Day ((qa.mk (qb.mk b0_2_Course_School b0_2_Course_Code) b0_2_Credits b0_2_Grade b0_2_Day b0_2_Sources b0_2_Bundle b0_2_Path)).Sources ((qa.mk (qb.mk b0_2_Course_School b0_2_Course_Code) b0_2_Credits b0_2_Grade b0_2_Day b0_2_Sources b0_2_Bundle b0_2_Path)).Bundle ((qa.mk (qb.mk b0_2_Course_School b0_2_Course_Code) b0_2_Credits b0_2_Grade b0_2_Day b0_2_Sources b0_2_Bundle b0_2_Path)).Path ((qe.mk s_Worst s_Best s_Pass)).Worst ((qe.mk s_Worst s_Best s_Pass)).Best ((qe.mk s_Worst s_Best s_Pass)).Pass k _ rfl
 first
  | exact h
  | (simp only[rL,dL,bR,bZ,Nat.reduceAdd] at h;exact h)
theorem JA:∀(left0_Course_School:Int) (left0_Course_Code:ByteArray) (left0_Credits left0_Grade left0_Day:Int) (left0_Sources:List Int) (left0_Bundle:Int) (left0_Path:List Int) (left1_Course_School:Int) (left1_Course_Code:ByteArray) (left1_Credits left1_Grade left1_Day:Int) (left1_Sources:List Int) (left1_Bundle:Int) (left1_Path:List Int) (left2_Course_School:Int) (left2_Course_Code:ByteArray) (left2_Credits left2_Grade left2_Day:Int) (left2_Sources:List Int) (left2_Bundle:Int) (left2_Path:List Int) (b0_0_Course_School:Int) (b0_0_Course_Code:ByteArray) (b0_0_Credits b0_0_Grade b0_0_Day:Int) (b0_0_Sources:List Int) (b0_0_Bundle:Int) (b0_0_Path:List Int) (b0_1_Course_School:Int) (b0_1_Course_Code:ByteArray) (b0_1_Credits b0_1_Grade b0_1_Day:Int) (b0_1_Sources:List Int) (b0_1_Bundle:Int) (b0_1_Path:List Int) (b0_2_Course_School:Int) (b0_2_Course_Code:ByteArray) (b0_2_Credits b0_2_Grade b0_2_Day:Int) (b0_2_Sources:List Int) (b0_2_Bundle:Int) (b0_2_Path:List Int) (s_Worst s_Best s_Pass k:Int),XL2 evo 11 1 9 ⟨[(6,rP 1),(10,rO 2 8 3),(13,rI k)],[(0,B.blk 52 [dI b0_0_Course_School,dS b0_0_Course_Code,dI b0_0_Credits,dI b0_0_Grade,dI b0_0_Day,dL 1 eI b0_0_Sources,dI b0_0_Bundle,dL 1 eI b0_0_Path,dI b0_1_Course_School,dS b0_1_Course_Code,dI b0_1_Credits,dI b0_1_Grade,dI b0_1_Day,dL 1 eI b0_1_Sources,dI b0_1_Bundle,dL 1 eI b0_1_Path,dI b0_2_Course_School,dS b0_2_Course_Code,dI b0_2_Credits,dI b0_2_Grade,dI b0_2_Day,dL 1 eI b0_2_Sources,dI b0_2_Bundle,dL 1 eI b0_2_Path]),(1,B.blk 30 [dI s_Worst,dI s_Best,dI s_Pass]),(2,B.row 52 8 [dI left0_Course_School,dS left0_Course_Code,dI left0_Credits,dI left0_Grade,dI left0_Day,dL 1 eI left0_Sources,dI left0_Bundle,dL 1 eI left0_Path,dI left1_Course_School,dS left1_Course_Code,dI left1_Credits,dI left1_Grade,dI left1_Day,dL 1 eI left1_Sources,dI left1_Bundle,dL 1 eI left1_Path,dI left2_Course_School,dS left2_Course_Code,dI left2_Credits,dI left2_Grade,dI left2_Day,dL 1 eI left2_Sources,dI left2_Bundle,dL 1 eI left2_Path])],3,53⟩=(qz (qk (qa.mk (qb.mk b0_0_Course_School b0_0_Course_Code) b0_0_Credits b0_0_Grade b0_0_Day b0_0_Sources b0_0_Bundle b0_0_Path) (qa.mk (qb.mk b0_1_Course_School b0_1_Course_Code) b0_1_Credits b0_1_Grade b0_1_Day b0_1_Sources b0_1_Bundle b0_1_Path) (qa.mk (qb.mk b0_2_Course_School b0_2_Course_Code) b0_2_Credits b0_2_Grade b0_2_Day b0_2_Sources b0_2_Bundle b0_2_Path) (qe.mk s_Worst s_Best s_Pass)) ([(qa.mk (qb.mk left0_Course_School left0_Course_Code) left0_Credits left0_Grade left0_Day left0_Sources left0_Bundle left0_Path),(qa.mk (qb.mk left1_Course_School left1_Course_Code) left1_Credits left1_Grade left1_Day left1_Sources left1_Bundle left1_Path),(qa.mk (qb.mk left2_Course_School left2_Course_Code) left2_Credits left2_Grade left2_Day left2_Sources left2_Bundle left2_Path)],k)).bind (fun(e:List qa)=>some (Exit.exit 2,⟨[(10,rO 1 8 e.length)],[(0,B.blk 52 [dI b0_0_Course_School,dS b0_0_Course_Code,dI b0_0_Credits,dI b0_0_Grade,dI b0_0_Day,dL 1 eI b0_0_Sources,dI b0_0_Bundle,dL 1 eI b0_0_Path,dI b0_1_Course_School,dS b0_1_Course_Code,dI b0_1_Credits,dI b0_1_Grade,dI b0_1_Day,dL 1 eI b0_1_Sources,dI b0_1_Bundle,dL 1 eI b0_1_Path,dI b0_2_Course_School,dS b0_2_Course_Code,dI b0_2_Credits,dI b0_2_Grade,dI b0_2_Day,dL 1 eI b0_2_Sources,dI b0_2_Bundle,dL 1 eI b0_2_Path]),(1,bR 52 8 qc e)],2,53⟩)):=by
 intro left0_Course_School left0_Course_Code left0_Credits left0_Grade left0_Day left0_Sources left0_Bundle left0_Path left1_Course_School left1_Course_Code left1_Credits left1_Grade left1_Day left1_Sources left1_Bundle left1_Path left2_Course_School left2_Course_Code left2_Credits left2_Grade left2_Day left2_Sources left2_Bundle left2_Path b0_0_Course_School b0_0_Course_Code b0_0_Credits b0_0_Grade b0_0_Day b0_0_Sources b0_0_Bundle b0_0_Path b0_1_Course_School b0_1_Course_Code b0_1_Credits b0_1_Grade b0_1_Day b0_1_Sources b0_1_Bundle b0_1_Path b0_2_Course_School b0_2_Course_Code b0_2_Credits b0_2_Grade b0_2_Day b0_2_Sources b0_2_Bundle b0_2_Path s_Worst s_Best s_Pass k;have h:=qX [(qa.mk (qb.mk left0_Course_School left0_Course_Code) left0_Credits left0_Grade left0_Day left0_Sources left0_Bundle left0_Path),(qa.mk (qb.mk left1_Course_School left1_Course_Code) left1_Credits left1_Grade left1_Day left1_Sources left1_Bundle left1_Path),(qa.mk (qb.mk left2_Course_School left2_Course_Code) left2_Credits left2_Grade left2_Day left2_Sources left2_Bundle left2_Path)] ((qa.mk (qb.mk b0_0_Course_School b0_0_Course_Code) b0_0_Credits b0_0_Grade b0_0_Day b0_0_Sources b0_0_Bundle b0_0_Path)).Course.School ((qa.mk (qb.mk b0_0_Course_School b0_0_Course_Code) b0_0_Credits b0_0_Grade b0_0_Day b0_0_Sources b0_0_Bundle b0_0_Path)).Course.Code ((qa.mk (qb.mk b0_0_Course_School b0_0_Course_Code) b0_0_Credits b0_0_Grade b0_0_Day b0_0_Sources b0_0_Bundle b0_0_Path)).Credits ((qa.mk (qb.mk b0_0_Course_School b0_0_Course_Code) b0_0_Credits b0_0_Grade b0_0_Day b0_0_Sources b0_0_Bundle b0_0_Path)).Grade ((qa.mk (qb.mk b0_0_Course_School b0_0_Course_Code) b0_0_Credits b0_0_Grade b0_0_Day b0_0_Sources b0_0_Bundle b0_0_Path)).Day ((qa.mk (qb.mk b0_0_Course_School b0_0_Course_Code) b0_0_Credits b0_0_Grade b0_0_Day b0_0_Sources b0_0_Bundle b0_0_Path)).Sources ((qa.mk (qb.mk b0_0_Course_School b0_0_Course_Code) b0_0_Credits b0_0_Grade b0_0_Day b0_0_Sources b0_0_Bundle b0_0_Path)).Bundle ((qa.mk (qb.mk b0_0_Course_School b0_0_Course_Code) b0_0_Credits b0_0_Grade b0_0_Day b0_0_Sources b0_0_Bundle b0_0_Path)).Path ((qa.mk (qb.mk b0_1_Course_School b0_1_Course_Code) b0_1_Credits b0_1_Grade b0_1_Day b0_1_Sources b0_1_Bundle b0_1_Path)).Course.School ((qa.mk (qb.mk b0_1_Course_School b0_1_Course_Code) b0_1_Credits b0_1_Grade b0_1_Day b0_1_Sources b0_1_Bundle b0_1_Path)).Course.Code ((qa.mk (qb.mk b0_1_Course_School b0_1_Course_Code) b0_1_Credits b0_1_Grade b0_1_Day b0_1_Sources b0_1_Bundle b0_1_Path)).Credits ((qa.mk (qb.mk b0_1_Course_School b0_1_Course_Code) b0_1_Credits b0_1_Grade b0_1_Day b0_1_Sources b0_1_Bundle b0_1_Path)).Grade ((qa.mk (qb.mk b0_1_Course_School b0_1_Course_Code) b0_1_Credits b0_1_Grade b0_1_Day b0_1_Sources b0_1_Bundle b0_1_Path)).Day ((qa.mk (qb.mk b0_1_Course_School b0_1_Course_Code) b0_1_Credits b0_1_Grade b0_1_Day b0_1_Sources b0_1_Bundle b0_1_Path)).Sources ((qa.mk (qb.mk b0_1_Course_School b0_1_Course_Code) b0_1_Credits b0_1_Grade b0_1_Day b0_1_Sources b0_1_Bundle b0_1_Path)).Bundle ((qa.mk (qb.mk b0_1_Course_School b0_1_Course_Code) b0_1_Credits b0_1_Grade b0_1_Day b0_1_Sources b0_1_Bundle b0_1_Path)).Path ((qa.mk (qb.mk b0_2_Course_School b0_2_Course_Code) b0_2_Credits b0_2_Grade b0_2_Day b0_2_Sources b0_2_Bundle b0_2_Path)).Course.School ((qa.mk (qb.mk b0_2_Course_School b0_2_Course_Code) b0_2_Credits b0_2_Grade b0_2_Day b0_2_Sources b0_2_Bundle b0_2_Path)).Course.Code ((qa.mk (qb.mk b0_2_Course_School b0_2_Course_Code) b0_2_Credits b0_2_Grade b0_2_Day b0_2_Sources b0_2_Bundle b0_2_Path)).Credits ((qa.mk (qb.mk b0_2_Course_School b0_2_Course_Code) b0_2_Credits b0_2_Grade b0_2_Day b0_2_Sources b0_2_Bundle b0_2_Path)).Grade ((qa.mk (qb.mk b0_2_Course_School b0_2_Course_Code) b0_2_Credits b0_2_Grade b0_2_Day b0_2_Sources b0_2_Bundle b0_2_Path)).Day ((qa.mk (qb.mk b0_2_Course_School b0_2_Course_Code) b0_2_Credits b0_2_Grade b0_2_Day b0_2_Sources b0_2_Bundle b0_2_Path)).Sources ((qa.mk (qb.mk b0_2_Course_School b0_2_Course_Code) b0_2_Credits b0_2_Grade b0_2_Day b0_2_Sources b0_2_Bundle b0_2_Path)).Bundle ((qa.mk (qb.mk b0_2_Course_School b0_2_Course_Code) b0_2_Credits b0_2_Grade b0_2_Day b0_2_Sources b0_2_Bundle b0_2_Path)).Path ((qe.mk s_Worst s_Best s_Pass)).Worst ((qe.mk s_Worst s_Best s_Pass)).Best ((qe.mk s_Worst s_Best s_Pass)).Pass k _ rfl
 first
  | exact h
  | (simp only[rL,dL,bR,bZ,Nat.reduceAdd] at h;exact h)
theorem Jw:∀(left0_Course_School:Int) (left0_Course_Code:ByteArray) (left0_Credits left0_Grade left0_Day:Int) (left0_Sources:List Int) (left0_Bundle:Int) (left0_Path:List Int) (left1_Course_School:Int) (left1_Course_Code:ByteArray) (left1_Credits left1_Grade left1_Day:Int) (left1_Sources:List Int) (left1_Bundle:Int) (left1_Path:List Int) (b0_0_Course_School:Int) (b0_0_Course_Code:ByteArray) (b0_0_Credits b0_0_Grade b0_0_Day:Int) (b0_0_Sources:List Int) (b0_0_Bundle:Int) (b0_0_Path:List Int) (b0_1_Course_School:Int) (b0_1_Course_Code:ByteArray) (b0_1_Credits b0_1_Grade b0_1_Day:Int) (b0_1_Sources:List Int) (b0_1_Bundle:Int) (b0_1_Path:List Int) (b0_2_Course_School:Int) (b0_2_Course_Code:ByteArray) (b0_2_Credits b0_2_Grade b0_2_Day:Int) (b0_2_Sources:List Int) (b0_2_Bundle:Int) (b0_2_Path:List Int) (s_Worst s_Best s_Pass k:Int),XL2 evo 11 1 9 ⟨[(6,rP 1),(10,rO 2 8 2),(13,rI k)],[(0,B.blk 52 [dI b0_0_Course_School,dS b0_0_Course_Code,dI b0_0_Credits,dI b0_0_Grade,dI b0_0_Day,dL 1 eI b0_0_Sources,dI b0_0_Bundle,dL 1 eI b0_0_Path,dI b0_1_Course_School,dS b0_1_Course_Code,dI b0_1_Credits,dI b0_1_Grade,dI b0_1_Day,dL 1 eI b0_1_Sources,dI b0_1_Bundle,dL 1 eI b0_1_Path,dI b0_2_Course_School,dS b0_2_Course_Code,dI b0_2_Credits,dI b0_2_Grade,dI b0_2_Day,dL 1 eI b0_2_Sources,dI b0_2_Bundle,dL 1 eI b0_2_Path]),(1,B.blk 30 [dI s_Worst,dI s_Best,dI s_Pass]),(2,B.row 52 8 [dI left0_Course_School,dS left0_Course_Code,dI left0_Credits,dI left0_Grade,dI left0_Day,dL 1 eI left0_Sources,dI left0_Bundle,dL 1 eI left0_Path,dI left1_Course_School,dS left1_Course_Code,dI left1_Credits,dI left1_Grade,dI left1_Day,dL 1 eI left1_Sources,dI left1_Bundle,dL 1 eI left1_Path])],3,53⟩=(qz (qk (qa.mk (qb.mk b0_0_Course_School b0_0_Course_Code) b0_0_Credits b0_0_Grade b0_0_Day b0_0_Sources b0_0_Bundle b0_0_Path) (qa.mk (qb.mk b0_1_Course_School b0_1_Course_Code) b0_1_Credits b0_1_Grade b0_1_Day b0_1_Sources b0_1_Bundle b0_1_Path) (qa.mk (qb.mk b0_2_Course_School b0_2_Course_Code) b0_2_Credits b0_2_Grade b0_2_Day b0_2_Sources b0_2_Bundle b0_2_Path) (qe.mk s_Worst s_Best s_Pass)) ([(qa.mk (qb.mk left0_Course_School left0_Course_Code) left0_Credits left0_Grade left0_Day left0_Sources left0_Bundle left0_Path),(qa.mk (qb.mk left1_Course_School left1_Course_Code) left1_Credits left1_Grade left1_Day left1_Sources left1_Bundle left1_Path)],k)).bind (fun(e:List qa)=>some (Exit.exit 2,⟨[(10,rO 1 8 e.length)],[(0,B.blk 52 [dI b0_0_Course_School,dS b0_0_Course_Code,dI b0_0_Credits,dI b0_0_Grade,dI b0_0_Day,dL 1 eI b0_0_Sources,dI b0_0_Bundle,dL 1 eI b0_0_Path,dI b0_1_Course_School,dS b0_1_Course_Code,dI b0_1_Credits,dI b0_1_Grade,dI b0_1_Day,dL 1 eI b0_1_Sources,dI b0_1_Bundle,dL 1 eI b0_1_Path,dI b0_2_Course_School,dS b0_2_Course_Code,dI b0_2_Credits,dI b0_2_Grade,dI b0_2_Day,dL 1 eI b0_2_Sources,dI b0_2_Bundle,dL 1 eI b0_2_Path]),(1,bR 52 8 qc e)],2,53⟩)):=by
 intro left0_Course_School left0_Course_Code left0_Credits left0_Grade left0_Day left0_Sources left0_Bundle left0_Path left1_Course_School left1_Course_Code left1_Credits left1_Grade left1_Day left1_Sources left1_Bundle left1_Path b0_0_Course_School b0_0_Course_Code b0_0_Credits b0_0_Grade b0_0_Day b0_0_Sources b0_0_Bundle b0_0_Path b0_1_Course_School b0_1_Course_Code b0_1_Credits b0_1_Grade b0_1_Day b0_1_Sources b0_1_Bundle b0_1_Path b0_2_Course_School b0_2_Course_Code b0_2_Credits b0_2_Grade b0_2_Day b0_2_Sources b0_2_Bundle b0_2_Path s_Worst s_Best s_Pass k;have h:=qX [(qa.mk (qb.mk left0_Course_School left0_Course_Code) left0_Credits left0_Grade left0_Day left0_Sources left0_Bundle left0_Path),(qa.mk (qb.mk left1_Course_School left1_Course_Code) left1_Credits left1_Grade left1_Day left1_Sources left1_Bundle left1_Path)] ((qa.mk (qb.mk b0_0_Course_School b0_0_Course_Code) b0_0_Credits b0_0_Grade b0_0_Day b0_0_Sources b0_0_Bundle b0_0_Path)).Course.School ((qa.mk (qb.mk b0_0_Course_School b0_0_Course_Code) b0_0_Credits b0_0_Grade b0_0_Day b0_0_Sources b0_0_Bundle b0_0_Path)).Course.Code ((qa.mk (qb.mk b0_0_Course_School b0_0_Course_Code) b0_0_Credits b0_0_Grade b0_0_Day b0_0_Sources b0_0_Bundle b0_0_Path)).Credits ((qa.mk (qb.mk b0_0_Course_School b0_0_Course_Code) b0_0_Credits b0_0_Grade b0_0_Day b0_0_Sources b0_0_Bundle b0_0_Path)).Grade ((qa.mk (qb.mk b0_0_Course_School b0_0_Course_Code) b0_0_Credits b0_0_Grade b0_0_Day b0_0_Sources b0_0_Bundle b0_0_Path)).Day ((qa.mk (qb.mk b0_0_Course_School b0_0_Course_Code) b0_0_Credits b0_0_Grade b0_0_Day b0_0_Sources b0_0_Bundle b0_0_Path)).Sources ((qa.mk (qb.mk b0_0_Course_School b0_0_Course_Code) b0_0_Credits b0_0_Grade b0_0_Day b0_0_Sources b0_0_Bundle b0_0_Path)).Bundle ((qa.mk (qb.mk b0_0_Course_School b0_0_Course_Code) b0_0_Credits b0_0_Grade b0_0_Day b0_0_Sources b0_0_Bundle b0_0_Path)).Path ((qa.mk (qb.mk b0_1_Course_School b0_1_Course_Code) b0_1_Credits b0_1_Grade b0_1_Day b0_1_Sources b0_1_Bundle b0_1_Path)).Course.School ((qa.mk (qb.mk b0_1_Course_School b0_1_Course_Code) b0_1_Credits b0_1_Grade b0_1_Day b0_1_Sources b0_1_Bundle b0_1_Path)).Course.Code ((qa.mk (qb.mk b0_1_Course_School b0_1_Course_Code) b0_1_Credits b0_1_Grade b0_1_Day b0_1_Sources b0_1_Bundle b0_1_Path)).Credits ((qa.mk (qb.mk b0_1_Course_School b0_1_Course_Code) b0_1_Credits b0_1_Grade b0_1_Day b0_1_Sources b0_1_Bundle b0_1_Path)).Grade ((qa.mk (qb.mk b0_1_Course_School b0_1_Course_Code) b0_1_Credits b0_1_Grade b0_1_Day b0_1_Sources b0_1_Bundle b0_1_Path)).Day ((qa.mk (qb.mk b0_1_Course_School b0_1_Course_Code) b0_1_Credits b0_1_Grade b0_1_Day b0_1_Sources b0_1_Bundle b0_1_Path)).Sources ((qa.mk (qb.mk b0_1_Course_School b0_1_Course_Code) b0_1_Credits b0_1_Grade b0_1_Day b0_1_Sources b0_1_Bundle b0_1_Path)).Bundle ((qa.mk (qb.mk b0_1_Course_School b0_1_Course_Code) b0_1_Credits b0_1_Grade b0_1_Day b0_1_Sources b0_1_Bundle b0_1_Path)).Path ((qa.mk (qb.mk b0_2_Course_School b0_2_Course_Code) b0_2_Credits b0_2_Grade b0_2_Day b0_2_Sources b0_2_Bundle b0_2_Path)).Course.School ((qa.mk (qb.mk b0_2_Course_School b0_2_Course_Code) b0_2_Credits b0_2_Grade b0_2_Day b0_2_Sources b0_2_Bundle b0_2_Path)).Course.Code ((qa.mk (qb.mk b0_2_Course_School b0_2_Course_Code) b0_2_Credits b0_2_Grade b0_2_Day b0_2_Sources b0_2_Bundle b0_2_Path)).Credits ((qa.mk (qb.mk b0_2_Course_School b0_2_Course_Code) b0_2_Credits b0_2_Grade b0_2_Day b0_2_Sources b0_2_Bundle b0_2_Path)).Grade ((qa.mk (qb.mk b0_2_Course_School b0_2_Course_Code) b0_2_Credits b0_2_Grade b0_2_Day b0_2_Sources b0_2_Bundle b0_2_Path)).Day ((qa.mk (qb.mk b0_2_Course_School b0_2_Course_Code) b0_2_Credits b0_2_Grade b0_2_Day b0_2_Sources b0_2_Bundle b0_2_Path)).Sources ((qa.mk (qb.mk b0_2_Course_School b0_2_Course_Code) b0_2_Credits b0_2_Grade b0_2_Day b0_2_Sources b0_2_Bundle b0_2_Path)).Bundle ((qa.mk (qb.mk b0_2_Course_School b0_2_Course_Code) b0_2_Credits b0_2_Grade b0_2_Day b0_2_Sources b0_2_Bundle b0_2_Path)).Path ((qe.mk s_Worst s_Best s_Pass)).Worst ((qe.mk s_Worst s_Best s_Pass)).Best ((qe.mk s_Worst s_Best s_Pass)).Pass k _ rfl
 first
  | exact h
  | (simp only[rL,dL,bR,bZ,Nat.reduceAdd] at h;exact h)
theorem JB:∀(left0_Course_School:Int) (left0_Course_Code:ByteArray) (left0_Credits left0_Grade left0_Day:Int) (left0_Sources:List Int) (left0_Bundle:Int) (left0_Path:List Int) (b0_0_Course_School:Int) (b0_0_Course_Code:ByteArray) (b0_0_Credits b0_0_Grade b0_0_Day:Int) (b0_0_Sources:List Int) (b0_0_Bundle:Int) (b0_0_Path:List Int) (b0_1_Course_School:Int) (b0_1_Course_Code:ByteArray) (b0_1_Credits b0_1_Grade b0_1_Day:Int) (b0_1_Sources:List Int) (b0_1_Bundle:Int) (b0_1_Path:List Int) (b0_2_Course_School:Int) (b0_2_Course_Code:ByteArray) (b0_2_Credits b0_2_Grade b0_2_Day:Int) (b0_2_Sources:List Int) (b0_2_Bundle:Int) (b0_2_Path:List Int) (s_Worst s_Best s_Pass k:Int),XL2 evo 11 1 9 ⟨[(6,rP 1),(10,rO 2 8 1),(13,rI k)],[(0,B.blk 52 [dI b0_0_Course_School,dS b0_0_Course_Code,dI b0_0_Credits,dI b0_0_Grade,dI b0_0_Day,dL 1 eI b0_0_Sources,dI b0_0_Bundle,dL 1 eI b0_0_Path,dI b0_1_Course_School,dS b0_1_Course_Code,dI b0_1_Credits,dI b0_1_Grade,dI b0_1_Day,dL 1 eI b0_1_Sources,dI b0_1_Bundle,dL 1 eI b0_1_Path,dI b0_2_Course_School,dS b0_2_Course_Code,dI b0_2_Credits,dI b0_2_Grade,dI b0_2_Day,dL 1 eI b0_2_Sources,dI b0_2_Bundle,dL 1 eI b0_2_Path]),(1,B.blk 30 [dI s_Worst,dI s_Best,dI s_Pass]),(2,B.row 52 8 [dI left0_Course_School,dS left0_Course_Code,dI left0_Credits,dI left0_Grade,dI left0_Day,dL 1 eI left0_Sources,dI left0_Bundle,dL 1 eI left0_Path])],3,53⟩=(qz (qk (qa.mk (qb.mk b0_0_Course_School b0_0_Course_Code) b0_0_Credits b0_0_Grade b0_0_Day b0_0_Sources b0_0_Bundle b0_0_Path) (qa.mk (qb.mk b0_1_Course_School b0_1_Course_Code) b0_1_Credits b0_1_Grade b0_1_Day b0_1_Sources b0_1_Bundle b0_1_Path) (qa.mk (qb.mk b0_2_Course_School b0_2_Course_Code) b0_2_Credits b0_2_Grade b0_2_Day b0_2_Sources b0_2_Bundle b0_2_Path) (qe.mk s_Worst s_Best s_Pass)) ([(qa.mk (qb.mk left0_Course_School left0_Course_Code) left0_Credits left0_Grade left0_Day left0_Sources left0_Bundle left0_Path)],k)).bind (fun(e:List qa)=>some (Exit.exit 2,⟨[(10,rO 1 8 e.length)],[(0,B.blk 52 [dI b0_0_Course_School,dS b0_0_Course_Code,dI b0_0_Credits,dI b0_0_Grade,dI b0_0_Day,dL 1 eI b0_0_Sources,dI b0_0_Bundle,dL 1 eI b0_0_Path,dI b0_1_Course_School,dS b0_1_Course_Code,dI b0_1_Credits,dI b0_1_Grade,dI b0_1_Day,dL 1 eI b0_1_Sources,dI b0_1_Bundle,dL 1 eI b0_1_Path,dI b0_2_Course_School,dS b0_2_Course_Code,dI b0_2_Credits,dI b0_2_Grade,dI b0_2_Day,dL 1 eI b0_2_Sources,dI b0_2_Bundle,dL 1 eI b0_2_Path]),(1,bR 52 8 qc e)],2,53⟩)):=by
 intro left0_Course_School left0_Course_Code left0_Credits left0_Grade left0_Day left0_Sources left0_Bundle left0_Path b0_0_Course_School b0_0_Course_Code b0_0_Credits b0_0_Grade b0_0_Day b0_0_Sources b0_0_Bundle b0_0_Path b0_1_Course_School b0_1_Course_Code b0_1_Credits b0_1_Grade b0_1_Day b0_1_Sources b0_1_Bundle b0_1_Path b0_2_Course_School b0_2_Course_Code b0_2_Credits b0_2_Grade b0_2_Day b0_2_Sources b0_2_Bundle b0_2_Path s_Worst s_Best s_Pass k;have h:=qX [(qa.mk (qb.mk left0_Course_School left0_Course_Code) left0_Credits left0_Grade left0_Day left0_Sources left0_Bundle left0_Path)] ((qa.mk (qb.mk b0_0_Course_School b0_0_Course_Code) b0_0_Credits b0_0_Grade b0_0_Day b0_0_Sources b0_0_Bundle b0_0_Path)).Course.School ((qa.mk (qb.mk b0_0_Course_School b0_0_Course_Code) b0_0_Credits b0_0_Grade b0_0_Day b0_0_Sources b0_0_Bundle b0_0_Path)).Course.Code ((qa.mk (qb.mk b0_0_Course_School b0_0_Course_Code) b0_0_Credits b0_0_Grade b0_0_Day b0_0_Sources b0_0_Bundle b0_0_Path)).Credits ((qa.mk (qb.mk b0_0_Course_School b0_0_Course_Code) b0_0_Credits b0_0_Grade b0_0_Day b0_0_Sources b0_0_Bundle b0_0_Path)).Grade ((qa.mk (qb.mk b0_0_Course_School b0_0_Course_Code) b0_0_Credits b0_0_Grade b0_0_Day b0_0_Sources b0_0_Bundle b0_0_Path)).Day ((qa.mk (qb.mk b0_0_Course_School b0_0_Course_Code) b0_0_Credits b0_0_Grade b0_0_Day b0_0_Sources b0_0_Bundle b0_0_Path)).Sources ((qa.mk (qb.mk b0_0_Course_School b0_0_Course_Code) b0_0_Credits b0_0_Grade b0_0_Day b0_0_Sources b0_0_Bundle b0_0_Path)).Bundle ((qa.mk (qb.mk b0_0_Course_School b0_0_Course_Code) b0_0_Credits b0_0_Grade b0_0_Day b0_0_Sources b0_0_Bundle b0_0_Path)).Path ((qa.mk (qb.mk b0_1_Course_School b0_1_Course_Code) b0_1_Credits b0_1_Grade b0_1_Day b0_1_Sources b0_1_Bundle b0_1_Path)).Course.School ((qa.mk (qb.mk b0_1_Course_School b0_1_Course_Code) b0_1_Credits b0_1_Grade b0_1_Day b0_1_Sources b0_1_Bundle b0_1_Path)).Course.Code ((qa.mk (qb.mk b0_1_Course_School b0_1_Course_Code) b0_1_Credits b0_1_Grade b0_1_Day b0_1_Sources b0_1_Bundle b0_1_Path)).Credits ((qa.mk (qb.mk b0_1_Course_School b0_1_Course_Code) b0_1_Credits b0_1_Grade b0_1_Day b0_1_Sources b0_1_Bundle b0_1_Path)).Grade ((qa.mk (qb.mk b0_1_Course_School b0_1_Course_Code) b0_1_Credits b0_1_Grade b0_1_Day b0_1_Sources b0_1_Bundle b0_1_Path)).Day ((qa.mk (qb.mk b0_1_Course_School b0_1_Course_Code) b0_1_Credits b0_1_Grade b0_1_Day b0_1_Sources b0_1_Bundle b0_1_Path)).Sources ((qa.mk (qb.mk b0_1_Course_School b0_1_Course_Code) b0_1_Credits b0_1_Grade b0_1_Day b0_1_Sources b0_1_Bundle b0_1_Path)).Bundle ((qa.mk (qb.mk b0_1_Course_School b0_1_Course_Code) b0_1_Credits b0_1_Grade b0_1_Day b0_1_Sources b0_1_Bundle b0_1_Path)).Path ((qa.mk (qb.mk b0_2_Course_School b0_2_Course_Code) b0_2_Credits b0_2_Grade b0_2_Day b0_2_Sources b0_2_Bundle b0_2_Path)).Course.School ((qa.mk (qb.mk b0_2_Course_School b0_2_Course_Code) b0_2_Credits b0_2_Grade b0_2_Day b0_2_Sources b0_2_Bundle b0_2_Path)).Course.Code ((qa.mk (qb.mk b0_2_Course_School b0_2_Course_Code) b0_2_Credits b0_2_Grade b0_2_Day b0_2_Sources b0_2_Bundle b0_2_Path)).Credits ((qa.mk (qb.mk b0_2_Course_School b0_2_Course_Code) b0_2_Credits b0_2_Grade b0_2_Day b0_2_Sources b0_2_Bundle b0_2_Path)).Grade ((qa.mk (qb.mk b0_2_Course_School b0_2_Course_Code) b0_2_Credits b0_2_Grade b0_2_Day b0_2_Sources b0_2_Bundle b0_2_Path)).Day ((qa.mk (qb.mk b0_2_Course_School b0_2_Course_Code) b0_2_Credits b0_2_Grade b0_2_Day b0_2_Sources b0_2_Bundle b0_2_Path)).Sources ((qa.mk (qb.mk b0_2_Course_School b0_2_Course_Code) b0_2_Credits b0_2_Grade b0_2_Day b0_2_Sources b0_2_Bundle b0_2_Path)).Bundle ((qa.mk (qb.mk b0_2_Course_School b0_2_Course_Code) b0_2_Credits b0_2_Grade b0_2_Day b0_2_Sources b0_2_Bundle b0_2_Path)).Path ((qe.mk s_Worst s_Best s_Pass)).Worst ((qe.mk s_Worst s_Best s_Pass)).Best ((qe.mk s_Worst s_Best s_Pass)).Pass k _ rfl
 first
  | exact h
  | (simp only[rL,dL,bR,bZ,Nat.reduceAdd] at h;exact h)
theorem JE:∀(left0_Course_School:Int) (left0_Course_Code:ByteArray) (left0_Credits left0_Grade left0_Day:Int) (left0_Sources:List Int) (left0_Bundle:Int) (left0_Path:List Int) (left1_Course_School:Int) (left1_Course_Code:ByteArray) (left1_Credits left1_Grade left1_Day:Int) (left1_Sources:List Int) (left1_Bundle:Int) (left1_Path:List Int) (left2_Course_School:Int) (left2_Course_Code:ByteArray) (left2_Credits left2_Grade left2_Day:Int) (left2_Sources:List Int) (left2_Bundle:Int) (left2_Path:List Int) (b0_0_Course_School:Int) (b0_0_Course_Code:ByteArray) (b0_0_Credits b0_0_Grade b0_0_Day:Int) (b0_0_Sources:List Int) (b0_0_Bundle:Int) (b0_0_Path:List Int) (b0_1_Course_School:Int) (b0_1_Course_Code:ByteArray) (b0_1_Credits b0_1_Grade b0_1_Day:Int) (b0_1_Sources:List Int) (b0_1_Bundle:Int) (b0_1_Path:List Int) (b0_2_Course_School:Int) (b0_2_Course_Code:ByteArray) (b0_2_Credits b0_2_Grade b0_2_Day:Int) (b0_2_Sources:List Int) (b0_2_Bundle:Int) (b0_2_Path:List Int) (s_Worst s_Best s_Pass k:Int),XL2 evo 11 1 9 ⟨[(6,rP 1),(10,rO 2 8 3),(13,rI k)],[(0,B.blk 52 [dI b0_0_Course_School,dS b0_0_Course_Code,dI b0_0_Credits,dI b0_0_Grade,dI b0_0_Day,dL 1 eI b0_0_Sources,dI b0_0_Bundle,dL 1 eI b0_0_Path,dI b0_1_Course_School,dS b0_1_Course_Code,dI b0_1_Credits,dI b0_1_Grade,dI b0_1_Day,dL 1 eI b0_1_Sources,dI b0_1_Bundle,dL 1 eI b0_1_Path,dI b0_2_Course_School,dS b0_2_Course_Code,dI b0_2_Credits,dI b0_2_Grade,dI b0_2_Day,dL 1 eI b0_2_Sources,dI b0_2_Bundle,dL 1 eI b0_2_Path]),(1,B.blk 30 [dI s_Worst,dI s_Best,dI s_Pass]),(2,B.row 52 8 [dI left0_Course_School,dS left0_Course_Code,dI left0_Credits,dI left0_Grade,dI left0_Day,dL 1 eI left0_Sources,dI left0_Bundle,dL 1 eI left0_Path,dI left1_Course_School,dS left1_Course_Code,dI left1_Credits,dI left1_Grade,dI left1_Day,dL 1 eI left1_Sources,dI left1_Bundle,dL 1 eI left1_Path,dI left2_Course_School,dS left2_Course_Code,dI left2_Credits,dI left2_Grade,dI left2_Day,dL 1 eI left2_Sources,dI left2_Bundle,dL 1 eI left2_Path])],3,53⟩=(qz (qk (qa.mk (qb.mk b0_0_Course_School b0_0_Course_Code) b0_0_Credits b0_0_Grade b0_0_Day b0_0_Sources b0_0_Bundle b0_0_Path) (qa.mk (qb.mk b0_1_Course_School b0_1_Course_Code) b0_1_Credits b0_1_Grade b0_1_Day b0_1_Sources b0_1_Bundle b0_1_Path) (qa.mk (qb.mk b0_2_Course_School b0_2_Course_Code) b0_2_Credits b0_2_Grade b0_2_Day b0_2_Sources b0_2_Bundle b0_2_Path) (qe.mk s_Worst s_Best s_Pass)) ([(qa.mk (qb.mk left0_Course_School left0_Course_Code) left0_Credits left0_Grade left0_Day left0_Sources left0_Bundle left0_Path),(qa.mk (qb.mk left1_Course_School left1_Course_Code) left1_Credits left1_Grade left1_Day left1_Sources left1_Bundle left1_Path),(qa.mk (qb.mk left2_Course_School left2_Course_Code) left2_Credits left2_Grade left2_Day left2_Sources left2_Bundle left2_Path)],k)).bind (fun(e:List qa)=>some (Exit.exit 2,⟨[(10,rO 1 8 e.length)],[(0,B.blk 52 [dI b0_0_Course_School,dS b0_0_Course_Code,dI b0_0_Credits,dI b0_0_Grade,dI b0_0_Day,dL 1 eI b0_0_Sources,dI b0_0_Bundle,dL 1 eI b0_0_Path,dI b0_1_Course_School,dS b0_1_Course_Code,dI b0_1_Credits,dI b0_1_Grade,dI b0_1_Day,dL 1 eI b0_1_Sources,dI b0_1_Bundle,dL 1 eI b0_1_Path,dI b0_2_Course_School,dS b0_2_Course_Code,dI b0_2_Credits,dI b0_2_Grade,dI b0_2_Day,dL 1 eI b0_2_Sources,dI b0_2_Bundle,dL 1 eI b0_2_Path]),(1,bR 52 8 qc e)],2,53⟩)):=by
 intro left0_Course_School left0_Course_Code left0_Credits left0_Grade left0_Day left0_Sources left0_Bundle left0_Path left1_Course_School left1_Course_Code left1_Credits left1_Grade left1_Day left1_Sources left1_Bundle left1_Path left2_Course_School left2_Course_Code left2_Credits left2_Grade left2_Day left2_Sources left2_Bundle left2_Path b0_0_Course_School b0_0_Course_Code b0_0_Credits b0_0_Grade b0_0_Day b0_0_Sources b0_0_Bundle b0_0_Path b0_1_Course_School b0_1_Course_Code b0_1_Credits b0_1_Grade b0_1_Day b0_1_Sources b0_1_Bundle b0_1_Path b0_2_Course_School b0_2_Course_Code b0_2_Credits b0_2_Grade b0_2_Day b0_2_Sources b0_2_Bundle b0_2_Path s_Worst s_Best s_Pass k;have h:=qX [(qa.mk (qb.mk left0_Course_School left0_Course_Code) left0_Credits left0_Grade left0_Day left0_Sources left0_Bundle left0_Path),(qa.mk (qb.mk left1_Course_School left1_Course_Code) left1_Credits left1_Grade left1_Day left1_Sources left1_Bundle left1_Path),(qa.mk (qb.mk left2_Course_School left2_Course_Code) left2_Credits left2_Grade left2_Day left2_Sources left2_Bundle left2_Path)] ((qa.mk (qb.mk b0_0_Course_School b0_0_Course_Code) b0_0_Credits b0_0_Grade b0_0_Day b0_0_Sources b0_0_Bundle b0_0_Path)).Course.School ((qa.mk (qb.mk b0_0_Course_School b0_0_Course_Code) b0_0_Credits b0_0_Grade b0_0_Day b0_0_Sources b0_0_Bundle b0_0_Path)).Course.Code ((qa.mk (qb.mk b0_0_Course_School b0_0_Course_Code) b0_0_Credits b0_0_Grade b0_0_Day b0_0_Sources b0_0_Bundle b0_0_Path)).Credits ((qa.mk (qb.mk b0_0_Course_School b0_0_Course_Code) b0_0_Credits b0_0_Grade b0_0_Day b0_0_Sources b0_0_Bundle b0_0_Path)).Grade ((qa.mk (qb.mk b0_0_Course_School b0_0_Course_Code) b0_0_Credits b0_0_Grade b0_0_Day b0_0_Sources b0_0_Bundle b0_0_Path)).Day ((qa.mk (qb.mk b0_0_Course_School b0_0_Course_Code) b0_0_Credits b0_0_Grade b0_0_Day b0_0_Sources b0_0_Bundle b0_0_Path)).Sources ((qa.mk (qb.mk b0_0_Course_School b0_0_Course_Code) b0_0_Credits b0_0_Grade b0_0_Day b0_0_Sources b0_0_Bundle b0_0_Path)).Bundle ((qa.mk (qb.mk b0_0_Course_School b0_0_Course_Code) b0_0_Credits b0_0_Grade b0_0_Day b0_0_Sources b0_0_Bundle b0_0_Path)).Path ((qa.mk (qb.mk b0_1_Course_School b0_1_Course_Code) b0_1_Credits b0_1_Grade b0_1_Day b0_1_Sources b0_1_Bundle b0_1_Path)).Course.School ((qa.mk (qb.mk b0_1_Course_School b0_1_Course_Code) b0_1_Credits b0_1_Grade b0_1_Day b0_1_Sources b0_1_Bundle b0_1_Path)).Course.Code ((qa.mk (qb.mk b0_1_Course_School b0_1_Course_Code) b0_1_Credits b0_1_Grade b0_1_Day b0_1_Sources b0_1_Bundle b0_1_Path)).Credits ((qa.mk (qb.mk b0_1_Course_School b0_1_Course_Code) b0_1_Credits b0_1_Grade b0_1_Day b0_1_Sources b0_1_Bundle b0_1_Path)).Grade ((qa.mk (qb.mk b0_1_Course_School b0_1_Course_Code) b0_1_Credits b0_1_Grade b0_1_Day b0_1_Sources b0_1_Bundle b0_1_Path)).Day ((qa.mk (qb.mk b0_1_Course_School b0_1_Course_Code) b0_1_Credits b0_1_Grade b0_1_Day b0_1_Sources b0_1_Bundle b0_1_Path)).Sources ((qa.mk (qb.mk b0_1_Course_School b0_1_Course_Code) b0_1_Credits b0_1_Grade b0_1_Day b0_1_Sources b0_1_Bundle b0_1_Path)).Bundle ((qa.mk (qb.mk b0_1_Course_School b0_1_Course_Code) b0_1_Credits b0_1_Grade b0_1_Day b0_1_Sources b0_1_Bundle b0_1_Path)).Path ((qa.mk (qb.mk b0_2_Course_School b0_2_Course_Code) b0_2_Credits b0_2_Grade b0_2_Day b0_2_Sources b0_2_Bundle b0_2_Path)).Course.School ((qa.mk (qb.mk b0_2_Course_School b0_2_Course_Code) b0_2_Credits b0_2_Grade b0_2_Day b0_2_Sources b0_2_Bundle b0_2_Path)).Course.Code ((qa.mk (qb.mk b0_2_Course_School b0_2_Course_Code) b0_2_Credits b0_2_Grade b0_2_Day b0_2_Sources b0_2_Bundle b0_2_Path)).Credits ((qa.mk (qb.mk b0_2_Course_School b0_2_Course_Code) b0_2_Credits b0_2_Grade b0_2_Day b0_2_Sources b0_2_Bundle b0_2_Path)).Grade ((qa.mk (qb.mk b0_2_Course_School b0_2_Course_Code) b0_2_Credits b0_2_Grade b0_2_Day b0_2_Sources b0_2_Bundle b0_2_Path)).Day ((qa.mk (qb.mk b0_2_Course_School b0_2_Course_Code) b0_2_Credits b0_2_Grade b0_2_Day b0_2_Sources b0_2_Bundle b0_2_Path)).Sources ((qa.mk (qb.mk b0_2_Course_School b0_2_Course_Code) b0_2_Credits b0_2_Grade b0_2_Day b0_2_Sources b0_2_Bundle b0_2_Path)).Bundle ((qa.mk (qb.mk b0_2_Course_School b0_2_Course_Code) b0_2_Credits b0_2_Grade b0_2_Day b0_2_Sources b0_2_Bundle b0_2_Path)).Path ((qe.mk s_Worst s_Best s_Pass)).Worst ((qe.mk s_Worst s_Best s_Pass)).Best ((qe.mk s_Worst s_Best s_Pass)).Pass k _ rfl
 first
  | exact h
  | (simp only[rL,dL,bR,bZ,Nat.reduceAdd] at h;exact h)
theorem JG:∀(left0_Course_School:Int) (left0_Course_Code:ByteArray) (left0_Credits left0_Grade left0_Day:Int) (left0_Sources:List Int) (left0_Bundle:Int) (left0_Path:List Int) (left1_Course_School:Int) (left1_Course_Code:ByteArray) (left1_Credits left1_Grade left1_Day:Int) (left1_Sources:List Int) (left1_Bundle:Int) (left1_Path:List Int) (b0_0_Course_School:Int) (b0_0_Course_Code:ByteArray) (b0_0_Credits b0_0_Grade b0_0_Day:Int) (b0_0_Sources:List Int) (b0_0_Bundle:Int) (b0_0_Path:List Int) (b0_1_Course_School:Int) (b0_1_Course_Code:ByteArray) (b0_1_Credits b0_1_Grade b0_1_Day:Int) (b0_1_Sources:List Int) (b0_1_Bundle:Int) (b0_1_Path:List Int) (b0_2_Course_School:Int) (b0_2_Course_Code:ByteArray) (b0_2_Credits b0_2_Grade b0_2_Day:Int) (b0_2_Sources:List Int) (b0_2_Bundle:Int) (b0_2_Path:List Int) (s_Worst s_Best s_Pass k:Int),XL2 evo 11 1 9 ⟨[(6,rP 1),(10,rO 2 8 2),(13,rI k)],[(0,B.blk 52 [dI b0_0_Course_School,dS b0_0_Course_Code,dI b0_0_Credits,dI b0_0_Grade,dI b0_0_Day,dL 1 eI b0_0_Sources,dI b0_0_Bundle,dL 1 eI b0_0_Path,dI b0_1_Course_School,dS b0_1_Course_Code,dI b0_1_Credits,dI b0_1_Grade,dI b0_1_Day,dL 1 eI b0_1_Sources,dI b0_1_Bundle,dL 1 eI b0_1_Path,dI b0_2_Course_School,dS b0_2_Course_Code,dI b0_2_Credits,dI b0_2_Grade,dI b0_2_Day,dL 1 eI b0_2_Sources,dI b0_2_Bundle,dL 1 eI b0_2_Path]),(1,B.blk 30 [dI s_Worst,dI s_Best,dI s_Pass]),(2,B.row 52 8 [dI left0_Course_School,dS left0_Course_Code,dI left0_Credits,dI left0_Grade,dI left0_Day,dL 1 eI left0_Sources,dI left0_Bundle,dL 1 eI left0_Path,dI left1_Course_School,dS left1_Course_Code,dI left1_Credits,dI left1_Grade,dI left1_Day,dL 1 eI left1_Sources,dI left1_Bundle,dL 1 eI left1_Path])],3,53⟩=(qz (qk (qa.mk (qb.mk b0_0_Course_School b0_0_Course_Code) b0_0_Credits b0_0_Grade b0_0_Day b0_0_Sources b0_0_Bundle b0_0_Path) (qa.mk (qb.mk b0_1_Course_School b0_1_Course_Code) b0_1_Credits b0_1_Grade b0_1_Day b0_1_Sources b0_1_Bundle b0_1_Path) (qa.mk (qb.mk b0_2_Course_School b0_2_Course_Code) b0_2_Credits b0_2_Grade b0_2_Day b0_2_Sources b0_2_Bundle b0_2_Path) (qe.mk s_Worst s_Best s_Pass)) ([(qa.mk (qb.mk left0_Course_School left0_Course_Code) left0_Credits left0_Grade left0_Day left0_Sources left0_Bundle left0_Path),(qa.mk (qb.mk left1_Course_School left1_Course_Code) left1_Credits left1_Grade left1_Day left1_Sources left1_Bundle left1_Path)],k)).bind (fun(e:List qa)=>some (Exit.exit 2,⟨[(10,rO 1 8 e.length)],[(0,B.blk 52 [dI b0_0_Course_School,dS b0_0_Course_Code,dI b0_0_Credits,dI b0_0_Grade,dI b0_0_Day,dL 1 eI b0_0_Sources,dI b0_0_Bundle,dL 1 eI b0_0_Path,dI b0_1_Course_School,dS b0_1_Course_Code,dI b0_1_Credits,dI b0_1_Grade,dI b0_1_Day,dL 1 eI b0_1_Sources,dI b0_1_Bundle,dL 1 eI b0_1_Path,dI b0_2_Course_School,dS b0_2_Course_Code,dI b0_2_Credits,dI b0_2_Grade,dI b0_2_Day,dL 1 eI b0_2_Sources,dI b0_2_Bundle,dL 1 eI b0_2_Path]),(1,bR 52 8 qc e)],2,53⟩)):=by
 intro left0_Course_School left0_Course_Code left0_Credits left0_Grade left0_Day left0_Sources left0_Bundle left0_Path left1_Course_School left1_Course_Code left1_Credits left1_Grade left1_Day left1_Sources left1_Bundle left1_Path b0_0_Course_School b0_0_Course_Code b0_0_Credits b0_0_Grade b0_0_Day b0_0_Sources b0_0_Bundle b0_0_Path b0_1_Course_School b0_1_Course_Code b0_1_Credits b0_1_Grade b0_1_Day b0_1_Sources b0_1_Bundle b0_1_Path b0_2_Course_School b0_2_Course_Code b0_2_Credits b0_2_Grade b0_2_Day b0_2_Sources b0_2_Bundle b0_2_Path s_Worst s_Best s_Pass k;have h:=qX [(qa.mk (qb.mk left0_Course_School left0_Course_Code) left0_Credits left0_Grade left0_Day left0_Sources left0_Bundle left0_Path),(qa.mk (qb.mk left1_Course_School left1_Course_Code) left1_Credits left1_Grade left1_Day left1_Sources left1_Bundle left1_Path)] ((qa.mk (qb.mk b0_0_Course_School b0_0_Course_Code) b0_0_Credits b0_0_Grade b0_0_Day b0_0_Sources b0_0_Bundle b0_0_Path)).Course.School ((qa.mk (qb.mk b0_0_Course_School b0_0_Course_Code) b0_0_Credits b0_0_Grade b0_0_Day b0_0_Sources b0_0_Bundle b0_0_Path)).Course.Code ((qa.mk (qb.mk b0_0_Course_School b0_0_Course_Code) b0_0_Credits b0_0_Grade b0_0_Day b0_0_Sources b0_0_Bundle b0_0_Path)).Credits ((qa.mk (qb.mk b0_0_Course_School b0_0_Course_Code) b0_0_Credits b0_0_Grade b0_0_Day b0_0_Sources b0_0_Bundle b0_0_Path)).Grade ((qa.mk (qb.mk b0_0_Course_School b0_0_Course_Code) b0_0_Credits b0_0_Grade b0_0_Day b0_0_Sources b0_0_Bundle b0_0_Path)).Day ((qa.mk (qb.mk b0_0_Course_School b0_0_Course_Code) b0_0_Credits b0_0_Grade b0_0_Day b0_0_Sources b0_0_Bundle b0_0_Path)).Sources ((qa.mk (qb.mk b0_0_Course_School b0_0_Course_Code) b0_0_Credits b0_0_Grade b0_0_Day b0_0_Sources b0_0_Bundle b0_0_Path)).Bundle ((qa.mk (qb.mk b0_0_Course_School b0_0_Course_Code) b0_0_Credits b0_0_Grade b0_0_Day b0_0_Sources b0_0_Bundle b0_0_Path)).Path ((qa.mk (qb.mk b0_1_Course_School b0_1_Course_Code) b0_1_Credits b0_1_Grade b0_1_Day b0_1_Sources b0_1_Bundle b0_1_Path)).Course.School ((qa.mk (qb.mk b0_1_Course_School b0_1_Course_Code) b0_1_Credits b0_1_Grade b0_1_Day b0_1_Sources b0_1_Bundle b0_1_Path)).Course.Code ((qa.mk (qb.mk b0_1_Course_School b0_1_Course_Code) b0_1_Credits b0_1_Grade b0_1_Day b0_1_Sources b0_1_Bundle b0_1_Path)).Credits ((qa.mk (qb.mk b0_1_Course_School b0_1_Course_Code) b0_1_Credits b0_1_Grade b0_1_Day b0_1_Sources b0_1_Bundle b0_1_Path)).Grade ((qa.mk (qb.mk b0_1_Course_School b0_1_Course_Code) b0_1_Credits b0_1_Grade b0_1_Day b0_1_Sources b0_1_Bundle b0_1_Path)).Day ((qa.mk (qb.mk b0_1_Course_School b0_1_Course_Code) b0_1_Credits b0_1_Grade b0_1_Day b0_1_Sources b0_1_Bundle b0_1_Path)).Sources ((qa.mk (qb.mk b0_1_Course_School b0_1_Course_Code) b0_1_Credits b0_1_Grade b0_1_Day b0_1_Sources b0_1_Bundle b0_1_Path)).Bundle ((qa.mk (qb.mk b0_1_Course_School b0_1_Course_Code) b0_1_Credits b0_1_Grade b0_1_Day b0_1_Sources b0_1_Bundle b0_1_Path)).Path ((qa.mk (qb.mk b0_2_Course_School b0_2_Course_Code) b0_2_Credits b0_2_Grade b0_2_Day b0_2_Sources b0_2_Bundle b0_2_Path)).Course.School ((qa.mk (qb.mk b0_2_Course_School b0_2_Course_Code) b0_2_Credits b0_2_Grade b0_2_Day b0_2_Sources b0_2_Bundle b0_2_Path)).Course.Code ((qa.mk (qb.mk b0_2_Course_School b0_2_Course_Code) b0_2_Credits b0_2_Grade b0_2_Day b0_2_Sources b0_2_Bundle b0_2_Path)).Credits ((qa.mk (qb.mk b0_2_Course_School b0_2_Course_Code) b0_2_Credits b0_2_Grade b0_2_Day b0_2_Sources b0_2_Bundle b0_2_Path)).Grade ((qa.mk (qb.mk b0_2_Course_School b0_2_Course_Code) b0_2_Credits b0_2_Grade b0_2_Day b0_2_Sources b0_2_Bundle b0_2_Path)).Day ((qa.mk (qb.mk b0_2_Course_School b0_2_Course_Code) b0_2_Credits b0_2_Grade b0_2_Day b0_2_Sources b0_2_Bundle b0_2_Path)).Sources ((qa.mk (qb.mk b0_2_Course_School b0_2_Course_Code) b0_2_Credits b0_2_Grade b0_2_Day b0_2_Sources b0_2_Bundle b0_2_Path)).Bundle ((qa.mk (qb.mk b0_2_Course_School b0_2_Course_Code) b0_2_Credits b0_2_Grade b0_2_Day b0_2_Sources b0_2_Bundle b0_2_Path)).Path ((qe.mk s_Worst s_Best s_Pass)).Worst ((qe.mk s_Worst s_Best s_Pass)).Best ((qe.mk s_Worst s_Best s_Pass)).Pass k _ rfl
 first
  | exact h
  | (simp only[rL,dL,bR,bZ,Nat.reduceAdd] at h;exact h)
theorem JH:∀(left0_Course_School:Int) (left0_Course_Code:ByteArray) (left0_Credits left0_Grade left0_Day:Int) (left0_Sources:List Int) (left0_Bundle:Int) (left0_Path:List Int) (b0_0_Course_School:Int) (b0_0_Course_Code:ByteArray) (b0_0_Credits b0_0_Grade b0_0_Day:Int) (b0_0_Sources:List Int) (b0_0_Bundle:Int) (b0_0_Path:List Int) (b0_1_Course_School:Int) (b0_1_Course_Code:ByteArray) (b0_1_Credits b0_1_Grade b0_1_Day:Int) (b0_1_Sources:List Int) (b0_1_Bundle:Int) (b0_1_Path:List Int) (b0_2_Course_School:Int) (b0_2_Course_Code:ByteArray) (b0_2_Credits b0_2_Grade b0_2_Day:Int) (b0_2_Sources:List Int) (b0_2_Bundle:Int) (b0_2_Path:List Int) (s_Worst s_Best s_Pass k:Int),XL2 evo 11 1 9 ⟨[(6,rP 1),(10,rO 2 8 1),(13,rI k)],[(0,B.blk 52 [dI b0_0_Course_School,dS b0_0_Course_Code,dI b0_0_Credits,dI b0_0_Grade,dI b0_0_Day,dL 1 eI b0_0_Sources,dI b0_0_Bundle,dL 1 eI b0_0_Path,dI b0_1_Course_School,dS b0_1_Course_Code,dI b0_1_Credits,dI b0_1_Grade,dI b0_1_Day,dL 1 eI b0_1_Sources,dI b0_1_Bundle,dL 1 eI b0_1_Path,dI b0_2_Course_School,dS b0_2_Course_Code,dI b0_2_Credits,dI b0_2_Grade,dI b0_2_Day,dL 1 eI b0_2_Sources,dI b0_2_Bundle,dL 1 eI b0_2_Path]),(1,B.blk 30 [dI s_Worst,dI s_Best,dI s_Pass]),(2,B.row 52 8 [dI left0_Course_School,dS left0_Course_Code,dI left0_Credits,dI left0_Grade,dI left0_Day,dL 1 eI left0_Sources,dI left0_Bundle,dL 1 eI left0_Path])],3,53⟩=(qz (qk (qa.mk (qb.mk b0_0_Course_School b0_0_Course_Code) b0_0_Credits b0_0_Grade b0_0_Day b0_0_Sources b0_0_Bundle b0_0_Path) (qa.mk (qb.mk b0_1_Course_School b0_1_Course_Code) b0_1_Credits b0_1_Grade b0_1_Day b0_1_Sources b0_1_Bundle b0_1_Path) (qa.mk (qb.mk b0_2_Course_School b0_2_Course_Code) b0_2_Credits b0_2_Grade b0_2_Day b0_2_Sources b0_2_Bundle b0_2_Path) (qe.mk s_Worst s_Best s_Pass)) ([(qa.mk (qb.mk left0_Course_School left0_Course_Code) left0_Credits left0_Grade left0_Day left0_Sources left0_Bundle left0_Path)],k)).bind (fun(e:List qa)=>some (Exit.exit 2,⟨[(10,rO 1 8 e.length)],[(0,B.blk 52 [dI b0_0_Course_School,dS b0_0_Course_Code,dI b0_0_Credits,dI b0_0_Grade,dI b0_0_Day,dL 1 eI b0_0_Sources,dI b0_0_Bundle,dL 1 eI b0_0_Path,dI b0_1_Course_School,dS b0_1_Course_Code,dI b0_1_Credits,dI b0_1_Grade,dI b0_1_Day,dL 1 eI b0_1_Sources,dI b0_1_Bundle,dL 1 eI b0_1_Path,dI b0_2_Course_School,dS b0_2_Course_Code,dI b0_2_Credits,dI b0_2_Grade,dI b0_2_Day,dL 1 eI b0_2_Sources,dI b0_2_Bundle,dL 1 eI b0_2_Path]),(1,bR 52 8 qc e)],2,53⟩)):=by
 intro left0_Course_School left0_Course_Code left0_Credits left0_Grade left0_Day left0_Sources left0_Bundle left0_Path b0_0_Course_School b0_0_Course_Code b0_0_Credits b0_0_Grade b0_0_Day b0_0_Sources b0_0_Bundle b0_0_Path b0_1_Course_School b0_1_Course_Code b0_1_Credits b0_1_Grade b0_1_Day b0_1_Sources b0_1_Bundle b0_1_Path b0_2_Course_School b0_2_Course_Code b0_2_Credits b0_2_Grade b0_2_Day b0_2_Sources b0_2_Bundle b0_2_Path s_Worst s_Best s_Pass k;have h:=qX [(qa.mk (qb.mk left0_Course_School left0_Course_Code) left0_Credits left0_Grade left0_Day left0_Sources left0_Bundle left0_Path)] ((qa.mk (qb.mk b0_0_Course_School b0_0_Course_Code) b0_0_Credits b0_0_Grade b0_0_Day b0_0_Sources b0_0_Bundle b0_0_Path)).Course.School ((qa.mk (qb.mk b0_0_Course_School b0_0_Course_Code) b0_0_Credits b0_0_Grade b0_0_Day b0_0_Sources b0_0_Bundle b0_0_Path)).Course.Code ((qa.mk (qb.mk b0_0_Course_School b0_0_Course_Code) b0_0_Credits b0_0_Grade b0_0_Day b0_0_Sources b0_0_Bundle b0_0_Path)).Credits ((qa.mk (qb.mk b0_0_Course_School b0_0_Course_Code) b0_0_Credits b0_0_Grade b0_0_Day b0_0_Sources b0_0_Bundle b0_0_Path)).Grade ((qa.mk (qb.mk b0_0_Course_School b0_0_Course_Code) b0_0_Credits b0_0_Grade b0_0_Day b0_0_Sources b0_0_Bundle b0_0_Path)).Day ((qa.mk (qb.mk b0_0_Course_School b0_0_Course_Code) b0_0_Credits b0_0_Grade b0_0_Day b0_0_Sources b0_0_Bundle b0_0_Path)).Sources ((qa.mk (qb.mk b0_0_Course_School b0_0_Course_Code) b0_0_Credits b0_0_Grade b0_0_Day b0_0_Sources b0_0_Bundle b0_0_Path)).Bundle ((qa.mk (qb.mk b0_0_Course_School b0_0_Course_Code) b0_0_Credits b0_0_Grade b0_0_Day b0_0_Sources b0_0_Bundle b0_0_Path)).Path ((qa.mk (qb.mk b0_1_Course_School b0_1_Course_Code) b0_1_Credits b0_1_Grade b0_1_Day b0_1_Sources b0_1_Bundle b0_1_Path)).Course.School ((qa.mk (qb.mk b0_1_Course_School b0_1_Course_Code) b0_1_Credits b0_1_Grade b0_1_Day b0_1_Sources b0_1_Bundle b0_1_Path)).Course.Code ((qa.mk (qb.mk b0_1_Course_School b0_1_Course_Code) b0_1_Credits b0_1_Grade b0_1_Day b0_1_Sources b0_1_Bundle b0_1_Path)).Credits ((qa.mk (qb.mk b0_1_Course_School b0_1_Course_Code) b0_1_Credits b0_1_Grade b0_1_Day b0_1_Sources b0_1_Bundle b0_1_Path)).Grade ((qa.mk (qb.mk b0_1_Course_School b0_1_Course_Code) b0_1_Credits b0_1_Grade b0_1_Day b0_1_Sources b0_1_Bundle b0_1_Path)).Day ((qa.mk (qb.mk b0_1_Course_School b0_1_Course_Code) b0_1_Credits b0_1_Grade b0_1_Day b0_1_Sources b0_1_Bundle b0_1_Path)).Sources ((qa.mk (qb.mk b0_1_Course_School b0_1_Course_Code) b0_1_Credits b0_1_Grade b0_1_Day b0_1_Sources b0_1_Bundle b0_1_Path)).Bundle ((qa.mk (qb.mk b0_1_Course_School b0_1_Course_Code) b0_1_Credits b0_1_Grade b0_1_Day b0_1_Sources b0_1_Bundle b0_1_Path)).Path ((qa.mk (qb.mk b0_2_Course_School b0_2_Course_Code) b0_2_Credits b0_2_Grade b0_2_Day b0_2_Sources b0_2_Bundle b0_2_Path)).Course.School ((qa.mk (qb.mk b0_2_Course_School b0_2_Course_Code) b0_2_Credits b0_2_Grade b0_2_Day b0_2_Sources b0_2_Bundle b0_2_Path)).Course.Code ((qa.mk (qb.mk b0_2_Course_School b0_2_Course_Code) b0_2_Credits b0_2_Grade b0_2_Day b0_2_Sources b0_2_Bundle b0_2_Path)).Credits ((qa.mk (qb.mk b0_2_Course_School b0_2_Course_Code) b0_2_Credits b0_2_Grade b0_2_Day b0_2_Sources b0_2_Bundle b0_2_Path)).Grade ((qa.mk (qb.mk b0_2_Course_School b0_2_Course_Code) b0_2_Credits b0_2_Grade b0_2_Day b0_2_Sources b0_2_Bundle b0_2_Path)).Day ((qa.mk (qb.mk b0_2_Course_School b0_2_Course_Code) b0_2_Credits b0_2_Grade b0_2_Day b0_2_Sources b0_2_Bundle b0_2_Path)).Sources ((qa.mk (qb.mk b0_2_Course_School b0_2_Course_Code) b0_2_Credits b0_2_Grade b0_2_Day b0_2_Sources b0_2_Bundle b0_2_Path)).Bundle ((qa.mk (qb.mk b0_2_Course_School b0_2_Course_Code) b0_2_Credits b0_2_Grade b0_2_Day b0_2_Sources b0_2_Bundle b0_2_Path)).Path ((qe.mk s_Worst s_Best s_Pass)).Worst ((qe.mk s_Worst s_Best s_Pass)).Best ((qe.mk s_Worst s_Best s_Pass)).Pass k _ rfl
 first
  | exact h
  | (simp only[rL,dL,bR,bZ,Nat.reduceAdd] at h;exact h)
def Qh (l_n:Nat) (p:qd) (s:qe) (day:Int) (l_0:qa) (l_1:qa) (l_2:qa):Option (List qa×Int):=if 0<((l_n:Nat):Int) then if 0<((l_n:Nat):Int) then Option.bind (qv p l_0 day) fun(a:Bool)=>if(!a)=Bool.true then Option.bind (qt l_0) fun(a2:Unit)=>if 1≤maxLen then if 1<((l_n:Nat):Int) then if 1<((l_n:Nat):Int) then Option.bind (qv p l_1 day) fun(a3:Bool)=>if(!a3)=Bool.true then Option.bind (qt l_1) fun(a4:Unit)=>if 2≤maxLen then if 2<((l_n:Nat):Int) then if 2<((l_n:Nat):Int) then Option.bind (qv p l_2 day) fun(a5:Bool)=>if(!a5)=Bool.true then Option.bind (qt l_2) fun(a6:Unit)=>if 3≤maxLen then if 3<((l_n:Nat):Int) then none else Option.bind (qz (qk l_0 l_1 l_2 s) ([l_0,l_1,l_2],2)) fun(a7:List qa)=>if 10<((a7.length:Nat):Int) then some ([],2) else some (a7,0) else none else if 3<((l_n:Nat):Int) then none else Option.bind (qz (qk l_0 l_1 l_2 s) ([l_0,l_1],1)) fun(a8:List qa)=>if 10<((a8.length:Nat):Int) then some ([],2) else some (a8,0) else none else Option.bind (qz (qk l_0 l_1 l_2 s) ([l_0,l_1],1)) fun(a9:List qa)=>if 10<((a9.length:Nat):Int) then some ([],2) else some (a9,0) else none else if 2<((l_n:Nat):Int) then if 2<((l_n:Nat):Int) then Option.bind (qv p l_2 day) fun(a10:Bool)=>if(!a10)=Bool.true then Option.bind (qt l_2) fun(a11:Unit)=>if 2≤maxLen then if 3<((l_n:Nat):Int) then none else Option.bind (qz (qk l_0 l_1 l_2 s) ([l_0,l_2],1)) fun(a12:List qa)=>if 10<((a12.length:Nat):Int) then some ([],2) else some (a12,0) else none else if 3<((l_n:Nat):Int) then none else Option.bind (qz (qk l_0 l_1 l_2 s) ([l_0],0)) fun(a13:List qa)=>if 10<((a13.length:Nat):Int) then some ([],2) else some (a13,0) else none else Option.bind (qz (qk l_0 l_1 l_2 s) ([l_0],0)) fun(a14:List qa)=>if 10<((a14.length:Nat):Int) then some ([],2) else some (a14,0) else none else Option.bind (qz (qk l_0 l_1 l_2 s) ([l_0],0)) fun(a15:List qa)=>if 10<((a15.length:Nat):Int) then some ([],2) else some (a15,0) else none else if 1<((l_n:Nat):Int) then if 1<((l_n:Nat):Int) then Option.bind (qv p l_1 day) fun(a16:Bool)=>if(!a16)=Bool.true then Option.bind (qt l_1) fun(a17:Unit)=>if 1≤maxLen then if 2<((l_n:Nat):Int) then if 2<((l_n:Nat):Int) then Option.bind (qv p l_2 day) fun(a18:Bool)=>if(!a18)=Bool.true then Option.bind (qt l_2) fun(a19:Unit)=>if 2≤maxLen then if 3<((l_n:Nat):Int) then none else Option.bind (qz (qk l_0 l_1 l_2 s) ([l_1,l_2],1)) fun(a20:List qa)=>if 10<((a20.length:Nat):Int) then some ([],2) else some (a20,0) else none else if 3<((l_n:Nat):Int) then none else Option.bind (qz (qk l_0 l_1 l_2 s) ([l_1],0)) fun(a21:List qa)=>if 10<((a21.length:Nat):Int) then some ([],2) else some (a21,0) else none else Option.bind (qz (qk l_0 l_1 l_2 s) ([l_1],0)) fun(a22:List qa)=>if 10<((a22.length:Nat):Int) then some ([],2) else some (a22,0) else none else if 2<((l_n:Nat):Int) then if 2<((l_n:Nat):Int) then Option.bind (qv p l_2 day) fun(a23:Bool)=>if(!a23)=Bool.true then Option.bind (qt l_2) fun(a24:Unit)=>if 1≤maxLen then if 3<((l_n:Nat):Int) then none else Option.bind (qz (qk l_0 l_1 l_2 s) ([l_2],0)) fun(a25:List qa)=>if 10<((a25.length:Nat):Int) then some ([],2) else some (a25,0) else none else if 3<((l_n:Nat):Int) then none else Option.bind (qz (qk l_0 l_1 l_2 s) ([],(-1))) fun(a26:List qa)=>if 10<((a26.length:Nat):Int) then some ([],2) else some (a26,0) else none else Option.bind (qz (qk l_0 l_1 l_2 s) ([],(-1))) fun(a27:List qa)=>if 10<((a27.length:Nat):Int) then some ([],2) else some (a27,0) else none else Option.bind (qz (qk l_0 l_1 l_2 s) ([],(-1))) fun(a28:List qa)=>if 10<((a28.length:Nat):Int) then some ([],2) else some (a28,0) else none else Option.bind (qz (qk l_0 l_1 l_2 s) ([],(-1))) fun(a29:List qa)=>if 10<((a29.length:Nat):Int) then some ([],2) else some (a29,0)
theorem q1V:∀(l_n:Nat) (p_School p_Id p_Version p_From:Int) (p_Name:ByteArray) (p_Need_Kind p_Need_N p_Need_Min:Int) (p_Need_Set:List qb) (p_Need_L:List qg) (p_Total p_Own p_Age:Int) (p_Exclude:List (Qy qb)) (s_Worst s_Best s_Pass day l_0_Course_School:Int) (l_0_Course_Code:ByteArray) (l_0_Credits l_0_Grade l_0_Day:Int) (l_0_Sources:List Int) (l_0_Bundle:Int) (l_0_Path:List Int) (l_1_Course_School:Int) (l_1_Course_Code:ByteArray) (l_1_Credits l_1_Grade l_1_Day:Int) (l_1_Sources:List Int) (l_1_Bundle:Int) (l_1_Path:List Int) (l_2_Course_School:Int) (l_2_Course_Code:ByteArray) (l_2_Credits l_2_Grade l_2_Day:Int) (l_2_Sources:List Int) (l_2_Bundle:Int) (l_2_Path:List Int),ev 11 1 [rO 0 8 l_n,R.agg [dI p_School,dI p_Id,dI p_Version,dI p_From,dS p_Name,dI p_Need_Kind,dI p_Need_N,dI p_Need_Min,dL 2 qh p_Need_Set,dL 5 ql p_Need_L,dI p_Total,dI p_Own,dI p_Age,dL 4 (eA2 qh) p_Exclude],R.agg [dI s_Worst,dI s_Best,dI s_Pass],rI day] [(0,B.blk 52 [dI l_0_Course_School,dS l_0_Course_Code,dI l_0_Credits,dI l_0_Grade,dI l_0_Day,dL 1 eI l_0_Sources,dI l_0_Bundle,dL 1 eI l_0_Path,dI l_1_Course_School,dS l_1_Course_Code,dI l_1_Credits,dI l_1_Grade,dI l_1_Day,dL 1 eI l_1_Sources,dI l_1_Bundle,dL 1 eI l_1_Path,dI l_2_Course_School,dS l_2_Course_Code,dI l_2_Credits,dI l_2_Grade,dI l_2_Day,dL 1 eI l_2_Sources,dI l_2_Bundle,dL 1 eI l_2_Path])]=(Qh l_n (qd.mk p_School p_Id p_Version p_From p_Name (qg.mk p_Need_Kind p_Need_N p_Need_Min p_Need_Set p_Need_L) p_Total p_Own p_Age p_Exclude) (qe.mk s_Worst s_Best s_Pass) day (qa.mk (qb.mk l_0_Course_School l_0_Course_Code) l_0_Credits l_0_Grade l_0_Day l_0_Sources l_0_Bundle l_0_Path) (qa.mk (qb.mk l_1_Course_School l_1_Course_Code) l_1_Credits l_1_Grade l_1_Day l_1_Sources l_1_Bundle l_1_Path) (qa.mk (qb.mk l_2_Course_School l_2_Course_Code) l_2_Credits l_2_Grade l_2_Day l_2_Sources l_2_Bundle l_2_Path)).bind (fun(e:List qa×Int)=>some (R.tup [rL 8 qc e.1,rI e.2],[(0,B.blk 52 [dI l_0_Course_School,dS l_0_Course_Code,dI l_0_Credits,dI l_0_Grade,dI l_0_Day,dL 1 eI l_0_Sources,dI l_0_Bundle,dL 1 eI l_0_Path,dI l_1_Course_School,dS l_1_Course_Code,dI l_1_Credits,dI l_1_Grade,dI l_1_Day,dL 1 eI l_1_Sources,dI l_1_Bundle,dL 1 eI l_1_Path,dI l_2_Course_School,dS l_2_Course_Code,dI l_2_Credits,dI l_2_Grade,dI l_2_Day,dL 1 eI l_2_Sources,dI l_2_Bundle,dL 1 eI l_2_Path])])):=
 fun l_n p_School p_Id p_Version p_From p_Name p_Need_Kind p_Need_N p_Need_Min p_Need_Set p_Need_L p_Total p_Own p_Age p_Exclude s_Worst s_Best s_Pass day l_0_Course_School l_0_Course_Code l_0_Credits l_0_Grade l_0_Day l_0_Sources l_0_Bundle l_0_Path l_1_Course_School l_1_Course_Code l_1_Credits l_1_Grade l_1_Day l_1_Sources l_1_Bundle l_1_Path l_2_Course_School l_2_Course_Code l_2_Credits l_2_Grade l_2_Day l_2_Sources l_2_Bundle l_2_Path=>by
  rw[qy qjV qqx.2.2.2 qm6]
  have:=qiY;have:=@J5;have:=@Jx;have:=@ZD;have:=@JA;have:=@Jw;have:=@JB;have:=@Qh.eq_1;have:=fun(E:Orc) (k:Nat) (s:S)=>q6d (E:=E) (k:=k) (s:=s) qbZ qbe;have:=@q7z.eq_1;have:=@q21;have:=@q6q;have:=@q9a;have:=@q68;have:=@q8Z;have:=@q6g;have:=@q9O;exact gA
theorem q0v:∀(p_School p_Id p_Version p_From:Int) (p_Name:ByteArray) (p_Need_Kind p_Need_N p_Need_Min p_Total p_Own p_Age l_0_Course_School:Int) (l_0_Course_Code:ByteArray) (l_0_Credits l_0_Grade l_0_Day l_0_Sources0 l_0_Bundle l_1_Course_School:Int) (l_1_Course_Code:ByteArray) (l_1_Credits l_1_Grade l_1_Day l_1_Sources0 l_1_Bundle l_2_Course_School:Int) (l_2_Course_Code:ByteArray) (l_2_Credits l_2_Grade l_2_Day l_2_Sources0 l_2_Bundle:Int) (l_n:Nat) (s_Worst s_Best s_Pass day:Int),ev 11 1 [rO 0 8 l_n,R.agg [dI p_School,dI p_Id,dI p_Version,dI p_From,dS p_Name,dI p_Need_Kind,dI p_Need_N,dI p_Need_Min,C.d (D.sl 2 0 []),C.d (D.sl 5 0 []),dI p_Total,dI p_Own,dI p_Age,C.d (D.sl 4 0 [])],R.agg [dI s_Worst,dI s_Best,dI s_Pass],rI day] [(0,B.blk 52 [dI l_0_Course_School,dS l_0_Course_Code,dI l_0_Credits,dI l_0_Grade,dI l_0_Day,C.d (D.sl 1 1 [D.int .i64 l_0_Sources0]),dI l_0_Bundle,C.d (D.sl 1 0 []),dI l_1_Course_School,dS l_1_Course_Code,dI l_1_Credits,dI l_1_Grade,dI l_1_Day,C.d (D.sl 1 1 [D.int .i64 l_1_Sources0]),dI l_1_Bundle,C.d (D.sl 1 0 []),dI l_2_Course_School,dS l_2_Course_Code,dI l_2_Credits,dI l_2_Grade,dI l_2_Day,C.d (D.sl 1 1 [D.int .i64 l_2_Sources0]),dI l_2_Bundle,C.d (D.sl 1 0 [])])]=(Qh l_n (qd.mk p_School p_Id p_Version p_From p_Name (qg.mk p_Need_Kind p_Need_N p_Need_Min [] []) p_Total p_Own p_Age []) (qe.mk s_Worst s_Best s_Pass) day (qa.mk (qb.mk l_0_Course_School l_0_Course_Code) l_0_Credits l_0_Grade l_0_Day [l_0_Sources0] l_0_Bundle []) (qa.mk (qb.mk l_1_Course_School l_1_Course_Code) l_1_Credits l_1_Grade l_1_Day [l_1_Sources0] l_1_Bundle []) (qa.mk (qb.mk l_2_Course_School l_2_Course_Code) l_2_Credits l_2_Grade l_2_Day [l_2_Sources0] l_2_Bundle [])).bind (fun(e:List qa×Int)=>some (R.tup [rL 8 qc e.1,rI e.2],[(0,B.blk 52 [dI l_0_Course_School,dS l_0_Course_Code,dI l_0_Credits,dI l_0_Grade,dI l_0_Day,C.d (D.sl 1 [l_0_Sources0].length ([l_0_Sources0].flatMap eI)),dI l_0_Bundle,C.d (D.sl 1 ([]:List Int).length (([]:List Int).flatMap eI)),dI l_1_Course_School,dS l_1_Course_Code,dI l_1_Credits,dI l_1_Grade,dI l_1_Day,C.d (D.sl 1 [l_1_Sources0].length ([l_1_Sources0].flatMap eI)),dI l_1_Bundle,C.d (D.sl 1 ([]:List Int).length (([]:List Int).flatMap eI)),dI l_2_Course_School,dS l_2_Course_Code,dI l_2_Credits,dI l_2_Grade,dI l_2_Day,C.d (D.sl 1 [l_2_Sources0].length ([l_2_Sources0].flatMap eI)),dI l_2_Bundle,C.d (D.sl 1 ([]:List Int).length (([]:List Int).flatMap eI))])])):=by
 intro p_School p_Id p_Version p_From p_Name p_Need_Kind p_Need_N p_Need_Min p_Total p_Own p_Age l_0_Course_School l_0_Course_Code l_0_Credits l_0_Grade l_0_Day l_0_Sources0 l_0_Bundle l_1_Course_School l_1_Course_Code l_1_Credits l_1_Grade l_1_Day l_1_Sources0 l_1_Bundle l_2_Course_School l_2_Course_Code l_2_Credits l_2_Grade l_2_Day l_2_Sources0 l_2_Bundle l_n s_Worst s_Best s_Pass day;have h:=q1V l_n ((qd.mk p_School p_Id p_Version p_From p_Name (qg.mk p_Need_Kind p_Need_N p_Need_Min [] []) p_Total p_Own p_Age [])).School ((qd.mk p_School p_Id p_Version p_From p_Name (qg.mk p_Need_Kind p_Need_N p_Need_Min [] []) p_Total p_Own p_Age [])).Id ((qd.mk p_School p_Id p_Version p_From p_Name (qg.mk p_Need_Kind p_Need_N p_Need_Min [] []) p_Total p_Own p_Age [])).Version ((qd.mk p_School p_Id p_Version p_From p_Name (qg.mk p_Need_Kind p_Need_N p_Need_Min [] []) p_Total p_Own p_Age [])).From ((qd.mk p_School p_Id p_Version p_From p_Name (qg.mk p_Need_Kind p_Need_N p_Need_Min [] []) p_Total p_Own p_Age [])).Name ((qd.mk p_School p_Id p_Version p_From p_Name (qg.mk p_Need_Kind p_Need_N p_Need_Min [] []) p_Total p_Own p_Age [])).Need.Kind ((qd.mk p_School p_Id p_Version p_From p_Name (qg.mk p_Need_Kind p_Need_N p_Need_Min [] []) p_Total p_Own p_Age [])).Need.N ((qd.mk p_School p_Id p_Version p_From p_Name (qg.mk p_Need_Kind p_Need_N p_Need_Min [] []) p_Total p_Own p_Age [])).Need.Min ((qd.mk p_School p_Id p_Version p_From p_Name (qg.mk p_Need_Kind p_Need_N p_Need_Min [] []) p_Total p_Own p_Age [])).Need.Set ((qd.mk p_School p_Id p_Version p_From p_Name (qg.mk p_Need_Kind p_Need_N p_Need_Min [] []) p_Total p_Own p_Age [])).Need.L ((qd.mk p_School p_Id p_Version p_From p_Name (qg.mk p_Need_Kind p_Need_N p_Need_Min [] []) p_Total p_Own p_Age [])).Total ((qd.mk p_School p_Id p_Version p_From p_Name (qg.mk p_Need_Kind p_Need_N p_Need_Min [] []) p_Total p_Own p_Age [])).Own ((qd.mk p_School p_Id p_Version p_From p_Name (qg.mk p_Need_Kind p_Need_N p_Need_Min [] []) p_Total p_Own p_Age [])).Age ((qd.mk p_School p_Id p_Version p_From p_Name (qg.mk p_Need_Kind p_Need_N p_Need_Min [] []) p_Total p_Own p_Age [])).Exclude ((qe.mk s_Worst s_Best s_Pass)).Worst ((qe.mk s_Worst s_Best s_Pass)).Best ((qe.mk s_Worst s_Best s_Pass)).Pass day ((qa.mk (qb.mk l_0_Course_School l_0_Course_Code) l_0_Credits l_0_Grade l_0_Day [l_0_Sources0] l_0_Bundle [])).Course.School ((qa.mk (qb.mk l_0_Course_School l_0_Course_Code) l_0_Credits l_0_Grade l_0_Day [l_0_Sources0] l_0_Bundle [])).Course.Code ((qa.mk (qb.mk l_0_Course_School l_0_Course_Code) l_0_Credits l_0_Grade l_0_Day [l_0_Sources0] l_0_Bundle [])).Credits ((qa.mk (qb.mk l_0_Course_School l_0_Course_Code) l_0_Credits l_0_Grade l_0_Day [l_0_Sources0] l_0_Bundle [])).Grade ((qa.mk (qb.mk l_0_Course_School l_0_Course_Code) l_0_Credits l_0_Grade l_0_Day [l_0_Sources0] l_0_Bundle [])).Day ((qa.mk (qb.mk l_0_Course_School l_0_Course_Code) l_0_Credits l_0_Grade l_0_Day [l_0_Sources0] l_0_Bundle [])).Sources ((qa.mk (qb.mk l_0_Course_School l_0_Course_Code) l_0_Credits l_0_Grade l_0_Day [l_0_Sources0] l_0_Bundle [])).Bundle ((qa.mk (qb.mk l_0_Course_School l_0_Course_Code) l_0_Credits l_0_Grade l_0_Day [l_0_Sources0] l_0_Bundle [])).Path ((qa.mk (qb.mk l_1_Course_School l_1_Course_Code) l_1_Credits l_1_Grade l_1_Day [l_1_Sources0] l_1_Bundle [])).Course.School ((qa.mk (qb.mk l_1_Course_School l_1_Course_Code) l_1_Credits l_1_Grade l_1_Day [l_1_Sources0] l_1_Bundle [])).Course.Code ((qa.mk (qb.mk l_1_Course_School l_1_Course_Code) l_1_Credits l_1_Grade l_1_Day [l_1_Sources0] l_1_Bundle [])).Credits ((qa.mk (qb.mk l_1_Course_School l_1_Course_Code) l_1_Credits l_1_Grade l_1_Day [l_1_Sources0] l_1_Bundle [])).Grade ((qa.mk (qb.mk l_1_Course_School l_1_Course_Code) l_1_Credits l_1_Grade l_1_Day [l_1_Sources0] l_1_Bundle [])).Day ((qa.mk (qb.mk l_1_Course_School l_1_Course_Code) l_1_Credits l_1_Grade l_1_Day [l_1_Sources0] l_1_Bundle [])).Sources ((qa.mk (qb.mk l_1_Course_School l_1_Course_Code) l_1_Credits l_1_Grade l_1_Day [l_1_Sources0] l_1_Bundle [])).Bundle ((qa.mk (qb.mk l_1_Course_School l_1_Course_Code) l_1_Credits l_1_Grade l_1_Day [l_1_Sources0] l_1_Bundle [])).Path ((qa.mk (qb.mk l_2_Course_School l_2_Course_Code) l_2_Credits l_2_Grade l_2_Day [l_2_Sources0] l_2_Bundle [])).Course.School ((qa.mk (qb.mk l_2_Course_School l_2_Course_Code) l_2_Credits l_2_Grade l_2_Day [l_2_Sources0] l_2_Bundle [])).Course.Code ((qa.mk (qb.mk l_2_Course_School l_2_Course_Code) l_2_Credits l_2_Grade l_2_Day [l_2_Sources0] l_2_Bundle [])).Credits ((qa.mk (qb.mk l_2_Course_School l_2_Course_Code) l_2_Credits l_2_Grade l_2_Day [l_2_Sources0] l_2_Bundle [])).Grade ((qa.mk (qb.mk l_2_Course_School l_2_Course_Code) l_2_Credits l_2_Grade l_2_Day [l_2_Sources0] l_2_Bundle [])).Day ((qa.mk (qb.mk l_2_Course_School l_2_Course_Code) l_2_Credits l_2_Grade l_2_Day [l_2_Sources0] l_2_Bundle [])).Sources ((qa.mk (qb.mk l_2_Course_School l_2_Course_Code) l_2_Credits l_2_Grade l_2_Day [l_2_Sources0] l_2_Bundle [])).Bundle ((qa.mk (qb.mk l_2_Course_School l_2_Course_Code) l_2_Credits l_2_Grade l_2_Day [l_2_Sources0] l_2_Bundle [])).Path
 first
  | exact h
  | (simp only[rL,dL,bR,bZ,Nat.reduceAdd] at h;exact h)
def qq (w1:List Int) (b0_0:qa) (b0_1:qa) (b0_2_Course_School:Int) (b0_2_Course_Code:ByteArray) (b0_2_Credits:Int) (b0_2_Grade:Int) (b0_2_Day:Int) (b0_2_Bundle:Int) (b0_2_Path:List Int) (s:qe):(List qa×Int)→Option ((List qa×Int)⊕(List qa))|(left,k)=>if 0≤k then Option.bind (zT left s k) fun(a:Bool)=>if a=Bool.true then Option.bind (qm k (w64 (k+1)) left) fun(a2:List qa)=>some (Sum.inl (a2,w64 (((a2.length:Nat):Int)-1))) else some (Sum.inl (left,w64 (k-1))) else some (Sum.inr left)
theorem QJ:∀(w1:List Int) (left:List qa) (b0_0_Course_School:Int) (b0_0_Course_Code:ByteArray) (b0_0_Credits b0_0_Grade b0_0_Day:Int) (b0_0_Sources:List Int) (b0_0_Bundle:Int) (b0_0_Path:List Int) (b0_1_Course_School:Int) (b0_1_Course_Code:ByteArray) (b0_1_Credits b0_1_Grade b0_1_Day:Int) (b0_1_Sources:List Int) (b0_1_Bundle:Int) (b0_1_Path:List Int) (b0_2_Course_School:Int) (b0_2_Course_Code:ByteArray) (b0_2_Credits b0_2_Grade b0_2_Day b0_2_Bundle:Int) (b0_2_Path:List Int) (s_Worst s_Best s_Pass k:Int) (Qk w1_len:Nat),Qk=left.length→w1_len=w1.length→XL2 evo 11 1 9 ⟨[(6,rP 2),(10,rO 3 8 Qk),(13,rI k)],[(0,B.blk 52 [dI b0_0_Course_School,dS b0_0_Course_Code,dI b0_0_Credits,dI b0_0_Grade,dI b0_0_Day,dL 1 eI b0_0_Sources,dI b0_0_Bundle,dL 1 eI b0_0_Path,dI b0_1_Course_School,dS b0_1_Course_Code,dI b0_1_Credits,dI b0_1_Grade,dI b0_1_Day,dL 1 eI b0_1_Sources,dI b0_1_Bundle,dL 1 eI b0_1_Path,dI b0_2_Course_School,dS b0_2_Course_Code,dI b0_2_Credits,dI b0_2_Grade,dI b0_2_Day,dO 1 1 w1_len,dI b0_2_Bundle,dL 1 eI b0_2_Path]),(1,bR 3 1 eI w1),(2,B.blk 30 [dI s_Worst,dI s_Best,dI s_Pass]),(3,bR 52 8 qc left)],4,53⟩=(qz (qq w1 (qa.mk (qb.mk b0_0_Course_School b0_0_Course_Code) b0_0_Credits b0_0_Grade b0_0_Day b0_0_Sources b0_0_Bundle b0_0_Path) (qa.mk (qb.mk b0_1_Course_School b0_1_Course_Code) b0_1_Credits b0_1_Grade b0_1_Day b0_1_Sources b0_1_Bundle b0_1_Path) b0_2_Course_School b0_2_Course_Code b0_2_Credits b0_2_Grade b0_2_Day b0_2_Bundle b0_2_Path (qe.mk s_Worst s_Best s_Pass)) (left,k)).bind (fun(e:List qa)=>some (Exit.exit 2,⟨[(10,rO 2 8 e.length)],[(0,B.blk 52 [dI b0_0_Course_School,dS b0_0_Course_Code,dI b0_0_Credits,dI b0_0_Grade,dI b0_0_Day,dL 1 eI b0_0_Sources,dI b0_0_Bundle,dL 1 eI b0_0_Path,dI b0_1_Course_School,dS b0_1_Course_Code,dI b0_1_Credits,dI b0_1_Grade,dI b0_1_Day,dL 1 eI b0_1_Sources,dI b0_1_Bundle,dL 1 eI b0_1_Path,dI b0_2_Course_School,dS b0_2_Course_Code,dI b0_2_Credits,dI b0_2_Grade,dI b0_2_Day,dO 1 1 w1.length,dI b0_2_Bundle,dL 1 eI b0_2_Path]),(1,bR 3 1 eI w1),(2,bR 52 8 qc e)],3,53⟩)):=
 by
 intro w1 left b0_0_Course_School b0_0_Course_Code b0_0_Credits b0_0_Grade b0_0_Day b0_0_Sources b0_0_Bundle b0_0_Path b0_1_Course_School b0_1_Course_Code b0_1_Credits b0_1_Grade b0_1_Day b0_1_Sources b0_1_Bundle b0_1_Path b0_2_Course_School b0_2_Course_Code b0_2_Credits b0_2_Grade b0_2_Day b0_2_Bundle b0_2_Path s_Worst s_Best s_Pass k Qk w1_len h0 h1
 subst h0 h1
 revert k;revert left;exact qa0 qep qeD (fun e=>by exact⟨_,rfl,fun h=>by cases h⟩) fun left k=>by
  have:=qiY;have:=@q7a.eq_1;have:=@Zk;have:=@qF;have:=@qq.eq_1;exact gA
theorem Ju:∀  (w1:List Int) (b0_0_Course_School:Int) (b0_0_Course_Code:ByteArray) (b0_0_Credits b0_0_Grade b0_0_Day:Int) (b0_0_Sources:List Int) (b0_0_Bundle:Int) (b0_0_Path:List Int) (b0_1_Course_School:Int) (b0_1_Course_Code:ByteArray) (b0_1_Credits b0_1_Grade b0_1_Day:Int) (b0_1_Sources:List Int) (b0_1_Bundle:Int) (b0_1_Path:List Int) (b0_2_Course_School:Int) (b0_2_Course_Code:ByteArray) (b0_2_Credits b0_2_Grade b0_2_Day b0_2_Bundle:Int) (b0_2_Path:List Int) (s_Worst s_Best s_Pass k:Int) (w1_len:Nat),w1_len=w1.length→XL2 evo 11 1 9 ⟨[(6,rP 2),(10,rO 3 8 0),(13,rI k)],[(0,B.blk 52 [dI b0_0_Course_School,dS b0_0_Course_Code,dI b0_0_Credits,dI b0_0_Grade,dI b0_0_Day,dL 1 eI b0_0_Sources,dI b0_0_Bundle,dL 1 eI b0_0_Path,dI b0_1_Course_School,dS b0_1_Course_Code,dI b0_1_Credits,dI b0_1_Grade,dI b0_1_Day,dL 1 eI b0_1_Sources,dI b0_1_Bundle,dL 1 eI b0_1_Path,dI b0_2_Course_School,dS b0_2_Course_Code,dI b0_2_Credits,dI b0_2_Grade,dI b0_2_Day,dO 1 1 w1_len,dI b0_2_Bundle,dL 1 eI b0_2_Path]),(1,bR 3 1 eI w1),(2,B.blk 30 [dI s_Worst,dI s_Best,dI s_Pass]),(3,B.row 52 8 [])],4,53⟩=(qz (qq w1 (qa.mk (qb.mk b0_0_Course_School b0_0_Course_Code) b0_0_Credits b0_0_Grade b0_0_Day b0_0_Sources b0_0_Bundle b0_0_Path) (qa.mk (qb.mk b0_1_Course_School b0_1_Course_Code) b0_1_Credits b0_1_Grade b0_1_Day b0_1_Sources b0_1_Bundle b0_1_Path) b0_2_Course_School b0_2_Course_Code b0_2_Credits b0_2_Grade b0_2_Day b0_2_Bundle b0_2_Path (qe.mk s_Worst s_Best s_Pass)) ([],k)).bind (fun(e:List qa)=>some (Exit.exit 2,⟨[(10,rO 2 8 e.length)],[(0,B.blk 52 [dI b0_0_Course_School,dS b0_0_Course_Code,dI b0_0_Credits,dI b0_0_Grade,dI b0_0_Day,dL 1 eI b0_0_Sources,dI b0_0_Bundle,dL 1 eI b0_0_Path,dI b0_1_Course_School,dS b0_1_Course_Code,dI b0_1_Credits,dI b0_1_Grade,dI b0_1_Day,dL 1 eI b0_1_Sources,dI b0_1_Bundle,dL 1 eI b0_1_Path,dI b0_2_Course_School,dS b0_2_Course_Code,dI b0_2_Credits,dI b0_2_Grade,dI b0_2_Day,dO 1 1 w1.length,dI b0_2_Bundle,dL 1 eI b0_2_Path]),(1,bR 3 1 eI w1),(2,bR 52 8 qc e)],3,53⟩)):=by
 intro w1 b0_0_Course_School b0_0_Course_Code b0_0_Credits b0_0_Grade b0_0_Day b0_0_Sources b0_0_Bundle b0_0_Path b0_1_Course_School b0_1_Course_Code b0_1_Credits b0_1_Grade b0_1_Day b0_1_Sources b0_1_Bundle b0_1_Path b0_2_Course_School b0_2_Course_Code b0_2_Credits b0_2_Grade b0_2_Day b0_2_Bundle b0_2_Path s_Worst s_Best s_Pass k w1_len h0;subst h0;have h:=QJ w1 [] ((qa.mk (qb.mk b0_0_Course_School b0_0_Course_Code) b0_0_Credits b0_0_Grade b0_0_Day b0_0_Sources b0_0_Bundle b0_0_Path)).Course.School ((qa.mk (qb.mk b0_0_Course_School b0_0_Course_Code) b0_0_Credits b0_0_Grade b0_0_Day b0_0_Sources b0_0_Bundle b0_0_Path)).Course.Code ((qa.mk (qb.mk b0_0_Course_School b0_0_Course_Code) b0_0_Credits b0_0_Grade b0_0_Day b0_0_Sources b0_0_Bundle b0_0_Path)).Credits ((qa.mk (qb.mk b0_0_Course_School b0_0_Course_Code) b0_0_Credits b0_0_Grade b0_0_Day b0_0_Sources b0_0_Bundle b0_0_Path)).Grade ((qa.mk (qb.mk b0_0_Course_School b0_0_Course_Code) b0_0_Credits b0_0_Grade b0_0_Day b0_0_Sources b0_0_Bundle b0_0_Path)).Day ((qa.mk (qb.mk b0_0_Course_School b0_0_Course_Code) b0_0_Credits b0_0_Grade b0_0_Day b0_0_Sources b0_0_Bundle b0_0_Path)).Sources ((qa.mk (qb.mk b0_0_Course_School b0_0_Course_Code) b0_0_Credits b0_0_Grade b0_0_Day b0_0_Sources b0_0_Bundle b0_0_Path)).Bundle ((qa.mk (qb.mk b0_0_Course_School b0_0_Course_Code) b0_0_Credits b0_0_Grade b0_0_Day b0_0_Sources b0_0_Bundle b0_0_Path)).Path ((qa.mk (qb.mk b0_1_Course_School b0_1_Course_Code) b0_1_Credits b0_1_Grade b0_1_Day b0_1_Sources b0_1_Bundle b0_1_Path)).Course.School ((qa.mk (qb.mk b0_1_Course_School b0_1_Course_Code) b0_1_Credits b0_1_Grade b0_1_Day b0_1_Sources b0_1_Bundle b0_1_Path)).Course.Code ((qa.mk (qb.mk b0_1_Course_School b0_1_Course_Code) b0_1_Credits b0_1_Grade b0_1_Day b0_1_Sources b0_1_Bundle b0_1_Path)).Credits ((qa.mk (qb.mk b0_1_Course_School b0_1_Course_Code) b0_1_Credits b0_1_Grade b0_1_Day b0_1_Sources b0_1_Bundle b0_1_Path)).Grade ((qa.mk (qb.mk b0_1_Course_School b0_1_Course_Code) b0_1_Credits b0_1_Grade b0_1_Day b0_1_Sources b0_1_Bundle b0_1_Path)).Day ((qa.mk (qb.mk b0_1_Course_School b0_1_Course_Code) b0_1_Credits b0_1_Grade b0_1_Day b0_1_Sources b0_1_Bundle b0_1_Path)).Sources ((qa.mk (qb.mk b0_1_Course_School b0_1_Course_Code) b0_1_Credits b0_1_Grade b0_1_Day b0_1_Sources b0_1_Bundle b0_1_Path)).Bundle ((qa.mk (qb.mk b0_1_Course_School b0_1_Course_Code) b0_1_Credits b0_1_Grade b0_1_Day b0_1_Sources b0_1_Bundle b0_1_Path)).Path b0_2_Course_School b0_2_Course_Code b0_2_Credits b0_2_Grade b0_2_Day b0_2_Bundle b0_2_Path ((qe.mk s_Worst s_Best s_Pass)).Worst ((qe.mk s_Worst s_Best s_Pass)).Best ((qe.mk s_Worst s_Best s_Pass)).Pass k _ _ rfl rfl
 first
  | exact h
  | (simp only[rL,dL,bR,bZ,Nat.reduceAdd] at h;exact h)
theorem Jv:∀(left0_Course_School:Int) (left0_Course_Code:ByteArray) (left0_Credits left0_Grade left0_Day:Int) (left0_Sources:List Int) (left0_Bundle:Int) (left0_Path:List Int) (left1_Course_School:Int) (left1_Course_Code:ByteArray) (left1_Credits left1_Grade left1_Day:Int) (left1_Sources:List Int) (left1_Bundle:Int) (left1_Path w1:List Int) (b0_0_Course_School:Int) (b0_0_Course_Code:ByteArray) (b0_0_Credits b0_0_Grade b0_0_Day:Int) (b0_0_Sources:List Int) (b0_0_Bundle:Int) (b0_0_Path:List Int) (b0_1_Course_School:Int) (b0_1_Course_Code:ByteArray) (b0_1_Credits b0_1_Grade b0_1_Day:Int) (b0_1_Sources:List Int) (b0_1_Bundle:Int) (b0_1_Path:List Int) (b0_2_Course_School:Int) (b0_2_Course_Code:ByteArray) (b0_2_Credits b0_2_Grade b0_2_Day b0_2_Bundle:Int) (b0_2_Path:List Int) (s_Worst s_Best s_Pass k:Int) (w1_len:Nat),w1_len=w1.length→XL2 evo 11 1 9 ⟨[(6,rP 2),(10,rO 3 8 2),(13,rI k)],[(0,B.blk 52 [dI b0_0_Course_School,dS b0_0_Course_Code,dI b0_0_Credits,dI b0_0_Grade,dI b0_0_Day,dL 1 eI b0_0_Sources,dI b0_0_Bundle,dL 1 eI b0_0_Path,dI b0_1_Course_School,dS b0_1_Course_Code,dI b0_1_Credits,dI b0_1_Grade,dI b0_1_Day,dL 1 eI b0_1_Sources,dI b0_1_Bundle,dL 1 eI b0_1_Path,dI b0_2_Course_School,dS b0_2_Course_Code,dI b0_2_Credits,dI b0_2_Grade,dI b0_2_Day,dO 1 1 w1_len,dI b0_2_Bundle,dL 1 eI b0_2_Path]),(1,bR 3 1 eI w1),(2,B.blk 30 [dI s_Worst,dI s_Best,dI s_Pass]),(3,B.row 52 8 [dI left0_Course_School,dS left0_Course_Code,dI left0_Credits,dI left0_Grade,dI left0_Day,dL 1 eI left0_Sources,dI left0_Bundle,dL 1 eI left0_Path,dI left1_Course_School,dS left1_Course_Code,dI left1_Credits,dI left1_Grade,dI left1_Day,dL 1 eI left1_Sources,dI left1_Bundle,dL 1 eI left1_Path])],4,53⟩=(qz (qq w1 (qa.mk (qb.mk b0_0_Course_School b0_0_Course_Code) b0_0_Credits b0_0_Grade b0_0_Day b0_0_Sources b0_0_Bundle b0_0_Path) (qa.mk (qb.mk b0_1_Course_School b0_1_Course_Code) b0_1_Credits b0_1_Grade b0_1_Day b0_1_Sources b0_1_Bundle b0_1_Path) b0_2_Course_School b0_2_Course_Code b0_2_Credits b0_2_Grade b0_2_Day b0_2_Bundle b0_2_Path (qe.mk s_Worst s_Best s_Pass)) ([(qa.mk (qb.mk left0_Course_School left0_Course_Code) left0_Credits left0_Grade left0_Day left0_Sources left0_Bundle left0_Path),(qa.mk (qb.mk left1_Course_School left1_Course_Code) left1_Credits left1_Grade left1_Day left1_Sources left1_Bundle left1_Path)],k)).bind (fun(e:List qa)=>some (Exit.exit 2,⟨[(10,rO 2 8 e.length)],[(0,B.blk 52 [dI b0_0_Course_School,dS b0_0_Course_Code,dI b0_0_Credits,dI b0_0_Grade,dI b0_0_Day,dL 1 eI b0_0_Sources,dI b0_0_Bundle,dL 1 eI b0_0_Path,dI b0_1_Course_School,dS b0_1_Course_Code,dI b0_1_Credits,dI b0_1_Grade,dI b0_1_Day,dL 1 eI b0_1_Sources,dI b0_1_Bundle,dL 1 eI b0_1_Path,dI b0_2_Course_School,dS b0_2_Course_Code,dI b0_2_Credits,dI b0_2_Grade,dI b0_2_Day,dO 1 1 w1.length,dI b0_2_Bundle,dL 1 eI b0_2_Path]),(1,bR 3 1 eI w1),(2,bR 52 8 qc e)],3,53⟩)):=by
 intro left0_Course_School left0_Course_Code left0_Credits left0_Grade left0_Day left0_Sources left0_Bundle left0_Path left1_Course_School left1_Course_Code left1_Credits left1_Grade left1_Day left1_Sources left1_Bundle left1_Path w1 b0_0_Course_School b0_0_Course_Code b0_0_Credits b0_0_Grade b0_0_Day b0_0_Sources b0_0_Bundle b0_0_Path b0_1_Course_School b0_1_Course_Code b0_1_Credits b0_1_Grade b0_1_Day b0_1_Sources b0_1_Bundle b0_1_Path b0_2_Course_School b0_2_Course_Code b0_2_Credits b0_2_Grade b0_2_Day b0_2_Bundle b0_2_Path s_Worst s_Best s_Pass k w1_len h0;subst h0;have h:=QJ w1 [(qa.mk (qb.mk left0_Course_School left0_Course_Code) left0_Credits left0_Grade left0_Day left0_Sources left0_Bundle left0_Path),(qa.mk (qb.mk left1_Course_School left1_Course_Code) left1_Credits left1_Grade left1_Day left1_Sources left1_Bundle left1_Path)] ((qa.mk (qb.mk b0_0_Course_School b0_0_Course_Code) b0_0_Credits b0_0_Grade b0_0_Day b0_0_Sources b0_0_Bundle b0_0_Path)).Course.School ((qa.mk (qb.mk b0_0_Course_School b0_0_Course_Code) b0_0_Credits b0_0_Grade b0_0_Day b0_0_Sources b0_0_Bundle b0_0_Path)).Course.Code ((qa.mk (qb.mk b0_0_Course_School b0_0_Course_Code) b0_0_Credits b0_0_Grade b0_0_Day b0_0_Sources b0_0_Bundle b0_0_Path)).Credits ((qa.mk (qb.mk b0_0_Course_School b0_0_Course_Code) b0_0_Credits b0_0_Grade b0_0_Day b0_0_Sources b0_0_Bundle b0_0_Path)).Grade ((qa.mk (qb.mk b0_0_Course_School b0_0_Course_Code) b0_0_Credits b0_0_Grade b0_0_Day b0_0_Sources b0_0_Bundle b0_0_Path)).Day ((qa.mk (qb.mk b0_0_Course_School b0_0_Course_Code) b0_0_Credits b0_0_Grade b0_0_Day b0_0_Sources b0_0_Bundle b0_0_Path)).Sources ((qa.mk (qb.mk b0_0_Course_School b0_0_Course_Code) b0_0_Credits b0_0_Grade b0_0_Day b0_0_Sources b0_0_Bundle b0_0_Path)).Bundle ((qa.mk (qb.mk b0_0_Course_School b0_0_Course_Code) b0_0_Credits b0_0_Grade b0_0_Day b0_0_Sources b0_0_Bundle b0_0_Path)).Path ((qa.mk (qb.mk b0_1_Course_School b0_1_Course_Code) b0_1_Credits b0_1_Grade b0_1_Day b0_1_Sources b0_1_Bundle b0_1_Path)).Course.School ((qa.mk (qb.mk b0_1_Course_School b0_1_Course_Code) b0_1_Credits b0_1_Grade b0_1_Day b0_1_Sources b0_1_Bundle b0_1_Path)).Course.Code ((qa.mk (qb.mk b0_1_Course_School b0_1_Course_Code) b0_1_Credits b0_1_Grade b0_1_Day b0_1_Sources b0_1_Bundle b0_1_Path)).Credits ((qa.mk (qb.mk b0_1_Course_School b0_1_Course_Code) b0_1_Credits b0_1_Grade b0_1_Day b0_1_Sources b0_1_Bundle b0_1_Path)).Grade ((qa.mk (qb.mk b0_1_Course_School b0_1_Course_Code) b0_1_Credits b0_1_Grade b0_1_Day b0_1_Sources b0_1_Bundle b0_1_Path)).Day ((qa.mk (qb.mk b0_1_Course_School b0_1_Course_Code) b0_1_Credits b0_1_Grade b0_1_Day b0_1_Sources b0_1_Bundle b0_1_Path)).Sources ((qa.mk (qb.mk b0_1_Course_School b0_1_Course_Code) b0_1_Credits b0_1_Grade b0_1_Day b0_1_Sources b0_1_Bundle b0_1_Path)).Bundle ((qa.mk (qb.mk b0_1_Course_School b0_1_Course_Code) b0_1_Credits b0_1_Grade b0_1_Day b0_1_Sources b0_1_Bundle b0_1_Path)).Path b0_2_Course_School b0_2_Course_Code b0_2_Credits b0_2_Grade b0_2_Day b0_2_Bundle b0_2_Path ((qe.mk s_Worst s_Best s_Pass)).Worst ((qe.mk s_Worst s_Best s_Pass)).Best ((qe.mk s_Worst s_Best s_Pass)).Pass k _ _ rfl rfl
 first
  | exact h
  | (simp only[rL,dL,bR,bZ,Nat.reduceAdd] at h;exact h)
theorem JI:∀(left0_Course_School:Int) (left0_Course_Code:ByteArray) (left0_Credits left0_Grade left0_Day:Int) (left0_Sources:List Int) (left0_Bundle:Int) (left0_Path w1:List Int) (b0_0_Course_School:Int) (b0_0_Course_Code:ByteArray) (b0_0_Credits b0_0_Grade b0_0_Day:Int) (b0_0_Sources:List Int) (b0_0_Bundle:Int) (b0_0_Path:List Int) (b0_1_Course_School:Int) (b0_1_Course_Code:ByteArray) (b0_1_Credits b0_1_Grade b0_1_Day:Int) (b0_1_Sources:List Int) (b0_1_Bundle:Int) (b0_1_Path:List Int) (b0_2_Course_School:Int) (b0_2_Course_Code:ByteArray) (b0_2_Credits b0_2_Grade b0_2_Day b0_2_Bundle:Int) (b0_2_Path:List Int) (s_Worst s_Best s_Pass k:Int) (w1_len:Nat),w1_len=w1.length→XL2 evo 11 1 9 ⟨[(6,rP 2),(10,rO 3 8 1),(13,rI k)],[(0,B.blk 52 [dI b0_0_Course_School,dS b0_0_Course_Code,dI b0_0_Credits,dI b0_0_Grade,dI b0_0_Day,dL 1 eI b0_0_Sources,dI b0_0_Bundle,dL 1 eI b0_0_Path,dI b0_1_Course_School,dS b0_1_Course_Code,dI b0_1_Credits,dI b0_1_Grade,dI b0_1_Day,dL 1 eI b0_1_Sources,dI b0_1_Bundle,dL 1 eI b0_1_Path,dI b0_2_Course_School,dS b0_2_Course_Code,dI b0_2_Credits,dI b0_2_Grade,dI b0_2_Day,dO 1 1 w1_len,dI b0_2_Bundle,dL 1 eI b0_2_Path]),(1,bR 3 1 eI w1),(2,B.blk 30 [dI s_Worst,dI s_Best,dI s_Pass]),(3,B.row 52 8 [dI left0_Course_School,dS left0_Course_Code,dI left0_Credits,dI left0_Grade,dI left0_Day,dL 1 eI left0_Sources,dI left0_Bundle,dL 1 eI left0_Path])],4,53⟩=(qz (qq w1 (qa.mk (qb.mk b0_0_Course_School b0_0_Course_Code) b0_0_Credits b0_0_Grade b0_0_Day b0_0_Sources b0_0_Bundle b0_0_Path) (qa.mk (qb.mk b0_1_Course_School b0_1_Course_Code) b0_1_Credits b0_1_Grade b0_1_Day b0_1_Sources b0_1_Bundle b0_1_Path) b0_2_Course_School b0_2_Course_Code b0_2_Credits b0_2_Grade b0_2_Day b0_2_Bundle b0_2_Path (qe.mk s_Worst s_Best s_Pass)) ([(qa.mk (qb.mk left0_Course_School left0_Course_Code) left0_Credits left0_Grade left0_Day left0_Sources left0_Bundle left0_Path)],k)).bind (fun(e:List qa)=>some (Exit.exit 2,⟨[(10,rO 2 8 e.length)],[(0,B.blk 52 [dI b0_0_Course_School,dS b0_0_Course_Code,dI b0_0_Credits,dI b0_0_Grade,dI b0_0_Day,dL 1 eI b0_0_Sources,dI b0_0_Bundle,dL 1 eI b0_0_Path,dI b0_1_Course_School,dS b0_1_Course_Code,dI b0_1_Credits,dI b0_1_Grade,dI b0_1_Day,dL 1 eI b0_1_Sources,dI b0_1_Bundle,dL 1 eI b0_1_Path,dI b0_2_Course_School,dS b0_2_Course_Code,dI b0_2_Credits,dI b0_2_Grade,dI b0_2_Day,dO 1 1 w1.length,dI b0_2_Bundle,dL 1 eI b0_2_Path]),(1,bR 3 1 eI w1),(2,bR 52 8 qc e)],3,53⟩)):=by
 intro left0_Course_School left0_Course_Code left0_Credits left0_Grade left0_Day left0_Sources left0_Bundle left0_Path w1 b0_0_Course_School b0_0_Course_Code b0_0_Credits b0_0_Grade b0_0_Day b0_0_Sources b0_0_Bundle b0_0_Path b0_1_Course_School b0_1_Course_Code b0_1_Credits b0_1_Grade b0_1_Day b0_1_Sources b0_1_Bundle b0_1_Path b0_2_Course_School b0_2_Course_Code b0_2_Credits b0_2_Grade b0_2_Day b0_2_Bundle b0_2_Path s_Worst s_Best s_Pass k w1_len h0;subst h0;have h:=QJ w1 [(qa.mk (qb.mk left0_Course_School left0_Course_Code) left0_Credits left0_Grade left0_Day left0_Sources left0_Bundle left0_Path)] ((qa.mk (qb.mk b0_0_Course_School b0_0_Course_Code) b0_0_Credits b0_0_Grade b0_0_Day b0_0_Sources b0_0_Bundle b0_0_Path)).Course.School ((qa.mk (qb.mk b0_0_Course_School b0_0_Course_Code) b0_0_Credits b0_0_Grade b0_0_Day b0_0_Sources b0_0_Bundle b0_0_Path)).Course.Code ((qa.mk (qb.mk b0_0_Course_School b0_0_Course_Code) b0_0_Credits b0_0_Grade b0_0_Day b0_0_Sources b0_0_Bundle b0_0_Path)).Credits ((qa.mk (qb.mk b0_0_Course_School b0_0_Course_Code) b0_0_Credits b0_0_Grade b0_0_Day b0_0_Sources b0_0_Bundle b0_0_Path)).Grade ((qa.mk (qb.mk b0_0_Course_School b0_0_Course_Code) b0_0_Credits b0_0_Grade b0_0_Day b0_0_Sources b0_0_Bundle b0_0_Path)).Day ((qa.mk (qb.mk b0_0_Course_School b0_0_Course_Code) b0_0_Credits b0_0_Grade b0_0_Day b0_0_Sources b0_0_Bundle b0_0_Path)).Sources ((qa.mk (qb.mk b0_0_Course_School b0_0_Course_Code) b0_0_Credits b0_0_Grade b0_0_Day b0_0_Sources b0_0_Bundle b0_0_Path)).Bundle ((qa.mk (qb.mk b0_0_Course_School b0_0_Course_Code) b0_0_Credits b0_0_Grade b0_0_Day b0_0_Sources b0_0_Bundle b0_0_Path)).Path ((qa.mk (qb.mk b0_1_Course_School b0_1_Course_Code) b0_1_Credits b0_1_Grade b0_1_Day b0_1_Sources b0_1_Bundle b0_1_Path)).Course.School ((qa.mk (qb.mk b0_1_Course_School b0_1_Course_Code) b0_1_Credits b0_1_Grade b0_1_Day b0_1_Sources b0_1_Bundle b0_1_Path)).Course.Code ((qa.mk (qb.mk b0_1_Course_School b0_1_Course_Code) b0_1_Credits b0_1_Grade b0_1_Day b0_1_Sources b0_1_Bundle b0_1_Path)).Credits ((qa.mk (qb.mk b0_1_Course_School b0_1_Course_Code) b0_1_Credits b0_1_Grade b0_1_Day b0_1_Sources b0_1_Bundle b0_1_Path)).Grade ((qa.mk (qb.mk b0_1_Course_School b0_1_Course_Code) b0_1_Credits b0_1_Grade b0_1_Day b0_1_Sources b0_1_Bundle b0_1_Path)).Day ((qa.mk (qb.mk b0_1_Course_School b0_1_Course_Code) b0_1_Credits b0_1_Grade b0_1_Day b0_1_Sources b0_1_Bundle b0_1_Path)).Sources ((qa.mk (qb.mk b0_1_Course_School b0_1_Course_Code) b0_1_Credits b0_1_Grade b0_1_Day b0_1_Sources b0_1_Bundle b0_1_Path)).Bundle ((qa.mk (qb.mk b0_1_Course_School b0_1_Course_Code) b0_1_Credits b0_1_Grade b0_1_Day b0_1_Sources b0_1_Bundle b0_1_Path)).Path b0_2_Course_School b0_2_Course_Code b0_2_Credits b0_2_Grade b0_2_Day b0_2_Bundle b0_2_Path ((qe.mk s_Worst s_Best s_Pass)).Worst ((qe.mk s_Worst s_Best s_Pass)).Best ((qe.mk s_Worst s_Best s_Pass)).Pass k _ _ rfl rfl
 first
  | exact h
  | (simp only[rL,dL,bR,bZ,Nat.reduceAdd] at h;exact h)
end
noncomputable section
open Go.RowKit
set_option maxRecDepth 20000
set_option maxHeartbeats 8000000
def Qg (l_n:Nat) (p:qd) (s:qe) (day:Int) (w1:List Int) (l_0:qa) (l_1:qa) (l_2_Course_School:Int) (l_2_Course_Code:ByteArray) (l_2_Credits:Int) (l_2_Grade:Int) (l_2_Day:Int) (l_2_Bundle:Int) (l_2_Path:List Int):Option ((List qa×Int×qa)⊕(List qa×Int)):=if 0<((l_n:Nat):Int) then if 0<((l_n:Nat):Int) then Option.bind (qv p l_0 day) fun(a:Bool)=>if(!a)=Bool.true then Option.bind (qt l_0) fun(a2:Unit)=>if 1≤maxLen then if 1<((l_n:Nat):Int) then if 1<((l_n:Nat):Int) then Option.bind (qv p l_1 day) fun(a3:Bool)=>if(!a3)=Bool.true then Option.bind (qt l_1) fun(a4:Unit)=>if 2≤maxLen then if 2<((l_n:Nat):Int) then if 2<((l_n:Nat):Int) then Option.bind (qv p (qa.mk (qb.mk l_2_Course_School l_2_Course_Code) l_2_Credits l_2_Grade l_2_Day w1 l_2_Bundle l_2_Path) day) fun(a5:Bool)=>if(!a5)=Bool.true then Option.bind (qt (qa.mk (qb.mk l_2_Course_School l_2_Course_Code) l_2_Credits l_2_Grade l_2_Day w1 l_2_Bundle l_2_Path)) fun(a6:Unit)=>if 3≤maxLen then if 3<((l_n:Nat):Int) then none else Option.bind (qz (qk l_0 l_1 (qa.mk (qb.mk l_2_Course_School l_2_Course_Code) l_2_Credits l_2_Grade l_2_Day w1 l_2_Bundle l_2_Path) s) ([l_0,l_1,qa.mk (qb.mk l_2_Course_School l_2_Course_Code) l_2_Credits l_2_Grade l_2_Day w1 l_2_Bundle l_2_Path],2)) fun(a7:List qa)=>if 10<((a7.length:Nat):Int) then some (Sum.inl ([],2,qa.mk (qb.mk l_2_Course_School l_2_Course_Code) l_2_Credits l_2_Grade l_2_Day w1 l_2_Bundle l_2_Path)) else some (Sum.inl (a7,0,qa.mk (qb.mk l_2_Course_School l_2_Course_Code) l_2_Credits l_2_Grade l_2_Day w1 l_2_Bundle l_2_Path)) else none else if 3<((l_n:Nat):Int) then none else Option.bind (qz (qq w1 l_0 l_1 l_2_Course_School l_2_Course_Code l_2_Credits l_2_Grade l_2_Day l_2_Bundle l_2_Path s) ([l_0,l_1],1)) fun(a8:List qa)=>if 10<((a8.length:Nat):Int) then some (Sum.inr ([],2)) else some (Sum.inr (a8,0)) else none else Option.bind (qz (qq w1 l_0 l_1 l_2_Course_School l_2_Course_Code l_2_Credits l_2_Grade l_2_Day l_2_Bundle l_2_Path s) ([l_0,l_1],1)) fun(a9:List qa)=>if 10<((a9.length:Nat):Int) then some (Sum.inr ([],2)) else some (Sum.inr (a9,0)) else none else if 2<((l_n:Nat):Int) then if 2<((l_n:Nat):Int) then Option.bind (qv p (qa.mk (qb.mk l_2_Course_School l_2_Course_Code) l_2_Credits l_2_Grade l_2_Day w1 l_2_Bundle l_2_Path) day) fun(a10:Bool)=>if(!a10)=Bool.true then Option.bind (qt (qa.mk (qb.mk l_2_Course_School l_2_Course_Code) l_2_Credits l_2_Grade l_2_Day w1 l_2_Bundle l_2_Path)) fun(a11:Unit)=>if 2≤maxLen then if 3<((l_n:Nat):Int) then none else Option.bind (qz (qk l_0 l_1 (qa.mk (qb.mk l_2_Course_School l_2_Course_Code) l_2_Credits l_2_Grade l_2_Day w1 l_2_Bundle l_2_Path) s) ([l_0,qa.mk (qb.mk l_2_Course_School l_2_Course_Code) l_2_Credits l_2_Grade l_2_Day w1 l_2_Bundle l_2_Path],1)) fun(a12:List qa)=>if 10<((a12.length:Nat):Int) then some (Sum.inl ([],2,qa.mk (qb.mk l_2_Course_School l_2_Course_Code) l_2_Credits l_2_Grade l_2_Day w1 l_2_Bundle l_2_Path)) else some (Sum.inl (a12,0,qa.mk (qb.mk l_2_Course_School l_2_Course_Code) l_2_Credits l_2_Grade l_2_Day w1 l_2_Bundle l_2_Path)) else none else if 3<((l_n:Nat):Int) then none else Option.bind (qz (qq w1 l_0 l_1 l_2_Course_School l_2_Course_Code l_2_Credits l_2_Grade l_2_Day l_2_Bundle l_2_Path s) ([l_0],0)) fun(a13:List qa)=>if 10<((a13.length:Nat):Int) then some (Sum.inr ([],2)) else some (Sum.inr (a13,0)) else none else Option.bind (qz (qq w1 l_0 l_1 l_2_Course_School l_2_Course_Code l_2_Credits l_2_Grade l_2_Day l_2_Bundle l_2_Path s) ([l_0],0)) fun(a14:List qa)=>if 10<((a14.length:Nat):Int) then some (Sum.inr ([],2)) else some (Sum.inr (a14,0)) else none else Option.bind (qz (qq w1 l_0 l_1 l_2_Course_School l_2_Course_Code l_2_Credits l_2_Grade l_2_Day l_2_Bundle l_2_Path s) ([l_0],0)) fun(a15:List qa)=>if 10<((a15.length:Nat):Int) then some (Sum.inr ([],2)) else some (Sum.inr (a15,0)) else none else if 1<((l_n:Nat):Int) then if 1<((l_n:Nat):Int) then Option.bind (qv p l_1 day) fun(a16:Bool)=>if(!a16)=Bool.true then Option.bind (qt l_1) fun(a17:Unit)=>if 1≤maxLen then if 2<((l_n:Nat):Int) then if 2<((l_n:Nat):Int) then Option.bind (qv p (qa.mk (qb.mk l_2_Course_School l_2_Course_Code) l_2_Credits l_2_Grade l_2_Day w1 l_2_Bundle l_2_Path) day) fun(a18:Bool)=>if(!a18)=Bool.true then Option.bind (qt (qa.mk (qb.mk l_2_Course_School l_2_Course_Code) l_2_Credits l_2_Grade l_2_Day w1 l_2_Bundle l_2_Path)) fun(a19:Unit)=>if 2≤maxLen then if 3<((l_n:Nat):Int) then none else Option.bind (qz (qk l_0 l_1 (qa.mk (qb.mk l_2_Course_School l_2_Course_Code) l_2_Credits l_2_Grade l_2_Day w1 l_2_Bundle l_2_Path) s) ([l_1,qa.mk (qb.mk l_2_Course_School l_2_Course_Code) l_2_Credits l_2_Grade l_2_Day w1 l_2_Bundle l_2_Path],1)) fun(a20:List qa)=>if 10<((a20.length:Nat):Int) then some (Sum.inl ([],2,qa.mk (qb.mk l_2_Course_School l_2_Course_Code) l_2_Credits l_2_Grade l_2_Day w1 l_2_Bundle l_2_Path)) else some (Sum.inl (a20,0,qa.mk (qb.mk l_2_Course_School l_2_Course_Code) l_2_Credits l_2_Grade l_2_Day w1 l_2_Bundle l_2_Path)) else none else if 3<((l_n:Nat):Int) then none else Option.bind (qz (qq w1 l_0 l_1 l_2_Course_School l_2_Course_Code l_2_Credits l_2_Grade l_2_Day l_2_Bundle l_2_Path s) ([l_1],0)) fun(a21:List qa)=>if 10<((a21.length:Nat):Int) then some (Sum.inr ([],2)) else some (Sum.inr (a21,0)) else none else Option.bind (qz (qq w1 l_0 l_1 l_2_Course_School l_2_Course_Code l_2_Credits l_2_Grade l_2_Day l_2_Bundle l_2_Path s) ([l_1],0)) fun(a22:List qa)=>if 10<((a22.length:Nat):Int) then some (Sum.inr ([],2)) else some (Sum.inr (a22,0)) else none else if 2<((l_n:Nat):Int) then if 2<((l_n:Nat):Int) then Option.bind (qv p (qa.mk (qb.mk l_2_Course_School l_2_Course_Code) l_2_Credits l_2_Grade l_2_Day w1 l_2_Bundle l_2_Path) day) fun(a23:Bool)=>if(!a23)=Bool.true then Option.bind (qt (qa.mk (qb.mk l_2_Course_School l_2_Course_Code) l_2_Credits l_2_Grade l_2_Day w1 l_2_Bundle l_2_Path)) fun(a24:Unit)=>if 1≤maxLen then if 3<((l_n:Nat):Int) then none else Option.bind (qz (qk l_0 l_1 (qa.mk (qb.mk l_2_Course_School l_2_Course_Code) l_2_Credits l_2_Grade l_2_Day w1 l_2_Bundle l_2_Path) s) ([qa.mk (qb.mk l_2_Course_School l_2_Course_Code) l_2_Credits l_2_Grade l_2_Day w1 l_2_Bundle l_2_Path],0)) fun(a25:List qa)=>if 10<((a25.length:Nat):Int) then some (Sum.inl ([],2,qa.mk (qb.mk l_2_Course_School l_2_Course_Code) l_2_Credits l_2_Grade l_2_Day w1 l_2_Bundle l_2_Path)) else some (Sum.inl (a25,0,qa.mk (qb.mk l_2_Course_School l_2_Course_Code) l_2_Credits l_2_Grade l_2_Day w1 l_2_Bundle l_2_Path)) else none else if 3<((l_n:Nat):Int) then none else Option.bind (qz (qq w1 l_0 l_1 l_2_Course_School l_2_Course_Code l_2_Credits l_2_Grade l_2_Day l_2_Bundle l_2_Path s) ([],(-1))) fun(a26:List qa)=>if 10<((a26.length:Nat):Int) then some (Sum.inr ([],2)) else some (Sum.inr (a26,0)) else none else Option.bind (qz (qq w1 l_0 l_1 l_2_Course_School l_2_Course_Code l_2_Credits l_2_Grade l_2_Day l_2_Bundle l_2_Path s) ([],(-1))) fun(a27:List qa)=>if 10<((a27.length:Nat):Int) then some (Sum.inr ([],2)) else some (Sum.inr (a27,0)) else none else Option.bind (qz (qq w1 l_0 l_1 l_2_Course_School l_2_Course_Code l_2_Credits l_2_Grade l_2_Day l_2_Bundle l_2_Path s) ([],(-1))) fun(a28:List qa)=>if 10<((a28.length:Nat):Int) then some (Sum.inr ([],2)) else some (Sum.inr (a28,0)) else none else Option.bind (qz (qq w1 l_0 l_1 l_2_Course_School l_2_Course_Code l_2_Credits l_2_Grade l_2_Day l_2_Bundle l_2_Path s) ([],(-1))) fun(a29:List qa)=>if 10<((a29.length:Nat):Int) then some (Sum.inr ([],2)) else some (Sum.inr (a29,0))
theorem q1H:∀(l_n:Nat) (p_School p_Id p_Version p_From:Int) (p_Name:ByteArray) (p_Need_Kind p_Need_N p_Need_Min:Int) (p_Need_Set:List qb) (p_Need_L:List qg) (p_Total p_Own p_Age:Int) (p_Exclude:List (Qy qb)) (s_Worst s_Best s_Pass day:Int) (w1:List Int) (l_0_Course_School:Int) (l_0_Course_Code:ByteArray) (l_0_Credits l_0_Grade l_0_Day:Int) (l_0_Sources:List Int) (l_0_Bundle:Int) (l_0_Path:List Int) (l_1_Course_School:Int) (l_1_Course_Code:ByteArray) (l_1_Credits l_1_Grade l_1_Day:Int) (l_1_Sources:List Int) (l_1_Bundle:Int) (l_1_Path:List Int) (l_2_Course_School:Int) (l_2_Course_Code:ByteArray) (l_2_Credits l_2_Grade l_2_Day l_2_Bundle:Int) (l_2_Path:List Int) (w1_len:Nat),w1_len=w1.length→ev 11 1 [rO 0 8 l_n,R.agg [dI p_School,dI p_Id,dI p_Version,dI p_From,dS p_Name,dI p_Need_Kind,dI p_Need_N,dI p_Need_Min,dL 2 qh p_Need_Set,dL 5 ql p_Need_L,dI p_Total,dI p_Own,dI p_Age,dL 4 (eA2 qh) p_Exclude],R.agg [dI s_Worst,dI s_Best,dI s_Pass],rI day] [(0,B.blk 52 [dI l_0_Course_School,dS l_0_Course_Code,dI l_0_Credits,dI l_0_Grade,dI l_0_Day,dL 1 eI l_0_Sources,dI l_0_Bundle,dL 1 eI l_0_Path,dI l_1_Course_School,dS l_1_Course_Code,dI l_1_Credits,dI l_1_Grade,dI l_1_Day,dL 1 eI l_1_Sources,dI l_1_Bundle,dL 1 eI l_1_Path,dI l_2_Course_School,dS l_2_Course_Code,dI l_2_Credits,dI l_2_Grade,dI l_2_Day,dO 1 1 w1_len,dI l_2_Bundle,dL 1 eI l_2_Path]),(1,bR 3 1 eI w1)]=(Qg l_n (qd.mk p_School p_Id p_Version p_From p_Name (qg.mk p_Need_Kind p_Need_N p_Need_Min p_Need_Set p_Need_L) p_Total p_Own p_Age p_Exclude) (qe.mk s_Worst s_Best s_Pass) day w1 (qa.mk (qb.mk l_0_Course_School l_0_Course_Code) l_0_Credits l_0_Grade l_0_Day l_0_Sources l_0_Bundle l_0_Path) (qa.mk (qb.mk l_1_Course_School l_1_Course_Code) l_1_Credits l_1_Grade l_1_Day l_1_Sources l_1_Bundle l_1_Path) l_2_Course_School l_2_Course_Code l_2_Credits l_2_Grade l_2_Day l_2_Bundle l_2_Path).bind (Sum.elim (fun(e:List qa×Int×qa)=>some (R.tup [rL 8 qc e.1,rI e.2.1],[(0,B.blk 52 [dI l_0_Course_School,dS l_0_Course_Code,dI l_0_Credits,dI l_0_Grade,dI l_0_Day,dL 1 eI l_0_Sources,dI l_0_Bundle,dL 1 eI l_0_Path,dI l_1_Course_School,dS l_1_Course_Code,dI l_1_Credits,dI l_1_Grade,dI l_1_Day,dL 1 eI l_1_Sources,dI l_1_Bundle,dL 1 eI l_1_Path,dI e.2.2.Course.School,dS e.2.2.Course.Code,dI e.2.2.Credits,dI e.2.2.Grade,dI e.2.2.Day,dL 1 eI e.2.2.Sources,dI e.2.2.Bundle,dL 1 eI e.2.2.Path])])) (fun(e:List qa×Int)=>some (R.tup [rL 8 qc e.1,rI e.2],[(0,B.blk 52 [dI l_0_Course_School,dS l_0_Course_Code,dI l_0_Credits,dI l_0_Grade,dI l_0_Day,dL 1 eI l_0_Sources,dI l_0_Bundle,dL 1 eI l_0_Path,dI l_1_Course_School,dS l_1_Course_Code,dI l_1_Credits,dI l_1_Grade,dI l_1_Day,dL 1 eI l_1_Sources,dI l_1_Bundle,dL 1 eI l_1_Path,dI l_2_Course_School,dS l_2_Course_Code,dI l_2_Credits,dI l_2_Grade,dI l_2_Day,dO 1 1 w1.length,dI l_2_Bundle,dL 1 eI l_2_Path]),(1,bR 3 1 eI w1)]))):=
 by
 intro l_n p_School p_Id p_Version p_From p_Name p_Need_Kind p_Need_N p_Need_Min p_Need_Set p_Need_L p_Total p_Own p_Age p_Exclude s_Worst s_Best s_Pass day w1 l_0_Course_School l_0_Course_Code l_0_Credits l_0_Grade l_0_Day l_0_Sources l_0_Bundle l_0_Path l_1_Course_School l_1_Course_Code l_1_Credits l_1_Grade l_1_Day l_1_Sources l_1_Bundle l_1_Path l_2_Course_School l_2_Course_Code l_2_Credits l_2_Grade l_2_Day l_2_Bundle l_2_Path w1_len h0
 subst h0
 rw[qy qjV qqx.2.2.2 qm6]
 have:=qiY;have:=@J5;have:=@Ju;have:=@ZD;have:=@JE;have:=@Jv;have:=@JG;have:=@JI;have:=@JH;have:=@Qg.eq_1;have:=fun(E:Orc) (k:Nat) (s:S)=>q6d (E:=E) (k:=k) (s:=s) qbZ qbe;have:=@q7z.eq_1;have:=@q21;have:=@q6q;have:=@q9a;have:=@q68;have:=@q8Z;have:=@q6g;have:=@q9O;exact gA
theorem q0u:∀(p_School p_Id p_Version p_From:Int) (p_Name:ByteArray) (p_Need_Kind p_Need_N p_Need_Min p_Total p_Own p_Age w10 l_0_Course_School:Int) (l_0_Course_Code:ByteArray) (l_0_Credits l_0_Grade l_0_Day l_0_Sources0 l_0_Bundle l_1_Course_School:Int) (l_1_Course_Code:ByteArray) (l_1_Credits l_1_Grade l_1_Day l_1_Sources0 l_1_Bundle:Int) (l_n:Nat) (s_Worst s_Best s_Pass day l_2_Course_School:Int) (l_2_Course_Code:ByteArray) (l_2_Credits l_2_Grade l_2_Day l_2_Bundle:Int),ev 11 1 [rO 0 8 l_n,R.agg [dI p_School,dI p_Id,dI p_Version,dI p_From,dS p_Name,dI p_Need_Kind,dI p_Need_N,dI p_Need_Min,C.d (D.sl 2 0 []),C.d (D.sl 5 0 []),dI p_Total,dI p_Own,dI p_Age,C.d (D.sl 4 0 [])],R.agg [dI s_Worst,dI s_Best,dI s_Pass],rI day] [(0,B.blk 52 [dI l_0_Course_School,dS l_0_Course_Code,dI l_0_Credits,dI l_0_Grade,dI l_0_Day,C.d (D.sl 1 1 [D.int .i64 l_0_Sources0]),dI l_0_Bundle,C.d (D.sl 1 0 []),dI l_1_Course_School,dS l_1_Course_Code,dI l_1_Credits,dI l_1_Grade,dI l_1_Day,C.d (D.sl 1 1 [D.int .i64 l_1_Sources0]),dI l_1_Bundle,C.d (D.sl 1 0 []),dI l_2_Course_School,dS l_2_Course_Code,dI l_2_Credits,dI l_2_Grade,dI l_2_Day,dO 1 1 1,dI l_2_Bundle,C.d (D.sl 1 0 [])]),(1,B.row 3 1 [dI w10])]=(Qg l_n (qd.mk p_School p_Id p_Version p_From p_Name (qg.mk p_Need_Kind p_Need_N p_Need_Min ([]:List qb) ([]:List qg)) p_Total p_Own p_Age ([]:List (Qy qb))) (qe.mk s_Worst s_Best s_Pass) day [w10] (qa.mk (qb.mk l_0_Course_School l_0_Course_Code) l_0_Credits l_0_Grade l_0_Day [l_0_Sources0] l_0_Bundle ([]:List Int)) (qa.mk (qb.mk l_1_Course_School l_1_Course_Code) l_1_Credits l_1_Grade l_1_Day [l_1_Sources0] l_1_Bundle ([]:List Int)) l_2_Course_School l_2_Course_Code l_2_Credits l_2_Grade l_2_Day l_2_Bundle ([]:List Int)).bind (Sum.elim (fun(e:List qa×Int×qa)=>some (R.tup [rL 8 qc e.1,rI e.2.1],[(0,B.blk 52 [dI l_0_Course_School,dS l_0_Course_Code,dI l_0_Credits,dI l_0_Grade,dI l_0_Day,C.d (D.sl 1 [l_0_Sources0].length ([l_0_Sources0].flatMap eI)),dI l_0_Bundle,C.d (D.sl 1 ([]:List Int).length (([]:List Int).flatMap eI)),dI l_1_Course_School,dS l_1_Course_Code,dI l_1_Credits,dI l_1_Grade,dI l_1_Day,C.d (D.sl 1 [l_1_Sources0].length ([l_1_Sources0].flatMap eI)),dI l_1_Bundle,C.d (D.sl 1 ([]:List Int).length (([]:List Int).flatMap eI)),dI e.2.2.Course.School,dS e.2.2.Course.Code,dI e.2.2.Credits,dI e.2.2.Grade,dI e.2.2.Day,dL 1 eI e.2.2.Sources,dI e.2.2.Bundle,dL 1 eI e.2.2.Path])])) (fun(e:List qa×Int)=>some (R.tup [rL 8 qc e.1,rI e.2],[(0,B.blk 52 [dI l_0_Course_School,dS l_0_Course_Code,dI l_0_Credits,dI l_0_Grade,dI l_0_Day,C.d (D.sl 1 [l_0_Sources0].length ([l_0_Sources0].flatMap eI)),dI l_0_Bundle,C.d (D.sl 1 ([]:List Int).length (([]:List Int).flatMap eI)),dI l_1_Course_School,dS l_1_Course_Code,dI l_1_Credits,dI l_1_Grade,dI l_1_Day,C.d (D.sl 1 [l_1_Sources0].length ([l_1_Sources0].flatMap eI)),dI l_1_Bundle,C.d (D.sl 1 ([]:List Int).length (([]:List Int).flatMap eI)),dI l_2_Course_School,dS l_2_Course_Code,dI l_2_Credits,dI l_2_Grade,dI l_2_Day,C.own 1 1 0 [w10].length,dI l_2_Bundle,C.d (D.sl 1 ([]:List Int).length (([]:List Int).flatMap eI))]),(1,B.row 3 1 (([w10].flatMap eI).map C.d))]))):=by
 intro p_School p_Id p_Version p_From p_Name p_Need_Kind p_Need_N p_Need_Min p_Total p_Own p_Age w10 l_0_Course_School l_0_Course_Code l_0_Credits l_0_Grade l_0_Day l_0_Sources0 l_0_Bundle l_1_Course_School l_1_Course_Code l_1_Credits l_1_Grade l_1_Day l_1_Sources0 l_1_Bundle l_n s_Worst s_Best s_Pass day l_2_Course_School l_2_Course_Code l_2_Credits l_2_Grade l_2_Day l_2_Bundle;have h:=q1H l_n ((qd.mk p_School p_Id p_Version p_From p_Name (qg.mk p_Need_Kind p_Need_N p_Need_Min ([]:List qb) ([]:List qg)) p_Total p_Own p_Age ([]:List (Qy qb)))).School ((qd.mk p_School p_Id p_Version p_From p_Name (qg.mk p_Need_Kind p_Need_N p_Need_Min ([]:List qb) ([]:List qg)) p_Total p_Own p_Age ([]:List (Qy qb)))).Id ((qd.mk p_School p_Id p_Version p_From p_Name (qg.mk p_Need_Kind p_Need_N p_Need_Min ([]:List qb) ([]:List qg)) p_Total p_Own p_Age ([]:List (Qy qb)))).Version ((qd.mk p_School p_Id p_Version p_From p_Name (qg.mk p_Need_Kind p_Need_N p_Need_Min ([]:List qb) ([]:List qg)) p_Total p_Own p_Age ([]:List (Qy qb)))).From ((qd.mk p_School p_Id p_Version p_From p_Name (qg.mk p_Need_Kind p_Need_N p_Need_Min ([]:List qb) ([]:List qg)) p_Total p_Own p_Age ([]:List (Qy qb)))).Name ((qd.mk p_School p_Id p_Version p_From p_Name (qg.mk p_Need_Kind p_Need_N p_Need_Min ([]:List qb) ([]:List qg)) p_Total p_Own p_Age ([]:List (Qy qb)))).Need.Kind ((qd.mk p_School p_Id p_Version p_From p_Name (qg.mk p_Need_Kind p_Need_N p_Need_Min ([]:List qb) ([]:List qg)) p_Total p_Own p_Age ([]:List (Qy qb)))).Need.N ((qd.mk p_School p_Id p_Version p_From p_Name (qg.mk p_Need_Kind p_Need_N p_Need_Min ([]:List qb) ([]:List qg)) p_Total p_Own p_Age ([]:List (Qy qb)))).Need.Min ((qd.mk p_School p_Id p_Version p_From p_Name (qg.mk p_Need_Kind p_Need_N p_Need_Min ([]:List qb) ([]:List qg)) p_Total p_Own p_Age ([]:List (Qy qb)))).Need.Set ((qd.mk p_School p_Id p_Version p_From p_Name (qg.mk p_Need_Kind p_Need_N p_Need_Min ([]:List qb) ([]:List qg)) p_Total p_Own p_Age ([]:List (Qy qb)))).Need.L ((qd.mk p_School p_Id p_Version p_From p_Name (qg.mk p_Need_Kind p_Need_N p_Need_Min ([]:List qb) ([]:List qg)) p_Total p_Own p_Age ([]:List (Qy qb)))).Total ((qd.mk p_School p_Id p_Version p_From p_Name (qg.mk p_Need_Kind p_Need_N p_Need_Min ([]:List qb) ([]:List qg)) p_Total p_Own p_Age ([]:List (Qy qb)))).Own ((qd.mk p_School p_Id p_Version p_From p_Name (qg.mk p_Need_Kind p_Need_N p_Need_Min ([]:List qb) ([]:List qg)) p_Total p_Own p_Age ([]:List (Qy qb)))).Age ((qd.mk p_School p_Id p_Version p_From p_Name (qg.mk p_Need_Kind p_Need_N p_Need_Min ([]:List qb) ([]:List qg)) p_Total p_Own p_Age ([]:List (Qy qb)))).Exclude ((qe.mk s_Worst s_Best s_Pass)).Worst ((qe.mk s_Worst s_Best s_Pass)).Best ((qe.mk s_Worst s_Best s_Pass)).Pass day [w10] ((qa.mk (qb.mk l_0_Course_School l_0_Course_Code) l_0_Credits l_0_Grade l_0_Day [l_0_Sources0] l_0_Bundle ([]:List Int))).Course.School ((qa.mk (qb.mk l_0_Course_School l_0_Course_Code) l_0_Credits l_0_Grade l_0_Day [l_0_Sources0] l_0_Bundle ([]:List Int))).Course.Code ((qa.mk (qb.mk l_0_Course_School l_0_Course_Code) l_0_Credits l_0_Grade l_0_Day [l_0_Sources0] l_0_Bundle ([]:List Int))).Credits ((qa.mk (qb.mk l_0_Course_School l_0_Course_Code) l_0_Credits l_0_Grade l_0_Day [l_0_Sources0] l_0_Bundle ([]:List Int))).Grade ((qa.mk (qb.mk l_0_Course_School l_0_Course_Code) l_0_Credits l_0_Grade l_0_Day [l_0_Sources0] l_0_Bundle ([]:List Int))).Day ((qa.mk (qb.mk l_0_Course_School l_0_Course_Code) l_0_Credits l_0_Grade l_0_Day [l_0_Sources0] l_0_Bundle ([]:List Int))).Sources ((qa.mk (qb.mk l_0_Course_School l_0_Course_Code) l_0_Credits l_0_Grade l_0_Day [l_0_Sources0] l_0_Bundle ([]:List Int))).Bundle ((qa.mk (qb.mk l_0_Course_School l_0_Course_Code) l_0_Credits l_0_Grade l_0_Day [l_0_Sources0] l_0_Bundle ([]:List Int))).Path ((qa.mk (qb.mk l_1_Course_School l_1_Course_Code) l_1_Credits l_1_Grade l_1_Day [l_1_Sources0] l_1_Bundle ([]:List Int))).Course.School ((qa.mk (qb.mk l_1_Course_School l_1_Course_Code) l_1_Credits l_1_Grade l_1_Day [l_1_Sources0] l_1_Bundle ([]:List Int))).Course.Code ((qa.mk (qb.mk l_1_Course_School l_1_Course_Code) l_1_Credits l_1_Grade l_1_Day [l_1_Sources0] l_1_Bundle ([]:List Int))).Credits ((qa.mk (qb.mk l_1_Course_School l_1_Course_Code) l_1_Credits l_1_Grade l_1_Day [l_1_Sources0] l_1_Bundle ([]:List Int))).Grade ((qa.mk (qb.mk l_1_Course_School l_1_Course_Code) l_1_Credits l_1_Grade l_1_Day [l_1_Sources0] l_1_Bundle ([]:List Int))).Day ((qa.mk (qb.mk l_1_Course_School l_1_Course_Code) l_1_Credits l_1_Grade l_1_Day [l_1_Sources0] l_1_Bundle ([]:List Int))).Sources ((qa.mk (qb.mk l_1_Course_School l_1_Course_Code) l_1_Credits l_1_Grade l_1_Day [l_1_Sources0] l_1_Bundle ([]:List Int))).Bundle ((qa.mk (qb.mk l_1_Course_School l_1_Course_Code) l_1_Credits l_1_Grade l_1_Day [l_1_Sources0] l_1_Bundle ([]:List Int))).Path l_2_Course_School l_2_Course_Code l_2_Credits l_2_Grade l_2_Day l_2_Bundle ([]:List Int) _ rfl
 first
  | exact h
  | (simp only[rL,dL,bR,bZ,Nat.reduceAdd] at h;exact h)
theorem quF:okL 18 q9C:=qB (qi qq3) (by kernel_rfl) (by kernel_rfl)
def qtO:=JA_ @q9C.eq_1 (JA_ @Try.f18.eq_1 @qq3)
theorem qpE:lbO 18 4=qcr:=zE (qi qq3) rfl
theorem qoZ:okL 18 qcr:=qT quF (qxI (i:=0) (by kernel_rfl))
def zo (a:List (List Int)) (b:List (List Int)):Int→Option (Int⊕(Unit⊕Unit))|k=>if k<((a.length:Nat):Int) then if 0≤k∧k<((a.length:Nat):Int) then Option.bind a[Int.toNat k]? fun(a2:List Int)=>if 0≤k∧k<((b.length:Nat):Int) then Option.bind b[Int.toNat k]? fun(a3:List Int)=>Option.bind (zD a2 a3) fun(a4:Bool)=>if(!a4)=Bool.true then some (Sum.inr (Sum.inl ())) else some (Sum.inl (w64 (k+1))) else none else none else some (Sum.inr (Sum.inr ()))
theorem q03:∀(a b:List (List Int)) (k:Int),XL2 evo 18 0 4 ⟨[(0,rL 1 (eL 1 eI) a),(1,rL 1 (eL 1 eI) b),(5,rI k)],[],0,29⟩=(qz (zo a b) k).bind (Sum.elim (fun(e:Unit)=>some (Exit.ret,⟨[(4,rB Bool.false)],[],0,29⟩)) (fun(e:Unit)=>some (Exit.exit 0,⟨[(4,R.any)],[],0,29⟩))):=
 fun a b k=>by
  revert k;exact q5l qpE qoZ (fun e=>by rcases e with _|_<;>exact⟨_,rfl,fun h=>by cases h⟩) fun x=>by
   have:=qtO;have:=@qcr.eq_1;have:=@Za;have:=@zo.eq_1;exact gA
def zC (a:List (List Int)) (b:List (List Int)):Option Bool:=if(((a.length:Nat):Int) != ((b.length:Nat):Int))=Bool.true then some Bool.false else Option.bind (qz (zo a b) 0) fun(a2:Sum Unit Unit)=>Sum.elim (fun(a3:Unit)=>some Bool.false) (fun(a4:Unit)=>some Bool.true) a2
theorem q0M:∀(a b:List (List Int)),ev 18 0 [rL 1 (eL 1 eI) a,rL 1 (eL 1 eI) b] []=(zC a b).bind (fun(e:Bool)=>some (rB e,[])):=
 fun a b=>by
  rw[qy qq3 qvb.2.2.2 quF]
  have:=qtO;have:=@q03;have:=@zC.eq_1;exact gA
theorem JO:∀(b00 b01 b02 b10:Int) (a:List (List Int)),ev 18 0 [rL 1 (eL 1 eI) a,R.c (C.d (D.sl 1 2 [D.sl 1 3 [D.int .i64 b00,D.int .i64 b01,D.int .i64 b02],D.sl 1 1 [D.int .i64 b10]]))] []=(zC a [[b00,b01,b02],[b10]]).bind (fun(e:Bool)=>some (rB e,[])):=by
 intro b00 b01 b02 b10 a;have h:=q0M a [[b00,b01,b02],[b10]]
 first
  | exact h
  | (simp only[rL,dL,bR,bZ,Nat.reduceAdd] at h;exact h)
def Z1:Option Bool:=Option.bind (Qh 3 (qd.mk 1 0 0 0 (ByteArray.mk (List.toArray [])) (qg.mk 0 0 0 [] []) 0 0 0 []) (qe.mk 0 100 50) 100 (qa.mk (qb.mk 1 (ByteArray.mk (List.toArray [65,49]))) 5 60 5 [(1:Int)] 0 []) (qa.mk (qb.mk 1 (ByteArray.mk (List.toArray [65,49]))) 5 70 9 [(2:Int)] 0 []) (qa.mk (qb.mk 1 (ByteArray.mk (List.toArray [66,49]))) 5 50 0 [(3:Int)] 0 [])) fun(a:Prod (List qa) Int)=>Option.bind (Qg 3 (qd.mk 1 0 0 0 (ByteArray.mk (List.toArray [])) (qg.mk 0 0 0 [] []) 0 0 0 []) (qe.mk 0 100 50) 100 [(2:Int)] (qa.mk (qb.mk 1 (ByteArray.mk (List.toArray [65,49]))) 5 60 5 [(1:Int)] 0 []) (qa.mk (qb.mk 1 (ByteArray.mk (List.toArray [65,49]))) 5 70 9 [(2:Int)] 0 []) 1 (ByteArray.mk (List.toArray [66,49])) 5 50 0 1 []) fun(a2:Sum (Prod (List qa) (Prod Int qa)) (Prod (List qa) Int))=>Sum.elim (fun(a3:Prod (List qa) (Prod Int qa))=>if(a.2 != 0)=Bool.true then some Bool.false else if(a3.2.1 != 0)=Bool.true then some Bool.false else if(((a.1.length:Nat):Int) != 2)=Bool.true then some Bool.false else if 0<((a.1.length:Nat):Int) then Option.bind a.1[0]? fun(a5:qa)=>if(a5.Grade != 70)=Bool.true then some Bool.false else if 1<((a.1.length:Nat):Int) then Option.bind a.1[1]? fun(a6:qa)=>if(!(ByteArray.toList a6.Course.Code==ByteArray.toList (ByteArray.mk (List.toArray [66,49]))))=Bool.true then some Bool.false else if(((a3.1.length:Nat):Int) != 3)=Bool.true then some Bool.false else Option.bind (QT [qa.mk (qb.mk 1 (ByteArray.mk (List.toArray [65,49]))) 5 60 0 [(1:Int)] 0 [],qa.mk (qb.mk 1 (ByteArray.mk (List.toArray [66,49]))) 10 60 0 [(3:Int)] 0 [],qa.mk (qb.mk 1 (ByteArray.mk (List.toArray [65,49]))) 6 60 0 [(2:Int)] 0 []]) fun(a7:Prod Int Int)=>if(a7.2==0)=Bool.true then if(a7.1==16)=Bool.true then Option.bind (Qq [qa.mk (qb.mk 1 (ByteArray.mk (List.toArray [65,49]))) 5 60 0 [(1:Int)] 0 [],qa.mk (qb.mk 1 (ByteArray.mk (List.toArray [66,49]))) 10 60 0 [(3:Int)] 0 [],qa.mk (qb.mk 1 (ByteArray.mk (List.toArray [65,49]))) 6 60 0 [(2:Int)] 0 [],qa.mk (qb.mk 1 (ByteArray.mk (List.toArray [67,49]))) 5 60 0 [(2:Int)] 1 []]) fun(a8:List (List Int))=>Option.bind (zC a8 [[(0:Int),2,3],[(1:Int)]]) fun(e0:Bool)=>some e0 else some Bool.false else some Bool.false else none else none) (fun(a4:Prod (List qa) Int)=>if(a.2 != 0)=Bool.true then some Bool.false else if(a4.2 != 0)=Bool.true then some Bool.false else if(((a.1.length:Nat):Int) != 2)=Bool.true then some Bool.false else if 0<((a.1.length:Nat):Int) then Option.bind a.1[0]? fun(a9:qa)=>if(a9.Grade != 70)=Bool.true then some Bool.false else if 1<((a.1.length:Nat):Int) then Option.bind a.1[1]? fun(a10:qa)=>if(!(ByteArray.toList a10.Course.Code==ByteArray.toList (ByteArray.mk (List.toArray [66,49]))))=Bool.true then some Bool.false else if(((a4.1.length:Nat):Int) != 3)=Bool.true then some Bool.false else Option.bind (QT [qa.mk (qb.mk 1 (ByteArray.mk (List.toArray [65,49]))) 5 60 0 [(1:Int)] 0 [],qa.mk (qb.mk 1 (ByteArray.mk (List.toArray [66,49]))) 10 60 0 [(3:Int)] 0 [],qa.mk (qb.mk 1 (ByteArray.mk (List.toArray [65,49]))) 6 60 0 [(2:Int)] 0 []]) fun(a11:Prod Int Int)=>if(a11.2==0)=Bool.true then if(a11.1==16)=Bool.true then Option.bind (Qq [qa.mk (qb.mk 1 (ByteArray.mk (List.toArray [65,49]))) 5 60 0 [(1:Int)] 0 [],qa.mk (qb.mk 1 (ByteArray.mk (List.toArray [66,49]))) 10 60 0 [(3:Int)] 0 [],qa.mk (qb.mk 1 (ByteArray.mk (List.toArray [65,49]))) 6 60 0 [(2:Int)] 0 [],qa.mk (qb.mk 1 (ByteArray.mk (List.toArray [67,49]))) 5 60 0 [(2:Int)] 1 []]) fun(a12:List (List Int))=>Option.bind (zC a12 [[(0:Int),2,3],[(1:Int)]]) fun(e02:Bool)=>some e02 else some Bool.false else some Bool.false else none else none) a2
theorem q2Q:ev 8 0 [] []=(Z1).bind (fun(e:Bool)=>some (rB e,[])):=
 by
  rw[qy bd8 pw8.2.2.2 lo8]
  have:=cx8;have:=@q5k;have:=@Jn;have:=@q0v;have:=@q0u;have:=@q27;have:=@q1k;have:=@JO;have:=@Z1.eq_1;exact gA
end

noncomputable section
open Go.RowKit
structure Zl (d:qf):Prop where
 lo:0≤d.At
 hi:d.At≤d.L.length
 len:d.L.length≤9223372036854775807
theorem JK {d:qf} (h:Zl d) {most:Int} (h0:0<most) (h1:most≤1000000):∃v d',qj most d=some (v,d')∧0≤v∧v<most∧Zl d':=by
 obtain⟨a,b,c⟩:=h
 unfold qj
 by_cases he:(d.L.length:Int)≤d.At
 ·exact⟨0,d,if_pos he,Int.le_refl _,h0,⟨a,b,c⟩⟩
 ·obtain⟨x,hx⟩:∃x,d.L[Int.toNat d.At]?=some x:=⟨_,qxJ (by omega)⟩
  have e1:=Int.tmod_lt_of_pos x h0
  have e2 : -most<Int.tmod x most:=by
   have:=Int.tmod_lt_of_pos (-x) h0
   rw[Int.neg_tmod] at this;omega
  have e3:w64 (Int.tmod x most+most)=Int.tmod x most+most:=zH (by omega) (by omega)
  have e4:=Int.tmod_lt_of_pos (Int.tmod x most+most) h0
  have e5:0≤Int.tmod (Int.tmod x most+most) most:=Int.tmod_nonneg _ (by omega)
  have e6:w64 (d.At+1)=d.At+1:=zH (by omega) (by omega)
  refine⟨Int.tmod (Int.tmod x most+most) most,⟨d.L,d.At+1⟩,?_,e5,e4,⟨by show 0≤d.At+1;omega,by show d.At+1≤d.L.length;omega,c⟩⟩
  rw[if_neg he,if_pos ⟨a,by omega⟩,hx,qxH,if_neg (by omega),if_neg (by omega),e3,e6]
def q42:List Int:=[1,1,1,2,2,3]
def qbP (c:qb):Prop:=c.School∈q42∧c.Code∈qw
theorem qfH {α:Type} (l:List α) (i:Int) (h0:0≤i) (h1:i<l.length):∃x,l[Int.toNat i]?=some x∧x∈l:=⟨l[Int.toNat i],qxJ (by omega),qyy _⟩
theorem q7N {d:qf} (h:Zl d):∃c d',Ql d=some (c,d')∧qbP c∧Zl d':=by
 obtain⟨v,d1,e1,a1,b1,h1⟩:=JK h (most:=6) (by omega) (by omega)
 obtain⟨w,d2,e2,a2,b2,h2⟩:=JK h1 (most:=((qw.length:Nat):Int)) (by unfold qw;simp) (by unfold qw;simp)
 obtain⟨x,hx,mx⟩:=qfH q42 v a1 (by simpa [q42] using b1)
 obtain⟨y,hy,my⟩:=qfH qw w a2 b2
 refine⟨⟨x,y⟩,d2,?_,⟨mx,my⟩,h2⟩
 unfold Ql
 rw[e1,qxH,if_pos ⟨a1,b1⟩]
 unfold q42 at hx
 rw[hx,qxH,e2,qxH,if_pos ⟨a2,b2⟩,hy,qxH]
def q8w (a b:qb):Bool:=zB a b
def ceq (a b:qb):Bool:=(a.School==b.School)&&(a.Code.toList==b.Code.toList)
def qkX {α:Type} (l:List α) (k:Nat) (c:α):List α:=l.take k++c::l.drop k
theorem qho {α:Type}:∀(ys l:List α) (k:Nat),k+ys.length≤l.length→spl l k ys=l.take k++(ys++l.drop (k+ys.length))
 | [],l,k,_=>by rw[spl,qyq,Nat.add_zero,qy1,qyv]
 | x::ys,l,k,h=>by
  simp only[qxS] at h ⊢
  rw[spl,qho ys (l.set k x) (k+1) (by rw[qys];omega)]
  have e:l.set k x=l.take k++x::l.drop (k+1):=by rw[List.set_eq_take_append_cons_drop,if_pos (by omega)]
  have hl:(l.take k).length=k:=by rw[qya];omega
  have e1:(l.set k x).take (k+1)=l.take k++[x]:=by
   rw[e,List.take_append,hl,qyN (by omega),show k+1-k=1 by omega];rfl
  have e2:(l.set k x).drop (k+1+ys.length)=l.drop (k+(ys.length+1)):=by
   rw[e,List.drop_append,hl,qyn (by omega),qy1,show k+1+ys.length-k=ys.length+1 by omega,List.drop_succ_cons,qyu]
   congr 1;omega
  rw[e1,e2,qym]
  rfl
theorem qjp {α:Type} (l:List α) (z c:α) (k:Nat) (h:k<l.length):List.set (spl (l++[z]) (k+1) (List.take (min (l.length+1-k) (l.length+1-(k+1))) (List.take (l.length+1-k) (List.drop k (l++[z]))))) k c=qkX l k c:=by
 have e1:List.take (min (l.length+1-k) (l.length+1-(k+1))) (List.take (l.length+1-k) (List.drop k (l++[z])))=l.drop k:=by
  rw[List.take_take,List.drop_append_of_le_length (by omega),show min (min (l.length+1-k) (l.length+1-(k+1))) (l.length+1-k)=l.length-k by omega,List.take_append_of_le_length (by rw[qyt];omega),qyN (by rw[qyt];omega)]
 rw[e1,qho _ _ _ (by rw[qyt,qxO,qxZ];omega)]
 unfold qkX
 have e2:List.drop (k+1+(l.length-k)) (l++[z])=[]:=qyn (by rw[qxO,qxZ];omega)
 rw[qyt,e2,qy2,List.take_append_of_le_length (by omega)]
 rw[List.take_add_one,qxJ h,Option.toList_some,qym,List.set_append_right _ _ (by rw[qya];omega),qya,Nat.min_eq_left (by omega),Nat.sub_self]
 rfl
theorem qf3 {α:Type} (l:List α) (z c:α):List.set (l++[z]) l.length c=qkX l l.length c:=by
 unfold qkX
 rw[List.set_append_right _ _ (qxX _),Nat.sub_self,List.take_length,List.drop_length]
 rfl
def atF (l:List qb) (c:qb):Nat:=(l.takeWhile fun x=>q8w x c).length
theorem qhK (l:List qb) (c:qb):atF l c≤l.length:=by
 unfold atF
 induction l with
 | nil=>simp
 | cons x l ih=>rw[List.takeWhile_cons];split<;>simp<;>omega
theorem qil (out:List qb) (hl:out.length≤1000000) (d:qf) (c:qb) (many k:Int):qz (Qp out d c many k) 0=some ((atF out c:Nat):Int):=by
 have h1:=qal (ε:=Int) (step:=Qp out d c many k) out (fun(_:Unit) i=>(i:Int)) (fun i _ x=>if q8w x c=true then .inl () else .inr (i:Int)) (fun _=>(out.length:Int)) (fun _ i x hx=>by
   have hi:=Qb hx
   unfold Qp
   rw[if_pos (by omega),if_pos ⟨by omega,by omega⟩,qxK,hx,qxH,q6b hi (by omega)]
   show(if q8w x c=true then _ else _)=_
   cases q8w x c<;>simp) (fun _=>by
   unfold Qp
   rw[if_neg (by omega)]) ()
 rw[show((0:Nat):Int)=0 from rfl] at h1
 rw[h1]
 congr 1
 have:∀(l:List qb) (i:Nat) (n:Nat),i+l.length=n→q8I (ε:=Int) (fun i (_:Unit) (x:qb)=>if q8w x c=true then .inl () else .inr (i:Int)) (fun _=>(n:Int)) l i ()=((i+atF l c:Nat):Int):=by
  intro l
  induction l with
  | nil=>intro i n h;simp at h;unfold q8I atF;simp[h]
  | cons x l ih=>
   intro i n h
   simp only[qxS] at h
   unfold q8I
   by_cases hx:q8w x c=true
   ·have e:atF (x::l) c=atF l c+1:=by unfold atF;rw[List.takeWhile_cons,if_pos hx];rfl
    simp only[hx,if_true]
    rw[ih (i+1) n (by omega),e]
    omega
   ·have e:atF (x::l) c=0:=by unfold atF;rw[List.takeWhile_cons,if_neg hx];rfl
    have hx':q8w x c=false:=by simpa using hx
    simp only[hx',Bool.false_eq_true,if_false]
    rw[e];rfl
 have:=this out 0 out.length (by simp)
 simpa using this
def qkW (l:List qb) (c:qb):List qb:=if(l[atF l c]?).any (fun x=>ceq x c)=true then l else qkX l (atF l c) c
theorem qkF (l:List qb) (c:qb):l.length≤(qkW l c).length∧(qkW l c).length≤l.length+1∧1≤(qkW l c).length:=by
 have h:=qhK l c
 unfold qkW
 split
 ·rename_i h2
  refine⟨qxX _,by omega,?_⟩
  cases l with
  | nil=>simp at h2
  | cons x l=>simp
 ·unfold qkX
  simp only[qxO,qxS,qya,qyt]
  omega
theorem qde (out:List qb) (hl:out.length≤1000) {d:qf} (hd:Zl d) (many:Int) (k:Nat) (hk:(k:Int)<many) (hk2:k≤1000):∃c d',qbP c∧Zl d'∧zM many (out,d,(k:Int))=some (.inl (qkW out c,d',((k+1:Nat):Int))):=by
 obtain⟨c,d',h1,h2,h3⟩:=q7N hd
 refine⟨c,d',h2,h3,?_⟩
 have hML:100000≤maxLen:=by unfold maxLen;omega
 have hat:=qhK out c
 unfold zM
 simp only
 rw[if_pos hk,h1,qxH]
 simp only
 rw[qil out (by omega),qxH]
 have hwk:w64 ((k:Int)+1)=((k+1:Nat):Int):=by rw[zH (by omega) (by omega)];omega
 have hwa:w64 (((atF out c:Nat):Int)+1)=((atF out c+1:Nat):Int):=by rw[zH (by omega) (by omega)];omega
 rw[hwk,hwa]
 simp only[qxK,qya,qyt,qxO,qxS,qyq]
 unfold qkW
 by_cases hlt:atF out c<out.length
 ·obtain⟨x,hx⟩:∃x,out[atF out c]?=some x:=⟨_,qxJ hlt⟩
  rw[if_pos (by omega),if_pos ⟨by omega,by omega⟩,hx,qxH]
  simp only[Option.any_some]
  by_cases hc:ceq x c=true
  ·have hc2:=hc
   unfold ceq at hc2
   simp only[qyd] at hc2
   rw[if_pos hc2,if_pos hc]
  ·have hc2:¬ ((x.School==c.School)=true∧(x.Code.toList==c.Code.toList)=true):=fun h=>hc (by unfold ceq;rw[h.1,h.2];rfl)
   rw[if_neg hc2,if_neg hc]
   repeat (first|rw[if_pos (by omega)]|rw[if_neg (by omega)])
   rw[qjp _ _ _ _ hlt]
 ·have he:atF out c=out.length:=by omega
  have hnone:out[out.length]?=none:=qyf (qxX _)
  rw[he,hnone]
  simp only[Option.any_none,Bool.false_eq_true,if_false]
  repeat (first|rw[if_pos (by omega)]|rw[if_neg (by omega)])
  rw[qf3]
theorem quQ {d:qf} (hd:Zl d):∃S d',Q3 d=some (S,d')∧Zl d':=by
 obtain⟨v,d1,e1,a1,b1,h1⟩:=JK hd (most:=3) (by omega) (by omega)
 obtain⟨m,rfl⟩:∃m:Nat,v=(m:Int):=⟨v.toNat,by omega⟩
 have hw:w64 (1+(m:Int))=((m+1:Nat):Int):=by rw[zH (by omega) (by omega)];omega
 have key:∀(j k:Nat) (out:List qb) (d:qf),j+k=m+1→Zl d→out.length≤k→∃S d',qz (zM ((m+1:Nat):Int)) (out,d,(k:Int))=some (S,d')∧Zl d':=by
  intro j
  induction j with
  | zero=>
   intro k out d hk hd hl1
   refine⟨out,d,qY ?_,hd⟩
   unfold zM
   simp only
   rw[if_neg (by omega)]
  | succ j ih=>
   intro k out d hk hd hl1
   obtain⟨c,d',g1,g2,g3⟩:=qde out (by omega) hd ((m+1:Nat):Int) k (by omega) (by omega)
   obtain⟨p1,p2,p3⟩:=qkF out c
   rw[zZ g3]
   exact ih (k+1) _ d' (by omega) g2 (by omega)
 obtain⟨S,d',g1,g2⟩:=key (m+1) 0 [] d1 (by omega) h1 (by simp)
 refine⟨S,d',?_,g2⟩
 unfold Q3
 rw[e1,qxH,hw]
 rw[show((0:Nat):Int)=0 from rfl] at g1
 simp only
 rw[g1,qxH]
def qdq (d:qf):Option (qg×qf):=Option.bind (qj (3:Int) d) fun a3=>if(a3.1==(0:Int))=Bool.true then Option.bind (qj (12:Int) a3.2) fun a4=>Option.bind (qj (3:Int) a4.2) fun a5=>if(0:Int)≤a5.1∧a5.1<(3:Int) then Option.bind [(0:Int),(50:Int),(60:Int)][Int.toNat a5.1]? fun a6=>Option.bind (Q3 a5.2) fun a7=>some (qg.mk (2:Int) (w64 ((1:Int)+a4.1)) a6 a7.1 [],a7.2) else none else Option.bind (qj (4:Int) a3.2) fun a8=>if(0:Int)≤a8.1∧a8.1<(4:Int) then Option.bind [(0:Int),(50:Int),(60:Int),(80:Int)][Int.toNat a8.1]? fun a9=>Option.bind (Q3 a8.2) fun a10=>some (qg.mk (1:Int) (0:Int) a9 a10.1 [],a10.2) else none
theorem q9q {d:qf} (hd:Zl d):∃n d',qdq d=some (n,d')∧Zl d':=by
 obtain⟨v,d1,e1,a1,b1,h1⟩:=JK hd (most:=3) (by omega) (by omega)
 unfold qdq
 rw[e1,qxH]
 simp only
 by_cases hv:v=0
 ·obtain⟨w,d2,e2,a2,b2,h2⟩:=JK h1 (most:=12) (by omega) (by omega)
  obtain⟨u,d3,e3,a3,b3,h3⟩:=JK h2 (most:=3) (by omega) (by omega)
  obtain⟨x,hx,mx⟩:=qfH [(0:Int),50,60] u a3 (by simpa using b3)
  obtain⟨S,d4,e4,h4⟩:=quQ h3
  have hw:w64 (1+w)=1+w:=zH (by omega) (by omega)
  refine⟨⟨2,1+w,x,S,[]⟩,d4,?_,h4⟩
  rw[if_pos (by simp[hv]),e2,qxH]
  simp only
  rw[e3,qxH]
  simp only
  rw[if_pos ⟨a3,b3⟩,hx,qxH,e4,qxH,hw]
 ·obtain⟨u,d3,e3,a3,b3,h3⟩:=JK h1 (most:=4) (by omega) (by omega)
  obtain⟨x,hx,mx⟩:=qfH [(0:Int),50,60,80] u a3 (by simpa using b3)
  obtain⟨S,d4,e4,h4⟩:=quQ h3
  refine⟨⟨1,0,x,S,[]⟩,d4,?_,h4⟩
  rw[if_neg (by simpa using hv),e3,qxH]
  simp only
  rw[if_pos ⟨a3,b3⟩,hx,qxH,e4,qxH]
theorem q3r (rF:(Int×Int×qf)→Option (qg×qf)) (x1 x2:Int) (v:qf):QW rF (x1,x2,v)=(qj 6 v).bind fun a2=>
  if x1≤0 then qdq a2.2 else if x2<2 then qdq a2.2 else if a2.1<2 then qdq a2.2 else
  Option.bind (qj (min (3:Int) x2) a2.2) fun a27=>
  Option.bind (qz (zf rF (0:Int) (0:Int) (0:Int) (3:Int) (0:Int) (0:Int) x1 x2 a2.1 (w64 ((1:Int)+a27.1))) ([],(a27.2,(0:Int)))) fun a28=>
  if(3:Int)<a2.1 then Option.bind (qj (w64 ((1:Int)+a27.1)) a28.2) fun a29=>
   some (qg.mk (4:Int) (w64 ((1:Int)+a29.1)) (0:Int) [] a28.1,a29.2)
  else some (qg.mk (3:Int) (0:Int) (0:Int) [] a28.1,a28.2):=rfl
theorem qdz:∀(deep leaves:Nat) (d:qf),deep≤10→leaves≤100→Zl d→∃n d',zF ((deep:Int),(leaves:Int),d)=some (n,d')∧Zl d':=by
 intro deep
 induction deep with
 | zero=>
  intro leaves d _ _ hd
  obtain⟨v,d1,e1,a1,b1,h1⟩:=JK hd (most:=6) (by omega) (by omega)
  obtain⟨n,d',g1,g3⟩:=q9q h1
  refine⟨n,d',?_,g3⟩
  rw[q0F,q3r,e1,qxH,if_pos (by omega)]
  exact g1
 | succ deep ih=>
  intro leaves d hdp hlv hd
  obtain⟨v,d1,e1,a1,b1,h1⟩:=JK hd (most:=6) (by omega) (by omega)
  obtain⟨n0,d0,g1,g3⟩:=q9q h1
  rw[q0F,q3r,e1,qxH,if_neg (by omega)]
  by_cases hl:leaves<2
  ·exact⟨n0,d0,by rw[if_pos (by omega)];exact g1,g3⟩
  ·rw[if_neg (by omega)]
   by_cases hv:v<2
   ·exact⟨n0,d0,by rw[if_pos hv];exact g1,g3⟩
   ·rw[if_neg hv]
    clear g1 g3 n0 d0
    obtain⟨w,d2,e2,a2,b2,h2⟩:=JK h1 (most:=min 3 (leaves:Int)) (by omega) (by omega)
    simp only
    rw[e2,qxH]
    simp only
    obtain⟨m,hm⟩:∃m:Nat,(m:Int)=1+w:=⟨(1+w).toNat,by omega⟩
    have hw:w64 (1+w)=(m:Int):=by rw[zH (by omega) (by omega)];omega
    rw[hw]
    have hm1:1≤m:=by omega
    have hm3:m≤3:=by omega
    have hml:m≤leaves:=by omega
    obtain⟨q,hq⟩:∃q,q=leaves / m:=⟨_,rfl⟩
    have hq1:1≤q:=by rw[hq];exact(Nat.le_div_iff_mul_le (by omega)).2 (by omega)
    have hqm:m*q≤leaves:=by rw[hq];exact Nat.mul_div_le _ _
    have hq2:q≤leaves:=by rw[hq];exact Nat.div_le_self _ _
    have hML:100000≤maxLen:=by unfold maxLen;omega
    have hdiv:w64 (Int.tdiv (leaves:Int) (m:Int))=(q:Int):=by
     rw[←Int.ofNat_tdiv,←hq,zH (by omega) (by omega)]
    have hdeep:w64 (((deep+1:Nat):Int)-1)=(deep:Int):=by rw[zH (by omega) (by omega)];omega
    have key:∀(j i:Nat) (l:List qg) (d:qf),j+i=m→l.length=i→Zl d→∃l' d',qz (zf zF 0 0 0 3 0 0 ((deep+1:Nat):Int) (leaves:Int) v (m:Int)) (l,d,(i:Int))=some (l',d')∧l'.length=m∧Zl d':=by
     intro j
     induction j with
     | zero=>
      intro i l d hi hl hd
      refine⟨l,d,qY ?_,by omega,hd⟩
      unfold zf
      simp only
      rw[if_neg (by omega)]
     | succ j ihj=>
      intro i l d hi hl hd
      obtain⟨n,d',q1,q3⟩:=ih q d (by omega) (by omega) hd
      have hs:zf zF 0 0 0 3 0 0 ((deep+1:Nat):Int) (leaves:Int) v (m:Int) (l,d,(i:Int))=some (.inl (l++[n],d',((i+1:Nat):Int))):=by
       unfold zf
       simp only
       rw[if_pos (by omega),if_neg (by omega),hdiv,hdeep,q1,qxH]
       simp only
       rw[if_pos ⟨by omega,by omega⟩,zH (by omega) (by omega)]
       rfl
      rw[zZ hs]
      exact ihj (i+1) (l++[n]) d' (by omega) (by simp[hl]) q3
    obtain⟨l,d3,q1,q2,q4⟩:=key m 0 [] d2 (by omega) rfl h2
    rw[show((0:Nat):Int)=0 from rfl] at q1
    rw[q1,qxH]
    by_cases hv3:(3:Int)<v
    ·obtain⟨u,d4,e4,a4,b4,h4⟩:=JK q4 (most:=(m:Int)) (by omega) (by omega)
     have hwu:w64 (1+u)=1+u:=zH (by omega) (by omega)
     simp only
     rw[if_pos hv3,e4,qxH,hwu]
     exact⟨_,d4,rfl,h4⟩
    ·simp only
     rw[if_neg hv3]
     exact⟨_,d3,rfl,q4⟩
abbrev nmL:List ByteArray:=[ByteArray.mk (List.toArray [77,117,115,105,99]),ByteArray.mk (List.toArray [76,97,119]),ByteArray.mk (List.toArray [79,108,100,32,109,97,112,115])]
abbrev agL:List Int:=[(0:Int),(0:Int),(0:Int),(2:Int),(5:Int)]
theorem qok (l:List Int) (hl:l.length≤9223372036854775807):∃p,qN l=some p:=by
 obtain⟨v1,d1,e1,a1,b1,h1⟩:=JK (d:=⟨l,0⟩) ⟨by show(0:Int)≤0;omega,by show(0:Int)≤(l.length:Int);omega,hl⟩ (most:=3) (by omega) (by omega)
 obtain⟨v2,d2,e2,a2,b2,h2⟩:=JK h1 (most:=3) (by omega) (by omega)
 obtain⟨v3,d3,e3,a3,b3,h3⟩:=JK h2 (most:=5) (by omega) (by omega)
 obtain⟨v4,d4,e4,a4,b4,h4⟩:=JK h3 (most:=3) (by omega) (by omega)
 obtain⟨v6,d6,e6,a6,b6,h6⟩:=JK h4 (most:=20) (by omega) (by omega)
 obtain⟨v7,d7,e7,a7,b7,h7⟩:=JK h6 (most:=3) (by omega) (by omega)
 obtain⟨v8,d8,e8,a8,b8,h8⟩:=JK h7 (most:=6) (by omega) (by omega)
 obtain⟨v9,d9,e9,a9,b9,h9⟩:=JK h8 (most:=5) (by omega) (by omega)
 obtain⟨v11,d11,e11,a11,b11,h11⟩:=JK h9 (most:=3) (by omega) (by omega)
 obtain⟨c1,d12,e12,m12,h12⟩:=q7N h11
 obtain⟨c2,d13,e13,m13,h13⟩:=q7N h12
 obtain⟨n1,d14,e14,h14⟩:=qdz 3 6 d13 (by omega) (by omega) h13
 obtain⟨n2,d15,e15,h15⟩:=qdz 3 6 d11 (by omega) (by omega) h11
 obtain⟨nm,g5,q5⟩:=qfH nmL v4 a4 (by show v4<((3:Nat):Int);omega)
 obtain⟨ag,g10,q10⟩:=qfH agL v9 a9 (by show v9<((5:Nat):Int);omega)
 have w1:w64 (1+v1)=1+v1:=zH (by omega) (by omega)
 have w2:w64 (1+v2)=1+v2:=zH (by omega) (by omega)
 have w3:w64 (100*v3)=100*v3:=zH (by omega) (by omega)
 have hm:0≤v7*v8∧v7*v8≤10:=by
  have hv7:v7=0∨v7=1∨v7=2:=by omega
  rcases hv7 with rfl|rfl|rfl<;>omega
 have w4:w64 (v7*v8)=v7*v8:=zH (by omega) (by omega)
 have e14':zF ((3:Int),((6:Int),d13))=some (n1,d14):=e14
 have e15':zF ((3:Int),((6:Int),d11))=some (n2,d15):=e15
 unfold qN
 rw[e1,qxH];dsimp only
 rw[e2,qxH];dsimp only
 rw[e3,qxH];dsimp only
 rw[e4,qxH];dsimp only
 rw[if_pos ⟨a4,b4⟩,g5,qxH,e6,qxH];dsimp only
 rw[e7,qxH];dsimp only
 rw[e8,qxH];dsimp only
 rw[e9,qxH];dsimp only
 rw[if_pos ⟨a9,b9⟩,g10,qxH,e11,qxH];dsimp only
 rw[w1,w2,w3,w4]
 by_cases h0:v11=0
 ·rw[if_pos (by simpa using h0),e12,qxH];dsimp only
  rw[e13,qxH];dsimp only
  by_cases hp:zB c1 c2=true
  ·rw[if_pos hp,e14',qxH]
   exact⟨_,rfl⟩
  ·rw[if_neg hp,e14',qxH]
   exact⟨_,rfl⟩
 ·rw[if_neg (by simpa using h0),e15',qxH]
  exact⟨_,rfl⟩
end
noncomputable section
open Go.RowKit
section
variable {α ε:Type} {step:Int→Option (Int⊕ε)} (l:List α)
theorem q2t (q:α→Bool) (e0 e1:ε) (hs:∀(i:Nat) (a:α),l[i]?=some a→step (i:Int)=some (if q a=true then .inl ((i+1:Nat):Int) else .inr e0)) (he:step ((l.length:Nat):Int)=some (.inr e1)) :
  qz step (0:Int)=some (if l.all q=true then e1 else e0):=by
 have key:∀(r:List α) (i:Nat),r.length+i=l.length→(∀j,r[j]?=l[i+j]?)→qz step (i:Int)=some (if r.all q=true then e1 else e0):=by
  intro r
  induction r with
  | nil=>
   intro i hi _
   have:i=l.length:=by simpa using hi
   subst this
   exact qY he
  | cons a r ih=>
   intro i hi hj
   have ha:l[i]?=some a:=by have:=hj 0;rw[Nat.add_zero] at this;exact this.symm
   have h1:=hs i a ha
   rw[List.all_cons]
   cases hq:q a
   ·rw[hq,if_neg (by decide)] at h1
    exact qY h1
   ·rw[hq,if_pos rfl] at h1
    rw[zZ h1,ih (i+1) (by simp only[qxS] at hi;omega) (fun j=>by have:=hj (j+1);rw[qy6] at this;rw[this];congr 1;omega),qye]
 exact key l 0 (by omega) fun j=>by rw[qy5]
theorem q2d (q:α→Bool) (mk:Nat→ε) (e1:ε) (hs:∀(i:Nat) (a:α),l[i]?=some a→step (i:Int)=some (if q a=true then .inr (mk i) else .inl ((i+1:Nat):Int))) (he:step ((l.length:Nat):Int)=some (.inr e1)) :
  (l.any q=true∧∃i,qz step (0:Int)=some (mk i))∨(l.any q=false∧qz step (0:Int)=some e1):=by
 have key:∀(r:List α) (i:Nat),r.length+i=l.length→(∀j,r[j]?=l[i+j]?)→(r.any q=true∧∃k,qz step (i:Int)=some (mk k))∨(r.any q=false∧qz step (i:Int)=some e1):=by
  intro r
  induction r with
  | nil=>
   intro i hi _
   have:i=l.length:=by simpa using hi
   subst this
   exact .inr ⟨rfl,qY he⟩
  | cons a r ih=>
   intro i hi hj
   have ha:l[i]?=some a:=by have:=hj 0;rw[Nat.add_zero] at this;exact this.symm
   have h1:=hs i a ha
   rw[List.any_cons]
   cases hq:q a
   ·rw[hq,if_neg (by decide)] at h1
    rw[zZ h1,Bool.false_or]
    exact ih (i+1) (by simp only[qxS] at hi;omega) (fun j=>by have:=hj (j+1);rw[qy6] at this;rw[this];congr 1;omega)
   ·rw[hq,if_pos rfl] at h1
    exact .inl ⟨rfl,i,qY h1⟩
 exact key l 0 (by omega) fun j=>by rw[qy5]
end
theorem Qe {i n:Nat} (h:i<n) (hn:n≤1000000):w64 ((i:Int)+1)=((i+1:Nat):Int):=q6b h (by omega)
theorem q3k (s:List Int) (hs:s.length≤1000000) (v:Int):qV s v=some (s.any fun x=>v==x):=by
 have h:=q2d (step:=qU s v ((s.length:Nat):Int)) s (fun x=>v==x) (fun i => .inl (i:Int)) (.inr ()) (fun i a ha=>by
  have hi:=Qb ha
  unfold qU
  rw[if_pos (by omega),if_pos ⟨by omega,by omega⟩,qxK,ha,qxH,Qe hi hs]
  split<;>rfl) (by
  unfold qU
  rw[if_neg (by omega)])
 unfold qV Qc
 rcases h with ⟨h1,i,h2⟩|⟨h1,h2⟩
 ·rw[h2,qxH,Sum.elim_inl,qxH,h1,qyH (by omega)]
 ·rw[h2,qxH,Sum.elim_inr,qxH,h1,decide_eq_false (by omega)]
def q7j (a b:List Int):Bool:=a.any fun x=>b.any fun y=>x==y
theorem qjD (a b:List Int) (ha:a.length≤1000000) (hb:b.length≤1000000):Q9 a b=some (q7j a b):=by
 have h:=q2d (step:=qJ b a ((a.length:Nat):Int)) a (fun x=>b.any fun y=>x==y) (fun i => .inl (i:Int)) (.inr ()) (fun i x hx=>by
  have hi:=Qb hx
  unfold qJ QL
  rw[if_pos (by omega),if_pos ⟨by omega,by omega⟩,qxK,hx,qxH,q3k b hb,qxH,qxH,Qe hi ha]
  split<;>rfl) (by
  unfold qJ
  rw[if_neg (by omega)])
 unfold Q9 zi zG q7j
 rcases h with ⟨h1,i,h2⟩|⟨h1,h2⟩
 ·rw[h2,qxH,Sum.elim_inl,qxH,h1,qyH (by omega),qxH]
 ·rw[h2,qxH,Sum.elim_inr,qxH,h1,decide_eq_false (by omega),qxH]
theorem q7t (a b:List Int) (ha:a.length≤1000000):zc a b=some (decide (a=b)):=by
 unfold zc
 by_cases hl:a.length=b.length
 ·rw[if_neg (by rw[hl];simp)]
  have key:∀(r q:List Int) (i:Nat),r.length+i=a.length→q.length=r.length→(∀j,r[j]?=a[i+j]?)→(∀j,q[j]?=b[i+j]?)→qz (qL a b ((a.length:Nat):Int)) (i:Int)=some (if r=q then .inr () else .inl ()):=by
   intro r
   induction r with
   | nil=>
    intro q i hi hq _ _
    obtain rfl:=qy0 hq
    have hi:i=a.length:=by simpa using hi
    refine qY ?_
    unfold qL
    rw[if_neg (by omega),if_pos rfl]
   | cons x r ih=>
    intro q i hi hq hr hb
    cases q with
    | nil=>cases hq
    | cons y q=>
     simp only[qxS] at hi hq
     have hx:a[i]?=some x:=by have:=hr 0;rw[Nat.add_zero] at this;exact this.symm
     have hy:b[i]?=some y:=by have:=hb 0;rw[Nat.add_zero] at this;exact this.symm
     have e:qL a b ((a.length:Nat):Int) (i:Int)=some (if(x != y)=true then .inr (.inl ()) else .inl ((i+1:Nat):Int)):=by
      unfold qL
      rw[if_pos (by omega),if_pos ⟨by omega,by omega⟩,qxK,hx,qxH,if_pos ⟨by omega,by omega⟩,hy,qxH,Qe (Qb hx) ha]
      split<;>rfl
     by_cases hxy:x=y
     ·subst hxy
      rw[if_neg (by simp)] at e
      rw[zZ e,ih q (i+1) (by omega) (by omega) (fun j=>by have:=hr (j+1);rw[qy6] at this;rw[this];congr 1;omega) (fun j=>by have:=hb (j+1);rw[qy6] at this;rw[this];congr 1;omega)]
      simp
     ·rw[if_pos (by simpa using hxy)] at e
      rw[qY e,if_neg (fun h=>hxy (by injection h))]
  have h:=key a b 0 (by omega) hl.symm (fun j=>by rw[qy5]) (fun j=>by rw[qy5])
  change Option.bind (qz _ ((0:Nat):Int)) _=_
  rw[h,qxH]
  by_cases e:a=b
  ·rw[if_pos e,Sum.elim_inr,qyH e]
  ·rw[if_neg e,Sum.elim_inl,decide_eq_false e]
 ·rw[if_pos (by simpa using fun h=>hl (by omega)),decide_eq_false (fun e=>hl (by rw[e]))]
def z8 (a:qa):Prop:=a.Sources.length≤1000∧a.Path.length≤1000
def J8 (a b:qa):Bool := !ceq a.Course b.Course&&((decide (0<a.Bundle)&&a.Bundle==b.Bundle&&decide (a.Path=b.Path)) || !q7j a.Sources b.Sources)
theorem q9E {a b:qa} (ha:z8 a) (hb:z8 b):Zd a b=some (J8 a b):=by
 have h1:=ha.1;have h2:=ha.2;have h3:=hb.1
 unfold Zd J8
 rw[q7t _ _ (by omega),qjD _ _ (by omega) (by omega)]
 simp only[qxH]
 by_cases hc:ceq a.Course b.Course=true
 ·rw[if_pos (by unfold ceq at hc;rw[qyd] at hc;exact hc),hc];rfl
 ·rw[if_neg (by unfold ceq at hc;rw[qyd] at hc;exact hc),qy9.2 hc]
  by_cases h0:0<a.Bundle
  ·rw[if_pos h0,qyH h0]
   cases hbd:a.Bundle==b.Bundle
   ·rw[if_neg (by decide)];simp
   ·rw[if_pos rfl]
    cases hp:decide (a.Path=b.Path)
    ·rw[if_neg (by decide)];simp
    ·rw[if_pos rfl];simp
  ·rw[if_neg h0,decide_eq_false h0];simp
def qbo (p:qd) (a:qa) (day:Int):Bool:=(qv p a day).getD false
theorem qdN (d:Int):∃v,QR d=some v:=by
 have h:∀n,∃v,Qz n 100=some v:=fun n=>by
  unfold Qz
  rw[if_neg (by decide),if_neg (by decide),if_neg (by decide)]
  exact⟨_,rfl⟩
 unfold QR
 split
 ·obtain⟨v,hv⟩:=h (w64 (d+100));rw[hv];exact⟨_,rfl⟩
 ·obtain⟨v,hv⟩:=h d;rw[hv];exact⟨_,rfl⟩
theorem qhm (p:qd) (a:qa) (day:Int):qv p a day=some (qbo p a day):=by
 obtain⟨v,hv⟩:=qdN day
 obtain⟨w,hw⟩:=qdN a.Day
 have:∃b,qv p a day=some b:=by
  unfold qv
  rw[hv,hw]
  split<;>exact⟨_,rfl⟩
 obtain⟨b,hb⟩:=this
 unfold qbo
 rw[hb];rfl
def qjF (l:List qa):Int:=l.foldl (fun n a=>w64 (n+a.Credits)) 0
theorem q5F (l:List qa) (hl:l.length≤1000):Z4 l=some (qjF l):=by
 have h:=q3g (step:=Q7 l ((l.length:Nat):Int)) l (fun(b:Int) k=>(b,(k:Int))) (fun b a=>w64 (b+a.Credits)) (fun b=>b) (fun b k a ha=>by
  have hi:=Qb ha
  unfold Q7
  dsimp only
  rw[if_pos (by omega),if_pos ⟨by omega,by omega⟩,qxK,ha,qxH,Qe hi (by omega)]) (fun b=>by
  unfold Q7
  dsimp only
  rw[if_neg (by omega)]) 0
 unfold Z4
 change Option.bind (qz _ ((0:Int),((0:Nat):Int))) _=_
 rw[h];rfl
theorem q94 (x m:Int) (h0:0<m) (h1:m≤1000000):∃v,Q1 x m=some v∧0≤v∧v<m:=by
 have e1:=Int.tmod_lt_of_pos x h0
 have e2 : -m<Int.tmod x m:=by
  have:=Int.tmod_lt_of_pos (-x) h0
  rw[Int.neg_tmod] at this;omega
 have e3:w64 (Int.tmod x m+m)=Int.tmod x m+m:=zH (by omega) (by omega)
 refine⟨Int.tmod (Int.tmod x m+m) m,?_,Int.tmod_nonneg _ (by omega),Int.tmod_lt_of_pos _ h0⟩
 unfold Q1
 rw[if_neg (by omega),if_neg (by omega),e3]
theorem q4I {d:qf} (h:Zl d) {most:Int} (h0:0<most) (h1:most≤1000000):∃v d',qr most d=some (v,d')∧0≤v∧v<most∧Zl d':=by
 obtain⟨a,b,c⟩:=h
 unfold qr
 by_cases he:(d.L.length:Int)≤d.At
 ·exact⟨0,d,if_pos he,Int.le_refl _,h0,⟨a,b,c⟩⟩
 ·obtain⟨x,hx⟩:∃x,d.L[Int.toNat d.At]?=some x:=⟨_,qxJ (by omega)⟩
  obtain⟨v,e1,e2,e3⟩:=q94 x most h0 h1
  have e6:w64 (d.At+1)=d.At+1:=zH (by omega) (by omega)
  have e7:w64 (d.At+1-1)=d.At:=by rw[zH (by omega) (by omega)];omega
  refine⟨v,⟨d.L,d.At+1⟩,?_,e2,e3,⟨by show 0≤d.At+1;omega,by show d.At+1≤d.L.length;omega,c⟩⟩
  rw[if_neg he,e6,e7,if_pos ⟨a,by omega⟩,hx,qxH,e1,qxH]
end
noncomputable section
open Go.RowKit
structure q8d (j:Nat) (a:qa):Prop where
 src:a.Sources.length≤2+j
 pth:a.Path.length≤1+j
 crd:0≤a.Credits∧a.Credits≤40
 day:0≤a.Day∧a.Day≤1000
theorem q8d.fit {j:Nat} {a:qa} (h:q8d j a) (hj:j≤900):z8 a:=⟨by have:=h.src;omega,by have:=h.pth;omega⟩
theorem q8d.mono {j j':Nat} {a:qa} (h:q8d j a) (hj:j≤j'):q8d j' a:=⟨by have:=h.src;omega,by have:=h.pth;omega,h.crd,h.day⟩
theorem q6R (t0:List (List Int)) (hq:∀q∈t0,q.length≤9223372036854775807) (l:List qa) (k:Nat) (hl:l.length=k) (hk:k<t0.length) (h8:k<8) :
  ∃a,q8d 0 a∧zQ t0 (l,(k:Int))=some (.inl (l++[a],((k+1:Nat):Int))):=by
 have hML:100000≤maxLen:=by unfold maxLen;omega
 obtain⟨q,hqk⟩:∃q,t0[k]?=some q:=⟨_,qxJ hk⟩
 have hd:Zl ⟨q,0⟩:=⟨by show(0:Int)≤0;omega,by show(0:Int)≤(q.length:Int);omega,hq q (qxI hqk)⟩
 obtain⟨v1,d1,e1,a1,b1,h1⟩:=q4I hd (most:=6) (by omega) (by omega)
 obtain⟨c,hc,_⟩:=qfH qw v1 a1 (by unfold qw;simpa using b1)
 obtain⟨v2,d2,e2,a2,b2,h2⟩:=q4I h1 (most:=3) (by omega) (by omega)
 obtain⟨cr,hcr,mcr⟩:=qfH [(5:Int),6,10] v2 a2 (by simpa using b2)
 obtain⟨v3,d3,e3,a3,b3,h3⟩:=q4I h2 (most:=11) (by omega) (by omega)
 obtain⟨v4,d4,e4,a4,b4,h4⟩:=q4I h3 (most:=60) (by omega) (by omega)
 obtain⟨v5,d5,e5,a5,b5,h5⟩:=q4I h4 (most:=9) (by omega) (by omega)
 obtain⟨v6,d6,e6,a6,b6,h6⟩:=q4I h5 (most:=3) (by omega) (by omega)
 obtain⟨v7,d7,e7,a7,b7,h7⟩:=q4I h6 (most:=3) (by omega) (by omega)
 obtain⟨v8,d8,e8,a8,b8,h8'⟩:=q4I h7 (most:=4) (by omega) (by omega)
 obtain⟨v9,d9,e9,a9,b9,h9⟩:=q4I h8' (most:=3) (by omega) (by omega)
 obtain⟨v10,d10,e10,a10,b10,h10⟩:=q4I h9 (most:=3) (by omega) (by omega)
 obtain⟨v11,d11,e11,a11,b11,h11⟩:=q4I h10 (most:=3) (by omega) (by omega)
 have hw:w64 ((k:Int)+1)=((k+1:Nat):Int):=by rw[zH (by omega) (by omega)];omega
 have hcr2:0≤cr∧cr≤40:=by
  have:cr=5∨cr=6∨cr=10:=by simpa using mcr
  omega
 have hdy:0≤w64 ((10:Int)*v4)∧w64 ((10:Int)*v4)≤1000:=by rw[zH (by omega) (by omega)];omega
 unfold zQ
 dsimp only
 rw[if_pos (by omega),if_pos (by omega),if_pos ⟨by omega,by omega⟩,qxK,hqk,qxH,e1,qxH]
 dsimp only
 rw[if_pos ⟨a1,by unfold qw;simpa using b1⟩,hc,qxH,e2,qxH]
 dsimp only
 rw[if_pos ⟨a2,b2⟩,hcr,qxH,e3,qxH]
 dsimp only
 rw[e4,qxH]
 dsimp only
 rw[e5,qxH]
 dsimp only
 rw[e6,qxH]
 dsimp only
 rw[e7]
 by_cases h0:v6=0
 ·rw[if_pos (by simpa using h0),qxH]
  dsimp only
  rw[e8,qxH]
  dsimp only
  rw[e9,qxH]
  dsimp only
  rw[e10]
  by_cases h00:v9=0
  ·rw[if_pos (by simpa using h00),qxH]
   dsimp only
   rw[e11,qxH]
   dsimp only
   rw[if_pos ⟨by omega,by omega⟩,hw]
   exact⟨_,⟨qxX _,qxX _,hcr2,hdy⟩,rfl⟩
  ·rw[if_neg (by simpa using h00),qxH]
   dsimp only
   rw[if_pos ⟨by omega,by omega⟩,hw]
   exact⟨_,⟨by show 1≤2;omega,qxX _,hcr2,hdy⟩,rfl⟩
 ·rw[if_neg (by simpa using h0),if_pos ⟨by omega,by omega⟩,hw]
  exact⟨_,⟨by show 1≤2;omega,by show 0≤1;omega,hcr2,hdy⟩,rfl⟩
theorem qlh (t0:List (List Int)) (hq:∀q∈t0,q.length≤9223372036854775807) (ht:t0.length≤9223372036854775807):∃l,ZK t0=some l∧l.length≤8∧∀a∈l,q8d 0 a:=by
 have key:∀(j k:Nat) (l:List qa),j+k=min t0.length 8→l.length=k→(∀a∈l,q8d 0 a)→∃l',qz (zQ t0) (l,(k:Int))=some l'∧l'.length=min t0.length 8∧∀a∈l',q8d 0 a:=by
  intro j
  induction j with
  | zero=>
   intro k l hk hl hs
   refine⟨l,qY ?_,by omega,hs⟩
   unfold zQ
   dsimp only
   by_cases h:(k:Int)<(t0.length:Int)
   ·rw[if_pos h,if_neg (by omega)]
   ·rw[if_neg h]
  | succ j ih=>
   intro k l hk hl hs
   obtain⟨a,h1,h2⟩:=q6R t0 hq l k hl (by omega) (by omega)
   rw[zZ h2]
   refine ih (k+1) (l++[a]) (by omega) (by simp[hl]) fun x hx=>?_
   rcases qyb.1 hx with h|h
   ·exact hs x h
   ·rw[qyx.1 h];exact h1
 obtain⟨l,h1,h2,h3⟩:=key (min t0.length 8) 0 [] (by omega) rfl (fun a ha=>by cases ha)
 refine⟨l,?_,by omega,h3⟩
 unfold ZK
 change Option.bind (qz _ ([],((0:Nat):Int))) _=_
 rw[h1];rfl
theorem q7u {a:qa} (h:z8 a):Ze a=some (a.Course.School,a.Course.Code,a.Credits,a.Grade,a.Day,a.Bundle,a.Sources,a.Path):=by
 have hML:100000≤maxLen:=by unfold maxLen;omega
 have h1:=h.1;have h2:=h.2
 unfold Ze
 rw[if_pos ⟨by omega,by omega⟩,if_pos ⟨by omega,by omega⟩]
theorem qrZ {j:Nat} (hj:j≤100) {a:qa} (h:q8d j a) (q:Qy Int):∃b,Qx a q=some b∧q8d (j+1) b:=by
 have hML:100000≤maxLen:=by unfold maxLen;omega
 have h1:=h.src;have h2:=h.pth;have h3:=h.crd;have h9:=h.day
 obtain⟨n,e1,n0,n1⟩:=q94 q.a1 40 (by omega) (by omega)
 obtain⟨k,e2,k0,k1⟩:=q94 q.a0 8 (by omega) (by omega)
 unfold Qx
 rw[q7u (h.fit (by omega)),qxH,e1,qxH,e2,qxH]
 dsimp only
 have hmod:0≤Int.tmod n 4∧Int.tmod n 4<4:=⟨Int.tmod_nonneg _ n0,Int.tmod_lt_of_pos _ (by omega)⟩
 obtain⟨c,hc,_⟩:=qfH [ByteArray.mk (List.toArray [65,49]),ByteArray.mk (List.toArray [66,49]),ByteArray.mk (List.toArray []),ByteArray.mk (List.toArray [65])] (Int.tmod n 4) hmod.1 (by simpa using hmod.2)
 have hb:∀(sc:Int) (cd:ByteArray) (cr g d:Int) (S:List Int) (bd:Int) (P:List Int),S.length≤2+(j+1)→P.length≤1+(j+1)→0≤cr∧cr≤40→0≤d∧d≤1000→q8d (j+1) (qa.mk (qb.mk sc cd) cr g d S bd P):=fun sc cd cr g d S bd P a1 a2 a3 a4=>⟨a1,a2,a3,a4⟩
 by_cases h00:k=0
 ·rw[if_pos (by simpa using h00)];exact⟨_,rfl,hb _ _ _ _ _ _ _ _ (by omega) (by omega) h3 h9⟩
 rw[if_neg (by simpa using h00)]
 by_cases h01:k=1
 ·rw[if_pos (by simpa using h01),if_pos hmod,hc,qxH];exact⟨_,rfl,hb _ _ _ _ _ _ _ _ (by omega) (by omega) h3 h9⟩
 rw[if_neg (by simpa using h01)]
 by_cases h02:k=2
 ·rw[if_pos (by simpa using h02)];exact⟨_,rfl,hb _ _ _ _ _ _ _ _ (by omega) (by omega) ⟨n0,by omega⟩ h9⟩
 rw[if_neg (by simpa using h02)]
 by_cases h03:k=3
 ·rw[if_pos (by simpa using h03)];exact⟨_,rfl,hb _ _ _ _ _ _ _ _ (by omega) (by omega) h3 h9⟩
 rw[if_neg (by simpa using h03)]
 by_cases h04:k=4
 ·rw[if_pos (by simpa using h04)];exact⟨_,rfl,hb _ _ _ _ _ _ _ _ (by omega) (by omega) h3 (by rw[zH (by omega) (by omega)];omega)⟩
 rw[if_neg (by simpa using h04)]
 by_cases h05:k=5
 ·rw[if_pos (by simpa using h05),if_pos ⟨by omega,by omega⟩];exact⟨_,rfl,hb _ _ _ _ _ _ _ _ (by simp;omega) (by omega) h3 h9⟩
 rw[if_neg (by simpa using h05)]
 by_cases h06:k=6
 ·rw[if_pos (by simpa using h06)];exact⟨_,rfl,hb _ _ _ _ _ _ _ _ (by omega) (by omega) h3 h9⟩
 rw[if_neg (by simpa using h06)]
 by_cases h07:k=7
 ·rw[if_pos (by simpa using h07),if_pos ⟨by omega,by omega⟩];exact⟨_,rfl,hb _ _ _ _ _ _ _ _ (by omega) (by simp;omega) h3 h9⟩
 ·rw[if_neg (by simpa using h07)];exact⟨_,rfl,hb _ _ _ _ _ _ _ _ (by omega) (by omega) h3 h9⟩
theorem qdB {j:Nat} (hj:j≤100) {l:List qa} (hl:l.length≤8) (hs:∀a∈l,q8d j a) (h0:0<l.length) (q:qhC Int):∃(k:Nat) (a b:qa),k<l.length∧Q1 q.a2 ((l.length:Nat):Int)=some (k:Int)∧l[k]?=some a∧Qx a (Qy.mk q.a0 q.a1)=some b∧(List.set l k b).length≤8∧∀x∈List.set l k b,q8d (j+1) x:=by
 obtain⟨v,e1,v0,v1⟩:=q94 q.a2 ((l.length:Nat):Int) (by omega) (by omega)
 obtain⟨k,rfl⟩:∃k:Nat,v=(k:Int):=⟨v.toNat,by omega⟩
 have hk:k<l.length:=by omega
 obtain⟨b,e2,hb⟩:=qrZ hj (hs _ (qyy hk)) (Qy.mk q.a0 q.a1)
 refine⟨k,l[k],b,hk,e1,qxJ hk,e2,by rw[qys];exact hl,fun x hx=>?_⟩
 rcases List.mem_or_eq_of_mem_set hx with h|rfl
 ·exact(hs x h).mono (by omega)
 ·exact hb
theorem qai (c:QE) (hq:∀q∈c.Has,q.length≤9223372036854775807) (ht:c.Has.length≤9223372036854775807) (hp:c.Programme.length≤9223372036854775807):∃l p d,Qs c=some (l,p,d)∧l.length≤8∧(∀a∈l,q8d 2 a)∧d=Int.tmod (w64 c.Day) 800:=by
 obtain⟨l,e1,l8,hs⟩:=qlh c.Has hq ht
 obtain⟨p,hpe⟩:=qok c.Programme hp
 unfold Qs
 rw[e1,qxH,hpe]
 by_cases h0:0<l.length
 ·have h0':(0:Int)<((l.length:Nat):Int):=by omega
  rw[if_pos h0']
  obtain⟨k,a,b,hk,q1,q2,q3,q4,q5⟩:=qdB (j:=0) (by omega) l8 hs h0 c.Odd.a0
  by_cases h1:(0:Int)<c.Odd.a0.a0
  ·rw[if_pos h1,q1,qxH,if_pos ⟨by omega,by omega⟩,qxK,q2,qxH,q3,qxH,if_pos ⟨by omega,by omega⟩,if_pos (by omega),if_pos h0']
   by_cases h2:(0:Int)<c.Odd.a1.a0
   ·obtain⟨k',a',b',hk',r1,r2,r3,r4,r5⟩:=qdB (j:=1) (by omega) q4 q5 (by rw[qys];exact h0) c.Odd.a1
    rw[qys] at hk' r1
    rw[if_pos h2,r1,qxH,if_pos ⟨by omega,by omega⟩,qxK,r2,qxH,r3,qxH,if_pos ⟨by omega,by omega⟩,if_pos (by omega)]
    exact⟨_,_,_,rfl,r4,r5,rfl⟩
   ·rw[if_neg h2]
    exact⟨_,_,_,rfl,q4,fun x hx=>(q5 x hx).mono (by omega),rfl⟩
  ·rw[if_neg h1,if_pos h0']
   by_cases h2:(0:Int)<c.Odd.a1.a0
   ·obtain⟨k',a',b',hk',r1,r2,r3,r4,r5⟩:=qdB (j:=0) (by omega) l8 hs h0 c.Odd.a1
    rw[if_pos h2,r1,qxH,if_pos ⟨by omega,by omega⟩,qxK,r2,qxH,r3,qxH,if_pos ⟨by omega,by omega⟩,if_pos (by omega)]
    exact⟨_,_,_,rfl,r4,fun x hx=>(r5 x hx).mono (by omega),rfl⟩
   ·rw[if_neg h2]
    exact⟨_,_,_,rfl,l8,fun x hx=>(hs x hx).mono (by omega),rfl⟩
 ·have h0':¬ (0:Int)<((l.length:Nat):Int):=by omega
  rw[if_neg h0',if_neg h0']
  exact⟨_,_,_,rfl,l8,fun x hx=>(hs x hx).mono (by omega),rfl⟩
end
noncomputable section
section
variable {A:Type} (fr:List A→Bool) (cr:List A→Int)
def dfs:List A→List A→Int→Int
 | [],_,b=>b
 | a::r,s,b=>dfs r s (if fr (s++[a])=true then dfs r (s++[a]) (max b (cr (s++[a]))) else b)
variable {fr cr}
end
end
noncomputable section
open Go.RowKit
theorem q4w {α ε:Type} {step:Int→Option (Int⊕ε)} (l:List α) (q:α→Bool) (e0 e1:ε) (hs:∀(i:Nat) (a:α),l[i]?=some a→step (i:Int)=some (if q a=true then .inr e0 else .inl ((i+1:Nat):Int))) (he:step ((l.length:Nat):Int)=some (.inr e1)) :
  qz step (0:Int)=some (if l.any q=true then e0 else e1):=by
 rcases q2d l q (fun _=>e0) e1 hs he with ⟨h1,i,h2⟩|⟨h1,h2⟩
 ·rw[h2,h1];rfl
 ·rw[h2,h1];rfl
theorem q44 (a b:List Int) (ha:a.length≤1000000):zD a b=some (decide (a=b)):=by
 unfold zD
 by_cases hl:a.length=b.length
 ·rw[if_neg (by rw[hl];simp)]
  have key:∀(r q:List Int) (i:Nat),r.length+i=a.length→q.length=r.length→(∀j,r[j]?=a[i+j]?)→(∀j,q[j]?=b[i+j]?)→qz (zl a b) (i:Int)=some (if r=q then .inr () else .inl ()):=by
   intro r
   induction r with
   | nil=>
    intro q i hi hq _ _
    obtain rfl:=qy0 hq
    have hi:i=a.length:=by simpa using hi
    refine qY ?_
    unfold zl
    rw[if_neg (by omega),if_pos rfl]
   | cons x r ih=>
    intro q i hi hq hr hb
    cases q with
    | nil=>cases hq
    | cons y q=>
     simp only[qxS] at hi hq
     have hx:a[i]?=some x:=by have:=hr 0;rw[Nat.add_zero] at this;exact this.symm
     have hy:b[i]?=some y:=by have:=hb 0;rw[Nat.add_zero] at this;exact this.symm
     have e:zl a b (i:Int)=some (if(x != y)=true then .inr (.inl ()) else .inl ((i+1:Nat):Int)):=by
      unfold zl
      rw[if_pos (by omega),if_pos ⟨by omega,by omega⟩,qxK,hx,qxH,if_pos ⟨by omega,by omega⟩,hy,qxH,Qe (Qb hx) ha]
      split<;>rfl
     by_cases hxy:x=y
     ·subst hxy
      rw[if_neg (by simp)] at e
      rw[zZ e,ih q (i+1) (by omega) (by omega) (fun j=>by have:=hr (j+1);rw[qy6] at this;rw[this];congr 1;omega) (fun j=>by have:=hb (j+1);rw[qy6] at this;rw[this];congr 1;omega)]
      simp
     ·rw[if_pos (by simpa using hxy)] at e
      rw[qY e,if_neg (fun h=>hxy (by injection h))]
  have h:=key a b 0 (by omega) hl.symm (fun j=>by rw[qy5]) (fun j=>by rw[qy5])
  change Option.bind (qz _ ((0:Nat):Int)) _=_
  rw[h,qxH]
  by_cases e:a=b
  ·rw[if_pos e,Sum.elim_inr,qyH e]
  ·rw[if_neg e,Sum.elim_inl,decide_eq_false e]
 ·rw[if_pos (by simpa using fun h=>hl (by omega)),decide_eq_false (fun e=>hl (by rw[e]))]
theorem qgO (a b:qb):ceq a b=ceq b a:=by
 unfold ceq
 rw[Bool.beq_comm (a:=a.School),Bool.beq_comm (a:=a.Code.toList)]
theorem qb5 (a b:List Int):q7j a b=q7j b a:=by
 have h:∀a b:List Int,q7j a b=true→q7j b a=true:=fun a b h=>by
  unfold q7j at h ⊢
  obtain⟨x,h1,h2⟩:=qyB.1 h
  obtain⟨y,h3,h4⟩:=qyB.1 h2
  have e:x=y:=by simpa using h4
  exact qyB.2 ⟨y,h3,qyB.2 ⟨x,h1,by simp[e]⟩⟩
 exact Bool.eq_iff_iff.2 ⟨h a b,h b a⟩
theorem q80 (a b:qa):J8 a b=J8 b a:=by
 unfold J8
 rw[qgO,qb5]
 by_cases hb:a.Bundle=b.Bundle
 ·rw[hb]
  have e:decide (a.Path=b.Path)=decide (b.Path=a.Path):=by
   by_cases hp:a.Path=b.Path
   ·rw[hp]
   ·rw[decide_eq_false hp,decide_eq_false fun h=>hp h.symm]
  rw[e]
 ·rw[show(a.Bundle==b.Bundle)=false by simpa using hb,show(b.Bundle==a.Bundle)=false by simpa using fun h=>hb h.symm];simp
def q4G:List qa→Bool
 | []=>true
 | a::l=>l.all (fun b=>J8 a b)&&q4G l
theorem qk9 (l:List qa) (hl:l.length≤1000) (hf:∀a∈l,z8 a):Zw l=some (q4G l):=by
 have cf:∀(s:List qa) (a:qa),s.length≤1000→(∀b∈s,z8 b)→z8 a→qp s a=some (s.any fun b => !J8 a b):=fun s a hs hsf ha=>by
  have h:=q2d (step:=qn a s ((s.length:Nat):Int)) s (fun b => !J8 a b) (fun i => .inl (i:Int)) (.inr ()) (fun i b hb=>by
   have hi:=Qb hb
   unfold qn ZV
   rw[if_pos (by omega),if_pos ⟨by omega,by omega⟩,qxK,hb,qxH,q9E ha (hsf b (qxI hb)),qxH,qxH,Qe hi (by omega)]
   split<;>rfl) (by
   unfold qn
   rw[if_neg (by omega)])
  unfold qp qs
  rcases h with ⟨h1,i,h2⟩|⟨h1,h2⟩
  ·rw[h2,qxH,Sum.elim_inl,qxH,h1,qyH (by omega)]
  ·rw[h2,qxH,Sum.elim_inr,qxH,h1,decide_eq_false (by omega)]
 have key:∀(r:List qa) (i:Nat),r.length+i=l.length→l.drop i=r→qz (Qn l l ((l.length:Nat):Int)) (i:Int)=some (if q4G r=true then .inr () else .inl ()):=by
  intro r
  induction r with
  | nil=>
   intro i hi _
   have hi:i=l.length:=by simpa using hi
   refine qY ?_
   unfold Qn
   rw[if_neg (by omega)];rfl
  | cons a r ih=>
   intro i hi hd
   simp only[qxS] at hi
   have ha:l[i]?=some a:=by have:=congrArg (fun x:List qa=>x[0]?) hd;simpa [List.getElem?_drop] using this
   have hd1:l.drop (i+1)=r:=by rw[←qyu,hd];rfl
   have hr:∀b∈r,z8 b:=fun b hb=>hf b (List.mem_of_mem_drop (i:=i) (by rw[hd];exact qxP _ hb))
   have e:Qn l l ((l.length:Nat):Int) (i:Int)=some (if(r.any fun b => !J8 a b)=true then .inr (.inl ()) else .inl ((i+1:Nat):Int)):=by
    unfold Qn
    rw[if_pos (by omega),if_pos ⟨by omega,by omega⟩,qxK,ha,qxH,Qe (Qb ha) (by omega),if_pos ⟨by omega,by omega⟩,qxK,hd1,qyN (by omega),cf r a (by omega) hr (hf a (qxI ha)),qxH]
    split<;>rfl
   unfold q4G
   cases hq:r.any fun b => !J8 a b
   ·have hall:r.all (fun b=>J8 a b)=true:=by
     rw[qxY];intro b hb
     have:=List.any_eq_false.1 hq b hb
     simpa using this
    rw[hq,if_neg (by decide)] at e
    rw[zZ e,ih (i+1) (by omega) hd1,hall,qye]
   ·have hall:r.all (fun b=>J8 a b)=false:=by
     rw[List.all_eq_false]
     obtain⟨b,h1,h2⟩:=qyB.1 hq
     exact⟨b,h1,by simpa using h2⟩
    rw[hq,if_pos rfl] at e
    rw[qY e,hall];rfl
 unfold Zw
 change Option.bind (qz _ ((0:Nat):Int)) _=_
 rw[key l 0 (by omega) rfl,qxH]
 cases q4G l<;>rfl
end
noncomputable section
open Go.RowKit
theorem q4g {κ ν:Type} [DecidableEq κ] (z:ν) (k:κ) (v:ν) (b:κ):∀M:List (κ×ν),Zi z (q3m M k v) b=if b=k then v else Zi z M b
 | []=>by
  show(if b=k then v else z)=_
  rfl
 | p::M=>by
  unfold q3m
  by_cases h:k=p.1
  ·rw[if_pos h]
   show(if b=k then v else Zi z M b)=if b=k then v else Zi z (p::M) b
   by_cases hb:b=k
   ·rw[if_pos hb,if_pos hb]
   ·rw[if_neg hb,if_neg hb]
    show _=if b=p.1 then p.2 else Zi z M b
    rw[if_neg (by rw[←h];exact hb)]
  ·rw[if_neg h]
   show(if b=p.1 then p.2 else Zi z (q3m M k v) b)=if b=k then v else(if b=p.1 then p.2 else Zi z M b)
   rw[q4g z k v b M]
   by_cases hb:b=p.1
   ·rw[if_pos hb,if_pos hb,if_neg (fun h'=>h (by rw[←h',hb]))]
   ·rw[if_neg hb,if_neg hb]
theorem q67 (x:Int):∀(l:List Int) (n:Int),n∈cpF x l↔n∈x::l
 | [],n=>Iff.rfl
 | y::l,n=>by
  unfold cpF
  by_cases h:x=y
  ·rw[if_pos h,q67 y l n];subst h;simp
  ·rw[if_neg h,qy3,q67 y l n,qy3 (l:=y::l)]
theorem q4m (x:Int):∀(l:List Int),(x::l).Pairwise (·≤·)→(cpF x l).Nodup
 | [],_=>by simp[cpF]
 | y::l,h=>by
  unfold cpF
  obtain⟨h1,h2⟩:=List.pairwise_cons.1 h
  by_cases e:x=y
  ·rw[if_pos e];exact q4m y l h2
  ·rw[if_neg e,List.nodup_cons]
   refine⟨fun hx=>?_,q4m y l h2⟩
   have hy:=h1 y qxW
   rcases qy3.1 ((q67 y l x).1 hx) with h|h
   ·exact e h
   ·have:=(List.pairwise_cons.1 h2).1 x h
    omega
theorem qd6 (s:List Int) (n:Int):n∈cpI (ZZ s)↔n∈s:=by
 rw[←(q1j s).mem_iff]
 cases ZZ s with
 | nil=>exact Iff.rfl
 | cons x l=>exact q67 x l n
theorem qcx (s:List Int):(cpI (ZZ s)).Nodup:=by
 have:=q0H s
 cases h:ZZ s with
 | nil=>exact .nil
 | cons x l=>rw[h] at this;exact q4m x l this
def q5h (M:List (Int×Int)) (n:Int):List (Int×Int):=q3m M n (w64 (Zi 0 M n+1))
theorem q6O:∀(ns:List Int) (M:List (Int×Int)) (k:Int),ns.Nodup→(∀n∈ns,0≤Zi 0 M n∧Zi 0 M n<1000000)→Zi 0 (ns.foldl q5h M) k=Zi 0 M k+if k∈ns then 1 else 0
 | [],M,k,_,_=>by simp
 | n::ns,M,k,hn,hb=>by
  obtain⟨h1,h2⟩:=List.nodup_cons.1 hn
  have hw:w64 (Zi 0 M n+1)=Zi 0 M n+1:=by have:=hb n qxW;exact zH (by omega) (by omega)
  have hg:∀b,Zi 0 (q5h M n) b=if b=n then Zi 0 M n+1 else Zi 0 M b:=fun b=>by unfold q5h;rw[q4g,hw]
  rw[qyK,q6O ns (q5h M n) k h2 (fun m hm=>by
   rw[hg,if_neg (fun h:m=n=>h1 (by rw[←h];exact hm))];exact hb m (qxP _ hm)),hg]
  by_cases e:k=n
  ·subst e;rw[if_pos rfl,if_neg h1,if_pos qxW];omega
  ·rw[if_neg e]
   by_cases hk:k∈ns
   ·rw[if_pos hk,if_pos (qxP _ hk)]
   ·rw[if_neg hk,if_neg (fun h=>(qy3.1 h).elim e hk)]
def qe4 (l:List (List Int)) (M:List (Int×Int)):List (Int×Int):=l.foldl (fun M s=>(cpI (ZZ s)).foldl q5h M) M
theorem qcq:∀(l:List (List Int)) (M:List (Int×Int)) (b:Nat),(∀k,0≤Zi 0 M k∧Zi 0 M k≤(b:Int))→b+l.length<1000000→∀k,Zi 0 (qe4 l M) k=Zi 0 M k+((l.filter fun s=>decide (k∈s)).length:Int)
 | [],M,b,_,_,k=>by simp[qe4]
 | s::l,M,b,hM,hl,k=>by
  simp only[qxS] at hl
  have hg:∀k,Zi 0 ((cpI (ZZ s)).foldl q5h M) k=Zi 0 M k+if k∈cpI (ZZ s) then 1 else 0:=fun k=>q6O _ M k (qcx s) fun n _=>by have:=hM n;omega
  have hs:qe4 (s::l) M=qe4 l ((cpI (ZZ s)).foldl q5h M):=rfl
  rw[hs,qcq l _ (b+1) (fun k=>by
   rw[hg];have:=hM k
   split<;>omega) (by omega),hg,List.filter_cons]
  by_cases h:k∈s
  ·rw[if_pos ((qd6 s k).2 h),if_pos (by simpa using h),qxS];omega
  ·rw[if_neg (fun h'=>h ((qd6 s k).1 h')),if_neg (by simpa using h)];omega
theorem qje (l:List (List Int)) (hl:l.length<1000000) (k:Int):Zi 0 (qe4 l []) k=((l.filter fun s=>decide (k∈s)).length:Int):=by
 rw[qcq l [] 0 (fun k=>by show(0:Int)≤0∧(0:Int)≤0;omega) (by omega)]
 show(0:Int)+_=_
 omega
theorem qgU {l:List (List Int)} {i:Nat} {s:List Int} {k:Int} (hi:l[i]?=some s) (hk:k∈s):(1:Int)<((l.filter fun s=>decide (k∈s)).length:Int)↔∃j t,j≠i∧l[j]?=some t∧k∈t:=by
 have hlt:=Qb hi
 have e:l=l.take i++s::l.drop (i+1):=by
  rw[qxJ hlt] at hi
  injection hi with hi
  rw[←hi,List.getElem_cons_drop,qyv]
 have hf:(l.filter fun s=>decide (k∈s)).length=((l.take i).filter fun s=>decide (k∈s)).length+(((l.drop (i+1)).filter fun s=>decide (k∈s)).length+1):=by
  conv=>lhs;rw[e]
  rw[List.filter_append,qxO,List.filter_cons,if_pos (by simpa using hk),qxS]
 rw[hf]
 constructor
 ·intro h
  have:0<((l.take i).filter fun s=>decide (k∈s)).length∨0<((l.drop (i+1)).filter fun s=>decide (k∈s)).length:=by omega
  rcases this with h|h
  ·obtain⟨t,ht⟩:=List.exists_mem_of_length_pos h
   obtain⟨h1,h2⟩:=qyC.1 ht
   obtain⟨j,hj⟩:=List.getElem?_of_mem h1
   have hji:j<i:=by have:=Qb hj;rw[qya] at this;omega
   rw[qyg hji] at hj
   exact⟨j,t,by omega,hj,by simpa using h2⟩
  ·obtain⟨t,ht⟩:=List.exists_mem_of_length_pos h
   obtain⟨h1,h2⟩:=qyC.1 ht
   obtain⟨j,hj⟩:=List.getElem?_of_mem h1
   rw[List.getElem?_drop] at hj
   exact⟨i+1+j,t,by omega,hj,by simpa using h2⟩
 ·rintro⟨j,t,h1,h2,h3⟩
  by_cases hji:j<i
  ·have:0<((l.take i).filter fun s=>decide (k∈s)).length:=List.length_pos_of_mem (a:=t) (qyC.2 ⟨qxI (i:=j) (by rw[qyg hji];exact h2),by simpa using h3⟩)
   omega
  ·have:0<((l.drop (i+1)).filter fun s=>decide (k∈s)).length:=List.length_pos_of_mem (a:=t) (qyC.2 ⟨qxI (i:=j-(i+1)) (by rw[List.getElem?_drop,show i+1+(j-(i+1))=j by omega];exact h2),by simpa using h3⟩)
   omega
end
noncomputable section
open Go.RowKit
def q6Y (n a b:Int):Int:=max (min a b) (min n (max a b))
def q0K (s:qe):Bool:=q6Y s.Worst (-1000) 1000==s.Worst&&q6Y s.Best (-1000) 1000==s.Best&&s.Worst != s.Best&&q6Y s.Pass s.Worst s.Best==s.Pass
def q6T (s:qe) (g:Int):Bool:=q0K s&&q6Y g s.Worst s.Best==g
def q5u (s:qe) (g m:Int):Bool:=q6T s g&&(g==m||(decide (m<g)==decide (s.Worst<s.Best)))
theorem q5U (s:qe):Zn s=some (if q0K s then 0 else 10):=by
 have h1:=qcV (ε:=Unit⊕Unit) (step:=Q2 [s.Worst,s.Best] s 2) [s.Worst,s.Best] (fun i=>(i:Int)) (fun a=>if q6Y a (-1000) 1000 != a then some (.inl ()) else none) (.inr ()) (fun i a ha=>by
   have hi:i<2:=by obtain⟨h,_⟩:=qxL.1 ha;simpa using h
   have hw:w64 ((i:Int)+1)=((i+1:Nat):Int):=q6b hi (by omega)
   unfold Q2
   rw[if_pos (by omega),if_pos ⟨by omega,by simpa using by omega⟩,qxK,ha,qxH,hw]
   show(if(q6Y a (-1000) 1000 != a)=true then _ else _)=_
   split<;>simp_all) (by
   unfold Q2
   rfl)
 unfold Zn
 rw[show((0:Int))=((0:Nat):Int) from rfl,h1,qxH]
 unfold q0K qR
 simp only[List.findSome?_cons,List.findSome?_nil]
 show _=some (if(q6Y s.Worst (-1000) 1000==s.Worst&&q6Y s.Best (-1000) 1000==s.Best&&s.Worst != s.Best&&q6Y s.Pass s.Worst s.Best==s.Pass)=true then 0 else 10)
 change (Sum.elim _ (fun _=>if(s.Worst==s.Best)=true then some (10:Int) else if(q6Y s.Pass s.Worst s.Best != s.Pass)=true then some 10 else some 0) _)=_
 by_cases e1:q6Y s.Worst (-1000) 1000=s.Worst<;>by_cases e2:q6Y s.Best (-1000) 1000=s.Best<;>by_cases e3:s.Worst=s.Best<;>by_cases e4:q6Y s.Pass s.Worst s.Best=s.Pass<;>simp[e1,e2,e3,e4,bne]
theorem q6y (s:qe) (g:Int):Zq s g=some (q6T s g):=by
 unfold Zq q6T
 rw[q5U,qxH]
 cases h:q0K s<;>simp[qR,q6Y]
theorem qan (s:qe) (g m:Int):QQ s g m=some (q5u s g m):=by
 unfold QQ q5u
 rw[q6y,qxH]
 cases h:q6T s g
 ·simp
 ·by_cases h2:g=m<;>simp[h2]
def q1M (s:qe) (a b:qa):Bool:=ceq a.Course b.Course&&(a.Bundle==b.Bundle)&&decide (a.Path=b.Path)&&decide (b.Credits≤a.Credits)&&decide (b.Day≤a.Day)&&q5u s a.Grade b.Grade
theorem q73 (s:qe) {a b:qa} (ha:z8 a):QH s a b=some (q1M s a b):=by
 have h2:=ha.2
 unfold QH q1M
 rw[q7t _ _ (by omega),qan]
 simp only[qxH]
 by_cases hc:ceq a.Course b.Course=true
 ·rw[if_pos (by unfold ceq at hc;rw[qyd] at hc;exact hc),hc]
  cases a.Bundle==b.Bundle
  ·rfl
  ·rw[if_pos rfl]
   by_cases hp:a.Path=b.Path
   ·rw[qyH hp,if_pos rfl]
    by_cases h3:b.Credits≤a.Credits
    ·rw[if_pos h3,qyH h3]
     by_cases h4:b.Day≤a.Day
     ·rw[if_pos h4,qyH h4];simp
     ·rw[if_neg h4,decide_eq_false h4];simp
    ·rw[if_neg h3,decide_eq_false h3];simp
   ·rw[decide_eq_false hp,if_neg (by decide)];simp
 ·rw[if_neg (by unfold ceq at hc;rw[qyd] at hc;exact hc),qy9.2 hc];rfl
theorem q4C {ε:Type} {step:Int→Option (Int⊕ε)} (n:Nat) (q:Nat→Bool) (e0 e1:ε) (hs:∀i,i<n→step (i:Int)=some (if q i=true then .inr e0 else .inl ((i+1:Nat):Int))) (he:step ((n:Nat):Int)=some (.inr e1)) :
  qz step (0:Int)=some (if(List.range n).any q=true then e0 else e1):=
 q4w (List.range n) q e0 e1 (fun i a ha=>by
  have hi:=Qb ha
  rw[List.length_range] at hi
  rw[List.getElem?_range hi] at ha
  injection ha with ha
  subst ha
  exact hs i hi) (by rw[List.length_range];exact he)
def q9h (l:List qa) (i:Nat) (n:Int):Bool:=(List.range l.length).any fun j=>decide (j≠i)&&(l[j]?.any fun c=>c.Sources.any fun x=>x==n)
def qo6 (s:qe) (l:List qa) (i k:Nat) (a b:qa):Bool:=decide (i≠k)&&q1M s a b&&a.Sources.all fun n=>(b.Sources.any fun x=>n==x) || !q9h l i n
def plc (s:qe) (l:List qa) (k i:Nat):Bool:=match l[i]?,l[k]? with
 | some a,some b=>qo6 s l i k a b
 | _,_=>false
def q5c (s:qe) (l:List qa) (k:Nat):Bool:=(List.range l.length).any (plc s l k)
theorem qjl {l:List qa} {i:Nat} {n:Int}:q9h l i n=true↔∃j t,j≠i∧(l.map fun a=>a.Sources)[j]?=some t∧n∈t:=by
 unfold q9h
 rw[qyB]
 constructor
 ·rintro⟨j,h1,h2⟩
  rw[qyd] at h2
  obtain⟨h2,h3⟩:=h2
  cases hj:l[j]? with
  | none=>rw[hj] at h3;cases h3
  | some c=>
   rw[hj] at h3
   refine⟨j,c.Sources,of_decide_eq_true h2,by rw[qxV,hj];rfl,?_⟩
   obtain⟨x,h4,h5⟩:=qyB.1 (show(c.Sources.any fun x=>x==n)=true from h3)
   rw[show n=x by simpa using (eq_comm.1 (beq_iff_eq.1 h5))];exact h4
 ·rintro⟨j,t,h1,h2,h3⟩
  rw[qxV] at h2
  obtain⟨c,h4,rfl⟩:=qxU.1 h2
  refine⟨j,qyD.2 (Qb h4),?_⟩
  rw[qyH h1,h4]
  show(c.Sources.any fun x=>x==n)=true
  exact qyB.2 ⟨n,h3,by simp⟩
theorem qfN (w:List Int) (hw:w.length≤1000) (l:List qa) (t11 t12:Int) (M:List (Int×Int)):qz (Qo w l t11 t12 ((w.length:Nat):Int)) (M,(0:Int))=some (w.foldl q5h M):=by
 exact q3g (step:=Qo w l t11 t12 ((w.length:Nat):Int)) w (fun(b:List (Int×Int)) k=>(b,(k:Int))) q5h (fun b=>b) (fun b k a ha=>by
  have hi:=Qb ha
  unfold Qo
  dsimp only
  rw[if_pos (by omega),if_pos ⟨by omega,by omega⟩,qxK,ha,qxH,Qe hi (by omega)]
  rfl) (fun b=>by
  unfold Qo
  dsimp only
  rw[if_neg (by omega)]) M
theorem qpf (l:List qa) (hl:l.length≤1000) (hf:∀a∈l,z8 a):Jj l=some (qe4 (l.map fun a=>a.Sources) []):=by
 have hML:100000≤maxLen:=by unfold maxLen;omega
 have h:=q3g (step:=QF l ((l.length:Nat):Int)) l (fun(b:List (Int×Int)) k=>(b,(k:Int))) (fun M a=>(cpI (ZZ a.Sources)).foldl q5h M) (fun b=>b) (fun b k a ha=>by
  have hi:=Qb ha
  have hfa:=(hf a (qxI ha)).1
  have hc:(cpI (ZZ a.Sources)).length≤1000:=qyi (q8G _) (by rw[q14];exact hfa)
  unfold QF qM qH
  dsimp only
  rw[if_pos (by omega),if_pos ⟨by omega,by omega⟩,qxK,ha,qxH,if_pos ⟨by omega,by omega⟩,qxH,if_pos (by omega),qfN _ hc,qxH,Qe hi (by omega)]) (fun b=>by
  unfold QF
  dsimp only
  rw[if_neg (by omega)]) []
 unfold Jj
 change Option.bind (qz _ ([],((0:Nat):Int))) _=_
 rw[h,qxH]
 unfold qe4
 rw[List.foldl_map]
theorem qaG (S:List Int) (hS:S.length≤1000) (M:List (Int×Int)) (l:List qa) (k:Nat) (b:qa) (hb:l[k]?=some b) (hfb:z8 b):qQ S M l (k:Int)=some (S.any fun n=>decide (1<Zi 0 M n) && !(b.Sources.any fun x=>n==x)):=by
 have h2:=hfb.1
 have hk:=Qb hb
 have hq:∀n,Qv n M l (k:Int)=some (decide (1<Zi 0 M n) && !(b.Sources.any fun x=>n==x)):=fun n=>by
  unfold Qv
  by_cases h:1<Zi 0 M n
  ·rw[if_pos h,if_pos ⟨by omega,by omega⟩,qxK,hb,qxH,q3k _ (by omega),qxH,qyH h,qye]
  ·rw[if_neg h,decide_eq_false h,qyJ]
 have h:=q2d (step:=qC M l (k:Int) S ((S.length:Nat):Int)) S (fun n=>decide (1<Zi 0 M n) && !(b.Sources.any fun x=>n==x)) (fun i => .inl (i:Int)) (.inr ()) (fun i n hn=>by
  have hi:=Qb hn
  unfold qC
  rw[if_pos (by omega),if_pos ⟨by omega,by omega⟩,qxK,hn,qxH,hq,qxH,Qe hi (by omega)]
  split<;>rfl) (by
  unfold qC
  rw[if_neg (by omega)])
 unfold qQ zt
 rcases h with ⟨h1,i,h2⟩|⟨h1,h2⟩
 ·rw[h2,qxH,Sum.elim_inl,qxH,h1,qyH (by omega)]
 ·rw[h2,qxH,Sum.elim_inr,qxH,h1,decide_eq_false (by omega)]
theorem qhQ {l:List qa} (hl:l.length≤1000) {i:Nat} {a:qa} (ha:l[i]?=some a) (T:List Int):(!a.Sources.any fun n=>decide (1<Zi 0 (qe4 (l.map fun a=>a.Sources) []) n) && !(T.any fun x=>n==x))=a.Sources.all fun n=>(T.any fun x=>n==x) || !q9h l i n:=by
 rw[List.not_any_eq_all_not]
 have key:∀n∈a.Sources,(!(decide (1<Zi 0 (qe4 (l.map fun a=>a.Sources) []) n) && !(T.any fun x=>n==x)))=((T.any fun x=>n==x) || !q9h l i n):=fun n hn=>by
  have e:decide (1<Zi 0 (qe4 (l.map fun a=>a.Sources) []) n)=q9h l i n:=by
   rw[Bool.eq_iff_iff,decide_eq_true_iff,qjl,qje _ (by rw[qyp];omega)]
   exact qgU (i:=i) (s:=a.Sources) (by rw[qxV,ha];rfl) hn
  rw[e]
  cases q9h l i n<;>cases(T.any fun x=>n==x)<;>rfl
 rw[Bool.eq_iff_iff,qxY,qxY]
 exact⟨fun h n hn=>by rw[←key n hn];exact h n hn,fun h n hn=>by rw[key n hn];exact h n hn⟩
theorem qaK (s:qe) (l:List qa) (hl:l.length≤1000) (hf:∀a∈l,z8 a) (k:Nat) (hk:k<l.length):zT l s (k:Int)=some (q5c s l k):=by
 have hb:l[k]?=some l[k]:=qxJ hk
 have hfb:z8 l[k]:=hf _ (qyy hk)
 have h:=q4C (step:=zW l s (k:Int) (qe4 (l.map fun a=>a.Sources) []) l ((l.length:Nat):Int)) l.length (plc s l k) (Sum.inl ()) (Sum.inr ()) (fun i hi=>by
  have ha:l[i]?=some l[i]:=qxJ hi
  have hfa:z8 l[i]:=hf _ (qyy hi)
  have hp:plc s l k i=qo6 s l i k l[i] l[k]:=by unfold plc;rw[ha,hb]
  rw[hp]
  unfold zW qo6
  rw[if_pos (by omega),if_pos ⟨by omega,by omega⟩,qxK,ha,qxH,Qe hi (by omega)]
  by_cases hik:i=k
  ·rw[if_pos (beq_iff_eq.2 (by omega:(i:Int)=(k:Int))),decide_eq_false (by simpa using hik)];rfl
  ·rw[if_neg (by simpa using fun h:(i:Int)=(k:Int)=>hik (by omega)),if_pos ⟨by omega,by omega⟩,qxK,hb,qxH,q73 s hfa,qxH,qyH hik,qye]
   cases q1M s l[i] l[k]
   ·rfl
   ·rw[if_neg (by decide),qaG _ hfa.1 _ _ _ _ hb hfb,qxH,qhQ hl ha,qye]
    split<;>rfl) (by
  unfold zW
  rw[if_neg (by omega)])
 unfold zT
 rw[qpf l hl hf,qxH,h,qxH]
 unfold q5c
 cases(List.range l.length).any (plc s l k)<;>rfl
end
noncomputable section
def JU (p:Nat→Bool):Nat→Option Nat
 | 0=>none
 | n+1=>if p n=true then some n else JU p n
theorem q5B {p:Nat→Bool}:∀{n:Nat},JU p n=none↔∀k,k<n→p k=false
 | 0=>Iff.intro (fun _ k hk=>absurd hk (Nat.not_lt_zero k)) (fun _=>rfl)
 | n+1=>by
  unfold JU
  by_cases h:p n=true
  ·rw[if_pos h]
   exact Iff.intro (fun h'=>by cases h') (fun h'=>by rw[h' n (by omega)] at h;cases h)
  ·rw[if_neg h,q5B]
   refine⟨fun h' k hk=>?_,fun h' k hk=>h' k (by omega)⟩
   by_cases hkn:k=n
   ·rw[hkn];exact qy9.2 h
   ·exact h' k (by omega)
theorem q01 {p:Nat→Bool} {i:Nat}:∀{n:Nat},JU p n=some i→i<n∧p i=true∧∀k,i<k→k<n→p k=false
 | 0,h=>by cases h
 | n+1,h=>by
  unfold JU at h
  by_cases hp:p n=true
  ·rw[if_pos hp] at h
   injection h with h
   subst h
   exact⟨by omega,hp,fun k h1 h2=>by omega⟩
  ·rw[if_neg hp] at h
   obtain⟨h1,h2,h3⟩:=q01 h
   refine⟨by omega,h2,fun k hk1 hk2=>?_⟩
   by_cases hkn:k=n
   ·rw[hkn];exact qy9.2 hp
   ·exact h3 k hk1 (by omega)
section
variable {A:Type} (cv:List A→Nat→Bool)
def qbp:Nat→List A→List A
 | 0,l=>l
 | f+1,l=>match JU (cv l) l.length with
  | none=>l
  | some k=>qbp f (l.eraseIdx k)
def red (l:List A):List A:=qbp cv l.length l
variable {cv}
theorem q72:∀(f g:Nat) (l:List A),l.length≤f→l.length≤g→qbp cv f l=qbp cv g l
 | 0,0,l,_,_=>rfl
 | 0,g+1,l,h,_=>by
  have:l=[]:=qy0 (by omega)
  subst this;rfl
 | f+1,0,l,_,h=>by
  have:l=[]:=qy0 (by omega)
  subst this;rfl
 | f+1,g+1,l,h1,h2=>by
  unfold qbp
  cases h:JU (cv l) l.length with
  | none=>rfl
  | some k=>
   have hk:=(q01 h).1
   have hl:(l.eraseIdx k).length=l.length-1:=by rw[List.length_eraseIdx,if_pos hk]
   exact q72 f g _ (by omega) (by omega)
theorem q66 {l:List A} (h:JU (cv l) l.length=none):red cv l=l:=by
 unfold red
 cases hl:l.length with
 | zero=>rfl
 | succ n=>unfold qbp;rw[h]
theorem q6F {l:List A} {k:Nat} (h:JU (cv l) l.length=some k):red cv l=red cv (l.eraseIdx k):=by
 have hk:=(q01 h).1
 have hl:(l.eraseIdx k).length=l.length-1:=by rw[List.length_eraseIdx,if_pos hk]
 show qbp cv l.length l=qbp cv (l.eraseIdx k).length (l.eraseIdx k)
 cases hn:l.length with
 | zero=>omega
 | succ n=>
  have e:qbp cv (n+1) l=qbp cv n (l.eraseIdx k):=by
   conv=>lhs;unfold qbp
   rw[h]
  rw[e]
  exact q72 n _ (l.eraseIdx k) (by omega) (qxX _)
theorem qet {M:List A→Prop} (hstep:∀l k,JU (cv l) l.length=some k→M l→M (l.eraseIdx k)):∀(n:Nat) (l:List A),l.length≤n→M l→M (red cv l)
 | 0,l,hl,h=>by
  have:l=[]:=qy0 (by omega)
  subst this;exact h
 | n+1,l,hl,h=>by
  cases hc:JU (cv l) l.length with
  | none=>rw[q66 hc];exact h
  | some k=>
   have hk:=(q01 hc).1
   have hlen:(l.eraseIdx k).length=l.length-1:=by rw[List.length_eraseIdx,if_pos hk]
   rw[q6F hc]
   exact qet hstep n _ (by omega) (hstep l k hc h)
theorem q6A (l:List A):(red cv l).Sublist l:=
 qet (M:=fun x=>x.Sublist l) (fun x k _ h=>(List.eraseIdx_sublist x k).trans h) l.length l (qxX _) (List.Sublist.refl l)
end
end
noncomputable section
open Go.RowKit
theorem q9I {p:Nat→Bool}:∀{n k:Nat},k<n→p k=true→(∀j,k<j→j<n→p j=false)→JU p n=some k
 | n+1,k,hk,hp,h=>by
  unfold JU
  by_cases e:k=n
  ·subst e;rw[if_pos hp]
  ·rw[if_neg (by rw[h n (by omega) (by omega)];decide)]
   exact q9I (by omega) hp fun j h1 h2=>h j h1 (by omega)
def q04 (s:qe):(List qa×Int)→Option ((List qa×Int)⊕(List qa))|(left,k)=>if 0≤k then Option.bind (zT left s k) fun(a:Bool)=>if a=Bool.true then Option.bind (qm k (w64 (k+1)) left) fun(a2:List qa)=>some (Sum.inl (a2,w64 (((a2.length:Nat):Int)-1))) else some (Sum.inl (left,w64 (k-1))) else some (Sum.inr left)
theorem q5X (s:qe):∀(n k:Nat) (l:List qa),l.length≤n→n≤1000→(∀a∈l,z8 a)→k≤l.length→(∀j,k≤j→j<l.length→q5c s l j=false)→qz (q04 s) (l,((k:Int)-1))=some (red (q5c s) l):=by
 intro n
 induction n with
 | zero=>
  intro k l hl _ hf hk hc
  have hl0:l=[]:=qy0 (by omega)
  subst hl0
  have hk:k=0:=by simpa using hk
  subst hk
  refine qY ?_
  unfold q04
  dsimp only
  rw[if_neg (by omega)];rfl
 | succ n ih=>
  intro k
  induction k with
  | zero=>
   intro l hl _ hf hk hc
   rw[q66 (q5B.2 fun j hj=>hc j (qy7 _) hj)]
   refine qY ?_
   unfold q04
   dsimp only
   rw[if_neg (by omega)]
  | succ k ihk=>
   intro l hl hn hf hk hc
   have e1:((k+1:Nat):Int)-1=(k:Int):=by omega
   rw[e1]
   have hcov:=qaK s l (by omega) hf k (by omega)
   cases hq:q5c s l k
   ·have e:q04 s (l,(k:Int))=some (.inl (l,((k:Int)-1))):=by
     unfold q04
     dsimp only
     rw[if_pos (by omega),hcov,qxH,hq,if_neg (by decide),zH (by omega) (by omega)]
    rw[zZ e]
    refine ihk l hl hn hf (by omega) fun j h1 h2=>?_
    by_cases hj:j=k
    ·rw[hj];exact hq
    ·exact hc j (by omega) h2
   ·have hlen:(l.eraseIdx k).length=l.length-1:=by rw[List.length_eraseIdx,if_pos (by omega)]
    have e:q04 s (l,(k:Int))=some (.inl (l.eraseIdx k,(((l.eraseIdx k).length:Int)-1))):=by
     unfold q04 qm
     dsimp only
     rw[if_pos (by omega),hcov,qxH,hq,if_pos rfl,zH (by omega) (by omega),if_pos ⟨by omega,rfl,by omega⟩,qxH,qxK,zH (by omega) (by omega)]
    rw[zZ e,q6F (q9I (by omega) hq fun j h1 h2=>hc j (by omega) h2)]
    exact ih (l.eraseIdx k).length (l.eraseIdx k) (by omega) (by omega) (fun a ha=>hf a (List.mem_of_mem_eraseIdx ha)) (qxX _) fun j h1 h2=>by omega
end
noncomputable section
open Go.RowKit
set_option maxRecDepth 20000
set_option maxHeartbeats 8000000
def zp (p:qd) (s:qe) (day:Int) (t14:List qa) (t15:Int):(List qa×Int)→Option ((List qa×Int)⊕(List qa))|(left,t16)=>if t16<t15 then if 0≤t16∧t16<((t14.length:Nat):Int) then Option.bind t14[Int.toNat t16]? fun(a:qa)=>Option.bind (qv p a day) fun(a2:Bool)=>if(!a2)=Bool.true then Option.bind (qt a) fun(a3:Unit)=>if left.length+1≤maxLen∧(left.length+1)*104≤140737488355328 then some (Sum.inl (left++[a],w64 (t16+1))) else none else some (Sum.inl (left,w64 (t16+1))) else none else some (Sum.inr left)
theorem q1p:∀(left:List qa) (p_School p_Id p_Version p_From:Int) (p_Name:ByteArray) (p_Need_Kind p_Need_N p_Need_Min:Int) (p_Need_Set:List qb) (p_Need_L:List qg) (p_Total p_Own p_Age:Int) (p_Exclude:List (Qy qb)) (s_Worst s_Best s_Pass day:Int) (t14:List qa) (t15 t16:Int) (Qk:Nat),Qk=left.length→XL2 evo 11 0 3 ⟨[(3,rI day),(5,rP 0),(6,rP 1),(10,rO 2 8 Qk),(14,rL 8 qc t14),(15,rI t15),(16,rI t16)],[(0,B.blk 39 [dI p_School,dI p_Id,dI p_Version,dI p_From,dS p_Name,dI p_Need_Kind,dI p_Need_N,dI p_Need_Min,dL 2 qh p_Need_Set,dL 5 ql p_Need_L,dI p_Total,dI p_Own,dI p_Age,dL 4 (eA2 qh) p_Exclude]),(1,B.blk 30 [dI s_Worst,dI s_Best,dI s_Pass]),(2,bR 52 8 qc left)],3,53⟩=(qz (zp (qd.mk p_School p_Id p_Version p_From p_Name (qg.mk p_Need_Kind p_Need_N p_Need_Min p_Need_Set p_Need_L) p_Total p_Own p_Age p_Exclude) (qe.mk s_Worst s_Best s_Pass) day t14 t15) (left,t16)).bind (fun(e:List qa)=>some (Exit.exit 0,⟨[(6,rP 0),(10,rO 1 8 e.length)],[(0,B.blk 30 [dI s_Worst,dI s_Best,dI s_Pass]),(1,bR 52 8 qc e)],2,53⟩)):=
 by
 intro left p_School p_Id p_Version p_From p_Name p_Need_Kind p_Need_N p_Need_Min p_Need_Set p_Need_L p_Total p_Own p_Age p_Exclude s_Worst s_Best s_Pass day t14 t15 t16 Qk h0
 subst h0
 revert t16;revert left;exact qa0 qbZ qbe (fun e=>by exact⟨_,rfl,fun h=>by cases h⟩) fun left t16=>by
  have:=qiY;have:=@q7z.eq_1;have:=@J5;have:=@ZD;have:=@zp.eq_1;exact gA
theorem q0b:∀  (p_School p_Id p_Version p_From:Int) (p_Name:ByteArray) (p_Need_Kind p_Need_N p_Need_Min:Int) (p_Need_Set:List qb) (p_Need_L:List qg) (p_Total p_Own p_Age:Int) (p_Exclude:List (Qy qb)) (s_Worst s_Best s_Pass day:Int) (t14:List qa) (t15 t16:Int),XL2 evo 11 0 3 ⟨[(3,rI day),(5,rP 0),(6,rP 1),(10,rO 2 8 0),(14,rL 8 qc t14),(15,rI t15),(16,rI t16)],[(0,B.blk 39 [dI p_School,dI p_Id,dI p_Version,dI p_From,dS p_Name,dI p_Need_Kind,dI p_Need_N,dI p_Need_Min,dL 2 qh p_Need_Set,dL 5 ql p_Need_L,dI p_Total,dI p_Own,dI p_Age,dL 4 (eA2 qh) p_Exclude]),(1,B.blk 30 [dI s_Worst,dI s_Best,dI s_Pass]),(2,B.row 52 8 [])],3,53⟩=(qz (zp (qd.mk p_School p_Id p_Version p_From p_Name (qg.mk p_Need_Kind p_Need_N p_Need_Min p_Need_Set p_Need_L) p_Total p_Own p_Age p_Exclude) (qe.mk s_Worst s_Best s_Pass) day t14 t15) ([],t16)).bind (fun(e:List qa)=>some (Exit.exit 0,⟨[(6,rP 0),(10,rO 1 8 e.length)],[(0,B.blk 30 [dI s_Worst,dI s_Best,dI s_Pass]),(1,bR 52 8 qc e)],2,53⟩)):=by
 intro p_School p_Id p_Version p_From p_Name p_Need_Kind p_Need_N p_Need_Min p_Need_Set p_Need_L p_Total p_Own p_Age p_Exclude s_Worst s_Best s_Pass day t14 t15 t16;have h:=q1p [] ((qd.mk p_School p_Id p_Version p_From p_Name (qg.mk p_Need_Kind p_Need_N p_Need_Min p_Need_Set p_Need_L) p_Total p_Own p_Age p_Exclude)).School ((qd.mk p_School p_Id p_Version p_From p_Name (qg.mk p_Need_Kind p_Need_N p_Need_Min p_Need_Set p_Need_L) p_Total p_Own p_Age p_Exclude)).Id ((qd.mk p_School p_Id p_Version p_From p_Name (qg.mk p_Need_Kind p_Need_N p_Need_Min p_Need_Set p_Need_L) p_Total p_Own p_Age p_Exclude)).Version ((qd.mk p_School p_Id p_Version p_From p_Name (qg.mk p_Need_Kind p_Need_N p_Need_Min p_Need_Set p_Need_L) p_Total p_Own p_Age p_Exclude)).From ((qd.mk p_School p_Id p_Version p_From p_Name (qg.mk p_Need_Kind p_Need_N p_Need_Min p_Need_Set p_Need_L) p_Total p_Own p_Age p_Exclude)).Name ((qd.mk p_School p_Id p_Version p_From p_Name (qg.mk p_Need_Kind p_Need_N p_Need_Min p_Need_Set p_Need_L) p_Total p_Own p_Age p_Exclude)).Need.Kind ((qd.mk p_School p_Id p_Version p_From p_Name (qg.mk p_Need_Kind p_Need_N p_Need_Min p_Need_Set p_Need_L) p_Total p_Own p_Age p_Exclude)).Need.N ((qd.mk p_School p_Id p_Version p_From p_Name (qg.mk p_Need_Kind p_Need_N p_Need_Min p_Need_Set p_Need_L) p_Total p_Own p_Age p_Exclude)).Need.Min ((qd.mk p_School p_Id p_Version p_From p_Name (qg.mk p_Need_Kind p_Need_N p_Need_Min p_Need_Set p_Need_L) p_Total p_Own p_Age p_Exclude)).Need.Set ((qd.mk p_School p_Id p_Version p_From p_Name (qg.mk p_Need_Kind p_Need_N p_Need_Min p_Need_Set p_Need_L) p_Total p_Own p_Age p_Exclude)).Need.L ((qd.mk p_School p_Id p_Version p_From p_Name (qg.mk p_Need_Kind p_Need_N p_Need_Min p_Need_Set p_Need_L) p_Total p_Own p_Age p_Exclude)).Total ((qd.mk p_School p_Id p_Version p_From p_Name (qg.mk p_Need_Kind p_Need_N p_Need_Min p_Need_Set p_Need_L) p_Total p_Own p_Age p_Exclude)).Own ((qd.mk p_School p_Id p_Version p_From p_Name (qg.mk p_Need_Kind p_Need_N p_Need_Min p_Need_Set p_Need_L) p_Total p_Own p_Age p_Exclude)).Age ((qd.mk p_School p_Id p_Version p_From p_Name (qg.mk p_Need_Kind p_Need_N p_Need_Min p_Need_Set p_Need_L) p_Total p_Own p_Age p_Exclude)).Exclude ((qe.mk s_Worst s_Best s_Pass)).Worst ((qe.mk s_Worst s_Best s_Pass)).Best ((qe.mk s_Worst s_Best s_Pass)).Pass day t14 t15 t16 _ rfl
 first
  | exact h
  | (simp only[rL,dL,bR,bZ,Nat.reduceAdd] at h;exact h)
def QX (s:qe):(List qa×Int)→Option ((List qa×Int)⊕(List qa))|(left,k)=>if 0≤k then Option.bind (zT left s k) fun(a:Bool)=>if a=Bool.true then Option.bind (qm k (w64 (k+1)) left) fun(a2:List qa)=>some (Sum.inl (a2,w64 (((a2.length:Nat):Int)-1))) else some (Sum.inl (left,w64 (k-1))) else some (Sum.inr left)
theorem q1m:∀(left:List qa) (s_Worst s_Best s_Pass k:Int) (Qk:Nat),Qk=left.length→XL2 evo 11 0 9 ⟨[(6,rP 0),(10,rO 1 8 Qk),(13,rI k)],[(0,B.blk 30 [dI s_Worst,dI s_Best,dI s_Pass]),(1,bR 52 8 qc left)],2,53⟩=(qz (QX (qe.mk s_Worst s_Best s_Pass)) (left,k)).bind (fun(e:List qa)=>some (Exit.exit 2,⟨[(10,rO 0 8 e.length)],[(0,bR 52 8 qc e)],1,53⟩)):=
 by
 intro left s_Worst s_Best s_Pass k Qk h0
 subst h0
 revert k;revert left;exact qa0 qep qeD (fun e=>by exact⟨_,rfl,fun h=>by cases h⟩) fun left k=>by
  have:=qiY;have:=@q7a.eq_1;have:=@Zk;have:=@qF;have:=@QX.eq_1;exact gA
def Z2 (l:List qa) (p:qd) (s:qe) (day:Int):Option (List qa×Int):=Option.bind (qz (zp p s day l ((l.length:Nat):Int)) ([],0)) fun(a:List qa)=>Option.bind (qz (QX s) (a,w64 (((a.length:Nat):Int)-1))) fun(a2:List qa)=>if 10<((a2.length:Nat):Int) then some ([],2) else some (a2,0)
theorem q35:∀(l:List qa) (p_School p_Id p_Version p_From:Int) (p_Name:ByteArray) (p_Need_Kind p_Need_N p_Need_Min:Int) (p_Need_Set:List qb) (p_Need_L:List qg) (p_Total p_Own p_Age:Int) (p_Exclude:List (Qy qb)) (s_Worst s_Best s_Pass day:Int),ev 11 0 [rL 8 qc l,R.agg [dI p_School,dI p_Id,dI p_Version,dI p_From,dS p_Name,dI p_Need_Kind,dI p_Need_N,dI p_Need_Min,dL 2 qh p_Need_Set,dL 5 ql p_Need_L,dI p_Total,dI p_Own,dI p_Age,dL 4 (eA2 qh) p_Exclude],R.agg [dI s_Worst,dI s_Best,dI s_Pass],rI day] []=(Z2 l (qd.mk p_School p_Id p_Version p_From p_Name (qg.mk p_Need_Kind p_Need_N p_Need_Min p_Need_Set p_Need_L) p_Total p_Own p_Age p_Exclude) (qe.mk s_Worst s_Best s_Pass) day).bind (fun(e:List qa×Int)=>some (R.tup [rL 8 qc e.1,rI e.2],[])):=
 fun l p_School p_Id p_Version p_From p_Name p_Need_Kind p_Need_N p_Need_Min p_Need_Set p_Need_L p_Total p_Own p_Age p_Exclude s_Worst s_Best s_Pass day=>by
  rw[qy qjV qqx.2.2.2 qm6]
  have:=qiY;have:=@q0b;have:=@q1m;have:=@Z2.eq_1;exact gA
end

noncomputable section
open Go.RowKit
theorem qt4 (s:qe):QX s=q04 s:=rfl
def J6 (p:qd) (l:List qa) (day:Int):List qa:=l.filter fun a => !qbo p a day
def q2C (p:qd) (s:qe) (l:List qa) (day:Int):List qa:=red (q5c s) (J6 p l day)
theorem Qk (p:qd) (s:qe) (l:List qa) (day:Int):(q2C p s l day).length≤l.length:=qyi (q6A _).length_le (List.length_filter_le _ _)
theorem qfu {p:qd} {s:qe} {l:List qa} {day:Int} {a:qa} (h:a∈q2C p s l day):a∈l∧qbo p a day=false:=by
 obtain⟨h1,h2⟩:=qyC.1 ((q6A _).subset h)
 exact⟨h1,by simpa using h2⟩
theorem qaQ (p:qd) (s:qe) (day:Int) (l:List qa) (hl:l.length≤1000) (hf:∀a∈l,z8 a):∀(r out:List qa) (k:Nat),r.length+k=l.length→l.drop k=r→out.length≤k→qz (zp p s day l ((l.length:Nat):Int)) (out,(k:Int))=some (out++J6 p r day):=by
 have hML:100000≤maxLen:=by unfold maxLen;omega
 intro r
 induction r with
 | nil=>
  intro out k hk hd ho
  have hk:k=l.length:=by simpa using hk
  refine(qY (e:=out) ?_).trans (by unfold J6;rw[List.filter_nil,qy2])
  unfold zp
  dsimp only
  rw[if_neg (by omega)]
 | cons a r ih=>
  intro out k hk hd ho
  simp only[qxS] at hk
  have ha:l[k]?=some a:=by have:=congrArg (fun x:List qa=>x[0]?) hd;simpa [List.getElem?_drop] using this
  have hd1:l.drop (k+1)=r:=by rw[←qyu,hd];rfl
  have hklt:=Qb ha
  have hfa:=hf a (qxI ha)
  have h1:=hfa.1;have h2:=hfa.2
  have e:zp p s day l ((l.length:Nat):Int) (out,(k:Int))=some (.inl (if qbo p a day=true then out else out++[a],((k+1:Nat):Int))):=by
   unfold zp qt qM
   dsimp only
   rw[if_pos (by omega),if_pos ⟨by omega,by omega⟩,qxK,ha,qxH,qhm,qxH,Qe hklt (by omega)]
   cases qbo p a day
   ·rw[if_pos (show(!false)=true by decide),if_pos ⟨by omega,by omega⟩,qxH,if_pos ⟨by omega,by omega⟩,qxH,qxH,if_pos ⟨by omega,by omega⟩];rfl
   ·rfl
  rw[zZ e]
  unfold J6
  rw[List.filter_cons]
  cases ho2:qbo p a day
  ·rw[if_neg (by decide),if_pos (by decide),ih (out++[a]) (k+1) (by omega) hd1 (by simp;omega),qym];rfl
  ·rw[if_pos rfl,if_neg (by decide),ih out (k+1) (by omega) hd1 (by omega)];rfl
theorem qcj (l:List qa) (p:qd) (s:qe) (day:Int) (hl:l.length≤1000) (hf:∀a∈l,z8 a):Z2 l p s day=some (if 10<(q2C p s l day).length then([],2) else(q2C p s l day,0)):=by
 have hy:(J6 p l day).length≤l.length:=List.length_filter_le _ _
 unfold Z2
 change Option.bind (qz _ ([],((0:Nat):Int))) _=_
 rw[qaQ p s day l hl hf l [] 0 (by omega) rfl (qxX _),qxH,qy1,zH (by omega) (by omega),qt4,q5X s (J6 p l day).length (J6 p l day).length (J6 p l day) (qxX _) (by omega) (fun a ha=>hf a ((qyC.1 ha).1)) (qxX _) (fun j h1 h2=>by omega),qxH]
 show(if(10:Int)<(((q2C p s l day).length:Nat):Int) then _ else _)=_
 by_cases h:10<(q2C p s l day).length
 ·rw[if_pos (by omega),if_pos h]
 ·rw[if_neg (by omega),if_neg h];rfl
end
noncomputable section
open Go.RowKit
set_option maxRecDepth 20000
set_option maxHeartbeats 8000000
theorem gA2 {P:Prop} (h:P:=by simp -implicitDefEqProofs (maxSteps:=10000000) only[bA,Int.reduceToNat,Int.reduceLT,Int.reduceLE,Int.reduceAdd,Int.reduceSub,Int.reduceMul,Int.reduceNeg,Int.reduceEq,Int.reduceNe,Int.reduceBEq,Int.reduceBNe,Nat.reduceLT,Nat.reduceAdd,Nat.reduceMul,Nat.reduceSub,Nat.reduceEqDiff,Nat.reduceLeDiff,Nat.reduceBEq,Nat.reduceBNe,↓reduceIte,reduceCtorEq,pure,bind,w64,qS,QV,Option.or_some,Option.or_none,Option.none_or,Option.some_or, *]<;>simp only[rL,dL,bR,bZ,Nat.reduceAdd,qya]):P:=h
theorem qt8:okL 12 q7r:=qB (qi qnh) (by kernel_rfl) (by kernel_rfl)
def qsu:=JA_ @q7r.eq_1 (JA_ @Try.f12.eq_1 @qnh)
theorem qps:lbO 12 3=qev:=zE (qi qnh) rfl
theorem qoc:okL 12 qev:=qT qt8 (qxI (i:=0) (by kernel_rfl))
theorem qpc:lbO 12 9=qbv:=zE (qi qnh) rfl
theorem qmq:okL 12 qbv:=qT qt8 (qxI (i:=1) (by kernel_rfl))
theorem qvM:okL 34 qcL:=qB (qi qso) (by kernel_rfl) (by kernel_rfl)
def qvT:=JA_ @qcL.eq_1 (JA_ @Try.f34.eq_1 @qso)
theorem qw6:okL 62 qbj:=qB (qi qqF) (by kernel_rfl) (by kernel_rfl)
def qxx:=JA_ @qbj.eq_1 (JA_ @Try.f62.eq_1 @qqF)
theorem qvp:okL 82 qdR:=qB (qi qs2) (by kernel_rfl) (by kernel_rfl)
def qwF:=JA_ @qdR.eq_1 (JA_ @Try.f82.eq_1 @qs2)
def ZY (n:Int) (by0:Int):Option Int:=if by0=0 then none else if by0=0 then none else if Int.tmod n by0<0 then some (w64 (w64 (Int.tdiv n by0)-1)) else some (w64 (Int.tdiv n by0))
theorem q3x:∀(n by0:Int),ev 82 0 [rI n,rI by0] []=(ZY n by0).bind (fun(e:Int)=>some (rI e,[])):=
 fun n by0=>by
  rw[qy qs2 qv2.2.2.2 qvp]
  have:=qwF;have:=@ZY.eq_1;exact gA
def Zc (day:Int):Option Int:=Option.bind (ZY day 100) fun(e0:Int)=>some e0
theorem q51:∀(day:Int),ev 62 0 [rI day] []=(Zc day).bind (fun(e:Int)=>some (rI e,[])):=
 fun day=>by
  rw[qy qqF qva.2.2.2 qw6]
  have:=qxx;have:=@q3x;have:=@Zc.eq_1;exact gA
def Je (p:qd) (a:qa) (day:Int):Option Bool:=if 0<p.Age then Option.bind (Zc day) fun(a2:Int)=>Option.bind (Zc a.Day) fun(a3:Int)=>some (decide (p.Age<w64 (a2-a3))) else some Bool.false
theorem q5n:∀(p_School p_Id p_Version p_From:Int) (p_Name:ByteArray) (p_Need_Kind p_Need_N p_Need_Min:Int) (p_Need_Set:List qb) (p_Need_L:List qg) (p_Total p_Own p_Age:Int) (p_Exclude:List (Qy qb)) (a_Course_School:Int) (a_Course_Code:ByteArray) (a_Credits a_Grade a_Day:Int) (a_Sources:List Int) (a_Bundle:Int) (a_Path:List Int) (day:Int),ev 34 0 [R.agg [dI p_School,dI p_Id,dI p_Version,dI p_From,dS p_Name,dI p_Need_Kind,dI p_Need_N,dI p_Need_Min,dL 2 qh p_Need_Set,dL 5 ql p_Need_L,dI p_Total,dI p_Own,dI p_Age,dL 4 (eA2 qh) p_Exclude],R.agg [dI a_Course_School,dS a_Course_Code,dI a_Credits,dI a_Grade,dI a_Day,dL 1 eI a_Sources,dI a_Bundle,dL 1 eI a_Path],rI day] []=(Je (qd.mk p_School p_Id p_Version p_From p_Name (qg.mk p_Need_Kind p_Need_N p_Need_Min p_Need_Set p_Need_L) p_Total p_Own p_Age p_Exclude) (qa.mk (qb.mk a_Course_School a_Course_Code) a_Credits a_Grade a_Day a_Sources a_Bundle a_Path) day).bind (fun(e:Bool)=>some (rB e,[])):=
 fun p_School p_Id p_Version p_From p_Name p_Need_Kind p_Need_N p_Need_Min p_Need_Set p_Need_L p_Total p_Own p_Age p_Exclude a_Course_School a_Course_Code a_Credits a_Grade a_Day a_Sources a_Bundle a_Path day=>by
  rw[qy qso quY.2.2.2 qvM]
  have:=qvT;have:=@q51;have:=@Je.eq_1;exact gA
theorem qrT:okL 36 q6X:=qB (qi qnL) (by kernel_rfl) (by kernel_rfl)
def qse:=JA_ @q6X.eq_1 (JA_ @Try.f36.eq_1 @qnL)
theorem qoX:lbO 36 2=qdK:=zE (qi qnL) rfl
theorem qpJ:okL 36 qdK:=qT qrT (qxI (i:=0) (by kernel_rfl))
theorem qmV:lbO 36 5=qeg:=zE (qi qnL) rfl
theorem qm0:okL 36 qeg:=qT qrT (qxI (i:=1) (by kernel_rfl))
theorem qrU:okL 63 q7x:=qB (qi qnp) (by kernel_rfl) (by kernel_rfl)
def qqM:=JA_ @q7x.eq_1 (JA_ @Try.f63.eq_1 @qnp)
theorem qoh:lbO 63 5=qeG:=zE (qi qnp) rfl
theorem qmj:okL 63 qeG:=qT qrU (qxI (i:=0) (by kernel_rfl))
theorem qiP:lbO 63 10=q85:=zE (qi qnp) rfl
theorem qjX:okL 63 q85:=qT qrU (qxI (i:=1) (by kernel_rfl))
theorem qwn:okL 15 qeb:=qB (qi qre) (by kernel_rfl) (by kernel_rfl)
def qw3:=JA_ @qeb.eq_1 (JA_ @Try.f15.eq_1 @qre)
theorem qvO:okL 41 qe1:=qB (qi qs3) (by kernel_rfl) (by kernel_rfl)
def qw2:=JA_ @qe1.eq_1 (JA_ @Try.f41.eq_1 @qs3)
theorem qxt:okL 65 qct:=qB (qi qtp) (by kernel_rfl) (by kernel_rfl)
def qx1:=JA_ @qct.eq_1 (JA_ @Try.f65.eq_1 @qtp)
theorem qwh:okL 86 qcR:=qB (qi qsE) (by kernel_rfl) (by kernel_rfl)
def qvG:=JA_ @qcR.eq_1 (JA_ @Try.f86.eq_1 @qsE)
theorem qwr:okL 91 qcD:=qB (qi qro) (by kernel_rfl) (by kernel_rfl)
def qw5:=JA_ @qcD.eq_1 (JA_ @Try.f91.eq_1 @qro)
def Jm (n:Int) (most:Int):Option Bool:=if w64 (0-most)≤n then some (decide (n≤most)) else some Bool.false
def zK (n:Int) (most:Int):Bool:=if w64 (0-most)≤n then decide (n≤most) else Bool.false
theorem q3H (n most:Int):Jm n most=some (zK n most):=by
 unfold Jm zK
 simp only[ZG]
theorem q4W:∀(n most:Int),ev 91 0 [rI n,rI most] []=some (rB (zK n most),[]):=
 fun n most=>by
  have h:ev 91 0 [rI n,rI most] []=(Jm n most).bind (fun(e:Bool)=>some (rB e,[])):=by
   rw[qy qro quJ.2.2.2 qwr]
   have:=qw5;have:=@Jm.eq_1;exact gA
  rw[q3H] at h
  exact h
def ZU (s:qe):Option Int:=if(min s.Worst s.Best==max s.Worst s.Best)=Bool.true then some 10 else if(!(zK (min s.Worst s.Best) 1000))=Bool.true then some 10 else if(!(zK (max s.Worst s.Best) 1000))=Bool.true then some 10 else if s.Pass<min s.Worst s.Best then some 10 else if max s.Worst s.Best<s.Pass then some 10 else some 0
def Qa (s:qe):Int:=if(min s.Worst s.Best==max s.Worst s.Best)=Bool.true then 10 else if(!(zK (min s.Worst s.Best) 1000))=Bool.true then 10 else if(!(zK (max s.Worst s.Best) 1000))=Bool.true then 10 else if s.Pass<min s.Worst s.Best then 10 else if max s.Worst s.Best<s.Pass then 10 else 0
theorem q2O (s:qe):ZU s=some (Qa s):=by
 unfold ZU Qa
 simp only[ZG]
theorem q3I:∀(s_Worst s_Best s_Pass:Int),ev 86 0 [R.agg [dI s_Worst,dI s_Best,dI s_Pass]] []=some (rI (Qa (qe.mk s_Worst s_Best s_Pass)),[]):=
 fun s_Worst s_Best s_Pass=>by
  have h:ev 86 0 [R.agg [dI s_Worst,dI s_Best,dI s_Pass]] []=(ZU (qe.mk s_Worst s_Best s_Pass)).bind (fun(e:Int)=>some (rI e,[])):=by
   rw[qy qsE qvd.2.2.2 qwh]
   have:=qvG;have:=@q4W;have:=@ZU.eq_1;exact gA
  rw[q2O] at h
  exact h
def J0 (s:qe) (g:Int):Option Bool:=if(Qa s==0)=Bool.true then if min s.Worst s.Best≤g then some (decide (g≤max s.Worst s.Best)) else some Bool.false else some Bool.false
def Qw (s:qe) (g:Int):Bool:=if(Qa s==0)=Bool.true then if min s.Worst s.Best≤g then decide (g≤max s.Worst s.Best) else Bool.false else Bool.false
theorem q37 (s:qe) (g:Int):J0 s g=some (Qw s g):=by
 unfold J0 Qw
 simp only[ZG]
theorem q3t:∀(s_Worst s_Best s_Pass g:Int),ev 65 0 [R.agg [dI s_Worst,dI s_Best,dI s_Pass],rI g] []=some (rB (Qw (qe.mk s_Worst s_Best s_Pass) g),[]):=
 fun s_Worst s_Best s_Pass g=>by
  have h:ev 65 0 [R.agg [dI s_Worst,dI s_Best,dI s_Pass],rI g] []=(J0 (qe.mk s_Worst s_Best s_Pass) g).bind (fun(e:Bool)=>some (rB e,[])):=by
   rw[qy qtp qu5.2.2.2 qxt]
   have:=qx1;have:=@q3I;have:=@J0.eq_1;exact gA
  rw[q37] at h
  exact h
def Zo (s:qe) (g:Int) (least:Int):Option Bool:=if(!(Qw s g))=Bool.true then some Bool.false else if s.Worst<s.Best then some (decide (least≤g)) else some (decide (g≤least))
def Q8 (s:qe) (g:Int) (least:Int):Bool:=if(!(Qw s g))=Bool.true then Bool.false else if s.Worst<s.Best then decide (least≤g) else decide (g≤least)
theorem q1P (s:qe) (g least:Int):Zo s g least=some (Q8 s g least):=by
 unfold Zo Q8
 simp only[ZG]
theorem q2a:∀(s_Worst s_Best s_Pass g least:Int),ev 41 0 [R.agg [dI s_Worst,dI s_Best,dI s_Pass],rI g,rI least] []=some (rB (Q8 (qe.mk s_Worst s_Best s_Pass) g least),[]):=
 fun s_Worst s_Best s_Pass g least=>by
  have h:ev 41 0 [R.agg [dI s_Worst,dI s_Best,dI s_Pass],rI g,rI least] []=(Zo (qe.mk s_Worst s_Best s_Pass) g least).bind (fun(e:Bool)=>some (rB e,[])):=by
   rw[qy qs3 qtI.2.2.2 qvO]
   have:=qw2;have:=@q3t;have:=@Zo.eq_1;exact gA
  rw[q1P] at h
  exact h
def QI (s:qe) (a:qa) (b:qa):Option Bool:=Option.bind (zD a.Path b.Path) fun(a2:Bool)=>if a2=Bool.true then if Q8 s a.Grade b.Grade=Bool.true then if(a.Course.School==b.Course.School)=Bool.true∧(ByteArray.toList a.Course.Code==ByteArray.toList b.Course.Code)=Bool.true then if(a.Bundle==b.Bundle)=Bool.true then if b.Credits≤a.Credits then some (decide (b.Day≤a.Day)) else some Bool.false else some Bool.false else some Bool.false else some Bool.false else some Bool.false
theorem JY:∀(s_Worst s_Best s_Pass a_Course_School:Int) (a_Course_Code:ByteArray) (a_Credits a_Grade a_Day:Int) (a_Sources:List Int) (a_Bundle:Int) (a_Path:List Int) (b_Course_School:Int) (b_Course_Code:ByteArray) (b_Credits b_Grade b_Day:Int) (b_Sources:List Int) (b_Bundle:Int) (b_Path:List Int),ev 15 0 [R.agg [dI s_Worst,dI s_Best,dI s_Pass],R.agg [dI a_Course_School,dS a_Course_Code,dI a_Credits,dI a_Grade,dI a_Day,dL 1 eI a_Sources,dI a_Bundle,dL 1 eI a_Path],R.agg [dI b_Course_School,dS b_Course_Code,dI b_Credits,dI b_Grade,dI b_Day,dL 1 eI b_Sources,dI b_Bundle,dL 1 eI b_Path]] []=(QI (qe.mk s_Worst s_Best s_Pass) (qa.mk (qb.mk a_Course_School a_Course_Code) a_Credits a_Grade a_Day a_Sources a_Bundle a_Path) (qa.mk (qb.mk b_Course_School b_Course_Code) b_Credits b_Grade b_Day b_Sources b_Bundle b_Path)).bind (fun(e:Bool)=>some (rB e,[])):=
 fun s_Worst s_Best s_Pass a_Course_School a_Course_Code a_Credits a_Grade a_Day a_Sources a_Bundle a_Path b_Course_School b_Course_Code b_Credits b_Grade b_Day b_Sources b_Bundle b_Path=>by
  rw[qy qre qtU.2.2.2 qwn]
  have:=qw3;have:=@Za;have:=@q2a;have:=@QI.eq_1;exact gA
theorem quv:okL 83 q8W:=qB (qi qq7) (by kernel_rfl) (by kernel_rfl)
def qtH:=JA_ @q8W.eq_1 (JA_ @Try.f83.eq_1 @qq7)
theorem qls:lbO 83 2=qck:=zE (qi qq7) rfl
theorem qpA:okL 83 qck:=qT quv (qxI (i:=0) (by kernel_rfl))
def QG (l:List Int) (n:Int):Int→Option (Int⊕(Unit⊕Unit))|k=>if k<((l.length:Nat):Int) then if 0≤k∧k<((l.length:Nat):Int) then Option.bind l[Int.toNat k]? fun(a:Int)=>if(a==n)=Bool.true then some (Sum.inr (Sum.inl ())) else some (Sum.inl (w64 (k+1))) else none else some (Sum.inr (Sum.inr ()))
theorem q2D:∀(l:List Int) (n k:Int),XL2 evo 83 0 2 ⟨[(0,rL 1 eI l),(1,rI n),(5,rI k)],[],0,18⟩=(qz (QG l n) k).bind (Sum.elim (fun(e:Unit)=>some (Exit.ret,⟨[(4,rB Bool.true)],[],0,18⟩)) (fun(e:Unit)=>some (Exit.exit 0,⟨[(4,R.any)],[],0,18⟩))):=
 fun l n k=>by
  revert k;exact q5l qls qpA (fun e=>by rcases e with _|_<;>exact⟨_,rfl,fun h=>by cases h⟩) fun x=>by
   have:=qtH;have:=@qck.eq_1;have:=@QG.eq_1;exact gA
def Zy (l:List Int) (n:Int):Option Bool:=Option.bind (qz (QG l n) 0) fun(a:Sum Unit Unit)=>Sum.elim (fun(a2:Unit)=>some Bool.true) (fun(a3:Unit)=>some Bool.false) a
theorem q1B:∀(l:List Int) (n:Int),ev 83 0 [rL 1 eI l,rI n] []=(Zy l n).bind (fun(e:Bool)=>some (rB e,[])):=
 fun l n=>by
  rw[qy qq7 quj.2.2.2 quv]
  have:=qtH;have:=@q2D;have:=@Zy.eq_1;exact gA
def zJ (t0:List qa) (t2:Int) (t3:Int) (t10:Int) (t11:Int):Int→Option (Int⊕(Unit⊕Unit))|t12=>if t12<((t0.length:Nat):Int) then if(t12 != t2)=Bool.true then if 0≤t12∧t12<((t0.length:Nat):Int) then Option.bind t0[Int.toNat t12]? fun(a:qa)=>Option.bind (Zy a.Sources t11) fun(a2:Bool)=>if a2=Bool.true then some (Sum.inr (Sum.inl ())) else some (Sum.inl (w64 (t12+1))) else none else some (Sum.inl (w64 (t12+1))) else some (Sum.inr (Sum.inr ()))
theorem q1t:∀(t0:List qa) (t2 t3 t10 t11 t12:Int),XL2 evo 63 0 10 ⟨[(0,rL 8 qc t0),(2,rI t2),(3,rI t3),(10,rI t10),(11,rI t11),(12,rI t12)],[],0,73⟩=(qz (zJ t0 t2 t3 t10 t11) t12).bind (Sum.elim (fun(e:Unit)=>some (Exit.ret,⟨[(0,rL 8 qc t0),(2,rI t2),(3,rI t3),(8,rB Bool.false),(10,rI t10)],[],0,73⟩)) (fun(e:Unit)=>some (Exit.exit 2,⟨[(0,rL 8 qc t0),(2,rI t2),(3,rI t3),(8,R.any),(10,rI t10)],[],0,73⟩))):=
 fun t0 t2 t3 t10 t11 t12=>by
  revert t12;exact q5l qiP qjX (fun e=>by rcases e with _|_<;>exact⟨_,rfl,fun h=>by cases h⟩) fun x=>by
   have:=qqM;have:=@q85.eq_1;have:=@q1B;have:=@zJ.eq_1;exact gA
def Qi (t0:List qa) (t2:Int) (t3:Int):Int→Option (Int⊕(Unit⊕Unit))|t10=>if 0≤t2∧t2<((t0.length:Nat):Int) then Option.bind t0[Int.toNat t2]? fun(a:qa)=>if t10<((a.Sources.length:Nat):Int) then if 0≤t2∧t2<((t0.length:Nat):Int) then Option.bind t0[Int.toNat t2]? fun(a2:qa)=>if 0≤t10∧t10<((a2.Sources.length:Nat):Int) then Option.bind a2.Sources[Int.toNat t10]? fun(a3:Int)=>if 0≤t3∧t3<((t0.length:Nat):Int) then Option.bind t0[Int.toNat t3]? fun(a4:qa)=>Option.bind (Zy a4.Sources a3) fun(a5:Bool)=>if a5=Bool.true then some (Sum.inl (w64 (t10+1))) else Option.bind (qz (zJ t0 t2 t3 t10 a3) 0) fun(a6:Sum Unit Unit)=>Sum.elim (fun(a7:Unit)=>some (Sum.inr (Sum.inl ()))) (fun(a8:Unit)=>some (Sum.inl (w64 (t10+1)))) a6 else none else none else none else some (Sum.inr (Sum.inr ())) else none
theorem q1R:∀(t0:List qa) (t2 t3 t10:Int),XL2 evo 63 0 5 ⟨[(0,rL 8 qc t0),(2,rI t2),(3,rI t3),(10,rI t10)],[],0,73⟩=(qz (Qi t0 t2 t3) t10).bind (Sum.elim (fun(e:Unit)=>some (Exit.ret,⟨[(8,rB Bool.false)],[],0,73⟩)) (fun(e:Unit)=>some (Exit.exit 0,⟨[(8,R.any)],[],0,73⟩))):=
 fun t0 t2 t3 t10=>by
  revert t10;exact q5l qoh qmj (fun e=>by rcases e with _|_<;>exact⟨_,rfl,fun h=>by cases h⟩) fun x=>by
   have:=qqM;have:=@qeG.eq_1;have:=@q1B;have:=@q1t;have:=@Qi.eq_1;exact gA
def Zp (x0:List qa) (x1:qe) (x2:Int) (x3:Int):Option Bool:=if 0≤x2∧x2<((x0.length:Nat):Int) then Option.bind x0[Int.toNat x2]? fun(a:qa)=>if 0≤x3∧x3<((x0.length:Nat):Int) then Option.bind x0[Int.toNat x3]? fun(a2:qa)=>Option.bind (QI x1 a a2) fun(a3:Bool)=>if(x2==x3)=Bool.true then some Bool.false else if(!a3)=Bool.true then some Bool.false else Option.bind (qz (Qi x0 x2 x3) 0) fun(a4:Sum Unit Unit)=>Sum.elim (fun(a5:Unit)=>some Bool.false) (fun(a6:Unit)=>some Bool.true) a4 else none else none
theorem q3w:∀(x0:List qa) (x1_Worst x1_Best x1_Pass x2 x3:Int),ev 63 0 [rL 8 qc x0,R.agg [dI x1_Worst,dI x1_Best,dI x1_Pass],rI x2,rI x3] []=(Zp x0 (qe.mk x1_Worst x1_Best x1_Pass) x2 x3).bind (fun(e:Bool)=>some (rB e,[])):=
 fun x0 x1_Worst x1_Best x1_Pass x2 x3=>by
  rw[qy qnp qtR.2.2.2 qrU]
  have:=qqM;have:=@JY;have:=@q1R;have:=@Zp.eq_1;exact gA
def zy (s:qe) (l:List qa) (k:Int):Int→Option (Int⊕(Unit⊕Unit))|i=>if i<((l.length:Nat):Int) then Option.bind (Zp l s i k) fun(a:Bool)=>if a=Bool.true then some (Sum.inr (Sum.inl ())) else some (Sum.inl (w64 (i+1))) else some (Sum.inr (Sum.inr ()))
theorem q0O:∀(s_Worst s_Best s_Pass:Int) (l:List qa) (k i:Int),XL2 evo 36 0 5 ⟨[(0,rL 8 qc l),(3,rP 0),(5,rI k),(6,rI i)],[(0,B.blk 30 [dI s_Worst,dI s_Best,dI s_Pass])],1,26⟩=(qz (zy (qe.mk s_Worst s_Best s_Pass) l k) i).bind (Sum.elim (fun(e:Unit)=>some (Exit.ret,⟨[(0,rL 8 qc l),(3,rP 0),(4,rI k),(5,rI k)],[(0,B.blk 30 [dI s_Worst,dI s_Best,dI s_Pass])],1,26⟩)) (fun(e:Unit)=>some (Exit.exit 2,⟨[(0,rL 8 qc l),(3,rP 0),(4,R.any),(5,rI k)],[(0,B.blk 30 [dI s_Worst,dI s_Best,dI s_Pass])],1,26⟩))):=
 fun s_Worst s_Best s_Pass l k i=>by
  revert i;exact q5l qmV qm0 (fun e=>by rcases e with _|_<;>exact⟨_,rfl,fun h=>by cases h⟩) fun x=>by
   have:=qse;have:=@qeg.eq_1;have:=@q3w;have:=@zy.eq_1;exact gA
def zx (s:qe) (l:List qa):Int→Option (Int⊕(Int⊕Unit))|k=>if 0≤k then Option.bind (qz (zy s l k) 0) fun(a:Sum Unit Unit)=>Sum.elim (fun(a2:Unit)=>some (Sum.inr (Sum.inl k))) (fun(a3:Unit)=>some (Sum.inl (w64 (k-1)))) a else some (Sum.inr (Sum.inr ()))
theorem q0L:∀(s_Worst s_Best s_Pass:Int) (l:List qa) (k:Int),XL2 evo 36 0 2 ⟨[(0,rL 8 qc l),(3,rP 0),(5,rI k)],[(0,B.blk 30 [dI s_Worst,dI s_Best,dI s_Pass])],1,26⟩=(qz (zx (qe.mk s_Worst s_Best s_Pass) l) k).bind (Sum.elim (fun(e:Int)=>some (Exit.ret,⟨[(4,rI e)],[],0,26⟩)) (fun(e:Unit)=>some (Exit.exit 0,⟨[(4,R.any)],[],0,26⟩))):=
 fun s_Worst s_Best s_Pass l k=>by
  revert k;exact q5l qoX qpJ (fun e=>by rcases e with _|_<;>exact⟨_,rfl,fun h=>by cases h⟩) fun x=>by
   have:=qse;have:=@qdK.eq_1;have:=@q0O;have:=@zx.eq_1;exact gA
def zP (l:List qa) (s:qe):Option Int:=Option.bind (qz (zx s l) (w64 (((l.length:Nat):Int)-1))) fun(a:Sum Int Unit)=>Sum.elim (fun(a2:Int)=>some a2) (fun(a3:Unit)=>some (-1)) a
theorem Zr:∀(l:List qa) (s_Worst s_Best s_Pass:Int),ev 36 0 [rL 8 qc l,R.agg [dI s_Worst,dI s_Best,dI s_Pass]] []=(zP l (qe.mk s_Worst s_Best s_Pass)).bind (fun(e:Int)=>some (rI e,[])):=
 fun l s_Worst s_Best s_Pass=>by
  rw[qy qnL qtZ.2.2.2 qrT]
  have:=qse;have:=@q0L;have:=@zP.eq_1;exact gA
theorem q12:∀(l2:List qa) (s_Worst s_Best s_Pass:Int) (l2_len:Nat),l2_len=l2.length→ev 36 0 [R.c (C.d (D.sl 8 l2_len (l2.flatMap qc))),R.agg [dI s_Worst,dI s_Best,dI s_Pass]] []=(zP l2 (qe.mk s_Worst s_Best s_Pass)).bind (fun(e:Int)=>some (rI e,[])):=by
 intro l2 s_Worst s_Best s_Pass l2_len h0;subst h0;have h:=Zr l2 ((qe.mk s_Worst s_Best s_Pass)).Worst ((qe.mk s_Worst s_Best s_Pass)).Best ((qe.mk s_Worst s_Best s_Pass)).Pass
 first
  | exact h
  | (simp only[rL,dL,bR,bZ,Nat.reduceAdd] at h;exact h)
def zq (p:qd) (s:qe) (l:List qa) (day:Int):(List qa×Int)→Option ((List qa×Int)⊕(List qa))|(out,k)=>if k<((l.length:Nat):Int) then if 0≤k∧k<((l.length:Nat):Int) then Option.bind l[Int.toNat k]? fun(a:qa)=>Option.bind (Je p a day) fun(a2:Bool)=>if(!a2)=Bool.true then if 0≤k∧k<((l.length:Nat):Int) then Option.bind l[Int.toNat k]? fun(a3:qa)=>Option.bind (Ze a3) fun(a4:Prod Int (Prod ByteArray (Prod Int (Prod Int (Prod Int (Prod Int (Prod (List Int) (List Int))))))))=>if out.length+1≤maxLen∧(out.length+1)*104≤140737488355328 then some (Sum.inl (out++[qa.mk (qb.mk a4.1 a4.2.1) a4.2.2.1 a4.2.2.2.1 a4.2.2.2.2.1 a4.2.2.2.2.2.2.1 a4.2.2.2.2.2.1 a4.2.2.2.2.2.2.2],w64 (k+1))) else none else none else some (Sum.inl (out,w64 (k+1))) else none else some (Sum.inr out)
theorem q1r:∀(out:List qa) (p_School p_Id p_Version p_From:Int) (p_Name:ByteArray) (p_Need_Kind p_Need_N p_Need_Min:Int) (p_Need_Set:List qb) (p_Need_L:List qg) (p_Total p_Own p_Age:Int) (p_Exclude:List (Qy qb)) (s_Worst s_Best s_Pass:Int) (l:List qa) (day k:Int) (out_len:Nat),out_len=out.length→XL2 evo 12 0 3 ⟨[(0,rL 8 qc l),(3,rI day),(5,rP 0),(6,rP 1),(10,rO 2 8 out_len),(11,rI k)],[(0,B.blk 39 [dI p_School,dI p_Id,dI p_Version,dI p_From,dS p_Name,dI p_Need_Kind,dI p_Need_N,dI p_Need_Min,dL 2 qh p_Need_Set,dL 5 ql p_Need_L,dI p_Total,dI p_Own,dI p_Age,dL 4 (eA2 qh) p_Exclude]),(1,B.blk 30 [dI s_Worst,dI s_Best,dI s_Pass]),(2,bR 52 8 qc out)],3,57⟩=(qz (zq (qd.mk p_School p_Id p_Version p_From p_Name (qg.mk p_Need_Kind p_Need_N p_Need_Min p_Need_Set p_Need_L) p_Total p_Own p_Age p_Exclude) (qe.mk s_Worst s_Best s_Pass) l day) (out,k)).bind (fun(e:List qa)=>some (Exit.exit 0,⟨[(6,rP 0),(10,rO 1 8 e.length)],[(0,B.blk 30 [dI s_Worst,dI s_Best,dI s_Pass]),(1,bR 52 8 qc e)],2,57⟩)):=
 by
 intro out p_School p_Id p_Version p_From p_Name p_Need_Kind p_Need_N p_Need_Min p_Need_Set p_Need_L p_Total p_Own p_Age p_Exclude s_Worst s_Best s_Pass l day k out_len h0
 subst h0
 revert k;revert out;exact qa0 qps qoc (fun e=>by exact⟨_,rfl,fun h=>by cases h⟩) fun out k=>by
  have:=qsu;have:=@qev.eq_1;have:=@q5n;have:=@q0X;have:=@zq.eq_1;exact gA
theorem q07:∀  (p_School p_Id p_Version p_From:Int) (p_Name:ByteArray) (p_Need_Kind p_Need_N p_Need_Min:Int) (p_Need_Set:List qb) (p_Need_L:List qg) (p_Total p_Own p_Age:Int) (p_Exclude:List (Qy qb)) (s_Worst s_Best s_Pass:Int) (l:List qa) (day k:Int),XL2 evo 12 0 3 ⟨[(0,rL 8 qc l),(3,rI day),(5,rP 0),(6,rP 1),(10,rO 2 8 0),(11,rI k)],[(0,B.blk 39 [dI p_School,dI p_Id,dI p_Version,dI p_From,dS p_Name,dI p_Need_Kind,dI p_Need_N,dI p_Need_Min,dL 2 qh p_Need_Set,dL 5 ql p_Need_L,dI p_Total,dI p_Own,dI p_Age,dL 4 (eA2 qh) p_Exclude]),(1,B.blk 30 [dI s_Worst,dI s_Best,dI s_Pass]),(2,B.row 52 8 [])],3,57⟩=(qz (zq (qd.mk p_School p_Id p_Version p_From p_Name (qg.mk p_Need_Kind p_Need_N p_Need_Min p_Need_Set p_Need_L) p_Total p_Own p_Age p_Exclude) (qe.mk s_Worst s_Best s_Pass) l day) ([],k)).bind (fun(e:List qa)=>some (Exit.exit 0,⟨[(6,rP 0),(10,rO 1 8 e.length)],[(0,B.blk 30 [dI s_Worst,dI s_Best,dI s_Pass]),(1,bR 52 8 qc e)],2,57⟩)):=by
 intro p_School p_Id p_Version p_From p_Name p_Need_Kind p_Need_N p_Need_Min p_Need_Set p_Need_L p_Total p_Own p_Age p_Exclude s_Worst s_Best s_Pass l day k;have h:=q1r [] ((qd.mk p_School p_Id p_Version p_From p_Name (qg.mk p_Need_Kind p_Need_N p_Need_Min p_Need_Set p_Need_L) p_Total p_Own p_Age p_Exclude)).School ((qd.mk p_School p_Id p_Version p_From p_Name (qg.mk p_Need_Kind p_Need_N p_Need_Min p_Need_Set p_Need_L) p_Total p_Own p_Age p_Exclude)).Id ((qd.mk p_School p_Id p_Version p_From p_Name (qg.mk p_Need_Kind p_Need_N p_Need_Min p_Need_Set p_Need_L) p_Total p_Own p_Age p_Exclude)).Version ((qd.mk p_School p_Id p_Version p_From p_Name (qg.mk p_Need_Kind p_Need_N p_Need_Min p_Need_Set p_Need_L) p_Total p_Own p_Age p_Exclude)).From ((qd.mk p_School p_Id p_Version p_From p_Name (qg.mk p_Need_Kind p_Need_N p_Need_Min p_Need_Set p_Need_L) p_Total p_Own p_Age p_Exclude)).Name ((qd.mk p_School p_Id p_Version p_From p_Name (qg.mk p_Need_Kind p_Need_N p_Need_Min p_Need_Set p_Need_L) p_Total p_Own p_Age p_Exclude)).Need.Kind ((qd.mk p_School p_Id p_Version p_From p_Name (qg.mk p_Need_Kind p_Need_N p_Need_Min p_Need_Set p_Need_L) p_Total p_Own p_Age p_Exclude)).Need.N ((qd.mk p_School p_Id p_Version p_From p_Name (qg.mk p_Need_Kind p_Need_N p_Need_Min p_Need_Set p_Need_L) p_Total p_Own p_Age p_Exclude)).Need.Min ((qd.mk p_School p_Id p_Version p_From p_Name (qg.mk p_Need_Kind p_Need_N p_Need_Min p_Need_Set p_Need_L) p_Total p_Own p_Age p_Exclude)).Need.Set ((qd.mk p_School p_Id p_Version p_From p_Name (qg.mk p_Need_Kind p_Need_N p_Need_Min p_Need_Set p_Need_L) p_Total p_Own p_Age p_Exclude)).Need.L ((qd.mk p_School p_Id p_Version p_From p_Name (qg.mk p_Need_Kind p_Need_N p_Need_Min p_Need_Set p_Need_L) p_Total p_Own p_Age p_Exclude)).Total ((qd.mk p_School p_Id p_Version p_From p_Name (qg.mk p_Need_Kind p_Need_N p_Need_Min p_Need_Set p_Need_L) p_Total p_Own p_Age p_Exclude)).Own ((qd.mk p_School p_Id p_Version p_From p_Name (qg.mk p_Need_Kind p_Need_N p_Need_Min p_Need_Set p_Need_L) p_Total p_Own p_Age p_Exclude)).Age ((qd.mk p_School p_Id p_Version p_From p_Name (qg.mk p_Need_Kind p_Need_N p_Need_Min p_Need_Set p_Need_L) p_Total p_Own p_Age p_Exclude)).Exclude ((qe.mk s_Worst s_Best s_Pass)).Worst ((qe.mk s_Worst s_Best s_Pass)).Best ((qe.mk s_Worst s_Best s_Pass)).Pass l day k _ rfl
 first
  | exact h
  | (simp only[rL,dL,bR,bZ,Nat.reduceAdd] at h;exact h)
def zn (s:qe):(List qa×Int)→Option ((List qa×Int)⊕(List qa))|(out,k)=>if 0≤k then if 0≤k∧k≤((out.length:Nat):Int) then if 0≤w64 (k+1)∧w64 (k+1)≤((out.length:Nat):Int) then if w64 (k+1)=0∨w64 (k+1)<((out.length:Nat):Int) then if min (Int.toNat k) out.length+(out.length-Int.toNat (w64 (k+1)))≤maxLen∧(min (Int.toNat k) out.length+(out.length-Int.toNat (w64 (k+1))))*104≤140737488355328 then Option.bind (zP (List.take (Int.toNat k) out++List.drop (Int.toNat (w64 (k+1))) out) s) fun(a:Int)=>some (Sum.inl (List.take (Int.toNat k) out++List.drop (Int.toNat (w64 (k+1))) out,a)) else none else if min (Int.toNat k) out.length≤maxLen∧min (Int.toNat k) out.length*104≤140737488355328 then Option.bind (zP (List.take (Int.toNat k) out) s) fun(a2:Int)=>some (Sum.inl (List.take (Int.toNat k) out,a2)) else none else none else none else some (Sum.inr out)
theorem q1v:∀(out:List qa) (s_Worst s_Best s_Pass k:Int) (out_len:Nat),out_len=out.length→XL2 evo 12 0 9 ⟨[(6,rP 0),(10,rO 1 8 out_len),(13,rI k)],[(0,B.blk 30 [dI s_Worst,dI s_Best,dI s_Pass]),(1,bR 52 8 qc out)],2,57⟩=(qz (zn (qe.mk s_Worst s_Best s_Pass)) (out,k)).bind (fun(e:List qa)=>some (Exit.exit 2,⟨[(10,rO 0 8 e.length)],[(0,bR 52 8 qc e)],1,57⟩)):=
 by
 intro out s_Worst s_Best s_Pass k out_len h0
 subst h0
 revert k;revert out;exact qa0 qpc qmq (fun e=>by exact⟨_,rfl,fun h=>by cases h⟩) fun out k=>by
  have:=qsu;have:=@qbv.eq_1;have:=@q12;have:=@Zr;have:=@zn.eq_1;exact gA2
def Z3 (l:List qa) (p:qd) (s:qe) (day:Int):Option (List qa×Int):=Option.bind (qz (zq p s l day) ([],0)) fun(a:List qa)=>Option.bind (zP a s) fun(a2:Int)=>Option.bind (qz (zn s) (a,a2)) fun(a3:List qa)=>if 10<((a3.length:Nat):Int) then some ([],2) else some (a3,0)
theorem q2F:∀(l:List qa) (p_School p_Id p_Version p_From:Int) (p_Name:ByteArray) (p_Need_Kind p_Need_N p_Need_Min:Int) (p_Need_Set:List qb) (p_Need_L:List qg) (p_Total p_Own p_Age:Int) (p_Exclude:List (Qy qb)) (s_Worst s_Best s_Pass day:Int),ev 12 0 [rL 8 qc l,R.agg [dI p_School,dI p_Id,dI p_Version,dI p_From,dS p_Name,dI p_Need_Kind,dI p_Need_N,dI p_Need_Min,dL 2 qh p_Need_Set,dL 5 ql p_Need_L,dI p_Total,dI p_Own,dI p_Age,dL 4 (eA2 qh) p_Exclude],R.agg [dI s_Worst,dI s_Best,dI s_Pass],rI day] []=(Z3 l (qd.mk p_School p_Id p_Version p_From p_Name (qg.mk p_Need_Kind p_Need_N p_Need_Min p_Need_Set p_Need_L) p_Total p_Own p_Age p_Exclude) (qe.mk s_Worst s_Best s_Pass) day).bind (fun(e:List qa×Int)=>some (R.tup [rL 8 qc e.1,rI e.2],[])):=
 fun l p_School p_Id p_Version p_From p_Name p_Need_Kind p_Need_N p_Need_Min p_Need_Set p_Need_L p_Total p_Own p_Age p_Exclude s_Worst s_Best s_Pass day=>by
  rw[qy qnh qtM.2.2.2 qt8]
  have:=qsu;have:=@q07;have:=@Zr;have:=@q1v;have:=@Z3.eq_1;exact gA
theorem lo3:okL 3 q8k:=qB (qi bd3) (by kernel_rfl) (by kernel_rfl)
def cx3:=JA_ @q8k.eq_1 (JA_ @Try.f3.eq_1 @bd3)
theorem qnm:lbO 3 5=qfS:=zE (qi bd3) rfl
theorem qmH:okL 3 qfS:=qT lo3 (qxI (i:=0) (by kernel_rfl))
theorem qsV:lbO 3 8=qjN:=zE (qi bd3) rfl
theorem qtl:okL 3 qjN:=qT lo3 (qxI (i:=1) (by kernel_rfl))
theorem ql6:lbO 3 16=qcT:=zE (qi bd3) rfl
theorem qoB:okL 3 qcT:=qT lo3 (qxI (i:=2) (by kernel_rfl))
theorem qoq:lbO 3 19=qc7:=zE (qi bd3) rfl
theorem qp1:okL 3 qc7:=qT lo3 (qxI (i:=3) (by kernel_rfl))
theorem qtQ:okL 13 q9w:=qB (qi qqq) (by kernel_rfl) (by kernel_rfl)
def qun:=JA_ @q9w.eq_1 (JA_ @Try.f13.eq_1 @qqq)
theorem qoa:lbO 13 4=qdx:=zE (qi qqq) rfl
theorem qmf:okL 13 qdx:=qT qtQ (qxI (i:=0) (by kernel_rfl))
theorem qwR:okL 37 qbL:=qB (qi qrF) (by kernel_rfl) (by kernel_rfl)
def qxe:=JA_ @qbL.eq_1 (JA_ @Try.f37.eq_1 @qrF)
def ZL (a:qa) (b:qa):Option Bool:=Option.bind (zD a.Sources b.Sources) fun(a2:Bool)=>Option.bind (zD a.Path b.Path) fun(a3:Bool)=>if a2=Bool.true then if a3=Bool.true then if(a.Course.School==b.Course.School)=Bool.true∧(ByteArray.toList a.Course.Code==ByteArray.toList b.Course.Code)=Bool.true then if(a.Credits==b.Credits)=Bool.true then if(a.Grade==b.Grade)=Bool.true then if(a.Day==b.Day)=Bool.true then some (a.Bundle==b.Bundle) else some Bool.false else some Bool.false else some Bool.false else some Bool.false else some Bool.false else some Bool.false
theorem q4T:∀(a_Course_School:Int) (a_Course_Code:ByteArray) (a_Credits a_Grade a_Day:Int) (a_Sources:List Int) (a_Bundle:Int) (a_Path:List Int) (b_Course_School:Int) (b_Course_Code:ByteArray) (b_Credits b_Grade b_Day:Int) (b_Sources:List Int) (b_Bundle:Int) (b_Path:List Int),ev 37 0 [R.agg [dI a_Course_School,dS a_Course_Code,dI a_Credits,dI a_Grade,dI a_Day,dL 1 eI a_Sources,dI a_Bundle,dL 1 eI a_Path],R.agg [dI b_Course_School,dS b_Course_Code,dI b_Credits,dI b_Grade,dI b_Day,dL 1 eI b_Sources,dI b_Bundle,dL 1 eI b_Path]] []=(ZL (qa.mk (qb.mk a_Course_School a_Course_Code) a_Credits a_Grade a_Day a_Sources a_Bundle a_Path) (qa.mk (qb.mk b_Course_School b_Course_Code) b_Credits b_Grade b_Day b_Sources b_Bundle b_Path)).bind (fun(e:Bool)=>some (rB e,[])):=
 fun a_Course_School a_Course_Code a_Credits a_Grade a_Day a_Sources a_Bundle a_Path b_Course_School b_Course_Code b_Credits b_Grade b_Day b_Sources b_Bundle b_Path=>by
  rw[qy qrF qua.2.2.2 qwR]
  have:=qxe;have:=@Za;have:=@ZL.eq_1;exact gA
def zX (a:List qa) (b:List qa):Int→Option (Int⊕(Unit⊕Unit))|k=>if k<((a.length:Nat):Int) then if 0≤k∧k<((a.length:Nat):Int) then Option.bind a[Int.toNat k]? fun(a2:qa)=>if 0≤k∧k<((b.length:Nat):Int) then Option.bind b[Int.toNat k]? fun(a3:qa)=>Option.bind (ZL a2 a3) fun(a4:Bool)=>if(!a4)=Bool.true then some (Sum.inr (Sum.inl ())) else some (Sum.inl (w64 (k+1))) else none else none else some (Sum.inr (Sum.inr ()))
theorem q0Q:∀(a b:List qa) (k:Int),XL2 evo 13 0 4 ⟨[(0,rL 8 qc a),(1,rL 8 qc b),(5,rI k)],[],0,29⟩=(qz (zX a b) k).bind (Sum.elim (fun(e:Unit)=>some (Exit.ret,⟨[(4,rB Bool.false)],[],0,29⟩)) (fun(e:Unit)=>some (Exit.exit 0,⟨[(4,R.any)],[],0,29⟩))):=
 fun a b k=>by
  revert k;exact q5l qoa qmf (fun e=>by rcases e with _|_<;>exact⟨_,rfl,fun h=>by cases h⟩) fun x=>by
   have:=qun;have:=@qdx.eq_1;have:=@q4T;have:=@zX.eq_1;exact gA
def Qt (a:List qa) (b:List qa):Option Bool:=if(((a.length:Nat):Int) != ((b.length:Nat):Int))=Bool.true then some Bool.false else Option.bind (qz (zX a b) 0) fun(a2:Sum Unit Unit)=>Sum.elim (fun(a3:Unit)=>some Bool.false) (fun(a4:Unit)=>some Bool.true) a2
theorem q2p:∀(a b:List qa),ev 13 0 [rL 8 qc a,rL 8 qc b] []=(Qt a b).bind (fun(e:Bool)=>some (rB e,[])):=
 fun a b=>by
  rw[qy qqq qtF.2.2.2 qtQ]
  have:=qun;have:=@q0Q;have:=@Qt.eq_1;exact gA
def qA (w2:List qe) (w3:List (List qa)) (b0:qd) (b1:qe) (t5:Bool) (t6:List qa) (t8:Int) (t9:List qa) (t38:Int) (t39:Int) (t46:Int):Int→Option (Int⊕(Unit⊕Unit))|t47=>if t47<t46 then if 0≤t47∧t47<((w3.length:Nat):Int) then Option.bind w3[Int.toNat t47]? fun(a:List qa)=>Option.bind (Z2 a b0 b1 t8) fun(a2:Prod (List qa) Int)=>Option.bind (Z3 a b0 b1 t8) fun(a3:Prod (List qa) Int)=>if(a2.2 != a3.2)=Bool.true then some (Sum.inr (Sum.inl ())) else Option.bind (Qt a2.1 a3.1) fun(a4:Bool)=>if(!a4)=Bool.true then some (Sum.inr (Sum.inl ())) else some (Sum.inl (w64 (t47+1))) else none else some (Sum.inr (Sum.inr ()))
theorem Jl:∀(w2:List qe) (w3:List (List qa)) (b0_School b0_Id b0_Version b0_From:Int) (b0_Name:ByteArray) (b0_Need_Kind b0_Need_N b0_Need_Min:Int) (b0_Need_Set:List qb) (b0_Need_L:List qg) (b0_Total b0_Own b0_Age:Int) (b0_Exclude:List (Qy qb)) (b1_Worst b1_Best b1_Pass:Int) (t5:Bool) (t6:List qa) (t8:Int) (t9:List qa) (t38 t39 t46 t47:Int) (w2_len w3_len:Nat),w2_len=w2.length→w3_len=w3.length→XL2 evo 3 0 8 ⟨[(5,rB t5),(6,rL 8 qc t6),(7,rP 0),(8,rI t8),(9,rL 8 qc t9),(11,rP 1),(37,rO 2 3 w2_len),(38,rI t38),(39,rI t39),(45,rO 3 1 w3_len),(46,rI t46),(47,rI t47)],[(0,B.blk 39 [dI b0_School,dI b0_Id,dI b0_Version,dI b0_From,dS b0_Name,dI b0_Need_Kind,dI b0_Need_N,dI b0_Need_Min,dL 2 qh b0_Need_Set,dL 5 ql b0_Need_L,dI b0_Total,dI b0_Own,dI b0_Age,dL 4 (eA2 qh) b0_Exclude]),(1,B.blk 30 [dI b1_Worst,dI b1_Best,dI b1_Pass]),(2,bR 30 3 qI w2),(3,bR 32 1 (eL 8 qc) w3)],4,102⟩=(qz (qA w2 w3 (qd.mk b0_School b0_Id b0_Version b0_From b0_Name (qg.mk b0_Need_Kind b0_Need_N b0_Need_Min b0_Need_Set b0_Need_L) b0_Total b0_Own b0_Age b0_Exclude) (qe.mk b1_Worst b1_Best b1_Pass) t5 t6 t8 t9 t38 t39 t46) t47).bind (Sum.elim (fun(e:Unit)=>some (Exit.ret,⟨[(4,rB Bool.false),(5,rB t5),(6,rL 8 qc t6),(7,rP 0),(8,rI t8),(9,rL 8 qc t9),(11,rP 1),(37,rO 2 3 w2.length),(38,rI t38),(39,rI t39)],[(0,B.blk 39 [dI b0_School,dI b0_Id,dI b0_Version,dI b0_From,dS b0_Name,dI b0_Need_Kind,dI b0_Need_N,dI b0_Need_Min,dL 2 qh b0_Need_Set,dL 5 ql b0_Need_L,dI b0_Total,dI b0_Own,dI b0_Age,dL 4 (eA2 qh) b0_Exclude]),(1,B.blk 30 [dI b1_Worst,dI b1_Best,dI b1_Pass]),(2,bR 30 3 qI w2)],3,102⟩)) (fun(e:Unit)=>some (Exit.exit 2,⟨[(4,R.any),(5,rB t5),(6,rL 8 qc t6),(7,rP 0),(8,rI t8),(9,rL 8 qc t9),(11,rP 1),(37,rO 2 3 w2.length),(38,rI t38),(39,rI t39)],[(0,B.blk 39 [dI b0_School,dI b0_Id,dI b0_Version,dI b0_From,dS b0_Name,dI b0_Need_Kind,dI b0_Need_N,dI b0_Need_Min,dL 2 qh b0_Need_Set,dL 5 ql b0_Need_L,dI b0_Total,dI b0_Own,dI b0_Age,dL 4 (eA2 qh) b0_Exclude]),(1,B.blk 30 [dI b1_Worst,dI b1_Best,dI b1_Pass]),(2,bR 30 3 qI w2)],3,102⟩))):=
 by
 intro w2 w3 b0_School b0_Id b0_Version b0_From b0_Name b0_Need_Kind b0_Need_N b0_Need_Min b0_Need_Set b0_Need_L b0_Total b0_Own b0_Age b0_Exclude b1_Worst b1_Best b1_Pass t5 t6 t8 t9 t38 t39 t46 t47 w2_len w3_len h0 h1
 subst h0 h1
 revert t47;exact q5l qsV qtl (fun e=>by rcases e with _|_<;>exact⟨_,rfl,fun h=>by cases h⟩) fun x=>by
  have:=cx3;have:=@qjN.eq_1;have:=@q35;have:=@q2F;have:=@q2p;have:=@qA.eq_1;exact gA
theorem QD:∀(w30 w31:List qa) (w2:List qe) (b0_School b0_Id b0_Version b0_From:Int) (b0_Name:ByteArray) (b0_Need_Kind b0_Need_N b0_Need_Min:Int) (b0_Need_Set:List qb) (b0_Need_L:List qg) (b0_Total b0_Own b0_Age:Int) (b0_Exclude:List (Qy qb)) (b1_Worst b1_Best b1_Pass:Int) (t5:Bool) (t6:List qa) (t8:Int) (t9:List qa) (t38 t39 t46 t47:Int) (w2_len w30_len w31_len:Nat),w2_len=w2.length→w30_len=w30.length→w31_len=w31.length→XL2 evo 3 0 8 ⟨[(5,rB t5),(6,rL 8 qc t6),(7,rP 0),(8,rI t8),(9,rL 8 qc t9),(11,rP 1),(37,rO 2 3 w2_len),(38,rI t38),(39,rI t39),(45,rO 3 1 2),(46,rI t46),(47,rI t47)],[(0,B.blk 39 [dI b0_School,dI b0_Id,dI b0_Version,dI b0_From,dS b0_Name,dI b0_Need_Kind,dI b0_Need_N,dI b0_Need_Min,dL 2 qh b0_Need_Set,dL 5 ql b0_Need_L,dI b0_Total,dI b0_Own,dI b0_Age,dL 4 (eA2 qh) b0_Exclude]),(1,B.blk 30 [dI b1_Worst,dI b1_Best,dI b1_Pass]),(2,bR 30 3 qI w2),(3,B.row 32 1 [C.d (D.sl 8 w30_len (w30.flatMap qc)),C.d (D.sl 8 w31_len (w31.flatMap qc))])],4,102⟩=(qz (qA w2 [w30,w31] (qd.mk b0_School b0_Id b0_Version b0_From b0_Name (qg.mk b0_Need_Kind b0_Need_N b0_Need_Min b0_Need_Set b0_Need_L) b0_Total b0_Own b0_Age b0_Exclude) (qe.mk b1_Worst b1_Best b1_Pass) t5 t6 t8 t9 t38 t39 t46) t47).bind (Sum.elim (fun(e:Unit)=>some (Exit.ret,⟨[(4,rB Bool.false),(5,rB t5),(6,rL 8 qc t6),(7,rP 0),(8,rI t8),(9,rL 8 qc t9),(11,rP 1),(37,rO 2 3 w2.length),(38,rI t38),(39,rI t39)],[(0,B.blk 39 [dI b0_School,dI b0_Id,dI b0_Version,dI b0_From,dS b0_Name,dI b0_Need_Kind,dI b0_Need_N,dI b0_Need_Min,dL 2 qh b0_Need_Set,dL 5 ql b0_Need_L,dI b0_Total,dI b0_Own,dI b0_Age,dL 4 (eA2 qh) b0_Exclude]),(1,B.blk 30 [dI b1_Worst,dI b1_Best,dI b1_Pass]),(2,bR 30 3 qI w2)],3,102⟩)) (fun(e:Unit)=>some (Exit.exit 2,⟨[(4,R.any),(5,rB t5),(6,rL 8 qc t6),(7,rP 0),(8,rI t8),(9,rL 8 qc t9),(11,rP 1),(37,rO 2 3 w2.length),(38,rI t38),(39,rI t39)],[(0,B.blk 39 [dI b0_School,dI b0_Id,dI b0_Version,dI b0_From,dS b0_Name,dI b0_Need_Kind,dI b0_Need_N,dI b0_Need_Min,dL 2 qh b0_Need_Set,dL 5 ql b0_Need_L,dI b0_Total,dI b0_Own,dI b0_Age,dL 4 (eA2 qh) b0_Exclude]),(1,B.blk 30 [dI b1_Worst,dI b1_Best,dI b1_Pass]),(2,bR 30 3 qI w2)],3,102⟩))):=by
 intro w30 w31 w2 b0_School b0_Id b0_Version b0_From b0_Name b0_Need_Kind b0_Need_N b0_Need_Min b0_Need_Set b0_Need_L b0_Total b0_Own b0_Age b0_Exclude b1_Worst b1_Best b1_Pass t5 t6 t8 t9 t38 t39 t46 t47 w2_len w30_len w31_len h0 h1 h2;subst h0 h1 h2;have h:=Jl w2 [w30,w31] ((qd.mk b0_School b0_Id b0_Version b0_From b0_Name (qg.mk b0_Need_Kind b0_Need_N b0_Need_Min b0_Need_Set b0_Need_L) b0_Total b0_Own b0_Age b0_Exclude)).School ((qd.mk b0_School b0_Id b0_Version b0_From b0_Name (qg.mk b0_Need_Kind b0_Need_N b0_Need_Min b0_Need_Set b0_Need_L) b0_Total b0_Own b0_Age b0_Exclude)).Id ((qd.mk b0_School b0_Id b0_Version b0_From b0_Name (qg.mk b0_Need_Kind b0_Need_N b0_Need_Min b0_Need_Set b0_Need_L) b0_Total b0_Own b0_Age b0_Exclude)).Version ((qd.mk b0_School b0_Id b0_Version b0_From b0_Name (qg.mk b0_Need_Kind b0_Need_N b0_Need_Min b0_Need_Set b0_Need_L) b0_Total b0_Own b0_Age b0_Exclude)).From ((qd.mk b0_School b0_Id b0_Version b0_From b0_Name (qg.mk b0_Need_Kind b0_Need_N b0_Need_Min b0_Need_Set b0_Need_L) b0_Total b0_Own b0_Age b0_Exclude)).Name ((qd.mk b0_School b0_Id b0_Version b0_From b0_Name (qg.mk b0_Need_Kind b0_Need_N b0_Need_Min b0_Need_Set b0_Need_L) b0_Total b0_Own b0_Age b0_Exclude)).Need.Kind ((qd.mk b0_School b0_Id b0_Version b0_From b0_Name (qg.mk b0_Need_Kind b0_Need_N b0_Need_Min b0_Need_Set b0_Need_L) b0_Total b0_Own b0_Age b0_Exclude)).Need.N ((qd.mk b0_School b0_Id b0_Version b0_From b0_Name (qg.mk b0_Need_Kind b0_Need_N b0_Need_Min b0_Need_Set b0_Need_L) b0_Total b0_Own b0_Age b0_Exclude)).Need.Min ((qd.mk b0_School b0_Id b0_Version b0_From b0_Name (qg.mk b0_Need_Kind b0_Need_N b0_Need_Min b0_Need_Set b0_Need_L) b0_Total b0_Own b0_Age b0_Exclude)).Need.Set ((qd.mk b0_School b0_Id b0_Version b0_From b0_Name (qg.mk b0_Need_Kind b0_Need_N b0_Need_Min b0_Need_Set b0_Need_L) b0_Total b0_Own b0_Age b0_Exclude)).Need.L ((qd.mk b0_School b0_Id b0_Version b0_From b0_Name (qg.mk b0_Need_Kind b0_Need_N b0_Need_Min b0_Need_Set b0_Need_L) b0_Total b0_Own b0_Age b0_Exclude)).Total ((qd.mk b0_School b0_Id b0_Version b0_From b0_Name (qg.mk b0_Need_Kind b0_Need_N b0_Need_Min b0_Need_Set b0_Need_L) b0_Total b0_Own b0_Age b0_Exclude)).Own ((qd.mk b0_School b0_Id b0_Version b0_From b0_Name (qg.mk b0_Need_Kind b0_Need_N b0_Need_Min b0_Need_Set b0_Need_L) b0_Total b0_Own b0_Age b0_Exclude)).Age ((qd.mk b0_School b0_Id b0_Version b0_From b0_Name (qg.mk b0_Need_Kind b0_Need_N b0_Need_Min b0_Need_Set b0_Need_L) b0_Total b0_Own b0_Age b0_Exclude)).Exclude ((qe.mk b1_Worst b1_Best b1_Pass)).Worst ((qe.mk b1_Worst b1_Best b1_Pass)).Best ((qe.mk b1_Worst b1_Best b1_Pass)).Pass t5 t6 t8 t9 t38 t39 t46 t47 _ _ rfl rfl
 first
  | exact h
  | (simp only[rL,dL,bR,bZ,Nat.reduceAdd] at h;exact h)
def qP (w3:List qe) (b0:qd) (b1:qe) (b2:qa) (t5:Bool) (t6:List qa) (t8:Int) (t9:List qa) (t38:Int) (t39:Int) (t77:List qa) (t78:Int) (t79:Int) (t83:List qa) (t84:Int):Int→Option (Int⊕(Unit⊕Unit))|t85=>if t85<t84 then if 0≤t85∧t85<((t83.length:Nat):Int) then Option.bind t83[Int.toNat t85]? fun(a:qa)=>Option.bind (QH b1 b2 a) fun(a2:Bool)=>Option.bind (QI b1 b2 a) fun(a3:Bool)=>if(!(a2==a3))=Bool.true then some (Sum.inr (Sum.inl ())) else some (Sum.inl (w64 (t85+1))) else none else some (Sum.inr (Sum.inr ()))
theorem Ja:∀(w3:List qe) (b0_School b0_Id b0_Version b0_From:Int) (b0_Name:ByteArray) (b0_Need_Kind b0_Need_N b0_Need_Min:Int) (b0_Need_Set:List qb) (b0_Need_L:List qg) (b0_Total b0_Own b0_Age:Int) (b0_Exclude:List (Qy qb)) (b1_Worst b1_Best b1_Pass b2_Course_School:Int) (b2_Course_Code:ByteArray) (b2_Credits b2_Grade b2_Day:Int) (b2_Sources:List Int) (b2_Bundle:Int) (b2_Path:List Int) (t5:Bool) (t6:List qa) (t8:Int) (t9:List qa) (t38 t39:Int) (t77:List qa) (t78 t79:Int) (t83:List qa) (t84 t85:Int) (w3_len:Nat),w3_len=w3.length→XL2 evo 3 0 19 ⟨[(5,rB t5),(6,rL 8 qc t6),(7,rP 0),(8,rI t8),(9,rL 8 qc t9),(11,rP 1),(19,rP 2),(37,rO 3 3 w3_len),(38,rI t38),(39,rI t39),(77,rL 8 qc t77),(78,rI t78),(79,rI t79),(83,rL 8 qc t83),(84,rI t84),(85,rI t85)],[(0,B.blk 39 [dI b0_School,dI b0_Id,dI b0_Version,dI b0_From,dS b0_Name,dI b0_Need_Kind,dI b0_Need_N,dI b0_Need_Min,dL 2 qh b0_Need_Set,dL 5 ql b0_Need_L,dI b0_Total,dI b0_Own,dI b0_Age,dL 4 (eA2 qh) b0_Exclude]),(1,B.blk 30 [dI b1_Worst,dI b1_Best,dI b1_Pass]),(2,B.blk 52 [dI b2_Course_School,dS b2_Course_Code,dI b2_Credits,dI b2_Grade,dI b2_Day,dL 1 eI b2_Sources,dI b2_Bundle,dL 1 eI b2_Path]),(3,bR 30 3 qI w3)],4,102⟩=(qz (qP w3 (qd.mk b0_School b0_Id b0_Version b0_From b0_Name (qg.mk b0_Need_Kind b0_Need_N b0_Need_Min b0_Need_Set b0_Need_L) b0_Total b0_Own b0_Age b0_Exclude) (qe.mk b1_Worst b1_Best b1_Pass) (qa.mk (qb.mk b2_Course_School b2_Course_Code) b2_Credits b2_Grade b2_Day b2_Sources b2_Bundle b2_Path) t5 t6 t8 t9 t38 t39 t77 t78 t79 t83 t84) t85).bind (Sum.elim (fun(e:Unit)=>some (Exit.ret,⟨[(4,rB Bool.false),(5,rB t5),(6,rL 8 qc t6),(7,rP 0),(8,rI t8),(9,rL 8 qc t9),(11,rP 1),(37,rO 2 3 w3.length),(38,rI t38),(39,rI t39),(77,rL 8 qc t77),(78,rI t78),(79,rI t79)],[(0,B.blk 39 [dI b0_School,dI b0_Id,dI b0_Version,dI b0_From,dS b0_Name,dI b0_Need_Kind,dI b0_Need_N,dI b0_Need_Min,dL 2 qh b0_Need_Set,dL 5 ql b0_Need_L,dI b0_Total,dI b0_Own,dI b0_Age,dL 4 (eA2 qh) b0_Exclude]),(1,B.blk 30 [dI b1_Worst,dI b1_Best,dI b1_Pass]),(2,bR 30 3 qI w3)],3,102⟩)) (fun(e:Unit)=>some (Exit.exit 6,⟨[(4,R.any),(5,rB t5),(6,rL 8 qc t6),(7,rP 0),(8,rI t8),(9,rL 8 qc t9),(11,rP 1),(37,rO 2 3 w3.length),(38,rI t38),(39,rI t39),(77,rL 8 qc t77),(78,rI t78),(79,rI t79)],[(0,B.blk 39 [dI b0_School,dI b0_Id,dI b0_Version,dI b0_From,dS b0_Name,dI b0_Need_Kind,dI b0_Need_N,dI b0_Need_Min,dL 2 qh b0_Need_Set,dL 5 ql b0_Need_L,dI b0_Total,dI b0_Own,dI b0_Age,dL 4 (eA2 qh) b0_Exclude]),(1,B.blk 30 [dI b1_Worst,dI b1_Best,dI b1_Pass]),(2,bR 30 3 qI w3)],3,102⟩))):=
 by
 intro w3 b0_School b0_Id b0_Version b0_From b0_Name b0_Need_Kind b0_Need_N b0_Need_Min b0_Need_Set b0_Need_L b0_Total b0_Own b0_Age b0_Exclude b1_Worst b1_Best b1_Pass b2_Course_School b2_Course_Code b2_Credits b2_Grade b2_Day b2_Sources b2_Bundle b2_Path t5 t6 t8 t9 t38 t39 t77 t78 t79 t83 t84 t85 w3_len h0
 subst h0
 revert t85;exact q5l qoq qp1 (fun e=>by rcases e with _|_<;>exact⟨_,rfl,fun h=>by cases h⟩) fun x=>by
  have:=cx3;have:=@qc7.eq_1;have:=@q02;have:=@JY;have:=@qP.eq_1;exact gA
def qE (w2:List qe) (b0:qd) (b1:qe) (t5:Bool) (t6:List qa) (t8:Int) (t9:List qa) (t38:Int) (t39:Int) (t77:List qa) (t78:Int):Int→Option (Int⊕(Unit⊕Unit))|t79=>if t79<t78 then if 0≤t79∧t79<((t77.length:Nat):Int) then Option.bind t77[Int.toNat t79]? fun(a:qa)=>Option.bind (qz (qP w2 b0 b1 a t5 t6 t8 t9 t38 t39 t77 t78 t79 t6 ((t6.length:Nat):Int)) 0) fun(a2:Sum Unit Unit)=>Sum.elim (fun(a3:Unit)=>some (Sum.inr (Sum.inl ()))) (fun(a4:Unit)=>some (Sum.inl (w64 (t79+1)))) a2 else none else some (Sum.inr (Sum.inr ()))
theorem QS:∀(w2:List qe) (b0_School b0_Id b0_Version b0_From:Int) (b0_Name:ByteArray) (b0_Need_Kind b0_Need_N b0_Need_Min:Int) (b0_Need_Set:List qb) (b0_Need_L:List qg) (b0_Total b0_Own b0_Age:Int) (b0_Exclude:List (Qy qb)) (b1_Worst b1_Best b1_Pass:Int) (t5:Bool) (t6:List qa) (t8:Int) (t9:List qa) (t38 t39:Int) (t77:List qa) (t78 t79:Int) (w2_len:Nat),w2_len=w2.length→XL2 evo 3 0 16 ⟨[(5,rB t5),(6,rL 8 qc t6),(7,rP 0),(8,rI t8),(9,rL 8 qc t9),(11,rP 1),(37,rO 2 3 w2_len),(38,rI t38),(39,rI t39),(77,rL 8 qc t77),(78,rI t78),(79,rI t79)],[(0,B.blk 39 [dI b0_School,dI b0_Id,dI b0_Version,dI b0_From,dS b0_Name,dI b0_Need_Kind,dI b0_Need_N,dI b0_Need_Min,dL 2 qh b0_Need_Set,dL 5 ql b0_Need_L,dI b0_Total,dI b0_Own,dI b0_Age,dL 4 (eA2 qh) b0_Exclude]),(1,B.blk 30 [dI b1_Worst,dI b1_Best,dI b1_Pass]),(2,bR 30 3 qI w2)],3,102⟩=(qz (qE w2 (qd.mk b0_School b0_Id b0_Version b0_From b0_Name (qg.mk b0_Need_Kind b0_Need_N b0_Need_Min b0_Need_Set b0_Need_L) b0_Total b0_Own b0_Age b0_Exclude) (qe.mk b1_Worst b1_Best b1_Pass) t5 t6 t8 t9 t38 t39 t77 t78) t79).bind (Sum.elim (fun(e:Unit)=>some (Exit.ret,⟨[(4,rB Bool.false),(5,rB t5),(6,rL 8 qc t6),(7,rP 0),(8,rI t8),(9,rL 8 qc t9),(37,rO 1 3 w2.length),(38,rI t38),(39,rI t39)],[(0,B.blk 39 [dI b0_School,dI b0_Id,dI b0_Version,dI b0_From,dS b0_Name,dI b0_Need_Kind,dI b0_Need_N,dI b0_Need_Min,dL 2 qh b0_Need_Set,dL 5 ql b0_Need_L,dI b0_Total,dI b0_Own,dI b0_Age,dL 4 (eA2 qh) b0_Exclude]),(1,bR 30 3 qI w2)],2,102⟩)) (fun(e:Unit)=>some (Exit.exit 4,⟨[(4,R.any),(5,rB t5),(6,rL 8 qc t6),(7,rP 0),(8,rI t8),(9,rL 8 qc t9),(37,rO 1 3 w2.length),(38,rI t38),(39,rI t39)],[(0,B.blk 39 [dI b0_School,dI b0_Id,dI b0_Version,dI b0_From,dS b0_Name,dI b0_Need_Kind,dI b0_Need_N,dI b0_Need_Min,dL 2 qh b0_Need_Set,dL 5 ql b0_Need_L,dI b0_Total,dI b0_Own,dI b0_Age,dL 4 (eA2 qh) b0_Exclude]),(1,bR 30 3 qI w2)],2,102⟩))):=
 by
 intro w2 b0_School b0_Id b0_Version b0_From b0_Name b0_Need_Kind b0_Need_N b0_Need_Min b0_Need_Set b0_Need_L b0_Total b0_Own b0_Age b0_Exclude b1_Worst b1_Best b1_Pass t5 t6 t8 t9 t38 t39 t77 t78 t79 w2_len h0
 subst h0
 revert t79;exact q5l ql6 qoB (fun e=>by rcases e with _|_<;>exact⟨_,rfl,fun h=>by cases h⟩) fun x=>by
  have:=cx3;have:=@qcT.eq_1;have:=@Ja;have:=@qE.eq_1;exact gA
def qK (w1:List qe) (b0:qd) (t5:Bool) (t6:List qa) (t8:Int) (t9:List qa) (t38:Int):Int→Option (Int⊕(Unit⊕Unit))|t39=>if t39<t38 then if 0≤t39∧t39<((w1.length:Nat):Int) then Option.bind w1[Int.toNat t39]? fun(a:qe)=>Option.bind (qz (qA w1 [t6,t9] b0 a t5 t6 t8 t9 t38 t39 2) 0) fun(a2:Sum Unit Unit)=>Sum.elim (fun(a3:Unit)=>some (Sum.inr (Sum.inl ()))) (fun(a4:Unit)=>Option.bind (qz (qE w1 b0 a t5 t6 t8 t9 t38 t39 t6 ((t6.length:Nat):Int)) 0) fun(a5:Sum Unit Unit)=>Sum.elim (fun(a6:Unit)=>some (Sum.inr (Sum.inl ()))) (fun(a7:Unit)=>some (Sum.inl (w64 (t39+1)))) a5) a2 else none else some (Sum.inr (Sum.inr ()))
theorem ZW:∀(w1:List qe) (b0_School b0_Id b0_Version b0_From:Int) (b0_Name:ByteArray) (b0_Need_Kind b0_Need_N b0_Need_Min:Int) (b0_Need_Set:List qb) (b0_Need_L:List qg) (b0_Total b0_Own b0_Age:Int) (b0_Exclude:List (Qy qb)) (t5:Bool) (t6:List qa) (t8:Int) (t9:List qa) (t38 t39:Int) (w1_len:Nat),w1_len=w1.length→XL2 evo 3 0 5 ⟨[(5,rB t5),(6,rL 8 qc t6),(7,rP 0),(8,rI t8),(9,rL 8 qc t9),(37,rO 1 3 w1_len),(38,rI t38),(39,rI t39)],[(0,B.blk 39 [dI b0_School,dI b0_Id,dI b0_Version,dI b0_From,dS b0_Name,dI b0_Need_Kind,dI b0_Need_N,dI b0_Need_Min,dL 2 qh b0_Need_Set,dL 5 ql b0_Need_L,dI b0_Total,dI b0_Own,dI b0_Age,dL 4 (eA2 qh) b0_Exclude]),(1,bR 30 3 qI w1)],2,102⟩=(qz (qK w1 (qd.mk b0_School b0_Id b0_Version b0_From b0_Name (qg.mk b0_Need_Kind b0_Need_N b0_Need_Min b0_Need_Set b0_Need_L) b0_Total b0_Own b0_Age b0_Exclude) t5 t6 t8 t9 t38) t39).bind (Sum.elim (fun(e:Unit)=>some (Exit.ret,⟨[(4,rB Bool.false),(5,rB t5)],[],0,102⟩)) (fun(e:Unit)=>some (Exit.exit 0,⟨[(4,R.any),(5,rB t5)],[],0,102⟩))):=
 by
 intro w1 b0_School b0_Id b0_Version b0_From b0_Name b0_Need_Kind b0_Need_N b0_Need_Min b0_Need_Set b0_Need_L b0_Total b0_Own b0_Age b0_Exclude t5 t6 t8 t9 t38 t39 w1_len h0
 subst h0
 revert t39;exact q5l qnm qmH (fun e=>by rcases e with _|_<;>exact⟨_,rfl,fun h=>by cases h⟩) fun x=>by
  have:=cx3;have:=@qfS.eq_1;have:=@QD;have:=@QS;have:=@qK.eq_1;exact gA
def zg (w1:List qa) (w2:List qe) (b0:qd) (t5:Bool) (t6:List qa) (t8:Int) (t38:Int) (t39:Int):Option (Unit⊕Unit):=if t39<t38 then if 0≤t39∧t39<((w2.length:Nat):Int) then Option.bind w2[Int.toNat t39]? fun(a:qe)=>Option.bind (qz (qA w2 [t6,w1] b0 a t5 t6 t8 w1 t38 t39 2) 0) fun(a2:Sum Unit Unit)=>Sum.elim (fun(a3:Unit)=>some (Sum.inl ())) (fun(a4:Unit)=>Option.bind (qz (qE w2 b0 a t5 t6 t8 w1 t38 t39 t6 ((t6.length:Nat):Int)) 0) fun(a5:Sum Unit Unit)=>Sum.elim (fun(a6:Unit)=>some (Sum.inl ())) (fun(a7:Unit)=>Option.bind (qz (qK w2 b0 t5 t6 t8 w1 t38) (w64 (t39+1))) fun(a8:Sum Unit Unit)=>Sum.elim (fun(a9:Unit)=>some (Sum.inl ())) (fun(e0:Unit)=>some (Sum.inr ())) a8) a5) a2 else none else some (Sum.inr ())
theorem J1:∀(w1:List qa) (w2:List qe) (b0_School b0_Id b0_Version b0_From:Int) (b0_Name:ByteArray) (b0_Need_Kind b0_Need_N b0_Need_Min:Int) (b0_Need_Set:List qb) (b0_Need_L:List qg) (b0_Total b0_Own b0_Age:Int) (b0_Exclude:List (Qy qb)) (t5:Bool) (t6:List qa) (t8 t38 t39:Int) (w1_len w2_len:Nat),w1_len=w1.length→w2_len=w2.length→XL2 evo 3 0 5 ⟨[(5,rB t5),(6,rL 8 qc t6),(7,rP 0),(8,rI t8),(9,rO 1 8 w1_len),(37,rO 2 3 w2_len),(38,rI t38),(39,rI t39)],[(0,B.blk 39 [dI b0_School,dI b0_Id,dI b0_Version,dI b0_From,dS b0_Name,dI b0_Need_Kind,dI b0_Need_N,dI b0_Need_Min,dL 2 qh b0_Need_Set,dL 5 ql b0_Need_L,dI b0_Total,dI b0_Own,dI b0_Age,dL 4 (eA2 qh) b0_Exclude]),(1,bR 52 8 qc w1),(2,bR 30 3 qI w2)],3,102⟩=(zg w1 w2 (qd.mk b0_School b0_Id b0_Version b0_From b0_Name (qg.mk b0_Need_Kind b0_Need_N b0_Need_Min b0_Need_Set b0_Need_L) b0_Total b0_Own b0_Age b0_Exclude) t5 t6 t8 t38 t39).bind (Sum.elim (fun(e:Unit)=>some (Exit.ret,⟨[(4,rB Bool.false),(5,rB t5)],[],0,102⟩)) (fun(e:Unit)=>some (Exit.exit 0,⟨[(4,R.any),(5,rB t5)],[],0,102⟩))):=
 by
 intro w1 w2 b0_School b0_Id b0_Version b0_From b0_Name b0_Need_Kind b0_Need_N b0_Need_Min b0_Need_Set b0_Need_L b0_Total b0_Own b0_Age b0_Exclude t5 t6 t8 t38 t39 w1_len w2_len h0 h1
 subst h0 h1
 rw[q6d qnm qmH]
 have:=cx3;have:=@qfS.eq_1;have:=@q21;have:=@q6q;have:=@q9a;have:=@q68;have:=@q8Z;have:=@q6g;have:=@q9O;have:=@ZW;have:=@QD;have:=@QS;have:=@zg.eq_1;exact gA
theorem ZA:∀(w20_Worst w20_Best w20_Pass w21_Worst w21_Best w21_Pass w22_Worst w22_Best w22_Pass:Int) (w1:List qa) (b0_School b0_Id b0_Version b0_From:Int) (b0_Name:ByteArray) (b0_Need_Kind b0_Need_N b0_Need_Min:Int) (b0_Need_Set:List qb) (b0_Need_L:List qg) (b0_Total b0_Own b0_Age:Int) (b0_Exclude:List (Qy qb)) (t5:Bool) (t6:List qa) (t8 t38 t39:Int) (w1_len:Nat),w1_len=w1.length→XL2 evo 3 0 5 ⟨[(5,rB t5),(6,rL 8 qc t6),(7,rP 0),(8,rI t8),(9,rO 1 8 w1_len),(37,rO 2 3 3),(38,rI t38),(39,rI t39)],[(0,B.blk 39 [dI b0_School,dI b0_Id,dI b0_Version,dI b0_From,dS b0_Name,dI b0_Need_Kind,dI b0_Need_N,dI b0_Need_Min,dL 2 qh b0_Need_Set,dL 5 ql b0_Need_L,dI b0_Total,dI b0_Own,dI b0_Age,dL 4 (eA2 qh) b0_Exclude]),(1,bR 52 8 qc w1),(2,B.row 30 3 [dI w20_Worst,dI w20_Best,dI w20_Pass,dI w21_Worst,dI w21_Best,dI w21_Pass,dI w22_Worst,dI w22_Best,dI w22_Pass])],3,102⟩=(zg w1 [(qe.mk w20_Worst w20_Best w20_Pass),(qe.mk w21_Worst w21_Best w21_Pass),(qe.mk w22_Worst w22_Best w22_Pass)] (qd.mk b0_School b0_Id b0_Version b0_From b0_Name (qg.mk b0_Need_Kind b0_Need_N b0_Need_Min b0_Need_Set b0_Need_L) b0_Total b0_Own b0_Age b0_Exclude) t5 t6 t8 t38 t39).bind (Sum.elim (fun(e:Unit)=>some (Exit.ret,⟨[(4,rB Bool.false),(5,rB t5)],[],0,102⟩)) (fun(e:Unit)=>some (Exit.exit 0,⟨[(4,R.any),(5,rB t5)],[],0,102⟩))):=by
 intro w20_Worst w20_Best w20_Pass w21_Worst w21_Best w21_Pass w22_Worst w22_Best w22_Pass w1 b0_School b0_Id b0_Version b0_From b0_Name b0_Need_Kind b0_Need_N b0_Need_Min b0_Need_Set b0_Need_L b0_Total b0_Own b0_Age b0_Exclude t5 t6 t8 t38 t39 w1_len h0;subst h0;have h:=J1 w1 [(qe.mk w20_Worst w20_Best w20_Pass),(qe.mk w21_Worst w21_Best w21_Pass),(qe.mk w22_Worst w22_Best w22_Pass)] ((qd.mk b0_School b0_Id b0_Version b0_From b0_Name (qg.mk b0_Need_Kind b0_Need_N b0_Need_Min b0_Need_Set b0_Need_L) b0_Total b0_Own b0_Age b0_Exclude)).School ((qd.mk b0_School b0_Id b0_Version b0_From b0_Name (qg.mk b0_Need_Kind b0_Need_N b0_Need_Min b0_Need_Set b0_Need_L) b0_Total b0_Own b0_Age b0_Exclude)).Id ((qd.mk b0_School b0_Id b0_Version b0_From b0_Name (qg.mk b0_Need_Kind b0_Need_N b0_Need_Min b0_Need_Set b0_Need_L) b0_Total b0_Own b0_Age b0_Exclude)).Version ((qd.mk b0_School b0_Id b0_Version b0_From b0_Name (qg.mk b0_Need_Kind b0_Need_N b0_Need_Min b0_Need_Set b0_Need_L) b0_Total b0_Own b0_Age b0_Exclude)).From ((qd.mk b0_School b0_Id b0_Version b0_From b0_Name (qg.mk b0_Need_Kind b0_Need_N b0_Need_Min b0_Need_Set b0_Need_L) b0_Total b0_Own b0_Age b0_Exclude)).Name ((qd.mk b0_School b0_Id b0_Version b0_From b0_Name (qg.mk b0_Need_Kind b0_Need_N b0_Need_Min b0_Need_Set b0_Need_L) b0_Total b0_Own b0_Age b0_Exclude)).Need.Kind ((qd.mk b0_School b0_Id b0_Version b0_From b0_Name (qg.mk b0_Need_Kind b0_Need_N b0_Need_Min b0_Need_Set b0_Need_L) b0_Total b0_Own b0_Age b0_Exclude)).Need.N ((qd.mk b0_School b0_Id b0_Version b0_From b0_Name (qg.mk b0_Need_Kind b0_Need_N b0_Need_Min b0_Need_Set b0_Need_L) b0_Total b0_Own b0_Age b0_Exclude)).Need.Min ((qd.mk b0_School b0_Id b0_Version b0_From b0_Name (qg.mk b0_Need_Kind b0_Need_N b0_Need_Min b0_Need_Set b0_Need_L) b0_Total b0_Own b0_Age b0_Exclude)).Need.Set ((qd.mk b0_School b0_Id b0_Version b0_From b0_Name (qg.mk b0_Need_Kind b0_Need_N b0_Need_Min b0_Need_Set b0_Need_L) b0_Total b0_Own b0_Age b0_Exclude)).Need.L ((qd.mk b0_School b0_Id b0_Version b0_From b0_Name (qg.mk b0_Need_Kind b0_Need_N b0_Need_Min b0_Need_Set b0_Need_L) b0_Total b0_Own b0_Age b0_Exclude)).Total ((qd.mk b0_School b0_Id b0_Version b0_From b0_Name (qg.mk b0_Need_Kind b0_Need_N b0_Need_Min b0_Need_Set b0_Need_L) b0_Total b0_Own b0_Age b0_Exclude)).Own ((qd.mk b0_School b0_Id b0_Version b0_From b0_Name (qg.mk b0_Need_Kind b0_Need_N b0_Need_Min b0_Need_Set b0_Need_L) b0_Total b0_Own b0_Age b0_Exclude)).Age ((qd.mk b0_School b0_Id b0_Version b0_From b0_Name (qg.mk b0_Need_Kind b0_Need_N b0_Need_Min b0_Need_Set b0_Need_L) b0_Total b0_Own b0_Age b0_Exclude)).Exclude t5 t6 t8 t38 t39 _ _ rfl rfl
 first
  | exact h
  | (simp only[rL,dL,bR,bZ,Nat.reduceAdd] at h;exact h)
def Q5 (x0:QE) (x1:qe):Option Bool:=Option.bind Z1 fun(a:Bool)=>Option.bind (Qs x0) fun(a2:Prod (List qa) (Prod qd Int))=>if a2.1.length≤maxLen∧a2.1.length*104≤140737488355328 then if a2.1.length+a2.1.length≤maxLen∧(a2.1.length+a2.1.length)*104≤140737488355328 then Option.bind (zg (a2.1++a2.1) [qe.mk 0 100 50,qe.mk 100 0 60,x1] a2.2.1 a a2.1 a2.2.2 3 0) fun(a3:Sum Unit Unit)=>Sum.elim (fun(a4:Unit)=>some Bool.false) (fun(a5:Unit)=>some a) a3 else none else none
theorem q09:∀(x0_Has:List (List Int)) (x0_Odd_0_0 x0_Odd_0_1 x0_Odd_0_2 x0_Odd_1_0 x0_Odd_1_1 x0_Odd_1_2:Int) (x0_Programme:List Int) (x0_Day x1_Worst x1_Best x1_Pass:Int),ev 3 0 [R.agg [dL 1 (eL 1 eI) x0_Has,dI x0_Odd_0_0,dI x0_Odd_0_1,dI x0_Odd_0_2,dI x0_Odd_1_0,dI x0_Odd_1_1,dI x0_Odd_1_2,dL 1 eI x0_Programme,C.d (D.int .u16 x0_Day)],R.agg [dI x1_Worst,dI x1_Best,dI x1_Pass]] []=(Q5 (QE.mk x0_Has (Qy.mk (qhC.mk x0_Odd_0_0 x0_Odd_0_1 x0_Odd_0_2) (qhC.mk x0_Odd_1_0 x0_Odd_1_1 x0_Odd_1_2)) x0_Programme x0_Day) (qe.mk x1_Worst x1_Best x1_Pass)).bind (fun(e:Bool)=>some (rB e,[])):=
 fun x0_Has x0_Odd_0_0 x0_Odd_0_1 x0_Odd_0_2 x0_Odd_1_0 x0_Odd_1_1 x0_Odd_1_2 x0_Programme x0_Day x1_Worst x1_Best x1_Pass=>by
  rw[qy bd3 pw3.2.2.2 lo3]
  have:=cx3;have:=@q2Q;have:=@q1s;have:=@Jn;have:=@ZA;have:=@Q5.eq_1;exact gA
end

noncomputable section
open Go.RowKit
theorem qjz (n:Int):zK n 1000=(decide (-1000≤n)&&decide (n≤1000)):=by
 unfold zK
 rw[show w64 ((0:Int)-1000) = -1000 from zH (by omega) (by omega)]
 by_cases h : -1000≤n
 ·rw[if_pos h,qyH h,qye]
 ·rw[if_neg h,decide_eq_false h,qyJ]
theorem q53 (s:qe):q0K s=true↔(-1000≤s.Worst∧s.Worst≤1000)∧(-1000≤s.Best∧s.Best≤1000)∧s.Worst≠s.Best∧min s.Worst s.Best≤s.Pass∧s.Pass≤max s.Worst s.Best:=by
 unfold q0K q6Y
 simp only[qyd,beq_iff_eq,bne_iff_ne]
 omega
theorem qpt (s:qe):Qa s=if q0K s=true then 0 else 10:=by
 have hk:=q53 s
 unfold Qa
 simp only[qjz]
 by_cases h1:s.Worst=s.Best
 ·rw[if_pos (by rw[h1];simp),if_neg (fun q=>(hk.1 q).2.2.1 h1)]
 ·rw[if_neg (by simp;omega)]
  by_cases h2 : -1000≤min s.Worst s.Best∧min s.Worst s.Best≤1000
  ·rw[if_neg (by simp[h2.1,h2.2])]
   by_cases h3 : -1000≤max s.Worst s.Best∧max s.Worst s.Best≤1000
   ·rw[if_neg (by simp[h3.1,h3.2])]
    by_cases h4:s.Pass<min s.Worst s.Best
    ·rw[if_pos h4,if_neg (fun q=>by have:=hk.1 q;omega)]
    ·rw[if_neg h4]
     by_cases h5:max s.Worst s.Best<s.Pass
     ·rw[if_pos h5,if_neg (fun q=>by have:=hk.1 q;omega)]
     ·rw[if_neg h5,if_pos (hk.2 (by omega))]
   ·rw[if_pos (by rw[Bool.not_eq_true',Bool.and_eq_false_iff,decide_eq_false_iff_not,decide_eq_false_iff_not];omega),if_neg (fun q=>by have:=hk.1 q;omega)]
  ·rw[if_pos (by rw[Bool.not_eq_true',Bool.and_eq_false_iff,decide_eq_false_iff_not,decide_eq_false_iff_not];omega),if_neg (fun q=>by have:=hk.1 q;omega)]
theorem qdI (s:qe) (g m:Int):Q8 s g m=q5u s g m:=by
 unfold Q8 Qw q5u q6T
 rw[qpt]
 cases hs:q0K s
 ·rw[if_neg (show ¬ (false=true) by decide),if_neg (show ¬ (((10:Int)==0)=true) by decide)];rfl
 ·have hk:=(q53 s).1 hs
  rw[if_pos rfl,if_pos (show((0:Int)==0)=true by decide),qye]
  have hl:(q6Y g s.Worst s.Best==g)=(decide (min s.Worst s.Best≤g)&&decide (g≤max s.Worst s.Best)):=by
   rw[Bool.eq_iff_iff]
   unfold q6Y
   simp only[qyd,beq_iff_eq,qyG]
   omega
  rw[hl]
  by_cases h1:min s.Worst s.Best≤g
  ·rw[if_pos h1,qyH h1,qye]
   by_cases h2:g≤max s.Worst s.Best
   ·rw[qyH h2,if_neg (show ¬ ((!true)=true) by decide),qye]
    by_cases h3:s.Worst<s.Best
    ·rw[if_pos h3,qyH h3,Bool.eq_iff_iff]
     simp only[qyc,beq_iff_eq,qyG]
     omega
    ·rw[if_neg h3,decide_eq_false h3,Bool.eq_iff_iff]
     simp only[qyc,beq_iff_eq,qyG,decide_eq_false_iff_not]
     omega
   ·rw[decide_eq_false h2,if_pos (show(!false)=true by decide),qyJ]
  ·rw[if_neg h1,decide_eq_false h1,if_pos (show(!false)=true by decide)];rfl
end
noncomputable section
open Go.RowKit
theorem q5G (s:qe) {a b:qa} (ha:z8 a):QI s a b=some (q1M s a b):=by
 have h2:=ha.2
 unfold QI q1M
 rw[q44 _ _ (by omega),qxH,qdI]
 cases hp:decide (a.Path=b.Path)
 ·rw[if_neg (by decide)];simp
 ·rw[if_pos rfl]
  cases hr:q5u s a.Grade b.Grade
  ·rw[if_neg (by decide)];simp
  ·rw[if_pos rfl]
   by_cases hc:ceq a.Course b.Course=true
   ·rw[if_pos (by unfold ceq at hc;rw[qyd] at hc;exact hc),hc]
    cases a.Bundle==b.Bundle
    ·rfl
    ·rw[if_pos rfl]
     by_cases h3:b.Credits≤a.Credits
     ·rw[if_pos h3,qyH h3];simp
     ·rw[if_neg h3,decide_eq_false h3];simp
   ·rw[if_neg (by unfold ceq at hc;rw[qyd] at hc;exact hc),qy9.2 hc];rfl
theorem qhg (l:List Int) (hl:l.length≤1000) (n:Int):Zy l n=some (l.any fun x=>x==n):=by
 have h:=q4w (step:=QG l n) l (fun x=>x==n) (Sum.inl ()) (Sum.inr ()) (fun i x hx=>by
  have hi:=Qb hx
  unfold QG
  rw[if_pos (by omega),if_pos ⟨by omega,by omega⟩,qxK,hx,qxH,Qe hi (by omega)]
  split<;>rfl) (by
  unfold QG
  rw[if_neg (by omega)])
 unfold Zy
 rw[h,qxH]
 cases l.any fun x=>x==n<;>rfl
theorem qfI (s:qe) (l:List qa) (hl:l.length≤1000) (hf:∀a∈l,z8 a) (i k:Nat) (hi:i<l.length) (hk:k<l.length):Zp l s (i:Int) (k:Int)=some (plc s l k i):=by
 have ha:l[i]?=some l[i]:=qxJ hi
 have hb:l[k]?=some l[k]:=qxJ hk
 have hfa:z8 l[i]:=hf _ (qyy hi)
 have hfb:z8 l[k]:=hf _ (qyy hk)
 have hsa:=hfa.1
 have other:∀(t10:Int) (n:Int),qz (zJ l (i:Int) (k:Int) t10 n) (0:Int)=some (if q9h l i n=true then .inl () else .inr ()):=fun t10 n=>
  q4C (step:=zJ l (i:Int) (k:Int) t10 n) l.length (fun j=>decide (j≠i)&&(l[j]?.any fun(c:qa)=>c.Sources.any fun x=>x==n)) (Sum.inl ()) (Sum.inr ()) (fun j hj=>by
   have hc:l[j]?=some l[j]:=qxJ hj
   unfold zJ
   rw[if_pos (by omega),Qe hj (by omega)]
   by_cases hji:j=i
   ·rw[if_neg (by rw[bne_iff_ne];omega),decide_eq_false (by simpa using hji)];rfl
   ·rw[if_pos (by rw[bne_iff_ne];omega),if_pos ⟨by omega,by omega⟩,qxK,hc,qxH,qhg _ (hf _ (qyy hj)).1,qxH,qyH hji,qye]
    show _=some (if(l[j].Sources.any fun x=>x==n)=true then _ else _)
    split<;>rfl) (by
   unfold zJ
   rw[if_neg (by omega)])
 have src:=q4w (step:=Qi l (i:Int) (k:Int)) l[i].Sources (fun n => !(l[k].Sources.any fun x=>n==x)&&q9h l i n) (Sum.inl ()) (Sum.inr ()) (fun q n hn=>by
  have hq:=Qb hn
  have hh:(l[k].Sources.any fun x=>x==n)=l[k].Sources.any fun x=>n==x:=by
   congr 1;funext x;exact Bool.beq_comm
  unfold Qi
  rw[if_pos ⟨by omega,by omega⟩,qxK,ha,qxH,if_pos (by omega),if_pos ⟨by omega,by omega⟩,qxH,if_pos ⟨by omega,by omega⟩,qxK,hn,qxH,if_pos ⟨by omega,by omega⟩,qxK,hb,qxH,qhg _ hfb.1,qxH,hh,other,Qe hq (by omega)]
  cases l[k].Sources.any fun x=>n==x
  ·rw[if_neg (by decide),qxH]
   cases q9h l i n<;>rfl
  ·rw[if_pos rfl];rfl) (by
  unfold Qi
  rw[if_pos ⟨by omega,by omega⟩,qxK,ha,qxH,if_neg (by omega)])
 have hp:plc s l k i=qo6 s l i k l[i] l[k]:=by unfold plc;rw[ha,hb]
 rw[hp]
 unfold Zp qo6
 rw[if_pos ⟨by omega,by omega⟩,qxK,ha,qxH,if_pos ⟨by omega,by omega⟩,qxK,hb,qxH,q5G s hfa,qxH]
 by_cases hik:i=k
 ·rw[if_pos (beq_iff_eq.2 (by omega:(i:Int)=(k:Int))),decide_eq_false (by simpa using hik)];rfl
 ·rw[if_neg (fun h=>hik (by have:=beq_iff_eq.1 h;omega)),qyH hik,qye]
  cases q1M s l[i] l[k]
  ·rfl
  ·rw[if_neg (by decide),src,qxH,qye]
   have e:(l[i].Sources.all fun n=>(l[k].Sources.any fun x=>n==x) || !q9h l i n) = !(l[i].Sources.any fun n => !(l[k].Sources.any fun x=>n==x)&&q9h l i n):=by
    rw[List.not_any_eq_all_not]
    congr 1;funext n
    cases(l[k].Sources.any fun x=>n==x)<;>cases q9h l i n<;>rfl
   rw[e]
   cases l[i].Sources.any fun n => !(l[k].Sources.any fun x=>n==x)&&q9h l i n<;>rfl
def qiu:Option Nat→Int
 | some k=>(k:Int)
 | none => -1
theorem q4q (s:qe) (l:List qa) (hl:l.length≤1000) (hf:∀a∈l,z8 a):zP l s=some (qiu (JU (q5c s l) l.length)):=by
 have inner:∀k,k<l.length→qz (zy s l (k:Int)) (0:Int)=some (if q5c s l k=true then .inl () else .inr ()):=fun k hk=>
  q4C (step:=zy s l (k:Int)) l.length (plc s l k) (Sum.inl ()) (Sum.inr ()) (fun i hi=>by
   unfold zy
   rw[if_pos (by omega),qfI s l hl hf i k hi hk,qxH,Qe hi (by omega)]
   split<;>rfl) (by
   unfold zy
   rw[if_neg (by omega)])
 have key:∀k,k≤l.length→qz (zx s l) ((k:Int)-1)=some (match JU (q5c s l) k with|some i => .inl (i:Int)|none => .inr ()):=by
  intro k
  induction k with
  | zero=>
   intro _
   refine qY ?_
   unfold zx
   rw[if_neg (by omega)];rfl
  | succ k ih=>
   intro hk
   have e1:((k+1:Nat):Int)-1=(k:Int):=by omega
   rw[e1]
   unfold JU
   have e:zx s l (k:Int)=some (if q5c s l k=true then .inr (.inl (k:Int)) else .inl ((k:Int)-1)):=by
    unfold zx
    rw[if_pos (by omega),inner k (by omega),qxH,zH (by omega) (by omega)]
    split<;>rfl
   by_cases hq:q5c s l k=true
   ·rw[if_pos hq] at e
    rw[if_pos hq];exact qY e
   ·rw[if_neg hq] at e
    rw[if_neg hq,zZ e]
    exact ih (by omega)
 unfold zP
 rw[zH (by omega) (by omega),key l.length (qxX _),qxH]
 cases JU (q5c s l) l.length<;>rfl
theorem qc9 (s:qe):∀(n:Nat) (l:List qa),l.length≤n→n≤1000→(∀a∈l,z8 a)→qz (zn s) (l,qiu (JU (q5c s l) l.length))=some (red (q5c s) l):=by
 intro n
 induction n with
 | zero=>
  intro l hl _ hf
  have hl0:l=[]:=qy0 (by omega)
  subst hl0
  refine qY ?_
  unfold zn
  rfl
 | succ n ih=>
  intro l hl hn hf
  have hML:100000≤maxLen:=by unfold maxLen;omega
  cases hc:JU (q5c s l) l.length with
  | none=>
   rw[q66 hc]
   refine qY ?_
   unfold zn
   rfl
  | some k=>
   obtain⟨hk,hq,-⟩:=q01 hc
   have hlen:(l.eraseIdx k).length=l.length-1:=by rw[List.length_eraseIdx,if_pos hk]
   have hfe:∀a∈l.eraseIdx k,z8 a:=fun a ha=>hf a (List.mem_of_mem_eraseIdx ha)
   have hw:w64 ((k:Int)+1)=((k+1:Nat):Int):=by rw[zH (by omega) (by omega)];omega
   have hcov:=q4q s (l.eraseIdx k) (by omega) hfe
   have e:zn s (l,(k:Int))=some (.inl (l.eraseIdx k,qiu (JU (q5c s (l.eraseIdx k)) (l.eraseIdx k).length))):=by
    unfold zn
    dsimp only
    rw[if_pos (by omega),if_pos ⟨by omega,by omega⟩,hw,if_pos ⟨by omega,by omega⟩,qxK,qxK]
    by_cases hkl:k+1<l.length
    ·rw[if_pos (.inr (by omega)),if_pos ⟨by omega,by omega⟩,←List.eraseIdx_eq_take_drop_succ,hcov,qxH]
    ·have et:l.take k=l.eraseIdx k:=by rw[List.eraseIdx_eq_take_drop_succ,qyn (by omega),qy2]
     rw[if_neg (by omega),if_pos ⟨by omega,by omega⟩,et,hcov,qxH]
   show qz _ (l,(k:Int))=_
   rw[zZ e,q6F hc]
   exact ih (l.eraseIdx k) (by omega) (by omega) hfe
theorem q9d (d:Int) (h0:0≤d) (h1:d≤100000):∃v,Zc d=some v∧QR d=some v:=by
 have hm:=Int.emod_lt_of_pos d (show(0:Int)<100 by omega)
 have hm0:=Int.emod_nonneg d (show(100:Int)≠0 by omega)
 have hde:=Int.mul_ediv_add_emod d 100
 have e1:Int.tmod d 100=d % 100:=Int.tmod_eq_emod_of_nonneg h0
 have e2:Int.tdiv d 100=d / 100:=Int.tdiv_eq_ediv_of_nonneg h0
 refine⟨d / 100,?_,?_⟩
 ·unfold Zc ZY
  rw[if_neg (by decide),if_neg (by decide),e1,e2,if_neg (by omega),zH (by omega) (by omega)];rfl
 ·unfold QR Qz
  rw[if_neg (by omega),if_neg (by decide),if_neg (by decide),if_neg (by decide),e1,zH (n:=d % 100+100) (by omega) (by omega),Int.tmod_eq_emod_of_nonneg (by omega)]
  have e3:(d % 100+100) % 100=d % 100:=by omega
  rw[e3,zH (n:=d-d % 100) (by omega) (by omega),Int.tdiv_eq_ediv_of_nonneg (by omega),zH (by omega) (by omega),qxH]
  congr 1
  omega
theorem qkC (p:qd) (a:qa) (day:Int) (h0:0≤day) (h1:day≤100000) (h2:0≤a.Day) (h3:a.Day≤100000):Je p a day=some (qbo p a day):=by
 obtain⟨v,q1,q2⟩:=q9d day h0 h1
 obtain⟨w,q3,q4⟩:=q9d a.Day h2 h3
 have:=qhm p a day
 rw[←this]
 unfold Je qv
 rw[q1,q2,q3,q4]
theorem q8A (p:qd) (s:qe) (day:Int) (h0:0≤day) (h1:day≤100000) (l:List qa) (hl:l.length≤1000) (hf:∀a∈l,z8 a) (hd0:∀a∈l,0≤a.Day∧a.Day≤100000):∀(r out:List qa) (k:Nat),r.length+k=l.length→l.drop k=r→out.length≤k→qz (zq p s l day) (out,(k:Int))=some (out++J6 p r day):=by
 have hML:100000≤maxLen:=by unfold maxLen;omega
 intro r
 induction r with
 | nil=>
  intro out k hk hd ho
  have hk:k=l.length:=by simpa using hk
  refine(qY (e:=out) ?_).trans (by unfold J6;rw[List.filter_nil,qy2])
  unfold zq
  dsimp only
  rw[if_neg (by omega)]
 | cons a r ih=>
  intro out k hk hd ho
  simp only[qxS] at hk
  have ha:l[k]?=some a:=by have:=congrArg (fun x:List qa=>x[0]?) hd;simpa [List.getElem?_drop] using this
  have hd1:l.drop (k+1)=r:=by rw[←qyu,hd];rfl
  have hklt:=Qb ha
  have ham:=qxI ha
  have e:zq p s l day (out,(k:Int))=some (.inl (if qbo p a day=true then out else out++[a],((k+1:Nat):Int))):=by
   unfold zq
   dsimp only
   rw[if_pos (by omega),if_pos ⟨by omega,by omega⟩,qxK,ha,qxH,qkC p a day h0 h1 (hd0 a ham).1 (hd0 a ham).2,qxH,Qe hklt (by omega)]
   cases qbo p a day
   ·rw[if_pos (show(!false)=true by decide),qxH,q7u (hf a ham),qxH]
    dsimp only
    rw[if_pos ⟨by omega,by omega⟩,if_pos ⟨by omega,by omega⟩];rfl
   ·rfl
  rw[zZ e]
  unfold J6
  rw[List.filter_cons]
  cases ho2:qbo p a day
  ·rw[if_neg (by decide),if_pos (by decide),ih (out++[a]) (k+1) (by omega) hd1 (by simp;omega),qym];rfl
  ·rw[if_pos rfl,if_neg (by decide),ih out (k+1) (by omega) hd1 (by omega)];rfl
theorem qaV (l:List qa) (p:qd) (s:qe) (day:Int) (h0:0≤day) (h1:day≤100000) (hl:l.length≤1000) (hf:∀a∈l,z8 a) (hd0:∀a∈l,0≤a.Day∧a.Day≤100000):Z3 l p s day=some (if 10<(q2C p s l day).length then([],2) else(q2C p s l day,0)):=by
 have hy:(J6 p l day).length≤l.length:=List.length_filter_le _ _
 have hfy:∀a∈J6 p l day,z8 a:=fun a ha=>hf a (qyC.1 ha).1
 unfold Z3
 change Option.bind (qz _ ([],((0:Nat):Int))) _=_
 rw[q8A p s day h0 h1 l hl hf hd0 l [] 0 (by omega) rfl (qxX _),qxH,qy1,q4q s _ (by omega) hfy,qxH,qc9 s (J6 p l day).length (J6 p l day) (qxX _) (by omega) hfy,qxH]
 show(if(10:Int)<(((q2C p s l day).length:Nat):Int) then _ else _)=_
 by_cases h:10<(q2C p s l day).length
 ·rw[if_pos (by omega),if_pos h]
 ·rw[if_neg (by omega),if_neg h];rfl
end
noncomputable section
open Go.RowKit
theorem qcC (l:List qa) (hl:l.length≤100) (hf:∀a∈l,z8 a):∀(r set:List qa) (k:Nat) (b:Int),r.length+k=l.length→l.drop k=r→set.length≤k→(∀a∈set,z8 a)→
  qz (zj Q4 set) (b,l,(k:Int))=some (.inr (dfs q4G qjF r set b,l)):=by
 have hML:100000≤maxLen:=by unfold maxLen;omega
 intro r
 induction r with
 | nil=>
  intro set k b hk hd hs hsf
  have hk:k=l.length:=by simpa using hk
  refine qY ?_
  unfold zj
  dsimp only
  rw[if_neg (by omega)];rfl
 | cons a r ih=>
  intro set k b hk hd hs hsf
  simp only[qxS] at hk
  have ha:l[k]?=some a:=by have:=congrArg (fun x:List qa=>x[0]?) hd;simpa [List.getElem?_drop] using this
  have hd1:l.drop (k+1)=r:=by rw[←qyu,hd];rfl
  have hklt:=Qb ha
  have hsf1:∀x∈set++[a],z8 x:=fun x hx=>by
   rcases qyb.1 hx with h|h
   ·exact hsf x h
   ·rw[qyx.1 h];exact hf a (qxI ha)
  have hlen:(set++[a]).length=set.length+1:=by simp
  have e:zj Q4 set (b,l,(k:Int))=some (.inl (if q4G (set++[a])=true then dfs q4G qjF r (set++[a]) (max b (qjF (set++[a]))) else b,l,((k+1:Nat):Int))):=by
   unfold zj
   dsimp only
   rw[if_pos (by omega),if_pos ⟨by omega,by omega⟩,qxK,ha,qxH,if_pos ⟨by omega,by omega⟩,qk9 _ (by omega) hsf1,qxH,Qe hklt (by omega)]
   by_cases hfr:q4G (set++[a])=true
   ·rw[if_pos hfr,if_pos hfr,J9]
    unfold zS QP
    dsimp only
    rw[q5F _ (by omega),qxH,qxH,ih (set++[a]) (k+1) _ (by omega) hd1 (by omega) hsf1,qxH]
    rfl
   ·rw[if_neg hfr,if_neg hfr]
  rw[zZ e,ih set (k+1) _ (by omega) hd1 (by omega) hsf]
  rfl
theorem qjd (l:List qa) (hl:l.length≤10) (hf:∀a∈l,z8 a):QT l=some (dfs q4G qjF l [] 0,0):=by
 unfold QT ZF
 rw[if_neg (by omega),J9]
 unfold zS QP
 dsimp only
 rw[q5F [] (by simp),qxH,qxH]
 change Option.bind (Option.bind (Option.bind (qz _ (max 0 (qjF []),l,((0:Nat):Int))) _) _) _=_
 rw[qcC l (by omega) hf l [] 0 _ (by omega) rfl (by simp) (by simp)]
 rfl
end
noncomputable section
inductive Cn (e:Nat→Nat→Prop):Nat→Nat→Prop
 | refl (k:Nat):Cn e k k
 | step {i j k:Nat}:Cn e i j→e j k→Cn e i k
def Lw (e:Nat→Nat→Prop) (k m:Nat):Prop:=Cn e k m∧∀j,Cn e k j→m≤j
section
variable {e:Nat→Nat→Prop}
theorem Cn.trans {i j k:Nat} (h:Cn e i j) (h2:Cn e j k):Cn e i k:=by
 induction h2 with
 | refl=>exact h
 | step _ h4 ih=>exact ih.step h4
theorem Cn.one {i j:Nat} (h:e i j):Cn e i j:=(Cn.refl i).step h
theorem Cn.symm (hs:∀i j,e i j→e j i) {i j:Nat} (h:Cn e i j):Cn e j i:=by
 induction h with
 | refl=>exact .refl _
 | step _ h4 ih=>exact(Cn.one (hs _ _ h4)).trans ih
theorem Cn.lt {n:Nat} (hn:∀i j,e i j→i<n∧j<n) {i j:Nat} (h:Cn e i j) (hi:i<n):j<n:=by
 cases h with
 | refl=>exact hi
 | step _ h4=>exact(hn _ _ h4).2
theorem Lw.uniq {k m m':Nat} (h:Lw e k m) (h':Lw e k m'):m=m':=Nat.le_antisymm (h.2 _ h'.1) (h'.2 _ h.1)
theorem Lw.same (hs:∀i j,e i j→e j i) {k j m:Nat} (h:Lw e k m) (hc:Cn e k j):Lw e j m:=⟨(hc.symm hs).trans h.1,fun i hi=>h.2 i (hc.trans hi)⟩
theorem Lw.self (hs:∀i j,e i j→e j i) {k m:Nat} (h:Lw e k m):Lw e m m:=h.same hs h.1
theorem qs0 (k:Nat):∃m,Lw e k m:=by
 have:∀b j,j≤b→Cn e k j→∃m,Lw e k m:=by
  intro b
  induction b with
  | zero=>intro j hj hc;exact⟨j,hc,fun i _=>by omega⟩
  | succ b ih=>
   intro j hj hc
   by_cases h:∃i,i≤b∧Cn e k i
   ·obtain⟨i,h1,h2⟩:=h;exact ih i h1 h2
   ·refine⟨j,hc,fun i hi=>?_⟩
    by_cases hib:i≤b
    ·exact absurd ⟨i,hib,hi⟩ h
    ·omega
 exact this k k (qxX k) (.refl k)
theorem qiQ {l:List Nat} {p q:Nat→Bool} (h:∀x∈l,p x=true→q x=true) {y:Nat} (hy:y∈l) (h1:p y=false) (h2:q y=true):(l.filter p).length<(l.filter q).length:=by
 have mono:∀l:List Nat,(∀x∈l,p x=true→q x=true)→(l.filter p).length≤(l.filter q).length:=by
  intro l
  induction l with
  | nil=>intro _;exact qxX _
  | cons a l ih=>
   intro h
   have:=ih fun x hx=>h x (qxP _ hx)
   rw[List.filter_cons,List.filter_cons]
   by_cases ha:p a=true
   ·rw[if_pos ha,if_pos (h a qxW ha)];simp only[qxS];omega
   ·rw[if_neg ha];split
    ·simp only[qxS];omega
    ·exact this
 induction l with
 | nil=>cases hy
 | cons a l ih=>
  have ht:=fun x hx=>h x (qxP _ hx)
  rw[List.filter_cons,List.filter_cons]
  rcases qy3.1 hy with rfl|hy
  ·have:=mono l ht
   rw[if_neg (by rw[h1];simp),if_pos h2];simp only[qxS];omega
  ·have:=ih ht hy
   by_cases ha:p a=true
   ·rw[if_pos ha,if_pos (h a qxW ha)];simp only[qxS];omega
   ·rw[if_neg ha];split
    ·simp only[qxS];omega
    ·exact this
theorem q7l {n:Nat} (hn:∀i j,e i j→i<n∧j<n) (hs:∀i j,e i j→e j i) {G:Nat→Nat→Nat} (h0:∀k,k<n→G 0 k=k) (h1:∀r k,k<n→G (r+1) k≤G r k) (h2:∀r i k,e i k→G (r+1) i≤G r k)
  (h3:∀r k,k<n→Cn e k (G r k)) {k:Nat} (hk:k<n):Lw e k (G n k):=by
 obtain⟨m,hm⟩:=qs0 (e:=e) k
 have hmn:m<n:=hm.1.lt hn hk
 have hge:∀r j,Cn e m j→m≤G r j:=fun r j hj=>hm.2 _ ((hm.1.trans hj).trans (h3 r j (hj.lt hn hmn)))
 have hA:∀r j,Cn e m j→G r j=m→G (r+1) j=m:=fun r j hj h=>Nat.le_antisymm (by have:=h1 r j (hj.lt hn hmn);omega) (hge _ _ hj)
 have h0m:∀r,G r m=m:=by
  intro r
  induction r with
  | zero=>exact h0 m hmn
  | succ r ih=>exact hA r m (.refl m) ih
 -- either all that is joined has it, or there is one more
 have key:∀r,(∀j,Cn e m j→G r j=m)∨r+1≤((List.range n).filter fun j=>decide (G r j=m)).length:=by
  intro r
  induction r with
  | zero=>
   refine .inr ?_
   have:m∈(List.range n).filter fun j=>decide (G 0 j=m):=qyC.2 ⟨qyD.2 hmn,qyH (h0 m hmn)⟩
   exact List.length_pos_of_mem this
  | succ r ih=>
   rcases ih with ih|ih
   ·exact .inl fun j hj=>hA r j hj (ih j hj)
   ·by_cases hcl:∀j,j<n→G (r+1) j=m→G r j=m
    ·refine .inl fun j hj=>?_
     have:G r j=m:=by
      induction hj with
      | refl=>exact h0m r
      | step hij he ih2=>
       rename_i j k
       have hk:=(hn _ _ he).2
       refine hcl k hk (Nat.le_antisymm ?_ (hge _ _ (hij.step he)))
       have:=h2 r k j (hs _ _ he)
       omega
     exact hA r j hj this
    ·refine .inr ?_
     simp only[Classical.not_forall] at hcl
     obtain⟨j,hj,hj1,hj2⟩:=hcl
     have:=qiQ (l:=List.range n) (p:=fun j=>decide (G r j=m)) (q:=fun j=>decide (G (r+1) j=m)) (fun x hx hp=>by
      have hp:=of_decide_eq_true hp
      have hx:=qyD.1 hx
      have hcx:Cn e m x:=by have:=(h3 r x hx).symm hs;rw[hp] at this;exact this
      exact qyH (hA r x hcx hp)) (qyD.2 hj) (decide_eq_false hj2) (qyH hj1)
     omega
 rcases key n with h|h
 ·rw[h k (hm.1.symm hs)];exact hm
 ·have:=List.length_filter_le (fun j=>decide (G n j=m)) (List.range n)
  rw[List.length_range] at this
  omega
end
def qgC (n:Nat) (f:Nat→Nat):List (List Nat):=((List.range n).filter fun k=>decide (f k=k)).map fun r=>(List.range n).filter fun i=>decide (f i=r)
theorem qah {n:Nat} {f g:Nat→Nat} (h:∀k,k<n→f k=g k):qgC n f=qgC n g:=by
 unfold qgC
 have e1:(List.range n).filter (fun k=>decide (f k=k))=(List.range n).filter fun k=>decide (g k=k):=List.filter_congr fun k hk=>by rw[h k (qyD.1 hk)]
 rw[e1]
 exact List.map_congr_left fun r _=>List.filter_congr fun k hk=>by rw[h k (qyD.1 hk)]
end
noncomputable section
def q1U (g:List Nat) (j:Nat×Nat):List Nat:=(g.set j.1 (min (g.getD j.1 0) (g.getD j.2 0))).set j.2 (min (g.getD j.1 0) (g.getD j.2 0))
def Z5 (js:List (Nat×Nat)) (g:List Nat):List Nat:=js.foldl q1U g
def Z0 (js:List (Nat×Nat)):Nat→List Nat→List Nat
 | 0,g=>g
 | r+1,g=>Z0 js r (Z5 js g)
theorem JQ (g:List Nat) (j:Nat×Nat):(q1U g j).length=g.length:=by unfold q1U;rw[qys,qys]
theorem q1e:∀(js:List (Nat×Nat)) (g:List Nat),(Z5 js g).length=g.length
 | [],_=>rfl
 | j::js,g=>(q1e js (q1U g j)).trans (JQ g j)
theorem q1N (js:List (Nat×Nat)):∀(r:Nat) (g:List Nat),(Z0 js r g).length=g.length
 | 0,_=>rfl
 | r+1,g=>(q1N js r _).trans (q1e js g)
theorem Jp (js:List (Nat×Nat)):∀(r:Nat) (g:List Nat),Z0 js (r+1) g=Z5 js (Z0 js r g)
 | 0,_=>rfl
 | r+1,g=>Jp js r (Z5 js g)
theorem q9N {g:List Nat} {i:Nat} (v k:Nat) (hi:i<g.length):(g.set i v).getD k 0=if k=i then v else g.getD k 0:=by
 simp only[List.getD_eq_getElem?_getD]
 by_cases h:k=i
 ·subst h;rw[if_pos rfl,qyE hi];rfl
 ·rw[if_neg h,qyF (by omega)]
theorem q2A {g:List Nat} {j:Nat×Nat} (h1:j.1<g.length) (h2:j.2<g.length) (k:Nat):(q1U g j).getD k 0=if k=j.1∨k=j.2 then min (g.getD j.1 0) (g.getD j.2 0) else g.getD k 0:=by
 unfold q1U
 rw[q9N _ _ (by rw[qys];exact h2),q9N _ _ h1]
 by_cases a:k=j.2<;>by_cases b:k=j.1<;>simp[a,b]
section
variable {e:Nat→Nat→Prop}
theorem q6e {g:List Nat} {j:Nat×Nat} (h1:j.1<g.length) (h2:j.2<g.length) (k:Nat):(q1U g j).getD k 0≤g.getD k 0:=by
 rw[q2A h1 h2]
 split
 ·rename_i h
  rcases h with rfl|rfl
  ·exact Nat.min_le_left _ _
  ·exact Nat.min_le_right _ _
 ·exact qxX _
theorem q0Z:∀(js:List (Nat×Nat)) (g:List Nat),(∀j∈js,j.1<g.length∧j.2<g.length)→∀k,(Z5 js g).getD k 0≤g.getD k 0
 | [],_,_,_=>qxX _
 | j::js,g,h,k=>by
  have hj:=h j qxW
  exact qyi (q0Z js (q1U g j) (fun x hx=>by rw[JQ];exact h x (qxP _ hx)) k) (q6e hj.1 hj.2 k)
theorem q1G:∀(js:List (Nat×Nat)) (g:List Nat),(∀j∈js,j.1<g.length∧j.2<g.length)→∀j∈js,(Z5 js g).getD j.1 0≤g.getD j.2 0∧(Z5 js g).getD j.2 0≤g.getD j.1 0
 | j::js,g,h,i,hi=>by
  have hj:=h j qxW
  have ht:∀x∈js,x.1<(q1U g j).length∧x.2<(q1U g j).length:=fun x hx=>by rw[JQ];exact h x (qxP _ hx)
  rcases qy3.1 hi with rfl|hi
  ·have a:=q0Z js (q1U g i) ht i.1
   have b:=q0Z js (q1U g i) ht i.2
   rw[q2A hj.1 hj.2,if_pos (.inl rfl)] at a
   rw[q2A hj.1 hj.2,if_pos (.inr rfl)] at b
   exact⟨qyi a (Nat.min_le_right _ _),qyi b (Nat.min_le_left _ _)⟩
  ·obtain⟨a,b⟩:=q1G js (q1U g j) ht i hi
   exact⟨qyi a (q6e hj.1 hj.2 _),qyi b (q6e hj.1 hj.2 _)⟩
theorem q7b (hs:∀i j,e i j→e j i):∀(js:List (Nat×Nat)) (g:List Nat),(∀j∈js,j.1<g.length∧j.2<g.length∧e j.1 j.2)→(∀k,k<g.length→Cn e k (g.getD k 0))→∀k,k<g.length→Cn e k ((Z5 js g).getD k 0)
 | [],_,_,h,k,hk=>h k hk
 | j::js,g,h,hc,k,hk=>by
  obtain⟨h1,h2,h3⟩:=h j qxW
  refine q7b hs js (q1U g j) (fun x hx=>by rw[JQ];exact h x (qxP _ hx)) (fun i hi=>?_) k (by rw[JQ];exact hk)
  rw[JQ] at hi
  rw[q2A h1 h2]
  have c1:=hc _ h1
  have c2:=hc _ h2
  have c3:∀i,Cn e i j.1→Cn e i (min (g.getD j.1 0) (g.getD j.2 0)):=fun i hi=>by
   by_cases hm:g.getD j.1 0≤g.getD j.2 0
   ·rw[Nat.min_eq_left hm];exact hi.trans c1
   ·rw[Nat.min_eq_right (by omega)];exact(hi.step h3).trans c2
  split
  ·rename_i h
   rcases h with rfl|rfl
   ·exact c3 _ (.refl _)
   ·exact c3 _ (Cn.one (hs _ _ h3))
  ·exact hc i hi
theorem qa7 {n:Nat} (hn:∀i j,e i j→i<n∧j<n) (hs:∀i j,e i j→e j i) {js:List (Nat×Nat)} (h1:∀j∈js,j.1<n∧j.2<n∧e j.1 j.2) (h2:∀i k,e i k→i=k∨(i,k)∈js∨(k,i)∈js) {k:Nat} (hk:k<n) :
  Lw e k ((Z0 js n (List.range n)).getD k 0):=by
 have hl:∀r,(Z0 js r (List.range n)).length=n:=fun r=>by rw[q1N,List.length_range]
 have hj:∀r,∀j∈js,j.1<(Z0 js r (List.range n)).length∧j.2<(Z0 js r (List.range n)).length:=fun r j hj=>by rw[hl];exact⟨(h1 j hj).1,(h1 j hj).2.1⟩
 have h0:∀k,k<n→(List.range n).getD k 0=k:=fun k hk=>by rw[List.getD_eq_getElem?_getD,List.getElem?_range hk];rfl
 refine q7l (G:=fun r k=>(Z0 js r (List.range n)).getD k 0) hn hs h0 (fun r k hk=>?_) (fun r i k he=>?_) (fun r k hk=>?_) hk
 ·show(Z0 js (r+1) _).getD k 0≤_
  rw[Jp];exact q0Z _ _ (hj r) k
 ·show(Z0 js (r+1) _).getD i 0≤(Z0 js r _).getD k 0
  rw[Jp]
  rcases h2 i k he with rfl|h|h
  ·exact q0Z _ _ (hj r) i
  ·exact(q1G _ _ (hj r) _ h).1
  ·exact(q1G _ _ (hj r) _ h).2
 ·show Cn e k ((Z0 js r _).getD k 0)
  clear hj
  induction r generalizing k with
  | zero=>show Cn e k ((List.range n).getD k 0);rw[h0 k hk];exact .refl k
  | succ r ih=>
   rw[Jp]
   exact q7b hs js _ (fun j hj=>by rw[hl];exact h1 j hj) (fun k hk=>ih k (by rw[←hl r];exact hk)) k (by rw[hl];exact hk)
end
end
noncomputable section
end
noncomputable section
theorem qhE {p:Nat→Bool}:∀{n c r:Nat},((List.range n).filter p)[c]?=some r→r<n∧p r=true∧((List.range r).filter p).length=c
 | 0,c,r,h=>by simp at h
 | n+1,c,r,h=>by
  rw[List.range_succ,List.filter_append] at h
  by_cases hc:c<((List.range n).filter p).length
  ·rw[qyk hc] at h
   obtain⟨h1,h2⟩:=qhE h
   exact⟨by omega,h2⟩
  ·rw[qyj (by omega),List.filter_cons] at h
   by_cases hp:p n=true
   ·rw[if_pos hp] at h
    cases hd:c-((List.range n).filter p).length with
    | zero=>
     rw[hd] at h
     have h:n=r:=by simpa using h
     subst h
     exact⟨by omega,hp,by omega⟩
    | succ d=>rw[hd] at h;simp at h
   ·rw[if_neg hp] at h;simp at h
theorem qhF {p:Nat→Bool}:∀{n r:Nat},r<n→p r=true→((List.range n).filter p)[((List.range r).filter p).length]?=some r
 | n+1,r,h,hp=>by
  rw[List.range_succ,List.filter_append]
  by_cases hr:r=n
  ·subst hr
   rw[qyj (qxX _),Nat.sub_self,List.filter_cons,if_pos hp];rfl
  ·have:=qhF (n:=n) (by omega) hp
   rw[qyk (Qb this)];exact this
def rts (n:Nat) (f:Nat→Nat):List Nat:=(List.range n).filter fun k=>decide (f k=k)
def rows (n k:Nat) (f:Nat→Nat):List (List Int):=(rts n f).map fun r=>((List.range k).filter fun i=>decide (f i=r)).map fun(i:Nat)=>(i:Int)
def ixs (k:Nat) (f:Nat→Nat):List (Int×Int):=(rts k f).map fun(r:Nat)=>((r:Int),((rts r f).length:Int))
variable {f:Nat→Nat}
theorem qa1 {g:Nat→Int}:∀{L:List Nat} {r:Nat},r∈L→Zi 0 (L.map fun(r:Nat)=>((r:Int),g r)) (r:Int)=g r
 | a::L,r,h=>by
  show(if(r:Int)=(a:Int) then g a else Zi 0 (L.map fun(r:Nat)=>((r:Int),g r)) (r:Int))=g r
  by_cases e:r=a
  ·subst e;rw[if_pos rfl]
  ·rw[if_neg (by omega)];exact qa1 ((qy3.1 h).resolve_left e)
theorem q9j {g:Nat→Int} {k:Nat} {v:Int}:∀{L:List Nat},k ∉ L→q3m (L.map fun(r:Nat)=>((r:Int),g r)) (k:Int) v=(L.map fun(r:Nat)=>((r:Int),g r))++[((k:Int),v)]
 | [],_=>rfl
 | a::L,h=>by
  obtain⟨h1,h2⟩:=not_or.1 (fun h'=>h (qy3.2 h'):¬ (k=a∨k∈L))
  show(if(k:Int)=(a:Int) then _ else _)=_
  rw[if_neg (by omega),q9j h2];rfl
theorem qjm {k r:Nat} (h:f r=r) (hr:r<k):Zi 0 (ixs k f) (r:Int)=((rts r f).length:Int):=
 qa1 (qyC.2 ⟨qyD.2 hr,qyH h⟩)
theorem qjO (k:Nat):(ixs k f).length=(rts k f).length:=qyp ..
theorem qfw (k:Nat):ixs (k+1) f=if f k=k then q3m (ixs k f) (k:Int) ((ixs k f).length:Int) else ixs k f:=by
 have e:rts (k+1) f=rts k f++if f k=k then[k] else[]:=by
  unfold rts
  rw[List.range_succ,List.filter_append,List.filter_cons]
  by_cases h:f k=k
  ·rw[if_pos (qyH h),if_pos h];rfl
  ·rw[if_neg (by simpa using h),if_neg h];rfl
 by_cases h:f k=k
 ·rw[if_pos h]
  rw[if_pos h] at e
  have hn:k ∉ rts k f:=fun hm=>by have:=qyD.1 (qyC.1 hm).1;omega
  rw[qjO]
  unfold ixs
  rw[q9j hn,e,List.map_append];rfl
 ·rw[if_neg h]
  rw[if_neg h,qy2] at e
  unfold ixs;rw[e]
theorem q8y {n k r:Nat} (h:f r=r) (hr:r<n):(rows n k f)[(rts r f).length]?=some (((List.range k).filter fun i=>decide (f i=r)).map fun(i:Nat)=>(i:Int)):=by
 unfold rows
 rw[qxV,show(rts n f)[(rts r f).length]?=some r from qhF hr (qyH h)];rfl
theorem qcz {n k r:Nat} (hk:f k=r) (h:f r=r) (hr:r<n):(rows n k f).set (rts r f).length ((((List.range k).filter fun i=>decide (f i=r)).map fun(i:Nat)=>(i:Int))++[(k:Int)])=rows n (k+1) f:=by
 have hc:=Qb (q8y (k:=k) h hr)
 apply List.ext_getElem?
 intro c
 have hrow:∀r',((List.range (k+1)).filter fun i=>decide (f i=r')).map (fun(i:Nat)=>(i:Int))=(((List.range k).filter fun i=>decide (f i=r')).map fun(i:Nat)=>(i:Int))++if r'=r then[(k:Int)] else[]:=fun r'=>by
  rw[List.range_succ,List.filter_append,List.map_append,List.filter_cons]
  by_cases e:r'=r
  ·subst e;rw[if_pos (qyH hk),if_pos rfl];rfl
  ·rw[if_neg (by simpa using fun h'=>e (by rw[←hk,h'])),if_neg e];rfl
 by_cases e:c=(rts r f).length
 ·subst e
  rw[qyE hc,q8y h hr,hrow r,if_pos rfl]
 ·rw[qyF (by omega)]
  unfold rows
  rw[qxV,qxV]
  cases hx:(rts n f)[c]? with
  | none=>rfl
  | some r'=>
   have hne:r'≠r:=fun h'=>by
    obtain⟨-,-,h3⟩:=qhE hx
    exact e (by rw[←h3,h'];rfl)
   rw[Option.map_some,Option.map_some]
   rw[hrow r',if_neg hne,qy2]
theorem qd9 (n:Nat):rows n 0 f=List.replicate (rts n f).length []:=by
 unfold rows
 rw[List.range_zero]
 exact List.map_const' ..
theorem qfl (n:Nat):rows n n f=(qgC n f).map fun g=>g.map fun(i:Nat)=>(i:Int):=by
 unfold rows qgC
 rw[List.map_map];rfl
end
noncomputable section
open Go.RowKit
def Zg (g:List Nat):List Int:=g.map fun(x:Nat)=>(x:Int)
theorem Jb (g:List Nat):(Zg g).length=g.length:=qyp ..
theorem q2l {g:List Nat} {k:Nat} (h:k<g.length):(Zg g)[k]?=some ((g.getD k 0:Nat):Int):=by
 unfold Zg
 rw[qxV,qxJ h,List.getD_eq_getElem?_getD,qxJ h];rfl
theorem q6U (g:List Nat) (k v:Nat):(Zg g).set k (v:Int)=Zg (g.set k v):=by
 unfold Zg;rw[List.map_set]
def eF (l:List qa) (i k:Nat):Bool:=match l[i]?,l[k]? with
 | some a,some b => !J8 a b
 | _,_=>false
theorem qky {l:List qa} {i k:Nat} {a b:qa} (ha:l[i]?=some a) (hb:l[k]?=some b):eF l i k = !J8 a b:=by unfold eF;rw[ha,hb]
theorem qgN {l:List qa} {i k:Nat} (h:eF l i k=true):i<l.length∧k<l.length:=by
 unfold eF at h
 split at h
 ·rename_i h1 h2;exact⟨Qb h1,Qb h2⟩
 ·cases h
theorem q8a {l:List qa} {i k:Nat} (h:eF l i k=true):eF l k i=true:=by
 obtain⟨h1,h2⟩:=qgN h
 have ha:l[i]?=some l[i]:=qxJ h1
 have hb:l[k]?=some l[k]:=qxJ h2
 rw[qky ha hb] at h
 rw[qky hb ha,q80];exact h
def jl (l:List qa) (k m:Nat):List (Nat×Nat):=((List.range m).filter fun i=>eF l i k).map fun i=>(i,k)
def js (l:List qa) (m:Nat):List (Nat×Nat):=(List.range m).flatMap fun k=>jl l k k
theorem qkf (l:List qa) (k m:Nat):jl l k (m+1)=jl l k m++if eF l m k=true then[(m,k)] else[]:=by
 unfold jl
 rw[List.range_succ,List.filter_append,List.map_append,List.filter_cons]
 cases eF l m k<;>rfl
theorem qdo (l:List qa) (m:Nat):js l (m+1)=js l m++jl l m m:=by
 unfold js
 rw[List.range_succ,List.flatMap_append];simp
theorem qhw (l:List qa) (k m:Nat):(jl l k m).length≤m:=by
 unfold jl
 rw[qyp]
 exact qyi (List.length_filter_le _ _) (by rw[List.length_range];exact qxX _)
theorem qdZ (l:List qa):∀m,(js l m).length≤m*m
 | 0=>qxX _
 | m+1=>by
  rw[qdo,qxO]
  have:=qdZ l m
  have:=qhw l m m
  have:(m+1)*(m+1)=m*m+2*m+1:=by rw[Nat.add_mul,Nat.mul_add];omega
  omega
theorem q8X {l:List qa} {m:Nat} {j:Nat×Nat}:j∈js l m↔j.2<m∧j.1<j.2∧eF l j.1 j.2=true:=by
 unfold js jl
 simp only[List.mem_flatMap,qyr,qyC,qyD]
 constructor
 ·rintro⟨k,h1,i,⟨h2,h3⟩,rfl⟩;exact⟨h1,h2,h3⟩
 ·rintro⟨h1,h2,h3⟩;exact⟨j.2,h1,j.1,⟨h2,h3⟩,rfl⟩
def arr (j:Nat×Nat):Qy Int:=Qy.mk (j.1:Int) (j.2:Int)
theorem qaD (w1:List Int) (l:List qa) (hl:l.length≤1000) (hf:∀a∈l,z8 a) (t19 t20:Int) (k:Nat) (hk:k<l.length) (J:List (Nat×Nat)) (hJ:J.length≤1000000):qz (zI w1 l (k:Int) t19 t20 (k:Int)) (J.map arr,(0:Int))=some ((J++jl l k k).map arr):=by
 have hML:10000000≤maxLen:=by unfold maxLen;omega
 have hb:l[k]?=some l[k]:=qxJ hk
 have:=q2n (step:=zI w1 l (k:Int) t19 t20 (k:Int)) (fun i=>((J++jl l k i).map arr,(i:Int))) 0 k (qy7 _) (fun i _ hi=>by
  have ha:l[i]?=some l[i]:=qxJ (by omega)
  have hj:=qhw l k i
  unfold zI
  dsimp only
  rw[if_pos (by omega),if_pos ⟨by omega,by omega⟩,qxK,ha,qxH,if_pos ⟨by omega,by omega⟩,qxK,hb,qxH,q9E (hf _ (qyy _)) (hf _ (qyy _)),qxH,Qe hi (by omega),qkf,qky ha hb]
  cases J8 l[i] l[k]
  ·rw[if_pos (show(!false)=true by decide),if_pos ⟨by rw[qyp,qxO];omega,by rw[qyp,qxO];omega⟩,if_pos (show(!false)=true by decide),←qym,List.map_append (l₁:=J++jl l k i)];rfl
  ·rw[if_neg (show ¬ (!true)=true by decide),if_neg (show ¬ (!true)=true by decide),qy2]) (e:=(J++jl l k k).map arr) (by
  unfold zI
  dsimp only
  rw[if_neg (by omega)])
 have e0:jl l k 0=[]:=rfl
 rw[e0,qy2] at this
 exact this
theorem qa8 (l:List qa) (hl:l.length≤1000) (hf:∀a∈l,z8 a):qz (zr l ((l.length:Nat):Int)) ([],List.replicate l.length (0:Int),(0:Int))=some ((js l l.length).map arr,Zg (List.range l.length)):=by
 have hsq:l.length*l.length≤1000*1000:=Nat.mul_le_mul hl hl
 have st0:∀k,k≤l.length→(Zg (List.range k)++List.replicate (l.length-k) (0:Int)).length=l.length:=fun k hk=>by rw[qxO,Jb,List.length_range,qyo];omega
 have:=q2n (step:=zr l ((l.length:Nat):Int)) (fun k=>((js l k).map arr,Zg (List.range k)++List.replicate (l.length-k) (0:Int),(k:Int))) 0 l.length (qy7 _) (fun k _ hk=>by
  have hlen:=st0 k (by omega)
  have hset:(Zg (List.range k)++List.replicate (l.length-k) (0:Int)).set k (k:Int)=Zg (List.range (k+1))++List.replicate (l.length-(k+1)) (0:Int):=by
   obtain⟨q,hq⟩:∃q,l.length-k=q+1:=⟨l.length-k-1,by omega⟩
   rw[show l.length-(k+1)=q by omega,hq,List.replicate_succ,List.set_append_right _ _ (by rw[Jb,List.length_range];exact qxX _),Jb,List.length_range,Nat.sub_self,List.set_cons_zero,List.range_succ]
   unfold Zg
   rw[List.map_append,qym];rfl
  have hjl:=qdZ l k
  have hkk:k*k≤1000*1000:=Nat.mul_le_mul (by omega) (by omega)
  unfold zr
  dsimp only
  rw[if_pos (by omega),if_pos ⟨by omega,by omega⟩,qxK,if_pos (by omega),hset,qaD _ l hl hf _ _ k hk _ (by omega),qxH,Qe hk (by omega),qdo]) (e:=((js l l.length).map arr,Zg (List.range l.length))) (by
  unfold zr
  dsimp only
  rw[if_neg (by omega),Nat.sub_self,List.replicate_zero,qy2])
 rw[qyz,List.range_zero] at this
 exact this
theorem qaZ (J:List (Nat×Nat)) (hJ:J.length≤1000000) (l:List qa) (t50 t51:Int) (g:List Nat) (hg:∀j∈J,j.1<g.length∧j.2<g.length):qz (zw (J.map arr) l t50 t51 (((J.map arr).length:Nat):Int)) (Zg g,(0:Int))=some (Zg (Z5 J g)):=by
 have hlen:∀i,(Z5 (J.take i) g).length=g.length:=fun i=>q1e _ _
 have:=q2n (step:=zw (J.map arr) l t50 t51 (((J.map arr).length:Nat):Int)) (fun i=>(Zg (Z5 (J.take i) g),(i:Int))) 0 J.length (qy7 _) (fun i _ hi=>by
  have hj:J[i]?=some J[i]:=qxJ hi
  have hjm:=hg _ (qyy hi)
  have ha:(J.map arr)[i]?=some (arr J[i]):=by rw[qxV,hj];rfl
  have hl2:=hlen i
  have e1:Z5 (J.take (i+1)) g=q1U (Z5 (J.take i) g) J[i]:=by
   unfold Z5
   rw[List.take_add_one,hj,List.foldl_append];rfl
  unfold zw
  dsimp only
  rw[if_pos (by rw[qyp];omega),if_pos ⟨by omega,by rw[qyp];omega⟩,qxK,ha,qxH]
  have a0:(arr J[i]).a0=((J[i].1:Nat):Int):=rfl
  have a1:(arr J[i]).a1=((J[i].2:Nat):Int):=rfl
  rw[a0,a1,Jb,if_pos ⟨by omega,by omega⟩,qxK,q2l (by omega),qxH,if_pos ⟨by omega,by omega⟩,qxK,q2l (by omega),qxH,if_pos ⟨by omega,by omega⟩,if_pos (by omega),if_pos ⟨by omega,by omega⟩,if_pos (by omega),Qe hi hJ,e1]
  have hm:min (((Z5 (J.take i) g).getD J[i].1 0:Nat):Int) (((Z5 (J.take i) g).getD J[i].2 0:Nat):Int)=((min ((Z5 (J.take i) g).getD J[i].1 0) ((Z5 (J.take i) g).getD J[i].2 0):Nat):Int):=by omega
  rw[hm,q6U,q6U];rfl) (e:=Zg (Z5 J g)) (by
  unfold zw
  dsimp only
  rw[if_neg (by rw[qyp];omega),List.take_length])
 exact this
theorem q5a (J:List (Nat×Nat)) (hJ:J.length≤1000000) (l:List qa):∀(m k:Nat) (g:List Nat),m+k=l.length→l.length≤1000→(∀j∈J,j.1<g.length∧j.2<g.length)→qz (zA (J.map arr) l ((l.length:Nat):Int)) (Zg g,(k:Int))=some (Zg (Z0 J m g))
 | 0,k,g,hk,hl,hg=>by
  refine qY ?_
  unfold zA
  dsimp only
  rw[if_neg (by omega)];rfl
 | m+1,k,g,hk,hl,hg=>by
  have e:zA (J.map arr) l ((l.length:Nat):Int) (Zg g,(k:Int))=some (.inl (Zg (Z5 J g),((k+1:Nat):Int))):=by
   unfold zA
   dsimp only
   rw[if_pos (by omega),qaZ J hJ l _ _ g hg,qxH,Qe (n:=l.length) (by omega) (by omega)]
  rw[zZ e]
  exact q5a J hJ l m (k+1) (Z5 J g) (by omega) hl fun j hj=>by rw[q1e];exact hg j hj
def lwF (l:List qa) (k:Nat):Nat:=(Z0 (js l l.length) l.length (List.range l.length)).getD k 0
theorem qa6 (l:List qa) {k:Nat} (hk:k<l.length):Lw (fun i j=>eF l i j=true) k (lwF l k):=
 qa7 (fun i j h=>qgN h) (fun i j h=>q8a h) (fun j hj=>by
  obtain⟨h1,h2,h3⟩:=q8X.1 hj
  exact⟨by omega,h1,h3⟩) (fun i k h=>by
  obtain⟨h1,h2⟩:=qgN h
  by_cases e:i=k
  ·exact .inl e
  ·by_cases hik:i<k
   ·exact .inr (.inl (q8X.2 ⟨h2,hik,h⟩))
   ·exact .inr (.inr (q8X.2 ⟨h1,by show k<i;omega,q8a h⟩))) hk
theorem qn1 (l:List qa) {k:Nat} (hk:k<l.length):lwF l k<l.length:=(qa6 l hk).1.lt (fun i j h=>qgN h) hk
theorem qpC (l:List qa) {k:Nat} (hk:k<l.length):lwF l k≤k:=(qa6 l hk).2 k (.refl k)
theorem qgz (l:List qa) {k:Nat} (hk:k<l.length):lwF l (lwF l k)=lwF l k:=(qa6 l (qn1 l hk)).uniq ((qa6 l hk).self fun i j h=>q8a h)
theorem qaP (g:List Nat) (hg:g.length≤1000):qz (zb (Zg g) ((g.length:Nat):Int)) ([],(0:Int))=some (List.replicate (rts g.length fun k=>g.getD k 0).length []):=by
 have hML:10000000≤maxLen:=by unfold maxLen;omega
 have hr:∀k,(rts k fun k=>g.getD k 0).length≤k:=fun k=>by unfold rts;exact qyi (List.length_filter_le _ _) (by rw[List.length_range];exact qxX _)
 exact q2n (step:=zb (Zg g) ((g.length:Nat):Int)) (fun k=>(List.replicate (rts k fun k=>g.getD k 0).length ([]:List Int),(k:Int))) 0 g.length (qy7 _) (fun k _ hk=>by
  have h1:=hr k
  unfold zb
  dsimp only
  rw[if_pos (by omega),Jb,if_pos ⟨by omega,by omega⟩,qxK,q2l hk,qxH,Qe hk (by omega),qyo]
  have e:rts (k+1) (fun k=>g.getD k 0)=rts k (fun k=>g.getD k 0)++if g.getD k 0=k then[k] else[]:=by
   unfold rts
   rw[List.range_succ,List.filter_append,List.filter_cons]
   by_cases h:g.getD k 0=k
   ·rw[if_pos (qyH h),if_pos h];rfl
   ·rw[if_neg (by simpa using h),if_neg h];rfl
  rw[e]
  by_cases h:g.getD k 0=k
  ·rw[if_pos (beq_iff_eq.2 (by omega:((g.getD k 0:Nat):Int)=(k:Int))),if_pos ⟨by omega,by omega⟩,if_pos h,qxO,qxZ,List.replicate_succ']
  ·rw[if_neg (fun hh=>h (by have:=beq_iff_eq.1 hh;omega)),if_neg h,qy2]) (by
  unfold zb
  dsimp only
  rw[if_neg (by omega)])
theorem qcg (g:List Nat) (hg:g.length≤1000) (h1:∀k,k<g.length→g.getD k 0≤k) (h2:∀k,k<g.length→g.getD (g.getD k 0) 0=g.getD k 0):qz (zz (Zg g) ((g.length:Nat):Int)) (List.replicate (rts g.length fun k=>g.getD k 0).length [],[],(0:Int))=some ((qgC g.length fun k=>g.getD k 0).map Zg):=by
 have hML:10000000≤maxLen:=by unfold maxLen;omega
 obtain⟨f,hf⟩:∃f:Nat→Nat,f=fun k=>g.getD k 0:=⟨_,rfl⟩
 have hfk:∀k,g.getD k 0=f k:=fun k=>by rw[hf]
 rw[←hf]
 have e0:rows g.length 0 f=List.replicate (rts g.length f).length []:=qd9 _
 have hall:rows g.length g.length f=(qgC g.length f).map Zg:=qfl _
 rw[←hall,←e0]
 have hrl:∀k,(rts k f).length≤k:=fun k=>by unfold rts;exact qyi (List.length_filter_le _ _) (by rw[List.length_range];exact qxX _)
 exact q2n (step:=zz (Zg g) ((g.length:Nat):Int)) (fun k=>(rows g.length k f,ixs k f,(k:Int))) 0 g.length (qy7 _) (fun k _ hk=>by
  have hle:f k≤k:=by rw[←hfk];exact h1 k hk
  have hid:f (f k)=f k:=by have:=h2 k hk;rw[hfk,hfk] at this;exact this
  have hM:Zi 0 (ixs (k+1) f) ((f k:Nat):Int)=(((rts (f k) f).length:Nat):Int):=qjm hid (by omega)
  have hrow:=q8y (n:=g.length) (k:=k) hid (by omega)
  have hlt:=Qb hrow
  have hfl:(((List.range k).filter fun i=>decide (f i=f k)).map fun(i:Nat)=>(i:Int)).length≤k:=by
   rw[qyp]
   exact qyi (List.length_filter_le _ _) (by rw[List.length_range];exact qxX _)
  have hsucc:=qcz (n:=g.length) (k:=k) rfl hid (by omega:f k<g.length)
  have hx:=qfw (f:=f) k
  unfold zz
  dsimp only
  rw[if_pos (by omega),Jb,if_pos ⟨by omega,by omega⟩,qxK,q2l hk,qxH,hfk,Qe hk (by omega)]
  by_cases h:f k=k
  ·rw[if_pos h] at hx
   rw[if_pos (by rw[h];simp),←hx,hM,qxK,hrow,qxH,if_pos ⟨by omega,by omega⟩,qxH,if_pos ⟨by omega,by omega⟩,if_pos ⟨by omega,by omega⟩,if_pos hlt,hsucc]
  ·rw[if_neg h] at hx
   rw[hx] at hM
   rw[if_neg (fun hh=>h (by have:=beq_iff_eq.1 hh;omega)),hM,qxK,hrow,qxH,if_pos ⟨by omega,by omega⟩,qxH,if_pos ⟨by omega,by omega⟩,if_pos ⟨by omega,by omega⟩,if_pos hlt,hsucc,hx]) (by
  unfold zz
  dsimp only
  rw[if_neg (by omega)])
theorem qbc (l:List qa) (hl:l.length≤1000) (hf:∀a∈l,z8 a):Qq l=some ((qgC l.length (lwF l)).map Zg):=by
 obtain⟨g,hg⟩:∃g,g=Z0 (js l l.length) l.length (List.range l.length):=⟨_,rfl⟩
 have hgl:g.length=l.length:=by rw[hg,q1N,List.length_range]
 have hgf:∀k,g.getD k 0=lwF l k:=fun k=>by rw[hg];rfl
 have hsq:l.length*l.length≤1000*1000:=Nat.mul_le_mul hl hl
 have hjl:=qdZ l l.length
 have hr:=q5a (js l l.length) (by omega) l l.length 0 (List.range l.length) (by omega) hl (fun j hj=>by
  obtain⟨h1,h2,-⟩:=q8X.1 hj
  rw[List.length_range];omega)
 have hroots:=qaP g (by omega)
 have hfill:=qcg g (by omega) (fun k hk=>by rw[hgf];exact qpC l (by omega)) (fun k hk=>by rw[hgf,hgf];exact qgz l (by omega))
 unfold Qq
 rw[if_pos ⟨by omega,by omega,by omega⟩,qa8 l hl hf,qxH]
 dsimp only
 change Option.bind (qz _ (Zg (List.range l.length),((0:Nat):Int))) _=_
 rw[hr,←hg,qxH,←hgl,hroots,qxH,Jb,hfill,qxH]
 congr 2
 exact qah fun k _=>hgf k
end
noncomputable section
open Go.RowKit
theorem qc6 (a b c:qa) (s:qe):qk a b c s=q04 s:=rfl
def exO (c:List UInt8) (cr g d:Int) (S:List Int) (bd:Int):qa:=qa.mk (qb.mk 1 (ByteArray.mk (List.toArray c))) cr g d S bd []
def exP:qd:=qd.mk 1 0 0 0 (ByteArray.mk (List.toArray [])) (qg.mk 0 0 0 [] []) 0 0 0 []
def exS:qe:=qe.mk 0 100 50
theorem ql0 (a:qa) (d:Int):qv exP a d=some false:=by
 unfold qv
 rw[if_neg (by decide)]
theorem JT {a:qa} (ha:z8 a):qt a=some ():=by
 have hML:100000≤maxLen:=by unfold maxLen;omega
 have h1:=ha.1;have h2:=ha.2
 unfold qt qM
 rw[if_pos ⟨by omega,by omega⟩,qxH,if_pos ⟨by omega,by omega⟩,qxH]
theorem qaa (a b c:qa) (ha:z8 a) (hb:z8 b) (hc:z8 c):Qh 3 exP exS 100 a b c=some (red (q5c exS) [a,b,c],0):=by
 have hML:100000≤maxLen:=by unfold maxLen;omega
 have hl:=q5X exS 3 3 [a,b,c] (by simp) (by omega) (by simp[ha,hb,hc]) (by simp) (fun j h1 h2=>by simp at h2;omega)
 have hr:=(q6A (cv:=q5c exS) [a,b,c]).length_le
 unfold Qh
 rw[if_pos (by omega),if_pos (by omega),ql0,qxH,if_pos (by decide),JT ha,qxH,if_pos (by omega),if_pos (by omega),if_pos (by omega),ql0,qxH,if_pos (by decide),JT hb,qxH,if_pos (by omega),if_pos (by omega),if_pos (by omega),ql0,qxH,if_pos (by decide),JT hc,qxH,if_pos (by omega),if_neg (by omega),qc6]
 change Option.bind (qz _ ([a,b,c],((3:Nat):Int)-1)) _=_
 rw[hl,qxH,if_neg (by simp at hr;omega)]
theorem qam (a b:qa) (w:List Int) (x1:Int) (x2:ByteArray) (x3 x4 x5 x6:Int) (x7:List Int) (ha:z8 a) (hb:z8 b) (hc:z8 (qa.mk (qb.mk x1 x2) x3 x4 x5 w x6 x7)) :
  Qg 3 exP exS 100 w a b x1 x2 x3 x4 x5 x6 x7=some (.inl (red (q5c exS) [a,b,qa.mk (qb.mk x1 x2) x3 x4 x5 w x6 x7],0,qa.mk (qb.mk x1 x2) x3 x4 x5 w x6 x7)):=by
 have hML:100000≤maxLen:=by unfold maxLen;omega
 obtain⟨c,hce⟩:∃c,c=qa.mk (qb.mk x1 x2) x3 x4 x5 w x6 x7:=⟨_,rfl⟩
 have hl:=q5X exS 3 3 [a,b,c] (by simp) (by omega) (by rw[hce];simp[ha,hb,hc]) (by simp) (fun j h1 h2=>by simp at h2;omega)
 have hr:=(q6A (cv:=q5c exS) [a,b,c]).length_le
 unfold Qg
 rw[if_pos (by omega),if_pos (by omega),ql0,qxH,if_pos (by decide),JT ha,qxH,if_pos (by omega),if_pos (by omega),if_pos (by omega),ql0,qxH,if_pos (by decide),JT hb,qxH,if_pos (by omega),if_pos (by omega),if_pos (by omega),ql0,qxH,if_pos (by decide),JT hc,qxH,if_pos (by omega),if_neg (by omega),qc6,←hce]
 change Option.bind (qz _ ([a,b,c],((3:Nat):Int)-1)) _=_
 rw[hl,qxH,if_neg (by simp at hr;omega)]
theorem qaj (a:List (List Int)) (ha:a.length≤1000000) (hs:∀x∈a,x.length≤1000000):zC a a=some true:=by
 have h:=q2t (step:=zo a a) a (fun _=>true) (Sum.inl ()) (Sum.inr ()) (fun i x hx=>by
  have hi:=Qb hx
  unfold zo
  rw[if_pos (by omega),if_pos ⟨by omega,by omega⟩,qxK,hx,qxH,if_pos ⟨by omega,by omega⟩,qxH,q44 _ _ (hs x (qxI hx)),qxH,qyH rfl,if_neg (by decide),Qe hi ha]
  rfl) (by
  unfold zo
  rw[if_neg (by omega)])
 unfold zC
 rw[if_neg (by simp),h,qxH,if_pos (by simp)]
 rfl
theorem qjg:red (q5c exS) [exO [65,49] 5 60 5 [1] 0,exO [65,49] 5 70 9 [2] 0,exO [66,49] 5 50 0 [3] 0]=[exO [65,49] 5 70 9 [2] 0,exO [66,49] 5 50 0 [3] 0]:=by kernel_rfl
theorem qk7:red (q5c exS) [exO [65,49] 5 60 5 [1] 0,exO [65,49] 5 70 9 [2] 0,exO [66,49] 5 50 0 [2] 1]=[exO [65,49] 5 60 5 [1] 0,exO [65,49] 5 70 9 [2] 0,exO [66,49] 5 50 0 [2] 1]:=by kernel_rfl
theorem qiG:dfs q4G qjF [exO [65,49] 5 60 0 [1] 0,exO [66,49] 10 60 0 [3] 0,exO [65,49] 6 60 0 [2] 0] [] 0=16:=by kernel_rfl
theorem qkv:(qgC 4 (lwF [exO [65,49] 5 60 0 [1] 0,exO [66,49] 10 60 0 [3] 0,exO [65,49] 6 60 0 [2] 0,exO [67,49] 5 60 0 [2] 1])).map Zg=[[0,2,3],[1]]:=by kernel_rfl
theorem q0T (c:List UInt8) (cr g d x:Int) (bd:Int):z8 (exO c cr g d [x] bd):=⟨by show 1≤1000;omega,by show 0≤1000;omega⟩
theorem q8v:Z1=some true:=by
 have h1:=qaa (exO [65,49] 5 60 5 [1] 0) (exO [65,49] 5 70 9 [2] 0) (exO [66,49] 5 50 0 [3] 0) (q0T ..) (q0T ..) (q0T ..)
 have h2:=qam (exO [65,49] 5 60 5 [1] 0) (exO [65,49] 5 70 9 [2] 0) [2] 1 (ByteArray.mk (List.toArray [66,49])) 5 50 0 1 [] (q0T ..) (q0T ..) (q0T [66,49] 5 50 0 2 1)
 have h3:=qjd [exO [65,49] 5 60 0 [1] 0,exO [66,49] 10 60 0 [3] 0,exO [65,49] 6 60 0 [2] 0] (by simp) (by simp[q0T])
 have h4:=qbc [exO [65,49] 5 60 0 [1] 0,exO [66,49] 10 60 0 [3] 0,exO [65,49] 6 60 0 [2] 0,exO [67,49] 5 60 0 [2] 1] (by simp) (by simp[q0T])
 rw[qjg] at h1
 rw[show(qa.mk (qb.mk 1 (ByteArray.mk (List.toArray [66,49]))) 5 50 0 [2] 1 [])=exO [66,49] 5 50 0 [2] 1 from rfl,qk7] at h2
 rw[qiG] at h3
 rw[show[exO [65,49] 5 60 0 [1] 0,exO [66,49] 10 60 0 [3] 0,exO [65,49] 6 60 0 [2] 0,exO [67,49] 5 60 0 [2] 1].length=4 from rfl,qkv] at h4
 unfold exO exP exS at h1 h2
 unfold exO at h3 h4
 have hc:(ByteArray.toList (ByteArray.mk (List.toArray [66,49]))==ByteArray.toList (ByteArray.mk (List.toArray [66,49])))=true:=by simp
 unfold Z1
 rw[h1,qxH,h2,qxH,Sum.elim_inl]
 dsimp only
 rw[if_neg (by decide),if_neg (by decide),if_neg (by decide),if_pos (by decide)]
 simp only[qxR,qy6,qxH]
 rw[if_neg (by decide),if_pos (by decide),hc,if_neg (by decide),if_neg (by decide),h3,qxH]
 dsimp only
 rw[if_pos (by decide),if_pos (by decide),h4,qxH,qaj _ (by simp) (by simp)]
 rfl
end
end Go.Proofs.Ytofbcijbpfjliaa.Vc
