/- Part 5 of a proof. -/
import Derived.Test.YtgejdfnidjnjcaaGreatM4
set_option linter.unusedVariables false
set_option linter.unusedSimpArgs false
set_option linter.defProp false
set_option linter.unusedSectionVars false
set_option linter.unnecessarySimpa false
namespace Go.Proofs.YtgejdfnidjnjcaaGreat.Vc
open Go.RowKit
set_option linter.unusedVariables false
set_option linter.unusedSimpArgs false
set_option maxRecDepth 20000
set_option maxHeartbeats 8000000
set_option linter.defProp false
noncomputable def Q4 (rF:(qb×Int)→Option qb) (w3:List qc) (b0:qb) (b1_Kind:Int) (b1_N:Int) (b1_Min:Int) (b2_Kind:Int) (b2_N:Int) (b2_Min:Int) (t1:Int):(List qb×Int)→Option ((List qb×Int)⊕(List qb))|(w4,t8)=>if t8<((b0.L.length:Nat):Int) then if t8<3 then if 0<t1 then if 0≤t8∧t8<((b0.L.length:Nat):Int) then Option.bind b0.L[Int.toNat t8]? fun(a2:qb)=>Option.bind (rF (a2,w64 (t1-1))) fun(a3:qb)=>if w4.length+1≤Go.maxLen∧(w4.length+1)*72≤140737488355328 then some (Sum.inl (w4++[a3],w64 (t8+1))) else none else none else some (Sum.inr w4) else some (Sum.inr w4) else some (Sum.inr w4)
theorem q7r (rE:Orc) (rF:(qb×Int)→Option qb) (hF:∀y,rE (.fn 9) 0 (zi y).1 (zi y).2=(rF y).bind fun e=>some (Qo e)) (hM:∀g k a G,g≠9→rE (.fn g) k a G=ev g k a G) (hR:∀g asg bd k a G,rE (.rd g asg bd) k a G=evr g asg bd k a G):∀(w3:List qc) (w4:List qb) (b0_Kind b0_N b0_Min:Int) (b0_Set:List qc) (b0_L:List qb) (b1_Kind b1_N b1_Min b2_Kind b2_N b2_Min t1 t8:Int) (w3_len w4_len:Nat),w3_len=w3.length→w4_len=w4.length→XL2 rE 9 0 9 ⟨[(1,rI t1),(2,rP 0),(4,rP 1),(5,rP 2),(8,rI t8)],[(0,B.blk 30 [dI b0_Kind,dI b0_N,dI b0_Min,dL 2 qe b0_Set,dL 5 qg b0_L]),(1,B.blk 30 [dI b1_Kind,dI b1_N,dI b1_Min,C.nils,C.nils]),(2,B.blk 30 [dI b2_Kind,dI b2_N,dI b2_Min,dO 3 2 w3_len,dO 4 5 w4_len]),(3,bR 51 2 qe w3),(4,bR 30 5 qg w4)],5,75⟩=(qq (Q4 rF w3 (qb.mk b0_Kind b0_N b0_Min b0_Set b0_L) b1_Kind b1_N b1_Min b2_Kind b2_N b2_Min t1) (w4,t8)).bind (fun(e:List qb)=>some (Go.Exit.exit 2,⟨[(4,rP 0),(5,rP 1)],[(0,B.blk 30 [dI b1_Kind,dI b1_N,dI b1_Min,C.nils,C.nils]),(1,B.blk 30 [dI b2_Kind,dI b2_N,dI b2_Min,dO 2 2 w3.length,dO 3 5 e.length]),(2,bR 51 2 qe w3),(3,bR 30 5 qg e)],4,75⟩)) :=
 by
 intro w3 w4 b0_Kind b0_N b0_Min b0_Set b0_L b1_Kind b1_N b1_Min b2_Kind b2_N b2_Min t1 t8 w3_len w4_len h0 h1
 subst h0 h1
 revert t8;revert w4;exact q3v qwp qyN (fun e=>by exact⟨_,rfl,fun h=>by cases h⟩) fun w4 t8=>by
  have hF':∀(x0_Kind x0_N x0_Min:Int) (x0_Set:List qc) (x0_L:List qb) (x1:Int),rE (.fn 9) 0 [R.agg [dI x0_Kind,dI x0_N,dI x0_Min,dL 2 qe x0_Set,dL 5 qg x0_L],rI x1] []=(rF ((qb.mk x0_Kind x0_N x0_Min x0_Set x0_L),x1)).bind (fun e=>some (R.agg [dI e.Kind,dI e.N,dI e.Min,dL 2 qe e.Set,dL 5 qg e.L],[])):=fun x0_Kind x0_N x0_Min x0_Set x0_L x1=>hF ((qb.mk x0_Kind x0_N x0_Min x0_Set x0_L),x1)
  have:=cx9;have:=@qof.eq_1;have:=@Q4.eq_1;exact gA
theorem q52:∀(rE:Orc) (rF:(qb×Int)→Option qb) (hF:∀y,rE (.fn 9) 0 (zi y).1 (zi y).2=(rF y).bind fun e=>some (Qo e)) (hM:∀g k a G,g≠9→rE (.fn g) k a G=ev g k a G) (hR:∀g asg bd k a G,rE (.rd g asg bd) k a G=evr g asg bd k a G),∀  (w3:List qc) (b0_Kind b0_N b0_Min:Int) (b0_Set:List qc) (b0_L:List qb) (b1_Kind b1_N b1_Min b2_Kind b2_N b2_Min t1 t8:Int) (w3_len:Nat),w3_len=w3.length→XL2 rE 9 0 9 ⟨[(1,rI t1),(2,rP 0),(4,rP 1),(5,rP 2),(8,rI t8)],[(0,B.blk 30 [dI b0_Kind,dI b0_N,dI b0_Min,dL 2 qe b0_Set,dL 5 qg b0_L]),(1,B.blk 30 [dI b1_Kind,dI b1_N,dI b1_Min,C.nils,C.nils]),(2,B.blk 30 [dI b2_Kind,dI b2_N,dI b2_Min,dO 3 2 w3_len,dO 4 5 0]),(3,bR 51 2 qe w3),(4,B.row 30 5 [])],5,75⟩=(qq (Q4 rF w3 (qb.mk b0_Kind b0_N b0_Min b0_Set b0_L) b1_Kind b1_N b1_Min b2_Kind b2_N b2_Min t1) ([],t8)).bind (fun(e:List qb)=>some (Go.Exit.exit 2,⟨[(4,rP 0),(5,rP 1)],[(0,B.blk 30 [dI b1_Kind,dI b1_N,dI b1_Min,C.nils,C.nils]),(1,B.blk 30 [dI b2_Kind,dI b2_N,dI b2_Min,dO 2 2 w3.length,dO 3 5 e.length]),(2,bR 51 2 qe w3),(3,bR 30 5 qg e)],4,75⟩)):=by
 intro rE rF hF hM hR w3 b0_Kind b0_N b0_Min b0_Set b0_L b1_Kind b1_N b1_Min b2_Kind b2_N b2_Min t1 t8 w3_len h0;subst h0;have h:=q7r rE rF hF hM hR w3 [] ((qb.mk b0_Kind b0_N b0_Min b0_Set b0_L)).Kind ((qb.mk b0_Kind b0_N b0_Min b0_Set b0_L)).N ((qb.mk b0_Kind b0_N b0_Min b0_Set b0_L)).Min ((qb.mk b0_Kind b0_N b0_Min b0_Set b0_L)).Set ((qb.mk b0_Kind b0_N b0_Min b0_Set b0_L)).L b1_Kind b1_N b1_Min b2_Kind b2_N b2_Min t1 t8 _ _ rfl rfl
 first
  | exact h
  | (simp only[rL,dL,bR,bZ,Nat.reduceAdd] at h;exact h)
noncomputable def J9 (rF:(qb×Int)→Option qb):(qb×Int)→Option qb|(x0,x1)=>Option.bind (qq (zS rF x0 0 0 0 x0.Kind x0.N x0.Min x1) ([],0)) fun(a2:List qc)=>Option.bind (qq (Q4 rF a2 x0 0 0 0 x0.Kind x0.N x0.Min x1) ([],0)) fun(a3:List qb)=>some (qb.mk x0.Kind x0.N x0.Min a2 a3)
theorem q56:q1T 9 0 zi Qo J9:=by
 intro rE rF hF hM hR x
 obtain⟨x0,x1⟩:=x
 show q3L rE 9 0 [R.agg [dI x0.Kind,dI x0.N,dI x0.Min,dL 2 qe x0.Set,dL 5 qg x0.L],rI x1] []=_
 have hF':∀(x0_Kind x0_N x0_Min:Int) (x0_Set:List qc) (x0_L:List qb) (x1:Int),rE (.fn 9) 0 [R.agg [dI x0_Kind,dI x0_N,dI x0_Min,dL 2 qe x0_Set,dL 5 qg x0_L],rI x1] []=(rF ((qb.mk x0_Kind x0_N x0_Min x0_Set x0_L),x1)).bind (fun e=>some (R.agg [dI e.Kind,dI e.N,dI e.Min,dL 2 qe e.Set,dL 5 qg e.L],[])):=fun x0_Kind x0_N x0_Min x0_Set x0_L x1=>hF ((qb.mk x0_Kind x0_N x0_Min x0_Set x0_L),x1)
 rw[q04 bd9 lo9]
 have:=cx9;have:=q3E rE rF hF hM hR;have:=q52 rE rF hF hM hR;have:=@J9.eq_1;have:=@Qo.eq_1;exact gA
theorem q1Z:∀x y,zi x=zi y→x=y:=by
 rintro⟨⟨a0_0,a0_1,a0_2,a0_3,a0_4⟩,a1⟩ ⟨⟨b0_0,b0_1,b0_2,b0_3,b0_4⟩,b1⟩ h
 simp only[zi,Prod.mk.injEq,List.cons.injEq,R.c.injEq,R.agg.injEq,R.tup.injEq,C.d.injEq,C.own.injEq,C.ptr.injEq,C.eptr.injEq,D.int.injEq,D.bool.injEq,D.str.injEq,D.sl.injEq,B.blk.injEq,B.row.injEq,QB,ZV,QW,Zc,Zy,Zw,Zr,Jq,Zx,Jt,Jz,QA,true_and,and_true,List.nil_append] at h
 simp only[h]
theorem q7o:∀x y,Qo x=Qo y→x=y:=by
 rintro⟨a_0,a_1,a_2,a_3,a_4⟩ ⟨b_0,b_1,b_2,b_3,b_4⟩ h
 simp only[Qo,Prod.mk.injEq,List.cons.injEq,R.c.injEq,R.agg.injEq,R.tup.injEq,C.d.injEq,C.own.injEq,C.ptr.injEq,C.eptr.injEq,D.int.injEq,D.bool.injEq,D.str.injEq,D.sl.injEq,B.blk.injEq,B.row.injEq,QB,ZV,QW,Zc,Zy,Zw,Zr,Jq,Zx,Jt,Jz,QA,true_and,and_true,List.nil_append] at h
 simp only[h]
noncomputable def QL:(qb×Int)→Option qb:=q3b 9 0 zi Qo
theorem q5d (x:(qb×Int)):QL x=J9 QL x:=q4x pw9.2.2.2 q1Z q7o q56 x
theorem q90 (x0:qb) (x1:Int):ev 9 0 [R.agg [dI x0.Kind,dI x0.N,dI x0.Min,dL 2 qe x0.Set,dL 5 qg x0.L],rI x1] []=(QL (x0,x1)).bind (fun(e:qb)=>some (R.agg [dI e.Kind,dI e.N,dI e.Min,dL 2 qe e.Set,dL 5 qg e.L],[])):=(q2M pw9.2.2.2 q1Z q56 (x0,x1))
theorem qa4:∀(x0_Kind x0_N x0_Min:Int) (x0_Set:List qc) (x0_L:List qb) (x1:Int),ev 9 0 [R.agg [dI x0_Kind,dI x0_N,dI x0_Min,dL 2 qe x0_Set,dL 5 qg x0_L],rI x1] []=(QL ((qb.mk x0_Kind x0_N x0_Min x0_Set x0_L),x1)).bind (fun(e:qb)=>some (R.agg [dI e.Kind,dI e.N,dI e.Min,dL 2 qe e.Set,dL 5 qg e.L],[])) :=
 fun x0_Kind x0_N x0_Min x0_Set x0_L x1=>q90 (qb.mk x0_Kind x0_N x0_Min x0_Set x0_L) x1
theorem qx9:okL 19 qcl:=qu (qh qsl) (by kernel_rfl) (by kernel_rfl)
def qy0:=JA_ @qcl.eq_1 (JA_ @Tryz.f19.eq_1 @qsl)
theorem qty:lbO 19 7=qih:=zf (qh qsl) rfl
theorem qrn:okL 19 qih:=qH qx9 (List.mem_of_getElem? (i:=0) (by kernel_rfl))
theorem qpm:lbO 19 12=qdG:=zf (qh qsl) rfl
theorem qqb:okL 19 qdG:=qH qx9 (List.mem_of_getElem? (i:=1) (by kernel_rfl))
theorem qBy:okL 13 qh3:=qu (qh qyn) (by kernel_rfl) (by kernel_rfl)
def qDZ:=JA_ @qh3.eq_1 (JA_ @Tryz.f13.eq_1 @qyn)
theorem qnt:okL 35 q7J:=qu (qh qkY) (by kernel_rfl) (by kernel_rfl)
def qfZ:=JA_ @q7J.eq_1 (JA_ @Tryz.f35.eq_1 @qkY)
theorem qmo:lbO 35 5=qeq:=zf (qh qkY) rfl
theorem qmJ:okL 35 qeq:=qH qnt (List.mem_of_getElem? (i:=0) (by kernel_rfl))
theorem qmT:lbO 35 9=qem:=zf (qh qkY) rfl
theorem qn0:okL 35 qem:=qH qnt (List.mem_of_getElem? (i:=1) (by kernel_rfl))
theorem qhr:lbO 35 16=qbp:=zf (qh qkY) rfl
theorem qjE:okL 35 qbp:=qH qnt (List.mem_of_getElem? (i:=2) (by kernel_rfl))
theorem qiS:lbO 35 22=qaE:=zf (qh qkY) rfl
theorem qhF:okL 35 qaE:=qH qnt (List.mem_of_getElem? (i:=3) (by kernel_rfl))
theorem qiZ:lbO 35 32=qbl:=zf (qh qkY) rfl
theorem qhE:okL 35 qbl:=qH qnt (List.mem_of_getElem? (i:=4) (by kernel_rfl))
theorem qvr:okL 65 qc9:=qu (qh qqy) (by kernel_rfl) (by kernel_rfl)
def qqw:=JA_ @qc9.eq_1 (JA_ @Tryz.f65.eq_1 @qqy)
theorem qmM:lbO 65 3=qez:=zf (qh qqy) rfl
theorem qmS:okL 65 qez:=qH qvr (List.mem_of_getElem? (i:=0) (by kernel_rfl))
theorem qmR:lbO 65 9=qeP:=zf (qh qqy) rfl
theorem qmn:okL 65 qeP:=qH qvr (List.mem_of_getElem? (i:=1) (by kernel_rfl))
theorem qyz:okL 87 qe5:=qu (qh qsV) (by kernel_rfl) (by kernel_rfl)
def qw5:=JA_ @qe5.eq_1 (JA_ @Tryz.f87.eq_1 @qsV)
theorem qmD:lbO 87 2=qee:=zf (qh qsV) rfl
theorem qmq:okL 87 qee:=qH qyz (List.mem_of_getElem? (i:=0) (by kernel_rfl))
noncomputable def QE (p_S_Worst:Int) (p_S_Best:Int) (p_S_Pass:Int) (p_L:List qa) (p_Leaf:Int) (set0:Int) (leaf:Int) (k:Int):Unit→Option (Unit⊕Unit)|()=>if k<0 then none else some (Sum.inr ())
theorem q2f:∀(p_S_Worst p_S_Best p_S_Pass:Int) (p_L:List qa) (p_Leaf set0 leaf k:Int),XL2 evo 87 1 2 ⟨[(0,rP 0),(1,rI set0),(2,rI leaf),(7,rI k)],[(0,B.blk 81 [dI p_S_Worst,dI p_S_Best,dI p_S_Pass,dL 8 qd p_L,C.nils,dI p_Leaf])],1,32⟩=(qq (QE p_S_Worst p_S_Best p_S_Pass p_L p_Leaf set0 leaf k) ()).bind (fun(e:Unit)=>some (Go.Exit.exit 0,⟨[(6,R.any)],[(0,B.blk 81 [dI p_S_Worst,dI p_S_Best,dI p_S_Pass,dL 8 qd p_L,C.nils,dI p_Leaf])],1,32⟩)) :=
 fun p_S_Worst p_S_Best p_S_Pass p_L p_Leaf set0 leaf k=>by
  have h:=q1A (E:=evo) (f:=87) (k:=1) (st:=fun x:Unit=>(⟨[(0,rP 0),(1,rI set0),(2,rI leaf),(7,rI k)],[(0,B.blk 81 [dI p_S_Worst,dI p_S_Best,dI p_S_Pass,dL 8 qd p_L,C.nils,dI p_Leaf])],1,32⟩:S)) (ex:=fun(e:Unit)=>(Go.Exit.exit 0,⟨[(6,R.any)],[(0,B.blk 81 [dI p_S_Worst,dI p_S_Best,dI p_S_Pass,dL 8 qd p_L,C.nils,dI p_Leaf])],1,32⟩)) (step:=(QE p_S_Worst p_S_Best p_S_Pass p_L p_Leaf set0 leaf k)) qmD qmq (fun e h=>by cases h) (fun x=>by
   have:=qw5;have:=@qee.eq_1;have:=@QE.eq_1;exact gA) ()
  exact h
noncomputable def Zt (set0:Int) (leaf:Int) (p_S_Worst:Int) (p_S_Best:Int) (p_S_Pass:Int) (p_L:List qa) (p_Leaf:Int):Option Unit:=Option.bind (qq (QE p_S_Worst p_S_Best p_S_Pass p_L p_Leaf set0 leaf 0) Unit.unit) fun(a:Unit)=>some ()
theorem q3x:∀(set0 leaf p_S_Worst p_S_Best p_S_Pass:Int) (p_L:List qa) (p_Leaf:Int),ev 87 1 [rP 0,rI set0,rI leaf] [(0,B.blk 81 [dI p_S_Worst,dI p_S_Best,dI p_S_Pass,dL 8 qd p_L,C.nils,dI p_Leaf])]=(Zt set0 leaf p_S_Worst p_S_Best p_S_Pass p_L p_Leaf).bind (fun(e:Unit)=>some (rB Bool.true,[(0,B.blk 81 [dI p_S_Worst,dI p_S_Best,dI p_S_Pass,dL 8 qd p_L,C.nils,dI p_Leaf])])) :=
 fun set0 leaf p_S_Worst p_S_Best p_S_Pass p_L p_Leaf=>by
  rw[qt qsV qxL.2.2.2 qyz]
  have:=qw5;have:=@q2f;have:=@Zt.eq_1;exact gA
theorem qB7:okL 16 qeA:=qu (qh qvT) (by kernel_rfl) (by kernel_rfl)
def qAf:=JA_ @qeA.eq_1 (JA_ @Tryz.f16.eq_1 @qvT)
theorem quA:lbO 16 3=qiE:=zf (qh qvT) rfl
theorem qqS:okL 16 qiE:=qH qB7 (List.mem_of_getElem? (i:=0) (by kernel_rfl))
noncomputable def ZQ (n:qb) (s:qf) (a:qa):(Bool×Int)→Option ((Bool×Int)⊕Bool)|(in0,k)=>if k<((n.Set.length:Nat):Int) then if in0=Bool.true then some (Sum.inl (Bool.true,w64 (k+1))) else if 0≤k∧k<((n.Set.length:Nat):Int) then Option.bind n.Set[Int.toNat k]? fun(a2:qc)=>some (Sum.inl (a2.School==a.Course.School&&ByteArray.toList a2.Code==ByteArray.toList a.Course.Code,w64 (k+1))) else none else some (Sum.inr in0)
theorem q6z:∀(n_Kind n_N n_Min:Int) (n_Set:List qc) (n_L:List qb) (s_Worst s_Best s_Pass a_Course_School:Int) (a_Course_Code:ByteArray) (a_Credits a_Grade a_Day:Int) (a_Sources:List Int) (a_Bundle:Int) (a_Path:List Int) (in0:Bool) (k:Int),XL2 evo 16 0 3 ⟨[(3,rP 0),(4,rP 1),(5,rP 2),(7,rB in0),(8,rI k)],[(0,B.blk 30 [dI n_Kind,dI n_N,dI n_Min,dL 2 qe n_Set,dL 5 qg n_L]),(1,B.blk 32 [dI s_Worst,dI s_Best,dI s_Pass]),(2,B.blk 53 [dI a_Course_School,dS a_Course_Code,dI a_Credits,dI a_Grade,dI a_Day,dL 1 eI a_Sources,dI a_Bundle,dL 1 eI a_Path])],3,48⟩=(qq (ZQ (qb.mk n_Kind n_N n_Min n_Set n_L) (qf.mk s_Worst s_Best s_Pass) (qa.mk (qc.mk a_Course_School a_Course_Code) a_Credits a_Grade a_Day a_Sources a_Bundle a_Path)) (in0,k)).bind (fun(e:Bool)=>some (Go.Exit.exit 0,⟨[(3,rP 0),(4,rP 1),(5,rP 2),(7,rB e)],[(0,B.blk 30 [dI n_Kind,dI n_N,dI n_Min,dL 2 qe n_Set,dL 5 qg n_L]),(1,B.blk 32 [dI s_Worst,dI s_Best,dI s_Pass]),(2,B.blk 53 [dI a_Course_School,dS a_Course_Code,dI a_Credits,dI a_Grade,dI a_Day,dL 1 eI a_Sources,dI a_Bundle,dL 1 eI a_Path])],3,48⟩)) :=
 fun n_Kind n_N n_Min n_Set n_L s_Worst s_Best s_Pass a_Course_School a_Course_Code a_Credits a_Grade a_Day a_Sources a_Bundle a_Path in0 k=>by
  revert k;revert in0;exact q3v quA qqS (fun e=>by exact⟨_,rfl,fun h=>by cases h⟩) fun in0 k=>by
   have:=qAf;have:=@qiE.eq_1;have:=@ZQ.eq_1;exact gA
theorem qDe:okL 39 qgl:=qu (qh qwV) (by kernel_rfl) (by kernel_rfl)
def qC8:=JA_ @qgl.eq_1 (JA_ @Tryz.f39.eq_1 @qwV)
theorem qD2:okL 69 qis:=qu (qh qwZ) (by kernel_rfl) (by kernel_rfl)
def qBG:=JA_ @qis.eq_1 (JA_ @Tryz.f69.eq_1 @qwZ)
theorem qBH:okL 90 qi2:=qu (qh qxD) (by kernel_rfl) (by kernel_rfl)
def qCs:=JA_ @qi2.eq_1 (JA_ @Tryz.f90.eq_1 @qxD)
theorem qyi:okL 101 qcD:=qu (qh qnv) (by kernel_rfl) (by kernel_rfl)
def qyY:=JA_ @qcD.eq_1 (JA_ @Tryz.f101.eq_1 @qnv)
noncomputable def q29 (n:Int) (most:Int):Option Bool:=if w64 (0-most)≤n then some (decide (n≤most)) else some Bool.false
noncomputable def QP (n:Int) (most:Int):Bool:=if w64 (0-most)≤n then decide (n≤most) else Bool.false
theorem q80 (n most:Int):q29 n most=some (QP n most):=by
 unfold q29 QP
 simp only[zG]
theorem q8Z:∀(n most:Int),ev 101 0 [rI n,rI most] []=some (rB (QP n most),[]) :=
 fun n most=>by
  have h:ev 101 0 [rI n,rI most] []=(q29 n most).bind (fun(e:Bool)=>some (rB e,[])):=by
   rw[qt qnv qto.2.2.2 qyi]
   have:=qyY;have:=@q29.eq_1;exact gA
  rw[q80] at h
  exact h
noncomputable def q1g (s:qf):Option Int:=if(min s.Worst s.Best==max s.Worst s.Best)=Bool.true then some 10 else if(!(QP (min s.Worst s.Best) 1000))=Bool.true then some 10 else if(!(QP (max s.Worst s.Best) 1000))=Bool.true then some 10 else if s.Pass<min s.Worst s.Best then some 10 else if max s.Worst s.Best<s.Pass then some 10 else some 0
noncomputable def Zp (s:qf):Int:=if(min s.Worst s.Best==max s.Worst s.Best)=Bool.true then 10 else if(!(QP (min s.Worst s.Best) 1000))=Bool.true then 10 else if(!(QP (max s.Worst s.Best) 1000))=Bool.true then 10 else if s.Pass<min s.Worst s.Best then 10 else if max s.Worst s.Best<s.Pass then 10 else 0
theorem q6Y (s:qf):q1g s=some (Zp s):=by
 unfold q1g Zp
 simp only[zG]
theorem q8h:∀(s_Worst s_Best s_Pass:Int),ev 90 0 [R.agg [dI s_Worst,dI s_Best,dI s_Pass]] []=some (rI (Zp (qf.mk s_Worst s_Best s_Pass)),[]) :=
 fun s_Worst s_Best s_Pass=>by
  have h:ev 90 0 [R.agg [dI s_Worst,dI s_Best,dI s_Pass]] []=(q1g (qf.mk s_Worst s_Best s_Pass)).bind (fun(e:Int)=>some (rI e,[])):=by
   rw[qt qxD qzX.2.2.2 qBH]
   have:=qCs;have:=@q8Z;have:=@q1g.eq_1;exact gA
  rw[q6Y] at h
  exact h
noncomputable def q1m (s:qf) (g:Int):Option Bool:=if(Zp s==0)=Bool.true then if min s.Worst s.Best≤g then some (decide (g≤max s.Worst s.Best)) else some Bool.false else some Bool.false
noncomputable def ZP (s:qf) (g:Int):Bool:=if(Zp s==0)=Bool.true then if min s.Worst s.Best≤g then decide (g≤max s.Worst s.Best) else Bool.false else Bool.false
theorem q72 (s:qf) (g:Int):q1m s g=some (ZP s g):=by
 unfold q1m ZP
 simp only[zG]
theorem q7U:∀(s_Worst s_Best s_Pass g:Int),ev 69 0 [R.agg [dI s_Worst,dI s_Best,dI s_Pass],rI g] []=some (rB (ZP (qf.mk s_Worst s_Best s_Pass) g),[]) :=
 fun s_Worst s_Best s_Pass g=>by
  have h:ev 69 0 [R.agg [dI s_Worst,dI s_Best,dI s_Pass],rI g] []=(q1m (qf.mk s_Worst s_Best s_Pass) g).bind (fun(e:Bool)=>some (rB e,[])):=by
   rw[qt qwZ qAb.2.2.2 qD2]
   have:=qBG;have:=@q8h;have:=@q1m.eq_1;exact gA
  rw[q72] at h
  exact h
noncomputable def q0v (s:qf) (g:Int) (least:Int):Option Bool:=if(!(ZP s g))=Bool.true then some Bool.false else if s.Worst<s.Best then some (decide (least≤g)) else some (decide (g≤least))
noncomputable def QM (s:qf) (g:Int) (least:Int):Bool:=if(!(ZP s g))=Bool.true then Bool.false else if s.Worst<s.Best then decide (least≤g) else decide (g≤least)
theorem q5z (s:qf) (g least:Int):q0v s g least=some (QM s g least):=by
 unfold q0v QM
 simp only[zG]
theorem q6E:∀(s_Worst s_Best s_Pass g least:Int),ev 39 0 [R.agg [dI s_Worst,dI s_Best,dI s_Pass],rI g,rI least] []=some (rB (QM (qf.mk s_Worst s_Best s_Pass) g least),[]) :=
 fun s_Worst s_Best s_Pass g least=>by
  have h:ev 39 0 [R.agg [dI s_Worst,dI s_Best,dI s_Pass],rI g,rI least] []=(q0v (qf.mk s_Worst s_Best s_Pass) g least).bind (fun(e:Bool)=>some (rB e,[])):=by
   rw[qt qwV qzi.2.2.2 qDe]
   have:=qC8;have:=@q7U;have:=@q0v.eq_1;exact gA
  rw[q5z] at h
  exact h
noncomputable def q0h (n:qb) (s:qf) (a:qa):Option Bool:=Option.bind (qq (ZQ n s a) (Bool.false,0)) fun(a2:Bool)=>if(n.Kind==1)=Bool.true then if a2=Bool.true then some (QM s a.Grade n.Min) else some Bool.false else if(n.Kind==2)=Bool.true then if a2=Bool.true then some (QM s a.Grade n.Min) else some Bool.false else some Bool.false
theorem q4e:∀(n_Kind n_N n_Min:Int) (n_Set:List qc) (n_L:List qb) (s_Worst s_Best s_Pass a_Course_School:Int) (a_Course_Code:ByteArray) (a_Credits a_Grade a_Day:Int) (a_Sources:List Int) (a_Bundle:Int) (a_Path:List Int),ev 16 0 [R.agg [dI n_Kind,dI n_N,dI n_Min,dL 2 qe n_Set,dL 5 qg n_L],R.agg [dI s_Worst,dI s_Best,dI s_Pass],R.agg [dI a_Course_School,dS a_Course_Code,dI a_Credits,dI a_Grade,dI a_Day,dL 1 eI a_Sources,dI a_Bundle,dL 1 eI a_Path]] []=(q0h (qb.mk n_Kind n_N n_Min n_Set n_L) (qf.mk s_Worst s_Best s_Pass) (qa.mk (qc.mk a_Course_School a_Course_Code) a_Credits a_Grade a_Day a_Sources a_Bundle a_Path)).bind (fun(e:Bool)=>some (rB e,[])) :=
 fun n_Kind n_N n_Min n_Set n_L s_Worst s_Best s_Pass a_Course_School a_Course_Code a_Credits a_Grade a_Day a_Sources a_Bundle a_Path=>by
  rw[qt qvT qAm.2.2.2 qB7]
  have:=qAf;have:=@q6z;have:=@q6E;have:=@q0h.eq_1;exact gA
noncomputable def qC (w2:List Bool) (b0_S_Worst:Int) (b0_S_Best:Int) (b0_S_Pass:Int) (b0_L:List qa) (b0_Leaf:Int) (b1:qb) (t6:Int):(Int×Int×Bool×Int)→Option ((Int×Int×Bool×Int)⊕(Int×Int×Bool))|(t7,t8,t9,t10)=>if t10<((b0_L.length:Nat):Int) then if t9=Bool.true then if 0≤t10 then if(QT Go.BinOp.and Go.IntKind.i64 (Int.fdiv t6 (2 ^ min (Int.toNat t10) (Go.IntKind.bits Go.IntKind.i64))) 1==1)=Bool.true then if 0≤t10∧t10<((b0_L.length:Nat):Int) then Option.bind b0_L[Int.toNat t10]? fun(a:qa)=>if 0≤t10∧t10<((b0_L.length:Nat):Int) then Option.bind b0_L[Int.toNat t10]? fun(a2:qa)=>Option.bind (q0h b1 (qf.mk b0_S_Worst b0_S_Best b0_S_Pass) a2) fun(a3:Bool)=>some (Sum.inl (w64 (t7+1),w64 (t8+a.Credits),a3,w64 (t10+1))) else none else none else some (Sum.inl (t7,t8,t9,w64 (t10+1))) else none else some (Sum.inr (t7,t8,t9)) else some (Sum.inr (t7,t8,t9))
theorem q2p:∀(w2:List Bool) (b0_S_Worst b0_S_Best b0_S_Pass:Int) (b0_L:List qa) (b0_Leaf b1_Kind b1_N b1_Min:Int) (b1_Set:List qc) (b1_L:List qb) (t6 t7 t8:Int) (t9:Bool) (t10:Int) (w2_len:Nat),w2_len=w2.length→XL2 evo 65 1 9 ⟨[(0,rP 0),(3,rP 1),(5,rO 2 1 w2_len),(6,rI t6),(7,rI t7),(8,rI t8),(9,rB t9),(10,rI t10)],[(0,B.blk 81 [dI b0_S_Worst,dI b0_S_Best,dI b0_S_Pass,dL 8 qd b0_L,C.nils,dI b0_Leaf]),(1,B.blk 30 [dI b1_Kind,dI b1_N,dI b1_Min,dL 2 qe b1_Set,dL 5 qg b1_L]),(2,bR 4 1 eB w2)],3,102⟩=(qq (qC w2 b0_S_Worst b0_S_Best b0_S_Pass b0_L b0_Leaf (qb.mk b1_Kind b1_N b1_Min b1_Set b1_L) t6) (t7,t8,t9,t10)).bind (fun(e:Int×Int×Bool)=>some (Go.Exit.exit 2,⟨[(0,rP 0),(3,rP 1),(5,rO 2 1 w2.length),(6,rI t6),(7,rI e.1),(8,rI e.2.1),(9,rB e.2.2)],[(0,B.blk 81 [dI b0_S_Worst,dI b0_S_Best,dI b0_S_Pass,dL 8 qd b0_L,C.nils,dI b0_Leaf]),(1,B.blk 30 [dI b1_Kind,dI b1_N,dI b1_Min,dL 2 qe b1_Set,dL 5 qg b1_L]),(2,bR 4 1 eB w2)],3,102⟩)) :=
 by
 intro w2 b0_S_Worst b0_S_Best b0_S_Pass b0_L b0_Leaf b1_Kind b1_N b1_Min b1_Set b1_L t6 t7 t8 t9 t10 w2_len h0
 subst h0
 revert t10;revert t9;revert t8;revert t7;exact qvx qmR qmn (fun e=>by exact⟨_,rfl,fun h=>by cases h⟩) fun t7 t8 t9 t10=>by
  have:=qqw;have:=@qeP.eq_1;have:=@q4e;have:=@qC.eq_1;exact gA
noncomputable def zA (b0_S_Worst:Int) (b0_S_Best:Int) (b0_S_Pass:Int) (b0_L:List qa) (b0_Leaf:Int) (b1:qb):(List Bool×Int)→Option ((List Bool×Int)⊕(List Bool))|(w2,t6)=>if t6<((w2.length:Nat):Int) then Option.bind (Zt t6 b0_Leaf b0_S_Worst b0_S_Best b0_S_Pass b0_L b0_Leaf) fun(a:Unit)=>Option.bind (qq (qC w2 b0_S_Worst b0_S_Best b0_S_Pass b0_L b0_Leaf b1 t6) (0,(0,(Bool.true,0)))) fun(a2:Prod Int (Prod Int Bool))=>if(b1.Kind==1)=Bool.true then if a2.2.2=Bool.true then if 0≤t6∧t6<((w2.length:Nat):Int) then if Int.toNat t6+1≤w2.length then some (Sum.inl (List.set w2 (Int.toNat t6) (a2.1==1),w64 (t6+1))) else none else none else if 0≤t6∧t6<((w2.length:Nat):Int) then if Int.toNat t6+1≤w2.length then some (Sum.inl (List.set w2 (Int.toNat t6) Bool.false,w64 (t6+1))) else none else none else if a2.2.2=Bool.true then if 0≤t6∧t6<((w2.length:Nat):Int) then if Int.toNat t6+1≤w2.length then some (Sum.inl (List.set w2 (Int.toNat t6) (decide (b1.N≤a2.2.1)),w64 (t6+1))) else none else none else if 0≤t6∧t6<((w2.length:Nat):Int) then if Int.toNat t6+1≤w2.length then some (Sum.inl (List.set w2 (Int.toNat t6) Bool.false,w64 (t6+1))) else none else none else some (Sum.inr w2)
theorem q2b:∀(w2:List Bool) (b0_S_Worst b0_S_Best b0_S_Pass:Int) (b0_L:List qa) (b0_Leaf b1_Kind b1_N b1_Min:Int) (b1_Set:List qc) (b1_L:List qb) (t6:Int) (w2_len:Nat),w2_len=w2.length→XL2 evo 65 1 3 ⟨[(0,rP 0),(3,rP 1),(5,rO 2 1 w2_len),(6,rI t6)],[(0,B.blk 81 [dI b0_S_Worst,dI b0_S_Best,dI b0_S_Pass,dL 8 qd b0_L,C.nils,dI b0_Leaf]),(1,B.blk 30 [dI b1_Kind,dI b1_N,dI b1_Min,dL 2 qe b1_Set,dL 5 qg b1_L]),(2,bR 4 1 eB w2)],3,102⟩=(qq (zA b0_S_Worst b0_S_Best b0_S_Pass b0_L b0_Leaf (qb.mk b1_Kind b1_N b1_Min b1_Set b1_L)) (w2,t6)).bind (fun(e:List Bool)=>some (Go.Exit.exit 0,⟨[(0,rP 0),(5,rO 1 1 e.length)],[(0,B.blk 81 [dI b0_S_Worst,dI b0_S_Best,dI b0_S_Pass,dL 8 qd b0_L,C.nils,dI b0_Leaf]),(1,bR 4 1 eB e)],2,102⟩)) :=
 by
 intro w2 b0_S_Worst b0_S_Best b0_S_Pass b0_L b0_Leaf b1_Kind b1_N b1_Min b1_Set b1_L t6 w2_len h0
 subst h0
 revert t6;revert w2;exact q3v qmM qmS (fun e=>by exact⟨_,rfl,fun h=>by cases h⟩) fun w2 t6=>by
  have:=qqw;have:=@qez.eq_1;have:=@q3x;have:=@q2p;have:=@zA.eq_1;exact gA
noncomputable def QK (x1:qb) (S_Worst:Int) (S_Best:Int) (S_Pass:Int) (L0:List qa) (Leaf:Int):Option (List Bool×Int):=if 0≤((L0.length:Nat):Int) then if 0≤w64 (1*2 ^ min L0.length (Go.IntKind.bits Go.IntKind.i64))∧1*w64 (1*2 ^ min L0.length (Go.IntKind.bits Go.IntKind.i64))≤281474976710656∧w64 (1*2 ^ min L0.length (Go.IntKind.bits Go.IntKind.i64))≤9223372036854775807 then Option.bind (qq (zA S_Worst S_Best S_Pass L0 Leaf x1) (List.replicate (Int.toNat (w64 (1*2 ^ min L0.length (Go.IntKind.bits Go.IntKind.i64)))) Bool.false,1)) fun(a:List Bool)=>some (a,w64 (Leaf+1)) else none else none
theorem q3F:∀(x1_Kind x1_N x1_Min:Int) (x1_Set:List qc) (x1_L:List qb) (S_Worst S_Best S_Pass:Int) (L0:List qa) (Leaf:Int),ev 65 1 [rP 0,R.agg [dI x1_Kind,dI x1_N,dI x1_Min,dL 2 qe x1_Set,dL 5 qg x1_L]] [(0,B.blk 81 [dI S_Worst,dI S_Best,dI S_Pass,dL 8 qd L0,C.nils,dI Leaf])]=(QK (qb.mk x1_Kind x1_N x1_Min x1_Set x1_L) S_Worst S_Best S_Pass L0 Leaf).bind (fun(e:List Bool×Int)=>some (rL 1 eB e.1,[(0,B.blk 81 [dI S_Worst,dI S_Best,dI S_Pass,dL 8 qd L0,C.nils,dI e.2])])) :=
 fun x1_Kind x1_N x1_Min x1_Set x1_L S_Worst S_Best S_Pass L0 Leaf=>by
  rw[qt qqy qxv.2.2.2 qvr]
  have:=qqw;have:=@q2b;have:=@QK.eq_1;exact gA
noncomputable def qx (x:(qb×Int×Int×Int×List qa×Int)):List R×List (Nat×B):=([R.c (C.ptr 0 0),R.agg [C.d (D.int .i64 x.1.Kind),C.d (D.int .i64 x.1.N),C.d (D.int .i64 x.1.Min),C.d (D.sl 2 x.1.Set.length (x.1.Set.flatMap qe)),C.d (D.sl 5 x.1.L.length (x.1.L.flatMap qg))]],[(0,B.blk 81 [C.d (D.int .i64 x.2.1),C.d (D.int .i64 x.2.2.1),C.d (D.int .i64 x.2.2.2.1),C.d (D.sl 8 x.2.2.2.2.1.length (x.2.2.2.2.1.flatMap qd)),C.nils,C.d (D.int .i64 x.2.2.2.2.2)])])
noncomputable def qP:(List Bool×Int×Int×Int×List qa×Int)→R×List (Nat×B):=fun(e:List Bool×Int×Int×Int×List qa×Int)=>(R.c (C.d (D.sl 1 e.1.length (e.1.flatMap eB))),[(0,B.blk 81 [C.d (D.int .i64 e.2.1),C.d (D.int .i64 e.2.2.1),C.d (D.int .i64 e.2.2.2.1),C.d (D.sl 8 e.2.2.2.2.1.length (e.2.2.2.2.1.flatMap qd)),C.nils,C.d (D.int .i64 e.2.2.2.2.2)])])
noncomputable def zC (rF:(qb×Int×Int×Int×List qa×Int)→Option (List Bool×Int×Int×Int×List qa×Int)) (b0_S_Worst:Int) (b0_S_Best:Int) (b0_S_Pass:Int) (b0_L:List qa) (b0_Leaf:Int) (b1:qb):(List Int×Int)→Option ((List Int×Int)⊕(List Int))|(w2,t6)=>if t6<((w2.length:Nat):Int) then if 0≤t6∧t6<((w2.length:Nat):Int) then if Int.toNat t6+1≤w2.length then some (Sum.inl (List.set w2 (Int.toNat t6) (-1),w64 (t6+1))) else none else none else some (Sum.inr w2)
theorem q2m (rE:Orc) (rF:(qb×Int×Int×Int×List qa×Int)→Option (List Bool×Int×Int×Int×List qa×Int)) (hF:∀y,rE (.fn 35) 1 (qx y).1 (qx y).2=(rF y).bind fun e=>some (qP e)) (hM:∀g k a G,g≠35→rE (.fn g) k a G=ev g k a G) (hR:∀g asg bd k a G,rE (.rd g asg bd) k a G=evr g asg bd k a G):∀(w2:List Int) (b0_S_Worst b0_S_Best b0_S_Pass:Int) (b0_L:List qa) (b0_Leaf b1_Kind b1_N b1_Min:Int) (b1_Set:List qc) (b1_L:List qb) (t6:Int) (w2_len:Nat),w2_len=w2.length→XL2 rE 35 1 5 ⟨[(0,rP 0),(3,rP 1),(5,rO 2 1 w2_len),(6,rI t6)],[(0,B.blk 81 [dI b0_S_Worst,dI b0_S_Best,dI b0_S_Pass,dL 8 qd b0_L,C.nils,dI b0_Leaf]),(1,B.blk 30 [dI b1_Kind,dI b1_N,dI b1_Min,dL 2 qe b1_Set,dL 5 qg b1_L]),(2,bR 3 1 eI w2)],3,158⟩=(qq (zC rF b0_S_Worst b0_S_Best b0_S_Pass b0_L b0_Leaf (qb.mk b1_Kind b1_N b1_Min b1_Set b1_L)) (w2,t6)).bind (fun(e:List Int)=>some (Go.Exit.exit 0,⟨[(0,rP 0),(3,rP 1),(5,rO 2 1 e.length)],[(0,B.blk 81 [dI b0_S_Worst,dI b0_S_Best,dI b0_S_Pass,dL 8 qd b0_L,C.nils,dI b0_Leaf]),(1,B.blk 30 [dI b1_Kind,dI b1_N,dI b1_Min,dL 2 qe b1_Set,dL 5 qg b1_L]),(2,bR 3 1 eI e)],3,158⟩)) :=
 by
 intro w2 b0_S_Worst b0_S_Best b0_S_Pass b0_L b0_Leaf b1_Kind b1_N b1_Min b1_Set b1_L t6 w2_len h0
 subst h0
 revert t6;revert w2;exact q3v qmo qmJ (fun e=>by exact⟨_,rfl,fun h=>by cases h⟩) fun w2 t6=>by
  have hF':∀(x1_Kind x1_N x1_Min:Int) (x1_Set:List qc) (x1_L:List qb) (S_Worst S_Best S_Pass:Int) (L0:List qa) (Leaf:Int),rE (.fn 35) 1 [rP 0,R.agg [dI x1_Kind,dI x1_N,dI x1_Min,dL 2 qe x1_Set,dL 5 qg x1_L]] [(0,B.blk 81 [dI S_Worst,dI S_Best,dI S_Pass,dL 8 qd L0,C.nils,dI Leaf])]=(rF ((qb.mk x1_Kind x1_N x1_Min x1_Set x1_L),S_Worst,S_Best,S_Pass,L0,Leaf)).bind (fun e=>some (rL 1 eB e.1,[(0,B.blk 81 [dI e.2.1,dI e.2.2.1,dI e.2.2.2.1,dL 8 qd e.2.2.2.2.1,C.nils,dI e.2.2.2.2.2])])):=fun x1_Kind x1_N x1_Min x1_Set x1_L S_Worst S_Best S_Pass L0 Leaf=>hF ((qb.mk x1_Kind x1_N x1_Min x1_Set x1_L),S_Worst,S_Best,S_Pass,L0,Leaf)
  have:=qfZ;have:=@qeq.eq_1;have:=@zC.eq_1;exact gA
theorem qx6:okL 66 qeT:=qu (qh qsZ) (by kernel_rfl) (by kernel_rfl)
def qvS:=JA_ @qeT.eq_1 (JA_ @Tryz.f66.eq_1 @qsZ)
theorem qmF:lbO 66 2=qf5:=zf (qh qsZ) rfl
theorem qm8:okL 66 qf5:=qH qx6 (List.mem_of_getElem? (i:=0) (by kernel_rfl))
noncomputable def Qp (p_S_Worst:Int) (p_S_Best:Int) (p_S_Pass:Int) (p_L:List qa) (p_Leaf:Int) (from0:Int) (to:Int) (k:Int):Unit→Option (Unit⊕Unit)|()=>if k<0 then none else some (Sum.inr ())
theorem q1K:∀(p_S_Worst p_S_Best p_S_Pass:Int) (p_L:List qa) (p_Leaf from0 to k:Int),XL2 evo 66 1 2 ⟨[(0,rP 0),(1,rI from0),(2,rI to),(7,rI k)],[(0,B.blk 81 [dI p_S_Worst,dI p_S_Best,dI p_S_Pass,dL 8 qd p_L,C.nils,dI p_Leaf])],1,37⟩=(qq (Qp p_S_Worst p_S_Best p_S_Pass p_L p_Leaf from0 to k) ()).bind (fun(e:Unit)=>some (Go.Exit.exit 0,⟨[(6,R.any)],[(0,B.blk 81 [dI p_S_Worst,dI p_S_Best,dI p_S_Pass,dL 8 qd p_L,C.nils,dI p_Leaf])],1,37⟩)) :=
 fun p_S_Worst p_S_Best p_S_Pass p_L p_Leaf from0 to k=>by
  have h:=q1A (E:=evo) (f:=66) (k:=1) (st:=fun x:Unit=>(⟨[(0,rP 0),(1,rI from0),(2,rI to),(7,rI k)],[(0,B.blk 81 [dI p_S_Worst,dI p_S_Best,dI p_S_Pass,dL 8 qd p_L,C.nils,dI p_Leaf])],1,37⟩:S)) (ex:=fun(e:Unit)=>(Go.Exit.exit 0,⟨[(6,R.any)],[(0,B.blk 81 [dI p_S_Worst,dI p_S_Best,dI p_S_Pass,dL 8 qd p_L,C.nils,dI p_Leaf])],1,37⟩)) (step:=(Qp p_S_Worst p_S_Best p_S_Pass p_L p_Leaf from0 to k)) qmF qm8 (fun e h=>by cases h) (fun x=>by
   have:=qvS;have:=@qf5.eq_1;have:=@Qp.eq_1;exact gA) ()
  exact h
noncomputable def Zg (from0:Int) (to:Int) (p_S_Worst:Int) (p_S_Best:Int) (p_S_Pass:Int) (p_L:List qa) (p_Leaf:Int):Option Unit:=Option.bind (qq (Qp p_S_Worst p_S_Best p_S_Pass p_L p_Leaf from0 to 0) Unit.unit) fun(a:Unit)=>some ()
theorem q2U:∀(from0 to p_S_Worst p_S_Best p_S_Pass:Int) (p_L:List qa) (p_Leaf:Int),ev 66 1 [rP 0,rI from0,rI to] [(0,B.blk 81 [dI p_S_Worst,dI p_S_Best,dI p_S_Pass,dL 8 qd p_L,C.nils,dI p_Leaf])]=(Zg from0 to p_S_Worst p_S_Best p_S_Pass p_L p_Leaf).bind (fun(e:Unit)=>some (rB Bool.false,[(0,B.blk 81 [dI p_S_Worst,dI p_S_Best,dI p_S_Pass,dL 8 qd p_L,C.nils,dI p_Leaf])])) :=
 fun from0 to p_S_Worst p_S_Best p_S_Pass p_L p_Leaf=>by
  rw[qt qsZ qwy.2.2.2 qx6]
  have:=qvS;have:=@q1K;have:=@Zg.eq_1;exact gA
noncomputable def qI (rF:(qb×Int×Int×Int×List qa×Int)→Option (List Bool×Int×Int×Int×List qa×Int)) (w2:List Int) (b0_S_Worst:Int) (b0_S_Best:Int) (b0_S_Pass:Int) (b0_L:List qa) (b0_Leaf:Int) (b1:qb) (t7:Int) (t9:List Bool) (t10:Bool) (t12:Int):(List Int×Int)→Option ((List Int×Int)⊕(List Int))|(w3,t13)=>if 0<t13 then if 0≤t13∧t13<((t9.length:Nat):Int) then Option.bind t9[Int.toNat t13]? fun(a2:Bool)=>if a2=Bool.true then if 0≤w64 (t12-t13)∧w64 (t12-t13)<((w2.length:Nat):Int) then Option.bind w2[Int.toNat (w64 (t12-t13))]? fun(a3:Int)=>if 0≤a3 then if 0≤t12∧t12<((w3.length:Nat):Int) then Option.bind w3[Int.toNat t12]? fun(a4:Int)=>if 0≤w64 (t12-t13)∧w64 (t12-t13)<((w2.length:Nat):Int) then Option.bind w2[Int.toNat (w64 (t12-t13))]? fun(a5:Int)=>if 0≤t12∧t12<((w3.length:Nat):Int) then if Int.toNat t12+1≤w3.length then some (Sum.inl (List.set w3 (Int.toNat t12) (max a4 (w64 (a5+1))),QT Go.BinOp.and Go.IntKind.i64 (w64 (t13-1)) t12)) else none else none else none else none else some (Sum.inl (w3,QT Go.BinOp.and Go.IntKind.i64 (w64 (t13-1)) t12)) else none else some (Sum.inl (w3,QT Go.BinOp.and Go.IntKind.i64 (w64 (t13-1)) t12)) else none else some (Sum.inr w3)
theorem q2N (rE:Orc) (rF:(qb×Int×Int×Int×List qa×Int)→Option (List Bool×Int×Int×Int×List qa×Int)) (hF:∀y,rE (.fn 35) 1 (qx y).1 (qx y).2=(rF y).bind fun e=>some (qP e)) (hM:∀g k a G,g≠35→rE (.fn g) k a G=ev g k a G) (hR:∀g asg bd k a G,rE (.rd g asg bd) k a G=evr g asg bd k a G):∀(w2 w3:List Int) (b0_S_Worst b0_S_Best b0_S_Pass:Int) (b0_L:List qa) (b0_Leaf b1_Kind b1_N b1_Min:Int) (b1_Set:List qc) (b1_L:List qb) (t7:Int) (t9:List Bool) (t10:Bool) (t12 t13:Int) (w2_len w3_len:Nat),w2_len=w2.length→w3_len=w3.length→XL2 rE 35 1 22 ⟨[(0,rP 0),(3,rP 1),(5,rO 2 1 w2_len),(7,rI t7),(9,rL 1 eB t9),(10,rB t10),(11,rO 3 1 w3_len),(12,rI t12),(13,rI t13)],[(0,B.blk 81 [dI b0_S_Worst,dI b0_S_Best,dI b0_S_Pass,dL 8 qd b0_L,C.nils,dI b0_Leaf]),(1,B.blk 30 [dI b1_Kind,dI b1_N,dI b1_Min,dL 2 qe b1_Set,dL 5 qg b1_L]),(2,bR 3 1 eI w2),(3,bR 3 1 eI w3)],4,158⟩=(qq (qI rF w2 b0_S_Worst b0_S_Best b0_S_Pass b0_L b0_Leaf (qb.mk b1_Kind b1_N b1_Min b1_Set b1_L) t7 t9 t10 t12) (w3,t13)).bind (fun(e:List Int)=>some (Go.Exit.exit 6,⟨[(0,rP 0),(3,rP 1),(5,rO 2 1 w2.length),(7,rI t7),(9,rL 1 eB t9),(10,rB t10),(11,rO 3 1 e.length),(12,rI t12)],[(0,B.blk 81 [dI b0_S_Worst,dI b0_S_Best,dI b0_S_Pass,dL 8 qd b0_L,C.nils,dI b0_Leaf]),(1,B.blk 30 [dI b1_Kind,dI b1_N,dI b1_Min,dL 2 qe b1_Set,dL 5 qg b1_L]),(2,bR 3 1 eI w2),(3,bR 3 1 eI e)],4,158⟩)) :=
 by
 intro w2 w3 b0_S_Worst b0_S_Best b0_S_Pass b0_L b0_Leaf b1_Kind b1_N b1_Min b1_Set b1_L t7 t9 t10 t12 t13 w2_len w3_len h0 h1
 subst h0 h1
 revert t13;revert w3;exact q3v qiS qhF (fun e=>by exact⟨_,rfl,fun h=>by cases h⟩) fun w3 t13=>by
  have hF':∀(x1_Kind x1_N x1_Min:Int) (x1_Set:List qc) (x1_L:List qb) (S_Worst S_Best S_Pass:Int) (L0:List qa) (Leaf:Int),rE (.fn 35) 1 [rP 0,R.agg [dI x1_Kind,dI x1_N,dI x1_Min,dL 2 qe x1_Set,dL 5 qg x1_L]] [(0,B.blk 81 [dI S_Worst,dI S_Best,dI S_Pass,dL 8 qd L0,C.nils,dI Leaf])]=(rF ((qb.mk x1_Kind x1_N x1_Min x1_Set x1_L),S_Worst,S_Best,S_Pass,L0,Leaf)).bind (fun e=>some (rL 1 eB e.1,[(0,B.blk 81 [dI e.2.1,dI e.2.2.1,dI e.2.2.2.1,dL 8 qd e.2.2.2.2.1,C.nils,dI e.2.2.2.2.2])])):=fun x1_Kind x1_N x1_Min x1_Set x1_L S_Worst S_Best S_Pass L0 Leaf=>hF ((qb.mk x1_Kind x1_N x1_Min x1_Set x1_L),S_Worst,S_Best,S_Pass,L0,Leaf)
  have:=qfZ;have:=@qaE.eq_1;have:=@qI.eq_1;exact gA
noncomputable def zP (rF:(qb×Int×Int×Int×List qa×Int)→Option (List Bool×Int×Int×Int×List qa×Int)) (w2:List Int) (b0_S_Worst:Int) (b0_S_Best:Int) (b0_S_Pass:Int) (b0_L:List qa) (b0_Leaf:Int) (b1:qb) (t7:Int) (t9:List Bool) (t10:Bool):(List Int×Int)→Option ((List Int×Int)⊕(List Int))|(w3,t12)=>if t12<((w2.length:Nat):Int) then if 0≤t12∧t12<((w3.length:Nat):Int) then if Int.toNat t12+1≤w3.length then if(b1.Kind==4)=Bool.true then if(!t10)=Bool.true then if 0≤t12∧t12<((w2.length:Nat):Int) then Option.bind w2[Int.toNat t12]? fun(a2:Int)=>if 0≤t12∧t12<((w3.length:Nat):Int) then if Int.toNat t12+1≤w3.length then Option.bind (qq (qI rF w2 b0_S_Worst b0_S_Best b0_S_Pass b0_L b0_Leaf b1 t7 t9 t10 t12) (List.set (List.set w3 (Int.toNat t12) (-1)) (Int.toNat t12) a2,t12)) fun(a3:List Int)=>some (Sum.inl (a3,w64 (t12+1))) else none else none else none else Option.bind (qq (qI rF w2 b0_S_Worst b0_S_Best b0_S_Pass b0_L b0_Leaf b1 t7 t9 t10 t12) (List.set w3 (Int.toNat t12) (-1),t12)) fun(a4:List Int)=>some (Sum.inl (a4,w64 (t12+1))) else Option.bind (qq (qI rF w2 b0_S_Worst b0_S_Best b0_S_Pass b0_L b0_Leaf b1 t7 t9 t10 t12) (List.set w3 (Int.toNat t12) (-1),t12)) fun(a5:List Int)=>some (Sum.inl (a5,w64 (t12+1))) else none else none else some (Sum.inr w3)
theorem q2r (rE:Orc) (rF:(qb×Int×Int×Int×List qa×Int)→Option (List Bool×Int×Int×Int×List qa×Int)) (hF:∀y,rE (.fn 35) 1 (qx y).1 (qx y).2=(rF y).bind fun e=>some (qP e)) (hM:∀g k a G,g≠35→rE (.fn g) k a G=ev g k a G) (hR:∀g asg bd k a G,rE (.rd g asg bd) k a G=evr g asg bd k a G):∀(w2 w3:List Int) (b0_S_Worst b0_S_Best b0_S_Pass:Int) (b0_L:List qa) (b0_Leaf b1_Kind b1_N b1_Min:Int) (b1_Set:List qc) (b1_L:List qb) (t7:Int) (t9:List Bool) (t10:Bool) (t12:Int) (w2_len w3_len:Nat),w2_len=w2.length→w3_len=w3.length→XL2 rE 35 1 16 ⟨[(0,rP 0),(3,rP 1),(5,rO 2 1 w2_len),(7,rI t7),(9,rL 1 eB t9),(10,rB t10),(11,rO 3 1 w3_len),(12,rI t12)],[(0,B.blk 81 [dI b0_S_Worst,dI b0_S_Best,dI b0_S_Pass,dL 8 qd b0_L,C.nils,dI b0_Leaf]),(1,B.blk 30 [dI b1_Kind,dI b1_N,dI b1_Min,dL 2 qe b1_Set,dL 5 qg b1_L]),(2,bR 3 1 eI w2),(3,bR 3 1 eI w3)],4,158⟩=(qq (zP rF w2 b0_S_Worst b0_S_Best b0_S_Pass b0_L b0_Leaf (qb.mk b1_Kind b1_N b1_Min b1_Set b1_L) t7 t9 t10) (w3,t12)).bind (fun(e:List Int)=>some (Go.Exit.exit 4,⟨[(0,rP 0),(3,rP 1),(7,rI t7),(11,rO 2 1 e.length)],[(0,B.blk 81 [dI b0_S_Worst,dI b0_S_Best,dI b0_S_Pass,dL 8 qd b0_L,C.nils,dI b0_Leaf]),(1,B.blk 30 [dI b1_Kind,dI b1_N,dI b1_Min,dL 2 qe b1_Set,dL 5 qg b1_L]),(2,bR 3 1 eI e)],3,158⟩)) :=
 by
 intro w2 w3 b0_S_Worst b0_S_Best b0_S_Pass b0_L b0_Leaf b1_Kind b1_N b1_Min b1_Set b1_L t7 t9 t10 t12 w2_len w3_len h0 h1
 subst h0 h1
 revert t12;revert w3;exact q3v qhr qjE (fun e=>by exact⟨_,rfl,fun h=>by cases h⟩) fun w3 t12=>by
  have hF':∀(x1_Kind x1_N x1_Min:Int) (x1_Set:List qc) (x1_L:List qb) (S_Worst S_Best S_Pass:Int) (L0:List qa) (Leaf:Int),rE (.fn 35) 1 [rP 0,R.agg [dI x1_Kind,dI x1_N,dI x1_Min,dL 2 qe x1_Set,dL 5 qg x1_L]] [(0,B.blk 81 [dI S_Worst,dI S_Best,dI S_Pass,dL 8 qd L0,C.nils,dI Leaf])]=(rF ((qb.mk x1_Kind x1_N x1_Min x1_Set x1_L),S_Worst,S_Best,S_Pass,L0,Leaf)).bind (fun e=>some (rL 1 eB e.1,[(0,B.blk 81 [dI e.2.1,dI e.2.2.1,dI e.2.2.2.1,dL 8 qd e.2.2.2.2.1,C.nils,dI e.2.2.2.2.2])])):=fun x1_Kind x1_N x1_Min x1_Set x1_L S_Worst S_Best S_Pass L0 Leaf=>hF ((qb.mk x1_Kind x1_N x1_Min x1_Set x1_L),S_Worst,S_Best,S_Pass,L0,Leaf)
  have:=qfZ;have:=@qbp.eq_1;have:=q2N rE rF hF hM hR;have:=@zP.eq_1;exact gA
noncomputable def zy (rF:(qb×Int×Int×Int×List qa×Int)→Option (List Bool×Int×Int×Int×List qa×Int)) (b1:qb):(List Int×Int×Int×Int×List qa×Int×Int)→Option ((List Int×Int×Int×Int×List qa×Int×Int)⊕(List Int×Int×Int×Int×List qa×Int))|(w2,b0_S_Worst,b0_S_Best,b0_S_Pass,b0_L,b0_Leaf,t7)=>if t7<((b1.L.length:Nat):Int) then if 0≤t7∧t7<((b1.L.length:Nat):Int) then Option.bind b1.L[Int.toNat t7]? fun(a2:qb)=>Option.bind (rF (a2,(b0_S_Worst,(b0_S_Best,(b0_S_Pass,(b0_L,b0_Leaf)))))) fun(a3:Prod (List Bool) (Prod Int (Prod Int (Prod Int (Prod (List qa) Int)))))=>Option.bind (Zg b0_Leaf a3.2.2.2.2.2 a3.2.1 a3.2.2.1 a3.2.2.2.1 a3.2.2.2.2.1 a3.2.2.2.2.2) fun(a4:Unit)=>if 0≤((w2.length:Nat):Int)∧8*((w2.length:Nat):Int)≤281474976710656∧((w2.length:Nat):Int)≤9223372036854775807 then Option.bind (qq (zP rF w2 a3.2.1 a3.2.2.1 a3.2.2.2.1 a3.2.2.2.2.1 a3.2.2.2.2.2 b1 t7 a3.1 Bool.false) (List.replicate w2.length 0,0)) fun(a5:List Int)=>some (Sum.inl (a5,a3.2.1,a3.2.2.1,a3.2.2.2.1,a3.2.2.2.2.1,a3.2.2.2.2.2,w64 (t7+1))) else none else none else some (Sum.inr (w2,b0_S_Worst,b0_S_Best,b0_S_Pass,b0_L,b0_Leaf))
theorem q2V (rE:Orc) (rF:(qb×Int×Int×Int×List qa×Int)→Option (List Bool×Int×Int×Int×List qa×Int)) (hF:∀y,rE (.fn 35) 1 (qx y).1 (qx y).2=(rF y).bind fun e=>some (qP e)) (hM:∀g k a G,g≠35→rE (.fn g) k a G=ev g k a G) (hR:∀g asg bd k a G,rE (.rd g asg bd) k a G=evr g asg bd k a G):∀(w2:List Int) (b0_S_Worst b0_S_Best b0_S_Pass:Int) (b0_L:List qa) (b0_Leaf b1_Kind b1_N b1_Min:Int) (b1_Set:List qc) (b1_L:List qb) (t7:Int) (w2_len:Nat),w2_len=w2.length→XL2 rE 35 1 9 ⟨[(0,rP 0),(3,rP 1),(5,rO 2 1 w2_len),(7,rI t7)],[(0,B.blk 81 [dI b0_S_Worst,dI b0_S_Best,dI b0_S_Pass,dL 8 qd b0_L,C.nils,dI b0_Leaf]),(1,B.blk 30 [dI b1_Kind,dI b1_N,dI b1_Min,dL 2 qe b1_Set,dL 5 qg b1_L]),(2,bR 3 1 eI w2)],3,158⟩=(qq (zy rF (qb.mk b1_Kind b1_N b1_Min b1_Set b1_L)) (w2,b0_S_Worst,b0_S_Best,b0_S_Pass,b0_L,b0_Leaf,t7)).bind (fun(e:List Int×Int×Int×Int×List qa×Int)=>some (Go.Exit.exit 2,⟨[(3,rP 1),(5,rO 2 1 e.1.length)],[(0,B.blk 81 [dI e.2.1,dI e.2.2.1,dI e.2.2.2.1,dL 8 qd e.2.2.2.2.1,C.nils,dI e.2.2.2.2.2]),(1,B.blk 30 [dI b1_Kind,dI b1_N,dI b1_Min,dL 2 qe b1_Set,dL 5 qg b1_L]),(2,bR 3 1 eI e.1)],3,158⟩)) :=
 by
 intro w2 b0_S_Worst b0_S_Best b0_S_Pass b0_L b0_Leaf b1_Kind b1_N b1_Min b1_Set b1_L t7 w2_len h0
 subst h0
 revert t7;revert b0_Leaf;revert b0_L;revert b0_S_Pass;revert b0_S_Best;revert b0_S_Worst;revert w2;exact qE7 qmT qn0 (fun e=>by exact⟨_,rfl,fun h=>by cases h⟩) fun w2 b0_S_Worst b0_S_Best b0_S_Pass b0_L b0_Leaf t7=>by
  have hF':∀(x1_Kind x1_N x1_Min:Int) (x1_Set:List qc) (x1_L:List qb) (S_Worst S_Best S_Pass:Int) (L0:List qa) (Leaf:Int),rE (.fn 35) 1 [rP 0,R.agg [dI x1_Kind,dI x1_N,dI x1_Min,dL 2 qe x1_Set,dL 5 qg x1_L]] [(0,B.blk 81 [dI S_Worst,dI S_Best,dI S_Pass,dL 8 qd L0,C.nils,dI Leaf])]=(rF ((qb.mk x1_Kind x1_N x1_Min x1_Set x1_L),S_Worst,S_Best,S_Pass,L0,Leaf)).bind (fun e=>some (rL 1 eB e.1,[(0,B.blk 81 [dI e.2.1,dI e.2.2.1,dI e.2.2.2.1,dL 8 qd e.2.2.2.2.1,C.nils,dI e.2.2.2.2.2])])):=fun x1_Kind x1_N x1_Min x1_Set x1_L S_Worst S_Best S_Pass L0 Leaf=>hF ((qb.mk x1_Kind x1_N x1_Min x1_Set x1_L),S_Worst,S_Best,S_Pass,L0,Leaf)
  have:=qfZ;have:=@qem.eq_1;have:=@q2U;have:=q2r rE rF hF hM hR;have:=@zy.eq_1;exact gA
noncomputable def zo (rF:(qb×Int×Int×Int×List qa×Int)→Option (List Bool×Int×Int×Int×List qa×Int)) (w1:List Int) (b0_S_Worst:Int) (b0_S_Best:Int) (b0_S_Pass:Int) (b0_L:List qa) (b0_Leaf:Int) (t14:Int):(List Bool×Int)→Option ((List Bool×Int)⊕(List Bool))|(w2,t16)=>if t16<((w1.length:Nat):Int) then if 0≤t16∧t16<((w1.length:Nat):Int) then Option.bind w1[Int.toNat t16]? fun(a2:Int)=>if 0≤t16∧t16<((w2.length:Nat):Int) then if Int.toNat t16+1≤w2.length then some (Sum.inl (List.set w2 (Int.toNat t16) (decide (t14≤a2)),w64 (t16+1))) else none else none else none else some (Sum.inr w2)
theorem q2L (rE:Orc) (rF:(qb×Int×Int×Int×List qa×Int)→Option (List Bool×Int×Int×Int×List qa×Int)) (hF:∀y,rE (.fn 35) 1 (qx y).1 (qx y).2=(rF y).bind fun e=>some (qP e)) (hM:∀g k a G,g≠35→rE (.fn g) k a G=ev g k a G) (hR:∀g asg bd k a G,rE (.rd g asg bd) k a G=evr g asg bd k a G):∀(w1:List Int) (w2:List Bool) (b0_S_Worst b0_S_Best b0_S_Pass:Int) (b0_L:List qa) (b0_Leaf t14 t16:Int) (w1_len w2_len:Nat),w1_len=w1.length→w2_len=w2.length→XL2 rE 35 1 32 ⟨[(5,rO 1 1 w1_len),(14,rI t14),(15,rO 2 1 w2_len),(16,rI t16)],[(0,B.blk 81 [dI b0_S_Worst,dI b0_S_Best,dI b0_S_Pass,dL 8 qd b0_L,C.nils,dI b0_Leaf]),(1,bR 3 1 eI w1),(2,bR 4 1 eB w2)],3,158⟩=(qq (zo rF w1 b0_S_Worst b0_S_Best b0_S_Pass b0_L b0_Leaf t14) (w2,t16)).bind (fun(e:List Bool)=>some (Go.Exit.exit 8,⟨[(15,rO 1 1 e.length)],[(0,B.blk 81 [dI b0_S_Worst,dI b0_S_Best,dI b0_S_Pass,dL 8 qd b0_L,C.nils,dI b0_Leaf]),(1,bR 4 1 eB e)],2,158⟩)) :=
 by
 intro w1 w2 b0_S_Worst b0_S_Best b0_S_Pass b0_L b0_Leaf t14 t16 w1_len w2_len h0 h1
 subst h0 h1
 revert t16;revert w2;exact q3v qiZ qhE (fun e=>by exact⟨_,rfl,fun h=>by cases h⟩) fun w2 t16=>by
  have hF':∀(x1_Kind x1_N x1_Min:Int) (x1_Set:List qc) (x1_L:List qb) (S_Worst S_Best S_Pass:Int) (L0:List qa) (Leaf:Int),rE (.fn 35) 1 [rP 0,R.agg [dI x1_Kind,dI x1_N,dI x1_Min,dL 2 qe x1_Set,dL 5 qg x1_L]] [(0,B.blk 81 [dI S_Worst,dI S_Best,dI S_Pass,dL 8 qd L0,C.nils,dI Leaf])]=(rF ((qb.mk x1_Kind x1_N x1_Min x1_Set x1_L),S_Worst,S_Best,S_Pass,L0,Leaf)).bind (fun e=>some (rL 1 eB e.1,[(0,B.blk 81 [dI e.2.1,dI e.2.2.1,dI e.2.2.2.1,dL 8 qd e.2.2.2.2.1,C.nils,dI e.2.2.2.2.2])])):=fun x1_Kind x1_N x1_Min x1_Set x1_L S_Worst S_Best S_Pass L0 Leaf=>hF ((qb.mk x1_Kind x1_N x1_Min x1_Set x1_L),S_Worst,S_Best,S_Pass,L0,Leaf)
  have:=qfZ;have:=@qbl.eq_1;have:=@zo.eq_1;exact gA
noncomputable def Zz (rF:(qb×Int×Int×Int×List qa×Int)→Option (List Bool×Int×Int×Int×List qa×Int)):(qb×Int×Int×Int×List qa×Int)→Option (List Bool×Int×Int×Int×List qa×Int)|(x1,S_Worst,S_Best,S_Pass,L0,Leaf)=>if(x1.Kind==1)=Bool.true then Option.bind (QK x1 S_Worst S_Best S_Pass L0 Leaf) fun(e0:Prod (List Bool) Int)=>some (e0.1,S_Worst,S_Best,S_Pass,L0,e0.2) else if(x1.Kind==2)=Bool.true then Option.bind (QK x1 S_Worst S_Best S_Pass L0 Leaf) fun(e02:Prod (List Bool) Int)=>some (e02.1,S_Worst,S_Best,S_Pass,L0,e02.2) else if 0≤((L0.length:Nat):Int) then if 0≤w64 (1*2 ^ min L0.length (Go.IntKind.bits Go.IntKind.i64))∧8*w64 (1*2 ^ min L0.length (Go.IntKind.bits Go.IntKind.i64))≤281474976710656∧w64 (1*2 ^ min L0.length (Go.IntKind.bits Go.IntKind.i64))≤9223372036854775807 then Option.bind (qq (zC rF S_Worst S_Best S_Pass L0 Leaf x1) (List.replicate (Int.toNat (w64 (1*2 ^ min L0.length (Go.IntKind.bits Go.IntKind.i64)))) 0,1)) fun(a2:List Int)=>Option.bind (qq (zy rF x1) (a2,(S_Worst,(S_Best,(S_Pass,(L0,(Leaf,0))))))) fun(a3:Prod (List Int) (Prod Int (Prod Int (Prod Int (Prod (List qa) Int)))))=>if(x1.Kind==3)=Bool.true then if 0≤((a3.1.length:Nat):Int)∧1*((a3.1.length:Nat):Int)≤281474976710656∧((a3.1.length:Nat):Int)≤9223372036854775807 then Option.bind (qq (zo rF a3.1 a3.2.1 a3.2.2.1 a3.2.2.2.1 a3.2.2.2.2.1 a3.2.2.2.2.2 ((x1.L.length:Nat):Int)) (List.replicate a3.1.length Bool.false,1)) fun(a4:List Bool)=>some (a4,a3.2.1,a3.2.2.1,a3.2.2.2.1,a3.2.2.2.2.1,a3.2.2.2.2.2) else none else if 0≤((a3.1.length:Nat):Int)∧1*((a3.1.length:Nat):Int)≤281474976710656∧((a3.1.length:Nat):Int)≤9223372036854775807 then Option.bind (qq (zo rF a3.1 a3.2.1 a3.2.2.1 a3.2.2.2.1 a3.2.2.2.2.1 a3.2.2.2.2.2 x1.N) (List.replicate a3.1.length Bool.false,1)) fun(a5:List Bool)=>some (a5,a3.2.1,a3.2.2.1,a3.2.2.2.1,a3.2.2.2.2.1,a3.2.2.2.2.2) else none else none else none
theorem q1f:q1T 35 1 qx qP Zz:=by
 intro rE rF hF hM hR x
 obtain⟨x1,S_Worst,S_Best,S_Pass,L0,Leaf⟩:=x
 show q3L rE 35 1 [rP 0,R.agg [dI x1.Kind,dI x1.N,dI x1.Min,dL 2 qe x1.Set,dL 5 qg x1.L]] [(0,B.blk 81 [dI S_Worst,dI S_Best,dI S_Pass,dL 8 qd L0,C.nils,dI Leaf])]=_
 have hF':∀(x1_Kind x1_N x1_Min:Int) (x1_Set:List qc) (x1_L:List qb) (S_Worst S_Best S_Pass:Int) (L0:List qa) (Leaf:Int),rE (.fn 35) 1 [rP 0,R.agg [dI x1_Kind,dI x1_N,dI x1_Min,dL 2 qe x1_Set,dL 5 qg x1_L]] [(0,B.blk 81 [dI S_Worst,dI S_Best,dI S_Pass,dL 8 qd L0,C.nils,dI Leaf])]=(rF ((qb.mk x1_Kind x1_N x1_Min x1_Set x1_L),S_Worst,S_Best,S_Pass,L0,Leaf)).bind (fun e=>some (rL 1 eB e.1,[(0,B.blk 81 [dI e.2.1,dI e.2.2.1,dI e.2.2.2.1,dL 8 qd e.2.2.2.2.1,C.nils,dI e.2.2.2.2.2])])):=fun x1_Kind x1_N x1_Min x1_Set x1_L S_Worst S_Best S_Pass L0 Leaf=>hF ((qb.mk x1_Kind x1_N x1_Min x1_Set x1_L),S_Worst,S_Best,S_Pass,L0,Leaf)
 rw[q04 qkY qnt]
 have:=qfZ;have:=@q3F;have:=q2m rE rF hF hM hR;have:=q2V rE rF hF hM hR;have:=q2L rE rF hF hM hR;have:=@Zz.eq_1;have:=@qP.eq_1;exact gA
theorem q0g:∀x y,qx x=qx y→x=y:=by
 rintro⟨⟨a0_0,a0_1,a0_2,a0_3,a0_4⟩,a1,a2,a3,a4,a5⟩ ⟨⟨b0_0,b0_1,b0_2,b0_3,b0_4⟩,b1,b2,b3,b4,b5⟩ h
 simp only[qx,Prod.mk.injEq,List.cons.injEq,R.c.injEq,R.agg.injEq,R.tup.injEq,C.d.injEq,C.own.injEq,C.ptr.injEq,C.eptr.injEq,D.int.injEq,D.bool.injEq,D.str.injEq,D.sl.injEq,B.blk.injEq,B.row.injEq,QB,ZV,QW,Zc,Zy,Zw,Zr,Jq,Zx,Jt,Jz,QA,true_and,and_true,List.nil_append] at h
 simp only[h]
theorem q3d:∀x y,qP x=qP y→x=y:=by
 rintro⟨a0,a1,a2,a3,a4,a5⟩ ⟨b0,b1,b2,b3,b4,b5⟩ h
 simp only[qP,Prod.mk.injEq,List.cons.injEq,R.c.injEq,R.agg.injEq,R.tup.injEq,C.d.injEq,C.own.injEq,C.ptr.injEq,C.eptr.injEq,D.int.injEq,D.bool.injEq,D.str.injEq,D.sl.injEq,B.blk.injEq,B.row.injEq,QB,ZV,QW,Zc,Zy,Zw,Zr,Jq,Zx,Jt,Jz,QA,true_and,and_true,List.nil_append] at h
 simp only[h]
noncomputable def zl:(qb×Int×Int×Int×List qa×Int)→Option (List Bool×Int×Int×Int×List qa×Int):=q3b 35 1 qx qP
theorem q4J (x:(qb×Int×Int×Int×List qa×Int)):zl x=Zz zl x:=q4x quj.2.2.2 q0g q3d q1f x
theorem q47 (x1:qb) (S_Worst S_Best S_Pass:Int) (L0:List qa) (Leaf:Int):ev 35 1 [rP 0,R.agg [dI x1.Kind,dI x1.N,dI x1.Min,dL 2 qe x1.Set,dL 5 qg x1.L]] [(0,B.blk 81 [dI S_Worst,dI S_Best,dI S_Pass,dL 8 qd L0,C.nils,dI Leaf])]=(zl (x1,S_Worst,S_Best,S_Pass,L0,Leaf)).bind (fun(e:List Bool×Int×Int×Int×List qa×Int)=>some (rL 1 eB e.1,[(0,B.blk 81 [dI e.2.1,dI e.2.2.1,dI e.2.2.2.1,dL 8 qd e.2.2.2.2.1,C.nils,dI e.2.2.2.2.2])])):=(q2M quj.2.2.2 q0g q1f (x1,S_Worst,S_Best,S_Pass,L0,Leaf))
theorem q4Y:∀(x1_Kind x1_N x1_Min:Int) (x1_Set:List qc) (x1_L:List qb) (S_Worst S_Best S_Pass:Int) (L0:List qa) (Leaf:Int),ev 35 1 [rP 0,R.agg [dI x1_Kind,dI x1_N,dI x1_Min,dL 2 qe x1_Set,dL 5 qg x1_L]] [(0,B.blk 81 [dI S_Worst,dI S_Best,dI S_Pass,dL 8 qd L0,C.nils,dI Leaf])]=(zl ((qb.mk x1_Kind x1_N x1_Min x1_Set x1_L),S_Worst,S_Best,S_Pass,L0,Leaf)).bind (fun(e:List Bool×Int×Int×Int×List qa×Int)=>some (rL 1 eB e.1,[(0,B.blk 81 [dI e.2.1,dI e.2.2.1,dI e.2.2.2.1,dL 8 qd e.2.2.2.2.1,C.nils,dI e.2.2.2.2.2])])) :=
 fun x1_Kind x1_N x1_Min x1_Set x1_L S_Worst S_Best S_Pass L0 Leaf=>q47 (qb.mk x1_Kind x1_N x1_Min x1_Set x1_L) S_Worst S_Best S_Pass L0 Leaf
noncomputable def ZW (n:qb) (s:qf) (l:List qa):Option (List Bool×Int):=Option.bind (q0t n) fun(a:Int)=>if(a != 0)=Bool.true then some ([],a) else if 10<((l.length:Nat):Int) then some ([],2) else Option.bind (zl (n,(s.Worst,(s.Best,(s.Pass,(l,0)))))) fun(a2:Prod (List Bool) (Prod Int (Prod Int (Prod Int (Prod (List qa) Int)))))=>some (a2.1,0)
theorem q3P:∀(n_Kind n_N n_Min:Int) (n_Set:List qc) (n_L:List qb) (s_Worst s_Best s_Pass:Int) (l:List qa),ev 13 0 [R.agg [dI n_Kind,dI n_N,dI n_Min,dL 2 qe n_Set,dL 5 qg n_L],R.agg [dI s_Worst,dI s_Best,dI s_Pass],rL 8 qd l] []=(ZW (qb.mk n_Kind n_N n_Min n_Set n_L) (qf.mk s_Worst s_Best s_Pass) l).bind (fun(e:List Bool×Int)=>some (R.tup [rL 1 eB e.1,rI e.2],[])) :=
 fun n_Kind n_N n_Min n_Set n_L s_Worst s_Best s_Pass l=>by
  rw[qt qyn qAv.2.2.2 qBy]
  have:=qDZ;have:=@q7Q;have:=@q4Y;have:=@ZW.eq_1;exact gA
theorem qAa:okL 44 qdS:=qu (qh qvt) (by kernel_rfl) (by kernel_rfl)
def qz2:=JA_ @qdS.eq_1 (JA_ @Tryz.f44.eq_1 @qvt)
theorem qmx:lbO 44 4=qeY:=zf (qh qvt) rfl
theorem qmb:okL 44 qeY:=qH qAa (List.mem_of_getElem? (i:=0) (by kernel_rfl))
theorem qAC:okL 29 qdY:=qu (qh qvE) (by kernel_rfl) (by kernel_rfl)
def qAW:=JA_ @qdY.eq_1 (JA_ @Tryz.f29.eq_1 @qvE)
theorem qrm:lbO 29 5=qgR:=zf (qh qvE) rfl
theorem qsM:okL 29 qgR:=qH qAC (List.mem_of_getElem? (i:=0) (by kernel_rfl))
noncomputable def Q7 (x:qb):List R×List (Nat×B):=([R.agg [C.d (D.int .i64 x.Kind),C.d (D.int .i64 x.N),C.d (D.int .i64 x.Min),C.d (D.sl 2 x.Set.length (x.Set.flatMap qe)),C.d (D.sl 5 x.L.length (x.L.flatMap qg))]],[])
noncomputable def QX:qb→R×List (Nat×B):=fun(e:qb)=>(R.agg [C.d (D.int .i64 e.Kind),C.d (D.int .i64 e.N),C.d (D.int .i64 e.Min),C.d (D.sl 2 e.Set.length (e.Set.flatMap qe)),C.d (D.sl 5 e.L.length (e.L.flatMap qg))],[])
noncomputable def Zq (rF:qb→Option qb) (w3:List qc) (n:qb) (b1_Kind:Int) (b1_N:Int) (b1_Min:Int) (out_Kind:Int) (out_N:Int) (out_Min:Int):(List qb×Int)→Option ((List qb×Int)⊕(List qb))|(w4,i)=>if i<((n.L.length:Nat):Int) then if 0≤i∧i<((n.L.length:Nat):Int) then Option.bind n.L[Int.toNat i]? fun(a2:qb)=>Option.bind (rF a2) fun(a3:qb)=>if w4.length+1≤Go.maxLen∧(w4.length+1)*72≤140737488355328 then some (Sum.inl (w4++[a3],w64 (i+1))) else none else none else some (Sum.inr w4)
theorem q6x (rE:Orc) (rF:qb→Option qb) (hF:∀y,rE (.fn 29) 0 (Q7 y).1 (Q7 y).2=(rF y).bind fun e=>some (QX e)) (hM:∀g k a G,g≠29→rE (.fn g) k a G=ev g k a G) (hR:∀g asg bd k a G,rE (.rd g asg bd) k a G=evr g asg bd k a G):∀(w3:List qc) (w4:List qb) (n_Kind n_N n_Min:Int) (n_Set:List qc) (n_L:List qb) (b1_Kind b1_N b1_Min out_Kind out_N out_Min i:Int) (w3_len w4_len:Nat),w3_len=w3.length→w4_len=w4.length→XL2 rE 29 0 5 ⟨[(1,rP 0),(2,rP 1),(3,rP 2),(4,rI i)],[(0,B.blk 30 [dI n_Kind,dI n_N,dI n_Min,dL 2 qe n_Set,dL 5 qg n_L]),(1,B.blk 30 [dI b1_Kind,dI b1_N,dI b1_Min,C.nils,C.nils]),(2,B.blk 30 [dI out_Kind,dI out_N,dI out_Min,dO 3 2 w3_len,dO 4 5 w4_len]),(3,bR 51 2 qe w3),(4,bR 30 5 qg w4)],5,31⟩=(qq (Zq rF w3 (qb.mk n_Kind n_N n_Min n_Set n_L) b1_Kind b1_N b1_Min out_Kind out_N out_Min) (w4,i)).bind (fun(e:List qb)=>some (Go.Exit.exit 0,⟨[(2,rP 0),(3,rP 1)],[(0,B.blk 30 [dI b1_Kind,dI b1_N,dI b1_Min,C.nils,C.nils]),(1,B.blk 30 [dI out_Kind,dI out_N,dI out_Min,dO 2 2 w3.length,dO 3 5 e.length]),(2,bR 51 2 qe w3),(3,bR 30 5 qg e)],4,31⟩)) :=
 by
 intro w3 w4 n_Kind n_N n_Min n_Set n_L b1_Kind b1_N b1_Min out_Kind out_N out_Min i w3_len w4_len h0 h1
 subst h0 h1
 revert i;revert w4;exact q3v qrm qsM (fun e=>by exact⟨_,rfl,fun h=>by cases h⟩) fun w4 i=>by
  have hF':∀(n_Kind n_N n_Min:Int) (n_Set:List qc) (n_L:List qb),rE (.fn 29) 0 [R.agg [dI n_Kind,dI n_N,dI n_Min,dL 2 qe n_Set,dL 5 qg n_L]] []=(rF (qb.mk n_Kind n_N n_Min n_Set n_L)).bind (fun e=>some (R.agg [dI e.Kind,dI e.N,dI e.Min,dL 2 qe e.Set,dL 5 qg e.L],[])):=fun n_Kind n_N n_Min n_Set n_L=>hF (qb.mk n_Kind n_N n_Min n_Set n_L)
  have:=qAW;have:=@qgR.eq_1;have:=@Zq.eq_1;exact gA
theorem q3U:∀(rE:Orc) (rF:qb→Option qb) (hF:∀y,rE (.fn 29) 0 (Q7 y).1 (Q7 y).2=(rF y).bind fun e=>some (QX e)) (hM:∀g k a G,g≠29→rE (.fn g) k a G=ev g k a G) (hR:∀g asg bd k a G,rE (.rd g asg bd) k a G=evr g asg bd k a G),∀  (w3:List qc) (n_Kind n_N n_Min:Int) (n_Set:List qc) (n_L:List qb) (b1_Kind b1_N b1_Min out_Kind out_N out_Min i:Int) (w3_len:Nat),w3_len=w3.length→XL2 rE 29 0 5 ⟨[(1,rP 0),(2,rP 1),(3,rP 2),(4,rI i)],[(0,B.blk 30 [dI n_Kind,dI n_N,dI n_Min,dL 2 qe n_Set,dL 5 qg n_L]),(1,B.blk 30 [dI b1_Kind,dI b1_N,dI b1_Min,C.nils,C.nils]),(2,B.blk 30 [dI out_Kind,dI out_N,dI out_Min,dO 3 2 w3_len,dO 4 5 0]),(3,bR 51 2 qe w3),(4,B.row 30 5 [])],5,31⟩=(qq (Zq rF w3 (qb.mk n_Kind n_N n_Min n_Set n_L) b1_Kind b1_N b1_Min out_Kind out_N out_Min) ([],i)).bind (fun(e:List qb)=>some (Go.Exit.exit 0,⟨[(2,rP 0),(3,rP 1)],[(0,B.blk 30 [dI b1_Kind,dI b1_N,dI b1_Min,C.nils,C.nils]),(1,B.blk 30 [dI out_Kind,dI out_N,dI out_Min,dO 2 2 w3.length,dO 3 5 e.length]),(2,bR 51 2 qe w3),(3,bR 30 5 qg e)],4,31⟩)):=by
 intro rE rF hF hM hR w3 n_Kind n_N n_Min n_Set n_L b1_Kind b1_N b1_Min out_Kind out_N out_Min i w3_len h0;subst h0;have h:=q6x rE rF hF hM hR w3 [] ((qb.mk n_Kind n_N n_Min n_Set n_L)).Kind ((qb.mk n_Kind n_N n_Min n_Set n_L)).N ((qb.mk n_Kind n_N n_Min n_Set n_L)).Min ((qb.mk n_Kind n_N n_Min n_Set n_L)).Set ((qb.mk n_Kind n_N n_Min n_Set n_L)).L b1_Kind b1_N b1_Min out_Kind out_N out_Min i _ _ rfl rfl
 first
  | exact h
  | (simp only[rL,dL,bR,bZ,Nat.reduceAdd] at h;exact h)
noncomputable def JQ (rF:qb→Option qb):qb→Option qb|n=>if n.Set.length≤Go.maxLen∧n.Set.length*24≤140737488355328 then Option.bind (qq (Zq rF n.Set n 0 0 0 n.Kind n.N n.Min) ([],0)) fun(a2:List qb)=>some (qb.mk n.Kind n.N n.Min n.Set a2) else none
theorem q3Z:q1T 29 0 Q7 QX JQ:=by
 intro rE rF hF hM hR n
 show q3L rE 29 0 [R.agg [dI n.Kind,dI n.N,dI n.Min,dL 2 qe n.Set,dL 5 qg n.L]] []=_
 have hF':∀(n_Kind n_N n_Min:Int) (n_Set:List qc) (n_L:List qb),rE (.fn 29) 0 [R.agg [dI n_Kind,dI n_N,dI n_Min,dL 2 qe n_Set,dL 5 qg n_L]] []=(rF (qb.mk n_Kind n_N n_Min n_Set n_L)).bind (fun e=>some (R.agg [dI e.Kind,dI e.N,dI e.Min,dL 2 qe e.Set,dL 5 qg e.L],[])):=fun n_Kind n_N n_Min n_Set n_L=>hF (qb.mk n_Kind n_N n_Min n_Set n_L)
 rw[q04 qvE qAC]
 have:=qAW;have:=q3U rE rF hF hM hR;have:=@JQ.eq_1;have:=@QX.eq_1;exact gA
theorem q1q:∀x y,Q7 x=Q7 y→x=y:=by
 rintro⟨a_0,a_1,a_2,a_3,a_4⟩ ⟨b_0,b_1,b_2,b_3,b_4⟩ h
 simp only[Q7,Prod.mk.injEq,List.cons.injEq,R.c.injEq,R.agg.injEq,R.tup.injEq,C.d.injEq,C.own.injEq,C.ptr.injEq,C.eptr.injEq,D.int.injEq,D.bool.injEq,D.str.injEq,D.sl.injEq,B.blk.injEq,B.row.injEq,QB,ZV,QW,Zc,Zy,Zw,Zr,Jq,Zx,Jt,Jz,QA,true_and,and_true,List.nil_append] at h
 simp only[h]
theorem q65:∀x y,QX x=QX y→x=y:=by
 rintro⟨a_0,a_1,a_2,a_3,a_4⟩ ⟨b_0,b_1,b_2,b_3,b_4⟩ h
 simp only[QX,Prod.mk.injEq,List.cons.injEq,R.c.injEq,R.agg.injEq,R.tup.injEq,C.d.injEq,C.own.injEq,C.ptr.injEq,C.eptr.injEq,D.int.injEq,D.bool.injEq,D.str.injEq,D.sl.injEq,B.blk.injEq,B.row.injEq,QB,ZV,QW,Zc,Zy,Zw,Zr,Jq,Zx,Jt,Jz,QA,true_and,and_true,List.nil_append] at h
 simp only[h]
noncomputable def Zl:qb→Option qb:=q3b 29 0 Q7 QX
theorem q9E (x:qb):Zl x=JQ Zl x:=q4x qy1.2.2.2 q1q q65 q3Z x
theorem q8l (n:qb):ev 29 0 [R.agg [dI n.Kind,dI n.N,dI n.Min,dL 2 qe n.Set,dL 5 qg n.L]] []=(Zl n).bind (fun(e:qb)=>some (R.agg [dI e.Kind,dI e.N,dI e.Min,dL 2 qe e.Set,dL 5 qg e.L],[])):=(q2M qy1.2.2.2 q1q q3Z n)
theorem q3S:∀(n_Kind n_N n_Min:Int) (n_Set:List qc) (n_L:List qb),ev 29 0 [R.agg [dI n_Kind,dI n_N,dI n_Min,dL 2 qe n_Set,dL 5 qg n_L]] []=(Zl (qb.mk n_Kind n_N n_Min n_Set n_L)).bind (fun(e:qb)=>some (R.agg [dI e.Kind,dI e.N,dI e.Min,dL 2 qe e.Set,dL 5 qg e.L],[])) :=
 fun n_Kind n_N n_Min n_Set n_L=>q8l (qb.mk n_Kind n_N n_Min n_Set n_L)
noncomputable def JN (nodes:List qj):(List qb×Int)→Option ((List qb×Int)⊕(List qb))|(out,i)=>if i<((nodes.length:Nat):Int) then if 0≤i∧i<((nodes.length:Nat):Int) then Option.bind nodes[Int.toNat i]? fun(a:qj)=>if Zm a.Need=Bool.true then if 0≤i∧i<((nodes.length:Nat):Int) then Option.bind nodes[Int.toNat i]? fun(a2:qj)=>Option.bind (Zl a2.Need) fun(a3:qb)=>if out.length+1≤Go.maxLen∧(out.length+1)*72≤140737488355328 then some (Sum.inl (out++[a3],w64 (i+1))) else none else none else some (Sum.inl (out,w64 (i+1))) else none else some (Sum.inr out)
theorem q4K:∀(out:List qb) (nodes:List qj) (i:Int) (out_len:Nat),out_len=out.length→XL2 evo 44 0 4 ⟨[(3,rL 6 qk nodes),(5,rO 0 5 out_len),(6,rI i)],[(0,bR 30 5 qg out)],1,34⟩=(qq (JN nodes) (out,i)).bind (fun(e:List qb)=>some (Go.Exit.exit 0,⟨[(5,rO 0 5 e.length)],[(0,bR 30 5 qg e)],1,34⟩)) :=
 by
 intro out nodes i out_len h0
 subst h0
 revert i;revert out;exact q3v qmx qmb (fun e=>by exact⟨_,rfl,fun h=>by cases h⟩) fun out i=>by
  have:=qz2;have:=@qeY.eq_1;have:=@q1C;have:=@q3S;have:=@JN.eq_1;exact gA
theorem q34:∀  (i:Int),XL2 evo 44 0 4 ⟨[(3,R.c (C.d (D.sl 6 0 []))),(5,rO 0 5 0),(6,rI i)],[(0,B.row 30 5 [])],1,34⟩=(qq (JN []) ([],i)).bind (fun(e:List qb)=>some (Go.Exit.exit 0,⟨[(5,rO 0 5 e.length)],[(0,bR 30 5 qg e)],1,34⟩)):=by
 intro i;have h:=q4K [] [] i _ rfl
 first
  | exact h
  | (simp only[rL,dL,bR,bZ,Nat.reduceAdd] at h;exact h)
noncomputable def zK (nodes:List qj):(List qb×Int)→Option ((List qb×Int)⊕(List qb))|(out,i)=>if i<((nodes.length:Nat):Int) then if 0≤i∧i<((nodes.length:Nat):Int) then Option.bind nodes[Int.toNat i]? fun(a:qj)=>if Zm a.Need=Bool.true then if 0≤i∧i<((nodes.length:Nat):Int) then Option.bind nodes[Int.toNat i]? fun(a2:qj)=>Option.bind (Zl a2.Need) fun(a3:qb)=>if out.length+1≤Go.maxLen∧(out.length+1)*72≤140737488355328 then some (Sum.inl (out++[a3],w64 (i+1))) else none else none else some (Sum.inl (out,w64 (i+1))) else none else some (Sum.inr out)
theorem q3H:∀(nodes:List qj) (out:List qb) (i:Int) (nodes_len out_len:Nat),nodes_len=nodes.length→out_len=out.length→XL2 evo 44 0 4 ⟨[(3,rO 0 6 nodes_len),(5,rO 1 5 out_len),(6,rI i)],[(0,bR 126 6 qk nodes),(1,bR 30 5 qg out)],2,34⟩=(qq (zK nodes) (out,i)).bind (fun(e:List qb)=>some (Go.Exit.exit 0,⟨[(5,rO 0 5 e.length)],[(0,bR 30 5 qg e)],1,34⟩)) :=
 by
 intro nodes out i nodes_len out_len h0 h1
 subst h0 h1
 revert i;revert out;exact q3v qmx qmb (fun e=>by exact⟨_,rfl,fun h=>by cases h⟩) fun out i=>by
  have:=qz2;have:=@qeY.eq_1;have:=@q1C;have:=@q3S;have:=@zK.eq_1;exact gA
theorem q2h:∀  (nodes:List qj) (i:Int) (nodes_len:Nat),nodes_len=nodes.length→XL2 evo 44 0 4 ⟨[(3,rO 0 6 nodes_len),(5,rO 1 5 0),(6,rI i)],[(0,bR 126 6 qk nodes),(1,B.row 30 5 [])],2,34⟩=(qq (zK nodes) ([],i)).bind (fun(e:List qb)=>some (Go.Exit.exit 0,⟨[(5,rO 0 5 e.length)],[(0,bR 30 5 qg e)],1,34⟩)):=by
 intro nodes i nodes_len h0;subst h0;have h:=q3H nodes [] i _ _ rfl rfl
 first
  | exact h
  | (simp only[rL,dL,bR,bZ,Nat.reduceAdd] at h;exact h)
noncomputable def Jc (n:qb):Option (List qb):=Option.bind (Jy n 1) fun(a:Sum Unit (List qj))=>Sum.elim (fun(a2:Unit)=>Option.bind (qq (JN []) ([],0)) fun(a4:List qb)=>some a4) (fun(a3:List qj)=>Option.bind (qq (zK a3) ([],0)) fun(a5:List qb)=>some a5) a
theorem q6M:∀(n_Kind n_N n_Min:Int) (n_Set:List qc) (n_L:List qb),ev 44 0 [R.agg [dI n_Kind,dI n_N,dI n_Min,dL 2 qe n_Set,dL 5 qg n_L]] []=(Jc (qb.mk n_Kind n_N n_Min n_Set n_L)).bind (fun(e:List qb)=>some (rL 5 qg e,[])) :=
 fun n_Kind n_N n_Min n_Set n_L=>by
  rw[qt qvt qB0.2.2.2 qAa]
  have:=qz2;have:=@q1B;have:=@q34;have:=@q2h;have:=@Jc.eq_1;exact gA
noncomputable def zF (w1:List Int) (p_S_Worst:Int) (p_S_Best:Int) (p_S_Pass:Int) (p_L:List qa) (p_Leaf:Int) (set0:Int) (leaf:Int):Int→Option (Int⊕(Unit⊕Unit))|k=>if k<((w1.length:Nat):Int) then if 0≤k then if 0≤k∧k<((w1.length:Nat):Int) then Option.bind w1[Int.toNat k]? fun(a:Int)=>if(!((QT Go.BinOp.and Go.IntKind.i64 (Int.fdiv set0 (2 ^ min (Int.toNat k) (Go.IntKind.bits Go.IntKind.i64))) 1==1)==(a==leaf)))=Bool.true then some (Sum.inr (Sum.inl ())) else some (Sum.inl (w64 (k+1))) else none else none else some (Sum.inr (Sum.inr ()))
theorem q1v:∀(w1:List Int) (p_S_Worst p_S_Best p_S_Pass:Int) (p_L:List qa) (p_Leaf set0 leaf k:Int) (w1_len:Nat),w1_len=w1.length→XL2 evo 87 1 2 ⟨[(0,rP 0),(1,rI set0),(2,rI leaf),(7,rI k)],[(0,B.blk 81 [dI p_S_Worst,dI p_S_Best,dI p_S_Pass,dL 8 qd p_L,dO 1 1 w1_len,dI p_Leaf]),(1,bR 3 1 eI w1)],2,32⟩=(qq (zF w1 p_S_Worst p_S_Best p_S_Pass p_L p_Leaf set0 leaf) k).bind (Sum.elim (fun(e:Unit)=>some (Go.Exit.ret,⟨[(6,rB Bool.false)],[(0,B.blk 81 [dI p_S_Worst,dI p_S_Best,dI p_S_Pass,dL 8 qd p_L,dO 1 1 w1.length,dI p_Leaf]),(1,bR 3 1 eI w1)],2,32⟩)) (fun(e:Unit)=>some (Go.Exit.exit 0,⟨[(6,R.any)],[(0,B.blk 81 [dI p_S_Worst,dI p_S_Best,dI p_S_Pass,dL 8 qd p_L,dO 1 1 w1.length,dI p_Leaf]),(1,bR 3 1 eI w1)],2,32⟩))) :=
 by
 intro w1 p_S_Worst p_S_Best p_S_Pass p_L p_Leaf set0 leaf k w1_len h0
 subst h0
 revert k;exact q89 qmD qmq (fun e=>by rcases e with _|_<;>exact⟨_,rfl,fun h=>by cases h⟩) fun x=>by
  have:=qw5;have:=@qee.eq_1;have:=@zF.eq_1;exact gA
noncomputable def QS (set0:Int) (leaf:Int) (w1:List Int) (p_S_Worst:Int) (p_S_Best:Int) (p_S_Pass:Int) (p_L:List qa) (p_Leaf:Int):Option Bool:=Option.bind (qq (zF w1 p_S_Worst p_S_Best p_S_Pass p_L p_Leaf set0 leaf) 0) fun(a:Sum Unit Unit)=>Sum.elim (fun(a2:Unit)=>some Bool.false) (fun(a3:Unit)=>some Bool.true) a
theorem q2s:∀(set0 leaf:Int) (w1:List Int) (p_S_Worst p_S_Best p_S_Pass:Int) (p_L:List qa) (p_Leaf:Int) (w1_len:Nat),w1_len=w1.length→ev 87 1 [rP 0,rI set0,rI leaf] [(0,B.blk 81 [dI p_S_Worst,dI p_S_Best,dI p_S_Pass,dL 8 qd p_L,dO 1 1 w1_len,dI p_Leaf]),(1,bR 3 1 eI w1)]=(QS set0 leaf w1 p_S_Worst p_S_Best p_S_Pass p_L p_Leaf).bind (fun(e:Bool)=>some (rB e,[(0,B.blk 81 [dI p_S_Worst,dI p_S_Best,dI p_S_Pass,dL 8 qd p_L,dO 1 1 w1.length,dI p_Leaf]),(1,bR 3 1 eI w1)])) :=
 by
 intro set0 leaf w1 p_S_Worst p_S_Best p_S_Pass p_L p_Leaf w1_len h0
 subst h0
 rw[qt qsV qxL.2.2.2 qyz]
 have:=qw5;have:=@q1v;have:=@QS.eq_1;exact gA
noncomputable def qv (w1:List Int) (w3:List Bool) (b0_S_Worst:Int) (b0_S_Best:Int) (b0_S_Pass:Int) (b0_L:List qa) (b0_Leaf:Int) (b2:qb) (t6:Int):(Int×Int×Bool×Int)→Option ((Int×Int×Bool×Int)⊕(Int×Int×Bool))|(t7,t8,t9,t10)=>if t10<((b0_L.length:Nat):Int) then if t9=Bool.true then if 0≤t10 then if(QT Go.BinOp.and Go.IntKind.i64 (Int.fdiv t6 (2 ^ min (Int.toNat t10) (Go.IntKind.bits Go.IntKind.i64))) 1==1)=Bool.true then if 0≤t10∧t10<((b0_L.length:Nat):Int) then Option.bind b0_L[Int.toNat t10]? fun(a:qa)=>if 0≤t10∧t10<((b0_L.length:Nat):Int) then Option.bind b0_L[Int.toNat t10]? fun(a2:qa)=>Option.bind (q0h b2 (qf.mk b0_S_Worst b0_S_Best b0_S_Pass) a2) fun(a3:Bool)=>some (Sum.inl (w64 (t7+1),w64 (t8+a.Credits),a3,w64 (t10+1))) else none else none else some (Sum.inl (t7,t8,t9,w64 (t10+1))) else none else some (Sum.inr (t7,t8,t9)) else some (Sum.inr (t7,t8,t9))
theorem q1y:∀(w1:List Int) (w3:List Bool) (b0_S_Worst b0_S_Best b0_S_Pass:Int) (b0_L:List qa) (b0_Leaf b2_Kind b2_N b2_Min:Int) (b2_Set:List qc) (b2_L:List qb) (t6 t7 t8:Int) (t9:Bool) (t10:Int) (w3_len w1_len:Nat),w3_len=w3.length→w1_len=w1.length→XL2 evo 65 1 9 ⟨[(0,rP 0),(3,rP 2),(5,rO 3 1 w3_len),(6,rI t6),(7,rI t7),(8,rI t8),(9,rB t9),(10,rI t10)],[(0,B.blk 81 [dI b0_S_Worst,dI b0_S_Best,dI b0_S_Pass,dL 8 qd b0_L,dO 1 1 w1_len,dI b0_Leaf]),(1,bR 3 1 eI w1),(2,B.blk 30 [dI b2_Kind,dI b2_N,dI b2_Min,dL 2 qe b2_Set,dL 5 qg b2_L]),(3,bR 4 1 eB w3)],4,102⟩=(qq (qv w1 w3 b0_S_Worst b0_S_Best b0_S_Pass b0_L b0_Leaf (qb.mk b2_Kind b2_N b2_Min b2_Set b2_L) t6) (t7,t8,t9,t10)).bind (fun(e:Int×Int×Bool)=>some (Go.Exit.exit 2,⟨[(0,rP 0),(3,rP 2),(5,rO 3 1 w3.length),(6,rI t6),(7,rI e.1),(8,rI e.2.1),(9,rB e.2.2)],[(0,B.blk 81 [dI b0_S_Worst,dI b0_S_Best,dI b0_S_Pass,dL 8 qd b0_L,dO 1 1 w1.length,dI b0_Leaf]),(1,bR 3 1 eI w1),(2,B.blk 30 [dI b2_Kind,dI b2_N,dI b2_Min,dL 2 qe b2_Set,dL 5 qg b2_L]),(3,bR 4 1 eB w3)],4,102⟩)) :=
 by
 intro w1 w3 b0_S_Worst b0_S_Best b0_S_Pass b0_L b0_Leaf b2_Kind b2_N b2_Min b2_Set b2_L t6 t7 t8 t9 t10 w3_len w1_len h0 h1
 subst h0 h1
 revert t10;revert t9;revert t8;revert t7;exact qvx qmR qmn (fun e=>by exact⟨_,rfl,fun h=>by cases h⟩) fun t7 t8 t9 t10=>by
  have:=qqw;have:=@qeP.eq_1;have:=@q4e;have:=@qv.eq_1;exact gA
noncomputable def zm (w1:List Int) (b0_S_Worst:Int) (b0_S_Best:Int) (b0_S_Pass:Int) (b0_L:List qa) (b0_Leaf:Int) (b2:qb):(List Bool×Int)→Option ((List Bool×Int)⊕(List Bool))|(w3,t6)=>if t6<((w3.length:Nat):Int) then Option.bind (QS t6 b0_Leaf w1 b0_S_Worst b0_S_Best b0_S_Pass b0_L b0_Leaf) fun(a:Bool)=>Option.bind (qq (qv w1 w3 b0_S_Worst b0_S_Best b0_S_Pass b0_L b0_Leaf b2 t6) (0,(0,(a,0)))) fun(a2:Prod Int (Prod Int Bool))=>if(b2.Kind==1)=Bool.true then if a2.2.2=Bool.true then if 0≤t6∧t6<((w3.length:Nat):Int) then if Int.toNat t6+1≤w3.length then some (Sum.inl (List.set w3 (Int.toNat t6) (a2.1==1),w64 (t6+1))) else none else none else if 0≤t6∧t6<((w3.length:Nat):Int) then if Int.toNat t6+1≤w3.length then some (Sum.inl (List.set w3 (Int.toNat t6) Bool.false,w64 (t6+1))) else none else none else if a2.2.2=Bool.true then if 0≤t6∧t6<((w3.length:Nat):Int) then if Int.toNat t6+1≤w3.length then some (Sum.inl (List.set w3 (Int.toNat t6) (decide (b2.N≤a2.2.1)),w64 (t6+1))) else none else none else if 0≤t6∧t6<((w3.length:Nat):Int) then if Int.toNat t6+1≤w3.length then some (Sum.inl (List.set w3 (Int.toNat t6) Bool.false,w64 (t6+1))) else none else none else some (Sum.inr w3)
theorem q1D:∀(w1:List Int) (w3:List Bool) (b0_S_Worst b0_S_Best b0_S_Pass:Int) (b0_L:List qa) (b0_Leaf b2_Kind b2_N b2_Min:Int) (b2_Set:List qc) (b2_L:List qb) (t6:Int) (w3_len w1_len:Nat),w3_len=w3.length→w1_len=w1.length→XL2 evo 65 1 3 ⟨[(0,rP 0),(3,rP 2),(5,rO 3 1 w3_len),(6,rI t6)],[(0,B.blk 81 [dI b0_S_Worst,dI b0_S_Best,dI b0_S_Pass,dL 8 qd b0_L,dO 1 1 w1_len,dI b0_Leaf]),(1,bR 3 1 eI w1),(2,B.blk 30 [dI b2_Kind,dI b2_N,dI b2_Min,dL 2 qe b2_Set,dL 5 qg b2_L]),(3,bR 4 1 eB w3)],4,102⟩=(qq (zm w1 b0_S_Worst b0_S_Best b0_S_Pass b0_L b0_Leaf (qb.mk b2_Kind b2_N b2_Min b2_Set b2_L)) (w3,t6)).bind (fun(e:List Bool)=>some (Go.Exit.exit 0,⟨[(0,rP 0),(5,rO 2 1 e.length)],[(0,B.blk 81 [dI b0_S_Worst,dI b0_S_Best,dI b0_S_Pass,dL 8 qd b0_L,dO 1 1 w1.length,dI b0_Leaf]),(1,bR 3 1 eI w1),(2,bR 4 1 eB e)],3,102⟩)) :=
 by
 intro w1 w3 b0_S_Worst b0_S_Best b0_S_Pass b0_L b0_Leaf b2_Kind b2_N b2_Min b2_Set b2_L t6 w3_len w1_len h0 h1
 subst h0 h1
 revert t6;revert w3;exact q3v qmM qmS (fun e=>by exact⟨_,rfl,fun h=>by cases h⟩) fun w3 t6=>by
  have:=qqw;have:=@qez.eq_1;have:=@q2s;have:=@q1y;have:=@zm.eq_1;exact gA
noncomputable def Qi (x1:qb) (w1:List Int) (S_Worst:Int) (S_Best:Int) (S_Pass:Int) (L0:List qa) (Leaf:Int):Option (List Bool×Int):=if 0≤((L0.length:Nat):Int) then if 0≤w64 (1*2 ^ min L0.length (Go.IntKind.bits Go.IntKind.i64))∧1*w64 (1*2 ^ min L0.length (Go.IntKind.bits Go.IntKind.i64))≤281474976710656∧w64 (1*2 ^ min L0.length (Go.IntKind.bits Go.IntKind.i64))≤9223372036854775807 then Option.bind (qq (zm w1 S_Worst S_Best S_Pass L0 Leaf x1) (List.replicate (Int.toNat (w64 (1*2 ^ min L0.length (Go.IntKind.bits Go.IntKind.i64)))) Bool.false,1)) fun(a:List Bool)=>some (a,w64 (Leaf+1)) else none else none
theorem q2A:∀(x1_Kind x1_N x1_Min:Int) (x1_Set:List qc) (x1_L:List qb) (w1:List Int) (S_Worst S_Best S_Pass:Int) (L0:List qa) (Leaf:Int) (w1_len:Nat),w1_len=w1.length→ev 65 1 [rP 0,R.agg [dI x1_Kind,dI x1_N,dI x1_Min,dL 2 qe x1_Set,dL 5 qg x1_L]] [(0,B.blk 81 [dI S_Worst,dI S_Best,dI S_Pass,dL 8 qd L0,dO 1 1 w1_len,dI Leaf]),(1,bR 3 1 eI w1)]=(Qi (qb.mk x1_Kind x1_N x1_Min x1_Set x1_L) w1 S_Worst S_Best S_Pass L0 Leaf).bind (fun(e:List Bool×Int)=>some (rL 1 eB e.1,[(0,B.blk 81 [dI S_Worst,dI S_Best,dI S_Pass,dL 8 qd L0,dO 1 1 w1.length,dI e.2]),(1,bR 3 1 eI w1)])) :=
 by
 intro x1_Kind x1_N x1_Min x1_Set x1_L w1 S_Worst S_Best S_Pass L0 Leaf w1_len h0
 subst h0
 rw[qt qqy qxv.2.2.2 qvr]
 have:=qqw;have:=@q1D;have:=@Qi.eq_1;exact gA
noncomputable def qp (x:(qb×List Int×Int×Int×Int×List qa×Int)):List R×List (Nat×B):=([R.c (C.ptr 0 0),R.agg [C.d (D.int .i64 x.1.Kind),C.d (D.int .i64 x.1.N),C.d (D.int .i64 x.1.Min),C.d (D.sl 2 x.1.Set.length (x.1.Set.flatMap qe)),C.d (D.sl 5 x.1.L.length (x.1.L.flatMap qg))]],[(0,B.blk 81 [C.d (D.int .i64 x.2.2.1),C.d (D.int .i64 x.2.2.2.1),C.d (D.int .i64 x.2.2.2.2.1),C.d (D.sl 8 x.2.2.2.2.2.1.length (x.2.2.2.2.2.1.flatMap qd)),C.own 1 1 0 x.2.1.length,C.d (D.int .i64 x.2.2.2.2.2.2)]),(1,B.row 3 1 ((x.2.1.flatMap eI).map C.d))])
noncomputable def qF:(List Bool×List Int×Int×Int×Int×List qa×Int)→R×List (Nat×B):=fun(e:List Bool×List Int×Int×Int×Int×List qa×Int)=>(R.c (C.d (D.sl 1 e.1.length (e.1.flatMap eB))),[(0,B.blk 81 [C.d (D.int .i64 e.2.2.1),C.d (D.int .i64 e.2.2.2.1),C.d (D.int .i64 e.2.2.2.2.1),C.d (D.sl 8 e.2.2.2.2.2.1.length (e.2.2.2.2.2.1.flatMap qd)),C.own 1 1 0 e.2.1.length,C.d (D.int .i64 e.2.2.2.2.2.2)]),(1,B.row 3 1 ((e.2.1.flatMap eI).map C.d))])
noncomputable def zD (rF:(qb×List Int×Int×Int×Int×List qa×Int)→Option (List Bool×List Int×Int×Int×Int×List qa×Int)) (w1:List Int) (b0_S_Worst:Int) (b0_S_Best:Int) (b0_S_Pass:Int) (b0_L:List qa) (b0_Leaf:Int) (b2:qb):(List Int×Int)→Option ((List Int×Int)⊕(List Int))|(w3,t6)=>if t6<((w3.length:Nat):Int) then if 0≤t6∧t6<((w3.length:Nat):Int) then if Int.toNat t6+1≤w3.length then some (Sum.inl (List.set w3 (Int.toNat t6) (-1),w64 (t6+1))) else none else none else some (Sum.inr w3)
theorem q2g (rE:Orc) (rF:(qb×List Int×Int×Int×Int×List qa×Int)→Option (List Bool×List Int×Int×Int×Int×List qa×Int)) (hF:∀y,rE (.fn 35) 1 (qp y).1 (qp y).2=(rF y).bind fun e=>some (qF e)) (hM:∀g k a G,g≠35→rE (.fn g) k a G=ev g k a G) (hR:∀g asg bd k a G,rE (.rd g asg bd) k a G=evr g asg bd k a G):∀(w1 w3:List Int) (b0_S_Worst b0_S_Best b0_S_Pass:Int) (b0_L:List qa) (b0_Leaf b2_Kind b2_N b2_Min:Int) (b2_Set:List qc) (b2_L:List qb) (t6:Int) (w3_len w1_len:Nat),w3_len=w3.length→w1_len=w1.length→XL2 rE 35 1 5 ⟨[(0,rP 0),(3,rP 2),(5,rO 3 1 w3_len),(6,rI t6)],[(0,B.blk 81 [dI b0_S_Worst,dI b0_S_Best,dI b0_S_Pass,dL 8 qd b0_L,dO 1 1 w1_len,dI b0_Leaf]),(1,bR 3 1 eI w1),(2,B.blk 30 [dI b2_Kind,dI b2_N,dI b2_Min,dL 2 qe b2_Set,dL 5 qg b2_L]),(3,bR 3 1 eI w3)],4,158⟩=(qq (zD rF w1 b0_S_Worst b0_S_Best b0_S_Pass b0_L b0_Leaf (qb.mk b2_Kind b2_N b2_Min b2_Set b2_L)) (w3,t6)).bind (fun(e:List Int)=>some (Go.Exit.exit 0,⟨[(0,rP 0),(3,rP 2),(5,rO 3 1 e.length)],[(0,B.blk 81 [dI b0_S_Worst,dI b0_S_Best,dI b0_S_Pass,dL 8 qd b0_L,dO 1 1 w1.length,dI b0_Leaf]),(1,bR 3 1 eI w1),(2,B.blk 30 [dI b2_Kind,dI b2_N,dI b2_Min,dL 2 qe b2_Set,dL 5 qg b2_L]),(3,bR 3 1 eI e)],4,158⟩)) :=
 by
 intro w1 w3 b0_S_Worst b0_S_Best b0_S_Pass b0_L b0_Leaf b2_Kind b2_N b2_Min b2_Set b2_L t6 w3_len w1_len h0 h1
 subst h0 h1
 revert t6;revert w3;exact q3v qmo qmJ (fun e=>by exact⟨_,rfl,fun h=>by cases h⟩) fun w3 t6=>by
  have hF':∀(x1_Kind x1_N x1_Min:Int) (x1_Set:List qc) (x1_L:List qb) (w1:List Int) (S_Worst S_Best S_Pass:Int) (L0:List qa) (Leaf:Int) (w1_len:Nat),w1_len=w1.length→rE (.fn 35) 1 [rP 0,R.agg [dI x1_Kind,dI x1_N,dI x1_Min,dL 2 qe x1_Set,dL 5 qg x1_L]] [(0,B.blk 81 [dI S_Worst,dI S_Best,dI S_Pass,dL 8 qd L0,dO 1 1 w1_len,dI Leaf]),(1,bR 3 1 eI w1)]=(rF ((qb.mk x1_Kind x1_N x1_Min x1_Set x1_L),w1,S_Worst,S_Best,S_Pass,L0,Leaf)).bind (fun e=>some (rL 1 eB e.1,[(0,B.blk 81 [dI e.2.2.1,dI e.2.2.2.1,dI e.2.2.2.2.1,dL 8 qd e.2.2.2.2.2.1,dO 1 1 e.2.1.length,dI e.2.2.2.2.2.2]),(1,bR 3 1 eI e.2.1)])):=by intro x1_Kind x1_N x1_Min x1_Set x1_L w1 S_Worst S_Best S_Pass L0 Leaf w1_len h0;subst h0;exact hF ((qb.mk x1_Kind x1_N x1_Min x1_Set x1_L),w1,S_Worst,S_Best,S_Pass,L0,Leaf)
  have:=qfZ;have:=@qeq.eq_1;have:=@zD.eq_1;exact gA
noncomputable def zw (w1:List Int) (p_S_Worst:Int) (p_S_Best:Int) (p_S_Pass:Int) (p_L:List qa) (p_Leaf:Int) (from0:Int) (to:Int):Int→Option (Int⊕(Unit⊕Unit))|k=>if k<((w1.length:Nat):Int) then if 0≤k∧k<((w1.length:Nat):Int) then Option.bind w1[Int.toNat k]? fun(a:Int)=>if from0≤a then if 0≤k∧k<((w1.length:Nat):Int) then Option.bind w1[Int.toNat k]? fun(a2:Int)=>if a2<to then some (Sum.inr (Sum.inl ())) else some (Sum.inl (w64 (k+1))) else none else some (Sum.inl (w64 (k+1))) else none else some (Sum.inr (Sum.inr ()))
theorem q1l:∀(w1:List Int) (p_S_Worst p_S_Best p_S_Pass:Int) (p_L:List qa) (p_Leaf from0 to k:Int) (w1_len:Nat),w1_len=w1.length→XL2 evo 66 1 2 ⟨[(0,rP 0),(1,rI from0),(2,rI to),(7,rI k)],[(0,B.blk 81 [dI p_S_Worst,dI p_S_Best,dI p_S_Pass,dL 8 qd p_L,dO 1 1 w1_len,dI p_Leaf]),(1,bR 3 1 eI w1)],2,37⟩=(qq (zw w1 p_S_Worst p_S_Best p_S_Pass p_L p_Leaf from0 to) k).bind (Sum.elim (fun(e:Unit)=>some (Go.Exit.ret,⟨[(6,rB Bool.true)],[(0,B.blk 81 [dI p_S_Worst,dI p_S_Best,dI p_S_Pass,dL 8 qd p_L,dO 1 1 w1.length,dI p_Leaf]),(1,bR 3 1 eI w1)],2,37⟩)) (fun(e:Unit)=>some (Go.Exit.exit 0,⟨[(6,R.any)],[(0,B.blk 81 [dI p_S_Worst,dI p_S_Best,dI p_S_Pass,dL 8 qd p_L,dO 1 1 w1.length,dI p_Leaf]),(1,bR 3 1 eI w1)],2,37⟩))) :=
 by
 intro w1 p_S_Worst p_S_Best p_S_Pass p_L p_Leaf from0 to k w1_len h0
 subst h0
 revert k;exact q89 qmF qm8 (fun e=>by rcases e with _|_<;>exact⟨_,rfl,fun h=>by cases h⟩) fun x=>by
  have:=qvS;have:=@qf5.eq_1;have:=@zw.eq_1;exact gA
noncomputable def QD (from0:Int) (to:Int) (w1:List Int) (p_S_Worst:Int) (p_S_Best:Int) (p_S_Pass:Int) (p_L:List qa) (p_Leaf:Int):Option Bool:=Option.bind (qq (zw w1 p_S_Worst p_S_Best p_S_Pass p_L p_Leaf from0 to) 0) fun(a:Sum Unit Unit)=>Sum.elim (fun(a2:Unit)=>some Bool.true) (fun(a3:Unit)=>some Bool.false) a
theorem q2j:∀(from0 to:Int) (w1:List Int) (p_S_Worst p_S_Best p_S_Pass:Int) (p_L:List qa) (p_Leaf:Int) (w1_len:Nat),w1_len=w1.length→ev 66 1 [rP 0,rI from0,rI to] [(0,B.blk 81 [dI p_S_Worst,dI p_S_Best,dI p_S_Pass,dL 8 qd p_L,dO 1 1 w1_len,dI p_Leaf]),(1,bR 3 1 eI w1)]=(QD from0 to w1 p_S_Worst p_S_Best p_S_Pass p_L p_Leaf).bind (fun(e:Bool)=>some (rB e,[(0,B.blk 81 [dI p_S_Worst,dI p_S_Best,dI p_S_Pass,dL 8 qd p_L,dO 1 1 w1.length,dI p_Leaf]),(1,bR 3 1 eI w1)])) :=
 by
 intro from0 to w1 p_S_Worst p_S_Best p_S_Pass p_L p_Leaf w1_len h0
 subst h0
 rw[qt qsZ qwy.2.2.2 qx6]
 have:=qvS;have:=@q1l;have:=@QD.eq_1;exact gA
noncomputable def qD (rF:(qb×List Int×Int×Int×Int×List qa×Int)→Option (List Bool×List Int×Int×Int×Int×List qa×Int)) (w1:List Int) (w3:List Int) (b0_S_Worst:Int) (b0_S_Best:Int) (b0_S_Pass:Int) (b0_L:List qa) (b0_Leaf:Int) (b2:qb) (t7:Int) (t9:List Bool) (t10:Bool) (t12:Int):(List Int×Int)→Option ((List Int×Int)⊕(List Int))|(w4,t13)=>if 0<t13 then if 0≤t13∧t13<((t9.length:Nat):Int) then Option.bind t9[Int.toNat t13]? fun(a2:Bool)=>if a2=Bool.true then if 0≤w64 (t12-t13)∧w64 (t12-t13)<((w3.length:Nat):Int) then Option.bind w3[Int.toNat (w64 (t12-t13))]? fun(a3:Int)=>if 0≤a3 then if 0≤t12∧t12<((w4.length:Nat):Int) then Option.bind w4[Int.toNat t12]? fun(a4:Int)=>if 0≤w64 (t12-t13)∧w64 (t12-t13)<((w3.length:Nat):Int) then Option.bind w3[Int.toNat (w64 (t12-t13))]? fun(a5:Int)=>if 0≤t12∧t12<((w4.length:Nat):Int) then if Int.toNat t12+1≤w4.length then some (Sum.inl (List.set w4 (Int.toNat t12) (max a4 (w64 (a5+1))),QT Go.BinOp.and Go.IntKind.i64 (w64 (t13-1)) t12)) else none else none else none else none else some (Sum.inl (w4,QT Go.BinOp.and Go.IntKind.i64 (w64 (t13-1)) t12)) else none else some (Sum.inl (w4,QT Go.BinOp.and Go.IntKind.i64 (w64 (t13-1)) t12)) else none else some (Sum.inr w4)
theorem q1I (rE:Orc) (rF:(qb×List Int×Int×Int×Int×List qa×Int)→Option (List Bool×List Int×Int×Int×Int×List qa×Int)) (hF:∀y,rE (.fn 35) 1 (qp y).1 (qp y).2=(rF y).bind fun e=>some (qF e)) (hM:∀g k a G,g≠35→rE (.fn g) k a G=ev g k a G) (hR:∀g asg bd k a G,rE (.rd g asg bd) k a G=evr g asg bd k a G):∀(w1 w3 w4:List Int) (b0_S_Worst b0_S_Best b0_S_Pass:Int) (b0_L:List qa) (b0_Leaf b2_Kind b2_N b2_Min:Int) (b2_Set:List qc) (b2_L:List qb) (t7:Int) (t9:List Bool) (t10:Bool) (t12 t13:Int) (w3_len w4_len w1_len:Nat),w3_len=w3.length→w4_len=w4.length→w1_len=w1.length→XL2 rE 35 1 22 ⟨[(0,rP 0),(3,rP 2),(5,rO 3 1 w3_len),(7,rI t7),(9,rL 1 eB t9),(10,rB t10),(11,rO 4 1 w4_len),(12,rI t12),(13,rI t13)],[(0,B.blk 81 [dI b0_S_Worst,dI b0_S_Best,dI b0_S_Pass,dL 8 qd b0_L,dO 1 1 w1_len,dI b0_Leaf]),(1,bR 3 1 eI w1),(2,B.blk 30 [dI b2_Kind,dI b2_N,dI b2_Min,dL 2 qe b2_Set,dL 5 qg b2_L]),(3,bR 3 1 eI w3),(4,bR 3 1 eI w4)],5,158⟩=(qq (qD rF w1 w3 b0_S_Worst b0_S_Best b0_S_Pass b0_L b0_Leaf (qb.mk b2_Kind b2_N b2_Min b2_Set b2_L) t7 t9 t10 t12) (w4,t13)).bind (fun(e:List Int)=>some (Go.Exit.exit 6,⟨[(0,rP 0),(3,rP 2),(5,rO 3 1 w3.length),(7,rI t7),(9,rL 1 eB t9),(10,rB t10),(11,rO 4 1 e.length),(12,rI t12)],[(0,B.blk 81 [dI b0_S_Worst,dI b0_S_Best,dI b0_S_Pass,dL 8 qd b0_L,dO 1 1 w1.length,dI b0_Leaf]),(1,bR 3 1 eI w1),(2,B.blk 30 [dI b2_Kind,dI b2_N,dI b2_Min,dL 2 qe b2_Set,dL 5 qg b2_L]),(3,bR 3 1 eI w3),(4,bR 3 1 eI e)],5,158⟩)) :=
 by
 intro w1 w3 w4 b0_S_Worst b0_S_Best b0_S_Pass b0_L b0_Leaf b2_Kind b2_N b2_Min b2_Set b2_L t7 t9 t10 t12 t13 w3_len w4_len w1_len h0 h1 h2
 subst h0 h1 h2
 revert t13;revert w4;exact q3v qiS qhF (fun e=>by exact⟨_,rfl,fun h=>by cases h⟩) fun w4 t13=>by
  have hF':∀(x1_Kind x1_N x1_Min:Int) (x1_Set:List qc) (x1_L:List qb) (w1:List Int) (S_Worst S_Best S_Pass:Int) (L0:List qa) (Leaf:Int) (w1_len:Nat),w1_len=w1.length→rE (.fn 35) 1 [rP 0,R.agg [dI x1_Kind,dI x1_N,dI x1_Min,dL 2 qe x1_Set,dL 5 qg x1_L]] [(0,B.blk 81 [dI S_Worst,dI S_Best,dI S_Pass,dL 8 qd L0,dO 1 1 w1_len,dI Leaf]),(1,bR 3 1 eI w1)]=(rF ((qb.mk x1_Kind x1_N x1_Min x1_Set x1_L),w1,S_Worst,S_Best,S_Pass,L0,Leaf)).bind (fun e=>some (rL 1 eB e.1,[(0,B.blk 81 [dI e.2.2.1,dI e.2.2.2.1,dI e.2.2.2.2.1,dL 8 qd e.2.2.2.2.2.1,dO 1 1 e.2.1.length,dI e.2.2.2.2.2.2]),(1,bR 3 1 eI e.2.1)])):=by intro x1_Kind x1_N x1_Min x1_Set x1_L w1 S_Worst S_Best S_Pass L0 Leaf w1_len h0;subst h0;exact hF ((qb.mk x1_Kind x1_N x1_Min x1_Set x1_L),w1,S_Worst,S_Best,S_Pass,L0,Leaf)
  have:=qfZ;have:=@qaE.eq_1;have:=@qD.eq_1;exact gA
noncomputable def zp (rF:(qb×List Int×Int×Int×Int×List qa×Int)→Option (List Bool×List Int×Int×Int×Int×List qa×Int)) (w1:List Int) (w3:List Int) (b0_S_Worst:Int) (b0_S_Best:Int) (b0_S_Pass:Int) (b0_L:List qa) (b0_Leaf:Int) (b2:qb) (t7:Int) (t9:List Bool) (t10:Bool):(List Int×Int)→Option ((List Int×Int)⊕(List Int))|(w4,t12)=>if t12<((w3.length:Nat):Int) then if 0≤t12∧t12<((w4.length:Nat):Int) then if Int.toNat t12+1≤w4.length then if(b2.Kind==4)=Bool.true then if(!t10)=Bool.true then if 0≤t12∧t12<((w3.length:Nat):Int) then Option.bind w3[Int.toNat t12]? fun(a2:Int)=>if 0≤t12∧t12<((w4.length:Nat):Int) then if Int.toNat t12+1≤w4.length then Option.bind (qq (qD rF w1 w3 b0_S_Worst b0_S_Best b0_S_Pass b0_L b0_Leaf b2 t7 t9 t10 t12) (List.set (List.set w4 (Int.toNat t12) (-1)) (Int.toNat t12) a2,t12)) fun(a3:List Int)=>some (Sum.inl (a3,w64 (t12+1))) else none else none else none else Option.bind (qq (qD rF w1 w3 b0_S_Worst b0_S_Best b0_S_Pass b0_L b0_Leaf b2 t7 t9 t10 t12) (List.set w4 (Int.toNat t12) (-1),t12)) fun(a4:List Int)=>some (Sum.inl (a4,w64 (t12+1))) else Option.bind (qq (qD rF w1 w3 b0_S_Worst b0_S_Best b0_S_Pass b0_L b0_Leaf b2 t7 t9 t10 t12) (List.set w4 (Int.toNat t12) (-1),t12)) fun(a5:List Int)=>some (Sum.inl (a5,w64 (t12+1))) else none else none else some (Sum.inr w4)
theorem q1J (rE:Orc) (rF:(qb×List Int×Int×Int×Int×List qa×Int)→Option (List Bool×List Int×Int×Int×Int×List qa×Int)) (hF:∀y,rE (.fn 35) 1 (qp y).1 (qp y).2=(rF y).bind fun e=>some (qF e)) (hM:∀g k a G,g≠35→rE (.fn g) k a G=ev g k a G) (hR:∀g asg bd k a G,rE (.rd g asg bd) k a G=evr g asg bd k a G):∀(w1 w3 w4:List Int) (b0_S_Worst b0_S_Best b0_S_Pass:Int) (b0_L:List qa) (b0_Leaf b2_Kind b2_N b2_Min:Int) (b2_Set:List qc) (b2_L:List qb) (t7:Int) (t9:List Bool) (t10:Bool) (t12:Int) (w3_len w4_len w1_len:Nat),w3_len=w3.length→w4_len=w4.length→w1_len=w1.length→XL2 rE 35 1 16 ⟨[(0,rP 0),(3,rP 2),(5,rO 3 1 w3_len),(7,rI t7),(9,rL 1 eB t9),(10,rB t10),(11,rO 4 1 w4_len),(12,rI t12)],[(0,B.blk 81 [dI b0_S_Worst,dI b0_S_Best,dI b0_S_Pass,dL 8 qd b0_L,dO 1 1 w1_len,dI b0_Leaf]),(1,bR 3 1 eI w1),(2,B.blk 30 [dI b2_Kind,dI b2_N,dI b2_Min,dL 2 qe b2_Set,dL 5 qg b2_L]),(3,bR 3 1 eI w3),(4,bR 3 1 eI w4)],5,158⟩=(qq (zp rF w1 w3 b0_S_Worst b0_S_Best b0_S_Pass b0_L b0_Leaf (qb.mk b2_Kind b2_N b2_Min b2_Set b2_L) t7 t9 t10) (w4,t12)).bind (fun(e:List Int)=>some (Go.Exit.exit 4,⟨[(0,rP 0),(3,rP 2),(7,rI t7),(11,rO 3 1 e.length)],[(0,B.blk 81 [dI b0_S_Worst,dI b0_S_Best,dI b0_S_Pass,dL 8 qd b0_L,dO 1 1 w1.length,dI b0_Leaf]),(1,bR 3 1 eI w1),(2,B.blk 30 [dI b2_Kind,dI b2_N,dI b2_Min,dL 2 qe b2_Set,dL 5 qg b2_L]),(3,bR 3 1 eI e)],4,158⟩)) :=
 by
 intro w1 w3 w4 b0_S_Worst b0_S_Best b0_S_Pass b0_L b0_Leaf b2_Kind b2_N b2_Min b2_Set b2_L t7 t9 t10 t12 w3_len w4_len w1_len h0 h1 h2
 subst h0 h1 h2
 revert t12;revert w4;exact q3v qhr qjE (fun e=>by exact⟨_,rfl,fun h=>by cases h⟩) fun w4 t12=>by
  have hF':∀(x1_Kind x1_N x1_Min:Int) (x1_Set:List qc) (x1_L:List qb) (w1:List Int) (S_Worst S_Best S_Pass:Int) (L0:List qa) (Leaf:Int) (w1_len:Nat),w1_len=w1.length→rE (.fn 35) 1 [rP 0,R.agg [dI x1_Kind,dI x1_N,dI x1_Min,dL 2 qe x1_Set,dL 5 qg x1_L]] [(0,B.blk 81 [dI S_Worst,dI S_Best,dI S_Pass,dL 8 qd L0,dO 1 1 w1_len,dI Leaf]),(1,bR 3 1 eI w1)]=(rF ((qb.mk x1_Kind x1_N x1_Min x1_Set x1_L),w1,S_Worst,S_Best,S_Pass,L0,Leaf)).bind (fun e=>some (rL 1 eB e.1,[(0,B.blk 81 [dI e.2.2.1,dI e.2.2.2.1,dI e.2.2.2.2.1,dL 8 qd e.2.2.2.2.2.1,dO 1 1 e.2.1.length,dI e.2.2.2.2.2.2]),(1,bR 3 1 eI e.2.1)])):=by intro x1_Kind x1_N x1_Min x1_Set x1_L w1 S_Worst S_Best S_Pass L0 Leaf w1_len h0;subst h0;exact hF ((qb.mk x1_Kind x1_N x1_Min x1_Set x1_L),w1,S_Worst,S_Best,S_Pass,L0,Leaf)
  have:=qfZ;have:=@qbp.eq_1;have:=q1I rE rF hF hM hR;have:=@zp.eq_1;exact gA
noncomputable def zd (rF:(qb×List Int×Int×Int×Int×List qa×Int)→Option (List Bool×List Int×Int×Int×Int×List qa×Int)) (b2:qb):(List Int×List Int×Int×Int×Int×List qa×Int×Int)→Option ((List Int×List Int×Int×Int×Int×List qa×Int×Int)⊕(List Int×List Int×Int×Int×Int×List qa×Int))|(w1,w3,b0_S_Worst,b0_S_Best,b0_S_Pass,b0_L,b0_Leaf,t7)=>if t7<((b2.L.length:Nat):Int) then if 0≤t7∧t7<((b2.L.length:Nat):Int) then Option.bind b2.L[Int.toNat t7]? fun(a2:qb)=>Option.bind (rF (a2,(w1,(b0_S_Worst,(b0_S_Best,(b0_S_Pass,(b0_L,b0_Leaf))))))) fun(a3:Prod (List Bool) (Prod (List Int) (Prod Int (Prod Int (Prod Int (Prod (List qa) Int))))))=>Option.bind (QD b0_Leaf a3.2.2.2.2.2.2 a3.2.1 a3.2.2.1 a3.2.2.2.1 a3.2.2.2.2.1 a3.2.2.2.2.2.1 a3.2.2.2.2.2.2) fun(a4:Bool)=>if 0≤((w3.length:Nat):Int)∧8*((w3.length:Nat):Int)≤281474976710656∧((w3.length:Nat):Int)≤9223372036854775807 then Option.bind (qq (zp rF a3.2.1 w3 a3.2.2.1 a3.2.2.2.1 a3.2.2.2.2.1 a3.2.2.2.2.2.1 a3.2.2.2.2.2.2 b2 t7 a3.1 a4) (List.replicate w3.length 0,0)) fun(a5:List Int)=>some (Sum.inl (a3.2.1,a5,a3.2.2.1,a3.2.2.2.1,a3.2.2.2.2.1,a3.2.2.2.2.2.1,a3.2.2.2.2.2.2,w64 (t7+1))) else none else none else some (Sum.inr (w1,w3,b0_S_Worst,b0_S_Best,b0_S_Pass,b0_L,b0_Leaf))
theorem q2d (rE:Orc) (rF:(qb×List Int×Int×Int×Int×List qa×Int)→Option (List Bool×List Int×Int×Int×Int×List qa×Int)) (hF:∀y,rE (.fn 35) 1 (qp y).1 (qp y).2=(rF y).bind fun e=>some (qF e)) (hM:∀g k a G,g≠35→rE (.fn g) k a G=ev g k a G) (hR:∀g asg bd k a G,rE (.rd g asg bd) k a G=evr g asg bd k a G):∀(w1 w3:List Int) (b0_S_Worst b0_S_Best b0_S_Pass:Int) (b0_L:List qa) (b0_Leaf b2_Kind b2_N b2_Min:Int) (b2_Set:List qc) (b2_L:List qb) (t7:Int) (w3_len w1_len:Nat),w3_len=w3.length→w1_len=w1.length→XL2 rE 35 1 9 ⟨[(0,rP 0),(3,rP 2),(5,rO 3 1 w3_len),(7,rI t7)],[(0,B.blk 81 [dI b0_S_Worst,dI b0_S_Best,dI b0_S_Pass,dL 8 qd b0_L,dO 1 1 w1_len,dI b0_Leaf]),(1,bR 3 1 eI w1),(2,B.blk 30 [dI b2_Kind,dI b2_N,dI b2_Min,dL 2 qe b2_Set,dL 5 qg b2_L]),(3,bR 3 1 eI w3)],4,158⟩=(qq (zd rF (qb.mk b2_Kind b2_N b2_Min b2_Set b2_L)) (w1,w3,b0_S_Worst,b0_S_Best,b0_S_Pass,b0_L,b0_Leaf,t7)).bind (fun(e:List Int×List Int×Int×Int×Int×List qa×Int)=>some (Go.Exit.exit 2,⟨[(3,rP 2),(5,rO 3 1 e.2.1.length)],[(0,B.blk 81 [dI e.2.2.1,dI e.2.2.2.1,dI e.2.2.2.2.1,dL 8 qd e.2.2.2.2.2.1,dO 1 1 e.1.length,dI e.2.2.2.2.2.2]),(1,bR 3 1 eI e.1),(2,B.blk 30 [dI b2_Kind,dI b2_N,dI b2_Min,dL 2 qe b2_Set,dL 5 qg b2_L]),(3,bR 3 1 eI e.2.1)],4,158⟩)) :=
 by
 intro w1 w3 b0_S_Worst b0_S_Best b0_S_Pass b0_L b0_Leaf b2_Kind b2_N b2_Min b2_Set b2_L t7 w3_len w1_len h0 h1
 subst h0 h1
 revert t7;revert b0_Leaf;revert b0_L;revert b0_S_Pass;revert b0_S_Best;revert b0_S_Worst;revert w3;revert w1;exact qCE qmT qn0 (fun e=>by exact⟨_,rfl,fun h=>by cases h⟩) fun w1 w3 b0_S_Worst b0_S_Best b0_S_Pass b0_L b0_Leaf t7=>by
  have hF':∀(x1_Kind x1_N x1_Min:Int) (x1_Set:List qc) (x1_L:List qb) (w1:List Int) (S_Worst S_Best S_Pass:Int) (L0:List qa) (Leaf:Int) (w1_len:Nat),w1_len=w1.length→rE (.fn 35) 1 [rP 0,R.agg [dI x1_Kind,dI x1_N,dI x1_Min,dL 2 qe x1_Set,dL 5 qg x1_L]] [(0,B.blk 81 [dI S_Worst,dI S_Best,dI S_Pass,dL 8 qd L0,dO 1 1 w1_len,dI Leaf]),(1,bR 3 1 eI w1)]=(rF ((qb.mk x1_Kind x1_N x1_Min x1_Set x1_L),w1,S_Worst,S_Best,S_Pass,L0,Leaf)).bind (fun e=>some (rL 1 eB e.1,[(0,B.blk 81 [dI e.2.2.1,dI e.2.2.2.1,dI e.2.2.2.2.1,dL 8 qd e.2.2.2.2.2.1,dO 1 1 e.2.1.length,dI e.2.2.2.2.2.2]),(1,bR 3 1 eI e.2.1)])):=by intro x1_Kind x1_N x1_Min x1_Set x1_L w1 S_Worst S_Best S_Pass L0 Leaf w1_len h0;subst h0;exact hF ((qb.mk x1_Kind x1_N x1_Min x1_Set x1_L),w1,S_Worst,S_Best,S_Pass,L0,Leaf)
  have:=qfZ;have:=@qem.eq_1;have:=@q2j;have:=q1J rE rF hF hM hR;have:=@zd.eq_1;exact gA
noncomputable def zc (rF:(qb×List Int×Int×Int×Int×List qa×Int)→Option (List Bool×List Int×Int×Int×Int×List qa×Int)) (w1:List Int) (w2:List Int) (b0_S_Worst:Int) (b0_S_Best:Int) (b0_S_Pass:Int) (b0_L:List qa) (b0_Leaf:Int) (t14:Int):(List Bool×Int)→Option ((List Bool×Int)⊕(List Bool))|(w3,t16)=>if t16<((w2.length:Nat):Int) then if 0≤t16∧t16<((w2.length:Nat):Int) then Option.bind w2[Int.toNat t16]? fun(a2:Int)=>if 0≤t16∧t16<((w3.length:Nat):Int) then if Int.toNat t16+1≤w3.length then some (Sum.inl (List.set w3 (Int.toNat t16) (decide (t14≤a2)),w64 (t16+1))) else none else none else none else some (Sum.inr w3)
theorem q1M (rE:Orc) (rF:(qb×List Int×Int×Int×Int×List qa×Int)→Option (List Bool×List Int×Int×Int×Int×List qa×Int)) (hF:∀y,rE (.fn 35) 1 (qp y).1 (qp y).2=(rF y).bind fun e=>some (qF e)) (hM:∀g k a G,g≠35→rE (.fn g) k a G=ev g k a G) (hR:∀g asg bd k a G,rE (.rd g asg bd) k a G=evr g asg bd k a G):∀(w1 w2:List Int) (w3:List Bool) (b0_S_Worst b0_S_Best b0_S_Pass:Int) (b0_L:List qa) (b0_Leaf t14 t16:Int) (w2_len w3_len w1_len:Nat),w2_len=w2.length→w3_len=w3.length→w1_len=w1.length→XL2 rE 35 1 32 ⟨[(5,rO 2 1 w2_len),(14,rI t14),(15,rO 3 1 w3_len),(16,rI t16)],[(0,B.blk 81 [dI b0_S_Worst,dI b0_S_Best,dI b0_S_Pass,dL 8 qd b0_L,dO 1 1 w1_len,dI b0_Leaf]),(1,bR 3 1 eI w1),(2,bR 3 1 eI w2),(3,bR 4 1 eB w3)],4,158⟩=(qq (zc rF w1 w2 b0_S_Worst b0_S_Best b0_S_Pass b0_L b0_Leaf t14) (w3,t16)).bind (fun(e:List Bool)=>some (Go.Exit.exit 8,⟨[(15,rO 2 1 e.length)],[(0,B.blk 81 [dI b0_S_Worst,dI b0_S_Best,dI b0_S_Pass,dL 8 qd b0_L,dO 1 1 w1.length,dI b0_Leaf]),(1,bR 3 1 eI w1),(2,bR 4 1 eB e)],3,158⟩)) :=
 by
 intro w1 w2 w3 b0_S_Worst b0_S_Best b0_S_Pass b0_L b0_Leaf t14 t16 w2_len w3_len w1_len h0 h1 h2
 subst h0 h1 h2
 revert t16;revert w3;exact q3v qiZ qhE (fun e=>by exact⟨_,rfl,fun h=>by cases h⟩) fun w3 t16=>by
  have hF':∀(x1_Kind x1_N x1_Min:Int) (x1_Set:List qc) (x1_L:List qb) (w1:List Int) (S_Worst S_Best S_Pass:Int) (L0:List qa) (Leaf:Int) (w1_len:Nat),w1_len=w1.length→rE (.fn 35) 1 [rP 0,R.agg [dI x1_Kind,dI x1_N,dI x1_Min,dL 2 qe x1_Set,dL 5 qg x1_L]] [(0,B.blk 81 [dI S_Worst,dI S_Best,dI S_Pass,dL 8 qd L0,dO 1 1 w1_len,dI Leaf]),(1,bR 3 1 eI w1)]=(rF ((qb.mk x1_Kind x1_N x1_Min x1_Set x1_L),w1,S_Worst,S_Best,S_Pass,L0,Leaf)).bind (fun e=>some (rL 1 eB e.1,[(0,B.blk 81 [dI e.2.2.1,dI e.2.2.2.1,dI e.2.2.2.2.1,dL 8 qd e.2.2.2.2.2.1,dO 1 1 e.2.1.length,dI e.2.2.2.2.2.2]),(1,bR 3 1 eI e.2.1)])):=by intro x1_Kind x1_N x1_Min x1_Set x1_L w1 S_Worst S_Best S_Pass L0 Leaf w1_len h0;subst h0;exact hF ((qb.mk x1_Kind x1_N x1_Min x1_Set x1_L),w1,S_Worst,S_Best,S_Pass,L0,Leaf)
  have:=qfZ;have:=@qbl.eq_1;have:=@zc.eq_1;exact gA
noncomputable def Z1 (rF:(qb×List Int×Int×Int×Int×List qa×Int)→Option (List Bool×List Int×Int×Int×Int×List qa×Int)):(qb×List Int×Int×Int×Int×List qa×Int)→Option (List Bool×List Int×Int×Int×Int×List qa×Int)|(x1,w1,S_Worst,S_Best,S_Pass,L0,Leaf)=>if(x1.Kind==1)=Bool.true then Option.bind (Qi x1 w1 S_Worst S_Best S_Pass L0 Leaf) fun(e0:Prod (List Bool) Int)=>some (e0.1,w1,S_Worst,S_Best,S_Pass,L0,e0.2) else if(x1.Kind==2)=Bool.true then Option.bind (Qi x1 w1 S_Worst S_Best S_Pass L0 Leaf) fun(e02:Prod (List Bool) Int)=>some (e02.1,w1,S_Worst,S_Best,S_Pass,L0,e02.2) else if 0≤((L0.length:Nat):Int) then if 0≤w64 (1*2 ^ min L0.length (Go.IntKind.bits Go.IntKind.i64))∧8*w64 (1*2 ^ min L0.length (Go.IntKind.bits Go.IntKind.i64))≤281474976710656∧w64 (1*2 ^ min L0.length (Go.IntKind.bits Go.IntKind.i64))≤9223372036854775807 then Option.bind (qq (zD rF w1 S_Worst S_Best S_Pass L0 Leaf x1) (List.replicate (Int.toNat (w64 (1*2 ^ min L0.length (Go.IntKind.bits Go.IntKind.i64)))) 0,1)) fun(a2:List Int)=>Option.bind (qq (zd rF x1) (w1,(a2,(S_Worst,(S_Best,(S_Pass,(L0,(Leaf,0)))))))) fun(a3:Prod (List Int) (Prod (List Int) (Prod Int (Prod Int (Prod Int (Prod (List qa) Int))))))=>if(x1.Kind==3)=Bool.true then if 0≤((a3.2.1.length:Nat):Int)∧1*((a3.2.1.length:Nat):Int)≤281474976710656∧((a3.2.1.length:Nat):Int)≤9223372036854775807 then Option.bind (qq (zc rF a3.1 a3.2.1 a3.2.2.1 a3.2.2.2.1 a3.2.2.2.2.1 a3.2.2.2.2.2.1 a3.2.2.2.2.2.2 ((x1.L.length:Nat):Int)) (List.replicate a3.2.1.length Bool.false,1)) fun(a4:List Bool)=>some (a4,a3.1,a3.2.2.1,a3.2.2.2.1,a3.2.2.2.2.1,a3.2.2.2.2.2.1,a3.2.2.2.2.2.2) else none else if 0≤((a3.2.1.length:Nat):Int)∧1*((a3.2.1.length:Nat):Int)≤281474976710656∧((a3.2.1.length:Nat):Int)≤9223372036854775807 then Option.bind (qq (zc rF a3.1 a3.2.1 a3.2.2.1 a3.2.2.2.1 a3.2.2.2.2.1 a3.2.2.2.2.2.1 a3.2.2.2.2.2.2 x1.N) (List.replicate a3.2.1.length Bool.false,1)) fun(a5:List Bool)=>some (a5,a3.1,a3.2.2.1,a3.2.2.2.1,a3.2.2.2.2.1,a3.2.2.2.2.2.1,a3.2.2.2.2.2.2) else none else none else none
theorem q0F:q1T 35 1 qp qF Z1:=by
 intro rE rF hF hM hR x
 obtain⟨x1,w1,S_Worst,S_Best,S_Pass,L0,Leaf⟩:=x
 show q3L rE 35 1 [rP 0,R.agg [dI x1.Kind,dI x1.N,dI x1.Min,dL 2 qe x1.Set,dL 5 qg x1.L]] [(0,B.blk 81 [dI S_Worst,dI S_Best,dI S_Pass,dL 8 qd L0,dO 1 1 w1.length,dI Leaf]),(1,bR 3 1 eI w1)]=_
 have hF':∀(x1_Kind x1_N x1_Min:Int) (x1_Set:List qc) (x1_L:List qb) (w1:List Int) (S_Worst S_Best S_Pass:Int) (L0:List qa) (Leaf:Int) (w1_len:Nat),w1_len=w1.length→rE (.fn 35) 1 [rP 0,R.agg [dI x1_Kind,dI x1_N,dI x1_Min,dL 2 qe x1_Set,dL 5 qg x1_L]] [(0,B.blk 81 [dI S_Worst,dI S_Best,dI S_Pass,dL 8 qd L0,dO 1 1 w1_len,dI Leaf]),(1,bR 3 1 eI w1)]=(rF ((qb.mk x1_Kind x1_N x1_Min x1_Set x1_L),w1,S_Worst,S_Best,S_Pass,L0,Leaf)).bind (fun e=>some (rL 1 eB e.1,[(0,B.blk 81 [dI e.2.2.1,dI e.2.2.2.1,dI e.2.2.2.2.1,dL 8 qd e.2.2.2.2.2.1,dO 1 1 e.2.1.length,dI e.2.2.2.2.2.2]),(1,bR 3 1 eI e.2.1)])):=by intro x1_Kind x1_N x1_Min x1_Set x1_L w1 S_Worst S_Best S_Pass L0 Leaf w1_len h0;subst h0;exact hF ((qb.mk x1_Kind x1_N x1_Min x1_Set x1_L),w1,S_Worst,S_Best,S_Pass,L0,Leaf)
 rw[q04 qkY qnt]
 have:=qfZ;have:=@q2A;have:=q2g rE rF hF hM hR;have:=q2d rE rF hF hM hR;have:=q1M rE rF hF hM hR;have:=@Z1.eq_1;have:=@qF.eq_1;exact gA
theorem JR:∀x y,qp x=qp y→x=y:=by
 rintro⟨⟨a0_0,a0_1,a0_2,a0_3,a0_4⟩,a1,a2,a3,a4,a5,a6⟩ ⟨⟨b0_0,b0_1,b0_2,b0_3,b0_4⟩,b1,b2,b3,b4,b5,b6⟩ h
 simp only[qp,Prod.mk.injEq,List.cons.injEq,R.c.injEq,R.agg.injEq,R.tup.injEq,C.d.injEq,C.own.injEq,C.ptr.injEq,C.eptr.injEq,D.int.injEq,D.bool.injEq,D.str.injEq,D.sl.injEq,B.blk.injEq,B.row.injEq,QB,ZV,QW,Zc,Zy,Zw,Zr,Jq,Zx,Jt,Jz,QA,true_and,and_true,List.nil_append] at h
 simp only[h]
theorem q2k:∀x y,qF x=qF y→x=y:=by
 rintro⟨a0,a1,a2,a3,a4,a5,a6⟩ ⟨b0,b1,b2,b3,b4,b5,b6⟩ h
 simp only[qF,Prod.mk.injEq,List.cons.injEq,R.c.injEq,R.agg.injEq,R.tup.injEq,C.d.injEq,C.own.injEq,C.ptr.injEq,C.eptr.injEq,D.int.injEq,D.bool.injEq,D.str.injEq,D.sl.injEq,B.blk.injEq,B.row.injEq,QB,ZV,QW,Zc,Zy,Zw,Zr,Jq,Zx,Jt,Jz,QA,true_and,and_true,List.nil_append] at h
 simp only[h]
noncomputable def qN:(qb×List Int×Int×Int×Int×List qa×Int)→Option (List Bool×List Int×Int×Int×Int×List qa×Int):=q3b 35 1 qp qF
theorem q3K (x:(qb×List Int×Int×Int×Int×List qa×Int)):qN x=Z1 qN x:=q4x quj.2.2.2 JR q2k q0F x
theorem q2Z (x1:qb) (w1:List Int) (S_Worst S_Best S_Pass:Int) (L0:List qa) (Leaf:Int):ev 35 1 [rP 0,R.agg [dI x1.Kind,dI x1.N,dI x1.Min,dL 2 qe x1.Set,dL 5 qg x1.L]] [(0,B.blk 81 [dI S_Worst,dI S_Best,dI S_Pass,dL 8 qd L0,dO 1 1 w1.length,dI Leaf]),(1,bR 3 1 eI w1)]=(qN (x1,w1,S_Worst,S_Best,S_Pass,L0,Leaf)).bind (fun(e:List Bool×List Int×Int×Int×Int×List qa×Int)=>some (rL 1 eB e.1,[(0,B.blk 81 [dI e.2.2.1,dI e.2.2.2.1,dI e.2.2.2.2.1,dL 8 qd e.2.2.2.2.2.1,dO 1 1 e.2.1.length,dI e.2.2.2.2.2.2]),(1,bR 3 1 eI e.2.1)])):=(q2M quj.2.2.2 JR q0F (x1,w1,S_Worst,S_Best,S_Pass,L0,Leaf))
theorem q3r:∀(x1_Kind x1_N x1_Min:Int) (x1_Set:List qc) (x1_L:List qb) (w1:List Int) (S_Worst S_Best S_Pass:Int) (L0:List qa) (Leaf:Int) (w1_len:Nat),w1_len=w1.length→ev 35 1 [rP 0,R.agg [dI x1_Kind,dI x1_N,dI x1_Min,dL 2 qe x1_Set,dL 5 qg x1_L]] [(0,B.blk 81 [dI S_Worst,dI S_Best,dI S_Pass,dL 8 qd L0,dO 1 1 w1_len,dI Leaf]),(1,bR 3 1 eI w1)]=(qN ((qb.mk x1_Kind x1_N x1_Min x1_Set x1_L),w1,S_Worst,S_Best,S_Pass,L0,Leaf)).bind (fun(e:List Bool×List Int×Int×Int×Int×List qa×Int)=>some (rL 1 eB e.1,[(0,B.blk 81 [dI e.2.2.1,dI e.2.2.2.1,dI e.2.2.2.2.1,dL 8 qd e.2.2.2.2.2.1,dO 1 1 e.2.1.length,dI e.2.2.2.2.2.2]),(1,bR 3 1 eI e.2.1)])) :=
 by
 intro x1_Kind x1_N x1_Min x1_Set x1_L w1 S_Worst S_Best S_Pass L0 Leaf w1_len h0
 subst h0
 exact q2Z (qb.mk x1_Kind x1_N x1_Min x1_Set x1_L) w1 S_Worst S_Best S_Pass L0 Leaf
noncomputable def QZ (w2:List Int) (w3:List Int) (b0:qb) (b1:qf) (t2:List qa) (t3:Int) (t12:Int) (t15:Int):Int→Option (Int⊕(List Int×List Int))|t16=>if t16<t12 then if w2.length≤Go.maxLen∧w2.length*8≤140737488355328 then if w2.length+1≤Go.maxLen∧(w2.length+1)*8≤140737488355328 then Option.bind (qN (b0,(w2++[t16],(b1.Worst,(b1.Best,(b1.Pass,(t2,0))))))) fun(a:Prod (List Bool) (Prod (List Int) (Prod Int (Prod Int (Prod Int (Prod (List qa) Int))))))=>if 0≤t3∧t3<((a.1.length:Nat):Int) then Option.bind a.1[Int.toNat t3]? fun(a2:Bool)=>if a2=Bool.true then if w3.length+1≤Go.maxLen∧(w3.length+1)*8≤140737488355328 then some (Sum.inr (a.2.1,w3++[t16])) else none else some (Sum.inl (w64 (t16+1))) else none else none else none else some (Sum.inr (w2,w3))
theorem q4b:∀(w2 w3:List Int) (b0_Kind b0_N b0_Min:Int) (b0_Set:List qc) (b0_L:List qb) (b1_Worst b1_Best b1_Pass:Int) (t2:List qa) (t3 t12 t15 t16:Int) (w2_len w3_len:Nat),w2_len=w2.length→w3_len=w3.length→XL2 evo 19 0 12 ⟨[(2,rL 8 qd t2),(3,rI t3),(4,rP 0),(5,rP 1),(12,rI t12),(13,rO 2 1 w2_len),(14,rO 3 1 w3_len),(15,rI t15),(16,rI t16)],[(0,B.blk 30 [dI b0_Kind,dI b0_N,dI b0_Min,dL 2 qe b0_Set,dL 5 qg b0_L]),(1,B.blk 32 [dI b1_Worst,dI b1_Best,dI b1_Pass]),(2,bR 3 1 eI w2),(3,bR 3 1 eI w3)],4,91⟩=(qq (QZ w2 w3 (qb.mk b0_Kind b0_N b0_Min b0_Set b0_L) (qf.mk b1_Worst b1_Best b1_Pass) t2 t3 t12 t15) t16).bind (fun(e:List Int×List Int)=>some (Go.Exit.exit 2,⟨[(2,rL 8 qd t2),(3,rI t3),(4,rP 0),(5,rP 1),(12,rI t12),(13,rO 2 1 e.1.length),(14,rO 3 1 e.2.length),(15,rI t15)],[(0,B.blk 30 [dI b0_Kind,dI b0_N,dI b0_Min,dL 2 qe b0_Set,dL 5 qg b0_L]),(1,B.blk 32 [dI b1_Worst,dI b1_Best,dI b1_Pass]),(2,bR 3 1 eI e.1),(3,bR 3 1 eI e.2)],4,91⟩)) :=
 by
 intro w2 w3 b0_Kind b0_N b0_Min b0_Set b0_L b1_Worst b1_Best b1_Pass t2 t3 t12 t15 t16 w2_len w3_len h0 h1
 subst h0 h1
 revert t16;exact q89 qpm qqb (fun e=>by exact⟨_,rfl,fun h=>by cases h⟩) fun x=>by
  have:=qy0;have:=@qdG.eq_1;have:=@q3r;have:=@QZ.eq_1;exact gA
noncomputable def zT (b0:qb) (b1:qf) (t2:List qa) (t3:Int) (t12:Int):(List Int×List Int×Int)→Option ((List Int×List Int×Int)⊕(List Int))|(w2,w3,t15)=>if t15<((t2.length:Nat):Int) then if 0≤t15 then if(QT Go.BinOp.and Go.IntKind.i64 (Int.fdiv t3 (2 ^ min (Int.toNat t15) (Go.IntKind.bits Go.IntKind.i64))) 1==0)=Bool.true then if w2.length+1≤Go.maxLen∧(w2.length+1)*8≤140737488355328 then some (Sum.inl (w2++[(-1)],w3,w64 (t15+1))) else none else Option.bind (qq (QZ w2 w3 b0 b1 t2 t3 t12 t15) 0) fun(a:Prod (List Int) (List Int))=>some (Sum.inl (a.1,a.2,w64 (t15+1))) else none else some (Sum.inr w3)
theorem q50:∀(w2 w3:List Int) (b0_Kind b0_N b0_Min:Int) (b0_Set:List qc) (b0_L:List qb) (b1_Worst b1_Best b1_Pass:Int) (t2:List qa) (t3 t12 t15:Int) (w2_len w3_len:Nat),w2_len=w2.length→w3_len=w3.length→XL2 evo 19 0 7 ⟨[(2,rL 8 qd t2),(3,rI t3),(4,rP 0),(5,rP 1),(12,rI t12),(13,rO 2 1 w2_len),(14,rO 3 1 w3_len),(15,rI t15)],[(0,B.blk 30 [dI b0_Kind,dI b0_N,dI b0_Min,dL 2 qe b0_Set,dL 5 qg b0_L]),(1,B.blk 32 [dI b1_Worst,dI b1_Best,dI b1_Pass]),(2,bR 3 1 eI w2),(3,bR 3 1 eI w3)],4,91⟩=(qq (zT (qb.mk b0_Kind b0_N b0_Min b0_Set b0_L) (qf.mk b1_Worst b1_Best b1_Pass) t2 t3 t12) (w2,w3,t15)).bind (fun(e:List Int)=>some (Go.Exit.exit 0,⟨[(14,rO 0 1 e.length)],[(0,bR 3 1 eI e)],1,91⟩)) :=
 by
 intro w2 w3 b0_Kind b0_N b0_Min b0_Set b0_L b1_Worst b1_Best b1_Pass t2 t3 t12 t15 w2_len w3_len h0 h1
 subst h0 h1
 revert t15;revert w3;revert w2;exact qzR qty qrn (fun e=>by exact⟨_,rfl,fun h=>by cases h⟩) fun w2 w3 t15=>by
  have:=qy0;have:=@qih.eq_1;have:=@q4b;have:=@zT.eq_1;exact gA
theorem q37:∀  (b0_Kind b0_N b0_Min:Int) (b0_Set:List qc) (b0_L:List qb) (b1_Worst b1_Best b1_Pass:Int) (t2:List qa) (t3 t12 t15:Int),XL2 evo 19 0 7 ⟨[(2,rL 8 qd t2),(3,rI t3),(4,rP 0),(5,rP 1),(12,rI t12),(13,rO 2 1 0),(14,rO 3 1 0),(15,rI t15)],[(0,B.blk 30 [dI b0_Kind,dI b0_N,dI b0_Min,dL 2 qe b0_Set,dL 5 qg b0_L]),(1,B.blk 32 [dI b1_Worst,dI b1_Best,dI b1_Pass]),(2,B.row 3 1 []),(3,B.row 3 1 [])],4,91⟩=(qq (zT (qb.mk b0_Kind b0_N b0_Min b0_Set b0_L) (qf.mk b1_Worst b1_Best b1_Pass) t2 t3 t12) ([],[],t15)).bind (fun(e:List Int)=>some (Go.Exit.exit 0,⟨[(14,rO 0 1 e.length)],[(0,bR 3 1 eI e)],1,91⟩)):=by
 intro b0_Kind b0_N b0_Min b0_Set b0_L b1_Worst b1_Best b1_Pass t2 t3 t12 t15;have h:=q50 [] [] ((qb.mk b0_Kind b0_N b0_Min b0_Set b0_L)).Kind ((qb.mk b0_Kind b0_N b0_Min b0_Set b0_L)).N ((qb.mk b0_Kind b0_N b0_Min b0_Set b0_L)).Min ((qb.mk b0_Kind b0_N b0_Min b0_Set b0_L)).Set ((qb.mk b0_Kind b0_N b0_Min b0_Set b0_L)).L ((qf.mk b1_Worst b1_Best b1_Pass)).Worst ((qf.mk b1_Worst b1_Best b1_Pass)).Best ((qf.mk b1_Worst b1_Best b1_Pass)).Pass t2 t3 t12 t15 _ _ rfl rfl
 first
  | exact h
  | (simp only[rL,dL,bR,bZ,Nat.reduceAdd] at h;exact h)
noncomputable def QQ (x0:qb) (x1:qf) (x2:List qa) (x3:Int):Option (List Int×Bool):=Option.bind (ZW x0 x1 x2) fun(a:Prod (List Bool) Int)=>if(a.2 != 0)=Bool.true then some ([],Bool.false) else if x3<0 then some ([],Bool.false) else if((a.1.length:Nat):Int)≤x3 then some ([],Bool.false) else if 0≤x3∧x3<((a.1.length:Nat):Int) then Option.bind a.1[Int.toNat x3]? fun(a2:Bool)=>if(!a2)=Bool.true then some ([],Bool.false) else Option.bind (Jc x0) fun(a3:List qb)=>Option.bind (qq (zT x0 x1 x2 x3 ((a3.length:Nat):Int)) ([],([],0))) fun(a4:List Int)=>some (a4,Bool.true) else none
theorem q2I:∀(x0_Kind x0_N x0_Min:Int) (x0_Set:List qc) (x0_L:List qb) (x1_Worst x1_Best x1_Pass:Int) (x2:List qa) (x3:Int),ev 19 0 [R.agg [dI x0_Kind,dI x0_N,dI x0_Min,dL 2 qe x0_Set,dL 5 qg x0_L],R.agg [dI x1_Worst,dI x1_Best,dI x1_Pass],rL 8 qd x2,rI x3] []=(QQ (qb.mk x0_Kind x0_N x0_Min x0_Set x0_L) (qf.mk x1_Worst x1_Best x1_Pass) x2 x3).bind (fun(e:List Int×Bool)=>some (R.tup [rL 1 eI e.1,rB e.2],[])) :=
 fun x0_Kind x0_N x0_Min x0_Set x0_L x1_Worst x1_Best x1_Pass x2 x3=>by
  rw[qt qsl qzT.2.2.2 qx9]
  have:=qy0;have:=@q3P;have:=@q6M;have:=@q37;have:=@QQ.eq_1;exact gA
end Go.Proofs.YtgejdfnidjnjcaaGreat.Vc

namespace Go.Proofs.YtgejdfnidjnjcaaGreat.Vc
open Go.RowKit
set_option linter.unusedVariables false
set_option linter.unusedSimpArgs false
set_option maxRecDepth 20000
set_option maxHeartbeats 8000000
set_option linter.defProp false
theorem lo4:okL 4 qhw:=qu (qh bd4) (by kernel_rfl) (by kernel_rfl)
def cx4:=JA_ @qhw.eq_1 (JA_ @Tryz.f4.eq_1 @bd4)
theorem qwt:lbO 4 7=qoK:=zf (qh bd4) rfl
theorem qwz:okL 4 qoK:=qH lo4 (List.mem_of_getElem? (i:=0) (by kernel_rfl))
theorem qt4:lbO 4 13=qgu:=zf (qh bd4) rfl
theorem qu2:okL 4 qgu:=qH lo4 (List.mem_of_getElem? (i:=1) (by kernel_rfl))
theorem lo7:okL 7 qnz:=qu (qh bd7) (by kernel_rfl) (by kernel_rfl)
def cx7:=JA_ @qnz.eq_1 (JA_ @Tryz.f7.eq_1 @bd7)
theorem qBK:okL 27 qgA:=qu (qh qxt) (by kernel_rfl) (by kernel_rfl)
def qD3:=JA_ @qgA.eq_1 (JA_ @Tryz.f27.eq_1 @qxt)
theorem qAH:okL 52 qeZ:=qu (qh qvG) (by kernel_rfl) (by kernel_rfl)
def qzY:=JA_ @qeZ.eq_1 (JA_ @Tryz.f52.eq_1 @qvG)
theorem qrg:lbO 52 9=qgK:=zf (qh qvG) rfl
theorem qtu:okL 52 qgK:=qH qAH (List.mem_of_getElem? (i:=0) (by kernel_rfl))
theorem qCG:okL 75 qjJ:=qu (qh qxs) (by kernel_rfl) (by kernel_rfl)
def qDR:=JA_ @qjJ.eq_1 (JA_ @Tryz.f75.eq_1 @qxs)
noncomputable def ql (most:Int) (d:qi):Option (Int×qi):=if((d.L.length:Nat):Int)≤d.At then some (0,d) else if 0≤d.At∧d.At<((d.L.length:Nat):Int) then Option.bind d.L[Int.toNat d.At]? fun(a:Int)=>if most=0 then none else if most=0 then none else some (Int.tmod (w64 (Int.tmod a most+most)) most,qi.mk d.L (w64 (d.At+1))) else none
theorem JU:∀(most:Int) (d_L:List Int) (d_At:Int),ev 75 1 [rP 0,rI most] [(0,B.blk 105 [dL 1 eI d_L,dI d_At])]=(ql most (qi.mk d_L d_At)).bind (fun(e:Int×qi)=>some (rI e.1,[(0,B.blk 105 [dL 1 eI e.2.L,dI e.2.At])])) :=
 fun most d_L d_At=>by
  rw[qt qxs qAt.2.2.2 qCG]
  have:=qDR;have:=@ql.eq_1;exact gA
theorem qxT:okL 76 qcn:=qu (qh qtx) (by kernel_rfl) (by kernel_rfl)
def qwQ:=JA_ @qcn.eq_1 (JA_ @Tryz.f76.eq_1 @qtx)
theorem quN:lbO 76 4=qjI:=zf (qh qtx) rfl
theorem qsE:okL 76 qjI:=qH qxT (List.mem_of_getElem? (i:=0) (by kernel_rfl))
theorem qr8:lbO 76 8=qhf:=zf (qh qtx) rfl
theorem qrd:okL 76 qhf:=qH qxT (List.mem_of_getElem? (i:=1) (by kernel_rfl))
theorem qDB:okL 93 qj0:=qu (qh qyt) (by kernel_rfl) (by kernel_rfl)
def qBF:=JA_ @qj0.eq_1 (JA_ @Tryz.f93.eq_1 @qyt)
theorem qxn:okL 102 qcQ:=qu (qh qpC) (by kernel_rfl) (by kernel_rfl)
def qxl:=JA_ @qcQ.eq_1 (JA_ @Tryz.f102.eq_1 @qpC)
noncomputable def q1i:Option (List ByteArray) :=
 some [ByteArray.mk (List.toArray [65,49]),ByteArray.mk (List.toArray [66,49]),ByteArray.mk (List.toArray [66,50]),ByteArray.mk (List.toArray [67,49]),ByteArray.mk (List.toArray [68,49]),ByteArray.mk (List.toArray [69,57])]
noncomputable def z7:List ByteArray :=
 [ByteArray.mk (List.toArray [65,49]),ByteArray.mk (List.toArray [66,49]),ByteArray.mk (List.toArray [66,50]),ByteArray.mk (List.toArray [67,49]),ByteArray.mk (List.toArray [68,49]),ByteArray.mk (List.toArray [69,57])]
theorem q7h:q1i=some (z7):=by
 unfold q1i z7
 simp only[zG]
theorem q7V:ev 102 0 [] []=some (R.c (C.d (D.sl 1 (z7).length ((z7).flatMap eS))),[]) :=
 by
  have h:ev 102 0 [] []=(q1i).bind (fun(e:List ByteArray)=>some (rL 1 eS e,[])):=by
   rw[qt qpC quD.2.2.2 qxn]
   have:=qxl;have:=@q1i.eq_1;exact gA
  rw[q7h] at h
  exact h
noncomputable def JY (d:qi):Option (qc×qi):=Option.bind (ql 6 d) fun(a:Prod Int qi)=>if 0≤a.1∧a.1<6 then Option.bind [(1:Int),1,1,2,2,3][Int.toNat a.1]? fun(a2:Int)=>Option.bind (ql ((z7.length:Nat):Int) a.2) fun(a3:Prod Int qi)=>if 0≤a3.1∧a3.1<((z7.length:Nat):Int) then Option.bind z7[Int.toNat a3.1]? fun(a4:ByteArray)=>some (qc.mk a2 a4,a3.2) else none else none
theorem q7i:∀(d_L:List Int) (d_At:Int),ev 93 1 [rP 0] [(0,B.blk 105 [dL 1 eI d_L,dI d_At])]=(JY (qi.mk d_L d_At)).bind (fun(e:qc×qi)=>some (R.agg [dI e.1.School,dS e.1.Code],[(0,B.blk 105 [dL 1 eI e.2.L,dI e.2.At])])) :=
 fun d_L d_At=>by
  rw[qt qyt qB2.2.2.2 qDB]
  have:=qBF;have:=@JU;have:=@q7V;have:=@JY.eq_1;exact gA
noncomputable def ZH (out:List qc) (d:qi) (c:qc) (many:Int) (k:Int):Int→Option (Int⊕Int)|at0=>if at0<((out.length:Nat):Int) then if 0≤at0∧at0<((out.length:Nat):Int) then Option.bind out[Int.toNat at0]? fun(a:qc)=>if qW a c=Bool.true then some (Sum.inl (w64 (at0+1))) else some (Sum.inr at0) else none else some (Sum.inr at0)
theorem q7e:∀(out:List qc) (d_L:List Int) (d_At c_School:Int) (c_Code:ByteArray) (many k at0:Int) (out_len:Nat),out_len=out.length→XL2 evo 76 1 8 ⟨[(0,rP 0),(3,rI many),(4,rO 1 2 out_len),(5,rI k),(6,rP 2),(7,rI at0)],[(0,B.blk 105 [dL 1 eI d_L,dI d_At]),(1,bR 51 2 qe out),(2,B.blk 51 [dI c_School,dS c_Code])],3,61⟩=(qq (ZH out (qi.mk d_L d_At) (qc.mk c_School c_Code) many k) at0).bind (fun(e:Int)=>some (Go.Exit.exit 2,⟨[(0,rP 0),(3,rI many),(4,rO 1 2 out.length),(5,rI k),(6,rP 2),(7,rI e)],[(0,B.blk 105 [dL 1 eI d_L,dI d_At]),(1,bR 51 2 qe out),(2,B.blk 51 [dI c_School,dS c_Code])],3,61⟩)) :=
 by
 intro out d_L d_At c_School c_Code many k at0 out_len h0
 subst h0
 revert at0;exact q89 qr8 qrd (fun e=>by exact⟨_,rfl,fun h=>by cases h⟩) fun x=>by
  have:=qwQ;have:=@qhf.eq_1;have:=@ZZ;have:=@ZH.eq_1;exact gA
noncomputable def QR (many:Int):(List qc×qi×Int)→Option ((List qc×qi×Int)⊕(List qc×qi))|(out,d,k)=>if k<many then Option.bind (JY d) fun(a:Prod qc qi)=>Option.bind (qq (ZH out a.2 a.1 many k) 0) fun(a2:Int)=>if a2<((out.length:Nat):Int) then if 0≤a2∧a2<((out.length:Nat):Int) then Option.bind out[Int.toNat a2]? fun(a3:qc)=>if(a3.School==a.1.School)=Bool.true∧(ByteArray.toList a3.Code==ByteArray.toList a.1.Code)=Bool.true then some (Sum.inl (out,a.2,w64 (k+1))) else if out.length+1≤Go.maxLen∧(out.length+1)*24≤140737488355328 then if 0≤w64 (a2+1)∧w64 (a2+1)≤((out.length+1:Nat):Int) then if w64 (a2+1)=0∨w64 (a2+1)<((out.length+1:Nat):Int) then if 0≤a2∧a2≤((out.length+1:Nat):Int) then if a2=0∨a2<((out.length+1:Nat):Int) then if(List.take (out.length+1-Int.toNat a2) (List.drop (Int.toNat a2) (out++[qc.mk 0 (ByteArray.mk (List.toArray []))]))).length*2=(out.length+1-Int.toNat a2)*2∧Int.toNat (w64 (a2+1))*2+(out.length+1-Int.toNat (w64 (a2+1)))*2≤(out.length+1)*2 then if 0≤a2∧a2<((out.length+1:Nat):Int) then if Int.toNat a2*2+2≤(out.length+1)*2 then some (Sum.inl (List.set (spl (out++[qc.mk 0 (ByteArray.mk (List.toArray []))]) (Int.toNat (w64 (a2+1))) (List.take (min (out.length+1-Int.toNat a2) (out.length+1-Int.toNat (w64 (a2+1)))) (List.take (out.length+1-Int.toNat a2) (List.drop (Int.toNat a2) (out++[qc.mk 0 (ByteArray.mk (List.toArray []))]))))) (Int.toNat a2) a.1,a.2,w64 (k+1))) else none else none else none else if Int.toNat (w64 (a2+1))*2+(out.length+1-Int.toNat (w64 (a2+1)))*2≤(out.length+1)*2 then if 0≤a2∧a2<((out.length+1:Nat):Int) then if Int.toNat a2*2+2≤(out.length+1)*2 then some (Sum.inl (List.set (out++[qc.mk 0 (ByteArray.mk (List.toArray []))]) (Int.toNat a2) a.1,a.2,w64 (k+1))) else none else none else none else none else if 0≤a2∧a2≤((out.length+1:Nat):Int) then if a2=0∨a2<((out.length+1:Nat):Int) then if(List.take (out.length+1-Int.toNat a2) (List.drop (Int.toNat a2) (out++[qc.mk 0 (ByteArray.mk (List.toArray []))]))).length*2=(out.length+1-Int.toNat a2)*2 then if 0≤a2∧a2<((out.length+1:Nat):Int) then if Int.toNat a2*2+2≤(out.length+1)*2 then some (Sum.inl (List.set (out++[qc.mk 0 (ByteArray.mk (List.toArray []))]) (Int.toNat a2) a.1,a.2,w64 (k+1))) else none else none else none else if 0≤a2∧a2<((out.length+1:Nat):Int) then if Int.toNat a2*2+2≤(out.length+1)*2 then some (Sum.inl (List.set (out++[qc.mk 0 (ByteArray.mk (List.toArray []))]) (Int.toNat a2) a.1,a.2,w64 (k+1))) else none else none else none else none else none else none else if out.length+1≤Go.maxLen∧(out.length+1)*24≤140737488355328 then if 0≤w64 (a2+1)∧w64 (a2+1)≤((out.length+1:Nat):Int) then if w64 (a2+1)=0∨w64 (a2+1)<((out.length+1:Nat):Int) then if 0≤a2∧a2≤((out.length+1:Nat):Int) then if a2=0∨a2<((out.length+1:Nat):Int) then if(List.take (out.length+1-Int.toNat a2) (List.drop (Int.toNat a2) (out++[qc.mk 0 (ByteArray.mk (List.toArray []))]))).length*2=(out.length+1-Int.toNat a2)*2∧Int.toNat (w64 (a2+1))*2+(out.length+1-Int.toNat (w64 (a2+1)))*2≤(out.length+1)*2 then if 0≤a2∧a2<((out.length+1:Nat):Int) then if Int.toNat a2*2+2≤(out.length+1)*2 then some (Sum.inl (List.set (spl (out++[qc.mk 0 (ByteArray.mk (List.toArray []))]) (Int.toNat (w64 (a2+1))) (List.take (min (out.length+1-Int.toNat a2) (out.length+1-Int.toNat (w64 (a2+1)))) (List.take (out.length+1-Int.toNat a2) (List.drop (Int.toNat a2) (out++[qc.mk 0 (ByteArray.mk (List.toArray []))]))))) (Int.toNat a2) a.1,a.2,w64 (k+1))) else none else none else none else if Int.toNat (w64 (a2+1))*2+(out.length+1-Int.toNat (w64 (a2+1)))*2≤(out.length+1)*2 then if 0≤a2∧a2<((out.length+1:Nat):Int) then if Int.toNat a2*2+2≤(out.length+1)*2 then some (Sum.inl (List.set (out++[qc.mk 0 (ByteArray.mk (List.toArray []))]) (Int.toNat a2) a.1,a.2,w64 (k+1))) else none else none else none else none else if 0≤a2∧a2≤((out.length+1:Nat):Int) then if a2=0∨a2<((out.length+1:Nat):Int) then if(List.take (out.length+1-Int.toNat a2) (List.drop (Int.toNat a2) (out++[qc.mk 0 (ByteArray.mk (List.toArray []))]))).length*2=(out.length+1-Int.toNat a2)*2 then if 0≤a2∧a2<((out.length+1:Nat):Int) then if Int.toNat a2*2+2≤(out.length+1)*2 then some (Sum.inl (List.set (out++[qc.mk 0 (ByteArray.mk (List.toArray []))]) (Int.toNat a2) a.1,a.2,w64 (k+1))) else none else none else none else if 0≤a2∧a2<((out.length+1:Nat):Int) then if Int.toNat a2*2+2≤(out.length+1)*2 then some (Sum.inl (List.set (out++[qc.mk 0 (ByteArray.mk (List.toArray []))]) (Int.toNat a2) a.1,a.2,w64 (k+1))) else none else none else none else none else none else some (Sum.inr (out,d))
theorem q71:∀(out:List qc) (d_L:List Int) (d_At many k:Int) (out_len:Nat),out_len=out.length→XL2 evo 76 1 4 ⟨[(0,rP 0),(3,rI many),(4,rO 1 2 out_len),(5,rI k)],[(0,B.blk 105 [dL 1 eI d_L,dI d_At]),(1,bR 51 2 qe out)],2,61⟩=(qq (QR many) (out,(qi.mk d_L d_At),k)).bind (fun(e:List qc×qi)=>some (Go.Exit.exit 0,⟨[(4,rO 1 2 e.1.length)],[(0,B.blk 105 [dL 1 eI e.2.L,dI e.2.At]),(1,bR 51 2 qe e.1)],2,61⟩)) :=
 by
 intro out d_L d_At many k out_len h0
 subst h0
 have h:=q1A (E:=evo) (f:=76) (k:=1) (st:=fun x:List qc×qi×Int=>(⟨[(0,rP 0),(3,rI many),(4,rO 1 2 x.1.length),(5,rI x.2.2)],[(0,B.blk 105 [dL 1 eI x.2.1.L,dI x.2.1.At]),(1,bR 51 2 qe x.1)],2,61⟩:S)) (ex:=fun(e:List qc×qi)=>(Go.Exit.exit 0,⟨[(4,rO 1 2 e.1.length)],[(0,B.blk 105 [dL 1 eI e.2.L,dI e.2.At]),(1,bR 51 2 qe e.1)],2,61⟩)) (step:=(QR many)) quN qsE (fun e h=>by cases h) (fun x=>by
  obtain⟨out,d,k⟩:=x;have:=qwQ;have:=@qjI.eq_1;have:=@q7i;have:=@q7e;have:=@QR.eq_1;exact gA) (out,(qi.mk d_L d_At),k)
 exact h
theorem q4Q:∀  (d_L:List Int) (d_At many k:Int),XL2 evo 76 1 4 ⟨[(0,rP 0),(3,rI many),(4,rO 1 2 0),(5,rI k)],[(0,B.blk 105 [dL 1 eI d_L,dI d_At]),(1,B.row 51 2 [])],2,61⟩=(qq (QR many) ([],(qi.mk d_L d_At),k)).bind (fun(e:List qc×qi)=>some (Go.Exit.exit 0,⟨[(4,rO 1 2 e.1.length)],[(0,B.blk 105 [dL 1 eI e.2.L,dI e.2.At]),(1,bR 51 2 qe e.1)],2,61⟩)):=by
 intro d_L d_At many k;have h:=q71 [] ((qi.mk d_L d_At)).L ((qi.mk d_L d_At)).At many k _ rfl
 first
  | exact h
  | (simp only[rL,dL,bR,bZ,Nat.reduceAdd] at h;exact h)
noncomputable def Zd (d:qi):Option (List qc×qi):=Option.bind (ql 3 d) fun(a:Prod Int qi)=>Option.bind (qq (QR (w64 (1+a.1))) ([],(a.2,0))) fun(a2:Prod (List qc) qi)=>some (a2.1,a2.2)
theorem q9R:∀(d_L:List Int) (d_At:Int),ev 76 1 [rP 0] [(0,B.blk 105 [dL 1 eI d_L,dI d_At])]=(Zd (qi.mk d_L d_At)).bind (fun(e:List qc×qi)=>some (rL 2 qe e.1,[(0,B.blk 105 [dL 1 eI e.2.L,dI e.2.At])])) :=
 fun d_L d_At=>by
  rw[qt qtx qAl.2.2.2 qxT]
  have:=qwQ;have:=@JU;have:=@q4Q;have:=@Zd.eq_1;exact gA
noncomputable def Q6 (x:(Int×Int×qi)):List R×List (Nat×B):=([R.c (C.ptr 0 0),R.c (C.d (D.int .i64 x.1)),R.c (C.d (D.int .i64 x.2.1))],[(0,B.blk 105 [C.d (D.sl 1 x.2.2.L.length (x.2.2.L.flatMap eI)),C.d (D.int .i64 x.2.2.At)])])
noncomputable def QV:(qb×qi)→R×List (Nat×B):=fun(e:qb×qi)=>(R.agg [C.d (D.int .i64 e.1.Kind),C.d (D.int .i64 e.1.N),C.d (D.int .i64 e.1.Min),C.d (D.sl 2 e.1.Set.length (e.1.Set.flatMap qe)),C.d (D.sl 5 e.1.L.length (e.1.L.flatMap qg))],[(0,B.blk 105 [C.d (D.sl 1 e.2.L.length (e.2.L.flatMap eI)),C.d (D.int .i64 e.2.At)])])
noncomputable def Q3 (rF:(Int×Int×qi)→Option (qb×qi)) (b1_Kind:Int) (b1_N:Int) (b1_Min:Int) (b2_Kind:Int) (b2_N:Int) (b2_Min:Int) (t1:Int) (t2:Int) (t7:Int) (t8:Int):(List qb×qi×Int)→Option ((List qb×qi×Int)⊕(List qb×qi))|(w3,b0,t10)=>if t10<t8 then if t8=0 then none else Option.bind (rF (w64 (t1-1),(w64 (Int.tdiv t2 t8),b0))) fun(a2:Prod qb qi)=>if w3.length+1≤Go.maxLen∧(w3.length+1)*72≤140737488355328 then some (Sum.inl (w3++[a2.1],a2.2,w64 (t10+1))) else none else some (Sum.inr (w3,b0))
theorem q6j (rE:Orc) (rF:(Int×Int×qi)→Option (qb×qi)) (hF:∀y,rE (.fn 52) 1 (Q6 y).1 (Q6 y).2=(rF y).bind fun e=>some (QV e)) (hM:∀g k a G,g≠52→rE (.fn g) k a G=ev g k a G) (hR:∀g asg bd k a G,rE (.rd g asg bd) k a G=evr g asg bd k a G):∀(w3:List qb) (b0_L:List Int) (b0_At b1_Kind b1_N b1_Min b2_Kind b2_N b2_Min t1 t2 t7 t8 t10:Int) (w3_len:Nat),w3_len=w3.length→XL2 rE 52 1 9 ⟨[(0,rP 0),(1,rI t1),(2,rI t2),(6,rP 1),(7,rI t7),(8,rI t8),(9,rP 2),(10,rI t10)],[(0,B.blk 105 [dL 1 eI b0_L,dI b0_At]),(1,B.blk 30 [dI b1_Kind,dI b1_N,dI b1_Min,C.nils,C.nils]),(2,B.blk 30 [dI b2_Kind,dI b2_N,dI b2_Min,C.nils,dO 3 5 w3_len]),(3,bR 30 5 qg w3)],4,77⟩=(qq (Q3 rF b1_Kind b1_N b1_Min b2_Kind b2_N b2_Min t1 t2 t7 t8) (w3,(qi.mk b0_L b0_At),t10)).bind (fun(e:List qb×qi)=>some (Go.Exit.exit 0,⟨[(0,rP 0),(6,rP 1),(7,rI t7),(8,rI t8),(9,rP 2)],[(0,B.blk 105 [dL 1 eI e.2.L,dI e.2.At]),(1,B.blk 30 [dI b1_Kind,dI b1_N,dI b1_Min,C.nils,C.nils]),(2,B.blk 30 [dI b2_Kind,dI b2_N,dI b2_Min,C.nils,dO 3 5 e.1.length]),(3,bR 30 5 qg e.1)],4,77⟩)) :=
 by
 intro w3 b0_L b0_At b1_Kind b1_N b1_Min b2_Kind b2_N b2_Min t1 t2 t7 t8 t10 w3_len h0
 subst h0
 have h:=q1A (E:=rE) (f:=52) (k:=1) (st:=fun x:List qb×qi×Int=>(⟨[(0,rP 0),(1,rI t1),(2,rI t2),(6,rP 1),(7,rI t7),(8,rI t8),(9,rP 2),(10,rI x.2.2)],[(0,B.blk 105 [dL 1 eI x.2.1.L,dI x.2.1.At]),(1,B.blk 30 [dI b1_Kind,dI b1_N,dI b1_Min,C.nils,C.nils]),(2,B.blk 30 [dI b2_Kind,dI b2_N,dI b2_Min,C.nils,dO 3 5 x.1.length]),(3,bR 30 5 qg x.1)],4,77⟩:S)) (ex:=fun(e:List qb×qi)=>(Go.Exit.exit 0,⟨[(0,rP 0),(6,rP 1),(7,rI t7),(8,rI t8),(9,rP 2)],[(0,B.blk 105 [dL 1 eI e.2.L,dI e.2.At]),(1,B.blk 30 [dI b1_Kind,dI b1_N,dI b1_Min,C.nils,C.nils]),(2,B.blk 30 [dI b2_Kind,dI b2_N,dI b2_Min,C.nils,dO 3 5 e.1.length]),(3,bR 30 5 qg e.1)],4,77⟩)) (step:=(Q3 rF b1_Kind b1_N b1_Min b2_Kind b2_N b2_Min t1 t2 t7 t8)) qrg qtu (fun e h=>by cases h) (fun x=>by
  obtain⟨w3,b0,t10⟩:=x;have hF':∀(x1 x2:Int) (v_L:List Int) (v_At:Int),rE (.fn 52) 1 [rP 0,rI x1,rI x2] [(0,B.blk 105 [dL 1 eI v_L,dI v_At])]=(rF (x1,x2,(qi.mk v_L v_At))).bind (fun e=>some (R.agg [dI e.1.Kind,dI e.1.N,dI e.1.Min,dL 2 qe e.1.Set,dL 5 qg e.1.L],[(0,B.blk 105 [dL 1 eI e.2.L,dI e.2.At])])):=fun x1 x2 v_L v_At=>hF (x1,x2,(qi.mk v_L v_At))
  have:=qzY;have:=@qgK.eq_1;have:=@Q3.eq_1;exact gA) (w3,(qi.mk b0_L b0_At),t10)
 exact h
theorem q4m:∀(rE:Orc) (rF:(Int×Int×qi)→Option (qb×qi)) (hF:∀y,rE (.fn 52) 1 (Q6 y).1 (Q6 y).2=(rF y).bind fun e=>some (QV e)) (hM:∀g k a G,g≠52→rE (.fn g) k a G=ev g k a G) (hR:∀g asg bd k a G,rE (.rd g asg bd) k a G=evr g asg bd k a G),∀  (b0_L:List Int) (b0_At b1_Kind b1_N b1_Min b2_Kind b2_N b2_Min t1 t2 t7 t8 t10:Int),XL2 rE 52 1 9 ⟨[(0,rP 0),(1,rI t1),(2,rI t2),(6,rP 1),(7,rI t7),(8,rI t8),(9,rP 2),(10,rI t10)],[(0,B.blk 105 [dL 1 eI b0_L,dI b0_At]),(1,B.blk 30 [dI b1_Kind,dI b1_N,dI b1_Min,C.nils,C.nils]),(2,B.blk 30 [dI b2_Kind,dI b2_N,dI b2_Min,C.nils,dO 3 5 0]),(3,B.row 30 5 [])],4,77⟩=(qq (Q3 rF b1_Kind b1_N b1_Min b2_Kind b2_N b2_Min t1 t2 t7 t8) ([],(qi.mk b0_L b0_At),t10)).bind (fun(e:List qb×qi)=>some (Go.Exit.exit 0,⟨[(0,rP 0),(6,rP 1),(7,rI t7),(8,rI t8),(9,rP 2)],[(0,B.blk 105 [dL 1 eI e.2.L,dI e.2.At]),(1,B.blk 30 [dI b1_Kind,dI b1_N,dI b1_Min,C.nils,C.nils]),(2,B.blk 30 [dI b2_Kind,dI b2_N,dI b2_Min,C.nils,dO 3 5 e.1.length]),(3,bR 30 5 qg e.1)],4,77⟩)):=by
 intro rE rF hF hM hR b0_L b0_At b1_Kind b1_N b1_Min b2_Kind b2_N b2_Min t1 t2 t7 t8 t10;have h:=q6j rE rF hF hM hR [] ((qi.mk b0_L b0_At)).L ((qi.mk b0_L b0_At)).At b1_Kind b1_N b1_Min b2_Kind b2_N b2_Min t1 t2 t7 t8 t10 _ rfl
 first
  | exact h
  | (simp only[rL,dL,bR,bZ,Nat.reduceAdd] at h;exact h)
noncomputable def JI (rF:(Int×Int×qi)→Option (qb×qi)):(Int×Int×qi)→Option (qb×qi)|(x1,x2,v)=>Option.bind (ql 6 v) fun(a2:Prod Int qi)=>if x1≤0 then Option.bind (ql 3 a2.2) fun(a3:Prod Int qi)=>if(a3.1==0)=Bool.true then Option.bind (ql 12 a3.2) fun(a4:Prod Int qi)=>Option.bind (ql 3 a4.2) fun(a5:Prod Int qi)=>if 0≤a5.1∧a5.1<3 then Option.bind [(0:Int),50,60][Int.toNat a5.1]? fun(a6:Int)=>Option.bind (Zd a5.2) fun(a7:Prod (List qc) qi)=>some (qb.mk 2 (w64 (1+a4.1)) a6 a7.1 [],a7.2) else none else Option.bind (ql 4 a3.2) fun(a8:Prod Int qi)=>if 0≤a8.1∧a8.1<4 then Option.bind [(0:Int),50,60,80][Int.toNat a8.1]? fun(a9:Int)=>Option.bind (Zd a8.2) fun(a10:Prod (List qc) qi)=>some (qb.mk 1 0 a9 a10.1 [],a10.2) else none else if x2<2 then Option.bind (ql 3 a2.2) fun(a11:Prod Int qi)=>if(a11.1==0)=Bool.true then Option.bind (ql 12 a11.2) fun(a12:Prod Int qi)=>Option.bind (ql 3 a12.2) fun(a13:Prod Int qi)=>if 0≤a13.1∧a13.1<3 then Option.bind [(0:Int),50,60][Int.toNat a13.1]? fun(a14:Int)=>Option.bind (Zd a13.2) fun(a15:Prod (List qc) qi)=>some (qb.mk 2 (w64 (1+a12.1)) a14 a15.1 [],a15.2) else none else Option.bind (ql 4 a11.2) fun(a16:Prod Int qi)=>if 0≤a16.1∧a16.1<4 then Option.bind [(0:Int),50,60,80][Int.toNat a16.1]? fun(a17:Int)=>Option.bind (Zd a16.2) fun(a18:Prod (List qc) qi)=>some (qb.mk 1 0 a17 a18.1 [],a18.2) else none else if a2.1<2 then Option.bind (ql 3 a2.2) fun(a19:Prod Int qi)=>if(a19.1==0)=Bool.true then Option.bind (ql 12 a19.2) fun(a20:Prod Int qi)=>Option.bind (ql 3 a20.2) fun(a21:Prod Int qi)=>if 0≤a21.1∧a21.1<3 then Option.bind [(0:Int),50,60][Int.toNat a21.1]? fun(a22:Int)=>Option.bind (Zd a21.2) fun(a23:Prod (List qc) qi)=>some (qb.mk 2 (w64 (1+a20.1)) a22 a23.1 [],a23.2) else none else Option.bind (ql 4 a19.2) fun(a24:Prod Int qi)=>if 0≤a24.1∧a24.1<4 then Option.bind [(0:Int),50,60,80][Int.toNat a24.1]? fun(a25:Int)=>Option.bind (Zd a24.2) fun(a26:Prod (List qc) qi)=>some (qb.mk 1 0 a25 a26.1 [],a26.2) else none else Option.bind (ql (min 3 x2) a2.2) fun(a27:Prod Int qi)=>Option.bind (qq (Q3 rF 0 0 0 3 0 0 x1 x2 a2.1 (w64 (1+a27.1))) ([],(a27.2,0))) fun(a28:Prod (List qb) qi)=>if 3<a2.1 then Option.bind (ql (w64 (1+a27.1)) a28.2) fun(a29:Prod Int qi)=>some (qb.mk 4 (w64 (1+a29.1)) 0 [] a28.1,a29.2) else some (qb.mk 3 0 0 [] a28.1,a28.2)
theorem q3X:q1T 52 1 Q6 QV JI:=by
 intro rE rF hF hM hR x
 obtain⟨x1,x2,v⟩:=x
 show q3L rE 52 1 [rP 0,rI x1,rI x2] [(0,B.blk 105 [dL 1 eI v.L,dI v.At])]=_
 have hF':∀(x1 x2:Int) (v_L:List Int) (v_At:Int),rE (.fn 52) 1 [rP 0,rI x1,rI x2] [(0,B.blk 105 [dL 1 eI v_L,dI v_At])]=(rF (x1,x2,(qi.mk v_L v_At))).bind (fun e=>some (R.agg [dI e.1.Kind,dI e.1.N,dI e.1.Min,dL 2 qe e.1.Set,dL 5 qg e.1.L],[(0,B.blk 105 [dL 1 eI e.2.L,dI e.2.At])])):=fun x1 x2 v_L v_At=>hF (x1,x2,(qi.mk v_L v_At))
 rw[q04 qvG qAH]
 have:=qzY;have:=@JU;have:=@q9R;have:=q4m rE rF hF hM hR;have:=@JI.eq_1;have:=@QV.eq_1;exact gA
theorem q1s:∀x y,Q6 x=Q6 y→x=y:=by
 rintro⟨a0,a1,⟨a2_0,a2_1⟩⟩ ⟨b0,b1,⟨b2_0,b2_1⟩⟩ h
 simp only[Q6,Prod.mk.injEq,List.cons.injEq,R.c.injEq,R.agg.injEq,R.tup.injEq,C.d.injEq,C.own.injEq,C.ptr.injEq,C.eptr.injEq,D.int.injEq,D.bool.injEq,D.str.injEq,D.sl.injEq,B.blk.injEq,B.row.injEq,QB,ZV,QW,Zc,Zy,Zw,Zr,Jq,Zx,Jt,Jz,QA,true_and,and_true,List.nil_append] at h
 simp only[h]
theorem q6F:∀x y,QV x=QV y→x=y:=by
 rintro⟨⟨a0_0,a0_1,a0_2,a0_3,a0_4⟩,⟨a1_0,a1_1⟩⟩ ⟨⟨b0_0,b0_1,b0_2,b0_3,b0_4⟩,⟨b1_0,b1_1⟩⟩ h
 simp only[QV,Prod.mk.injEq,List.cons.injEq,R.c.injEq,R.agg.injEq,R.tup.injEq,C.d.injEq,C.own.injEq,C.ptr.injEq,C.eptr.injEq,D.int.injEq,D.bool.injEq,D.str.injEq,D.sl.injEq,B.blk.injEq,B.row.injEq,QB,ZV,QW,Zc,Zy,Zw,Zr,Jq,Zx,Jt,Jz,QA,true_and,and_true,List.nil_append] at h
 simp only[h]
noncomputable def ZC:(Int×Int×qi)→Option (qb×qi):=q3b 52 1 Q6 QV
theorem q41 (x:(Int×Int×qi)):ZC x=JI ZC x:=q4x qwg.2.2.2 q1s q6F q3X x
theorem q8p (x1 x2:Int) (v:qi):ev 52 1 [rP 0,rI x1,rI x2] [(0,B.blk 105 [dL 1 eI v.L,dI v.At])]=(ZC (x1,x2,v)).bind (fun(e:qb×qi)=>some (R.agg [dI e.1.Kind,dI e.1.N,dI e.1.Min,dL 2 qe e.1.Set,dL 5 qg e.1.L],[(0,B.blk 105 [dL 1 eI e.2.L,dI e.2.At])])):=(q2M qwg.2.2.2 q1s q3X (x1,x2,v))
theorem q96:∀(x1 x2:Int) (v_L:List Int) (v_At:Int),ev 52 1 [rP 0,rI x1,rI x2] [(0,B.blk 105 [dL 1 eI v_L,dI v_At])]=(ZC (x1,x2,(qi.mk v_L v_At))).bind (fun(e:qb×qi)=>some (R.agg [dI e.1.Kind,dI e.1.N,dI e.1.Min,dL 2 qe e.1.Set,dL 5 qg e.1.L],[(0,B.blk 105 [dL 1 eI e.2.L,dI e.2.At])])) :=
 fun x1 x2 v_L v_At=>q8p x1 x2 (qi.mk v_L v_At)
noncomputable def q0Y (l:List Int):Option qb:=Option.bind (ZC (3,(6,qi.mk l 0))) fun(a:Prod qb qi)=>some a.1
theorem q9s:∀(l:List Int),ev 27 0 [rL 1 eI l] []=(q0Y l).bind (fun(e:qb)=>some (R.agg [dI e.Kind,dI e.N,dI e.Min,dL 2 qe e.Set,dL 5 qg e.L],[])) :=
 fun l=>by
  rw[qt qxt qAF.2.2.2 qBK]
  have:=qD3;have:=@q96;have:=@q0Y.eq_1;exact gA
theorem qAG:okL 28 qf3:=qu (qh qvR) (by kernel_rfl) (by kernel_rfl)
def qzC:=JA_ @qf3.eq_1 (JA_ @Tryz.f28.eq_1 @qvR)
theorem qv8:lbO 28 6=qiz:=zf (qh qvR) rfl
theorem qtC:okL 28 qiz:=qH qAG (List.mem_of_getElem? (i:=0) (by kernel_rfl))
theorem qvY:okL 53 qas:=qu (qh qqv) (by kernel_rfl) (by kernel_rfl)
def qpF:=JA_ @qas.eq_1 (JA_ @Tryz.f53.eq_1 @qqv)
theorem qmt:lbO 53 4=qdQ:=zf (qh qqv) rfl
theorem qmE:okL 53 qdQ:=qH qvY (List.mem_of_getElem? (i:=0) (by kernel_rfl))
theorem qmB:lbO 53 8=qdO:=zf (qh qqv) rfl
theorem qms:okL 53 qdO:=qH qvY (List.mem_of_getElem? (i:=1) (by kernel_rfl))
theorem qgB:lbO 53 11=qaL:=zf (qh qqv) rfl
theorem qh9:okL 53 qaL:=qH qvY (List.mem_of_getElem? (i:=2) (by kernel_rfl))
noncomputable def q0d (w0:List qc) (t3:List qj) (t6:Int) (t7:List qc) (t8:Int):Int→Option (Int⊕Int)|t9=>if t9<((w0.length:Nat):Int) then if 0≤t9∧t9<((w0.length:Nat):Int) then Option.bind w0[Int.toNat t9]? fun(a:qc)=>if 0≤t8∧t8<((t7.length:Nat):Int) then Option.bind t7[Int.toNat t8]? fun(a2:qc)=>if qW a a2=Bool.true then some (Sum.inl (w64 (t9+1))) else some (Sum.inr t9) else none else none else some (Sum.inr t9)
theorem q3I:∀(w0:List qc) (t3:List qj) (t6:Int) (t7:List qc) (t8 t9:Int) (w0_len:Nat),w0_len=w0.length→XL2 evo 53 0 11 ⟨[(3,rL 6 qk t3),(5,rO 0 2 w0_len),(6,rI t6),(7,rL 2 qe t7),(8,rI t8),(9,rI t9)],[(0,bR 51 2 qe w0)],1,85⟩=(qq (q0d w0 t3 t6 t7 t8) t9).bind (fun(e:Int)=>some (Go.Exit.exit 4,⟨[(3,rL 6 qk t3),(5,rO 0 2 w0.length),(6,rI t6),(7,rL 2 qe t7),(8,rI t8),(9,rI e)],[(0,bR 51 2 qe w0)],1,85⟩)) :=
 by
 intro w0 t3 t6 t7 t8 t9 w0_len h0
 subst h0
 revert t9;exact q89 qgB qh9 (fun e=>by exact⟨_,rfl,fun h=>by cases h⟩) fun x=>by
  have:=qpF;have:=@qaL.eq_1;have:=@ZZ;have:=@q0d.eq_1;exact gA
noncomputable def q0l (t3:List qj) (t6:Int) (t7:List qc):(List qc×Int)→Option ((List qc×Int)⊕(List qc))|(w0,t8)=>if t8<((t7.length:Nat):Int) then Option.bind (qq (q0d w0 t3 t6 t7 t8) 0) fun(a:Int)=>if a<((w0.length:Nat):Int) then if 0≤a∧a<((w0.length:Nat):Int) then Option.bind w0[Int.toNat a]? fun(a2:qc)=>if 0≤t8∧t8<((t7.length:Nat):Int) then Option.bind t7[Int.toNat t8]? fun(a3:qc)=>if(a2.School==a3.School)=Bool.true∧(ByteArray.toList a2.Code==ByteArray.toList a3.Code)=Bool.true then some (Sum.inl (w0,w64 (t8+1))) else if w0.length+1≤Go.maxLen∧(w0.length+1)*24≤140737488355328 then if 0≤w64 (a+1)∧w64 (a+1)≤((w0.length+1:Nat):Int) then if w64 (a+1)=0∨w64 (a+1)<((w0.length+1:Nat):Int) then if 0≤a∧a≤((w0.length+1:Nat):Int) then if a=0∨a<((w0.length+1:Nat):Int) then if(List.take (w0.length+1-Int.toNat a) (List.drop (Int.toNat a) (w0++[qc.mk 0 (ByteArray.mk (List.toArray []))]))).length*2=(w0.length+1-Int.toNat a)*2∧Int.toNat (w64 (a+1))*2+(w0.length+1-Int.toNat (w64 (a+1)))*2≤(w0.length+1)*2 then if 0≤t8∧t8<((t7.length:Nat):Int) then Option.bind t7[Int.toNat t8]? fun(a4:qc)=>if 0≤a∧a<((w0.length+1:Nat):Int) then if Int.toNat a*2+2≤(w0.length+1)*2 then some (Sum.inl (List.set (spl (w0++[qc.mk 0 (ByteArray.mk (List.toArray []))]) (Int.toNat (w64 (a+1))) (List.take (min (w0.length+1-Int.toNat a) (w0.length+1-Int.toNat (w64 (a+1)))) (List.take (w0.length+1-Int.toNat a) (List.drop (Int.toNat a) (w0++[qc.mk 0 (ByteArray.mk (List.toArray []))]))))) (Int.toNat a) a4,w64 (t8+1))) else none else none else none else none else if Int.toNat (w64 (a+1))*2+(w0.length+1-Int.toNat (w64 (a+1)))*2≤(w0.length+1)*2 then if 0≤t8∧t8<((t7.length:Nat):Int) then Option.bind t7[Int.toNat t8]? fun(a5:qc)=>if 0≤a∧a<((w0.length+1:Nat):Int) then if Int.toNat a*2+2≤(w0.length+1)*2 then some (Sum.inl (List.set (w0++[qc.mk 0 (ByteArray.mk (List.toArray []))]) (Int.toNat a) a5,w64 (t8+1))) else none else none else none else none else none else if 0≤a∧a≤((w0.length+1:Nat):Int) then if a=0∨a<((w0.length+1:Nat):Int) then if(List.take (w0.length+1-Int.toNat a) (List.drop (Int.toNat a) (w0++[qc.mk 0 (ByteArray.mk (List.toArray []))]))).length*2=(w0.length+1-Int.toNat a)*2 then if 0≤t8∧t8<((t7.length:Nat):Int) then Option.bind t7[Int.toNat t8]? fun(a6:qc)=>if 0≤a∧a<((w0.length+1:Nat):Int) then if Int.toNat a*2+2≤(w0.length+1)*2 then some (Sum.inl (List.set (w0++[qc.mk 0 (ByteArray.mk (List.toArray []))]) (Int.toNat a) a6,w64 (t8+1))) else none else none else none else none else if 0≤t8∧t8<((t7.length:Nat):Int) then Option.bind t7[Int.toNat t8]? fun(a7:qc)=>if 0≤a∧a<((w0.length+1:Nat):Int) then if Int.toNat a*2+2≤(w0.length+1)*2 then some (Sum.inl (List.set (w0++[qc.mk 0 (ByteArray.mk (List.toArray []))]) (Int.toNat a) a7,w64 (t8+1))) else none else none else none else none else none else none else none else none else if w0.length+1≤Go.maxLen∧(w0.length+1)*24≤140737488355328 then if 0≤w64 (a+1)∧w64 (a+1)≤((w0.length+1:Nat):Int) then if w64 (a+1)=0∨w64 (a+1)<((w0.length+1:Nat):Int) then if 0≤a∧a≤((w0.length+1:Nat):Int) then if a=0∨a<((w0.length+1:Nat):Int) then if(List.take (w0.length+1-Int.toNat a) (List.drop (Int.toNat a) (w0++[qc.mk 0 (ByteArray.mk (List.toArray []))]))).length*2=(w0.length+1-Int.toNat a)*2∧Int.toNat (w64 (a+1))*2+(w0.length+1-Int.toNat (w64 (a+1)))*2≤(w0.length+1)*2 then if 0≤t8∧t8<((t7.length:Nat):Int) then Option.bind t7[Int.toNat t8]? fun(a8:qc)=>if 0≤a∧a<((w0.length+1:Nat):Int) then if Int.toNat a*2+2≤(w0.length+1)*2 then some (Sum.inl (List.set (spl (w0++[qc.mk 0 (ByteArray.mk (List.toArray []))]) (Int.toNat (w64 (a+1))) (List.take (min (w0.length+1-Int.toNat a) (w0.length+1-Int.toNat (w64 (a+1)))) (List.take (w0.length+1-Int.toNat a) (List.drop (Int.toNat a) (w0++[qc.mk 0 (ByteArray.mk (List.toArray []))]))))) (Int.toNat a) a8,w64 (t8+1))) else none else none else none else none else if Int.toNat (w64 (a+1))*2+(w0.length+1-Int.toNat (w64 (a+1)))*2≤(w0.length+1)*2 then if 0≤t8∧t8<((t7.length:Nat):Int) then Option.bind t7[Int.toNat t8]? fun(a9:qc)=>if 0≤a∧a<((w0.length+1:Nat):Int) then if Int.toNat a*2+2≤(w0.length+1)*2 then some (Sum.inl (List.set (w0++[qc.mk 0 (ByteArray.mk (List.toArray []))]) (Int.toNat a) a9,w64 (t8+1))) else none else none else none else none else none else if 0≤a∧a≤((w0.length+1:Nat):Int) then if a=0∨a<((w0.length+1:Nat):Int) then if(List.take (w0.length+1-Int.toNat a) (List.drop (Int.toNat a) (w0++[qc.mk 0 (ByteArray.mk (List.toArray []))]))).length*2=(w0.length+1-Int.toNat a)*2 then if 0≤t8∧t8<((t7.length:Nat):Int) then Option.bind t7[Int.toNat t8]? fun(a10:qc)=>if 0≤a∧a<((w0.length+1:Nat):Int) then if Int.toNat a*2+2≤(w0.length+1)*2 then some (Sum.inl (List.set (w0++[qc.mk 0 (ByteArray.mk (List.toArray []))]) (Int.toNat a) a10,w64 (t8+1))) else none else none else none else none else if 0≤t8∧t8<((t7.length:Nat):Int) then Option.bind t7[Int.toNat t8]? fun(a11:qc)=>if 0≤a∧a<((w0.length+1:Nat):Int) then if Int.toNat a*2+2≤(w0.length+1)*2 then some (Sum.inl (List.set (w0++[qc.mk 0 (ByteArray.mk (List.toArray []))]) (Int.toNat a) a11,w64 (t8+1))) else none else none else none else none else none else none else some (Sum.inr w0)
theorem q4r:∀(w0:List qc) (t3:List qj) (t6:Int) (t7:List qc) (t8:Int) (w0_len:Nat),w0_len=w0.length→XL2 evo 53 0 8 ⟨[(3,rL 6 qk t3),(5,rO 0 2 w0_len),(6,rI t6),(7,rL 2 qe t7),(8,rI t8)],[(0,bR 51 2 qe w0)],1,85⟩=(qq (q0l t3 t6 t7) (w0,t8)).bind (fun(e:List qc)=>some (Go.Exit.exit 2,⟨[(3,rL 6 qk t3),(5,rO 0 2 e.length),(6,rI t6)],[(0,bR 51 2 qe e)],1,85⟩)) :=
 by
 intro w0 t3 t6 t7 t8 w0_len h0
 subst h0
 revert t8;revert w0;exact q3v qmB qms (fun e=>by exact⟨_,rfl,fun h=>by cases h⟩) fun w0 t8=>by
  have:=qpF;have:=@qdO.eq_1;have:=@q3I;have:=@q0l.eq_1;exact gA
noncomputable def Jm (t3:List qj):(List qc×Int)→Option ((List qc×Int)⊕(List qc))|(w0,t6)=>if t6<((t3.length:Nat):Int) then if 0≤t6∧t6<((t3.length:Nat):Int) then Option.bind t3[Int.toNat t6]? fun(a:qj)=>Option.bind (qq (q0l t3 t6 a.Need.Set) (w0,0)) fun(a2:List qc)=>some (Sum.inl (a2,w64 (t6+1))) else none else some (Sum.inr w0)
theorem q4n:∀(w0:List qc) (t3:List qj) (t6:Int) (w0_len:Nat),w0_len=w0.length→XL2 evo 53 0 4 ⟨[(3,rL 6 qk t3),(5,rO 0 2 w0_len),(6,rI t6)],[(0,bR 51 2 qe w0)],1,85⟩=(qq (Jm t3) (w0,t6)).bind (fun(e:List qc)=>some (Go.Exit.exit 0,⟨[(5,rO 0 2 e.length)],[(0,bR 51 2 qe e)],1,85⟩)) :=
 by
 intro w0 t3 t6 w0_len h0
 subst h0
 revert t6;revert w0;exact q3v qmt qmE (fun e=>by exact⟨_,rfl,fun h=>by cases h⟩) fun w0 t6=>by
  have:=qpF;have:=@qdQ.eq_1;have:=@q4r;have:=@Jm.eq_1;exact gA
theorem q2q:∀  (t6:Int),XL2 evo 53 0 4 ⟨[(3,R.c (C.d (D.sl 6 0 []))),(5,rO 0 2 0),(6,rI t6)],[(0,B.row 51 2 [])],1,85⟩=(qq (Jm []) ([],t6)).bind (fun(e:List qc)=>some (Go.Exit.exit 0,⟨[(5,rO 0 2 e.length)],[(0,bR 51 2 qe e)],1,85⟩)):=by
 intro t6;have h:=q4n [] [] t6 _ rfl
 first
  | exact h
  | (simp only[rL,dL,bR,bZ,Nat.reduceAdd] at h;exact h)
noncomputable def zJ (w0:List qj) (w1:List qc) (t6:Int) (t7:List qc) (t8:Int):Int→Option (Int⊕Int)|t9=>if t9<((w1.length:Nat):Int) then if 0≤t9∧t9<((w1.length:Nat):Int) then Option.bind w1[Int.toNat t9]? fun(a:qc)=>if 0≤t8∧t8<((t7.length:Nat):Int) then Option.bind t7[Int.toNat t8]? fun(a2:qc)=>if qW a a2=Bool.true then some (Sum.inl (w64 (t9+1))) else some (Sum.inr t9) else none else none else some (Sum.inr t9)
theorem q2E:∀(w0:List qj) (w1:List qc) (t6:Int) (t7:List qc) (t8 t9:Int) (w0_len w1_len:Nat),w0_len=w0.length→w1_len=w1.length→XL2 evo 53 0 11 ⟨[(3,rO 0 6 w0_len),(5,rO 1 2 w1_len),(6,rI t6),(7,rL 2 qe t7),(8,rI t8),(9,rI t9)],[(0,bR 126 6 qk w0),(1,bR 51 2 qe w1)],2,85⟩=(qq (zJ w0 w1 t6 t7 t8) t9).bind (fun(e:Int)=>some (Go.Exit.exit 4,⟨[(3,rO 0 6 w0.length),(5,rO 1 2 w1.length),(6,rI t6),(7,rL 2 qe t7),(8,rI t8),(9,rI e)],[(0,bR 126 6 qk w0),(1,bR 51 2 qe w1)],2,85⟩)) :=
 by
 intro w0 w1 t6 t7 t8 t9 w0_len w1_len h0 h1
 subst h0 h1
 revert t9;exact q89 qgB qh9 (fun e=>by exact⟨_,rfl,fun h=>by cases h⟩) fun x=>by
  have:=qpF;have:=@qaL.eq_1;have:=@ZZ;have:=@zJ.eq_1;exact gA
noncomputable def zW (w0:List qj) (t6:Int) (t7:List qc):(List qc×Int)→Option ((List qc×Int)⊕(List qc))|(w1,t8)=>if t8<((t7.length:Nat):Int) then Option.bind (qq (zJ w0 w1 t6 t7 t8) 0) fun(a:Int)=>if a<((w1.length:Nat):Int) then if 0≤a∧a<((w1.length:Nat):Int) then Option.bind w1[Int.toNat a]? fun(a2:qc)=>if 0≤t8∧t8<((t7.length:Nat):Int) then Option.bind t7[Int.toNat t8]? fun(a3:qc)=>if(a2.School==a3.School)=Bool.true∧(ByteArray.toList a2.Code==ByteArray.toList a3.Code)=Bool.true then some (Sum.inl (w1,w64 (t8+1))) else if w1.length+1≤Go.maxLen∧(w1.length+1)*24≤140737488355328 then if 0≤w64 (a+1)∧w64 (a+1)≤((w1.length+1:Nat):Int) then if w64 (a+1)=0∨w64 (a+1)<((w1.length+1:Nat):Int) then if 0≤a∧a≤((w1.length+1:Nat):Int) then if a=0∨a<((w1.length+1:Nat):Int) then if(List.take (w1.length+1-Int.toNat a) (List.drop (Int.toNat a) (w1++[qc.mk 0 (ByteArray.mk (List.toArray []))]))).length*2=(w1.length+1-Int.toNat a)*2∧Int.toNat (w64 (a+1))*2+(w1.length+1-Int.toNat (w64 (a+1)))*2≤(w1.length+1)*2 then if 0≤t8∧t8<((t7.length:Nat):Int) then Option.bind t7[Int.toNat t8]? fun(a4:qc)=>if 0≤a∧a<((w1.length+1:Nat):Int) then if Int.toNat a*2+2≤(w1.length+1)*2 then some (Sum.inl (List.set (spl (w1++[qc.mk 0 (ByteArray.mk (List.toArray []))]) (Int.toNat (w64 (a+1))) (List.take (min (w1.length+1-Int.toNat a) (w1.length+1-Int.toNat (w64 (a+1)))) (List.take (w1.length+1-Int.toNat a) (List.drop (Int.toNat a) (w1++[qc.mk 0 (ByteArray.mk (List.toArray []))]))))) (Int.toNat a) a4,w64 (t8+1))) else none else none else none else none else if Int.toNat (w64 (a+1))*2+(w1.length+1-Int.toNat (w64 (a+1)))*2≤(w1.length+1)*2 then if 0≤t8∧t8<((t7.length:Nat):Int) then Option.bind t7[Int.toNat t8]? fun(a5:qc)=>if 0≤a∧a<((w1.length+1:Nat):Int) then if Int.toNat a*2+2≤(w1.length+1)*2 then some (Sum.inl (List.set (w1++[qc.mk 0 (ByteArray.mk (List.toArray []))]) (Int.toNat a) a5,w64 (t8+1))) else none else none else none else none else none else if 0≤a∧a≤((w1.length+1:Nat):Int) then if a=0∨a<((w1.length+1:Nat):Int) then if(List.take (w1.length+1-Int.toNat a) (List.drop (Int.toNat a) (w1++[qc.mk 0 (ByteArray.mk (List.toArray []))]))).length*2=(w1.length+1-Int.toNat a)*2 then if 0≤t8∧t8<((t7.length:Nat):Int) then Option.bind t7[Int.toNat t8]? fun(a6:qc)=>if 0≤a∧a<((w1.length+1:Nat):Int) then if Int.toNat a*2+2≤(w1.length+1)*2 then some (Sum.inl (List.set (w1++[qc.mk 0 (ByteArray.mk (List.toArray []))]) (Int.toNat a) a6,w64 (t8+1))) else none else none else none else none else if 0≤t8∧t8<((t7.length:Nat):Int) then Option.bind t7[Int.toNat t8]? fun(a7:qc)=>if 0≤a∧a<((w1.length+1:Nat):Int) then if Int.toNat a*2+2≤(w1.length+1)*2 then some (Sum.inl (List.set (w1++[qc.mk 0 (ByteArray.mk (List.toArray []))]) (Int.toNat a) a7,w64 (t8+1))) else none else none else none else none else none else none else none else none else if w1.length+1≤Go.maxLen∧(w1.length+1)*24≤140737488355328 then if 0≤w64 (a+1)∧w64 (a+1)≤((w1.length+1:Nat):Int) then if w64 (a+1)=0∨w64 (a+1)<((w1.length+1:Nat):Int) then if 0≤a∧a≤((w1.length+1:Nat):Int) then if a=0∨a<((w1.length+1:Nat):Int) then if(List.take (w1.length+1-Int.toNat a) (List.drop (Int.toNat a) (w1++[qc.mk 0 (ByteArray.mk (List.toArray []))]))).length*2=(w1.length+1-Int.toNat a)*2∧Int.toNat (w64 (a+1))*2+(w1.length+1-Int.toNat (w64 (a+1)))*2≤(w1.length+1)*2 then if 0≤t8∧t8<((t7.length:Nat):Int) then Option.bind t7[Int.toNat t8]? fun(a8:qc)=>if 0≤a∧a<((w1.length+1:Nat):Int) then if Int.toNat a*2+2≤(w1.length+1)*2 then some (Sum.inl (List.set (spl (w1++[qc.mk 0 (ByteArray.mk (List.toArray []))]) (Int.toNat (w64 (a+1))) (List.take (min (w1.length+1-Int.toNat a) (w1.length+1-Int.toNat (w64 (a+1)))) (List.take (w1.length+1-Int.toNat a) (List.drop (Int.toNat a) (w1++[qc.mk 0 (ByteArray.mk (List.toArray []))]))))) (Int.toNat a) a8,w64 (t8+1))) else none else none else none else none else if Int.toNat (w64 (a+1))*2+(w1.length+1-Int.toNat (w64 (a+1)))*2≤(w1.length+1)*2 then if 0≤t8∧t8<((t7.length:Nat):Int) then Option.bind t7[Int.toNat t8]? fun(a9:qc)=>if 0≤a∧a<((w1.length+1:Nat):Int) then if Int.toNat a*2+2≤(w1.length+1)*2 then some (Sum.inl (List.set (w1++[qc.mk 0 (ByteArray.mk (List.toArray []))]) (Int.toNat a) a9,w64 (t8+1))) else none else none else none else none else none else if 0≤a∧a≤((w1.length+1:Nat):Int) then if a=0∨a<((w1.length+1:Nat):Int) then if(List.take (w1.length+1-Int.toNat a) (List.drop (Int.toNat a) (w1++[qc.mk 0 (ByteArray.mk (List.toArray []))]))).length*2=(w1.length+1-Int.toNat a)*2 then if 0≤t8∧t8<((t7.length:Nat):Int) then Option.bind t7[Int.toNat t8]? fun(a10:qc)=>if 0≤a∧a<((w1.length+1:Nat):Int) then if Int.toNat a*2+2≤(w1.length+1)*2 then some (Sum.inl (List.set (w1++[qc.mk 0 (ByteArray.mk (List.toArray []))]) (Int.toNat a) a10,w64 (t8+1))) else none else none else none else none else if 0≤t8∧t8<((t7.length:Nat):Int) then Option.bind t7[Int.toNat t8]? fun(a11:qc)=>if 0≤a∧a<((w1.length+1:Nat):Int) then if Int.toNat a*2+2≤(w1.length+1)*2 then some (Sum.inl (List.set (w1++[qc.mk 0 (ByteArray.mk (List.toArray []))]) (Int.toNat a) a11,w64 (t8+1))) else none else none else none else none else none else none else some (Sum.inr w1)
theorem q2T:∀(w0:List qj) (w1:List qc) (t6:Int) (t7:List qc) (t8:Int) (w0_len w1_len:Nat),w0_len=w0.length→w1_len=w1.length→XL2 evo 53 0 8 ⟨[(3,rO 0 6 w0_len),(5,rO 1 2 w1_len),(6,rI t6),(7,rL 2 qe t7),(8,rI t8)],[(0,bR 126 6 qk w0),(1,bR 51 2 qe w1)],2,85⟩=(qq (zW w0 t6 t7) (w1,t8)).bind (fun(e:List qc)=>some (Go.Exit.exit 2,⟨[(3,rO 0 6 w0.length),(5,rO 1 2 e.length),(6,rI t6)],[(0,bR 126 6 qk w0),(1,bR 51 2 qe e)],2,85⟩)) :=
 by
 intro w0 w1 t6 t7 t8 w0_len w1_len h0 h1
 subst h0 h1
 revert t8;revert w1;exact q3v qmB qms (fun e=>by exact⟨_,rfl,fun h=>by cases h⟩) fun w1 t8=>by
  have:=qpF;have:=@qdO.eq_1;have:=@q2E;have:=@zW.eq_1;exact gA
noncomputable def zX (w0:List qj):(List qc×Int)→Option ((List qc×Int)⊕(List qc))|(w1,t6)=>if t6<((w0.length:Nat):Int) then if 0≤t6∧t6<((w0.length:Nat):Int) then Option.bind w0[Int.toNat t6]? fun(a:qj)=>Option.bind (qq (zW w0 t6 a.Need.Set) (w1,0)) fun(a2:List qc)=>some (Sum.inl (a2,w64 (t6+1))) else none else some (Sum.inr w1)
theorem q2W:∀(w0:List qj) (w1:List qc) (t6:Int) (w0_len w1_len:Nat),w0_len=w0.length→w1_len=w1.length→XL2 evo 53 0 4 ⟨[(3,rO 0 6 w0_len),(5,rO 1 2 w1_len),(6,rI t6)],[(0,bR 126 6 qk w0),(1,bR 51 2 qe w1)],2,85⟩=(qq (zX w0) (w1,t6)).bind (fun(e:List qc)=>some (Go.Exit.exit 0,⟨[(5,rO 0 2 e.length)],[(0,bR 51 2 qe e)],1,85⟩)) :=
 by
 intro w0 w1 t6 w0_len w1_len h0 h1
 subst h0 h1
 revert t6;revert w1;exact q3v qmt qmE (fun e=>by exact⟨_,rfl,fun h=>by cases h⟩) fun w1 t6=>by
  have:=qpF;have:=@qdQ.eq_1;have:=@q2T;have:=@zX.eq_1;exact gA
theorem q1H:∀  (w0:List qj) (t6:Int) (w0_len:Nat),w0_len=w0.length→XL2 evo 53 0 4 ⟨[(3,rO 0 6 w0_len),(5,rO 1 2 0),(6,rI t6)],[(0,bR 126 6 qk w0),(1,B.row 51 2 [])],2,85⟩=(qq (zX w0) ([],t6)).bind (fun(e:List qc)=>some (Go.Exit.exit 0,⟨[(5,rO 0 2 e.length)],[(0,bR 51 2 qe e)],1,85⟩)):=by
 intro w0 t6 w0_len h0;subst h0;have h:=q2W w0 [] t6 _ _ rfl rfl
 first
  | exact h
  | (simp only[rL,dL,bR,bZ,Nat.reduceAdd] at h;exact h)
noncomputable def Js (x0:qb):Option (List qc):=Option.bind (Jy x0 1) fun(a:Sum Unit (List qj))=>Sum.elim (fun(a2:Unit)=>Option.bind (qq (Jm []) ([],0)) fun(a4:List qc)=>some a4) (fun(a3:List qj)=>Option.bind (qq (zX a3) ([],0)) fun(a5:List qc)=>some a5) a
theorem q6A:∀(x0_Kind x0_N x0_Min:Int) (x0_Set:List qc) (x0_L:List qb),ev 53 0 [R.agg [dI x0_Kind,dI x0_N,dI x0_Min,dL 2 qe x0_Set,dL 5 qg x0_L]] []=(Js (qb.mk x0_Kind x0_N x0_Min x0_Set x0_L)).bind (fun(e:List qc)=>some (rO 0 2 e.length,[(0,bR 51 2 qe e)])) :=
 fun x0_Kind x0_N x0_Min x0_Set x0_L=>by
  rw[qt qqv qAN.2.2.2 qvY]
  have:=qpF;have:=@q1B;have:=@q2q;have:=@q1H;have:=@Js.eq_1;exact gA
theorem qCt:okL 54 qjv:=qu (qh qyd) (by kernel_rfl) (by kernel_rfl)
def qDr:=JA_ @qjv.eq_1 (JA_ @Tryz.f54.eq_1 @qyd)
theorem qD9:okL 17 qgG:=qu (qh qze) (by kernel_rfl) (by kernel_rfl)
def qBW:=JA_ @qgG.eq_1 (JA_ @Tryz.f17.eq_1 @qze)
noncomputable def q0L (n:Int) (m:Int):Option Int:=if m=0 then none else if m=0 then none else some (Int.tmod (w64 (Int.tmod n m+m)) m)
theorem q5a:∀(n m:Int),ev 17 0 [rI n,rI m] []=(q0L n m).bind (fun(e:Int)=>some (rI e,[])) :=
 fun n m=>by
  rw[qt qze qA1.2.2.2 qD9]
  have:=qBW;have:=@q0L.eq_1;exact gA
noncomputable def zu (n:Int) (d:qi):Option (Int×qi):=if((d.L.length:Nat):Int)≤d.At then some (0,d) else if 0≤w64 (w64 (d.At+1)-1)∧w64 (w64 (d.At+1)-1)<((d.L.length:Nat):Int) then Option.bind d.L[Int.toNat (w64 (w64 (d.At+1)-1))]? fun(a:Int)=>Option.bind (q0L a n) fun(a2:Int)=>some (a2,qi.mk d.L (w64 (d.At+1))) else none
theorem q1e:∀(n:Int) (d_L:List Int) (d_At:Int),ev 54 1 [rP 0,rI n] [(0,B.blk 107 [dL 1 eI d_L,dI d_At])]=(zu n (qi.mk d_L d_At)).bind (fun(e:Int×qi)=>some (rI e.1,[(0,B.blk 107 [dL 1 eI e.2.L,dI e.2.At])])) :=
 fun n d_L d_At=>by
  rw[qt qyd qB8.2.2.2 qCt]
  have:=qDr;have:=@q5a;have:=@zu.eq_1;exact gA
noncomputable def Q5 (w1:List qc) (t8:Int):(List qa×qi×Int)→Option ((List qa×qi×Int)⊕(List qa))|(w2,b0,t9)=>if t9<t8 then Option.bind (zu ((w1.length:Nat):Int) b0) fun(a:Prod Int qi)=>if 0≤a.1∧a.1<((w1.length:Nat):Int) then Option.bind w1[Int.toNat a.1]? fun(a2:qc)=>Option.bind (zu 4 a.2) fun(a3:Prod Int qi)=>if 0≤a3.1∧a3.1<4 then Option.bind [(5:Int),6,10,3][Int.toNat a3.1]? fun(a4:Int)=>Option.bind (zu 7 a3.2) fun(a5:Prod Int qi)=>if 0≤a5.1∧a5.1<7 then Option.bind [(50:Int),60,90,40,100,79,80][Int.toNat a5.1]? fun(a6:Int)=>Option.bind (zu 600 a5.2) fun(a7:Prod Int qi)=>Option.bind (zu 8 a7.2) fun(a8:Prod Int qi)=>if(a8.1==0)=Bool.true then if 0<t9 then if 0≤w64 (t9-1)∧w64 (t9-1)<((w2.length:Nat):Int) then Option.bind w2[Int.toNat (w64 (t9-1))]? fun(a9:qa)=>if 0<((a9.Sources.length:Nat):Int) then Option.bind a9.Sources[0]? fun(a10:Int)=>if w2.length+1≤Go.maxLen∧(w2.length+1)*104≤140737488355328 then some (Sum.inl (w2++[qa.mk a2 a4 a6 a7.1 [a10] 0 []],a8.2,w64 (t9+1))) else none else none else none else if w2.length+1≤Go.maxLen∧(w2.length+1)*104≤140737488355328 then some (Sum.inl (w2++[qa.mk a2 a4 a6 a7.1 [w64 (w64 (w64 (1000000*a2.School)+t9)+1)] 0 []],a8.2,w64 (t9+1))) else none else if w2.length+1≤Go.maxLen∧(w2.length+1)*104≤140737488355328 then some (Sum.inl (w2++[qa.mk a2 a4 a6 a7.1 [w64 (w64 (w64 (1000000*a2.School)+t9)+1)] 0 []],a8.2,w64 (t9+1))) else none else none else none else none else some (Sum.inr w2)
theorem q5W:∀(w1:List qc) (w2:List qa) (b0_L:List Int) (b0_At t8 t9:Int) (w1_len w2_len:Nat),w1_len=w1.length→w2_len=w2.length→XL2 evo 28 0 6 ⟨[(5,rP 0),(6,rO 1 2 w1_len),(7,rO 2 8 w2_len),(8,rI t8),(9,rI t9)],[(0,B.blk 107 [dL 1 eI b0_L,dI b0_At]),(1,bR 51 2 qe w1),(2,bR 53 8 qd w2)],3,77⟩=(qq (Q5 w1 t8) (w2,(qi.mk b0_L b0_At),t9)).bind (fun(e:List qa)=>some (Go.Exit.exit 0,⟨[(7,rO 0 8 e.length)],[(0,bR 53 8 qd e)],1,77⟩)) :=
 by
 intro w1 w2 b0_L b0_At t8 t9 w1_len w2_len h0 h1
 subst h0 h1
 have h:=q1A (E:=evo) (f:=28) (k:=0) (st:=fun x:List qa×qi×Int=>(⟨[(5,rP 0),(6,rO 1 2 w1.length),(7,rO 2 8 x.1.length),(8,rI t8),(9,rI x.2.2)],[(0,B.blk 107 [dL 1 eI x.2.1.L,dI x.2.1.At]),(1,bR 51 2 qe w1),(2,bR 53 8 qd x.1)],3,77⟩:S)) (ex:=fun(e:List qa)=>(Go.Exit.exit 0,⟨[(7,rO 0 8 e.length)],[(0,bR 53 8 qd e)],1,77⟩)) (step:=(Q5 w1 t8)) qv8 qtC (fun e h=>by cases h) (fun x=>by
  obtain⟨w2,b0,t9⟩:=x;have:=qzC;have:=@qiz.eq_1;have:=@q1e;have:=@Q5.eq_1;exact gA) (w2,(qi.mk b0_L b0_At),t9)
 exact h
theorem q3V:∀  (w1:List qc) (b0_L:List Int) (b0_At t8 t9:Int) (w1_len:Nat),w1_len=w1.length→XL2 evo 28 0 6 ⟨[(5,rP 0),(6,rO 1 2 w1_len),(7,rO 2 8 0),(8,rI t8),(9,rI t9)],[(0,B.blk 107 [dL 1 eI b0_L,dI b0_At]),(1,bR 51 2 qe w1),(2,B.row 53 8 [])],3,77⟩=(qq (Q5 w1 t8) ([],(qi.mk b0_L b0_At),t9)).bind (fun(e:List qa)=>some (Go.Exit.exit 0,⟨[(7,rO 0 8 e.length)],[(0,bR 53 8 qd e)],1,77⟩)):=by
 intro w1 b0_L b0_At t8 t9 w1_len h0;subst h0;have h:=q5W w1 [] ((qi.mk b0_L b0_At)).L ((qi.mk b0_L b0_At)).At t8 t9 _ _ rfl rfl
 first
  | exact h
  | (simp only[rL,dL,bR,bZ,Nat.reduceAdd] at h;exact h)
noncomputable def q11 (x0:qb) (x1:List Int):Option (List qa):=Option.bind (Js x0) fun(a:List qc)=>if a.length+1≤Go.maxLen∧(a.length+1)*24≤140737488355328 then Option.bind (zu 8 (qi.mk x1 0)) fun(a2:Prod Int qi)=>Option.bind (qq (Q5 (a++[qc.mk 1 (ByteArray.mk (List.toArray [90]))]) a2.1) ([],(a2.2,0))) fun(a3:List qa)=>some a3 else none
theorem q9D:∀(x0_Kind x0_N x0_Min:Int) (x0_Set:List qc) (x0_L:List qb) (x1:List Int),ev 28 0 [R.agg [dI x0_Kind,dI x0_N,dI x0_Min,dL 2 qe x0_Set,dL 5 qg x0_L],rL 1 eI x1] []=(q11 (qb.mk x0_Kind x0_N x0_Min x0_Set x0_L) x1).bind (fun(e:List qa)=>some (rL 8 qd e,[])) :=
 fun x0_Kind x0_N x0_Min x0_Set x0_L x1=>by
  rw[qt qvR qA7.2.2.2 qAG]
  have:=qzC;have:=@q6A;have:=@q1e;have:=@q3V;have:=@q11.eq_1;exact gA
noncomputable def ZS (c:JL):Option (qb×List qa):=Option.bind (q0Y c.Need) fun(a:qb)=>Option.bind (q11 a c.L) fun(a2:List qa)=>some (a,a2)
theorem q4W:∀(c_Need c_L:List Int) (c_Odd_0_0 c_Odd_0_1 c_Odd_0_2 c_Odd_1_0 c_Odd_1_1 c_Odd_1_2:Int),ev 7 0 [R.agg [dL 1 eI c_Need,dL 1 eI c_L,dI c_Odd_0_0,dI c_Odd_0_1,dI c_Odd_0_2,dI c_Odd_1_0,dI c_Odd_1_1,dI c_Odd_1_2]] []=(ZS (JL.mk c_Need c_L (qvD.mk (qos.mk c_Odd_0_0 c_Odd_0_1 c_Odd_0_2) (qos.mk c_Odd_1_0 c_Odd_1_1 c_Odd_1_2)))).bind (fun(e:qb×List qa)=>some (R.tup [R.agg [dI e.1.Kind,dI e.1.N,dI e.1.Min,dL 2 qe e.1.Set,dL 5 qg e.1.L],rL 8 qd e.2],[])) :=
 fun c_Need c_L c_Odd_0_0 c_Odd_0_1 c_Odd_0_2 c_Odd_1_0 c_Odd_1_1 c_Odd_1_2=>by
  rw[qt bd7 pw7.2.2.2 lo7]
  have:=cx7;have:=@q9s;have:=@q9D;have:=@ZS.eq_1;exact gA
theorem qE3:okL 10 qhi:=qu (qh qx8) (by kernel_rfl) (by kernel_rfl)
def qDX:=JA_ @qhi.eq_1 (JA_ @Tryz.f10.eq_1 @qx8)
noncomputable def q0e (l:List qa):Option (List qa):=if 0≤min ((l.length:Nat):Int) 5∧min ((l.length:Nat):Int) 5≤((l.length:Nat):Int) then some (List.take (Int.toNat (min ((l.length:Nat):Int) 5)-0) l) else none
theorem qa5:∀(l:List qa),ev 10 0 [rL 8 qd l] []=(q0e l).bind (fun(e:List qa)=>some (rL 8 qd e,[])) :=
 fun l=>by
  rw[qt qx8 qAJ.2.2.2 qE3]
  have:=qDX;have:=@q0e.eq_1;exact gA
noncomputable def z8 (w2:List Int) (b0:Q1) (b1:qb) (t2:Int) (t7:Bool) (t9:List qa) (t10:List Bool) (t47:Int):Int→Option (Int⊕(List Int))|t48=>if t48<t47 then if 1<((w2.length:Nat):Int) then Option.bind w2[1]? fun(a:Int)=>if((t10.length:Nat):Int)=0 then none else if 0≤Int.tmod (w64 (t48+a)) ((t10.length:Nat):Int)∧Int.tmod (w64 (t48+a)) ((t10.length:Nat):Int)<((t10.length:Nat):Int) then Option.bind t10[Int.toNat (Int.tmod (w64 (t48+a)) ((t10.length:Nat):Int))]? fun(a2:Bool)=>if a2=Bool.true then if 1<((w2.length:Nat):Int) then Option.bind w2[1]? fun(a3:Int)=>if((t10.length:Nat):Int)=0 then none else if w2.length+1≤Go.maxLen∧(w2.length+1)*8≤140737488355328 then some (Sum.inr (w2++[Int.tmod (w64 (t48+a3)) ((t10.length:Nat):Int)])) else none else none else some (Sum.inl (w64 (t48+1))) else none else none else some (Sum.inr w2)
theorem q2w:∀(w2:List Int) (b0_Need_Kind b0_Need_N b0_Need_Min:Int) (b0_Need_Set:List qc) (b0_Need_L:List qb) (b0_Scale_Worst b0_Scale_Best b0_Scale_Pass:Int) (b0_L:List qa) (b1_Kind b1_N b1_Min:Int) (b1_Set:List qc) (b1_L:List qb) (t2:Int) (t7:Bool) (t9:List qa) (t10:List Bool) (t47 t48:Int) (w2_len:Nat),w2_len=w2.length→XL2 evo 4 0 7 ⟨[(2,rI t2),(4,rP 0),(7,rB t7),(8,rP 1),(9,rL 8 qd t9),(10,rL 1 eB t10),(12,rO 2 1 w2_len),(47,rI t47),(48,rI t48)],[(0,B.blk 35 [dI b0_Need_Kind,dI b0_Need_N,dI b0_Need_Min,dL 2 qe b0_Need_Set,dL 5 qg b0_Need_L,dI b0_Scale_Worst,dI b0_Scale_Best,dI b0_Scale_Pass,dL 8 qd b0_L]),(1,B.blk 30 [dI b1_Kind,dI b1_N,dI b1_Min,dL 2 qe b1_Set,dL 5 qg b1_L]),(2,bR 3 1 eI w2)],3,144⟩=(qq (z8 w2 (Q1.mk (qb.mk b0_Need_Kind b0_Need_N b0_Need_Min b0_Need_Set b0_Need_L) (qf.mk b0_Scale_Worst b0_Scale_Best b0_Scale_Pass) b0_L) (qb.mk b1_Kind b1_N b1_Min b1_Set b1_L) t2 t7 t9 t10 t47) t48).bind (fun(e:List Int)=>some (Go.Exit.exit 0,⟨[(2,rI t2),(4,rP 0),(7,rB t7),(8,rP 1),(9,rL 8 qd t9),(12,rO 2 1 e.length)],[(0,B.blk 35 [dI b0_Need_Kind,dI b0_Need_N,dI b0_Need_Min,dL 2 qe b0_Need_Set,dL 5 qg b0_Need_L,dI b0_Scale_Worst,dI b0_Scale_Best,dI b0_Scale_Pass,dL 8 qd b0_L]),(1,B.blk 30 [dI b1_Kind,dI b1_N,dI b1_Min,dL 2 qe b1_Set,dL 5 qg b1_L]),(2,bR 3 1 eI e)],3,144⟩)) :=
 by
 intro w2 b0_Need_Kind b0_Need_N b0_Need_Min b0_Need_Set b0_Need_L b0_Scale_Worst b0_Scale_Best b0_Scale_Pass b0_L b1_Kind b1_N b1_Min b1_Set b1_L t2 t7 t9 t10 t47 t48 w2_len h0
 subst h0
 revert t48;exact q89 qwt qwz (fun e=>by exact⟨_,rfl,fun h=>by cases h⟩) fun x=>by
  have:=cx4;have:=@qoK.eq_1;have:=@z8.eq_1;exact gA
theorem q1z:∀(w20 w21 b0_Need_Kind b0_Need_N b0_Need_Min:Int) (b0_Need_Set:List qc) (b0_Need_L:List qb) (b0_Scale_Worst b0_Scale_Best b0_Scale_Pass:Int) (b0_L:List qa) (b1_Kind b1_N b1_Min:Int) (b1_Set:List qc) (b1_L:List qb) (t2:Int) (t7:Bool) (t9:List qa) (t10:List Bool) (t47 t48:Int),XL2 evo 4 0 7 ⟨[(2,rI t2),(4,rP 0),(7,rB t7),(8,rP 1),(9,rL 8 qd t9),(10,rL 1 eB t10),(12,rO 2 1 2),(47,rI t47),(48,rI t48)],[(0,B.blk 35 [dI b0_Need_Kind,dI b0_Need_N,dI b0_Need_Min,dL 2 qe b0_Need_Set,dL 5 qg b0_Need_L,dI b0_Scale_Worst,dI b0_Scale_Best,dI b0_Scale_Pass,dL 8 qd b0_L]),(1,B.blk 30 [dI b1_Kind,dI b1_N,dI b1_Min,dL 2 qe b1_Set,dL 5 qg b1_L]),(2,B.row 3 1 [dI w20,dI w21])],3,144⟩=(qq (z8 [w20,w21] (Q1.mk (qb.mk b0_Need_Kind b0_Need_N b0_Need_Min b0_Need_Set b0_Need_L) (qf.mk b0_Scale_Worst b0_Scale_Best b0_Scale_Pass) b0_L) (qb.mk b1_Kind b1_N b1_Min b1_Set b1_L) t2 t7 t9 t10 t47) t48).bind (fun(e:List Int)=>some (Go.Exit.exit 0,⟨[(2,rI t2),(4,rP 0),(7,rB t7),(8,rP 1),(9,rL 8 qd t9),(12,rO 2 1 e.length)],[(0,B.blk 35 [dI b0_Need_Kind,dI b0_Need_N,dI b0_Need_Min,dL 2 qe b0_Need_Set,dL 5 qg b0_Need_L,dI b0_Scale_Worst,dI b0_Scale_Best,dI b0_Scale_Pass,dL 8 qd b0_L]),(1,B.blk 30 [dI b1_Kind,dI b1_N,dI b1_Min,dL 2 qe b1_Set,dL 5 qg b1_L]),(2,bR 3 1 eI e)],3,144⟩)):=by
 intro w20 w21 b0_Need_Kind b0_Need_N b0_Need_Min b0_Need_Set b0_Need_L b0_Scale_Worst b0_Scale_Best b0_Scale_Pass b0_L b1_Kind b1_N b1_Min b1_Set b1_L t2 t7 t9 t10 t47 t48;have h:=q2w [w20,w21] ((Q1.mk (qb.mk b0_Need_Kind b0_Need_N b0_Need_Min b0_Need_Set b0_Need_L) (qf.mk b0_Scale_Worst b0_Scale_Best b0_Scale_Pass) b0_L)).Need.Kind ((Q1.mk (qb.mk b0_Need_Kind b0_Need_N b0_Need_Min b0_Need_Set b0_Need_L) (qf.mk b0_Scale_Worst b0_Scale_Best b0_Scale_Pass) b0_L)).Need.N ((Q1.mk (qb.mk b0_Need_Kind b0_Need_N b0_Need_Min b0_Need_Set b0_Need_L) (qf.mk b0_Scale_Worst b0_Scale_Best b0_Scale_Pass) b0_L)).Need.Min ((Q1.mk (qb.mk b0_Need_Kind b0_Need_N b0_Need_Min b0_Need_Set b0_Need_L) (qf.mk b0_Scale_Worst b0_Scale_Best b0_Scale_Pass) b0_L)).Need.Set ((Q1.mk (qb.mk b0_Need_Kind b0_Need_N b0_Need_Min b0_Need_Set b0_Need_L) (qf.mk b0_Scale_Worst b0_Scale_Best b0_Scale_Pass) b0_L)).Need.L ((Q1.mk (qb.mk b0_Need_Kind b0_Need_N b0_Need_Min b0_Need_Set b0_Need_L) (qf.mk b0_Scale_Worst b0_Scale_Best b0_Scale_Pass) b0_L)).Scale.Worst ((Q1.mk (qb.mk b0_Need_Kind b0_Need_N b0_Need_Min b0_Need_Set b0_Need_L) (qf.mk b0_Scale_Worst b0_Scale_Best b0_Scale_Pass) b0_L)).Scale.Best ((Q1.mk (qb.mk b0_Need_Kind b0_Need_N b0_Need_Min b0_Need_Set b0_Need_L) (qf.mk b0_Scale_Worst b0_Scale_Best b0_Scale_Pass) b0_L)).Scale.Pass ((Q1.mk (qb.mk b0_Need_Kind b0_Need_N b0_Need_Min b0_Need_Set b0_Need_L) (qf.mk b0_Scale_Worst b0_Scale_Best b0_Scale_Pass) b0_L)).L ((qb.mk b1_Kind b1_N b1_Min b1_Set b1_L)).Kind ((qb.mk b1_Kind b1_N b1_Min b1_Set b1_L)).N ((qb.mk b1_Kind b1_N b1_Min b1_Set b1_L)).Min ((qb.mk b1_Kind b1_N b1_Min b1_Set b1_L)).Set ((qb.mk b1_Kind b1_N b1_Min b1_Set b1_L)).L t2 t7 t9 t10 t47 t48 _ rfl
 first
  | exact h
  | (simp only[rL,dL,bR,bZ,Nat.reduceAdd] at h;exact h)
noncomputable def zB (w2:List Int) (b0:Q1) (b1:qb) (t2:Int) (t7:Bool) (t9:List qa) (t75:Int):Int→Option (Int⊕(Unit⊕Unit))|t76=>if t76<t75 then if 0≤t76∧t76<((w2.length:Nat):Int) then Option.bind w2[Int.toNat t76]? fun(a:Int)=>Option.bind (zb b1 (qr 1) t9 a) fun(a2:Prod (List Int) Bool)=>Option.bind (QQ b1 (qr 1) t9 a) fun(a3:Prod (List Int) Bool)=>if(!(a2.2==a3.2))=Bool.true then some (Sum.inr (Sum.inl ())) else Option.bind (zQ a2.1 a3.1) fun(a4:Bool)=>if(!a4)=Bool.true then some (Sum.inr (Sum.inl ())) else some (Sum.inl (w64 (t76+1))) else none else some (Sum.inr (Sum.inr ()))
theorem q2l:∀(w2:List Int) (b0_Need_Kind b0_Need_N b0_Need_Min:Int) (b0_Need_Set:List qc) (b0_Need_L:List qb) (b0_Scale_Worst b0_Scale_Best b0_Scale_Pass:Int) (b0_L:List qa) (b1_Kind b1_N b1_Min:Int) (b1_Set:List qc) (b1_L:List qb) (t2:Int) (t7:Bool) (t9:List qa) (t75 t76:Int) (w2_len:Nat),w2_len=w2.length→XL2 evo 4 0 13 ⟨[(2,rI t2),(4,rP 0),(7,rB t7),(8,rP 1),(9,rL 8 qd t9),(74,rO 2 1 w2_len),(75,rI t75),(76,rI t76)],[(0,B.blk 35 [dI b0_Need_Kind,dI b0_Need_N,dI b0_Need_Min,dL 2 qe b0_Need_Set,dL 5 qg b0_Need_L,dI b0_Scale_Worst,dI b0_Scale_Best,dI b0_Scale_Pass,dL 8 qd b0_L]),(1,B.blk 30 [dI b1_Kind,dI b1_N,dI b1_Min,dL 2 qe b1_Set,dL 5 qg b1_L]),(2,bR 3 1 eI w2)],3,144⟩=(qq (zB w2 (Q1.mk (qb.mk b0_Need_Kind b0_Need_N b0_Need_Min b0_Need_Set b0_Need_L) (qf.mk b0_Scale_Worst b0_Scale_Best b0_Scale_Pass) b0_L) (qb.mk b1_Kind b1_N b1_Min b1_Set b1_L) t2 t7 t9 t75) t76).bind (Sum.elim (fun(e:Unit)=>some (Go.Exit.ret,⟨[(2,rI t2),(4,rP 0),(6,rB Bool.false),(7,rB t7)],[(0,B.blk 35 [dI b0_Need_Kind,dI b0_Need_N,dI b0_Need_Min,dL 2 qe b0_Need_Set,dL 5 qg b0_Need_L,dI b0_Scale_Worst,dI b0_Scale_Best,dI b0_Scale_Pass,dL 8 qd b0_L])],1,144⟩)) (fun(e:Unit)=>some (Go.Exit.exit 2,⟨[(2,rI t2),(4,rP 0),(6,R.any),(7,rB t7)],[(0,B.blk 35 [dI b0_Need_Kind,dI b0_Need_N,dI b0_Need_Min,dL 2 qe b0_Need_Set,dL 5 qg b0_Need_L,dI b0_Scale_Worst,dI b0_Scale_Best,dI b0_Scale_Pass,dL 8 qd b0_L])],1,144⟩))) :=
 by
 intro w2 b0_Need_Kind b0_Need_N b0_Need_Min b0_Need_Set b0_Need_L b0_Scale_Worst b0_Scale_Best b0_Scale_Pass b0_L b1_Kind b1_N b1_Min b1_Set b1_L t2 t7 t9 t75 t76 w2_len h0
 subst h0
 revert t76;exact q89 qt4 qu2 (fun e=>by rcases e with _|_<;>exact⟨_,rfl,fun h=>by cases h⟩) fun x=>by
  have:=cx4;have:=@qgu.eq_1;have:=@q1k;have:=@q1F;have:=@q2I;have:=@J4;have:=@zB.eq_1;exact gA
noncomputable def Jg (x0:JL) (x1:Q1) (x2:Int):Option Bool:=Option.bind q01 fun(a:Bool)=>Option.bind (ZS x0) fun(a2:Prod qb (List qa))=>Option.bind (q0e a2.2) fun(a3:List qa)=>Option.bind (ZW a2.1 (qr 1) a3) fun(a4:Prod (List Bool) Int)=>Option.bind (q0L x2 ((a4.1.length:Nat):Int)) fun(a5:Int)=>Option.bind (qq (z8 [x2,a5] x1 a2.1 x2 a a3 a4.1 ((a4.1.length:Nat):Int)) 0) fun(a6:List Int)=>Option.bind (qq (zB a6 x1 a2.1 x2 a a3 ((a6.length:Nat):Int)) 0) fun(a7:Sum Unit Unit)=>Sum.elim (fun(a8:Unit)=>some Bool.false) (fun(a9:Unit)=>Option.bind (QL (x1.Need,2)) fun(a10:qb)=>Option.bind (q0e x1.L) fun(a11:List qa)=>Option.bind (zb a10 x1.Scale a11 (QT Go.BinOp.and Go.IntKind.i64 x2 31)) fun(a12:Prod (List Int) Bool)=>Option.bind (q0e x1.L) fun(a13:List qa)=>Option.bind (QQ a10 x1.Scale a13 (QT Go.BinOp.and Go.IntKind.i64 x2 31)) fun(a14:Prod (List Int) Bool)=>if a=Bool.true then if(a12.2==a14.2)=Bool.true then Option.bind (zQ a12.1 a14.1) fun(e0:Bool)=>some e0 else some Bool.false else some Bool.false) a7
theorem q3Y:∀(x0_Need x0_L:List Int) (x0_Odd_0_0 x0_Odd_0_1 x0_Odd_0_2 x0_Odd_1_0 x0_Odd_1_1 x0_Odd_1_2 x1_Need_Kind x1_Need_N x1_Need_Min:Int) (x1_Need_Set:List qc) (x1_Need_L:List qb) (x1_Scale_Worst x1_Scale_Best x1_Scale_Pass:Int) (x1_L:List qa) (x2:Int),ev 4 0 [R.agg [dL 1 eI x0_Need,dL 1 eI x0_L,dI x0_Odd_0_0,dI x0_Odd_0_1,dI x0_Odd_0_2,dI x0_Odd_1_0,dI x0_Odd_1_1,dI x0_Odd_1_2],R.agg [dI x1_Need_Kind,dI x1_Need_N,dI x1_Need_Min,dL 2 qe x1_Need_Set,dL 5 qg x1_Need_L,dI x1_Scale_Worst,dI x1_Scale_Best,dI x1_Scale_Pass,dL 8 qd x1_L],rI x2] []=(Jg (JL.mk x0_Need x0_L (qvD.mk (qos.mk x0_Odd_0_0 x0_Odd_0_1 x0_Odd_0_2) (qos.mk x0_Odd_1_0 x0_Odd_1_1 x0_Odd_1_2))) (Q1.mk (qb.mk x1_Need_Kind x1_Need_N x1_Need_Min x1_Need_Set x1_Need_L) (qf.mk x1_Scale_Worst x1_Scale_Best x1_Scale_Pass) x1_L) x2).bind (fun(e:Bool)=>some (rB e,[])) :=
 fun x0_Need x0_L x0_Odd_0_0 x0_Odd_0_1 x0_Odd_0_2 x0_Odd_1_0 x0_Odd_1_1 x0_Odd_1_2 x1_Need_Kind x1_Need_N x1_Need_Min x1_Need_Set x1_Need_L x1_Scale_Worst x1_Scale_Best x1_Scale_Pass x1_L x2=>by
  rw[qt bd4 pw4.2.2.2 lo4]
  have:=cx4;have:=@q6K;have:=@q4W;have:=@qa5;have:=@q1k;have:=@q3P;have:=@q5a;have:=@q1z;have:=@q2l;have:=@qa4;have:=@q1F;have:=@q2I;have:=@J4;have:=@Jg.eq_1;exact gA
end Go.Proofs.YtgejdfnidjnjcaaGreat.Vc

namespace Go.Proofs.YtgejdfnidjnjcaaGreat.Vc
open Go.RowKit
set_option linter.unusedVariables false
set_option linter.unusedSimpArgs false
section
variable {τ ε:Type} {step:τ→Option (τ⊕ε)}
theorem qL {x y:τ} (h:step x=some (.inl y)):qq step x=qq step y:=by
 rw[qgs,h];rfl
theorem qz {x:τ} {e:ε} (h:step x=some (.inr e)):qq step x=some e:=by
 rw[qgs,h];rfl
theorem QC {e:ε} (st:Nat→τ) (i0 n:Nat) (h0:i0≤n) (h:∀i,i0≤i→i<n→step (st i)=some (.inl (st (i+1)))) (hn:step (st n)=some (.inr e)):qq step (st i0)=some e:=by
 have key:∀j i,j+i=n→i0≤i→qq step (st i)=some e:=by
  intro j
  induction j with
  | zero=>intro i hi _;rw[Nat.zero_add] at hi;subst hi;exact qz hn
  | succ j ih=>intro i hi h1;rw[qL (h i h1 (by omega))];exact ih (i+1) (by omega) (by omega)
 exact key (n-i0) i0 (by omega) (Nat.le_refl _)
def qbw {α β ε:Type} (g:β→α→β⊕ε) (fin:β→ε):List α→β→ε
 | [],b=>fin b
 | a::l,b=>match g b a with
  | .inl b'=>qbw g fin l b'
  | .inr e=>e
theorem qav {α β:Type} (l:List α) (st:β→Nat→τ) (g:β→α→β⊕ε) (fin:β→ε)
  (h:∀b i a,l[i]?=some a→step (st b i)=some (match g b a with | .inl b' => .inl (st b' (i+1)) | .inr e => .inr e)) (hn:∀b,step (st b l.length)=some (.inr (fin b))) (b:β):qq step (st b 0)=some (qbw g fin l b):=by
 have key:∀(r:List α) (i:Nat) (b:β),r.length+i=l.length→(∀j,r[j]?=l[i+j]?)→qq step (st b i)=some (qbw g fin r b):=by
  intro r
  induction r with
  | nil =>
   intro i b hi _
   have hi:i=l.length:=by simpa using hi
   subst hi;exact qz (hn b)
  | cons a r ih =>
   intro i b hi hr
   have ha:l[i]?=some a:=by have:=hr 0;simpa using this.symm
   have h1:=h b i a ha
   unfold qbw
   cases hg:g b a with
   | inl b' =>
    rw[hg] at h1
    rw[qL h1]
    refine ih (i+1) b' (by simp at hi;omega) fun j=>?_
    have:=hr (j+1)
    rw[show i+1+j=i+(j+1) by omega,←this];rfl
   | inr e =>
    rw[hg] at h1
    exact qz h1
 exact key l 0 b (by simp) (by simp)
theorem qal {α β:Type} (l:List α) (st:β→Nat→τ) (g:β→α→β) (fin:β→ε)
  (h:∀b i a,l[i]?=some a→step (st b i)=some (.inl (st (g b a) (i+1)))) (hn:∀b,step (st b l.length)=some (.inr (fin b))) (b:β):qq step (st b 0)=some (fin (l.foldl g b)):=by
 rw[qav l st (fun b a => .inl (g b a)) fin h hn b]
 congr 1
 induction l generalizing b with
 | nil=>rfl
 | cons a l ih =>
  unfold qbw
  simp only[List.foldl_cons]
  clear h hn
  have:∀(l:List α) (b:β),qbw (ε:=ε) (fun b a => .inl (g b a)) fin l b=fin (l.foldl g b):=by
   intro l
   induction l with
   | nil=>intro b;rfl
   | cons a l ih=>intro b;unfold qbw;simp only[List.foldl_cons];exact ih _
  exact this l _
theorem q8Q {α:Type} (l:List α) (st:Nat→τ) (p:α→Option ε) (d:ε)
  (h:∀i a,l[i]?=some a→step (st i)=some (match p a with|some e => .inr e|none => .inl (st (i+1)))) (hn:step (st l.length)=some (.inr d)):qq step (st 0)=some ((l.findSome? p).getD d):=by
 have h1:=qav (ε:=ε) (β:=Unit) l (fun _ i=>st i) (fun _ a=>match p a with|some e => .inr e|none => .inl ()) (fun _=>d) (fun b i a ha=>by
  rw[h i a ha];cases p a<;>rfl) (fun _=>hn) ()
 rw[h1]
 congr 1
 have:∀l:List α,qbw (ε:=ε) (fun(_:Unit) a=>match p a with|some e => .inr e|none => .inl ()) (fun _=>d) l ()=(l.findSome? p).getD d:=by
  intro l
  induction l with
  | nil=>rfl
  | cons a l ih =>
   unfold qbw
   rw[List.findSome?_cons]
   cases p a with
   | none=>simpa using ih
   | some e=>rfl
 exact this l
def q1O {α β ε:Type} (g:Nat→β→α→β⊕ε) (fin:β→ε):List α→Nat→β→ε
 | [],_,b=>fin b
 | a::l,i,b=>match g i b a with
  | .inl b'=>q1O g fin l (i+1) b'
  | .inr e=>e
theorem q0f {α β:Type} (l:List α) (st:β→Nat→τ) (g:Nat→β→α→β⊕ε) (fin:β→ε)
  (h:∀b i a,l[i]?=some a→step (st b i)=some (match g i b a with | .inl b' => .inl (st b' (i+1)) | .inr e => .inr e)) (hn:∀b,step (st b l.length)=some (.inr (fin b))) (b:β):qq step (st b 0)=some (q1O g fin l 0 b):=by
 have key:∀(r:List α) (i:Nat) (b:β),r.length+i=l.length→(∀j,r[j]?=l[i+j]?)→qq step (st b i)=some (q1O g fin r i b):=by
  intro r
  induction r with
  | nil =>
   intro i b hi _
   have hi:i=l.length:=by simpa using hi
   subst hi;exact qz (hn b)
  | cons a r ih =>
   intro i b hi hr
   have ha:l[i]?=some a:=by have:=hr 0;simpa using this.symm
   have h1:=h b i a ha
   unfold q1O
   cases hg:g i b a with
   | inl b' =>
    rw[hg] at h1
    rw[qL h1]
    refine ih (i+1) b' (by simp at hi;omega) fun j=>?_
    have:=hr (j+1)
    rw[show i+1+j=i+(j+1) by omega,←this];rfl
   | inr e =>
    rw[hg] at h1
    exact qz h1
 exact key l 0 b (by simp) (by simp)
end
theorem ZF {α:Type} {l:List α} {i:Nat} {a:α} (h:l[i]?=some a):i<l.length:=(List.getElem?_eq_some_iff.1 h).1
theorem zI {n:Int} (h0 : -9223372036854775808≤n) (h1:n≤9223372036854775807):w64 n=n:=wi n h0 h1
theorem qs {i n:Nat} (h:i<n) (hn:n≤9223372036854775807):w64 ((i:Int)+1)=((i+1:Nat):Int):=by
 rw[zI (by omega) (by omega)];omega
end Go.Proofs.YtgejdfnidjnjcaaGreat.Vc
namespace Go.Proofs.YtgejdfnidjnjcaaGreat.Vc
open Go.RowKit
set_option linter.unusedVariables false
set_option linter.unusedSimpArgs false
theorem qeD (a:Nat) (h:a<9223372036854775808):IntKind.i64.wrap (a:Int)=a:=wi _ (by omega) (by omega)
theorem qce (a:Nat):BitVec.ofInt IntKind.i64.bits (a:Int)=BitVec.ofNat 64 a:=by
 show BitVec.ofInt 64 (a:Int)=_
 simp
theorem q7k (a b:Nat) (ha:a<9223372036854775808) (hb:b<9223372036854775808):QT .and .i64 (a:Int) (b:Int)=((a &&& b:Nat):Int):=by
 unfold QT
 simp only[qce]
 have h1:(BitVec.ofNat 64 a &&& BitVec.ofNat 64 b).toNat=a &&& b:=by
  rw[BitVec.toNat_and,BitVec.toNat_ofNat,BitVec.toNat_ofNat,Nat.mod_eq_of_lt (by omega),Nat.mod_eq_of_lt (by omega)]
 have h2:a &&& b≤a:=Nat.and_le_left
 show IntKind.i64.wrap (((BitVec.ofNat 64 a &&& BitVec.ofNat 64 b).toNat:Nat):Int)=_
 rw[h1]
 exact qeD _ (by omega)
theorem qfk (a b:Nat) (ha:a<9223372036854775808) (hb:b<9223372036854775808):QT .andNot .i64 (a:Int) (b:Int)=((a ^^^ (a &&& b):Nat):Int):=by
 unfold QT
 simp only[qce]
 have h1:(BitVec.ofNat 64 a &&& ~~~BitVec.ofNat 64 b).toNat=a ^^^ (a &&& b):=by
  apply Nat.eq_of_testBit_eq
  intro i
  rw[BitVec.testBit_toNat,BitVec.getLsbD_and,BitVec.getLsbD_not,BitVec.getLsbD_ofNat,BitVec.getLsbD_ofNat,Nat.testBit_xor,Nat.testBit_and]
  by_cases hi:i<64
  ·simp only[hi,decide_true,Bool.true_and]
   cases a.testBit i<;>cases b.testBit i<;>rfl
  ·have:a.testBit i=false:=Nat.testBit_lt_two_pow (Nat.lt_of_lt_of_le ha (by
    have:=Nat.pow_le_pow_right (n:=2) (by decide) (show 63≤i by omega)
    exact this))
   simp[hi,this]
 have h2:a ^^^ (a &&& b)<2 ^ 63:=Nat.xor_lt_two_pow (by omega) (Nat.lt_of_le_of_lt Nat.and_le_left (by omega))
 show IntKind.i64.wrap (((BitVec.ofNat 64 a &&& ~~~BitVec.ofNat 64 b).toNat:Nat):Int)=_
 rw[h1]
 exact qeD _ (by omega)
theorem qb7 (a k:Nat) (hk:k≤64):((a:Int)).fdiv (2 ^ min k IntKind.i64.bits)=((a / 2 ^ k:Nat):Int):=by
 have:min k IntKind.i64.bits=k:=Nat.min_eq_left hk
 rw[this]
 show((a:Int)).fdiv (2 ^ k)=_
 rw[show((2:Int) ^ k)=((2 ^ k:Nat):Int) by simp]
 rw[Int.fdiv_eq_ediv_of_nonneg _ (Int.natCast_nonneg _)]
 simp
theorem q5A (a k:Nat) (ha:a<9223372036854775808) (hk:k≤64):(QT .and .i64 ((a:Int).fdiv (2 ^ min k IntKind.i64.bits)) 1==1)=a.testBit k:=by
 rw[qb7 a k hk,show(1:Int)=((1:Nat):Int) from rfl,q7k _ _ (Nat.lt_of_le_of_lt (Nat.div_le_self _ _) ha) (by decide),Nat.and_one_is_mod,Nat.testBit_eq_decide_div_mod_eq]
 have:a / 2 ^ k % 2<2:=Nat.mod_lt _ (by decide)
 by_cases h:a / 2 ^ k % 2=1
 ·simp[h]
 ·have:a / 2 ^ k % 2=0:=by omega
  simp[this]
def qQ {α:Type} (N:Nat) (g:Nat→α):List α:=(List.range N).map g
theorem qm {α:Type} (N:Nat) (g:Nat→α):(qQ N g).length=N:=by simp[qQ]
theorem zY {α:Type} {N:Nat} (g:Nat→α) {i:Nat} (h:i<N):(qQ N g)[i]?=some (g i):=by
 unfold qQ;rw[List.getElem?_map,List.getElem?_range h];rfl
theorem Qj {α:Type} {N:Nat} {f g:Nat→α} (h:∀k,k<N→f k=g k):qQ N f=qQ N g:=by
 unfold qQ
 refine List.map_congr_left fun k hk=>h k (List.mem_range.1 hk)
theorem ZM {α:Type} (N:Nat) (c:α):List.replicate N c=qQ N (fun _=>c):=by
 unfold qQ
 induction N with
 | zero=>rfl
 | succ n ih=>rw[List.range_succ,List.map_append,←ih,List.replicate_succ'];rfl
def q1R {α:Type} (g:Nat→α) (i:Nat) (v:α):Nat→α:=fun k=>if k=i then v else g k
theorem qM {α:Type} (N:Nat) (g:Nat→α) (i:Nat) (v:α):(qQ N g).set i v=qQ N (q1R g i v):=by
 refine List.ext_getElem? fun k=>?_
 rw[List.getElem?_set,qm]
 by_cases hk:k<N
 ·rw[zY _ hk,zY _ hk]
  unfold q1R
  by_cases h:i=k
  ·subst h;simp[hk]
  ·rw[if_neg h,if_neg (fun h2=>h h2.symm)]
 ·have e1:(qQ N g)[k]?=none:=List.getElem?_eq_none (by rw[qm];omega)
  have e2:(qQ N (q1R g i v))[k]?=none:=List.getElem?_eq_none (by rw[qm];omega)
  rw[e1,e2]
  split
  ·rw[if_neg (by omega)]
  ·rfl
theorem q1x {α:Type} (g:Nat→α) (i:Nat) (v:α):q1R g i v i=v:=by simp[q1R]
theorem q0r {α:Type} (g:Nat→α) (i:Nat) (v w:α):q1R (q1R g i v) i w=q1R g i w:=by
 funext k;unfold q1R;split<;>rfl
theorem q8a {α:Type} (f:Nat→α) (c:α) {i0 i:Nat} (h:i0≤i):q1R (fun k=>if i0≤k∧k<i then f k else c) i (f i)=fun k=>if i0≤k∧k<i+1 then f k else c:=by
 funext k
 unfold q1R
 by_cases hk:k=i
 ·subst hk;rw[if_pos rfl,if_pos ⟨h,Nat.lt_succ_self _⟩]
 ·rw[if_neg hk]
  show(if i0≤k∧k<i then f k else c)=_
  by_cases h:i0≤k∧k<i
  ·rw[if_pos h,if_pos ⟨h.1,by omega⟩]
  ·rw[if_neg h,if_neg (by omega)]
end Go.Proofs.YtgejdfnidjnjcaaGreat.Vc
namespace Go.Proofs.YtgejdfnidjnjcaaGreat.Vc
open Go.RowKit
set_option linter.unusedVariables false
set_option linter.unusedSimpArgs false
def ceq (a b:qc):Bool:=(a.School==b.School)&&(a.Code.toList==b.Code.toList)
def qcy (n a b:Int):Int:=max (min a b) (min n (max a b))
def q4q (s:qf):Bool:=qcy s.Worst (-1000) 1000==s.Worst&&qcy s.Best (-1000) 1000==s.Best&&s.Worst != s.Best&&qcy s.Pass s.Worst s.Best==s.Pass
def qbZ (s:qf) (g:Int):Bool:=q4q s&&qcy g s.Worst s.Best==g
def qbH (s:qf) (g m:Int):Bool:=qbZ s g&&(g==m||(decide (m<g)==decide (s.Worst<s.Best)))
theorem qbb (s:qf):q0q s=some (if q4q s then 0 else 10):=by
 have h1:=q8Q (ε:=Unit⊕Unit) (step:=Z7 [s.Worst,s.Best] s 2) [s.Worst,s.Best] (fun i=>(i:Int)) (fun a=>if qcy a (-1000) 1000 != a then some (.inl ()) else none) (.inr ()) (fun i a ha=>by
   have hi:i<2:=by obtain⟨h,_⟩:=List.getElem?_eq_some_iff.1 ha;simpa using h
   have hw:w64 ((i:Int)+1)=((i+1:Nat):Int):=qs hi (by omega)
   unfold Z7
   rw[if_pos (by omega),if_pos ⟨by omega,by simpa using by omega⟩,Int.toNat_natCast,ha,Option.bind_some,hw]
   show(if(qcy a (-1000) 1000 != a)=true then _ else _)=_
   split<;>simp_all) (by
   unfold Z7
   rfl)
 unfold q0q
 rw[show((0:Int))=((0:Nat):Int) from rfl,h1,Option.bind_some]
 unfold q4q zn
 simp only[List.findSome?_cons,List.findSome?_nil]
 show _=some (if(qcy s.Worst (-1000) 1000==s.Worst&&qcy s.Best (-1000) 1000==s.Best&&s.Worst != s.Best&&qcy s.Pass s.Worst s.Best==s.Pass)=true then 0 else 10)
 change (Sum.elim _ (fun _=>if(s.Worst==s.Best)=true then some (10:Int) else if(qcy s.Pass s.Worst s.Best != s.Pass)=true then some 10 else some 0) _)=_
 by_cases e1:qcy s.Worst (-1000) 1000=s.Worst<;>by_cases e2:qcy s.Best (-1000) 1000=s.Best<;>by_cases e3:s.Worst=s.Best<;>by_cases e4:qcy s.Pass s.Worst s.Best=s.Pass<;>simp[e1,e2,e3,e4,bne]
theorem qaS (s:qf) (g:Int):q0o s g=some (qbZ s g):=by
 unfold q0o qbZ
 rw[qbb,Option.bind_some]
 cases h:q4q s<;>simp[zn,qcy]
theorem qfW (s:qf) (g m:Int):JC s g m=some (qbH s g m):=by
 unfold JC qbH
 rw[qaS,Option.bind_some]
 cases h:qbZ s g
 ·simp
 ·by_cases h2:g=m<;>simp[h2]
theorem q9w (p:qc→Bool):∀(l:List qc) (i:Nat),(decide (0≤(q1O (ε:=Int⊕Unit) (fun i (_:Unit) a=>if p a=true then .inr (.inl (i:Int)) else .inl ()) (fun _ => .inr ()) l i ()).elim id (fun _ => -1)))=l.any p
 | [],i=>rfl
 | a::l,i=>by
  unfold q1O
  by_cases h:p a=true
  ·simp[h]
  ·have h':p a=false:=by simpa using h
   simp only[h',List.any_cons,Bool.false_or]
   exact q9w p l (i+1)
theorem qkf (l:List qc) (hl:l.length≤9223372036854775807) (v:qc):∃i:Int,qT l v=some i∧(decide (0≤i))=l.any (ceq v):=by
 have h1:=q0f (ε:=Int⊕Unit) (step:=qA v l (l.length:Int)) l (fun(b:Unit) i=>(i:Int)) (fun i b a=>if ceq v a=true then .inr (.inl (i:Int)) else .inl ()) (fun _ => .inr ()) (fun b i a ha=>by
   have hi:=ZF ha
   have hw:w64 ((i:Int)+1)=((i+1:Nat):Int):=qs hi hl
   unfold qA
   rw[if_pos (by omega),if_pos ⟨by omega,by omega⟩,Int.toNat_natCast,ha,Option.bind_some,hw]
   unfold ceq
   by_cases e1:v.School=a.School<;>by_cases e2:v.Code.toList=a.Code.toList<;>simp[e1,e2]) (fun b=>by
   unfold qA
   rw[if_neg (by omega)]) ()
 refine⟨_,?_,q9w (ceq v) l 0⟩
 unfold qT
 rw[show((0:Int))=((0:Nat):Int) from rfl,h1,Option.bind_some]
 cases(q1O (ε:=Int⊕Unit) (fun i (_:Unit) a=>if ceq v a=true then .inr (.inl (i:Int)) else .inl ()) (fun _ => .inr ()) l 0 ())<;>rfl
theorem qcS (l:List qc) (hl:l.length≤9223372036854775807) (v:qc):qJ l v=some (l.any (ceq v)):=by
 obtain⟨i,h1,h2⟩:=qkf l hl v
 unfold qJ
 rw[h1,Option.bind_some,h2]
def q5y (n:qb):Bool:=n.Kind==1||n.Kind==2
theorem q8D (n:qb):ZG n=q5y n:=by
 unfold ZG q5y
 cases h:(n.Kind==1)<;>simp
def q7X (n:qb) (s:qf) (a:qa):Bool:=q5y n&&n.Set.any (ceq a.Course)&&qbH s a.Grade n.Min
theorem q9g (n:qb) (hn:n.Set.length≤9223372036854775807) (s:qf) (a:qa):Zn n s a=some (q7X n s a):=by
 unfold Zn q7X
 rw[q8D,qcS n.Set hn,qfW]
 cases q5y n<;>cases n.Set.any (ceq a.Course)<;>simp
def wgF (n:qb) (s:qf) (set:Nat):List qa→Nat→qn→qn
 | [],_,x=>x
 | a::l,k,x=>wgF n s set l (k+1) (if set.testBit k=true then⟨w64 (x.many+1),w64 (x.credits+a.Credits),x.fine&&q7X n s a⟩ else x)
def ld0:qn:=⟨0,0,true⟩
theorem qf8 (n:qb) (hn:n.Set.length≤9223372036854775807) (s:qf) (l:List qa) (hl:l.length≤62) (set:Nat) (hs:set<9223372036854775808):JB n s l (set:Int)=some (wgF n s set l 0 ld0):=by
 have h1:=q0f (ε:=qn) (step:=ZI (set:Int) n s (qn.mk (0:Int) (0:Int) Bool.false) l (l.length:Int)) l (fun(b:qn) i=>(b,(i:Int))) (fun i b a => .inl (if set.testBit i=true then⟨w64 (b.many+1),w64 (b.credits+a.Credits),b.fine&&q7X n s a⟩ else b)) (fun b=>b) (fun b i a ha=>by
   have hi:=ZF ha
   have hw:w64 ((i:Int)+1)=((i+1:Nat):Int):=qs hi (by omega)
   have hb:Ju (i:Int) (set:Int)=some (set.testBit i):=by
    unfold Ju
    rw[if_pos (by omega),Int.toNat_natCast,q5A set i hs (by omega)]
   unfold ZI
   simp only
   rw[if_pos (by omega),if_pos ⟨by omega,by omega⟩,Int.toNat_natCast,ha,Option.bind_some,hw,hb,Option.bind_some]
   cases set.testBit i
   ·simp
   ·cases hf:b.fine
    ·simp
    ·simp[q9g n hn s a]) (fun b=>by
   unfold ZI
   simp only
   rw[if_neg (by omega)]) ld0
 unfold JB
 change Option.bind (qq _ (ld0,((0:Nat):Int))) _=_
 rw[h1,Option.bind_some]
 congr 1
 have:∀(l:List qa) (i:Nat) (b:qn),q1O (ε:=qn) (fun i (b:qn) (a:qa) => .inl (if set.testBit i=true then⟨w64 (b.many+1),w64 (b.credits+a.Credits),b.fine&&q7X n s a⟩ else b)) (fun b=>b) l i b=wgF n s set l i b:=by
  intro l
  induction l with
  | nil=>intro i b;rfl
  | cons a l ih=>intro i b;unfold q1O wgF;exact ih _ _
 exact this l 0 ld0
def q9Z (n:qb) (x:qn):Bool:=if n.Kind=1 then x.fine&&x.many==1 else x.fine&&decide (0<x.many)&&decide (n.N≤x.credits)
end Go.Proofs.YtgejdfnidjnjcaaGreat.Vc
namespace Go.Proofs.YtgejdfnidjnjcaaGreat.Vc
open Go.RowKit
set_option linter.unusedVariables false
set_option linter.unusedSimpArgs false
def Zi (set sub:Nat):Nat:=set ^^^ (set &&& sub)
theorem zr (set sub i:Nat):(Zi set sub).testBit i=(set.testBit i && !sub.testBit i):=by
 unfold Zi
 rw[Nat.testBit_xor,Nat.testBit_and]
 cases set.testBit i<;>cases sub.testBit i<;>rfl
theorem q8F (set sub:Nat):Zi set sub≤set:=by
 have:Zi set sub &&& set=Zi set sub:=Nat.eq_of_testBit_eq fun i=>by
  rw[Nat.testBit_and,zr];cases set.testBit i<;>cases sub.testBit i<;>rfl
 rw[←this];exact Nat.and_le_right
def eaV (own:Nat→Bool) (best:Nat→Int) (set sub:Nat) (v:Int):Int:=if own sub=true∧0≤best (Zi set sub) then max v (best (Zi set sub)+1) else v
def eaF (own:Nat→Bool) (best:Nat→Int) (set:Nat):Nat→Nat→Int→Int
 | 0,_,v=>v
 | f+1,sub,v=>if sub=0 then v else eaF own best set f ((sub-1) &&& set) (eaV own best set sub v)
def Bnd (best:Nat→Int) (N:Nat) (M:Int):Prop:=∀k,k<N → -1≤best k∧best k≤M
section
variable {N:Nat} (hN:N≤65536) {own:Nat→Bool} {best:Nat→Int} {M:Int} (hM:M≤1000000) (hb:Bnd best N M)
include hN hM hb
theorem qkS {set sub:Nat} (hs:set<N) (hsub:sub<N) (g:Nat→Int):Jx (sub:Int) ((Zi set sub:Nat):Int) (qQ N best) (qQ N g) (qQ N own) (set:Int)=some (qQ N (q1R g set (eaV own best set sub (g set)))):=by
 have hr:=q8F set sub
 have hbr:=hb (Zi set sub) (by omega)
 unfold Jx
 rw[qm,if_pos ⟨by omega,by omega⟩,Int.toNat_natCast,zY own hsub,Option.bind_some]
 unfold eaV
 cases ho:own sub
 ·simp only[Bool.false_eq_true,if_false,false_and]
  rw[←qM]
  congr 1
  refine List.ext_getElem? fun k=>?_
  rw[List.getElem?_set]
  split
  ·rename_i h;subst h;rw[qm,if_pos hs,zY _ hs]
  ·rfl
 ·simp only[if_true,true_and]
  rw[qm,if_pos ⟨by omega,by omega⟩,Int.toNat_natCast,zY best (by omega),Option.bind_some]
  by_cases h0:0≤best (Zi set sub)
  ·rw[if_pos h0,if_pos h0,qm,if_pos ⟨by omega,by omega⟩,Int.toNat_natCast,zY g hs,Option.bind_some,if_pos ⟨by omega,by omega⟩,Option.bind_some,if_pos ⟨by omega,by omega⟩,if_pos (by omega),zI (by omega) (by omega),qM]
  ·rw[if_neg h0,if_neg h0,←qM]
   congr 1
   refine List.ext_getElem? fun k=>?_
   rw[List.getElem?_set]
   split
   ·rename_i h;subst h;rw[qm,if_pos hs,zY _ hs]
   ·rfl
theorem qb5 {set:Nat} (hs:set<N):∀(f sub:Nat),sub≤f→sub≤set→∀(g:Nat→Int),qq (za (qQ N best) (qQ N own) (set:Int) (set:Int)) (qQ N g,(sub:Int))=some (qQ N (q1R g set (eaF own best set f sub (g set)))):=by
 have hself:∀g:Nat→Int,q1R g set (g set)=g:=fun g=>by funext k;unfold q1R;split<;>simp_all
 have h0:∀(g:Nat→Int),qq (za (qQ N best) (qQ N own) (set:Int) (set:Int)) (qQ N g,((0:Nat):Int))=some (qQ N g):=fun g=>by
  refine qz ?_
  unfold za
  simp
 intro f
 induction f with
 | zero =>
  intro sub hf _ g
  have:sub=0:=by omega
  subst this
  rw[h0]
  unfold eaF
  rw[hself]
 | succ f ih =>
  intro sub hf hle g
  unfold eaF
  by_cases hz:sub=0
  ·subst hz
   rw[h0,if_pos rfl,hself]
  ·have ha:(sub-1) &&& set≤sub-1:=Nat.and_le_left
   have hstep:za (qQ N best) (qQ N own) (set:Int) (set:Int) (qQ N g,(sub:Int))=some (.inl (qQ N (q1R g set (eaV own best set sub (g set))),((((sub-1) &&& set:Nat)):Int))):=by
    unfold za
    simp only
    rw[if_pos (by omega),qfk _ _ (by omega) (by omega),zI (by omega) (by omega),show((sub:Int)-1)=((sub-1:Nat):Int) by omega,q7k _ _ (by omega) (by omega)]
    have:=qkS hN hM hb (own:=own) hs (sub:=sub) (by omega) g
    unfold Zi at this
    rw[this,Option.bind_some]
   rw[qL hstep,ih _ (by omega) (by omega),if_neg hz,q1x,q0r]
end
def stF (skip:Bool) (own:Nat→Bool) (best:Nat→Int) (set:Nat):Int:=eaF own best set set set (if skip=true then best set else -1)
theorem qpI {own:Nat→Bool} {best:Nat→Int} {N:Nat} {M:Int} (hb:Bnd best N M) (hM : -1≤M) {set sub:Nat} (hs:set<N) {v:Int} (h : -1≤v∧v≤M+1) : -1≤eaV own best set sub v∧eaV own best set sub v≤M+1:=by
 have:=hb (Zi set sub) (Nat.lt_of_le_of_lt (q8F set sub) hs)
 unfold eaV
 split<;>omega
theorem qgy {own:Nat→Bool} {best:Nat→Int} {N:Nat} {M:Int} (hb:Bnd best N M) (hM : -1≤M) {set:Nat} (hs:set<N):∀(f sub:Nat) (v:Int),-1≤v∧v≤M+1 → -1≤eaF own best set f sub v∧eaF own best set f sub v≤M+1
 | 0,_,_,h=>h
 | f+1,sub,v,h=>by
  unfold eaF
  split
  ·exact h
  ·exact qgy hb hM hs f _ _ (qpI hb hM hs h)
theorem qaW {skip:Bool} {own:Nat→Bool} {best:Nat→Int} {N:Nat} {M:Int} (hb:Bnd best N M) (hM : -1≤M):Bnd (stF skip own best) N (M+1):=fun k hk=>by
 unfold stF
 have:=hb k hk
 refine qgy hb hM hk _ _ _ ?_
 split<;>omega
end Go.Proofs.YtgejdfnidjnjcaaGreat.Vc
namespace Go.Proofs.YtgejdfnidjnjcaaGreat.Vc
open Go.RowKit
set_option linter.unusedVariables false
set_option linter.unusedSimpArgs false
def b0F (k:Nat):Int:=if k=0 then 0 else -1
def alG (leaf:Int) (set:Nat):List Int→Nat→Bool
 | [],_=>true
 | x::d,k=>(set.testBit k==(x==leaf))&&alG leaf set d (k+1)
def alF (d:List Int) (leaf set:Nat):Bool:=alG (leaf:Int) set d 0
def foF (d:List Int) (a b:Nat):Bool:=d.any fun x=>decide ((a:Int)≤x)&&decide (x<(b:Int))
def Qd (d:List Int) (s:qf) (l:List qa) (n:qb) (nx set:Nat):Bool:=decide (set≠0)&&(alF d nx set&&q9Z n (wgF n s set l 0 ld0))
mutual
def lvN:qb→Nat
 | ⟨k,_,_,_,L⟩=>if k=1∨k=2 then 1 else lvL L
def lvL:List qb→Nat
 | []=>0
 | x::L=>lvN x+lvL L
end
mutual
def ndN:qb→List qb
 | ⟨k,n,m,S,L⟩=>⟨k,n,m,S,L⟩::ndL L
def ndL:List qb→List qb
 | []=>[]
 | x::L=>ndN x++ndL L
end
theorem q2F (n:qb):lvN n=if n.Kind=1∨n.Kind=2 then 1 else lvL n.L:=by cases n;rw[lvN]
theorem zV (n:qb):ndN n=n::ndL n.L:=by cases n;rw[ndN]
mutual
def qS (d:List Int) (s:qf) (l:List qa):qb→Nat→Nat→Bool
 | ⟨k,n,m,S,L⟩,nx,set=>if k=1∨k=2 then Qd d s l ⟨k,n,m,S,L⟩ nx set else decide (set≠0)&&decide ((if k=3 then(L.length:Int) else n)≤q4X d s l (k==4) L nx b0F set)
def q4X (d:List Int) (s:qf) (l:List qa) (sk:Bool):List qb→Nat→(Nat→Int)→Nat→Int
 | [],_,b,set=>b set
 | x::L,nx,b,set=>q4X d s l sk L (nx+lvN x) (stF (sk && !foF d nx (nx+lvN x)) (qS d s l x nx) b) set
end
theorem q9O (d:List Int) (s:qf) (l:List qa) (n:qb) (nx set:Nat):qS d s l n nx set=if n.Kind=1∨n.Kind=2 then Qd d s l n nx set else decide (set≠0)&&decide ((if n.Kind=3 then(n.L.length:Int) else n.N)≤q4X d s l (n.Kind==4) n.L nx b0F set):=by cases n;rw[qS]
theorem qa2:∀n:qb,lvN n≤(ndN n).length:=by
 intro n
 induction n using qb.rec (motive_2:=fun L=>lvL L≤(ndL L).length) with
 | mk k n m S L ih=>rw[lvN,ndN,List.length_cons];split<;>omega
 | nil=>simp[lvL]
 | cons x L h1 h2=>rw[lvL,ndL,List.length_append];omega
theorem qft (d:List Int) (hd:d.length≤16) (leaf set:Nat) (hs:set<9223372036854775808):Jd (leaf:Int) (set:Int) d=some (alF d leaf set):=by
 have h1:=q0f (ε:=Unit⊕Unit) (step:=Zo d (leaf:Int) (set:Int) (d.length:Int)) d (fun(_:Unit) i=>(i:Int)) (fun i _ x=>if(set.testBit i==(x==(leaf:Int)))=true then .inl () else .inr (.inl ())) (fun _ => .inr ()) (fun _ i x hx=>by
   have hi:=ZF hx
   have hw:w64 ((i:Int)+1)=((i+1:Nat):Int):=qs hi (by omega)
   unfold Zo
   rw[if_pos (by omega),if_pos ⟨by omega,by omega⟩,Int.toNat_natCast,hx,Option.bind_some,if_pos (by omega),hw,q5A set i hs (by omega)]
   cases(set.testBit i==(x==(leaf:Int)))<;>simp) (fun _=>by
   unfold Zo
   rw[if_neg (by omega)]) ()
 unfold Jd
 change Option.bind (qq _ ((0:Nat):Int)) _=_
 rw[h1,Option.bind_some]
 have:∀(d:List Int) (k:Nat),(Sum.elim (fun(_:Unit)=>some false) (fun(_:Unit)=>some true) (q1O (ε:=Unit⊕Unit) (fun i (_:Unit) (x:Int)=>if(set.testBit i==(x==(leaf:Int)))=true then .inl () else .inr (.inl ())) (fun _ => .inr ()) d k ()))=some (alG leaf set d k):=by
  intro d
  induction d with
  | nil=>intro k;rfl
  | cons x d ih =>
   intro k
   unfold q1O alG
   cases h:(set.testBit k==(x==(leaf:Int)))
   ·simp
   ·simp only[if_true,Bool.true_and];exact ih (k+1)
 exact this d 0
theorem qje (d:List Int) (hd:d.length≤16) (a b:Nat):q02 (a:Int) (b:Int) d=some (foF d a b):=by
 have h1:=q0f (ε:=Int⊕Unit) (step:=z5 (a:Int) (b:Int) d (d.length:Int)) d (fun(_:Unit) i=>(i:Int)) (fun i _ x=>if(decide ((a:Int)≤x)&&decide (x<(b:Int)))=true then .inr (.inl (i:Int)) else .inl ()) (fun _ => .inr ()) (fun _ i x hx=>by
   have hi:=ZF hx
   have hw:w64 ((i:Int)+1)=((i+1:Nat):Int):=qs hi (by omega)
   unfold z5 ZD
   rw[if_pos (by omega),if_pos ⟨by omega,by omega⟩,Int.toNat_natCast,hx,Option.bind_some,hw]
   by_cases h2:(a:Int)≤x
   ·by_cases h3:x<(b:Int)<;>simp[h2,h3]
   ·simp[h2]) (fun _=>by
   unfold z5
   rw[if_neg (by omega)]) ()
 unfold q02 Q9 Qz
 change Option.bind (Option.bind (Option.bind (qq _ ((0:Nat):Int)) _) _) _=_
 rw[h1,Option.bind_some]
 have:∀(d:List Int) (k:Nat),((Sum.elim (fun(a2:Int)=>some a2) (fun(_:Unit)=>some (-(1:Int))) (q1O (ε:=Int⊕Unit) (fun i (_:Unit) (x:Int)=>if(decide ((a:Int)≤x)&&decide (x<(b:Int)))=true then .inr (.inl (i:Int)) else .inl ()) (fun _ => .inr ()) d k ())).bind fun a=>some (decide ((0:Int)≤a)))=some (foF d a b):=by
  intro d
  induction d with
  | nil=>intro k;rfl
  | cons x d ih =>
   intro k
   unfold q1O foF
   rw[List.any_cons]
   cases h:(decide ((a:Int)≤x)&&decide (x<(b:Int)))
   ·simp only[Bool.false_eq_true,if_false,Bool.false_or];exact ih (k+1)
   ·simp
 have h2:=this d 0
 rw[Option.bind_eq_some_iff] at h2
 obtain⟨i,h3,h4⟩:=h2
 rw[h3,Option.bind_some,h4,Option.bind_some]
end Go.Proofs.YtgejdfnidjnjcaaGreat.Vc
namespace Go.Proofs.YtgejdfnidjnjcaaGreat.Vc
open Go.RowKit
set_option linter.unusedVariables false
set_option linter.unusedSimpArgs false
mutual
def hgN:qb→Nat
 | ⟨_,_,_,_,L⟩=>1+hgL L
def hgL:List qb→Nat
 | []=>0
 | x::L=>max (hgN x) (hgL L)
end
mutual
def dpN (d:Int):qb→Int→Int
 | ⟨_,_,_,_,L⟩,m=>dpL (d+1) L (max m d)
def dpL (d:Int):List qb→Int→Int
 | [],m=>m
 | x::L,m=>dpL d L (dpN d x m)
end
theorem q7I (n:qb):hgN n=1+hgL n.L:=by cases n;rw[hgN]
theorem qm3 (d:Int) (n:qb) (m:Int):dpN d n m=dpL (d+1) n.L (max m d):=by cases n;rw[dpN]
theorem q4H (k:Nat) (h:k≤100000):k≤maxLen∧k*72≤140737488355328:=⟨by unfold maxLen;omega,by omega⟩
def qm6 (y:qb):Prop:=∀(deep:Int) (w:List qb) (b2:Int) (b3:Bool),1≤deep→deep+hgN y≤101→w.length+(ndN y).length≤10000→Zj (y,deep,w,b2,b3)=some (.inr (w++ndN y,dpN deep y b2,b3))
theorem qeX (rF:(qb×Int×List qb×Int×Bool)→Option (Int⊕(List qb×Int×Bool))) (deep:Int) (hd:1≤deep) (L:List qb) (hL:L.length≤10000)
  (step:List qb×Int×Bool×Int→Option ((List qb×Int×Bool×Int)⊕(Int⊕(List qb×Int×Bool))))
  (hst:∀w b2 b3 (i:Nat),step (w,b2,b3,(i:Int))=if(i:Int)<(L.length:Int) then if(0:Int)≤i∧(i:Int)<(L.length:Int) then Option.bind L[Int.toNat i]? fun a2=>Option.bind (rF (a2,w64 (deep+1),w,b2,b3)) fun a3=>Sum.elim (fun a4=>some (Sum.inr (Sum.inl a4))) (fun a5=>some (Sum.inl (a5.1,a5.2.1,a5.2.2,w64 ((i:Int)+1)))) a3 else none else some (.inr (.inr (w,b2,b3))))
  (hP:∀y∈L,∀(w:List qb) (b2:Int) (b3:Bool),deep+1+hgN y≤101→w.length+(ndN y).length≤10000→rF (y,deep+1,w,b2,b3)=some (.inr (w++ndN y,dpN (deep+1) y b2,b3))) :
  ∀(r:List qb) (i:Nat) (w:List qb) (b2:Int) (b3:Bool),r.length+i=L.length→(∀j,r[j]?=L[i+j]?)→deep+1+hgL r≤101→w.length+(ndL r).length≤10000 →
  qq step (w,b2,b3,(i:Int))=some (.inr (w++ndL r,dpL (deep+1) r b2,b3)):=by
 intro r
 induction r with
 | nil =>
  intro i w b2 b3 hi _ _ _
  have hi:i=L.length:=by simpa using hi
  subst hi
  refine qz ?_
  rw[hst,if_neg (by omega),ndL,dpL,List.append_nil]
 | cons y r ih =>
  intro i w b2 b3 hi hr hh hw
  rw[hgL] at hh
  rw[ndL,List.length_append] at hw
  simp only[List.length_cons] at hi
  have hget:L[i]?=some y:=by have:=hr 0;simpa using this.symm
  have hlt:=ZF hget
  have hcall:=hP y (List.mem_of_getElem? hget) w b2 b3 (by omega) (by omega)
  have hstep:step (w,b2,b3,(i:Int))=some (.inl (w++ndN y,dpN (deep+1) y b2,b3,((i+1:Nat):Int))):=by
   rw[hst,if_pos (by omega),if_pos ⟨by omega,by omega⟩,Int.toNat_natCast,hget,Option.bind_some,zI (by omega) (by omega),hcall,Option.bind_some,qs hlt (by omega)]
   rfl
  rw[qL hstep,ih (i+1) _ _ _ (by omega) (fun j=>by rw[show i+1+j=i+(j+1) by omega,←hr (j+1)];rfl) (by omega) (by rw[List.length_append];omega),ndL,dpL,List.append_assoc]
theorem q7m (L:List qb):L.length≤(ndL L).length:=by
 induction L with
 | nil=>simp
 | cons x L ih=>rw[ndL,List.length_append,List.length_cons,zV,List.length_cons];omega
theorem qpt:∀(m:Nat) (y:qb),(ndN y).length≤m→qm6 y:=by
 intro m
 induction m with
 | zero=>intro y h;rw[zV] at h;simp at h
 | succ m ih =>
  intro y h deep w b2 b3 hd hh hw
  rw[zV,List.length_cons] at h hw
  rw[q7I] at hh
  have hsub:∀(L:List qb),(ndL L).length≤m→∀z∈L,qm6 z:=by
   intro L
   induction L with
   | nil=>intro _ z hz;simp at hz
   | cons x L ihl =>
    intro g z hz
    rw[ndL,List.length_append] at g
    rcases List.mem_cons.1 hz with rfl|hz
    ·exact ih _ (by omega)
    ·exact ihl (by omega) z hz
  have hP:=hsub y.L (by omega)
  have hl:=q7m y.L
  rw[q8b,Jk]
  unfold q08
  have hne:(((w.length:Nat):Int)==(10000:Int))=false:=by simp;omega
  rw[if_neg (by omega),if_neg (by rw[hne];simp),if_pos ⟨(q4H _ (by omega)).1,(q4H _ (by omega)).2⟩,Option.bind_some,Sum.elim_inr]
  have h1:=qeX Zj deep hd y.L (by omega) (Jj Zj deep y.L (y.L.length:Int)) (fun w b2 b3 i=>by rfl) (fun z hz w b2 b3 g1 g2=>hP z hz (deep+1) w b2 b3 (by omega) g1 g2) y.L 0 (w++[y]) (max b2 deep) b3 (by simp) (by simp) (by omega) (by rw[List.length_append,List.length_singleton];omega)
  rw[show((0:Nat):Int)=0 from rfl] at h1
  dsimp only
  have h2:(⟨y.Kind,y.N,y.Min,y.Set,y.L⟩:qb)=y:=by cases y;rfl
  rw[h2,h1,Option.bind_some,Sum.elim_inr,zV,qm3,List.append_assoc]
  rfl
theorem qgp (n:qb) (hh:hgN n≤100) (hn:(ndN n).length≤9999):q0K n=some (ndN n,dpN 1 n 0,true):=by
 rw[q7I] at hh
 rw[zV,List.length_cons] at hn
 have hl:=q7m n.L
 unfold q0K q0U q36 q0O
 rw[if_neg (by omega),if_pos (by unfold maxLen;omega),Option.bind_some,Sum.elim_inr]
 have h1:=qeX Zj 1 (by omega) n.L (by omega) (q0W 1 n.L (n.L.length:Int)) (fun w b2 b3 i=>by rfl) (fun z hz w b2 b3 g1 g2=>qpt _ z (Nat.le_refl _) (1+1) w b2 b3 (by omega) g1 g2) n.L 0 [n] (max 0 1) false (by simp) (by simp) (by omega) (by simp only[List.length_singleton];omega)
 rw[show((0:Nat):Int)=0 from rfl] at h1
 dsimp only
 have h2:(⟨n.Kind,n.N,n.Min,n.Set,n.L⟩:qb)=n:=by cases n;rfl
 rw[h2,h1,Option.bind_some,Sum.elim_inr,Option.bind_some,Sum.elim_inr,Option.bind_some,Sum.elim_inr,zV,qm3]
 rfl
def Qx (n:qb):Bool:=n.Kind != 3&&n.Kind != 4
theorem qkZ (n:qb):JH n=Qx n:=by
 unfold JH Qx
 cases h:(n.Kind != 3)<;>simp
theorem qjD (l:List qc) (h:l.length≤1000000):qR l=some ():=by
 unfold qR
 rw[if_pos ⟨by unfold maxLen;omega,by omega⟩]
theorem qiR:∀(m:Nat) (n:qb),(ndN n).length≤m→(ndN n).length≤100000→(∀y∈ndN n,y.Set.length≤1000000)→Zk n=some n:=by
 intro m
 induction m with
 | zero=>intro n h;rw[zV] at h;simp at h
 | succ m ih =>
  intro n h1 h2 h3
  have hset:=h3 n (by rw[zV];exact List.mem_cons_self)
  have hsub:∀(L:List qb),(ndL L).length≤m→(ndL L).length≤100000→(∀y∈ndL L,y.Set.length≤1000000)→∀y∈L,Zk y=some y:=by
   intro L
   induction L with
   | nil=>intro _ _ _ y hy;simp at hy
   | cons x L ihl =>
    intro g1 g2 g3 y hy
    rw[ndL,List.length_append] at g1 g2
    rw[ndL] at g3
    rcases List.mem_cons.1 hy with rfl|hy
    ·exact ih _ (by omega) (by omega) fun z hz=>g3 z (List.mem_append_left _ hz)
    ·exact ihl (by omega) (by omega) (fun z hz=>g3 z (List.mem_append_right _ hz)) y hy
  have e0:ndN n=n::ndL n.L:=zV n
  have hlen:(ndN n).length=(ndL n.L).length+1:=by rw[e0];rfl
  have hP:=hsub n.L (by omega) (by omega) fun y hy=>h3 y (by rw[e0];exact List.mem_cons_of_mem _ hy)
  have hl:=q7m n.L
  have hn:(⟨n.Kind,n.N,n.Min,n.Set,n.L⟩:qb)=n:=by cases n;rfl
  rw[q84,Jl,qjD _ hset,Option.bind_some]
  unfold zH
  rw[if_pos ⟨by unfold maxLen;omega,by omega⟩]
  rw[Option.bind_some]
  have hL:∀i0:Nat,qq (ZA Zk n.Kind n.N n.Min n.Set 0 0 0 (n.L.length:Int)) (n.L,((0:Nat):Int))=some n.L:=fun _=>by
   refine QC (fun i=>(n.L,(i:Int))) 0 n.L.length (Nat.zero_le _) (fun i _ hi=>?_) ?_
   ·obtain⟨y,hy⟩:∃y,n.L[i]?=some y:=⟨_,List.getElem?_eq_getElem hi⟩
    unfold ZA
    simp only
    rw[if_pos (by omega),if_pos ⟨by omega,by omega⟩,Int.toNat_natCast,hy,Option.bind_some,hP y (List.mem_of_getElem? hy),Option.bind_some,if_pos ⟨by omega,by omega⟩,if_pos (by omega),qs hi (by omega)]
    have:n.L.set i y=n.L:=by
     obtain⟨h1,h2⟩:=List.getElem?_eq_some_iff.1 hy
     rw[←h2,List.set_getElem_self]
    rw[this]
   ·unfold ZA
    simp only
    rw[if_neg (by omega)]
  have:=hL 0
  rw[show((0:Nat):Int)=0 from rfl] at this
  rw[this,Option.bind_some,hn]
theorem qbL (n:qb) (hh:hgN n≤100) (hn:(ndN n).length≤9999) (hs:∀y∈ndN n,y.Set.length≤1000000):JF n=some ((ndN n).filter Qx):=by
 have hsub:∀(m:Nat) (n y:qb),(ndN n).length≤m→y∈ndN n→(ndN y).length≤(ndN n).length∧∀z∈ndN y,z∈ndN n:=by
  intro m
  induction m with
  | zero=>intro n y h;rw[zV] at h;simp at h
  | succ m ih =>
   intro n y h hy
   rw[zV] at hy
   rcases List.mem_cons.1 hy with rfl|hy
   ·exact⟨Nat.le_refl _,fun z hz=>hz⟩
   ·have hL:∀(L:List qb),(ndL L).length≤m→y∈ndL L→(ndN y).length≤(ndL L).length∧∀z∈ndN y,z∈ndL L:=by
     intro L
     induction L with
     | nil=>intro _ h;simp[ndL] at h
     | cons x L ihl =>
      intro g gy
      rw[ndL,List.length_append] at g
      rw[ndL] at gy ⊢
      rw[List.length_append]
      rcases List.mem_append.1 gy with gy|gy
      ·obtain⟨a,b⟩:=ih x y (by omega) gy
       exact⟨by omega,fun z hz=>List.mem_append_left _ (b z hz)⟩
      ·obtain⟨a,b⟩:=ihl (by omega) gy
       exact⟨by omega,fun z hz=>List.mem_append_right _ (b z hz)⟩
    have e0:=zV n
    have:(ndN n).length=(ndL n.L).length+1:=by rw[e0];rfl
    obtain⟨a,b⟩:=hL n.L (by omega) hy
    exact⟨by omega,fun z hz=>by rw[e0];exact List.mem_cons_of_mem _ (b z hz)⟩
 have hc:∀y∈ndN n,Qx y=true→Zk y=some y:=fun y hy _=>by
  obtain⟨a,b⟩:=hsub _ n y (Nat.le_refl _) hy
  exact qiR _ y (Nat.le_refl _) (by omega) fun z hz=>hs z (b z hz)
 clear hsub hs
 unfold JF
 rw[qgp n hh hn,Option.bind_some]
 simp only
 generalize ndN n=l at hn hc
 have key:∀(r:List qb) (i:Nat) (b:List qb),r.length+i=l.length→(∀j,r[j]?=l[i+j]?)→b.length≤i→qq (Qy l (l.length:Int)) (b,(i:Int))=some (b++r.filter Qx):=by
  intro r
  induction r with
  | nil =>
   intro i b hi _ _
   have hi:i=l.length:=by simpa using hi
   subst hi
   refine qz ?_
   unfold Qy
   simp
  | cons y r ih =>
   intro i b hi hr hb
   simp only[List.length_cons] at hi
   have hget:l[i]?=some y:=by have:=hr 0;simpa using this.symm
   have hlt:=ZF hget
   have hstep:Qy l (l.length:Int) (b,(i:Int))=some (.inl (if Qx y=true then b++[y] else b,((i+1:Nat):Int))):=by
    unfold Qy
    simp only
    rw[if_pos (by omega),if_pos ⟨by omega,by omega⟩,Int.toNat_natCast,hget,Option.bind_some,qkZ,qs hlt (by omega)]
    cases h:Qx y
    ·simp
    ·rw[hc y (List.mem_of_getElem? hget) h,Option.bind_some,if_pos rfl,if_pos ⟨(q4H _ (by omega)).1,(q4H _ (by omega)).2⟩]
     simp
   have hb2:(if Qx y=true then b++[y] else b).length≤i+1:=by
    split
    ·rw[List.length_append,List.length_singleton];omega
    ·omega
   rw[qL hstep,ih (i+1) _ (by omega) (fun j=>by rw[show i+1+j=i+(j+1) by omega,←hr (j+1)];rfl) hb2,List.filter_cons]
   cases Qx y<;>simp
 have:=key l 0 [] (by simp) (by simp) (by simp)
 change Option.bind (qq _ ([],((0:Nat):Int))) _=_
 rw[this,Option.bind_some,List.nil_append]
end Go.Proofs.YtgejdfnidjnjcaaGreat.Vc
namespace Go.Proofs.YtgejdfnidjnjcaaGreat.Vc
open Go.RowKit
set_option linter.unusedVariables false
set_option linter.unusedSimpArgs false
def q2z (b:UInt8):Bool:=(48≤b.toNat&&b.toNat≤57)||(65≤b.toNat&&b.toNat≤90)
theorem qk9 (s:ByteArray) (i:Nat) (h:(s.get! i).toNat<128):Utf8.decode s i=((s.get! i).toNat,1):=by
 unfold Utf8.decode
 simp only[Nat.add_zero]
 rw[if_pos h]
theorem qn6 (s:ByteArray) (i:Nat) (h:¬ (s.get! i).toNat<128):128≤(Utf8.decode s i).1:=by
 unfold Utf8.decode
 simp only[Nat.add_zero]
 rw[if_neg h]
 have hr:128≤Utf8.runeError:=by decide
 split
 ·split
  ·assumption
  ·exact hr
 ·split
  ·split
   ·rename_i h;simp only[ge_iff_le,Bool.and_eq_true,decide_eq_true_eq] at h;omega
   ·exact hr
  ·split
   ·split
    ·rename_i h;simp only[ge_iff_le,Bool.and_eq_true,decide_eq_true_eq] at h;omega
    ·exact hr
   ·exact hr
theorem qax (b:UInt8) (h:b.toNat<128):Qe (b.toNat:Int) = !q2z b:=by
 unfold Qe q2z
 by_cases h1:b.toNat<65
 ·rw[if_pos (by omega)]
  by_cases h2:b.toNat<48
  ·rw[if_pos (by omega)]
   have e1:decide (48≤b.toNat)=false:=decide_eq_false (by omega)
   have e2:decide (65≤b.toNat)=false:=decide_eq_false (by omega)
   simp[e1,e2]
  ·rw[if_neg (by omega)]
   have e1:decide (48≤b.toNat)=true:=decide_eq_true (by omega)
   have e2:decide (65≤b.toNat)=false:=decide_eq_false (by omega)
   by_cases h3:b.toNat≤57
   ·have e3:decide (b.toNat≤57)=true:=decide_eq_true h3
    have e4:decide ((57:Int)<b.toNat)=false:=decide_eq_false (by omega)
    simp[e1,e2,e3,e4]
   ·have e3:decide (b.toNat≤57)=false:=decide_eq_false h3
    have e4:decide ((57:Int)<b.toNat)=true:=decide_eq_true (by omega)
    simp[e1,e2,e3,e4]
 ·rw[if_neg (by omega)]
  have e0:decide (b.toNat≤57)=false:=decide_eq_false (by omega)
  have e1:decide (65≤b.toNat)=true:=decide_eq_true (by omega)
  by_cases h2:90<b.toNat
  ·rw[if_pos (by omega),if_neg (by omega)]
   have e3:decide (b.toNat≤90)=false:=decide_eq_false (by omega)
   have e4:decide ((57:Int)<b.toNat)=true:=decide_eq_true (by omega)
   simp[e0,e1,e3,e4]
  ·rw[if_neg (by omega)]
   have e3:decide (b.toNat≤90)=true:=decide_eq_true (by omega)
   simp[e0,e1,e3]
theorem qjB (n:Nat) (h:128≤n):Qe (n:Int)=true:=by
 unfold Qe
 rw[if_neg (by omega),if_pos (by omega),if_neg (by omega)]
 exact decide_eq_true (by omega)
theorem qkH (s:ByteArray) (i:Nat) (h:i<s.size):s.get! i=s.data.toList.getD i 0:=by
 obtain⟨⟨l⟩⟩:=s
 have h':i<l.length:=h
 show(Array.mk l)[i]! = l.getD i 0
 simp[h',List.getD]
theorem qd2 (s:ByteArray):∀(r:List UInt8) (p:Nat),r.length+p=s.size→(∀j,r[j]?=s.data.toList[p+j]?)→∃e,qq (ze s true) p=some e∧((∃i:Int,e = .inl i∧0≤i∧r.all q2z=false)∨(e = .inr ()∧r.all q2z=true)):=by
 intro r
 induction r with
 | nil =>
  intro p hp _
  have hp:p=s.size:=by simpa using hp
  subst hp
  refine⟨.inr (),qz ?_,.inr ⟨rfl,rfl⟩⟩
  unfold ze
  rw[if_neg (by omega)]
 | cons b r ih =>
  intro p hp hr
  simp only[List.length_cons] at hp
  have hb:s.data.toList[p]?=some b:=by have:=hr 0;simpa using this.symm
  have hg:s.get! p=b:=by rw[qkH s p (by omega),List.getD,hb];rfl
  by_cases h:b.toNat<128
  ·have hd:=qk9 s p (by rw[hg];exact h)
   rw[hg] at hd
   cases ho:q2z b
   ·refine⟨.inl (p:Int),qz ?_,.inl ⟨_,rfl,by omega,by simp[ho]⟩⟩
    unfold ze
    rw[if_pos (by omega),hd,qax b h,ho]
    rfl
   ·obtain⟨e,h1,h2⟩:=ih (p+1) (by omega) (fun j=>by rw[show p+1+j=p+(j+1) by omega,←hr (j+1)];rfl)
    refine⟨e,?_,by rw[List.all_cons,ho,Bool.true_and];exact h2⟩
    rw[qL (y:=p+1) (by
     unfold ze
     rw[if_pos (by omega),hd,qax b h,ho]
     rfl)]
    exact h1
  ·have hbig:=qn6 s p (by rw[hg];exact h)
   have hbad:q2z b=false:=by
    unfold q2z
    have e1:decide (b.toNat≤57)=false:=decide_eq_false (by omega)
    have e2:decide (b.toNat≤90)=false:=decide_eq_false (by omega)
    simp[e1,e2]
   refine⟨.inl (p:Int),qz ?_,.inl ⟨_,rfl,by omega,by simp[hbad]⟩⟩
   unfold ze
   rw[if_pos (by omega),qjB _ hbig]
   rfl
def qcz (s:ByteArray):Bool:=decide (s.size≠0)&&decide (s.size≤8)&&s.data.toList.all q2z
theorem qfq (s:ByteArray):(s.toList==ByteArray.toList (ByteArray.mk (List.toArray [])))=decide (s.size=0):=by
 rw[ByteArray.toList_eq,ByteArray.toList_eq]
 obtain⟨⟨l⟩⟩:=s
 show(l==[])=decide (l.length=0)
 cases l<;>simp
theorem qo1 (s:ByteArray):q0m s=some (qcz s):=by
 unfold q0m qcz
 rw[qfq]
 by_cases h0:s.size=0
 ·simp[h0]
 ·have e0:decide (s.size=0)=false:=decide_eq_false h0
  have e1:decide (s.size≠0)=true:=decide_eq_true h0
  rw[e0,e1,if_pos (by rfl)]
  by_cases h8:s.size≤8
  ·have e2:decide (s.size≤8)=true:=decide_eq_true h8
   obtain⟨e,h1,h2⟩:=qd2 s s.data.toList 0 (by simp) (by simp)
   rw[if_pos (by omega),e2]
   unfold ZY J2
   rw[h1,Option.bind_some]
   rcases h2 with ⟨i,rfl,hi,ha⟩|⟨rfl,ha⟩
   ·rw[Sum.elim_inl,Option.bind_some,Option.bind_some,ha]
    have:decide (i<0)=false:=decide_eq_false (by omega)
    rw[this];rfl
   ·rw[Sum.elim_inr,Option.bind_some,Option.bind_some,ha]
    rfl
  ·have e2:decide (s.size≤8)=false:=decide_eq_false h8
   rw[if_neg (by omega),e2]
   rfl
def inF (n a b:Int):Bool:=decide (a≤n)&&decide (n≤b)
theorem q2J (n a b:Int):zt n a b=inF n a b:=by
 unfold zt inF
 by_cases h:a≤n<;>simp[h]
def Zs (c:qc):Bool:=inF c.School 1 8&&qcz c.Code
theorem qm1 (c:qc):q13 c=some (Zs c):=by
 unfold q13 Zs
 rw[q2J,qo1]
 cases inF c.School 1 8<;>simp
def ql1 (x y:Int):Int:=if x<y then -1 else if y<x then 1 else 0
def qvX (x y:ByteArray):Int:=if Op.bytesLess x.toList y.toList=true then -1 else if x.toList==y.toList then 0 else 1
def qqz (a b:qc):Int:=if a.School≠b.School then ql1 a.School b.School else qvX a.Code b.Code
theorem qxK (x y:Int):q0i [x,y]=some (if x≠0 then x else y):=by
 unfold q0i
 by_cases hx:x=0
 ·by_cases hy:y=0
  ·rw[qL (y:=1) (by unfold Qr;simp[hx];rfl),qL (y:=2) (by unfold Qr;simp[hx,hy];rfl),qz (e := .inr ()) (by unfold Qr;simp)]
   simp[hx,hy]
  ·rw[qL (y:=1) (by unfold Qr;simp[hx];rfl),qz (e := .inl y) (by unfold Qr;simp[hx,hy])]
   simp[hx,hy]
 ·rw[qz (e := .inl x) (by unfold Qr;simp[hx])]
  simp[hx]
theorem qay (a b:qc):JW a b=some (qqz a b):=by
 unfold JW
 rw[qxK,Option.bind_some]
 congr 1
 have e1:QI a.School b.School=ql1 a.School b.School:=by
  unfold QI zx ql1
  simp
 have e2:Q0 a.Code b.Code=qvX a.Code b.Code:=by
  unfold Q0 qvX
  cases h1:Op.bytesLess a.Code.toList b.Code.toList
  ·cases h2:(a.Code.toList==b.Code.toList)<;>simp
  ·simp
 rw[e1,e2]
 unfold qqz
 by_cases h:a.School=b.School
 ·have:ql1 a.School b.School=0:=by unfold ql1;rw[if_neg (by omega),if_neg (by omega)]
  simp[h,this]
  intro h2;exact absurd (by unfold ql1;simp) h2
 ·have:ql1 a.School b.School≠0:=by unfold ql1;split<;>(try split)<;>omega
  simp[h,this]
def qbh:List qc→Bool
 | x::y::l=>decide (qqz x y<0)&&qbh (y::l)
 | _=>true
def q03 (n:qb):Int :=
 if inF n.Min (-1000) 1000=false then 3 else if inF n.Set.length 1 12=false then 2 else if n.Set.all Zs=false then 1 else if qbh n.Set=true then 0 else 7
theorem qa1 (l:List qc) (hl:l.length≤1000000):qE l=some (!l.all Zs):=by
 have h1:=q0f (ε:=Int⊕Unit) (step:=qy l (l.length:Int)) l (fun(b:Unit) i=>(i:Int)) (fun i b a=>if(!Zs a)=true then .inr (.inl (i:Int)) else .inl ()) (fun _ => .inr ()) (fun b i a ha=>by
   have hi:=ZF ha
   have hw:w64 ((i:Int)+1)=((i+1:Nat):Int):=qs hi (by omega)
   unfold qy q07
   rw[if_pos (by omega),if_pos ⟨by omega,by omega⟩,Int.toNat_natCast,ha,Option.bind_some,hw,qm1,Option.bind_some,Option.bind_some]
   cases Zs a<;>simp) (fun b=>by
   unfold qy
   rw[if_neg (by omega)]) ()
 have h2:=q9w (fun a => !Zs a) l 0
 unfold qE qY
 rw[show((0:Nat):Int)=0 from rfl] at h1
 rw[h1,Option.bind_some]
 have e:l.any (fun a => !Zs a) = !l.all Zs:=by
  clear h1 h2 hl
  induction l with
  | nil=>rfl
  | cons a l ih=>rw[List.any_cons,List.all_cons,ih];cases Zs a<;>simp
 rw[←e,←h2]
 cases(q1O (ε:=Int⊕Unit) (fun i (_:Unit) (a:qc)=>if(!Zs a)=true then .inr (.inl (i:Int)) else .inl ()) (fun _ => .inr ()) l 0 ())<;>rfl
theorem qfI (n:qb) (hl:n.Set.length≤1000000):∀(r:List qc) (i:Nat),r.length+i=n.Set.length→(∀j,r[j]?=n.Set[i+j]?)→qq (Qf n n.Set (n.Set.length:Int)) (i:Int)=some (if(match i,n.Set[i-1]? with|_+1,some x=>qbh (x::r)|_,_=>qbh r)=true then .inr () else .inl ()):=by
 intro r
 induction r with
 | nil =>
  intro i hi _
  have hi:i=n.Set.length:=by simpa using hi
  subst hi
  refine qz ?_
  unfold Qf
  rw[if_neg (by omega)]
  split<;>simp[qbh]
 | cons a r ih =>
  intro i hi hr
  simp only[List.length_cons] at hi
  have hget:n.Set[i]?=some a:=by have:=hr 0;simpa using this.symm
  have hlt:=ZF hget
  have hnext:=ih (i+1) (by omega) (fun j=>by rw[show i+1+j=i+(j+1) by omega,←hr (j+1)];rfl)
  simp only[Nat.add_sub_cancel,hget] at hnext
  cases i with
  | zero =>
   rw[qL (y:=((0+1:Nat):Int)) (by
    unfold Qf
    rw[if_pos (by omega),if_pos ⟨by omega,by omega⟩,Int.toNat_natCast,hget,Option.bind_some,if_neg (by omega),qs hlt (by omega)])]
   exact hnext
  | succ i =>
   obtain⟨x,hx⟩:∃x,n.Set[i]?=some x:=⟨_,List.getElem?_eq_getElem (by omega)⟩
   simp only[Nat.add_sub_cancel,hx]
   have hw:w64 (((i+1:Nat):Int)-1)=(i:Int):=by rw[zI (by omega) (by omega)];omega
   by_cases hc:qqz x a<0
   ·rw[qL (y:=((i+1+1:Nat):Int)) (by
     unfold Qf
     rw[if_pos (by omega),if_pos ⟨by omega,by omega⟩,Int.toNat_natCast,hget,Option.bind_some,if_pos (by omega),hw,if_pos ⟨by omega,by omega⟩,Int.toNat_natCast,hx,Option.bind_some,qay,Option.bind_some,if_neg (by omega),qs hlt (by omega)]),hnext]
    simp[qbh,hc]
   ·rw[qz (e := .inl ()) (by
     unfold Qf
     rw[if_pos (by omega),if_pos ⟨by omega,by omega⟩,Int.toNat_natCast,hget,Option.bind_some,if_pos (by omega),hw,if_pos ⟨by omega,by omega⟩,Int.toNat_natCast,hx,Option.bind_some,qay,Option.bind_some,if_pos (by omega)])]
    simp[qbh,hc]
theorem qan (n:qb) (hl:n.Set.length≤1000000):Jb n=some (q03 n):=by
 unfold Jb q03
 rw[q2J,q2J,qa1 _ hl,Option.bind_some]
 have h:=qfI n hl n.Set 0 (by simp) (by simp)
 simp only at h
 rw[show((0:Nat):Int)=0 from rfl] at h
 rw[h,Option.bind_some]
 cases inF n.Min (-1000) 1000
 ·simp
 ·cases inF n.Set.length 1 12
  ·simp
  ·cases n.Set.all Zs
   ·simp
   ·cases qbh n.Set<;>simp
def q3f (n:qb):Bool:=n.Min==0&&n.Set.isEmpty && !n.L.isEmpty
def q1L (n:qb):Int :=
 if n.Kind=1 then(if n.N≠0∨n.L≠[] then 13 else q03 n)
 else if n.Kind=2 then(if n.L≠[] then 13 else if inF n.N 1 600=false then 3 else q03 n)
 else if n.Kind=3 then(if q3f n=false∨n.N≠0 then 13 else 0)
 else if n.Kind=4 then(if q3f n=false then 13 else if inF n.N 1 n.L.length=false then 3 else 0)
 else 13
theorem qhQ (n:qb):Qa n=q3f n:=by
 unfold Qa q3f
 cases n.Min==0
 ·simp
 ·cases hS:n.Set<;>cases hL:n.L<;>simp
  all_goals omega
theorem qxA (n:qb) (hl:n.Set.length≤1000000):q00 n=some (if n.N≠0∨n.L≠[] then 13 else q03 n):=by
 unfold q00
 rw[qan n hl,Option.bind_some]
 by_cases h:n.N=0
 ·cases hL:n.L with
  | nil=>simp[h]
  | cons x l=>rw[if_neg (by simp[h]),if_pos (by simp),if_pos (.inr (by simp))]
 ·simp[h]
theorem qwN (n:qb) (hl:n.Set.length≤1000000):JX n=some (if n.L≠[] then 13 else if inF n.N 1 600=false then 3 else q03 n):=by
 unfold JX
 rw[qan n hl,Option.bind_some,q2J]
 cases hL:n.L with
 | nil =>
  cases hI:inF n.N 1 600<;>simp[hI]
 | cons x l=>rw[if_pos (by simp),if_pos (by simp)]
theorem qyX (n:qb):Zf n=if q3f n=false∨n.N≠0 then 13 else 0:=by
 unfold Zf
 rw[qhQ]
 cases q3f n
 ·simp
 ·by_cases h:n.N=0<;>simp[h]
theorem qww (n:qb):Z5 n=if q3f n=false then 13 else if inF n.N 1 n.L.length=false then 3 else 0:=by
 unfold Z5
 rw[qhQ,q2J]
 cases q3f n
 ·simp
 ·cases inF n.N 1 n.L.length<;>simp
def qg1 (l:List qb):Option Int:=l.findSome? fun y=>if q1L y≠0 then some (q1L y) else none
theorem qfv (l:List qb) (hl:l.length≤1000000) (hs:∀y∈l,y.Set.length≤1000000):qq (Zu l (l.length:Int)) 0=some (match qg1 l with|some e => .inl e|none => .inr ()):=by
 have h1:=q8Q (ε:=Int⊕Unit) (step:=Zu l (l.length:Int)) l (fun i=>(i:Int)) (fun y=>if q1L y≠0 then some (.inl (q1L y)) else none) (.inr ()) (fun i y hy=>by
   have hi:=ZF hy
   have hw:w64 ((i:Int)+1)=((i+1:Nat):Int):=qs hi (by omega)
   have hset:=hs y (List.mem_of_getElem? hy)
   unfold Zu
   rw[if_pos (by omega),if_pos ⟨by omega,by omega⟩,Int.toNat_natCast,hy,Option.bind_some,hw,qxA y hset,qwN y hset,qyX,qww,Option.bind_some,Option.bind_some]
   unfold q1L
   by_cases e1:y.Kind=1
   ·simp only[if_pos e1];generalize (if y.N≠0∨y.L≠[] then 13 else q03 y)=v;by_cases h:v=0<;>simp[h]
   ·by_cases e2:y.Kind=2
    ·simp only[if_neg e1,if_pos e2];generalize (if y.L≠[] then 13 else if inF y.N 1 600=false then 3 else q03 y)=v;by_cases h:v=0<;>simp[h]
    ·by_cases e3:y.Kind=3
     ·simp only[if_neg e1,if_neg e2,if_pos e3];generalize (if q3f y=false∨y.N≠0 then(13:Int) else 0)=v;by_cases h:v=0<;>simp[h]
     ·by_cases e4:y.Kind=4
      ·simp only[if_neg e1,if_neg e2,if_neg e3,if_pos e4];generalize (if q3f y=false then(13:Int) else if inF y.N 1 y.L.length=false then 3 else 0)=v;by_cases h:v=0<;>simp[h]
      ·simp[e1,e2,e3,e4]) (by
   unfold Zu
   rw[if_neg (by omega)])
 rw[show((0:Nat):Int)=0 from rfl] at h1
 rw[h1]
 congr 1
 unfold qg1
 clear h1 hl hs
 induction l with
 | nil=>rfl
 | cons y l ih =>
  rw[List.findSome?_cons,List.findSome?_cons]
  by_cases h:q1L y=0<;>simp only[h,ne_eq,not_true_eq_false,not_false_eq_true,if_true,if_false]
  ·exact ih
  ·rfl
def q4j (n:qb):Int :=
 if 24<(ndN n).length then 2 else if 5<dpN 1 n 0 then 2 else if inF ((ndN n).filter Qx).length 1 8=false then 2 else(qg1 (ndN n)).getD 0
theorem q62 (n:qb) (hh:hgN n≤100) (hn:(ndN n).length≤9999) (hs:∀y∈ndN n,y.Set.length≤1000000):JD n=some (q4j n):=by
 unfold JD q4j
 rw[qgp n hh hn,Option.bind_some,qbL n hh hn hs]
 simp only[Option.bind_some]
 rw[qfv (ndN n) (by omega) hs,q2J,if_neg (by simp)]
 by_cases h1:24<(ndN n).length
 ·rw[if_pos (by omega),if_pos h1]
 ·rw[if_neg (by omega),if_neg h1]
  by_cases h2:5<dpN 1 n 0
  ·rw[if_pos h2,if_pos h2]
  ·rw[if_neg h2,if_neg h2]
   cases inF ((ndN n).filter Qx).length 1 8
   ·simp
   ·simp only[Bool.not_true,Bool.false_eq_true,if_false,Option.bind_some]
    cases qg1 (ndN n)<;>rfl
end Go.Proofs.YtgejdfnidjnjcaaGreat.Vc
namespace Go.Proofs.YtgejdfnidjnjcaaGreat.Vc
open Go.RowKit
set_option linter.unusedVariables false
set_option linter.unusedSimpArgs false
section
variable {N:Nat} {best:Nat→Int} {M:Int}
theorem qgw (rF:(qb×List qa×Int×qf)→Option (List Bool×List qa×Int×qf)) (hN:N≤65536) (hM:M≤1000000) (hb:Bnd best N M) (w9:List Bool) (b0:List qa) (b3:Int) (b4:qf) (b8:qb) (own:Nat→Bool) (skip:Bool) (t72:List qb) (t73 t74:Int) :
  qq (Qk rF w9 (qQ N best) b0 b3 b4 b8 (qQ N own) skip t72 t73 t74 ((N:Nat):Int)) (List.replicate N 0,0)=some (qQ N (stF skip own best)):=by
 have h1:=QC (step:=Qk rF w9 (qQ N best) b0 b3 b4 b8 (qQ N own) skip t72 t73 t74 ((N:Nat):Int)) (fun i=>(qQ N (fun k=>if k<i then stF skip own best k else 0),(i:Int))) 0 N (Nat.zero_le _) (e:=qQ N (stF skip own best)) (fun i _ hi=>by
   have hbi:=hb i hi
   have hw:w64 ((i:Int)+1)=((i+1:Nat):Int):=qs hi (by omega)
   have hg:∀v:Int,v=(if skip=true then best i else -1)→q1R (q1R (fun k=>if k<i then stF skip own best k else 0) i v) i (eaF own best i i i (q1R (fun k=>if k<i then stF skip own best k else 0) i v i))=fun k=>if k<i+1 then stF skip own best k else 0:=fun v hv=>by
    funext k
    rw[q1x,q0r]
    unfold q1R
    by_cases hk:k=i
    ·subst hk
     rw[if_pos rfl,if_pos (by omega)]
     unfold stF
     rw[←hv]
    ·rw[if_neg hk]
     show(if k<i then stF skip own best k else 0)=_
     by_cases h:k<i
     ·rw[if_pos h,if_pos (by omega)]
     ·rw[if_neg h,if_neg (by omega)]
   unfold Qk
   simp only
   rw[if_pos (by omega),qm,if_pos ⟨by omega,by omega⟩,Int.toNat_natCast,if_pos (by omega)]
   cases hs:skip
   ·simp only[Bool.false_eq_true,if_false]
    rw[qM]
    unfold qX
    rw[qb5 hN hM hb (own:=own) hi i i (Nat.le_refl _) (Nat.le_refl _),Option.bind_some,Option.bind_some,hw,←hs,hg (-1) (by rw[hs];rfl)]
   ·simp only[if_true]
    rw[qm,if_pos ⟨by omega,by omega⟩,zY best hi,Option.bind_some,if_pos ⟨by omega,by omega⟩,if_pos (by omega),qM,qM,q0r]
    unfold qX
    rw[qb5 hN hM hb (own:=own) hi i i (Nat.le_refl _) (Nat.le_refl _),Option.bind_some,Option.bind_some,hw,←hs,hg (best i) (by rw[hs];rfl)]) (by
   unfold Qk
   simp only
   rw[if_neg (by omega)]
   congr 2
   exact Qj fun k hk=>if_pos hk)
 rw[ZM]
 have e:(fun k:Nat=>if k<0 then stF skip own best k else 0)=fun _=>0:=by funext k;rw[if_neg (by omega)]
 rw[e] at h1
 exact h1
theorem qpK (rF:(qb×List qa×Int×qf)→Option (List Bool×List qa×Int×qf)) (hN:N≤65536) (hN1:1≤N) (w9:List Bool) (b0:List qa) (b3:Int) (b4:qf) (b8:qb) :
  qq (Qb rF w9 b0 b3 b4 b8) (List.replicate N 0,1)=some (qQ N b0F):=by
 have h1:=QC (step:=Qb rF w9 b0 b3 b4 b8) (fun i=>(qQ N (fun k=>if 1≤k∧k<i then -1 else 0),(i:Int))) 1 N hN1 (e:=qQ N b0F) (fun i h1 hi=>by
   have hw:w64 ((i:Int)+1)=((i+1:Nat):Int):=qs hi (by omega)
   unfold Qb
   simp only
   rw[qm,if_pos (by omega),if_pos ⟨by omega,by omega⟩,Int.toNat_natCast,if_pos (by omega),hw,qM]
   rw[q8a (fun _=>(-1:Int)) 0 h1]) (by
   unfold Qb
   simp only
   rw[qm,if_neg (by omega)]
   congr 2
   refine Qj fun k hk=>?_
   unfold b0F
   by_cases h:k=0
   ·rw[if_pos h,if_neg (by omega)]
   ·rw[if_neg h,if_pos (by omega)])
 rw[ZM]
 have e:(fun k:Nat=>if 1≤k∧k<1 then(-1:Int) else 0)=fun _=>0:=by funext k;rw[if_neg (by omega)]
 rw[e] at h1
 exact h1
theorem qjG (rF:(qb×List qa×Int×qf)→Option (List Bool×List qa×Int×qf)) (hN:N≤65536) (hN1:1≤N) (b0:List qa) (b3:Int) (b4:qf) (least:Int) :
  qq (Qg rF (qQ N best) b0 b3 b4 least) (List.replicate N false,1)=some (qQ N (fun k=>decide (k≠0)&&decide (least≤best k))):=by
 have h1:=QC (step:=Qg rF (qQ N best) b0 b3 b4 least) (fun i=>(qQ N (fun k=>if 1≤k∧k<i then decide (least≤best k) else false),(i:Int))) 1 N hN1 (e:=qQ N (fun k=>decide (k≠0)&&decide (least≤best k))) (fun i h1 hi=>by
   have hw:w64 ((i:Int)+1)=((i+1:Nat):Int):=qs hi (by omega)
   unfold Qg
   simp only
   rw[qm,qm,if_pos (by omega),if_pos ⟨by omega,by omega⟩,Int.toNat_natCast,zY best hi,Option.bind_some,if_pos ⟨by omega,by omega⟩,if_pos (by omega),hw,qM]
   rw[q8a (fun k=>decide (least≤best k)) false h1]) (by
   unfold Qg
   simp only
   rw[qm,if_neg (by omega)]
   congr 2
   refine Qj fun k hk=>?_
   by_cases h:k=0
   ·subst h;simp
   ·rw[if_pos ⟨by omega,hk⟩];simp[h])
 rw[ZM]
 have e:(fun k:Nat=>if 1≤k∧k<1 then decide (least≤best k) else false)=fun _=>false:=by funext k;rw[if_neg (by omega)]
 rw[e] at h1
 exact h1
theorem qe0 (rF:(qb×List qa×Int×qf)→Option (List Bool×List qa×Int×qf)) (d:List Int) (hd:d=[]) (s:qf) (l:List qa) (hl:l.length≤16) (n:qb) (hn:n.Set.length≤1000000) (nx:Nat) (hnx:nx≤1000000) (step:List Bool×Int→Option ((List Bool×Int)⊕List Bool))
  (hst:step=(if n.Kind=1 then Z2 rF l (nx:Int) s n else Z3 rF l (nx:Int) s n)) (hN:N≤65536) (hN1:1≤N) :
  qq step (List.replicate N false,1)=some (qQ N (Qd d s l n nx)):=by
 have h1:=QC (step:=step) (fun i=>(qQ N (fun k=>if 1≤k∧k<i then Qd d s l n nx k else false),(i:Int))) 1 N hN1 (e:=qQ N (Qd d s l n nx)) (fun i h1 hi=>by
   have hw:w64 ((i:Int)+1)=((i+1:Nat):Int):=qs hi (by omega)
   have hc:qQ N (q1R (fun k=>if 1≤k∧k<i then Qd d s l n nx k else false) i (Qd d s l n nx i))=qQ N (fun k=>if 1≤k∧k<i+1 then Qd d s l n nx k else false):=by
    rw[q8a (Qd d s l n nx) false h1]
   have hz:decide (i≠0)=true:=decide_eq_true (by omega)
   have hwg:=qf8 n (by omega) s l (by omega) i (by omega)
   have hal:alF d nx i=true:=by rw[hd];rfl
   have hv:Qd d s l n nx i=(alF d nx i&&q9Z n (wgF n s i l 0 ld0)):=by unfold Qd;rw[hz];simp
   have m1:n.Kind=1→qO (wgF n s i l 0 ld0) n=q9Z n (wgF n s i l 0 ld0):=fun hk=>by
    unfold qO q9Z
    rw[if_pos hk]
    cases(wgF n s i l 0 ld0).fine<;>simp
   have m2:n.Kind≠1→zg (wgF n s i l 0 ld0) n=q9Z n (wgF n s i l 0 ld0):=fun hk=>by
    unfold zg q9Z
    rw[if_neg hk]
    cases(wgF n s i l 0 ld0).fine
    ·simp
    ·by_cases h:0<(wgF n s i l 0 ld0).many<;>simp[h]
   rw[hst]
   by_cases hk:n.Kind=1
   ·rw[if_pos hk]
    unfold Z2
    simp only
    rw[qm,if_pos (by omega),hwg,Option.bind_some]
    rw[if_pos ⟨by omega,by omega⟩,Int.toNat_natCast,if_pos (by omega),hw,m1 hk,qM,←hc,hv,hal,Bool.true_and]
   ·rw[if_neg hk]
    unfold Z3
    simp only
    rw[qm,if_pos (by omega),hwg,Option.bind_some]
    rw[if_pos ⟨by omega,by omega⟩,Int.toNat_natCast,if_pos (by omega),hw,m2 hk,qM,←hc,hv,hal,Bool.true_and]) (by
   have hend:some (Sum.inr (α:=List Bool×Int) (qQ N (fun k=>if 1≤k∧k<N then Qd d s l n nx k else false)))=some (Sum.inr (qQ N (Qd d s l n nx))):=by
    congr 2
    refine Qj fun k hk=>?_
    by_cases h:k=0
    ·subst h;simp[Qd]
    ·rw[if_pos ⟨by omega,hk⟩]
   rw[hst]
   by_cases hk:n.Kind=1
   ·rw[if_pos hk]
    unfold Z2
    simp only
    rw[qm,if_neg (by omega)]
    exact hend
   ·rw[if_neg hk]
    unfold Z3
    simp only
    rw[qm,if_neg (by omega)]
    exact hend)
 rw[ZM]
 have e:(fun k:Nat=>if 1≤k∧k<1 then Qd d s l n nx k else false)=fun _=>false:=by funext k;rw[if_neg (by omega)]
 rw[e] at h1
 exact h1
end
end Go.Proofs.YtgejdfnidjnjcaaGreat.Vc
namespace Go.Proofs.YtgejdfnidjnjcaaGreat.Vc
open Go.RowKit
set_option linter.unusedVariables false
set_option linter.unusedSimpArgs false
section
variable {N:Nat} {best:Nat→Int} {M:Int}
theorem qjS (rF:(qb×List Int×List qa×Int×qf)→Option (List Bool×List Int×List qa×Int×qf)) (hN:N≤65536) (hM:M≤1000000) (hb:Bnd best N M) (w7:List Int) (w9:List Bool) (b0:List qa) (b3:Int) (b4:qf) (b8:qb) (own:Nat→Bool) (skip:Bool) (t72:List qb) (t73 t74:Int) :
  qq (zL rF w7 w9 (qQ N best) b0 b3 b4 b8 (qQ N own) skip t72 t73 t74 ((N:Nat):Int)) (List.replicate N 0,0)=some (qQ N (stF skip own best)):=by
 have h1:=QC (step:=zL rF w7 w9 (qQ N best) b0 b3 b4 b8 (qQ N own) skip t72 t73 t74 ((N:Nat):Int)) (fun i=>(qQ N (fun k=>if k<i then stF skip own best k else 0),(i:Int))) 0 N (Nat.zero_le _) (e:=qQ N (stF skip own best)) (fun i _ hi=>by
   have hbi:=hb i hi
   have hw:w64 ((i:Int)+1)=((i+1:Nat):Int):=qs hi (by omega)
   have hg:∀v:Int,v=(if skip=true then best i else -1)→q1R (q1R (fun k=>if k<i then stF skip own best k else 0) i v) i (eaF own best i i i (q1R (fun k=>if k<i then stF skip own best k else 0) i v i))=fun k=>if k<i+1 then stF skip own best k else 0:=fun v hv=>by
    funext k
    rw[q1x,q0r]
    unfold q1R
    by_cases hk:k=i
    ·subst hk
     rw[if_pos rfl,if_pos (by omega)]
     unfold stF
     rw[←hv]
    ·rw[if_neg hk]
     show(if k<i then stF skip own best k else 0)=_
     by_cases h:k<i
     ·rw[if_pos h,if_pos (by omega)]
     ·rw[if_neg h,if_neg (by omega)]
   unfold zL
   simp only
   rw[if_pos (by omega),qm,if_pos ⟨by omega,by omega⟩,Int.toNat_natCast,if_pos (by omega)]
   cases hs:skip
   ·simp only[Bool.false_eq_true,if_false]
    rw[qM]
    unfold qX
    rw[qb5 hN hM hb (own:=own) hi i i (Nat.le_refl _) (Nat.le_refl _),Option.bind_some,Option.bind_some,hw,←hs,hg (-1) (by rw[hs];rfl)]
   ·simp only[if_true]
    rw[qm,if_pos ⟨by omega,by omega⟩,zY best hi,Option.bind_some,if_pos ⟨by omega,by omega⟩,if_pos (by omega),qM,qM,q0r]
    unfold qX
    rw[qb5 hN hM hb (own:=own) hi i i (Nat.le_refl _) (Nat.le_refl _),Option.bind_some,Option.bind_some,hw,←hs,hg (best i) (by rw[hs];rfl)]) (by
   unfold zL
   simp only
   rw[if_neg (by omega)]
   congr 2
   exact Qj fun k hk=>if_pos hk)
 rw[ZM]
 have e:(fun k:Nat=>if k<0 then stF skip own best k else 0)=fun _=>0:=by funext k;rw[if_neg (by omega)]
 rw[e] at h1
 exact h1
theorem qq8 (rF:(qb×List Int×List qa×Int×qf)→Option (List Bool×List Int×List qa×Int×qf)) (hN:N≤65536) (hN1:1≤N) (w7:List Int) (w9:List Bool) (b0:List qa) (b3:Int) (b4:qf) (b8:qb) :
  qq (Qc rF w7 w9 b0 b3 b4 b8) (List.replicate N 0,1)=some (qQ N b0F):=by
 have h1:=QC (step:=Qc rF w7 w9 b0 b3 b4 b8) (fun i=>(qQ N (fun k=>if 1≤k∧k<i then -1 else 0),(i:Int))) 1 N hN1 (e:=qQ N b0F) (fun i h1 hi=>by
   have hw:w64 ((i:Int)+1)=((i+1:Nat):Int):=qs hi (by omega)
   unfold Qc
   simp only
   rw[qm,if_pos (by omega),if_pos ⟨by omega,by omega⟩,Int.toNat_natCast,if_pos (by omega),hw,qM]
   rw[q8a (fun _=>(-1:Int)) 0 h1]) (by
   unfold Qc
   simp only
   rw[qm,if_neg (by omega)]
   congr 2
   refine Qj fun k hk=>?_
   unfold b0F
   by_cases h:k=0
   ·rw[if_pos h,if_neg (by omega)]
   ·rw[if_neg h,if_pos (by omega)])
 rw[ZM]
 have e:(fun k:Nat=>if 1≤k∧k<1 then(-1:Int) else 0)=fun _=>0:=by funext k;rw[if_neg (by omega)]
 rw[e] at h1
 exact h1
theorem qjK (rF:(qb×List Int×List qa×Int×qf)→Option (List Bool×List Int×List qa×Int×qf)) (hN:N≤65536) (hN1:1≤N) (w7:List Int) (b0:List qa) (b3:Int) (b4:qf) (least:Int) :
  qq (zO rF w7 (qQ N best) b0 b3 b4 least) (List.replicate N false,1)=some (qQ N (fun k=>decide (k≠0)&&decide (least≤best k))):=by
 have h1:=QC (step:=zO rF w7 (qQ N best) b0 b3 b4 least) (fun i=>(qQ N (fun k=>if 1≤k∧k<i then decide (least≤best k) else false),(i:Int))) 1 N hN1 (e:=qQ N (fun k=>decide (k≠0)&&decide (least≤best k))) (fun i h1 hi=>by
   have hw:w64 ((i:Int)+1)=((i+1:Nat):Int):=qs hi (by omega)
   unfold zO
   simp only
   rw[qm,qm,if_pos (by omega),if_pos ⟨by omega,by omega⟩,Int.toNat_natCast,zY best hi,Option.bind_some,if_pos ⟨by omega,by omega⟩,if_pos (by omega),hw,qM]
   rw[q8a (fun k=>decide (least≤best k)) false h1]) (by
   unfold zO
   simp only
   rw[qm,if_neg (by omega)]
   congr 2
   refine Qj fun k hk=>?_
   by_cases h:k=0
   ·subst h;simp
   ·rw[if_pos ⟨by omega,hk⟩];simp[h])
 rw[ZM]
 have e:(fun k:Nat=>if 1≤k∧k<1 then decide (least≤best k) else false)=fun _=>false:=by funext k;rw[if_neg (by omega)]
 rw[e] at h1
 exact h1
theorem qel (rF:(qb×List Int×List qa×Int×qf)→Option (List Bool×List Int×List qa×Int×qf)) (d:List Int) (hd:d.length≤16) (s:qf) (l:List qa) (hl:l.length≤16) (n:qb) (hn:n.Set.length≤1000000) (nx:Nat) (hnx:nx≤1000000) (step:List Bool×Int→Option ((List Bool×Int)⊕List Bool))
  (hst:step=(if n.Kind=1 then Z0 rF d l (nx:Int) s n else Qu rF d l (nx:Int) s n)) (hN:N≤65536) (hN1:1≤N) :
  qq step (List.replicate N false,1)=some (qQ N (Qd d s l n nx)):=by
 have h1:=QC (step:=step) (fun i=>(qQ N (fun k=>if 1≤k∧k<i then Qd d s l n nx k else false),(i:Int))) 1 N hN1 (e:=qQ N (Qd d s l n nx)) (fun i h1 hi=>by
   have hw:w64 ((i:Int)+1)=((i+1:Nat):Int):=qs hi (by omega)
   have hc:qQ N (q1R (fun k=>if 1≤k∧k<i then Qd d s l n nx k else false) i (Qd d s l n nx i))=qQ N (fun k=>if 1≤k∧k<i+1 then Qd d s l n nx k else false):=by
    rw[q8a (Qd d s l n nx) false h1]
   have hz:decide (i≠0)=true:=decide_eq_true (by omega)
   have hwg:=qf8 n (by omega) s l (by omega) i (by omega)
   have hal:=qft d hd nx i (by omega)
   have hv:Qd d s l n nx i=(alF d nx i&&q9Z n (wgF n s i l 0 ld0)):=by unfold Qd;rw[hz];simp
   have m1:n.Kind=1→qO (wgF n s i l 0 ld0) n=q9Z n (wgF n s i l 0 ld0):=fun hk=>by
    unfold qO q9Z
    rw[if_pos hk]
    cases(wgF n s i l 0 ld0).fine<;>simp
   have m2:n.Kind≠1→zg (wgF n s i l 0 ld0) n=q9Z n (wgF n s i l 0 ld0):=fun hk=>by
    unfold zg q9Z
    rw[if_neg hk]
    cases(wgF n s i l 0 ld0).fine
    ·simp
    ·by_cases h:0<(wgF n s i l 0 ld0).many<;>simp[h]
   rw[hst]
   by_cases hk:n.Kind=1
   ·rw[if_pos hk]
    unfold Z0
    simp only
    rw[qm,if_pos (by omega),hal,Option.bind_some]
    cases ha:alF d nx i
    ·rw[if_neg (by simp),if_pos ⟨by omega,by omega⟩,Int.toNat_natCast,if_pos (by omega),hw,qM,←hc,hv,ha,Bool.false_and]
    ·rw[if_pos rfl,hwg,Option.bind_some,if_pos ⟨by omega,by omega⟩,Int.toNat_natCast,if_pos (by omega),hw,m1 hk,qM,←hc,hv,ha,Bool.true_and]
   ·rw[if_neg hk]
    unfold Qu
    simp only
    rw[qm,if_pos (by omega),hal,Option.bind_some]
    cases ha:alF d nx i
    ·rw[if_neg (by simp),if_pos ⟨by omega,by omega⟩,Int.toNat_natCast,if_pos (by omega),hw,qM,←hc,hv,ha,Bool.false_and]
    ·rw[if_pos rfl,hwg,Option.bind_some,if_pos ⟨by omega,by omega⟩,Int.toNat_natCast,if_pos (by omega),hw,m2 hk,qM,←hc,hv,ha,Bool.true_and]) (by
   have hend:some (Sum.inr (α:=List Bool×Int) (qQ N (fun k=>if 1≤k∧k<N then Qd d s l n nx k else false)))=some (Sum.inr (qQ N (Qd d s l n nx))):=by
    congr 2
    refine Qj fun k hk=>?_
    by_cases h:k=0
    ·subst h;simp[Qd]
    ·rw[if_pos ⟨by omega,hk⟩]
   rw[hst]
   by_cases hk:n.Kind=1
   ·rw[if_pos hk]
    unfold Z0
    simp only
    rw[qm,if_neg (by omega)]
    exact hend
   ·rw[if_neg hk]
    unfold Qu
    simp only
    rw[qm,if_neg (by omega)]
    exact hend)
 rw[ZM]
 have e:(fun k:Nat=>if 1≤k∧k<1 then Qd d s l n nx k else false)=fun _=>false:=by funext k;rw[if_neg (by omega)]
 rw[e] at h1
 exact h1
end
end Go.Proofs.YtgejdfnidjnjcaaGreat.Vc
namespace Go.Proofs.YtgejdfnidjnjcaaGreat.Vc
open Go.RowKit
set_option linter.unusedVariables false
set_option linter.unusedSimpArgs false
theorem q4D (N:Nat) (d:List Int) (s:qf) (l:List qa) (n:qb) (nx:Nat):qQ N (qS d s l n nx)=if n.Kind=1∨n.Kind=2 then qQ N (Qd d s l n nx) else qQ N (fun k=>decide (k≠0)&&decide ((if n.Kind=3 then(n.L.length:Int) else n.N)≤q4X d s l (n.Kind==4) n.L nx b0F k)):=by
 have:qS d s l n nx=fun k=>qS d s l n nx k:=rfl
 by_cases h:n.Kind=1∨n.Kind=2
 ·rw[if_pos h];refine Qj fun k _=>?_;rw[q9O,if_pos h]
 ·rw[if_neg h];refine Qj fun k _=>?_;rw[q9O,if_neg h]
theorem qjo (d:List Int) (hd:d=[]) (s:qf) (l:List qa) (hl:l.length≤16) (n:qb) (hLn:n.L.length≤1000000)
  (hP:∀y∈n.L,∀nx:Nat,nx+(ndN y).length≤100000→z6 (y,l,(nx:Int),s)=some (qQ (2 ^ l.length) (qS d s l y nx),l,((nx+lvN y:Nat):Int),s)) (w9:List Bool) :
  ∀(r:List qb) (i nx:Nat) (best:Nat→Int) (M:Int),r.length+i=n.L.length→(∀j,r[j]?=n.L[i+j]?)→nx+(ndL r).length≤100000→Bnd best (2 ^ l.length) M→0≤M→M+r.length≤100000 →
  qq (Ql z6 w9 n n.L (n.L.length:Int)) (qQ (2 ^ l.length) best,l,(nx:Int),s,(i:Int))=some ((qQ (2 ^ l.length) (q4X d s l (n.Kind==4) r nx best),l,((nx+lvL r:Nat):Int),s)):=by
 intro r
 induction r with
 | nil =>
  intro i nx best M hi _ _ _ _ _
  have hi:i=n.L.length:=by simpa using hi
  subst hi
  refine qz ?_
  unfold Ql
  simp only
  rw[if_neg (by omega),lvL,Nat.add_zero]
  rfl
 | cons y r ih =>
  intro i nx best M hi hr hnx hb hM0 hM
  rw[ndL,List.length_append] at hnx
  have hlv:=qa2 y
  simp only[List.length_cons,Int.natCast_add,Int.natCast_one] at hM hi
  have hget:n.L[i]?=some y:=by have:=hr 0;simpa using this.symm
  have hlt:i<n.L.length:=ZF hget
  have hN:2 ^ l.length≤65536:=Nat.le_trans (Nat.pow_le_pow_right (by decide) hl) (by decide)
  have hN1:1≤2 ^ l.length:=Nat.one_le_two_pow
  have hcall:=hP y (List.mem_of_getElem? hget) nx (by omega)
  have hw:w64 ((i:Int)+1)=((i+1:Nat):Int):=qs hlt (by omega)
  have hstep:Ql z6 w9 n n.L (n.L.length:Int) (qQ (2 ^ l.length) best,l,(nx:Int),s,(i:Int))=some (.inl (qQ (2 ^ l.length) (stF (n.Kind==4 && !foF d nx (nx+lvN y)) (qS d s l y nx) best),l,((nx+lvN y:Nat):Int),s,((i+1:Nat):Int))):=by
   unfold Ql
   simp only
   rw[if_pos (by omega),if_pos ⟨by omega,by omega⟩,Int.toNat_natCast,hget,Option.bind_some,hcall,Option.bind_some]
   simp only[qm]
   have hfo:foF d nx (nx+lvN y)=false:=by rw[hd];rfl
   cases hk4:(n.Kind==4)
   ·rw[if_neg (by simp),if_pos ⟨by omega,by omega,by omega⟩,qgw (M:=M) z6 hN (by omega) hb,Option.bind_some,hw,Bool.false_and]
   ·rw[if_pos rfl,if_pos ⟨by omega,by omega,by omega⟩,qgw (M:=M) z6 hN (by omega) hb,Option.bind_some,hw,hfo]
    rfl
  rw[qL hstep,ih (i+1) _ _ (M+1) (by omega) (fun j=>by rw[show i+1+j=i+(j+1) by omega,←hr (j+1)];rfl) (by omega) (qaW hb (by omega)) (by omega) (by omega)]
  rw[lvL,←Nat.add_assoc]
  rfl
theorem qgJ (d:List Int) (hd:d=[]) (s:qf) (l:List qa) (hl:l.length≤16):∀(m:Nat) (n:qb),(ndN n).length≤m→(ndN n).length≤10000→(∀y∈ndN n,y.Set.length≤1000000)→∀nx:Nat,nx+(ndN n).length≤100000→z6 (n,l,(nx:Int),s)=some (qQ (2 ^ l.length) (qS d s l n nx),l,((nx+lvN n:Nat):Int),s):=by
 intro m
 induction m with
 | zero=>intro n h;rw[zV] at h;simp at h
 | succ m ih =>
  intro n h1 h2 h3 nx hnx
  have hN:2 ^ l.length≤65536:=Nat.le_trans (Nat.pow_le_pow_right (by decide) hl) (by decide)
  have hN1:1≤2 ^ l.length:=Nat.one_le_two_pow
  have hlv:=qa2 n
  have hset:=h3 n (by rw[zV];exact List.mem_cons_self)
  have hsub:∀(L:List qb),(ndL L).length≤m→(ndL L).length≤10000→(∀y∈ndL L,y.Set.length≤1000000)→∀y∈L,∀nx:Nat,nx+(ndN y).length≤100000→z6 (y,l,(nx:Int),s)=some (qQ (2 ^ l.length) (qS d s l y nx),l,((nx+lvN y:Nat):Int),s):=by
   intro L
   induction L with
   | nil=>intro _ _ _ y hy;simp at hy
   | cons x L ihl =>
    intro g1 g2 g3 y hy
    rw[ndL,List.length_append] at g1 g2
    rw[ndL] at g3
    rcases List.mem_cons.1 hy with rfl|hy
    ·exact ih _ (by omega) (by omega) fun z hz=>g3 z (List.mem_append_left _ hz)
    ·exact ihl (by omega) (by omega) (fun z hz=>g3 z (List.mem_append_right _ hz)) y hy
  have e0:ndN n=n::ndL n.L:=zV n
  have hlen:(ndN n).length=(ndL n.L).length+1:=by rw[e0];rfl
  have hP:=hsub n.L (by omega) (by omega) fun y hy=>h3 y (by rw[e0];exact List.mem_cons_of_mem _ hy)
  have hLlen:∀L:List qb,L.length≤(ndL L).length:=fun L=>by
   induction L with
   | nil=>simp
   | cons x L ihL=>rw[ndL,List.length_append,List.length_cons,zV,List.length_cons];omega
  have hLl:=hLlen n.L
  have hpow:w64 ((1:Int)*(2:Int) ^ min l.length (IntKind.bits IntKind.i64))=((2 ^ l.length:Nat):Int):=by
   rw[show min l.length (IntKind.bits IntKind.i64)=l.length from Nat.min_eq_left (by show l.length≤64;omega),Int.one_mul,show((2:Int) ^ l.length)=((2 ^ l.length:Nat):Int) by simp]
   exact zI (by omega) (by omega)
  rw[q82,Jn]
  rw[hpow,if_pos (by omega),if_pos ⟨by omega,by omega,by omega⟩,Int.toNat_natCast,q8D,q4D]
  by_cases hlf:n.Kind=1∨n.Kind=2
  ·have e1:q5y n=true:=by unfold q5y;rcases hlf with h|h<;>simp[h]
   have e2:lvN n=1:=by rw[q2F,if_pos hlf]
   have hw2:w64 ((nx:Int)+1)=((nx+1:Nat):Int):=by rw[zI (by omega) (by omega)];omega
   rw[if_pos e1,if_pos hlf,e2]
   unfold Jo
   by_cases hk:n.Kind=1
   ·have hlt:=qe0 z6 d hd s l hl n hset nx (by omega) _ (if_pos hk).symm hN hN1
    rw[if_pos (by simpa using hk),Option.bind_some,Sum.elim_inl,hlt,Option.bind_some,hw2]
   ·have hlt:=qe0 z6 d hd s l hl n hset nx (by omega) _ (if_neg hk).symm hN hN1
    rw[if_neg (by simpa using hk),Option.bind_some,Sum.elim_inr,hlt,Option.bind_some,hw2]
  ·have e1:q5y n=false:=by unfold q5y;have h1:n.Kind≠1:=fun h=>hlf (.inl h);have h2:n.Kind≠2:=fun h=>hlf (.inr h);simp[h1,h2]
   have e2:lvN n=lvL n.L:=by rw[q2F,if_neg hlf]
   have hb0:Bnd b0F (2 ^ l.length) 0:=fun k _=>by unfold b0F;split<;>omega
   have hch:=qjo d hd s l hl n (by omega) hP (List.replicate (2 ^ l.length) false) n.L 0 nx b0F 0 (by simp) (by simp) (by omega) hb0 (by omega) (by omega)
   rw[e1,if_neg (by simp),if_neg hlf,e2,if_pos ⟨by omega,by omega,by omega⟩]
   rw[qpK z6 hN hN1,Option.bind_some]
   change Option.bind (qq _ (qQ (2 ^ l.length) b0F,l,(nx:Int),s,((0:Nat):Int))) _=_
   rw[hch,Option.bind_some]
   simp only
   by_cases hk:n.Kind=3
   ·rw[if_pos (by simpa using hk),qjG z6 hN hN1,Option.bind_some]
    simp only[if_pos hk]
   ·rw[if_neg (by simpa using hk),qjG z6 hN hN1,Option.bind_some]
    simp only[if_neg hk]
theorem qh4 (d:List Int) (hd:d.length≤16) (s:qf) (l:List qa) (hl:l.length≤16) (n:qb) (hLn:n.L.length≤1000000)
  (hP:∀y∈n.L,∀nx:Nat,nx+(ndN y).length≤100000→qG (y,d,l,(nx:Int),s)=some (qQ (2 ^ l.length) (qS d s l y nx),d,l,((nx+lvN y:Nat):Int),s)) (w9:List Bool) :
  ∀(r:List qb) (i nx:Nat) (best:Nat→Int) (M:Int),r.length+i=n.L.length→(∀j,r[j]?=n.L[i+j]?)→nx+(ndL r).length≤100000→Bnd best (2 ^ l.length) M→0≤M→M+r.length≤100000 →
  qq (zM qG w9 n n.L (n.L.length:Int)) (d,qQ (2 ^ l.length) best,l,(nx:Int),s,(i:Int))=some ((d,qQ (2 ^ l.length) (q4X d s l (n.Kind==4) r nx best),l,((nx+lvL r:Nat):Int),s)):=by
 intro r
 induction r with
 | nil =>
  intro i nx best M hi _ _ _ _ _
  have hi:i=n.L.length:=by simpa using hi
  subst hi
  refine qz ?_
  unfold zM
  simp only
  rw[if_neg (by omega),lvL,Nat.add_zero]
  rfl
 | cons y r ih =>
  intro i nx best M hi hr hnx hb hM0 hM
  rw[ndL,List.length_append] at hnx
  have hlv:=qa2 y
  simp only[List.length_cons,Int.natCast_add,Int.natCast_one] at hM hi
  have hget:n.L[i]?=some y:=by have:=hr 0;simpa using this.symm
  have hlt:i<n.L.length:=ZF hget
  have hN:2 ^ l.length≤65536:=Nat.le_trans (Nat.pow_le_pow_right (by decide) hl) (by decide)
  have hN1:1≤2 ^ l.length:=Nat.one_le_two_pow
  have hcall:=hP y (List.mem_of_getElem? hget) nx (by omega)
  have hw:w64 ((i:Int)+1)=((i+1:Nat):Int):=qs hlt (by omega)
  have hstep:zM qG w9 n n.L (n.L.length:Int) (d,qQ (2 ^ l.length) best,l,(nx:Int),s,(i:Int))=some (.inl (d,qQ (2 ^ l.length) (stF (n.Kind==4 && !foF d nx (nx+lvN y)) (qS d s l y nx) best),l,((nx+lvN y:Nat):Int),s,((i+1:Nat):Int))):=by
   unfold zM
   simp only
   rw[if_pos (by omega),if_pos ⟨by omega,by omega⟩,Int.toNat_natCast,hget,Option.bind_some,hcall,Option.bind_some]
   simp only[qm]
   cases hk4:(n.Kind==4)
   ·rw[if_neg (by simp),if_pos ⟨by omega,by omega,by omega⟩,qjS (M:=M) qG hN (by omega) hb,Option.bind_some,hw,Bool.false_and]
   ·rw[if_pos rfl,qje d hd nx (nx+lvN y),Option.bind_some,if_pos ⟨by omega,by omega,by omega⟩,qjS (M:=M) qG hN (by omega) hb,Option.bind_some,hw,Bool.true_and]
  rw[qL hstep,ih (i+1) _ _ (M+1) (by omega) (fun j=>by rw[show i+1+j=i+(j+1) by omega,←hr (j+1)];rfl) (by omega) (qaW hb (by omega)) (by omega) (by omega)]
  rw[lvL,←Nat.add_assoc]
  rfl
theorem qiU (d:List Int) (hd:d.length≤16) (s:qf) (l:List qa) (hl:l.length≤16):∀(m:Nat) (n:qb),(ndN n).length≤m→(ndN n).length≤10000→(∀y∈ndN n,y.Set.length≤1000000)→∀nx:Nat,nx+(ndN n).length≤100000→qG (n,d,l,(nx:Int),s)=some (qQ (2 ^ l.length) (qS d s l n nx),d,l,((nx+lvN n:Nat):Int),s):=by
 intro m
 induction m with
 | zero=>intro n h;rw[zV] at h;simp at h
 | succ m ih =>
  intro n h1 h2 h3 nx hnx
  have hN:2 ^ l.length≤65536:=Nat.le_trans (Nat.pow_le_pow_right (by decide) hl) (by decide)
  have hN1:1≤2 ^ l.length:=Nat.one_le_two_pow
  have hlv:=qa2 n
  have hset:=h3 n (by rw[zV];exact List.mem_cons_self)
  have hsub:∀(L:List qb),(ndL L).length≤m→(ndL L).length≤10000→(∀y∈ndL L,y.Set.length≤1000000)→∀y∈L,∀nx:Nat,nx+(ndN y).length≤100000→qG (y,d,l,(nx:Int),s)=some (qQ (2 ^ l.length) (qS d s l y nx),d,l,((nx+lvN y:Nat):Int),s):=by
   intro L
   induction L with
   | nil=>intro _ _ _ y hy;simp at hy
   | cons x L ihl =>
    intro g1 g2 g3 y hy
    rw[ndL,List.length_append] at g1 g2
    rw[ndL] at g3
    rcases List.mem_cons.1 hy with rfl|hy
    ·exact ih _ (by omega) (by omega) fun z hz=>g3 z (List.mem_append_left _ hz)
    ·exact ihl (by omega) (by omega) (fun z hz=>g3 z (List.mem_append_right _ hz)) y hy
  have e0:ndN n=n::ndL n.L:=zV n
  have hlen:(ndN n).length=(ndL n.L).length+1:=by rw[e0];rfl
  have hP:=hsub n.L (by omega) (by omega) fun y hy=>h3 y (by rw[e0];exact List.mem_cons_of_mem _ hy)
  have hLlen:∀L:List qb,L.length≤(ndL L).length:=fun L=>by
   induction L with
   | nil=>simp
   | cons x L ihL=>rw[ndL,List.length_append,List.length_cons,zV,List.length_cons];omega
  have hLl:=hLlen n.L
  have hpow:w64 ((1:Int)*(2:Int) ^ min l.length (IntKind.bits IntKind.i64))=((2 ^ l.length:Nat):Int):=by
   rw[show min l.length (IntKind.bits IntKind.i64)=l.length from Nat.min_eq_left (by show l.length≤64;omega),Int.one_mul,show((2:Int) ^ l.length)=((2 ^ l.length:Nat):Int) by simp]
   exact zI (by omega) (by omega)
  rw[q6s,ZN]
  rw[hpow,if_pos (by omega),if_pos ⟨by omega,by omega,by omega⟩,Int.toNat_natCast,q8D,q4D]
  by_cases hlf:n.Kind=1∨n.Kind=2
  ·have e1:q5y n=true:=by unfold q5y;rcases hlf with h|h<;>simp[h]
   have e2:lvN n=1:=by rw[q2F,if_pos hlf]
   have hw2:w64 ((nx:Int)+1)=((nx+1:Nat):Int):=by rw[zI (by omega) (by omega)];omega
   rw[if_pos e1,if_pos hlf,e2]
   unfold Jo
   by_cases hk:n.Kind=1
   ·have hlt:=qel qG d hd s l hl n hset nx (by omega) _ (if_pos hk).symm hN hN1
    rw[if_pos (by simpa using hk),Option.bind_some,Sum.elim_inl,hlt,Option.bind_some,hw2]
   ·have hlt:=qel qG d hd s l hl n hset nx (by omega) _ (if_neg hk).symm hN hN1
    rw[if_neg (by simpa using hk),Option.bind_some,Sum.elim_inr,hlt,Option.bind_some,hw2]
  ·have e1:q5y n=false:=by unfold q5y;have h1:n.Kind≠1:=fun h=>hlf (.inl h);have h2:n.Kind≠2:=fun h=>hlf (.inr h);simp[h1,h2]
   have e2:lvN n=lvL n.L:=by rw[q2F,if_neg hlf]
   have hb0:Bnd b0F (2 ^ l.length) 0:=fun k _=>by unfold b0F;split<;>omega
   have hch:=qh4 d hd s l hl n (by omega) hP (List.replicate (2 ^ l.length) false) n.L 0 nx b0F 0 (by simp) (by simp) (by omega) hb0 (by omega) (by omega)
   rw[e1,if_neg (by simp),if_neg hlf,e2,if_pos ⟨by omega,by omega,by omega⟩]
   rw[qq8 qG hN hN1,Option.bind_some]
   change Option.bind (qq _ (d,qQ (2 ^ l.length) b0F,l,(nx:Int),s,((0:Nat):Int))) _=_
   rw[hch,Option.bind_some]
   simp only
   by_cases hk:n.Kind=3
   ·rw[if_pos (by simpa using hk),qjK qG hN hN1,Option.bind_some]
    simp only[if_pos hk]
   ·rw[if_neg (by simpa using hk),qjK qG hN hN1,Option.bind_some]
    simp only[if_neg hk]
end Go.Proofs.YtgejdfnidjnjcaaGreat.Vc
namespace Go.Proofs.YtgejdfnidjnjcaaGreat.Vc
open Go.RowKit
set_option linter.unusedVariables false
set_option linter.unusedSimpArgs false
structure JZ (d:qi):Prop where
 lo:0≤d.At
 hi:d.At≤d.L.length
 len:d.L.length≤9223372036854775807
theorem q9C {d:qi} (h:JZ d) {most:Int} (h0:0<most) (h1:most≤1000000):∃v d',ql most d=some (v,d')∧0≤v∧v<most∧JZ d':=by
 obtain⟨a,b,c⟩:=h
 unfold ql
 by_cases he:(d.L.length:Int)≤d.At
 ·exact⟨0,d,if_pos he,Int.le_refl _,h0,⟨a,b,c⟩⟩
 ·obtain⟨x,hx⟩:∃x,d.L[Int.toNat d.At]?=some x:=⟨_,List.getElem?_eq_getElem (by omega)⟩
  have e1:=Int.tmod_lt_of_pos x h0
  have e2 : -most<Int.tmod x most:=by
   have:=Int.tmod_lt_of_pos (-x) h0
   rw[Int.neg_tmod] at this;omega
  have e3:w64 (Int.tmod x most+most)=Int.tmod x most+most:=zI (by omega) (by omega)
  have e4:=Int.tmod_lt_of_pos (Int.tmod x most+most) h0
  have e5:0≤Int.tmod (Int.tmod x most+most) most:=Int.tmod_nonneg _ (by omega)
  have e6:w64 (d.At+1)=d.At+1:=zI (by omega) (by omega)
  refine⟨Int.tmod (Int.tmod x most+most) most,⟨d.L,d.At+1⟩,?_,e5,e4,⟨by show 0≤d.At+1;omega,by show d.At+1≤d.L.length;omega,c⟩⟩
  rw[if_neg he,if_pos ⟨a,by omega⟩,hx,Option.bind_some,if_neg (by omega),if_neg (by omega),e3,e6]
def q6J:List Int:=[1,1,1,2,2,3]
def q9G (c:qc):Prop:=c.School∈q6J∧c.Code∈z7
theorem qnp {α:Type} (l:List α) (i:Int) (h0:0≤i) (h1:i<l.length):∃x,l[Int.toNat i]?=some x∧x∈l:=⟨l[Int.toNat i],List.getElem?_eq_getElem (by omega),List.getElem_mem _⟩
theorem qol {d:qi} (h:JZ d):∃c d',JY d=some (c,d')∧q9G c∧JZ d':=by
 obtain⟨v,d1,e1,a1,b1,h1⟩:=q9C h (most:=6) (by omega) (by omega)
 obtain⟨w,d2,e2,a2,b2,h2⟩:=q9C h1 (most:=((z7.length:Nat):Int)) (by unfold z7;simp) (by unfold z7;simp)
 obtain⟨x,hx,mx⟩:=qnp q6J v a1 (by simpa [q6J] using b1)
 obtain⟨y,hy,my⟩:=qnp z7 w a2 b2
 refine⟨⟨x,y⟩,d2,?_,⟨mx,my⟩,h2⟩
 unfold JY
 rw[e1,Option.bind_some,if_pos ⟨a1,b1⟩]
 unfold q6J at hx
 rw[hx,Option.bind_some,e2,Option.bind_some,if_pos ⟨a2,b2⟩,hy,Option.bind_some]
theorem qad {c:qc} (h:q9G c):Zs c=true:=by
 obtain⟨s,k⟩:=c
 obtain⟨h1,h2⟩:=h
 have e1:∀s∈q6J,inF s 1 8=true:=by decide
 have e2:∀k∈z7,qcz k=true:=by unfold z7;decide
 unfold Zs
 rw[e1 s h1,e2 k h2];rfl
theorem qmz:∀(x y:List UInt8),Op.bytesLess x y=true∨x=y∨Op.bytesLess y x=true
 | [],[] => .inr (.inl rfl)
 | [],_::_ => .inl rfl
 | _::_,[] => .inr (.inr rfl)
 | a::x,b::y=>by
  simp only[Op.bytesLess]
  by_cases h1:a<b
  ·simp[h1]
  ·by_cases h2:b<a
   ·simp[h1,h2]
   ·have:a=b:=by
     apply UInt8.toNat_inj.1
     have h1':¬ a.toNat<b.toNat:=h1
     have h2':¬ b.toNat<a.toNat:=h2
     omega
    subst this
    rcases qmz x y with h|h|h<;>simp[h]
noncomputable def q1N (a b:qc):Bool:=qW a b
theorem qlt (a b:qc):q1N a b=decide (qqz a b<0):=by
 unfold q1N qW qqz ql1 qvX
 by_cases h1:a.School<b.School
 ·rw[if_pos h1,if_pos (by omega),if_pos h1];rfl
 ·rw[if_neg h1]
  by_cases h2:a.School=b.School
  ·rw[if_pos (by simpa using h2),if_neg (fun h=>h h2)]
   cases h3:Op.bytesLess a.Code.toList b.Code.toList
   ·cases h4:(a.Code.toList==b.Code.toList)<;>simp
   ·simp
  ·rw[if_neg (by simpa using h2),if_pos h2,if_neg h1,if_pos (by omega)];rfl
theorem qkr (a b:qc):q1N a b=true∨ceq a b=true∨q1N b a=true:=by
 unfold q1N qW ceq
 by_cases h1:a.School<b.School
 ·simp[h1]
 ·by_cases h2:b.School<a.School
  ·simp[h2]
  ·have h3:a.School=b.School:=by omega
   rcases qmz a.Code.toList b.Code.toList with h|h|h
   ·left;simp[h3,h]
   ·right;left;simp[h3,h]
   ·right;right;simp[h3,h]
def qdt {α:Type} (l:List α) (k:Nat) (c:α):List α:=l.take k++c::l.drop k
theorem qmv {α:Type}:∀(ys l:List α) (k:Nat),k+ys.length≤l.length→spl l k ys=l.take k++(ys++l.drop (k+ys.length))
 | [],l,k,_=>by rw[spl,List.length_nil,Nat.add_zero,List.nil_append,List.take_append_drop]
 | x::ys,l,k,h=>by
  simp only[List.length_cons] at h ⊢
  rw[spl,qmv ys (l.set k x) (k+1) (by rw[List.length_set];omega)]
  have e:l.set k x=l.take k++x::l.drop (k+1):=by rw[List.set_eq_take_append_cons_drop,if_pos (by omega)]
  have hl:(l.take k).length=k:=by rw[List.length_take];omega
  have e1:(l.set k x).take (k+1)=l.take k++[x]:=by
   rw[e,List.take_append,hl,List.take_of_length_le (by omega),show k+1-k=1 by omega];rfl
  have e2:(l.set k x).drop (k+1+ys.length)=l.drop (k+(ys.length+1)):=by
   rw[e,List.drop_append,hl,List.drop_eq_nil_of_le (by omega),List.nil_append,show k+1+ys.length-k=ys.length+1 by omega,List.drop_succ_cons,List.drop_drop]
   congr 1;omega
  rw[e1,e2,List.append_assoc]
  rfl
theorem qhz {α:Type} (l:List α) (z c:α) (k:Nat) (h:k<l.length):List.set (spl (l++[z]) (k+1) (List.take (min (l.length+1-k) (l.length+1-(k+1))) (List.take (l.length+1-k) (List.drop k (l++[z]))))) k c=qdt l k c:=by
 have e1:List.take (min (l.length+1-k) (l.length+1-(k+1))) (List.take (l.length+1-k) (List.drop k (l++[z])))=l.drop k:=by
  rw[List.take_take,List.drop_append_of_le_length (by omega),show min (min (l.length+1-k) (l.length+1-(k+1))) (l.length+1-k)=l.length-k by omega,List.take_append_of_le_length (by rw[List.length_drop];omega),List.take_of_length_le (by rw[List.length_drop];omega)]
 rw[e1,qmv _ _ _ (by rw[List.length_drop,List.length_append,List.length_singleton];omega)]
 unfold qdt
 have e2:List.drop (k+1+(l.length-k)) (l++[z])=[]:=List.drop_eq_nil_of_le (by rw[List.length_append,List.length_singleton];omega)
 rw[List.length_drop,e2,List.append_nil,List.take_append_of_le_length (by omega)]
 rw[List.take_add_one,List.getElem?_eq_getElem h,Option.toList_some,List.append_assoc,List.set_append_right _ _ (by rw[List.length_take];omega),List.length_take,Nat.min_eq_left (by omega),Nat.sub_self]
 rfl
theorem qeU {α:Type} (l:List α) (z c:α):List.set (l++[z]) l.length c=qdt l l.length c:=by
 unfold qdt
 rw[List.set_append_right _ _ (Nat.le_refl _),Nat.sub_self,List.take_length,List.drop_length]
 rfl
end Go.Proofs.YtgejdfnidjnjcaaGreat.Vc
namespace Go.Proofs.YtgejdfnidjnjcaaGreat.Vc
open Go.RowKit
set_option linter.unusedVariables false
set_option linter.unusedSimpArgs false
structure q6R (l:List qc):Prop where
 ok:∀c∈l,q9G c
 ord:qbh l=true
theorem q1t {x y:qc} {l:List qc}:qbh (x::y::l)=(q1N x y&&qbh (y::l)):=by rw[qbh,qlt]
theorem qhD {x:qc} {l:List qc} (h:qbh (x::l)=true):qbh l=true:=by
 cases l with
 | nil=>rfl
 | cons y l=>rw[q1t,Bool.and_eq_true] at h;exact h.2
noncomputable def atF (l:List qc) (c:qc):Nat:=(l.takeWhile fun x=>q1N x c).length
theorem qg3 (l:List qc) (c:qc):atF l c≤l.length:=by
 unfold atF
 induction l with
 | nil=>simp
 | cons x l ih=>rw[List.takeWhile_cons];split<;>simp<;>omega
theorem qiw {c:qc}:∀{l:List qc},qbh l=true→(∀x,l[atF l c]?=some x→ceq x c=false)→qbh (qdt l (atF l c) c)=true
 | [],_,_=>rfl
 | x::l,h,hc=>by
  by_cases hx:q1N x c=true
  ·have e:atF (x::l) c=atF l c+1:=by unfold atF;rw[List.takeWhile_cons,if_pos hx];rfl
   rw[e] at hc ⊢
   have ih:=qiw (qhD h) (fun y hy=>hc y (by simpa using hy))
   have e2:qdt (x::l) (atF l c+1) c=x::qdt l (atF l c) c:=rfl
   rw[e2]
   cases l with
   | nil=>rw[show qdt ([]:List qc) (atF [] c) c=[c] from rfl,q1t,hx];rfl
   | cons y l =>
    rw[q1t,Bool.and_eq_true] at h
    by_cases hy:q1N y c=true
    ·have e3:atF (y::l) c=atF l c+1:=by unfold atF;rw[List.takeWhile_cons,if_pos hy];rfl
     rw[e3] at ih ⊢
     have e4:qdt (y::l) (atF l c+1) c=y::qdt l (atF l c) c:=rfl
     rw[e4] at ih ⊢
     rw[q1t,h.1,ih];rfl
    ·have e3:atF (y::l) c=0:=by unfold atF;rw[List.takeWhile_cons,if_neg hy];rfl
     rw[e3] at ih ⊢
     have e4:qdt (y::l) 0 c=c::y::l:=rfl
     rw[e4] at ih ⊢
     rw[q1t,hx,ih];rfl
  ·have e:atF (x::l) c=0:=by unfold atF;rw[List.takeWhile_cons,if_neg hx];rfl
   rw[e] at hc ⊢
   have e2:qdt (x::l) 0 c=c::x::l:=rfl
   rw[e2,q1t]
   have h1:=hc x (by simp)
   rcases qkr x c with h2|h2|h2
   ·exact absurd h2 hx
   ·rw[h2] at h1;cases h1
   ·rw[h2,h];rfl
theorem qnL (out:List qc) (hl:out.length≤1000000) (d:qi) (c:qc) (many k:Int):qq (ZH out d c many k) 0=some ((atF out c:Nat):Int):=by
 have h1:=q0f (ε:=Int) (step:=ZH out d c many k) out (fun(_:Unit) i=>(i:Int)) (fun i _ x=>if q1N x c=true then .inl () else .inr (i:Int)) (fun _=>(out.length:Int)) (fun _ i x hx=>by
   have hi:=ZF hx
   unfold ZH
   rw[if_pos (by omega),if_pos ⟨by omega,by omega⟩,Int.toNat_natCast,hx,Option.bind_some,qs hi (by omega)]
   show(if q1N x c=true then _ else _)=_
   cases q1N x c<;>simp) (fun _=>by
   unfold ZH
   rw[if_neg (by omega)]) ()
 rw[show((0:Nat):Int)=0 from rfl] at h1
 rw[h1]
 congr 1
 have:∀(l:List qc) (i:Nat) (n:Nat),i+l.length=n→q1O (ε:=Int) (fun i (_:Unit) (x:qc)=>if q1N x c=true then .inl () else .inr (i:Int)) (fun _=>(n:Int)) l i ()=((i+atF l c:Nat):Int):=by
  intro l
  induction l with
  | nil=>intro i n h;simp at h;unfold q1O atF;simp[h]
  | cons x l ih =>
   intro i n h
   simp only[List.length_cons] at h
   unfold q1O
   by_cases hx:q1N x c=true
   ·have e:atF (x::l) c=atF l c+1:=by unfold atF;rw[List.takeWhile_cons,if_pos hx];rfl
    simp only[hx,if_true]
    rw[ih (i+1) n (by omega),e]
    omega
   ·have e:atF (x::l) c=0:=by unfold atF;rw[List.takeWhile_cons,if_neg hx];rfl
    have hx':q1N x c=false:=by simpa using hx
    simp only[hx',Bool.false_eq_true,if_false]
    rw[e];rfl
 have:=this out 0 out.length (by simp)
 simpa using this
noncomputable def qdB (l:List qc) (c:qc):List qc:=if(l[atF l c]?).any (fun x=>ceq x c)=true then l else qdt l (atF l c) c
theorem qdu (l:List qc) (c:qc):l.length≤(qdB l c).length∧(qdB l c).length≤l.length+1∧1≤(qdB l c).length:=by
 have h:=qg3 l c
 unfold qdB
 split
 ·rename_i h2
  refine⟨Nat.le_refl _,by omega,?_⟩
  cases l with
  | nil=>simp at h2
  | cons x l=>simp
 ·unfold qdt
  simp only[List.length_append,List.length_cons,List.length_take,List.length_drop]
  omega
theorem qkq {l:List qc} {c:qc} (h:q6R l) (hc:q9G c):q6R (qdB l c):=by
 unfold qdB
 split
 ·exact h
 ·rename_i h2
  refine⟨fun x hx=>?_,qiw h.ord fun x hx=>?_⟩
  ·unfold qdt at hx
   rcases List.mem_append.1 hx with hx|hx
   ·exact h.ok x (List.mem_of_mem_take hx)
   ·rcases List.mem_cons.1 hx with rfl|hx
    ·exact hc
    ·exact h.ok x (List.mem_of_mem_drop hx)
  ·rw[hx] at h2
   simpa using h2
theorem qgT (out:List qc) (hl:out.length≤1000) {d:qi} (hd:JZ d) (many:Int) (k:Nat) (hk:(k:Int)<many) (hk2:k≤1000):∃c d',q9G c∧JZ d'∧QR many (out,d,(k:Int))=some (.inl (qdB out c,d',((k+1:Nat):Int))):=by
 obtain⟨c,d',h1,h2,h3⟩:=qol hd
 refine⟨c,d',h2,h3,?_⟩
 have hML:100000≤maxLen:=by unfold maxLen;omega
 have hat:=qg3 out c
 unfold QR
 simp only
 rw[if_pos hk,h1,Option.bind_some]
 simp only
 rw[qnL out (by omega),Option.bind_some]
 have hwk:w64 ((k:Int)+1)=((k+1:Nat):Int):=by rw[zI (by omega) (by omega)];omega
 have hwa:w64 (((atF out c:Nat):Int)+1)=((atF out c+1:Nat):Int):=by rw[zI (by omega) (by omega)];omega
 rw[hwk,hwa]
 simp only[Int.toNat_natCast,List.length_take,List.length_drop,List.length_append,List.length_cons,List.length_nil]
 unfold qdB
 by_cases hlt:atF out c<out.length
 ·obtain⟨x,hx⟩:∃x,out[atF out c]?=some x:=⟨_,List.getElem?_eq_getElem hlt⟩
  rw[if_pos (by omega),if_pos ⟨by omega,by omega⟩,hx,Option.bind_some]
  simp only[Option.any_some]
  by_cases hc:ceq x c=true
  ·have hc2:=hc
   unfold ceq at hc2
   simp only[Bool.and_eq_true] at hc2
   rw[if_pos hc2,if_pos hc]
  ·have hc2:¬ ((x.School==c.School)=true∧(x.Code.toList==c.Code.toList)=true):=fun h=>hc (by unfold ceq;rw[h.1,h.2];rfl)
   rw[if_neg hc2,if_neg hc]
   repeat (first|rw[if_pos (by omega)]|rw[if_neg (by omega)])
   rw[qhz _ _ _ _ hlt]
 ·have he:atF out c=out.length:=by omega
  have hnone:out[out.length]?=none:=List.getElem?_eq_none (Nat.le_refl _)
  rw[he,hnone]
  simp only[Option.any_none,Bool.false_eq_true,if_false]
  repeat (first|rw[if_pos (by omega)]|rw[if_neg (by omega)])
  rw[qeU]
theorem qzv {d:qi} (hd:JZ d):∃S d',Zd d=some (S,d')∧JZ d'∧q6R S∧1≤S.length∧S.length≤3:=by
 obtain⟨v,d1,e1,a1,b1,h1⟩:=q9C hd (most:=3) (by omega) (by omega)
 obtain⟨m,rfl⟩:∃m:Nat,v=(m:Int):=⟨v.toNat,by omega⟩
 have hw:w64 (1+(m:Int))=((m+1:Nat):Int):=by rw[zI (by omega) (by omega)];omega
 have key:∀(j k:Nat) (out:List qc) (d:qi),j+k=m+1→JZ d→q6R out→out.length≤k→(1≤k→1≤out.length)→∃S d',qq (QR ((m+1:Nat):Int)) (out,d,(k:Int))=some (S,d')∧JZ d'∧q6R S∧1≤S.length∧S.length≤m+1:=by
  intro j
  induction j with
  | zero =>
   intro k out d hk hd hs hl1 hl2
   refine⟨out,d,qz ?_,hd,hs,hl2 (by omega),by omega⟩
   unfold QR
   simp only
   rw[if_neg (by omega)]
  | succ j ih =>
   intro k out d hk hd hs hl1 hl2
   obtain⟨c,d',g1,g2,g3⟩:=qgT out (by omega) hd ((m+1:Nat):Int) k (by omega) (by omega)
   obtain⟨p1,p2,p3⟩:=qdu out c
   rw[qL g3]
   exact ih (k+1) _ d' (by omega) g2 (qkq hs g1) (by omega) (fun _=>p3)
 obtain⟨S,d',g1,g2,g3,g4,g5⟩:=key (m+1) 0 [] d1 (by omega) h1 ⟨by simp,rfl⟩ (by simp) (by omega)
 refine⟨S,d',?_,g2,g3,g4,by omega⟩
 unfold Zd
 rw[e1,Option.bind_some,hw]
 rw[show((0:Nat):Int)=0 from rfl] at g1
 simp only
 rw[g1,Option.bind_some]
end Go.Proofs.YtgejdfnidjnjcaaGreat.Vc
namespace Go.Proofs.YtgejdfnidjnjcaaGreat.Vc
open Go.RowKit
set_option linter.unusedVariables false
set_option linter.unusedSimpArgs false
structure q8t (n:qb):Prop where
 kd:(n.Kind=2∧1≤n.N∧n.N≤12)∨(n.Kind=1∧n.N=0)
 mn:0≤n.Min∧n.Min≤80
 st:q6R n.Set
 s1:1≤n.Set.length
 s3:n.Set.length≤3
 nl:n.L=[]
structure qcx (n:qb):Prop where
 kd:(n.Kind=3∧n.N=0)∨(n.Kind=4∧1≤n.N∧n.N≤n.L.length)
 mn:n.Min=0
 st:n.Set=[]
 ne:n.L≠[]
def q4y (n:qb):Prop:=q8t n∨qcx n
structure q1u (deep leaves:Nat) (n:qb):Prop where
 ok:∀y∈ndN n,q4y y
 hg:hgN n≤deep+1
 l1:1≤lvN n
 l2:lvN n≤max 1 leaves
 nd:(ndN n).length≤lvN n*(deep+1)
theorem q8T {n:qb} (h:q8t n) (deep leaves:Nat):q1u deep leaves n:=by
 have e1:ndN n=[n]:=by rw[zV,h.nl,ndL]
 have e2:lvN n=1:=by rw[q2F,if_pos];rcases h.kd with h|h<;>simp[h.1]
 have e3:hgN n=1:=by rw[q7I,h.nl,hgL]
 refine⟨fun y hy=>?_,by omega,by omega,by omega,?_⟩
 ·rw[e1] at hy
  rw[List.mem_singleton.1 hy];exact .inl h
 ·rw[e1,e2,List.length_singleton];omega
noncomputable def qhy (d:qi):Option (qb×qi):=Option.bind (ql (3:Int) d) fun a3=>if(a3.1==(0:Int))=Bool.true then Option.bind (ql (12:Int) a3.2) fun a4=>Option.bind (ql (3:Int) a4.2) fun a5=>if(0:Int)≤a5.1∧a5.1<(3:Int) then Option.bind [(0:Int),(50:Int),(60:Int)][Int.toNat a5.1]? fun a6=>Option.bind (Zd a5.2) fun a7=>some (qb.mk (2:Int) (w64 ((1:Int)+a4.1)) a6 a7.1 [],a7.2) else none else Option.bind (ql (4:Int) a3.2) fun a8=>if(0:Int)≤a8.1∧a8.1<(4:Int) then Option.bind [(0:Int),(50:Int),(60:Int),(80:Int)][Int.toNat a8.1]? fun a9=>Option.bind (Zd a8.2) fun a10=>some (qb.mk (1:Int) (0:Int) a9 a10.1 [],a10.2) else none
theorem qev {d:qi} (hd:JZ d):∃n d',qhy d=some (n,d')∧q8t n∧JZ d':=by
 obtain⟨v,d1,e1,a1,b1,h1⟩:=q9C hd (most:=3) (by omega) (by omega)
 unfold qhy
 rw[e1,Option.bind_some]
 simp only
 by_cases hv:v=0
 ·obtain⟨w,d2,e2,a2,b2,h2⟩:=q9C h1 (most:=12) (by omega) (by omega)
  obtain⟨u,d3,e3,a3,b3,h3⟩:=q9C h2 (most:=3) (by omega) (by omega)
  obtain⟨x,hx,mx⟩:=qnp [(0:Int),50,60] u a3 (by simpa using b3)
  obtain⟨S,d4,e4,h4,s1,s2,s3⟩:=qzv h3
  have hw:w64 (1+w)=1+w:=zI (by omega) (by omega)
  have hm:∀x∈[(0:Int),50,60],0≤x∧x≤80:=by decide
  refine⟨⟨2,1+w,x,S,[]⟩,d4,?_,⟨.inl ⟨rfl,by show 1≤1+w;omega,by show 1+w≤12;omega⟩,hm x mx,s1,s2,s3,rfl⟩,h4⟩
  rw[if_pos (by simp[hv]),e2,Option.bind_some]
  simp only
  rw[e3,Option.bind_some]
  simp only
  rw[if_pos ⟨a3,b3⟩,hx,Option.bind_some,e4,Option.bind_some,hw]
 ·obtain⟨u,d3,e3,a3,b3,h3⟩:=q9C h1 (most:=4) (by omega) (by omega)
  obtain⟨x,hx,mx⟩:=qnp [(0:Int),50,60,80] u a3 (by simpa using b3)
  obtain⟨S,d4,e4,h4,s1,s2,s3⟩:=qzv h3
  have hm:∀x∈[(0:Int),50,60,80],0≤x∧x≤80:=by decide
  refine⟨⟨1,0,x,S,[]⟩,d4,?_,⟨.inr ⟨rfl,rfl⟩,hm x mx,s1,s2,s3,rfl⟩,h4⟩
  rw[if_neg (by simpa using hv),e3,Option.bind_some]
  simp only
  rw[if_pos ⟨a3,b3⟩,hx,Option.bind_some,e4,Option.bind_some]
theorem q7L (rF:(Int×Int×qi)→Option (qb×qi)) (x1 x2:Int) (v:qi):JI rF (x1,x2,v)=(ql 6 v).bind fun a2 =>
  if x1≤0 then qhy a2.2 else if x2<2 then qhy a2.2 else if a2.1<2 then qhy a2.2 else
  Option.bind (ql (min (3:Int) x2) a2.2) fun a27 =>
  Option.bind (qq (Q3 rF (0:Int) (0:Int) (0:Int) (3:Int) (0:Int) (0:Int) x1 x2 a2.1 (w64 ((1:Int)+a27.1))) ([],(a27.2,(0:Int)))) fun a28 =>
  if(3:Int)<a2.1 then Option.bind (ql (w64 ((1:Int)+a27.1)) a28.2) fun a29 =>
   some (qb.mk (4:Int) (w64 ((1:Int)+a29.1)) (0:Int) [] a28.1,a29.2)
  else some (qb.mk (3:Int) (0:Int) (0:Int) [] a28.1,a28.2):=rfl
theorem qjw {deep q:Nat} (hq:1≤q):∀(L:List qb),(∀y∈L,q1u deep q y)→hgL L≤deep+1∧L.length≤lvL L∧lvL L≤L.length*q∧(ndL L).length≤lvL L*(deep+1)∧∀y∈ndL L,q4y y
 | [],_=>⟨by simp[hgL],by simp[lvL],by simp[lvL],by simp[ndL],by simp[ndL]⟩
 | x::L,h=>by
  obtain⟨a,b,c,d,e⟩:=qjw hq L fun y hy=>h y (List.mem_cons_of_mem _ hy)
  obtain⟨f,g,i,j,k⟩:=h x List.mem_cons_self
  rw[Nat.max_eq_right hq] at j
  refine⟨?_,?_,?_,?_,?_⟩
  ·rw[hgL];omega
  ·rw[lvL,List.length_cons];omega
  ·rw[lvL,List.length_cons,Nat.add_mul];omega
  ·rw[ndL,lvL,List.length_append,Nat.add_mul];omega
  ·rw[ndL]
   intro y hy
   rcases List.mem_append.1 hy with hy|hy
   ·exact f y hy
   ·exact e y hy
theorem qac {n:qb} (h:qcx n) {deep leaves q:Nat} (hq:1≤q) (hk:n.L.length*q≤leaves) (hL:∀y∈n.L,q1u deep q y):q1u (deep+1) leaves n:=by
 obtain⟨a,b,c,d,e⟩:=qjw hq n.L hL
 have hlen:1≤n.L.length:=by cases hn:n.L with|nil=>exact absurd hn h.ne|cons x l=>simp
 have e2:lvN n=lvL n.L:=by rw[q2F,if_neg];rcases h.kd with h|h<;>simp[h.1]
 refine⟨fun y hy=>?_,?_,by omega,by omega,?_⟩
 ·rw[zV] at hy
  rcases List.mem_cons.1 hy with rfl|hy
  ·exact .inr h
  ·exact e y hy
 ·rw[q7I];omega
 ·rw[zV,List.length_cons,e2,show deep+1+1=(deep+1)+1 from rfl,Nat.mul_add];omega
theorem qn5:∀(deep leaves:Nat) (d:qi),deep≤10→leaves≤100→JZ d→∃n d',ZC ((deep:Int),(leaves:Int),d)=some (n,d')∧q1u deep leaves n∧JZ d':=by
 intro deep
 induction deep with
 | zero =>
  intro leaves d _ _ hd
  obtain⟨v,d1,e1,a1,b1,h1⟩:=q9C hd (most:=6) (by omega) (by omega)
  obtain⟨n,d',g1,g2,g3⟩:=qev h1
  refine⟨n,d',?_,q8T g2 _ _,g3⟩
  rw[q41,q7L,e1,Option.bind_some,if_pos (by omega)]
  exact g1
 | succ deep ih =>
  intro leaves d hdp hlv hd
  obtain⟨v,d1,e1,a1,b1,h1⟩:=q9C hd (most:=6) (by omega) (by omega)
  obtain⟨n0,d0,g1,g2,g3⟩:=qev h1
  rw[q41,q7L,e1,Option.bind_some,if_neg (by omega)]
  by_cases hl:leaves<2
  ·exact⟨n0,d0,by rw[if_pos (by omega)];exact g1,q8T g2 _ _,g3⟩
  ·rw[if_neg (by omega)]
   by_cases hv:v<2
   ·exact⟨n0,d0,by rw[if_pos hv];exact g1,q8T g2 _ _,g3⟩
   ·rw[if_neg hv]
    clear g1 g2 g3 n0 d0
    obtain⟨w,d2,e2,a2,b2,h2⟩:=q9C h1 (most:=min 3 (leaves:Int)) (by omega) (by omega)
    simp only
    rw[e2,Option.bind_some]
    simp only
    obtain⟨m,hm⟩:∃m:Nat,(m:Int)=1+w:=⟨(1+w).toNat,by omega⟩
    have hw:w64 (1+w)=(m:Int):=by rw[zI (by omega) (by omega)];omega
    rw[hw]
    have hm1:1≤m:=by omega
    have hm3:m≤3:=by omega
    have hml:m≤leaves:=by omega
    obtain⟨q,hq⟩:∃q,q=leaves / m:=⟨_,rfl⟩
    have hq1:1≤q:=by rw[hq];exact(Nat.le_div_iff_mul_le (by omega)).2 (by omega)
    have hqm:m*q≤leaves:=by rw[hq];exact Nat.mul_div_le _ _
    have hq2:q≤leaves:=by rw[hq];exact Nat.div_le_self _ _
    have hML:100000≤maxLen:=by unfold maxLen;omega
    have hdiv:w64 (Int.tdiv (leaves:Int) (m:Int))=(q:Int):=by
     rw[←Int.ofNat_tdiv,←hq,zI (by omega) (by omega)]
    have hdeep:w64 (((deep+1:Nat):Int)-1)=(deep:Int):=by rw[zI (by omega) (by omega)];omega
    have key:∀(j i:Nat) (l:List qb) (d:qi),j+i=m→l.length=i→(∀y∈l,q1u deep q y)→JZ d→∃l' d',qq (Q3 ZC 0 0 0 3 0 0 ((deep+1:Nat):Int) (leaves:Int) v (m:Int)) (l,d,(i:Int))=some (l',d')∧l'.length=m∧(∀y∈l',q1u deep q y)∧JZ d':=by
     intro j
     induction j with
     | zero =>
      intro i l d hi hl hy hd
      refine⟨l,d,qz ?_,by omega,hy,hd⟩
      unfold Q3
      simp only
      rw[if_neg (by omega)]
     | succ j ihj =>
      intro i l d hi hl hy hd
      obtain⟨n,d',q1,q2,q3⟩:=ih q d (by omega) (by omega) hd
      have hs:Q3 ZC 0 0 0 3 0 0 ((deep+1:Nat):Int) (leaves:Int) v (m:Int) (l,d,(i:Int))=some (.inl (l++[n],d',((i+1:Nat):Int))):=by
       unfold Q3
       simp only
       rw[if_pos (by omega),if_neg (by omega),hdiv,hdeep,q1,Option.bind_some]
       simp only
       rw[if_pos ⟨by omega,by omega⟩,zI (by omega) (by omega)]
       rfl
      rw[qL hs]
      refine ihj (i+1) (l++[n]) d' (by omega) (by simp[hl]) (fun y hy2=>?_) q3
      rcases List.mem_append.1 hy2 with h|h
      ·exact hy y h
      ·rw[List.mem_singleton.1 h];exact q2
    obtain⟨l,d3,q1,q2,q3,q4⟩:=key m 0 [] d2 (by omega) rfl (by simp) h2
    rw[show((0:Nat):Int)=0 from rfl] at q1
    rw[q1,Option.bind_some]
    have hne:l≠[]:=fun h=>by rw[h] at q2;simp at q2;omega
    by_cases hv3:(3:Int)<v
    ·obtain⟨u,d4,e4,a4,b4,h4⟩:=q9C q4 (most:=(m:Int)) (by omega) (by omega)
     have hwu:w64 (1+u)=1+u:=zI (by omega) (by omega)
     simp only
     rw[if_pos hv3,e4,Option.bind_some,hwu]
     exact⟨_,d4,rfl,qac (q:=q) ⟨.inr ⟨rfl,by show 1≤1+u;omega,by show 1+u≤(l.length:Int);omega⟩,rfl,rfl,hne⟩ hq1 (by show l.length*q≤leaves;rw[q2];exact hqm) q3,h4⟩
    ·simp only
     rw[if_neg hv3]
     exact⟨_,d3,rfl,qac (q:=q) ⟨.inl ⟨rfl,rfl⟩,rfl,rfl,hne⟩ hq1 (by show l.length*q≤leaves;rw[q2];exact hqm) q3,q4⟩
theorem qqq (l:List Int) (hl:l.length≤9223372036854775807):∃n,q0Y l=some n∧q1u 3 6 n:=by
 obtain⟨n,d',h1,h2,h3⟩:=qn5 3 6 ⟨l,0⟩ (by omega) (by omega) ⟨by show(0:Int)≤0;omega,by show(0:Int)≤(l.length:Int);omega,hl⟩
 refine⟨n,?_,h2⟩
 unfold q0Y
 change Option.bind (ZC (((3:Nat):Int),((6:Nat):Int),⟨l,0⟩)) _=_
 rw[h1,Option.bind_some]
theorem qc1 {n:qb} (h:q8t n):q03 n=0:=by
 have h1:=h.s1
 have h3:=h.s3
 have hm:=h.mn
 have e1:inF n.Min (-1000) 1000=true:=by unfold inF;simp;omega
 have e2:inF n.Set.length 1 12=true:=by unfold inF;simp;omega
 have e3:n.Set.all Zs=true:=List.all_eq_true.2 fun c hc=>qad (h.st.ok c hc)
 unfold q03
 rw[e1,e2,e3,h.st.ord]
 simp
theorem qgx {n:qb} (h:q4y n):q1L n=0:=by
 unfold q1L
 rcases h with h|h
 ·have hc:=qc1 h
  rcases h.kd with ⟨k,a,b⟩|⟨k,a⟩
  ·have e:inF n.N 1 600=true:=by unfold inF;simp;omega
   simp[k,h.nl,e,hc]
  ·simp[k,h.nl,a,hc]
 ·have hb:q3f n=true:=by
   unfold q3f
   rw[h.mn,h.st]
   cases hL:n.L with
   | nil=>exact absurd hL h.ne
   | cons x l=>rfl
  rcases h.kd with ⟨k,a⟩|⟨k,a,b⟩
  ·simp[k,hb,a]
  ·have e:inF n.N 1 n.L.length=true:=by unfold inF;simp;omega
   simp[k,hb,e]
theorem qeK:∀(l:List qb),(∀y∈l,q1L y=0)→qg1 l=none
 | [],_=>rfl
 | x::l,h=>by
  unfold qg1
  rw[List.findSome?_cons,h x List.mem_cons_self]
  simp only[ne_eq,not_true_eq_false,if_false]
  exact qeK l fun y hy=>h y (List.mem_cons_of_mem _ hy)
theorem qxx:∀(n:qb) (d m:Int),dpN d n m≤max m (d+hgN n-1):=by
 intro n
 induction n using qb.rec (motive_2:=fun L=>∀(d m:Int),dpL d L m≤max m (d+hgL L-1)) with
 | mk k n m S L ih =>
  intro d mm
  rw[dpN,hgN]
  have:=ih (d+1) (max mm d)
  omega
 | nil=>rename_i d m;rw[dpL];omega
 | cons x L h1 h2 =>
  rename_i d m
  rw[dpL,hgL]
  have a:=h1 d m
  have b:=h2 d (dpN d x m)
  omega
theorem qcZ:∀(n:qb),(∀y∈ndN n,q4y y)→((ndN n).filter Qx).length=lvN n:=by
 intro n
 induction n using qb.rec (motive_2:=fun L=>(∀y∈ndL L,q4y y)→((ndL L).filter Qx).length=lvL L) with
 | mk k n m S L ih =>
  intro h
  rw[ndN] at h ⊢
  have h0:=h _ List.mem_cons_self
  have hr:=ih fun y hy=>h y (List.mem_cons_of_mem _ hy)
  rw[List.filter_cons,lvN]
  rcases h0 with h0|h0
  ·have e:L=[]:=h0.nl
   subst e
   have e1:k=1∨k=2:=by rcases h0.kd with h|h;exact .inr h.1;exact .inl h.1
   have e2:Qx ⟨k,n,m,S,[]⟩=true:=by unfold Qx;rcases e1 with rfl|rfl<;>rfl
   rw[if_pos e2,if_pos e1]
   simp[ndL]
  ·have e1:k=3∨k=4:=by rcases h0.kd with h|h;exact .inl h.1;exact .inr h.1
   have e2:Qx ⟨k,n,m,S,L⟩=false:=by unfold Qx;rcases e1 with rfl|rfl<;>rfl
   rw[e2,if_neg (by simp),if_neg (by omega),hr]
 | nil=>simp[ndL,lvL]
 | cons x L h1 h2 =>
  rename_i h
  rw[ndL] at h ⊢
  rw[lvL,List.filter_append,List.length_append,h1 fun y hy=>h y (List.mem_append_left _ hy),h2 fun y hy=>h y (List.mem_append_right _ hy)]
theorem qeu {n:qb} (h:∀y∈ndN n,q4y y):∀y∈ndN n,y.Set.length≤1000000:=fun y hy=>by
 rcases h y hy with h|h
 ·have:=h.s3;omega
 ·rw[h.st];simp
theorem qfy {n:qb} (h:q1u 3 6 n):JD n=some 0:=by
 have h1:=h.hg
 have h2:=h.l1
 have h3:=h.l2
 have h4:=h.nd
 rw[q62 n (by omega) (by omega) (qeu h.ok)]
 unfold q4j
 have hf:=qcZ n h.ok
 have hd:=qxx n 1 0
 have e:inF ((ndN n).filter Qx).length 1 8=true:=by unfold inF;rw[hf];simp;omega
 rw[if_neg (by omega),if_neg (by omega),e,if_neg (by simp),qeK _ fun y hy=>qgx (h.ok y hy)]
 rfl
end Go.Proofs.YtgejdfnidjnjcaaGreat.Vc
namespace Go.Proofs.YtgejdfnidjnjcaaGreat.Vc
open Go.RowKit
set_option linter.unusedVariables false
set_option linter.unusedSimpArgs false
theorem qcJ (x y:Nat):(x &&& y) / 2=(x / 2) &&& (y / 2):=by
 apply Nat.eq_of_testBit_eq
 intro i
 rw[Nat.testBit_div_two,Nat.testBit_and,Nat.testBit_and,Nat.testBit_div_two,Nat.testBit_div_two]
theorem qde (x y:Nat):(x &&& y) % 2=if x % 2=1∧y % 2=1 then 1 else 0:=by
 have h:(x &&& y).testBit 0=(x.testBit 0&&y.testBit 0):=Nat.testBit_and x y 0
 rw[Nat.testBit_zero,Nat.testBit_zero,Nat.testBit_zero] at h
 have h1:x % 2<2:=Nat.mod_lt _ (by decide)
 have h2:y % 2<2:=Nat.mod_lt _ (by decide)
 have h3:(x &&& y) % 2<2:=Nat.mod_lt _ (by decide)
 by_cases hx:x % 2=1
 ·by_cases hy:y % 2=1
  ·rw[if_pos ⟨hx,hy⟩]
   simpa [hx,hy] using h
  ·rw[if_neg (fun h=>hy h.2)]
   have:¬ (x &&& y) % 2=1:=by simpa [hx,hy] using h
   omega
 ·rw[if_neg (fun h=>hx h.1)]
  have:¬ (x &&& y) % 2=1:=by simpa [hx] using h
  omega
theorem qlg:∀(sub set t:Nat),sub &&& set=sub→t &&& set=t→t<sub→t≤(sub-1) &&& set:=by
 intro sub
 induction sub using Nat.strongRecOn with
 | _ sub ih =>
  intro set t hs ht hlt
  have hs2:=qcJ sub set
  have hsm:=qde sub set
  have ht2:=qcJ t set
  have htm:=qde t set
  rw[hs] at hs2 hsm
  rw[ht] at ht2 htm
  have hr2:=qcJ (sub-1) set
  have hrm:=qde (sub-1) set
  by_cases hodd:sub % 2=1
  ·have e:(sub-1) / 2=sub / 2:=by omega
   rw[e,←hs2] at hr2
   have e2:(sub-1) % 2=0:=by omega
   rw[if_neg (by omega)] at hrm
   omega
  ·have hpos:sub / 2≠0:=by omega
   have e:(sub-1) / 2=sub / 2-1:=by omega
   rw[e] at hr2
   have hlt2:t / 2<sub / 2:=by omega
   have:=ih (sub / 2) (by omega) (set / 2) (t / 2) hs2.symm ht2.symm hlt2
   have hset:set % 2<2:=Nat.mod_lt _ (by decide)
   have e3:(sub-1) % 2=1:=by omega
   by_cases hm:set % 2=1
   ·rw[if_pos ⟨e3,hm⟩] at hrm
    have:t % 2<2:=Nat.mod_lt _ (by decide)
    omega
   ·rw[if_neg (fun h=>hm h.2)] at hrm htm
    omega
structure IsB (own:Nat→Bool) (best:Nat→Int) (set:Nat) (base v:Int):Prop where
 ge:base≤v
 all:∀t,t≠0→t &&& set=t→own t=true→0≤best (Zi set t)→best (Zi set t)+1≤v
 is:v=base∨∃t,t≠0∧t &&& set=t∧own t=true∧0≤best (Zi set t)∧v=best (Zi set t)+1
theorem qvg {own:Nat→Bool} {best:Nat→Int} {set:Nat}:∀(f sub:Nat) (v:Int),sub≤f→sub &&& set=sub→v≤eaF own best set f sub v∧(∀t,t≠0→t &&& set=t→t≤sub→own t=true→0≤best (Zi set t)→best (Zi set t)+1≤eaF own best set f sub v) ∧
  (eaF own best set f sub v=v∨∃t,t≠0∧t &&& set=t∧own t=true∧0≤best (Zi set t)∧eaF own best set f sub v=best (Zi set t)+1):=by
 intro f
 induction f with
 | zero =>
  intro sub v hf _
  have:sub=0:=by omega
  subst this
  exact⟨Int.le_refl _,fun t h1 _ h3=>by omega,.inl rfl⟩
 | succ f ih =>
  intro sub v hf hs
  unfold eaF
  by_cases hz:sub=0
  ·rw[if_pos hz]
   exact⟨Int.le_refl _,fun t h1 _ h3=>by omega,.inl rfl⟩
  ·rw[if_neg hz]
   have ha:(sub-1) &&& set≤sub-1:=Nat.and_le_left
   have hb:((sub-1) &&& set) &&& set=(sub-1) &&& set:=by rw[Nat.and_assoc,Nat.and_self]
   obtain⟨i1,i2,i3⟩:=ih ((sub-1) &&& set) (eaV own best set sub v) (by omega) hb
   have hv:v≤eaV own best set sub v:=by unfold eaV;split<;>omega
   refine⟨by omega,fun t h1 h2 h3 h4 h5=>?_,?_⟩
   ·by_cases e:t=sub
    ·subst e
     have:best (Zi set t)+1≤eaV own best set t v:=by unfold eaV;rw[if_pos ⟨h4,h5⟩];omega
     omega
    ·exact i2 t h1 h2 (qlg sub set t hs h2 (by omega)) h4 h5
   ·rcases i3 with e|h
    ·by_cases hc:own sub=true∧0≤best (Zi set sub)
     ·have e2:eaV own best set sub v=max v (best (Zi set sub)+1):=by unfold eaV;rw[if_pos hc]
      by_cases hm:v≤best (Zi set sub)+1
      ·exact .inr ⟨sub,hz,hs,hc.1,hc.2,by rw[e,e2];omega⟩
      ·exact .inl (by rw[e,e2];omega)
     ·exact .inl (by rw[e];unfold eaV;rw[if_neg hc])
    ·exact .inr h
theorem qhb (skip:Bool) (own:Nat→Bool) (best:Nat→Int) (set:Nat):IsB own best set (if skip=true then best set else -1) (stF skip own best set):=by
 obtain⟨h1,h2,h3⟩:=qvg (own:=own) (best:=best) (set:=set) set set (if skip=true then best set else -1) (Nat.le_refl _) (Nat.and_self _)
 refine⟨h1,fun t t1 t2 t3 t4=>h2 t t1 t2 ?_ t3 t4,h3⟩
 rw[←t2];exact Nat.and_le_right
theorem qjg {w m j:Nat} (h:m<2 ^ w) (hj:m.testBit j=true):j<w:=by
 rcases Nat.lt_or_ge j w with h1|h1
 ·exact h1
 ·rw[Nat.testBit_lt_two_pow (Nat.lt_of_lt_of_le h (Nat.pow_le_pow_right (by decide) h1))] at hj
  cases hj
def qg0 (n:qb) (s:qf) (x:qn) (a:qa):qn:=⟨w64 (x.many+1),w64 (x.credits+a.Credits),x.fine&&q7X n s a⟩
def q2R {α:Type} (p:Nat→Bool):List α→List α
 | []=>[]
 | a::l=>(if p 0=true then[a] else[])++q2R (fun j=>p (j+1)) l
theorem qbq (n:qb) (s:qf) (set:Nat):∀(l:List qa) (k:Nat) (x:qn),wgF n s set l k x=(q2R (fun j=>set.testBit (k+j)) l).foldl (qg0 n s) x
 | [],k,x=>rfl
 | a::l,k,x=>by
  rw[wgF,q2R,qbq n s set l (k+1),List.foldl_append,show(fun j=>set.testBit (k+(j+1)))=fun j=>set.testBit (k+1+j) from funext fun j=>by rw[Nat.add_right_comm,Nat.add_assoc]]
  congr 1
  cases set.testBit (k+0)<;>simp[qg0]
theorem q7u {α:Type}:∀{l:List α} {p q:Nat→Bool},(∀j,j<l.length→p j=q j)→q2R p l=q2R q l
 | [],_,_,_=>rfl
 | a::l,p,q,h=>by
  rw[q2R,q2R,h 0 (by simp),q7u fun j hj=>h (j+1) (by simpa using hj)]
theorem q3R {α:Type}:∀(l:List α) (a:α) (p:Nat→Bool),q2R p (l++[a])=q2R p l++(if p l.length=true then[a] else[])
 | [],a,p=>by simp[q2R]
 | b::l,a,p=>by rw[List.cons_append,q2R,q3R l a,q2R,List.append_assoc];rfl
end Go.Proofs.YtgejdfnidjnjcaaGreat.Vc
namespace Go.Proofs.YtgejdfnidjnjcaaGreat.Vc
open Go.RowKit
set_option linter.unusedVariables false
set_option linter.unusedSimpArgs false
def qeH (n:qb) (s:qf) (l:List qa) (p:Nat→Bool):qn:=(q2R p l).foldl (qg0 n s) ld0
mutual
def q2v (s:qf) (l:List qa) (a:Nat→Int):qb→Nat→Bool×Bool
 | ⟨k,n,m,S,L⟩,nx=>if k=1∨k=2 then((qeH ⟨k,n,m,S,L⟩ s l (fun j=>a j==(nx:Int))).many==0,q9Z ⟨k,n,m,S,L⟩ (qeH ⟨k,n,m,S,L⟩ s l (fun j=>a j==(nx:Int))))
  else((q16 s l a (k==3) L nx).1,!(q16 s l a (k==3) L nx).2.2&&decide (n≤((q16 s l a (k==3) L nx).2.1:Int)))
def q16 (s:qf) (l:List qa) (a:Nat→Int) (al:Bool):List qb→Nat→Bool×Nat×Bool
 | [],_=>(true,0,false)
 | x::L,nx=>((q2v s l a x nx).1&&(q16 s l a al L (nx+lvN x)).1,(if(q2v s l a x nx).2=true then 1 else 0)+(q16 s l a al L (nx+lvN x)).2.1,
   (!(q2v s l a x nx).2&&(!(q2v s l a x nx).1||al))||(q16 s l a al L (nx+lvN x)).2.2)
end
theorem q5e (s:qf) (l:List qa) (a:Nat→Int) (n:qb) (nx:Nat):q2v s l a n nx=if n.Kind=1∨n.Kind=2 then((qeH n s l (fun j=>a j==(nx:Int))).many==0,q9Z n (qeH n s l (fun j=>a j==(nx:Int))))
  else((q16 s l a (n.Kind==3) n.L nx).1,!(q16 s l a (n.Kind==3) n.L nx).2.2&&decide (n.N≤((q16 s l a (n.Kind==3) n.L nx).2.1:Int))):=by
 cases n;rw[q2v]
structure q0H (n:qb):Prop where
 kind:n.Kind=1∨n.Kind=2∨n.Kind=3∨n.Kind=4
 all:n.Kind=3→n.N≤(n.L.length:Int)∧n.L≠[]
 some:n.Kind=4→1≤n.N
theorem qaU (n:qb):n∈ndN n:=by rw[zV];exact List.mem_cons_self ..
theorem q5T (s:qf) (l:List qa) (a b:Nat→Int):∀(n:qb) (nx:Nat),(∀k,k<l.length→∀x:Int,(nx:Int)≤x→x<((nx+lvN n:Nat):Int)→(a k=x↔b k=x))→q2v s l a n nx=q2v s l b n nx:=by
 intro n
 induction n using qb.rec (motive_2:=fun L=>∀(al:Bool) (nx:Nat),(∀k,k<l.length→∀x:Int,(nx:Int)≤x→x<((nx+lvL L:Nat):Int)→(a k=x↔b k=x))→q16 s l a al L nx=q16 s l b al L nx) with
 | mk k n m S L ih =>
  intro nx h
  rw[q5e,q5e]
  rw[lvN] at h
  by_cases hk:k=1∨k=2
  ·rw[if_pos hk] at h
   rw[if_pos hk,if_pos hk]
   have:q2R (fun j=>a j==(nx:Int)) l=q2R (fun j=>b j==(nx:Int)) l:=q7u fun j hj=>by
    have:=h j hj nx (Int.le_refl _) (by omega)
    by_cases e:a j=nx
    ·rw[e,this.1 e]
    ·have e':¬ b j=nx:=fun e2=>e (this.2 e2)
     rw[beq_eq_false_iff_ne.2 e,beq_eq_false_iff_ne.2 e']
   unfold qeH
   rw[this]
  ·rw[if_neg hk] at h
   rw[if_neg hk,if_neg hk]
   simp only
   rw[ih _ nx h]
 | nil=>rw[q16,q16]
 | cons x L h1 h2 =>
  rename_i al nx h
  rw[lvL] at h
  rw[q16,q16,h1 nx (fun k hk y hy hy2=>h k hk y hy (by omega)),h2 al (nx+lvN x) (fun k hk y hy hy2=>h k hk y (by omega) (by omega))]
theorem q9y (n:qb) (s:qf):∀(L:List qa) (x:qn),0≤x.many→x.many+L.length≤9223372036854775807→(L.foldl (qg0 n s) x).many=x.many+L.length
 | [],x,_,_=>by simp
 | a::L,x,h0,h=>by
  rw[List.length_cons] at h
  have hw:w64 (x.many+1)=x.many+1:=zI (by omega) (by omega)
  rw[List.foldl_cons,q9y n s L (qg0 n s x a) (by unfold qg0;simp only;omega) (by unfold qg0;simp only;omega),List.length_cons]
  unfold qg0
  simp only
  omega
theorem q4z {α:Type}:∀(l:List α) (p:Nat→Bool),(q2R p l).length≤l.length
 | [],_=>by simp[q2R]
 | a::l,p=>by
  have:=q4z l (fun j=>p (j+1))
  rw[q2R,List.length_append,List.length_cons]
  split<;>simp<;>omega
theorem q8s {α:Type}:∀(l:List α) (p:Nat→Bool),(q2R p l).length=0↔∀k,k<l.length→p k=false
 | [],_=>by simp[q2R]
 | a::l,p=>by
  have ih:=q8s l (fun j=>p (j+1))
  rw[q2R,List.length_append]
  constructor
  ·intro h k hk
   cases k with
   | zero =>
    by_cases e:p 0=true
    ·rw[if_pos e] at h;simp at h
    ·simpa using e
   | succ k=>exact ih.1 (by omega) k (by simpa using hk)
  ·intro h
   rw[ih.2 fun k hk=>h (k+1) (by simpa using hk),if_neg (by rw[h 0 (by simp)];decide)]
   try rfl
theorem qh8 (n:qb) (s:qf) (l:List qa) (hl:l.length≤62) (p:Nat→Bool):(qeH n s l p).many=((q2R p l).length:Int):=by
 have:=q4z l p
 unfold qeH
 rw[q9y n s _ _ (by decide) (by show(0:Int)+_≤_;omega)]
 show(0:Int)+_=_
 omega
theorem q6h (s:qf) (l:List qa) (hl:l.length≤62) (a:Nat→Int):∀(n:qb) (nx:Nat),(q2v s l a n nx).1=true↔∀k,k<l.length→¬((nx:Int)≤a k∧a k<((nx+lvN n:Nat):Int)):=by
 intro n
 induction n using qb.rec (motive_2:=fun L=>∀(al:Bool) (nx:Nat),(q16 s l a al L nx).1=true↔∀k,k<l.length→¬((nx:Int)≤a k∧a k<((nx+lvL L:Nat):Int))) with
 | mk k n m S L ih =>
  intro nx
  rw[q5e,lvN]
  by_cases hk:k=1∨k=2
  ·rw[if_pos hk,if_pos hk]
   simp only
   rw[qh8 _ _ _ hl,beq_iff_eq,show(((q2R (fun j=>a j==(nx:Int)) l).length:Int)=0)↔(q2R (fun j=>a j==(nx:Int)) l).length=0 from by omega,q8s]
   constructor
   ·intro h k hk h2
    have:=beq_eq_false_iff_ne.1 (h k hk)
    omega
   ·intro h k hk
    have:=h k hk
    exact beq_eq_false_iff_ne.2 (by omega)
  ·rw[if_neg hk,if_neg hk]
   exact ih _ nx
 | nil=>rename_i al nx;rw[q16,lvL];simp only[true_iff];intro k hk;omega
 | cons x L h1 h2 =>
  rename_i al nx
  rw[q16,lvL,Bool.and_eq_true,h1,h2]
  constructor
  ·intro h k hk
   have a1:=h.1 k hk
   have a2:=h.2 k hk
   omega
  ·intro h
   exact⟨fun k hk=>by have:=h k hk;omega,fun k hk=>by have:=h k hk;omega⟩
theorem qdI (s:qf) (l:List qa) (a:Nat→Int):∀(n:qb) (nx:Nat),(∀y∈ndN n,q0H y)→(q2v s l a n nx).2=true→(q2v s l a n nx).1=false:=by
 intro n
 induction n using qb.rec (motive_2:=fun L=>∀(al:Bool) (nx:Nat),(∀y∈ndL L,q0H y)→(q16 s l a al L nx).1=true→(q16 s l a al L nx).2.1=0∧(al=true→(q16 s l a al L nx).2.2=false→L=[])) with
 | mk k n m S L ih =>
  intro nx hf h
  have hn:=hf _ (qaU _)
  rw[q5e] at h ⊢
  by_cases hk:k=1∨k=2
  ·rw[if_pos hk] at h ⊢
   simp only at h ⊢
   generalize qeH ⟨k,n,m,S,L⟩ s l (fun j=>a j==(nx:Int))=x at h
   unfold q9Z at h
   simp only at h
   refine beq_eq_false_iff_ne.2 fun e=>?_
   rw[e] at h
   split at h<;>simp at h
  ·rw[if_neg hk] at h ⊢
   simp only at h ⊢
   refine Bool.eq_false_iff.2 fun e=>?_
   obtain⟨h1,h2⟩:=ih (k==3) nx (fun y hy=>hf y (by rw[ndN];exact List.mem_cons_of_mem _ hy)) e
   rw[Bool.and_eq_true,h1,decide_eq_true_eq] at h
   rcases hn.kind with q|q|q|q
   ·exact hk (.inl q)
   ·exact hk (.inr q)
   ·simp only at q
    subst q
    exact(hn.all rfl).2 (h2 (by decide) (by simpa using h.1))
   ·have:=hn.some q
    simp only at this
    omega
 | nil=>rename_i al nx _ _;rw[q16];exact⟨rfl,fun _ _=>rfl⟩
 | cons x L h1 h2 =>
  rename_i al nx hf h
  rw[q16] at h ⊢
  simp only at h ⊢
  rw[Bool.and_eq_true] at h
  have hx:(q2v s l a x nx).2=false:=by
   refine Bool.eq_false_iff.2 fun e=>?_
   have:=h1 nx (fun y hy=>hf y (by rw[ndL];exact List.mem_append_left _ hy)) e
   rw[this] at h
   exact absurd h.1 (by decide)
  obtain⟨h3,h4⟩:=h2 al (nx+lvN x) (fun y hy=>hf y (by rw[ndL];exact List.mem_append_right _ hy)) h.2
  rw[hx,h3]
  refine⟨by simp,fun ha hw=>?_⟩
  rw[ha] at hw
  simp at hw
end Go.Proofs.YtgejdfnidjnjcaaGreat.Vc
