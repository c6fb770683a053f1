/- Part 5 of a proof. -/
import Derived.Test.YtgejdfnidjnjcaaGreatN4
set_option linter.unusedVariables false
set_option linter.unusedSimpArgs false
set_option linter.defProp false
set_option linter.unusedSectionVars false
set_option linter.unnecessarySimpa false
namespace Go.Proofs.YtgejdfnidjnjcaaGreat.Vc
open Go.RowKit
set_option maxRecDepth 20000
set_option maxHeartbeats 8000000
noncomputable def Zr (rF:(qb×Int)→Option qb) (w3:List qc) (b0:qb) (qv:Int) (QJ:Int) (qC:Int) (zn:Int) (q1w:Int) (zO:Int) (t1:Int):(List qb×Int)→Option ((List qb×Int)⊕(List qb))|(w4,t8)=>if t8<((b0.L.length:Nat):Int) then if t8<3 then if 0<t1 then if 0≤t8∧t8<((b0.L.length:Nat):Int) then Option.bind b0.L[Int.toNat t8]? fun(a2:qb)=>Option.bind (rF (a2,w64 (t1-1))) fun(a3:qb)=>if w4.length+1≤Go.maxLen∧(w4.length+1)*72≤140737488355328 then some (Sum.inl (w4++[a3],w64 (t8+1))) else none else none else some (Sum.inr w4) else some (Sum.inr w4) else some (Sum.inr w4)
theorem qbe (rE:Orc) (rF:(qb×Int)→Option qb) (hF:∀y,rE (.fn 9) 0 (Qs y).1 (Qs y).2=(rF y).bind fun e=>some (ZU e)) (hM:∀g k a G,g≠9→rE (.fn g) k a G=ev g k a G) (hR:∀g asg bd k a G,rE (.rd g asg bd) k a G=evr g asg bd k a G):∀(w3:List qc) (w4:List qb) (zo q1x zP:Int) (zQ:List qc) (zq:List qb) (qv QJ qC zn q1w zO t1 t8:Int) (zw Qj:Nat),zw=w3.length→Qj=w4.length→XL2 rE 9 0 9 ⟨[(1,rI t1),(2,rP 0),(4,rP 1),(5,rP 2),(8,rI t8)],[(0,B.blk 30 [dI zo,dI q1x,dI zP,dL 2 qe zQ,dL 5 qg zq]),(1,B.blk 30 [dI qv,dI QJ,dI qC,C.nils,C.nils]),(2,B.blk 30 [dI zn,dI q1w,dI zO,dO 3 2 zw,dO 4 5 Qj]),(3,bR 51 2 qe w3),(4,bR 30 5 qg w4)],5,75⟩=(qX (Zr rF w3 (qb.mk zo q1x zP zQ zq) qv QJ qC zn q1w zO t1) (w4,t8)).bind (fun(e:List qb)=>some (Go.Exit.exit 2,⟨[(4,rP 0),(5,rP 1)],[(0,B.blk 30 [dI qv,dI QJ,dI qC,C.nils,C.nils]),(1,B.blk 30 [dI zn,dI q1w,dI zO,dO 2 2 w3.length,dO 3 5 e.length]),(2,bR 51 2 qe w3),(3,bR 30 5 qg e)],4,75⟩)):=
 by
 intro w3 w4 zo q1x zP zQ zq qv QJ qC zn q1w zO t1 t8 zw Qj h0 h1
 subst h0 h1
 revert t8;revert w4;exact q6v qDH qEM (fun e=>by exact⟨_,rfl,fun h=>by cases h⟩) fun w4 t8=>by
  have hF':∀(qw Z9 qG:Int) (qK:List qc) (Zf:List qb) (x1:Int),rE (.fn 9) 0 [R.agg [dI qw,dI Z9,dI qG,dL 2 qe qK,dL 5 qg Zf],rI x1] []=(rF ((qb.mk qw Z9 qG qK Zf),x1)).bind (fun e=>some (R.agg [dI e.Kind,dI e.N,dI e.Min,dL 2 qe e.Set,dL 5 qg e.L],[])):=fun qw Z9 qG qK Zf x1=>hF ((qb.mk qw Z9 qG qK Zf),x1)
  have:=cx9;have:=@qv9.eq_1;have:=@Zr.eq_1;exact gA
theorem q8j:∀(rE:Orc) (rF:(qb×Int)→Option qb) (hF:∀y,rE (.fn 9) 0 (Qs y).1 (Qs y).2=(rF y).bind fun e=>some (ZU e)) (hM:∀g k a G,g≠9→rE (.fn g) k a G=ev g k a G) (hR:∀g asg bd k a G,rE (.rd g asg bd) k a G=evr g asg bd k a G),∀  (w3:List qc) (zo q1x zP:Int) (zQ:List qc) (zq:List qb) (qv QJ qC zn q1w zO t1 t8:Int) (zw:Nat),zw=w3.length→XL2 rE 9 0 9 ⟨[(1,rI t1),(2,rP 0),(4,rP 1),(5,rP 2),(8,rI t8)],[(0,B.blk 30 [dI zo,dI q1x,dI zP,dL 2 qe zQ,dL 5 qg zq]),(1,B.blk 30 [dI qv,dI QJ,dI qC,C.nils,C.nils]),(2,B.blk 30 [dI zn,dI q1w,dI zO,dO 3 2 zw,dO 4 5 0]),(3,bR 51 2 qe w3),(4,B.row 30 5 [])],5,75⟩=(qX (Zr rF w3 (qb.mk zo q1x zP zQ zq) qv QJ qC zn q1w zO t1) ([],t8)).bind (fun(e:List qb)=>some (Go.Exit.exit 2,⟨[(4,rP 0),(5,rP 1)],[(0,B.blk 30 [dI qv,dI QJ,dI qC,C.nils,C.nils]),(1,B.blk 30 [dI zn,dI q1w,dI zO,dO 2 2 w3.length,dO 3 5 e.length]),(2,bR 51 2 qe w3),(3,bR 30 5 qg e)],4,75⟩)):=by
 intro rE rF hF hM hR w3 zo q1x zP zQ zq qv QJ qC zn q1w zO t1 t8 zw h0;subst h0;have h:=qbe rE rF hF hM hR w3 [] ((qb.mk zo q1x zP zQ zq)).Kind ((qb.mk zo q1x zP zQ zq)).N ((qb.mk zo q1x zP zQ zq)).Min ((qb.mk zo q1x zP zQ zq)).Set ((qb.mk zo q1x zP zQ zq)).L qv QJ qC zn q1w zO t1 t8 _ _ rfl rfl
 first
  | exact h
  | (simp only[rL,dL,bR,bZ,Nat.reduceAdd] at h;exact h)
noncomputable def q1c (rF:(qb×Int)→Option qb):(qb×Int)→Option qb|(x0,x1)=>Option.bind (qX (Za rF x0 0 0 0 x0.Kind x0.N x0.Min x1) ([],0)) fun(a2:List qc)=>Option.bind (qX (Zr rF a2 x0 0 0 0 x0.Kind x0.N x0.Min x1) ([],0)) fun(a3:List qb)=>some (qb.mk x0.Kind x0.N x0.Min a2 a3)
theorem q8K:q4u 9 0 Qs ZU q1c:=by
 intro rE rF hF hM hR x
 obtain⟨x0,x1⟩:=x
 show q78 rE 9 0 [R.agg [dI x0.Kind,dI x0.N,dI x0.Min,dL 2 qe x0.Set,dL 5 qg x0.L],rI x1] []=_
 have hF':∀(qw Z9 qG:Int) (qK:List qc) (Zf:List qb) (x1:Int),rE (.fn 9) 0 [R.agg [dI qw,dI Z9,dI qG,dL 2 qe qK,dL 5 qg Zf],rI x1] []=(rF ((qb.mk qw Z9 qG qK Zf),x1)).bind (fun e=>some (R.agg [dI e.Kind,dI e.N,dI e.Min,dL 2 qe e.Set,dL 5 qg e.L],[])):=fun qw Z9 qG qK Zf x1=>hF ((qb.mk qw Z9 qG qK Zf),x1)
 rw[q1R bd9 lo9]
 have:=cx9;have:=q6N rE rF hF hM hR;have:=q8j rE rF hF hM hR;have:=@q1c.eq_1;have:=@ZU.eq_1;exact gA
theorem q4U:∀x y,Qs x=Qs y→x=y:=by
 rintro⟨⟨qoU,qoV,qr5,qr6,qr7⟩,a1⟩ ⟨⟨qoW,qoX,qr8,qr9,qra⟩,b1⟩ h
 simp only[Qs,Prod.mk.injEq,List.cons.injEq,R.c.injEq,R.agg.injEq,R.tup.injEq,C.d.injEq,C.own.injEq,C.ptr.injEq,C.eptr.injEq,D.int.injEq,D.bool.injEq,D.str.injEq,D.sl.injEq,B.blk.injEq,B.row.injEq,ZR,q0x,Je,Jm,q01,JX,JY,q1b,JV,q16,q18,ZS,true_and,and_true,List.nil_append] at h
 simp only[h]
theorem qbr:∀x y,ZU x=ZU y→x=y:=by
 rintro⟨a_0,a_1,a_2,a_3,a_4⟩ ⟨b_0,b_1,b_2,b_3,b_4⟩ h
 simp only[ZU,Prod.mk.injEq,List.cons.injEq,R.c.injEq,R.agg.injEq,R.tup.injEq,C.d.injEq,C.own.injEq,C.ptr.injEq,C.eptr.injEq,D.int.injEq,D.bool.injEq,D.str.injEq,D.sl.injEq,B.blk.injEq,B.row.injEq,ZR,q0x,Je,Jm,q01,JX,JY,q1b,JV,q16,q18,ZS,true_and,and_true,List.nil_append] at h
 simp only[h]
noncomputable def ZW:(qb×Int)→Option qb:=q5W 9 0 Qs ZU
theorem q8H (x:(qb×Int)):ZW x=q1c ZW x:=q6D pw9.2.2.2 q4U qbr q8K x
theorem qdN (x0:qb) (x1:Int):ev 9 0 [R.agg [dI x0.Kind,dI x0.N,dI x0.Min,dL 2 qe x0.Set,dL 5 qg x0.L],rI x1] []=(ZW (x0,x1)).bind (fun(e:qb)=>some (R.agg [dI e.Kind,dI e.N,dI e.Min,dL 2 qe e.Set,dL 5 qg e.L],[])):=(q56 pw9.2.2.2 q4U q8K (x0,x1))
theorem qec:∀(qw Z9 qG:Int) (qK:List qc) (Zf:List qb) (x1:Int),ev 9 0 [R.agg [dI qw,dI Z9,dI qG,dL 2 qe qK,dL 5 qg Zf],rI x1] []=(ZW ((qb.mk qw Z9 qG qK Zf),x1)).bind (fun(e:qb)=>some (R.agg [dI e.Kind,dI e.N,dI e.Min,dL 2 qe e.Set,dL 5 qg e.L],[])):=
 fun qw Z9 qG qK Zf x1=>qdN (qb.mk qw Z9 qG qK Zf) x1
theorem qBR:okL 19 qgG:=zb (qh qyh) (by kernel_rfl) (by kernel_rfl)
def qDA:=JA_ @qgG.eq_1 (JA_ @Tryz.f19.eq_1 @qyh)
theorem qwK:lbO 19 7=qm6:=Q9 (qh qyh) rfl
theorem qyc:okL 19 qm6:=zB qBR (List.mem_of_getElem? (i:=0) (by kernel_rfl))
theorem quY:lbO 19 12=qi5:=Q9 (qh qyh) rfl
theorem qvy:okL 19 qi5:=zB qBR (List.mem_of_getElem? (i:=1) (by kernel_rfl))
theorem qIS:okL 13 qoG:=zb (qh qEq) (by kernel_rfl) (by kernel_rfl)
def qIj:=JA_ @qoG.eq_1 (JA_ @Tryz.f13.eq_1 @qEq)
theorem qtj:okL 35 qbC:=zb (qh qqv) (by kernel_rfl) (by kernel_rfl)
def qkH:=JA_ @qbC.eq_1 (JA_ @Tryz.f35.eq_1 @qqv)
theorem qrt:lbO 35 5=qiI:=Q9 (qh qqv) rfl
theorem qru:okL 35 qiI:=zB qtj (List.mem_of_getElem? (i:=0) (by kernel_rfl))
theorem qri:lbO 35 9=qjC:=Q9 (qh qqv) rfl
theorem qs6:okL 35 qjC:=zB qtj (List.mem_of_getElem? (i:=1) (by kernel_rfl))
theorem qnD:lbO 35 16=qf3:=Q9 (qh qqv) rfl
theorem qmN:okL 35 qf3:=zB qtj (List.mem_of_getElem? (i:=2) (by kernel_rfl))
theorem qo0:lbO 35 22=qfd:=Q9 (qh qqv) rfl
theorem qo7:okL 35 qfd:=zB qtj (List.mem_of_getElem? (i:=3) (by kernel_rfl))
theorem qoF:lbO 35 32=qf8:=Q9 (qh qqv) rfl
theorem qmo:okL 35 qf8:=zB qtj (List.mem_of_getElem? (i:=4) (by kernel_rfl))
theorem qB6:okL 65 qgH:=zb (qh qvJ) (by kernel_rfl) (by kernel_rfl)
def qvK:=JA_ @qgH.eq_1 (JA_ @Tryz.f65.eq_1 @qvJ)
theorem qrg:lbO 65 3=qjL:=Q9 (qh qvJ) rfl
theorem qre:okL 65 qjL:=zB qB6 (List.mem_of_getElem? (i:=0) (by kernel_rfl))
theorem qrM:lbO 65 9=qiD:=Q9 (qh qvJ) rfl
theorem qrR:okL 65 qiD:=zB qB6 (List.mem_of_getElem? (i:=1) (by kernel_rfl))
theorem qCg:okL 87 qiA:=zb (qh qyU) (by kernel_rfl) (by kernel_rfl)
def qBz:=JA_ @qiA.eq_1 (JA_ @Tryz.f87.eq_1 @qyU)
theorem qs9:lbO 87 2=qjh:=Q9 (qh qyU) rfl
theorem qrJ:okL 87 qjh:=zB qCg (List.mem_of_getElem? (i:=0) (by kernel_rfl))
noncomputable def Jh (qR:Int) (zh:Int) (zi:Int) (p_L:List qa) (Qk:Int) (set0:Int) (leaf:Int) (k:Int):Unit→Option (Unit⊕Unit)|()=>if k<0 then none else some (Sum.inr ())
theorem q5h:∀(qR zh zi:Int) (p_L:List qa) (Qk set0 leaf k:Int),XL2 evo 87 1 2 ⟨[(0,rP 0),(1,rI set0),(2,rI leaf),(7,rI k)],[(0,B.blk 81 [dI qR,dI zh,dI zi,dL 8 qd p_L,C.nils,dI Qk])],1,32⟩=(qX (Jh qR zh zi p_L Qk set0 leaf k) ()).bind (fun(e:Unit)=>some (Go.Exit.exit 0,⟨[(6,R.any)],[(0,B.blk 81 [dI qR,dI zh,dI zi,dL 8 qd p_L,C.nils,dI Qk])],1,32⟩)):=
 fun qR zh zi p_L Qk set0 leaf k=>by
  have h:=q3T (E:=evo) (f:=87) (k:=1) (st:=fun x:Unit=>(⟨[(0,rP 0),(1,rI set0),(2,rI leaf),(7,rI k)],[(0,B.blk 81 [dI qR,dI zh,dI zi,dL 8 qd p_L,C.nils,dI Qk])],1,32⟩:S)) (ex:=fun(e:Unit)=>(Go.Exit.exit 0,⟨[(6,R.any)],[(0,B.blk 81 [dI qR,dI zh,dI zi,dL 8 qd p_L,C.nils,dI Qk])],1,32⟩)) (step:=(Jh qR zh zi p_L Qk set0 leaf k)) qs9 qrJ (fun e h=>by cases h) (fun x=>by
   have:=qBz;have:=@qjh.eq_1;have:=@Jh.eq_1;exact gA) ()
  exact h
noncomputable def q0r (set0:Int) (leaf:Int) (qR:Int) (zh:Int) (zi:Int) (p_L:List qa) (Qk:Int):Option Unit:=Option.bind (qX (Jh qR zh zi p_L Qk set0 leaf 0) Unit.unit) fun(a:Unit)=>some ()
theorem q6Y:∀(set0 leaf qR zh zi:Int) (p_L:List qa) (Qk:Int),ev 87 1 [rP 0,rI set0,rI leaf] [(0,B.blk 81 [dI qR,dI zh,dI zi,dL 8 qd p_L,C.nils,dI Qk])]=(q0r set0 leaf qR zh zi p_L Qk).bind (fun(e:Unit)=>some (rB Bool.true,[(0,B.blk 81 [dI qR,dI zh,dI zi,dL 8 qd p_L,C.nils,dI Qk])])):=
 fun set0 leaf qR zh zi p_L Qk=>by
  rw[zc qyU qEU.2.2.2 qCg]
  have:=qBz;have:=@q5h;have:=@q0r.eq_1;exact gA
theorem qFQ:okL 16 qiR:=zb (qh qB2) (by kernel_rfl) (by kernel_rfl)
def qFz:=JA_ @qiR.eq_1 (JA_ @Tryz.f16.eq_1 @qB2)
theorem qym:lbO 16 3=qlg:=Q9 (qh qB2) rfl
theorem qzN:okL 16 qlg:=zB qFQ (List.mem_of_getElem? (i:=0) (by kernel_rfl))
noncomputable def q0O (n:qb) (s:qf) (a:qa):(Bool×Int)→Option ((Bool×Int)⊕Bool)|(in0,k)=>if k<((n.Set.length:Nat):Int) then if in0=Bool.true then some (Sum.inl (Bool.true,w64 (k+1))) else if 0≤k∧k<((n.Set.length:Nat):Int) then Option.bind n.Set[Int.toNat k]? fun(a2:qc)=>some (Sum.inl (a2.School==a.Course.School&&ByteArray.toList a2.Code==ByteArray.toList a.Course.Code,w64 (k+1))) else none else some (Sum.inr in0)
theorem q9w:∀(qi n_N qs:Int) (qx:List qc) (n_L:List qb) (qz qO qP zg:Int) (zE:ByteArray) (QV q0e q4f:Int) (q1f:List Int) (ZT:Int) (q6G:List Int) (in0:Bool) (k:Int),XL2 evo 16 0 3 ⟨[(3,rP 0),(4,rP 1),(5,rP 2),(7,rB in0),(8,rI k)],[(0,B.blk 30 [dI qi,dI n_N,dI qs,dL 2 qe qx,dL 5 qg n_L]),(1,B.blk 32 [dI qz,dI qO,dI qP]),(2,B.blk 53 [dI zg,dS zE,dI QV,dI q0e,dI q4f,dL 1 eI q1f,dI ZT,dL 1 eI q6G])],3,48⟩=(qX (q0O (qb.mk qi n_N qs qx n_L) (qf.mk qz qO qP) (qa.mk (qc.mk zg zE) QV q0e q4f q1f ZT q6G)) (in0,k)).bind (fun(e:Bool)=>some (Go.Exit.exit 0,⟨[(3,rP 0),(4,rP 1),(5,rP 2),(7,rB e)],[(0,B.blk 30 [dI qi,dI n_N,dI qs,dL 2 qe qx,dL 5 qg n_L]),(1,B.blk 32 [dI qz,dI qO,dI qP]),(2,B.blk 53 [dI zg,dS zE,dI QV,dI q0e,dI q4f,dL 1 eI q1f,dI ZT,dL 1 eI q6G])],3,48⟩)):=
 fun qi n_N qs qx n_L qz qO qP zg zE QV q0e q4f q1f ZT q6G in0 k=>by
  revert k;revert in0;exact q6v qym qzN (fun e=>by exact⟨_,rfl,fun h=>by cases h⟩) fun in0 k=>by
   have:=qFz;have:=@qlg.eq_1;have:=@q0O.eq_1;exact gA
theorem qJc:okL 39 qmM:=zb (qh qCA) (by kernel_rfl) (by kernel_rfl)
def qJB:=JA_ @qmM.eq_1 (JA_ @Tryz.f39.eq_1 @qCA)
theorem qIL:okL 69 qmw:=zb (qh qDJ) (by kernel_rfl) (by kernel_rfl)
def qIV:=JA_ @qmw.eq_1 (JA_ @Tryz.f69.eq_1 @qDJ)
theorem qHZ:okL 90 qkX:=zb (qh qEo) (by kernel_rfl) (by kernel_rfl)
def qIf:=JA_ @qkX.eq_1 (JA_ @Tryz.f90.eq_1 @qEo)
theorem qBT:okL 101 qhj:=zb (qh qsR) (by kernel_rfl) (by kernel_rfl)
def qCQ:=JA_ @qhj.eq_1 (JA_ @Tryz.f101.eq_1 @qsR)
noncomputable def q4Z (n:Int) (most:Int):Option Bool:=if w64 (0-most)≤n then some (decide (n≤most)) else some Bool.false
noncomputable def Js (n:Int) (most:Int):Bool:=if w64 (0-most)≤n then decide (n≤most) else Bool.false
theorem qbP (n most:Int):q4Z n most=some (Js n most):=by
 unfold q4Z Js
 simp only[QZ]
theorem qd9:∀(n most:Int),ev 101 0 [rI n,rI most] []=some (rB (Js n most),[]):=
 fun n most=>by
  have h:ev 101 0 [rI n,rI most] []=(q4Z n most).bind (fun(e:Bool)=>some (rB e,[])):=by
   rw[zc qsR qz7.2.2.2 qBT]
   have:=qCQ;have:=@q4Z.eq_1;exact gA
  rw[qbP] at h
  exact h
noncomputable def q44 (s:qf):Option Int:=if(min s.Worst s.Best==max s.Worst s.Best)=Bool.true then some 10 else if(!(Js (min s.Worst s.Best) 1000))=Bool.true then some 10 else if(!(Js (max s.Worst s.Best) 1000))=Bool.true then some 10 else if s.Pass<min s.Worst s.Best then some 10 else if max s.Worst s.Best<s.Pass then some 10 else some 0
noncomputable def q0n (s:qf):Int:=if(min s.Worst s.Best==max s.Worst s.Best)=Bool.true then 10 else if(!(Js (min s.Worst s.Best) 1000))=Bool.true then 10 else if(!(Js (max s.Worst s.Best) 1000))=Bool.true then 10 else if s.Pass<min s.Worst s.Best then 10 else if max s.Worst s.Best<s.Pass then 10 else 0
theorem qba (s:qf):q44 s=some (q0n s):=by
 unfold q44 q0n
 simp only[QZ]
theorem qca:∀(qz qO qP:Int),ev 90 0 [R.agg [dI qz,dI qO,dI qP]] []=some (rI (q0n (qf.mk qz qO qP)),[]):=
 fun qz qO qP=>by
  have h:ev 90 0 [R.agg [dI qz,dI qO,dI qP]] []=(q44 (qf.mk qz qO qP)).bind (fun(e:Int)=>some (rI e,[])):=by
   rw[zc qEo qGS.2.2.2 qHZ]
   have:=qIf;have:=@qd9;have:=@q44.eq_1;exact gA
  rw[qba] at h
  exact h
noncomputable def q49 (s:qf) (g:Int):Option Bool:=if(q0n s==0)=Bool.true then if min s.Worst s.Best≤g then some (decide (g≤max s.Worst s.Best)) else some Bool.false else some Bool.false
noncomputable def q0P (s:qf) (g:Int):Bool:=if(q0n s==0)=Bool.true then if min s.Worst s.Best≤g then decide (g≤max s.Worst s.Best) else Bool.false else Bool.false
theorem qbp (s:qf) (g:Int):q49 s g=some (q0P s g):=by
 unfold q49 q0P
 simp only[QZ]
theorem qc6:∀(qz qO qP g:Int),ev 69 0 [R.agg [dI qz,dI qO,dI qP],rI g] []=some (rB (q0P (qf.mk qz qO qP) g),[]):=
 fun qz qO qP g=>by
  have h:ev 69 0 [R.agg [dI qz,dI qO,dI qP],rI g] []=(q49 (qf.mk qz qO qP) g).bind (fun(e:Bool)=>some (rB e,[])):=by
   rw[zc qDJ qFV.2.2.2 qIL]
   have:=qIV;have:=@qca;have:=@q49.eq_1;exact gA
  rw[qbp] at h
  exact h
noncomputable def q2W (s:qf) (g:Int) (least:Int):Option Bool:=if(!(q0P s g))=Bool.true then some Bool.false else if s.Worst<s.Best then some (decide (least≤g)) else some (decide (g≤least))
noncomputable def Jj (s:qf) (g:Int) (least:Int):Bool:=if(!(q0P s g))=Bool.true then Bool.false else if s.Worst<s.Best then decide (least≤g) else decide (g≤least)
theorem q8Q (s:qf) (g least:Int):q2W s g least=some (Jj s g least):=by
 unfold q2W Jj
 simp only[QZ]
theorem qaf:∀(qz qO qP g least:Int),ev 39 0 [R.agg [dI qz,dI qO,dI qP],rI g,rI least] []=some (rB (Jj (qf.mk qz qO qP) g least),[]):=
 fun qz qO qP g least=>by
  have h:ev 39 0 [R.agg [dI qz,dI qO,dI qP],rI g,rI least] []=(q2W (qf.mk qz qO qP) g least).bind (fun(e:Bool)=>some (rB e,[])):=by
   rw[zc qCA qFW.2.2.2 qJc]
   have:=qJB;have:=@qc6;have:=@q2W.eq_1;exact gA
  rw[q8Q] at h
  exact h
noncomputable def q1M (n:qb) (s:qf) (a:qa):Option Bool:=Option.bind (qX (q0O n s a) (Bool.false,0)) fun(a2:Bool)=>if(n.Kind==1)=Bool.true then if a2=Bool.true then some (Jj s a.Grade n.Min) else some Bool.false else if(n.Kind==2)=Bool.true then if a2=Bool.true then some (Jj s a.Grade n.Min) else some Bool.false else some Bool.false
theorem q4q:∀(qi n_N qs:Int) (qx:List qc) (n_L:List qb) (qz qO qP zg:Int) (zE:ByteArray) (QV q0e q4f:Int) (q1f:List Int) (ZT:Int) (q6G:List Int),ev 16 0 [R.agg [dI qi,dI n_N,dI qs,dL 2 qe qx,dL 5 qg n_L],R.agg [dI qz,dI qO,dI qP],R.agg [dI zg,dS zE,dI QV,dI q0e,dI q4f,dL 1 eI q1f,dI ZT,dL 1 eI q6G]] []=(q1M (qb.mk qi n_N qs qx n_L) (qf.mk qz qO qP) (qa.mk (qc.mk zg zE) QV q0e q4f q1f ZT q6G)).bind (fun(e:Bool)=>some (rB e,[])):=
 fun qi n_N qs qx n_L qz qO qP zg zE QV q0e q4f q1f ZT q6G=>by
  rw[zc qB2 qH7.2.2.2 qFQ]
  have:=qFz;have:=@q9w;have:=@qaf;have:=@q1M.eq_1;exact gA
noncomputable def zF (w2:List Bool) (qm:Int) (qq:Int) (qr:Int) (zq:List qa) (qD:Int) (b1:qb) (t6:Int):(Int×Int×Bool×Int)→Option ((Int×Int×Bool×Int)⊕(Int×Int×Bool))|(t7,t8,t9,t10)=>if t10<((zq.length:Nat):Int) then if t9=Bool.true then if 0≤t10 then if(JH Go.BinOp.and Go.IntKind.i64 (Int.fdiv t6 (2 ^ min (Int.toNat t10) (Go.IntKind.bits Go.IntKind.i64))) 1==1)=Bool.true then if 0≤t10∧t10<((zq.length:Nat):Int) then Option.bind zq[Int.toNat t10]? fun(a:qa)=>if 0≤t10∧t10<((zq.length:Nat):Int) then Option.bind zq[Int.toNat t10]? fun(a2:qa)=>Option.bind (q1M b1 (qf.mk qm qq qr) a2) fun(a3:Bool)=>some (Sum.inl (w64 (t7+1),w64 (t8+a.Credits),a3,w64 (t10+1))) else none else none else some (Sum.inl (t7,t8,t9,w64 (t10+1))) else none else some (Sum.inr (t7,t8,t9)) else some (Sum.inr (t7,t8,t9))
theorem q5l:∀(w2:List Bool) (qm qq qr:Int) (zq:List qa) (qD qv QJ qC:Int) (zf:List qc) (q06:List qb) (t6 t7 t8:Int) (t9:Bool) (t10:Int) (Zs:Nat),Zs=w2.length→XL2 evo 65 1 9 ⟨[(0,rP 0),(3,rP 1),(5,rO 2 1 Zs),(6,rI t6),(7,rI t7),(8,rI t8),(9,rB t9),(10,rI t10)],[(0,B.blk 81 [dI qm,dI qq,dI qr,dL 8 qd zq,C.nils,dI qD]),(1,B.blk 30 [dI qv,dI QJ,dI qC,dL 2 qe zf,dL 5 qg q06]),(2,bR 4 1 eB w2)],3,102⟩=(qX (zF w2 qm qq qr zq qD (qb.mk qv QJ qC zf q06) t6) (t7,t8,t9,t10)).bind (fun(e:Int×Int×Bool)=>some (Go.Exit.exit 2,⟨[(0,rP 0),(3,rP 1),(5,rO 2 1 w2.length),(6,rI t6),(7,rI e.1),(8,rI e.2.1),(9,rB e.2.2)],[(0,B.blk 81 [dI qm,dI qq,dI qr,dL 8 qd zq,C.nils,dI qD]),(1,B.blk 30 [dI qv,dI QJ,dI qC,dL 2 qe zf,dL 5 qg q06]),(2,bR 4 1 eB w2)],3,102⟩)):=
 by
 intro w2 qm qq qr zq qD qv QJ qC zf q06 t6 t7 t8 t9 t10 Zs h0
 subst h0
 revert t10;revert t9;revert t8;revert t7;exact qAK qrM qrR (fun e=>by exact⟨_,rfl,fun h=>by cases h⟩) fun t7 t8 t9 t10=>by
  have:=qvK;have:=@qiD.eq_1;have:=@q4q;have:=@zF.eq_1;exact gA
noncomputable def QS (qm:Int) (qq:Int) (qr:Int) (zq:List qa) (qD:Int) (b1:qb):(List Bool×Int)→Option ((List Bool×Int)⊕(List Bool))|(w2,t6)=>if t6<((w2.length:Nat):Int) then Option.bind (q0r t6 qD qm qq qr zq qD) fun(a:Unit)=>Option.bind (qX (zF w2 qm qq qr zq qD b1 t6) (0,(0,(Bool.true,0)))) fun(a2:Prod Int (Prod Int Bool))=>if(b1.Kind==1)=Bool.true then if a2.2.2=Bool.true then if 0≤t6∧t6<((w2.length:Nat):Int) then if Int.toNat t6+1≤w2.length then some (Sum.inl (List.set w2 (Int.toNat t6) (a2.1==1),w64 (t6+1))) else none else none else if 0≤t6∧t6<((w2.length:Nat):Int) then if Int.toNat t6+1≤w2.length then some (Sum.inl (List.set w2 (Int.toNat t6) Bool.false,w64 (t6+1))) else none else none else if a2.2.2=Bool.true then if 0≤t6∧t6<((w2.length:Nat):Int) then if Int.toNat t6+1≤w2.length then some (Sum.inl (List.set w2 (Int.toNat t6) (decide (b1.N≤a2.2.1)),w64 (t6+1))) else none else none else if 0≤t6∧t6<((w2.length:Nat):Int) then if Int.toNat t6+1≤w2.length then some (Sum.inl (List.set w2 (Int.toNat t6) Bool.false,w64 (t6+1))) else none else none else some (Sum.inr w2)
theorem q5g:∀(w2:List Bool) (qm qq qr:Int) (zq:List qa) (qD qv QJ qC:Int) (zf:List qc) (q06:List qb) (t6:Int) (Zs:Nat),Zs=w2.length→XL2 evo 65 1 3 ⟨[(0,rP 0),(3,rP 1),(5,rO 2 1 Zs),(6,rI t6)],[(0,B.blk 81 [dI qm,dI qq,dI qr,dL 8 qd zq,C.nils,dI qD]),(1,B.blk 30 [dI qv,dI QJ,dI qC,dL 2 qe zf,dL 5 qg q06]),(2,bR 4 1 eB w2)],3,102⟩=(qX (QS qm qq qr zq qD (qb.mk qv QJ qC zf q06)) (w2,t6)).bind (fun(e:List Bool)=>some (Go.Exit.exit 0,⟨[(0,rP 0),(5,rO 1 1 e.length)],[(0,B.blk 81 [dI qm,dI qq,dI qr,dL 8 qd zq,C.nils,dI qD]),(1,bR 4 1 eB e)],2,102⟩)):=
 by
 intro w2 qm qq qr zq qD qv QJ qC zf q06 t6 Zs h0
 subst h0
 revert t6;revert w2;exact q6v qrg qre (fun e=>by exact⟨_,rfl,fun h=>by cases h⟩) fun w2 t6=>by
  have:=qvK;have:=@qjL.eq_1;have:=@q6Y;have:=@q5l;have:=@QS.eq_1;exact gA
noncomputable def Ji (x1:qb) (qF:Int) (qZ:Int) (z5:Int) (L0:List qa) (Leaf:Int):Option (List Bool×Int):=if 0≤((L0.length:Nat):Int) then if 0≤w64 (1*2 ^ min L0.length (Go.IntKind.bits Go.IntKind.i64))∧1*w64 (1*2 ^ min L0.length (Go.IntKind.bits Go.IntKind.i64))≤281474976710656∧w64 (1*2 ^ min L0.length (Go.IntKind.bits Go.IntKind.i64))≤9223372036854775807 then Option.bind (qX (QS qF qZ z5 L0 Leaf x1) (List.replicate (Int.toNat (w64 (1*2 ^ min L0.length (Go.IntKind.bits Go.IntKind.i64)))) Bool.false,1)) fun(a:List Bool)=>some (a,w64 (Leaf+1)) else none else none
theorem q6K:∀(qI q03 zd:Int) (ze:List qc) (JB:List qb) (qF qZ z5:Int) (L0:List qa) (Leaf:Int),ev 65 1 [rP 0,R.agg [dI qI,dI q03,dI zd,dL 2 qe ze,dL 5 qg JB]] [(0,B.blk 81 [dI qF,dI qZ,dI z5,dL 8 qd L0,C.nils,dI Leaf])]=(Ji (qb.mk qI q03 zd ze JB) qF qZ z5 L0 Leaf).bind (fun(e:List Bool×Int)=>some (rL 1 eB e.1,[(0,B.blk 81 [dI qF,dI qZ,dI z5,dL 8 qd L0,C.nils,dI e.2])])):=
 fun qI q03 zd ze JB qF qZ z5 L0 Leaf=>by
  rw[zc qvJ qDB.2.2.2 qB6]
  have:=qvK;have:=@q5g;have:=@Ji.eq_1;exact gA
noncomputable def zu (x:(qb×Int×Int×Int×List qa×Int)):List R×List (Nat×B):=([R.c (C.ptr 0 0),R.agg [C.d (D.int .i64 x.1.Kind),C.d (D.int .i64 x.1.N),C.d (D.int .i64 x.1.Min),C.d (D.sl 2 x.1.Set.length (x.1.Set.flatMap qe)),C.d (D.sl 5 x.1.L.length (x.1.L.flatMap qg))]],[(0,B.blk 81 [C.d (D.int .i64 x.2.1),C.d (D.int .i64 x.2.2.1),C.d (D.int .i64 x.2.2.2.1),C.d (D.sl 8 x.2.2.2.2.1.length (x.2.2.2.2.1.flatMap qd)),C.nils,C.d (D.int .i64 x.2.2.2.2.2)])])
noncomputable def Q0:(List Bool×Int×Int×Int×List qa×Int)→R×List (Nat×B):=fun(e:List Bool×Int×Int×Int×List qa×Int)=>(R.c (C.d (D.sl 1 e.1.length (e.1.flatMap eB))),[(0,B.blk 81 [C.d (D.int .i64 e.2.1),C.d (D.int .i64 e.2.2.1),C.d (D.int .i64 e.2.2.2.1),C.d (D.sl 8 e.2.2.2.2.1.length (e.2.2.2.2.1.flatMap qd)),C.nils,C.d (D.int .i64 e.2.2.2.2.2)])])
noncomputable def QR (rF:(qb×Int×Int×Int×List qa×Int)→Option (List Bool×Int×Int×Int×List qa×Int)) (qm:Int) (qq:Int) (qr:Int) (zq:List qa) (qD:Int) (b1:qb):(List Int×Int)→Option ((List Int×Int)⊕(List Int))|(w2,t6)=>if t6<((w2.length:Nat):Int) then if 0≤t6∧t6<((w2.length:Nat):Int) then if Int.toNat t6+1≤w2.length then some (Sum.inl (List.set w2 (Int.toNat t6) (-1),w64 (t6+1))) else none else none else some (Sum.inr w2)
theorem q5n (rE:Orc) (rF:(qb×Int×Int×Int×List qa×Int)→Option (List Bool×Int×Int×Int×List qa×Int)) (hF:∀y,rE (.fn 35) 1 (zu y).1 (zu y).2=(rF y).bind fun e=>some (Q0 e)) (hM:∀g k a G,g≠35→rE (.fn g) k a G=ev g k a G) (hR:∀g asg bd k a G,rE (.rd g asg bd) k a G=evr g asg bd k a G):∀(w2:List Int) (qm qq qr:Int) (zq:List qa) (qD qv QJ qC:Int) (zf:List qc) (q06:List qb) (t6:Int) (Zs:Nat),Zs=w2.length→XL2 rE 35 1 5 ⟨[(0,rP 0),(3,rP 1),(5,rO 2 1 Zs),(6,rI t6)],[(0,B.blk 81 [dI qm,dI qq,dI qr,dL 8 qd zq,C.nils,dI qD]),(1,B.blk 30 [dI qv,dI QJ,dI qC,dL 2 qe zf,dL 5 qg q06]),(2,bR 3 1 eI w2)],3,158⟩=(qX (QR rF qm qq qr zq qD (qb.mk qv QJ qC zf q06)) (w2,t6)).bind (fun(e:List Int)=>some (Go.Exit.exit 0,⟨[(0,rP 0),(3,rP 1),(5,rO 2 1 e.length)],[(0,B.blk 81 [dI qm,dI qq,dI qr,dL 8 qd zq,C.nils,dI qD]),(1,B.blk 30 [dI qv,dI QJ,dI qC,dL 2 qe zf,dL 5 qg q06]),(2,bR 3 1 eI e)],3,158⟩)):=
 by
 intro w2 qm qq qr zq qD qv QJ qC zf q06 t6 Zs h0
 subst h0
 revert t6;revert w2;exact q6v qrt qru (fun e=>by exact⟨_,rfl,fun h=>by cases h⟩) fun w2 t6=>by
  have hF':∀(qI q03 zd:Int) (ze:List qc) (JB:List qb) (qF qZ z5:Int) (L0:List qa) (Leaf:Int),rE (.fn 35) 1 [rP 0,R.agg [dI qI,dI q03,dI zd,dL 2 qe ze,dL 5 qg JB]] [(0,B.blk 81 [dI qF,dI qZ,dI z5,dL 8 qd L0,C.nils,dI Leaf])]=(rF ((qb.mk qI q03 zd ze JB),qF,qZ,z5,L0,Leaf)).bind (fun e=>some (rL 1 eB e.1,[(0,B.blk 81 [dI e.2.1,dI e.2.2.1,dI e.2.2.2.1,dL 8 qd e.2.2.2.2.1,C.nils,dI e.2.2.2.2.2])])):=fun qI q03 zd ze JB qF qZ z5 L0 Leaf=>hF ((qb.mk qI q03 zd ze JB),qF,qZ,z5,L0,Leaf)
  have:=qkH;have:=@qiI.eq_1;have:=@QR.eq_1;exact gA
theorem qDr:okL 66 qjO:=zb (qh qvY) (by kernel_rfl) (by kernel_rfl)
def qBj:=JA_ @qjO.eq_1 (JA_ @Tryz.f66.eq_1 @qvY)
theorem qrP:lbO 66 2=qjs:=Q9 (qh qvY) rfl
theorem qry:okL 66 qjs:=zB qDr (List.mem_of_getElem? (i:=0) (by kernel_rfl))
noncomputable def ZZ (qR:Int) (zh:Int) (zi:Int) (p_L:List qa) (Qk:Int) (from0:Int) (to:Int) (k:Int):Unit→Option (Unit⊕Unit)|()=>if k<0 then none else some (Sum.inr ())
theorem q4R:∀(qR zh zi:Int) (p_L:List qa) (Qk from0 to k:Int),XL2 evo 66 1 2 ⟨[(0,rP 0),(1,rI from0),(2,rI to),(7,rI k)],[(0,B.blk 81 [dI qR,dI zh,dI zi,dL 8 qd p_L,C.nils,dI Qk])],1,37⟩=(qX (ZZ qR zh zi p_L Qk from0 to k) ()).bind (fun(e:Unit)=>some (Go.Exit.exit 0,⟨[(6,R.any)],[(0,B.blk 81 [dI qR,dI zh,dI zi,dL 8 qd p_L,C.nils,dI Qk])],1,37⟩)):=
 fun qR zh zi p_L Qk from0 to k=>by
  have h:=q3T (E:=evo) (f:=66) (k:=1) (st:=fun x:Unit=>(⟨[(0,rP 0),(1,rI from0),(2,rI to),(7,rI k)],[(0,B.blk 81 [dI qR,dI zh,dI zi,dL 8 qd p_L,C.nils,dI Qk])],1,37⟩:S)) (ex:=fun(e:Unit)=>(Go.Exit.exit 0,⟨[(6,R.any)],[(0,B.blk 81 [dI qR,dI zh,dI zi,dL 8 qd p_L,C.nils,dI Qk])],1,37⟩)) (step:=(ZZ qR zh zi p_L Qk from0 to k)) qrP qry (fun e h=>by cases h) (fun x=>by
   have:=qBj;have:=@qjs.eq_1;have:=@ZZ.eq_1;exact gA) ()
  exact h
noncomputable def q0a (from0:Int) (to:Int) (qR:Int) (zh:Int) (zi:Int) (p_L:List qa) (Qk:Int):Option Unit:=Option.bind (qX (ZZ qR zh zi p_L Qk from0 to 0) Unit.unit) fun(a:Unit)=>some ()
theorem q63:∀(from0 to qR zh zi:Int) (p_L:List qa) (Qk:Int),ev 66 1 [rP 0,rI from0,rI to] [(0,B.blk 81 [dI qR,dI zh,dI zi,dL 8 qd p_L,C.nils,dI Qk])]=(q0a from0 to qR zh zi p_L Qk).bind (fun(e:Unit)=>some (rB Bool.false,[(0,B.blk 81 [dI qR,dI zh,dI zi,dL 8 qd p_L,C.nils,dI Qk])])):=
 fun from0 to qR zh zi p_L Qk=>by
  rw[zc qvY qEa.2.2.2 qDr]
  have:=qBj;have:=@q4R;have:=@q0a.eq_1;exact gA
noncomputable def zS (rF:(qb×Int×Int×Int×List qa×Int)→Option (List Bool×Int×Int×Int×List qa×Int)) (w2:List Int) (qm:Int) (qq:Int) (qr:Int) (zq:List qa) (qD:Int) (b1:qb) (t7:Int) (t9:List Bool) (t10:Bool) (t12:Int):(List Int×Int)→Option ((List Int×Int)⊕(List Int))|(w3,t13)=>if 0<t13 then if 0≤t13∧t13<((t9.length:Nat):Int) then Option.bind t9[Int.toNat t13]? fun(a2:Bool)=>if a2=Bool.true then if 0≤w64 (t12-t13)∧w64 (t12-t13)<((w2.length:Nat):Int) then Option.bind w2[Int.toNat (w64 (t12-t13))]? fun(a3:Int)=>if 0≤a3 then if 0≤t12∧t12<((w3.length:Nat):Int) then Option.bind w3[Int.toNat t12]? fun(a4:Int)=>if 0≤w64 (t12-t13)∧w64 (t12-t13)<((w2.length:Nat):Int) then Option.bind w2[Int.toNat (w64 (t12-t13))]? fun(a5:Int)=>if 0≤t12∧t12<((w3.length:Nat):Int) then if Int.toNat t12+1≤w3.length then some (Sum.inl (List.set w3 (Int.toNat t12) (max a4 (w64 (a5+1))),JH Go.BinOp.and Go.IntKind.i64 (w64 (t13-1)) t12)) else none else none else none else none else some (Sum.inl (w3,JH Go.BinOp.and Go.IntKind.i64 (w64 (t13-1)) t12)) else none else some (Sum.inl (w3,JH Go.BinOp.and Go.IntKind.i64 (w64 (t13-1)) t12)) else none else some (Sum.inr w3)
theorem q5z (rE:Orc) (rF:(qb×Int×Int×Int×List qa×Int)→Option (List Bool×Int×Int×Int×List qa×Int)) (hF:∀y,rE (.fn 35) 1 (zu y).1 (zu y).2=(rF y).bind fun e=>some (Q0 e)) (hM:∀g k a G,g≠35→rE (.fn g) k a G=ev g k a G) (hR:∀g asg bd k a G,rE (.rd g asg bd) k a G=evr g asg bd k a G):∀(w2 w3:List Int) (qm qq qr:Int) (zq:List qa) (qD qv QJ qC:Int) (zf:List qc) (q06:List qb) (t7:Int) (t9:List Bool) (t10:Bool) (t12 t13:Int) (Zs zw:Nat),Zs=w2.length→zw=w3.length→XL2 rE 35 1 22 ⟨[(0,rP 0),(3,rP 1),(5,rO 2 1 Zs),(7,rI t7),(9,rL 1 eB t9),(10,rB t10),(11,rO 3 1 zw),(12,rI t12),(13,rI t13)],[(0,B.blk 81 [dI qm,dI qq,dI qr,dL 8 qd zq,C.nils,dI qD]),(1,B.blk 30 [dI qv,dI QJ,dI qC,dL 2 qe zf,dL 5 qg q06]),(2,bR 3 1 eI w2),(3,bR 3 1 eI w3)],4,158⟩=(qX (zS rF w2 qm qq qr zq qD (qb.mk qv QJ qC zf q06) t7 t9 t10 t12) (w3,t13)).bind (fun(e:List Int)=>some (Go.Exit.exit 6,⟨[(0,rP 0),(3,rP 1),(5,rO 2 1 w2.length),(7,rI t7),(9,rL 1 eB t9),(10,rB t10),(11,rO 3 1 e.length),(12,rI t12)],[(0,B.blk 81 [dI qm,dI qq,dI qr,dL 8 qd zq,C.nils,dI qD]),(1,B.blk 30 [dI qv,dI QJ,dI qC,dL 2 qe zf,dL 5 qg q06]),(2,bR 3 1 eI w2),(3,bR 3 1 eI e)],4,158⟩)):=
 by
 intro w2 w3 qm qq qr zq qD qv QJ qC zf q06 t7 t9 t10 t12 t13 Zs zw h0 h1
 subst h0 h1
 revert t13;revert w3;exact q6v qo0 qo7 (fun e=>by exact⟨_,rfl,fun h=>by cases h⟩) fun w3 t13=>by
  have hF':∀(qI q03 zd:Int) (ze:List qc) (JB:List qb) (qF qZ z5:Int) (L0:List qa) (Leaf:Int),rE (.fn 35) 1 [rP 0,R.agg [dI qI,dI q03,dI zd,dL 2 qe ze,dL 5 qg JB]] [(0,B.blk 81 [dI qF,dI qZ,dI z5,dL 8 qd L0,C.nils,dI Leaf])]=(rF ((qb.mk qI q03 zd ze JB),qF,qZ,z5,L0,Leaf)).bind (fun e=>some (rL 1 eB e.1,[(0,B.blk 81 [dI e.2.1,dI e.2.2.1,dI e.2.2.2.1,dL 8 qd e.2.2.2.2.1,C.nils,dI e.2.2.2.2.2])])):=fun qI q03 zd ze JB qF qZ z5 L0 Leaf=>hF ((qb.mk qI q03 zd ze JB),qF,qZ,z5,L0,Leaf)
  have:=qkH;have:=@qfd.eq_1;have:=@zS.eq_1;exact gA
noncomputable def Z7 (rF:(qb×Int×Int×Int×List qa×Int)→Option (List Bool×Int×Int×Int×List qa×Int)) (w2:List Int) (qm:Int) (qq:Int) (qr:Int) (zq:List qa) (qD:Int) (b1:qb) (t7:Int) (t9:List Bool) (t10:Bool):(List Int×Int)→Option ((List Int×Int)⊕(List Int))|(w3,t12)=>if t12<((w2.length:Nat):Int) then if 0≤t12∧t12<((w3.length:Nat):Int) then if Int.toNat t12+1≤w3.length then if(b1.Kind==4)=Bool.true then if(!t10)=Bool.true then if 0≤t12∧t12<((w2.length:Nat):Int) then Option.bind w2[Int.toNat t12]? fun(a2:Int)=>if 0≤t12∧t12<((w3.length:Nat):Int) then if Int.toNat t12+1≤w3.length then Option.bind (qX (zS rF w2 qm qq qr zq qD b1 t7 t9 t10 t12) (List.set (List.set w3 (Int.toNat t12) (-1)) (Int.toNat t12) a2,t12)) fun(a3:List Int)=>some (Sum.inl (a3,w64 (t12+1))) else none else none else none else Option.bind (qX (zS rF w2 qm qq qr zq qD b1 t7 t9 t10 t12) (List.set w3 (Int.toNat t12) (-1),t12)) fun(a4:List Int)=>some (Sum.inl (a4,w64 (t12+1))) else Option.bind (qX (zS rF w2 qm qq qr zq qD b1 t7 t9 t10 t12) (List.set w3 (Int.toNat t12) (-1),t12)) fun(a5:List Int)=>some (Sum.inl (a5,w64 (t12+1))) else none else none else some (Sum.inr w3)
theorem q5Q (rE:Orc) (rF:(qb×Int×Int×Int×List qa×Int)→Option (List Bool×Int×Int×Int×List qa×Int)) (hF:∀y,rE (.fn 35) 1 (zu y).1 (zu y).2=(rF y).bind fun e=>some (Q0 e)) (hM:∀g k a G,g≠35→rE (.fn g) k a G=ev g k a G) (hR:∀g asg bd k a G,rE (.rd g asg bd) k a G=evr g asg bd k a G):∀(w2 w3:List Int) (qm qq qr:Int) (zq:List qa) (qD qv QJ qC:Int) (zf:List qc) (q06:List qb) (t7:Int) (t9:List Bool) (t10:Bool) (t12:Int) (Zs zw:Nat),Zs=w2.length→zw=w3.length→XL2 rE 35 1 16 ⟨[(0,rP 0),(3,rP 1),(5,rO 2 1 Zs),(7,rI t7),(9,rL 1 eB t9),(10,rB t10),(11,rO 3 1 zw),(12,rI t12)],[(0,B.blk 81 [dI qm,dI qq,dI qr,dL 8 qd zq,C.nils,dI qD]),(1,B.blk 30 [dI qv,dI QJ,dI qC,dL 2 qe zf,dL 5 qg q06]),(2,bR 3 1 eI w2),(3,bR 3 1 eI w3)],4,158⟩=(qX (Z7 rF w2 qm qq qr zq qD (qb.mk qv QJ qC zf q06) t7 t9 t10) (w3,t12)).bind (fun(e:List Int)=>some (Go.Exit.exit 4,⟨[(0,rP 0),(3,rP 1),(7,rI t7),(11,rO 2 1 e.length)],[(0,B.blk 81 [dI qm,dI qq,dI qr,dL 8 qd zq,C.nils,dI qD]),(1,B.blk 30 [dI qv,dI QJ,dI qC,dL 2 qe zf,dL 5 qg q06]),(2,bR 3 1 eI e)],3,158⟩)):=
 by
 intro w2 w3 qm qq qr zq qD qv QJ qC zf q06 t7 t9 t10 t12 Zs zw h0 h1
 subst h0 h1
 revert t12;revert w3;exact q6v qnD qmN (fun e=>by exact⟨_,rfl,fun h=>by cases h⟩) fun w3 t12=>by
  have hF':∀(qI q03 zd:Int) (ze:List qc) (JB:List qb) (qF qZ z5:Int) (L0:List qa) (Leaf:Int),rE (.fn 35) 1 [rP 0,R.agg [dI qI,dI q03,dI zd,dL 2 qe ze,dL 5 qg JB]] [(0,B.blk 81 [dI qF,dI qZ,dI z5,dL 8 qd L0,C.nils,dI Leaf])]=(rF ((qb.mk qI q03 zd ze JB),qF,qZ,z5,L0,Leaf)).bind (fun e=>some (rL 1 eB e.1,[(0,B.blk 81 [dI e.2.1,dI e.2.2.1,dI e.2.2.2.1,dL 8 qd e.2.2.2.2.1,C.nils,dI e.2.2.2.2.2])])):=fun qI q03 zd ze JB qF qZ z5 L0 Leaf=>hF ((qb.mk qI q03 zd ze JB),qF,qZ,z5,L0,Leaf)
  have:=qkH;have:=@qf3.eq_1;have:=q5z rE rF hF hM hR;have:=@Z7.eq_1;exact gA
noncomputable def QO (rF:(qb×Int×Int×Int×List qa×Int)→Option (List Bool×Int×Int×Int×List qa×Int)) (b1:qb):(List Int×Int×Int×Int×List qa×Int×Int)→Option ((List Int×Int×Int×Int×List qa×Int×Int)⊕(List Int×Int×Int×Int×List qa×Int))|(w2,qm,qq,qr,zq,qD,t7)=>if t7<((b1.L.length:Nat):Int) then if 0≤t7∧t7<((b1.L.length:Nat):Int) then Option.bind b1.L[Int.toNat t7]? fun(a2:qb)=>Option.bind (rF (a2,(qm,(qq,(qr,(zq,qD)))))) fun(a3:Prod (List Bool) (Prod Int (Prod Int (Prod Int (Prod (List qa) Int)))))=>Option.bind (q0a qD a3.2.2.2.2.2 a3.2.1 a3.2.2.1 a3.2.2.2.1 a3.2.2.2.2.1 a3.2.2.2.2.2) fun(a4:Unit)=>if 0≤((w2.length:Nat):Int)∧8*((w2.length:Nat):Int)≤281474976710656∧((w2.length:Nat):Int)≤9223372036854775807 then Option.bind (qX (Z7 rF w2 a3.2.1 a3.2.2.1 a3.2.2.2.1 a3.2.2.2.2.1 a3.2.2.2.2.2 b1 t7 a3.1 Bool.false) (List.replicate w2.length 0,0)) fun(a5:List Int)=>some (Sum.inl (a5,a3.2.1,a3.2.2.1,a3.2.2.2.1,a3.2.2.2.2.1,a3.2.2.2.2.2,w64 (t7+1))) else none else none else some (Sum.inr (w2,qm,qq,qr,zq,qD))
theorem q6h (rE:Orc) (rF:(qb×Int×Int×Int×List qa×Int)→Option (List Bool×Int×Int×Int×List qa×Int)) (hF:∀y,rE (.fn 35) 1 (zu y).1 (zu y).2=(rF y).bind fun e=>some (Q0 e)) (hM:∀g k a G,g≠35→rE (.fn g) k a G=ev g k a G) (hR:∀g asg bd k a G,rE (.rd g asg bd) k a G=evr g asg bd k a G):∀(w2:List Int) (qm qq qr:Int) (zq:List qa) (qD qv QJ qC:Int) (zf:List qc) (q06:List qb) (t7:Int) (Zs:Nat),Zs=w2.length→XL2 rE 35 1 9 ⟨[(0,rP 0),(3,rP 1),(5,rO 2 1 Zs),(7,rI t7)],[(0,B.blk 81 [dI qm,dI qq,dI qr,dL 8 qd zq,C.nils,dI qD]),(1,B.blk 30 [dI qv,dI QJ,dI qC,dL 2 qe zf,dL 5 qg q06]),(2,bR 3 1 eI w2)],3,158⟩=(qX (QO rF (qb.mk qv QJ qC zf q06)) (w2,qm,qq,qr,zq,qD,t7)).bind (fun(e:List Int×Int×Int×Int×List qa×Int)=>some (Go.Exit.exit 2,⟨[(3,rP 1),(5,rO 2 1 e.1.length)],[(0,B.blk 81 [dI e.2.1,dI e.2.2.1,dI e.2.2.2.1,dL 8 qd e.2.2.2.2.1,C.nils,dI e.2.2.2.2.2]),(1,B.blk 30 [dI qv,dI QJ,dI qC,dL 2 qe zf,dL 5 qg q06]),(2,bR 3 1 eI e.1)],3,158⟩)):=
 by
 intro w2 qm qq qr zq qD qv QJ qC zf q06 t7 Zs h0
 subst h0
 revert t7;revert qD;revert zq;revert qr;revert qq;revert qm;revert w2;exact qJf qri qs6 (fun e=>by exact⟨_,rfl,fun h=>by cases h⟩) fun w2 qm qq qr zq qD t7=>by
  have hF':∀(qI q03 zd:Int) (ze:List qc) (JB:List qb) (qF qZ z5:Int) (L0:List qa) (Leaf:Int),rE (.fn 35) 1 [rP 0,R.agg [dI qI,dI q03,dI zd,dL 2 qe ze,dL 5 qg JB]] [(0,B.blk 81 [dI qF,dI qZ,dI z5,dL 8 qd L0,C.nils,dI Leaf])]=(rF ((qb.mk qI q03 zd ze JB),qF,qZ,z5,L0,Leaf)).bind (fun e=>some (rL 1 eB e.1,[(0,B.blk 81 [dI e.2.1,dI e.2.2.1,dI e.2.2.2.1,dL 8 qd e.2.2.2.2.1,C.nils,dI e.2.2.2.2.2])])):=fun qI q03 zd ze JB qF qZ z5 L0 Leaf=>hF ((qb.mk qI q03 zd ze JB),qF,qZ,z5,L0,Leaf)
  have:=qkH;have:=@qjC.eq_1;have:=@q63;have:=q5Q rE rF hF hM hR;have:=@QO.eq_1;exact gA
noncomputable def Qx (rF:(qb×Int×Int×Int×List qa×Int)→Option (List Bool×Int×Int×Int×List qa×Int)) (w1:List Int) (qm:Int) (qq:Int) (qr:Int) (zq:List qa) (qD:Int) (t14:Int):(List Bool×Int)→Option ((List Bool×Int)⊕(List Bool))|(w2,t16)=>if t16<((w1.length:Nat):Int) then if 0≤t16∧t16<((w1.length:Nat):Int) then Option.bind w1[Int.toNat t16]? fun(a2:Int)=>if 0≤t16∧t16<((w2.length:Nat):Int) then if Int.toNat t16+1≤w2.length then some (Sum.inl (List.set w2 (Int.toNat t16) (decide (t14≤a2)),w64 (t16+1))) else none else none else none else some (Sum.inr w2)
theorem q5y (rE:Orc) (rF:(qb×Int×Int×Int×List qa×Int)→Option (List Bool×Int×Int×Int×List qa×Int)) (hF:∀y,rE (.fn 35) 1 (zu y).1 (zu y).2=(rF y).bind fun e=>some (Q0 e)) (hM:∀g k a G,g≠35→rE (.fn g) k a G=ev g k a G) (hR:∀g asg bd k a G,rE (.rd g asg bd) k a G=evr g asg bd k a G):∀(w1:List Int) (w2:List Bool) (qm qq qr:Int) (zq:List qa) (qD t14 t16:Int) (qQ Zs:Nat),qQ=w1.length→Zs=w2.length→XL2 rE 35 1 32 ⟨[(5,rO 1 1 qQ),(14,rI t14),(15,rO 2 1 Zs),(16,rI t16)],[(0,B.blk 81 [dI qm,dI qq,dI qr,dL 8 qd zq,C.nils,dI qD]),(1,bR 3 1 eI w1),(2,bR 4 1 eB w2)],3,158⟩=(qX (Qx rF w1 qm qq qr zq qD t14) (w2,t16)).bind (fun(e:List Bool)=>some (Go.Exit.exit 8,⟨[(15,rO 1 1 e.length)],[(0,B.blk 81 [dI qm,dI qq,dI qr,dL 8 qd zq,C.nils,dI qD]),(1,bR 4 1 eB e)],2,158⟩)):=
 by
 intro w1 w2 qm qq qr zq qD t14 t16 qQ Zs h0 h1
 subst h0 h1
 revert t16;revert w2;exact q6v qoF qmo (fun e=>by exact⟨_,rfl,fun h=>by cases h⟩) fun w2 t16=>by
  have hF':∀(qI q03 zd:Int) (ze:List qc) (JB:List qb) (qF qZ z5:Int) (L0:List qa) (Leaf:Int),rE (.fn 35) 1 [rP 0,R.agg [dI qI,dI q03,dI zd,dL 2 qe ze,dL 5 qg JB]] [(0,B.blk 81 [dI qF,dI qZ,dI z5,dL 8 qd L0,C.nils,dI Leaf])]=(rF ((qb.mk qI q03 zd ze JB),qF,qZ,z5,L0,Leaf)).bind (fun e=>some (rL 1 eB e.1,[(0,B.blk 81 [dI e.2.1,dI e.2.2.1,dI e.2.2.2.1,dL 8 qd e.2.2.2.2.1,C.nils,dI e.2.2.2.2.2])])):=fun qI q03 zd ze JB qF qZ z5 L0 Leaf=>hF ((qb.mk qI q03 zd ze JB),qF,qZ,z5,L0,Leaf)
  have:=qkH;have:=@qf8.eq_1;have:=@Qx.eq_1;exact gA
noncomputable def q0u (rF:(qb×Int×Int×Int×List qa×Int)→Option (List Bool×Int×Int×Int×List qa×Int)):(qb×Int×Int×Int×List qa×Int)→Option (List Bool×Int×Int×Int×List qa×Int)|(x1,qF,qZ,z5,L0,Leaf)=>if(x1.Kind==1)=Bool.true then Option.bind (Ji x1 qF qZ z5 L0 Leaf) fun(e0:Prod (List Bool) Int)=>some (e0.1,qF,qZ,z5,L0,e0.2) else if(x1.Kind==2)=Bool.true then Option.bind (Ji x1 qF qZ z5 L0 Leaf) fun(e02:Prod (List Bool) Int)=>some (e02.1,qF,qZ,z5,L0,e02.2) else if 0≤((L0.length:Nat):Int) then if 0≤w64 (1*2 ^ min L0.length (Go.IntKind.bits Go.IntKind.i64))∧8*w64 (1*2 ^ min L0.length (Go.IntKind.bits Go.IntKind.i64))≤281474976710656∧w64 (1*2 ^ min L0.length (Go.IntKind.bits Go.IntKind.i64))≤9223372036854775807 then Option.bind (qX (QR rF qF qZ z5 L0 Leaf x1) (List.replicate (Int.toNat (w64 (1*2 ^ min L0.length (Go.IntKind.bits Go.IntKind.i64)))) 0,1)) fun(a2:List Int)=>Option.bind (qX (QO rF x1) (a2,(qF,(qZ,(z5,(L0,(Leaf,0))))))) fun(a3:Prod (List Int) (Prod Int (Prod Int (Prod Int (Prod (List qa) Int)))))=>if(x1.Kind==3)=Bool.true then if 0≤((a3.1.length:Nat):Int)∧1*((a3.1.length:Nat):Int)≤281474976710656∧((a3.1.length:Nat):Int)≤9223372036854775807 then Option.bind (qX (Qx rF a3.1 a3.2.1 a3.2.2.1 a3.2.2.2.1 a3.2.2.2.2.1 a3.2.2.2.2.2 ((x1.L.length:Nat):Int)) (List.replicate a3.1.length Bool.false,1)) fun(a4:List Bool)=>some (a4,a3.2.1,a3.2.2.1,a3.2.2.2.1,a3.2.2.2.2.1,a3.2.2.2.2.2) else none else if 0≤((a3.1.length:Nat):Int)∧1*((a3.1.length:Nat):Int)≤281474976710656∧((a3.1.length:Nat):Int)≤9223372036854775807 then Option.bind (qX (Qx rF a3.1 a3.2.1 a3.2.2.1 a3.2.2.2.1 a3.2.2.2.2.1 a3.2.2.2.2.2 x1.N) (List.replicate a3.1.length Bool.false,1)) fun(a5:List Bool)=>some (a5,a3.2.1,a3.2.2.1,a3.2.2.2.1,a3.2.2.2.2.1,a3.2.2.2.2.2) else none else none else none
theorem q41:q4u 35 1 zu Q0 q0u:=by
 intro rE rF hF hM hR x
 obtain⟨x1,qF,qZ,z5,L0,Leaf⟩:=x
 show q78 rE 35 1 [rP 0,R.agg [dI x1.Kind,dI x1.N,dI x1.Min,dL 2 qe x1.Set,dL 5 qg x1.L]] [(0,B.blk 81 [dI qF,dI qZ,dI z5,dL 8 qd L0,C.nils,dI Leaf])]=_
 have hF':∀(qI q03 zd:Int) (ze:List qc) (JB:List qb) (qF qZ z5:Int) (L0:List qa) (Leaf:Int),rE (.fn 35) 1 [rP 0,R.agg [dI qI,dI q03,dI zd,dL 2 qe ze,dL 5 qg JB]] [(0,B.blk 81 [dI qF,dI qZ,dI z5,dL 8 qd L0,C.nils,dI Leaf])]=(rF ((qb.mk qI q03 zd ze JB),qF,qZ,z5,L0,Leaf)).bind (fun e=>some (rL 1 eB e.1,[(0,B.blk 81 [dI e.2.1,dI e.2.2.1,dI e.2.2.2.1,dL 8 qd e.2.2.2.2.1,C.nils,dI e.2.2.2.2.2])])):=fun qI q03 zd ze JB qF qZ z5 L0 Leaf=>hF ((qb.mk qI q03 zd ze JB),qF,qZ,z5,L0,Leaf)
 rw[q1R qqv qtj]
 have:=qkH;have:=@q6K;have:=q5n rE rF hF hM hR;have:=q6h rE rF hF hM hR;have:=q5y rE rF hF hM hR;have:=@q0u.eq_1;have:=@Q0.eq_1;exact gA
theorem q2G:∀x y,zu x=zu y→x=y:=by
 rintro⟨⟨qoU,qoV,qr5,qr6,qr7⟩,a1,a2,a3,a4,a5⟩ ⟨⟨qoW,qoX,qr8,qr9,qra⟩,b1,b2,b3,b4,b5⟩ h
 simp only[zu,Prod.mk.injEq,List.cons.injEq,R.c.injEq,R.agg.injEq,R.tup.injEq,C.d.injEq,C.own.injEq,C.ptr.injEq,C.eptr.injEq,D.int.injEq,D.bool.injEq,D.str.injEq,D.sl.injEq,B.blk.injEq,B.row.injEq,ZR,q0x,Je,Jm,q01,JX,JY,q1b,JV,q16,q18,ZS,true_and,and_true,List.nil_append] at h
 simp only[h]
theorem q64:∀x y,Q0 x=Q0 y→x=y:=by
 rintro⟨a0,a1,a2,a3,a4,a5⟩ ⟨b0,b1,b2,b3,b4,b5⟩ h
 simp only[Q0,Prod.mk.injEq,List.cons.injEq,R.c.injEq,R.agg.injEq,R.tup.injEq,C.d.injEq,C.own.injEq,C.ptr.injEq,C.eptr.injEq,D.int.injEq,D.bool.injEq,D.str.injEq,D.sl.injEq,B.blk.injEq,B.row.injEq,ZR,q0x,Je,Jm,q01,JX,JY,q1b,JV,q16,q18,ZS,true_and,and_true,List.nil_append] at h
 simp only[h]
noncomputable def Qt:(qb×Int×Int×Int×List qa×Int)→Option (List Bool×Int×Int×Int×List qa×Int):=q5W 35 1 zu Q0
theorem q8q (x:(qb×Int×Int×Int×List qa×Int)):Qt x=q0u Qt x:=q6D qzp.2.2.2 q2G q64 q41 x
theorem q7C (x1:qb) (qF qZ z5:Int) (L0:List qa) (Leaf:Int):ev 35 1 [rP 0,R.agg [dI x1.Kind,dI x1.N,dI x1.Min,dL 2 qe x1.Set,dL 5 qg x1.L]] [(0,B.blk 81 [dI qF,dI qZ,dI z5,dL 8 qd L0,C.nils,dI Leaf])]=(Qt (x1,qF,qZ,z5,L0,Leaf)).bind (fun(e:List Bool×Int×Int×Int×List qa×Int)=>some (rL 1 eB e.1,[(0,B.blk 81 [dI e.2.1,dI e.2.2.1,dI e.2.2.2.1,dL 8 qd e.2.2.2.2.1,C.nils,dI e.2.2.2.2.2])])):=(q56 qzp.2.2.2 q2G q41 (x1,qF,qZ,z5,L0,Leaf))
theorem q8z:∀(qI q03 zd:Int) (ze:List qc) (JB:List qb) (qF qZ z5:Int) (L0:List qa) (Leaf:Int),ev 35 1 [rP 0,R.agg [dI qI,dI q03,dI zd,dL 2 qe ze,dL 5 qg JB]] [(0,B.blk 81 [dI qF,dI qZ,dI z5,dL 8 qd L0,C.nils,dI Leaf])]=(Qt ((qb.mk qI q03 zd ze JB),qF,qZ,z5,L0,Leaf)).bind (fun(e:List Bool×Int×Int×Int×List qa×Int)=>some (rL 1 eB e.1,[(0,B.blk 81 [dI e.2.1,dI e.2.2.1,dI e.2.2.2.1,dL 8 qd e.2.2.2.2.1,C.nils,dI e.2.2.2.2.2])])):=
 fun qI q03 zd ze JB qF qZ z5 L0 Leaf=>q7C (qb.mk qI q03 zd ze JB) qF qZ z5 L0 Leaf
noncomputable def q0U (n:qb) (s:qf) (l:List qa):Option (List Bool×Int):=Option.bind (q1U n) fun(a:Int)=>if(a != 0)=Bool.true then some ([],a) else if 10<((l.length:Nat):Int) then some ([],2) else Option.bind (Qt (n,(s.Worst,(s.Best,(s.Pass,(l,0)))))) fun(a2:Prod (List Bool) (Prod Int (Prod Int (Prod Int (Prod (List qa) Int)))))=>some (a2.1,0)
theorem q7i:∀(qi n_N qs:Int) (qx:List qc) (n_L:List qb) (qz qO qP:Int) (l:List qa),ev 13 0 [R.agg [dI qi,dI n_N,dI qs,dL 2 qe qx,dL 5 qg n_L],R.agg [dI qz,dI qO,dI qP],rL 8 qd l] []=(q0U (qb.mk qi n_N qs qx n_L) (qf.mk qz qO qP) l).bind (fun(e:List Bool×Int)=>some (R.tup [rL 1 eB e.1,rI e.2],[])):=
 fun qi n_N qs qx n_L qz qO qP l=>by
  rw[zc qEq qGb.2.2.2 qIS]
  have:=qIj;have:=@q6F;have:=@q8z;have:=@q0U.eq_1;exact gA
theorem qGT:okL 44 qio:=zb (qh qBm) (by kernel_rfl) (by kernel_rfl)
def qEL:=JA_ @qio.eq_1 (JA_ @Tryz.f44.eq_1 @qBm)
theorem qrc:lbO 44 4=qiV:=Q9 (qh qBm) rfl
theorem qs8:okL 44 qiV:=zB qGT (List.mem_of_getElem? (i:=0) (by kernel_rfl))
theorem qFj:okL 29 qjN:=zb (qh qBd) (by kernel_rfl) (by kernel_rfl)
def qH2:=JA_ @qjN.eq_1 (JA_ @Tryz.f29.eq_1 @qBd)
theorem qyB:lbO 29 5=qlv:=Q9 (qh qBd) rfl
theorem qzi:okL 29 qlv:=zB qFj (List.mem_of_getElem? (i:=0) (by kernel_rfl))
noncomputable def Zy (x:qb):List R×List (Nat×B):=([R.agg [C.d (D.int .i64 x.Kind),C.d (D.int .i64 x.N),C.d (D.int .i64 x.Min),C.d (D.sl 2 x.Set.length (x.Set.flatMap qe)),C.d (D.sl 5 x.L.length (x.L.flatMap qg))]],[])
noncomputable def Jy:qb→R×List (Nat×B):=fun(e:qb)=>(R.agg [C.d (D.int .i64 e.Kind),C.d (D.int .i64 e.N),C.d (D.int .i64 e.Min),C.d (D.sl 2 e.Set.length (e.Set.flatMap qe)),C.d (D.sl 5 e.L.length (e.L.flatMap qg))],[])
noncomputable def q0o (rF:qb→Option qb) (w3:List qc) (n:qb) (qv:Int) (QJ:Int) (qC:Int) (q3f:Int) (qdZ:Int) (q4F:Int):(List qb×Int)→Option ((List qb×Int)⊕(List qb))|(w4,i)=>if i<((n.L.length:Nat):Int) then if 0≤i∧i<((n.L.length:Nat):Int) then Option.bind n.L[Int.toNat i]? fun(a2:qb)=>Option.bind (rF a2) fun(a3:qb)=>if w4.length+1≤Go.maxLen∧(w4.length+1)*72≤140737488355328 then some (Sum.inl (w4++[a3],w64 (i+1))) else none else none else some (Sum.inr w4)
theorem q9x (rE:Orc) (rF:qb→Option qb) (hF:∀y,rE (.fn 29) 0 (Zy y).1 (Zy y).2=(rF y).bind fun e=>some (Jy e)) (hM:∀g k a G,g≠29→rE (.fn g) k a G=ev g k a G) (hR:∀g asg bd k a G,rE (.rd g asg bd) k a G=evr g asg bd k a G):∀(w3:List qc) (w4:List qb) (qi n_N qs:Int) (qx:List qc) (n_L:List qb) (qv QJ qC q3f qdZ q4F i:Int) (zw Qj:Nat),zw=w3.length→Qj=w4.length→XL2 rE 29 0 5 ⟨[(1,rP 0),(2,rP 1),(3,rP 2),(4,rI i)],[(0,B.blk 30 [dI qi,dI n_N,dI qs,dL 2 qe qx,dL 5 qg n_L]),(1,B.blk 30 [dI qv,dI QJ,dI qC,C.nils,C.nils]),(2,B.blk 30 [dI q3f,dI qdZ,dI q4F,dO 3 2 zw,dO 4 5 Qj]),(3,bR 51 2 qe w3),(4,bR 30 5 qg w4)],5,31⟩=(qX (q0o rF w3 (qb.mk qi n_N qs qx n_L) qv QJ qC q3f qdZ q4F) (w4,i)).bind (fun(e:List qb)=>some (Go.Exit.exit 0,⟨[(2,rP 0),(3,rP 1)],[(0,B.blk 30 [dI qv,dI QJ,dI qC,C.nils,C.nils]),(1,B.blk 30 [dI q3f,dI qdZ,dI q4F,dO 2 2 w3.length,dO 3 5 e.length]),(2,bR 51 2 qe w3),(3,bR 30 5 qg e)],4,31⟩)):=
 by
 intro w3 w4 qi n_N qs qx n_L qv QJ qC q3f qdZ q4F i zw Qj h0 h1
 subst h0 h1
 revert i;revert w4;exact q6v qyB qzi (fun e=>by exact⟨_,rfl,fun h=>by cases h⟩) fun w4 i=>by
  have hF':∀(qi n_N qs:Int) (qx:List qc) (n_L:List qb),rE (.fn 29) 0 [R.agg [dI qi,dI n_N,dI qs,dL 2 qe qx,dL 5 qg n_L]] []=(rF (qb.mk qi n_N qs qx n_L)).bind (fun e=>some (R.agg [dI e.Kind,dI e.N,dI e.Min,dL 2 qe e.Set,dL 5 qg e.L],[])):=fun qi n_N qs qx n_L=>hF (qb.mk qi n_N qs qx n_L)
  have:=qH2;have:=@qlv.eq_1;have:=@q0o.eq_1;exact gA
theorem q7u:∀(rE:Orc) (rF:qb→Option qb) (hF:∀y,rE (.fn 29) 0 (Zy y).1 (Zy y).2=(rF y).bind fun e=>some (Jy e)) (hM:∀g k a G,g≠29→rE (.fn g) k a G=ev g k a G) (hR:∀g asg bd k a G,rE (.rd g asg bd) k a G=evr g asg bd k a G),∀  (w3:List qc) (qi n_N qs:Int) (qx:List qc) (n_L:List qb) (qv QJ qC q3f qdZ q4F i:Int) (zw:Nat),zw=w3.length→XL2 rE 29 0 5 ⟨[(1,rP 0),(2,rP 1),(3,rP 2),(4,rI i)],[(0,B.blk 30 [dI qi,dI n_N,dI qs,dL 2 qe qx,dL 5 qg n_L]),(1,B.blk 30 [dI qv,dI QJ,dI qC,C.nils,C.nils]),(2,B.blk 30 [dI q3f,dI qdZ,dI q4F,dO 3 2 zw,dO 4 5 0]),(3,bR 51 2 qe w3),(4,B.row 30 5 [])],5,31⟩=(qX (q0o rF w3 (qb.mk qi n_N qs qx n_L) qv QJ qC q3f qdZ q4F) ([],i)).bind (fun(e:List qb)=>some (Go.Exit.exit 0,⟨[(2,rP 0),(3,rP 1)],[(0,B.blk 30 [dI qv,dI QJ,dI qC,C.nils,C.nils]),(1,B.blk 30 [dI q3f,dI qdZ,dI q4F,dO 2 2 w3.length,dO 3 5 e.length]),(2,bR 51 2 qe w3),(3,bR 30 5 qg e)],4,31⟩)):=by
 intro rE rF hF hM hR w3 qi n_N qs qx n_L qv QJ qC q3f qdZ q4F i zw h0;subst h0;have h:=q9x rE rF hF hM hR w3 [] ((qb.mk qi n_N qs qx n_L)).Kind ((qb.mk qi n_N qs qx n_L)).N ((qb.mk qi n_N qs qx n_L)).Min ((qb.mk qi n_N qs qx n_L)).Set ((qb.mk qi n_N qs qx n_L)).L qv QJ qC q3f qdZ q4F i _ _ rfl rfl
 first
  | exact h
  | (simp only[rL,dL,bR,bZ,Nat.reduceAdd] at h;exact h)
noncomputable def q1V (rF:qb→Option qb):qb→Option qb|n=>if n.Set.length≤Go.maxLen∧n.Set.length*24≤140737488355328 then Option.bind (qX (q0o rF n.Set n 0 0 0 n.Kind n.N n.Min) ([],0)) fun(a2:List qb)=>some (qb.mk n.Kind n.N n.Min n.Set a2) else none
theorem q7G:q4u 29 0 Zy Jy q1V:=by
 intro rE rF hF hM hR n
 show q78 rE 29 0 [R.agg [dI n.Kind,dI n.N,dI n.Min,dL 2 qe n.Set,dL 5 qg n.L]] []=_
 have hF':∀(qi n_N qs:Int) (qx:List qc) (n_L:List qb),rE (.fn 29) 0 [R.agg [dI qi,dI n_N,dI qs,dL 2 qe qx,dL 5 qg n_L]] []=(rF (qb.mk qi n_N qs qx n_L)).bind (fun e=>some (R.agg [dI e.Kind,dI e.N,dI e.Min,dL 2 qe e.Set,dL 5 qg e.L],[])):=fun qi n_N qs qx n_L=>hF (qb.mk qi n_N qs qx n_L)
 rw[q1R qBd qFj]
 have:=qH2;have:=q7u rE rF hF hM hR;have:=@q1V.eq_1;have:=@Jy.eq_1;exact gA
theorem q4D:∀x y,Zy x=Zy y→x=y:=by
 rintro⟨a_0,a_1,a_2,a_3,a_4⟩ ⟨b_0,b_1,b_2,b_3,b_4⟩ h
 simp only[Zy,Prod.mk.injEq,List.cons.injEq,R.c.injEq,R.agg.injEq,R.tup.injEq,C.d.injEq,C.own.injEq,C.ptr.injEq,C.eptr.injEq,D.int.injEq,D.bool.injEq,D.str.injEq,D.sl.injEq,B.blk.injEq,B.row.injEq,ZR,q0x,Je,Jm,q01,JX,JY,q1b,JV,q16,q18,ZS,true_and,and_true,List.nil_append] at h
 simp only[h]
theorem q9N:∀x y,Jy x=Jy y→x=y:=by
 rintro⟨a_0,a_1,a_2,a_3,a_4⟩ ⟨b_0,b_1,b_2,b_3,b_4⟩ h
 simp only[Jy,Prod.mk.injEq,List.cons.injEq,R.c.injEq,R.agg.injEq,R.tup.injEq,C.d.injEq,C.own.injEq,C.ptr.injEq,C.eptr.injEq,D.int.injEq,D.bool.injEq,D.str.injEq,D.sl.injEq,B.blk.injEq,B.row.injEq,ZR,q0x,Je,Jm,q01,JX,JY,q1b,JV,q16,q18,ZS,true_and,and_true,List.nil_append] at h
 simp only[h]
noncomputable def q0i:qb→Option qb:=q5W 29 0 Zy Jy
theorem qdz (x:qb):q0i x=q1V q0i x:=q6D qF1.2.2.2 q4D q9N q7G x
theorem qcc (n:qb):ev 29 0 [R.agg [dI n.Kind,dI n.N,dI n.Min,dL 2 qe n.Set,dL 5 qg n.L]] []=(q0i n).bind (fun(e:qb)=>some (R.agg [dI e.Kind,dI e.N,dI e.Min,dL 2 qe e.Set,dL 5 qg e.L],[])):=(q56 qF1.2.2.2 q4D q7G n)
theorem q7j:∀(qi n_N qs:Int) (qx:List qc) (n_L:List qb),ev 29 0 [R.agg [dI qi,dI n_N,dI qs,dL 2 qe qx,dL 5 qg n_L]] []=(q0i (qb.mk qi n_N qs qx n_L)).bind (fun(e:qb)=>some (R.agg [dI e.Kind,dI e.N,dI e.Min,dL 2 qe e.Set,dL 5 qg e.L],[])):=
 fun qi n_N qs qx n_L=>qcc (qb.mk qi n_N qs qx n_L)
noncomputable def q1T (nodes:List ql):(List qb×Int)→Option ((List qb×Int)⊕(List qb))|(out,i)=>if i<((nodes.length:Nat):Int) then if 0≤i∧i<((nodes.length:Nat):Int) then Option.bind nodes[Int.toNat i]? fun(a:ql)=>if q0h a.Need=Bool.true then if 0≤i∧i<((nodes.length:Nat):Int) then Option.bind nodes[Int.toNat i]? fun(a2:ql)=>Option.bind (q0i a2.Need) fun(a3:qb)=>if out.length+1≤Go.maxLen∧(out.length+1)*72≤140737488355328 then some (Sum.inl (out++[a3],w64 (i+1))) else none else none else some (Sum.inl (out,w64 (i+1))) else none else some (Sum.inr out)
theorem q8u:∀(out:List qb) (nodes:List ql) (i:Int) (QE:Nat),QE=out.length→XL2 evo 44 0 4 ⟨[(3,rL 6 qE nodes),(5,rO 0 5 QE),(6,rI i)],[(0,bR 30 5 qg out)],1,34⟩=(qX (q1T nodes) (out,i)).bind (fun(e:List qb)=>some (Go.Exit.exit 0,⟨[(5,rO 0 5 e.length)],[(0,bR 30 5 qg e)],1,34⟩)):=
 by
 intro out nodes i QE h0
 subst h0
 revert i;revert out;exact q6v qrc qs8 (fun e=>by exact⟨_,rfl,fun h=>by cases h⟩) fun out i=>by
  have:=qEL;have:=@qiV.eq_1;have:=@q4y;have:=@q7j;have:=@q1T.eq_1;exact gA
theorem q69:∀  (i:Int),XL2 evo 44 0 4 ⟨[(3,R.c (C.d (D.sl 6 0 []))),(5,rO 0 5 0),(6,rI i)],[(0,B.row 30 5 [])],1,34⟩=(qX (q1T []) ([],i)).bind (fun(e:List qb)=>some (Go.Exit.exit 0,⟨[(5,rO 0 5 e.length)],[(0,bR 30 5 qg e)],1,34⟩)):=by
 intro i;have h:=q8u [] [] i _ rfl
 first
  | exact h
  | (simp only[rL,dL,bR,bZ,Nat.reduceAdd] at h;exact h)
noncomputable def Z5 (nodes:List ql):(List qb×Int)→Option ((List qb×Int)⊕(List qb))|(out,i)=>if i<((nodes.length:Nat):Int) then if 0≤i∧i<((nodes.length:Nat):Int) then Option.bind nodes[Int.toNat i]? fun(a:ql)=>if q0h a.Need=Bool.true then if 0≤i∧i<((nodes.length:Nat):Int) then Option.bind nodes[Int.toNat i]? fun(a2:ql)=>Option.bind (q0i a2.Need) fun(a3:qb)=>if out.length+1≤Go.maxLen∧(out.length+1)*72≤140737488355328 then some (Sum.inl (out++[a3],w64 (i+1))) else none else none else some (Sum.inl (out,w64 (i+1))) else none else some (Sum.inr out)
theorem q6X:∀(nodes:List ql) (out:List qb) (i:Int) (q0t QE:Nat),q0t=nodes.length→QE=out.length→XL2 evo 44 0 4 ⟨[(3,rO 0 6 q0t),(5,rO 1 5 QE),(6,rI i)],[(0,bR 126 6 qE nodes),(1,bR 30 5 qg out)],2,34⟩=(qX (Z5 nodes) (out,i)).bind (fun(e:List qb)=>some (Go.Exit.exit 0,⟨[(5,rO 0 5 e.length)],[(0,bR 30 5 qg e)],1,34⟩)):=
 by
 intro nodes out i q0t QE h0 h1
 subst h0 h1
 revert i;revert out;exact q6v qrc qs8 (fun e=>by exact⟨_,rfl,fun h=>by cases h⟩) fun out i=>by
  have:=qEL;have:=@qiV.eq_1;have:=@q4y;have:=@q7j;have:=@Z5.eq_1;exact gA
theorem q5u:∀  (nodes:List ql) (i:Int) (q0t:Nat),q0t=nodes.length→XL2 evo 44 0 4 ⟨[(3,rO 0 6 q0t),(5,rO 1 5 0),(6,rI i)],[(0,bR 126 6 qE nodes),(1,B.row 30 5 [])],2,34⟩=(qX (Z5 nodes) ([],i)).bind (fun(e:List qb)=>some (Go.Exit.exit 0,⟨[(5,rO 0 5 e.length)],[(0,bR 30 5 qg e)],1,34⟩)):=by
 intro nodes i q0t h0;subst h0;have h:=q6X nodes [] i _ _ rfl rfl
 first
  | exact h
  | (simp only[rL,dL,bR,bZ,Nat.reduceAdd] at h;exact h)
noncomputable def q0F (n:qb):Option (List qb):=Option.bind (q1N n 1) fun(a:Sum Unit (List ql))=>Sum.elim (fun(a2:Unit)=>Option.bind (qX (q1T []) ([],0)) fun(a4:List qb)=>some a4) (fun(a3:List ql)=>Option.bind (qX (Z5 a3) ([],0)) fun(a5:List qb)=>some a5) a
theorem q5O:∀(qi n_N qs:Int) (qx:List qc) (n_L:List qb),ev 44 0 [R.agg [dI qi,dI n_N,dI qs,dL 2 qe qx,dL 5 qg n_L]] []=(q0F (qb.mk qi n_N qs qx n_L)).bind (fun(e:List qb)=>some (rL 5 qg e,[])):=
 fun qi n_N qs qx n_L=>by
  rw[zc qBm qGL.2.2.2 qGT]
  have:=qEL;have:=@q4n;have:=@q69;have:=@q5u;have:=@q0F.eq_1;exact gA
noncomputable def QY (w1:List Int) (qR:Int) (zh:Int) (zi:Int) (p_L:List qa) (Qk:Int) (set0:Int) (leaf:Int):Int→Option (Int⊕(Unit⊕Unit))|k=>if k<((w1.length:Nat):Int) then if 0≤k then if 0≤k∧k<((w1.length:Nat):Int) then Option.bind w1[Int.toNat k]? fun(a:Int)=>if(!((JH Go.BinOp.and Go.IntKind.i64 (Int.fdiv set0 (2 ^ min (Int.toNat k) (Go.IntKind.bits Go.IntKind.i64))) 1==1)==(a==leaf)))=Bool.true then some (Sum.inr (Sum.inl ())) else some (Sum.inl (w64 (k+1))) else none else none else some (Sum.inr (Sum.inr ()))
theorem q4r:∀(w1:List Int) (qR zh zi:Int) (p_L:List qa) (Qk set0 leaf k:Int) (qQ:Nat),qQ=w1.length→XL2 evo 87 1 2 ⟨[(0,rP 0),(1,rI set0),(2,rI leaf),(7,rI k)],[(0,B.blk 81 [dI qR,dI zh,dI zi,dL 8 qd p_L,dO 1 1 qQ,dI Qk]),(1,bR 3 1 eI w1)],2,32⟩=(qX (QY w1 qR zh zi p_L Qk set0 leaf) k).bind (Sum.elim (fun(e:Unit)=>some (Go.Exit.ret,⟨[(6,rB Bool.false)],[(0,B.blk 81 [dI qR,dI zh,dI zi,dL 8 qd p_L,dO 1 1 w1.length,dI Qk]),(1,bR 3 1 eI w1)],2,32⟩)) (fun(e:Unit)=>some (Go.Exit.exit 0,⟨[(6,R.any)],[(0,B.blk 81 [dI qR,dI zh,dI zi,dL 8 qd p_L,dO 1 1 w1.length,dI Qk]),(1,bR 3 1 eI w1)],2,32⟩))):=
 by
 intro w1 qR zh zi p_L Qk set0 leaf k qQ h0
 subst h0
 revert k;exact qaQ qs9 qrJ (fun e=>by rcases e with _|_<;>exact⟨_,rfl,fun h=>by cases h⟩) fun x=>by
  have:=qBz;have:=@qjh.eq_1;have:=@QY.eq_1;exact gA
noncomputable def Jx (set0:Int) (leaf:Int) (w1:List Int) (qR:Int) (zh:Int) (zi:Int) (p_L:List qa) (Qk:Int):Option Bool:=Option.bind (qX (QY w1 qR zh zi p_L Qk set0 leaf) 0) fun(a:Sum Unit Unit)=>Sum.elim (fun(a2:Unit)=>some Bool.false) (fun(a3:Unit)=>some Bool.true) a
theorem q5H:∀(set0 leaf:Int) (w1:List Int) (qR zh zi:Int) (p_L:List qa) (Qk:Int) (qQ:Nat),qQ=w1.length→ev 87 1 [rP 0,rI set0,rI leaf] [(0,B.blk 81 [dI qR,dI zh,dI zi,dL 8 qd p_L,dO 1 1 qQ,dI Qk]),(1,bR 3 1 eI w1)]=(Jx set0 leaf w1 qR zh zi p_L Qk).bind (fun(e:Bool)=>some (rB e,[(0,B.blk 81 [dI qR,dI zh,dI zi,dL 8 qd p_L,dO 1 1 w1.length,dI Qk]),(1,bR 3 1 eI w1)])):=
 by
 intro set0 leaf w1 qR zh zi p_L Qk qQ h0
 subst h0
 rw[zc qyU qEU.2.2.2 qCg]
 have:=qBz;have:=@q4r;have:=@Jx.eq_1;exact gA
noncomputable def zp (w1:List Int) (w3:List Bool) (qm:Int) (qq:Int) (qr:Int) (zq:List qa) (qD:Int) (b2:qb) (t6:Int):(Int×Int×Bool×Int)→Option ((Int×Int×Bool×Int)⊕(Int×Int×Bool))|(t7,t8,t9,t10)=>if t10<((zq.length:Nat):Int) then if t9=Bool.true then if 0≤t10 then if(JH Go.BinOp.and Go.IntKind.i64 (Int.fdiv t6 (2 ^ min (Int.toNat t10) (Go.IntKind.bits Go.IntKind.i64))) 1==1)=Bool.true then if 0≤t10∧t10<((zq.length:Nat):Int) then Option.bind zq[Int.toNat t10]? fun(a:qa)=>if 0≤t10∧t10<((zq.length:Nat):Int) then Option.bind zq[Int.toNat t10]? fun(a2:qa)=>Option.bind (q1M b2 (qf.mk qm qq qr) a2) fun(a3:Bool)=>some (Sum.inl (w64 (t7+1),w64 (t8+a.Credits),a3,w64 (t10+1))) else none else none else some (Sum.inl (t7,t8,t9,w64 (t10+1))) else none else some (Sum.inr (t7,t8,t9)) else some (Sum.inr (t7,t8,t9))
theorem q4p:∀(w1:List Int) (w3:List Bool) (qm qq qr:Int) (zq:List qa) (qD zn q1w zO:Int) (q0H:List qc) (qaz:List qb) (t6 t7 t8:Int) (t9:Bool) (t10:Int) (zw qQ:Nat),zw=w3.length→qQ=w1.length→XL2 evo 65 1 9 ⟨[(0,rP 0),(3,rP 2),(5,rO 3 1 zw),(6,rI t6),(7,rI t7),(8,rI t8),(9,rB t9),(10,rI t10)],[(0,B.blk 81 [dI qm,dI qq,dI qr,dL 8 qd zq,dO 1 1 qQ,dI qD]),(1,bR 3 1 eI w1),(2,B.blk 30 [dI zn,dI q1w,dI zO,dL 2 qe q0H,dL 5 qg qaz]),(3,bR 4 1 eB w3)],4,102⟩=(qX (zp w1 w3 qm qq qr zq qD (qb.mk zn q1w zO q0H qaz) t6) (t7,t8,t9,t10)).bind (fun(e:Int×Int×Bool)=>some (Go.Exit.exit 2,⟨[(0,rP 0),(3,rP 2),(5,rO 3 1 w3.length),(6,rI t6),(7,rI e.1),(8,rI e.2.1),(9,rB e.2.2)],[(0,B.blk 81 [dI qm,dI qq,dI qr,dL 8 qd zq,dO 1 1 w1.length,dI qD]),(1,bR 3 1 eI w1),(2,B.blk 30 [dI zn,dI q1w,dI zO,dL 2 qe q0H,dL 5 qg qaz]),(3,bR 4 1 eB w3)],4,102⟩)):=
 by
 intro w1 w3 qm qq qr zq qD zn q1w zO q0H qaz t6 t7 t8 t9 t10 zw qQ h0 h1
 subst h0 h1
 revert t10;revert t9;revert t8;revert t7;exact qAK qrM qrR (fun e=>by exact⟨_,rfl,fun h=>by cases h⟩) fun t7 t8 t9 t10=>by
  have:=qvK;have:=@qiD.eq_1;have:=@q4q;have:=@zp.eq_1;exact gA
noncomputable def Qu (w1:List Int) (qm:Int) (qq:Int) (qr:Int) (zq:List qa) (qD:Int) (b2:qb):(List Bool×Int)→Option ((List Bool×Int)⊕(List Bool))|(w3,t6)=>if t6<((w3.length:Nat):Int) then Option.bind (Jx t6 qD w1 qm qq qr zq qD) fun(a:Bool)=>Option.bind (qX (zp w1 w3 qm qq qr zq qD b2 t6) (0,(0,(a,0)))) fun(a2:Prod Int (Prod Int Bool))=>if(b2.Kind==1)=Bool.true then if a2.2.2=Bool.true then if 0≤t6∧t6<((w3.length:Nat):Int) then if Int.toNat t6+1≤w3.length then some (Sum.inl (List.set w3 (Int.toNat t6) (a2.1==1),w64 (t6+1))) else none else none else if 0≤t6∧t6<((w3.length:Nat):Int) then if Int.toNat t6+1≤w3.length then some (Sum.inl (List.set w3 (Int.toNat t6) Bool.false,w64 (t6+1))) else none else none else if a2.2.2=Bool.true then if 0≤t6∧t6<((w3.length:Nat):Int) then if Int.toNat t6+1≤w3.length then some (Sum.inl (List.set w3 (Int.toNat t6) (decide (b2.N≤a2.2.1)),w64 (t6+1))) else none else none else if 0≤t6∧t6<((w3.length:Nat):Int) then if Int.toNat t6+1≤w3.length then some (Sum.inl (List.set w3 (Int.toNat t6) Bool.false,w64 (t6+1))) else none else none else some (Sum.inr w3)
theorem q4t:∀(w1:List Int) (w3:List Bool) (qm qq qr:Int) (zq:List qa) (qD zn q1w zO:Int) (q0H:List qc) (qaz:List qb) (t6:Int) (zw qQ:Nat),zw=w3.length→qQ=w1.length→XL2 evo 65 1 3 ⟨[(0,rP 0),(3,rP 2),(5,rO 3 1 zw),(6,rI t6)],[(0,B.blk 81 [dI qm,dI qq,dI qr,dL 8 qd zq,dO 1 1 qQ,dI qD]),(1,bR 3 1 eI w1),(2,B.blk 30 [dI zn,dI q1w,dI zO,dL 2 qe q0H,dL 5 qg qaz]),(3,bR 4 1 eB w3)],4,102⟩=(qX (Qu w1 qm qq qr zq qD (qb.mk zn q1w zO q0H qaz)) (w3,t6)).bind (fun(e:List Bool)=>some (Go.Exit.exit 0,⟨[(0,rP 0),(5,rO 2 1 e.length)],[(0,B.blk 81 [dI qm,dI qq,dI qr,dL 8 qd zq,dO 1 1 w1.length,dI qD]),(1,bR 3 1 eI w1),(2,bR 4 1 eB e)],3,102⟩)):=
 by
 intro w1 w3 qm qq qr zq qD zn q1w zO q0H qaz t6 zw qQ h0 h1
 subst h0 h1
 revert t6;revert w3;exact q6v qrg qre (fun e=>by exact⟨_,rfl,fun h=>by cases h⟩) fun w3 t6=>by
  have:=qvK;have:=@qjL.eq_1;have:=@q5H;have:=@q4p;have:=@Qu.eq_1;exact gA
noncomputable def ZM (x1:qb) (w1:List Int) (qF:Int) (qZ:Int) (z5:Int) (L0:List qa) (Leaf:Int):Option (List Bool×Int):=if 0≤((L0.length:Nat):Int) then if 0≤w64 (1*2 ^ min L0.length (Go.IntKind.bits Go.IntKind.i64))∧1*w64 (1*2 ^ min L0.length (Go.IntKind.bits Go.IntKind.i64))≤281474976710656∧w64 (1*2 ^ min L0.length (Go.IntKind.bits Go.IntKind.i64))≤9223372036854775807 then Option.bind (qX (Qu w1 qF qZ z5 L0 Leaf x1) (List.replicate (Int.toNat (w64 (1*2 ^ min L0.length (Go.IntKind.bits Go.IntKind.i64)))) Bool.false,1)) fun(a:List Bool)=>some (a,w64 (Leaf+1)) else none else none
theorem q5U:∀(qI q03 zd:Int) (ze:List qc) (JB:List qb) (w1:List Int) (qF qZ z5:Int) (L0:List qa) (Leaf:Int) (qQ:Nat),qQ=w1.length→ev 65 1 [rP 0,R.agg [dI qI,dI q03,dI zd,dL 2 qe ze,dL 5 qg JB]] [(0,B.blk 81 [dI qF,dI qZ,dI z5,dL 8 qd L0,dO 1 1 qQ,dI Leaf]),(1,bR 3 1 eI w1)]=(ZM (qb.mk qI q03 zd ze JB) w1 qF qZ z5 L0 Leaf).bind (fun(e:List Bool×Int)=>some (rL 1 eB e.1,[(0,B.blk 81 [dI qF,dI qZ,dI z5,dL 8 qd L0,dO 1 1 w1.length,dI e.2]),(1,bR 3 1 eI w1)])):=
 by
 intro qI q03 zd ze JB w1 qF qZ z5 L0 Leaf qQ h0
 subst h0
 rw[zc qvJ qDB.2.2.2 qB6]
 have:=qvK;have:=@q4t;have:=@ZM.eq_1;exact gA
noncomputable def z6 (x:(qb×List Int×Int×Int×Int×List qa×Int)):List R×List (Nat×B):=([R.c (C.ptr 0 0),R.agg [C.d (D.int .i64 x.1.Kind),C.d (D.int .i64 x.1.N),C.d (D.int .i64 x.1.Min),C.d (D.sl 2 x.1.Set.length (x.1.Set.flatMap qe)),C.d (D.sl 5 x.1.L.length (x.1.L.flatMap qg))]],[(0,B.blk 81 [C.d (D.int .i64 x.2.2.1),C.d (D.int .i64 x.2.2.2.1),C.d (D.int .i64 x.2.2.2.2.1),C.d (D.sl 8 x.2.2.2.2.2.1.length (x.2.2.2.2.2.1.flatMap qd)),C.own 1 1 0 x.2.1.length,C.d (D.int .i64 x.2.2.2.2.2.2)]),(1,B.row 3 1 ((x.2.1.flatMap eI).map C.d))])
noncomputable def zK:(List Bool×List Int×Int×Int×Int×List qa×Int)→R×List (Nat×B):=fun(e:List Bool×List Int×Int×Int×Int×List qa×Int)=>(R.c (C.d (D.sl 1 e.1.length (e.1.flatMap eB))),[(0,B.blk 81 [C.d (D.int .i64 e.2.2.1),C.d (D.int .i64 e.2.2.2.1),C.d (D.int .i64 e.2.2.2.2.1),C.d (D.sl 8 e.2.2.2.2.2.1.length (e.2.2.2.2.2.1.flatMap qd)),C.own 1 1 0 e.2.1.length,C.d (D.int .i64 e.2.2.2.2.2.2)]),(1,B.row 3 1 ((e.2.1.flatMap eI).map C.d))])
noncomputable def QQ (rF:(qb×List Int×Int×Int×Int×List qa×Int)→Option (List Bool×List Int×Int×Int×Int×List qa×Int)) (w1:List Int) (qm:Int) (qq:Int) (qr:Int) (zq:List qa) (qD:Int) (b2:qb):(List Int×Int)→Option ((List Int×Int)⊕(List Int))|(w3,t6)=>if t6<((w3.length:Nat):Int) then if 0≤t6∧t6<((w3.length:Nat):Int) then if Int.toNat t6+1≤w3.length then some (Sum.inl (List.set w3 (Int.toNat t6) (-1),w64 (t6+1))) else none else none else some (Sum.inr w3)
theorem q5q (rE:Orc) (rF:(qb×List Int×Int×Int×Int×List qa×Int)→Option (List Bool×List Int×Int×Int×Int×List qa×Int)) (hF:∀y,rE (.fn 35) 1 (z6 y).1 (z6 y).2=(rF y).bind fun e=>some (zK e)) (hM:∀g k a G,g≠35→rE (.fn g) k a G=ev g k a G) (hR:∀g asg bd k a G,rE (.rd g asg bd) k a G=evr g asg bd k a G):∀(w1 w3:List Int) (qm qq qr:Int) (zq:List qa) (qD zn q1w zO:Int) (q0H:List qc) (qaz:List qb) (t6:Int) (zw qQ:Nat),zw=w3.length→qQ=w1.length→XL2 rE 35 1 5 ⟨[(0,rP 0),(3,rP 2),(5,rO 3 1 zw),(6,rI t6)],[(0,B.blk 81 [dI qm,dI qq,dI qr,dL 8 qd zq,dO 1 1 qQ,dI qD]),(1,bR 3 1 eI w1),(2,B.blk 30 [dI zn,dI q1w,dI zO,dL 2 qe q0H,dL 5 qg qaz]),(3,bR 3 1 eI w3)],4,158⟩=(qX (QQ rF w1 qm qq qr zq qD (qb.mk zn q1w zO q0H qaz)) (w3,t6)).bind (fun(e:List Int)=>some (Go.Exit.exit 0,⟨[(0,rP 0),(3,rP 2),(5,rO 3 1 e.length)],[(0,B.blk 81 [dI qm,dI qq,dI qr,dL 8 qd zq,dO 1 1 w1.length,dI qD]),(1,bR 3 1 eI w1),(2,B.blk 30 [dI zn,dI q1w,dI zO,dL 2 qe q0H,dL 5 qg qaz]),(3,bR 3 1 eI e)],4,158⟩)):=
 by
 intro w1 w3 qm qq qr zq qD zn q1w zO q0H qaz t6 zw qQ h0 h1
 subst h0 h1
 revert t6;revert w3;exact q6v qrt qru (fun e=>by exact⟨_,rfl,fun h=>by cases h⟩) fun w3 t6=>by
  have hF':∀(qI q03 zd:Int) (ze:List qc) (JB:List qb) (w1:List Int) (qF qZ z5:Int) (L0:List qa) (Leaf:Int) (qQ:Nat),qQ=w1.length→rE (.fn 35) 1 [rP 0,R.agg [dI qI,dI q03,dI zd,dL 2 qe ze,dL 5 qg JB]] [(0,B.blk 81 [dI qF,dI qZ,dI z5,dL 8 qd L0,dO 1 1 qQ,dI Leaf]),(1,bR 3 1 eI w1)]=(rF ((qb.mk qI q03 zd ze JB),w1,qF,qZ,z5,L0,Leaf)).bind (fun e=>some (rL 1 eB e.1,[(0,B.blk 81 [dI e.2.2.1,dI e.2.2.2.1,dI e.2.2.2.2.1,dL 8 qd e.2.2.2.2.2.1,dO 1 1 e.2.1.length,dI e.2.2.2.2.2.2]),(1,bR 3 1 eI e.2.1)])):=by intro qI q03 zd ze JB w1 qF qZ z5 L0 Leaf qQ h0;subst h0;exact hF ((qb.mk qI q03 zd ze JB),w1,qF,qZ,z5,L0,Leaf)
  have:=qkH;have:=@qiI.eq_1;have:=@QQ.eq_1;exact gA
noncomputable def QK (w1:List Int) (qR:Int) (zh:Int) (zi:Int) (p_L:List qa) (Qk:Int) (from0:Int) (to:Int):Int→Option (Int⊕(Unit⊕Unit))|k=>if k<((w1.length:Nat):Int) then if 0≤k∧k<((w1.length:Nat):Int) then Option.bind w1[Int.toNat k]? fun(a:Int)=>if from0≤a then if 0≤k∧k<((w1.length:Nat):Int) then Option.bind w1[Int.toNat k]? fun(a2:Int)=>if a2<to then some (Sum.inr (Sum.inl ())) else some (Sum.inl (w64 (k+1))) else none else some (Sum.inl (w64 (k+1))) else none else some (Sum.inr (Sum.inr ()))
theorem q47:∀(w1:List Int) (qR zh zi:Int) (p_L:List qa) (Qk from0 to k:Int) (qQ:Nat),qQ=w1.length→XL2 evo 66 1 2 ⟨[(0,rP 0),(1,rI from0),(2,rI to),(7,rI k)],[(0,B.blk 81 [dI qR,dI zh,dI zi,dL 8 qd p_L,dO 1 1 qQ,dI Qk]),(1,bR 3 1 eI w1)],2,37⟩=(qX (QK w1 qR zh zi p_L Qk from0 to) k).bind (Sum.elim (fun(e:Unit)=>some (Go.Exit.ret,⟨[(6,rB Bool.true)],[(0,B.blk 81 [dI qR,dI zh,dI zi,dL 8 qd p_L,dO 1 1 w1.length,dI Qk]),(1,bR 3 1 eI w1)],2,37⟩)) (fun(e:Unit)=>some (Go.Exit.exit 0,⟨[(6,R.any)],[(0,B.blk 81 [dI qR,dI zh,dI zi,dL 8 qd p_L,dO 1 1 w1.length,dI Qk]),(1,bR 3 1 eI w1)],2,37⟩))):=
 by
 intro w1 qR zh zi p_L Qk from0 to k qQ h0
 subst h0
 revert k;exact qaQ qrP qry (fun e=>by rcases e with _|_<;>exact⟨_,rfl,fun h=>by cases h⟩) fun x=>by
  have:=qBj;have:=@qjs.eq_1;have:=@QK.eq_1;exact gA
noncomputable def Jg (from0:Int) (to:Int) (w1:List Int) (qR:Int) (zh:Int) (zi:Int) (p_L:List qa) (Qk:Int):Option Bool:=Option.bind (qX (QK w1 qR zh zi p_L Qk from0 to) 0) fun(a:Sum Unit Unit)=>Sum.elim (fun(a2:Unit)=>some Bool.true) (fun(a3:Unit)=>some Bool.false) a
theorem q5f:∀(from0 to:Int) (w1:List Int) (qR zh zi:Int) (p_L:List qa) (Qk:Int) (qQ:Nat),qQ=w1.length→ev 66 1 [rP 0,rI from0,rI to] [(0,B.blk 81 [dI qR,dI zh,dI zi,dL 8 qd p_L,dO 1 1 qQ,dI Qk]),(1,bR 3 1 eI w1)]=(Jg from0 to w1 qR zh zi p_L Qk).bind (fun(e:Bool)=>some (rB e,[(0,B.blk 81 [dI qR,dI zh,dI zi,dL 8 qd p_L,dO 1 1 w1.length,dI Qk]),(1,bR 3 1 eI w1)])):=
 by
 intro from0 to w1 qR zh zi p_L Qk qQ h0
 subst h0
 rw[zc qvY qEa.2.2.2 qDr]
 have:=qBj;have:=@q47;have:=@Jg.eq_1;exact gA
noncomputable def zH (rF:(qb×List Int×Int×Int×Int×List qa×Int)→Option (List Bool×List Int×Int×Int×Int×List qa×Int)) (w1:List Int) (w3:List Int) (qm:Int) (qq:Int) (qr:Int) (zq:List qa) (qD:Int) (b2:qb) (t7:Int) (t9:List Bool) (t10:Bool) (t12:Int):(List Int×Int)→Option ((List Int×Int)⊕(List Int))|(w4,t13)=>if 0<t13 then if 0≤t13∧t13<((t9.length:Nat):Int) then Option.bind t9[Int.toNat t13]? fun(a2:Bool)=>if a2=Bool.true then if 0≤w64 (t12-t13)∧w64 (t12-t13)<((w3.length:Nat):Int) then Option.bind w3[Int.toNat (w64 (t12-t13))]? fun(a3:Int)=>if 0≤a3 then if 0≤t12∧t12<((w4.length:Nat):Int) then Option.bind w4[Int.toNat t12]? fun(a4:Int)=>if 0≤w64 (t12-t13)∧w64 (t12-t13)<((w3.length:Nat):Int) then Option.bind w3[Int.toNat (w64 (t12-t13))]? fun(a5:Int)=>if 0≤t12∧t12<((w4.length:Nat):Int) then if Int.toNat t12+1≤w4.length then some (Sum.inl (List.set w4 (Int.toNat t12) (max a4 (w64 (a5+1))),JH Go.BinOp.and Go.IntKind.i64 (w64 (t13-1)) t12)) else none else none else none else none else some (Sum.inl (w4,JH Go.BinOp.and Go.IntKind.i64 (w64 (t13-1)) t12)) else none else some (Sum.inl (w4,JH Go.BinOp.and Go.IntKind.i64 (w64 (t13-1)) t12)) else none else some (Sum.inr w4)
theorem q4H (rE:Orc) (rF:(qb×List Int×Int×Int×Int×List qa×Int)→Option (List Bool×List Int×Int×Int×Int×List qa×Int)) (hF:∀y,rE (.fn 35) 1 (z6 y).1 (z6 y).2=(rF y).bind fun e=>some (zK e)) (hM:∀g k a G,g≠35→rE (.fn g) k a G=ev g k a G) (hR:∀g asg bd k a G,rE (.rd g asg bd) k a G=evr g asg bd k a G):∀(w1 w3 w4:List Int) (qm qq qr:Int) (zq:List qa) (qD zn q1w zO:Int) (q0H:List qc) (qaz:List qb) (t7:Int) (t9:List Bool) (t10:Bool) (t12 t13:Int) (zw Qj qQ:Nat),zw=w3.length→Qj=w4.length→qQ=w1.length→XL2 rE 35 1 22 ⟨[(0,rP 0),(3,rP 2),(5,rO 3 1 zw),(7,rI t7),(9,rL 1 eB t9),(10,rB t10),(11,rO 4 1 Qj),(12,rI t12),(13,rI t13)],[(0,B.blk 81 [dI qm,dI qq,dI qr,dL 8 qd zq,dO 1 1 qQ,dI qD]),(1,bR 3 1 eI w1),(2,B.blk 30 [dI zn,dI q1w,dI zO,dL 2 qe q0H,dL 5 qg qaz]),(3,bR 3 1 eI w3),(4,bR 3 1 eI w4)],5,158⟩=(qX (zH rF w1 w3 qm qq qr zq qD (qb.mk zn q1w zO q0H qaz) t7 t9 t10 t12) (w4,t13)).bind (fun(e:List Int)=>some (Go.Exit.exit 6,⟨[(0,rP 0),(3,rP 2),(5,rO 3 1 w3.length),(7,rI t7),(9,rL 1 eB t9),(10,rB t10),(11,rO 4 1 e.length),(12,rI t12)],[(0,B.blk 81 [dI qm,dI qq,dI qr,dL 8 qd zq,dO 1 1 w1.length,dI qD]),(1,bR 3 1 eI w1),(2,B.blk 30 [dI zn,dI q1w,dI zO,dL 2 qe q0H,dL 5 qg qaz]),(3,bR 3 1 eI w3),(4,bR 3 1 eI e)],5,158⟩)):=
 by
 intro w1 w3 w4 qm qq qr zq qD zn q1w zO q0H qaz t7 t9 t10 t12 t13 zw Qj qQ h0 h1 h2
 subst h0 h1 h2
 revert t13;revert w4;exact q6v qo0 qo7 (fun e=>by exact⟨_,rfl,fun h=>by cases h⟩) fun w4 t13=>by
  have hF':∀(qI q03 zd:Int) (ze:List qc) (JB:List qb) (w1:List Int) (qF qZ z5:Int) (L0:List qa) (Leaf:Int) (qQ:Nat),qQ=w1.length→rE (.fn 35) 1 [rP 0,R.agg [dI qI,dI q03,dI zd,dL 2 qe ze,dL 5 qg JB]] [(0,B.blk 81 [dI qF,dI qZ,dI z5,dL 8 qd L0,dO 1 1 qQ,dI Leaf]),(1,bR 3 1 eI w1)]=(rF ((qb.mk qI q03 zd ze JB),w1,qF,qZ,z5,L0,Leaf)).bind (fun e=>some (rL 1 eB e.1,[(0,B.blk 81 [dI e.2.2.1,dI e.2.2.2.1,dI e.2.2.2.2.1,dL 8 qd e.2.2.2.2.2.1,dO 1 1 e.2.1.length,dI e.2.2.2.2.2.2]),(1,bR 3 1 eI e.2.1)])):=by intro qI q03 zd ze JB w1 qF qZ z5 L0 Leaf qQ h0;subst h0;exact hF ((qb.mk qI q03 zd ze JB),w1,qF,qZ,z5,L0,Leaf)
  have:=qkH;have:=@qfd.eq_1;have:=@zH.eq_1;exact gA
noncomputable def QC (rF:(qb×List Int×Int×Int×Int×List qa×Int)→Option (List Bool×List Int×Int×Int×Int×List qa×Int)) (w1:List Int) (w3:List Int) (qm:Int) (qq:Int) (qr:Int) (zq:List qa) (qD:Int) (b2:qb) (t7:Int) (t9:List Bool) (t10:Bool):(List Int×Int)→Option ((List Int×Int)⊕(List Int))|(w4,t12)=>if t12<((w3.length:Nat):Int) then if 0≤t12∧t12<((w4.length:Nat):Int) then if Int.toNat t12+1≤w4.length then if(b2.Kind==4)=Bool.true then if(!t10)=Bool.true then if 0≤t12∧t12<((w3.length:Nat):Int) then Option.bind w3[Int.toNat t12]? fun(a2:Int)=>if 0≤t12∧t12<((w4.length:Nat):Int) then if Int.toNat t12+1≤w4.length then Option.bind (qX (zH rF w1 w3 qm qq qr zq qD b2 t7 t9 t10 t12) (List.set (List.set w4 (Int.toNat t12) (-1)) (Int.toNat t12) a2,t12)) fun(a3:List Int)=>some (Sum.inl (a3,w64 (t12+1))) else none else none else none else Option.bind (qX (zH rF w1 w3 qm qq qr zq qD b2 t7 t9 t10 t12) (List.set w4 (Int.toNat t12) (-1),t12)) fun(a4:List Int)=>some (Sum.inl (a4,w64 (t12+1))) else Option.bind (qX (zH rF w1 w3 qm qq qr zq qD b2 t7 t9 t10 t12) (List.set w4 (Int.toNat t12) (-1),t12)) fun(a5:List Int)=>some (Sum.inl (a5,w64 (t12+1))) else none else none else some (Sum.inr w4)
theorem q4O (rE:Orc) (rF:(qb×List Int×Int×Int×Int×List qa×Int)→Option (List Bool×List Int×Int×Int×Int×List qa×Int)) (hF:∀y,rE (.fn 35) 1 (z6 y).1 (z6 y).2=(rF y).bind fun e=>some (zK e)) (hM:∀g k a G,g≠35→rE (.fn g) k a G=ev g k a G) (hR:∀g asg bd k a G,rE (.rd g asg bd) k a G=evr g asg bd k a G):∀(w1 w3 w4:List Int) (qm qq qr:Int) (zq:List qa) (qD zn q1w zO:Int) (q0H:List qc) (qaz:List qb) (t7:Int) (t9:List Bool) (t10:Bool) (t12:Int) (zw Qj qQ:Nat),zw=w3.length→Qj=w4.length→qQ=w1.length→XL2 rE 35 1 16 ⟨[(0,rP 0),(3,rP 2),(5,rO 3 1 zw),(7,rI t7),(9,rL 1 eB t9),(10,rB t10),(11,rO 4 1 Qj),(12,rI t12)],[(0,B.blk 81 [dI qm,dI qq,dI qr,dL 8 qd zq,dO 1 1 qQ,dI qD]),(1,bR 3 1 eI w1),(2,B.blk 30 [dI zn,dI q1w,dI zO,dL 2 qe q0H,dL 5 qg qaz]),(3,bR 3 1 eI w3),(4,bR 3 1 eI w4)],5,158⟩=(qX (QC rF w1 w3 qm qq qr zq qD (qb.mk zn q1w zO q0H qaz) t7 t9 t10) (w4,t12)).bind (fun(e:List Int)=>some (Go.Exit.exit 4,⟨[(0,rP 0),(3,rP 2),(7,rI t7),(11,rO 3 1 e.length)],[(0,B.blk 81 [dI qm,dI qq,dI qr,dL 8 qd zq,dO 1 1 w1.length,dI qD]),(1,bR 3 1 eI w1),(2,B.blk 30 [dI zn,dI q1w,dI zO,dL 2 qe q0H,dL 5 qg qaz]),(3,bR 3 1 eI e)],4,158⟩)):=
 by
 intro w1 w3 w4 qm qq qr zq qD zn q1w zO q0H qaz t7 t9 t10 t12 zw Qj qQ h0 h1 h2
 subst h0 h1 h2
 revert t12;revert w4;exact q6v qnD qmN (fun e=>by exact⟨_,rfl,fun h=>by cases h⟩) fun w4 t12=>by
  have hF':∀(qI q03 zd:Int) (ze:List qc) (JB:List qb) (w1:List Int) (qF qZ z5:Int) (L0:List qa) (Leaf:Int) (qQ:Nat),qQ=w1.length→rE (.fn 35) 1 [rP 0,R.agg [dI qI,dI q03,dI zd,dL 2 qe ze,dL 5 qg JB]] [(0,B.blk 81 [dI qF,dI qZ,dI z5,dL 8 qd L0,dO 1 1 qQ,dI Leaf]),(1,bR 3 1 eI w1)]=(rF ((qb.mk qI q03 zd ze JB),w1,qF,qZ,z5,L0,Leaf)).bind (fun e=>some (rL 1 eB e.1,[(0,B.blk 81 [dI e.2.2.1,dI e.2.2.2.1,dI e.2.2.2.2.1,dL 8 qd e.2.2.2.2.2.1,dO 1 1 e.2.1.length,dI e.2.2.2.2.2.2]),(1,bR 3 1 eI e.2.1)])):=by intro qI q03 zd ze JB w1 qF qZ z5 L0 Leaf qQ h0;subst h0;exact hF ((qb.mk qI q03 zd ze JB),w1,qF,qZ,z5,L0,Leaf)
  have:=qkH;have:=@qf3.eq_1;have:=q4H rE rF hF hM hR;have:=@QC.eq_1;exact gA
noncomputable def Qm (rF:(qb×List Int×Int×Int×Int×List qa×Int)→Option (List Bool×List Int×Int×Int×Int×List qa×Int)) (b2:qb):(List Int×List Int×Int×Int×Int×List qa×Int×Int)→Option ((List Int×List Int×Int×Int×Int×List qa×Int×Int)⊕(List Int×List Int×Int×Int×Int×List qa×Int))|(w1,w3,qm,qq,qr,zq,qD,t7)=>if t7<((b2.L.length:Nat):Int) then if 0≤t7∧t7<((b2.L.length:Nat):Int) then Option.bind b2.L[Int.toNat t7]? fun(a2:qb)=>Option.bind (rF (a2,(w1,(qm,(qq,(qr,(zq,qD))))))) fun(a3:Prod (List Bool) (Prod (List Int) (Prod Int (Prod Int (Prod Int (Prod (List qa) Int))))))=>Option.bind (Jg qD a3.2.2.2.2.2.2 a3.2.1 a3.2.2.1 a3.2.2.2.1 a3.2.2.2.2.1 a3.2.2.2.2.2.1 a3.2.2.2.2.2.2) fun(a4:Bool)=>if 0≤((w3.length:Nat):Int)∧8*((w3.length:Nat):Int)≤281474976710656∧((w3.length:Nat):Int)≤9223372036854775807 then Option.bind (qX (QC rF a3.2.1 w3 a3.2.2.1 a3.2.2.2.1 a3.2.2.2.2.1 a3.2.2.2.2.2.1 a3.2.2.2.2.2.2 b2 t7 a3.1 a4) (List.replicate w3.length 0,0)) fun(a5:List Int)=>some (Sum.inl (a3.2.1,a5,a3.2.2.1,a3.2.2.2.1,a3.2.2.2.2.1,a3.2.2.2.2.2.1,a3.2.2.2.2.2.2,w64 (t7+1))) else none else none else some (Sum.inr (w1,w3,qm,qq,qr,zq,qD))
theorem q5t (rE:Orc) (rF:(qb×List Int×Int×Int×Int×List qa×Int)→Option (List Bool×List Int×Int×Int×Int×List qa×Int)) (hF:∀y,rE (.fn 35) 1 (z6 y).1 (z6 y).2=(rF y).bind fun e=>some (zK e)) (hM:∀g k a G,g≠35→rE (.fn g) k a G=ev g k a G) (hR:∀g asg bd k a G,rE (.rd g asg bd) k a G=evr g asg bd k a G):∀(w1 w3:List Int) (qm qq qr:Int) (zq:List qa) (qD zn q1w zO:Int) (q0H:List qc) (qaz:List qb) (t7:Int) (zw qQ:Nat),zw=w3.length→qQ=w1.length→XL2 rE 35 1 9 ⟨[(0,rP 0),(3,rP 2),(5,rO 3 1 zw),(7,rI t7)],[(0,B.blk 81 [dI qm,dI qq,dI qr,dL 8 qd zq,dO 1 1 qQ,dI qD]),(1,bR 3 1 eI w1),(2,B.blk 30 [dI zn,dI q1w,dI zO,dL 2 qe q0H,dL 5 qg qaz]),(3,bR 3 1 eI w3)],4,158⟩=(qX (Qm rF (qb.mk zn q1w zO q0H qaz)) (w1,w3,qm,qq,qr,zq,qD,t7)).bind (fun(e:List Int×List Int×Int×Int×Int×List qa×Int)=>some (Go.Exit.exit 2,⟨[(3,rP 2),(5,rO 3 1 e.2.1.length)],[(0,B.blk 81 [dI e.2.2.1,dI e.2.2.2.1,dI e.2.2.2.2.1,dL 8 qd e.2.2.2.2.2.1,dO 1 1 e.1.length,dI e.2.2.2.2.2.2]),(1,bR 3 1 eI e.1),(2,B.blk 30 [dI zn,dI q1w,dI zO,dL 2 qe q0H,dL 5 qg qaz]),(3,bR 3 1 eI e.2.1)],4,158⟩)):=
 by
 intro w1 w3 qm qq qr zq qD zn q1w zO q0H qaz t7 zw qQ h0 h1
 subst h0 h1
 revert t7;revert qD;revert zq;revert qr;revert qq;revert qm;revert w3;revert w1;exact qHk qri qs6 (fun e=>by exact⟨_,rfl,fun h=>by cases h⟩) fun w1 w3 qm qq qr zq qD t7=>by
  have hF':∀(qI q03 zd:Int) (ze:List qc) (JB:List qb) (w1:List Int) (qF qZ z5:Int) (L0:List qa) (Leaf:Int) (qQ:Nat),qQ=w1.length→rE (.fn 35) 1 [rP 0,R.agg [dI qI,dI q03,dI zd,dL 2 qe ze,dL 5 qg JB]] [(0,B.blk 81 [dI qF,dI qZ,dI z5,dL 8 qd L0,dO 1 1 qQ,dI Leaf]),(1,bR 3 1 eI w1)]=(rF ((qb.mk qI q03 zd ze JB),w1,qF,qZ,z5,L0,Leaf)).bind (fun e=>some (rL 1 eB e.1,[(0,B.blk 81 [dI e.2.2.1,dI e.2.2.2.1,dI e.2.2.2.2.1,dL 8 qd e.2.2.2.2.2.1,dO 1 1 e.2.1.length,dI e.2.2.2.2.2.2]),(1,bR 3 1 eI e.2.1)])):=by intro qI q03 zd ze JB w1 qF qZ z5 L0 Leaf qQ h0;subst h0;exact hF ((qb.mk qI q03 zd ze JB),w1,qF,qZ,z5,L0,Leaf)
  have:=qkH;have:=@qjC.eq_1;have:=@q5f;have:=q4O rE rF hF hM hR;have:=@Qm.eq_1;exact gA
noncomputable def Qh (rF:(qb×List Int×Int×Int×Int×List qa×Int)→Option (List Bool×List Int×Int×Int×Int×List qa×Int)) (w1:List Int) (w2:List Int) (qm:Int) (qq:Int) (qr:Int) (zq:List qa) (qD:Int) (t14:Int):(List Bool×Int)→Option ((List Bool×Int)⊕(List Bool))|(w3,t16)=>if t16<((w2.length:Nat):Int) then if 0≤t16∧t16<((w2.length:Nat):Int) then Option.bind w2[Int.toNat t16]? fun(a2:Int)=>if 0≤t16∧t16<((w3.length:Nat):Int) then if Int.toNat t16+1≤w3.length then some (Sum.inl (List.set w3 (Int.toNat t16) (decide (t14≤a2)),w64 (t16+1))) else none else none else none else some (Sum.inr w3)
theorem q4G (rE:Orc) (rF:(qb×List Int×Int×Int×Int×List qa×Int)→Option (List Bool×List Int×Int×Int×Int×List qa×Int)) (hF:∀y,rE (.fn 35) 1 (z6 y).1 (z6 y).2=(rF y).bind fun e=>some (zK e)) (hM:∀g k a G,g≠35→rE (.fn g) k a G=ev g k a G) (hR:∀g asg bd k a G,rE (.rd g asg bd) k a G=evr g asg bd k a G):∀(w1 w2:List Int) (w3:List Bool) (qm qq qr:Int) (zq:List qa) (qD t14 t16:Int) (Zs zw qQ:Nat),Zs=w2.length→zw=w3.length→qQ=w1.length→XL2 rE 35 1 32 ⟨[(5,rO 2 1 Zs),(14,rI t14),(15,rO 3 1 zw),(16,rI t16)],[(0,B.blk 81 [dI qm,dI qq,dI qr,dL 8 qd zq,dO 1 1 qQ,dI qD]),(1,bR 3 1 eI w1),(2,bR 3 1 eI w2),(3,bR 4 1 eB w3)],4,158⟩=(qX (Qh rF w1 w2 qm qq qr zq qD t14) (w3,t16)).bind (fun(e:List Bool)=>some (Go.Exit.exit 8,⟨[(15,rO 2 1 e.length)],[(0,B.blk 81 [dI qm,dI qq,dI qr,dL 8 qd zq,dO 1 1 w1.length,dI qD]),(1,bR 3 1 eI w1),(2,bR 4 1 eB e)],3,158⟩)):=
 by
 intro w1 w2 w3 qm qq qr zq qD t14 t16 Zs zw qQ h0 h1 h2
 subst h0 h1 h2
 revert t16;revert w3;exact q6v qoF qmo (fun e=>by exact⟨_,rfl,fun h=>by cases h⟩) fun w3 t16=>by
  have hF':∀(qI q03 zd:Int) (ze:List qc) (JB:List qb) (w1:List Int) (qF qZ z5:Int) (L0:List qa) (Leaf:Int) (qQ:Nat),qQ=w1.length→rE (.fn 35) 1 [rP 0,R.agg [dI qI,dI q03,dI zd,dL 2 qe ze,dL 5 qg JB]] [(0,B.blk 81 [dI qF,dI qZ,dI z5,dL 8 qd L0,dO 1 1 qQ,dI Leaf]),(1,bR 3 1 eI w1)]=(rF ((qb.mk qI q03 zd ze JB),w1,qF,qZ,z5,L0,Leaf)).bind (fun e=>some (rL 1 eB e.1,[(0,B.blk 81 [dI e.2.2.1,dI e.2.2.2.1,dI e.2.2.2.2.1,dL 8 qd e.2.2.2.2.2.1,dO 1 1 e.2.1.length,dI e.2.2.2.2.2.2]),(1,bR 3 1 eI e.2.1)])):=by intro qI q03 zd ze JB w1 qF qZ z5 L0 Leaf qQ h0;subst h0;exact hF ((qb.mk qI q03 zd ze JB),w1,qF,qZ,z5,L0,Leaf)
  have:=qkH;have:=@qf8.eq_1;have:=@Qh.eq_1;exact gA
noncomputable def JJ (rF:(qb×List Int×Int×Int×Int×List qa×Int)→Option (List Bool×List Int×Int×Int×Int×List qa×Int)):(qb×List Int×Int×Int×Int×List qa×Int)→Option (List Bool×List Int×Int×Int×Int×List qa×Int)|(x1,w1,qF,qZ,z5,L0,Leaf)=>if(x1.Kind==1)=Bool.true then Option.bind (ZM x1 w1 qF qZ z5 L0 Leaf) fun(e0:Prod (List Bool) Int)=>some (e0.1,w1,qF,qZ,z5,L0,e0.2) else if(x1.Kind==2)=Bool.true then Option.bind (ZM x1 w1 qF qZ z5 L0 Leaf) fun(e02:Prod (List Bool) Int)=>some (e02.1,w1,qF,qZ,z5,L0,e02.2) else if 0≤((L0.length:Nat):Int) then if 0≤w64 (1*2 ^ min L0.length (Go.IntKind.bits Go.IntKind.i64))∧8*w64 (1*2 ^ min L0.length (Go.IntKind.bits Go.IntKind.i64))≤281474976710656∧w64 (1*2 ^ min L0.length (Go.IntKind.bits Go.IntKind.i64))≤9223372036854775807 then Option.bind (qX (QQ rF w1 qF qZ z5 L0 Leaf x1) (List.replicate (Int.toNat (w64 (1*2 ^ min L0.length (Go.IntKind.bits Go.IntKind.i64)))) 0,1)) fun(a2:List Int)=>Option.bind (qX (Qm rF x1) (w1,(a2,(qF,(qZ,(z5,(L0,(Leaf,0)))))))) fun(a3:Prod (List Int) (Prod (List Int) (Prod Int (Prod Int (Prod Int (Prod (List qa) Int))))))=>if(x1.Kind==3)=Bool.true then if 0≤((a3.2.1.length:Nat):Int)∧1*((a3.2.1.length:Nat):Int)≤281474976710656∧((a3.2.1.length:Nat):Int)≤9223372036854775807 then Option.bind (qX (Qh rF a3.1 a3.2.1 a3.2.2.1 a3.2.2.2.1 a3.2.2.2.2.1 a3.2.2.2.2.2.1 a3.2.2.2.2.2.2 ((x1.L.length:Nat):Int)) (List.replicate a3.2.1.length Bool.false,1)) fun(a4:List Bool)=>some (a4,a3.1,a3.2.2.1,a3.2.2.2.1,a3.2.2.2.2.1,a3.2.2.2.2.2.1,a3.2.2.2.2.2.2) else none else if 0≤((a3.2.1.length:Nat):Int)∧1*((a3.2.1.length:Nat):Int)≤281474976710656∧((a3.2.1.length:Nat):Int)≤9223372036854775807 then Option.bind (qX (Qh rF a3.1 a3.2.1 a3.2.2.1 a3.2.2.2.1 a3.2.2.2.2.1 a3.2.2.2.2.2.1 a3.2.2.2.2.2.2 x1.N) (List.replicate a3.2.1.length Bool.false,1)) fun(a5:List Bool)=>some (a5,a3.1,a3.2.2.1,a3.2.2.2.1,a3.2.2.2.2.1,a3.2.2.2.2.2.1,a3.2.2.2.2.2.2) else none else none else none
theorem q3l:q4u 35 1 z6 zK JJ:=by
 intro rE rF hF hM hR x
 obtain⟨x1,w1,qF,qZ,z5,L0,Leaf⟩:=x
 show q78 rE 35 1 [rP 0,R.agg [dI x1.Kind,dI x1.N,dI x1.Min,dL 2 qe x1.Set,dL 5 qg x1.L]] [(0,B.blk 81 [dI qF,dI qZ,dI z5,dL 8 qd L0,dO 1 1 w1.length,dI Leaf]),(1,bR 3 1 eI w1)]=_
 have hF':∀(qI q03 zd:Int) (ze:List qc) (JB:List qb) (w1:List Int) (qF qZ z5:Int) (L0:List qa) (Leaf:Int) (qQ:Nat),qQ=w1.length→rE (.fn 35) 1 [rP 0,R.agg [dI qI,dI q03,dI zd,dL 2 qe ze,dL 5 qg JB]] [(0,B.blk 81 [dI qF,dI qZ,dI z5,dL 8 qd L0,dO 1 1 qQ,dI Leaf]),(1,bR 3 1 eI w1)]=(rF ((qb.mk qI q03 zd ze JB),w1,qF,qZ,z5,L0,Leaf)).bind (fun e=>some (rL 1 eB e.1,[(0,B.blk 81 [dI e.2.2.1,dI e.2.2.2.1,dI e.2.2.2.2.1,dL 8 qd e.2.2.2.2.2.1,dO 1 1 e.2.1.length,dI e.2.2.2.2.2.2]),(1,bR 3 1 eI e.2.1)])):=by intro qI q03 zd ze JB w1 qF qZ z5 L0 Leaf qQ h0;subst h0;exact hF ((qb.mk qI q03 zd ze JB),w1,qF,qZ,z5,L0,Leaf)
 rw[q1R qqv qtj]
 have:=qkH;have:=@q5U;have:=q5q rE rF hF hM hR;have:=q5t rE rF hF hM hR;have:=q4G rE rF hF hM hR;have:=@JJ.eq_1;have:=@zK.eq_1;exact gA
theorem q2g:∀x y,z6 x=z6 y→x=y:=by
 rintro⟨⟨qoU,qoV,qr5,qr6,qr7⟩,a1,a2,a3,a4,a5,a6⟩ ⟨⟨qoW,qoX,qr8,qr9,qra⟩,b1,b2,b3,b4,b5,b6⟩ h
 simp only[z6,Prod.mk.injEq,List.cons.injEq,R.c.injEq,R.agg.injEq,R.tup.injEq,C.d.injEq,C.own.injEq,C.ptr.injEq,C.eptr.injEq,D.int.injEq,D.bool.injEq,D.str.injEq,D.sl.injEq,B.blk.injEq,B.row.injEq,ZR,q0x,Je,Jm,q01,JX,JY,q1b,JV,q16,q18,ZS,true_and,and_true,List.nil_append] at h
 simp only[h]
theorem q5m:∀x y,zK x=zK y→x=y:=by
 rintro⟨a0,a1,a2,a3,a4,a5,a6⟩ ⟨b0,b1,b2,b3,b4,b5,b6⟩ h
 simp only[zK,Prod.mk.injEq,List.cons.injEq,R.c.injEq,R.agg.injEq,R.tup.injEq,C.d.injEq,C.own.injEq,C.ptr.injEq,C.eptr.injEq,D.int.injEq,D.bool.injEq,D.str.injEq,D.sl.injEq,B.blk.injEq,B.row.injEq,ZR,q0x,Je,Jm,q01,JX,JY,q1b,JV,q16,q18,ZS,true_and,and_true,List.nil_append] at h
 simp only[h]
noncomputable def zY:(qb×List Int×Int×Int×Int×List qa×Int)→Option (List Bool×List Int×Int×Int×Int×List qa×Int):=q5W 35 1 z6 zK
theorem q74 (x:(qb×List Int×Int×Int×Int×List qa×Int)):zY x=JJ zY x:=q6D qzp.2.2.2 q2g q5m q3l x
theorem q5Y (x1:qb) (w1:List Int) (qF qZ z5:Int) (L0:List qa) (Leaf:Int):ev 35 1 [rP 0,R.agg [dI x1.Kind,dI x1.N,dI x1.Min,dL 2 qe x1.Set,dL 5 qg x1.L]] [(0,B.blk 81 [dI qF,dI qZ,dI z5,dL 8 qd L0,dO 1 1 w1.length,dI Leaf]),(1,bR 3 1 eI w1)]=(zY (x1,w1,qF,qZ,z5,L0,Leaf)).bind (fun(e:List Bool×List Int×Int×Int×Int×List qa×Int)=>some (rL 1 eB e.1,[(0,B.blk 81 [dI e.2.2.1,dI e.2.2.2.1,dI e.2.2.2.2.1,dL 8 qd e.2.2.2.2.2.1,dO 1 1 e.2.1.length,dI e.2.2.2.2.2.2]),(1,bR 3 1 eI e.2.1)])):=(q56 qzp.2.2.2 q2g q3l (x1,w1,qF,qZ,z5,L0,Leaf))
theorem q6W:∀(qI q03 zd:Int) (ze:List qc) (JB:List qb) (w1:List Int) (qF qZ z5:Int) (L0:List qa) (Leaf:Int) (qQ:Nat),qQ=w1.length→ev 35 1 [rP 0,R.agg [dI qI,dI q03,dI zd,dL 2 qe ze,dL 5 qg JB]] [(0,B.blk 81 [dI qF,dI qZ,dI z5,dL 8 qd L0,dO 1 1 qQ,dI Leaf]),(1,bR 3 1 eI w1)]=(zY ((qb.mk qI q03 zd ze JB),w1,qF,qZ,z5,L0,Leaf)).bind (fun(e:List Bool×List Int×Int×Int×Int×List qa×Int)=>some (rL 1 eB e.1,[(0,B.blk 81 [dI e.2.2.1,dI e.2.2.2.1,dI e.2.2.2.2.1,dL 8 qd e.2.2.2.2.2.1,dO 1 1 e.2.1.length,dI e.2.2.2.2.2.2]),(1,bR 3 1 eI e.2.1)])):=
 by
 intro qI q03 zd ze JB w1 qF qZ z5 L0 Leaf qQ h0
 subst h0
 exact q5Y (qb.mk qI q03 zd ze JB) w1 qF qZ z5 L0 Leaf
noncomputable def JM (w2:List Int) (w3:List Int) (b0:qb) (b1:qf) (t2:List qa) (t3:Int) (t12:Int) (t15:Int):Int→Option (Int⊕(List Int×List Int))|t16=>if t16<t12 then if w2.length≤Go.maxLen∧w2.length*8≤140737488355328 then if w2.length+1≤Go.maxLen∧(w2.length+1)*8≤140737488355328 then Option.bind (zY (b0,(w2++[t16],(b1.Worst,(b1.Best,(b1.Pass,(t2,0))))))) fun(a:Prod (List Bool) (Prod (List Int) (Prod Int (Prod Int (Prod Int (Prod (List qa) Int))))))=>if 0≤t3∧t3<((a.1.length:Nat):Int) then Option.bind a.1[Int.toNat t3]? fun(a2:Bool)=>if a2=Bool.true then if w3.length+1≤Go.maxLen∧(w3.length+1)*8≤140737488355328 then some (Sum.inr (a.2.1,w3++[t16])) else none else some (Sum.inl (w64 (t16+1))) else none else none else none else some (Sum.inr (w2,w3))
theorem q7N:∀(w2 w3:List Int) (zo q1x zP:Int) (zQ:List qc) (zq:List qb) (QD ZE ZF:Int) (t2:List qa) (t3 t12 t15 t16:Int) (Zs zw:Nat),Zs=w2.length→zw=w3.length→XL2 evo 19 0 12 ⟨[(2,rL 8 qd t2),(3,rI t3),(4,rP 0),(5,rP 1),(12,rI t12),(13,rO 2 1 Zs),(14,rO 3 1 zw),(15,rI t15),(16,rI t16)],[(0,B.blk 30 [dI zo,dI q1x,dI zP,dL 2 qe zQ,dL 5 qg zq]),(1,B.blk 32 [dI QD,dI ZE,dI ZF]),(2,bR 3 1 eI w2),(3,bR 3 1 eI w3)],4,91⟩=(qX (JM w2 w3 (qb.mk zo q1x zP zQ zq) (qf.mk QD ZE ZF) t2 t3 t12 t15) t16).bind (fun(e:List Int×List Int)=>some (Go.Exit.exit 2,⟨[(2,rL 8 qd t2),(3,rI t3),(4,rP 0),(5,rP 1),(12,rI t12),(13,rO 2 1 e.1.length),(14,rO 3 1 e.2.length),(15,rI t15)],[(0,B.blk 30 [dI zo,dI q1x,dI zP,dL 2 qe zQ,dL 5 qg zq]),(1,B.blk 32 [dI QD,dI ZE,dI ZF]),(2,bR 3 1 eI e.1),(3,bR 3 1 eI e.2)],4,91⟩)):=
 by
 intro w2 w3 zo q1x zP zQ zq QD ZE ZF t2 t3 t12 t15 t16 Zs zw h0 h1
 subst h0 h1
 revert t16;exact qaQ quY qvy (fun e=>by exact⟨_,rfl,fun h=>by cases h⟩) fun x=>by
  have:=qDA;have:=@qi5.eq_1;have:=@q6W;have:=@JM.eq_1;exact gA
noncomputable def Zd (b0:qb) (b1:qf) (t2:List qa) (t3:Int) (t12:Int):(List Int×List Int×Int)→Option ((List Int×List Int×Int)⊕(List Int))|(w2,w3,t15)=>if t15<((t2.length:Nat):Int) then if 0≤t15 then if(JH Go.BinOp.and Go.IntKind.i64 (Int.fdiv t3 (2 ^ min (Int.toNat t15) (Go.IntKind.bits Go.IntKind.i64))) 1==0)=Bool.true then if w2.length+1≤Go.maxLen∧(w2.length+1)*8≤140737488355328 then some (Sum.inl (w2++[(-1)],w3,w64 (t15+1))) else none else Option.bind (qX (JM w2 w3 b0 b1 t2 t3 t12 t15) 0) fun(a:Prod (List Int) (List Int))=>some (Sum.inl (a.1,a.2,w64 (t15+1))) else none else some (Sum.inr w3)
theorem q8v:∀(w2 w3:List Int) (zo q1x zP:Int) (zQ:List qc) (zq:List qb) (QD ZE ZF:Int) (t2:List qa) (t3 t12 t15:Int) (Zs zw:Nat),Zs=w2.length→zw=w3.length→XL2 evo 19 0 7 ⟨[(2,rL 8 qd t2),(3,rI t3),(4,rP 0),(5,rP 1),(12,rI t12),(13,rO 2 1 Zs),(14,rO 3 1 zw),(15,rI t15)],[(0,B.blk 30 [dI zo,dI q1x,dI zP,dL 2 qe zQ,dL 5 qg zq]),(1,B.blk 32 [dI QD,dI ZE,dI ZF]),(2,bR 3 1 eI w2),(3,bR 3 1 eI w3)],4,91⟩=(qX (Zd (qb.mk zo q1x zP zQ zq) (qf.mk QD ZE ZF) t2 t3 t12) (w2,w3,t15)).bind (fun(e:List Int)=>some (Go.Exit.exit 0,⟨[(14,rO 0 1 e.length)],[(0,bR 3 1 eI e)],1,91⟩)):=
 by
 intro w2 w3 zo q1x zP zQ zq QD ZE ZF t2 t3 t12 t15 Zs zw h0 h1
 subst h0 h1
 revert t15;revert w3;revert w2;exact qEu qwK qyc (fun e=>by exact⟨_,rfl,fun h=>by cases h⟩) fun w2 w3 t15=>by
  have:=qDA;have:=@qm6.eq_1;have:=@q7N;have:=@Zd.eq_1;exact gA
theorem q6i:∀  (zo q1x zP:Int) (zQ:List qc) (zq:List qb) (QD ZE ZF:Int) (t2:List qa) (t3 t12 t15:Int),XL2 evo 19 0 7 ⟨[(2,rL 8 qd t2),(3,rI t3),(4,rP 0),(5,rP 1),(12,rI t12),(13,rO 2 1 0),(14,rO 3 1 0),(15,rI t15)],[(0,B.blk 30 [dI zo,dI q1x,dI zP,dL 2 qe zQ,dL 5 qg zq]),(1,B.blk 32 [dI QD,dI ZE,dI ZF]),(2,B.row 3 1 []),(3,B.row 3 1 [])],4,91⟩=(qX (Zd (qb.mk zo q1x zP zQ zq) (qf.mk QD ZE ZF) t2 t3 t12) ([],[],t15)).bind (fun(e:List Int)=>some (Go.Exit.exit 0,⟨[(14,rO 0 1 e.length)],[(0,bR 3 1 eI e)],1,91⟩)):=by
 intro zo q1x zP zQ zq QD ZE ZF t2 t3 t12 t15;have h:=q8v [] [] ((qb.mk zo q1x zP zQ zq)).Kind ((qb.mk zo q1x zP zQ zq)).N ((qb.mk zo q1x zP zQ zq)).Min ((qb.mk zo q1x zP zQ zq)).Set ((qb.mk zo q1x zP zQ zq)).L ((qf.mk QD ZE ZF)).Worst ((qf.mk QD ZE ZF)).Best ((qf.mk QD ZE ZF)).Pass t2 t3 t12 t15 _ _ rfl rfl
 first
  | exact h
  | (simp only[rL,dL,bR,bZ,Nat.reduceAdd] at h;exact h)
noncomputable def q0j (x0:qb) (x1:qf) (x2:List qa) (x3:Int):Option (List Int×Bool):=Option.bind (q0U x0 x1 x2) fun(a:Prod (List Bool) Int)=>if(a.2 != 0)=Bool.true then some ([],Bool.false) else if x3<0 then some ([],Bool.false) else if((a.1.length:Nat):Int)≤x3 then some ([],Bool.false) else if 0≤x3∧x3<((a.1.length:Nat):Int) then Option.bind a.1[Int.toNat x3]? fun(a2:Bool)=>if(!a2)=Bool.true then some ([],Bool.false) else Option.bind (q0F x0) fun(a3:List qb)=>Option.bind (qX (Zd x0 x1 x2 x3 ((a3.length:Nat):Int)) ([],([],0))) fun(a4:List Int)=>some (a4,Bool.true) else none
theorem qb5:∀(qw Z9 qG:Int) (qK:List qc) (Zf:List qb) (q1v q39 q3a:Int) (x2:List qa) (x3:Int),ev 19 0 [R.agg [dI qw,dI Z9,dI qG,dL 2 qe qK,dL 5 qg Zf],R.agg [dI q1v,dI q39,dI q3a],rL 8 qd x2,rI x3] []=(q0j (qb.mk qw Z9 qG qK Zf) (qf.mk q1v q39 q3a) x2 x3).bind (fun(e:List Int×Bool)=>some (R.tup [rL 1 eI e.1,rB e.2],[])):=
 fun qw Z9 qG qK Zf q1v q39 q3a x2 x3=>by
  rw[zc qyh qH5.2.2.2 qBR]
  have:=qDA;have:=@q7i;have:=@q5O;have:=@q6i;have:=@q0j.eq_1;exact gA
end Go.Proofs.YtgejdfnidjnjcaaGreat.Vc

namespace Go.Proofs.YtgejdfnidjnjcaaGreat.Vc
open Go.RowKit
set_option maxRecDepth 20000
set_option maxHeartbeats 8000000
theorem lo7:okL 7 qsr:=zb (qh bd7) (by kernel_rfl) (by kernel_rfl)
def cx7:=JA_ @qsr.eq_1 (JA_ @Tryz.f7.eq_1 @bd7)
theorem qHJ:okL 27 qnU:=zb (qh qEw) (by kernel_rfl) (by kernel_rfl)
def qJl:=JA_ @qnU.eq_1 (JA_ @Tryz.f27.eq_1 @qEw)
theorem qFy:okL 52 qiU:=zb (qh qBq) (by kernel_rfl) (by kernel_rfl)
def qGR:=JA_ @qiU.eq_1 (JA_ @Tryz.f52.eq_1 @qBq)
theorem qw8:lbO 52 9=qlc:=Q9 (qh qBq) rfl
theorem qvZ:okL 52 qlc:=zB qFy (List.mem_of_getElem? (i:=0) (by kernel_rfl))
theorem qK7:okL 75 qm8:=zb (qh qCB) (by kernel_rfl) (by kernel_rfl)
def qJi:=JA_ @qm8.eq_1 (JA_ @Tryz.f75.eq_1 @qCB)
noncomputable def qH (most:Int) (d:qj):Option (Int×qj):=if((d.L.length:Nat):Int)≤d.At then some (0,d) else if 0≤d.At∧d.At<((d.L.length:Nat):Int) then Option.bind d.L[Int.toNat d.At]? fun(a:Int)=>if most=0 then none else if most=0 then none else some (Int.tmod (w64 (Int.tmod a most+most)) most,qj.mk d.L (w64 (d.At+1))) else none
theorem q2i:∀(most:Int) (d_L:List Int) (q9q:Int),ev 75 1 [rP 0,rI most] [(0,B.blk 105 [dL 1 eI d_L,dI q9q])]=(qH most (qj.mk d_L q9q)).bind (fun(e:Int×qj)=>some (rI e.1,[(0,B.blk 105 [dL 1 eI e.2.L,dI e.2.At])])):=
 fun most d_L q9q=>by
  rw[zc qCB qG3.2.2.2 qK7]
  have:=qJi;have:=@qH.eq_1;exact gA
theorem qD3:okL 76 qgg:=zb (qh qAJ) (by kernel_rfl) (by kernel_rfl)
def qD4:=JA_ @qgg.eq_1 (JA_ @Tryz.f76.eq_1 @qAJ)
theorem qxc:lbO 76 4=ql2:=Q9 (qh qAJ) rfl
theorem qyP:okL 76 ql2:=zB qD3 (List.mem_of_getElem? (i:=0) (by kernel_rfl))
theorem qA3:lbO 76 8=qlG:=Q9 (qh qAJ) rfl
theorem qyi:okL 76 qlG:=zB qD3 (List.mem_of_getElem? (i:=1) (by kernel_rfl))
theorem qJz:okL 93 qnE:=zb (qh qCs) (by kernel_rfl) (by kernel_rfl)
def qHp:=JA_ @qnE.eq_1 (JA_ @Tryz.f93.eq_1 @qCs)
theorem qDm:okL 102 qhG:=zb (qh qva) (by kernel_rfl) (by kernel_rfl)
def qDQ:=JA_ @qhG.eq_1 (JA_ @Tryz.f102.eq_1 @qva)
noncomputable def q4a:Option (List ByteArray):=
 some [ByteArray.mk (List.toArray [65,49]),ByteArray.mk (List.toArray [66,49]),ByteArray.mk (List.toArray [66,50]),ByteArray.mk (List.toArray [67,49]),ByteArray.mk (List.toArray [68,49]),ByteArray.mk (List.toArray [69,57])]
noncomputable def Qf:List ByteArray:=
 [ByteArray.mk (List.toArray [65,49]),ByteArray.mk (List.toArray [66,49]),ByteArray.mk (List.toArray [66,50]),ByteArray.mk (List.toArray [67,49]),ByteArray.mk (List.toArray [68,49]),ByteArray.mk (List.toArray [69,57])]
theorem qaF:q4a=some (Qf):=by
 unfold q4a Qf
 simp only[QZ]
theorem qc7:ev 102 0 [] []=some (R.c (C.d (D.sl 1 (Qf).length ((Qf).flatMap eS))),[]):=
 by
  have h:ev 102 0 [] []=(q4a).bind (fun(e:List ByteArray)=>some (rL 1 eS e,[])):=by
   rw[zc qva qzU.2.2.2 qDm]
   have:=qDQ;have:=@q4a.eq_1;exact gA
  rw[qaF] at h
  exact h
noncomputable def q2o (d:qj):Option (qc×qj):=Option.bind (qH 6 d) fun(a:Prod Int qj)=>if 0≤a.1∧a.1<6 then Option.bind [(1:Int),1,1,2,2,3][Int.toNat a.1]? fun(a2:Int)=>Option.bind (qH ((Qf.length:Nat):Int) a.2) fun(a3:Prod Int qj)=>if 0≤a3.1∧a3.1<((Qf.length:Nat):Int) then Option.bind Qf[Int.toNat a3.1]? fun(a4:ByteArray)=>some (qc.mk a2 a4,a3.2) else none else none
theorem qaP:∀(d_L:List Int) (q9q:Int),ev 93 1 [rP 0] [(0,B.blk 105 [dL 1 eI d_L,dI q9q])]=(q2o (qj.mk d_L q9q)).bind (fun(e:qc×qj)=>some (R.agg [dI e.1.School,dS e.1.Code],[(0,B.blk 105 [dL 1 eI e.2.L,dI e.2.At])])):=
 fun d_L q9q=>by
  rw[zc qCs qGg.2.2.2 qJz]
  have:=qHp;have:=@q2i;have:=@qc7;have:=@q2o.eq_1;exact gA
noncomputable def q0D (out:List qc) (d:qj) (c:qc) (many:Int) (k:Int):Int→Option (Int⊕Int)|at0=>if at0<((out.length:Nat):Int) then if 0≤at0∧at0<((out.length:Nat):Int) then Option.bind out[Int.toNat at0]? fun(a:qc)=>if Q8 a c=Bool.true then some (Sum.inl (w64 (at0+1))) else some (Sum.inr at0) else none else some (Sum.inr at0)
theorem qb3:∀(out:List qc) (d_L:List Int) (q9q q0N:Int) (q42:ByteArray) (many k at0:Int) (QE:Nat),QE=out.length→XL2 evo 76 1 8 ⟨[(0,rP 0),(3,rI many),(4,rO 1 2 QE),(5,rI k),(6,rP 2),(7,rI at0)],[(0,B.blk 105 [dL 1 eI d_L,dI q9q]),(1,bR 51 2 qe out),(2,B.blk 51 [dI q0N,dS q42])],3,61⟩=(qX (q0D out (qj.mk d_L q9q) (qc.mk q0N q42) many k) at0).bind (fun(e:Int)=>some (Go.Exit.exit 2,⟨[(0,rP 0),(3,rI many),(4,rO 1 2 out.length),(5,rI k),(6,rP 2),(7,rI e)],[(0,B.blk 105 [dL 1 eI d_L,dI q9q]),(1,bR 51 2 qe out),(2,B.blk 51 [dI q0N,dS q42])],3,61⟩)):=
 by
 intro out d_L q9q q0N q42 many k at0 QE h0
 subst h0
 revert at0;exact qaQ qA3 qyi (fun e=>by exact⟨_,rfl,fun h=>by cases h⟩) fun x=>by
  have:=qD4;have:=@qlG.eq_1;have:=@q12;have:=@q0D.eq_1;exact gA
noncomputable def Jt (many:Int):(List qc×qj×Int)→Option ((List qc×qj×Int)⊕(List qc×qj))|(out,d,k)=>if k<many then Option.bind (q2o d) fun(a:Prod qc qj)=>Option.bind (qX (q0D out a.2 a.1 many k) 0) fun(a2:Int)=>if a2<((out.length:Nat):Int) then if 0≤a2∧a2<((out.length:Nat):Int) then Option.bind out[Int.toNat a2]? fun(a3:qc)=>if(a3.School==a.1.School)=Bool.true∧(ByteArray.toList a3.Code==ByteArray.toList a.1.Code)=Bool.true then some (Sum.inl (out,a.2,w64 (k+1))) else if out.length+1≤Go.maxLen∧(out.length+1)*24≤140737488355328 then if 0≤w64 (a2+1)∧w64 (a2+1)≤((out.length+1:Nat):Int) then if w64 (a2+1)=0∨w64 (a2+1)<((out.length+1:Nat):Int) then if 0≤a2∧a2≤((out.length+1:Nat):Int) then if a2=0∨a2<((out.length+1:Nat):Int) then if(List.take (out.length+1-Int.toNat a2) (List.drop (Int.toNat a2) (out++[qc.mk 0 (ByteArray.mk (List.toArray []))]))).length*2=(out.length+1-Int.toNat a2)*2∧Int.toNat (w64 (a2+1))*2+(out.length+1-Int.toNat (w64 (a2+1)))*2≤(out.length+1)*2 then if 0≤a2∧a2<((out.length+1:Nat):Int) then if Int.toNat a2*2+2≤(out.length+1)*2 then some (Sum.inl (List.set (spl (out++[qc.mk 0 (ByteArray.mk (List.toArray []))]) (Int.toNat (w64 (a2+1))) (List.take (min (out.length+1-Int.toNat a2) (out.length+1-Int.toNat (w64 (a2+1)))) (List.take (out.length+1-Int.toNat a2) (List.drop (Int.toNat a2) (out++[qc.mk 0 (ByteArray.mk (List.toArray []))]))))) (Int.toNat a2) a.1,a.2,w64 (k+1))) else none else none else none else if Int.toNat (w64 (a2+1))*2+(out.length+1-Int.toNat (w64 (a2+1)))*2≤(out.length+1)*2 then if 0≤a2∧a2<((out.length+1:Nat):Int) then if Int.toNat a2*2+2≤(out.length+1)*2 then some (Sum.inl (List.set (out++[qc.mk 0 (ByteArray.mk (List.toArray []))]) (Int.toNat a2) a.1,a.2,w64 (k+1))) else none else none else none else none else if 0≤a2∧a2≤((out.length+1:Nat):Int) then if a2=0∨a2<((out.length+1:Nat):Int) then if(List.take (out.length+1-Int.toNat a2) (List.drop (Int.toNat a2) (out++[qc.mk 0 (ByteArray.mk (List.toArray []))]))).length*2=(out.length+1-Int.toNat a2)*2 then if 0≤a2∧a2<((out.length+1:Nat):Int) then if Int.toNat a2*2+2≤(out.length+1)*2 then some (Sum.inl (List.set (out++[qc.mk 0 (ByteArray.mk (List.toArray []))]) (Int.toNat a2) a.1,a.2,w64 (k+1))) else none else none else none else if 0≤a2∧a2<((out.length+1:Nat):Int) then if Int.toNat a2*2+2≤(out.length+1)*2 then some (Sum.inl (List.set (out++[qc.mk 0 (ByteArray.mk (List.toArray []))]) (Int.toNat a2) a.1,a.2,w64 (k+1))) else none else none else none else none else none else none else if out.length+1≤Go.maxLen∧(out.length+1)*24≤140737488355328 then if 0≤w64 (a2+1)∧w64 (a2+1)≤((out.length+1:Nat):Int) then if w64 (a2+1)=0∨w64 (a2+1)<((out.length+1:Nat):Int) then if 0≤a2∧a2≤((out.length+1:Nat):Int) then if a2=0∨a2<((out.length+1:Nat):Int) then if(List.take (out.length+1-Int.toNat a2) (List.drop (Int.toNat a2) (out++[qc.mk 0 (ByteArray.mk (List.toArray []))]))).length*2=(out.length+1-Int.toNat a2)*2∧Int.toNat (w64 (a2+1))*2+(out.length+1-Int.toNat (w64 (a2+1)))*2≤(out.length+1)*2 then if 0≤a2∧a2<((out.length+1:Nat):Int) then if Int.toNat a2*2+2≤(out.length+1)*2 then some (Sum.inl (List.set (spl (out++[qc.mk 0 (ByteArray.mk (List.toArray []))]) (Int.toNat (w64 (a2+1))) (List.take (min (out.length+1-Int.toNat a2) (out.length+1-Int.toNat (w64 (a2+1)))) (List.take (out.length+1-Int.toNat a2) (List.drop (Int.toNat a2) (out++[qc.mk 0 (ByteArray.mk (List.toArray []))]))))) (Int.toNat a2) a.1,a.2,w64 (k+1))) else none else none else none else if Int.toNat (w64 (a2+1))*2+(out.length+1-Int.toNat (w64 (a2+1)))*2≤(out.length+1)*2 then if 0≤a2∧a2<((out.length+1:Nat):Int) then if Int.toNat a2*2+2≤(out.length+1)*2 then some (Sum.inl (List.set (out++[qc.mk 0 (ByteArray.mk (List.toArray []))]) (Int.toNat a2) a.1,a.2,w64 (k+1))) else none else none else none else none else if 0≤a2∧a2≤((out.length+1:Nat):Int) then if a2=0∨a2<((out.length+1:Nat):Int) then if(List.take (out.length+1-Int.toNat a2) (List.drop (Int.toNat a2) (out++[qc.mk 0 (ByteArray.mk (List.toArray []))]))).length*2=(out.length+1-Int.toNat a2)*2 then if 0≤a2∧a2<((out.length+1:Nat):Int) then if Int.toNat a2*2+2≤(out.length+1)*2 then some (Sum.inl (List.set (out++[qc.mk 0 (ByteArray.mk (List.toArray []))]) (Int.toNat a2) a.1,a.2,w64 (k+1))) else none else none else none else if 0≤a2∧a2<((out.length+1:Nat):Int) then if Int.toNat a2*2+2≤(out.length+1)*2 then some (Sum.inl (List.set (out++[qc.mk 0 (ByteArray.mk (List.toArray []))]) (Int.toNat a2) a.1,a.2,w64 (k+1))) else none else none else none else none else none else some (Sum.inr (out,d))
theorem qbb:∀(out:List qc) (d_L:List Int) (q9q many k:Int) (QE:Nat),QE=out.length→XL2 evo 76 1 4 ⟨[(0,rP 0),(3,rI many),(4,rO 1 2 QE),(5,rI k)],[(0,B.blk 105 [dL 1 eI d_L,dI q9q]),(1,bR 51 2 qe out)],2,61⟩=(qX (Jt many) (out,(qj.mk d_L q9q),k)).bind (fun(e:List qc×qj)=>some (Go.Exit.exit 0,⟨[(4,rO 1 2 e.1.length)],[(0,B.blk 105 [dL 1 eI e.2.L,dI e.2.At]),(1,bR 51 2 qe e.1)],2,61⟩)):=
 by
 intro out d_L q9q many k QE h0
 subst h0
 have h:=q3T (E:=evo) (f:=76) (k:=1) (st:=fun x:List qc×qj×Int=>(⟨[(0,rP 0),(3,rI many),(4,rO 1 2 x.1.length),(5,rI x.2.2)],[(0,B.blk 105 [dL 1 eI x.2.1.L,dI x.2.1.At]),(1,bR 51 2 qe x.1)],2,61⟩:S)) (ex:=fun(e:List qc×qj)=>(Go.Exit.exit 0,⟨[(4,rO 1 2 e.1.length)],[(0,B.blk 105 [dL 1 eI e.2.L,dI e.2.At]),(1,bR 51 2 qe e.1)],2,61⟩)) (step:=(Jt many)) qxc qyP (fun e h=>by cases h) (fun x=>by
  obtain⟨out,d,k⟩:=x;have:=qD4;have:=@ql2.eq_1;have:=@qaP;have:=@qb3;have:=@Jt.eq_1;exact gA) (out,(qj.mk d_L q9q),k)
 exact h
theorem q8n:∀  (d_L:List Int) (q9q many k:Int),XL2 evo 76 1 4 ⟨[(0,rP 0),(3,rI many),(4,rO 1 2 0),(5,rI k)],[(0,B.blk 105 [dL 1 eI d_L,dI q9q]),(1,B.row 51 2 [])],2,61⟩=(qX (Jt many) ([],(qj.mk d_L q9q),k)).bind (fun(e:List qc×qj)=>some (Go.Exit.exit 0,⟨[(4,rO 1 2 e.1.length)],[(0,B.blk 105 [dL 1 eI e.2.L,dI e.2.At]),(1,bR 51 2 qe e.1)],2,61⟩)):=by
 intro d_L q9q many k;have h:=qbb [] ((qj.mk d_L q9q)).L ((qj.mk d_L q9q)).At many k _ rfl
 first
  | exact h
  | (simp only[rL,dL,bR,bZ,Nat.reduceAdd] at h;exact h)
noncomputable def JU (d:qj):Option (List qc×qj):=Option.bind (qH 3 d) fun(a:Prod Int qj)=>Option.bind (qX (Jt (w64 (1+a.1))) ([],(a.2,0))) fun(a2:Prod (List qc) qj)=>some (a2.1,a2.2)
theorem qeh:∀(d_L:List Int) (q9q:Int),ev 76 1 [rP 0] [(0,B.blk 105 [dL 1 eI d_L,dI q9q])]=(JU (qj.mk d_L q9q)).bind (fun(e:List qc×qj)=>some (rL 2 qe e.1,[(0,B.blk 105 [dL 1 eI e.2.L,dI e.2.At])])):=
 fun d_L q9q=>by
  rw[zc qAJ qGa.2.2.2 qD3]
  have:=qD4;have:=@q2i;have:=@q8n;have:=@JU.eq_1;exact gA
noncomputable def Zt (x:(Int×Int×qj)):List R×List (Nat×B):=([R.c (C.ptr 0 0),R.c (C.d (D.int .i64 x.1)),R.c (C.d (D.int .i64 x.2.1))],[(0,B.blk 105 [C.d (D.sl 1 x.2.2.L.length (x.2.2.L.flatMap eI)),C.d (D.int .i64 x.2.2.At)])])
noncomputable def Jz:(qb×qj)→R×List (Nat×B):=fun(e:qb×qj)=>(R.agg [C.d (D.int .i64 e.1.Kind),C.d (D.int .i64 e.1.N),C.d (D.int .i64 e.1.Min),C.d (D.sl 2 e.1.Set.length (e.1.Set.flatMap qe)),C.d (D.sl 5 e.1.L.length (e.1.L.flatMap qg))],[(0,B.blk 105 [C.d (D.sl 1 e.2.L.length (e.2.L.flatMap eI)),C.d (D.int .i64 e.2.At)])])
noncomputable def Zo (rF:(Int×Int×qj)→Option (qb×qj)) (qv:Int) (QJ:Int) (qC:Int) (zn:Int) (q1w:Int) (zO:Int) (t1:Int) (t2:Int) (t7:Int) (t8:Int):(List qb×qj×Int)→Option ((List qb×qj×Int)⊕(List qb×qj))|(w3,b0,t10)=>if t10<t8 then if t8=0 then none else Option.bind (rF (w64 (t1-1),(w64 (Int.tdiv t2 t8),b0))) fun(a2:Prod qb qj)=>if w3.length+1≤Go.maxLen∧(w3.length+1)*72≤140737488355328 then some (Sum.inl (w3++[a2.1],a2.2,w64 (t10+1))) else none else some (Sum.inr (w3,b0))
theorem q9R (rE:Orc) (rF:(Int×Int×qj)→Option (qb×qj)) (hF:∀y,rE (.fn 52) 1 (Zt y).1 (Zt y).2=(rF y).bind fun e=>some (Jz e)) (hM:∀g k a G,g≠52→rE (.fn g) k a G=ev g k a G) (hR:∀g asg bd k a G,rE (.rd g asg bd) k a G=evr g asg bd k a G):∀(w3:List qb) (zq:List Int) (q5v qv QJ qC zn q1w zO t1 t2 t7 t8 t10:Int) (zw:Nat),zw=w3.length→XL2 rE 52 1 9 ⟨[(0,rP 0),(1,rI t1),(2,rI t2),(6,rP 1),(7,rI t7),(8,rI t8),(9,rP 2),(10,rI t10)],[(0,B.blk 105 [dL 1 eI zq,dI q5v]),(1,B.blk 30 [dI qv,dI QJ,dI qC,C.nils,C.nils]),(2,B.blk 30 [dI zn,dI q1w,dI zO,C.nils,dO 3 5 zw]),(3,bR 30 5 qg w3)],4,77⟩=(qX (Zo rF qv QJ qC zn q1w zO t1 t2 t7 t8) (w3,(qj.mk zq q5v),t10)).bind (fun(e:List qb×qj)=>some (Go.Exit.exit 0,⟨[(0,rP 0),(6,rP 1),(7,rI t7),(8,rI t8),(9,rP 2)],[(0,B.blk 105 [dL 1 eI e.2.L,dI e.2.At]),(1,B.blk 30 [dI qv,dI QJ,dI qC,C.nils,C.nils]),(2,B.blk 30 [dI zn,dI q1w,dI zO,C.nils,dO 3 5 e.1.length]),(3,bR 30 5 qg e.1)],4,77⟩)):=
 by
 intro w3 zq q5v qv QJ qC zn q1w zO t1 t2 t7 t8 t10 zw h0
 subst h0
 have h:=q3T (E:=rE) (f:=52) (k:=1) (st:=fun x:List qb×qj×Int=>(⟨[(0,rP 0),(1,rI t1),(2,rI t2),(6,rP 1),(7,rI t7),(8,rI t8),(9,rP 2),(10,rI x.2.2)],[(0,B.blk 105 [dL 1 eI x.2.1.L,dI x.2.1.At]),(1,B.blk 30 [dI qv,dI QJ,dI qC,C.nils,C.nils]),(2,B.blk 30 [dI zn,dI q1w,dI zO,C.nils,dO 3 5 x.1.length]),(3,bR 30 5 qg x.1)],4,77⟩:S)) (ex:=fun(e:List qb×qj)=>(Go.Exit.exit 0,⟨[(0,rP 0),(6,rP 1),(7,rI t7),(8,rI t8),(9,rP 2)],[(0,B.blk 105 [dL 1 eI e.2.L,dI e.2.At]),(1,B.blk 30 [dI qv,dI QJ,dI qC,C.nils,C.nils]),(2,B.blk 30 [dI zn,dI q1w,dI zO,C.nils,dO 3 5 e.1.length]),(3,bR 30 5 qg e.1)],4,77⟩)) (step:=(Zo rF qv QJ qC zn q1w zO t1 t2 t7 t8)) qw8 qvZ (fun e h=>by cases h) (fun x=>by
  obtain⟨w3,b0,t10⟩:=x;have hF':∀(x1 x2:Int) (v_L:List Int) (qjS:Int),rE (.fn 52) 1 [rP 0,rI x1,rI x2] [(0,B.blk 105 [dL 1 eI v_L,dI qjS])]=(rF (x1,x2,(qj.mk v_L qjS))).bind (fun e=>some (R.agg [dI e.1.Kind,dI e.1.N,dI e.1.Min,dL 2 qe e.1.Set,dL 5 qg e.1.L],[(0,B.blk 105 [dL 1 eI e.2.L,dI e.2.At])])):=fun x1 x2 v_L qjS=>hF (x1,x2,(qj.mk v_L qjS))
  have:=qGR;have:=@qlc.eq_1;have:=@Zo.eq_1;exact gA) (w3,(qj.mk zq q5v),t10)
 exact h
theorem q7B:∀(rE:Orc) (rF:(Int×Int×qj)→Option (qb×qj)) (hF:∀y,rE (.fn 52) 1 (Zt y).1 (Zt y).2=(rF y).bind fun e=>some (Jz e)) (hM:∀g k a G,g≠52→rE (.fn g) k a G=ev g k a G) (hR:∀g asg bd k a G,rE (.rd g asg bd) k a G=evr g asg bd k a G),∀  (zq:List Int) (q5v qv QJ qC zn q1w zO t1 t2 t7 t8 t10:Int),XL2 rE 52 1 9 ⟨[(0,rP 0),(1,rI t1),(2,rI t2),(6,rP 1),(7,rI t7),(8,rI t8),(9,rP 2),(10,rI t10)],[(0,B.blk 105 [dL 1 eI zq,dI q5v]),(1,B.blk 30 [dI qv,dI QJ,dI qC,C.nils,C.nils]),(2,B.blk 30 [dI zn,dI q1w,dI zO,C.nils,dO 3 5 0]),(3,B.row 30 5 [])],4,77⟩=(qX (Zo rF qv QJ qC zn q1w zO t1 t2 t7 t8) ([],(qj.mk zq q5v),t10)).bind (fun(e:List qb×qj)=>some (Go.Exit.exit 0,⟨[(0,rP 0),(6,rP 1),(7,rI t7),(8,rI t8),(9,rP 2)],[(0,B.blk 105 [dL 1 eI e.2.L,dI e.2.At]),(1,B.blk 30 [dI qv,dI QJ,dI qC,C.nils,C.nils]),(2,B.blk 30 [dI zn,dI q1w,dI zO,C.nils,dO 3 5 e.1.length]),(3,bR 30 5 qg e.1)],4,77⟩)):=by
 intro rE rF hF hM hR zq q5v qv QJ qC zn q1w zO t1 t2 t7 t8 t10;have h:=q9R rE rF hF hM hR [] ((qj.mk zq q5v)).L ((qj.mk zq q5v)).At qv QJ qC zn q1w zO t1 t2 t7 t8 t10 _ rfl
 first
  | exact h
  | (simp only[rL,dL,bR,bZ,Nat.reduceAdd] at h;exact h)
noncomputable def q1X (rF:(Int×Int×qj)→Option (qb×qj)):(Int×Int×qj)→Option (qb×qj)|(x1,x2,v)=>Option.bind (qH 6 v) fun(a2:Prod Int qj)=>if x1≤0 then Option.bind (qH 3 a2.2) fun(a3:Prod Int qj)=>if(a3.1==0)=Bool.true then Option.bind (qH 12 a3.2) fun(a4:Prod Int qj)=>Option.bind (qH 3 a4.2) fun(a5:Prod Int qj)=>if 0≤a5.1∧a5.1<3 then Option.bind [(0:Int),50,60][Int.toNat a5.1]? fun(a6:Int)=>Option.bind (JU a5.2) fun(a7:Prod (List qc) qj)=>some (qb.mk 2 (w64 (1+a4.1)) a6 a7.1 [],a7.2) else none else Option.bind (qH 4 a3.2) fun(a8:Prod Int qj)=>if 0≤a8.1∧a8.1<4 then Option.bind [(0:Int),50,60,80][Int.toNat a8.1]? fun(a9:Int)=>Option.bind (JU a8.2) fun(a10:Prod (List qc) qj)=>some (qb.mk 1 0 a9 a10.1 [],a10.2) else none else if x2<2 then Option.bind (qH 3 a2.2) fun(a11:Prod Int qj)=>if(a11.1==0)=Bool.true then Option.bind (qH 12 a11.2) fun(a12:Prod Int qj)=>Option.bind (qH 3 a12.2) fun(a13:Prod Int qj)=>if 0≤a13.1∧a13.1<3 then Option.bind [(0:Int),50,60][Int.toNat a13.1]? fun(a14:Int)=>Option.bind (JU a13.2) fun(a15:Prod (List qc) qj)=>some (qb.mk 2 (w64 (1+a12.1)) a14 a15.1 [],a15.2) else none else Option.bind (qH 4 a11.2) fun(a16:Prod Int qj)=>if 0≤a16.1∧a16.1<4 then Option.bind [(0:Int),50,60,80][Int.toNat a16.1]? fun(a17:Int)=>Option.bind (JU a16.2) fun(a18:Prod (List qc) qj)=>some (qb.mk 1 0 a17 a18.1 [],a18.2) else none else if a2.1<2 then Option.bind (qH 3 a2.2) fun(a19:Prod Int qj)=>if(a19.1==0)=Bool.true then Option.bind (qH 12 a19.2) fun(a20:Prod Int qj)=>Option.bind (qH 3 a20.2) fun(a21:Prod Int qj)=>if 0≤a21.1∧a21.1<3 then Option.bind [(0:Int),50,60][Int.toNat a21.1]? fun(a22:Int)=>Option.bind (JU a21.2) fun(a23:Prod (List qc) qj)=>some (qb.mk 2 (w64 (1+a20.1)) a22 a23.1 [],a23.2) else none else Option.bind (qH 4 a19.2) fun(a24:Prod Int qj)=>if 0≤a24.1∧a24.1<4 then Option.bind [(0:Int),50,60,80][Int.toNat a24.1]? fun(a25:Int)=>Option.bind (JU a24.2) fun(a26:Prod (List qc) qj)=>some (qb.mk 1 0 a25 a26.1 [],a26.2) else none else Option.bind (qH (min 3 x2) a2.2) fun(a27:Prod Int qj)=>Option.bind (qX (Zo rF 0 0 0 3 0 0 x1 x2 a2.1 (w64 (1+a27.1))) ([],(a27.2,0))) fun(a28:Prod (List qb) qj)=>if 3<a2.1 then Option.bind (qH (w64 (1+a27.1)) a28.2) fun(a29:Prod Int qj)=>some (qb.mk 4 (w64 (1+a29.1)) 0 [] a28.1,a29.2) else some (qb.mk 3 0 0 [] a28.1,a28.2)
theorem q7k:q4u 52 1 Zt Jz q1X:=by
 intro rE rF hF hM hR x
 obtain⟨x1,x2,v⟩:=x
 show q78 rE 52 1 [rP 0,rI x1,rI x2] [(0,B.blk 105 [dL 1 eI v.L,dI v.At])]=_
 have hF':∀(x1 x2:Int) (v_L:List Int) (qjS:Int),rE (.fn 52) 1 [rP 0,rI x1,rI x2] [(0,B.blk 105 [dL 1 eI v_L,dI qjS])]=(rF (x1,x2,(qj.mk v_L qjS))).bind (fun e=>some (R.agg [dI e.1.Kind,dI e.1.N,dI e.1.Min,dL 2 qe e.1.Set,dL 5 qg e.1.L],[(0,B.blk 105 [dL 1 eI e.2.L,dI e.2.At])])):=fun x1 x2 v_L qjS=>hF (x1,x2,(qj.mk v_L qjS))
 rw[q1R qBq qFy]
 have:=qGR;have:=@q2i;have:=@qeh;have:=q7B rE rF hF hM hR;have:=@q1X.eq_1;have:=@Jz.eq_1;exact gA
theorem q4w:∀x y,Zt x=Zt y→x=y:=by
 rintro⟨a0,a1,⟨qKE,qKF⟩⟩ ⟨b0,b1,⟨qKG,qKH⟩⟩ h
 simp only[Zt,Prod.mk.injEq,List.cons.injEq,R.c.injEq,R.agg.injEq,R.tup.injEq,C.d.injEq,C.own.injEq,C.ptr.injEq,C.eptr.injEq,D.int.injEq,D.bool.injEq,D.str.injEq,D.sl.injEq,B.blk.injEq,B.row.injEq,ZR,q0x,Je,Jm,q01,JX,JY,q1b,JV,q16,q18,ZS,true_and,and_true,List.nil_append] at h
 simp only[h]
theorem qap:∀x y,Jz x=Jz y→x=y:=by
 rintro⟨⟨qoU,qoV,qr5,qr6,qr7⟩,⟨qHe,qBP⟩⟩ ⟨⟨qoW,qoX,qr8,qr9,qra⟩,⟨qHf,qBQ⟩⟩ h
 simp only[Jz,Prod.mk.injEq,List.cons.injEq,R.c.injEq,R.agg.injEq,R.tup.injEq,C.d.injEq,C.own.injEq,C.ptr.injEq,C.eptr.injEq,D.int.injEq,D.bool.injEq,D.str.injEq,D.sl.injEq,B.blk.injEq,B.row.injEq,ZR,q0x,Je,Jm,q01,JX,JY,q1b,JV,q16,q18,ZS,true_and,and_true,List.nil_append] at h
 simp only[h]
noncomputable def q0y:(Int×Int×qj)→Option (qb×qj):=q5W 52 1 Zt Jz
theorem q7n (x:(Int×Int×qj)):q0y x=q1X q0y x:=q6D qBU.2.2.2 q4w qap q7k x
theorem qbM (x1 x2:Int) (v:qj):ev 52 1 [rP 0,rI x1,rI x2] [(0,B.blk 105 [dL 1 eI v.L,dI v.At])]=(q0y (x1,x2,v)).bind (fun(e:qb×qj)=>some (R.agg [dI e.1.Kind,dI e.1.N,dI e.1.Min,dL 2 qe e.1.Set,dL 5 qg e.1.L],[(0,B.blk 105 [dL 1 eI e.2.L,dI e.2.At])])):=(q56 qBU.2.2.2 q4w q7k (x1,x2,v))
theorem qdR:∀(x1 x2:Int) (v_L:List Int) (qjS:Int),ev 52 1 [rP 0,rI x1,rI x2] [(0,B.blk 105 [dL 1 eI v_L,dI qjS])]=(q0y (x1,x2,(qj.mk v_L qjS))).bind (fun(e:qb×qj)=>some (R.agg [dI e.1.Kind,dI e.1.N,dI e.1.Min,dL 2 qe e.1.Set,dL 5 qg e.1.L],[(0,B.blk 105 [dL 1 eI e.2.L,dI e.2.At])])):=
 fun x1 x2 v_L qjS=>qbM x1 x2 (qj.mk v_L qjS)
noncomputable def q3M (l:List Int):Option qb:=Option.bind (q0y (3,(6,qj.mk l 0))) fun(a:Prod qb qj)=>some a.1
theorem qdm:∀(l:List Int),ev 27 0 [rL 1 eI l] []=(q3M l).bind (fun(e:qb)=>some (R.agg [dI e.Kind,dI e.N,dI e.Min,dL 2 qe e.Set,dL 5 qg e.L],[])):=
 fun l=>by
  rw[zc qEw qGF.2.2.2 qHJ]
  have:=qJl;have:=@qdR;have:=@q3M.eq_1;exact gA
theorem qGN:okL 28 qjn:=zb (qh qBK) (by kernel_rfl) (by kernel_rfl)
def qFf:=JA_ @qjn.eq_1 (JA_ @Tryz.f28.eq_1 @qBK)
theorem qzs:lbO 28 6=qo4:=Q9 (qh qBK) rfl
theorem qxp:okL 28 qo4:=zB qGN (List.mem_of_getElem? (i:=0) (by kernel_rfl))
theorem qB7:okL 53 qeI:=zb (qh qvO) (by kernel_rfl) (by kernel_rfl)
def quw:=JA_ @qeI.eq_1 (JA_ @Tryz.f53.eq_1 @qvO)
theorem qrV:lbO 53 4=qim:=Q9 (qh qvO) rfl
theorem qrw:okL 53 qim:=zB qB7 (List.mem_of_getElem? (i:=0) (by kernel_rfl))
theorem qs1:lbO 53 8=qjG:=Q9 (qh qvO) rfl
theorem qsa:okL 53 qjG:=zB qB7 (List.mem_of_getElem? (i:=1) (by kernel_rfl))
theorem qnM:lbO 53 11=qeW:=Q9 (qh qvO) rfl
theorem qnj:okL 53 qeW:=zB qB7 (List.mem_of_getElem? (i:=2) (by kernel_rfl))
noncomputable def q2C (w0:List qc) (t3:List ql) (t6:Int) (t7:List qc) (t8:Int):Int→Option (Int⊕Int)|t9=>if t9<((w0.length:Nat):Int) then if 0≤t9∧t9<((w0.length:Nat):Int) then Option.bind w0[Int.toNat t9]? fun(a:qc)=>if 0≤t8∧t8<((t7.length:Nat):Int) then Option.bind t7[Int.toNat t8]? fun(a2:qc)=>if Q8 a a2=Bool.true then some (Sum.inl (w64 (t9+1))) else some (Sum.inr t9) else none else none else some (Sum.inr t9)
theorem q75:∀(w0:List qc) (t3:List ql) (t6:Int) (t7:List qc) (t8 t9:Int) (q0T:Nat),q0T=w0.length→XL2 evo 53 0 11 ⟨[(3,rL 6 qE t3),(5,rO 0 2 q0T),(6,rI t6),(7,rL 2 qe t7),(8,rI t8),(9,rI t9)],[(0,bR 51 2 qe w0)],1,85⟩=(qX (q2C w0 t3 t6 t7 t8) t9).bind (fun(e:Int)=>some (Go.Exit.exit 4,⟨[(3,rL 6 qE t3),(5,rO 0 2 w0.length),(6,rI t6),(7,rL 2 qe t7),(8,rI t8),(9,rI e)],[(0,bR 51 2 qe w0)],1,85⟩)):=
 by
 intro w0 t3 t6 t7 t8 t9 q0T h0
 subst h0
 revert t9;exact qaQ qnM qnj (fun e=>by exact⟨_,rfl,fun h=>by cases h⟩) fun x=>by
  have:=quw;have:=@qeW.eq_1;have:=@q12;have:=@q2C.eq_1;exact gA
noncomputable def q34 (t3:List ql) (t6:Int) (t7:List qc):(List qc×Int)→Option ((List qc×Int)⊕(List qc))|(w0,t8)=>if t8<((t7.length:Nat):Int) then Option.bind (qX (q2C w0 t3 t6 t7 t8) 0) fun(a:Int)=>if a<((w0.length:Nat):Int) then if 0≤a∧a<((w0.length:Nat):Int) then Option.bind w0[Int.toNat a]? fun(a2:qc)=>if 0≤t8∧t8<((t7.length:Nat):Int) then Option.bind t7[Int.toNat t8]? fun(a3:qc)=>if(a2.School==a3.School)=Bool.true∧(ByteArray.toList a2.Code==ByteArray.toList a3.Code)=Bool.true then some (Sum.inl (w0,w64 (t8+1))) else if w0.length+1≤Go.maxLen∧(w0.length+1)*24≤140737488355328 then if 0≤w64 (a+1)∧w64 (a+1)≤((w0.length+1:Nat):Int) then if w64 (a+1)=0∨w64 (a+1)<((w0.length+1:Nat):Int) then if 0≤a∧a≤((w0.length+1:Nat):Int) then if a=0∨a<((w0.length+1:Nat):Int) then if(List.take (w0.length+1-Int.toNat a) (List.drop (Int.toNat a) (w0++[qc.mk 0 (ByteArray.mk (List.toArray []))]))).length*2=(w0.length+1-Int.toNat a)*2∧Int.toNat (w64 (a+1))*2+(w0.length+1-Int.toNat (w64 (a+1)))*2≤(w0.length+1)*2 then if 0≤t8∧t8<((t7.length:Nat):Int) then Option.bind t7[Int.toNat t8]? fun(a4:qc)=>if 0≤a∧a<((w0.length+1:Nat):Int) then if Int.toNat a*2+2≤(w0.length+1)*2 then some (Sum.inl (List.set (spl (w0++[qc.mk 0 (ByteArray.mk (List.toArray []))]) (Int.toNat (w64 (a+1))) (List.take (min (w0.length+1-Int.toNat a) (w0.length+1-Int.toNat (w64 (a+1)))) (List.take (w0.length+1-Int.toNat a) (List.drop (Int.toNat a) (w0++[qc.mk 0 (ByteArray.mk (List.toArray []))]))))) (Int.toNat a) a4,w64 (t8+1))) else none else none else none else none else if Int.toNat (w64 (a+1))*2+(w0.length+1-Int.toNat (w64 (a+1)))*2≤(w0.length+1)*2 then if 0≤t8∧t8<((t7.length:Nat):Int) then Option.bind t7[Int.toNat t8]? fun(a5:qc)=>if 0≤a∧a<((w0.length+1:Nat):Int) then if Int.toNat a*2+2≤(w0.length+1)*2 then some (Sum.inl (List.set (w0++[qc.mk 0 (ByteArray.mk (List.toArray []))]) (Int.toNat a) a5,w64 (t8+1))) else none else none else none else none else none else if 0≤a∧a≤((w0.length+1:Nat):Int) then if a=0∨a<((w0.length+1:Nat):Int) then if(List.take (w0.length+1-Int.toNat a) (List.drop (Int.toNat a) (w0++[qc.mk 0 (ByteArray.mk (List.toArray []))]))).length*2=(w0.length+1-Int.toNat a)*2 then if 0≤t8∧t8<((t7.length:Nat):Int) then Option.bind t7[Int.toNat t8]? fun(a6:qc)=>if 0≤a∧a<((w0.length+1:Nat):Int) then if Int.toNat a*2+2≤(w0.length+1)*2 then some (Sum.inl (List.set (w0++[qc.mk 0 (ByteArray.mk (List.toArray []))]) (Int.toNat a) a6,w64 (t8+1))) else none else none else none else none else if 0≤t8∧t8<((t7.length:Nat):Int) then Option.bind t7[Int.toNat t8]? fun(a7:qc)=>if 0≤a∧a<((w0.length+1:Nat):Int) then if Int.toNat a*2+2≤(w0.length+1)*2 then some (Sum.inl (List.set (w0++[qc.mk 0 (ByteArray.mk (List.toArray []))]) (Int.toNat a) a7,w64 (t8+1))) else none else none else none else none else none else none else none else none else if w0.length+1≤Go.maxLen∧(w0.length+1)*24≤140737488355328 then if 0≤w64 (a+1)∧w64 (a+1)≤((w0.length+1:Nat):Int) then if w64 (a+1)=0∨w64 (a+1)<((w0.length+1:Nat):Int) then if 0≤a∧a≤((w0.length+1:Nat):Int) then if a=0∨a<((w0.length+1:Nat):Int) then if(List.take (w0.length+1-Int.toNat a) (List.drop (Int.toNat a) (w0++[qc.mk 0 (ByteArray.mk (List.toArray []))]))).length*2=(w0.length+1-Int.toNat a)*2∧Int.toNat (w64 (a+1))*2+(w0.length+1-Int.toNat (w64 (a+1)))*2≤(w0.length+1)*2 then if 0≤t8∧t8<((t7.length:Nat):Int) then Option.bind t7[Int.toNat t8]? fun(a8:qc)=>if 0≤a∧a<((w0.length+1:Nat):Int) then if Int.toNat a*2+2≤(w0.length+1)*2 then some (Sum.inl (List.set (spl (w0++[qc.mk 0 (ByteArray.mk (List.toArray []))]) (Int.toNat (w64 (a+1))) (List.take (min (w0.length+1-Int.toNat a) (w0.length+1-Int.toNat (w64 (a+1)))) (List.take (w0.length+1-Int.toNat a) (List.drop (Int.toNat a) (w0++[qc.mk 0 (ByteArray.mk (List.toArray []))]))))) (Int.toNat a) a8,w64 (t8+1))) else none else none else none else none else if Int.toNat (w64 (a+1))*2+(w0.length+1-Int.toNat (w64 (a+1)))*2≤(w0.length+1)*2 then if 0≤t8∧t8<((t7.length:Nat):Int) then Option.bind t7[Int.toNat t8]? fun(a9:qc)=>if 0≤a∧a<((w0.length+1:Nat):Int) then if Int.toNat a*2+2≤(w0.length+1)*2 then some (Sum.inl (List.set (w0++[qc.mk 0 (ByteArray.mk (List.toArray []))]) (Int.toNat a) a9,w64 (t8+1))) else none else none else none else none else none else if 0≤a∧a≤((w0.length+1:Nat):Int) then if a=0∨a<((w0.length+1:Nat):Int) then if(List.take (w0.length+1-Int.toNat a) (List.drop (Int.toNat a) (w0++[qc.mk 0 (ByteArray.mk (List.toArray []))]))).length*2=(w0.length+1-Int.toNat a)*2 then if 0≤t8∧t8<((t7.length:Nat):Int) then Option.bind t7[Int.toNat t8]? fun(a10:qc)=>if 0≤a∧a<((w0.length+1:Nat):Int) then if Int.toNat a*2+2≤(w0.length+1)*2 then some (Sum.inl (List.set (w0++[qc.mk 0 (ByteArray.mk (List.toArray []))]) (Int.toNat a) a10,w64 (t8+1))) else none else none else none else none else if 0≤t8∧t8<((t7.length:Nat):Int) then Option.bind t7[Int.toNat t8]? fun(a11:qc)=>if 0≤a∧a<((w0.length+1:Nat):Int) then if Int.toNat a*2+2≤(w0.length+1)*2 then some (Sum.inl (List.set (w0++[qc.mk 0 (ByteArray.mk (List.toArray []))]) (Int.toNat a) a11,w64 (t8+1))) else none else none else none else none else none else none else some (Sum.inr w0)
theorem q7R:∀(w0:List qc) (t3:List ql) (t6:Int) (t7:List qc) (t8:Int) (q0T:Nat),q0T=w0.length→XL2 evo 53 0 8 ⟨[(3,rL 6 qE t3),(5,rO 0 2 q0T),(6,rI t6),(7,rL 2 qe t7),(8,rI t8)],[(0,bR 51 2 qe w0)],1,85⟩=(qX (q34 t3 t6 t7) (w0,t8)).bind (fun(e:List qc)=>some (Go.Exit.exit 2,⟨[(3,rL 6 qE t3),(5,rO 0 2 e.length),(6,rI t6)],[(0,bR 51 2 qe e)],1,85⟩)):=
 by
 intro w0 t3 t6 t7 t8 q0T h0
 subst h0
 revert t8;revert w0;exact q6v qs1 qsa (fun e=>by exact⟨_,rfl,fun h=>by cases h⟩) fun w0 t8=>by
  have:=quw;have:=@qjG.eq_1;have:=@q75;have:=@q34.eq_1;exact gA
noncomputable def q1q (t3:List ql):(List qc×Int)→Option ((List qc×Int)⊕(List qc))|(w0,t6)=>if t6<((t3.length:Nat):Int) then if 0≤t6∧t6<((t3.length:Nat):Int) then Option.bind t3[Int.toNat t6]? fun(a:ql)=>Option.bind (qX (q34 t3 t6 a.Need.Set) (w0,0)) fun(a2:List qc)=>some (Sum.inl (a2,w64 (t6+1))) else none else some (Sum.inr w0)
theorem q7D:∀(w0:List qc) (t3:List ql) (t6:Int) (q0T:Nat),q0T=w0.length→XL2 evo 53 0 4 ⟨[(3,rL 6 qE t3),(5,rO 0 2 q0T),(6,rI t6)],[(0,bR 51 2 qe w0)],1,85⟩=(qX (q1q t3) (w0,t6)).bind (fun(e:List qc)=>some (Go.Exit.exit 0,⟨[(5,rO 0 2 e.length)],[(0,bR 51 2 qe e)],1,85⟩)):=
 by
 intro w0 t3 t6 q0T h0
 subst h0
 revert t6;revert w0;exact q6v qrV qrw (fun e=>by exact⟨_,rfl,fun h=>by cases h⟩) fun w0 t6=>by
  have:=quw;have:=@qim.eq_1;have:=@q7R;have:=@q1q.eq_1;exact gA
theorem q5G:∀  (t6:Int),XL2 evo 53 0 4 ⟨[(3,R.c (C.d (D.sl 6 0 []))),(5,rO 0 2 0),(6,rI t6)],[(0,B.row 51 2 [])],1,85⟩=(qX (q1q []) ([],t6)).bind (fun(e:List qc)=>some (Go.Exit.exit 0,⟨[(5,rO 0 2 e.length)],[(0,bR 51 2 qe e)],1,85⟩)):=by
 intro t6;have h:=q7D [] [] t6 _ rfl
 first
  | exact h
  | (simp only[rL,dL,bR,bZ,Nat.reduceAdd] at h;exact h)
noncomputable def Z1 (w0:List ql) (w1:List qc) (t6:Int) (t7:List qc) (t8:Int):Int→Option (Int⊕Int)|t9=>if t9<((w1.length:Nat):Int) then if 0≤t9∧t9<((w1.length:Nat):Int) then Option.bind w1[Int.toNat t9]? fun(a:qc)=>if 0≤t8∧t8<((t7.length:Nat):Int) then Option.bind t7[Int.toNat t8]? fun(a2:qc)=>if Q8 a a2=Bool.true then some (Sum.inl (w64 (t9+1))) else some (Sum.inr t9) else none else none else some (Sum.inr t9)
theorem q5D:∀(w0:List ql) (w1:List qc) (t6:Int) (t7:List qc) (t8 t9:Int) (q0T qQ:Nat),q0T=w0.length→qQ=w1.length→XL2 evo 53 0 11 ⟨[(3,rO 0 6 q0T),(5,rO 1 2 qQ),(6,rI t6),(7,rL 2 qe t7),(8,rI t8),(9,rI t9)],[(0,bR 126 6 qE w0),(1,bR 51 2 qe w1)],2,85⟩=(qX (Z1 w0 w1 t6 t7 t8) t9).bind (fun(e:Int)=>some (Go.Exit.exit 4,⟨[(3,rO 0 6 w0.length),(5,rO 1 2 w1.length),(6,rI t6),(7,rL 2 qe t7),(8,rI t8),(9,rI e)],[(0,bR 126 6 qE w0),(1,bR 51 2 qe w1)],2,85⟩)):=
 by
 intro w0 w1 t6 t7 t8 t9 q0T qQ h0 h1
 subst h0 h1
 revert t9;exact qaQ qnM qnj (fun e=>by exact⟨_,rfl,fun h=>by cases h⟩) fun x=>by
  have:=quw;have:=@qeW.eq_1;have:=@q12;have:=@Z1.eq_1;exact gA
noncomputable def Zi (w0:List ql) (t6:Int) (t7:List qc):(List qc×Int)→Option ((List qc×Int)⊕(List qc))|(w1,t8)=>if t8<((t7.length:Nat):Int) then Option.bind (qX (Z1 w0 w1 t6 t7 t8) 0) fun(a:Int)=>if a<((w1.length:Nat):Int) then if 0≤a∧a<((w1.length:Nat):Int) then Option.bind w1[Int.toNat a]? fun(a2:qc)=>if 0≤t8∧t8<((t7.length:Nat):Int) then Option.bind t7[Int.toNat t8]? fun(a3:qc)=>if(a2.School==a3.School)=Bool.true∧(ByteArray.toList a2.Code==ByteArray.toList a3.Code)=Bool.true then some (Sum.inl (w1,w64 (t8+1))) else if w1.length+1≤Go.maxLen∧(w1.length+1)*24≤140737488355328 then if 0≤w64 (a+1)∧w64 (a+1)≤((w1.length+1:Nat):Int) then if w64 (a+1)=0∨w64 (a+1)<((w1.length+1:Nat):Int) then if 0≤a∧a≤((w1.length+1:Nat):Int) then if a=0∨a<((w1.length+1:Nat):Int) then if(List.take (w1.length+1-Int.toNat a) (List.drop (Int.toNat a) (w1++[qc.mk 0 (ByteArray.mk (List.toArray []))]))).length*2=(w1.length+1-Int.toNat a)*2∧Int.toNat (w64 (a+1))*2+(w1.length+1-Int.toNat (w64 (a+1)))*2≤(w1.length+1)*2 then if 0≤t8∧t8<((t7.length:Nat):Int) then Option.bind t7[Int.toNat t8]? fun(a4:qc)=>if 0≤a∧a<((w1.length+1:Nat):Int) then if Int.toNat a*2+2≤(w1.length+1)*2 then some (Sum.inl (List.set (spl (w1++[qc.mk 0 (ByteArray.mk (List.toArray []))]) (Int.toNat (w64 (a+1))) (List.take (min (w1.length+1-Int.toNat a) (w1.length+1-Int.toNat (w64 (a+1)))) (List.take (w1.length+1-Int.toNat a) (List.drop (Int.toNat a) (w1++[qc.mk 0 (ByteArray.mk (List.toArray []))]))))) (Int.toNat a) a4,w64 (t8+1))) else none else none else none else none else if Int.toNat (w64 (a+1))*2+(w1.length+1-Int.toNat (w64 (a+1)))*2≤(w1.length+1)*2 then if 0≤t8∧t8<((t7.length:Nat):Int) then Option.bind t7[Int.toNat t8]? fun(a5:qc)=>if 0≤a∧a<((w1.length+1:Nat):Int) then if Int.toNat a*2+2≤(w1.length+1)*2 then some (Sum.inl (List.set (w1++[qc.mk 0 (ByteArray.mk (List.toArray []))]) (Int.toNat a) a5,w64 (t8+1))) else none else none else none else none else none else if 0≤a∧a≤((w1.length+1:Nat):Int) then if a=0∨a<((w1.length+1:Nat):Int) then if(List.take (w1.length+1-Int.toNat a) (List.drop (Int.toNat a) (w1++[qc.mk 0 (ByteArray.mk (List.toArray []))]))).length*2=(w1.length+1-Int.toNat a)*2 then if 0≤t8∧t8<((t7.length:Nat):Int) then Option.bind t7[Int.toNat t8]? fun(a6:qc)=>if 0≤a∧a<((w1.length+1:Nat):Int) then if Int.toNat a*2+2≤(w1.length+1)*2 then some (Sum.inl (List.set (w1++[qc.mk 0 (ByteArray.mk (List.toArray []))]) (Int.toNat a) a6,w64 (t8+1))) else none else none else none else none else if 0≤t8∧t8<((t7.length:Nat):Int) then Option.bind t7[Int.toNat t8]? fun(a7:qc)=>if 0≤a∧a<((w1.length+1:Nat):Int) then if Int.toNat a*2+2≤(w1.length+1)*2 then some (Sum.inl (List.set (w1++[qc.mk 0 (ByteArray.mk (List.toArray []))]) (Int.toNat a) a7,w64 (t8+1))) else none else none else none else none else none else none else none else none else if w1.length+1≤Go.maxLen∧(w1.length+1)*24≤140737488355328 then if 0≤w64 (a+1)∧w64 (a+1)≤((w1.length+1:Nat):Int) then if w64 (a+1)=0∨w64 (a+1)<((w1.length+1:Nat):Int) then if 0≤a∧a≤((w1.length+1:Nat):Int) then if a=0∨a<((w1.length+1:Nat):Int) then if(List.take (w1.length+1-Int.toNat a) (List.drop (Int.toNat a) (w1++[qc.mk 0 (ByteArray.mk (List.toArray []))]))).length*2=(w1.length+1-Int.toNat a)*2∧Int.toNat (w64 (a+1))*2+(w1.length+1-Int.toNat (w64 (a+1)))*2≤(w1.length+1)*2 then if 0≤t8∧t8<((t7.length:Nat):Int) then Option.bind t7[Int.toNat t8]? fun(a8:qc)=>if 0≤a∧a<((w1.length+1:Nat):Int) then if Int.toNat a*2+2≤(w1.length+1)*2 then some (Sum.inl (List.set (spl (w1++[qc.mk 0 (ByteArray.mk (List.toArray []))]) (Int.toNat (w64 (a+1))) (List.take (min (w1.length+1-Int.toNat a) (w1.length+1-Int.toNat (w64 (a+1)))) (List.take (w1.length+1-Int.toNat a) (List.drop (Int.toNat a) (w1++[qc.mk 0 (ByteArray.mk (List.toArray []))]))))) (Int.toNat a) a8,w64 (t8+1))) else none else none else none else none else if Int.toNat (w64 (a+1))*2+(w1.length+1-Int.toNat (w64 (a+1)))*2≤(w1.length+1)*2 then if 0≤t8∧t8<((t7.length:Nat):Int) then Option.bind t7[Int.toNat t8]? fun(a9:qc)=>if 0≤a∧a<((w1.length+1:Nat):Int) then if Int.toNat a*2+2≤(w1.length+1)*2 then some (Sum.inl (List.set (w1++[qc.mk 0 (ByteArray.mk (List.toArray []))]) (Int.toNat a) a9,w64 (t8+1))) else none else none else none else none else none else if 0≤a∧a≤((w1.length+1:Nat):Int) then if a=0∨a<((w1.length+1:Nat):Int) then if(List.take (w1.length+1-Int.toNat a) (List.drop (Int.toNat a) (w1++[qc.mk 0 (ByteArray.mk (List.toArray []))]))).length*2=(w1.length+1-Int.toNat a)*2 then if 0≤t8∧t8<((t7.length:Nat):Int) then Option.bind t7[Int.toNat t8]? fun(a10:qc)=>if 0≤a∧a<((w1.length+1:Nat):Int) then if Int.toNat a*2+2≤(w1.length+1)*2 then some (Sum.inl (List.set (w1++[qc.mk 0 (ByteArray.mk (List.toArray []))]) (Int.toNat a) a10,w64 (t8+1))) else none else none else none else none else if 0≤t8∧t8<((t7.length:Nat):Int) then Option.bind t7[Int.toNat t8]? fun(a11:qc)=>if 0≤a∧a<((w1.length+1:Nat):Int) then if Int.toNat a*2+2≤(w1.length+1)*2 then some (Sum.inl (List.set (w1++[qc.mk 0 (ByteArray.mk (List.toArray []))]) (Int.toNat a) a11,w64 (t8+1))) else none else none else none else none else none else none else some (Sum.inr w1)
theorem q6k:∀(w0:List ql) (w1:List qc) (t6:Int) (t7:List qc) (t8:Int) (q0T qQ:Nat),q0T=w0.length→qQ=w1.length→XL2 evo 53 0 8 ⟨[(3,rO 0 6 q0T),(5,rO 1 2 qQ),(6,rI t6),(7,rL 2 qe t7),(8,rI t8)],[(0,bR 126 6 qE w0),(1,bR 51 2 qe w1)],2,85⟩=(qX (Zi w0 t6 t7) (w1,t8)).bind (fun(e:List qc)=>some (Go.Exit.exit 2,⟨[(3,rO 0 6 w0.length),(5,rO 1 2 e.length),(6,rI t6)],[(0,bR 126 6 qE w0),(1,bR 51 2 qe e)],2,85⟩)):=
 by
 intro w0 w1 t6 t7 t8 q0T qQ h0 h1
 subst h0 h1
 revert t8;revert w1;exact q6v qs1 qsa (fun e=>by exact⟨_,rfl,fun h=>by cases h⟩) fun w1 t8=>by
  have:=quw;have:=@qjG.eq_1;have:=@q5D;have:=@Zi.eq_1;exact gA
noncomputable def Zj (w0:List ql):(List qc×Int)→Option ((List qc×Int)⊕(List qc))|(w1,t6)=>if t6<((w0.length:Nat):Int) then if 0≤t6∧t6<((w0.length:Nat):Int) then Option.bind w0[Int.toNat t6]? fun(a:ql)=>Option.bind (qX (Zi w0 t6 a.Need.Set) (w1,0)) fun(a2:List qc)=>some (Sum.inl (a2,w64 (t6+1))) else none else some (Sum.inr w1)
theorem q6a:∀(w0:List ql) (w1:List qc) (t6:Int) (q0T qQ:Nat),q0T=w0.length→qQ=w1.length→XL2 evo 53 0 4 ⟨[(3,rO 0 6 q0T),(5,rO 1 2 qQ),(6,rI t6)],[(0,bR 126 6 qE w0),(1,bR 51 2 qe w1)],2,85⟩=(qX (Zj w0) (w1,t6)).bind (fun(e:List qc)=>some (Go.Exit.exit 0,⟨[(5,rO 0 2 e.length)],[(0,bR 51 2 qe e)],1,85⟩)):=
 by
 intro w0 w1 t6 q0T qQ h0 h1
 subst h0 h1
 revert t6;revert w1;exact q6v qrV qrw (fun e=>by exact⟨_,rfl,fun h=>by cases h⟩) fun w1 t6=>by
  have:=quw;have:=@qim.eq_1;have:=@q6k;have:=@Zj.eq_1;exact gA
theorem q4L:∀  (w0:List ql) (t6:Int) (q0T:Nat),q0T=w0.length→XL2 evo 53 0 4 ⟨[(3,rO 0 6 q0T),(5,rO 1 2 0),(6,rI t6)],[(0,bR 126 6 qE w0),(1,B.row 51 2 [])],2,85⟩=(qX (Zj w0) ([],t6)).bind (fun(e:List qc)=>some (Go.Exit.exit 0,⟨[(5,rO 0 2 e.length)],[(0,bR 51 2 qe e)],1,85⟩)):=by
 intro w0 t6 q0T h0;subst h0;have h:=q6a w0 [] t6 _ _ rfl rfl
 first
  | exact h
  | (simp only[rL,dL,bR,bZ,Nat.reduceAdd] at h;exact h)
noncomputable def q1y (x0:qb):Option (List qc):=Option.bind (q1N x0 1) fun(a:Sum Unit (List ql))=>Sum.elim (fun(a2:Unit)=>Option.bind (qX (q1q []) ([],0)) fun(a4:List qc)=>some a4) (fun(a3:List ql)=>Option.bind (qX (Zj a3) ([],0)) fun(a5:List qc)=>some a5) a
theorem qa3:∀(qw Z9 qG:Int) (qK:List qc) (Zf:List qb),ev 53 0 [R.agg [dI qw,dI Z9,dI qG,dL 2 qe qK,dL 5 qg Zf]] []=(q1y (qb.mk qw Z9 qG qK Zf)).bind (fun(e:List qc)=>some (rO 0 2 e.length,[(0,bR 51 2 qe e)])):=
 fun qw Z9 qG qK Zf=>by
  rw[zc qvO qFU.2.2.2 qB7]
  have:=quw;have:=@q4n;have:=@q5G;have:=@q4L;have:=@q1y.eq_1;exact gA
theorem qK1:okL 54 qm1:=zb (qh qDC) (by kernel_rfl) (by kernel_rfl)
def qHA:=JA_ @qm1.eq_1 (JA_ @Tryz.f54.eq_1 @qDC)
theorem qJh:okL 17 qlz:=zb (qh qDP) (by kernel_rfl) (by kernel_rfl)
def qHn:=JA_ @qlz.eq_1 (JA_ @Tryz.f17.eq_1 @qDP)
noncomputable def q1E (n:Int) (m:Int):Option Int:=if m=0 then none else if m=0 then none else some (Int.tmod (w64 (Int.tmod n m+m)) m)
theorem q5j:∀(n m:Int),ev 17 0 [rI n,rI m] []=(q1E n m).bind (fun(e:Int)=>some (rI e,[])):=
 fun n m=>by
  rw[zc qDP qGj.2.2.2 qJh]
  have:=qHn;have:=@q1E.eq_1;exact gA
noncomputable def QL (n:Int) (d:qj):Option (Int×qj):=if((d.L.length:Nat):Int)≤d.At then some (0,d) else if 0≤w64 (w64 (d.At+1)-1)∧w64 (w64 (d.At+1)-1)<((d.L.length:Nat):Int) then Option.bind d.L[Int.toNat (w64 (w64 (d.At+1)-1))]? fun(a:Int)=>Option.bind (q1E a n) fun(a2:Int)=>some (a2,qj.mk d.L (w64 (d.At+1))) else none
theorem q3V:∀(n:Int) (d_L:List Int) (q9q:Int),ev 54 1 [rP 0,rI n] [(0,B.blk 107 [dL 1 eI d_L,dI q9q])]=(QL n (qj.mk d_L q9q)).bind (fun(e:Int×qj)=>some (rI e.1,[(0,B.blk 107 [dL 1 eI e.2.L,dI e.2.At])])):=
 fun n d_L q9q=>by
  rw[zc qDC qGz.2.2.2 qK1]
  have:=qHA;have:=@q5j;have:=@QL.eq_1;exact gA
noncomputable def Zq (w1:List qc) (t8:Int):(List qa×qj×Int)→Option ((List qa×qj×Int)⊕(List qa))|(w2,b0,t9)=>if t9<t8 then Option.bind (QL ((w1.length:Nat):Int) b0) fun(a:Prod Int qj)=>if 0≤a.1∧a.1<((w1.length:Nat):Int) then Option.bind w1[Int.toNat a.1]? fun(a2:qc)=>Option.bind (QL 4 a.2) fun(a3:Prod Int qj)=>if 0≤a3.1∧a3.1<4 then Option.bind [(5:Int),6,10,3][Int.toNat a3.1]? fun(a4:Int)=>Option.bind (QL 7 a3.2) fun(a5:Prod Int qj)=>if 0≤a5.1∧a5.1<7 then Option.bind [(50:Int),60,90,40,100,79,80][Int.toNat a5.1]? fun(a6:Int)=>Option.bind (QL 600 a5.2) fun(a7:Prod Int qj)=>Option.bind (QL 8 a7.2) fun(a8:Prod Int qj)=>if(a8.1==0)=Bool.true then if 0<t9 then if 0≤w64 (t9-1)∧w64 (t9-1)<((w2.length:Nat):Int) then Option.bind w2[Int.toNat (w64 (t9-1))]? fun(a9:qa)=>if 0<((a9.Sources.length:Nat):Int) then Option.bind a9.Sources[0]? fun(a10:Int)=>if w2.length+1≤Go.maxLen∧(w2.length+1)*104≤140737488355328 then some (Sum.inl (w2++[qa.mk a2 a4 a6 a7.1 [a10] 0 []],a8.2,w64 (t9+1))) else none else none else none else if w2.length+1≤Go.maxLen∧(w2.length+1)*104≤140737488355328 then some (Sum.inl (w2++[qa.mk a2 a4 a6 a7.1 [w64 (w64 (w64 (1000000*a2.School)+t9)+1)] 0 []],a8.2,w64 (t9+1))) else none else if w2.length+1≤Go.maxLen∧(w2.length+1)*104≤140737488355328 then some (Sum.inl (w2++[qa.mk a2 a4 a6 a7.1 [w64 (w64 (w64 (1000000*a2.School)+t9)+1)] 0 []],a8.2,w64 (t9+1))) else none else none else none else none else some (Sum.inr w2)
theorem qan:∀(w1:List qc) (w2:List qa) (zq:List Int) (q5v t8 t9:Int) (qQ Zs:Nat),qQ=w1.length→Zs=w2.length→XL2 evo 28 0 6 ⟨[(5,rP 0),(6,rO 1 2 qQ),(7,rO 2 8 Zs),(8,rI t8),(9,rI t9)],[(0,B.blk 107 [dL 1 eI zq,dI q5v]),(1,bR 51 2 qe w1),(2,bR 53 8 qd w2)],3,77⟩=(qX (Zq w1 t8) (w2,(qj.mk zq q5v),t9)).bind (fun(e:List qa)=>some (Go.Exit.exit 0,⟨[(7,rO 0 8 e.length)],[(0,bR 53 8 qd e)],1,77⟩)):=
 by
 intro w1 w2 zq q5v t8 t9 qQ Zs h0 h1
 subst h0 h1
 have h:=q3T (E:=evo) (f:=28) (k:=0) (st:=fun x:List qa×qj×Int=>(⟨[(5,rP 0),(6,rO 1 2 w1.length),(7,rO 2 8 x.1.length),(8,rI t8),(9,rI x.2.2)],[(0,B.blk 107 [dL 1 eI x.2.1.L,dI x.2.1.At]),(1,bR 51 2 qe w1),(2,bR 53 8 qd x.1)],3,77⟩:S)) (ex:=fun(e:List qa)=>(Go.Exit.exit 0,⟨[(7,rO 0 8 e.length)],[(0,bR 53 8 qd e)],1,77⟩)) (step:=(Zq w1 t8)) qzs qxp (fun e h=>by cases h) (fun x=>by
  obtain⟨w2,b0,t9⟩:=x;have:=qFf;have:=@qo4.eq_1;have:=@q3V;have:=@Zq.eq_1;exact gA) (w2,(qj.mk zq q5v),t9)
 exact h
theorem q7L:∀  (w1:List qc) (zq:List Int) (q5v t8 t9:Int) (qQ:Nat),qQ=w1.length→XL2 evo 28 0 6 ⟨[(5,rP 0),(6,rO 1 2 qQ),(7,rO 2 8 0),(8,rI t8),(9,rI t9)],[(0,B.blk 107 [dL 1 eI zq,dI q5v]),(1,bR 51 2 qe w1),(2,B.row 53 8 [])],3,77⟩=(qX (Zq w1 t8) ([],(qj.mk zq q5v),t9)).bind (fun(e:List qa)=>some (Go.Exit.exit 0,⟨[(7,rO 0 8 e.length)],[(0,bR 53 8 qd e)],1,77⟩)):=by
 intro w1 zq q5v t8 t9 qQ h0;subst h0;have h:=qan w1 [] ((qj.mk zq q5v)).L ((qj.mk zq q5v)).At t8 t9 _ _ rfl rfl
 first
  | exact h
  | (simp only[rL,dL,bR,bZ,Nat.reduceAdd] at h;exact h)
noncomputable def q3K (x0:qb) (x1:List Int):Option (List qa):=Option.bind (q1y x0) fun(a:List qc)=>if a.length+1≤Go.maxLen∧(a.length+1)*24≤140737488355328 then Option.bind (QL 8 (qj.mk x1 0)) fun(a2:Prod Int qj)=>Option.bind (qX (Zq (a++[qc.mk 1 (ByteArray.mk (List.toArray [90]))]) a2.1) ([],(a2.2,0))) fun(a3:List qa)=>some a3 else none
theorem qdu:∀(qw Z9 qG:Int) (qK:List qc) (Zf:List qb) (x1:List Int),ev 28 0 [R.agg [dI qw,dI Z9,dI qG,dL 2 qe qK,dL 5 qg Zf],rL 1 eI x1] []=(q3K (qb.mk qw Z9 qG qK Zf) x1).bind (fun(e:List qa)=>some (rL 8 qd e,[])):=
 fun qw Z9 qG qK Zf x1=>by
  rw[zc qBK qFN.2.2.2 qGN]
  have:=qFf;have:=@qa3;have:=@q3V;have:=@q7L;have:=@q3K.eq_1;exact gA
noncomputable def q0R (c:q1W):Option (qb×List qa):=Option.bind (q3M c.Need) fun(a:qb)=>Option.bind (q3K a c.L) fun(a2:List qa)=>some (a,a2)
theorem q8y:∀(qoL c_L:List Int) (qe0 qe1 qe2 qe3 qe4 qe5:Int),ev 7 0 [R.agg [dL 1 eI qoL,dL 1 eI c_L,dI qe0,dI qe1,dI qe2,dI qe3,dI qe4,dI qe5]] []=(q0R (q1W.mk qoL c_L (qBD.mk (qti.mk qe0 qe1 qe2) (qti.mk qe3 qe4 qe5)))).bind (fun(e:qb×List qa)=>some (R.tup [R.agg [dI e.1.Kind,dI e.1.N,dI e.1.Min,dL 2 qe e.1.Set,dL 5 qg e.1.L],rL 8 qd e.2],[])):=
 fun qoL c_L qe0 qe1 qe2 qe3 qe4 qe5=>by
  rw[zc bd7 pw7.2.2.2 lo7]
  have:=cx7;have:=@qdm;have:=@qdu;have:=@q0R.eq_1;exact gA
theorem qJg:okL 10 qlL:=zb (qh qEX) (by kernel_rfl) (by kernel_rfl)
def qJ5:=JA_ @qlL.eq_1 (JA_ @Tryz.f10.eq_1 @qEX)
noncomputable def q2D (l:List qa):Option (List qa):=if 0≤min ((l.length:Nat):Int) 5∧min ((l.length:Nat):Int) 5≤((l.length:Nat):Int) then some (List.take (Int.toNat (min ((l.length:Nat):Int) 5)-0) l) else none
theorem q8C:∀(l:List qa),ev 10 0 [rL 8 qd l] []=(q2D l).bind (fun(e:List qa)=>some (rL 8 qd e,[])):=
 fun l=>by
  rw[zc qEX qGM.2.2.2 qJg]
  have:=qJ5;have:=@q2D.eq_1;exact gA
end Go.Proofs.YtgejdfnidjnjcaaGreat.Vc

namespace Go.Proofs.YtgejdfnidjnjcaaGreat.Vc
open Go.RowKit
section
variable {τ ε:Type} {step:τ→Option (τ⊕ε)}
theorem zI {x y:τ} (h:step x=some (.inl y)):qX step x=qX step y:=by
 rw[qno,h];rfl
theorem zr {x:τ} {e:ε} (h:step x=some (.inr e)):qX step x=some e:=by
 rw[qno,h];rfl
theorem J3 {e:ε} (st:Nat→τ) (i0 n:Nat) (h0:i0≤n) (h:∀i,i0≤i→i<n→step (st i)=some (.inl (st (i+1)))) (hn:step (st n)=some (.inr e)):qX step (st i0)=some e:=by
 have key:∀j i,j+i=n→i0≤i→qX step (st i)=some e:=by
  intro j
  induction j with
  | zero=>intro i hi _;rw[Nat.zero_add] at hi;subst hi;exact zr hn
  | succ j ih=>intro i hi h1;rw[zI (h i h1 (by omega))];exact ih (i+1) (by omega) (by omega)
 exact key (n-i0) i0 (by omega) (Nat.le_refl _)
def qfM {α β ε:Type} (g:β→α→β⊕ε) (fin:β→ε):List α→β→ε
 | [],b=>fin b
 | a::l,b=>match g b a with
  | .inl b'=>qfM g fin l b'
  | .inr e=>e
theorem qeq {α β:Type} (l:List α) (st:β→Nat→τ) (g:β→α→β⊕ε) (fin:β→ε)
  (h:∀b i a,l[i]?=some a→step (st b i)=some (match g b a with | .inl b' => .inl (st b' (i+1)) | .inr e => .inr e)) (hn:∀b,step (st b l.length)=some (.inr (fin b))) (b:β):qX step (st b 0)=some (qfM g fin l b):=by
 have key:∀(r:List α) (i:Nat) (b:β),r.length+i=l.length→(∀j,r[j]?=l[i+j]?)→qX step (st b i)=some (qfM g fin r b):=by
  intro r
  induction r with
  | nil=>
   intro i b hi _
   have hi:i=l.length:=by simpa using hi
   subst hi;exact zr (hn b)
  | cons a r ih=>
   intro i b hi hr
   have ha:l[i]?=some a:=by have:=hr 0;simpa using this.symm
   have h1:=h b i a ha
   unfold qfM
   cases hg:g b a with
   | inl b'=>
    rw[hg] at h1
    rw[zI h1]
    refine ih (i+1) b' (by simp at hi;omega) fun j=>?_
    have:=hr (j+1)
    rw[show i+1+j=i+(j+1) by omega,←this];rfl
   | inr e=>
    rw[hg] at h1
    exact zr h1
 exact key l 0 b (by simp) (by simp)
theorem qet {α β:Type} (l:List α) (st:β→Nat→τ) (g:β→α→β) (fin:β→ε)
  (h:∀b i a,l[i]?=some a→step (st b i)=some (.inl (st (g b a) (i+1)))) (hn:∀b,step (st b l.length)=some (.inr (fin b))) (b:β):qX step (st b 0)=some (fin (l.foldl g b)):=by
 rw[qeq l st (fun b a => .inl (g b a)) fin h hn b]
 congr 1
 induction l generalizing b with
 | nil=>rfl
 | cons a l ih=>
  unfold qfM
  simp only[List.foldl_cons]
  clear h hn
  have:∀(l:List α) (b:β),qfM (ε:=ε) (fun b a => .inl (g b a)) fin l b=fin (l.foldl g b):=by
   intro l
   induction l with
   | nil=>intro b;rfl
   | cons a l ih=>intro b;unfold qfM;simp only[List.foldl_cons];exact ih _
  exact this l _
theorem qda {α:Type} (l:List α) (st:Nat→τ) (p:α→Option ε) (d:ε)
  (h:∀i a,l[i]?=some a→step (st i)=some (match p a with|some e => .inr e|none => .inl (st (i+1)))) (hn:step (st l.length)=some (.inr d)):qX step (st 0)=some ((l.findSome? p).getD d):=by
 have h1:=qeq (ε:=ε) (β:=Unit) l (fun _ i=>st i) (fun _ a=>match p a with|some e => .inr e|none => .inl ()) (fun _=>d) (fun b i a ha=>by
  rw[h i a ha];cases p a<;>rfl) (fun _=>hn) ()
 rw[h1]
 congr 1
 have:∀l:List α,qfM (ε:=ε) (fun(_:Unit) a=>match p a with|some e => .inr e|none => .inl ()) (fun _=>d) l ()=(l.findSome? p).getD d:=by
  intro l
  induction l with
  | nil=>rfl
  | cons a l ih=>
   unfold qfM
   rw[List.findSome?_cons]
   cases p a with
   | none=>simpa using ih
   | some e=>rfl
 exact this l
def q4c {α β ε:Type} (g:Nat→β→α→β⊕ε) (fin:β→ε):List α→Nat→β→ε
 | [],_,b=>fin b
 | a::l,i,b=>match g i b a with
  | .inl b'=>q4c g fin l (i+1) b'
  | .inr e=>e
theorem q20 {α β:Type} (l:List α) (st:β→Nat→τ) (g:Nat→β→α→β⊕ε) (fin:β→ε)
  (h:∀b i a,l[i]?=some a→step (st b i)=some (match g i b a with | .inl b' => .inl (st b' (i+1)) | .inr e => .inr e)) (hn:∀b,step (st b l.length)=some (.inr (fin b))) (b:β):qX step (st b 0)=some (q4c g fin l 0 b):=by
 have key:∀(r:List α) (i:Nat) (b:β),r.length+i=l.length→(∀j,r[j]?=l[i+j]?)→qX step (st b i)=some (q4c g fin r i b):=by
  intro r
  induction r with
  | nil=>
   intro i b hi _
   have hi:i=l.length:=by simpa using hi
   subst hi;exact zr (hn b)
  | cons a r ih=>
   intro i b hi hr
   have ha:l[i]?=some a:=by have:=hr 0;simpa using this.symm
   have h1:=h b i a ha
   unfold q4c
   cases hg:g i b a with
   | inl b'=>
    rw[hg] at h1
    rw[zI h1]
    refine ih (i+1) b' (by simp at hi;omega) fun j=>?_
    have:=hr (j+1)
    rw[show i+1+j=i+(j+1) by omega,←this];rfl
   | inr e=>
    rw[hg] at h1
    exact zr h1
 exact key l 0 b (by simp) (by simp)
end
theorem q08 {α:Type} {l:List α} {i:Nat} {a:α} (h:l[i]?=some a):i<l.length:=(List.getElem?_eq_some_iff.1 h).1
theorem QP {n:Int} (h0 : -9223372036854775808≤n) (h1:n≤9223372036854775807):w64 n=n:=wi n h0 h1
theorem qY {i n:Nat} (h:i<n) (hn:n≤9223372036854775807):w64 ((i:Int)+1)=((i+1:Nat):Int):=by
 rw[QP (by omega) (by omega)];omega
end Go.Proofs.YtgejdfnidjnjcaaGreat.Vc
namespace Go.Proofs.YtgejdfnidjnjcaaGreat.Vc
open Go.RowKit
theorem qil (a:Nat) (h:a<9223372036854775808):IntKind.i64.wrap (a:Int)=a:=wi _ (by omega) (by omega)
theorem qgF (a:Nat):BitVec.ofInt IntKind.i64.bits (a:Int)=BitVec.ofNat 64 a:=by
 show BitVec.ofInt 64 (a:Int)=_
 simp
theorem qaK (a b:Nat) (ha:a<9223372036854775808) (hb:b<9223372036854775808):JH .and .i64 (a:Int) (b:Int)=((a &&& b:Nat):Int):=by
 unfold JH
 simp only[qgF]
 have h1:(BitVec.ofNat 64 a &&& BitVec.ofNat 64 b).toNat=a &&& b:=by
  rw[BitVec.toNat_and,BitVec.toNat_ofNat,BitVec.toNat_ofNat,Nat.mod_eq_of_lt (by omega),Nat.mod_eq_of_lt (by omega)]
 have h2:a &&& b≤a:=Nat.and_le_left
 show IntKind.i64.wrap (((BitVec.ofNat 64 a &&& BitVec.ofNat 64 b).toNat:Nat):Int)=_
 rw[h1]
 exact qil _ (by omega)
theorem qjW (a b:Nat) (ha:a<9223372036854775808) (hb:b<9223372036854775808):JH .andNot .i64 (a:Int) (b:Int)=((a ^^^ (a &&& b):Nat):Int):=by
 unfold JH
 simp only[qgF]
 have h1:(BitVec.ofNat 64 a &&& ~~~BitVec.ofNat 64 b).toNat=a ^^^ (a &&& b):=by
  apply Nat.eq_of_testBit_eq
  intro i
  rw[BitVec.testBit_toNat,BitVec.getLsbD_and,BitVec.getLsbD_not,BitVec.getLsbD_ofNat,BitVec.getLsbD_ofNat,Nat.testBit_xor,Nat.testBit_and]
  by_cases hi:i<64
  ·simp only[hi,decide_true,Bool.true_and]
   cases a.testBit i<;>cases b.testBit i<;>rfl
  ·have:a.testBit i=false:=Nat.testBit_lt_two_pow (Nat.lt_of_lt_of_le ha (by
    have:=Nat.pow_le_pow_right (n:=2) (by decide) (show 63≤i by omega)
    exact this))
   simp[hi,this]
 have h2:a ^^^ (a &&& b)<2 ^ 63:=Nat.xor_lt_two_pow (by omega) (Nat.lt_of_le_of_lt Nat.and_le_left (by omega))
 show IntKind.i64.wrap (((BitVec.ofNat 64 a &&& ~~~BitVec.ofNat 64 b).toNat:Nat):Int)=_
 rw[h1]
 exact qil _ (by omega)
theorem qf0 (a k:Nat) (hk:k≤64):((a:Int)).fdiv (2 ^ min k IntKind.i64.bits)=((a / 2 ^ k:Nat):Int):=by
 have:min k IntKind.i64.bits=k:=Nat.min_eq_left hk
 rw[this]
 show((a:Int)).fdiv (2 ^ k)=_
 rw[show((2:Int) ^ k)=((2 ^ k:Nat):Int) by simp]
 rw[Int.fdiv_eq_ediv_of_nonneg _ (Int.natCast_nonneg _)]
 simp
theorem q8W (a k:Nat) (ha:a<9223372036854775808) (hk:k≤64):(JH .and .i64 ((a:Int).fdiv (2 ^ min k IntKind.i64.bits)) 1==1)=a.testBit k:=by
 rw[qf0 a k hk,show(1:Int)=((1:Nat):Int) from rfl,qaK _ _ (Nat.lt_of_le_of_lt (Nat.div_le_self _ _) ha) (by decide),Nat.and_one_is_mod,Nat.testBit_eq_decide_div_mod_eq]
 have:a / 2 ^ k % 2<2:=Nat.mod_lt _ (by decide)
 by_cases h:a / 2 ^ k % 2=1
 ·simp[h]
 ·have:a / 2 ^ k % 2=0:=by omega
  simp[this]
def Q3 {α:Type} (N:Nat) (g:Nat→α):List α:=(List.range N).map g
theorem qM {α:Type} (N:Nat) (g:Nat→α):(Q3 N g).length=N:=by simp[Q3]
theorem Zb {α:Type} {N:Nat} (g:Nat→α) {i:Nat} (h:i<N):(Q3 N g)[i]?=some (g i):=by
 unfold Q3;rw[List.getElem?_map,List.getElem?_range h];rfl
theorem ZN {α:Type} {N:Nat} {f g:Nat→α} (h:∀k,k<N→f k=g k):Q3 N f=Q3 N g:=by
 unfold Q3
 refine List.map_congr_left fun k hk=>h k (List.mem_range.1 hk)
theorem q0K {α:Type} (N:Nat) (c:α):List.replicate N c=Q3 N (fun _=>c):=by
 unfold Q3
 induction N with
 | zero=>rfl
 | succ n ih=>rw[List.range_succ,List.map_append,←ih,List.replicate_succ'];rfl
def q4Y {α:Type} (g:Nat→α) (i:Nat) (v:α):Nat→α:=fun k=>if k=i then v else g k
theorem zX {α:Type} (N:Nat) (g:Nat→α) (i:Nat) (v:α):(Q3 N g).set i v=Q3 N (q4Y g i v):=by
 refine List.ext_getElem? fun k=>?_
 rw[List.getElem?_set,qM]
 by_cases hk:k<N
 ·rw[Zb _ hk,Zb _ hk]
  unfold q4Y
  by_cases h:i=k
  ·subst h;simp[hk]
  ·rw[if_neg h,if_neg (fun h2=>h h2.symm)]
 ·have e1:(Q3 N g)[k]?=none:=List.getElem?_eq_none (by rw[qM];omega)
  have e2:(Q3 N (q4Y g i v))[k]?=none:=List.getElem?_eq_none (by rw[qM];omega)
  rw[e1,e2]
  split
  ·rw[if_neg (by omega)]
  ·rfl
theorem q4C {α:Type} (g:Nat→α) (i:Nat) (v:α):q4Y g i v i=v:=by simp[q4Y]
theorem q2P {α:Type} (g:Nat→α) (i:Nat) (v w:α):q4Y (q4Y g i v) i w=q4Y g i w:=by
 funext k;unfold q4Y;split<;>rfl
theorem qbR {α:Type} (f:Nat→α) (c:α) {i0 i:Nat} (h:i0≤i):q4Y (fun k=>if i0≤k∧k<i then f k else c) i (f i)=fun k=>if i0≤k∧k<i+1 then f k else c:=by
 funext k
 unfold q4Y
 by_cases hk:k=i
 ·subst hk;rw[if_pos rfl,if_pos ⟨h,Nat.lt_succ_self _⟩]
 ·rw[if_neg hk]
  show(if i0≤k∧k<i then f k else c)=_
  by_cases h:i0≤k∧k<i
  ·rw[if_pos h,if_pos ⟨h.1,by omega⟩]
  ·rw[if_neg h,if_neg (by omega)]
end Go.Proofs.YtgejdfnidjnjcaaGreat.Vc
namespace Go.Proofs.YtgejdfnidjnjcaaGreat.Vc
open Go.RowKit
def ceq (a b:qc):Bool:=(a.School==b.School)&&(a.Code.toList==b.Code.toList)
def qg1 (n a b:Int):Int:=max (min a b) (min n (max a b))
def q7w (s:qf):Bool:=qg1 s.Worst (-1000) 1000==s.Worst&&qg1 s.Best (-1000) 1000==s.Best&&s.Worst != s.Best&&qg1 s.Pass s.Worst s.Best==s.Pass
def qgR (s:qf) (g:Int):Bool:=q7w s&&qg1 g s.Worst s.Best==g
def qgQ (s:qf) (g m:Int):Bool:=qgR s g&&(g==m||(decide (m<g)==decide (s.Worst<s.Best)))
theorem qfk (s:qf):q2Z s=some (if q7w s then 0 else 10):=by
 have h1:=qda (ε:=Unit⊕Unit) (step:=JZ [s.Worst,s.Best] s 2) [s.Worst,s.Best] (fun i=>(i:Int)) (fun a=>if qg1 a (-1000) 1000 != a then some (.inl ()) else none) (.inr ()) (fun i a ha=>by
   have hi:i<2:=by obtain⟨h,_⟩:=List.getElem?_eq_some_iff.1 ha;simpa using h
   have hw:w64 ((i:Int)+1)=((i+1:Nat):Int):=qY hi (by omega)
   unfold JZ
   rw[if_pos (by omega),if_pos ⟨by omega,by simpa using by omega⟩,Int.toNat_natCast,ha,Option.bind_some,hw]
   show(if(qg1 a (-1000) 1000 != a)=true then _ else _)=_
   split<;>simp_all) (by
   unfold JZ
   rfl)
 unfold q2Z
 rw[show((0:Int))=((0:Nat):Int) from rfl,h1,Option.bind_some]
 unfold q7w Qv
 simp only[List.findSome?_cons,List.findSome?_nil]
 show _=some (if(qg1 s.Worst (-1000) 1000==s.Worst&&qg1 s.Best (-1000) 1000==s.Best&&s.Worst != s.Best&&qg1 s.Pass s.Worst s.Best==s.Pass)=true then 0 else 10)
 change (Sum.elim _ (fun _=>if(s.Worst==s.Best)=true then some (10:Int) else if(qg1 s.Pass s.Worst s.Best != s.Pass)=true then some 10 else some 0) _)=_
 by_cases e1:qg1 s.Worst (-1000) 1000=s.Worst<;>by_cases e2:qg1 s.Best (-1000) 1000=s.Best<;>by_cases e3:s.Worst=s.Best<;>by_cases e4:qg1 s.Pass s.Worst s.Best=s.Pass<;>simp[e1,e2,e3,e4,bne]
theorem qfm (s:qf) (g:Int):q2N s g=some (qgR s g):=by
 unfold q2N qgR
 rw[qfk,Option.bind_some]
 cases h:q7w s<;>simp[Qv,qg1]
theorem qkf (s:qf) (g m:Int):q1B s g m=some (qgQ s g m):=by
 unfold q1B qgQ
 rw[qfm,Option.bind_some]
 cases h:qgR s g
 ·simp
 ·by_cases h2:g=m<;>simp[h2]
theorem qdT (p:qc→Bool):∀(l:List qc) (i:Nat),(decide (0≤(q4c (ε:=Int⊕Unit) (fun i (_:Unit) a=>if p a=true then .inr (.inl (i:Int)) else .inl ()) (fun _ => .inr ()) l i ()).elim id (fun _ => -1)))=l.any p
 | [],i=>rfl
 | a::l,i=>by
  unfold q4c
  by_cases h:p a=true
  ·simp[h]
  ·have h':p a=false:=by simpa using h
   simp only[h',List.any_cons,Bool.false_or]
   exact qdT p l (i+1)
theorem qpR (l:List qc) (hl:l.length≤9223372036854775807) (v:qc):∃i:Int,Q5 l v=some i∧(decide (0≤i))=l.any (ceq v):=by
 have h1:=q20 (ε:=Int⊕Unit) (step:=zC v l (l.length:Int)) l (fun(b:Unit) i=>(i:Int)) (fun i b a=>if ceq v a=true then .inr (.inl (i:Int)) else .inl ()) (fun _ => .inr ()) (fun b i a ha=>by
   have hi:=q08 ha
   have hw:w64 ((i:Int)+1)=((i+1:Nat):Int):=qY hi hl
   unfold zC
   rw[if_pos (by omega),if_pos ⟨by omega,by omega⟩,Int.toNat_natCast,ha,Option.bind_some,hw]
   unfold ceq
   by_cases e1:v.School=a.School<;>by_cases e2:v.Code.toList=a.Code.toList<;>simp[e1,e2]) (fun b=>by
   unfold zC
   rw[if_neg (by omega)]) ()
 refine⟨_,?_,qdT (ceq v) l 0⟩
 unfold Q5
 rw[show((0:Int))=((0:Nat):Int) from rfl,h1,Option.bind_some]
 cases(q4c (ε:=Int⊕Unit) (fun i (_:Unit) a=>if ceq v a=true then .inr (.inl (i:Int)) else .inl ()) (fun _ => .inr ()) l 0 ())<;>rfl
theorem qhr (l:List qc) (hl:l.length≤9223372036854775807) (v:qc):zT l v=some (l.any (ceq v)):=by
 obtain⟨i,h1,h2⟩:=qpR l hl v
 unfold zT
 rw[h1,Option.bind_some,h2]
def q9g (n:qb):Bool:=n.Kind==1||n.Kind==2
theorem qcz (n:qb):q0z n=q9g n:=by
 unfold q0z q9g
 cases h:(n.Kind==1)<;>simp
def qc4 (n:qb) (s:qf) (a:qa):Bool:=q9g n&&n.Set.any (ceq a.Course)&&qgQ s a.Grade n.Min
theorem qdt (n:qb) (hn:n.Set.length≤9223372036854775807) (s:qf) (a:qa):q0l n s a=some (qc4 n s a):=by
 unfold q0l qc4
 rw[qcz,qhr n.Set hn,qkf]
 cases q9g n<;>cases n.Set.any (ceq a.Course)<;>simp
def wgF (n:qb) (s:qf) (set:Nat):List qa→Nat→qJ→qJ
 | [],_,x=>x
 | a::l,k,x=>wgF n s set l (k+1) (if set.testBit k=true then⟨w64 (x.many+1),w64 (x.credits+a.Credits),x.fine&&qc4 n s a⟩ else x)
def ld0:qJ:=⟨0,0,true⟩
theorem qjJ (n:qb) (hn:n.Set.length≤9223372036854775807) (s:qf) (l:List qa) (hl:l.length≤62) (set:Nat) (hs:set<9223372036854775808):q1z n s l (set:Int)=some (wgF n s set l 0 ld0):=by
 have h1:=q20 (ε:=qJ) (step:=q0E (set:Int) n s (qJ.mk (0:Int) (0:Int) Bool.false) l (l.length:Int)) l (fun(b:qJ) i=>(b,(i:Int))) (fun i b a => .inl (if set.testBit i=true then⟨w64 (b.many+1),w64 (b.credits+a.Credits),b.fine&&qc4 n s a⟩ else b)) (fun b=>b) (fun b i a ha=>by
   have hi:=q08 ha
   have hw:w64 ((i:Int)+1)=((i+1:Nat):Int):=qY hi (by omega)
   have hb:q1C (i:Int) (set:Int)=some (set.testBit i):=by
    unfold q1C
    rw[if_pos (by omega),Int.toNat_natCast,q8W set i hs (by omega)]
   unfold q0E
   simp only
   rw[if_pos (by omega),if_pos ⟨by omega,by omega⟩,Int.toNat_natCast,ha,Option.bind_some,hw,hb,Option.bind_some]
   cases set.testBit i
   ·simp
   ·cases hf:b.fine
    ·simp
    ·simp[qdt n hn s a]) (fun b=>by
   unfold q0E
   simp only
   rw[if_neg (by omega)]) ld0
 unfold q1z
 change Option.bind (qX _ (ld0,((0:Nat):Int))) _=_
 rw[h1,Option.bind_some]
 congr 1
 have:∀(l:List qa) (i:Nat) (b:qJ),q4c (ε:=qJ) (fun i (b:qJ) (a:qa) => .inl (if set.testBit i=true then⟨w64 (b.many+1),w64 (b.credits+a.Credits),b.fine&&qc4 n s a⟩ else b)) (fun b=>b) l i b=wgF n s set l i b:=by
  intro l
  induction l with
  | nil=>intro i b;rfl
  | cons a l ih=>intro i b;unfold q4c wgF;exact ih _ _
 exact this l 0 ld0
def qdj (n:qb) (x:qJ):Bool:=if n.Kind=1 then x.fine&&x.many==1 else x.fine&&decide (0<x.many)&&decide (n.N≤x.credits)
end Go.Proofs.YtgejdfnidjnjcaaGreat.Vc
namespace Go.Proofs.YtgejdfnidjnjcaaGreat.Vc
open Go.RowKit
def q09 (set sub:Nat):Nat:=set ^^^ (set &&& sub)
theorem QI (set sub i:Nat):(q09 set sub).testBit i=(set.testBit i && !sub.testBit i):=by
 unfold q09
 rw[Nat.testBit_xor,Nat.testBit_and]
 cases set.testBit i<;>cases sub.testBit i<;>rfl
theorem qcx (set sub:Nat):q09 set sub≤set:=by
 have:q09 set sub &&& set=q09 set sub:=Nat.eq_of_testBit_eq fun i=>by
  rw[Nat.testBit_and,QI];cases set.testBit i<;>cases sub.testBit i<;>rfl
 rw[←this];exact Nat.and_le_right
def eaV (own:Nat→Bool) (best:Nat→Int) (set sub:Nat) (v:Int):Int:=if own sub=true∧0≤best (q09 set sub) then max v (best (q09 set sub)+1) else v
def eaF (own:Nat→Bool) (best:Nat→Int) (set:Nat):Nat→Nat→Int→Int
 | 0,_,v=>v
 | f+1,sub,v=>if sub=0 then v else eaF own best set f ((sub-1) &&& set) (eaV own best set sub v)
def Bnd (best:Nat→Int) (N:Nat) (M:Int):Prop:=∀k,k<N → -1≤best k∧best k≤M
section
variable {N:Nat} (hN:N≤65536) {own:Nat→Bool} {best:Nat→Int} {M:Int} (hM:M≤1000000) (hb:Bnd best N M)
include hN hM hb
theorem qq6 {set sub:Nat} (hs:set<N) (hsub:sub<N) (g:Nat→Int):q1D (sub:Int) ((q09 set sub:Nat):Int) (Q3 N best) (Q3 N g) (Q3 N own) (set:Int)=some (Q3 N (q4Y g set (eaV own best set sub (g set)))):=by
 have hr:=qcx set sub
 have hbr:=hb (q09 set sub) (by omega)
 unfold q1D
 rw[qM,if_pos ⟨by omega,by omega⟩,Int.toNat_natCast,Zb own hsub,Option.bind_some]
 unfold eaV
 cases ho:own sub
 ·simp only[Bool.false_eq_true,if_false,false_and]
  rw[←zX]
  congr 1
  refine List.ext_getElem? fun k=>?_
  rw[List.getElem?_set]
  split
  ·rename_i h;subst h;rw[qM,if_pos hs,Zb _ hs]
  ·rfl
 ·simp only[if_true,true_and]
  rw[qM,if_pos ⟨by omega,by omega⟩,Int.toNat_natCast,Zb best (by omega),Option.bind_some]
  by_cases h0:0≤best (q09 set sub)
  ·rw[if_pos h0,if_pos h0,qM,if_pos ⟨by omega,by omega⟩,Int.toNat_natCast,Zb g hs,Option.bind_some,if_pos ⟨by omega,by omega⟩,Option.bind_some,if_pos ⟨by omega,by omega⟩,if_pos (by omega),QP (by omega) (by omega),zX]
  ·rw[if_neg h0,if_neg h0,←zX]
   congr 1
   refine List.ext_getElem? fun k=>?_
   rw[List.getElem?_set]
   split
   ·rename_i h;subst h;rw[qM,if_pos hs,Zb _ hs]
   ·rfl
theorem qfL {set:Nat} (hs:set<N):∀(f sub:Nat),sub≤f→sub≤set→∀(g:Nat→Int),qX (Qi (Q3 N best) (Q3 N own) (set:Int) (set:Int)) (Q3 N g,(sub:Int))=some (Q3 N (q4Y g set (eaF own best set f sub (g set)))):=by
 have hself:∀g:Nat→Int,q4Y g set (g set)=g:=fun g=>by funext k;unfold q4Y;split<;>simp_all
 have h0:∀(g:Nat→Int),qX (Qi (Q3 N best) (Q3 N own) (set:Int) (set:Int)) (Q3 N g,((0:Nat):Int))=some (Q3 N g):=fun g=>by
  refine zr ?_
  unfold Qi
  simp
 intro f
 induction f with
 | zero=>
  intro sub hf _ g
  have:sub=0:=by omega
  subst this
  rw[h0]
  unfold eaF
  rw[hself]
 | succ f ih=>
  intro sub hf hle g
  unfold eaF
  by_cases hz:sub=0
  ·subst hz
   rw[h0,if_pos rfl,hself]
  ·have ha:(sub-1) &&& set≤sub-1:=Nat.and_le_left
   have hstep:Qi (Q3 N best) (Q3 N own) (set:Int) (set:Int) (Q3 N g,(sub:Int))=some (.inl (Q3 N (q4Y g set (eaV own best set sub (g set))),((((sub-1) &&& set:Nat)):Int))):=by
    unfold Qi
    simp only
    rw[if_pos (by omega),qjW _ _ (by omega) (by omega),QP (by omega) (by omega),show((sub:Int)-1)=((sub-1:Nat):Int) by omega,qaK _ _ (by omega) (by omega)]
    have:=qq6 hN hM hb (own:=own) hs (sub:=sub) (by omega) g
    unfold q09 at this
    rw[this,Option.bind_some]
   rw[zI hstep,ih _ (by omega) (by omega),if_neg hz,q4C,q2P]
end
def stF (skip:Bool) (own:Nat→Bool) (best:Nat→Int) (set:Nat):Int:=eaF own best set set set (if skip=true then best set else -1)
theorem qtE {own:Nat→Bool} {best:Nat→Int} {N:Nat} {M:Int} (hb:Bnd best N M) (hM : -1≤M) {set sub:Nat} (hs:set<N) {v:Int} (h : -1≤v∧v≤M+1) : -1≤eaV own best set sub v∧eaV own best set sub v≤M+1:=by
 have:=hb (q09 set sub) (Nat.lt_of_le_of_lt (qcx set sub) hs)
 unfold eaV
 split<;>omega
theorem qnr {own:Nat→Bool} {best:Nat→Int} {N:Nat} {M:Int} (hb:Bnd best N M) (hM : -1≤M) {set:Nat} (hs:set<N):∀(f sub:Nat) (v:Int),-1≤v∧v≤M+1 → -1≤eaF own best set f sub v∧eaF own best set f sub v≤M+1
 | 0,_,_,h=>h
 | f+1,sub,v,h=>by
  unfold eaF
  split
  ·exact h
  ·exact qnr hb hM hs f _ _ (qtE hb hM hs h)
theorem qf7 {skip:Bool} {own:Nat→Bool} {best:Nat→Int} {N:Nat} {M:Int} (hb:Bnd best N M) (hM : -1≤M):Bnd (stF skip own best) N (M+1):=fun k hk=>by
 unfold stF
 have:=hb k hk
 refine qnr hb hM hk _ _ _ ?_
 split<;>omega
end Go.Proofs.YtgejdfnidjnjcaaGreat.Vc
namespace Go.Proofs.YtgejdfnidjnjcaaGreat.Vc
open Go.RowKit
def b0F (k:Nat):Int:=if k=0 then 0 else -1
def alG (leaf:Int) (set:Nat):List Int→Nat→Bool
 | [],_=>true
 | x::d,k=>(set.testBit k==(x==leaf))&&alG leaf set d (k+1)
def alF (d:List Int) (leaf set:Nat):Bool:=alG (leaf:Int) set d 0
def foF (d:List Int) (a b:Nat):Bool:=d.any fun x=>decide ((a:Int)≤x)&&decide (x<(b:Int))
def Zx (d:List Int) (s:qf) (l:List qa) (n:qb) (nx set:Nat):Bool:=decide (set≠0)&&(alF d nx set&&qdj n (wgF n s set l 0 ld0))
mutual
def lvN:qb→Nat
 | ⟨k,_,_,_,L⟩=>if k=1∨k=2 then 1 else lvL L
def lvL:List qb→Nat
 | []=>0
 | x::L=>lvN x+lvL L
end
mutual
def ndN:qb→List qb
 | ⟨k,n,m,S,L⟩=>⟨k,n,m,S,L⟩::ndL L
def ndL:List qb→List qb
 | []=>[]
 | x::L=>ndN x++ndL L
end
theorem q5S (n:qb):lvN n=if n.Kind=1∨n.Kind=2 then 1 else lvL n.L:=by cases n;rw[lvN]
theorem Zg (n:qb):ndN n=n::ndL n.L:=by cases n;rw[ndN]
mutual
def Q1 (d:List Int) (s:qf) (l:List qa):qb→Nat→Nat→Bool
 | ⟨k,n,m,S,L⟩,nx,set=>if k=1∨k=2 then Zx d s l ⟨k,n,m,S,L⟩ nx set else decide (set≠0)&&decide ((if k=3 then(L.length:Int) else n)≤q8m d s l (k==4) L nx b0F set)
def q8m (d:List Int) (s:qf) (l:List qa) (sk:Bool):List qb→Nat→(Nat→Int)→Nat→Int
 | [],_,b,set=>b set
 | x::L,nx,b,set=>q8m d s l sk L (nx+lvN x) (stF (sk && !foF d nx (nx+lvN x)) (Q1 d s l x nx) b) set
end
theorem qaq (d:List Int) (s:qf) (l:List qa) (n:qb) (nx set:Nat):Q1 d s l n nx set=if n.Kind=1∨n.Kind=2 then Zx d s l n nx set else decide (set≠0)&&decide ((if n.Kind=3 then(n.L.length:Int) else n.N)≤q8m d s l (n.Kind==4) n.L nx b0F set):=by cases n;rw[Q1]
theorem qdw:∀n:qb,lvN n≤(ndN n).length:=by
 intro n
 induction n using qb.rec (motive_2:=fun L=>lvL L≤(ndL L).length) with
 | mk k n m S L ih=>rw[lvN,ndN,List.length_cons];split<;>omega
 | nil=>simp[lvL]
 | cons x L h1 h2=>rw[lvL,ndL,List.length_append];omega
theorem qka (d:List Int) (hd:d.length≤16) (leaf set:Nat) (hs:set<9223372036854775808):q1l (leaf:Int) (set:Int) d=some (alF d leaf set):=by
 have h1:=q20 (ε:=Unit⊕Unit) (step:=q0k d (leaf:Int) (set:Int) (d.length:Int)) d (fun(_:Unit) i=>(i:Int)) (fun i _ x=>if(set.testBit i==(x==(leaf:Int)))=true then .inl () else .inr (.inl ())) (fun _ => .inr ()) (fun _ i x hx=>by
   have hi:=q08 hx
   have hw:w64 ((i:Int)+1)=((i+1:Nat):Int):=qY hi (by omega)
   unfold q0k
   rw[if_pos (by omega),if_pos ⟨by omega,by omega⟩,Int.toNat_natCast,hx,Option.bind_some,if_pos (by omega),hw,q8W set i hs (by omega)]
   cases(set.testBit i==(x==(leaf:Int)))<;>simp) (fun _=>by
   unfold q0k
   rw[if_neg (by omega)]) ()
 unfold q1l
 change Option.bind (qX _ ((0:Nat):Int)) _=_
 rw[h1,Option.bind_some]
 have:∀(d:List Int) (k:Nat),(Sum.elim (fun(_:Unit)=>some false) (fun(_:Unit)=>some true) (q4c (ε:=Unit⊕Unit) (fun i (_:Unit) (x:Int)=>if(set.testBit i==(x==(leaf:Int)))=true then .inl () else .inr (.inl ())) (fun _ => .inr ()) d k ()))=some (alG leaf set d k):=by
  intro d
  induction d with
  | nil=>intro k;rfl
  | cons x d ih=>
   intro k
   unfold q4c alG
   cases h:(set.testBit k==(x==(leaf:Int)))
   ·simp
   ·simp only[if_true,Bool.true_and];exact ih (k+1)
 exact this d 0
theorem qnc (d:List Int) (hd:d.length≤16) (a b:Nat):q2p (a:Int) (b:Int) d=some (foF d a b):=by
 have h1:=q20 (ε:=Int⊕Unit) (step:=Qe (a:Int) (b:Int) d (d.length:Int)) d (fun(_:Unit) i=>(i:Int)) (fun i _ x=>if(decide ((a:Int)≤x)&&decide (x<(b:Int)))=true then .inr (.inl (i:Int)) else .inl ()) (fun _ => .inr ()) (fun _ i x hx=>by
   have hi:=q08 hx
   have hw:w64 ((i:Int)+1)=((i+1:Nat):Int):=qY hi (by omega)
   unfold Qe q0A
   rw[if_pos (by omega),if_pos ⟨by omega,by omega⟩,Int.toNat_natCast,hx,Option.bind_some,hw]
   by_cases h2:(a:Int)≤x
   ·by_cases h3:x<(b:Int)<;>simp[h2,h3]
   ·simp[h2]) (fun _=>by
   unfold Qe
   rw[if_neg (by omega)]) ()
 unfold q2p Zw Jf
 change Option.bind (Option.bind (Option.bind (qX _ ((0:Nat):Int)) _) _) _=_
 rw[h1,Option.bind_some]
 have:∀(d:List Int) (k:Nat),((Sum.elim (fun(a2:Int)=>some a2) (fun(_:Unit)=>some (-(1:Int))) (q4c (ε:=Int⊕Unit) (fun i (_:Unit) (x:Int)=>if(decide ((a:Int)≤x)&&decide (x<(b:Int)))=true then .inr (.inl (i:Int)) else .inl ()) (fun _ => .inr ()) d k ())).bind fun a=>some (decide ((0:Int)≤a)))=some (foF d a b):=by
  intro d
  induction d with
  | nil=>intro k;rfl
  | cons x d ih=>
   intro k
   unfold q4c foF
   rw[List.any_cons]
   cases h:(decide ((a:Int)≤x)&&decide (x<(b:Int)))
   ·simp only[Bool.false_eq_true,if_false,Bool.false_or];exact ih (k+1)
   ·simp
 have h2:=this d 0
 rw[Option.bind_eq_some_iff] at h2
 obtain⟨i,h3,h4⟩:=h2
 rw[h3,Option.bind_some,h4,Option.bind_some]
end Go.Proofs.YtgejdfnidjnjcaaGreat.Vc
namespace Go.Proofs.YtgejdfnidjnjcaaGreat.Vc
open Go.RowKit
mutual
def hgN:qb→Nat
 | ⟨_,_,_,_,L⟩=>1+hgL L
def hgL:List qb→Nat
 | []=>0
 | x::L=>max (hgN x) (hgL L)
end
mutual
def dpN (d:Int):qb→Int→Int
 | ⟨_,_,_,_,L⟩,m=>dpL (d+1) L (max m d)
def dpL (d:Int):List qb→Int→Int
 | [],m=>m
 | x::L,m=>dpL d L (dpN d x m)
end
theorem qbE (n:qb):hgN n=1+hgL n.L:=by cases n;rw[hgN]
theorem qrx (d:Int) (n:qb) (m:Int):dpN d n m=dpL (d+1) n.L (max m d):=by cases n;rw[dpN]
theorem q7Y (k:Nat) (h:k≤100000):k≤maxLen∧k*72≤140737488355328:=⟨by unfold maxLen;omega,by omega⟩
def qrf (y:qb):Prop:=∀(deep:Int) (w:List qb) (b2:Int) (b3:Bool),1≤deep→deep+hgN y≤101→w.length+(ndN y).length≤10000→q0d (y,deep,w,b2,b3)=some (.inr (w++ndN y,dpN deep y b2,b3))
theorem qiG (rF:(qb×Int×List qb×Int×Bool)→Option (Int⊕(List qb×Int×Bool))) (deep:Int) (hd:1≤deep) (L:List qb) (hL:L.length≤10000)
  (step:List qb×Int×Bool×Int→Option ((List qb×Int×Bool×Int)⊕(Int⊕(List qb×Int×Bool))))
  (hst:∀w b2 b3 (i:Nat),step (w,b2,b3,(i:Int))=if(i:Int)<(L.length:Int) then if(0:Int)≤i∧(i:Int)<(L.length:Int) then Option.bind L[Int.toNat i]? fun a2=>Option.bind (rF (a2,w64 (deep+1),w,b2,b3)) fun a3=>Sum.elim (fun a4=>some (Sum.inr (Sum.inl a4))) (fun a5=>some (Sum.inl (a5.1,a5.2.1,a5.2.2,w64 ((i:Int)+1)))) a3 else none else some (.inr (.inr (w,b2,b3))))
  (hP:∀y∈L,∀(w:List qb) (b2:Int) (b3:Bool),deep+1+hgN y≤101→w.length+(ndN y).length≤10000→rF (y,deep+1,w,b2,b3)=some (.inr (w++ndN y,dpN (deep+1) y b2,b3))) :
  ∀(r:List qb) (i:Nat) (w:List qb) (b2:Int) (b3:Bool),r.length+i=L.length→(∀j,r[j]?=L[i+j]?)→deep+1+hgL r≤101→w.length+(ndL r).length≤10000→
  qX step (w,b2,b3,(i:Int))=some (.inr (w++ndL r,dpL (deep+1) r b2,b3)):=by
 intro r
 induction r with
 | nil=>
  intro i w b2 b3 hi _ _ _
  have hi:i=L.length:=by simpa using hi
  subst hi
  refine zr ?_
  rw[hst,if_neg (by omega),ndL,dpL,List.append_nil]
 | cons y r ih=>
  intro i w b2 b3 hi hr hh hw
  rw[hgL] at hh
  rw[ndL,List.length_append] at hw
  simp only[List.length_cons] at hi
  have hget:L[i]?=some y:=by have:=hr 0;simpa using this.symm
  have hlt:=q08 hget
  have hcall:=hP y (List.mem_of_getElem? hget) w b2 b3 (by omega) (by omega)
  have hstep:step (w,b2,b3,(i:Int))=some (.inl (w++ndN y,dpN (deep+1) y b2,b3,((i+1:Nat):Int))):=by
   rw[hst,if_pos (by omega),if_pos ⟨by omega,by omega⟩,Int.toNat_natCast,hget,Option.bind_some,QP (by omega) (by omega),hcall,Option.bind_some,qY hlt (by omega)]
   rfl
  rw[zI hstep,ih (i+1) _ _ _ (by omega) (fun j=>by rw[show i+1+j=i+(j+1) by omega,←hr (j+1)];rfl) (by omega) (by rw[List.length_append];omega),ndL,dpL,List.append_assoc]
theorem qb6 (L:List qb):L.length≤(ndL L).length:=by
 induction L with
 | nil=>simp
 | cons x L ih=>rw[ndL,List.length_append,List.length_cons,Zg,List.length_cons];omega
theorem quI:∀(m:Nat) (y:qb),(ndN y).length≤m→qrf y:=by
 intro m
 induction m with
 | zero=>intro y h;rw[Zg] at h;simp at h
 | succ m ih=>
  intro y h deep w b2 b3 hd hh hw
  rw[Zg,List.length_cons] at h hw
  rw[qbE] at hh
  have hsub:∀(L:List qb),(ndL L).length≤m→∀z∈L,qrf z:=by
   intro L
   induction L with
   | nil=>intro _ z hz;simp at hz
   | cons x L ihl=>
    intro g z hz
    rw[ndL,List.length_append] at g
    rcases List.mem_cons.1 hz with rfl|hz
    ·exact ih _ (by omega)
    ·exact ihl (by omega) z hz
  have hP:=hsub y.L (by omega)
  have hl:=qb6 y.L
  rw[qbS,q1u]
  unfold q2x
  have hne:(((w.length:Nat):Int)==(10000:Int))=false:=by simp;omega
  rw[if_neg (by omega),if_neg (by rw[hne];simp),if_pos ⟨(q7Y _ (by omega)).1,(q7Y _ (by omega)).2⟩,Option.bind_some,Sum.elim_inr]
  have h1:=qiG q0d deep hd y.L (by omega) (q1s q0d deep y.L (y.L.length:Int)) (fun w b2 b3 i=>by rfl) (fun z hz w b2 b3 g1 g2=>hP z hz (deep+1) w b2 b3 (by omega) g1 g2) y.L 0 (w++[y]) (max b2 deep) b3 (by simp) (by simp) (by omega) (by rw[List.length_append,List.length_singleton];omega)
  rw[show((0:Nat):Int)=0 from rfl] at h1
  dsimp only
  have h2:(⟨y.Kind,y.N,y.Min,y.Set,y.L⟩:qb)=y:=by cases y;rfl
  rw[h2,h1,Option.bind_some,Sum.elim_inr,Zg,qrx,List.append_assoc]
  rfl
theorem qmz (n:qb) (hh:hgN n≤100) (hn:(ndN n).length≤9999):q3s n=some (ndN n,dpN 1 n 0,true):=by
 rw[qbE] at hh
 rw[Zg,List.length_cons] at hn
 have hl:=qb6 n.L
 unfold q3s q3G q6f q3F
 rw[if_neg (by omega),if_pos (by unfold maxLen;omega),Option.bind_some,Sum.elim_inr]
 have h1:=qiG q0d 1 (by omega) n.L (by omega) (q3B 1 n.L (n.L.length:Int)) (fun w b2 b3 i=>by rfl) (fun z hz w b2 b3 g1 g2=>quI _ z (Nat.le_refl _) (1+1) w b2 b3 (by omega) g1 g2) n.L 0 [n] (max 0 1) false (by simp) (by simp) (by omega) (by simp only[List.length_singleton];omega)
 rw[show((0:Nat):Int)=0 from rfl] at h1
 dsimp only
 have h2:(⟨n.Kind,n.N,n.Min,n.Set,n.L⟩:qb)=n:=by cases n;rfl
 rw[h2,h1,Option.bind_some,Sum.elim_inr,Option.bind_some,Sum.elim_inr,Option.bind_some,Sum.elim_inr,Zg,qrx]
 rfl
def Zh (n:qb):Bool:=n.Kind != 3&&n.Kind != 4
theorem qpV (n:qb):q24 n=Zh n:=by
 unfold q24 Zh
 cases h:(n.Kind != 3)<;>simp
theorem qo8 (l:List qc) (h:l.length≤1000000):Q6 l=some ():=by
 unfold Q6
 rw[if_pos ⟨by unfold maxLen;omega,by omega⟩]
theorem qnI:∀(m:Nat) (n:qb),(ndN n).length≤m→(ndN n).length≤100000→(∀y∈ndN n,y.Set.length≤1000000)→q0c n=some n:=by
 intro m
 induction m with
 | zero=>intro n h;rw[Zg] at h;simp at h
 | succ m ih=>
  intro n h1 h2 h3
  have hset:=h3 n (by rw[Zg];exact List.mem_cons_self)
  have hsub:∀(L:List qb),(ndL L).length≤m→(ndL L).length≤100000→(∀y∈ndL L,y.Set.length≤1000000)→∀y∈L,q0c y=some y:=by
   intro L
   induction L with
   | nil=>intro _ _ _ y hy;simp at hy
   | cons x L ihl=>
    intro g1 g2 g3 y hy
    rw[ndL,List.length_append] at g1 g2
    rw[ndL] at g3
    rcases List.mem_cons.1 hy with rfl|hy
    ·exact ih _ (by omega) (by omega) fun z hz=>g3 z (List.mem_append_left _ hz)
    ·exact ihl (by omega) (by omega) (fun z hz=>g3 z (List.mem_append_right _ hz)) y hy
  have e0:ndN n=n::ndL n.L:=Zg n
  have hlen:(ndN n).length=(ndL n.L).length+1:=by rw[e0];rfl
  have hP:=hsub n.L (by omega) (by omega) fun y hy=>h3 y (by rw[e0];exact List.mem_cons_of_mem _ hy)
  have hl:=qb6 n.L
  have hn:(⟨n.Kind,n.N,n.Min,n.Set,n.L⟩:qb)=n:=by cases n;rfl
  rw[qcb,q1n,qo8 _ hset,Option.bind_some]
  unfold Z0
  rw[if_pos ⟨by unfold maxLen;omega,by omega⟩]
  rw[Option.bind_some]
  have hL:∀i0:Nat,qX (q0w q0c n.Kind n.N n.Min n.Set 0 0 0 (n.L.length:Int)) (n.L,((0:Nat):Int))=some n.L:=fun _=>by
   refine J3 (fun i=>(n.L,(i:Int))) 0 n.L.length (Nat.zero_le _) (fun i _ hi=>?_) ?_
   ·obtain⟨y,hy⟩:∃y,n.L[i]?=some y:=⟨_,List.getElem?_eq_getElem hi⟩
    unfold q0w
    simp only
    rw[if_pos (by omega),if_pos ⟨by omega,by omega⟩,Int.toNat_natCast,hy,Option.bind_some,hP y (List.mem_of_getElem? hy),Option.bind_some,if_pos ⟨by omega,by omega⟩,if_pos (by omega),qY hi (by omega)]
    have:n.L.set i y=n.L:=by
     obtain⟨h1,h2⟩:=List.getElem?_eq_some_iff.1 hy
     rw[←h2,List.set_getElem_self]
    rw[this]
   ·unfold q0w
    simp only
    rw[if_neg (by omega)]
  have:=hL 0
  rw[show((0:Nat):Int)=0 from rfl] at this
  rw[this,Option.bind_some,hn]
theorem qcW (n:qb) (hh:hgN n≤100) (hn:(ndN n).length≤9999) (hs:∀y∈ndN n,y.Set.length≤1000000):q1S n=some ((ndN n).filter Zh):=by
 have hsub:∀(m:Nat) (n y:qb),(ndN n).length≤m→y∈ndN n→(ndN y).length≤(ndN n).length∧∀z∈ndN y,z∈ndN n:=by
  intro m
  induction m with
  | zero=>intro n y h;rw[Zg] at h;simp at h
  | succ m ih=>
   intro n y h hy
   rw[Zg] at hy
   rcases List.mem_cons.1 hy with rfl|hy
   ·exact⟨Nat.le_refl _,fun z hz=>hz⟩
   ·have hL:∀(L:List qb),(ndL L).length≤m→y∈ndL L→(ndN y).length≤(ndL L).length∧∀z∈ndN y,z∈ndL L:=by
     intro L
     induction L with
     | nil=>intro _ h;simp[ndL] at h
     | cons x L ihl=>
      intro g gy
      rw[ndL,List.length_append] at g
      rw[ndL] at gy ⊢
      rw[List.length_append]
      rcases List.mem_append.1 gy with gy|gy
      ·obtain⟨a,b⟩:=ih x y (by omega) gy
       exact⟨by omega,fun z hz=>List.mem_append_left _ (b z hz)⟩
      ·obtain⟨a,b⟩:=ihl (by omega) gy
       exact⟨by omega,fun z hz=>List.mem_append_right _ (b z hz)⟩
    have e0:=Zg n
    have:(ndN n).length=(ndL n.L).length+1:=by rw[e0];rfl
    obtain⟨a,b⟩:=hL n.L (by omega) hy
    exact⟨by omega,fun z hz=>by rw[e0];exact List.mem_cons_of_mem _ (b z hz)⟩
 have hc:∀y∈ndN n,Zh y=true→q0c y=some y:=fun y hy _=>by
  obtain⟨a,b⟩:=hsub _ n y (Nat.le_refl _) hy
  exact qnI _ y (Nat.le_refl _) (by omega) fun z hz=>hs z (b z hz)
 clear hsub hs
 unfold q1S
 rw[qmz n hh hn,Option.bind_some]
 simp only
 generalize ndN n=l at hn hc
 have key:∀(r:List qb) (i:Nat) (b:List qb),r.length+i=l.length→(∀j,r[j]?=l[i+j]?)→b.length≤i→qX (Jd l (l.length:Int)) (b,(i:Int))=some (b++r.filter Zh):=by
  intro r
  induction r with
  | nil=>
   intro i b hi _ _
   have hi:i=l.length:=by simpa using hi
   subst hi
   refine zr ?_
   unfold Jd
   simp
  | cons y r ih=>
   intro i b hi hr hb
   simp only[List.length_cons] at hi
   have hget:l[i]?=some y:=by have:=hr 0;simpa using this.symm
   have hlt:=q08 hget
   have hstep:Jd l (l.length:Int) (b,(i:Int))=some (.inl (if Zh y=true then b++[y] else b,((i+1:Nat):Int))):=by
    unfold Jd
    simp only
    rw[if_pos (by omega),if_pos ⟨by omega,by omega⟩,Int.toNat_natCast,hget,Option.bind_some,qpV,qY hlt (by omega)]
    cases h:Zh y
    ·simp
    ·rw[hc y (List.mem_of_getElem? hget) h,Option.bind_some,if_pos rfl,if_pos ⟨(q7Y _ (by omega)).1,(q7Y _ (by omega)).2⟩]
     simp
   have hb2:(if Zh y=true then b++[y] else b).length≤i+1:=by
    split
    ·rw[List.length_append,List.length_singleton];omega
    ·omega
   rw[zI hstep,ih (i+1) _ (by omega) (fun j=>by rw[show i+1+j=i+(j+1) by omega,←hr (j+1)];rfl) hb2,List.filter_cons]
   cases Zh y<;>simp
 have:=key l 0 [] (by simp) (by simp) (by simp)
 change Option.bind (qX _ ([],((0:Nat):Int))) _=_
 rw[this,Option.bind_some,List.nil_append]
end Go.Proofs.YtgejdfnidjnjcaaGreat.Vc
namespace Go.Proofs.YtgejdfnidjnjcaaGreat.Vc
open Go.RowKit
def q5M (b:UInt8):Bool:=(48≤b.toNat&&b.toNat≤57)||(65≤b.toNat&&b.toNat≤90)
theorem qqO (s:ByteArray) (i:Nat) (h:(s.get! i).toNat<128):Utf8.decode s i=((s.get! i).toNat,1):=by
 unfold Utf8.decode
 simp only[Nat.add_zero]
 rw[if_pos h]
theorem qtR (s:ByteArray) (i:Nat) (h:¬ (s.get! i).toNat<128):128≤(Utf8.decode s i).1:=by
 unfold Utf8.decode
 simp only[Nat.add_zero]
 rw[if_neg h]
 have hr:128≤Utf8.runeError:=by decide
 split
 ·split
  ·assumption
  ·exact hr
 ·split
  ·split
   ·rename_i h;simp only[ge_iff_le,Bool.and_eq_true,decide_eq_true_eq] at h;omega
   ·exact hr
  ·split
   ·split
    ·rename_i h;simp only[ge_iff_le,Bool.and_eq_true,decide_eq_true_eq] at h;omega
    ·exact hr
   ·exact hr
theorem qeO (b:UInt8) (h:b.toNat<128):ZI (b.toNat:Int) = !q5M b:=by
 unfold ZI q5M
 by_cases h1:b.toNat<65
 ·rw[if_pos (by omega)]
  by_cases h2:b.toNat<48
  ·rw[if_pos (by omega)]
   have e1:decide (48≤b.toNat)=false:=decide_eq_false (by omega)
   have e2:decide (65≤b.toNat)=false:=decide_eq_false (by omega)
   simp[e1,e2]
  ·rw[if_neg (by omega)]
   have e1:decide (48≤b.toNat)=true:=decide_eq_true (by omega)
   have e2:decide (65≤b.toNat)=false:=decide_eq_false (by omega)
   by_cases h3:b.toNat≤57
   ·have e3:decide (b.toNat≤57)=true:=decide_eq_true h3
    have e4:decide ((57:Int)<b.toNat)=false:=decide_eq_false (by omega)
    simp[e1,e2,e3,e4]
   ·have e3:decide (b.toNat≤57)=false:=decide_eq_false h3
    have e4:decide ((57:Int)<b.toNat)=true:=decide_eq_true (by omega)
    simp[e1,e2,e3,e4]
 ·rw[if_neg (by omega)]
  have e0:decide (b.toNat≤57)=false:=decide_eq_false (by omega)
  have e1:decide (65≤b.toNat)=true:=decide_eq_true (by omega)
  by_cases h2:90<b.toNat
  ·rw[if_pos (by omega),if_neg (by omega)]
   have e3:decide (b.toNat≤90)=false:=decide_eq_false (by omega)
   have e4:decide ((57:Int)<b.toNat)=true:=decide_eq_true (by omega)
   simp[e0,e1,e3,e4]
  ·rw[if_neg (by omega)]
   have e3:decide (b.toNat≤90)=true:=decide_eq_true (by omega)
   simp[e0,e1,e3]
theorem qmB (n:Nat) (h:128≤n):ZI (n:Int)=true:=by
 unfold ZI
 rw[if_neg (by omega),if_pos (by omega),if_neg (by omega)]
 exact decide_eq_true (by omega)
theorem qpk (s:ByteArray) (i:Nat) (h:i<s.size):s.get! i=s.data.toList.getD i 0:=by
 obtain⟨⟨l⟩⟩:=s
 have h':i<l.length:=h
 show(Array.mk l)[i]! = l.getD i 0
 simp[h',List.getD]
theorem qh7 (s:ByteArray):∀(r:List UInt8) (p:Nat),r.length+p=s.size→(∀j,r[j]?=s.data.toList[p+j]?)→∃e,qX (Ql s true) p=some e∧((∃i:Int,e = .inl i∧0≤i∧r.all q5M=false)∨(e = .inr ()∧r.all q5M=true)):=by
 intro r
 induction r with
 | nil=>
  intro p hp _
  have hp:p=s.size:=by simpa using hp
  subst hp
  refine⟨.inr (),zr ?_,.inr ⟨rfl,rfl⟩⟩
  unfold Ql
  rw[if_neg (by omega)]
 | cons b r ih=>
  intro p hp hr
  simp only[List.length_cons] at hp
  have hb:s.data.toList[p]?=some b:=by have:=hr 0;simpa using this.symm
  have hg:s.get! p=b:=by rw[qpk s p (by omega),List.getD,hb];rfl
  by_cases h:b.toNat<128
  ·have hd:=qqO s p (by rw[hg];exact h)
   rw[hg] at hd
   cases ho:q5M b
   ·refine⟨.inl (p:Int),zr ?_,.inl ⟨_,rfl,by omega,by simp[ho]⟩⟩
    unfold Ql
    rw[if_pos (by omega),hd,qeO b h,ho]
    rfl
   ·obtain⟨e,h1,h2⟩:=ih (p+1) (by omega) (fun j=>by rw[show p+1+j=p+(j+1) by omega,←hr (j+1)];rfl)
    refine⟨e,?_,by rw[List.all_cons,ho,Bool.true_and];exact h2⟩
    rw[zI (y:=p+1) (by
     unfold Ql
     rw[if_pos (by omega),hd,qeO b h,ho]
     rfl)]
    exact h1
  ·have hbig:=qtR s p (by rw[hg];exact h)
   have hbad:q5M b=false:=by
    unfold q5M
    have e1:decide (b.toNat≤57)=false:=decide_eq_false (by omega)
    have e2:decide (b.toNat≤90)=false:=decide_eq_false (by omega)
    simp[e1,e2]
   refine⟨.inl (p:Int),zr ?_,.inl ⟨_,rfl,by omega,by simp[hbad]⟩⟩
   unfold Ql
   rw[if_pos (by omega),qmB _ hbig]
   rfl
def qgv (s:ByteArray):Bool:=decide (s.size≠0)&&decide (s.size≤8)&&s.data.toList.all q5M
theorem qkx (s:ByteArray):(s.toList==ByteArray.toList (ByteArray.mk (List.toArray [])))=decide (s.size=0):=by
 rw[ByteArray.toList_eq,ByteArray.toList_eq]
 obtain⟨⟨l⟩⟩:=s
 show(l==[])=decide (l.length=0)
 cases l<;>simp
theorem qsk (s:ByteArray):q2U s=some (qgv s):=by
 unfold q2U qgv
 rw[qkx]
 by_cases h0:s.size=0
 ·simp[h0]
 ·have e0:decide (s.size=0)=false:=decide_eq_false h0
  have e1:decide (s.size≠0)=true:=decide_eq_true h0
  rw[e0,e1,if_pos (by rfl)]
  by_cases h8:s.size≤8
  ·have e2:decide (s.size≤8)=true:=decide_eq_true h8
   obtain⟨e,h1,h2⟩:=qh7 s s.data.toList 0 (by simp) (by simp)
   rw[if_pos (by omega),e2]
   unfold q11 q15
   rw[h1,Option.bind_some]
   rcases h2 with ⟨i,rfl,hi,ha⟩|⟨rfl,ha⟩
   ·rw[Sum.elim_inl,Option.bind_some,Option.bind_some,ha]
    have:decide (i<0)=false:=decide_eq_false (by omega)
    rw[this];rfl
   ·rw[Sum.elim_inr,Option.bind_some,Option.bind_some,ha]
    rfl
  ·have e2:decide (s.size≤8)=false:=decide_eq_false h8
   rw[if_neg (by omega),e2]
   rfl
def inF (n a b:Int):Bool:=decide (a≤n)&&decide (n≤b)
theorem q5K (n a b:Int):QH n a b=inF n a b:=by
 unfold QH inF
 by_cases h:a≤n<;>simp[h]
def q0q (c:qc):Bool:=inF c.School 1 8&&qgv c.Code
theorem qpr (c:qc):q3O c=some (q0q c):=by
 unfold q3O q0q
 rw[q5K,qsk]
 cases inF c.School 1 8<;>simp
def qqW (x y:Int):Int:=if x<y then -1 else if y<x then 1 else 0
def qB3 (x y:ByteArray):Int:=if Op.bytesLess x.toList y.toList=true then -1 else if x.toList==y.toList then 0 else 1
def qvL (a b:qc):Int:=if a.School≠b.School then qqW a.School b.School else qB3 a.Code b.Code
theorem qET (x y:Int):q2I [x,y]=some (if x≠0 then x else y):=by
 unfold q2I
 by_cases hx:x=0
 ·by_cases hy:y=0
  ·rw[zI (y:=1) (by unfold J1;simp[hx];rfl),zI (y:=2) (by unfold J1;simp[hx,hy];rfl),zr (e := .inr ()) (by unfold J1;simp)]
   simp[hx,hy]
  ·rw[zI (y:=1) (by unfold J1;simp[hx];rfl),zr (e := .inl y) (by unfold J1;simp[hx,hy])]
   simp[hx,hy]
 ·rw[zr (e := .inl x) (by unfold J1;simp[hx])]
  simp[hx]
theorem qeN (a b:qc):q2l a b=some (qvL a b):=by
 unfold q2l
 rw[qET,Option.bind_some]
 congr 1
 have e1:Jn a.School b.School=qqW a.School b.School:=by
  unfold Jn QM qqW
  simp
 have e2:Zm a.Code b.Code=qB3 a.Code b.Code:=by
  unfold Zm qB3
  cases h1:Op.bytesLess a.Code.toList b.Code.toList
  ·cases h2:(a.Code.toList==b.Code.toList)<;>simp
  ·simp
 rw[e1,e2]
 unfold qvL
 by_cases h:a.School=b.School
 ·have:qqW a.School b.School=0:=by unfold qqW;rw[if_neg (by omega),if_neg (by omega)]
  simp[h,this]
  intro h2;exact absurd (by unfold qqW;simp) h2
 ·have:qqW a.School b.School≠0:=by unfold qqW;split<;>(try split)<;>omega
  simp[h,this]
def qfC:List qc→Bool
 | x::y::l=>decide (qvL x y<0)&&qfC (y::l)
 | _=>true
def q2u (n:qb):Int:=
 if inF n.Min (-1000) 1000=false then 3 else if inF n.Set.length 1 12=false then 2 else if n.Set.all q0q=false then 1 else if qfC n.Set=true then 0 else 7
theorem qe9 (l:List qc) (hl:l.length≤1000000):zG l=some (!l.all q0q):=by
 have h1:=q20 (ε:=Int⊕Unit) (step:=zy l (l.length:Int)) l (fun(b:Unit) i=>(i:Int)) (fun i b a=>if(!q0q a)=true then .inr (.inl (i:Int)) else .inl ()) (fun _ => .inr ()) (fun b i a ha=>by
   have hi:=q08 ha
   have hw:w64 ((i:Int)+1)=((i+1:Nat):Int):=qY hi (by omega)
   unfold zy q2z
   rw[if_pos (by omega),if_pos ⟨by omega,by omega⟩,Int.toNat_natCast,ha,Option.bind_some,hw,qpr,Option.bind_some,Option.bind_some]
   cases q0q a<;>simp) (fun b=>by
   unfold zy
   rw[if_neg (by omega)]) ()
 have h2:=qdT (fun a => !q0q a) l 0
 unfold zG Qc
 rw[show((0:Nat):Int)=0 from rfl] at h1
 rw[h1,Option.bind_some]
 have e:l.any (fun a => !q0q a) = !l.all q0q:=by
  clear h1 h2 hl
  induction l with
  | nil=>rfl
  | cons a l ih=>rw[List.any_cons,List.all_cons,ih];cases q0q a<;>simp
 rw[←e,←h2]
 cases(q4c (ε:=Int⊕Unit) (fun i (_:Unit) (a:qc)=>if(!q0q a)=true then .inr (.inl (i:Int)) else .inl ()) (fun _ => .inr ()) l 0 ())<;>rfl
theorem qkh (n:qb) (hl:n.Set.length≤1000000):∀(r:List qc) (i:Nat),r.length+i=n.Set.length→(∀j,r[j]?=n.Set[i+j]?)→qX (ZK n n.Set (n.Set.length:Int)) (i:Int)=some (if(match i,n.Set[i-1]? with|_+1,some x=>qfC (x::r)|_,_=>qfC r)=true then .inr () else .inl ()):=by
 intro r
 induction r with
 | nil=>
  intro i hi _
  have hi:i=n.Set.length:=by simpa using hi
  subst hi
  refine zr ?_
  unfold ZK
  rw[if_neg (by omega)]
  split<;>simp[qfC]
 | cons a r ih=>
  intro i hi hr
  simp only[List.length_cons] at hi
  have hget:n.Set[i]?=some a:=by have:=hr 0;simpa using this.symm
  have hlt:=q08 hget
  have hnext:=ih (i+1) (by omega) (fun j=>by rw[show i+1+j=i+(j+1) by omega,←hr (j+1)];rfl)
  simp only[Nat.add_sub_cancel,hget] at hnext
  cases i with
  | zero=>
   rw[zI (y:=((0+1:Nat):Int)) (by
    unfold ZK
    rw[if_pos (by omega),if_pos ⟨by omega,by omega⟩,Int.toNat_natCast,hget,Option.bind_some,if_neg (by omega),qY hlt (by omega)])]
   exact hnext
  | succ i=>
   obtain⟨x,hx⟩:∃x,n.Set[i]?=some x:=⟨_,List.getElem?_eq_getElem (by omega)⟩
   simp only[Nat.add_sub_cancel,hx]
   have hw:w64 (((i+1:Nat):Int)-1)=(i:Int):=by rw[QP (by omega) (by omega)];omega
   by_cases hc:qvL x a<0
   ·rw[zI (y:=((i+1+1:Nat):Int)) (by
     unfold ZK
     rw[if_pos (by omega),if_pos ⟨by omega,by omega⟩,Int.toNat_natCast,hget,Option.bind_some,if_pos (by omega),hw,if_pos ⟨by omega,by omega⟩,Int.toNat_natCast,hx,Option.bind_some,qeN,Option.bind_some,if_neg (by omega),qY hlt (by omega)]),hnext]
    simp[qfC,hc]
   ·rw[zr (e := .inl ()) (by
     unfold ZK
     rw[if_pos (by omega),if_pos ⟨by omega,by omega⟩,Int.toNat_natCast,hget,Option.bind_some,if_pos (by omega),hw,if_pos ⟨by omega,by omega⟩,Int.toNat_natCast,hx,Option.bind_some,qeN,Option.bind_some,if_pos (by omega)])]
    simp[qfC,hc]
theorem qeC (n:qb) (hl:n.Set.length≤1000000):q1k n=some (q2u n):=by
 unfold q1k q2u
 rw[q5K,q5K,qe9 _ hl,Option.bind_some]
 have h:=qkh n hl n.Set 0 (by simp) (by simp)
 simp only at h
 rw[show((0:Nat):Int)=0 from rfl] at h
 rw[h,Option.bind_some]
 cases inF n.Min (-1000) 1000
 ·simp
 ·cases inF n.Set.length 1 12
  ·simp
  ·cases n.Set.all q0q
   ·simp
   ·cases qfC n.Set<;>simp
def q65 (n:qb):Bool:=n.Min==0&&n.Set.isEmpty && !n.L.isEmpty
def q4Q (n:qb):Int:=
 if n.Kind=1 then(if n.N≠0∨n.L≠[] then 13 else q2u n)
 else if n.Kind=2 then(if n.L≠[] then 13 else if inF n.N 1 600=false then 3 else q2u n)
 else if n.Kind=3 then(if q65 n=false∨n.N≠0 then 13 else 0)
 else if n.Kind=4 then(if q65 n=false then 13 else if inF n.N 1 n.L.length=false then 3 else 0)
 else 13
theorem qmY (n:qb):Zv n=q65 n:=by
 unfold Zv q65
 cases n.Min==0
 ·simp
 ·cases hS:n.Set<;>cases hL:n.L<;>simp
  all_goals omega
theorem qD5 (n:qb) (hl:n.Set.length≤1000000):q2n n=some (if n.N≠0∨n.L≠[] then 13 else q2u n):=by
 unfold q2n
 rw[qeC n hl,Option.bind_some]
 by_cases h:n.N=0
 ·cases hL:n.L with
  | nil=>simp[h]
  | cons x l=>rw[if_neg (by simp[h]),if_pos (by simp),if_pos (.inr (by simp))]
 ·simp[h]
theorem qC8 (n:qb) (hl:n.Set.length≤1000000):q2k n=some (if n.L≠[] then 13 else if inF n.N 1 600=false then 3 else q2u n):=by
 unfold q2k
 rw[qeC n hl,Option.bind_some,q5K]
 cases hL:n.L with
 | nil=>
  cases hI:inF n.N 1 600<;>simp[hI]
 | cons x l=>rw[if_pos (by simp),if_pos (by simp)]
theorem qCT (n:qb):JT n=if q65 n=false∨n.N≠0 then 13 else 0:=by
 unfold JT
 rw[qmY]
 cases q65 n
 ·simp
 ·by_cases h:n.N=0<;>simp[h]
theorem qDL (n:qb):q00 n=if q65 n=false then 13 else if inF n.N 1 n.L.length=false then 3 else 0:=by
 unfold q00
 rw[qmY,q5K]
 cases q65 n
 ·simp
 ·cases inF n.N 1 n.L.length<;>simp
def qkI (l:List qb):Option Int:=l.findSome? fun y=>if q4Q y≠0 then some (q4Q y) else none
theorem qkg (l:List qb) (hl:l.length≤1000000) (hs:∀y∈l,y.Set.length≤1000000):qX (q0m l (l.length:Int)) 0=some (match qkI l with|some e => .inl e|none => .inr ()):=by
 have h1:=qda (ε:=Int⊕Unit) (step:=q0m l (l.length:Int)) l (fun i=>(i:Int)) (fun y=>if q4Q y≠0 then some (.inl (q4Q y)) else none) (.inr ()) (fun i y hy=>by
   have hi:=q08 hy
   have hw:w64 ((i:Int)+1)=((i+1:Nat):Int):=qY hi (by omega)
   have hset:=hs y (List.mem_of_getElem? hy)
   unfold q0m
   rw[if_pos (by omega),if_pos ⟨by omega,by omega⟩,Int.toNat_natCast,hy,Option.bind_some,hw,qD5 y hset,qC8 y hset,qCT,qDL,Option.bind_some,Option.bind_some]
   unfold q4Q
   by_cases e1:y.Kind=1
   ·simp only[if_pos e1];generalize (if y.N≠0∨y.L≠[] then 13 else q2u y)=v;by_cases h:v=0<;>simp[h]
   ·by_cases e2:y.Kind=2
    ·simp only[if_neg e1,if_pos e2];generalize (if y.L≠[] then 13 else if inF y.N 1 600=false then 3 else q2u y)=v;by_cases h:v=0<;>simp[h]
    ·by_cases e3:y.Kind=3
     ·simp only[if_neg e1,if_neg e2,if_pos e3];generalize (if q65 y=false∨y.N≠0 then(13:Int) else 0)=v;by_cases h:v=0<;>simp[h]
     ·by_cases e4:y.Kind=4
      ·simp only[if_neg e1,if_neg e2,if_neg e3,if_pos e4];generalize (if q65 y=false then(13:Int) else if inF y.N 1 y.L.length=false then 3 else 0)=v;by_cases h:v=0<;>simp[h]
      ·simp[e1,e2,e3,e4]) (by
   unfold q0m
   rw[if_neg (by omega)])
 rw[show((0:Nat):Int)=0 from rfl] at h1
 rw[h1]
 congr 1
 unfold qkI
 clear h1 hl hs
 induction l with
 | nil=>rfl
 | cons y l ih=>
  rw[List.findSome?_cons,List.findSome?_cons]
  by_cases h:q4Q y=0<;>simp only[h,ne_eq,not_true_eq_false,not_false_eq_true,if_true,if_false]
  ·exact ih
  ·rfl
def q2H (n:qb):Int:=
 if 24<(ndN n).length then 2 else if 5<dpN 1 n 0 then 2 else if inF ((ndN n).filter Zh).length 1 8=false then 2 else(qkI (ndN n)).getD 0
theorem q84 (n:qb) (hh:hgN n≤100) (hn:(ndN n).length≤9999) (hs:∀y∈ndN n,y.Set.length≤1000000):q1H n=some (q2H n):=by
 unfold q1H q2H
 rw[qmz n hh hn,Option.bind_some,qcW n hh hn hs]
 simp only[Option.bind_some]
 rw[qkg (ndN n) (by omega) hs,q5K,if_neg (by simp)]
 by_cases h1:24<(ndN n).length
 ·rw[if_pos (by omega),if_pos h1]
 ·rw[if_neg (by omega),if_neg h1]
  by_cases h2:5<dpN 1 n 0
  ·rw[if_pos h2,if_pos h2]
  ·rw[if_neg h2,if_neg h2]
   cases inF ((ndN n).filter Zh).length 1 8
   ·simp
   ·simp only[Bool.not_true,Bool.false_eq_true,if_false,Option.bind_some]
    cases qkI (ndN n)<;>rfl
end Go.Proofs.YtgejdfnidjnjcaaGreat.Vc
namespace Go.Proofs.YtgejdfnidjnjcaaGreat.Vc
open Go.RowKit
section
variable {N:Nat} {best:Nat→Int} {M:Int}
theorem qla (rF:(qb×List qa×Int×qf)→Option (List Bool×List qa×Int×qf)) (hN:N≤65536) (hM:M≤1000000) (hb:Bnd best N M) (w9:List Bool) (b0:List qa) (b3:Int) (b4:qf) (b8:qb) (own:Nat→Bool) (skip:Bool) (t72:List qb) (t73 t74:Int) :
  qX (ZL rF w9 (Q3 N best) b0 b3 b4 b8 (Q3 N own) skip t72 t73 t74 ((N:Nat):Int)) (List.replicate N 0,0)=some (Q3 N (stF skip own best)):=by
 have h1:=J3 (step:=ZL rF w9 (Q3 N best) b0 b3 b4 b8 (Q3 N own) skip t72 t73 t74 ((N:Nat):Int)) (fun i=>(Q3 N (fun k=>if k<i then stF skip own best k else 0),(i:Int))) 0 N (Nat.zero_le _) (e:=Q3 N (stF skip own best)) (fun i _ hi=>by
   have hbi:=hb i hi
   have hw:w64 ((i:Int)+1)=((i+1:Nat):Int):=qY hi (by omega)
   have hg:∀v:Int,v=(if skip=true then best i else -1)→q4Y (q4Y (fun k=>if k<i then stF skip own best k else 0) i v) i (eaF own best i i i (q4Y (fun k=>if k<i then stF skip own best k else 0) i v i))=fun k=>if k<i+1 then stF skip own best k else 0:=fun v hv=>by
    funext k
    rw[q4C,q2P]
    unfold q4Y
    by_cases hk:k=i
    ·subst hk
     rw[if_pos rfl,if_pos (by omega)]
     unfold stF
     rw[←hv]
    ·rw[if_neg hk]
     show(if k<i then stF skip own best k else 0)=_
     by_cases h:k<i
     ·rw[if_pos h,if_pos (by omega)]
     ·rw[if_neg h,if_neg (by omega)]
   unfold ZL
   simp only
   rw[if_pos (by omega),qM,if_pos ⟨by omega,by omega⟩,Int.toNat_natCast,if_pos (by omega)]
   cases hs:skip
   ·simp only[Bool.false_eq_true,if_false]
    rw[zX]
    unfold Qb
    rw[qfL hN hM hb (own:=own) hi i i (Nat.le_refl _) (Nat.le_refl _),Option.bind_some,Option.bind_some,hw,←hs,hg (-1) (by rw[hs];rfl)]
   ·simp only[if_true]
    rw[qM,if_pos ⟨by omega,by omega⟩,Zb best hi,Option.bind_some,if_pos ⟨by omega,by omega⟩,if_pos (by omega),zX,zX,q2P]
    unfold Qb
    rw[qfL hN hM hb (own:=own) hi i i (Nat.le_refl _) (Nat.le_refl _),Option.bind_some,Option.bind_some,hw,←hs,hg (best i) (by rw[hs];rfl)]) (by
   unfold ZL
   simp only
   rw[if_neg (by omega)]
   congr 2
   exact ZN fun k hk=>if_pos hk)
 rw[q0K]
 have e:(fun k:Nat=>if k<0 then stF skip own best k else 0)=fun _=>0:=by funext k;rw[if_neg (by omega)]
 rw[e] at h1
 exact h1
theorem qvp (rF:(qb×List qa×Int×qf)→Option (List Bool×List qa×Int×qf)) (hN:N≤65536) (hN1:1≤N) (w9:List Bool) (b0:List qa) (b3:Int) (b4:qf) (b8:qb) :
  qX (ZC rF w9 b0 b3 b4 b8) (List.replicate N 0,1)=some (Q3 N b0F):=by
 have h1:=J3 (step:=ZC rF w9 b0 b3 b4 b8) (fun i=>(Q3 N (fun k=>if 1≤k∧k<i then -1 else 0),(i:Int))) 1 N hN1 (e:=Q3 N b0F) (fun i h1 hi=>by
   have hw:w64 ((i:Int)+1)=((i+1:Nat):Int):=qY hi (by omega)
   unfold ZC
   simp only
   rw[qM,if_pos (by omega),if_pos ⟨by omega,by omega⟩,Int.toNat_natCast,if_pos (by omega),hw,zX]
   rw[qbR (fun _=>(-1:Int)) 0 h1]) (by
   unfold ZC
   simp only
   rw[qM,if_neg (by omega)]
   congr 2
   refine ZN fun k hk=>?_
   unfold b0F
   by_cases h:k=0
   ·rw[if_pos h,if_neg (by omega)]
   ·rw[if_neg h,if_pos (by omega)])
 rw[q0K]
 have e:(fun k:Nat=>if 1≤k∧k<1 then(-1:Int) else 0)=fun _=>0:=by funext k;rw[if_neg (by omega)]
 rw[e] at h1
 exact h1
theorem qov (rF:(qb×List qa×Int×qf)→Option (List Bool×List qa×Int×qf)) (hN:N≤65536) (hN1:1≤N) (b0:List qa) (b3:Int) (b4:qf) (least:Int) :
  qX (ZJ rF (Q3 N best) b0 b3 b4 least) (List.replicate N false,1)=some (Q3 N (fun k=>decide (k≠0)&&decide (least≤best k))):=by
 have h1:=J3 (step:=ZJ rF (Q3 N best) b0 b3 b4 least) (fun i=>(Q3 N (fun k=>if 1≤k∧k<i then decide (least≤best k) else false),(i:Int))) 1 N hN1 (e:=Q3 N (fun k=>decide (k≠0)&&decide (least≤best k))) (fun i h1 hi=>by
   have hw:w64 ((i:Int)+1)=((i+1:Nat):Int):=qY hi (by omega)
   unfold ZJ
   simp only
   rw[qM,qM,if_pos (by omega),if_pos ⟨by omega,by omega⟩,Int.toNat_natCast,Zb best hi,Option.bind_some,if_pos ⟨by omega,by omega⟩,if_pos (by omega),hw,zX]
   rw[qbR (fun k=>decide (least≤best k)) false h1]) (by
   unfold ZJ
   simp only
   rw[qM,if_neg (by omega)]
   congr 2
   refine ZN fun k hk=>?_
   by_cases h:k=0
   ·subst h;simp
   ·rw[if_pos ⟨by omega,hk⟩];simp[h])
 rw[q0K]
 have e:(fun k:Nat=>if 1≤k∧k<1 then decide (least≤best k) else false)=fun _=>false:=by funext k;rw[if_neg (by omega)]
 rw[e] at h1
 exact h1
theorem qjb (rF:(qb×List qa×Int×qf)→Option (List Bool×List qa×Int×qf)) (d:List Int) (hd:d=[]) (s:qf) (l:List qa) (hl:l.length≤16) (n:qb) (hn:n.Set.length≤1000000) (nx:Nat) (hnx:nx≤1000000) (step:List Bool×Int→Option ((List Bool×Int)⊕List Bool))
  (hst:step=(if n.Kind=1 then JI rF l (nx:Int) s n else JF rF l (nx:Int) s n)) (hN:N≤65536) (hN1:1≤N) :
  qX step (List.replicate N false,1)=some (Q3 N (Zx d s l n nx)):=by
 have h1:=J3 (step:=step) (fun i=>(Q3 N (fun k=>if 1≤k∧k<i then Zx d s l n nx k else false),(i:Int))) 1 N hN1 (e:=Q3 N (Zx d s l n nx)) (fun i h1 hi=>by
   have hw:w64 ((i:Int)+1)=((i+1:Nat):Int):=qY hi (by omega)
   have hc:Q3 N (q4Y (fun k=>if 1≤k∧k<i then Zx d s l n nx k else false) i (Zx d s l n nx i))=Q3 N (fun k=>if 1≤k∧k<i+1 then Zx d s l n nx k else false):=by
    rw[qbR (Zx d s l n nx) false h1]
   have hz:decide (i≠0)=true:=decide_eq_true (by omega)
   have hwg:=qjJ n (by omega) s l (by omega) i (by omega)
   have hal:alF d nx i=true:=by rw[hd];rfl
   have hv:Zx d s l n nx i=(alF d nx i&&qdj n (wgF n s i l 0 ld0)):=by unfold Zx;rw[hz];simp
   have m1:n.Kind=1→zZ (wgF n s i l 0 ld0) n=qdj n (wgF n s i l 0 ld0):=fun hk=>by
    unfold zZ qdj
    rw[if_pos hk]
    cases(wgF n s i l 0 ld0).fine<;>simp
   have m2:n.Kind≠1→Qr (wgF n s i l 0 ld0) n=qdj n (wgF n s i l 0 ld0):=fun hk=>by
    unfold Qr qdj
    rw[if_neg hk]
    cases(wgF n s i l 0 ld0).fine
    ·simp
    ·by_cases h:0<(wgF n s i l 0 ld0).many<;>simp[h]
   rw[hst]
   by_cases hk:n.Kind=1
   ·rw[if_pos hk]
    unfold JI
    simp only
    rw[qM,if_pos (by omega),hwg,Option.bind_some]
    rw[if_pos ⟨by omega,by omega⟩,Int.toNat_natCast,if_pos (by omega),hw,m1 hk,zX,←hc,hv,hal,Bool.true_and]
   ·rw[if_neg hk]
    unfold JF
    simp only
    rw[qM,if_pos (by omega),hwg,Option.bind_some]
    rw[if_pos ⟨by omega,by omega⟩,Int.toNat_natCast,if_pos (by omega),hw,m2 hk,zX,←hc,hv,hal,Bool.true_and]) (by
   have hend:some (Sum.inr (α:=List Bool×Int) (Q3 N (fun k=>if 1≤k∧k<N then Zx d s l n nx k else false)))=some (Sum.inr (Q3 N (Zx d s l n nx))):=by
    congr 2
    refine ZN fun k hk=>?_
    by_cases h:k=0
    ·subst h;simp[Zx]
    ·rw[if_pos ⟨by omega,hk⟩]
   rw[hst]
   by_cases hk:n.Kind=1
   ·rw[if_pos hk]
    unfold JI
    simp only
    rw[qM,if_neg (by omega)]
    exact hend
   ·rw[if_neg hk]
    unfold JF
    simp only
    rw[qM,if_neg (by omega)]
    exact hend)
 rw[q0K]
 have e:(fun k:Nat=>if 1≤k∧k<1 then Zx d s l n nx k else false)=fun _=>false:=by funext k;rw[if_neg (by omega)]
 rw[e] at h1
 exact h1
end
end Go.Proofs.YtgejdfnidjnjcaaGreat.Vc
namespace Go.Proofs.YtgejdfnidjnjcaaGreat.Vc
open Go.RowKit
section
variable {N:Nat} {best:Nat→Int} {M:Int}
theorem qlW (rF:(qb×List Int×List qa×Int×qf)→Option (List Bool×List Int×List qa×Int×qf)) (hN:N≤65536) (hM:M≤1000000) (hb:Bnd best N M) (w7:List Int) (w9:List Bool) (b0:List qa) (b3:Int) (b4:qf) (b8:qb) (own:Nat→Bool) (skip:Bool) (t72:List qb) (t73 t74:Int) :
  qX (Z8 rF w7 w9 (Q3 N best) b0 b3 b4 b8 (Q3 N own) skip t72 t73 t74 ((N:Nat):Int)) (List.replicate N 0,0)=some (Q3 N (stF skip own best)):=by
 have h1:=J3 (step:=Z8 rF w7 w9 (Q3 N best) b0 b3 b4 b8 (Q3 N own) skip t72 t73 t74 ((N:Nat):Int)) (fun i=>(Q3 N (fun k=>if k<i then stF skip own best k else 0),(i:Int))) 0 N (Nat.zero_le _) (e:=Q3 N (stF skip own best)) (fun i _ hi=>by
   have hbi:=hb i hi
   have hw:w64 ((i:Int)+1)=((i+1:Nat):Int):=qY hi (by omega)
   have hg:∀v:Int,v=(if skip=true then best i else -1)→q4Y (q4Y (fun k=>if k<i then stF skip own best k else 0) i v) i (eaF own best i i i (q4Y (fun k=>if k<i then stF skip own best k else 0) i v i))=fun k=>if k<i+1 then stF skip own best k else 0:=fun v hv=>by
    funext k
    rw[q4C,q2P]
    unfold q4Y
    by_cases hk:k=i
    ·subst hk
     rw[if_pos rfl,if_pos (by omega)]
     unfold stF
     rw[←hv]
    ·rw[if_neg hk]
     show(if k<i then stF skip own best k else 0)=_
     by_cases h:k<i
     ·rw[if_pos h,if_pos (by omega)]
     ·rw[if_neg h,if_neg (by omega)]
   unfold Z8
   simp only
   rw[if_pos (by omega),qM,if_pos ⟨by omega,by omega⟩,Int.toNat_natCast,if_pos (by omega)]
   cases hs:skip
   ·simp only[Bool.false_eq_true,if_false]
    rw[zX]
    unfold Qb
    rw[qfL hN hM hb (own:=own) hi i i (Nat.le_refl _) (Nat.le_refl _),Option.bind_some,Option.bind_some,hw,←hs,hg (-1) (by rw[hs];rfl)]
   ·simp only[if_true]
    rw[qM,if_pos ⟨by omega,by omega⟩,Zb best hi,Option.bind_some,if_pos ⟨by omega,by omega⟩,if_pos (by omega),zX,zX,q2P]
    unfold Qb
    rw[qfL hN hM hb (own:=own) hi i i (Nat.le_refl _) (Nat.le_refl _),Option.bind_some,Option.bind_some,hw,←hs,hg (best i) (by rw[hs];rfl)]) (by
   unfold Z8
   simp only
   rw[if_neg (by omega)]
   congr 2
   exact ZN fun k hk=>if_pos hk)
 rw[q0K]
 have e:(fun k:Nat=>if k<0 then stF skip own best k else 0)=fun _=>0:=by funext k;rw[if_neg (by omega)]
 rw[e] at h1
 exact h1
theorem qvE (rF:(qb×List Int×List qa×Int×qf)→Option (List Bool×List Int×List qa×Int×qf)) (hN:N≤65536) (hN1:1≤N) (w7:List Int) (w9:List Bool) (b0:List qa) (b3:Int) (b4:qf) (b8:qb) :
  qX (ZD rF w7 w9 b0 b3 b4 b8) (List.replicate N 0,1)=some (Q3 N b0F):=by
 have h1:=J3 (step:=ZD rF w7 w9 b0 b3 b4 b8) (fun i=>(Q3 N (fun k=>if 1≤k∧k<i then -1 else 0),(i:Int))) 1 N hN1 (e:=Q3 N b0F) (fun i h1 hi=>by
   have hw:w64 ((i:Int)+1)=((i+1:Nat):Int):=qY hi (by omega)
   unfold ZD
   simp only
   rw[qM,if_pos (by omega),if_pos ⟨by omega,by omega⟩,Int.toNat_natCast,if_pos (by omega),hw,zX]
   rw[qbR (fun _=>(-1:Int)) 0 h1]) (by
   unfold ZD
   simp only
   rw[qM,if_neg (by omega)]
   congr 2
   refine ZN fun k hk=>?_
   unfold b0F
   by_cases h:k=0
   ·rw[if_pos h,if_neg (by omega)]
   ·rw[if_neg h,if_pos (by omega)])
 rw[q0K]
 have e:(fun k:Nat=>if 1≤k∧k<1 then(-1:Int) else 0)=fun _=>0:=by funext k;rw[if_neg (by omega)]
 rw[e] at h1
 exact h1
theorem qnW (rF:(qb×List Int×List qa×Int×qf)→Option (List Bool×List Int×List qa×Int×qf)) (hN:N≤65536) (hN1:1≤N) (w7:List Int) (b0:List qa) (b3:Int) (b4:qf) (least:Int) :
  qX (Z2 rF w7 (Q3 N best) b0 b3 b4 least) (List.replicate N false,1)=some (Q3 N (fun k=>decide (k≠0)&&decide (least≤best k))):=by
 have h1:=J3 (step:=Z2 rF w7 (Q3 N best) b0 b3 b4 least) (fun i=>(Q3 N (fun k=>if 1≤k∧k<i then decide (least≤best k) else false),(i:Int))) 1 N hN1 (e:=Q3 N (fun k=>decide (k≠0)&&decide (least≤best k))) (fun i h1 hi=>by
   have hw:w64 ((i:Int)+1)=((i+1:Nat):Int):=qY hi (by omega)
   unfold Z2
   simp only
   rw[qM,qM,if_pos (by omega),if_pos ⟨by omega,by omega⟩,Int.toNat_natCast,Zb best hi,Option.bind_some,if_pos ⟨by omega,by omega⟩,if_pos (by omega),hw,zX]
   rw[qbR (fun k=>decide (least≤best k)) false h1]) (by
   unfold Z2
   simp only
   rw[qM,if_neg (by omega)]
   congr 2
   refine ZN fun k hk=>?_
   by_cases h:k=0
   ·subst h;simp
   ·rw[if_pos ⟨by omega,hk⟩];simp[h])
 rw[q0K]
 have e:(fun k:Nat=>if 1≤k∧k<1 then decide (least≤best k) else false)=fun _=>false:=by funext k;rw[if_neg (by omega)]
 rw[e] at h1
 exact h1
theorem qiE (rF:(qb×List Int×List qa×Int×qf)→Option (List Bool×List Int×List qa×Int×qf)) (d:List Int) (hd:d.length≤16) (s:qf) (l:List qa) (hl:l.length≤16) (n:qb) (hn:n.Set.length≤1000000) (nx:Nat) (hnx:nx≤1000000) (step:List Bool×Int→Option ((List Bool×Int)⊕List Bool))
  (hst:step=(if n.Kind=1 then JL rF d l (nx:Int) s n else Ja rF d l (nx:Int) s n)) (hN:N≤65536) (hN1:1≤N) :
  qX step (List.replicate N false,1)=some (Q3 N (Zx d s l n nx)):=by
 have h1:=J3 (step:=step) (fun i=>(Q3 N (fun k=>if 1≤k∧k<i then Zx d s l n nx k else false),(i:Int))) 1 N hN1 (e:=Q3 N (Zx d s l n nx)) (fun i h1 hi=>by
   have hw:w64 ((i:Int)+1)=((i+1:Nat):Int):=qY hi (by omega)
   have hc:Q3 N (q4Y (fun k=>if 1≤k∧k<i then Zx d s l n nx k else false) i (Zx d s l n nx i))=Q3 N (fun k=>if 1≤k∧k<i+1 then Zx d s l n nx k else false):=by
    rw[qbR (Zx d s l n nx) false h1]
   have hz:decide (i≠0)=true:=decide_eq_true (by omega)
   have hwg:=qjJ n (by omega) s l (by omega) i (by omega)
   have hal:=qka d hd nx i (by omega)
   have hv:Zx d s l n nx i=(alF d nx i&&qdj n (wgF n s i l 0 ld0)):=by unfold Zx;rw[hz];simp
   have m1:n.Kind=1→zZ (wgF n s i l 0 ld0) n=qdj n (wgF n s i l 0 ld0):=fun hk=>by
    unfold zZ qdj
    rw[if_pos hk]
    cases(wgF n s i l 0 ld0).fine<;>simp
   have m2:n.Kind≠1→Qr (wgF n s i l 0 ld0) n=qdj n (wgF n s i l 0 ld0):=fun hk=>by
    unfold Qr qdj
    rw[if_neg hk]
    cases(wgF n s i l 0 ld0).fine
    ·simp
    ·by_cases h:0<(wgF n s i l 0 ld0).many<;>simp[h]
   rw[hst]
   by_cases hk:n.Kind=1
   ·rw[if_pos hk]
    unfold JL
    simp only
    rw[qM,if_pos (by omega),hal,Option.bind_some]
    cases ha:alF d nx i
    ·rw[if_neg (by simp),if_pos ⟨by omega,by omega⟩,Int.toNat_natCast,if_pos (by omega),hw,zX,←hc,hv,ha,Bool.false_and]
    ·rw[if_pos rfl,hwg,Option.bind_some,if_pos ⟨by omega,by omega⟩,Int.toNat_natCast,if_pos (by omega),hw,m1 hk,zX,←hc,hv,ha,Bool.true_and]
   ·rw[if_neg hk]
    unfold Ja
    simp only
    rw[qM,if_pos (by omega),hal,Option.bind_some]
    cases ha:alF d nx i
    ·rw[if_neg (by simp),if_pos ⟨by omega,by omega⟩,Int.toNat_natCast,if_pos (by omega),hw,zX,←hc,hv,ha,Bool.false_and]
    ·rw[if_pos rfl,hwg,Option.bind_some,if_pos ⟨by omega,by omega⟩,Int.toNat_natCast,if_pos (by omega),hw,m2 hk,zX,←hc,hv,ha,Bool.true_and]) (by
   have hend:some (Sum.inr (α:=List Bool×Int) (Q3 N (fun k=>if 1≤k∧k<N then Zx d s l n nx k else false)))=some (Sum.inr (Q3 N (Zx d s l n nx))):=by
    congr 2
    refine ZN fun k hk=>?_
    by_cases h:k=0
    ·subst h;simp[Zx]
    ·rw[if_pos ⟨by omega,hk⟩]
   rw[hst]
   by_cases hk:n.Kind=1
   ·rw[if_pos hk]
    unfold JL
    simp only
    rw[qM,if_neg (by omega)]
    exact hend
   ·rw[if_neg hk]
    unfold Ja
    simp only
    rw[qM,if_neg (by omega)]
    exact hend)
 rw[q0K]
 have e:(fun k:Nat=>if 1≤k∧k<1 then Zx d s l n nx k else false)=fun _=>false:=by funext k;rw[if_neg (by omega)]
 rw[e] at h1
 exact h1
end
end Go.Proofs.YtgejdfnidjnjcaaGreat.Vc
namespace Go.Proofs.YtgejdfnidjnjcaaGreat.Vc
open Go.RowKit
theorem q8b (N:Nat) (d:List Int) (s:qf) (l:List qa) (n:qb) (nx:Nat):Q3 N (Q1 d s l n nx)=if n.Kind=1∨n.Kind=2 then Q3 N (Zx d s l n nx) else Q3 N (fun k=>decide (k≠0)&&decide ((if n.Kind=3 then(n.L.length:Int) else n.N)≤q8m d s l (n.Kind==4) n.L nx b0F k)):=by
 have:Q1 d s l n nx=fun k=>Q1 d s l n nx k:=rfl
 by_cases h:n.Kind=1∨n.Kind=2
 ·rw[if_pos h];refine ZN fun k _=>?_;rw[qaq,if_pos h]
 ·rw[if_neg h];refine ZN fun k _=>?_;rw[qaq,if_neg h]
theorem qlU (d:List Int) (hd:d=[]) (s:qf) (l:List qa) (hl:l.length≤16) (n:qb) (hLn:n.L.length≤1000000)
  (hP:∀y∈n.L,∀nx:Nat,nx+(ndN y).length≤100000→Qg (y,l,(nx:Int),s)=some (Q3 (2 ^ l.length) (Q1 d s l y nx),l,((nx+lvN y:Nat):Int),s)) (w9:List Bool) :
  ∀(r:List qb) (i nx:Nat) (best:Nat→Int) (M:Int),r.length+i=n.L.length→(∀j,r[j]?=n.L[i+j]?)→nx+(ndL r).length≤100000→Bnd best (2 ^ l.length) M→0≤M→M+r.length≤100000→
  qX (ZG Qg w9 n n.L (n.L.length:Int)) (Q3 (2 ^ l.length) best,l,(nx:Int),s,(i:Int))=some ((Q3 (2 ^ l.length) (q8m d s l (n.Kind==4) r nx best),l,((nx+lvL r:Nat):Int),s)):=by
 intro r
 induction r with
 | nil=>
  intro i nx best M hi _ _ _ _ _
  have hi:i=n.L.length:=by simpa using hi
  subst hi
  refine zr ?_
  unfold ZG
  simp only
  rw[if_neg (by omega),lvL,Nat.add_zero]
  rfl
 | cons y r ih=>
  intro i nx best M hi hr hnx hb hM0 hM
  rw[ndL,List.length_append] at hnx
  have hlv:=qdw y
  simp only[List.length_cons,Int.natCast_add,Int.natCast_one] at hM hi
  have hget:n.L[i]?=some y:=by have:=hr 0;simpa using this.symm
  have hlt:i<n.L.length:=q08 hget
  have hN:2 ^ l.length≤65536:=Nat.le_trans (Nat.pow_le_pow_right (by decide) hl) (by decide)
  have hN1:1≤2 ^ l.length:=Nat.one_le_two_pow
  have hcall:=hP y (List.mem_of_getElem? hget) nx (by omega)
  have hw:w64 ((i:Int)+1)=((i+1:Nat):Int):=qY hlt (by omega)
  have hstep:ZG Qg w9 n n.L (n.L.length:Int) (Q3 (2 ^ l.length) best,l,(nx:Int),s,(i:Int))=some (.inl (Q3 (2 ^ l.length) (stF (n.Kind==4 && !foF d nx (nx+lvN y)) (Q1 d s l y nx) best),l,((nx+lvN y:Nat):Int),s,((i+1:Nat):Int))):=by
   unfold ZG
   simp only
   rw[if_pos (by omega),if_pos ⟨by omega,by omega⟩,Int.toNat_natCast,hget,Option.bind_some,hcall,Option.bind_some]
   simp only[qM]
   have hfo:foF d nx (nx+lvN y)=false:=by rw[hd];rfl
   cases hk4:(n.Kind==4)
   ·rw[if_neg (by simp),if_pos ⟨by omega,by omega,by omega⟩,qla (M:=M) Qg hN (by omega) hb,Option.bind_some,hw,Bool.false_and]
   ·rw[if_pos rfl,if_pos ⟨by omega,by omega,by omega⟩,qla (M:=M) Qg hN (by omega) hb,Option.bind_some,hw,hfo]
    rfl
  rw[zI hstep,ih (i+1) _ _ (M+1) (by omega) (fun j=>by rw[show i+1+j=i+(j+1) by omega,←hr (j+1)];rfl) (by omega) (qf7 hb (by omega)) (by omega) (by omega)]
  rw[lvL,←Nat.add_assoc]
  rfl
theorem qmD (d:List Int) (hd:d=[]) (s:qf) (l:List qa) (hl:l.length≤16):∀(m:Nat) (n:qb),(ndN n).length≤m→(ndN n).length≤10000→(∀y∈ndN n,y.Set.length≤1000000)→∀nx:Nat,nx+(ndN n).length≤100000→Qg (n,l,(nx:Int),s)=some (Q3 (2 ^ l.length) (Q1 d s l n nx),l,((nx+lvN n:Nat):Int),s):=by
 intro m
 induction m with
 | zero=>intro n h;rw[Zg] at h;simp at h
 | succ m ih=>
  intro n h1 h2 h3 nx hnx
  have hN:2 ^ l.length≤65536:=Nat.le_trans (Nat.pow_le_pow_right (by decide) hl) (by decide)
  have hN1:1≤2 ^ l.length:=Nat.one_le_two_pow
  have hlv:=qdw n
  have hset:=h3 n (by rw[Zg];exact List.mem_cons_self)
  have hsub:∀(L:List qb),(ndL L).length≤m→(ndL L).length≤10000→(∀y∈ndL L,y.Set.length≤1000000)→∀y∈L,∀nx:Nat,nx+(ndN y).length≤100000→Qg (y,l,(nx:Int),s)=some (Q3 (2 ^ l.length) (Q1 d s l y nx),l,((nx+lvN y:Nat):Int),s):=by
   intro L
   induction L with
   | nil=>intro _ _ _ y hy;simp at hy
   | cons x L ihl=>
    intro g1 g2 g3 y hy
    rw[ndL,List.length_append] at g1 g2
    rw[ndL] at g3
    rcases List.mem_cons.1 hy with rfl|hy
    ·exact ih _ (by omega) (by omega) fun z hz=>g3 z (List.mem_append_left _ hz)
    ·exact ihl (by omega) (by omega) (fun z hz=>g3 z (List.mem_append_right _ hz)) y hy
  have e0:ndN n=n::ndL n.L:=Zg n
  have hlen:(ndN n).length=(ndL n.L).length+1:=by rw[e0];rfl
  have hP:=hsub n.L (by omega) (by omega) fun y hy=>h3 y (by rw[e0];exact List.mem_cons_of_mem _ hy)
  have hLlen:∀L:List qb,L.length≤(ndL L).length:=fun L=>by
   induction L with
   | nil=>simp
   | cons x L ihL=>rw[ndL,List.length_append,List.length_cons,Zg,List.length_cons];omega
  have hLl:=hLlen n.L
  have hpow:w64 ((1:Int)*(2:Int) ^ min l.length (IntKind.bits IntKind.i64))=((2 ^ l.length:Nat):Int):=by
   rw[show min l.length (IntKind.bits IntKind.i64)=l.length from Nat.min_eq_left (by show l.length≤64;omega),Int.one_mul,show((2:Int) ^ l.length)=((2 ^ l.length:Nat):Int) by simp]
   exact QP (by omega) (by omega)
  rw[qc8,q1r]
  rw[hpow,if_pos (by omega),if_pos ⟨by omega,by omega,by omega⟩,Int.toNat_natCast,qcz,q8b]
  by_cases hlf:n.Kind=1∨n.Kind=2
  ·have e1:q9g n=true:=by unfold q9g;rcases hlf with h|h<;>simp[h]
   have e2:lvN n=1:=by rw[q5S,if_pos hlf]
   have hw2:w64 ((nx:Int)+1)=((nx+1:Nat):Int):=by rw[QP (by omega) (by omega)];omega
   rw[if_pos e1,if_pos hlf,e2]
   unfold q1I
   by_cases hk:n.Kind=1
   ·have hlt:=qjb Qg d hd s l hl n hset nx (by omega) _ (if_pos hk).symm hN hN1
    rw[if_pos (by simpa using hk),Option.bind_some,Sum.elim_inl,hlt,Option.bind_some,hw2]
   ·have hlt:=qjb Qg d hd s l hl n hset nx (by omega) _ (if_neg hk).symm hN hN1
    rw[if_neg (by simpa using hk),Option.bind_some,Sum.elim_inr,hlt,Option.bind_some,hw2]
  ·have e1:q9g n=false:=by unfold q9g;have h1:n.Kind≠1:=fun h=>hlf (.inl h);have h2:n.Kind≠2:=fun h=>hlf (.inr h);simp[h1,h2]
   have e2:lvN n=lvL n.L:=by rw[q5S,if_neg hlf]
   have hb0:Bnd b0F (2 ^ l.length) 0:=fun k _=>by unfold b0F;split<;>omega
   have hch:=qlU d hd s l hl n (by omega) hP (List.replicate (2 ^ l.length) false) n.L 0 nx b0F 0 (by simp) (by simp) (by omega) hb0 (by omega) (by omega)
   rw[e1,if_neg (by simp),if_neg hlf,e2,if_pos ⟨by omega,by omega,by omega⟩]
   rw[qvp Qg hN hN1,Option.bind_some]
   change Option.bind (qX _ (Q3 (2 ^ l.length) b0F,l,(nx:Int),s,((0:Nat):Int))) _=_
   rw[hch,Option.bind_some]
   simp only
   by_cases hk:n.Kind=3
   ·rw[if_pos (by simpa using hk),qov Qg hN hN1,Option.bind_some]
    simp only[if_pos hk]
   ·rw[if_neg (by simpa using hk),qov Qg hN hN1,Option.bind_some]
    simp only[if_neg hk]
theorem qlR (d:List Int) (hd:d.length≤16) (s:qf) (l:List qa) (hl:l.length≤16) (n:qb) (hLn:n.L.length≤1000000)
  (hP:∀y∈n.L,∀nx:Nat,nx+(ndN y).length≤100000→zJ (y,d,l,(nx:Int),s)=some (Q3 (2 ^ l.length) (Q1 d s l y nx),d,l,((nx+lvN y:Nat):Int),s)) (w9:List Bool) :
  ∀(r:List qb) (i nx:Nat) (best:Nat→Int) (M:Int),r.length+i=n.L.length→(∀j,r[j]?=n.L[i+j]?)→nx+(ndL r).length≤100000→Bnd best (2 ^ l.length) M→0≤M→M+r.length≤100000→
  qX (Z4 zJ w9 n n.L (n.L.length:Int)) (d,Q3 (2 ^ l.length) best,l,(nx:Int),s,(i:Int))=some ((d,Q3 (2 ^ l.length) (q8m d s l (n.Kind==4) r nx best),l,((nx+lvL r:Nat):Int),s)):=by
 intro r
 induction r with
 | nil=>
  intro i nx best M hi _ _ _ _ _
  have hi:i=n.L.length:=by simpa using hi
  subst hi
  refine zr ?_
  unfold Z4
  simp only
  rw[if_neg (by omega),lvL,Nat.add_zero]
  rfl
 | cons y r ih=>
  intro i nx best M hi hr hnx hb hM0 hM
  rw[ndL,List.length_append] at hnx
  have hlv:=qdw y
  simp only[List.length_cons,Int.natCast_add,Int.natCast_one] at hM hi
  have hget:n.L[i]?=some y:=by have:=hr 0;simpa using this.symm
  have hlt:i<n.L.length:=q08 hget
  have hN:2 ^ l.length≤65536:=Nat.le_trans (Nat.pow_le_pow_right (by decide) hl) (by decide)
  have hN1:1≤2 ^ l.length:=Nat.one_le_two_pow
  have hcall:=hP y (List.mem_of_getElem? hget) nx (by omega)
  have hw:w64 ((i:Int)+1)=((i+1:Nat):Int):=qY hlt (by omega)
  have hstep:Z4 zJ w9 n n.L (n.L.length:Int) (d,Q3 (2 ^ l.length) best,l,(nx:Int),s,(i:Int))=some (.inl (d,Q3 (2 ^ l.length) (stF (n.Kind==4 && !foF d nx (nx+lvN y)) (Q1 d s l y nx) best),l,((nx+lvN y:Nat):Int),s,((i+1:Nat):Int))):=by
   unfold Z4
   simp only
   rw[if_pos (by omega),if_pos ⟨by omega,by omega⟩,Int.toNat_natCast,hget,Option.bind_some,hcall,Option.bind_some]
   simp only[qM]
   cases hk4:(n.Kind==4)
   ·rw[if_neg (by simp),if_pos ⟨by omega,by omega,by omega⟩,qlW (M:=M) zJ hN (by omega) hb,Option.bind_some,hw,Bool.false_and]
   ·rw[if_pos rfl,qnc d hd nx (nx+lvN y),Option.bind_some,if_pos ⟨by omega,by omega,by omega⟩,qlW (M:=M) zJ hN (by omega) hb,Option.bind_some,hw,Bool.true_and]
  rw[zI hstep,ih (i+1) _ _ (M+1) (by omega) (fun j=>by rw[show i+1+j=i+(j+1) by omega,←hr (j+1)];rfl) (by omega) (qf7 hb (by omega)) (by omega) (by omega)]
  rw[lvL,←Nat.add_assoc]
  rfl
theorem ql5 (d:List Int) (hd:d.length≤16) (s:qf) (l:List qa) (hl:l.length≤16):∀(m:Nat) (n:qb),(ndN n).length≤m→(ndN n).length≤10000→(∀y∈ndN n,y.Set.length≤1000000)→∀nx:Nat,nx+(ndN n).length≤100000→zJ (n,d,l,(nx:Int),s)=some (Q3 (2 ^ l.length) (Q1 d s l n nx),d,l,((nx+lvN n:Nat):Int),s):=by
 intro m
 induction m with
 | zero=>intro n h;rw[Zg] at h;simp at h
 | succ m ih=>
  intro n h1 h2 h3 nx hnx
  have hN:2 ^ l.length≤65536:=Nat.le_trans (Nat.pow_le_pow_right (by decide) hl) (by decide)
  have hN1:1≤2 ^ l.length:=Nat.one_le_two_pow
  have hlv:=qdw n
  have hset:=h3 n (by rw[Zg];exact List.mem_cons_self)
  have hsub:∀(L:List qb),(ndL L).length≤m→(ndL L).length≤10000→(∀y∈ndL L,y.Set.length≤1000000)→∀y∈L,∀nx:Nat,nx+(ndN y).length≤100000→zJ (y,d,l,(nx:Int),s)=some (Q3 (2 ^ l.length) (Q1 d s l y nx),d,l,((nx+lvN y:Nat):Int),s):=by
   intro L
   induction L with
   | nil=>intro _ _ _ y hy;simp at hy
   | cons x L ihl=>
    intro g1 g2 g3 y hy
    rw[ndL,List.length_append] at g1 g2
    rw[ndL] at g3
    rcases List.mem_cons.1 hy with rfl|hy
    ·exact ih _ (by omega) (by omega) fun z hz=>g3 z (List.mem_append_left _ hz)
    ·exact ihl (by omega) (by omega) (fun z hz=>g3 z (List.mem_append_right _ hz)) y hy
  have e0:ndN n=n::ndL n.L:=Zg n
  have hlen:(ndN n).length=(ndL n.L).length+1:=by rw[e0];rfl
  have hP:=hsub n.L (by omega) (by omega) fun y hy=>h3 y (by rw[e0];exact List.mem_cons_of_mem _ hy)
  have hLlen:∀L:List qb,L.length≤(ndL L).length:=fun L=>by
   induction L with
   | nil=>simp
   | cons x L ihL=>rw[ndL,List.length_append,List.length_cons,Zg,List.length_cons];omega
  have hLl:=hLlen n.L
  have hpow:w64 ((1:Int)*(2:Int) ^ min l.length (IntKind.bits IntKind.i64))=((2 ^ l.length:Nat):Int):=by
   rw[show min l.length (IntKind.bits IntKind.i64)=l.length from Nat.min_eq_left (by show l.length≤64;omega),Int.one_mul,show((2:Int) ^ l.length)=((2 ^ l.length:Nat):Int) by simp]
   exact QP (by omega) (by omega)
  rw[q9J,q0M]
  rw[hpow,if_pos (by omega),if_pos ⟨by omega,by omega,by omega⟩,Int.toNat_natCast,qcz,q8b]
  by_cases hlf:n.Kind=1∨n.Kind=2
  ·have e1:q9g n=true:=by unfold q9g;rcases hlf with h|h<;>simp[h]
   have e2:lvN n=1:=by rw[q5S,if_pos hlf]
   have hw2:w64 ((nx:Int)+1)=((nx+1:Nat):Int):=by rw[QP (by omega) (by omega)];omega
   rw[if_pos e1,if_pos hlf,e2]
   unfold q1I
   by_cases hk:n.Kind=1
   ·have hlt:=qiE zJ d hd s l hl n hset nx (by omega) _ (if_pos hk).symm hN hN1
    rw[if_pos (by simpa using hk),Option.bind_some,Sum.elim_inl,hlt,Option.bind_some,hw2]
   ·have hlt:=qiE zJ d hd s l hl n hset nx (by omega) _ (if_neg hk).symm hN hN1
    rw[if_neg (by simpa using hk),Option.bind_some,Sum.elim_inr,hlt,Option.bind_some,hw2]
  ·have e1:q9g n=false:=by unfold q9g;have h1:n.Kind≠1:=fun h=>hlf (.inl h);have h2:n.Kind≠2:=fun h=>hlf (.inr h);simp[h1,h2]
   have e2:lvN n=lvL n.L:=by rw[q5S,if_neg hlf]
   have hb0:Bnd b0F (2 ^ l.length) 0:=fun k _=>by unfold b0F;split<;>omega
   have hch:=qlR d hd s l hl n (by omega) hP (List.replicate (2 ^ l.length) false) n.L 0 nx b0F 0 (by simp) (by simp) (by omega) hb0 (by omega) (by omega)
   rw[e1,if_neg (by simp),if_neg hlf,e2,if_pos ⟨by omega,by omega,by omega⟩]
   rw[qvE zJ hN hN1,Option.bind_some]
   change Option.bind (qX _ (d,Q3 (2 ^ l.length) b0F,l,(nx:Int),s,((0:Nat):Int))) _=_
   rw[hch,Option.bind_some]
   simp only
   by_cases hk:n.Kind=3
   ·rw[if_pos (by simpa using hk),qnW zJ hN hN1,Option.bind_some]
    simp only[if_pos hk]
   ·rw[if_neg (by simpa using hk),qnW zJ hN hN1,Option.bind_some]
    simp only[if_neg hk]
end Go.Proofs.YtgejdfnidjnjcaaGreat.Vc
namespace Go.Proofs.YtgejdfnidjnjcaaGreat.Vc
open Go.RowKit
structure q2r (d:qj):Prop where
 lo:0≤d.At
 hi:d.At≤d.L.length
 len:d.L.length≤9223372036854775807
theorem qdG {d:qj} (h:q2r d) {most:Int} (h0:0<most) (h1:most≤1000000):∃v d',qH most d=some (v,d')∧0≤v∧v<most∧q2r d':=by
 obtain⟨a,b,c⟩:=h
 unfold qH
 by_cases he:(d.L.length:Int)≤d.At
 ·exact⟨0,d,if_pos he,Int.le_refl _,h0,⟨a,b,c⟩⟩
 ·obtain⟨x,hx⟩:∃x,d.L[Int.toNat d.At]?=some x:=⟨_,List.getElem?_eq_getElem (by omega)⟩
  have e1:=Int.tmod_lt_of_pos x h0
  have e2 : -most<Int.tmod x most:=by
   have:=Int.tmod_lt_of_pos (-x) h0
   rw[Int.neg_tmod] at this;omega
  have e3:w64 (Int.tmod x most+most)=Int.tmod x most+most:=QP (by omega) (by omega)
  have e4:=Int.tmod_lt_of_pos (Int.tmod x most+most) h0
  have e5:0≤Int.tmod (Int.tmod x most+most) most:=Int.tmod_nonneg _ (by omega)
  have e6:w64 (d.At+1)=d.At+1:=QP (by omega) (by omega)
  refine⟨Int.tmod (Int.tmod x most+most) most,⟨d.L,d.At+1⟩,?_,e5,e4,⟨by show 0≤d.At+1;omega,by show d.At+1≤d.L.length;omega,c⟩⟩
  rw[if_neg he,if_pos ⟨a,by omega⟩,hx,Option.bind_some,if_neg (by omega),if_neg (by omega),e3,e6]
def q9D:List Int:=[1,1,1,2,2,3]
def qcQ (c:qc):Prop:=c.School∈q9D∧c.Code∈Qf
theorem qtp {α:Type} (l:List α) (i:Int) (h0:0≤i) (h1:i<l.length):∃x,l[Int.toNat i]?=some x∧x∈l:=⟨l[Int.toNat i],List.getElem?_eq_getElem (by omega),List.getElem_mem _⟩
theorem quu {d:qj} (h:q2r d):∃c d',q2o d=some (c,d')∧qcQ c∧q2r d':=by
 obtain⟨v,d1,e1,a1,b1,h1⟩:=qdG h (most:=6) (by omega) (by omega)
 obtain⟨w,d2,e2,a2,b2,h2⟩:=qdG h1 (most:=((Qf.length:Nat):Int)) (by unfold Qf;simp) (by unfold Qf;simp)
 obtain⟨x,hx,mx⟩:=qtp q9D v a1 (by simpa [q9D] using b1)
 obtain⟨y,hy,my⟩:=qtp Qf w a2 b2
 refine⟨⟨x,y⟩,d2,?_,⟨mx,my⟩,h2⟩
 unfold q2o
 rw[e1,Option.bind_some,if_pos ⟨a1,b1⟩]
 unfold q9D at hx
 rw[hx,Option.bind_some,e2,Option.bind_some,if_pos ⟨a2,b2⟩,hy,Option.bind_some]
theorem qes {c:qc} (h:qcQ c):q0q c=true:=by
 obtain⟨s,k⟩:=c
 obtain⟨h1,h2⟩:=h
 have e1:∀s∈q9D,inF s 1 8=true:=by decide
 have e2:∀k∈Qf,qgv k=true:=by unfold Qf;decide
 unfold q0q
 rw[e1 s h1,e2 k h2];rfl
theorem qrj:∀(x y:List UInt8),Op.bytesLess x y=true∨x=y∨Op.bytesLess y x=true
 | [],[] => .inr (.inl rfl)
 | [],_::_ => .inl rfl
 | _::_,[] => .inr (.inr rfl)
 | a::x,b::y=>by
  simp only[Op.bytesLess]
  by_cases h1:a<b
  ·simp[h1]
  ·by_cases h2:b<a
   ·simp[h1,h2]
   ·have:a=b:=by
     apply UInt8.toNat_inj.1
     have h1':¬ a.toNat<b.toNat:=h1
     have h2':¬ b.toNat<a.toNat:=h2
     omega
    subst this
    rcases qrj x y with h|h|h<;>simp[h]
noncomputable def q4M (a b:qc):Bool:=Q8 a b
theorem qpG (a b:qc):q4M a b=decide (qvL a b<0):=by
 unfold q4M Q8 qvL qqW qB3
 by_cases h1:a.School<b.School
 ·rw[if_pos h1,if_pos (by omega),if_pos h1];rfl
 ·rw[if_neg h1]
  by_cases h2:a.School=b.School
  ·rw[if_pos (by simpa using h2),if_neg (fun h=>h h2)]
   cases h3:Op.bytesLess a.Code.toList b.Code.toList
   ·cases h4:(a.Code.toList==b.Code.toList)<;>simp
   ·simp
  ·rw[if_neg (by simpa using h2),if_pos h2,if_neg h1,if_pos (by omega)];rfl
theorem qp1 (a b:qc):q4M a b=true∨ceq a b=true∨q4M b a=true:=by
 unfold q4M Q8 ceq
 by_cases h1:a.School<b.School
 ·simp[h1]
 ·by_cases h2:b.School<a.School
  ·simp[h2]
  ·have h3:a.School=b.School:=by omega
   rcases qrj a.Code.toList b.Code.toList with h|h|h
   ·left;simp[h3,h]
   ·right;left;simp[h3,h]
   ·right;right;simp[h3,h]
def qh6 {α:Type} (l:List α) (k:Nat) (c:α):List α:=l.take k++c::l.drop k
theorem qrU {α:Type}:∀(ys l:List α) (k:Nat),k+ys.length≤l.length→spl l k ys=l.take k++(ys++l.drop (k+ys.length))
 | [],l,k,_=>by rw[spl,List.length_nil,Nat.add_zero,List.nil_append,List.take_append_drop]
 | x::ys,l,k,h=>by
  simp only[List.length_cons] at h ⊢
  rw[spl,qrU ys (l.set k x) (k+1) (by rw[List.length_set];omega)]
  have e:l.set k x=l.take k++x::l.drop (k+1):=by rw[List.set_eq_take_append_cons_drop,if_pos (by omega)]
  have hl:(l.take k).length=k:=by rw[List.length_take];omega
  have e1:(l.set k x).take (k+1)=l.take k++[x]:=by
   rw[e,List.take_append,hl,List.take_of_length_le (by omega),show k+1-k=1 by omega];rfl
  have e2:(l.set k x).drop (k+1+ys.length)=l.drop (k+(ys.length+1)):=by
   rw[e,List.drop_append,hl,List.drop_eq_nil_of_le (by omega),List.nil_append,show k+1+ys.length-k=ys.length+1 by omega,List.drop_succ_cons,List.drop_drop]
   congr 1;omega
  rw[e1,e2,List.append_assoc]
  rfl
theorem qmO {α:Type} (l:List α) (z c:α) (k:Nat) (h:k<l.length):List.set (spl (l++[z]) (k+1) (List.take (min (l.length+1-k) (l.length+1-(k+1))) (List.take (l.length+1-k) (List.drop k (l++[z]))))) k c=qh6 l k c:=by
 have e1:List.take (min (l.length+1-k) (l.length+1-(k+1))) (List.take (l.length+1-k) (List.drop k (l++[z])))=l.drop k:=by
  rw[List.take_take,List.drop_append_of_le_length (by omega),show min (min (l.length+1-k) (l.length+1-(k+1))) (l.length+1-k)=l.length-k by omega,List.take_append_of_le_length (by rw[List.length_drop];omega),List.take_of_length_le (by rw[List.length_drop];omega)]
 rw[e1,qrU _ _ _ (by rw[List.length_drop,List.length_append,List.length_singleton];omega)]
 unfold qh6
 have e2:List.drop (k+1+(l.length-k)) (l++[z])=[]:=List.drop_eq_nil_of_le (by rw[List.length_append,List.length_singleton];omega)
 rw[List.length_drop,e2,List.append_nil,List.take_append_of_le_length (by omega)]
 rw[List.take_add_one,List.getElem?_eq_getElem h,Option.toList_some,List.append_assoc,List.set_append_right _ _ (by rw[List.length_take];omega),List.length_take,Nat.min_eq_left (by omega),Nat.sub_self]
 rfl
theorem qjK {α:Type} (l:List α) (z c:α):List.set (l++[z]) l.length c=qh6 l l.length c:=by
 unfold qh6
 rw[List.set_append_right _ _ (Nat.le_refl _),Nat.sub_self,List.take_length,List.drop_length]
 rfl
end Go.Proofs.YtgejdfnidjnjcaaGreat.Vc
namespace Go.Proofs.YtgejdfnidjnjcaaGreat.Vc
open Go.RowKit
structure qaU (l:List qc):Prop where
 ok:∀c∈l,qcQ c
 ord:qfC l=true
theorem q4s {x y:qc} {l:List qc}:qfC (x::y::l)=(q4M x y&&qfC (y::l)):=by rw[qfC,qpG]
theorem qll {x:qc} {l:List qc} (h:qfC (x::l)=true):qfC l=true:=by
 cases l with
 | nil=>rfl
 | cons y l=>rw[q4s,Bool.and_eq_true] at h;exact h.2
noncomputable def atF (l:List qc) (c:qc):Nat:=(l.takeWhile fun x=>q4M x c).length
theorem qmj (l:List qc) (c:qc):atF l c≤l.length:=by
 unfold atF
 induction l with
 | nil=>simp
 | cons x l ih=>rw[List.takeWhile_cons];split<;>simp<;>omega
theorem qmP {c:qc}:∀{l:List qc},qfC l=true→(∀x,l[atF l c]?=some x→ceq x c=false)→qfC (qh6 l (atF l c) c)=true
 | [],_,_=>rfl
 | x::l,h,hc=>by
  by_cases hx:q4M x c=true
  ·have e:atF (x::l) c=atF l c+1:=by unfold atF;rw[List.takeWhile_cons,if_pos hx];rfl
   rw[e] at hc ⊢
   have ih:=qmP (qll h) (fun y hy=>hc y (by simpa using hy))
   have e2:qh6 (x::l) (atF l c+1) c=x::qh6 l (atF l c) c:=rfl
   rw[e2]
   cases l with
   | nil=>rw[show qh6 ([]:List qc) (atF [] c) c=[c] from rfl,q4s,hx];rfl
   | cons y l=>
    rw[q4s,Bool.and_eq_true] at h
    by_cases hy:q4M y c=true
    ·have e3:atF (y::l) c=atF l c+1:=by unfold atF;rw[List.takeWhile_cons,if_pos hy];rfl
     rw[e3] at ih ⊢
     have e4:qh6 (y::l) (atF l c+1) c=y::qh6 l (atF l c) c:=rfl
     rw[e4] at ih ⊢
     rw[q4s,h.1,ih];rfl
    ·have e3:atF (y::l) c=0:=by unfold atF;rw[List.takeWhile_cons,if_neg hy];rfl
     rw[e3] at ih ⊢
     have e4:qh6 (y::l) 0 c=c::y::l:=rfl
     rw[e4] at ih ⊢
     rw[q4s,hx,ih];rfl
  ·have e:atF (x::l) c=0:=by unfold atF;rw[List.takeWhile_cons,if_neg hx];rfl
   rw[e] at hc ⊢
   have e2:qh6 (x::l) 0 c=c::x::l:=rfl
   rw[e2,q4s]
   have h1:=hc x (by simp)
   rcases qp1 x c with h2|h2|h2
   ·exact absurd h2 hx
   ·rw[h2] at h1;cases h1
   ·rw[h2,h];rfl
theorem quP (out:List qc) (hl:out.length≤1000000) (d:qj) (c:qc) (many k:Int):qX (q0D out d c many k) 0=some ((atF out c:Nat):Int):=by
 have h1:=q20 (ε:=Int) (step:=q0D out d c many k) out (fun(_:Unit) i=>(i:Int)) (fun i _ x=>if q4M x c=true then .inl () else .inr (i:Int)) (fun _=>(out.length:Int)) (fun _ i x hx=>by
   have hi:=q08 hx
   unfold q0D
   rw[if_pos (by omega),if_pos ⟨by omega,by omega⟩,Int.toNat_natCast,hx,Option.bind_some,qY hi (by omega)]
   show(if q4M x c=true then _ else _)=_
   cases q4M x c<;>simp) (fun _=>by
   unfold q0D
   rw[if_neg (by omega)]) ()
 rw[show((0:Nat):Int)=0 from rfl] at h1
 rw[h1]
 congr 1
 have:∀(l:List qc) (i:Nat) (n:Nat),i+l.length=n→q4c (ε:=Int) (fun i (_:Unit) (x:qc)=>if q4M x c=true then .inl () else .inr (i:Int)) (fun _=>(n:Int)) l i ()=((i+atF l c:Nat):Int):=by
  intro l
  induction l with
  | nil=>intro i n h;simp at h;unfold q4c atF;simp[h]
  | cons x l ih=>
   intro i n h
   simp only[List.length_cons] at h
   unfold q4c
   by_cases hx:q4M x c=true
   ·have e:atF (x::l) c=atF l c+1:=by unfold atF;rw[List.takeWhile_cons,if_pos hx];rfl
    simp only[hx,if_true]
    rw[ih (i+1) n (by omega),e]
    omega
   ·have e:atF (x::l) c=0:=by unfold atF;rw[List.takeWhile_cons,if_neg hx];rfl
    have hx':q4M x c=false:=by simpa using hx
    simp only[hx',Bool.false_eq_true,if_false]
    rw[e];rfl
 have:=this out 0 out.length (by simp)
 simpa using this
noncomputable def qhS (l:List qc) (c:qc):List qc:=if(l[atF l c]?).any (fun x=>ceq x c)=true then l else qh6 l (atF l c) c
theorem qhi (l:List qc) (c:qc):l.length≤(qhS l c).length∧(qhS l c).length≤l.length+1∧1≤(qhS l c).length:=by
 have h:=qmj l c
 unfold qhS
 split
 ·rename_i h2
  refine⟨Nat.le_refl _,by omega,?_⟩
  cases l with
  | nil=>simp at h2
  | cons x l=>simp
 ·unfold qh6
  simp only[List.length_append,List.length_cons,List.length_take,List.length_drop]
  omega
theorem qq5 {l:List qc} {c:qc} (h:qaU l) (hc:qcQ c):qaU (qhS l c):=by
 unfold qhS
 split
 ·exact h
 ·rename_i h2
  refine⟨fun x hx=>?_,qmP h.ord fun x hx=>?_⟩
  ·unfold qh6 at hx
   rcases List.mem_append.1 hx with hx|hx
   ·exact h.ok x (List.mem_of_mem_take hx)
   ·rcases List.mem_cons.1 hx with rfl|hx
    ·exact hc
    ·exact h.ok x (List.mem_of_mem_drop hx)
  ·rw[hx] at h2
   simpa using h2
theorem qlw (out:List qc) (hl:out.length≤1000) {d:qj} (hd:q2r d) (many:Int) (k:Nat) (hk:(k:Int)<many) (hk2:k≤1000):∃c d',qcQ c∧q2r d'∧Jt many (out,d,(k:Int))=some (.inl (qhS out c,d',((k+1:Nat):Int))):=by
 obtain⟨c,d',h1,h2,h3⟩:=quu hd
 refine⟨c,d',h2,h3,?_⟩
 have hML:100000≤maxLen:=by unfold maxLen;omega
 have hat:=qmj out c
 unfold Jt
 simp only
 rw[if_pos hk,h1,Option.bind_some]
 simp only
 rw[quP out (by omega),Option.bind_some]
 have hwk:w64 ((k:Int)+1)=((k+1:Nat):Int):=by rw[QP (by omega) (by omega)];omega
 have hwa:w64 (((atF out c:Nat):Int)+1)=((atF out c+1:Nat):Int):=by rw[QP (by omega) (by omega)];omega
 rw[hwk,hwa]
 simp only[Int.toNat_natCast,List.length_take,List.length_drop,List.length_append,List.length_cons,List.length_nil]
 unfold qhS
 by_cases hlt:atF out c<out.length
 ·obtain⟨x,hx⟩:∃x,out[atF out c]?=some x:=⟨_,List.getElem?_eq_getElem hlt⟩
  rw[if_pos (by omega),if_pos ⟨by omega,by omega⟩,hx,Option.bind_some]
  simp only[Option.any_some]
  by_cases hc:ceq x c=true
  ·have hc2:=hc
   unfold ceq at hc2
   simp only[Bool.and_eq_true] at hc2
   rw[if_pos hc2,if_pos hc]
  ·have hc2:¬ ((x.School==c.School)=true∧(x.Code.toList==c.Code.toList)=true):=fun h=>hc (by unfold ceq;rw[h.1,h.2];rfl)
   rw[if_neg hc2,if_neg hc]
   repeat (first|rw[if_pos (by omega)]|rw[if_neg (by omega)])
   rw[qmO _ _ _ _ hlt]
 ·have he:atF out c=out.length:=by omega
  have hnone:out[out.length]?=none:=List.getElem?_eq_none (Nat.le_refl _)
  rw[he,hnone]
  simp only[Option.any_none,Bool.false_eq_true,if_false]
  repeat (first|rw[if_pos (by omega)]|rw[if_neg (by omega)])
  rw[qjK]
theorem qFl {d:qj} (hd:q2r d):∃S d',JU d=some (S,d')∧q2r d'∧qaU S∧1≤S.length∧S.length≤3:=by
 obtain⟨v,d1,e1,a1,b1,h1⟩:=qdG hd (most:=3) (by omega) (by omega)
 obtain⟨m,rfl⟩:∃m:Nat,v=(m:Int):=⟨v.toNat,by omega⟩
 have hw:w64 (1+(m:Int))=((m+1:Nat):Int):=by rw[QP (by omega) (by omega)];omega
 have key:∀(j k:Nat) (out:List qc) (d:qj),j+k=m+1→q2r d→qaU out→out.length≤k→(1≤k→1≤out.length)→∃S d',qX (Jt ((m+1:Nat):Int)) (out,d,(k:Int))=some (S,d')∧q2r d'∧qaU S∧1≤S.length∧S.length≤m+1:=by
  intro j
  induction j with
  | zero=>
   intro k out d hk hd hs hl1 hl2
   refine⟨out,d,zr ?_,hd,hs,hl2 (by omega),by omega⟩
   unfold Jt
   simp only
   rw[if_neg (by omega)]
  | succ j ih=>
   intro k out d hk hd hs hl1 hl2
   obtain⟨c,d',g1,g2,g3⟩:=qlw out (by omega) hd ((m+1:Nat):Int) k (by omega) (by omega)
   obtain⟨p1,p2,p3⟩:=qhi out c
   rw[zI g3]
   exact ih (k+1) _ d' (by omega) g2 (qq5 hs g1) (by omega) (fun _=>p3)
 obtain⟨S,d',g1,g2,g3,g4,g5⟩:=key (m+1) 0 [] d1 (by omega) h1 ⟨by simp,rfl⟩ (by simp) (by omega)
 refine⟨S,d',?_,g2,g3,g4,by omega⟩
 unfold JU
 rw[e1,Option.bind_some,hw]
 rw[show((0:Nat):Int)=0 from rfl] at g1
 simp only
 rw[g1,Option.bind_some]
end Go.Proofs.YtgejdfnidjnjcaaGreat.Vc
namespace Go.Proofs.YtgejdfnidjnjcaaGreat.Vc
open Go.RowKit
structure qcq (n:qb):Prop where
 kd:(n.Kind=2∧1≤n.N∧n.N≤12)∨(n.Kind=1∧n.N=0)
 mn:0≤n.Min∧n.Min≤80
 st:qaU n.Set
 s1:1≤n.Set.length
 s3:n.Set.length≤3
 nl:n.L=[]
structure qgq (n:qb):Prop where
 kd:(n.Kind=3∧n.N=0)∨(n.Kind=4∧1≤n.N∧n.N≤n.L.length)
 mn:n.Min=0
 st:n.Set=[]
 ne:n.L≠[]
def q85 (n:qb):Prop:=qcq n∨qgq n
structure q4o (deep leaves:Nat) (n:qb):Prop where
 ok:∀y∈ndN n,q85 y
 hg:hgN n≤deep+1
 l1:1≤lvN n
 l2:lvN n≤max 1 leaves
 nd:(ndN n).length≤lvN n*(deep+1)
theorem qdD {n:qb} (h:qcq n) (deep leaves:Nat):q4o deep leaves n:=by
 have e1:ndN n=[n]:=by rw[Zg,h.nl,ndL]
 have e2:lvN n=1:=by rw[q5S,if_pos];rcases h.kd with h|h<;>simp[h.1]
 have e3:hgN n=1:=by rw[qbE,h.nl,hgL]
 refine⟨fun y hy=>?_,by omega,by omega,by omega,?_⟩
 ·rw[e1] at hy
  rw[List.mem_singleton.1 hy];exact .inl h
 ·rw[e1,e2,List.length_singleton];omega
noncomputable def qlt (d:qj):Option (qb×qj):=Option.bind (qH (3:Int) d) fun a3=>if(a3.1==(0:Int))=Bool.true then Option.bind (qH (12:Int) a3.2) fun a4=>Option.bind (qH (3:Int) a4.2) fun a5=>if(0:Int)≤a5.1∧a5.1<(3:Int) then Option.bind [(0:Int),(50:Int),(60:Int)][Int.toNat a5.1]? fun a6=>Option.bind (JU a5.2) fun a7=>some (qb.mk (2:Int) (w64 ((1:Int)+a4.1)) a6 a7.1 [],a7.2) else none else Option.bind (qH (4:Int) a3.2) fun a8=>if(0:Int)≤a8.1∧a8.1<(4:Int) then Option.bind [(0:Int),(50:Int),(60:Int),(80:Int)][Int.toNat a8.1]? fun a9=>Option.bind (JU a8.2) fun a10=>some (qb.mk (1:Int) (0:Int) a9 a10.1 [],a10.2) else none
theorem qj2 {d:qj} (hd:q2r d):∃n d',qlt d=some (n,d')∧qcq n∧q2r d':=by
 obtain⟨v,d1,e1,a1,b1,h1⟩:=qdG hd (most:=3) (by omega) (by omega)
 unfold qlt
 rw[e1,Option.bind_some]
 simp only
 by_cases hv:v=0
 ·obtain⟨w,d2,e2,a2,b2,h2⟩:=qdG h1 (most:=12) (by omega) (by omega)
  obtain⟨u,d3,e3,a3,b3,h3⟩:=qdG h2 (most:=3) (by omega) (by omega)
  obtain⟨x,hx,mx⟩:=qtp [(0:Int),50,60] u a3 (by simpa using b3)
  obtain⟨S,d4,e4,h4,s1,s2,s3⟩:=qFl h3
  have hw:w64 (1+w)=1+w:=QP (by omega) (by omega)
  have hm:∀x∈[(0:Int),50,60],0≤x∧x≤80:=by decide
  refine⟨⟨2,1+w,x,S,[]⟩,d4,?_,⟨.inl ⟨rfl,by show 1≤1+w;omega,by show 1+w≤12;omega⟩,hm x mx,s1,s2,s3,rfl⟩,h4⟩
  rw[if_pos (by simp[hv]),e2,Option.bind_some]
  simp only
  rw[e3,Option.bind_some]
  simp only
  rw[if_pos ⟨a3,b3⟩,hx,Option.bind_some,e4,Option.bind_some,hw]
 ·obtain⟨u,d3,e3,a3,b3,h3⟩:=qdG h1 (most:=4) (by omega) (by omega)
  obtain⟨x,hx,mx⟩:=qtp [(0:Int),50,60,80] u a3 (by simpa using b3)
  obtain⟨S,d4,e4,h4,s1,s2,s3⟩:=qFl h3
  have hm:∀x∈[(0:Int),50,60,80],0≤x∧x≤80:=by decide
  refine⟨⟨1,0,x,S,[]⟩,d4,?_,⟨.inr ⟨rfl,rfl⟩,hm x mx,s1,s2,s3,rfl⟩,h4⟩
  rw[if_neg (by simpa using hv),e3,Option.bind_some]
  simp only
  rw[if_pos ⟨a3,b3⟩,hx,Option.bind_some,e4,Option.bind_some]
theorem qbD (rF:(Int×Int×qj)→Option (qb×qj)) (x1 x2:Int) (v:qj):q1X rF (x1,x2,v)=(qH 6 v).bind fun a2=>
  if x1≤0 then qlt a2.2 else if x2<2 then qlt a2.2 else if a2.1<2 then qlt a2.2 else
  Option.bind (qH (min (3:Int) x2) a2.2) fun a27=>
  Option.bind (qX (Zo rF (0:Int) (0:Int) (0:Int) (3:Int) (0:Int) (0:Int) x1 x2 a2.1 (w64 ((1:Int)+a27.1))) ([],(a27.2,(0:Int)))) fun a28=>
  if(3:Int)<a2.1 then Option.bind (qH (w64 ((1:Int)+a27.1)) a28.2) fun a29=>
   some (qb.mk (4:Int) (w64 ((1:Int)+a29.1)) (0:Int) [] a28.1,a29.2)
  else some (qb.mk (3:Int) (0:Int) (0:Int) [] a28.1,a28.2):=rfl
theorem qkY {deep q:Nat} (hq:1≤q):∀(L:List qb),(∀y∈L,q4o deep q y)→hgL L≤deep+1∧L.length≤lvL L∧lvL L≤L.length*q∧(ndL L).length≤lvL L*(deep+1)∧∀y∈ndL L,q85 y
 | [],_=>⟨by simp[hgL],by simp[lvL],by simp[lvL],by simp[ndL],by simp[ndL]⟩
 | x::L,h=>by
  obtain⟨a,b,c,d,e⟩:=qkY hq L fun y hy=>h y (List.mem_cons_of_mem _ hy)
  obtain⟨f,g,i,j,k⟩:=h x List.mem_cons_self
  rw[Nat.max_eq_right hq] at j
  refine⟨?_,?_,?_,?_,?_⟩
  ·rw[hgL];omega
  ·rw[lvL,List.length_cons];omega
  ·rw[lvL,List.length_cons,Nat.add_mul];omega
  ·rw[ndL,lvL,List.length_append,Nat.add_mul];omega
  ·rw[ndL]
   intro y hy
   rcases List.mem_append.1 hy with hy|hy
   ·exact f y hy
   ·exact e y hy
theorem qev {n:qb} (h:qgq n) {deep leaves q:Nat} (hq:1≤q) (hk:n.L.length*q≤leaves) (hL:∀y∈n.L,q4o deep q y):q4o (deep+1) leaves n:=by
 obtain⟨a,b,c,d,e⟩:=qkY hq n.L hL
 have hlen:1≤n.L.length:=by cases hn:n.L with|nil=>exact absurd hn h.ne|cons x l=>simp
 have e2:lvN n=lvL n.L:=by rw[q5S,if_neg];rcases h.kd with h|h<;>simp[h.1]
 refine⟨fun y hy=>?_,?_,by omega,by omega,?_⟩
 ·rw[Zg] at hy
  rcases List.mem_cons.1 hy with rfl|hy
  ·exact .inr h
  ·exact e y hy
 ·rw[qbE];omega
 ·rw[Zg,List.length_cons,e2,show deep+1+1=(deep+1)+1 from rfl,Nat.mul_add];omega
theorem quv:∀(deep leaves:Nat) (d:qj),deep≤10→leaves≤100→q2r d→∃n d',q0y ((deep:Int),(leaves:Int),d)=some (n,d')∧q4o deep leaves n∧q2r d':=by
 intro deep
 induction deep with
 | zero=>
  intro leaves d _ _ hd
  obtain⟨v,d1,e1,a1,b1,h1⟩:=qdG hd (most:=6) (by omega) (by omega)
  obtain⟨n,d',g1,g2,g3⟩:=qj2 h1
  refine⟨n,d',?_,qdD g2 _ _,g3⟩
  rw[q7n,qbD,e1,Option.bind_some,if_pos (by omega)]
  exact g1
 | succ deep ih=>
  intro leaves d hdp hlv hd
  obtain⟨v,d1,e1,a1,b1,h1⟩:=qdG hd (most:=6) (by omega) (by omega)
  obtain⟨n0,d0,g1,g2,g3⟩:=qj2 h1
  rw[q7n,qbD,e1,Option.bind_some,if_neg (by omega)]
  by_cases hl:leaves<2
  ·exact⟨n0,d0,by rw[if_pos (by omega)];exact g1,qdD g2 _ _,g3⟩
  ·rw[if_neg (by omega)]
   by_cases hv:v<2
   ·exact⟨n0,d0,by rw[if_pos hv];exact g1,qdD g2 _ _,g3⟩
   ·rw[if_neg hv]
    clear g1 g2 g3 n0 d0
    obtain⟨w,d2,e2,a2,b2,h2⟩:=qdG h1 (most:=min 3 (leaves:Int)) (by omega) (by omega)
    simp only
    rw[e2,Option.bind_some]
    simp only
    obtain⟨m,hm⟩:∃m:Nat,(m:Int)=1+w:=⟨(1+w).toNat,by omega⟩
    have hw:w64 (1+w)=(m:Int):=by rw[QP (by omega) (by omega)];omega
    rw[hw]
    have hm1:1≤m:=by omega
    have hm3:m≤3:=by omega
    have hml:m≤leaves:=by omega
    obtain⟨q,hq⟩:∃q,q=leaves / m:=⟨_,rfl⟩
    have hq1:1≤q:=by rw[hq];exact(Nat.le_div_iff_mul_le (by omega)).2 (by omega)
    have hqm:m*q≤leaves:=by rw[hq];exact Nat.mul_div_le _ _
    have hq2:q≤leaves:=by rw[hq];exact Nat.div_le_self _ _
    have hML:100000≤maxLen:=by unfold maxLen;omega
    have hdiv:w64 (Int.tdiv (leaves:Int) (m:Int))=(q:Int):=by
     rw[←Int.ofNat_tdiv,←hq,QP (by omega) (by omega)]
    have hdeep:w64 (((deep+1:Nat):Int)-1)=(deep:Int):=by rw[QP (by omega) (by omega)];omega
    have key:∀(j i:Nat) (l:List qb) (d:qj),j+i=m→l.length=i→(∀y∈l,q4o deep q y)→q2r d→∃l' d',qX (Zo q0y 0 0 0 3 0 0 ((deep+1:Nat):Int) (leaves:Int) v (m:Int)) (l,d,(i:Int))=some (l',d')∧l'.length=m∧(∀y∈l',q4o deep q y)∧q2r d':=by
     intro j
     induction j with
     | zero=>
      intro i l d hi hl hy hd
      refine⟨l,d,zr ?_,by omega,hy,hd⟩
      unfold Zo
      simp only
      rw[if_neg (by omega)]
     | succ j ihj=>
      intro i l d hi hl hy hd
      obtain⟨n,d',q1,q2,q3⟩:=ih q d (by omega) (by omega) hd
      have hs:Zo q0y 0 0 0 3 0 0 ((deep+1:Nat):Int) (leaves:Int) v (m:Int) (l,d,(i:Int))=some (.inl (l++[n],d',((i+1:Nat):Int))):=by
       unfold Zo
       simp only
       rw[if_pos (by omega),if_neg (by omega),hdiv,hdeep,q1,Option.bind_some]
       simp only
       rw[if_pos ⟨by omega,by omega⟩,QP (by omega) (by omega)]
       rfl
      rw[zI hs]
      refine ihj (i+1) (l++[n]) d' (by omega) (by simp[hl]) (fun y hy2=>?_) q3
      rcases List.mem_append.1 hy2 with h|h
      ·exact hy y h
      ·rw[List.mem_singleton.1 h];exact q2
    obtain⟨l,d3,q1,q2,q3,q4⟩:=key m 0 [] d2 (by omega) rfl (by simp) h2
    rw[show((0:Nat):Int)=0 from rfl] at q1
    rw[q1,Option.bind_some]
    have hne:l≠[]:=fun h=>by rw[h] at q2;simp at q2;omega
    by_cases hv3:(3:Int)<v
    ·obtain⟨u,d4,e4,a4,b4,h4⟩:=qdG q4 (most:=(m:Int)) (by omega) (by omega)
     have hwu:w64 (1+u)=1+u:=QP (by omega) (by omega)
     simp only
     rw[if_pos hv3,e4,Option.bind_some,hwu]
     exact⟨_,d4,rfl,qev (q:=q) ⟨.inr ⟨rfl,by show 1≤1+u;omega,by show 1+u≤(l.length:Int);omega⟩,rfl,rfl,hne⟩ hq1 (by show l.length*q≤leaves;rw[q2];exact hqm) q3,h4⟩
    ·simp only
     rw[if_neg hv3]
     exact⟨_,d3,rfl,qev (q:=q) ⟨.inl ⟨rfl,rfl⟩,rfl,rfl,hne⟩ hq1 (by show l.length*q≤leaves;rw[q2];exact hqm) q3,q4⟩
theorem qv3 (l:List Int) (hl:l.length≤9223372036854775807):∃n,q3M l=some n∧q4o 3 6 n:=by
 obtain⟨n,d',h1,h2,h3⟩:=quv 3 6 ⟨l,0⟩ (by omega) (by omega) ⟨by show(0:Int)≤0;omega,by show(0:Int)≤(l.length:Int);omega,hl⟩
 refine⟨n,?_,h2⟩
 unfold q3M
 change Option.bind (q0y (((3:Nat):Int),((6:Nat):Int),⟨l,0⟩)) _=_
 rw[h1,Option.bind_some]
theorem qge {n:qb} (h:qcq n):q2u n=0:=by
 have h1:=h.s1
 have h3:=h.s3
 have hm:=h.mn
 have e1:inF n.Min (-1000) 1000=true:=by unfold inF;simp;omega
 have e2:inF n.Set.length 1 12=true:=by unfold inF;simp;omega
 have e3:n.Set.all q0q=true:=List.all_eq_true.2 fun c hc=>qes (h.st.ok c hc)
 unfold q2u
 rw[e1,e2,e3,h.st.ord]
 simp
theorem qoB {n:qb} (h:q85 n):q4Q n=0:=by
 unfold q4Q
 rcases h with h|h
 ·have hc:=qge h
  rcases h.kd with ⟨k,a,b⟩|⟨k,a⟩
  ·have e:inF n.N 1 600=true:=by unfold inF;simp;omega
   simp[k,h.nl,e,hc]
  ·simp[k,h.nl,a,hc]
 ·have hb:q65 n=true:=by
   unfold q65
   rw[h.mn,h.st]
   cases hL:n.L with
   | nil=>exact absurd hL h.ne
   | cons x l=>rfl
  rcases h.kd with ⟨k,a⟩|⟨k,a,b⟩
  ·simp[k,hb,a]
  ·have e:inF n.N 1 n.L.length=true:=by unfold inF;simp;omega
   simp[k,hb,e]
theorem qiN:∀(l:List qb),(∀y∈l,q4Q y=0)→qkI l=none
 | [],_=>rfl
 | x::l,h=>by
  unfold qkI
  rw[List.findSome?_cons,h x List.mem_cons_self]
  simp only[ne_eq,not_true_eq_false,if_false]
  exact qiN l fun y hy=>h y (List.mem_cons_of_mem _ hy)
theorem qEe:∀(n:qb) (d m:Int),dpN d n m≤max m (d+hgN n-1):=by
 intro n
 induction n using qb.rec (motive_2:=fun L=>∀(d m:Int),dpL d L m≤max m (d+hgL L-1)) with
 | mk k n m S L ih=>
  intro d mm
  rw[dpN,hgN]
  have:=ih (d+1) (max mm d)
  omega
 | nil=>rename_i d m;rw[dpL];omega
 | cons x L h1 h2=>
  rename_i d m
  rw[dpL,hgL]
  have a:=h1 d m
  have b:=h2 d (dpN d x m)
  omega
theorem qhO:∀(n:qb),(∀y∈ndN n,q85 y)→((ndN n).filter Zh).length=lvN n:=by
 intro n
 induction n using qb.rec (motive_2:=fun L=>(∀y∈ndL L,q85 y)→((ndL L).filter Zh).length=lvL L) with
 | mk k n m S L ih=>
  intro h
  rw[ndN] at h ⊢
  have h0:=h _ List.mem_cons_self
  have hr:=ih fun y hy=>h y (List.mem_cons_of_mem _ hy)
  rw[List.filter_cons,lvN]
  rcases h0 with h0|h0
  ·have e:L=[]:=h0.nl
   subst e
   have e1:k=1∨k=2:=by rcases h0.kd with h|h;exact .inr h.1;exact .inl h.1
   have e2:Zh ⟨k,n,m,S,[]⟩=true:=by unfold Zh;rcases e1 with rfl|rfl<;>rfl
   rw[if_pos e2,if_pos e1]
   simp[ndL]
  ·have e1:k=3∨k=4:=by rcases h0.kd with h|h;exact .inl h.1;exact .inr h.1
   have e2:Zh ⟨k,n,m,S,L⟩=false:=by unfold Zh;rcases e1 with rfl|rfl<;>rfl
   rw[e2,if_neg (by simp),if_neg (by omega),hr]
 | nil=>simp[ndL,lvL]
 | cons x L h1 h2=>
  rename_i h
  rw[ndL] at h ⊢
  rw[lvL,List.filter_append,List.length_append,h1 fun y hy=>h y (List.mem_append_left _ hy),h2 fun y hy=>h y (List.mem_append_right _ hy)]
theorem qiq {n:qb} (h:∀y∈ndN n,q85 y):∀y∈ndN n,y.Set.length≤1000000:=fun y hy=>by
 rcases h y hy with h|h
 ·have:=h.s3;omega
 ·rw[h.st];simp
theorem qkc {n:qb} (h:q4o 3 6 n):q1H n=some 0:=by
 have h1:=h.hg
 have h2:=h.l1
 have h3:=h.l2
 have h4:=h.nd
 rw[q84 n (by omega) (by omega) (qiq h.ok)]
 unfold q2H
 have hf:=qhO n h.ok
 have hd:=qEe n 1 0
 have e:inF ((ndN n).filter Zh).length 1 8=true:=by unfold inF;rw[hf];simp;omega
 rw[if_neg (by omega),if_neg (by omega),e,if_neg (by simp),qiN _ fun y hy=>qoB (h.ok y hy)]
 rfl
end Go.Proofs.YtgejdfnidjnjcaaGreat.Vc
namespace Go.Proofs.YtgejdfnidjnjcaaGreat.Vc
open Go.RowKit
theorem qhX (x y:Nat):(x &&& y) / 2=(x / 2) &&& (y / 2):=by
 apply Nat.eq_of_testBit_eq
 intro i
 rw[Nat.testBit_div_two,Nat.testBit_and,Nat.testBit_and,Nat.testBit_div_two,Nat.testBit_div_two]
theorem qib (x y:Nat):(x &&& y) % 2=if x % 2=1∧y % 2=1 then 1 else 0:=by
 have h:(x &&& y).testBit 0=(x.testBit 0&&y.testBit 0):=Nat.testBit_and x y 0
 rw[Nat.testBit_zero,Nat.testBit_zero,Nat.testBit_zero] at h
 have h1:x % 2<2:=Nat.mod_lt _ (by decide)
 have h2:y % 2<2:=Nat.mod_lt _ (by decide)
 have h3:(x &&& y) % 2<2:=Nat.mod_lt _ (by decide)
 by_cases hx:x % 2=1
 ·by_cases hy:y % 2=1
  ·rw[if_pos ⟨hx,hy⟩]
   simpa [hx,hy] using h
  ·rw[if_neg (fun h=>hy h.2)]
   have:¬ (x &&& y) % 2=1:=by simpa [hx,hy] using h
   omega
 ·rw[if_neg (fun h=>hx h.1)]
  have:¬ (x &&& y) % 2=1:=by simpa [hx] using h
  omega
theorem qp7:∀(sub set t:Nat),sub &&& set=sub→t &&& set=t→t<sub→t≤(sub-1) &&& set:=by
 intro sub
 induction sub using Nat.strongRecOn with
 | _ sub ih=>
  intro set t hs ht hlt
  have hs2:=qhX sub set
  have hsm:=qib sub set
  have ht2:=qhX t set
  have htm:=qib t set
  rw[hs] at hs2 hsm
  rw[ht] at ht2 htm
  have hr2:=qhX (sub-1) set
  have hrm:=qib (sub-1) set
  by_cases hodd:sub % 2=1
  ·have e:(sub-1) / 2=sub / 2:=by omega
   rw[e,←hs2] at hr2
   have e2:(sub-1) % 2=0:=by omega
   rw[if_neg (by omega)] at hrm
   omega
  ·have hpos:sub / 2≠0:=by omega
   have e:(sub-1) / 2=sub / 2-1:=by omega
   rw[e] at hr2
   have hlt2:t / 2<sub / 2:=by omega
   have:=ih (sub / 2) (by omega) (set / 2) (t / 2) hs2.symm ht2.symm hlt2
   have hset:set % 2<2:=Nat.mod_lt _ (by decide)
   have e3:(sub-1) % 2=1:=by omega
   by_cases hm:set % 2=1
   ·rw[if_pos ⟨e3,hm⟩] at hrm
    have:t % 2<2:=Nat.mod_lt _ (by decide)
    omega
   ·rw[if_neg (fun h=>hm h.2)] at hrm htm
    omega
structure IsB (own:Nat→Bool) (best:Nat→Int) (set:Nat) (base v:Int):Prop where
 ge:base≤v
 all:∀t,t≠0→t &&& set=t→own t=true→0≤best (q09 set t)→best (q09 set t)+1≤v
 is:v=base∨∃t,t≠0∧t &&& set=t∧own t=true∧0≤best (q09 set t)∧v=best (q09 set t)+1
theorem qA0 {own:Nat→Bool} {best:Nat→Int} {set:Nat}:∀(f sub:Nat) (v:Int),sub≤f→sub &&& set=sub→v≤eaF own best set f sub v∧(∀t,t≠0→t &&& set=t→t≤sub→own t=true→0≤best (q09 set t)→best (q09 set t)+1≤eaF own best set f sub v)∧
  (eaF own best set f sub v=v∨∃t,t≠0∧t &&& set=t∧own t=true∧0≤best (q09 set t)∧eaF own best set f sub v=best (q09 set t)+1):=by
 intro f
 induction f with
 | zero=>
  intro sub v hf _
  have:sub=0:=by omega
  subst this
  exact⟨Int.le_refl _,fun t h1 _ h3=>by omega,.inl rfl⟩
 | succ f ih=>
  intro sub v hf hs
  unfold eaF
  by_cases hz:sub=0
  ·rw[if_pos hz]
   exact⟨Int.le_refl _,fun t h1 _ h3=>by omega,.inl rfl⟩
  ·rw[if_neg hz]
   have ha:(sub-1) &&& set≤sub-1:=Nat.and_le_left
   have hb:((sub-1) &&& set) &&& set=(sub-1) &&& set:=by rw[Nat.and_assoc,Nat.and_self]
   obtain⟨i1,i2,i3⟩:=ih ((sub-1) &&& set) (eaV own best set sub v) (by omega) hb
   have hv:v≤eaV own best set sub v:=by unfold eaV;split<;>omega
   refine⟨by omega,fun t h1 h2 h3 h4 h5=>?_,?_⟩
   ·by_cases e:t=sub
    ·subst e
     have:best (q09 set t)+1≤eaV own best set t v:=by unfold eaV;rw[if_pos ⟨h4,h5⟩];omega
     omega
    ·exact i2 t h1 h2 (qp7 sub set t hs h2 (by omega)) h4 h5
   ·rcases i3 with e|h
    ·by_cases hc:own sub=true∧0≤best (q09 set sub)
     ·have e2:eaV own best set sub v=max v (best (q09 set sub)+1):=by unfold eaV;rw[if_pos hc]
      by_cases hm:v≤best (q09 set sub)+1
      ·exact .inr ⟨sub,hz,hs,hc.1,hc.2,by rw[e,e2];omega⟩
      ·exact .inl (by rw[e,e2];omega)
     ·exact .inl (by rw[e];unfold eaV;rw[if_neg hc])
    ·exact .inr h
theorem qmt (skip:Bool) (own:Nat→Bool) (best:Nat→Int) (set:Nat):IsB own best set (if skip=true then best set else -1) (stF skip own best set):=by
 obtain⟨h1,h2,h3⟩:=qA0 (own:=own) (best:=best) (set:=set) set set (if skip=true then best set else -1) (Nat.le_refl _) (Nat.and_self _)
 refine⟨h1,fun t t1 t2 t3 t4=>h2 t t1 t2 ?_ t3 t4,h3⟩
 rw[←t2];exact Nat.and_le_right
theorem qlo {w m j:Nat} (h:m<2 ^ w) (hj:m.testBit j=true):j<w:=by
 rcases Nat.lt_or_ge j w with h1|h1
 ·exact h1
 ·rw[Nat.testBit_lt_two_pow (Nat.lt_of_lt_of_le h (Nat.pow_le_pow_right (by decide) h1))] at hj
  cases hj
def qh0 (n:qb) (s:qf) (x:qJ) (a:qa):qJ:=⟨w64 (x.many+1),w64 (x.credits+a.Credits),x.fine&&qc4 n s a⟩
def q5x {α:Type} (p:Nat→Bool):List α→List α
 | []=>[]
 | a::l=>(if p 0=true then[a] else[])++q5x (fun j=>p (j+1)) l
theorem qfq (n:qb) (s:qf) (set:Nat):∀(l:List qa) (k:Nat) (x:qJ),wgF n s set l k x=(q5x (fun j=>set.testBit (k+j)) l).foldl (qh0 n s) x
 | [],k,x=>rfl
 | a::l,k,x=>by
  rw[wgF,q5x,qfq n s set l (k+1),List.foldl_append,show(fun j=>set.testBit (k+(j+1)))=fun j=>set.testBit (k+1+j) from funext fun j=>by rw[Nat.add_right_comm,Nat.add_assoc]]
  congr 1
  cases set.testBit (k+0)<;>simp[qh0]
theorem qaZ {α:Type}:∀{l:List α} {p q:Nat→Bool},(∀j,j<l.length→p j=q j)→q5x p l=q5x q l
 | [],_,_,_=>rfl
 | a::l,p,q,h=>by
  rw[q5x,q5x,h 0 (by simp),qaZ fun j hj=>h (j+1) (by simpa using hj)]
theorem q7l {α:Type}:∀(l:List α) (a:α) (p:Nat→Bool),q5x p (l++[a])=q5x p l++(if p l.length=true then[a] else[])
 | [],a,p=>by simp[q5x]
 | b::l,a,p=>by rw[List.cons_append,q5x,q7l l a,q5x,List.append_assoc];rfl
end Go.Proofs.YtgejdfnidjnjcaaGreat.Vc
namespace Go.Proofs.YtgejdfnidjnjcaaGreat.Vc
open Go.RowKit
def qfF (n:qb) (s:qf) (l:List qa) (p:Nat→Bool):qJ:=(q5x p l).foldl (qh0 n s) ld0
mutual
def q3y (s:qf) (l:List qa) (a:Nat→Int):qb→Nat→Bool×Bool
 | ⟨k,n,m,S,L⟩,nx=>if k=1∨k=2 then((qfF ⟨k,n,m,S,L⟩ s l (fun j=>a j==(nx:Int))).many==0,qdj ⟨k,n,m,S,L⟩ (qfF ⟨k,n,m,S,L⟩ s l (fun j=>a j==(nx:Int))))
  else((q3i s l a (k==3) L nx).1,!(q3i s l a (k==3) L nx).2.2&&decide (n≤((q3i s l a (k==3) L nx).2.1:Int)))
def q3i (s:qf) (l:List qa) (a:Nat→Int) (al:Bool):List qb→Nat→Bool×Nat×Bool
 | [],_=>(true,0,false)
 | x::L,nx=>((q3y s l a x nx).1&&(q3i s l a al L (nx+lvN x)).1,(if(q3y s l a x nx).2=true then 1 else 0)+(q3i s l a al L (nx+lvN x)).2.1,
   (!(q3y s l a x nx).2&&(!(q3y s l a x nx).1||al))||(q3i s l a al L (nx+lvN x)).2.2)
end
theorem q7q (s:qf) (l:List qa) (a:Nat→Int) (n:qb) (nx:Nat):q3y s l a n nx=if n.Kind=1∨n.Kind=2 then((qfF n s l (fun j=>a j==(nx:Int))).many==0,qdj n (qfF n s l (fun j=>a j==(nx:Int))))
  else((q3i s l a (n.Kind==3) n.L nx).1,!(q3i s l a (n.Kind==3) n.L nx).2.2&&decide (n.N≤((q3i s l a (n.Kind==3) n.L nx).2.1:Int))):=by
 cases n;rw[q3y]
structure q3v (n:qb):Prop where
 kind:n.Kind=1∨n.Kind=2∨n.Kind=3∨n.Kind=4
 all:n.Kind=3→n.N≤(n.L.length:Int)∧n.L≠[]
 some:n.Kind=4→1≤n.N
theorem qdO (n:qb):n∈ndN n:=by rw[Zg];exact List.mem_cons_self ..
theorem q9X (s:qf) (l:List qa) (a b:Nat→Int):∀(n:qb) (nx:Nat),(∀k,k<l.length→∀x:Int,(nx:Int)≤x→x<((nx+lvN n:Nat):Int)→(a k=x↔b k=x))→q3y s l a n nx=q3y s l b n nx:=by
 intro n
 induction n using qb.rec (motive_2:=fun L=>∀(al:Bool) (nx:Nat),(∀k,k<l.length→∀x:Int,(nx:Int)≤x→x<((nx+lvL L:Nat):Int)→(a k=x↔b k=x))→q3i s l a al L nx=q3i s l b al L nx) with
 | mk k n m S L ih=>
  intro nx h
  rw[q7q,q7q]
  rw[lvN] at h
  by_cases hk:k=1∨k=2
  ·rw[if_pos hk] at h
   rw[if_pos hk,if_pos hk]
   have:q5x (fun j=>a j==(nx:Int)) l=q5x (fun j=>b j==(nx:Int)) l:=qaZ fun j hj=>by
    have:=h j hj nx (Int.le_refl _) (by omega)
    by_cases e:a j=nx
    ·rw[e,this.1 e]
    ·have e':¬ b j=nx:=fun e2=>e (this.2 e2)
     rw[beq_eq_false_iff_ne.2 e,beq_eq_false_iff_ne.2 e']
   unfold qfF
   rw[this]
  ·rw[if_neg hk] at h
   rw[if_neg hk,if_neg hk]
   simp only
   rw[ih _ nx h]
 | nil=>rw[q3i,q3i]
 | cons x L h1 h2=>
  rename_i al nx h
  rw[lvL] at h
  rw[q3i,q3i,h1 nx (fun k hk y hy hy2=>h k hk y hy (by omega)),h2 al (nx+lvN x) (fun k hk y hy hy2=>h k hk y (by omega) (by omega))]
theorem qdM (n:qb) (s:qf):∀(L:List qa) (x:qJ),0≤x.many→x.many+L.length≤9223372036854775807→(L.foldl (qh0 n s) x).many=x.many+L.length
 | [],x,_,_=>by simp
 | a::L,x,h0,h=>by
  rw[List.length_cons] at h
  have hw:w64 (x.many+1)=x.many+1:=QP (by omega) (by omega)
  rw[List.foldl_cons,qdM n s L (qh0 n s x a) (by unfold qh0;simp only;omega) (by unfold qh0;simp only;omega),List.length_cons]
  unfold qh0
  simp only
  omega
theorem q86 {α:Type}:∀(l:List α) (p:Nat→Bool),(q5x p l).length≤l.length
 | [],_=>by simp[q5x]
 | a::l,p=>by
  have:=q86 l (fun j=>p (j+1))
  rw[q5x,List.length_append,List.length_cons]
  split<;>simp<;>omega
theorem qcv {α:Type}:∀(l:List α) (p:Nat→Bool),(q5x p l).length=0↔∀k,k<l.length→p k=false
 | [],_=>by simp[q5x]
 | a::l,p=>by
  have ih:=qcv l (fun j=>p (j+1))
  rw[q5x,List.length_append]
  constructor
  ·intro h k hk
   cases k with
   | zero=>
    by_cases e:p 0=true
    ·rw[if_pos e] at h;simp at h
    ·simpa using e
   | succ k=>exact ih.1 (by omega) k (by simpa using hk)
  ·intro h
   rw[ih.2 fun k hk=>h (k+1) (by simpa using hk),if_neg (by rw[h 0 (by simp)];decide)]
   try rfl
theorem qmp (n:qb) (s:qf) (l:List qa) (hl:l.length≤62) (p:Nat→Bool):(qfF n s l p).many=((q5x p l).length:Int):=by
 have:=q86 l p
 unfold qfF
 rw[qdM n s _ _ (by decide) (by show(0:Int)+_≤_;omega)]
 show(0:Int)+_=_
 omega
theorem q9Q (s:qf) (l:List qa) (hl:l.length≤62) (a:Nat→Int):∀(n:qb) (nx:Nat),(q3y s l a n nx).1=true↔∀k,k<l.length→¬((nx:Int)≤a k∧a k<((nx+lvN n:Nat):Int)):=by
 intro n
 induction n using qb.rec (motive_2:=fun L=>∀(al:Bool) (nx:Nat),(q3i s l a al L nx).1=true↔∀k,k<l.length→¬((nx:Int)≤a k∧a k<((nx+lvL L:Nat):Int))) with
 | mk k n m S L ih=>
  intro nx
  rw[q7q,lvN]
  by_cases hk:k=1∨k=2
  ·rw[if_pos hk,if_pos hk]
   simp only
   rw[qmp _ _ _ hl,beq_iff_eq,show(((q5x (fun j=>a j==(nx:Int)) l).length:Int)=0)↔(q5x (fun j=>a j==(nx:Int)) l).length=0 from by omega,qcv]
   constructor
   ·intro h k hk h2
    have:=beq_eq_false_iff_ne.1 (h k hk)
    omega
   ·intro h k hk
    have:=h k hk
    exact beq_eq_false_iff_ne.2 (by omega)
  ·rw[if_neg hk,if_neg hk]
   exact ih _ nx
 | nil=>rename_i al nx;rw[q3i,lvL];simp only[true_iff];intro k hk;omega
 | cons x L h1 h2=>
  rename_i al nx
  rw[q3i,lvL,Bool.and_eq_true,h1,h2]
  constructor
  ·intro h k hk
   have a1:=h.1 k hk
   have a2:=h.2 k hk
   omega
  ·intro h
   exact⟨fun k hk=>by have:=h k hk;omega,fun k hk=>by have:=h k hk;omega⟩
theorem qhV (s:qf) (l:List qa) (a:Nat→Int):∀(n:qb) (nx:Nat),(∀y∈ndN n,q3v y)→(q3y s l a n nx).2=true→(q3y s l a n nx).1=false:=by
 intro n
 induction n using qb.rec (motive_2:=fun L=>∀(al:Bool) (nx:Nat),(∀y∈ndL L,q3v y)→(q3i s l a al L nx).1=true→(q3i s l a al L nx).2.1=0∧(al=true→(q3i s l a al L nx).2.2=false→L=[])) with
 | mk k n m S L ih=>
  intro nx hf h
  have hn:=hf _ (qdO _)
  rw[q7q] at h ⊢
  by_cases hk:k=1∨k=2
  ·rw[if_pos hk] at h ⊢
   simp only at h ⊢
   generalize qfF ⟨k,n,m,S,L⟩ s l (fun j=>a j==(nx:Int))=x at h
   unfold qdj at h
   simp only at h
   refine beq_eq_false_iff_ne.2 fun e=>?_
   rw[e] at h
   split at h<;>simp at h
  ·rw[if_neg hk] at h ⊢
   simp only at h ⊢
   refine Bool.eq_false_iff.2 fun e=>?_
   obtain⟨h1,h2⟩:=ih (k==3) nx (fun y hy=>hf y (by rw[ndN];exact List.mem_cons_of_mem _ hy)) e
   rw[Bool.and_eq_true,h1,decide_eq_true_eq] at h
   rcases hn.kind with q|q|q|q
   ·exact hk (.inl q)
   ·exact hk (.inr q)
   ·simp only at q
    subst q
    exact(hn.all rfl).2 (h2 (by decide) (by simpa using h.1))
   ·have:=hn.some q
    simp only at this
    omega
 | nil=>rename_i al nx _ _;rw[q3i];exact⟨rfl,fun _ _=>rfl⟩
 | cons x L h1 h2=>
  rename_i al nx hf h
  rw[q3i] at h ⊢
  simp only at h ⊢
  rw[Bool.and_eq_true] at h
  have hx:(q3y s l a x nx).2=false:=by
   refine Bool.eq_false_iff.2 fun e=>?_
   have:=h1 nx (fun y hy=>hf y (by rw[ndL];exact List.mem_append_left _ hy)) e
   rw[this] at h
   exact absurd h.1 (by decide)
  obtain⟨h3,h4⟩:=h2 al (nx+lvN x) (fun y hy=>hf y (by rw[ndL];exact List.mem_append_right _ hy)) h.2
  rw[hx,h3]
  refine⟨by simp,fun ha hw=>?_⟩
  rw[ha] at hw
  simp at hw
end Go.Proofs.YtgejdfnidjnjcaaGreat.Vc
namespace Go.Proofs.YtgejdfnidjnjcaaGreat.Vc
open Go.RowKit
def mkS (p:Nat→Bool):Nat→Nat
 | 0=>0
 | n+1=>mkS p n ||| (if p n=true then 2 ^ n else 0)
theorem qm5 (p:Nat→Bool):∀(n k:Nat),(mkS p n).testBit k=(decide (k<n)&&p k)
 | 0,k=>by simp[mkS]
 | n+1,k=>by
  rw[mkS,Nat.testBit_or,qm5 p n k]
  by_cases e:k=n
  ·subst e
   by_cases hp:p k=true
   ·rw[if_pos hp,Nat.testBit_two_pow];simp[hp]
   ·rw[if_neg hp];simp[Bool.eq_false_iff.2 hp]
  ·have h1:(if p n=true then 2 ^ n else 0).testBit k=false:=by
    split
    ·rw[Nat.testBit_two_pow];exact decide_eq_false (fun h=>e h.symm)
    ·exact Nat.zero_testBit k
   rw[h1,Bool.or_false]
   have:decide (k<n+1)=decide (k<n):=by
    by_cases h:k<n
    ·rw[decide_eq_true h,decide_eq_true (by omega)]
    ·rw[decide_eq_false h,decide_eq_false (by omega)]
   rw[this]
theorem qnp (leaf:Int) (set:Nat):∀(d:List Int) (i:Nat),alG leaf set d i=true↔∀(k:Nat) (x:Int),d[k]?=some x→(set.testBit (i+k)=true↔x=leaf)
 | [],i=>by simp[alG]
 | y::d,i=>by
  rw[alG,Bool.and_eq_true,qnp leaf set d (i+1),beq_iff_eq]
  constructor
  ·intro h k x hx
   cases k with
   | zero=>
    simp only[List.getElem?_cons_zero,Option.some.injEq] at hx
    subst hx
    rw[Nat.add_zero,h.1,beq_iff_eq]
   | succ k=>
    rw[List.getElem?_cons_succ] at hx
    have:=h.2 k x hx
    rwa [Nat.add_right_comm,Nat.add_assoc] at this
  ·intro h
   refine⟨?_,fun k x hx=>?_⟩
   ·have:=h 0 y (by simp)
    rw[Nat.add_zero] at this
    by_cases e:y=leaf
    ·rw[this.2 e,beq_iff_eq.2 e]
    ·rw[beq_eq_false_iff_ne.2 e];exact Bool.eq_false_iff.2 fun h2=>e (this.1 h2)
   ·have:=h (k+1) x (by rw[List.getElem?_cons_succ];exact hx)
    rwa [show i+1+k=i+(k+1) from by omega]
theorem qsd (d:List Int) (leaf set:Nat):alF d leaf set=true↔∀(k:Nat) (x:Int),d[k]?=some x→(set.testBit k=true↔x=(leaf:Int)):=by
 unfold alF
 rw[qnp]
 simp only[Nat.zero_add]
theorem qng (d:List Int) (a b:Nat):foF d a b=true↔∃(k:Nat) (x:Int),d[k]?=some x∧(a:Int)≤x∧x<(b:Int):=by
 unfold foF
 rw[List.any_eq_true]
 constructor
 ·rintro⟨x,hx,h⟩
  obtain⟨k,hk⟩:=List.mem_iff_getElem?.1 hx
  rw[Bool.and_eq_true,decide_eq_true_eq,decide_eq_true_eq] at h
  exact⟨k,x,hk,h⟩
 ·rintro⟨k,x,hk,h⟩
  exact⟨x,List.mem_iff_getElem?.2 ⟨k,hk⟩,by rw[Bool.and_eq_true,decide_eq_true_eq,decide_eq_true_eq];exact h⟩
structure Asg (d:List Int) (a:Nat→Int) (lo w set:Nat):Prop where
 inn:∀k,set.testBit k=true→(lo:Int)≤a k∧a k<((lo+w:Nat):Int)
 out:∀k,set.testBit k=false→a k = -1
 com:∀k y,d[k]?=some y→∀x:Int,(lo:Int)≤x→x<((lo+w:Nat):Int)→(y=x↔a k=x)
theorem Asg.bit {d:List Int} {a:Nat→Int} {lo w set:Nat} (h:Asg d a lo w set) (k:Nat) (h1:(lo:Int)≤a k):set.testBit k=true:=by
 by_cases e:set.testBit k=true
 ·exact e
 ·have:=h.out k (Bool.eq_false_iff.2 e)
  omega
theorem qb7 (s:qf) (l:List qa) (a b:Nat→Int) (al:Bool):∀(L:List qb) (nx:Nat),(∀k,k<l.length→∀x:Int,(nx:Int)≤x→x<((nx+lvL L:Nat):Int)→(a k=x↔b k=x))→q3i s l a al L nx=q3i s l b al L nx
 | [],nx,_=>by rw[q3i,q3i]
 | x::L,nx,h=>by
  rw[lvL] at h
  rw[q3i,q3i,q9X s l a b x nx (fun k hk y hy hy2=>h k hk y hy (by omega)),qb7 s l a b al L (nx+lvN x) (fun k hk y hy hy2=>h k hk y (by omega) (by omega))]
theorem qiT (s:qf) (l:List qa) (a:Nat→Int):∀(L:List qb) (nx:Nat),(q3i s l a true L nx).2.2=false→(q3i s l a true L nx).2.1=L.length
 | [],nx,_=>by rw[q3i];rfl
 | x::L,nx,h=>by
  rw[q3i] at h ⊢
  simp only at h ⊢
  rw[Bool.or_eq_false_iff] at h
  have hx:(q3y s l a x nx).2=true:=by
   have:=h.1
   rw[Bool.or_true,Bool.and_true] at this
   simpa using this
  rw[if_pos hx,qiT s l a L _ h.2,List.length_cons]
  omega
theorem qgh (set:Nat):q09 set 0=set:=Nat.eq_of_testBit_eq fun i=>by rw[QI];simp
theorem qdn {t s:Nat} (h:t &&& s=t) {k:Nat} (hk:t.testBit k=true):s.testBit k=true:=by
 rw[←h,Nat.testBit_and,Bool.and_eq_true] at hk
 exact hk.2
theorem qjI {t s:Nat} (h:∀k,t.testBit k=true→s.testBit k=true):t &&& s=t:=Nat.eq_of_testBit_eq fun i=>by
 rw[Nat.testBit_and]
 by_cases e:t.testBit i=true
 ·rw[e,h i e];rfl
 ·rw[Bool.eq_false_iff.2 e];rfl
theorem qq4 (d:List Int) (s:qf) (l:List qa) (n:qb) (hk:n.Kind=1∨n.Kind=2) (nx set:Nat) (hlt:set<2 ^ l.length) (hl:l.length≤62) :
  Zx d s l n nx set=true↔∃a,Asg d a nx 1 set∧qdj n (qfF n s l (fun j=>a j==(nx:Int)))=true:=by
 have key:∀a,Asg d a nx 1 set→qfF n s l (fun j=>a j==(nx:Int))=wgF n s set l 0 ld0:=fun a ha=>by
  rw[qfq]
  unfold qfF
  rw[qaZ (p:=fun j=>a j==(nx:Int)) (q:=fun j=>set.testBit (0+j)) fun j hj=>?_]
  rw[Nat.zero_add]
  by_cases e:set.testBit j=true
  ·have:=ha.inn j e
   rw[e,beq_iff_eq]
   omega
  ·rw[Bool.eq_false_iff.2 e,ha.out j (Bool.eq_false_iff.2 e)]
   exact beq_eq_false_iff_ne.2 (by omega)
 unfold Zx
 rw[Bool.and_eq_true,Bool.and_eq_true,decide_eq_true_eq,qsd]
 constructor
 ·rintro⟨h0,h1,h2⟩
  have ha:Asg d (fun k=>if set.testBit k=true then(nx:Int) else -1) nx 1 set:={
   inn:=fun k hk=>by simp only[hk,if_true];omega
   out:=fun k hk=>by simp only[hk];rfl
   com:=fun k y hy x hx hx2=>by
    have e:x=nx:=by omega
    subst e
    rw[←h1 k y hy]
    show set.testBit k=true↔(if set.testBit k=true then(nx:Int) else -1)=(nx:Int)
    by_cases e:set.testBit k=true
    ·rw[if_pos e];exact⟨fun _=>rfl,fun _=>e⟩
    ·rw[if_neg e];exact⟨fun h=>absurd h e,fun h=>by omega⟩ }
  exact⟨_,ha,by rw[key _ ha];exact h2⟩
 ·rintro⟨a,ha,hm⟩
  rw[key a ha] at hm
  refine⟨fun e=>?_,fun k x hx=>?_,hm⟩
  ·have h3:q5x (fun j=>set.testBit (0+j)) l=[]:=List.eq_nil_of_length_eq_zero ((qcv _ _).2 fun k hk=>by rw[e];exact Nat.zero_testBit _)
   rw[qfq,h3] at hm
   unfold qdj ld0 at hm
   simp only[List.foldl_nil] at hm
   split at hm<;>simp at hm
  ·constructor
   ·intro hb
    have:=ha.inn k hb
    exact(ha.com k x hx (nx:Int) (by omega) (by omega)).2 (by omega)
   ·intro e
    have:=(ha.com k x hx (nx:Int) (by omega) (by omega)).1 e
    exact ha.bit k (by omega)
theorem qun (s:qf) (l:List qa) (hl:l.length≤62) (a:Nat→Int) (n:qb) (nx:Nat) (hf:∀y∈ndN n,q3v y) (h:∀k,¬((nx:Int)≤a k∧a k<((nx+lvN n:Nat):Int))):(q3y s l a n nx).1=true∧(q3y s l a n nx).2=false:=by
 have h1:=(q9Q s l hl a n nx).2 fun k _=>h k
 refine⟨h1,Bool.eq_false_iff.2 fun e=>?_⟩
 rw[qhV s l a n nx hf e] at h1
 exact absurd h1 (by decide)
theorem q7t (d:List Int) (s:qf) (l:List qa) (hl:l.length≤62):∀(n:qb) (nx set:Nat),(∀y∈ndN n,q3v y)→set<2 ^ l.length→
  (Q1 d s l n nx set=true↔∃a,Asg d a nx (lvN n) set∧(q3y s l a n nx).2=true):=by
 intro n
 induction n using qb.rec (motive_2:=fun L=>∀(sk:Bool) (nx:Nat) (b:Nat→Int) (set:Nat),(∀y∈ndL L,q3v y)→set<2 ^ l.length→
   (0≤q8m d s l sk L nx b set→∃s1 a,s1 &&& set=s1∧0≤b s1∧Asg d a nx (lvL L) (q09 set s1)∧(q3i s l a (!sk) L nx).2.2=false∧q8m d s l sk L nx b set=b s1+((q3i s l a (!sk) L nx).2.1:Int))∧
   (∀s1 a,s1 &&& set=s1→0≤b s1→Asg d a nx (lvL L) (q09 set s1)→(q3i s l a (!sk) L nx).2.2=false→b s1+((q3i s l a (!sk) L nx).2.1:Int)≤q8m d s l sk L nx b set)) with
 | mk k n m S L ih=>
  intro nx set hf hlt
  have hn:=hf _ (qdO _)
  have hfL:∀y∈ndL L,q3v y:=fun y hy=>hf y (by rw[ndN];exact List.mem_cons_of_mem _ hy)
  rw[qaq,q5S]
  simp only[q7q]
  by_cases hk:k=1∨k=2
  ·rw[if_pos hk,if_pos hk]
   simp only[if_pos hk]
   exact qq4 d s l _ hk nx set hlt hl
  ·rw[if_neg hk,if_neg hk]
   simp only[if_neg hk]
   have hk4:(!(k==4))=(k==3):=by
    rcases hn.kind with q|q|q|q<;>simp only at q<;>subst q<;>first|decide|exact absurd (by decide) hk
   obtain⟨i1,i2⟩:=ih (k==4) nx b0F set hfL hlt
   rw[hk4] at i1 i2
   rw[Bool.and_eq_true,decide_eq_true_eq,decide_eq_true_eq]
   constructor
   ·rintro⟨h0,h1⟩
    have hz:0≤q8m d s l (k==4) L nx b0F set:=by
     rcases hn.kind with q|q|q|q
     ·exact absurd (.inl q) hk
     ·exact absurd (.inr q) hk
     ·simp only at q
      rw[if_pos q] at h1
      omega
     ·have:=hn.some q
      simp only at q this
      rw[if_neg (by omega)] at h1
      omega
    obtain⟨s1,a,e1,e2,e3,e4,e5⟩:=i1 hz
    have hs1:s1=0:=by
     unfold b0F at e2
     by_cases e:s1=0
     ·exact e
     ·rw[if_neg e] at e2;omega
    subst hs1
    rw[qgh] at e3
    refine⟨a,e3,?_⟩
    rw[e4,Bool.not_false,Bool.true_and,decide_eq_true_eq]
    have hb0:b0F 0=0:=rfl
    rw[hb0] at e5
    by_cases q:k=3
    ·rw[if_pos q] at h1
     have:=(hn.all q).1
     simp only at this
     omega
    ·rw[if_neg q] at h1
     omega
   ·rintro⟨a,ha,hm⟩
    rw[Bool.and_eq_true,decide_eq_true_eq] at hm
    have hw:(q3i s l a (k==3) L nx).2.2=false:=by simpa using hm.1
    have hb0:b0F 0=0:=rfl
    have h2:=i2 0 a (Nat.zero_and _) (by rw[hb0];exact Int.le_refl _) (by rw[qgh];exact ha) hw
    rw[hb0] at h2
    have h3:(q3y s l a ⟨k,n,m,S,L⟩ nx).1=false:=qhV s l a _ nx hf (by rw[q7q,if_neg hk];simp only;rw[Bool.and_eq_true,decide_eq_true_eq];exact hm)
    refine⟨fun e=>?_,?_⟩
    ·have h4:(q3y s l a ⟨k,n,m,S,L⟩ nx).1=true:=(q9Q s l hl a _ nx).2 fun j _ hj=>by
      have:=ha.bit j hj.1
      rw[e,Nat.zero_testBit] at this
      exact absurd this (by decide)
     rw[h3] at h4
     exact absurd h4 (by decide)
    ·by_cases q:k=3
     ·rw[if_pos q]
      have h5:(k==3)=true:=by rw[q];rfl
      rw[h5] at hw h2
      rw[qiT s l a L nx hw] at h2
      omega
     ·rw[if_neg q]
      omega
 | nil=>
  rename_i sk nx b set hf hlt
  rw[lvL,q8m]
  refine⟨fun h=>⟨set,fun _ => -1,Nat.and_self _,h,⟨fun k hk=>?_,fun _ _=>rfl,fun k y hy x hx hx2=>by omega⟩,by rw[q3i],by rw[q3i];simp⟩,fun s1 a h1 h2 h3 h4=>?_⟩
  ·rw[QI] at hk
   cases h:set.testBit k<;>rw[h] at hk<;>simp at hk
  ·have:s1=set:=Nat.eq_of_testBit_eq fun i=>by
    by_cases e:(q09 set s1).testBit i=true
    ·have:=h3.inn i e
     omega
    ·rw[QI] at e
     by_cases e2:s1.testBit i=true
     ·rw[e2,qdn h1 e2]
     ·cases h:set.testBit i
      ·exact Bool.eq_false_iff.2 e2
      ·rw[h,Bool.eq_false_iff.2 e2] at e
       exact absurd rfl e
   subst this
   rw[q3i]
   simp
 | cons x L h1 h2=>
  rename_i sk nx b set hf hlt
  have hfx:∀y∈ndN x,q3v y:=fun y hy=>hf y (by rw[ndL];exact List.mem_append_left _ hy)
  have hfL:∀y∈ndL L,q3v y:=fun y hy=>hf y (by rw[ndL];exact List.mem_append_right _ hy)
  obtain⟨i1,i2⟩:=h2 sk (nx+lvN x) (stF (sk && !foF d nx (nx+lvN x)) (Q1 d s l x nx) b) set hfL hlt
  rw[lvL,q8m]
  simp only[q3i]
  constructor
  ·intro h0
   obtain⟨s1,a1,e1,e2,e3,e4,e5⟩:=i1 h0
   have hI:=qmt (sk && !foF d nx (nx+lvN x)) (Q1 d s l x nx) b s1
   rcases hI.is with e|⟨t,t1,t2,t3,t4,e⟩
   ·have hsk:(sk && !foF d nx (nx+lvN x))=true:=by
     refine Classical.byContradiction fun hc=>?_
     rw[if_neg hc] at e
     omega
    rw[if_pos hsk] at e
    rw[Bool.and_eq_true] at hsk
    have hfo:¬ foF d nx (nx+lvN x)=true:=by simpa using hsk.2
    rw[qng] at hfo
    have hr:∀k,¬((nx:Int)≤a1 k∧a1 k<((nx+lvN x:Nat):Int)):=fun k hk=>by
     by_cases hb:(q09 set s1).testBit k=true
     ·have:=e3.inn k hb;omega
     ·have:=e3.out k (Bool.eq_false_iff.2 hb);omega
    obtain⟨v1,v2⟩:=qun s l hl a1 x nx hfx hr
    refine⟨s1,a1,e1,by omega,⟨fun k hk=>by have:=e3.inn k hk;omega,e3.out,fun k y hy z hz hz2=>?_⟩,?_,?_⟩
    ·by_cases hz3:z<((nx+lvN x:Nat):Int)
     ·constructor
      ·intro e;subst e;exact absurd ⟨k,y,hy,hz,hz3⟩ hfo
      ·intro e;exact absurd ⟨by omega,by omega⟩ (hr k)
     ·exact e3.com k y hy z (by omega) (by omega)
    ·rw[v1,v2,e4,hsk.1];rfl
    ·rw[e5,e,v2];simp
   ·obtain⟨a2,ha2,hm2⟩:=(h1 nx t hfx (Nat.lt_of_le_of_lt (Nat.le_trans (by rw[←t2];exact Nat.and_le_right) (by rw[←e1];exact Nat.and_le_right)) hlt)).1 t3
    have hts:∀k,t.testBit k=true→s1.testBit k=true:=fun k hk=>qdn t2 hk
    have hss:∀k,s1.testBit k=true→set.testBit k=true:=fun k hk=>qdn e1 hk
    have hin:∀k,t.testBit k=true→(fun k=>if t.testBit k=true then a2 k else a1 k) k=a2 k:=fun k hk=>by show(if _ then _ else _)=_;rw[if_pos hk]
    have hnot:∀k,t.testBit k=false→(fun k=>if t.testBit k=true then a2 k else a1 k) k=a1 k:=fun k hk=>by show(if _ then _ else _)=_;rw[if_neg (by rw[hk];decide)]
    generalize (fun k=>if t.testBit k=true then a2 k else a1 k)=a at hin hnot
    have ht1:∀k,t.testBit k=true→a1 k = -1:=fun k hk=>e3.out k (by rw[QI,hts k hk];simp)
    have hu1:∀k,t.testBit k=false→a2 k = -1:=fun k hk=>ha2.out k hk
    have hc1:q3y s l a x nx=q3y s l a2 x nx:=q9X s l a a2 x nx fun k _ z hz hz2=>by
     cases hb:t.testBit k
     ·rw[hnot k hb,hu1 k hb]
      by_cases hb2:(q09 set s1).testBit k=true
      ·have:=e3.inn k hb2;omega
      ·have:=e3.out k (Bool.eq_false_iff.2 hb2);omega
     ·rw[hin k hb]
    have hc2:q3i s l a (!sk) L (nx+lvN x)=q3i s l a1 (!sk) L (nx+lvN x):=qb7 s l a a1 (!sk) L (nx+lvN x) fun k _ z hz hz2=>by
     cases hb:t.testBit k
     ·rw[hnot k hb]
     ·rw[hin k hb,ht1 k hb]
      have:=ha2.inn k hb
      omega
    refine⟨q09 s1 t,a,?_,t4,⟨fun k hk=>?_,fun k hk=>?_,fun k y hy z hz hz2=>?_⟩,?_,?_⟩
    ·exact qjI fun k hk=>hss k (by rw[QI,Bool.and_eq_true] at hk;exact hk.1)
    ·cases hb:t.testBit k
     ·rw[hnot k hb]
      have:(q09 set s1).testBit k=true:=by
       rw[QI,QI,hb] at hk
       rw[QI]
       simpa using hk
      have:=e3.inn k this
      omega
     ·rw[hin k hb]
      have:=ha2.inn k hb
      omega
    ·cases hb:t.testBit k
     ·rw[hnot k hb]
      refine e3.out k ?_
      rw[QI,QI,hb] at hk
      rw[QI]
      simpa using hk
     ·exfalso
      rw[QI,QI,hb,hss k (hts k hb)] at hk
      simp at hk
    ·by_cases hz3:z<((nx+lvN x:Nat):Int)
     ·rw[ha2.com k y hy z hz hz3]
      cases hb:t.testBit k
      ·rw[hnot k hb,hu1 k hb]
       by_cases hb2:(q09 set s1).testBit k=true
       ·have:=e3.inn k hb2;omega
       ·have:=e3.out k (Bool.eq_false_iff.2 hb2);omega
      ·rw[hin k hb]
     ·rw[e3.com k y hy z (by omega) (by omega)]
      cases hb:t.testBit k
      ·rw[hnot k hb]
      ·rw[hin k hb,ht1 k hb]
       have:=ha2.inn k hb
       omega
    ·rw[hc1,hc2,hm2,e4];rfl
    ·rw[e5,e,hc1,hc2,if_pos hm2];omega
  ·intro s1 a g1 g2 g3 g4
   rw[Bool.or_eq_false_iff] at g4
   obtain⟨g4,g5⟩:=g4
   have hss:∀k,s1.testBit k=true→set.testBit k=true:=fun k hk=>qdn g1 hk
   by_cases hm:(q3y s l a x nx).2=true
   ·have hlen:∀k,(nx:Int)≤a k→k<l.length:=fun k hk=>by
     have hb:=g3.bit k hk
     have:set.testBit k=true:=by rw[QI,Bool.and_eq_true] at hb;exact hb.1
     exact qlo hlt this
    obtain⟨t,tb⟩:∃t:Nat,∀k,t.testBit k=true↔((nx:Int)≤a k∧a k<((nx+lvN x:Nat):Int)):=⟨mkS (fun k=>decide ((nx:Int)≤a k)&&decide (a k<((nx+lvN x:Nat):Int))) l.length,fun k=>by
     rw[qm5,Bool.and_eq_true,Bool.and_eq_true,decide_eq_true_eq,decide_eq_true_eq,decide_eq_true_eq]
     exact⟨fun h=>h.2,fun h=>⟨hlen k h.1,h⟩⟩⟩
    have hdis:∀k,t.testBit k=true→set.testBit k=true∧s1.testBit k=false:=fun k hk=>by
     have hb:=g3.bit k ((tb k).1 hk).1
     rw[QI,Bool.and_eq_true] at hb
     exact⟨hb.1,by simpa using hb.2⟩
    obtain⟨a2,hin2,hnot2⟩:∃a2:Nat→Int,(∀k,t.testBit k=true→a2 k=a k)∧(∀k,t.testBit k=false→a2 k = -1):=⟨fun k=>if t.testBit k=true then a k else -1,fun k hk=>if_pos hk,fun k hk=>if_neg (by rw[hk];decide)⟩
    obtain⟨a1,hin1,hnot1⟩:∃a1:Nat→Int,(∀k,t.testBit k=true→a1 k = -1)∧(∀k,t.testBit k=false→a1 k=a k):=⟨fun k=>if t.testBit k=true then -1 else a k,fun k hk=>if_pos hk,fun k hk=>if_neg (by rw[hk];decide)⟩
    have hoff:∀k,t.testBit k=false→¬((nx:Int)≤a k∧a k<((nx+lvN x:Nat):Int)):=fun k hk h=>by
     rw[(tb k).2 h] at hk
     exact absurd hk (by decide)
    have hA2:Asg d a2 nx (lvN x) t:=⟨fun k hk=>by rw[hin2 k hk];exact(tb k).1 hk,hnot2,fun k y hy z hz hz2=>by
     rw[g3.com k y hy z hz (by omega)]
     cases hb:t.testBit k
     ·rw[hnot2 k hb]
      have:=hoff k hb
      omega
     ·rw[hin2 k hb]⟩
    have hc1:q3y s l a2 x nx=q3y s l a x nx:=q9X s l a2 a x nx fun k _ z hz hz2=>by
     cases hb:t.testBit k
     ·rw[hnot2 k hb]
      have:=hoff k hb
      omega
     ·rw[hin2 k hb]
    have hc2:q3i s l a1 (!sk) L (nx+lvN x)=q3i s l a (!sk) L (nx+lvN x):=qb7 s l a1 a (!sk) L (nx+lvN x) fun k _ z hz hz2=>by
     cases hb:t.testBit k
     ·rw[hnot1 k hb]
     ·rw[hin1 k hb]
      have:=(tb k).1 hb
      omega
    have hown:Q1 d s l x nx t=true:=(h1 nx t hfx (Nat.lt_of_le_of_lt (Nat.le_trans (by rw[←qjI (t:=t) (s:=set) fun k hk=>(hdis k hk).1];exact Nat.and_le_right) (Nat.le_refl _)) hlt)).2 ⟨a2,hA2,by rw[hc1];exact hm⟩
    have ht0:t≠0:=fun e=>by
     have h3:=qhV s l a x nx hfx hm
     have h4:=(q9Q s l hl a x nx).2 fun k _ hk=>by
      have:=(tb k).2 hk
      rw[e,Nat.zero_testBit] at this
      exact absurd this (by decide)
     rw[h3] at h4
     exact absurd h4 (by decide)
    have hI:=qmt (sk && !foF d nx (nx+lvN x)) (Q1 d s l x nx) b (s1 ||| t)
    have hle:q09 (s1 ||| t) t=s1:=Nat.eq_of_testBit_eq fun k=>by
     rw[QI,Nat.testBit_or]
     cases hb:t.testBit k
     ·simp
     ·rw[(hdis k hb).2];rfl
    have hall:=hI.all t ht0 (qjI fun k hk=>by rw[Nat.testBit_or,hk,Bool.or_true]) hown (by rw[hle];exact g2)
    rw[hle] at hall
    have:=i2 (s1 ||| t) a1 (qjI fun k hk=>by
      rw[Nat.testBit_or,Bool.or_eq_true] at hk
      rcases hk with hk|hk
      ·exact hss k hk
      ·exact(hdis k hk).1) (by omega) ⟨fun k hk=>by
       rw[QI,Nat.testBit_or,Bool.and_eq_true] at hk
       have hb:t.testBit k=false:=by
        have:=hk.2
        cases h:t.testBit k
        ·rfl
        ·rw[h,Bool.or_true] at this;exact absurd this (by decide)
       have h5:=g3.inn k (by rw[QI,Bool.and_eq_true];refine⟨hk.1,?_⟩;have:=hk.2;rw[hb,Bool.or_false] at this;exact this)
       have h6:=hoff k hb
       rw[hnot1 k hb]
       omega,fun k hk=>by
       cases hb:t.testBit k
       ·rw[hnot1 k hb]
        refine g3.out k ?_
        rw[QI,Nat.testBit_or,hb,Bool.or_false] at hk
        rw[QI]
        exact hk
       ·exact hin1 k hb,fun k y hy z hz hz2=>by
       rw[g3.com k y hy z (by omega) (by omega)]
       cases hb:t.testBit k
       ·rw[hnot1 k hb]
       ·rw[hin1 k hb]
        have:=(tb k).1 hb
        omega⟩ (by rw[hc2];exact g5)
    rw[hc2] at this
    rw[if_pos hm]
    omega
   ·have hm':(q3y s l a x nx).2=false:=Bool.eq_false_iff.2 hm
    rw[hm',Bool.not_false,Bool.true_and,Bool.or_eq_false_iff] at g4
    have hem:(q3y s l a x nx).1=true:=by simpa using g4.1
    have hsk:sk=true:=by simpa using g4.2
    have hr:∀k,¬((nx:Int)≤a k∧a k<((nx+lvN x:Nat):Int)):=fun k hk=>by
     have hb:=g3.bit k hk.1
     have:set.testBit k=true:=by rw[QI,Bool.and_eq_true] at hb;exact hb.1
     have hkl:k<l.length:=qlo hlt this
     exact(q9Q s l hl a x nx).1 hem k hkl hk
    have hfo:foF d nx (nx+lvN x)=false:=Bool.eq_false_iff.2 fun h=>by
     obtain⟨k,y,hy,h3,h4⟩:=(qng d nx (nx+lvN x)).1 h
     have:=(g3.com k y hy y h3 (by omega)).1 rfl
     exact hr k (by omega)
    have hI:=qmt (sk && !foF d nx (nx+lvN x)) (Q1 d s l x nx) b s1
    have hge:=hI.ge
    rw[hsk,hfo] at hge
    simp only[Bool.not_false,Bool.and_true,if_true] at hge
    have hge2:b s1≤stF (sk && !foF d nx (nx+lvN x)) (Q1 d s l x nx) b s1:=by rw[hsk,hfo];exact hge
    have:=i2 s1 a g1 (by omega) ⟨fun k hk=>by
      have h5:=g3.inn k hk
      have h6:=hr k
      omega,g3.out,fun k y hy z hz hz2=>g3.com k y hy z (by omega) (by omega)⟩ g5
    rw[hm']
    simp only[Bool.false_eq_true,if_false,Nat.zero_add]
    omega
end Go.Proofs.YtgejdfnidjnjcaaGreat.Vc
namespace Go.Proofs.YtgejdfnidjnjcaaGreat.Vc
open Go.RowKit
structure q31 (n:qb) (l:List qa) (set:Nat):Prop where
 fit:∀y∈ndN n,q3v y
 nd:(ndN n).length≤9999
 st:∀y∈ndN n,y.Set.length≤1000000
 ll:l.length≤16
 lt:set<2 ^ l.length
theorem q31.lt64 {n:qb} {l:List qa} {set:Nat} (h:q31 n l set):set<9223372036854775808:=by
 have h1:=h.lt
 have h2:(2:Nat) ^ l.length≤2 ^ 16:=Nat.pow_le_pow_right (by decide) h.ll
 have h3:(2:Nat) ^ 16=65536:=by decide
 omega
theorem q31.lv {n:qb} {l:List qa} {set:Nat} (h:q31 n l set):lvN n≤9999:=Nat.le_trans (qdw n) h.nd
theorem qoD {n:qb} {l:List qa} {set:Nat} (h:q31 n l set) (s:qf) (d:List Int) (hd:d.length≤16):q2T n s l d=some (Q3 (2 ^ l.length) (Q1 d s l n 0),d):=by
 have:=ql5 d hd s l h.ll _ n (Nat.le_refl _) (by have:=h.nd;omega) h.st 0 (by have:=h.nd;omega)
 unfold q2T
 change Option.bind (zJ (n,d,l,((0:Nat):Int),s)) _=_
 rw[this]
 rfl
theorem q60 {α:Type} {d:List α} {y z:α} {j:Nat} (h:(d++[y])[j]?=some z):d[j]?=some z∨(j=d.length∧z=y):=by
 by_cases hj:j<d.length
 ·rw[List.getElem?_append_left hj] at h
  exact .inl h
 ·rw[List.getElem?_append_right (by omega)] at h
  have:=q08 h
  rw[List.length_singleton] at this
  have e:j-d.length=0:=by omega
  rw[e] at h
  simp only[List.getElem?_cons_zero,Option.some.injEq] at h
  exact .inr ⟨by omega,h.symm⟩
theorem qpN {d:List Int} {a:Nat→Int} {w set:Nat} (h:Asg d a 0 w set):Asg (d++[a d.length]) a 0 w set:=⟨h.inn,h.out,fun k y hy x hx hx2=>by
 rcases q60 hy with e|⟨e1,e2⟩
 ·exact h.com k y e x hx hx2
 ·rw[e1,e2]⟩
theorem qnQ {n:qb} {l:List qa} {set:Nat} (h:q31 n l set) (s:qf) (w4:List Int) (t49 t50:Int) (d:List Int) (hd:d.length+1≤16):∀(m x:Nat),x+m≤1000000→
  (∃v:Nat,x≤v∧v≤x+m∧Q1 (d++[(v:Int)]) s l n 0 set=true)→
  ∃v:Nat,x≤v∧v≤x+m∧Q1 (d++[(v:Int)]) s l n 0 set=true∧(∀y:Nat,x≤y→y<v→Q1 (d++[(y:Int)]) s l n 0 set=false)∧
   qX (q0v w4 n s l (set:Int) (d.length:Int) t49 t50) (d++[(x:Int)])=some (d++[(v:Int)]):=by
 have hstep:∀x:Nat,x≤1000000→q0v w4 n s l (set:Int) (d.length:Int) t49 t50 (d++[(x:Int)])=if Q1 (d++[(x:Int)]) s l n 0 set=true then some (.inr (d++[(x:Int)])) else some (.inl (d++[((x+1:Nat):Int)])):=by
  intro x hx
  have hlen:(d++[(x:Int)]).length=d.length+1:=by rw[List.length_append,List.length_singleton]
  have hg:(d++[(x:Int)])[d.length]?=some (x:Int):=by rw[List.getElem?_append_right (Nat.le_refl _),Nat.sub_self];rfl
  have hlt:=h.lt
  have hw:w64 ((x:Int)+1)=((x+1:Nat):Int):=QP (by omega) (by omega)
  have hset:(d++[(x:Int)]).set d.length ((x+1:Nat):Int)=d++[((x+1:Nat):Int)]:=by
   rw[List.set_append_right _ _ (Nat.le_refl _),Nat.sub_self]
   rfl
  unfold q0v
  simp only
  rw[qoD h s _ (by omega),Option.bind_some]
  simp only
  rw[if_pos (by rw[qM];omega),Int.toNat_natCast,Zb _ hlt,Option.bind_some]
  cases hs:Q1 (d++[(x:Int)]) s l n 0 set
  ·rw[if_pos (by decide),if_pos (by rw[hlen];omega),Int.toNat_natCast,hg,Option.bind_some,if_pos (by rw[hlen];omega),if_pos (by rw[hlen];omega),hw,hset]
   rfl
  ·rfl
 intro m
 induction m with
 | zero=>
  intro x hx hv
  obtain⟨v,h1,h2,h3⟩:=hv
  have e:v=x:=by omega
  subst e
  exact⟨v,Nat.le_refl _,by omega,h3,fun y _ _=>by omega,zr (by rw[hstep v (by omega),if_pos h3])⟩
 | succ m ih=>
  intro x hx hv
  by_cases hs:Q1 (d++[(x:Int)]) s l n 0 set=true
  ·exact⟨x,Nat.le_refl _,by omega,hs,fun y _ _=>by omega,zr (by rw[hstep x (by omega),if_pos hs])⟩
  ·obtain⟨v,h1,h2,h3⟩:=hv
   have hne:v≠x:=fun e=>hs (by rw[←e];exact h3)
   obtain⟨u,u1,u2,u3,u4,u5⟩:=ih (x+1) (by omega) ⟨v,by omega,by omega,h3⟩
   refine⟨u,by omega,by omega,u3,fun y hy hy2=>?_,?_⟩
   ·by_cases e:y=x
    ·subst e;exact Bool.eq_false_iff.2 hs
    ·exact u4 y (by omega) hy2
   ·rw[zI (by rw[hstep x (by omega),if_neg hs])]
    exact u5
structure q8p (d:List Int) (s:qf) (l:List qa) (n:qb) (set:Nat):Prop where
 ok:Q1 d s l n 0 set=true
 val:∀(j:Nat) (y:Int),d[j]?=some y→if set.testBit j=true then 0≤y∧y<(lvN n:Int) else y = -1
 lst:∀(j:Nat) (x:Int),d[j]?=some x→set.testBit j=true→∀y:Nat,(y:Int)<x→Q1 (d.take j++[(y:Int)]) s l n 0 set=false
theorem qdU {α:Type} {d:List α} {j:Nat} {x y:α} (h:d[j]?=some x):(d++[y]).take j=d.take j:=List.take_append_of_le_length (by have:=q08 h;omega)
theorem qeM {n:qb} {l:List qa} {set:Nat} (h:q31 n l set) {s:qf} {d:List Int} (hf:q8p d s l n set) (hd:d.length<l.length) :
  (set.testBit d.length=false→q8p (d++[-1]) s l n set)∧(set.testBit d.length=true→∃v:Nat,v<lvN n∧Q1 (d++[(v:Int)]) s l n 0 set=true):=by
 have hll:=h.ll
 obtain⟨a,ha,hm⟩:=(q7t d s l (by omega) n 0 set h.fit h.lt).1 hf.ok
 have hs:=(q7t (d++[a d.length]) s l (by omega) n 0 set h.fit h.lt).2 ⟨a,qpN ha,hm⟩
 constructor
 ·intro hb
  rw[ha.out _ hb] at hs
  refine⟨hs,fun j y hy=>?_,fun j x hx hj y hy=>?_⟩
  ·rcases q60 hy with e|⟨e1,e2⟩
   ·exact hf.val j y e
   ·rw[e1,hb,if_neg (by decide)];exact e2
  ·rcases q60 hx with e|⟨e1,e2⟩
   ·rw[qdU e];exact hf.lst j x e hj y hy
   ·rw[e1,hb] at hj;exact absurd hj (by decide)
 ·intro hb
  have:=ha.inn _ hb
  refine⟨(a d.length).toNat,by omega,?_⟩
  rw[show(((a d.length).toNat:Nat):Int)=a d.length from by omega]
  exact hs
theorem qhq {n:qb} {l:List qa} {set:Nat} (h:q31 n l set) (s:qf):∀(m:Nat) (d:List Int),d.length+m=l.length→q8p d s l n set→
  ∃d',d'.length=l.length∧q8p d' s l n set∧(∃e,d'=d++e)∧qX (JA n s l (set:Int) (l.length:Int)) (d,q5x set.testBit d,(d.length:Int))=some (q5x set.testBit d'):=by
 intro m
 induction m with
 | zero=>
  intro d hd hf
  refine⟨d,by omega,hf,⟨[],(List.append_nil _).symm⟩,zr ?_⟩
  unfold JA
  simp only
  rw[if_neg (by omega)]
 | succ m ih=>
  intro d hd hf
  have hll:=h.ll
  have hlt:=h.lt64
  have hML:100000≤Go.maxLen:=by unfold Go.maxLen;omega
  have hsel:=q86 d set.testBit
  obtain⟨f1,f2⟩:=qeM h hf (by omega)
  have hw:w64 ((d.length:Int)+1)=((d.length+1:Nat):Int):=QP (by omega) (by omega)
  have hbit:(JH Go.BinOp.and Go.IntKind.i64 (Int.fdiv (set:Int) ((2:Int) ^ min (Int.toNat (d.length:Int)) (Go.IntKind.bits Go.IntKind.i64))) (1:Int)==(0:Int)) = !set.testBit d.length:=by
   rw[Int.toNat_natCast,qf0 set d.length (by omega),show(1:Int)=((1:Nat):Int) from rfl,qaK _ 1 (Nat.lt_of_le_of_lt (Nat.div_le_self _ _) hlt) (by decide),Nat.and_one_is_mod,Nat.testBit_eq_decide_div_mod_eq]
   have:set / 2 ^ d.length % 2<2:=Nat.mod_lt _ (by decide)
   by_cases e:set / 2 ^ d.length % 2=1
   ·rw[e];rfl
   ·have e0:set / 2 ^ d.length % 2=0:=by omega
    rw[e0];rfl
  have hset:∀y z:Int,(d++[y]).set d.length z=d++[z]:=fun y z=>by
   rw[List.set_append_right _ _ (Nat.le_refl _),Nat.sub_self]
   rfl
  cases hb:set.testBit d.length
  ·obtain⟨d',g1,g2,⟨e,g3⟩,g4⟩:=ih (d++[-1]) (by rw[List.length_append,List.length_singleton];omega) (f1 hb)
   refine⟨d',g1,g2,⟨[-1]++e,by rw[g3,List.append_assoc]⟩,?_⟩
   rw[q7l,hb,if_neg (by decide),List.append_nil,List.length_append,List.length_singleton] at g4
   rw[←g4]
   refine zI ?_
   unfold JA
   simp only
   rw[if_pos (by omega),if_pos ⟨by omega,by omega⟩,if_pos (by omega),hbit,hb,if_pos (by decide),hw]
  ·obtain⟨v0,hv0,hs0⟩:=f2 hb
   have hlv:=h.lv
   obtain⟨v,v1,v2,v3,v4,v5⟩:=qnQ h s (q5x set.testBit d) (l.length:Int) (d.length:Int) d (by omega) v0 0 (by omega) ⟨v0,by omega,by omega,hs0⟩
   have hF:q8p (d++[(v:Int)]) s l n set:=⟨v3,fun j y hy=>by
    rcases q60 hy with e|⟨e1,e2⟩
    ·exact hf.val j y e
    ·rw[e1,hb,if_pos rfl,e2];omega,fun j x hx hj y hy=>by
    rcases q60 hx with e|⟨e1,e2⟩
    ·rw[qdU e];exact hf.lst j x e hj y hy
    ·rw[e1,List.take_left]
     exact v4 y (Nat.zero_le _) (by omega)⟩
   obtain⟨d',g1,g2,⟨e,g3⟩,g4⟩:=ih (d++[(v:Int)]) (by rw[List.length_append,List.length_singleton];omega) hF
   refine⟨d',g1,g2,⟨[(v:Int)]++e,by rw[g3,List.append_assoc]⟩,?_⟩
   rw[q7l,hb,if_pos rfl,List.length_append,List.length_singleton] at g4
   rw[←g4]
   refine zI ?_
   have hg:(d++[(v:Int)])[d.length]?=some (v:Int):=by rw[List.getElem?_append_right (Nat.le_refl _),Nat.sub_self];rfl
   unfold JA
   simp only
   rw[if_pos (by omega),if_pos ⟨by omega,by omega⟩,if_pos (by omega),hbit,hb,if_neg (by decide),if_pos ⟨by omega,by omega⟩,Int.toNat_natCast,if_pos (Nat.le_refl _),hset]
   rw[show(0:Int)=((0:Nat):Int) from rfl,v5,Option.bind_some,if_pos (by rw[List.length_append,List.length_singleton];omega),hg,Option.bind_some,if_pos ⟨by omega,by omega⟩,hw]
theorem qgP {n:qb} {l:List qa} {set:Nat} (h:q31 n l set) (s:qf) (hS:q1P n s l=some (Q3 (2 ^ l.length) (Q1 [] s l n 0),0)) :
  (Q1 [] s l n 0 set=false∧Qw n s l (set:Int)=some ([],false))∨
  (Q1 [] s l n 0 set=true∧∃d,d.length=l.length∧q8p d s l n set∧Qw n s l (set:Int)=some (q5x set.testBit d,true)):=by
 have hlt:=h.lt
 have hll:=h.ll
 unfold Qw
 rw[hS,Option.bind_some]
 simp only
 rw[if_neg (by decide),if_neg (by omega),if_neg (by rw[qM];omega),if_pos (by rw[qM];omega),Int.toNat_natCast,Zb _ hlt,Option.bind_some]
 cases hs:Q1 [] s l n 0 set
 ·exact .inl ⟨rfl,by rw[if_pos (by decide)]⟩
 ·refine .inr ⟨rfl,?_⟩
  obtain⟨d',g1,g2,_,g4⟩:=qhq h s l.length [] (by simp) ⟨hs,fun j y hy=>by simp at hy,fun j x hx=>by simp at hx⟩
  refine⟨d',g1,g2,?_⟩
  rw[if_neg (by decide),if_pos ⟨by omega,by omega,by omega⟩]
  change Option.bind (qX _ ([],q5x set.testBit [],((([]:List Int).length:Nat):Int))) _=_
  rw[g4]
  rfl
end Go.Proofs.YtgejdfnidjnjcaaGreat.Vc
namespace Go.Proofs.YtgejdfnidjnjcaaGreat.Vc
open Go.RowKit
theorem qlH (n:qb) (hn:n.Set.length≤9223372036854775807) (s:qf) (l:List qa) (hl:l.length≤62) (d:List Int) (hd:d.length=l.length) (nx:Nat):q2O n s l d (nx:Int)=some (qfF n s l (fun j=>d.getD j (-1)==(nx:Int))):=by
 have h1:=q20 (ε:=qJ) (step:=JQ d (nx:Int) n s (qJ.mk (0:Int) (0:Int) Bool.false) l (l.length:Int)) l (fun(b:qJ) i=>(b,(i:Int))) (fun i b a => .inl (if(d.getD i (-1)==(nx:Int))=true then qh0 n s b a else b)) (fun b=>b) (fun b i a ha=>by
   have hi:=q08 ha
   have hw:w64 ((i:Int)+1)=((i+1:Nat):Int):=qY hi (by omega)
   have hb:q1K (i:Int) d (nx:Int)=some (d.getD i (-1)==(nx:Int)):=by
    unfold q1K
    rw[if_pos ⟨by omega,by omega⟩,Int.toNat_natCast,List.getElem?_eq_getElem (by omega),Option.bind_some,List.getD_eq_getElem?_getD,List.getElem?_eq_getElem (by omega)]
    rfl
   unfold JQ qh0
   simp only
   rw[if_pos (by omega),if_pos ⟨by omega,by omega⟩,Int.toNat_natCast,ha,Option.bind_some,hw,hb,Option.bind_some]
   cases(d.getD i (-1)==(nx:Int))
   ·simp
   ·cases hf:b.fine
    ·simp
    ·simp[qdt n hn s a]) (fun b=>by
   unfold JQ
   simp only
   rw[if_neg (by omega)]) ld0
 unfold q2O qfF
 change Option.bind (qX _ (ld0,((0:Nat):Int))) _=_
 rw[h1,Option.bind_some]
 congr 1
 have:∀(l:List qa) (i:Nat) (b:qJ),q4c (ε:=qJ) (fun i (b:qJ) (a:qa) => .inl (if(d.getD i (-1)==(nx:Int))=true then qh0 n s b a else b)) (fun b=>b) l i b=(q5x (fun j=>d.getD (i+j) (-1)==(nx:Int)) l).foldl (qh0 n s) b:=by
  intro l
  induction l with
  | nil=>intro i b;rfl
  | cons a l ih=>
   intro i b
   unfold q4c q5x
   rw[List.foldl_append]
   simp only[Nat.add_zero]
   rw[ih (i+1)]
   rw[show(fun j=>d.getD (i+1+j) (-1)==(nx:Int))=fun j=>d.getD (i+(j+1)) (-1)==(nx:Int) from funext fun j=>by rw[Nat.add_right_comm,Nat.add_assoc]]
   split<;>rfl
 rw[this l 0 ld0]
 simp only[Nat.zero_add]
end Go.Proofs.YtgejdfnidjnjcaaGreat.Vc
namespace Go.Proofs.YtgejdfnidjnjcaaGreat.Vc
open Go.RowKit
mutual
def itN (d:Int):qb→List ql
 | ⟨k,n,m,S,L⟩=>⟨⟨k,n,m,S,L⟩,d⟩::itL (d+1) L
def itL (d:Int):List qb→List ql
 | []=>[]
 | x::L=>itN d x++itL d L
end
theorem qrE (d:Int) (n:qb):itN d n=⟨n,d⟩::itL (d+1) n.L:=by cases n;rw[itN]
theorem qbk:∀(n:qb) (d:Int),(itN d n).map (·.Need)=ndN n:=by
 intro n
 induction n using qb.rec (motive_2:=fun L=>∀d,(itL d L).map (·.Need)=ndL L) with
 | mk k n m S L ih=>intro d;rw[itN,ndN,List.map_cons,ih]
 | nil=>rw[itL,ndL];rfl
 | cons x L h1 h2=>rw[itL,ndL,List.map_append,h1,h2]
theorem q9m (n:qb) (d:Int):(itN d n).length=(ndN n).length:=by rw[←qbk n d,List.length_map]
theorem qg4 (rF:(qb×Int×List ql)→Option (Unit⊕(List ql))) (deep:Int) (hd:1≤deep) (n:qb) (hL:n.L.length≤10000)
  (step:List ql×Int→Option ((List ql×Int)⊕(Unit⊕(List ql))))
  (hst:∀w (i:Nat),step (w,(i:Int))=if(i:Int)<((n.L.length:Nat):Int) then if(0:Int)≤i∧(i:Int)<((n.L.length:Nat):Int) then Option.bind n.L[Int.toNat i]? fun a2=>Option.bind (rF (a2,w64 (deep+1),w)) fun a3=>Sum.elim (fun _=>some (Sum.inr (Sum.inl ()))) (fun a5=>some (Sum.inl (a5,w64 ((i:Int)+1)))) a3 else none else some (.inr (.inr w)))
  (hP:∀y∈n.L,∀w,deep+1+hgN y≤101→w.length+(ndN y).length≤10000→rF (y,deep+1,w)=some (.inr (w++itN (deep+1) y))) :
  ∀(r:List qb) (i:Nat) (w:List ql),r.length+i=n.L.length→(∀j,r[j]?=n.L[i+j]?)→deep+1+hgL r≤101→w.length+(ndL r).length≤10000→
  qX step (w,(i:Int))=some (.inr (w++itL (deep+1) r)):=by
 intro r
 induction r with
 | nil=>
  intro i w hi _ _ _
  have hi:i=n.L.length:=by simpa using hi
  subst hi
  refine zr ?_
  rw[hst,if_neg (by omega),itL,List.append_nil]
 | cons y r ih=>
  intro i w hi hr hh hw
  rw[hgL] at hh
  rw[ndL,List.length_append] at hw
  simp only[List.length_cons] at hi
  have hget:n.L[i]?=some y:=by have:=hr 0;simpa using this.symm
  have hlt:=q08 hget
  have hcall:=hP y (List.mem_of_getElem? hget) w (by omega) (by omega)
  have hstep:step (w,(i:Int))=some (.inl (w++itN (deep+1) y,((i+1:Nat):Int))):=by
   rw[hst,if_pos (by omega),if_pos ⟨by omega,by omega⟩,Int.toNat_natCast,hget,Option.bind_some,QP (by omega) (by omega),hcall,Option.bind_some,qY hlt (by omega)]
   rfl
  rw[zI hstep,ih (i+1) _ (by omega) (fun j=>by rw[show i+1+j=i+(j+1) by omega,←hr (j+1)];rfl) (by omega) (by rw[List.length_append,q9m];omega),itL,List.append_assoc]
theorem qp3:∀(m:Nat) (y:qb),(ndN y).length≤m→∀(deep:Int) (w:List ql),1≤deep→deep+hgN y≤101→w.length+(ndN y).length≤10000→ZV (y,deep,w)=some (.inr (w++itN deep y)):=by
 intro m
 induction m with
 | zero=>intro y h;rw[Zg] at h;simp at h
 | succ m ih=>
  intro y h deep w hd hh hw
  rw[Zg,List.length_cons] at h hw
  rw[qbE] at hh
  have hsub:∀(L:List qb),(ndL L).length≤m→∀z∈L,∀(deep:Int) (w:List ql),1≤deep→deep+hgN z≤101→w.length+(ndN z).length≤10000→ZV (z,deep,w)=some (.inr (w++itN deep z)):=by
   intro L
   induction L with
   | nil=>intro _ z hz;simp at hz
   | cons x L ihl=>
    intro g z hz
    rw[ndL,List.length_append] at g
    rcases List.mem_cons.1 hz with rfl|hz
    ·exact ih _ (by omega)
    ·exact ihl (by omega) z hz
  have hP:=hsub y.L (by omega)
  have hl:=qb6 y.L
  have hML:100000≤maxLen:=by unfold maxLen;omega
  rw[qaI,q0X,if_neg (by omega),if_neg (by omega),if_pos ⟨by omega,by omega⟩]
  have h1:=qg4 ZV deep hd y (by omega) (q0Z ZV y deep) (fun w i=>by rfl) (fun z hz w g1 g2=>hP z hz (deep+1) w (by omega) g1 g2) y.L 0 (w++[⟨y,deep⟩]) (by simp) (by simp) (by omega) (by rw[List.length_append,List.length_singleton];omega)
  rw[show((0:Nat):Int)=0 from rfl] at h1
  rw[h1,Option.bind_some,Sum.elim_inr,qrE,List.append_assoc]
  rfl
theorem qfu (n:qb) (hh:hgN n≤100) (hn:(ndN n).length≤9999):q1N n 1=some (.inr (itN 1 n)):=by
 rw[qbE] at hh
 rw[Zg,List.length_cons] at hn
 have hl:=qb6 n.L
 unfold q1N
 rw[if_neg (by omega),if_pos (by unfold maxLen;omega)]
 have h1:=qg4 ZV 1 (by omega) n (by omega) (q1L n 1) (fun w i=>by rfl) (fun z hz w g1 g2=>qp3 _ z (Nat.le_refl _) (1+1) w (by omega) (by omega) g2) n.L 0 [⟨n,1⟩] (by simp) (by simp) (by omega) (by simp only[List.length_singleton];omega)
 rw[show((0:Nat):Int)=0 from rfl] at h1
 rw[h1,Option.bind_some,Sum.elim_inr,qrE]
 rfl
end Go.Proofs.YtgejdfnidjnjcaaGreat.Vc
