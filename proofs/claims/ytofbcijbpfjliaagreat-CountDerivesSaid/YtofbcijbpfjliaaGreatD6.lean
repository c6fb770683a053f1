/- Part 6 of a proof. -/
import Derived.Test.YtofbcijbpfjliaaGreatD5
set_option linter.unusedVariables false
set_option linter.unusedSimpArgs false
set_option linter.defProp false
set_option linter.unusedSectionVars false
set_option linter.unnecessarySimpa false
namespace Go.Proofs.YtofbcijbpfjliaaGreat.Vc
noncomputable section
open Go.RowKit
set_option maxRecDepth 20000
set_option maxHeartbeats 8000000
theorem lo6:okL 6 qkt:=qJ (qj bd6) (by kernel_rfl) (by kernel_rfl)
def cx6:=JA_ @qkt.eq_1 (JA_ @Tryz.f6.eq_1 @bd6)
theorem qGY:lbO 6 3=qvR:=Qt (qj bd6) rfl
theorem qHJ:okL 6 qvR:=zI lo6 (qQy (i:=0) (by kernel_rfl))
theorem qJq:lbO 6 9=qvI:=Qt (qj bd6) rfl
theorem qHx:okL 6 qvI:=zI lo6 (qQy (i:=1) (by kernel_rfl))
theorem qM5:okL 17 qk8:=qJ (qj qEO) (by kernel_rfl) (by kernel_rfl)
def qMA:=JA_ @qk8.eq_1 (JA_ @Tryz.f17.eq_1 @qEO)
theorem qNz:okL 40 qjP:=qJ (qj qF5) (by kernel_rfl) (by kernel_rfl)
def qP9:=JA_ @qjP.eq_1 (JA_ @Tryz.f40.eq_1 @qF5)
theorem qM8:okL 69 qjS:=qJ (qj qF0) (by kernel_rfl) (by kernel_rfl)
def qO9:=JA_ @qjS.eq_1 (JA_ @Tryz.f69.eq_1 @qF0)
def q0S (n:Int) (by0:Int):Option Int:=if by0=0 then none else if by0=0 then none else if by0=0 then none else some (w64 (Int.tdiv (w64 (n-Int.tmod (w64 (Int.tmod n by0+by0)) by0)) by0))
theorem qa8:∀(n by0:Int),ev 69 0 [rI n,rI by0] []=(q0S n by0).bind (fun(e:Int)=>some (rI e,[])):=
 fun n by0=>by
  rw[qF qF0 qLK.2.2.2 qM8]
  have:=qO9;have:=@q0S.eq_1;exact gA
def q1W (day:Int):Option Int:=if day<(-4611686018427387904) then Option.bind (q0S (w64 (day+100)) 100) fun(a:Int)=>some (w64 (a-1)) else Option.bind (q0S day 100) fun(e0:Int)=>some e0
theorem qcB:∀(day:Int),ev 40 0 [rI day] []=(q1W day).bind (fun(e:Int)=>some (rI e,[])):=
 fun day=>by
  rw[qF qF5 qL4.2.2.2 qNz]
  have:=qP9;have:=@qa8;have:=@q1W.eq_1;exact gA
def Jp (p:qg) (a:qa) (day:Int):Option Bool:=if 0<p.Age then Option.bind (q1W day) fun(a2:Int)=>Option.bind (q1W a.Day) fun(a3:Int)=>some (decide (p.Age<w64 (a2-a3))) else some Bool.false
theorem q3n:∀(Q3 q73 zC J2:Int) (J3:ByteArray) (qS Q4 zl:Int) (zm:List qe) (Q5:List qb) (QK q13 q14:Int) (zD:List (q0u qe)) (qy:Int) (qD:ByteArray) (zG QS q1e:Int) (zB:List Int) (Qc:Int) (ZO:List Int) (day:Int),ev 17 0 [R.agg [dI Q3,dI q73,dI zC,dI J2,dS J3,dI qS,dI Q4,dI zl,dL 2 qf zm,dL 5 qh Q5,dI QK,dI q13,dI q14,dL 4 (eA2 qf) zD],R.agg [dI qy,dS qD,dI zG,dI QS,dI q1e,dL 1 eI zB,dI Qc,dL 1 eI ZO],rI day] []=(Jp (qg.mk Q3 q73 zC J2 J3 (qb.mk qS Q4 zl zm Q5) QK q13 q14 zD) (qa.mk (qe.mk qy qD) zG QS q1e zB Qc ZO) day).bind (fun(e:Bool)=>some (rB e,[])):=
 fun Q3 q73 zC J2 J3 qS Q4 zl zm Q5 QK q13 q14 zD qy qD zG QS q1e zB Qc ZO day=>by
  rw[qF qEO qKE.2.2.2 qM5]
  have:=qMA;have:=@qcB;have:=@Jp.eq_1;exact gA
theorem qOv:okL 18 qie:=qJ (qj qEN) (by kernel_rfl) (by kernel_rfl)
def qPx:=JA_ @qie.eq_1 (JA_ @Tryz.f18.eq_1 @qEN)
def Qm (s:List Int):Option Unit:=if s.length≤maxLen∧s.length*8≤140737488355328 then some () else none
theorem q19:∀(s:List Int),ev 41 0 [rL 1 eI s] []=(Qm s).bind (fun(e:Unit)=>some (rO 0 1 s.length,[(0,bR 3 1 eI s)])):=
 fun s=>by
  rw[ql5,qLw.2.2.2]
  have:=@Qm.eq_1;exact gA
def q2l (a:qa):Option Unit:=Option.bind (Qm a.Sources) fun(a2:Unit)=>Option.bind (Qm a.Path) fun(a3:Unit)=>some ()
theorem q8T:∀(qy:Int) (qD:ByteArray) (zG QS q1e:Int) (zB:List Int) (Qc:Int) (ZO:List Int),ev 18 0 [R.agg [dI qy,dS qD,dI zG,dI QS,dI q1e,dL 1 eI zB,dI Qc,dL 1 eI ZO]] []=(q2l (qa.mk (qe.mk qy qD) zG QS q1e zB Qc ZO)).bind (fun(e:Unit)=>some (R.agg [dI qy,dS qD,dI zG,dI QS,dI q1e,dL 1 eI zB,dI Qc,dL 1 eI ZO],[])):=
 fun qy qD zG QS q1e zB Qc ZO=>by
  rw[qF qEN qKs.2.2.2 qOv]
  have:=qPx;have:=@q19;have:=@q2l.eq_1;exact gA
def Z5 (p:qg) (s:qd) (day:Int) (t14:List qa) (t15:Int):(List qa×Int)→Option ((List qa×Int)⊕(List qa))|(left,t16)=>if t16<t15 then if 0≤t16∧t16<((t14.length:Nat):Int) then Option.bind t14[Int.toNat t16]? fun(a:qa)=>Option.bind (Jp p a day) fun(a2:Bool)=>if(!a2)=Bool.true then Option.bind (q2l a) fun(a3:Unit)=>if left.length+1≤maxLen∧(left.length+1)*104≤140737488355328 then some (Sum.inl (left++[a],w64 (t16+1))) else none else some (Sum.inl (left,w64 (t16+1))) else none else some (Sum.inr left)
theorem q6Z:∀(left:List qa) (Q3 q73 zC J2:Int) (J3:ByteArray) (qS Q4 zl:Int) (zm:List qe) (Q5:List qb) (QK q13 q14:Int) (zD:List (q0u qe)) (qz qT qU day:Int) (t14:List qa) (t15 t16:Int) (q2P:Nat),q2P=left.length→XL2 evo 6 0 3 ⟨[(3,rI day),(5,rP 0),(6,rP 1),(10,rO 2 8 q2P),(14,rL 8 qc t14),(15,rI t15),(16,rI t16)],[(0,B.blk 37 [dI Q3,dI q73,dI zC,dI J2,dS J3,dI qS,dI Q4,dI zl,dL 2 qf zm,dL 5 qh Q5,dI QK,dI q13,dI q14,dL 4 (eA2 qf) zD]),(1,B.blk 44 [dI qz,dI qT,dI qU]),(2,bR 54 8 qc left)],3,53⟩=(zn (Z5 (qg.mk Q3 q73 zC J2 J3 (qb.mk qS Q4 zl zm Q5) QK q13 q14 zD) (qd.mk qz qT qU) day t14 t15) (left,t16)).bind (fun(e:List qa)=>some (Exit.exit 0,⟨[(6,rP 0),(10,rO 1 8 e.length)],[(0,B.blk 44 [dI qz,dI qT,dI qU]),(1,bR 54 8 qc e)],2,53⟩)):=
 by
 intro left Q3 q73 zC J2 J3 qS Q4 zl zm Q5 QK q13 q14 zD qz qT qU day t14 t15 t16 q2P h0
 subst h0
 revert t16;revert left;exact qab qGY qHJ (fun e=>by exact⟨_,rfl,fun h=>by cases h⟩) fun left t16=>by
  have:=cx6;have:=@qvR.eq_1;have:=@q3n;have:=@q8T;have:=@Z5.eq_1;exact gA
theorem q4U:∀  (Q3 q73 zC J2:Int) (J3:ByteArray) (qS Q4 zl:Int) (zm:List qe) (Q5:List qb) (QK q13 q14:Int) (zD:List (q0u qe)) (qz qT qU day:Int) (t14:List qa) (t15 t16:Int),XL2 evo 6 0 3 ⟨[(3,rI day),(5,rP 0),(6,rP 1),(10,rO 2 8 0),(14,rL 8 qc t14),(15,rI t15),(16,rI t16)],[(0,B.blk 37 [dI Q3,dI q73,dI zC,dI J2,dS J3,dI qS,dI Q4,dI zl,dL 2 qf zm,dL 5 qh Q5,dI QK,dI q13,dI q14,dL 4 (eA2 qf) zD]),(1,B.blk 44 [dI qz,dI qT,dI qU]),(2,B.row 54 8 [])],3,53⟩=(zn (Z5 (qg.mk Q3 q73 zC J2 J3 (qb.mk qS Q4 zl zm Q5) QK q13 q14 zD) (qd.mk qz qT qU) day t14 t15) (([]:List qa),t16)).bind (fun(e:List qa)=>some (Exit.exit 0,⟨[(6,rP 0),(10,rO 1 8 e.length)],[(0,B.blk 44 [dI qz,dI qT,dI qU]),(1,bR 54 8 qc e)],2,53⟩)):=by
 intro Q3 q73 zC J2 J3 qS Q4 zl zm Q5 QK q13 q14 zD qz qT qU day t14 t15 t16;have h:=q6Z ([]:List qa) ((qg.mk Q3 q73 zC J2 J3 (qb.mk qS Q4 zl zm Q5) QK q13 q14 zD)).School ((qg.mk Q3 q73 zC J2 J3 (qb.mk qS Q4 zl zm Q5) QK q13 q14 zD)).Id ((qg.mk Q3 q73 zC J2 J3 (qb.mk qS Q4 zl zm Q5) QK q13 q14 zD)).Version ((qg.mk Q3 q73 zC J2 J3 (qb.mk qS Q4 zl zm Q5) QK q13 q14 zD)).From ((qg.mk Q3 q73 zC J2 J3 (qb.mk qS Q4 zl zm Q5) QK q13 q14 zD)).Name ((qg.mk Q3 q73 zC J2 J3 (qb.mk qS Q4 zl zm Q5) QK q13 q14 zD)).Need.Kind ((qg.mk Q3 q73 zC J2 J3 (qb.mk qS Q4 zl zm Q5) QK q13 q14 zD)).Need.N ((qg.mk Q3 q73 zC J2 J3 (qb.mk qS Q4 zl zm Q5) QK q13 q14 zD)).Need.Min ((qg.mk Q3 q73 zC J2 J3 (qb.mk qS Q4 zl zm Q5) QK q13 q14 zD)).Need.Set ((qg.mk Q3 q73 zC J2 J3 (qb.mk qS Q4 zl zm Q5) QK q13 q14 zD)).Need.L ((qg.mk Q3 q73 zC J2 J3 (qb.mk qS Q4 zl zm Q5) QK q13 q14 zD)).Total ((qg.mk Q3 q73 zC J2 J3 (qb.mk qS Q4 zl zm Q5) QK q13 q14 zD)).Own ((qg.mk Q3 q73 zC J2 J3 (qb.mk qS Q4 zl zm Q5) QK q13 q14 zD)).Age ((qg.mk Q3 q73 zC J2 J3 (qb.mk qS Q4 zl zm Q5) QK q13 q14 zD)).Exclude ((qd.mk qz qT qU)).Worst ((qd.mk qz qT qU)).Best ((qd.mk qz qT qU)).Pass day t14 t15 t16 _ rfl
 first
  | exact h
  | (simp only[rL,dL,bR,bZ,Nat.reduceAdd] at h;exact h)
theorem qKp:okL 19 qeW:=qJ (qj qDL) (by kernel_rfl) (by kernel_rfl)
def qK0:=JA_ @qeW.eq_1 (JA_ @Tryz.f19.eq_1 @qDL)
theorem qz5:lbO 19 3=qp6:=Qt (qj qDL) rfl
theorem qEt:okL 19 qp6:=zI qKp (qQy (i:=0) (by kernel_rfl))
theorem qJ4:okL 42 qd1:=qJ (qj qye) (by kernel_rfl) (by kernel_rfl)
def qG9:=JA_ @qd1.eq_1 (JA_ @Tryz.f42.eq_1 @qye)
theorem qAx:lbO 42 3=qmN:=Qt (qj qye) rfl
theorem qyB:okL 42 qmN:=zI qJ4 (qQy (i:=0) (by kernel_rfl))
theorem qBs:lbO 42 8=qnS:=Qt (qj qye) rfl
theorem qBz:okL 42 qnS:=zI qJ4 (qQy (i:=1) (by kernel_rfl))
def ZN (s:List Int):Option (List Int):=
 some (@cpI s)
def zT (s:List Int):List Int:=
 @cpI s
theorem q2U (s:List Int):ZN s=some (zT s):=by
 unfold ZN zT
 simp only[Zb]
theorem q3c:∀(s:List Int) (qhZ:Nat),qhZ=s.length→ev 71 0 [rO 0 1 qhZ] [(0,bR 3 1 eI s)]=some (rO 0 1 (zT s).length,[(0,B.row 3 1 (((zT s).flatMap eI).map C.d))]):=
 by
 intro s qhZ h0
 subst h0
 have h:ev 71 0 [rO 0 1 s.length] [(0,bR 3 1 eI s)]=(ZN s).bind (fun(e:List Int)=>some (rO 0 1 e.length,[(0,bR 3 1 eI e)])):=by
  rw[ql5,qKN.2.2.2]
  have:=@ZN.eq_1;exact gA
 rw[q2U] at h
 exact h
def Jx (w1:List Int) (t10:List qa) (t11:Int) (t12:Int) (t23:Int):((List (Int×Int))×Int)→Option (((List (Int×Int))×Int)⊕((List (Int×Int))))|(m0,t24)=>if t24<t23 then if 0≤t24∧t24<((w1.length:Nat):Int) then Option.bind w1[Int.toNat t24]? fun(a:Int)=>some (Sum.inl (qhL m0 a (w64 (q4J 0 m0 a+1)),w64 (t24+1))) else none else some (Sum.inr m0)
theorem q9r:∀(w1:List Int) (m0:List (Int×Int)) (t10:List qa) (t11 t12 t23 t24:Int) (Jt:Nat),Jt=w1.length→XL2 evo 42 0 8 ⟨[(3,R.c (C.hd .map 0)),(10,rL 8 qc t10),(11,rI t11),(12,rI t12),(22,rO 1 1 Jt),(23,rI t23),(24,rI t24)],[(0,B.ob (mpB (q5D .i64) q05 m0)),(1,bR 3 1 eI w1)],2,35⟩=(zn (Jx w1 t10 t11 t12 t23) (m0,t24)).bind (fun(e:(List (Int×Int)))=>some (Exit.exit 2,⟨[(3,R.c (C.hd .map 0)),(10,rL 8 qc t10),(11,rI t11),(12,rI t12)],[(0,B.ob (mpB (q5D .i64) q05 e))],1,35⟩)):=
 by
 intro w1 m0 t10 t11 t12 t23 t24 Jt h0
 subst h0
 revert t24;revert m0;exact qab qBs qBz (fun e=>by exact⟨_,rfl,fun h=>by cases h⟩) fun m0 t24=>by
  have:=qG9;have:=@qnS.eq_1;have:=@Jx.eq_1;exact gA
def q0h (t10:List qa) (t11:Int):((List (Int×Int))×Int)→Option (((List (Int×Int))×Int)⊕((List (Int×Int))))|(m0,t12)=>if t12<t11 then if 0≤t12∧t12<((t10.length:Nat):Int) then Option.bind t10[Int.toNat t12]? fun(a:qa)=>Option.bind (Qm a.Sources) fun(a2:Unit)=>if a.Sources.length<4611686018427387904 then Option.bind (zn (Jx (zT (@q2W a.Sources)) t10 t11 t12 (((zT (@q2W a.Sources)).length:Nat):Int)) (m0,0)) fun(a3:List (Prod Int Int))=>some (Sum.inl (a3,w64 (t12+1))) else none else none else some (Sum.inr m0)
theorem q9d:∀(m0:List (Int×Int)) (t10:List qa) (t11 t12:Int),XL2 evo 42 0 3 ⟨[(3,R.c (C.hd .map 0)),(10,rL 8 qc t10),(11,rI t11),(12,rI t12)],[(0,B.ob (mpB (q5D .i64) q05 m0))],1,35⟩=(zn (q0h t10 t11) (m0,t12)).bind (fun(e:(List (Int×Int)))=>some (Exit.exit 0,⟨[(3,R.c (C.hd .map 0))],[(0,B.ob (mpB (q5D .i64) q05 e))],1,35⟩)):=
 fun m0 t10 t11 t12=>by
  revert t12;revert m0;exact qab qAx qyB (fun e=>by exact⟨_,rfl,fun h=>by cases h⟩) fun m0 t12=>by
   have:=qG9;have:=@qmN.eq_1;have:=@q19;have:=@q3c;have:=@q9r;have:=@q0h.eq_1;exact gA
def q3i (l:List qa):Option ((List (Int×Int))):=Option.bind (zn (q0h l ((l.length:Nat):Int)) ([],0)) fun(a:List (Prod Int Int))=>some a
theorem qcu:∀(l:List qa),ev 42 0 [rL 8 qc l] []=(q3i l).bind (fun(e:(List (Int×Int)))=>some (R.c (C.hd .map 0),[(0,B.ob (mpB (q5D .i64) q05 e))])):=
 fun l=>by
  rw[qF qye qLp.2.2.2 qJ4]
  have:=qG9;have:=@q9d;have:=@q3i.eq_1;exact gA
theorem qNb:okL 43 qjR:=qJ (qj qEZ) (by kernel_rfl) (by kernel_rfl)
def qOI:=JA_ @qjR.eq_1 (JA_ @Tryz.f43.eq_1 @qEZ)
theorem qLc:okL 66 qfn:=qJ (qj qD4) (by kernel_rfl) (by kernel_rfl)
def qKb:=JA_ @qfn.eq_1 (JA_ @Tryz.f66.eq_1 @qD4)
theorem qB4:lbO 66 4=qpV:=Qt (qj qD4) rfl
theorem qzk:okL 66 qpV:=zI qLc (qQy (i:=0) (by kernel_rfl))
def zZ (s1:List Int) (s2:List Int) (t12:Int):Int→Option (Int⊕(Unit⊕Unit))|t13=>if t13<t12 then if 0≤t13∧t13<((s1.length:Nat):Int) then Option.bind s1[Int.toNat t13]? fun(a:Int)=>if 0≤t13∧t13<((s2.length:Nat):Int) then Option.bind s2[Int.toNat t13]? fun(a2:Int)=>if(a != a2)=Bool.true then some (Sum.inr (Sum.inl ())) else some (Sum.inl (w64 (t13+1))) else none else none else some (Sum.inr (Sum.inr ()))
theorem q2S:∀(s1 s2:List Int) (t12 t13:Int),XL2 evo 66 0 4 ⟨[(0,rL 1 eI s1),(1,rL 1 eI s2),(12,rI t12),(13,rI t13)],[],0,26⟩=(zn (zZ s1 s2 t12) t13).bind (Sum.elim (fun(e:Unit)=>some (Exit.ret,⟨[(4,rB Bool.false)],[],0,26⟩)) (fun(e:Unit)=>some (Exit.exit 0,⟨[(4,R.any)],[],0,26⟩))):=
 fun s1 s2 t12 t13=>by
  revert t13;exact qcm qB4 qzk (fun e=>by rcases e with _|_<;>exact⟨_,rfl,fun h=>by cases h⟩) fun x=>by
   have:=qKb;have:=@qpV.eq_1;have:=@zZ.eq_1;exact gA
def QN (s1:List Int) (s2:List Int):Option Bool:=if(((s1.length:Nat):Int) != ((s2.length:Nat):Int))=Bool.true then some Bool.false else Option.bind (zn (zZ s1 s2 ((s1.length:Nat):Int)) 0) fun(a:Sum Unit Unit)=>Sum.elim (fun(a2:Unit)=>some Bool.false) (fun(a3:Unit)=>some Bool.true) a
theorem q1c:∀(s1 s2:List Int),ev 66 0 [rL 1 eI s1,rL 1 eI s2] []=(QN s1 s2).bind (fun(e:Bool)=>some (rB e,[])):=
 fun s1 s2=>by
  rw[qF qD4 qKD.2.2.2 qLc]
  have:=qKb;have:=@q2S;have:=@QN.eq_1;exact gA
theorem qMI:okL 72 qj3:=qJ (qj qFd) (by kernel_rfl) (by kernel_rfl)
def qMJ:=JA_ @qj3.eq_1 (JA_ @Tryz.f72.eq_1 @qFd)
theorem qIJ:okL 103 qdu:=qJ (qj qqd) (by kernel_rfl) (by kernel_rfl)
def qIU:=JA_ @qdu.eq_1 (JA_ @Tryz.f103.eq_1 @qqd)
theorem qLA:okL 48 qga:=qJ (qj qCv) (by kernel_rfl) (by kernel_rfl)
def qK3:=JA_ @qga.eq_1 (JA_ @Tryz.f48.eq_1 @qCv)
theorem qyj:lbO 48 2=qoO:=Qt (qj qCv) rfl
theorem qDd:okL 48 qoO:=zI qLA (qQy (i:=0) (by kernel_rfl))
theorem qPh:okL 79 qiR:=qJ (qj qEP) (by kernel_rfl) (by kernel_rfl)
def qNs:=JA_ @qiR.eq_1 (JA_ @Tryz.f79.eq_1 @qEP)
def JZ (n:Int) (a:Int) (b:Int):Option Int:=
 some (max (min a b) (min n (max a b)))
def Qd (n:Int) (a:Int) (b:Int):Int:=
 max (min a b) (min n (max a b))
theorem q4Z (n a b:Int):JZ n a b=some (Qd n a b):=by
 unfold JZ Qd
 simp only[Zb]
theorem q0l:∀(n a b:Int),ev 79 0 [rI n,rI a,rI b] []=some (rI (Qd n a b),[]):=
 fun n a b=>by
  have h:ev 79 0 [rI n,rI a,rI b] []=(JZ n a b).bind (fun(e:Int)=>some (rI e,[])):=by
   rw[qF qEP qKO.2.2.2 qPh]
   have:=qNs;have:=@JZ.eq_1;exact gA
  rw[q4Z] at h
  exact h
def ZR (w1:List Int) (s:qd) (t10:Int):Int→Option (Int⊕(Unit⊕Unit))|t11=>if t11<t10 then if 0≤t11∧t11<((w1.length:Nat):Int) then Option.bind w1[Int.toNat t11]? fun(a:Int)=>if(Qd a (-1000) 1000 != a)=Bool.true then some (Sum.inr (Sum.inl ())) else some (Sum.inl (w64 (t11+1))) else none else some (Sum.inr (Sum.inr ()))
theorem q7E:∀(w1:List Int) (qz qT qU t10 t11:Int) (Jt:Nat),Jt=w1.length→XL2 evo 48 0 2 ⟨[(1,rP 0),(9,rO 1 1 Jt),(10,rI t10),(11,rI t11)],[(0,B.blk 44 [dI qz,dI qT,dI qU]),(1,bR 3 1 eI w1)],2,37⟩=(zn (ZR w1 (qd.mk qz qT qU) t10) t11).bind (Sum.elim (fun(e:Unit)=>some (Exit.ret,⟨[(1,rP 0),(2,rI 10)],[(0,B.blk 44 [dI qz,dI qT,dI qU])],1,37⟩)) (fun(e:Unit)=>some (Exit.exit 0,⟨[(1,rP 0),(2,R.any)],[(0,B.blk 44 [dI qz,dI qT,dI qU])],1,37⟩))):=
 by
 intro w1 qz qT qU t10 t11 Jt h0
 subst h0
 revert t11;exact qcm qyj qDd (fun e=>by rcases e with _|_<;>exact⟨_,rfl,fun h=>by cases h⟩) fun x=>by
  have:=qK3;have:=@qoO.eq_1;have:=@q0l;have:=@ZR.eq_1;exact gA
theorem q5y:∀(w10 w11 qz qT qU t10 t11:Int),XL2 evo 48 0 2 ⟨[(1,rP 0),(9,rO 1 1 2),(10,rI t10),(11,rI t11)],[(0,B.blk 44 [dI qz,dI qT,dI qU]),(1,B.row 3 1 [dI w10,dI w11])],2,37⟩=(zn (ZR [w10,w11] (qd.mk qz qT qU) t10) t11).bind (Sum.elim (fun(e:Unit)=>some (Exit.ret,⟨[(1,rP 0),(2,rI 10)],[(0,B.blk 44 [dI qz,dI qT,dI qU])],1,37⟩)) (fun(e:Unit)=>some (Exit.exit 0,⟨[(1,rP 0),(2,R.any)],[(0,B.blk 44 [dI qz,dI qT,dI qU])],1,37⟩))):=by
 intro w10 w11 qz qT qU t10 t11;have h:=q7E [w10,w11] ((qd.mk qz qT qU)).Worst ((qd.mk qz qT qU)).Best ((qd.mk qz qT qU)).Pass t10 t11 _ rfl
 first
  | exact h
  | (simp only[rL,dL,bR,bZ,Nat.reduceAdd] at h;exact h)
def q0T (s:qd):Option Int:=Option.bind (zn (ZR [s.Worst,s.Best] s 2) 0) fun(a:Sum Unit Unit)=>Sum.elim (fun(a2:Unit)=>some 10) (fun(a3:Unit)=>if(s.Worst==s.Best)=Bool.true then some 10 else if(Qd s.Pass s.Worst s.Best != s.Pass)=Bool.true then some 10 else some 0) a
theorem q5f:∀(qz qT qU:Int),ev 48 0 [R.agg [dI qz,dI qT,dI qU]] []=(q0T (qd.mk qz qT qU)).bind (fun(e:Int)=>some (rI e,[])):=
 fun qz qT qU=>by
  rw[qF qCv qLN.2.2.2 qLA]
  have:=qK3;have:=@q5y;have:=@q0l;have:=@q0T.eq_1;exact gA
def q1F (s:qd) (g:Int):Option Bool:=Option.bind (q0T s) fun(a:Int)=>if(a==0)=Bool.true then some (Qd g s.Worst s.Best==g) else some Bool.false
theorem qat:∀(qz qT qU g:Int),ev 103 0 [R.agg [dI qz,dI qT,dI qU],rI g] []=(q1F (qd.mk qz qT qU) g).bind (fun(e:Bool)=>some (rB e,[])):=
 fun qz qT qU g=>by
  rw[qF qqd qAf.2.2.2 qIJ]
  have:=qIU;have:=@q5f;have:=@q0l;have:=@q1F.eq_1;exact gA
def JG (s:qd) (g:Int) (min:Int):Option Bool:=Option.bind (q1F s g) fun(a:Bool)=>if a=Bool.true then if(g==min)=Bool.true then some Bool.true else some (decide (min<g)==decide (s.Worst<s.Best)) else some Bool.false
theorem q3Q:∀(qz qT qU g min:Int),ev 72 0 [R.agg [dI qz,dI qT,dI qU],rI g,rI min] []=(JG (qd.mk qz qT qU) g min).bind (fun(e:Bool)=>some (rB e,[])):=
 fun qz qT qU g min=>by
  rw[qF qFd qJW.2.2.2 qMI]
  have:=qMJ;have:=@qat;have:=@JG.eq_1;exact gA
def q18 (s:qd) (a:qa) (b:qa):Option Bool:=if(a.Course.School==b.Course.School)=Bool.true∧(ByteArray.toList a.Course.Code==ByteArray.toList b.Course.Code)=Bool.true then if(a.Bundle==b.Bundle)=Bool.true then Option.bind (QN a.Path b.Path) fun(a2:Bool)=>if a2=Bool.true then if b.Credits≤a.Credits then if b.Day≤a.Day then Option.bind (JG s a.Grade b.Grade) fun(e0:Bool)=>some e0 else some Bool.false else some Bool.false else some Bool.false else some Bool.false else some Bool.false
theorem q9M:∀(qz qT qU qy:Int) (qD:ByteArray) (zG QS q1e:Int) (zB:List Int) (Qc:Int) (ZO:List Int) (Jf:Int) (q03:ByteArray) (q3o q7I qi0:Int) (q3p:List Int) (q56:Int) (qcd:List Int),ev 43 0 [R.agg [dI qz,dI qT,dI qU],R.agg [dI qy,dS qD,dI zG,dI QS,dI q1e,dL 1 eI zB,dI Qc,dL 1 eI ZO],R.agg [dI Jf,dS q03,dI q3o,dI q7I,dI qi0,dL 1 eI q3p,dI q56,dL 1 eI qcd]] []=(q18 (qd.mk qz qT qU) (qa.mk (qe.mk qy qD) zG QS q1e zB Qc ZO) (qa.mk (qe.mk Jf q03) q3o q7I qi0 q3p q56 qcd)).bind (fun(e:Bool)=>some (rB e,[])):=
 fun qz qT qU qy qD zG QS q1e zB Qc ZO Jf q03 q3o q7I qi0 q3p q56 qcd=>by
  rw[qF qEZ qL6.2.2.2 qNb]
  have:=qOI;have:=@q1c;have:=@q3Q;have:=@q18.eq_1;exact gA
theorem qIp:okL 46 qk7:=qJ (qj qy9) (by kernel_rfl) (by kernel_rfl)
def qIQ:=JA_ @qk7.eq_1 (JA_ @Tryz.f46.eq_1 @qy9)
theorem qEB:okL 74 qfx:=qJ (qj qvD) (by kernel_rfl) (by kernel_rfl)
def qxY:=JA_ @qfx.eq_1 (JA_ @Tryz.f74.eq_1 @qvD)
theorem qpO:lbO 74 2=qgl:=Qt (qj qvD) rfl
theorem qo9:okL 74 qgl:=zI qEB (qQy (i:=0) (by kernel_rfl))
theorem qLZ:okL 44 qk6:=qJ (qj qEC) (by kernel_rfl) (by kernel_rfl)
def qPs:=JA_ @qk6.eq_1 (JA_ @Tryz.f44.eq_1 @qEC)
theorem qPq:okL 45 qjf:=qJ (qj qFf) (by kernel_rfl) (by kernel_rfl)
def qP7:=JA_ @qjf.eq_1 (JA_ @Tryz.f45.eq_1 @qFf)
theorem qL3:okL 73 qfy:=qJ (qj qzU) (by kernel_rfl) (by kernel_rfl)
def qKP:=JA_ @qfy.eq_1 (JA_ @Tryz.f73.eq_1 @qzU)
theorem qCt:lbO 73 2=qoW:=Qt (qj qzU) rfl
theorem qCB:okL 73 qoW:=zI qL3 (qQy (i:=0) (by kernel_rfl))
def Qk (s:List Int) (v:Int) (t7:Int):Int→Option (Int⊕(Int⊕Unit))|t8=>if t8<t7 then if 0≤t8∧t8<((s.length:Nat):Int) then Option.bind s[Int.toNat t8]? fun(a:Int)=>if(v==a)=Bool.true then some (Sum.inr (Sum.inl t8)) else some (Sum.inl (w64 (t8+1))) else none else some (Sum.inr (Sum.inr ()))
theorem q2T:∀(s:List Int) (v t7 t8:Int),XL2 evo 73 0 2 ⟨[(0,rL 1 eI s),(1,rI v),(7,rI t7),(8,rI t8)],[],0,19⟩=(zn (Qk s v t7) t8).bind (Sum.elim (fun(e:Int)=>some (Exit.ret,⟨[(4,rI e)],[],0,19⟩)) (fun(e:Unit)=>some (Exit.exit 0,⟨[(4,R.any)],[],0,19⟩))):=
 fun s v t7 t8=>by
  revert t8;exact qcm qCt qCB (fun e=>by rcases e with _|_<;>exact⟨_,rfl,fun h=>by cases h⟩) fun x=>by
   have:=qKP;have:=@qoW.eq_1;have:=@Qk.eq_1;exact gA
def Jk (s:List Int) (v:Int):Option Int:=Option.bind (zn (Qk s v ((s.length:Nat):Int)) 0) fun(a:Sum Int Unit)=>Sum.elim (fun(a2:Int)=>some a2) (fun(a3:Unit)=>some (-1)) a
theorem q3W:∀(s:List Int) (v:Int),ev 73 0 [rL 1 eI s,rI v] []=(Jk s v).bind (fun(e:Int)=>some (rI e,[])):=
 fun s v=>by
  rw[qF qzU qLn.2.2.2 qL3]
  have:=qKP;have:=@q2T;have:=@Jk.eq_1;exact gA
def Ql (s:List Int) (v:Int):Option Bool:=Option.bind (Jk s v) fun(a:Int)=>some (decide (0≤a))
theorem q0t:∀(s:List Int) (v:Int),ev 45 0 [rL 1 eI s,rI v] []=(Ql s v).bind (fun(e:Bool)=>some (rB e,[])):=
 fun s v=>by
  rw[qF qFf qLF.2.2.2 qPq]
  have:=qP7;have:=@q3W;have:=@Ql.eq_1;exact gA
def JM (n:Int) (m1:List (Int×Int)) (v:List qa) (v2:Int):Option Bool:=if 1<q4J 0 m1 n then if 0≤v2∧v2<((v.length:Nat):Int) then Option.bind v[Int.toNat v2]? fun(a:qa)=>Option.bind (Ql a.Sources n) fun(a2:Bool)=>some (!a2) else none else some Bool.false
theorem q6S:∀(n:Int) (m1:List (Int×Int)) (v:List qa) (v2:Int),ev 44 4 [rI n,rP 0,rP 2,rP 3] [(0,B.blk 90 [C.hd .map 1]),(1,B.ob (mpB (q5D .i64) q05 m1)),(2,B.blk 30 [dL 8 qc v]),(3,B.blk 3 [dI v2])]=(JM n m1 v v2).bind (fun(e:Bool)=>some (rB e,[(0,B.blk 90 [C.hd .map 1]),(1,B.ob (mpB (q5D .i64) q05 m1)),(2,B.blk 30 [dL 8 qc v]),(3,B.blk 3 [dI v2])])):=
 fun n m1 v v2=>by
  rw[qF qEC qKV.2.2.2 qLZ]
  have:=qPs;have:=@q0t;have:=@JM.eq_1;exact gA
def zV (m1:List (Int×Int)) (b2:List qa) (b3:Int) (s:List Int) (t7:Int):Int→Option (Int⊕(Int⊕Unit))|t8=>if t8<t7 then if 0≤t8∧t8<((s.length:Nat):Int) then Option.bind s[Int.toNat t8]? fun(a:Int)=>Option.bind (JM a m1 b2 b3) fun(a2:Bool)=>if a2=Bool.true then some (Sum.inr (Sum.inl t8)) else some (Sum.inl (w64 (t8+1))) else none else some (Sum.inr (Sum.inr ()))
theorem q1R:∀(m1:List (Int×Int)) (b2:List qa) (b3:Int) (s:List Int) (t7 t8:Int),XL2 evo 74 4 2 ⟨[(0,rL 1 eI s),(1,R.c (C.fn 44 [] [dP 0,dP 2,dP 3])),(7,rI t7),(8,rI t8)],[(0,B.blk 90 [C.hd .map 1]),(1,B.ob (mpB (q5D .i64) q05 m1)),(2,B.blk 30 [dL 8 qc b2]),(3,B.blk 3 [dI b3])],4,19⟩=(zn (zV m1 b2 b3 s t7) t8).bind (Sum.elim (fun(e:Int)=>some (Exit.ret,⟨[(4,rI e)],[(0,B.blk 90 [C.hd .map 1]),(1,B.ob (mpB (q5D .i64) q05 m1)),(2,B.blk 30 [dL 8 qc b2]),(3,B.blk 3 [dI b3])],4,19⟩)) (fun(e:Unit)=>some (Exit.exit 0,⟨[(4,R.any)],[(0,B.blk 90 [C.hd .map 1]),(1,B.ob (mpB (q5D .i64) q05 m1)),(2,B.blk 30 [dL 8 qc b2]),(3,B.blk 3 [dI b3])],4,19⟩))):=
 fun m1 b2 b3 s t7 t8=>by
  revert t8;exact qcm qpO qo9 (fun e=>by rcases e with _|_<;>exact⟨_,rfl,fun h=>by cases h⟩) fun x=>by
   have:=qxY;have:=@qgl.eq_1;have:=@q6S;have:=@zV.eq_1;exact gA
def Zp (s:List Int) (m1:List (Int×Int)) (b2:List qa) (b3:Int):Option Int:=Option.bind (zn (zV m1 b2 b3 s ((s.length:Nat):Int)) 0) fun(a:Sum Int Unit)=>Sum.elim (fun(a2:Int)=>some a2) (fun(a3:Unit)=>some (-1)) a
theorem q2E:∀(s:List Int) (m1:List (Int×Int)) (b2:List qa) (b3:Int),ev 74 4 [rL 1 eI s,R.c (C.fn 44 [] [dP 0,dP 2,dP 3])] [(0,B.blk 90 [C.hd .map 1]),(1,B.ob (mpB (q5D .i64) q05 m1)),(2,B.blk 30 [dL 8 qc b2]),(3,B.blk 3 [dI b3])]=(Zp s m1 b2 b3).bind (fun(e:Int)=>some (rI e,[(0,B.blk 90 [C.hd .map 1]),(1,B.ob (mpB (q5D .i64) q05 m1)),(2,B.blk 30 [dL 8 qc b2]),(3,B.blk 3 [dI b3])])):=
 fun s m1 b2 b3=>by
  rw[qF qvD qFp.2.2.2 qEB]
  have:=qxY;have:=@q1R;have:=@Zp.eq_1;exact gA
def Qj (s:List Int) (m1:List (Int×Int)) (b2:List qa) (b3:Int):Option Bool:=Option.bind (Zp s m1 b2 b3) fun(a:Int)=>some (decide (0≤a))
theorem q1Q:∀(s:List Int) (m1:List (Int×Int)) (b2:List qa) (b3:Int),ev 46 4 [rL 1 eI s,R.c (C.fn 44 [] [dP 0,dP 2,dP 3])] [(0,B.blk 90 [C.hd .map 1]),(1,B.ob (mpB (q5D .i64) q05 m1)),(2,B.blk 30 [dL 8 qc b2]),(3,B.blk 3 [dI b3])]=(Qj s m1 b2 b3).bind (fun(e:Bool)=>some (rB e,[(0,B.blk 90 [C.hd .map 1]),(1,B.ob (mpB (q5D .i64) q05 m1)),(2,B.blk 30 [dL 8 qc b2]),(3,B.blk 3 [dI b3])])):=
 fun s m1 b2 b3=>by
  rw[qF qy9 qFc.2.2.2 qIp]
  have:=qIQ;have:=@q2E;have:=@Qj.eq_1;exact gA
def ZJ (l:List qa) (s:qd) (at0:Int) (m4:List (Int×Int)) (t13:List qa) (t14:Int):Int→Option (Int⊕(Unit⊕Unit))|t15=>if t15<t14 then if 0≤t15∧t15<((t13.length:Nat):Int) then Option.bind t13[Int.toNat t15]? fun(a:qa)=>if(t15==at0)=Bool.true then some (Sum.inl (w64 (t15+1))) else if 0≤at0∧at0<((l.length:Nat):Int) then Option.bind l[Int.toNat at0]? fun(a2:qa)=>Option.bind (q18 s a a2) fun(a3:Bool)=>if(!a3)=Bool.true then some (Sum.inl (w64 (t15+1))) else Option.bind (Qj a.Sources m4 l at0) fun(a4:Bool)=>if(!a4)=Bool.true then some (Sum.inr (Sum.inl ())) else some (Sum.inl (w64 (t15+1))) else none else none else some (Sum.inr (Sum.inr ()))
theorem q65:∀(l:List qa) (qz qT qU at0:Int) (m4:List (Int×Int)) (t13:List qa) (t14 t15:Int),XL2 evo 19 0 3 ⟨[(3,rP 0),(4,rP 1),(5,rP 2),(7,rP 3),(13,rL 8 qc t13),(14,rI t14),(15,rI t15)],[(0,B.blk 30 [dL 8 qc l]),(1,B.blk 44 [dI qz,dI qT,dI qU]),(2,B.blk 3 [dI at0]),(3,B.blk 90 [C.hd .map 4]),(4,B.ob (mpB (q5D .i64) q05 m4))],5,40⟩=(zn (ZJ l (qd.mk qz qT qU) at0 m4 t13 t14) t15).bind (Sum.elim (fun(e:Unit)=>some (Exit.ret,⟨[(6,rB Bool.true)],[],0,40⟩)) (fun(e:Unit)=>some (Exit.exit 0,⟨[(6,R.any)],[],0,40⟩))):=
 fun l qz qT qU at0 m4 t13 t14 t15=>by
  revert t15;exact qcm qz5 qEt (fun e=>by rcases e with _|_<;>exact⟨_,rfl,fun h=>by cases h⟩) fun x=>by
   have:=qK0;have:=@qp6.eq_1;have:=@q9M;have:=@q1Q;have:=@ZJ.eq_1;exact gA
def JK (l:List qa) (s:qd) (at0:Int):Option Bool:=Option.bind (q3i l) fun(a:List (Prod Int Int))=>Option.bind (zn (ZJ l s at0 a l ((l.length:Nat):Int)) 0) fun(a2:Sum Unit Unit)=>Sum.elim (fun(a3:Unit)=>some Bool.true) (fun(a4:Unit)=>some Bool.false) a2
theorem q8F:∀(l:List qa) (qz qT qU at0:Int),ev 19 0 [rL 8 qc l,R.agg [dI qz,dI qT,dI qU],rI at0] []=(JK l (qd.mk qz qT qU) at0).bind (fun(e:Bool)=>some (rB e,[])):=
 fun l qz qT qU at0=>by
  rw[qF qDL qKC.2.2.2 qKp]
  have:=qK0;have:=@qcu;have:=@q65;have:=@JK.eq_1;exact gA
def qY (i:Int) (j:Int) (s:List qa):Option (List qa):=if 0≤i∧j=i+1∧i<((s.length:Nat):Int) then some (@List.eraseIdx qa s (Int.toNat i)) else none
theorem Jl:∀(i j:Int) (s:List qa) (qhZ:Nat),qhZ=s.length→ev 20 0 [rO 0 8 qhZ,rI i,rI j] [(0,bR 54 8 qc s)]=(qY i j s).bind (fun(e:List qa)=>some (rO 0 8 e.length,[(0,bR 54 8 qc e)])):=
 by
 intro i j s qhZ h0
 subst h0
 rw[ql5,qKn.2.2.2]
 have:=@qY.eq_1;exact gA
def q0W (s:qd):(List qa×Int)→Option ((List qa×Int)⊕(List qa))|(left,k)=>if 0≤k then Option.bind (JK left s k) fun(a:Bool)=>if a=Bool.true then Option.bind (qY k (w64 (k+1)) left) fun(a2:List qa)=>some (Sum.inl (a2,w64 (((a2.length:Nat):Int)-1))) else some (Sum.inl (left,w64 (k-1))) else some (Sum.inr left)
theorem q6U:∀(left:List qa) (qz qT qU k:Int) (q2P:Nat),q2P=left.length→XL2 evo 6 0 9 ⟨[(6,rP 0),(10,rO 1 8 q2P),(13,rI k)],[(0,B.blk 44 [dI qz,dI qT,dI qU]),(1,bR 54 8 qc left)],2,53⟩=(zn (q0W (qd.mk qz qT qU)) (left,k)).bind (fun(e:List qa)=>some (Exit.exit 2,⟨[(10,rO 0 8 e.length)],[(0,bR 54 8 qc e)],1,53⟩)):=
 by
 intro left qz qT qU k q2P h0
 subst h0
 revert k;revert left;exact qab qJq qHx (fun e=>by exact⟨_,rfl,fun h=>by cases h⟩) fun left k=>by
  have:=cx6;have:=@qvI.eq_1;have:=@q8F;have:=@Jl;have:=@q0W.eq_1;exact gA
def q0j (l:List qa) (p:qg) (s:qd) (day:Int):Option (List qa×Int):=Option.bind (zn (Z5 p s day l ((l.length:Nat):Int)) ([],0)) fun(a:List qa)=>Option.bind (zn (q0W s) (a,w64 (((a.length:Nat):Int)-1))) fun(a2:List qa)=>if 10<((a2.length:Nat):Int) then some ([],2) else some (a2,0)
theorem q9p:∀(l:List qa) (Q3 q73 zC J2:Int) (J3:ByteArray) (qS Q4 zl:Int) (zm:List qe) (Q5:List qb) (QK q13 q14:Int) (zD:List (q0u qe)) (qz qT qU day:Int),ev 6 0 [rL 8 qc l,R.agg [dI Q3,dI q73,dI zC,dI J2,dS J3,dI qS,dI Q4,dI zl,dL 2 qf zm,dL 5 qh Q5,dI QK,dI q13,dI q14,dL 4 (eA2 qf) zD],R.agg [dI qz,dI qT,dI qU],rI day] []=(q0j l (qg.mk Q3 q73 zC J2 J3 (qb.mk qS Q4 zl zm Q5) QK q13 q14 zD) (qd.mk qz qT qU) day).bind (fun(e:List qa×Int)=>some (R.tup [rL 8 qc e.1,rI e.2],[])):=
 fun l Q3 q73 zC J2 J3 qS Q4 zl zm Q5 QK q13 q14 zD qz qT qU day=>by
  rw[qF bd6 pw6.2.2.2 lo6]
  have:=cx6;have:=@q4U;have:=@q6U;have:=@q0j.eq_1;exact gA
theorem lo5:okL 5 qp8:=qJ (qj bd5) (by kernel_rfl) (by kernel_rfl)
def cx5:=JA_ @qp8.eq_1 (JA_ @Tryz.f5.eq_1 @bd5)
theorem qIK:lbO 5 3=quS:=Qt (qj bd5) rfl
theorem qHq:okL 5 quS:=zI lo5 (qQy (i:=0) (by kernel_rfl))
theorem qJS:okL 13 qfZ:=qJ (qj qyu) (by kernel_rfl) (by kernel_rfl)
def qJQ:=JA_ @qfZ.eq_1 (JA_ @Tryz.f13.eq_1 @qyu)
theorem qAr:lbO 13 3=qo6:=Qt (qj qyu) rfl
theorem qEi:okL 13 qo6:=zI qJS (qQy (i:=0) (by kernel_rfl))
theorem qOV:okL 33 qik:=qJ (qj qFB) (by kernel_rfl) (by kernel_rfl)
def qNF:=JA_ @qik.eq_1 (JA_ @Tryz.f33.eq_1 @qFB)
def q2V:Option (List ByteArray):=
 some [ByteArray.mk (List.toArray [65,49]),ByteArray.mk (List.toArray [66,49]),ByteArray.mk (List.toArray [66,50]),ByteArray.mk (List.toArray [67,49]),ByteArray.mk (List.toArray [68,49]),ByteArray.mk (List.toArray [69,57])]
def zi:List ByteArray:=
 [ByteArray.mk (List.toArray [65,49]),ByteArray.mk (List.toArray [66,49]),ByteArray.mk (List.toArray [66,50]),ByteArray.mk (List.toArray [67,49]),ByteArray.mk (List.toArray [68,49]),ByteArray.mk (List.toArray [69,57])]
theorem q9y:q2V=some (zi):=by
 unfold q2V zi
 simp only[Zb]
theorem q5a:ev 33 0 [] []=some (R.c (C.d (D.sl 1 (zi).length ((zi).flatMap eS))),[]):=
 by
  have h:ev 33 0 [] []=(q2V).bind (fun(e:List ByteArray)=>some (rL 1 eS e,[])):=by
   rw[qF qFB qJV.2.2.2 qOV]
   have:=qNF;have:=@q2V.eq_1;exact gA
  rw[q9y] at h
  exact h
theorem qPU:okL 34 qjq:=qJ (qj qEE) (by kernel_rfl) (by kernel_rfl)
def qLW:=JA_ @qjq.eq_1 (JA_ @Tryz.f34.eq_1 @qEE)
theorem qN6:okL 14 qio:=qJ (qj qEF) (by kernel_rfl) (by kernel_rfl)
def qNI:=JA_ @qio.eq_1 (JA_ @Tryz.f14.eq_1 @qEF)
def ZT (n:Int) (m:Int):Option Int:=if m=0 then none else if m=0 then none else some (Int.tmod (w64 (Int.tmod n m+m)) m)
theorem q3Y:∀(n m:Int),ev 14 0 [rI n,rI m] []=(ZT n m).bind (fun(e:Int)=>some (rI e,[])):=
 fun n m=>by
  rw[qF qEF qL9.2.2.2 qN6]
  have:=qNI;have:=@ZT.eq_1;exact gA
def zj (n:Int) (d:qi):Option (Int×qi):=if((d.L.length:Nat):Int)≤d.At then some (0,d) else if 0≤w64 (w64 (d.At+1)-1)∧w64 (w64 (d.At+1)-1)<((d.L.length:Nat):Int) then Option.bind d.L[Int.toNat (w64 (w64 (d.At+1)-1))]? fun(a:Int)=>Option.bind (ZT a n) fun(a2:Int)=>some (a2,qi.mk d.L (w64 (d.At+1))) else none
theorem q6N:∀(n:Int) (d_L:List Int) (q7J:Int),ev 34 1 [rP 0,rI n] [(0,B.blk 93 [dL 1 eI d_L,dI q7J])]=(zj n (qi.mk d_L q7J)).bind (fun(e:Int×qi)=>some (rI e.1,[(0,B.blk 93 [dL 1 eI e.2.L,dI e.2.At])])):=
 fun n d_L q7J=>by
  rw[qF qEE qLx.2.2.2 qPU]
  have:=qLW;have:=@q3Y;have:=@zj.eq_1;exact gA
def ZE (t0:List (List Int)):(List qa×Int)→Option ((List qa×Int)⊕(List qa))|(w0,t4)=>if t4<((t0.length:Nat):Int) then if t4<8 then if 0≤t4∧t4<((t0.length:Nat):Int) then Option.bind t0[Int.toNat t4]? fun(a:List Int)=>Option.bind (zj 6 (qi.mk a 0)) fun(a2:Prod Int qi)=>if 0≤a2.1∧a2.1<((zi.length:Nat):Int) then Option.bind zi[Int.toNat a2.1]? fun(a3:ByteArray)=>Option.bind (zj 3 a2.2) fun(a4:Prod Int qi)=>if 0≤a4.1∧a4.1<3 then Option.bind [(5:Int),6,10][Int.toNat a4.1]? fun(a5:Int)=>Option.bind (zj 11 a4.2) fun(a6:Prod Int qi)=>Option.bind (zj 60 a6.2) fun(a7:Prod Int qi)=>Option.bind (zj 9 a7.2) fun(a8:Prod Int qi)=>Option.bind (zj 3 a8.2) fun(a9:Prod Int qi)=>if(a9.1==0)=Bool.true then Option.bind (zj 3 a9.2) fun(a10:Prod Int qi)=>Option.bind (zj 4 a10.2) fun(a11:Prod Int qi)=>Option.bind (zj 3 a11.2) fun(a12:Prod Int qi)=>if(a12.1==0)=Bool.true then Option.bind (zj 3 a12.2) fun(a13:Prod Int qi)=>Option.bind (zj 3 a13.2) fun(a14:Prod Int qi)=>if w0.length+1≤maxLen∧(w0.length+1)*104≤140737488355328 then some (Sum.inl (w0++[qa.mk (qe.mk (w64 (1+a10.1)) a3) a5 (w64 (50+w64 (5*a6.1))) (w64 (10*a7.1)) [w64 (2000001+a11.1),w64 (w64 (w64 (2000001+a11.1)+1)+a13.1)] (w64 (1+a14.1)) [w64 (1+a14.1)]],w64 (t4+1))) else none else Option.bind (zj 3 a12.2) fun(a15:Prod Int qi)=>if w0.length+1≤maxLen∧(w0.length+1)*104≤140737488355328 then some (Sum.inl (w0++[qa.mk (qe.mk (w64 (1+a10.1)) a3) a5 (w64 (50+w64 (5*a6.1))) (w64 (10*a7.1)) [w64 (2000001+a11.1)] (w64 (1+a15.1)) [w64 (1+a15.1)]],w64 (t4+1))) else none else if w0.length+1≤maxLen∧(w0.length+1)*104≤140737488355328 then some (Sum.inl (w0++[qa.mk (qe.mk 1 a3) a5 (w64 (50+w64 (5*a6.1))) (w64 (10*a7.1)) [w64 (1000001+a8.1)] 0 []],w64 (t4+1))) else none else none else none else none else some (Sum.inr w0) else some (Sum.inr w0)
theorem q87:∀(w0:List qa) (t0:List (List Int)) (t4:Int) (qpW:Nat),qpW=w0.length→XL2 evo 13 0 3 ⟨[(0,rL 1 (eL 1 eI) t0),(3,rO 0 8 qpW),(4,rI t4)],[(0,bR 54 8 qc w0)],1,89⟩=(zn (ZE t0) (w0,t4)).bind (fun(e:List qa)=>some (Exit.exit 0,⟨[(3,rO 0 8 e.length)],[(0,bR 54 8 qc e)],1,89⟩)):=
 by
 intro w0 t0 t4 qpW h0
 subst h0
 revert t4;revert w0;exact qab qAr qEi (fun e=>by exact⟨_,rfl,fun h=>by cases h⟩) fun w0 t4=>by
  have:=qJQ;have:=@qo6.eq_1;have:=@q5a;have:=@q6N;have:=@ZE.eq_1;exact gA
theorem q6k:∀  (t0:List (List Int)) (t4:Int),XL2 evo 13 0 3 ⟨[(0,rL 1 (eL 1 eI) t0),(3,rO 0 8 0),(4,rI t4)],[(0,B.row 54 8 [])],1,89⟩=(zn (ZE t0) (([]:List qa),t4)).bind (fun(e:List qa)=>some (Exit.exit 0,⟨[(3,rO 0 8 e.length)],[(0,bR 54 8 qc e)],1,89⟩)):=by
 intro t0 t4;have h:=q87 ([]:List qa) t0 t4 _ rfl
 first
  | exact h
  | (simp only[rL,dL,bR,bZ,Nat.reduceAdd] at h;exact h)
def q2z (x0:List (List Int)):Option (List qa):=Option.bind (zn (ZE x0) ([],0)) fun(a:List qa)=>some a
theorem qbJ:∀(x0:List (List Int)),ev 13 0 [rL 1 (eL 1 eI) x0] []=(q2z x0).bind (fun(e:List qa)=>some (rO 0 8 e.length,[(0,bR 54 8 qc e)])):=
 fun x0=>by
  rw[qF qyu qKY.2.2.2 qJS]
  have:=qJQ;have:=@q6k;have:=@q2z.eq_1;exact gA
theorem qOz:okL 16 qiZ:=qJ (qj qEJ) (by kernel_rfl) (by kernel_rfl)
def qM1:=JA_ @qiZ.eq_1 (JA_ @Tryz.f16.eq_1 @qEJ)
theorem qO1:okL 36 qjA:=qJ (qj qFy) (by kernel_rfl) (by kernel_rfl)
def qO7:=JA_ @qjA.eq_1 (JA_ @Tryz.f36.eq_1 @qFy)
def qq (most:Int) (d:qi):Option (Int×qi):=if((d.L.length:Nat):Int)≤d.At then some (0,d) else if 0≤d.At∧d.At<((d.L.length:Nat):Int) then Option.bind d.L[Int.toNat d.At]? fun(a:Int)=>if most=0 then none else if most=0 then none else some (Int.tmod (w64 (Int.tmod a most+most)) most,qi.mk d.L (w64 (d.At+1))) else none
theorem JE:∀(most:Int) (d_L:List Int) (q7J:Int),ev 36 1 [rP 0,rI most] [(0,B.blk 98 [dL 1 eI d_L,dI q7J])]=(qq most (qi.mk d_L q7J)).bind (fun(e:Int×qi)=>some (rI e.1,[(0,B.blk 98 [dL 1 eI e.2.L,dI e.2.At])])):=
 fun most d_L q7J=>by
  rw[qF qFy qJZ.2.2.2 qO1]
  have:=qO7;have:=@qq.eq_1;exact gA
theorem qM9:okL 37 qj8:=qJ (qj qFr) (by kernel_rfl) (by kernel_rfl)
def qMV:=JA_ @qj8.eq_1 (JA_ @Tryz.f37.eq_1 @qFr)
def Jy (d:qi):Option (qe×qi):=Option.bind (qq 6 d) fun(a:Prod Int qi)=>if 0≤a.1∧a.1<6 then Option.bind [(1:Int),1,1,2,2,3][Int.toNat a.1]? fun(a2:Int)=>Option.bind (qq ((zi.length:Nat):Int) a.2) fun(a3:Prod Int qi)=>if 0≤a3.1∧a3.1<((zi.length:Nat):Int) then Option.bind zi[Int.toNat a3.1]? fun(a4:ByteArray)=>some (qe.mk a2 a4,a3.2) else none else none
theorem q4h:∀(d_L:List Int) (q7J:Int),ev 37 1 [rP 0] [(0,B.blk 98 [dL 1 eI d_L,dI q7J])]=(Jy (qi.mk d_L q7J)).bind (fun(e:qe×qi)=>some (R.agg [dI e.1.School,dS e.1.Code],[(0,B.blk 98 [dL 1 eI e.2.L,dI e.2.At])])):=
 fun d_L q7J=>by
  rw[qF qFr qLL.2.2.2 qM9]
  have:=qMV;have:=@JE;have:=@q5a;have:=@Jy.eq_1;exact gA
theorem qK6:okL 39 qfm:=qJ (qj qzl) (by kernel_rfl) (by kernel_rfl)
def qJU:=JA_ @qfm.eq_1 (JA_ @Tryz.f39.eq_1 @qzl)
theorem qyU:lbO 39 9=qnk:=Qt (qj qzl) rfl
theorem qzE:okL 39 qnk:=zI qK6 (qQy (i:=0) (by kernel_rfl))
theorem qJg:okL 68 qdb:=qJ (qj qy5) (by kernel_rfl) (by kernel_rfl)
def qGj:=JA_ @qdb.eq_1 (JA_ @Tryz.f68.eq_1 @qy5)
theorem qCC:lbO 68 4=qmb:=Qt (qj qy5) rfl
theorem qBj:okL 68 qmb:=zI qJg (qQy (i:=0) (by kernel_rfl))
theorem qzg:lbO 68 8=qpg:=Qt (qj qy5) rfl
theorem qyQ:okL 68 qpg:=zI qJg (qQy (i:=1) (by kernel_rfl))
theorem qMq:okL 38 qjF:=qJ (qj qEG) (by kernel_rfl) (by kernel_rfl)
def qPv:=JA_ @qjF.eq_1 (JA_ @Tryz.f38.eq_1 @qEG)
def q1j (a:qe) (b:qe):Option Bool:=if a.School<b.School then some Bool.true else if(a.School==b.School)=Bool.true then some (Op.bytesLess (ByteArray.toList a.Code) (ByteArray.toList b.Code)) else some Bool.false
def Qq (a:qe) (b:qe):Bool:=if a.School<b.School then Bool.true else if(a.School==b.School)=Bool.true then Op.bytesLess (ByteArray.toList a.Code) (ByteArray.toList b.Code) else Bool.false
theorem q6X (a b:qe):q1j a b=some (Qq a b):=by
 unfold q1j Qq
 simp only[Zb]
theorem q3a:∀(Js:Int) (q2A:ByteArray) (q2X:Int) (q8J:ByteArray),ev 38 0 [R.agg [dI Js,dS q2A],R.agg [dI q2X,dS q8J]] []=some (rB (Qq (qe.mk Js q2A) (qe.mk q2X q8J)),[]):=
 fun Js q2A q2X q8J=>by
  have h:ev 38 0 [R.agg [dI Js,dS q2A],R.agg [dI q2X,dS q8J]] []=(q1j (qe.mk Js q2A) (qe.mk q2X q8J)).bind (fun(e:Bool)=>some (rB e,[])):=by
   rw[qF qEG qKi.2.2.2 qMq]
   have:=qPv;have:=@q1j.eq_1;exact gA
  rw[q6X] at h
  exact h
def Jv (out:List qe) (d:qi) (c:qe) (many:Int) (k:Int):Int→Option (Int⊕Int)|at0=>if at0<((out.length:Nat):Int) then if 0≤at0∧at0<((out.length:Nat):Int) then Option.bind out[Int.toNat at0]? fun(a:qe)=>if Qq a c=Bool.true then some (Sum.inl (w64 (at0+1))) else some (Sum.inr at0) else none else some (Sum.inr at0)
theorem q9A:∀(out:List qe) (d_L:List Int) (q7J q1l:Int) (q5i:ByteArray) (many k at0:Int) (q1r:Nat),q1r=out.length→XL2 evo 68 1 8 ⟨[(0,rP 0),(3,rI many),(4,rO 1 2 q1r),(5,rI k),(6,rP 2),(7,rI at0)],[(0,B.blk 98 [dL 1 eI d_L,dI q7J]),(1,bR 52 2 qf out),(2,B.blk 52 [dI q1l,dS q5i])],3,61⟩=(zn (Jv out (qi.mk d_L q7J) (qe.mk q1l q5i) many k) at0).bind (fun(e:Int)=>some (Exit.exit 2,⟨[(0,rP 0),(3,rI many),(4,rO 1 2 out.length),(5,rI k),(6,rP 2),(7,rI e)],[(0,B.blk 98 [dL 1 eI d_L,dI q7J]),(1,bR 52 2 qf out),(2,B.blk 52 [dI q1l,dS q5i])],3,61⟩)):=
 by
 intro out d_L q7J q1l q5i many k at0 q1r h0
 subst h0
 revert at0;exact qcm qzg qyQ (fun e=>by exact⟨_,rfl,fun h=>by cases h⟩) fun x=>by
  have:=qGj;have:=@qpg.eq_1;have:=@q3a;have:=@Jv.eq_1;exact gA
def ZA (many:Int):(List qe×qi×Int)→Option ((List qe×qi×Int)⊕(List qe×qi))|(out,d,k)=>if k<many then Option.bind (Jy d) fun(a:Prod qe qi)=>Option.bind (zn (Jv out a.2 a.1 many k) 0) fun(a2:Int)=>if a2<((out.length:Nat):Int) then if 0≤a2∧a2<((out.length:Nat):Int) then Option.bind out[Int.toNat a2]? fun(a3:qe)=>if(a3.School==a.1.School)=Bool.true∧(ByteArray.toList a3.Code==ByteArray.toList a.1.Code)=Bool.true then some (Sum.inl (out,a.2,w64 (k+1))) else if out.length+1≤maxLen∧(out.length+1)*24≤140737488355328 then if 0≤w64 (a2+1)∧w64 (a2+1)≤((out.length+1:Nat):Int) then if w64 (a2+1)=0∨w64 (a2+1)<((out.length+1:Nat):Int) then if 0≤a2∧a2≤((out.length+1:Nat):Int) then if a2=0∨a2<((out.length+1:Nat):Int) then if(List.take (out.length+1-Int.toNat a2) (List.drop (Int.toNat a2) (out++[qe.mk 0 (ByteArray.mk (List.toArray []))]))).length*2=(out.length+1-Int.toNat a2)*2∧Int.toNat (w64 (a2+1))*2+(out.length+1-Int.toNat (w64 (a2+1)))*2≤(out.length+1)*2 then if 0≤a2∧a2<((out.length+1:Nat):Int) then if Int.toNat a2*2+2≤(out.length+1)*2 then some (Sum.inl (List.set (spl (out++[qe.mk 0 (ByteArray.mk (List.toArray []))]) (Int.toNat (w64 (a2+1))) (List.take (min (out.length+1-Int.toNat a2) (out.length+1-Int.toNat (w64 (a2+1)))) (List.take (out.length+1-Int.toNat a2) (List.drop (Int.toNat a2) (out++[qe.mk 0 (ByteArray.mk (List.toArray []))]))))) (Int.toNat a2) a.1,a.2,w64 (k+1))) else none else none else none else if Int.toNat (w64 (a2+1))*2+(out.length+1-Int.toNat (w64 (a2+1)))*2≤(out.length+1)*2 then if 0≤a2∧a2<((out.length+1:Nat):Int) then if Int.toNat a2*2+2≤(out.length+1)*2 then some (Sum.inl (List.set (out++[qe.mk 0 (ByteArray.mk (List.toArray []))]) (Int.toNat a2) a.1,a.2,w64 (k+1))) else none else none else none else none else if 0≤a2∧a2≤((out.length+1:Nat):Int) then if a2=0∨a2<((out.length+1:Nat):Int) then if(List.take (out.length+1-Int.toNat a2) (List.drop (Int.toNat a2) (out++[qe.mk 0 (ByteArray.mk (List.toArray []))]))).length*2=(out.length+1-Int.toNat a2)*2 then if 0≤a2∧a2<((out.length+1:Nat):Int) then if Int.toNat a2*2+2≤(out.length+1)*2 then some (Sum.inl (List.set (out++[qe.mk 0 (ByteArray.mk (List.toArray []))]) (Int.toNat a2) a.1,a.2,w64 (k+1))) else none else none else none else if 0≤a2∧a2<((out.length+1:Nat):Int) then if Int.toNat a2*2+2≤(out.length+1)*2 then some (Sum.inl (List.set (out++[qe.mk 0 (ByteArray.mk (List.toArray []))]) (Int.toNat a2) a.1,a.2,w64 (k+1))) else none else none else none else none else none else none else if out.length+1≤maxLen∧(out.length+1)*24≤140737488355328 then if 0≤w64 (a2+1)∧w64 (a2+1)≤((out.length+1:Nat):Int) then if w64 (a2+1)=0∨w64 (a2+1)<((out.length+1:Nat):Int) then if 0≤a2∧a2≤((out.length+1:Nat):Int) then if a2=0∨a2<((out.length+1:Nat):Int) then if(List.take (out.length+1-Int.toNat a2) (List.drop (Int.toNat a2) (out++[qe.mk 0 (ByteArray.mk (List.toArray []))]))).length*2=(out.length+1-Int.toNat a2)*2∧Int.toNat (w64 (a2+1))*2+(out.length+1-Int.toNat (w64 (a2+1)))*2≤(out.length+1)*2 then if 0≤a2∧a2<((out.length+1:Nat):Int) then if Int.toNat a2*2+2≤(out.length+1)*2 then some (Sum.inl (List.set (spl (out++[qe.mk 0 (ByteArray.mk (List.toArray []))]) (Int.toNat (w64 (a2+1))) (List.take (min (out.length+1-Int.toNat a2) (out.length+1-Int.toNat (w64 (a2+1)))) (List.take (out.length+1-Int.toNat a2) (List.drop (Int.toNat a2) (out++[qe.mk 0 (ByteArray.mk (List.toArray []))]))))) (Int.toNat a2) a.1,a.2,w64 (k+1))) else none else none else none else if Int.toNat (w64 (a2+1))*2+(out.length+1-Int.toNat (w64 (a2+1)))*2≤(out.length+1)*2 then if 0≤a2∧a2<((out.length+1:Nat):Int) then if Int.toNat a2*2+2≤(out.length+1)*2 then some (Sum.inl (List.set (out++[qe.mk 0 (ByteArray.mk (List.toArray []))]) (Int.toNat a2) a.1,a.2,w64 (k+1))) else none else none else none else none else if 0≤a2∧a2≤((out.length+1:Nat):Int) then if a2=0∨a2<((out.length+1:Nat):Int) then if(List.take (out.length+1-Int.toNat a2) (List.drop (Int.toNat a2) (out++[qe.mk 0 (ByteArray.mk (List.toArray []))]))).length*2=(out.length+1-Int.toNat a2)*2 then if 0≤a2∧a2<((out.length+1:Nat):Int) then if Int.toNat a2*2+2≤(out.length+1)*2 then some (Sum.inl (List.set (out++[qe.mk 0 (ByteArray.mk (List.toArray []))]) (Int.toNat a2) a.1,a.2,w64 (k+1))) else none else none else none else if 0≤a2∧a2<((out.length+1:Nat):Int) then if Int.toNat a2*2+2≤(out.length+1)*2 then some (Sum.inl (List.set (out++[qe.mk 0 (ByteArray.mk (List.toArray []))]) (Int.toNat a2) a.1,a.2,w64 (k+1))) else none else none else none else none else none else some (Sum.inr (out,d))
theorem q8Z:∀(out:List qe) (d_L:List Int) (q7J many k:Int) (q1r:Nat),q1r=out.length→XL2 evo 68 1 4 ⟨[(0,rP 0),(3,rI many),(4,rO 1 2 q1r),(5,rI k)],[(0,B.blk 98 [dL 1 eI d_L,dI q7J]),(1,bR 52 2 qf out)],2,61⟩=(zn (ZA many) (out,(qi.mk d_L q7J),k)).bind (fun(e:List qe×qi)=>some (Exit.exit 0,⟨[(4,rO 1 2 e.1.length)],[(0,B.blk 98 [dL 1 eI e.2.L,dI e.2.At]),(1,bR 52 2 qf e.1)],2,61⟩)):=
 by
 intro out d_L q7J many k q1r h0
 subst h0
 have h:=q9C (E:=evo) (f:=68) (k:=1) (st:=fun x:List qe×qi×Int=>(⟨[(0,rP 0),(3,rI many),(4,rO 1 2 x.1.length),(5,rI x.2.2)],[(0,B.blk 98 [dL 1 eI x.2.1.L,dI x.2.1.At]),(1,bR 52 2 qf x.1)],2,61⟩:S)) (ex:=fun(e:List qe×qi)=>(Exit.exit 0,⟨[(4,rO 1 2 e.1.length)],[(0,B.blk 98 [dL 1 eI e.2.L,dI e.2.At]),(1,bR 52 2 qf e.1)],2,61⟩)) (step:=(ZA many)) qCC qBj (fun e h=>by cases h) (fun x=>by
  obtain⟨out,d,k⟩:=x;have:=qGj;have:=@qmb.eq_1;have:=@q4h;have:=@q9A;have:=@ZA.eq_1;exact gA) (out,(qi.mk d_L q7J),k)
 exact h
theorem q6V:∀  (d_L:List Int) (q7J many k:Int),XL2 evo 68 1 4 ⟨[(0,rP 0),(3,rI many),(4,rO 1 2 0),(5,rI k)],[(0,B.blk 98 [dL 1 eI d_L,dI q7J]),(1,B.row 52 2 [])],2,61⟩=(zn (ZA many) (([]:List qe),(qi.mk d_L q7J),k)).bind (fun(e:List qe×qi)=>some (Exit.exit 0,⟨[(4,rO 1 2 e.1.length)],[(0,B.blk 98 [dL 1 eI e.2.L,dI e.2.At]),(1,bR 52 2 qf e.1)],2,61⟩)):=by
 intro d_L q7J many k;have h:=q8Z ([]:List qe) ((qi.mk d_L q7J)).L ((qi.mk d_L q7J)).At many k _ rfl
 first
  | exact h
  | (simp only[rL,dL,bR,bZ,Nat.reduceAdd] at h;exact h)
def ZV (d:qi):Option (List qe×qi):=Option.bind (qq 3 d) fun(a:Prod Int qi)=>Option.bind (zn (ZA (w64 (1+a.1))) ([],(a.2,0))) fun(a2:Prod (List qe) qi)=>some (a2.1,a2.2)
theorem qcF:∀(d_L:List Int) (q7J:Int),ev 68 1 [rP 0] [(0,B.blk 98 [dL 1 eI d_L,dI q7J])]=(ZV (qi.mk d_L q7J)).bind (fun(e:List qe×qi)=>some (rL 2 qf e.1,[(0,B.blk 98 [dL 1 eI e.2.L,dI e.2.At])])):=
 fun d_L q7J=>by
  rw[qF qy5 qKM.2.2.2 qJg]
  have:=qGj;have:=@JE;have:=@q6V;have:=@ZV.eq_1;exact gA
def QW (x:(Int×Int×qi)):List R×List (Nat×B):=([R.c (C.ptr 0 0),R.c (C.d (D.int .i64 x.1)),R.c (C.d (D.int .i64 x.2.1))],[(0,B.blk 98 [C.d (D.sl 1 x.2.2.L.length (x.2.2.L.flatMap eI)),C.d (D.int .i64 x.2.2.At)])])
def ZG:(qb×qi)→R×List (Nat×B):=fun(e:qb×qi)=>(R.agg [C.d (D.int .i64 e.1.Kind),C.d (D.int .i64 e.1.N),C.d (D.int .i64 e.1.Min),C.d (D.sl 2 e.1.Set.length (e.1.Set.flatMap qf)),C.d (D.sl 5 e.1.L.length (e.1.L.flatMap qh))],[(0,B.blk 98 [C.d (D.sl 1 e.2.L.length (e.2.L.flatMap eI)),C.d (D.int .i64 e.2.At)])])
def QR (rF:(Int×Int×qi)→Option (qb×qi)) (q1M:Int) (qkf:Int) (q3T:Int) (JO:Int) (qdl:Int) (q1w:Int) (t1:Int) (t2:Int) (t7:Int) (t8:Int):(List qb×qi×Int)→Option ((List qb×qi×Int)⊕(List qb×qi))|(w3,b0,t10)=>if t10<t8 then if t8=0 then none else Option.bind (rF (w64 (t1-1),(w64 (Int.tdiv t2 t8),b0))) fun(a2:Prod qb qi)=>if w3.length+1≤maxLen∧(w3.length+1)*72≤140737488355328 then some (Sum.inl (w3++[a2.1],a2.2,w64 (t10+1))) else none else some (Sum.inr (w3,b0))
theorem q8w (rE:Orc) (rF:(Int×Int×qi)→Option (qb×qi)) (hF:∀y,rE (.fn 39) 1 (QW y).1 (QW y).2=(rF y).bind fun e=>some (ZG e)) (hM:∀g k a G,g≠39→rE (.fn g) k a G=ev g k a G) (hR:∀g asg bd k a G,rE (.rd g asg bd) k a G=evr g asg bd k a G):∀(w3:List qb) (q8O:List Int) (qcI q1M qkf q3T JO qdl q1w t1 t2 t7 t8 t10:Int) (q3q:Nat),q3q=w3.length→XL2 rE 39 1 9 ⟨[(0,rP 0),(1,rI t1),(2,rI t2),(6,rP 1),(7,rI t7),(8,rI t8),(9,rP 2),(10,rI t10)],[(0,B.blk 98 [dL 1 eI q8O,dI qcI]),(1,B.blk 34 [dI q1M,dI qkf,dI q3T,C.nils,C.nils]),(2,B.blk 34 [dI JO,dI qdl,dI q1w,C.nils,dO 3 5 q3q]),(3,bR 34 5 qh w3)],4,77⟩=(zn (QR rF q1M qkf q3T JO qdl q1w t1 t2 t7 t8) (w3,(qi.mk q8O qcI),t10)).bind (fun(e:List qb×qi)=>some (Exit.exit 0,⟨[(0,rP 0),(6,rP 1),(7,rI t7),(8,rI t8),(9,rP 2)],[(0,B.blk 98 [dL 1 eI e.2.L,dI e.2.At]),(1,B.blk 34 [dI q1M,dI qkf,dI q3T,C.nils,C.nils]),(2,B.blk 34 [dI JO,dI qdl,dI q1w,C.nils,dO 3 5 e.1.length]),(3,bR 34 5 qh e.1)],4,77⟩)):=
 by
 intro w3 q8O qcI q1M qkf q3T JO qdl q1w t1 t2 t7 t8 t10 q3q h0
 subst h0
 have h:=q9C (E:=rE) (f:=39) (k:=1) (st:=fun x:List qb×qi×Int=>(⟨[(0,rP 0),(1,rI t1),(2,rI t2),(6,rP 1),(7,rI t7),(8,rI t8),(9,rP 2),(10,rI x.2.2)],[(0,B.blk 98 [dL 1 eI x.2.1.L,dI x.2.1.At]),(1,B.blk 34 [dI q1M,dI qkf,dI q3T,C.nils,C.nils]),(2,B.blk 34 [dI JO,dI qdl,dI q1w,C.nils,dO 3 5 x.1.length]),(3,bR 34 5 qh x.1)],4,77⟩:S)) (ex:=fun(e:List qb×qi)=>(Exit.exit 0,⟨[(0,rP 0),(6,rP 1),(7,rI t7),(8,rI t8),(9,rP 2)],[(0,B.blk 98 [dL 1 eI e.2.L,dI e.2.At]),(1,B.blk 34 [dI q1M,dI qkf,dI q3T,C.nils,C.nils]),(2,B.blk 34 [dI JO,dI qdl,dI q1w,C.nils,dO 3 5 e.1.length]),(3,bR 34 5 qh e.1)],4,77⟩)) (step:=(QR rF q1M qkf q3T JO qdl q1w t1 t2 t7 t8)) qyU qzE (fun e h=>by cases h) (fun x=>by
  obtain⟨w3,b0,t10⟩:=x;have hF':∀(x1 x2:Int) (v_L:List Int) (qkg:Int),rE (.fn 39) 1 [rP 0,rI x1,rI x2] [(0,B.blk 98 [dL 1 eI v_L,dI qkg])]=(rF (x1,x2,(qi.mk v_L qkg))).bind (fun e=>some (R.agg [dI e.1.Kind,dI e.1.N,dI e.1.Min,dL 2 qf e.1.Set,dL 5 qh e.1.L],[(0,B.blk 98 [dL 1 eI e.2.L,dI e.2.At])])):=fun x1 x2 v_L qkg=>hF (x1,x2,(qi.mk v_L qkg))
  have:=qJU;have:=@qnk.eq_1;have:=@QR.eq_1;exact gA) (w3,(qi.mk q8O qcI),t10)
 exact h
theorem q6e:∀(rE:Orc) (rF:(Int×Int×qi)→Option (qb×qi)) (hF:∀y,rE (.fn 39) 1 (QW y).1 (QW y).2=(rF y).bind fun e=>some (ZG e)) (hM:∀g k a G,g≠39→rE (.fn g) k a G=ev g k a G) (hR:∀g asg bd k a G,rE (.rd g asg bd) k a G=evr g asg bd k a G),∀  (q8O:List Int) (qcI q1M qkf q3T JO qdl q1w t1 t2 t7 t8 t10:Int),XL2 rE 39 1 9 ⟨[(0,rP 0),(1,rI t1),(2,rI t2),(6,rP 1),(7,rI t7),(8,rI t8),(9,rP 2),(10,rI t10)],[(0,B.blk 98 [dL 1 eI q8O,dI qcI]),(1,B.blk 34 [dI q1M,dI qkf,dI q3T,C.nils,C.nils]),(2,B.blk 34 [dI JO,dI qdl,dI q1w,C.nils,dO 3 5 0]),(3,B.row 34 5 [])],4,77⟩=(zn (QR rF q1M qkf q3T JO qdl q1w t1 t2 t7 t8) (([]:List qb),(qi.mk q8O qcI),t10)).bind (fun(e:List qb×qi)=>some (Exit.exit 0,⟨[(0,rP 0),(6,rP 1),(7,rI t7),(8,rI t8),(9,rP 2)],[(0,B.blk 98 [dL 1 eI e.2.L,dI e.2.At]),(1,B.blk 34 [dI q1M,dI qkf,dI q3T,C.nils,C.nils]),(2,B.blk 34 [dI JO,dI qdl,dI q1w,C.nils,dO 3 5 e.1.length]),(3,bR 34 5 qh e.1)],4,77⟩)):=by
 intro rE rF hF hM hR q8O qcI q1M qkf q3T JO qdl q1w t1 t2 t7 t8 t10;have h:=q8w rE rF hF hM hR ([]:List qb) ((qi.mk q8O qcI)).L ((qi.mk q8O qcI)).At q1M qkf q3T JO qdl q1w t1 t2 t7 t8 t10 _ rfl
 first
  | exact h
  | (simp only[rL,dL,bR,bZ,Nat.reduceAdd] at h;exact h)
def q0Q (rF:(Int×Int×qi)→Option (qb×qi)):(Int×Int×qi)→Option (qb×qi)|(x1,x2,v)=>Option.bind (qq 6 v) fun(a2:Prod Int qi)=>if x1≤0 then Option.bind (qq 3 a2.2) fun(a3:Prod Int qi)=>if(a3.1==0)=Bool.true then Option.bind (qq 12 a3.2) fun(a4:Prod Int qi)=>Option.bind (qq 3 a4.2) fun(a5:Prod Int qi)=>if 0≤a5.1∧a5.1<3 then Option.bind [(0:Int),50,60][Int.toNat a5.1]? fun(a6:Int)=>Option.bind (ZV a5.2) fun(a7:Prod (List qe) qi)=>some (qb.mk 2 (w64 (1+a4.1)) a6 a7.1 [],a7.2) else none else Option.bind (qq 4 a3.2) fun(a8:Prod Int qi)=>if 0≤a8.1∧a8.1<4 then Option.bind [(0:Int),50,60,80][Int.toNat a8.1]? fun(a9:Int)=>Option.bind (ZV a8.2) fun(a10:Prod (List qe) qi)=>some (qb.mk 1 0 a9 a10.1 [],a10.2) else none else if x2<2 then Option.bind (qq 3 a2.2) fun(a11:Prod Int qi)=>if(a11.1==0)=Bool.true then Option.bind (qq 12 a11.2) fun(a12:Prod Int qi)=>Option.bind (qq 3 a12.2) fun(a13:Prod Int qi)=>if 0≤a13.1∧a13.1<3 then Option.bind [(0:Int),50,60][Int.toNat a13.1]? fun(a14:Int)=>Option.bind (ZV a13.2) fun(a15:Prod (List qe) qi)=>some (qb.mk 2 (w64 (1+a12.1)) a14 a15.1 [],a15.2) else none else Option.bind (qq 4 a11.2) fun(a16:Prod Int qi)=>if 0≤a16.1∧a16.1<4 then Option.bind [(0:Int),50,60,80][Int.toNat a16.1]? fun(a17:Int)=>Option.bind (ZV a16.2) fun(a18:Prod (List qe) qi)=>some (qb.mk 1 0 a17 a18.1 [],a18.2) else none else if a2.1<2 then Option.bind (qq 3 a2.2) fun(a19:Prod Int qi)=>if(a19.1==0)=Bool.true then Option.bind (qq 12 a19.2) fun(a20:Prod Int qi)=>Option.bind (qq 3 a20.2) fun(a21:Prod Int qi)=>if 0≤a21.1∧a21.1<3 then Option.bind [(0:Int),50,60][Int.toNat a21.1]? fun(a22:Int)=>Option.bind (ZV a21.2) fun(a23:Prod (List qe) qi)=>some (qb.mk 2 (w64 (1+a20.1)) a22 a23.1 [],a23.2) else none else Option.bind (qq 4 a19.2) fun(a24:Prod Int qi)=>if 0≤a24.1∧a24.1<4 then Option.bind [(0:Int),50,60,80][Int.toNat a24.1]? fun(a25:Int)=>Option.bind (ZV a24.2) fun(a26:Prod (List qe) qi)=>some (qb.mk 1 0 a25 a26.1 [],a26.2) else none else Option.bind (qq (min 3 x2) a2.2) fun(a27:Prod Int qi)=>Option.bind (zn (QR rF 0 0 0 3 0 0 x1 x2 a2.1 (w64 (1+a27.1))) ([],(a27.2,0))) fun(a28:Prod (List qb) qi)=>if 3<a2.1 then Option.bind (qq (w64 (1+a27.1)) a28.2) fun(a29:Prod Int qi)=>some (qb.mk 4 (w64 (1+a29.1)) 0 [] a28.1,a29.2) else some (qb.mk 3 0 0 [] a28.1,a28.2)
theorem q5Y:q9W 39 1 QW ZG q0Q:=by
 intro rE rF hF hM hR x
 obtain⟨x1,x2,v⟩:=x
 show qba rE 39 1 [rP 0,rI x1,rI x2] [(0,B.blk 98 [dL 1 eI v.L,dI v.At])]=_
 have hF':∀(x1 x2:Int) (v_L:List Int) (qkg:Int),rE (.fn 39) 1 [rP 0,rI x1,rI x2] [(0,B.blk 98 [dL 1 eI v_L,dI qkg])]=(rF (x1,x2,(qi.mk v_L qkg))).bind (fun e=>some (R.agg [dI e.1.Kind,dI e.1.N,dI e.1.Min,dL 2 qf e.1.Set,dL 5 qh e.1.L],[(0,B.blk 98 [dL 1 eI e.2.L,dI e.2.At])])):=fun x1 x2 v_L qkg=>hF (x1,x2,(qi.mk v_L qkg))
 rw[q6H qzl qK6]
 have:=qJU;have:=@JE;have:=@qcF;have:=q6e rE rF hF hM hR;have:=@q0Q.eq_1;have:=@ZG.eq_1;exact gA
theorem q3b:∀x y,QW x=QW y→x=y:=by
 rintro⟨a0,a1,⟨a2_0,a2_1⟩⟩ ⟨b0,b1,⟨b2_0,b2_1⟩⟩ h
 simp only[QW,Prod.mk.injEq,List.cons.injEq,R.c.injEq,R.agg.injEq,R.tup.injEq,C.d.injEq,C.own.injEq,C.ptr.injEq,C.eptr.injEq,C.clp.injEq,D.int.injEq,D.bool.injEq,D.str.injEq,D.sl.injEq,B.blk.injEq,B.row.injEq,q2m,q3F,q1J,q2F,q2D,q3m,q1H,q5G,q3j,q60,q6p,q2f,true_and,and_true,qQR] at h
 simp only[h]
theorem q7N:∀x y,ZG x=ZG y→x=y:=by
 rintro⟨⟨qJB,qJC,qJD,qJE,qJF⟩,⟨qQ0,qQ1⟩⟩ ⟨⟨qJG,qJH,qJI,qJJ,qJK⟩,⟨qQ2,qQ3⟩⟩ h
 simp only[ZG,Prod.mk.injEq,List.cons.injEq,R.c.injEq,R.agg.injEq,R.tup.injEq,C.d.injEq,C.own.injEq,C.ptr.injEq,C.eptr.injEq,C.clp.injEq,D.int.injEq,D.bool.injEq,D.str.injEq,D.sl.injEq,B.blk.injEq,B.row.injEq,q2m,q3F,q1J,q2F,q2D,q3m,q1H,q5G,q3j,q60,q6p,q2f,true_and,and_true,qQR] at h
 simp only[h]
def Zo:(Int×Int×qi)→Option (qb×qi):=q9G 39 1 QW ZG
theorem q5U (x:(Int×Int×qi)):Zo x=q0Q Zo x:=qfj qJj.2.2.2 q3b q7N q5Y x
theorem qaq (x1 x2:Int) (v:qi):ev 39 1 [rP 0,rI x1,rI x2] [(0,B.blk 98 [dL 1 eI v.L,dI v.At])]=(Zo (x1,x2,v)).bind (fun(e:qb×qi)=>some (R.agg [dI e.1.Kind,dI e.1.N,dI e.1.Min,dL 2 qf e.1.Set,dL 5 qh e.1.L],[(0,B.blk 98 [dL 1 eI e.2.L,dI e.2.At])])):=(qbx qJj.2.2.2 q3b q5Y (x1,x2,v))
theorem qbW:∀(x1 x2:Int) (v_L:List Int) (qkg:Int),ev 39 1 [rP 0,rI x1,rI x2] [(0,B.blk 98 [dL 1 eI v_L,dI qkg])]=(Zo (x1,x2,(qi.mk v_L qkg))).bind (fun(e:qb×qi)=>some (R.agg [dI e.1.Kind,dI e.1.N,dI e.1.Min,dL 2 qf e.1.Set,dL 5 qh e.1.L],[(0,B.blk 98 [dL 1 eI e.2.L,dI e.2.At])])):=
 fun x1 x2 v_L qkg=>qaq x1 x2 (qi.mk v_L qkg)
def Q8 (l:List Int):Option qg:=Option.bind (qq 3 (qi.mk l 0)) fun(a:Prod Int qi)=>Option.bind (qq 3 a.2) fun(a2:Prod Int qi)=>Option.bind (qq 5 a2.2) fun(a3:Prod Int qi)=>Option.bind (qq 3 a3.2) fun(a4:Prod Int qi)=>if 0≤a4.1∧a4.1<3 then Option.bind [ByteArray.mk (List.toArray [77,117,115,105,99]),ByteArray.mk (List.toArray [76,97,119]),ByteArray.mk (List.toArray [79,108,100,32,109,97,112,115])][Int.toNat a4.1]? fun(a5:ByteArray)=>Option.bind (qq 20 a4.2) fun(a6:Prod Int qi)=>Option.bind (qq 3 a6.2) fun(a7:Prod Int qi)=>Option.bind (qq 6 a7.2) fun(a8:Prod Int qi)=>Option.bind (qq 5 a8.2) fun(a9:Prod Int qi)=>if 0≤a9.1∧a9.1<5 then Option.bind [(0:Int),0,0,2,5][Int.toNat a9.1]? fun(a10:Int)=>Option.bind (qq 3 a9.2) fun(a11:Prod Int qi)=>if(a11.1==0)=Bool.true then Option.bind (Jy a11.2) fun(a12:Prod qe qi)=>Option.bind (Jy a12.2) fun(a13:Prod qe qi)=>if Qq a12.1 a13.1=Bool.true then Option.bind (Zo (3,(6,a13.2))) fun(a14:Prod qb qi)=>some (qg.mk 1 (w64 (1+a.1)) (w64 (1+a2.1)) (w64 (100*a3.1)) a5 a14.1 a6.1 (w64 (a7.1*a8.1)) a10 [q0u.mk a12.1 a13.1]) else Option.bind (Zo (3,(6,a13.2))) fun(a15:Prod qb qi)=>some (qg.mk 1 (w64 (1+a.1)) (w64 (1+a2.1)) (w64 (100*a3.1)) a5 a15.1 a6.1 (w64 (a7.1*a8.1)) a10 []) else Option.bind (Zo (3,(6,a11.2))) fun(a16:Prod qb qi)=>some (qg.mk 1 (w64 (1+a.1)) (w64 (1+a2.1)) (w64 (100*a3.1)) a5 a16.1 a6.1 (w64 (a7.1*a8.1)) a10 []) else none else none
theorem q8y:∀(l:List Int),ev 16 0 [rL 1 eI l] []=(Q8 l).bind (fun(e:qg)=>some (R.agg [dI e.School,dI e.Id,dI e.Version,dI e.From,dS e.Name,dI e.Need.Kind,dI e.Need.N,dI e.Need.Min,dL 2 qf e.Need.Set,dL 5 qh e.Need.L,dI e.Total,dI e.Own,dI e.Age,dL 4 (eA2 qf) e.Exclude],[])):=
 fun l=>by
  rw[qF qEJ qLv.2.2.2 qOz]
  have:=qM1;have:=@JE;have:=@q4h;have:=@qbW;have:=@q3a;have:=@Q8.eq_1;exact gA
theorem qOM:okL 15 qk0:=qJ (qj qEK) (by kernel_rfl) (by kernel_rfl)
def qM0:=JA_ @qk0.eq_1 (JA_ @Tryz.f15.eq_1 @qEK)
theorem qNn:okL 35 qjI:=qJ (qj qFz) (by kernel_rfl) (by kernel_rfl)
def qPn:=JA_ @qjI.eq_1 (JA_ @Tryz.f35.eq_1 @qFz)
def q2w (a:qa):Option (Int×ByteArray×Int×Int×Int×Int×List Int×List Int):=if a.Sources.length≤maxLen∧a.Sources.length*8≤140737488355328 then if a.Path.length≤maxLen∧a.Path.length*8≤140737488355328 then some (a.Course.School,a.Course.Code,a.Credits,a.Grade,a.Day,a.Bundle,a.Sources,a.Path) else none else none
theorem qbn:∀(qy:Int) (qD:ByteArray) (zG QS q1e:Int) (zB:List Int) (Qc:Int) (ZO:List Int),ev 35 0 [R.agg [dI qy,dS qD,dI zG,dI QS,dI q1e,dL 1 eI zB,dI Qc,dL 1 eI ZO]] []=(q2w (qa.mk (qe.mk qy qD) zG QS q1e zB Qc ZO)).bind (fun(e:Int×ByteArray×Int×Int×Int×Int×List Int×List Int)=>some (R.agg [dI e.1,dS e.2.1,dI e.2.2.1,dI e.2.2.2.1,dI e.2.2.2.2.1,dO 0 1 e.2.2.2.2.2.2.1.length,dI e.2.2.2.2.2.1,dO 1 1 e.2.2.2.2.2.2.2.length],[(0,bR 3 1 eI e.2.2.2.2.2.2.1),(1,bR 3 1 eI e.2.2.2.2.2.2.2)])):=
 fun qy qD zG QS q1e zB Qc ZO=>by
  rw[qF qFz qLB.2.2.2 qNn]
  have:=qPn;have:=@q2w.eq_1;exact gA
end
end Go.Proofs.YtofbcijbpfjliaaGreat.Vc
