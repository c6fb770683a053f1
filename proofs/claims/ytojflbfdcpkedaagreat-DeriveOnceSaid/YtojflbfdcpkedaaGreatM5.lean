/- Part 5 of a proof. -/
import Derived.Test.YtojflbfdcpkedaaGreatM4
set_option linter.unusedVariables false
set_option linter.unusedSimpArgs false
set_option linter.defProp false
set_option linter.unusedSectionVars false
set_option linter.unnecessarySimpa false
namespace Go.Proofs.YtojflbfdcpkedaaGreat.Vc
noncomputable section
open Go.RowKit
set_option maxRecDepth 20000
set_option maxHeartbeats 8000000
theorem qMr:okL 10 qno:=qS (ql qHS) (by kernel_rfl) (by kernel_rfl)
def qMm:=JA_ @qno.eq_1 (JA_ @Tryz.f10.eq_1 @qHS)
theorem qJ1:okL 28 qkp:=qS (ql qF1) (by kernel_rfl) (by kernel_rfl)
def qIZ:=JA_ @qkp.eq_1 (JA_ @Tryz.f28.eq_1 @qF1)
theorem qyC:lbO 28 5=qq5:=Qr (ql qF1) rfl
theorem qDW:okL 28 qq5:=zJ qJ1 (qP9 (i:=0) (by kernel_rfl))
theorem qNl:okL 27 qpU:=qS (ql qH2) (by kernel_rfl) (by kernel_rfl)
def qMx:=JA_ @qpU.eq_1 (JA_ @Tryz.f27.eq_1 @qH2)
theorem q2S:∀(code:ByteArray),ev 27 0 [rS code] []=some (R.agg [C.d (D.int IntKind.i64 1),dS code],[]):=
 fun code=>by
  rw[qR qH2 qJb.2.2.2 qNl]
  have:=qMx;exact gA
def q0S (w2:List qc) (qp:Int) (zn:Int) (qn:Int) (qz:Int) (qA:ByteArray) (qi:Int) (qq:Int) (qk:Int) (qt:Int) (qF:Int) (qG:Int) (qC:Int) (JO:Int) (qy:Int) (zd:Int) (zf:ByteArray) (qs:Int) (qD:Int) (qv:Int) (qK:Int) (Qc:Int) (Qd:Int) (codes:qdU ByteArray) (credits:qdU Int) (grades:qdU Int):(List qa×Int)→Option ((List qa×Int)⊕(List qa))|(l,k)=>if k<3 then if 0≤k∧k<3 then Option.bind [codes.a0,codes.a1,codes.a2][Int.toNat k]? fun(a:ByteArray)=>if 0≤k∧k<3 then Option.bind [credits.a0,credits.a1,credits.a2][Int.toNat k]? fun(a2:Int)=>if 0≤k∧k<3 then Option.bind [grades.a0,grades.a1,grades.a2][Int.toNat k]? fun(a3:Int)=>if l.length+1≤maxLen∧(l.length+1)*104≤140737488355328 then some (Sum.inl (l++[qa.mk (qc.mk 1 a) a2 a3 100 [w64 (1000001+k)] 0 []],w64 (k+1))) else none else none else none else none else some (Sum.inr l)
theorem q7w:∀(w2:List qc) (l:List qa) (qp zn qn qz:Int) (qA:ByteArray) (qi qq qk qt qF qG qC JO qy zd:Int) (zf:ByteArray) (qs qD qv qK Qc Qd:Int) (q58 q59 q5a:ByteArray) (q1Z q20 q23 q3m q3n q3o k:Int) (qjc q2G:Nat),qjc=l.length→q2G=w2.length→XL2 evo 28 0 5 ⟨[(2,rP 0),(4,rP 1),(5,rP 3),(6,rP 4),(7,rP 5),(8,rO 6 8 qjc),(9,rI k)],[(0,B.blk 39 [dI qp,dI zn,dI qn,dI qz,dS qA,dI qi,dI qq,dI qk,C.nils,C.nils,dI qt,dI qF,dI qG,C.nils]),(1,B.blk 39 [dI qC,dI JO,dI qy,dI zd,dS zf,dI qs,dI qD,dI qv,dO 2 2 q2G,C.nils,dI qK,dI Qc,dI Qd,C.nils]),(2,bR 55 2 qd w2),(3,B.blk 103 [dS q58,dS q59,dS q5a]),(4,B.blk 29 [dI q1Z,dI q20,dI q23]),(5,B.blk 29 [dI q3m,dI q3n,dI q3o]),(6,bR 57 8 qe l)],7,42⟩=(zl (q0S w2 qp zn qn qz qA qi qq qk qt qF qG qC JO qy zd zf qs qD qv qK Qc Qd (qdU.mk q58 q59 q5a) (qdU.mk q1Z q20 q23) (qdU.mk q3m q3n q3o)) (l,k)).bind (fun(e:List qa)=>some (Exit.exit 0,⟨[(2,rP 0),(4,rP 1),(8,rO 3 8 e.length)],[(0,B.blk 39 [dI qp,dI zn,dI qn,dI qz,dS qA,dI qi,dI qq,dI qk,C.nils,C.nils,dI qt,dI qF,dI qG,C.nils]),(1,B.blk 39 [dI qC,dI JO,dI qy,dI zd,dS zf,dI qs,dI qD,dI qv,dO 2 2 w2.length,C.nils,dI qK,dI Qc,dI Qd,C.nils]),(2,bR 55 2 qd w2),(3,bR 57 8 qe e)],4,42⟩)):=
 by
 intro w2 l qp zn qn qz qA qi qq qk qt qF qG qC JO qy zd zf qs qD qv qK Qc Qd q58 q59 q5a q1Z q20 q23 q3m q3n q3o k qjc q2G h0 h1
 subst h0 h1
 revert k;revert l;exact qak qyC qDW (fun e=>by exact⟨_,rfl,fun h=>by cases h⟩) fun l k=>by
  have:=qIZ;have:=@qq5.eq_1;have:=@q2S;have:=@q0S.eq_1;exact gA
theorem q5s:∀(q4c:Int) (q7W:ByteArray) (q4d:Int) (q7X:ByteArray) (qp zn qn qz:Int) (qA:ByteArray) (qi qq qk qt qF qG qC JO qy zd:Int) (zf:ByteArray) (qs qD qv qK Qc Qd:Int) (q58 q59 q5a:ByteArray) (q1Z q20 q23 q3m q3n q3o k:Int),XL2 evo 28 0 5 ⟨[(2,rP 0),(4,rP 1),(5,rP 3),(6,rP 4),(7,rP 5),(8,rO 6 8 0),(9,rI k)],[(0,B.blk 39 [dI qp,dI zn,dI qn,dI qz,dS qA,dI qi,dI qq,dI qk,C.nils,C.nils,dI qt,dI qF,dI qG,C.nils]),(1,B.blk 39 [dI qC,dI JO,dI qy,dI zd,dS zf,dI qs,dI qD,dI qv,dO 2 2 2,C.nils,dI qK,dI Qc,dI Qd,C.nils]),(2,B.row 55 2 [dI q4c,dS q7W,dI q4d,dS q7X]),(3,B.blk 103 [dS q58,dS q59,dS q5a]),(4,B.blk 29 [dI q1Z,dI q20,dI q23]),(5,B.blk 29 [dI q3m,dI q3n,dI q3o]),(6,B.row 57 8 [])],7,42⟩=(zl (q0S [(qc.mk q4c q7W),(qc.mk q4d q7X)] qp zn qn qz qA qi qq qk qt qF qG qC JO qy zd zf qs qD qv qK Qc Qd (qdU.mk q58 q59 q5a) (qdU.mk q1Z q20 q23) (qdU.mk q3m q3n q3o)) ([],k)).bind (fun(e:List qa)=>some (Exit.exit 0,⟨[(2,rP 0),(4,rP 1),(8,rO 3 8 e.length)],[(0,B.blk 39 [dI qp,dI zn,dI qn,dI qz,dS qA,dI qi,dI qq,dI qk,C.nils,C.nils,dI qt,dI qF,dI qG,C.nils]),(1,B.blk 39 [dI qC,dI JO,dI qy,dI zd,dS zf,dI qs,dI qD,dI qv,C.own 2 2 0 [(qc.mk q4c q7W),(qc.mk q4d q7X)].length,C.nils,dI qK,dI Qc,dI Qd,C.nils]),(2,B.row 55 2 (([(qc.mk q4c q7W),(qc.mk q4d q7X)].flatMap qd).map C.d)),(3,bR 57 8 qe e)],4,42⟩)):=by
 intro q4c q7W q4d q7X qp zn qn qz qA qi qq qk qt qF qG qC JO qy zd zf qs qD qv qK Qc Qd q58 q59 q5a q1Z q20 q23 q3m q3n q3o k;have h:=q7w [(qc.mk q4c q7W),(qc.mk q4d q7X)] [] qp zn qn qz qA qi qq qk qt qF qG qC JO qy zd zf qs qD qv qK Qc Qd ((qdU.mk q58 q59 q5a)).a0 ((qdU.mk q58 q59 q5a)).a1 ((qdU.mk q58 q59 q5a)).a2 ((qdU.mk q1Z q20 q23)).a0 ((qdU.mk q1Z q20 q23)).a1 ((qdU.mk q1Z q20 q23)).a2 ((qdU.mk q3m q3n q3o)).a0 ((qdU.mk q3m q3n q3o)).a1 ((qdU.mk q3m q3n q3o)).a2 k _ _ rfl rfl
 first
  | exact h
  | (simp only[rL,dL,bR,bZ,Nat.reduceAdd] at h;exact h)
def ZE (total:Int):Option (qf×List qa):=Option.bind (zl (q0S [qc.mk 1 (ByteArray.mk (List.toArray [65,49])),qc.mk 1 (ByteArray.mk (List.toArray [66,49]))] 0 0 0 0 (ByteArray.mk (List.toArray [])) 0 0 0 0 0 0 1 1 1 0 (ByteArray.mk (List.toArray [77,117,115,105,99])) 1 0 60 total 0 0 (qdU.mk (ByteArray.mk (List.toArray [65,49])) (ByteArray.mk (List.toArray [66,49])) (ByteArray.mk (List.toArray [65,49]))) (qdU.mk 5 5 6) (qdU.mk 55 60 80)) ([],0)) fun(a:List qa)=>some (qf.mk 1 1 1 0 (ByteArray.mk (List.toArray [77,117,115,105,99])) (qb.mk 1 0 60 ([qc.mk 1 (ByteArray.mk (List.toArray [65,49]))]++[qc.mk 1 (ByteArray.mk (List.toArray [66,49]))]) []) total 0 0 [],a)
theorem q9c:∀(total:Int),ev 28 0 [rI total] []=(ZE total).bind (fun(e:qf×List qa)=>some (R.tup [R.agg [dI e.1.School,dI e.1.Id,dI e.1.Version,dI e.1.From,dS e.1.Name,dI e.1.Need.Kind,dI e.1.Need.N,dI e.1.Need.Min,dL 2 qd e.1.Need.Set,dL 5 qh e.1.Need.L,dI e.1.Total,dI e.1.Own,dI e.1.Age,dL 4 (eA2 qd) e.1.Exclude],rL 8 qe e.2],[])):=
 fun total=>by
  rw[qR qF1 qKH.2.2.2 qJ1]
  have:=qIZ;have:=@q2S;have:=@q5s;have:=@ZE.eq_1;exact gA
theorem qNG:okL 29 qmT:=qS (ql qIM) (by kernel_rfl) (by kernel_rfl)
def qOp:=JA_ @qmT.eq_1 (JA_ @Tryz.f29.eq_1 @qIM)
theorem qN7:okL 13 qoL:=qS (ql qHY) (by kernel_rfl) (by kernel_rfl)
def qNF:=JA_ @qoL.eq_1 (JA_ @Tryz.f13.eq_1 @qHY)
def q7S (school:Int):Option qg:=if(school==2)=Bool.true then some (qg.mk 5 1 3) else if(school==3)=Bool.true then some (qg.mk 0 20 10) else some (qg.mk 0 100 50)
def zq (school:Int):qg:=if(school==2)=Bool.true then qg.mk 5 1 3 else if(school==3)=Bool.true then qg.mk 0 20 10 else qg.mk 0 100 50
theorem qdM (school:Int):q7S school=some (zq school):=by
 unfold q7S zq
 simp only[Zn]
theorem q63:∀(school:Int),ev 13 0 [rI school] []=some (R.agg [dI (zq school).Worst,dI (zq school).Best,dI (zq school).Pass],[]):=
 fun school=>by
  have h:ev 13 0 [rI school] []=(q7S school).bind (fun(e:qg)=>some (R.agg [dI e.Worst,dI e.Best,dI e.Pass],[])):=by
   rw[qR qHY qKD.2.2.2 qN7]
   have:=qNF;have:=@q7S.eq_1;exact gA
  rw[qdM] at h
  exact h
theorem qFk:okL 17 qg6:=qS (ql qCw) (by kernel_rfl) (by kernel_rfl)
def qFT:=JA_ @qg6.eq_1 (JA_ @Tryz.f17.eq_1 @qCw)
theorem qBk:lbO 17 4=qnT:=Qr (ql qCw) rfl
theorem qCC:okL 17 qnT:=zJ qFk (qP9 (i:=0) (by kernel_rfl))
theorem qCc:lbO 17 9=qmy:=Qr (ql qCw) rfl
theorem qAd:okL 17 qmy:=zJ qFk (qP9 (i:=1) (by kernel_rfl))
def q0k (a:qP) (b:qP):Int→Option (Int⊕(Unit⊕Unit))|i=>if i<((a.Taken.length:Nat):Int) then if 0≤i∧i<((a.Taken.length:Nat):Int) then Option.bind a.Taken[Int.toNat i]? fun(a2:Int)=>if 0≤i∧i<((b.Taken.length:Nat):Int) then Option.bind b.Taken[Int.toNat i]? fun(a3:Int)=>if(a2 != a3)=Bool.true then some (Sum.inr (Sum.inl ())) else some (Sum.inl (w64 (i+1))) else none else none else some (Sum.inr (Sum.inr ()))
theorem q9W:∀(q1u q3F q1v q3G:List Int) (i:Int),XL2 evo 17 0 4 ⟨[(2,rP 0),(3,rP 1),(5,rI i)],[(0,B.blk 48 [dL 1 eI q1u,dL 1 eI q3F]),(1,B.blk 48 [dL 1 eI q1v,dL 1 eI q3G])],2,59⟩=(zl (q0k (qP.mk q1u q3F) (qP.mk q1v q3G)) i).bind (Sum.elim (fun(e:Unit)=>some (Exit.ret,⟨[(2,rP 0),(3,rP 1),(4,rB Bool.false)],[(0,B.blk 48 [dL 1 eI q1u,dL 1 eI q3F]),(1,B.blk 48 [dL 1 eI q1v,dL 1 eI q3G])],2,59⟩)) (fun(e:Unit)=>some (Exit.exit 0,⟨[(2,rP 0),(3,rP 1),(4,R.any)],[(0,B.blk 48 [dL 1 eI q1u,dL 1 eI q3F]),(1,B.blk 48 [dL 1 eI q1v,dL 1 eI q3G])],2,59⟩))):=
 fun q1u q3F q1v q3G i=>by
  revert i;exact qa6 qBk qCC (fun e=>by rcases e with _|_<;>exact⟨_,rfl,fun h=>by cases h⟩) fun x=>by
   have:=qFT;have:=@qnT.eq_1;have:=@q0k.eq_1;exact gA
def q0i (a:qP) (b:qP):Int→Option (Int⊕(Unit⊕Unit))|i=>if i<((a.Leaf.length:Nat):Int) then if 0≤i∧i<((a.Leaf.length:Nat):Int) then Option.bind a.Leaf[Int.toNat i]? fun(a2:Int)=>if 0≤i∧i<((b.Leaf.length:Nat):Int) then Option.bind b.Leaf[Int.toNat i]? fun(a3:Int)=>if(a2 != a3)=Bool.true then some (Sum.inr (Sum.inl ())) else some (Sum.inl (w64 (i+1))) else none else none else some (Sum.inr (Sum.inr ()))
theorem q9e:∀(q1u q3F q1v q3G:List Int) (i:Int),XL2 evo 17 0 9 ⟨[(2,rP 0),(3,rP 1),(6,rI i)],[(0,B.blk 48 [dL 1 eI q1u,dL 1 eI q3F]),(1,B.blk 48 [dL 1 eI q1v,dL 1 eI q3G])],2,59⟩=(zl (q0i (qP.mk q1u q3F) (qP.mk q1v q3G)) i).bind (Sum.elim (fun(e:Unit)=>some (Exit.ret,⟨[(4,rB Bool.false)],[],0,59⟩)) (fun(e:Unit)=>some (Exit.exit 2,⟨[(4,R.any)],[],0,59⟩))):=
 fun q1u q3F q1v q3G i=>by
  revert i;exact qa6 qCc qAd (fun e=>by rcases e with _|_<;>exact⟨_,rfl,fun h=>by cases h⟩) fun x=>by
   have:=qFT;have:=@qmy.eq_1;have:=@q0i.eq_1;exact gA
def q3v (a:qP) (b:qP):Option Bool:=if(((a.Taken.length:Nat):Int) != ((b.Taken.length:Nat):Int))=Bool.true then some Bool.false else if(((a.Leaf.length:Nat):Int) != ((b.Leaf.length:Nat):Int))=Bool.true then some Bool.false else Option.bind (zl (q0k a b) 0) fun(a2:Sum Unit Unit)=>Sum.elim (fun(a3:Unit)=>some Bool.false) (fun(a4:Unit)=>Option.bind (zl (q0i a b) 0) fun(a5:Sum Unit Unit)=>Sum.elim (fun(a6:Unit)=>some Bool.false) (fun(a7:Unit)=>some Bool.true) a5) a2
theorem qd3:∀(q1u q3F q1v q3G:List Int),ev 17 0 [R.agg [dL 1 eI q1u,dL 1 eI q3F],R.agg [dL 1 eI q1v,dL 1 eI q3G]] []=(q3v (qP.mk q1u q3F) (qP.mk q1v q3G)).bind (fun(e:Bool)=>some (rB e,[])):=
 fun q1u q3F q1v q3G=>by
  rw[qR qCw qJJ.2.2.2 qFk]
  have:=qFT;have:=@q9W;have:=@q9e;have:=@q3v.eq_1;exact gA
def zb (p:qf) (l:List qa) (taken:List Int) (leaf:List Int):Option Bool:=Option.bind (Zh p (zq 1) l 500) fun(a:Prod qP Int)=>if(((taken.length:Nat):Int)==0)=Bool.true then if(a.2==31)=Bool.true then some (w64 (((a.1.Taken.length:Nat):Int)+((a.1.Leaf.length:Nat):Int))==0) else some Bool.false else if(a.2==0)=Bool.true then Option.bind (q3v a.1 (qP.mk taken leaf)) fun(e0:Bool)=>some e0 else some Bool.false
theorem q0U:∀(qC JO qy zd:Int) (zf:ByteArray) (qs qD qv:Int) (qx:List qc) (qH:List qb) (qK Qc Qd:Int) (qJ:List (JS qc)) (l:List qa) (taken leaf:List Int),ev 29 0 [R.agg [dI qC,dI JO,dI qy,dI zd,dS zf,dI qs,dI qD,dI qv,dL 2 qd qx,dL 5 qh qH,dI qK,dI Qc,dI Qd,dL 4 (eA2 qd) qJ],rL 8 qe l,rL 1 eI taken,rL 1 eI leaf] []=(zb (qf.mk qC JO qy zd zf (qb.mk qs qD qv qx qH) qK Qc Qd qJ) l taken leaf).bind (fun(e:Bool)=>some (rB e,[])):=
 fun qC JO qy zd zf qs qD qv qx qH qK Qc Qd qJ l taken leaf=>by
  rw[qR qIM qKE.2.2.2 qNG]
  have:=qOp;have:=@q63;have:=@q4F;have:=@qd3;have:=@zb.eq_1;exact gA
theorem q7f:∀(taken0 taken1 leaf0 leaf1 qC JO qy zd:Int) (zf:ByteArray) (qs qD qv:Int) (qx:List qc) (qH:List qb) (qK Qc Qd:Int) (qJ:List (JS qc)) (l:List qa),ev 29 0 [R.agg [dI qC,dI JO,dI qy,dI zd,dS zf,dI qs,dI qD,dI qv,dL 2 qd qx,dL 5 qh qH,dI qK,dI Qc,dI Qd,dL 4 (eA2 qd) qJ],rL 8 qe l,R.c (C.d (D.sl 1 2 [D.int .i64 taken0,D.int .i64 taken1])),R.c (C.d (D.sl 1 2 [D.int .i64 leaf0,D.int .i64 leaf1]))] []=(zb (qf.mk qC JO qy zd zf (qb.mk qs qD qv qx qH) qK Qc Qd qJ) l [taken0,taken1] [leaf0,leaf1]).bind (fun(e:Bool)=>some (rB e,[])):=by
 intro taken0 taken1 leaf0 leaf1 qC JO qy zd zf qs qD qv qx qH qK Qc Qd qJ l;have h:=q0U ((qf.mk qC JO qy zd zf (qb.mk qs qD qv qx qH) qK Qc Qd qJ)).School ((qf.mk qC JO qy zd zf (qb.mk qs qD qv qx qH) qK Qc Qd qJ)).Id ((qf.mk qC JO qy zd zf (qb.mk qs qD qv qx qH) qK Qc Qd qJ)).Version ((qf.mk qC JO qy zd zf (qb.mk qs qD qv qx qH) qK Qc Qd qJ)).From ((qf.mk qC JO qy zd zf (qb.mk qs qD qv qx qH) qK Qc Qd qJ)).Name ((qf.mk qC JO qy zd zf (qb.mk qs qD qv qx qH) qK Qc Qd qJ)).Need.Kind ((qf.mk qC JO qy zd zf (qb.mk qs qD qv qx qH) qK Qc Qd qJ)).Need.N ((qf.mk qC JO qy zd zf (qb.mk qs qD qv qx qH) qK Qc Qd qJ)).Need.Min ((qf.mk qC JO qy zd zf (qb.mk qs qD qv qx qH) qK Qc Qd qJ)).Need.Set ((qf.mk qC JO qy zd zf (qb.mk qs qD qv qx qH) qK Qc Qd qJ)).Need.L ((qf.mk qC JO qy zd zf (qb.mk qs qD qv qx qH) qK Qc Qd qJ)).Total ((qf.mk qC JO qy zd zf (qb.mk qs qD qv qx qH) qK Qc Qd qJ)).Own ((qf.mk qC JO qy zd zf (qb.mk qs qD qv qx qH) qK Qc Qd qJ)).Age ((qf.mk qC JO qy zd zf (qb.mk qs qD qv qx qH) qK Qc Qd qJ)).Exclude l [taken0,taken1] [leaf0,leaf1]
 first
  | exact h
  | (simp only[rL,dL,bR,bZ,Nat.reduceAdd] at h;exact h)
theorem q7v:∀(taken0 leaf0 qC JO qy zd:Int) (zf:ByteArray) (qs qD qv:Int) (qx:List qc) (qH:List qb) (qK Qc Qd:Int) (qJ:List (JS qc)) (l:List qa),ev 29 0 [R.agg [dI qC,dI JO,dI qy,dI zd,dS zf,dI qs,dI qD,dI qv,dL 2 qd qx,dL 5 qh qH,dI qK,dI Qc,dI Qd,dL 4 (eA2 qd) qJ],rL 8 qe l,R.c (C.d (D.sl 1 1 [D.int .i64 taken0])),R.c (C.d (D.sl 1 1 [D.int .i64 leaf0]))] []=(zb (qf.mk qC JO qy zd zf (qb.mk qs qD qv qx qH) qK Qc Qd qJ) l [taken0] [leaf0]).bind (fun(e:Bool)=>some (rB e,[])):=by
 intro taken0 leaf0 qC JO qy zd zf qs qD qv qx qH qK Qc Qd qJ l;have h:=q0U ((qf.mk qC JO qy zd zf (qb.mk qs qD qv qx qH) qK Qc Qd qJ)).School ((qf.mk qC JO qy zd zf (qb.mk qs qD qv qx qH) qK Qc Qd qJ)).Id ((qf.mk qC JO qy zd zf (qb.mk qs qD qv qx qH) qK Qc Qd qJ)).Version ((qf.mk qC JO qy zd zf (qb.mk qs qD qv qx qH) qK Qc Qd qJ)).From ((qf.mk qC JO qy zd zf (qb.mk qs qD qv qx qH) qK Qc Qd qJ)).Name ((qf.mk qC JO qy zd zf (qb.mk qs qD qv qx qH) qK Qc Qd qJ)).Need.Kind ((qf.mk qC JO qy zd zf (qb.mk qs qD qv qx qH) qK Qc Qd qJ)).Need.N ((qf.mk qC JO qy zd zf (qb.mk qs qD qv qx qH) qK Qc Qd qJ)).Need.Min ((qf.mk qC JO qy zd zf (qb.mk qs qD qv qx qH) qK Qc Qd qJ)).Need.Set ((qf.mk qC JO qy zd zf (qb.mk qs qD qv qx qH) qK Qc Qd qJ)).Need.L ((qf.mk qC JO qy zd zf (qb.mk qs qD qv qx qH) qK Qc Qd qJ)).Total ((qf.mk qC JO qy zd zf (qb.mk qs qD qv qx qH) qK Qc Qd qJ)).Own ((qf.mk qC JO qy zd zf (qb.mk qs qD qv qx qH) qK Qc Qd qJ)).Age ((qf.mk qC JO qy zd zf (qb.mk qs qD qv qx qH) qK Qc Qd qJ)).Exclude l [taken0] [leaf0]
 first
  | exact h
  | (simp only[rL,dL,bR,bZ,Nat.reduceAdd] at h;exact h)
theorem q7C:∀  (qC JO qy zd:Int) (zf:ByteArray) (qs qD qv:Int) (qx:List qc) (qH:List qb) (qK Qc Qd:Int) (qJ:List (JS qc)) (l:List qa),ev 29 0 [R.agg [dI qC,dI JO,dI qy,dI zd,dS zf,dI qs,dI qD,dI qv,dL 2 qd qx,dL 5 qh qH,dI qK,dI Qc,dI Qd,dL 4 (eA2 qd) qJ],rL 8 qe l,R.c (C.d (D.sl 1 0 [])),R.c (C.d (D.sl 1 0 []))] []=(zb (qf.mk qC JO qy zd zf (qb.mk qs qD qv qx qH) qK Qc Qd qJ) l [] []).bind (fun(e:Bool)=>some (rB e,[])):=by
 intro qC JO qy zd zf qs qD qv qx qH qK Qc Qd qJ l;have h:=q0U ((qf.mk qC JO qy zd zf (qb.mk qs qD qv qx qH) qK Qc Qd qJ)).School ((qf.mk qC JO qy zd zf (qb.mk qs qD qv qx qH) qK Qc Qd qJ)).Id ((qf.mk qC JO qy zd zf (qb.mk qs qD qv qx qH) qK Qc Qd qJ)).Version ((qf.mk qC JO qy zd zf (qb.mk qs qD qv qx qH) qK Qc Qd qJ)).From ((qf.mk qC JO qy zd zf (qb.mk qs qD qv qx qH) qK Qc Qd qJ)).Name ((qf.mk qC JO qy zd zf (qb.mk qs qD qv qx qH) qK Qc Qd qJ)).Need.Kind ((qf.mk qC JO qy zd zf (qb.mk qs qD qv qx qH) qK Qc Qd qJ)).Need.N ((qf.mk qC JO qy zd zf (qb.mk qs qD qv qx qH) qK Qc Qd qJ)).Need.Min ((qf.mk qC JO qy zd zf (qb.mk qs qD qv qx qH) qK Qc Qd qJ)).Need.Set ((qf.mk qC JO qy zd zf (qb.mk qs qD qv qx qH) qK Qc Qd qJ)).Need.L ((qf.mk qC JO qy zd zf (qb.mk qs qD qv qx qH) qK Qc Qd qJ)).Total ((qf.mk qC JO qy zd zf (qb.mk qs qD qv qx qH) qK Qc Qd qJ)).Own ((qf.mk qC JO qy zd zf (qb.mk qs qD qv qx qH) qK Qc Qd qJ)).Age ((qf.mk qC JO qy zd zf (qb.mk qs qD qv qx qH) qK Qc Qd qJ)).Exclude l [] []
 first
  | exact h
  | (simp only[rL,dL,bR,bZ,Nat.reduceAdd] at h;exact h)
theorem q7t:∀(qC JO qy zd:Int) (zf:ByteArray) (qs qD qv:Int) (qx:List qc) (qH:List qb) (qK Qc Qd zi:Int) (zF:ByteArray) (zj:Int) (zG:ByteArray) (taken0 leaf0:Int) (l:List qa),ev 29 0 [R.agg [dI qC,dI JO,dI qy,dI zd,dS zf,dI qs,dI qD,dI qv,dL 2 qd qx,dL 5 qh qH,dI qK,dI Qc,dI Qd,C.d (D.sl 4 1 [D.int .i64 zi,D.str zF,D.int .i64 zj,D.str zG])],rL 8 qe l,R.c (C.d (D.sl 1 1 [D.int .i64 taken0])),R.c (C.d (D.sl 1 1 [D.int .i64 leaf0]))] []=(zb (qf.mk qC JO qy zd zf (qb.mk qs qD qv qx qH) qK Qc Qd [(JS.mk (qc.mk zi zF) (qc.mk zj zG))]) l [taken0] [leaf0]).bind (fun(e:Bool)=>some (rB e,[])):=by
 intro qC JO qy zd zf qs qD qv qx qH qK Qc Qd zi zF zj zG taken0 leaf0 l;have h:=q0U ((qf.mk qC JO qy zd zf (qb.mk qs qD qv qx qH) qK Qc Qd [(JS.mk (qc.mk zi zF) (qc.mk zj zG))])).School ((qf.mk qC JO qy zd zf (qb.mk qs qD qv qx qH) qK Qc Qd [(JS.mk (qc.mk zi zF) (qc.mk zj zG))])).Id ((qf.mk qC JO qy zd zf (qb.mk qs qD qv qx qH) qK Qc Qd [(JS.mk (qc.mk zi zF) (qc.mk zj zG))])).Version ((qf.mk qC JO qy zd zf (qb.mk qs qD qv qx qH) qK Qc Qd [(JS.mk (qc.mk zi zF) (qc.mk zj zG))])).From ((qf.mk qC JO qy zd zf (qb.mk qs qD qv qx qH) qK Qc Qd [(JS.mk (qc.mk zi zF) (qc.mk zj zG))])).Name ((qf.mk qC JO qy zd zf (qb.mk qs qD qv qx qH) qK Qc Qd [(JS.mk (qc.mk zi zF) (qc.mk zj zG))])).Need.Kind ((qf.mk qC JO qy zd zf (qb.mk qs qD qv qx qH) qK Qc Qd [(JS.mk (qc.mk zi zF) (qc.mk zj zG))])).Need.N ((qf.mk qC JO qy zd zf (qb.mk qs qD qv qx qH) qK Qc Qd [(JS.mk (qc.mk zi zF) (qc.mk zj zG))])).Need.Min ((qf.mk qC JO qy zd zf (qb.mk qs qD qv qx qH) qK Qc Qd [(JS.mk (qc.mk zi zF) (qc.mk zj zG))])).Need.Set ((qf.mk qC JO qy zd zf (qb.mk qs qD qv qx qH) qK Qc Qd [(JS.mk (qc.mk zi zF) (qc.mk zj zG))])).Need.L ((qf.mk qC JO qy zd zf (qb.mk qs qD qv qx qH) qK Qc Qd [(JS.mk (qc.mk zi zF) (qc.mk zj zG))])).Total ((qf.mk qC JO qy zd zf (qb.mk qs qD qv qx qH) qK Qc Qd [(JS.mk (qc.mk zi zF) (qc.mk zj zG))])).Own ((qf.mk qC JO qy zd zf (qb.mk qs qD qv qx qH) qK Qc Qd [(JS.mk (qc.mk zi zF) (qc.mk zj zG))])).Age ((qf.mk qC JO qy zd zf (qb.mk qs qD qv qx qH) qK Qc Qd [(JS.mk (qc.mk zi zF) (qc.mk zj zG))])).Exclude l [taken0] [leaf0]
 first
  | exact h
  | (simp only[rL,dL,bR,bZ,Nat.reduceAdd] at h;exact h)
theorem qKj:okL 21 qjj:=qS (ql qEC) (by kernel_rfl) (by kernel_rfl)
def qJK:=JA_ @qjj.eq_1 (JA_ @Tryz.f21.eq_1 @qEC)
theorem qB1:lbO 21 8=qmQ:=Qr (ql qEC) rfl
theorem qDr:okL 21 qmQ:=zJ qKj (qP9 (i:=0) (by kernel_rfl))
def zP (b0:qf) (b1:qg) (b2:qP) (t2:List qa) (t3:Int) (t35:List Int) (t36:Int):(List qa×Int)→Option ((List qa×Int)⊕((List qa)⊕(List qa)))|(w3,t37)=>if t37<t36 then if 0≤t37∧t37<((t35.length:Nat):Int) then Option.bind t35[Int.toNat t37]? fun(a:Int)=>if a<0 then some (Sum.inr (Sum.inl w3)) else if((t2.length:Nat):Int)≤a then some (Sum.inr (Sum.inl w3)) else if 0<t37 then if 0≤w64 (t37-1)∧w64 (t37-1)<((b2.Taken.length:Nat):Int) then Option.bind b2.Taken[Int.toNat (w64 (t37-1))]? fun(a2:Int)=>if a≤a2 then some (Sum.inr (Sum.inl w3)) else if 0≤a∧a<((t2.length:Nat):Int) then Option.bind t2[Int.toNat a]? fun(a3:qa)=>if w3.length+1≤maxLen∧(w3.length+1)*104≤140737488355328 then some (Sum.inl (w3++[a3],w64 (t37+1))) else none else none else none else if 0≤a∧a<((t2.length:Nat):Int) then Option.bind t2[Int.toNat a]? fun(a4:qa)=>if w3.length+1≤maxLen∧(w3.length+1)*104≤140737488355328 then some (Sum.inl (w3++[a4],w64 (t37+1))) else none else none else none else some (Sum.inr (Sum.inr w3))
theorem q8b:∀(w3:List qa) (qp zn qn qz:Int) (qA:ByteArray) (qi qq qk:Int) (qm:List qc) (qr:List qb) (qt qF qG:Int) (qo:List (JS qc)) (qV zu zw:Int) (q1F q35:List Int) (t2:List qa) (t3:Int) (t35:List Int) (t36 t37:Int) (q2F:Nat),q2F=w3.length→XL2 evo 21 0 8 ⟨[(2,rL 8 qe t2),(3,rI t3),(5,rP 0),(6,rP 1),(9,rP 2),(12,rO 3 8 q2F),(35,rL 1 eI t35),(36,rI t36),(37,rI t37)],[(0,B.blk 39 [dI qp,dI zn,dI qn,dI qz,dS qA,dI qi,dI qq,dI qk,dL 2 qd qm,dL 5 qh qr,dI qt,dI qF,dI qG,dL 4 (eA2 qd) qo]),(1,B.blk 28 [dI qV,dI zu,dI zw]),(2,B.blk 48 [dL 1 eI q1F,dL 1 eI q35]),(3,bR 57 8 qe w3)],4,87⟩=(zl (zP (qf.mk qp zn qn qz qA (qb.mk qi qq qk qm qr) qt qF qG qo) (qg.mk qV zu zw) (qP.mk q1F q35) t2 t3 t35 t36) (w3,t37)).bind (Sum.elim (fun(e:List qa)=>some (Exit.ret,⟨[(3,rI t3),(5,rP 0),(6,rP 1),(9,rP 2),(10,rI 32),(12,rO 3 8 e.length)],[(0,B.blk 39 [dI qp,dI zn,dI qn,dI qz,dS qA,dI qi,dI qq,dI qk,dL 2 qd qm,dL 5 qh qr,dI qt,dI qF,dI qG,dL 4 (eA2 qd) qo]),(1,B.blk 28 [dI qV,dI zu,dI zw]),(2,B.blk 48 [dL 1 eI q1F,dL 1 eI q35]),(3,bR 57 8 qe e)],4,87⟩)) (fun(e:List qa)=>some (Exit.exit 0,⟨[(3,rI t3),(5,rP 0),(6,rP 1),(9,rP 2),(10,R.any),(12,rO 3 8 e.length)],[(0,B.blk 39 [dI qp,dI zn,dI qn,dI qz,dS qA,dI qi,dI qq,dI qk,dL 2 qd qm,dL 5 qh qr,dI qt,dI qF,dI qG,dL 4 (eA2 qd) qo]),(1,B.blk 28 [dI qV,dI zu,dI zw]),(2,B.blk 48 [dL 1 eI q1F,dL 1 eI q35]),(3,bR 57 8 qe e)],4,87⟩))):=
 by
 intro w3 qp zn qn qz qA qi qq qk qm qr qt qF qG qo qV zu zw q1F q35 t2 t3 t35 t36 t37 q2F h0
 subst h0
 revert t37;revert w3;exact qak qB1 qDr (fun e=>by rcases e with _|_<;>exact⟨_,rfl,fun h=>by cases h⟩) fun w3 t37=>by
  have:=qJK;have:=@qmQ.eq_1;have:=@zP.eq_1;exact gA
theorem q5L:∀  (qp zn qn qz:Int) (qA:ByteArray) (qi qq qk:Int) (qm:List qc) (qr:List qb) (qt qF qG:Int) (qo:List (JS qc)) (qV zu zw:Int) (q1F q35:List Int) (t2:List qa) (t3:Int) (t35:List Int) (t36 t37:Int),XL2 evo 21 0 8 ⟨[(2,rL 8 qe t2),(3,rI t3),(5,rP 0),(6,rP 1),(9,rP 2),(12,rO 3 8 0),(35,rL 1 eI t35),(36,rI t36),(37,rI t37)],[(0,B.blk 39 [dI qp,dI zn,dI qn,dI qz,dS qA,dI qi,dI qq,dI qk,dL 2 qd qm,dL 5 qh qr,dI qt,dI qF,dI qG,dL 4 (eA2 qd) qo]),(1,B.blk 28 [dI qV,dI zu,dI zw]),(2,B.blk 48 [dL 1 eI q1F,dL 1 eI q35]),(3,B.row 57 8 [])],4,87⟩=(zl (zP (qf.mk qp zn qn qz qA (qb.mk qi qq qk qm qr) qt qF qG qo) (qg.mk qV zu zw) (qP.mk q1F q35) t2 t3 t35 t36) ([],t37)).bind (Sum.elim (fun(e:List qa)=>some (Exit.ret,⟨[(3,rI t3),(5,rP 0),(6,rP 1),(9,rP 2),(10,rI 32),(12,rO 3 8 e.length)],[(0,B.blk 39 [dI qp,dI zn,dI qn,dI qz,dS qA,dI qi,dI qq,dI qk,dL 2 qd qm,dL 5 qh qr,dI qt,dI qF,dI qG,dL 4 (eA2 qd) qo]),(1,B.blk 28 [dI qV,dI zu,dI zw]),(2,B.blk 48 [dL 1 eI q1F,dL 1 eI q35]),(3,bR 57 8 qe e)],4,87⟩)) (fun(e:List qa)=>some (Exit.exit 0,⟨[(3,rI t3),(5,rP 0),(6,rP 1),(9,rP 2),(10,R.any),(12,rO 3 8 e.length)],[(0,B.blk 39 [dI qp,dI zn,dI qn,dI qz,dS qA,dI qi,dI qq,dI qk,dL 2 qd qm,dL 5 qh qr,dI qt,dI qF,dI qG,dL 4 (eA2 qd) qo]),(1,B.blk 28 [dI qV,dI zu,dI zw]),(2,B.blk 48 [dL 1 eI q1F,dL 1 eI q35]),(3,bR 57 8 qe e)],4,87⟩))):=by
 intro qp zn qn qz qA qi qq qk qm qr qt qF qG qo qV zu zw q1F q35 t2 t3 t35 t36 t37;have h:=q8b [] ((qf.mk qp zn qn qz qA (qb.mk qi qq qk qm qr) qt qF qG qo)).School ((qf.mk qp zn qn qz qA (qb.mk qi qq qk qm qr) qt qF qG qo)).Id ((qf.mk qp zn qn qz qA (qb.mk qi qq qk qm qr) qt qF qG qo)).Version ((qf.mk qp zn qn qz qA (qb.mk qi qq qk qm qr) qt qF qG qo)).From ((qf.mk qp zn qn qz qA (qb.mk qi qq qk qm qr) qt qF qG qo)).Name ((qf.mk qp zn qn qz qA (qb.mk qi qq qk qm qr) qt qF qG qo)).Need.Kind ((qf.mk qp zn qn qz qA (qb.mk qi qq qk qm qr) qt qF qG qo)).Need.N ((qf.mk qp zn qn qz qA (qb.mk qi qq qk qm qr) qt qF qG qo)).Need.Min ((qf.mk qp zn qn qz qA (qb.mk qi qq qk qm qr) qt qF qG qo)).Need.Set ((qf.mk qp zn qn qz qA (qb.mk qi qq qk qm qr) qt qF qG qo)).Need.L ((qf.mk qp zn qn qz qA (qb.mk qi qq qk qm qr) qt qF qG qo)).Total ((qf.mk qp zn qn qz qA (qb.mk qi qq qk qm qr) qt qF qG qo)).Own ((qf.mk qp zn qn qz qA (qb.mk qi qq qk qm qr) qt qF qG qo)).Age ((qf.mk qp zn qn qz qA (qb.mk qi qq qk qm qr) qt qF qG qo)).Exclude ((qg.mk qV zu zw)).Worst ((qg.mk qV zu zw)).Best ((qg.mk qV zu zw)).Pass ((qP.mk q1F q35)).Taken ((qP.mk q1F q35)).Leaf t2 t3 t35 t36 t37 _ rfl
 first
  | exact h
  | (simp only[rL,dL,bR,bZ,Nat.reduceAdd] at h;exact h)
theorem qNM:okL 48 qm4:=qS (ql qFJ) (by kernel_rfl) (by kernel_rfl)
def qOw:=JA_ @qm4.eq_1 (JA_ @Tryz.f48.eq_1 @qFJ)
theorem qMk:okL 84 qmP:=qS (ql qGz) (by kernel_rfl) (by kernel_rfl)
def qOf:=JA_ @qmP.eq_1 (JA_ @Tryz.f84.eq_1 @qGz)
def q3W (k:Int) (v:Int):Option Bool:=if k<(-1) then some Bool.true else some (decide (v≤k))
def q0l (k:Int) (v:Int):Bool:=if k<(-1) then Bool.true else decide (v≤k)
theorem qaU (k v:Int):q3W k v=some (q0l k v):=by
 unfold q3W q0l
 simp only[Zn]
theorem qbO:∀(k v:Int),ev 84 1 [rI k,rP 0] [(0,B.blk 3 [dI v])]=some (rB (q0l k v),[(0,B.blk 3 [dI v])]):=
 fun k v=>by
  have h:ev 84 1 [rI k,rP 0] [(0,B.blk 3 [dI v])]=(q3W k v).bind (fun(e:Bool)=>some (rB e,[(0,B.blk 3 [dI v])])):=by
   rw[qR qGz qKb.2.2.2 qMk]
   have:=qOf;have:=@q3W.eq_1;exact gA
  rw[qaU] at h
  exact h
def Q8 (b0:Int) (s:List Int) (t7:Int):Int→Option (Int⊕(Int⊕Unit))|t8=>if t8<t7 then if 0≤t8∧t8<((s.length:Nat):Int) then Option.bind s[Int.toNat t8]? fun(a:Int)=>if q0l a b0=Bool.true then some (Sum.inr (Sum.inl t8)) else some (Sum.inl (w64 (t8+1))) else none else some (Sum.inr (Sum.inr ()))
theorem q2r:∀(b0:Int) (s:List Int) (t7 t8:Int),XL2 evo 131 1 2 ⟨[(0,rL 1 eI s),(1,R.c (C.fn 84 [] [dP 0])),(7,rI t7),(8,rI t8)],[(0,B.blk 3 [dI b0])],1,19⟩=(zl (Q8 b0 s t7) t8).bind (Sum.elim (fun(e:Int)=>some (Exit.ret,⟨[(4,rI e)],[(0,B.blk 3 [dI b0])],1,19⟩)) (fun(e:Unit)=>some (Exit.exit 0,⟨[(4,R.any)],[(0,B.blk 3 [dI b0])],1,19⟩))):=
 fun b0 s t7 t8=>by
  revert t8;exact qa6 qiz qhB (fun e=>by rcases e with _|_<;>exact⟨_,rfl,fun h=>by cases h⟩) fun x=>by
   have:=qlv;have:=@qcr.eq_1;have:=@qbO;have:=@Q8.eq_1;exact gA
def Zy (s:List Int) (b0:Int):Option Int:=Option.bind (zl (Q8 b0 s ((s.length:Nat):Int)) 0) fun(a:Sum Int Unit)=>Sum.elim (fun(a2:Int)=>some a2) (fun(a3:Unit)=>some (-1)) a
theorem q2V:∀(s:List Int) (b0:Int),ev 131 1 [rL 1 eI s,R.c (C.fn 84 [] [dP 0])] [(0,B.blk 3 [dI b0])]=(Zy s b0).bind (fun(e:Int)=>some (rI e,[(0,B.blk 3 [dI b0])])):=
 fun s b0=>by
  rw[qR qlJ qr2.2.2.2 qso]
  have:=qlv;have:=@q2r;have:=@Zy.eq_1;exact gA
def Qw (s:List Int) (b0:Int):Option Bool:=Option.bind (Zy s b0) fun(a:Int)=>some (decide (0≤a))
theorem q2q:∀(s:List Int) (b0:Int),ev 83 1 [rL 1 eI s,R.c (C.fn 84 [] [dP 0])] [(0,B.blk 3 [dI b0])]=(Qw s b0).bind (fun(e:Bool)=>some (rB e,[(0,B.blk 3 [dI b0])])):=
 fun s b0=>by
  rw[qR qzW qF9.2.2.2 qFX]
  have:=qFA;have:=@q2V;have:=@Qw.eq_1;exact gA
theorem qJq:okL 85 qk5:=qS (ql qF7) (by kernel_rfl) (by kernel_rfl)
def qJi:=JA_ @qk5.eq_1 (JA_ @Tryz.f85.eq_1 @qF7)
theorem qzQ:lbO 85 8=qp6:=Qr (ql qF7) rfl
theorem qAl:okL 85 qp6:=zJ qJq (qP9 (i:=0) (by kernel_rfl))
theorem qOa:okL 88 qnJ:=qS (ql qI1) (by kernel_rfl) (by kernel_rfl)
def qMt:=JA_ @qnJ.eq_1 (JA_ @Tryz.f88.eq_1 @qI1)
def q1m (k:Int) (v:List Int) (v2:Int):Option Bool:=if 0≤k∧k<((v.length:Nat):Int) then Option.bind v[Int.toNat k]? fun(a:Int)=>some (a==v2) else none
theorem q9n:∀(k:Int) (v:List Int) (v2:Int),ev 88 2 [rI k,rP 0,rP 1] [(0,B.blk 22 [dL 1 eI v]),(1,B.blk 3 [dI v2])]=(q1m k v v2).bind (fun(e:Bool)=>some (rB e,[(0,B.blk 22 [dL 1 eI v]),(1,B.blk 3 [dI v2])])):=
 fun k v v2=>by
  rw[qR qI1 qJd.2.2.2 qOa]
  have:=qMt;have:=@q1m.eq_1;exact gA
def Jj (b0:List Int) (b1:Int) (n:qb) (s:qg) (b4:qM) (t13:List qa) (t14:Int):(qM×Int)→Option ((qM×Int)⊕qM)|(out,t15)=>if t15<t14 then if 0≤t15∧t15<((t13.length:Nat):Int) then Option.bind t13[Int.toNat t15]? fun(a:qa)=>Option.bind (q1m t15 b0 b1) fun(a2:Bool)=>if a2=Bool.true then if out.fine=Bool.true then Option.bind (q4b n s a) fun(a3:Bool)=>some (Sum.inl (qM.mk (w64 (out.many+1)) (w64 (out.credits+a.Credits)) a3,w64 (t15+1))) else some (Sum.inl (qM.mk (w64 (out.many+1)) (w64 (out.credits+a.Credits)) Bool.false,w64 (t15+1))) else some (Sum.inl (out,w64 (t15+1))) else none else some (Sum.inr out)
theorem q8T:∀(b0:List Int) (b1 qB n_N qN:Int) (qO:List qc) (n_L:List qb) (zm zZ Q0 b4_many b4_credits:Int) (b4_fine:Bool) (out_many out_credits:Int) (out_fine:Bool) (t13:List qa) (t14 t15:Int),XL2 evo 87 2 3 ⟨[(3,R.c (C.fn 88 [] [dP 0,dP 1])),(4,rP 2),(5,rP 3),(8,rP 4),(9,rP 5),(13,rL 8 qe t13),(14,rI t14),(15,rI t15)],[(0,B.blk 22 [dL 1 eI b0]),(1,B.blk 3 [dI b1]),(2,B.blk 36 [dI qB,dI n_N,dI qN,dL 2 qd qO,dL 5 qh n_L]),(3,B.blk 28 [dI zm,dI zZ,dI Q0]),(4,B.blk 138 [dI b4_many,dI b4_credits,dB b4_fine]),(5,B.blk 138 [dI out_many,dI out_credits,dB out_fine])],6,44⟩=(zl (Jj b0 b1 (qb.mk qB n_N qN qO n_L) (qg.mk zm zZ Q0) (qM.mk b4_many b4_credits b4_fine) t13 t14) ((qM.mk out_many out_credits out_fine),t15)).bind (fun(e:qM)=>some (Exit.exit 0,⟨[(8,rP 2),(9,rP 3)],[(0,B.blk 22 [dL 1 eI b0]),(1,B.blk 3 [dI b1]),(2,B.blk 138 [dI b4_many,dI b4_credits,dB b4_fine]),(3,B.blk 138 [dI e.many,dI e.credits,dB e.fine])],4,44⟩)):=
 fun b0 b1 qB n_N qN qO n_L zm zZ Q0 b4_many b4_credits b4_fine out_many out_credits out_fine t13 t14 t15=>by
  have h:=q52 (E:=evo) (f:=87) (k:=2) (st:=fun x:qM×Int=>(⟨[(3,R.c (C.fn 88 [] [dP 0,dP 1])),(4,rP 2),(5,rP 3),(8,rP 4),(9,rP 5),(13,rL 8 qe t13),(14,rI t14),(15,rI x.2)],[(0,B.blk 22 [dL 1 eI b0]),(1,B.blk 3 [dI b1]),(2,B.blk 36 [dI qB,dI n_N,dI qN,dL 2 qd qO,dL 5 qh n_L]),(3,B.blk 28 [dI zm,dI zZ,dI Q0]),(4,B.blk 138 [dI b4_many,dI b4_credits,dB b4_fine]),(5,B.blk 138 [dI x.1.many,dI x.1.credits,dB x.1.fine])],6,44⟩:S)) (ex:=fun(e:qM)=>(Exit.exit 0,⟨[(8,rP 2),(9,rP 3)],[(0,B.blk 22 [dL 1 eI b0]),(1,B.blk 3 [dI b1]),(2,B.blk 138 [dI b4_many,dI b4_credits,dB b4_fine]),(3,B.blk 138 [dI e.many,dI e.credits,dB e.fine])],4,44⟩)) (step:=(Jj b0 b1 (qb.mk qB n_N qN qO n_L) (qg.mk zm zZ Q0) (qM.mk b4_many b4_credits b4_fine) t13 t14)) qt8 qt9 (fun e h=>by cases h) (fun x=>by
   obtain⟨out,t15⟩:=x;have:=qF5;have:=@qk0.eq_1;have:=@q9n;have:=@qa2;have:=@Jj.eq_1;exact gA) ((qM.mk out_many out_credits out_fine),t15)
  exact h
def q2z (n:qb) (s:qg) (l:List qa) (b0:List Int) (b1:Int):Option qM:=Option.bind (zl (Jj b0 b1 n s (qM.mk 0 0 Bool.false) l ((l.length:Nat):Int)) (qM.mk 0 0 Bool.true,0)) fun(a:qM)=>some a
theorem qbM:∀(qB n_N qN:Int) (qO:List qc) (n_L:List qb) (zm zZ Q0:Int) (l:List qa) (b0:List Int) (b1:Int),ev 87 2 [R.agg [dI qB,dI n_N,dI qN,dL 2 qd qO,dL 5 qh n_L],R.agg [dI zm,dI zZ,dI Q0],rL 8 qe l,R.c (C.fn 88 [] [dP 0,dP 1])] [(0,B.blk 22 [dL 1 eI b0]),(1,B.blk 3 [dI b1])]=(q2z (qb.mk qB n_N qN qO n_L) (qg.mk zm zZ Q0) l b0 b1).bind (fun(e:qM)=>some (R.agg [dI e.many,dI e.credits,dB e.fine],[(0,B.blk 22 [dL 1 eI b0]),(1,B.blk 3 [dI b1])])):=
 fun qB n_N qN qO n_L zm zZ Q0 l b0 b1=>by
  rw[qR qAF qIu.2.2.2 qHy]
  have:=qF5;have:=@q8T;have:=@q2z.eq_1;exact gA
def ZZ (x:(qb×qg×List qa×List Int×Int)):List R×List (Nat×B):=([R.agg [C.d (D.int .i64 x.1.Kind),C.d (D.int .i64 x.1.N),C.d (D.int .i64 x.1.Min),C.d (D.sl 2 x.1.Set.length (x.1.Set.flatMap qd)),C.d (D.sl 5 x.1.L.length (x.1.L.flatMap qh))],R.c (C.ptr 0 0),R.c (C.ptr 1 0),R.c (C.ptr 2 0),R.c (C.ptr 3 0),R.c (C.ptr 4 0)],[(0,B.blk 28 [C.d (D.int .i64 x.2.1.Worst),C.d (D.int .i64 x.2.1.Best),C.d (D.int .i64 x.2.1.Pass)]),(1,B.blk 26 [C.d (D.sl 8 x.2.2.1.length (x.2.2.1.flatMap qe))]),(2,B.blk 22 [C.d (D.sl 1 x.2.2.2.1.length (x.2.2.2.1.flatMap eI))]),(3,B.blk 3 [C.d (D.int .i64 x.2.2.2.2)]),(4,B.blk 135 [C.fn 85 [] [C.ptr 0 0,C.ptr 1 0,C.ptr 2 0,C.ptr 3 0,C.ptr 4 0]])])
def Jl:(Bool×Bool×qg×List qa×List Int×Int)→R×List (Nat×B):=fun(e:Bool×Bool×qg×List qa×List Int×Int)=>(R.tup [R.c (C.d (D.bool e.1)),R.c (C.d (D.bool e.2.1))],[(0,B.blk 28 [C.d (D.int .i64 e.2.2.1.Worst),C.d (D.int .i64 e.2.2.1.Best),C.d (D.int .i64 e.2.2.1.Pass)]),(1,B.blk 26 [C.d (D.sl 8 e.2.2.2.1.length (e.2.2.2.1.flatMap qe))]),(2,B.blk 22 [C.d (D.sl 1 e.2.2.2.2.1.length (e.2.2.2.2.1.flatMap eI))]),(3,B.blk 3 [C.d (D.int .i64 e.2.2.2.2.2)]),(4,B.blk 135 [C.fn 85 [] [C.ptr 0 0,C.ptr 1 0,C.ptr 2 0,C.ptr 3 0,C.ptr 4 0]])])
def Jo (rF:(qb×qg×List qa×List Int×Int)→Option (Bool×Bool×qg×List qa×List Int×Int)) (b5:qb) (t35:List qb) (t36:Int):(qg×List qa×List Int×Int×Bool×Int×Bool×Int)→Option ((qg×List qa×List Int×Int×Bool×Int×Bool×Int)⊕(qg×List qa×List Int×Int×Bool×Int×Bool))|(b0,b1,b2,b3,t7,t10,t11,t37)=>if t37<t36 then if 0≤t37∧t37<((t35.length:Nat):Int) then Option.bind t35[Int.toNat t37]? fun(a2:qb)=>Option.bind (rF (a2,(b0,(b1,(b2,b3))))) fun(a3:Prod Bool (Prod Bool (Prod qg (Prod (List qa) (Prod (List Int) Int)))))=>if t7=Bool.true then if t11=Bool.true then if a3.2.1=Bool.true then some (Sum.inl (a3.2.2.1,a3.2.2.2.1,a3.2.2.2.2.1,a3.2.2.2.2.2,a3.1,w64 (t10+1),Bool.true,w64 (t37+1))) else some (Sum.inl (a3.2.2.1,a3.2.2.2.1,a3.2.2.2.2.1,a3.2.2.2.2.2,a3.1,t10,Bool.true,w64 (t37+1))) else if(!a3.2.1)=Bool.true then if(!a3.1)=Bool.true then if a3.2.1=Bool.true then some (Sum.inl (a3.2.2.1,a3.2.2.2.1,a3.2.2.2.2.1,a3.2.2.2.2.2,a3.1,w64 (t10+1),Bool.true,w64 (t37+1))) else some (Sum.inl (a3.2.2.1,a3.2.2.2.1,a3.2.2.2.2.1,a3.2.2.2.2.2,a3.1,t10,Bool.true,w64 (t37+1))) else if a3.2.1=Bool.true then some (Sum.inl (a3.2.2.1,a3.2.2.2.1,a3.2.2.2.2.1,a3.2.2.2.2.2,a3.1,w64 (t10+1),b5.Kind==3,w64 (t37+1))) else some (Sum.inl (a3.2.2.1,a3.2.2.2.1,a3.2.2.2.2.1,a3.2.2.2.2.2,a3.1,t10,b5.Kind==3,w64 (t37+1))) else if a3.2.1=Bool.true then some (Sum.inl (a3.2.2.1,a3.2.2.2.1,a3.2.2.2.2.1,a3.2.2.2.2.2,a3.1,w64 (t10+1),Bool.false,w64 (t37+1))) else some (Sum.inl (a3.2.2.1,a3.2.2.2.1,a3.2.2.2.2.1,a3.2.2.2.2.2,a3.1,t10,Bool.false,w64 (t37+1))) else if t11=Bool.true then if a3.2.1=Bool.true then some (Sum.inl (a3.2.2.1,a3.2.2.2.1,a3.2.2.2.2.1,a3.2.2.2.2.2,Bool.false,w64 (t10+1),Bool.true,w64 (t37+1))) else some (Sum.inl (a3.2.2.1,a3.2.2.2.1,a3.2.2.2.2.1,a3.2.2.2.2.2,Bool.false,t10,Bool.true,w64 (t37+1))) else if(!a3.2.1)=Bool.true then if(!a3.1)=Bool.true then if a3.2.1=Bool.true then some (Sum.inl (a3.2.2.1,a3.2.2.2.1,a3.2.2.2.2.1,a3.2.2.2.2.2,Bool.false,w64 (t10+1),Bool.true,w64 (t37+1))) else some (Sum.inl (a3.2.2.1,a3.2.2.2.1,a3.2.2.2.2.1,a3.2.2.2.2.2,Bool.false,t10,Bool.true,w64 (t37+1))) else if a3.2.1=Bool.true then some (Sum.inl (a3.2.2.1,a3.2.2.2.1,a3.2.2.2.2.1,a3.2.2.2.2.2,Bool.false,w64 (t10+1),b5.Kind==3,w64 (t37+1))) else some (Sum.inl (a3.2.2.1,a3.2.2.2.1,a3.2.2.2.2.1,a3.2.2.2.2.2,Bool.false,t10,b5.Kind==3,w64 (t37+1))) else if a3.2.1=Bool.true then some (Sum.inl (a3.2.2.1,a3.2.2.2.1,a3.2.2.2.2.1,a3.2.2.2.2.2,Bool.false,w64 (t10+1),Bool.false,w64 (t37+1))) else some (Sum.inl (a3.2.2.1,a3.2.2.2.1,a3.2.2.2.2.1,a3.2.2.2.2.2,Bool.false,t10,Bool.false,w64 (t37+1))) else none else some (Sum.inr (b0,b1,b2,b3,t7,t10,t11))
theorem q8y (rE:Orc) (rF:(qb×qg×List qa×List Int×Int)→Option (Bool×Bool×qg×List qa×List Int×Int)) (hF:∀y,rE (.fn 85) 5 (ZZ y).1 (ZZ y).2=(rF y).bind fun e=>some (Jl e)) (hM:∀g k a G,g≠85→rE (.fn g) k a G=ev g k a G) (hR:∀g asg bd k a G,rE (.rd g asg bd) k a G=evr g asg bd k a G):∀(qcl qfU qfV:Int) (b1:List qa) (b2:List Int) (b3 q91 qyo qdD:Int) (qdE:List qc) (qyp:List qb) (t7:Bool) (t10:Int) (t11:Bool) (t35:List qb) (t36 t37:Int),XL2 rE 85 5 8 ⟨[(5,rP 4),(6,rP 5),(7,rB t7),(10,rI t10),(11,rB t11),(35,rL 5 qh t35),(36,rI t36),(37,rI t37)],[(0,B.blk 28 [dI qcl,dI qfU,dI qfV]),(1,B.blk 26 [dL 8 qe b1]),(2,B.blk 22 [dL 1 eI b2]),(3,B.blk 3 [dI b3]),(4,B.blk 135 [C.fn 85 [] [dP 0,dP 1,dP 2,dP 3,dP 4]]),(5,B.blk 36 [dI q91,dI qyo,dI qdD,dL 2 qd qdE,dL 5 qh qyp])],6,78⟩=(zl (Jo rF (qb.mk q91 qyo qdD qdE qyp) t35 t36) ((qg.mk qcl qfU qfV),b1,b2,b3,t7,t10,t11,t37)).bind (fun(e:qg×List qa×List Int×Int×Bool×Int×Bool)=>some (Exit.exit 0,⟨[(6,rP 5),(7,rB e.2.2.2.2.1),(10,rI e.2.2.2.2.2.1),(11,rB e.2.2.2.2.2.2)],[(0,B.blk 28 [dI e.1.Worst,dI e.1.Best,dI e.1.Pass]),(1,B.blk 26 [dL 8 qe e.2.1]),(2,B.blk 22 [dL 1 eI e.2.2.1]),(3,B.blk 3 [dI e.2.2.2.1]),(4,B.blk 135 [C.fn 85 [] [dP 0,dP 1,dP 2,dP 3,dP 4]]),(5,B.blk 36 [dI q91,dI qyo,dI qdD,dL 2 qd qdE,dL 5 qh qyp])],6,78⟩)):=
 fun qcl qfU qfV b1 b2 b3 q91 qyo qdD qdE qyp t7 t10 t11 t35 t36 t37=>by
  have h:=q52 (E:=rE) (f:=85) (k:=5) (st:=fun x:qg×List qa×List Int×Int×Bool×Int×Bool×Int=>(⟨[(5,rP 4),(6,rP 5),(7,rB x.2.2.2.2.1),(10,rI x.2.2.2.2.2.1),(11,rB x.2.2.2.2.2.2.1),(35,rL 5 qh t35),(36,rI t36),(37,rI x.2.2.2.2.2.2.2)],[(0,B.blk 28 [dI x.1.Worst,dI x.1.Best,dI x.1.Pass]),(1,B.blk 26 [dL 8 qe x.2.1]),(2,B.blk 22 [dL 1 eI x.2.2.1]),(3,B.blk 3 [dI x.2.2.2.1]),(4,B.blk 135 [C.fn 85 [] [dP 0,dP 1,dP 2,dP 3,dP 4]]),(5,B.blk 36 [dI q91,dI qyo,dI qdD,dL 2 qd qdE,dL 5 qh qyp])],6,78⟩:S)) (ex:=fun(e:qg×List qa×List Int×Int×Bool×Int×Bool)=>(Exit.exit 0,⟨[(6,rP 5),(7,rB e.2.2.2.2.1),(10,rI e.2.2.2.2.2.1),(11,rB e.2.2.2.2.2.2)],[(0,B.blk 28 [dI e.1.Worst,dI e.1.Best,dI e.1.Pass]),(1,B.blk 26 [dL 8 qe e.2.1]),(2,B.blk 22 [dL 1 eI e.2.2.1]),(3,B.blk 3 [dI e.2.2.2.1]),(4,B.blk 135 [C.fn 85 [] [dP 0,dP 1,dP 2,dP 3,dP 4]]),(5,B.blk 36 [dI q91,dI qyo,dI qdD,dL 2 qd qdE,dL 5 qh qyp])],6,78⟩)) (step:=(Jo rF (qb.mk q91 qyo qdD qdE qyp) t35 t36)) qzQ qAl (fun e h=>by cases h) (fun x=>by
   obtain⟨b0,b1,b2,b3,t7,t10,t11,t37⟩:=x;have hF':∀(qE Je qX:Int) (qY:List qc) (Jf:List qb) (q2I q4R q4S:Int) (v2:List qa) (v3:List Int) (v4:Int),rE (.fn 85) 5 [R.agg [dI qE,dI Je,dI qX,dL 2 qd qY,dL 5 qh Jf],rP 0,rP 1,rP 2,rP 3,rP 4] [(0,B.blk 28 [dI q2I,dI q4R,dI q4S]),(1,B.blk 26 [dL 8 qe v2]),(2,B.blk 22 [dL 1 eI v3]),(3,B.blk 3 [dI v4]),(4,B.blk 135 [C.fn 85 [] [dP 0,dP 1,dP 2,dP 3,dP 4]])]=(rF ((qb.mk qE Je qX qY Jf),(qg.mk q2I q4R q4S),v2,v3,v4)).bind (fun e=>some (R.tup [rB e.1,rB e.2.1],[(0,B.blk 28 [dI e.2.2.1.Worst,dI e.2.2.1.Best,dI e.2.2.1.Pass]),(1,B.blk 26 [dL 8 qe e.2.2.2.1]),(2,B.blk 22 [dL 1 eI e.2.2.2.2.1]),(3,B.blk 3 [dI e.2.2.2.2.2]),(4,B.blk 135 [C.fn 85 [] [dP 0,dP 1,dP 2,dP 3,dP 4]])])):=fun qE Je qX qY Jf q2I q4R q4S v2 v3 v4=>hF ((qb.mk qE Je qX qY Jf),(qg.mk q2I q4R q4S),v2,v3,v4)
   have:=qJi;have:=@qp6.eq_1;have:=@Jo.eq_1;exact gA) ((qg.mk qcl qfU qfV),b1,b2,b3,t7,t10,t11,t37)
  exact h
def q13 (rF:(qb×qg×List qa×List Int×Int)→Option (Bool×Bool×qg×List qa×List Int×Int)):(qb×qg×List qa×List Int×Int)→Option (Bool×Bool×qg×List qa×List Int×Int)|(x0,v,v2,v3,v4)=>if q02 x0=Bool.true then Option.bind (q2z x0 v v2 v3 v4) fun(a2:qM)=>Option.bind (q1c x0.Kind) fun(a3:Sum Unit Unit)=>Sum.elim (fun(a4:Unit)=>some (a2.many==0,Q2 a2 x0,v,v2,v3,w64 (v4+1))) (fun(a5:Unit)=>some (a2.many==0,Qu a2 x0,v,v2,v3,w64 (v4+1))) a3 else Option.bind (zl (Jo rF x0 x0.L ((x0.L.length:Nat):Int)) (v,(v2,(v3,(v4,(Bool.true,(0,(Bool.false,0)))))))) fun(a6:Prod qg (Prod (List qa) (Prod (List Int) (Prod Int (Prod Bool (Prod Int Bool))))))=>if(!a6.2.2.2.2.2.2)=Bool.true then some (a6.2.2.2.2.1,decide (x0.N≤a6.2.2.2.2.2.1),a6.1,a6.2.1,a6.2.2.1,a6.2.2.2.1) else some (a6.2.2.2.2.1,Bool.false,a6.1,a6.2.1,a6.2.2.1,a6.2.2.2.1)
theorem q6q:q8i 85 5 ZZ Jl q13:=by
 intro rE rF hF hM hR x
 obtain⟨x0,v,v2,v3,v4⟩:=x
 show qaI rE 85 5 [R.agg [dI x0.Kind,dI x0.N,dI x0.Min,dL 2 qd x0.Set,dL 5 qh x0.L],rP 0,rP 1,rP 2,rP 3,rP 4] [(0,B.blk 28 [dI v.Worst,dI v.Best,dI v.Pass]),(1,B.blk 26 [dL 8 qe v2]),(2,B.blk 22 [dL 1 eI v3]),(3,B.blk 3 [dI v4]),(4,B.blk 135 [C.fn 85 [] [dP 0,dP 1,dP 2,dP 3,dP 4]])]=_
 have hF':∀(qE Je qX:Int) (qY:List qc) (Jf:List qb) (q2I q4R q4S:Int) (v2:List qa) (v3:List Int) (v4:Int),rE (.fn 85) 5 [R.agg [dI qE,dI Je,dI qX,dL 2 qd qY,dL 5 qh Jf],rP 0,rP 1,rP 2,rP 3,rP 4] [(0,B.blk 28 [dI q2I,dI q4R,dI q4S]),(1,B.blk 26 [dL 8 qe v2]),(2,B.blk 22 [dL 1 eI v3]),(3,B.blk 3 [dI v4]),(4,B.blk 135 [C.fn 85 [] [dP 0,dP 1,dP 2,dP 3,dP 4]])]=(rF ((qb.mk qE Je qX qY Jf),(qg.mk q2I q4R q4S),v2,v3,v4)).bind (fun e=>some (R.tup [rB e.1,rB e.2.1],[(0,B.blk 28 [dI e.2.2.1.Worst,dI e.2.2.1.Best,dI e.2.2.1.Pass]),(1,B.blk 26 [dL 8 qe e.2.2.2.1]),(2,B.blk 22 [dL 1 eI e.2.2.2.2.1]),(3,B.blk 3 [dI e.2.2.2.2.2]),(4,B.blk 135 [C.fn 85 [] [dP 0,dP 1,dP 2,dP 3,dP 4]])])):=fun qE Je qX qY Jf q2I q4R q4S v2 v3 v4=>hF ((qb.mk qE Je qX qY Jf),(qg.mk q2I q4R q4S),v2,v3,v4)
 rw[q4N qF7 qJq]
 have:=qJi;have:=@q3S;have:=@qbM;have:=@q56;have:=@q1L;have:=@q31;have:=q8y rE rF hF hM hR;have:=@q13.eq_1;have:=@Jl.eq_1;exact gA
theorem q3N:∀x y,ZZ x=ZZ y→x=y:=by
 rintro⟨⟨qEl,qEm,qEn,qEo,qEp⟩,⟨qKO,qKP,qOz⟩,a2,a3,a4⟩ ⟨⟨qEq,qEr,qEs,qEt,qEu⟩,⟨qKQ,qKR,qOA⟩,b2,b3,b4⟩ h
 simp only[ZZ,Prod.mk.injEq,List.cons.injEq,R.c.injEq,R.agg.injEq,R.tup.injEq,C.d.injEq,C.own.injEq,C.ptr.injEq,C.eptr.injEq,D.int.injEq,D.bool.injEq,D.str.injEq,D.sl.injEq,B.blk.injEq,B.row.injEq,q11,q2P,q1K,q1N,q2h,q2f,q4n,q4m,q4o,q0W,true_and,and_true,qPs] at h
 simp only[h]
theorem q8L:∀x y,Jl x=Jl y→x=y:=by
 rintro⟨a0,a1,⟨qON,qOO,a2_2⟩,a3,a4,a5⟩ ⟨b0,b1,⟨qOP,qOQ,b2_2⟩,b3,b4,b5⟩ h
 simp only[Jl,Prod.mk.injEq,List.cons.injEq,R.c.injEq,R.agg.injEq,R.tup.injEq,C.d.injEq,C.own.injEq,C.ptr.injEq,C.eptr.injEq,D.int.injEq,D.bool.injEq,D.str.injEq,D.sl.injEq,B.blk.injEq,B.row.injEq,q11,q2P,q1K,q1N,q2h,q2f,q4n,q4m,q4o,q0W,true_and,and_true,qPs] at h
 simp only[h]
def JZ:(qb×qg×List qa×List Int×Int)→Option (Bool×Bool×qg×List qa×List Int×Int):=q8A 85 5 ZZ Jl
theorem qbs (x:(qb×qg×List qa×List Int×Int)):JZ x=q13 JZ x:=qdd qFI.2.2.2 q3N q8L q6q x
theorem qaG (x0:qb) (v:qg) (v2:List qa) (v3:List Int) (v4:Int):ev 85 5 [R.agg [dI x0.Kind,dI x0.N,dI x0.Min,dL 2 qd x0.Set,dL 5 qh x0.L],rP 0,rP 1,rP 2,rP 3,rP 4] [(0,B.blk 28 [dI v.Worst,dI v.Best,dI v.Pass]),(1,B.blk 26 [dL 8 qe v2]),(2,B.blk 22 [dL 1 eI v3]),(3,B.blk 3 [dI v4]),(4,B.blk 135 [C.fn 85 [] [dP 0,dP 1,dP 2,dP 3,dP 4]])]=(JZ (x0,v,v2,v3,v4)).bind (fun(e:Bool×Bool×qg×List qa×List Int×Int)=>some (R.tup [rB e.1,rB e.2.1],[(0,B.blk 28 [dI e.2.2.1.Worst,dI e.2.2.1.Best,dI e.2.2.1.Pass]),(1,B.blk 26 [dL 8 qe e.2.2.2.1]),(2,B.blk 22 [dL 1 eI e.2.2.2.2.1]),(3,B.blk 3 [dI e.2.2.2.2.2]),(4,B.blk 135 [C.fn 85 [] [dP 0,dP 1,dP 2,dP 3,dP 4]])])):=(q9X qFI.2.2.2 q3N q6q (x0,v,v2,v3,v4))
theorem qbt:∀(qE Je qX:Int) (qY:List qc) (Jf:List qb) (q2I q4R q4S:Int) (v2:List qa) (v3:List Int) (v4:Int),ev 85 5 [R.agg [dI qE,dI Je,dI qX,dL 2 qd qY,dL 5 qh Jf],rP 0,rP 1,rP 2,rP 3,rP 4] [(0,B.blk 28 [dI q2I,dI q4R,dI q4S]),(1,B.blk 26 [dL 8 qe v2]),(2,B.blk 22 [dL 1 eI v3]),(3,B.blk 3 [dI v4]),(4,B.blk 135 [C.fn 85 [] [dP 0,dP 1,dP 2,dP 3,dP 4]])]=(JZ ((qb.mk qE Je qX qY Jf),(qg.mk q2I q4R q4S),v2,v3,v4)).bind (fun(e:Bool×Bool×qg×List qa×List Int×Int)=>some (R.tup [rB e.1,rB e.2.1],[(0,B.blk 28 [dI e.2.2.1.Worst,dI e.2.2.1.Best,dI e.2.2.1.Pass]),(1,B.blk 26 [dL 8 qe e.2.2.2.1]),(2,B.blk 22 [dL 1 eI e.2.2.2.2.1]),(3,B.blk 3 [dI e.2.2.2.2.2]),(4,B.blk 135 [C.fn 85 [] [dP 0,dP 1,dP 2,dP 3,dP 4]])])):=
 fun qE Je qX qY Jf q2I q4R q4S v2 v3 v4=>qaG (qb.mk qE Je qX qY Jf) (qg.mk q2I q4R q4S) v2 v3 v4
def q2X (n:qb) (s:qg) (l:List qa) (list:List Int):Option Bool:=Option.bind (q1B n) fun(a:List qb)=>Option.bind (JF n) fun(a2:Int)=>if(a2 != 0)=Bool.true then some Bool.false else if(((list.length:Nat):Int) != ((l.length:Nat):Int))=Bool.true then some Bool.false else Option.bind (Qw list ((a.length:Nat):Int)) fun(a3:Bool)=>if a3=Bool.true then some Bool.false else Option.bind (JZ (n,(s,(l,(list,0))))) fun(a4:Prod Bool (Prod Bool (Prod qg (Prod (List qa) (Prod (List Int) Int)))))=>some a4.2.1
theorem qdQ:∀(qB n_N qN:Int) (qO:List qc) (n_L:List qb) (zm zZ Q0:Int) (l:List qa) (list:List Int),ev 48 0 [R.agg [dI qB,dI n_N,dI qN,dL 2 qd qO,dL 5 qh n_L],R.agg [dI zm,dI zZ,dI Q0],rL 8 qe l,rL 1 eI list] []=(q2X (qb.mk qB n_N qN qO n_L) (qg.mk zm zZ Q0) l list).bind (fun(e:Bool)=>some (rB e,[])):=
 fun qB n_N qN qO n_L zm zZ Q0 l list=>by
  rw[qR qFJ qJQ.2.2.2 qNM]
  have:=qOw;have:=@q6i;have:=@q4p;have:=@q2q;have:=@qbt;have:=@q2X.eq_1;exact gA
def qU (x0:qf) (x1:qg) (x2:List qa) (x3:Int) (x4:qP):Option Int:=Option.bind (QI x0 x1) fun(a:Int)=>if(a != 0)=Bool.true then some a else if 10<((x4.Taken.length:Nat):Int) then some 32 else if(((x4.Leaf.length:Nat):Int) != ((x4.Taken.length:Nat):Int))=Bool.true then some 32 else Option.bind (zl (zP x0 x1 x4 x2 x3 x4.Taken ((x4.Taken.length:Nat):Int)) ([],0)) fun(a2:Sum (List qa) (List qa))=>Sum.elim (fun(a3:List qa)=>some 32) (fun(a4:List qa)=>Option.bind (JJ x0 a4 x3) fun(a5:Bool)=>if(!a5)=Bool.true then some 32 else Option.bind (q2X x0.Need x1 a4 x4.Leaf) fun(a6:Bool)=>if(!a6)=Bool.true then some 32 else some 0) a2
theorem qaH:∀(zM q0R zy QK:Int) (QL:ByteArray) (qT zN z8:Int) (za:List qc) (zO:List qb) (Qe ZX ZY:Int) (zz:List (JS qc)) (ZV JT JU:Int) (x2:List qa) (x3:Int) (qfW qjg:List Int),ev 21 0 [R.agg [dI zM,dI q0R,dI zy,dI QK,dS QL,dI qT,dI zN,dI z8,dL 2 qd za,dL 5 qh zO,dI Qe,dI ZX,dI ZY,dL 4 (eA2 qd) zz],R.agg [dI ZV,dI JT,dI JU],rL 8 qe x2,rI x3,R.agg [dL 1 eI qfW,dL 1 eI qjg]] []=(qU (qf.mk zM q0R zy QK QL (qb.mk qT zN z8 za zO) Qe ZX ZY zz) (qg.mk ZV JT JU) x2 x3 (qP.mk qfW qjg)).bind (fun(e:Int)=>some (rI e,[])):=
 fun zM q0R zy QK QL qT zN z8 za zO Qe ZX ZY zz ZV JT JU x2 x3 qfW qjg=>by
  rw[qR qEC qKl.2.2.2 qKj]
  have:=qJK;have:=@q5i;have:=@q5L;have:=@q3M;have:=@qdQ;have:=@qU.eq_1;exact gA
theorem q86:∀(q7I q7J qaf qag zM q0R zy QK:Int) (QL:ByteArray) (qT zN z8:Int) (za:List qc) (zO:List qb) (Qe ZX ZY:Int) (zz:List (JS qc)) (ZV JT JU:Int) (x2:List qa) (x3:Int),ev 21 0 [R.agg [dI zM,dI q0R,dI zy,dI QK,dS QL,dI qT,dI zN,dI z8,dL 2 qd za,dL 5 qh zO,dI Qe,dI ZX,dI ZY,dL 4 (eA2 qd) zz],R.agg [dI ZV,dI JT,dI JU],rL 8 qe x2,rI x3,R.agg [C.d (D.sl 1 2 [D.int .i64 q7I,D.int .i64 q7J]),C.d (D.sl 1 2 [D.int .i64 qaf,D.int .i64 qag])]] []=(qU (qf.mk zM q0R zy QK QL (qb.mk qT zN z8 za zO) Qe ZX ZY zz) (qg.mk ZV JT JU) x2 x3 (qP.mk [q7I,q7J] [qaf,qag])).bind (fun(e:Int)=>some (rI e,[])):=by
 intro q7I q7J qaf qag zM q0R zy QK QL qT zN z8 za zO Qe ZX ZY zz ZV JT JU x2 x3;have h:=qaH ((qf.mk zM q0R zy QK QL (qb.mk qT zN z8 za zO) Qe ZX ZY zz)).School ((qf.mk zM q0R zy QK QL (qb.mk qT zN z8 za zO) Qe ZX ZY zz)).Id ((qf.mk zM q0R zy QK QL (qb.mk qT zN z8 za zO) Qe ZX ZY zz)).Version ((qf.mk zM q0R zy QK QL (qb.mk qT zN z8 za zO) Qe ZX ZY zz)).From ((qf.mk zM q0R zy QK QL (qb.mk qT zN z8 za zO) Qe ZX ZY zz)).Name ((qf.mk zM q0R zy QK QL (qb.mk qT zN z8 za zO) Qe ZX ZY zz)).Need.Kind ((qf.mk zM q0R zy QK QL (qb.mk qT zN z8 za zO) Qe ZX ZY zz)).Need.N ((qf.mk zM q0R zy QK QL (qb.mk qT zN z8 za zO) Qe ZX ZY zz)).Need.Min ((qf.mk zM q0R zy QK QL (qb.mk qT zN z8 za zO) Qe ZX ZY zz)).Need.Set ((qf.mk zM q0R zy QK QL (qb.mk qT zN z8 za zO) Qe ZX ZY zz)).Need.L ((qf.mk zM q0R zy QK QL (qb.mk qT zN z8 za zO) Qe ZX ZY zz)).Total ((qf.mk zM q0R zy QK QL (qb.mk qT zN z8 za zO) Qe ZX ZY zz)).Own ((qf.mk zM q0R zy QK QL (qb.mk qT zN z8 za zO) Qe ZX ZY zz)).Age ((qf.mk zM q0R zy QK QL (qb.mk qT zN z8 za zO) Qe ZX ZY zz)).Exclude ((qg.mk ZV JT JU)).Worst ((qg.mk ZV JT JU)).Best ((qg.mk ZV JT JU)).Pass x2 x3 ((qP.mk [q7I,q7J] [qaf,qag])).Taken ((qP.mk [q7I,q7J] [qaf,qag])).Leaf
 first
  | exact h
  | (simp only[rL,dL,bR,bZ,Nat.reduceAdd] at h;exact h)
theorem qLw:okL 23 qm3:=qS (ql qI7) (by kernel_rfl) (by kernel_rfl)
def qLl:=JA_ @qm3.eq_1 (JA_ @Tryz.f23.eq_1 @qI7)
theorem qN1:okL 50 qo0:=qS (ql qFH) (by kernel_rfl) (by kernel_rfl)
def qLA:=JA_ @qo0.eq_1 (JA_ @Tryz.f50.eq_1 @qFH)
def q01 (a:List Int) (b:List Int):Option Bool:=Option.bind (Zd a b) fun(e0:Bool)=>some e0
theorem q7p:∀(a b:List Int),ev 50 0 [rL 1 eI a,rL 1 eI b] []=(q01 a b).bind (fun(e:Bool)=>some (rB e,[])):=
 fun a b=>by
  rw[qR qFH qJf.2.2.2 qN1]
  have:=qLA;have:=@q1U;have:=@q01.eq_1;exact gA
def q1z (a:qP) (b:qP):Option Bool:=Option.bind (q01 a.Taken b.Taken) fun(a2:Bool)=>if a2=Bool.true then Option.bind (q01 a.Leaf b.Leaf) fun(e0:Bool)=>some e0 else some Bool.false
theorem qbL:∀(q1u q3F q1v q3G:List Int),ev 23 0 [R.agg [dL 1 eI q1u,dL 1 eI q3F],R.agg [dL 1 eI q1v,dL 1 eI q3G]] []=(q1z (qP.mk q1u q3F) (qP.mk q1v q3G)).bind (fun(e:Bool)=>some (rB e,[])):=
 fun q1u q3F q1v q3G=>by
  rw[qR qI7 qJM.2.2.2 qLw]
  have:=qLl;have:=@q7p;have:=@q1z.eq_1;exact gA
theorem q8u:∀(qah qdF qai qdG:Int) , ev 23 0 [R.agg [C.d (D.sl 1 1 [D.int .i64 qah]),C.d (D.sl 1 1 [D.int .i64 qdF])],R.agg [C.d (D.sl 1 1 [D.int .i64 qai]),C.d (D.sl 1 1 [D.int .i64 qdG])]] []=(q1z (qP.mk [qah] [qdF]) (qP.mk [qai] [qdG])).bind (fun(e:Bool)=>some (rB e,[])):=by
 intro qah qdF qai qdG;have h:=qbL ((qP.mk [qah] [qdF])).Taken ((qP.mk [qah] [qdF])).Leaf ((qP.mk [qai] [qdG])).Taken ((qP.mk [qai] [qdG])).Leaf
 first
  | exact h
  | (simp only[rL,dL,bR,bZ,Nat.reduceAdd] at h;exact h)
def q1W:Option Bool:=Option.bind (ZE 11) fun(a:Prod qf (List qa))=>Option.bind (ZE 10) fun(a2:Prod qf (List qa))=>Option.bind (ZE 5) fun(a3:Prod qf (List qa))=>Option.bind (ZE 0) fun(a4:Prod qf (List qa))=>Option.bind (ZE 12) fun(a5:Prod qf (List qa))=>Option.bind (zb a.1 a.2 [(1:Int),2] [(-1),0]) fun(a6:Bool)=>if a6=Bool.true then Option.bind (zb a2.1 a.2 [(0:Int),1] [(-1),0]) fun(a7:Bool)=>if a7=Bool.true then Option.bind (zb a3.1 a.2 [(1:Int)] [(0:Int)]) fun(a8:Bool)=>if a8=Bool.true then Option.bind (zb a4.1 a.2 [(1:Int)] [(0:Int)]) fun(a9:Bool)=>if a9=Bool.true then Option.bind (zb a5.1 a.2 [] []) fun(a10:Bool)=>if a10=Bool.true then Option.bind (zb (qf.mk a.1.School a.1.Id a.1.Version a.1.From a.1.Name a.1.Need a.1.Total a.1.Own 3 a.1.Exclude) a.2 [] []) fun(a11:Bool)=>if a11=Bool.true then Option.bind (zb (qf.mk a.1.School a.1.Id a.1.Version a.1.From a.1.Name a.1.Need 6 a.1.Own a.1.Age [JS.mk (qc.mk 1 (ByteArray.mk (List.toArray [65,49]))) (qc.mk 1 (ByteArray.mk (List.toArray [66,49])))]) a.2 [(2:Int)] [(0:Int)]) fun(a12:Bool)=>Option.bind (qU a.1 (zq 1) a.2 500 (qP.mk [(1:Int),2] [(0:Int),(-1)])) fun(a13:Int)=>if(a13==0)=Bool.true then Option.bind (qU a.1 (zq 1) a.2 500 (qP.mk [(1:Int),2] [(0:Int),0])) fun(a14:Int)=>if(a14==32)=Bool.true then Option.bind (qU a.1 (zq 1) a.2 500 (qP.mk [(0:Int),2] [(-1),0])) fun(a15:Int)=>if a12=Bool.true then if(a15==32)=Bool.true then if 0<((a.2.length:Nat):Int) then Option.bind a.2[0]? fun(a16:qa)=>Option.bind (Zw (qf.mk a.1.School a.1.Id a.1.Version a.1.From a.1.Name a.1.Need a.1.Total a.1.Own 3 a.1.Exclude) a16 500) fun(a17:Bool)=>if a17=Bool.true then if 0<((a.2.length:Nat):Int) then Option.bind a.2[0]? fun(a18:qa)=>Option.bind (Zw a.1 a18 500) fun(a19:Bool)=>if(!a19)=Bool.true then Option.bind (q1z (qP.mk [(1:Int)] [(0:Int)]) (qP.mk [(1:Int)] [(0:Int)])) fun(e0:Bool)=>some e0 else some Bool.false else none else some Bool.false else none else some Bool.false else some Bool.false else some Bool.false else some Bool.false else Option.bind (qU a.1 (zq 1) a.2 500 (qP.mk [(1:Int),2] [(0:Int),(-1)])) fun(a20:Int)=>if(a20==0)=Bool.true then Option.bind (qU a.1 (zq 1) a.2 500 (qP.mk [(1:Int),2] [(0:Int),0])) fun(a21:Int)=>if(a21==32)=Bool.true then Option.bind (qU a.1 (zq 1) a.2 500 (qP.mk [(0:Int),2] [(-1),0])) fun(a22:Int)=>some Bool.false else some Bool.false else some Bool.false else Option.bind (qU a.1 (zq 1) a.2 500 (qP.mk [(1:Int),2] [(0:Int),(-1)])) fun(a23:Int)=>if(a23==0)=Bool.true then Option.bind (qU a.1 (zq 1) a.2 500 (qP.mk [(1:Int),2] [(0:Int),0])) fun(a24:Int)=>if(a24==32)=Bool.true then Option.bind (qU a.1 (zq 1) a.2 500 (qP.mk [(0:Int),2] [(-1),0])) fun(a25:Int)=>some Bool.false else some Bool.false else some Bool.false else Option.bind (qU a.1 (zq 1) a.2 500 (qP.mk [(1:Int),2] [(0:Int),(-1)])) fun(a26:Int)=>if(a26==0)=Bool.true then Option.bind (qU a.1 (zq 1) a.2 500 (qP.mk [(1:Int),2] [(0:Int),0])) fun(a27:Int)=>if(a27==32)=Bool.true then Option.bind (qU a.1 (zq 1) a.2 500 (qP.mk [(0:Int),2] [(-1),0])) fun(a28:Int)=>some Bool.false else some Bool.false else some Bool.false else Option.bind (qU a.1 (zq 1) a.2 500 (qP.mk [(1:Int),2] [(0:Int),(-1)])) fun(a29:Int)=>if(a29==0)=Bool.true then Option.bind (qU a.1 (zq 1) a.2 500 (qP.mk [(1:Int),2] [(0:Int),0])) fun(a30:Int)=>if(a30==32)=Bool.true then Option.bind (qU a.1 (zq 1) a.2 500 (qP.mk [(0:Int),2] [(-1),0])) fun(a31:Int)=>some Bool.false else some Bool.false else some Bool.false else Option.bind (qU a.1 (zq 1) a.2 500 (qP.mk [(1:Int),2] [(0:Int),(-1)])) fun(a32:Int)=>if(a32==0)=Bool.true then Option.bind (qU a.1 (zq 1) a.2 500 (qP.mk [(1:Int),2] [(0:Int),0])) fun(a33:Int)=>if(a33==32)=Bool.true then Option.bind (qU a.1 (zq 1) a.2 500 (qP.mk [(0:Int),2] [(-1),0])) fun(a34:Int)=>some Bool.false else some Bool.false else some Bool.false else Option.bind (qU a.1 (zq 1) a.2 500 (qP.mk [(1:Int),2] [(0:Int),(-1)])) fun(a35:Int)=>if(a35==0)=Bool.true then Option.bind (qU a.1 (zq 1) a.2 500 (qP.mk [(1:Int),2] [(0:Int),0])) fun(a36:Int)=>if(a36==32)=Bool.true then Option.bind (qU a.1 (zq 1) a.2 500 (qP.mk [(0:Int),2] [(-1),0])) fun(a37:Int)=>some Bool.false else some Bool.false else some Bool.false
theorem qaq:ev 10 0 [] []=(q1W).bind (fun(e:Bool)=>some (rB e,[])):=
 by
  rw[qR qHS qJ3.2.2.2 qMr]
  have:=qMm;have:=@q9c;have:=@q2S;have:=@q7f;have:=@q7v;have:=@q63;have:=@q7C;have:=@q86;have:=@q7t;have:=@q4q;have:=@q8u;have:=@q1W.eq_1;exact gA
end

noncomputable section
open Go.RowKit
section
variable {τ ε:Type} {step:τ→Option (τ⊕ε)}
theorem zS {x y:τ} (h:step x=some (.inl y)):zl step x=zl step y:=by
 rw[qoi,h];rfl
theorem zt {x:τ} {e:ε} (h:step x=some (.inr e)):zl step x=some e:=by
 rw[qoi,h];rfl
theorem q27 {e:ε} (st:Nat→τ) (i0 n:Nat) (h0:i0≤n) (h:∀i,i0≤i→i<n→step (st i)=some (.inl (st (i+1)))) (hn:step (st n)=some (.inr e)):zl step (st i0)=some e:=by
 have key:∀j i,j+i=n→i0≤i→zl step (st i)=some e:=by
  intro j
  induction j with
  | zero=>intro i hi _;rw[qPw] at hi;subst hi;exact zt hn
  | succ j ih=>intro i hi h1;rw[zS (h i h1 (by omega))];exact ih (i+1) (by omega) (by omega)
 exact key (n-i0) i0 (by omega) (qPo _)
def qeI {α β ε:Type} (g:β→α→β⊕ε) (fin:β→ε):List α→β→ε
 | [],b=>fin b
 | a::l,b=>match g b a with
  | .inl b'=>qeI g fin l b'
  | .inr e=>e
theorem qev {α β:Type} (l:List α) (st:β→Nat→τ) (g:β→α→β⊕ε) (fin:β→ε)
  (h:∀b i a,l[i]?=some a→step (st b i)=some (match g b a with | .inl b' => .inl (st b' (i+1)) | .inr e => .inr e)) (hn:∀b,step (st b l.length)=some (.inr (fin b))) (b:β):zl step (st b 0)=some (qeI g fin l b):=by
 have key:∀(r:List α) (i:Nat) (b:β),r.length+i=l.length→(∀j,r[j]?=l[i+j]?)→zl step (st b i)=some (qeI g fin r b):=by
  intro r
  induction r with
  | nil=>
   intro i b hi _
   have hi:i=l.length:=by simpa using hi
   subst hi;exact zt (hn b)
  | cons a r ih=>
   intro i b hi hr
   have ha:l[i]?=some a:=by have:=hr 0;simpa using this.symm
   have h1:=h b i a ha
   unfold qeI
   cases hg:g b a with
   | inl b'=>
    rw[hg] at h1
    rw[zS h1]
    refine ih (i+1) b' (by simp at hi;omega) fun j=>?_
    have:=hr (j+1)
    rw[show i+1+j=i+(j+1) by omega,←this];rfl
   | inr e=>
    rw[hg] at h1
    exact zt h1
 exact key l 0 b (by simp) (by simp)
theorem qlo {α β:Type} (l:List α) (st:β→Nat→τ) (g:β→α→β) (fin:β→ε)
  (h:∀b i a,l[i]?=some a→step (st b i)=some (.inl (st (g b a) (i+1)))) (hn:∀b,step (st b l.length)=some (.inr (fin b))) (b:β):zl step (st b 0)=some (fin (l.foldl g b)):=by
 rw[qev l st (fun b a => .inl (g b a)) fin h hn b]
 congr 1
 induction l generalizing b with
 | nil=>rfl
 | cons a l ih=>
  unfold qeI
  simp only[qQc]
  clear h hn
  have:∀(l:List α) (b:β),qeI (ε:=ε) (fun b a => .inl (g b a)) fin l b=fin (l.foldl g b):=by
   intro l
   induction l with
   | nil=>intro b;rfl
   | cons a l ih=>intro b;unfold qeI;simp only[qQc];exact ih _
  exact this l _
theorem qgF {α:Type} (l:List α) (st:Nat→τ) (p:α→Option ε) (d:ε)
  (h:∀i a,l[i]?=some a→step (st i)=some (match p a with|some e => .inr e|none => .inl (st (i+1)))) (hn:step (st l.length)=some (.inr d)):zl step (st 0)=some ((l.findSome? p).getD d):=by
 have h1:=qev (ε:=ε) (β:=Unit) l (fun _ i=>st i) (fun _ a=>match p a with|some e => .inr e|none => .inl ()) (fun _=>d) (fun b i a ha=>by
  rw[h i a ha];cases p a<;>rfl) (fun _=>hn) ()
 rw[h1]
 congr 1
 have:∀l:List α,qeI (ε:=ε) (fun(_:Unit) a=>match p a with|some e => .inr e|none => .inl ()) (fun _=>d) l ()=(l.findSome? p).getD d:=by
  intro l
  induction l with
  | nil=>rfl
  | cons a l ih=>
   unfold qeI
   rw[List.findSome?_cons]
   cases p a with
   | none=>simpa using ih
   | some e=>rfl
 exact this l
def q4z {α β ε:Type} (g:Nat→β→α→β⊕ε) (fin:β→ε):List α→Nat→β→ε
 | [],_,b=>fin b
 | a::l,i,b=>match g i b a with
  | .inl b'=>q4z g fin l (i+1) b'
  | .inr e=>e
theorem q2m {α β:Type} (l:List α) (st:β→Nat→τ) (g:Nat→β→α→β⊕ε) (fin:β→ε)
  (h:∀b i a,l[i]?=some a→step (st b i)=some (match g i b a with | .inl b' => .inl (st b' (i+1)) | .inr e => .inr e)) (hn:∀b,step (st b l.length)=some (.inr (fin b))) (b:β):zl step (st b 0)=some (q4z g fin l 0 b):=by
 have key:∀(r:List α) (i:Nat) (b:β),r.length+i=l.length→(∀j,r[j]?=l[i+j]?)→zl step (st b i)=some (q4z g fin r i b):=by
  intro r
  induction r with
  | nil=>
   intro i b hi _
   have hi:i=l.length:=by simpa using hi
   subst hi;exact zt (hn b)
  | cons a r ih=>
   intro i b hi hr
   have ha:l[i]?=some a:=by have:=hr 0;simpa using this.symm
   have h1:=h b i a ha
   unfold q4z
   cases hg:g i b a with
   | inl b'=>
    rw[hg] at h1
    rw[zS h1]
    refine ih (i+1) b' (by simp at hi;omega) fun j=>?_
    have:=hr (j+1)
    rw[show i+1+j=i+(j+1) by omega,←this];rfl
   | inr e=>
    rw[hg] at h1
    exact zt h1
 exact key l 0 b (by simp) (by simp)
end
theorem ZB {α:Type} {l:List α} {i:Nat} {a:α} (h:l[i]?=some a):i<l.length:=(qPc.1 h).1
theorem Z3 {n:Int} (h0 : -9223372036854775808≤n) (h1:n≤9223372036854775807):w64 n=n:=wi n h0 h1
theorem Qq {i n:Nat} (h:i<n) (hn:n≤9223372036854775807):w64 ((i:Int)+1)=((i+1:Nat):Int):=by
 rw[Z3 (by omega) (by omega)];omega
end
noncomputable section
open Go.RowKit
theorem qjM (a:Nat) (h:a<9223372036854775808):IntKind.i64.wrap (a:Int)=a:=wi _ (by omega) (by omega)
theorem qg3 (a:Nat):BitVec.ofInt IntKind.i64.bits (a:Int)=BitVec.ofNat 64 a:=by
 show BitVec.ofInt 64 (a:Int)=_
 simp
theorem qfs (a b:Nat) (ha:a<9223372036854775808) (hb:b<9223372036854775808):ZW .and .i64 (a:Int) (b:Int)=((a &&& b:Nat):Int):=by
 unfold ZW
 simp only[qg3]
 have h1:(BitVec.ofNat 64 a &&& BitVec.ofNat 64 b).toNat=a &&& b:=by
  rw[BitVec.toNat_and,BitVec.toNat_ofNat,BitVec.toNat_ofNat,Nat.mod_eq_of_lt (by omega),Nat.mod_eq_of_lt (by omega)]
 have h2:a &&& b≤a:=Nat.and_le_left
 show IntKind.i64.wrap (((BitVec.ofNat 64 a &&& BitVec.ofNat 64 b).toNat:Nat):Int)=_
 rw[h1]
 exact qjM _ (by omega)
theorem qeq (a b:Nat) (ha:a<9223372036854775808) (hb:b<9223372036854775808):ZW .andNot .i64 (a:Int) (b:Int)=((a ^^^ (a &&& b):Nat):Int):=by
 unfold ZW
 simp only[qg3]
 have h1:(BitVec.ofNat 64 a &&& ~~~BitVec.ofNat 64 b).toNat=a ^^^ (a &&& b):=by
  apply Nat.eq_of_testBit_eq
  intro i
  rw[BitVec.testBit_toNat,BitVec.getLsbD_and,BitVec.getLsbD_not,BitVec.getLsbD_ofNat,BitVec.getLsbD_ofNat,Nat.testBit_xor,Nat.testBit_and]
  by_cases hi:i<64
  ·simp only[hi,decide_true,qPF]
   cases a.testBit i<;>cases b.testBit i<;>rfl
  ·have:a.testBit i=false:=Nat.testBit_lt_two_pow (qPI ha (by
    have:=Nat.pow_le_pow_right (n:=2) (by decide) (show 63≤i by omega)
    exact this))
   simp[hi,this]
 have h2:a ^^^ (a &&& b)<2 ^ 63:=Nat.xor_lt_two_pow (by omega) (qPK Nat.and_le_left (by omega))
 show IntKind.i64.wrap (((BitVec.ofNat 64 a &&& ~~~BitVec.ofNat 64 b).toNat:Nat):Int)=_
 rw[h1]
 exact qjM _ (by omega)
theorem q9Q (a k:Nat) (hk:k≤64):((a:Int)).fdiv (2 ^ min k IntKind.i64.bits)=((a / 2 ^ k:Nat):Int):=by
 have:min k IntKind.i64.bits=k:=Nat.min_eq_left hk
 rw[this]
 show((a:Int)).fdiv (2 ^ k)=_
 rw[show((2:Int) ^ k)=((2 ^ k:Nat):Int) by simp]
 rw[Int.fdiv_eq_ediv_of_nonneg _ (Int.natCast_nonneg _)]
 simp
theorem qhx (a k:Nat) (ha:a<9223372036854775808) (hk:k≤64):(ZW .and .i64 ((a:Int).fdiv (2 ^ min k IntKind.i64.bits)) 1==1)=a.testBit k:=by
 rw[q9Q a k hk,show(1:Int)=((1:Nat):Int) from rfl,qfs _ _ (qPK (Nat.div_le_self _ _) ha) (by decide),Nat.and_one_is_mod,Nat.testBit_eq_decide_div_mod_eq]
 have:a / 2 ^ k % 2<2:=Nat.mod_lt _ (by decide)
 by_cases h:a / 2 ^ k % 2=1
 ·simp[h]
 ·have:a / 2 ^ k % 2=0:=by omega
  simp[this]
def Zk {α:Type} (N:Nat) (g:Nat→α):List α:=(List.range N).map g
theorem zH {α:Type} (N:Nat) (g:Nat→α):(Zk N g).length=N:=by simp[Zk]
theorem Jz {α:Type} {N:Nat} (g:Nat→α) {i:Nat} (h:i<N):(Zk N g)[i]?=some (g i):=by
 unfold Zk;rw[qPm,List.getElem?_range h];rfl
theorem q0N {α:Type} {N:Nat} {f g:Nat→α} (h:∀k,k<N→f k=g k):Zk N f=Zk N g:=by
 unfold Zk
 refine List.map_congr_left fun k hk=>h k (qQ5.1 hk)
theorem q4D {α:Type} (N:Nat) (c:α):List.replicate N c=Zk N (fun _=>c):=by
 unfold Zk
 induction N with
 | zero=>rfl
 | succ n ih=>rw[List.range_succ,List.map_append,←ih,List.replicate_succ'];rfl
def qbn {α:Type} (g:Nat→α) (i:Nat) (v:α):Nat→α:=fun k=>if k=i then v else g k
theorem JA {α:Type} (N:Nat) (g:Nat→α) (i:Nat) (v:α):(Zk N g).set i v=Zk N (qbn g i v):=by
 refine List.ext_getElem? fun k=>?_
 rw[List.getElem?_set,zH]
 by_cases hk:k<N
 ·rw[Jz _ hk,Jz _ hk]
  unfold qbn
  by_cases h:i=k
  ·subst h;simp[hk]
  ·rw[if_neg h,if_neg (fun h2=>h h2.symm)]
 ·have e1:(Zk N g)[k]?=none:=qPG (by rw[zH];omega)
  have e2:(Zk N (qbn g i v))[k]?=none:=qPG (by rw[zH];omega)
  rw[e1,e2]
  split
  ·rw[if_neg (by omega)]
  ·rfl
theorem qcw {α:Type} (g:Nat→α) (i:Nat) (v:α):qbn g i v i=v:=by simp[qbn]
theorem q98 {α:Type} (g:Nat→α) (i:Nat) (v w:α):qbn (qbn g i v) i w=qbn g i w:=by
 funext k;unfold qbn;split<;>rfl
theorem qlm {α:Type} (f:Nat→α) (c:α) {i0 i:Nat} (h:i0≤i):qbn (fun k=>if i0≤k∧k<i then f k else c) i (f i)=fun k=>if i0≤k∧k<i+1 then f k else c:=by
 funext k
 unfold qbn
 by_cases hk:k=i
 ·subst hk;rw[if_pos rfl,if_pos ⟨h,Nat.lt_succ_self _⟩]
 ·rw[if_neg hk]
  show(if i0≤k∧k<i then f k else c)=_
  by_cases h:i0≤k∧k<i
  ·rw[if_pos h,if_pos ⟨h.1,by omega⟩]
  ·rw[if_neg h,if_neg (by omega)]
end
noncomputable section
open Go.RowKit
def ceq (a b:qc):Bool:=(a.School==b.School)&&(a.Code.toList==b.Code.toList)
def qjS (n a b:Int):Int:=max (min a b) (min n (max a b))
def qd6 (s:qg):Bool:=qjS s.Worst (-1000) 1000==s.Worst&&qjS s.Best (-1000) 1000==s.Best&&s.Worst != s.Best&&qjS s.Pass s.Worst s.Best==s.Pass
def qjZ (s:qg) (g:Int):Bool:=qd6 s&&qjS g s.Worst s.Best==g
def qpA (s:qg) (g m:Int):Bool:=qjZ s g&&(g==m||(decide (m<g)==decide (s.Worst<s.Best)))
theorem q5T (s:qg):q1w s=some (if qd6 s then 0 else 10):=by
 have h1:=qgF (ε:=Unit⊕Unit) (step:=Jp [s.Worst,s.Best] s 2) [s.Worst,s.Best] (fun i=>(i:Int)) (fun a=>if qjS a (-1000) 1000 != a then some (.inl ()) else none) (.inr ()) (fun i a ha=>by
   have hi:i<2:=by obtain⟨h,_⟩:=qPc.1 ha;simpa using h
   have hw:w64 ((i:Int)+1)=((i+1:Nat):Int):=Qq hi (by omega)
   unfold Jp
   rw[if_pos (by omega),if_pos ⟨by omega,by simpa using by omega⟩,qPb,ha,qP8,hw]
   show(if(qjS a (-1000) 1000 != a)=true then _ else _)=_
   split<;>simp_all) (by
   unfold Jp
   rfl)
 unfold q1w
 rw[show((0:Int))=((0:Nat):Int) from rfl,h1,qP8]
 unfold qd6 QA
 simp only[List.findSome?_cons,List.findSome?_nil]
 show _=some (if(qjS s.Worst (-1000) 1000==s.Worst&&qjS s.Best (-1000) 1000==s.Best&&s.Worst != s.Best&&qjS s.Pass s.Worst s.Best==s.Pass)=true then 0 else 10)
 change (Sum.elim _ (fun _=>if(s.Worst==s.Best)=true then some (10:Int) else if(qjS s.Pass s.Worst s.Best != s.Pass)=true then some 10 else some 0) _)=_
 by_cases e1:qjS s.Worst (-1000) 1000=s.Worst<;>by_cases e2:qjS s.Best (-1000) 1000=s.Best<;>by_cases e3:s.Worst=s.Best<;>by_cases e4:qjS s.Pass s.Worst s.Best=s.Pass<;>simp[e1,e2,e3,e4,bne]
theorem qeT (s:qg) (g:Int):q2B s g=some (qjZ s g):=by
 unfold q2B qjZ
 rw[q5T,qP8]
 cases h:qd6 s<;>simp[QA,qjS]
theorem ql8 (s:qg) (g m:Int):q1a s g m=some (qpA s g m):=by
 unfold q1a qpA
 rw[qeT,qP8]
 cases h:qjZ s g
 ·simp
 ·by_cases h2:g=m<;>simp[h2]
theorem qcm (p:qc→Bool):∀(l:List qc) (i:Nat),(decide (0≤(q4z (ε:=Int⊕Unit) (fun i (_:Unit) a=>if p a=true then .inr (.inl (i:Int)) else .inl ()) (fun _ => .inr ()) l i ()).elim id (fun _ => -1)))=l.any p
 | [],i=>rfl
 | a::l,i=>by
  unfold q4z
  by_cases h:p a=true
  ·simp[h]
  ·have h':p a=false:=by simpa using h
   simp only[h',List.any_cons,Bool.false_or]
   exact qcm p l (i+1)
theorem qqu (l:List qc) (hl:l.length≤9223372036854775807) (v:qc):∃i:Int,Q6 l v=some i∧(decide (0≤i))=l.any (ceq v):=by
 have h1:=q2m (ε:=Int⊕Unit) (step:=zB v l (l.length:Int)) l (fun(b:Unit) i=>(i:Int)) (fun i b a=>if ceq v a=true then .inr (.inl (i:Int)) else .inl ()) (fun _ => .inr ()) (fun b i a ha=>by
   have hi:=ZB ha
   have hw:w64 ((i:Int)+1)=((i+1:Nat):Int):=Qq hi hl
   unfold zB
   rw[if_pos (by omega),if_pos ⟨by omega,by omega⟩,qPb,ha,qP8,hw]
   unfold ceq
   by_cases e1:v.School=a.School<;>by_cases e2:v.Code.toList=a.Code.toList<;>simp[e1,e2]) (fun b=>by
   unfold zB
   rw[if_neg (by omega)]) ()
 refine⟨_,?_,qcm (ceq v) l 0⟩
 unfold Q6
 rw[show((0:Int))=((0:Nat):Int) from rfl,h1,qP8]
 cases(q4z (ε:=Int⊕Unit) (fun i (_:Unit) a=>if ceq v a=true then .inr (.inl (i:Int)) else .inl ()) (fun _ => .inr ()) l 0 ())<;>rfl
theorem qhw (l:List qc) (hl:l.length≤9223372036854775807) (v:qc):zV l v=some (l.any (ceq v)):=by
 obtain⟨i,h1,h2⟩:=qqu l hl v
 unfold zV
 rw[h1,qP8,h2]
def q9B (n:qb):Bool:=n.Kind==1||n.Kind==2
theorem qc0 (n:qb):q02 n=q9B n:=by
 unfold q02 q9B
 cases h:(n.Kind==1)<;>simp
def qlz (n:qb) (s:qg) (a:qa):Bool:=q9B n&&n.Set.any (ceq a.Course)&&qpA s a.Grade n.Min
theorem qoX (n:qb) (hn:n.Set.length≤9223372036854775807) (s:qg) (a:qa):q4b n s a=some (qlz n s a):=by
 unfold q4b qlz
 rw[qc0,qhw n.Set hn,ql8]
 cases q9B n<;>cases n.Set.any (ceq a.Course)<;>simp
def wgF (n:qb) (s:qg) (set:Nat):List qa→Nat→qM→qM
 | [],_,x=>x
 | a::l,k,x=>wgF n s set l (k+1) (if set.testBit k=true then⟨w64 (x.many+1),w64 (x.credits+a.Credits),x.fine&&qlz n s a⟩ else x)
def ld0:qM:=⟨0,0,true⟩
theorem qkK (n:qb) (hn:n.Set.length≤9223372036854775807) (s:qg) (l:List qa) (hl:l.length≤62) (set:Nat) (hs:set<9223372036854775808):q1o n s l (set:Int)=some (wgF n s set l 0 ld0):=by
 have h1:=q2m (ε:=qM) (step:=q07 (set:Int) n s (qM.mk (0:Int) (0:Int) Bool.false) l (l.length:Int)) l (fun(b:qM) i=>(b,(i:Int))) (fun i b a => .inl (if set.testBit i=true then⟨w64 (b.many+1),w64 (b.credits+a.Credits),b.fine&&qlz n s a⟩ else b)) (fun b=>b) (fun b i a ha=>by
   have hi:=ZB ha
   have hw:w64 ((i:Int)+1)=((i+1:Nat):Int):=Qq hi (by omega)
   have hb:q1g (i:Int) (set:Int)=some (set.testBit i):=by
    unfold q1g
    rw[if_pos (by omega),qPb,qhx set i hs (by omega)]
   unfold q07
   simp only
   rw[if_pos (by omega),if_pos ⟨by omega,by omega⟩,qPb,ha,qP8,hw,hb,qP8]
   cases set.testBit i
   ·simp
   ·cases hf:b.fine
    ·simp
    ·simp[qoX n hn s a]) (fun b=>by
   unfold q07
   simp only
   rw[if_neg (by omega)]) ld0
 unfold q1o
 change Option.bind (zl _ (ld0,((0:Nat):Int))) _=_
 rw[h1,qP8]
 congr 1
 have:∀(l:List qa) (i:Nat) (b:qM),q4z (ε:=qM) (fun i (b:qM) (a:qa) => .inl (if set.testBit i=true then⟨w64 (b.many+1),w64 (b.credits+a.Credits),b.fine&&qlz n s a⟩ else b)) (fun b=>b) l i b=wgF n s set l i b:=by
  intro l
  induction l with
  | nil=>intro i b;rfl
  | cons a l ih=>intro i b;unfold q4z wgF;exact ih _ _
 exact this l 0 ld0
def qeh (n:qb) (x:qM):Bool:=if n.Kind=1 then x.fine&&x.many==1 else x.fine&&decide (0<x.many)&&decide (n.N≤x.credits)
end
noncomputable section
open Go.RowKit
def q1C (set sub:Nat):Nat:=set ^^^ (set &&& sub)
theorem Z7 (set sub i:Nat):(q1C set sub).testBit i=(set.testBit i && !sub.testBit i):=by
 unfold q1C
 rw[Nat.testBit_xor,Nat.testBit_and]
 cases set.testBit i<;>cases sub.testBit i<;>rfl
theorem qjw (set sub:Nat):q1C set sub≤set:=by
 have:q1C set sub &&& set=q1C set sub:=Nat.eq_of_testBit_eq fun i=>by
  rw[Nat.testBit_and,Z7];cases set.testBit i<;>cases sub.testBit i<;>rfl
 rw[←this];exact Nat.and_le_right
def eaV (own:Nat→Bool) (best:Nat→Int) (set sub:Nat) (v:Int):Int:=if own sub=true∧0≤best (q1C set sub) then max v (best (q1C set sub)+1) else v
def eaF (own:Nat→Bool) (best:Nat→Int) (set:Nat):Nat→Nat→Int→Int
 | 0,_,v=>v
 | f+1,sub,v=>if sub=0 then v else eaF own best set f ((sub-1) &&& set) (eaV own best set sub v)
def Bnd (best:Nat→Int) (N:Nat) (M:Int):Prop:=∀k,k<N → -1≤best k∧best k≤M
section
variable {N:Nat} (hN:N≤65536) {own:Nat→Bool} {best:Nat→Int} {M:Int} (hM:M≤1000000) (hb:Bnd best N M)
include hN hM hb
theorem qr7 {set sub:Nat} (hs:set<N) (hsub:sub<N) (g:Nat→Int):q1l (sub:Int) ((q1C set sub:Nat):Int) (Zk N best) (Zk N g) (Zk N own) (set:Int)=some (Zk N (qbn g set (eaV own best set sub (g set)))):=by
 have hr:=qjw set sub
 have hbr:=hb (q1C set sub) (by omega)
 unfold q1l
 rw[zH,if_pos ⟨by omega,by omega⟩,qPb,Jz own hsub,qP8]
 unfold eaV
 cases ho:own sub
 ·simp only[Bool.false_eq_true,if_false,false_and]
  rw[←JA]
  congr 1
  refine List.ext_getElem? fun k=>?_
  rw[List.getElem?_set]
  split
  ·rename_i h;subst h;rw[zH,if_pos hs,Jz _ hs]
  ·rfl
 ·simp only[if_true,true_and]
  rw[zH,if_pos ⟨by omega,by omega⟩,qPb,Jz best (by omega),qP8]
  by_cases h0:0≤best (q1C set sub)
  ·rw[if_pos h0,if_pos h0,zH,if_pos ⟨by omega,by omega⟩,qPb,Jz g hs,qP8,if_pos ⟨by omega,by omega⟩,qP8,if_pos ⟨by omega,by omega⟩,if_pos (by omega),Z3 (by omega) (by omega),JA]
  ·rw[if_neg h0,if_neg h0,←JA]
   congr 1
   refine List.ext_getElem? fun k=>?_
   rw[List.getElem?_set]
   split
   ·rename_i h;subst h;rw[zH,if_pos hs,Jz _ hs]
   ·rfl
theorem qf1 {set:Nat} (hs:set<N):∀(f sub:Nat),sub≤f→sub≤set→∀(g:Nat→Int),zl (Qm (Zk N best) (Zk N own) (set:Int) (set:Int)) (Zk N g,(sub:Int))=some (Zk N (qbn g set (eaF own best set f sub (g set)))):=by
 have hself:∀g:Nat→Int,qbn g set (g set)=g:=fun g=>by funext k;unfold qbn;split<;>simp_all
 have h0:∀(g:Nat→Int),zl (Qm (Zk N best) (Zk N own) (set:Int) (set:Int)) (Zk N g,((0:Nat):Int))=some (Zk N g):=fun g=>by
  refine zt ?_
  unfold Qm
  simp
 intro f
 induction f with
 | zero=>
  intro sub hf _ g
  have:sub=0:=by omega
  subst this
  rw[h0]
  unfold eaF
  rw[hself]
 | succ f ih=>
  intro sub hf hle g
  unfold eaF
  by_cases hz:sub=0
  ·subst hz
   rw[h0,if_pos rfl,hself]
  ·have ha:(sub-1) &&& set≤sub-1:=Nat.and_le_left
   have hstep:Qm (Zk N best) (Zk N own) (set:Int) (set:Int) (Zk N g,(sub:Int))=some (.inl (Zk N (qbn g set (eaV own best set sub (g set))),((((sub-1) &&& set:Nat)):Int))):=by
    unfold Qm
    simp only
    rw[if_pos (by omega),qeq _ _ (by omega) (by omega),Z3 (by omega) (by omega),show((sub:Int)-1)=((sub-1:Nat):Int) by omega,qfs _ _ (by omega) (by omega)]
    have:=qr7 hN hM hb (own:=own) hs (sub:=sub) (by omega) g
    unfold q1C at this
    rw[this,qP8]
   rw[zS hstep,ih _ (by omega) (by omega),if_neg hz,qcw,q98]
end
def stF (skip:Bool) (own:Nat→Bool) (best:Nat→Int) (set:Nat):Int:=eaF own best set set set (if skip=true then best set else -1)
theorem qvM {own:Nat→Bool} {best:Nat→Int} {N:Nat} {M:Int} (hb:Bnd best N M) (hM : -1≤M) {set sub:Nat} (hs:set<N) {v:Int} (h : -1≤v∧v≤M+1) : -1≤eaV own best set sub v∧eaV own best set sub v≤M+1:=by
 have:=hb (q1C set sub) (qPK (qjw set sub) hs)
 unfold eaV
 split<;>omega
theorem qnK {own:Nat→Bool} {best:Nat→Int} {N:Nat} {M:Int} (hb:Bnd best N M) (hM : -1≤M) {set:Nat} (hs:set<N):∀(f sub:Nat) (v:Int),-1≤v∧v≤M+1 → -1≤eaF own best set f sub v∧eaF own best set f sub v≤M+1
 | 0,_,_,h=>h
 | f+1,sub,v,h=>by
  unfold eaF
  split
  ·exact h
  ·exact qnK hb hM hs f _ _ (qvM hb hM hs h)
theorem qnX {skip:Bool} {own:Nat→Bool} {best:Nat→Int} {N:Nat} {M:Int} (hb:Bnd best N M) (hM : -1≤M):Bnd (stF skip own best) N (M+1):=fun k hk=>by
 unfold stF
 have:=hb k hk
 refine qnK hb hM hk _ _ _ ?_
 split<;>omega
end
noncomputable section
open Go.RowKit
def b0F (k:Nat):Int:=if k=0 then 0 else -1
def alG (leaf:Int) (set:Nat):List Int→Nat→Bool
 | [],_=>true
 | x::d,k=>(set.testBit k==(x==leaf))&&alG leaf set d (k+1)
def alF (d:List Int) (leaf set:Nat):Bool:=alG (leaf:Int) set d 0
def foF (d:List Int) (a b:Nat):Bool:=d.any fun x=>decide ((a:Int)≤x)&&decide (x<(b:Int))
def q2i (d:List Int) (s:qg) (l:List qa) (n:qb) (nx set:Nat):Bool:=decide (set≠0)&&(alF d nx set&&qeh n (wgF n s set l 0 ld0))
mutual
def lvN:qb→Nat
 | ⟨k,_,_,_,L⟩=>if k=1∨k=2 then 1 else lvL L
def lvL:List qb→Nat
 | []=>0
 | x::L=>lvN x+lvL L
end
mutual
def ndN:qb→List qb
 | ⟨k,n,m,S,L⟩=>⟨k,n,m,S,L⟩::ndL L
def ndL:List qb→List qb
 | []=>[]
 | x::L=>ndN x++ndL L
end
theorem qdc (n:qb):lvN n=if n.Kind=1∨n.Kind=2 then 1 else lvL n.L:=by cases n;rw[lvN]
theorem q0a (n:qb):ndN n=n::ndL n.L:=by cases n;rw[ndN]
mutual
def QN (d:List Int) (s:qg) (l:List qa):qb→Nat→Nat→Bool
 | ⟨k,n,m,S,L⟩,nx,set=>if k=1∨k=2 then q2i d s l ⟨k,n,m,S,L⟩ nx set else decide (set≠0)&&decide ((if k=3 then(L.length:Int) else n)≤qby d s l (k==4) L nx b0F set)
def qby (d:List Int) (s:qg) (l:List qa) (sk:Bool):List qb→Nat→(Nat→Int)→Nat→Int
 | [],_,b,set=>b set
 | x::L,nx,b,set=>qby d s l sk L (nx+lvN x) (stF (sk && !foF d nx (nx+lvN x)) (QN d s l x nx) b) set
end
theorem qdl (d:List Int) (s:qg) (l:List qa) (n:qb) (nx set:Nat):QN d s l n nx set=if n.Kind=1∨n.Kind=2 then q2i d s l n nx set else decide (set≠0)&&decide ((if n.Kind=3 then(n.L.length:Int) else n.N)≤qby d s l (n.Kind==4) n.L nx b0F set):=by cases n;rw[QN]
theorem qll:∀n:qb,lvN n≤(ndN n).length:=by
 intro n
 induction n using qb.rec (motive_2:=fun L=>lvL L≤(ndL L).length) with
 | mk k n m S L ih=>rw[lvN,ndN,qPj];split<;>omega
 | nil=>simp[lvL]
 | cons x L h1 h2=>rw[lvL,ndL,qPf];omega
theorem ql7 (d:List Int) (hd:d.length≤16) (leaf set:Nat) (hs:set<9223372036854775808):q0P (leaf:Int) (set:Int) d=some (alF d leaf set):=by
 have h1:=q2m (ε:=Unit⊕Unit) (step:=JG d (leaf:Int) (set:Int) (d.length:Int)) d (fun(_:Unit) i=>(i:Int)) (fun i _ x=>if(set.testBit i==(x==(leaf:Int)))=true then .inl () else .inr (.inl ())) (fun _ => .inr ()) (fun _ i x hx=>by
   have hi:=ZB hx
   have hw:w64 ((i:Int)+1)=((i+1:Nat):Int):=Qq hi (by omega)
   unfold JG
   rw[if_pos (by omega),if_pos ⟨by omega,by omega⟩,qPb,hx,qP8,if_pos (by omega),hw,qhx set i hs (by omega)]
   cases(set.testBit i==(x==(leaf:Int)))<;>simp) (fun _=>by
   unfold JG
   rw[if_neg (by omega)]) ()
 unfold q0P
 change Option.bind (zl _ ((0:Nat):Int)) _=_
 rw[h1,qP8]
 have:∀(d:List Int) (k:Nat),(Sum.elim (fun(_:Unit)=>some false) (fun(_:Unit)=>some true) (q4z (ε:=Unit⊕Unit) (fun i (_:Unit) (x:Int)=>if(set.testBit i==(x==(leaf:Int)))=true then .inl () else .inr (.inl ())) (fun _ => .inr ()) d k ()))=some (alG leaf set d k):=by
  intro d
  induction d with
  | nil=>intro k;rfl
  | cons x d ih=>
   intro k
   unfold q4z alG
   cases h:(set.testBit k==(x==(leaf:Int)))
   ·simp
   ·simp only[if_true,qPF];exact ih (k+1)
 exact this d 0
theorem qpm (d:List Int) (hd:d.length≤16) (a b:Nat):q1V (a:Int) (b:Int) d=some (foF d a b):=by
 have h1:=q2m (ε:=Int⊕Unit) (step:=Q7 (a:Int) (b:Int) d (d.length:Int)) d (fun(_:Unit) i=>(i:Int)) (fun i _ x=>if(decide ((a:Int)≤x)&&decide (x<(b:Int)))=true then .inr (.inl (i:Int)) else .inl ()) (fun _ => .inr ()) (fun _ i x hx=>by
   have hi:=ZB hx
   have hw:w64 ((i:Int)+1)=((i+1:Nat):Int):=Qq hi (by omega)
   unfold Q7 JY
   rw[if_pos (by omega),if_pos ⟨by omega,by omega⟩,qPb,hx,qP8,hw]
   by_cases h2:(a:Int)≤x
   ·by_cases h3:x<(b:Int)<;>simp[h2,h3]
   ·simp[h2]) (fun _=>by
   unfold Q7
   rw[if_neg (by omega)]) ()
 unfold q1V Z4 Zz
 change Option.bind (Option.bind (Option.bind (zl _ ((0:Nat):Int)) _) _) _=_
 rw[h1,qP8]
 have:∀(d:List Int) (k:Nat),((Sum.elim (fun(a2:Int)=>some a2) (fun(_:Unit)=>some (-(1:Int))) (q4z (ε:=Int⊕Unit) (fun i (_:Unit) (x:Int)=>if(decide ((a:Int)≤x)&&decide (x<(b:Int)))=true then .inr (.inl (i:Int)) else .inl ()) (fun _ => .inr ()) d k ())).bind fun a=>some (decide ((0:Int)≤a)))=some (foF d a b):=by
  intro d
  induction d with
  | nil=>intro k;rfl
  | cons x d ih=>
   intro k
   unfold q4z foF
   rw[List.any_cons]
   cases h:(decide ((a:Int)≤x)&&decide (x<(b:Int)))
   ·simp only[Bool.false_eq_true,if_false,Bool.false_or];exact ih (k+1)
   ·simp
 have h2:=this d 0
 rw[qPd] at h2
 obtain⟨i,h3,h4⟩:=h2
 rw[h3,qP8,h4,qP8]
end
noncomputable section
open Go.RowKit
mutual
def hgN:qb→Nat
 | ⟨_,_,_,_,L⟩=>1+hgL L
def hgL:List qb→Nat
 | []=>0
 | x::L=>max (hgN x) (hgL L)
end
mutual
def dpN (d:Int):qb→Int→Int
 | ⟨_,_,_,_,L⟩,m=>dpL (d+1) L (max m d)
def dpL (d:Int):List qb→Int→Int
 | [],m=>m
 | x::L,m=>dpL d L (dpN d x m)
end
theorem qex (n:qb):hgN n=1+hgL n.L:=by cases n;rw[hgN]
theorem qta (d:Int) (n:qb) (m:Int):dpN d n m=dpL (d+1) n.L (max m d):=by cases n;rw[dpN]
theorem q7L (k:Nat) (h:k≤100000):k≤maxLen∧k*72≤140737488355328:=⟨by unfold maxLen;omega,by omega⟩
def qtz (y:qb):Prop:=∀(deep:Int) (w:List qb) (b2:Int) (b3:Bool),1≤deep→deep+hgN y≤101→w.length+(ndN y).length≤10000→Jy (y,deep,w,b2,b3)=some (.inr (w++ndN y,dpN deep y b2,b3))
theorem qjA (rF:(qb×Int×List qb×Int×Bool)→Option (Int⊕(List qb×Int×Bool))) (deep:Int) (hd:1≤deep) (L:List qb) (hL:L.length≤10000)
  (step:List qb×Int×Bool×Int→Option ((List qb×Int×Bool×Int)⊕(Int⊕(List qb×Int×Bool))))
  (hst:∀w b2 b3 (i:Nat),step (w,b2,b3,(i:Int))=if(i:Int)<(L.length:Int) then if(0:Int)≤i∧(i:Int)<(L.length:Int) then Option.bind L[Int.toNat i]? fun a2=>Option.bind (rF (a2,w64 (deep+1),w,b2,b3)) fun a3=>Sum.elim (fun a4=>some (Sum.inr (Sum.inl a4))) (fun a5=>some (Sum.inl (a5.1,a5.2.1,a5.2.2,w64 ((i:Int)+1)))) a3 else none else some (.inr (.inr (w,b2,b3))))
  (hP:∀y∈L,∀(w:List qb) (b2:Int) (b3:Bool),deep+1+hgN y≤101→w.length+(ndN y).length≤10000→rF (y,deep+1,w,b2,b3)=some (.inr (w++ndN y,dpN (deep+1) y b2,b3))) :
  ∀(r:List qb) (i:Nat) (w:List qb) (b2:Int) (b3:Bool),r.length+i=L.length→(∀j,r[j]?=L[i+j]?)→deep+1+hgL r≤101→w.length+(ndL r).length≤10000→
  zl step (w,b2,b3,(i:Int))=some (.inr (w++ndL r,dpL (deep+1) r b2,b3)):=by
 intro r
 induction r with
 | nil=>
  intro i w b2 b3 hi _ _ _
  have hi:i=L.length:=by simpa using hi
  subst hi
  refine zt ?_
  rw[hst,if_neg (by omega),ndL,dpL,qPt]
 | cons y r ih=>
  intro i w b2 b3 hi hr hh hw
  rw[hgL] at hh
  rw[ndL,qPf] at hw
  simp only[qPj] at hi
  have hget:L[i]?=some y:=by have:=hr 0;simpa using this.symm
  have hlt:=ZB hget
  have hcall:=hP y (qP9 hget) w b2 b3 (by omega) (by omega)
  have hstep:step (w,b2,b3,(i:Int))=some (.inl (w++ndN y,dpN (deep+1) y b2,b3,((i+1:Nat):Int))):=by
   rw[hst,if_pos (by omega),if_pos ⟨by omega,by omega⟩,qPb,hget,qP8,Z3 (by omega) (by omega),hcall,qP8,Qq hlt (by omega)]
   rfl
  rw[zS hstep,ih (i+1) _ _ _ (by omega) (fun j=>by rw[show i+1+j=i+(j+1) by omega,←hr (j+1)];rfl) (by omega) (by rw[qPf];omega),ndL,dpL,qPO]
theorem qcG (L:List qb):L.length≤(ndL L).length:=by
 induction L with
 | nil=>simp
 | cons x L ih=>rw[ndL,qPf,qPj,q0a,qPj];omega
theorem qvo:∀(m:Nat) (y:qb),(ndN y).length≤m→qtz y:=by
 intro m
 induction m with
 | zero=>intro y h;rw[q0a] at h;simp at h
 | succ m ih=>
  intro y h deep w b2 b3 hd hh hw
  rw[q0a,qPj] at h hw
  rw[qex] at hh
  have hsub:∀(L:List qb),(ndL L).length≤m→∀z∈L,qtz z:=by
   intro L
   induction L with
   | nil=>intro _ z hz;simp at hz
   | cons x L ihl=>
    intro g z hz
    rw[ndL,qPf] at g
    rcases qPu.1 hz with rfl|hz
    ·exact ih _ (by omega)
    ·exact ihl (by omega) z hz
  have hP:=hsub y.L (by omega)
  have hl:=qcG y.L
  rw[qbz,q0V]
  unfold q24
  have hne:(((w.length:Nat):Int)==(10000:Int))=false:=by simp;omega
  rw[if_neg (by omega),if_neg (by rw[hne];simp),if_pos ⟨(q7L _ (by omega)).1,(q7L _ (by omega)).2⟩,qP8,Sum.elim_inr]
  have h1:=qjA Jy deep hd y.L (by omega) (q12 Jy deep y.L (y.L.length:Int)) (fun w b2 b3 i=>by rfl) (fun z hz w b2 b3 g1 g2=>hP z hz (deep+1) w b2 b3 (by omega) g1 g2) y.L 0 (w++[y]) (max b2 deep) b3 (by simp) (by simp) (by omega) (by rw[qPf,qPq];omega)
  rw[show((0:Nat):Int)=0 from rfl] at h1
  dsimp only
  have h2:(⟨y.Kind,y.N,y.Min,y.Set,y.L⟩:qb)=y:=by cases y;rfl
  rw[h2,h1,qP8,Sum.elim_inr,q0a,qta,qPO]
  rfl
theorem qmv (n:qb) (hh:hgN n≤100) (hn:(ndN n).length≤9999):q2R n=some (ndN n,dpN 1 n 0,true):=by
 rw[qex] at hh
 rw[q0a,qPj] at hn
 have hl:=qcG n.L
 unfold q2R q3j q5P q3c
 rw[if_neg (by omega),if_pos (by unfold maxLen;omega),qP8,Sum.elim_inr]
 have h1:=qjA Jy 1 (by omega) n.L (by omega) (q3a 1 n.L (n.L.length:Int)) (fun w b2 b3 i=>by rfl) (fun z hz w b2 b3 g1 g2=>qvo _ z (qPo _) (1+1) w b2 b3 (by omega) g1 g2) n.L 0 [n] (max 0 1) false (by simp) (by simp) (by omega) (by simp only[qPq];omega)
 rw[show((0:Nat):Int)=0 from rfl] at h1
 dsimp only
 have h2:(⟨n.Kind,n.N,n.Min,n.Set,n.L⟩:qb)=n:=by cases n;rfl
 rw[h2,h1,qP8,Sum.elim_inr,qP8,Sum.elim_inr,qP8,Sum.elim_inr,q0a,qta]
 rfl
def q1S (n:qb):Bool:=n.Kind != 3&&n.Kind != 4
theorem qqz (n:qb):q1D n=q1S n:=by
 unfold q1D q1S
 cases h:(n.Kind != 3)<;>simp
theorem qod (l:List qc) (h:l.length≤1000000):Q5 l=some ():=by
 unfold Q5
 rw[if_pos ⟨by unfold maxLen;omega,by omega⟩]
theorem qpL:∀(m:Nat) (n:qb),(ndN n).length≤m→(ndN n).length≤100000→(∀y∈ndN n,y.Set.length≤1000000)→JC n=some n:=by
 intro m
 induction m with
 | zero=>intro n h;rw[q0a] at h;simp at h
 | succ m ih=>
  intro n h1 h2 h3
  have hset:=h3 n (by rw[q0a];exact qPn)
  have hsub:∀(L:List qb),(ndL L).length≤m→(ndL L).length≤100000→(∀y∈ndL L,y.Set.length≤1000000)→∀y∈L,JC y=some y:=by
   intro L
   induction L with
   | nil=>intro _ _ _ y hy;simp at hy
   | cons x L ihl=>
    intro g1 g2 g3 y hy
    rw[ndL,qPf] at g1 g2
    rw[ndL] at g3
    rcases qPu.1 hy with rfl|hy
    ·exact ih _ (by omega) (by omega) fun z hz=>g3 z (qPk _ hz)
    ·exact ihl (by omega) (by omega) (fun z hz=>g3 z (qPh _ hz)) y hy
  have e0:ndN n=n::ndL n.L:=q0a n
  have hlen:(ndN n).length=(ndL n.L).length+1:=by rw[e0];rfl
  have hP:=hsub n.L (by omega) (by omega) fun y hy=>h3 y (by rw[e0];exact qPg _ hy)
  have hl:=qcG n.L
  have hn:(⟨n.Kind,n.N,n.Min,n.Set,n.L⟩:qb)=n:=by cases n;rfl
  rw[qbR,q15,qod _ hset,qP8]
  unfold QS
  rw[if_pos ⟨by unfold maxLen;omega,by omega⟩]
  rw[qP8]
  have hL:∀i0:Nat,zl (JV JC n.Kind n.N n.Min n.Set 0 0 0 (n.L.length:Int)) (n.L,((0:Nat):Int))=some n.L:=fun _=>by
   refine q27 (fun i=>(n.L,(i:Int))) 0 n.L.length (qPy _) (fun i _ hi=>?_) ?_
   ·obtain⟨y,hy⟩:∃y,n.L[i]?=some y:=⟨_,qPa hi⟩
    unfold JV
    simp only
    rw[if_pos (by omega),if_pos ⟨by omega,by omega⟩,qPb,hy,qP8,hP y (qP9 hy),qP8,if_pos ⟨by omega,by omega⟩,if_pos (by omega),Qq hi (by omega)]
    have:n.L.set i y=n.L:=by
     obtain⟨h1,h2⟩:=qPc.1 hy
     rw[←h2,List.set_getElem_self]
    rw[this]
   ·unfold JV
    simp only
    rw[if_neg (by omega)]
  have:=hL 0
  rw[show((0:Nat):Int)=0 from rfl] at this
  rw[this,qP8,hn]
theorem qg8 (n:qb) (hh:hgN n≤100) (hn:(ndN n).length≤9999) (hs:∀y∈ndN n,y.Set.length≤1000000):q1B n=some ((ndN n).filter q1S):=by
 have hsub:∀(m:Nat) (n y:qb),(ndN n).length≤m→y∈ndN n→(ndN y).length≤(ndN n).length∧∀z∈ndN y,z∈ndN n:=by
  intro m
  induction m with
  | zero=>intro n y h;rw[q0a] at h;simp at h
  | succ m ih=>
   intro n y h hy
   rw[q0a] at hy
   rcases qPu.1 hy with rfl|hy
   ·exact⟨qPo _,fun z hz=>hz⟩
   ·have hL:∀(L:List qb),(ndL L).length≤m→y∈ndL L→(ndN y).length≤(ndL L).length∧∀z∈ndN y,z∈ndL L:=by
     intro L
     induction L with
     | nil=>intro _ h;simp[ndL] at h
     | cons x L ihl=>
      intro g gy
      rw[ndL,qPf] at g
      rw[ndL] at gy ⊢
      rw[qPf]
      rcases qPC.1 gy with gy|gy
      ·obtain⟨a,b⟩:=ih x y (by omega) gy
       exact⟨by omega,fun z hz=>qPk _ (b z hz)⟩
      ·obtain⟨a,b⟩:=ihl (by omega) gy
       exact⟨by omega,fun z hz=>qPh _ (b z hz)⟩
    have e0:=q0a n
    have:(ndN n).length=(ndL n.L).length+1:=by rw[e0];rfl
    obtain⟨a,b⟩:=hL n.L (by omega) hy
    exact⟨by omega,fun z hz=>by rw[e0];exact qPg _ (b z hz)⟩
 have hc:∀y∈ndN n,q1S y=true→JC y=some y:=fun y hy _=>by
  obtain⟨a,b⟩:=hsub _ n y (qPo _) hy
  exact qpL _ y (qPo _) (by omega) fun z hz=>hs z (b z hz)
 clear hsub hs
 unfold q1B
 rw[qmv n hh hn,qP8]
 simp only
 generalize ndN n=l at hn hc
 have key:∀(r:List qb) (i:Nat) (b:List qb),r.length+i=l.length→(∀j,r[j]?=l[i+j]?)→b.length≤i→zl (ZR l (l.length:Int)) (b,(i:Int))=some (b++r.filter q1S):=by
  intro r
  induction r with
  | nil=>
   intro i b hi _ _
   have hi:i=l.length:=by simpa using hi
   subst hi
   refine zt ?_
   unfold ZR
   simp
  | cons y r ih=>
   intro i b hi hr hb
   simp only[qPj] at hi
   have hget:l[i]?=some y:=by have:=hr 0;simpa using this.symm
   have hlt:=ZB hget
   have hstep:ZR l (l.length:Int) (b,(i:Int))=some (.inl (if q1S y=true then b++[y] else b,((i+1:Nat):Int))):=by
    unfold ZR
    simp only
    rw[if_pos (by omega),if_pos ⟨by omega,by omega⟩,qPb,hget,qP8,qqz,Qq hlt (by omega)]
    cases h:q1S y
    ·simp
    ·rw[hc y (qP9 hget) h,qP8,if_pos rfl,if_pos ⟨(q7L _ (by omega)).1,(q7L _ (by omega)).2⟩]
     simp
   have hb2:(if q1S y=true then b++[y] else b).length≤i+1:=by
    split
    ·rw[qPf,qPq];omega
    ·omega
   rw[zS hstep,ih (i+1) _ (by omega) (fun j=>by rw[show i+1+j=i+(j+1) by omega,←hr (j+1)];rfl) hb2,List.filter_cons]
   cases q1S y<;>simp
 have:=key l 0 [] (by simp) (by simp) (by simp)
 change Option.bind (zl _ ([],((0:Nat):Int))) _=_
 rw[this,qP8,qPs]
end
noncomputable section
open Go.RowKit
def qbi (b:UInt8):Bool:=(48≤b.toNat&&b.toNat≤57)||(65≤b.toNat&&b.toNat≤90)
theorem qrl (s:ByteArray) (i:Nat) (h:(s.get! i).toNat<128):Utf8.decode s i=((s.get! i).toNat,1):=by
 unfold Utf8.decode
 simp only[Nat.add_zero]
 rw[if_pos h]
theorem qv6 (s:ByteArray) (i:Nat) (h:¬ (s.get! i).toNat<128):128≤(Utf8.decode s i).1:=by
 unfold Utf8.decode
 simp only[Nat.add_zero]
 rw[if_neg h]
 have hr:128≤Utf8.runeError:=by decide
 split
 ·split
  ·assumption
  ·exact hr
 ·split
  ·split
   ·rename_i h;simp only[ge_iff_le,qPE,qQ8] at h;omega
   ·exact hr
  ·split
   ·split
    ·rename_i h;simp only[ge_iff_le,qPE,qQ8] at h;omega
    ·exact hr
   ·exact hr
theorem qel (b:UInt8) (h:b.toNat<128):Zv (b.toNat:Int) = !qbi b:=by
 unfold Zv qbi
 by_cases h1:b.toNat<65
 ·rw[if_pos (by omega)]
  by_cases h2:b.toNat<48
  ·rw[if_pos (by omega)]
   have e1:decide (48≤b.toNat)=false:=decide_eq_false (by omega)
   have e2:decide (65≤b.toNat)=false:=decide_eq_false (by omega)
   simp[e1,e2]
  ·rw[if_neg (by omega)]
   have e1:decide (48≤b.toNat)=true:=qQ9 (by omega)
   have e2:decide (65≤b.toNat)=false:=decide_eq_false (by omega)
   by_cases h3:b.toNat≤57
   ·have e3:decide (b.toNat≤57)=true:=qQ9 h3
    have e4:decide ((57:Int)<b.toNat)=false:=decide_eq_false (by omega)
    simp[e1,e2,e3,e4]
   ·have e3:decide (b.toNat≤57)=false:=decide_eq_false h3
    have e4:decide ((57:Int)<b.toNat)=true:=qQ9 (by omega)
    simp[e1,e2,e3,e4]
 ·rw[if_neg (by omega)]
  have e0:decide (b.toNat≤57)=false:=decide_eq_false (by omega)
  have e1:decide (65≤b.toNat)=true:=qQ9 (by omega)
  by_cases h2:90<b.toNat
  ·rw[if_pos (by omega),if_neg (by omega)]
   have e3:decide (b.toNat≤90)=false:=decide_eq_false (by omega)
   have e4:decide ((57:Int)<b.toNat)=true:=qQ9 (by omega)
   simp[e0,e1,e3,e4]
  ·rw[if_neg (by omega)]
   have e3:decide (b.toNat≤90)=true:=qQ9 (by omega)
   simp[e0,e1,e3]
theorem qpV (n:Nat) (h:128≤n):Zv (n:Int)=true:=by
 unfold Zv
 rw[if_neg (by omega),if_pos (by omega),if_neg (by omega)]
 exact qQ9 (by omega)
theorem qrG (s:ByteArray) (i:Nat) (h:i<s.size):s.get! i=s.data.toList.getD i 0:=by
 obtain⟨⟨l⟩⟩:=s
 have h':i<l.length:=h
 show(Array.mk l)[i]! = l.getD i 0
 simp[h',List.getD]
theorem qhn (s:ByteArray):∀(r:List UInt8) (p:Nat),r.length+p=s.size→(∀j,r[j]?=s.data.toList[p+j]?)→∃e,zl (Qt s true) p=some e∧((∃i:Int,e = .inl i∧0≤i∧r.all qbi=false)∨(e = .inr ()∧r.all qbi=true)):=by
 intro r
 induction r with
 | nil=>
  intro p hp _
  have hp:p=s.size:=by simpa using hp
  subst hp
  refine⟨.inr (),zt ?_,.inr ⟨rfl,rfl⟩⟩
  unfold Qt
  rw[if_neg (by omega)]
 | cons b r ih=>
  intro p hp hr
  simp only[qPj] at hp
  have hb:s.data.toList[p]?=some b:=by have:=hr 0;simpa using this.symm
  have hg:s.get! p=b:=by rw[qrG s p (by omega),List.getD,hb];rfl
  by_cases h:b.toNat<128
  ·have hd:=qrl s p (by rw[hg];exact h)
   rw[hg] at hd
   cases ho:qbi b
   ·refine⟨.inl (p:Int),zt ?_,.inl ⟨_,rfl,by omega,by simp[ho]⟩⟩
    unfold Qt
    rw[if_pos (by omega),hd,qel b h,ho]
    rfl
   ·obtain⟨e,h1,h2⟩:=ih (p+1) (by omega) (fun j=>by rw[show p+1+j=p+(j+1) by omega,←hr (j+1)];rfl)
    refine⟨e,?_,by rw[List.all_cons,ho,qPF];exact h2⟩
    rw[zS (y:=p+1) (by
     unfold Qt
     rw[if_pos (by omega),hd,qel b h,ho]
     rfl)]
    exact h1
  ·have hbig:=qv6 s p (by rw[hg];exact h)
   have hbad:qbi b=false:=by
    unfold qbi
    have e1:decide (b.toNat≤57)=false:=decide_eq_false (by omega)
    have e2:decide (b.toNat≤90)=false:=decide_eq_false (by omega)
    simp[e1,e2]
   refine⟨.inl (p:Int),zt ?_,.inl ⟨_,rfl,by omega,by simp[hbad]⟩⟩
   unfold Qt
   rw[if_pos (by omega),qpV _ hbig]
   rfl
def qqC (s:ByteArray):Bool:=decide (s.size≠0)&&decide (s.size≤8)&&s.data.toList.all qbi
theorem qlG (s:ByteArray):(s.toList==ByteArray.toList (ByteArray.mk (List.toArray [])))=decide (s.size=0):=by
 rw[ByteArray.toList_eq,ByteArray.toList_eq]
 obtain⟨⟨l⟩⟩:=s
 show(l==[])=decide (l.length=0)
 cases l<;>simp
theorem qxZ (s:ByteArray):q2w s=some (qqC s):=by
 unfold q2w qqC
 rw[qlG]
 by_cases h0:s.size=0
 ·simp[h0]
 ·have e0:decide (s.size=0)=false:=decide_eq_false h0
  have e1:decide (s.size≠0)=true:=qQ9 h0
  rw[e0,e1,if_pos (by rfl)]
  by_cases h8:s.size≤8
  ·have e2:decide (s.size≤8)=true:=qQ9 h8
   obtain⟨e,h1,h2⟩:=qhn s s.data.toList 0 (by simp) (by simp)
   rw[if_pos (by omega),e2]
   unfold q0t q0r
   rw[h1,qP8]
   rcases h2 with ⟨i,rfl,hi,ha⟩|⟨rfl,ha⟩
   ·rw[Sum.elim_inl,qP8,qP8,ha]
    have:decide (i<0)=false:=decide_eq_false (by omega)
    rw[this];rfl
   ·rw[Sum.elim_inr,qP8,qP8,ha]
    rfl
  ·have e2:decide (s.size≤8)=false:=decide_eq_false h8
   rw[if_neg (by omega),e2]
   rfl
def inF (n a b:Int):Bool:=decide (a≤n)&&decide (n≤b)
theorem q3y (n a b:Int):zA n a b=inF n a b:=by
 unfold zA inF
 by_cases h:a≤n<;>simp[h]
def q1h (c:qc):Bool:=inF c.School 1 8&&qqC c.Code
theorem qf7 (c:qc):q1e c=some (q1h c):=by
 unfold q1e q1h
 rw[q3y,qxZ]
 cases inF c.School 1 8<;>simp
def qfF (x y:Int):Int:=if x<y then -1 else if y<x then 1 else 0
def qEF (x y:ByteArray):Int:=if Op.bytesLess x.toList y.toList=true then -1 else if x.toList==y.toList then 0 else 1
def qxi (a b:qc):Int:=if a.School≠b.School then qfF a.School b.School else qEF a.Code b.Code
theorem qzo (x y:Int):q19 [x,y]=some (if x≠0 then x else y):=by
 unfold q19
 by_cases hx:x=0
 ·by_cases hy:y=0
  ·rw[zS (y:=1) (by unfold ZD;simp[hx];rfl),zS (y:=2) (by unfold ZD;simp[hx,hy];rfl),zt (e := .inr ()) (by unfold ZD;simp)]
   simp[hx,hy]
  ·rw[zS (y:=1) (by unfold ZD;simp[hx];rfl),zt (e := .inl y) (by unfold ZD;simp[hx,hy])]
   simp[hx,hy]
 ·rw[zt (e := .inl x) (by unfold ZD;simp[hx])]
  simp[hx]
theorem qaD (a b:qc):q0O a b=some (qxi a b):=by
 unfold q0O
 rw[qzo,qP8]
 congr 1
 have e1:Qa a.School b.School=qfF a.School b.School:=by
  unfold Qa Qi qfF
  simp
 have e2:Ze a.Code b.Code=qEF a.Code b.Code:=by
  unfold Ze qEF
  cases h1:Op.bytesLess a.Code.toList b.Code.toList
  ·cases h2:(a.Code.toList==b.Code.toList)<;>simp
  ·simp
 rw[e1,e2]
 unfold qxi
 by_cases h:a.School=b.School
 ·have:qfF a.School b.School=0:=by unfold qfF;rw[if_neg (by omega),if_neg (by omega)]
  simp[h,this]
  intro h2;exact absurd (by unfold qfF;simp) h2
 ·have:qfF a.School b.School≠0:=by unfold qfF;split<;>(try split)<;>omega
  simp[h,this]
def qhc:List qc→Bool
 | x::y::l=>decide (qxi x y<0)&&qhc (y::l)
 | _=>true
def q3g (n:qb):Int:=
 if inF n.Min (-1000) 1000=false then 3 else if inF n.Set.length 1 12=false then 2 else if n.Set.all q1h=false then 1 else if qhc n.Set=true then 0 else 7
theorem qdP (l:List qc) (hl:l.length≤1000000):zI l=some (!l.all q1h):=by
 have h1:=q2m (ε:=Int⊕Unit) (step:=zp l (l.length:Int)) l (fun(b:Unit) i=>(i:Int)) (fun i b a=>if(!q1h a)=true then .inr (.inl (i:Int)) else .inl ()) (fun _ => .inr ()) (fun b i a ha=>by
   have hi:=ZB ha
   have hw:w64 ((i:Int)+1)=((i+1:Nat):Int):=Qq hi (by omega)
   unfold zp q2a
   rw[if_pos (by omega),if_pos ⟨by omega,by omega⟩,qPb,ha,qP8,hw,qf7,qP8,qP8]
   cases q1h a<;>simp) (fun b=>by
   unfold zp
   rw[if_neg (by omega)]) ()
 have h2:=qcm (fun a => !q1h a) l 0
 unfold zI Qg
 rw[show((0:Nat):Int)=0 from rfl] at h1
 rw[h1,qP8]
 have e:l.any (fun a => !q1h a) = !l.all q1h:=by
  clear h1 h2 hl
  induction l with
  | nil=>rfl
  | cons a l ih=>rw[List.any_cons,List.all_cons,ih];cases q1h a<;>simp
 rw[←e,←h2]
 cases(q4z (ε:=Int⊕Unit) (fun i (_:Unit) (a:qc)=>if(!q1h a)=true then .inr (.inl (i:Int)) else .inl ()) (fun _ => .inr ()) l 0 ())<;>rfl
theorem qlr (n:qb) (hl:n.Set.length≤1000000):∀(r:List qc) (i:Nat),r.length+i=n.Set.length→(∀j,r[j]?=n.Set[i+j]?)→zl (Zx n n.Set (n.Set.length:Int)) (i:Int)=some (if(match i,n.Set[i-1]? with|_+1,some x=>qhc (x::r)|_,_=>qhc r)=true then .inr () else .inl ()):=by
 intro r
 induction r with
 | nil=>
  intro i hi _
  have hi:i=n.Set.length:=by simpa using hi
  subst hi
  refine zt ?_
  unfold Zx
  rw[if_neg (by omega)]
  split<;>simp[qhc]
 | cons a r ih=>
  intro i hi hr
  simp only[qPj] at hi
  have hget:n.Set[i]?=some a:=by have:=hr 0;simpa using this.symm
  have hlt:=ZB hget
  have hnext:=ih (i+1) (by omega) (fun j=>by rw[show i+1+j=i+(j+1) by omega,←hr (j+1)];rfl)
  simp only[Nat.add_sub_cancel,hget] at hnext
  cases i with
  | zero=>
   rw[zS (y:=((0+1:Nat):Int)) (by
    unfold Zx
    rw[if_pos (by omega),if_pos ⟨by omega,by omega⟩,qPb,hget,qP8,if_neg (by omega),Qq hlt (by omega)])]
   exact hnext
  | succ i=>
   obtain⟨x,hx⟩:∃x,n.Set[i]?=some x:=⟨_,qPa (by omega)⟩
   simp only[Nat.add_sub_cancel,hx]
   have hw:w64 (((i+1:Nat):Int)-1)=(i:Int):=by rw[Z3 (by omega) (by omega)];omega
   by_cases hc:qxi x a<0
   ·rw[zS (y:=((i+1+1:Nat):Int)) (by
     unfold Zx
     rw[if_pos (by omega),if_pos ⟨by omega,by omega⟩,qPb,hget,qP8,if_pos (by omega),hw,if_pos ⟨by omega,by omega⟩,qPb,hx,qP8,qaD,qP8,if_neg (by omega),Qq hlt (by omega)]),hnext]
    simp[qhc,hc]
   ·rw[zt (e := .inl ()) (by
     unfold Zx
     rw[if_pos (by omega),if_pos ⟨by omega,by omega⟩,qPb,hget,qP8,if_pos (by omega),hw,if_pos ⟨by omega,by omega⟩,qPb,hx,qP8,qaD,qP8,if_pos (by omega)])]
    simp[qhc,hc]
theorem qeB (n:qb) (hl:n.Set.length≤1000000):q0M n=some (q3g n):=by
 unfold q0M q3g
 rw[q3y,q3y,qdP _ hl,qP8]
 have h:=qlr n hl n.Set 0 (by simp) (by simp)
 simp only at h
 rw[show((0:Nat):Int)=0 from rfl] at h
 rw[h,qP8]
 cases inF n.Min (-1000) 1000
 ·simp
 ·cases inF n.Set.length 1 12
  ·simp
  ·cases n.Set.all q1h
   ·simp
   ·cases qhc n.Set<;>simp
def q8G (n:qb):Bool:=n.Min==0&&n.Set.isEmpty && !n.L.isEmpty
def q9L (n:qb):Int:=
 if n.Kind=1 then(if n.N≠0∨n.L≠[] then 13 else q3g n)
 else if n.Kind=2 then(if n.L≠[] then 13 else if inF n.N 1 600=false then 3 else q3g n)
 else if n.Kind=3 then(if q8G n=false∨n.N≠0 then 13 else 0)
 else if n.Kind=4 then(if q8G n=false then 13 else if inF n.N 1 n.L.length=false then 3 else 0)
 else 13
theorem qnw (n:qb):Zm n=q8G n:=by
 unfold Zm q8G
 cases n.Min==0
 ·simp
 ·cases hS:n.Set<;>cases hL:n.L<;>simp
  all_goals omega
theorem qHK (n:qb) (hl:n.Set.length≤1000000):q1R n=some (if n.N≠0∨n.L≠[] then 13 else q3g n):=by
 unfold q1R
 rw[qeB n hl,qP8]
 by_cases h:n.N=0
 ·cases hL:n.L with
  | nil=>simp[h]
  | cons x l=>rw[if_neg (by simp[h]),if_pos (by simp),if_pos (.inr (by simp))]
 ·simp[h]
theorem qGv (n:qb) (hl:n.Set.length≤1000000):q1P n=some (if n.L≠[] then 13 else if inF n.N 1 600=false then 3 else q3g n):=by
 unfold q1P
 rw[qeB n hl,qP8,q3y]
 cases hL:n.L with
 | nil=>
  cases hI:inF n.N 1 600<;>simp[hI]
 | cons x l=>rw[if_pos (by simp),if_pos (by simp)]
theorem qHw (n:qb):Jq n=if q8G n=false∨n.N≠0 then 13 else 0:=by
 unfold Jq
 rw[qnw]
 cases q8G n
 ·simp
 ·by_cases h:n.N=0<;>simp[h]
theorem qIp (n:qb):Jn n=if q8G n=false then 13 else if inF n.N 1 n.L.length=false then 3 else 0:=by
 unfold Jn
 rw[qnw,q3y]
 cases q8G n
 ·simp
 ·cases inF n.N 1 n.L.length<;>simp
def qtp (l:List qb):Option Int:=l.findSome? fun y=>if q9L y≠0 then some (q9L y) else none
theorem qkT (l:List qb) (hl:l.length≤1000000) (hs:∀y∈l,y.Set.length≤1000000):zl (JL l (l.length:Int)) 0=some (match qtp l with|some e => .inl e|none => .inr ()):=by
 have h1:=qgF (ε:=Int⊕Unit) (step:=JL l (l.length:Int)) l (fun i=>(i:Int)) (fun y=>if q9L y≠0 then some (.inl (q9L y)) else none) (.inr ()) (fun i y hy=>by
   have hi:=ZB hy
   have hw:w64 ((i:Int)+1)=((i+1:Nat):Int):=Qq hi (by omega)
   have hset:=hs y (qP9 hy)
   unfold JL
   rw[if_pos (by omega),if_pos ⟨by omega,by omega⟩,qPb,hy,qP8,hw,qHK y hset,qGv y hset,qHw,qIp,qP8,qP8]
   unfold q9L
   by_cases e1:y.Kind=1
   ·simp only[if_pos e1];generalize (if y.N≠0∨y.L≠[] then 13 else q3g y)=v;by_cases h:v=0<;>simp[h]
   ·by_cases e2:y.Kind=2
    ·simp only[if_neg e1,if_pos e2];generalize (if y.L≠[] then 13 else if inF y.N 1 600=false then 3 else q3g y)=v;by_cases h:v=0<;>simp[h]
    ·by_cases e3:y.Kind=3
     ·simp only[if_neg e1,if_neg e2,if_pos e3];generalize (if q8G y=false∨y.N≠0 then(13:Int) else 0)=v;by_cases h:v=0<;>simp[h]
     ·by_cases e4:y.Kind=4
      ·simp only[if_neg e1,if_neg e2,if_neg e3,if_pos e4];generalize (if q8G y=false then(13:Int) else if inF y.N 1 y.L.length=false then 3 else 0)=v;by_cases h:v=0<;>simp[h]
      ·simp[e1,e2,e3,e4]) (by
   unfold JL
   rw[if_neg (by omega)])
 rw[show((0:Nat):Int)=0 from rfl] at h1
 rw[h1]
 congr 1
 unfold qtp
 clear h1 hl hs
 induction l with
 | nil=>rfl
 | cons y l ih=>
  rw[List.findSome?_cons,List.findSome?_cons]
  by_cases h:q9L y=0<;>simp only[h,ne_eq,not_true_eq_false,not_false_eq_true,if_true,if_false]
  ·exact ih
  ·rfl
def qet (n:qb):Int:=
 if 24<(ndN n).length then 2 else if 5<dpN 1 n 0 then 2 else if inF ((ndN n).filter q1S).length 1 8=false then 2 else(qtp (ndN n)).getD 0
theorem q9d (n:qb) (hh:hgN n≤100) (hn:(ndN n).length≤9999) (hs:∀y∈ndN n,y.Set.length≤1000000):JF n=some (qet n):=by
 unfold JF qet
 rw[qmv n hh hn,qP8,qg8 n hh hn hs]
 simp only[qP8]
 rw[qkT (ndN n) (by omega) hs,q3y,if_neg (by simp)]
 by_cases h1:24<(ndN n).length
 ·rw[if_pos (by omega),if_pos h1]
 ·rw[if_neg (by omega),if_neg h1]
  by_cases h2:5<dpN 1 n 0
  ·rw[if_pos h2,if_pos h2]
  ·rw[if_neg h2,if_neg h2]
   cases inF ((ndN n).filter q1S).length 1 8
   ·simp
   ·simp only[Bool.not_true,Bool.false_eq_true,if_false,qP8]
    cases qtp (ndN n)<;>rfl
end
noncomputable section
open Go.RowKit
section
variable {N:Nat} {best:Nat→Int} {M:Int}
theorem qmZ (rF:(qb×List qa×Int×qg)→Option (List Bool×List qa×Int×qg)) (hN:N≤65536) (hM:M≤1000000) (hb:Bnd best N M) (w9:List Bool) (b0:List qa) (b3:Int) (b4:qg) (b8:qb) (own:Nat→Bool) (skip:Bool) (t72:List qb) (t73 t74:Int) :
  zl (Zt rF w9 (Zk N best) b0 b3 b4 b8 (Zk N own) skip t72 t73 t74 ((N:Nat):Int)) (List.replicate N 0,0)=some (Zk N (stF skip own best)):=by
 have h1:=q27 (step:=Zt rF w9 (Zk N best) b0 b3 b4 b8 (Zk N own) skip t72 t73 t74 ((N:Nat):Int)) (fun i=>(Zk N (fun k=>if k<i then stF skip own best k else 0),(i:Int))) 0 N (qPy _) (e:=Zk N (stF skip own best)) (fun i _ hi=>by
   have hbi:=hb i hi
   have hw:w64 ((i:Int)+1)=((i+1:Nat):Int):=Qq hi (by omega)
   have hg:∀v:Int,v=(if skip=true then best i else -1)→qbn (qbn (fun k=>if k<i then stF skip own best k else 0) i v) i (eaF own best i i i (qbn (fun k=>if k<i then stF skip own best k else 0) i v i))=fun k=>if k<i+1 then stF skip own best k else 0:=fun v hv=>by
    funext k
    rw[qcw,q98]
    unfold qbn
    by_cases hk:k=i
    ·subst hk
     rw[if_pos rfl,if_pos (by omega)]
     unfold stF
     rw[←hv]
    ·rw[if_neg hk]
     show(if k<i then stF skip own best k else 0)=_
     by_cases h:k<i
     ·rw[if_pos h,if_pos (by omega)]
     ·rw[if_neg h,if_neg (by omega)]
   unfold Zt
   simp only
   rw[if_pos (by omega),zH,if_pos ⟨by omega,by omega⟩,qPb,if_pos (by omega)]
   cases hs:skip
   ·simp only[Bool.false_eq_true,if_false]
    rw[JA]
    unfold Qf
    rw[qf1 hN hM hb (own:=own) hi i i (qPo _) (qPo _),qP8,qP8,hw,←hs,hg (-1) (by rw[hs];rfl)]
   ·simp only[if_true]
    rw[zH,if_pos ⟨by omega,by omega⟩,Jz best hi,qP8,if_pos ⟨by omega,by omega⟩,if_pos (by omega),JA,JA,q98]
    unfold Qf
    rw[qf1 hN hM hb (own:=own) hi i i (qPo _) (qPo _),qP8,qP8,hw,←hs,hg (best i) (by rw[hs];rfl)]) (by
   unfold Zt
   simp only
   rw[if_neg (by omega)]
   congr 2
   exact q0N fun k hk=>if_pos hk)
 rw[q4D]
 have e:(fun k:Nat=>if k<0 then stF skip own best k else 0)=fun _=>0:=by funext k;rw[if_neg (by omega)]
 rw[e] at h1
 exact h1
theorem qul (rF:(qb×List qa×Int×qg)→Option (List Bool×List qa×Int×qg)) (hN:N≤65536) (hN1:1≤N) (w9:List Bool) (b0:List qa) (b3:Int) (b4:qg) (b8:qb) :
  zl (Zr rF w9 b0 b3 b4 b8) (List.replicate N 0,1)=some (Zk N b0F):=by
 have h1:=q27 (step:=Zr rF w9 b0 b3 b4 b8) (fun i=>(Zk N (fun k=>if 1≤k∧k<i then -1 else 0),(i:Int))) 1 N hN1 (e:=Zk N b0F) (fun i h1 hi=>by
   have hw:w64 ((i:Int)+1)=((i+1:Nat):Int):=Qq hi (by omega)
   unfold Zr
   simp only
   rw[zH,if_pos (by omega),if_pos ⟨by omega,by omega⟩,qPb,if_pos (by omega),hw,JA]
   rw[qlm (fun _=>(-1:Int)) 0 h1]) (by
   unfold Zr
   simp only
   rw[zH,if_neg (by omega)]
   congr 2
   refine q0N fun k hk=>?_
   unfold b0F
   by_cases h:k=0
   ·rw[if_pos h,if_neg (by omega)]
   ·rw[if_neg h,if_pos (by omega)])
 rw[q4D]
 have e:(fun k:Nat=>if 1≤k∧k<1 then(-1:Int) else 0)=fun _=>0:=by funext k;rw[if_neg (by omega)]
 rw[e] at h1
 exact h1
theorem qow (rF:(qb×List qa×Int×qg)→Option (List Bool×List qa×Int×qg)) (hN:N≤65536) (hN1:1≤N) (b0:List qa) (b3:Int) (b4:qg) (least:Int) :
  zl (Zs rF (Zk N best) b0 b3 b4 least) (List.replicate N false,1)=some (Zk N (fun k=>decide (k≠0)&&decide (least≤best k))):=by
 have h1:=q27 (step:=Zs rF (Zk N best) b0 b3 b4 least) (fun i=>(Zk N (fun k=>if 1≤k∧k<i then decide (least≤best k) else false),(i:Int))) 1 N hN1 (e:=Zk N (fun k=>decide (k≠0)&&decide (least≤best k))) (fun i h1 hi=>by
   have hw:w64 ((i:Int)+1)=((i+1:Nat):Int):=Qq hi (by omega)
   unfold Zs
   simp only
   rw[zH,zH,if_pos (by omega),if_pos ⟨by omega,by omega⟩,qPb,Jz best hi,qP8,if_pos ⟨by omega,by omega⟩,if_pos (by omega),hw,JA]
   rw[qlm (fun k=>decide (least≤best k)) false h1]) (by
   unfold Zs
   simp only
   rw[zH,if_neg (by omega)]
   congr 2
   refine q0N fun k hk=>?_
   by_cases h:k=0
   ·subst h;simp
   ·rw[if_pos ⟨by omega,hk⟩];simp[h])
 rw[q4D]
 have e:(fun k:Nat=>if 1≤k∧k<1 then decide (least≤best k) else false)=fun _=>false:=by funext k;rw[if_neg (by omega)]
 rw[e] at h1
 exact h1
theorem qk4 (rF:(qb×List qa×Int×qg)→Option (List Bool×List qa×Int×qg)) (d:List Int) (hd:d=[]) (s:qg) (l:List qa) (hl:l.length≤16) (n:qb) (hn:n.Set.length≤1000000) (nx:Nat) (hnx:nx≤1000000) (step:List Bool×Int→Option ((List Bool×Int)⊕List Bool))
  (hst:step=(if n.Kind=1 then Jg rF l (nx:Int) s n else Jh rF l (nx:Int) s n)) (hN:N≤65536) (hN1:1≤N) :
  zl step (List.replicate N false,1)=some (Zk N (q2i d s l n nx)):=by
 have h1:=q27 (step:=step) (fun i=>(Zk N (fun k=>if 1≤k∧k<i then q2i d s l n nx k else false),(i:Int))) 1 N hN1 (e:=Zk N (q2i d s l n nx)) (fun i h1 hi=>by
   have hw:w64 ((i:Int)+1)=((i+1:Nat):Int):=Qq hi (by omega)
   have hc:Zk N (qbn (fun k=>if 1≤k∧k<i then q2i d s l n nx k else false) i (q2i d s l n nx i))=Zk N (fun k=>if 1≤k∧k<i+1 then q2i d s l n nx k else false):=by
    rw[qlm (q2i d s l n nx) false h1]
   have hz:decide (i≠0)=true:=qQ9 (by omega)
   have hwg:=qkK n (by omega) s l (by omega) i (by omega)
   have hal:alF d nx i=true:=by rw[hd];rfl
   have hv:q2i d s l n nx i=(alF d nx i&&qeh n (wgF n s i l 0 ld0)):=by unfold q2i;rw[hz];simp
   have m1:n.Kind=1→Q2 (wgF n s i l 0 ld0) n=qeh n (wgF n s i l 0 ld0):=fun hk=>by
    unfold Q2 qeh
    rw[if_pos hk]
    cases(wgF n s i l 0 ld0).fine<;>simp
   have m2:n.Kind≠1→Qu (wgF n s i l 0 ld0) n=qeh n (wgF n s i l 0 ld0):=fun hk=>by
    unfold Qu qeh
    rw[if_neg hk]
    cases(wgF n s i l 0 ld0).fine
    ·simp
    ·by_cases h:0<(wgF n s i l 0 ld0).many<;>simp[h]
   rw[hst]
   by_cases hk:n.Kind=1
   ·rw[if_pos hk]
    unfold Jg
    simp only
    rw[zH,if_pos (by omega),hwg,qP8]
    rw[if_pos ⟨by omega,by omega⟩,qPb,if_pos (by omega),hw,m1 hk,JA,←hc,hv,hal,qPF]
   ·rw[if_neg hk]
    unfold Jh
    simp only
    rw[zH,if_pos (by omega),hwg,qP8]
    rw[if_pos ⟨by omega,by omega⟩,qPb,if_pos (by omega),hw,m2 hk,JA,←hc,hv,hal,qPF]) (by
   have hend:some (Sum.inr (α:=List Bool×Int) (Zk N (fun k=>if 1≤k∧k<N then q2i d s l n nx k else false)))=some (Sum.inr (Zk N (q2i d s l n nx))):=by
    congr 2
    refine q0N fun k hk=>?_
    by_cases h:k=0
    ·subst h;simp[q2i]
    ·rw[if_pos ⟨by omega,hk⟩]
   rw[hst]
   by_cases hk:n.Kind=1
   ·rw[if_pos hk]
    unfold Jg
    simp only
    rw[zH,if_neg (by omega)]
    exact hend
   ·rw[if_neg hk]
    unfold Jh
    simp only
    rw[zH,if_neg (by omega)]
    exact hend)
 rw[q4D]
 have e:(fun k:Nat=>if 1≤k∧k<1 then q2i d s l n nx k else false)=fun _=>false:=by funext k;rw[if_neg (by omega)]
 rw[e] at h1
 exact h1
end
end
noncomputable section
open Go.RowKit
section
variable {N:Nat} {best:Nat→Int} {M:Int}
theorem qmp (rF:(qb×List Int×List qa×Int×qg)→Option (List Bool×List Int×List qa×Int×qg)) (hN:N≤65536) (hM:M≤1000000) (hb:Bnd best N M) (w7:List Int) (w9:List Bool) (b0:List qa) (b3:Int) (b4:qg) (b8:qb) (own:Nat→Bool) (skip:Bool) (t72:List qb) (t73 t74:Int) :
  zl (Qz rF w7 w9 (Zk N best) b0 b3 b4 b8 (Zk N own) skip t72 t73 t74 ((N:Nat):Int)) (List.replicate N 0,0)=some (Zk N (stF skip own best)):=by
 have h1:=q27 (step:=Qz rF w7 w9 (Zk N best) b0 b3 b4 b8 (Zk N own) skip t72 t73 t74 ((N:Nat):Int)) (fun i=>(Zk N (fun k=>if k<i then stF skip own best k else 0),(i:Int))) 0 N (qPy _) (e:=Zk N (stF skip own best)) (fun i _ hi=>by
   have hbi:=hb i hi
   have hw:w64 ((i:Int)+1)=((i+1:Nat):Int):=Qq hi (by omega)
   have hg:∀v:Int,v=(if skip=true then best i else -1)→qbn (qbn (fun k=>if k<i then stF skip own best k else 0) i v) i (eaF own best i i i (qbn (fun k=>if k<i then stF skip own best k else 0) i v i))=fun k=>if k<i+1 then stF skip own best k else 0:=fun v hv=>by
    funext k
    rw[qcw,q98]
    unfold qbn
    by_cases hk:k=i
    ·subst hk
     rw[if_pos rfl,if_pos (by omega)]
     unfold stF
     rw[←hv]
    ·rw[if_neg hk]
     show(if k<i then stF skip own best k else 0)=_
     by_cases h:k<i
     ·rw[if_pos h,if_pos (by omega)]
     ·rw[if_neg h,if_neg (by omega)]
   unfold Qz
   simp only
   rw[if_pos (by omega),zH,if_pos ⟨by omega,by omega⟩,qPb,if_pos (by omega)]
   cases hs:skip
   ·simp only[Bool.false_eq_true,if_false]
    rw[JA]
    unfold Qf
    rw[qf1 hN hM hb (own:=own) hi i i (qPo _) (qPo _),qP8,qP8,hw,←hs,hg (-1) (by rw[hs];rfl)]
   ·simp only[if_true]
    rw[zH,if_pos ⟨by omega,by omega⟩,Jz best hi,qP8,if_pos ⟨by omega,by omega⟩,if_pos (by omega),JA,JA,q98]
    unfold Qf
    rw[qf1 hN hM hb (own:=own) hi i i (qPo _) (qPo _),qP8,qP8,hw,←hs,hg (best i) (by rw[hs];rfl)]) (by
   unfold Qz
   simp only
   rw[if_neg (by omega)]
   congr 2
   exact q0N fun k hk=>if_pos hk)
 rw[q4D]
 have e:(fun k:Nat=>if k<0 then stF skip own best k else 0)=fun _=>0:=by funext k;rw[if_neg (by omega)]
 rw[e] at h1
 exact h1
theorem qxK (rF:(qb×List Int×List qa×Int×qg)→Option (List Bool×List Int×List qa×Int×qg)) (hN:N≤65536) (hN1:1≤N) (w7:List Int) (w9:List Bool) (b0:List qa) (b3:Int) (b4:qg) (b8:qb) :
  zl (QU rF w7 w9 b0 b3 b4 b8) (List.replicate N 0,1)=some (Zk N b0F):=by
 have h1:=q27 (step:=QU rF w7 w9 b0 b3 b4 b8) (fun i=>(Zk N (fun k=>if 1≤k∧k<i then -1 else 0),(i:Int))) 1 N hN1 (e:=Zk N b0F) (fun i h1 hi=>by
   have hw:w64 ((i:Int)+1)=((i+1:Nat):Int):=Qq hi (by omega)
   unfold QU
   simp only
   rw[zH,if_pos (by omega),if_pos ⟨by omega,by omega⟩,qPb,if_pos (by omega),hw,JA]
   rw[qlm (fun _=>(-1:Int)) 0 h1]) (by
   unfold QU
   simp only
   rw[zH,if_neg (by omega)]
   congr 2
   refine q0N fun k hk=>?_
   unfold b0F
   by_cases h:k=0
   ·rw[if_pos h,if_neg (by omega)]
   ·rw[if_neg h,if_pos (by omega)])
 rw[q4D]
 have e:(fun k:Nat=>if 1≤k∧k<1 then(-1:Int) else 0)=fun _=>0:=by funext k;rw[if_neg (by omega)]
 rw[e] at h1
 exact h1
theorem qnI (rF:(qb×List Int×List qa×Int×qg)→Option (List Bool×List Int×List qa×Int×qg)) (hN:N≤65536) (hN1:1≤N) (w7:List Int) (b0:List qa) (b3:Int) (b4:qg) (least:Int) :
  zl (QV rF w7 (Zk N best) b0 b3 b4 least) (List.replicate N false,1)=some (Zk N (fun k=>decide (k≠0)&&decide (least≤best k))):=by
 have h1:=q27 (step:=QV rF w7 (Zk N best) b0 b3 b4 least) (fun i=>(Zk N (fun k=>if 1≤k∧k<i then decide (least≤best k) else false),(i:Int))) 1 N hN1 (e:=Zk N (fun k=>decide (k≠0)&&decide (least≤best k))) (fun i h1 hi=>by
   have hw:w64 ((i:Int)+1)=((i+1:Nat):Int):=Qq hi (by omega)
   unfold QV
   simp only
   rw[zH,zH,if_pos (by omega),if_pos ⟨by omega,by omega⟩,qPb,Jz best hi,qP8,if_pos ⟨by omega,by omega⟩,if_pos (by omega),hw,JA]
   rw[qlm (fun k=>decide (least≤best k)) false h1]) (by
   unfold QV
   simp only
   rw[zH,if_neg (by omega)]
   congr 2
   refine q0N fun k hk=>?_
   by_cases h:k=0
   ·subst h;simp
   ·rw[if_pos ⟨by omega,hk⟩];simp[h])
 rw[q4D]
 have e:(fun k:Nat=>if 1≤k∧k<1 then decide (least≤best k) else false)=fun _=>false:=by funext k;rw[if_neg (by omega)]
 rw[e] at h1
 exact h1
theorem qkq (rF:(qb×List Int×List qa×Int×qg)→Option (List Bool×List Int×List qa×Int×qg)) (d:List Int) (hd:d.length≤16) (s:qg) (l:List qa) (hl:l.length≤16) (n:qb) (hn:n.Set.length≤1000000) (nx:Nat) (hnx:nx≤1000000) (step:List Bool×Int→Option ((List Bool×Int)⊕List Bool))
  (hst:step=(if n.Kind=1 then ZN rF d l (nx:Int) s n else ZP rF d l (nx:Int) s n)) (hN:N≤65536) (hN1:1≤N) :
  zl step (List.replicate N false,1)=some (Zk N (q2i d s l n nx)):=by
 have h1:=q27 (step:=step) (fun i=>(Zk N (fun k=>if 1≤k∧k<i then q2i d s l n nx k else false),(i:Int))) 1 N hN1 (e:=Zk N (q2i d s l n nx)) (fun i h1 hi=>by
   have hw:w64 ((i:Int)+1)=((i+1:Nat):Int):=Qq hi (by omega)
   have hc:Zk N (qbn (fun k=>if 1≤k∧k<i then q2i d s l n nx k else false) i (q2i d s l n nx i))=Zk N (fun k=>if 1≤k∧k<i+1 then q2i d s l n nx k else false):=by
    rw[qlm (q2i d s l n nx) false h1]
   have hz:decide (i≠0)=true:=qQ9 (by omega)
   have hwg:=qkK n (by omega) s l (by omega) i (by omega)
   have hal:=ql7 d hd nx i (by omega)
   have hv:q2i d s l n nx i=(alF d nx i&&qeh n (wgF n s i l 0 ld0)):=by unfold q2i;rw[hz];simp
   have m1:n.Kind=1→Q2 (wgF n s i l 0 ld0) n=qeh n (wgF n s i l 0 ld0):=fun hk=>by
    unfold Q2 qeh
    rw[if_pos hk]
    cases(wgF n s i l 0 ld0).fine<;>simp
   have m2:n.Kind≠1→Qu (wgF n s i l 0 ld0) n=qeh n (wgF n s i l 0 ld0):=fun hk=>by
    unfold Qu qeh
    rw[if_neg hk]
    cases(wgF n s i l 0 ld0).fine
    ·simp
    ·by_cases h:0<(wgF n s i l 0 ld0).many<;>simp[h]
   rw[hst]
   by_cases hk:n.Kind=1
   ·rw[if_pos hk]
    unfold ZN
    simp only
    rw[zH,if_pos (by omega),hal,qP8]
    cases ha:alF d nx i
    ·rw[if_neg (by simp),if_pos ⟨by omega,by omega⟩,qPb,if_pos (by omega),hw,JA,←hc,hv,ha,qQb]
    ·rw[if_pos rfl,hwg,qP8,if_pos ⟨by omega,by omega⟩,qPb,if_pos (by omega),hw,m1 hk,JA,←hc,hv,ha,qPF]
   ·rw[if_neg hk]
    unfold ZP
    simp only
    rw[zH,if_pos (by omega),hal,qP8]
    cases ha:alF d nx i
    ·rw[if_neg (by simp),if_pos ⟨by omega,by omega⟩,qPb,if_pos (by omega),hw,JA,←hc,hv,ha,qQb]
    ·rw[if_pos rfl,hwg,qP8,if_pos ⟨by omega,by omega⟩,qPb,if_pos (by omega),hw,m2 hk,JA,←hc,hv,ha,qPF]) (by
   have hend:some (Sum.inr (α:=List Bool×Int) (Zk N (fun k=>if 1≤k∧k<N then q2i d s l n nx k else false)))=some (Sum.inr (Zk N (q2i d s l n nx))):=by
    congr 2
    refine q0N fun k hk=>?_
    by_cases h:k=0
    ·subst h;simp[q2i]
    ·rw[if_pos ⟨by omega,hk⟩]
   rw[hst]
   by_cases hk:n.Kind=1
   ·rw[if_pos hk]
    unfold ZN
    simp only
    rw[zH,if_neg (by omega)]
    exact hend
   ·rw[if_neg hk]
    unfold ZP
    simp only
    rw[zH,if_neg (by omega)]
    exact hend)
 rw[q4D]
 have e:(fun k:Nat=>if 1≤k∧k<1 then q2i d s l n nx k else false)=fun _=>false:=by funext k;rw[if_neg (by omega)]
 rw[e] at h1
 exact h1
end
end
noncomputable section
open Go.RowKit
theorem qe6 (N:Nat) (d:List Int) (s:qg) (l:List qa) (n:qb) (nx:Nat):Zk N (QN d s l n nx)=if n.Kind=1∨n.Kind=2 then Zk N (q2i d s l n nx) else Zk N (fun k=>decide (k≠0)&&decide ((if n.Kind=3 then(n.L.length:Int) else n.N)≤qby d s l (n.Kind==4) n.L nx b0F k)):=by
 have:QN d s l n nx=fun k=>QN d s l n nx k:=rfl
 by_cases h:n.Kind=1∨n.Kind=2
 ·rw[if_pos h];refine q0N fun k _=>?_;rw[qdl,if_pos h]
 ·rw[if_neg h];refine q0N fun k _=>?_;rw[qdl,if_neg h]
theorem qp2 (d:List Int) (hd:d=[]) (s:qg) (l:List qa) (hl:l.length≤16) (n:qb) (hLn:n.L.length≤1000000)
  (hP:∀y∈n.L,∀nx:Nat,nx+(ndN y).length≤100000→Ql (y,l,(nx:Int),s)=some (Zk (2 ^ l.length) (QN d s l y nx),l,((nx+lvN y:Nat):Int),s)) (w9:List Bool) :
  ∀(r:List qb) (i nx:Nat) (best:Nat→Int) (M:Int),r.length+i=n.L.length→(∀j,r[j]?=n.L[i+j]?)→nx+(ndL r).length≤100000→Bnd best (2 ^ l.length) M→0≤M→M+r.length≤100000→
  zl (Zu Ql w9 n n.L (n.L.length:Int)) (Zk (2 ^ l.length) best,l,(nx:Int),s,(i:Int))=some ((Zk (2 ^ l.length) (qby d s l (n.Kind==4) r nx best),l,((nx+lvL r:Nat):Int),s)):=by
 intro r
 induction r with
 | nil=>
  intro i nx best M hi _ _ _ _ _
  have hi:i=n.L.length:=by simpa using hi
  subst hi
  refine zt ?_
  unfold Zu
  simp only
  rw[if_neg (by omega),lvL,Nat.add_zero]
  rfl
 | cons y r ih=>
  intro i nx best M hi hr hnx hb hM0 hM
  rw[ndL,qPf] at hnx
  have hlv:=qll y
  simp only[qPj,Int.natCast_add,Int.natCast_one] at hM hi
  have hget:n.L[i]?=some y:=by have:=hr 0;simpa using this.symm
  have hlt:i<n.L.length:=ZB hget
  have hN:2 ^ l.length≤65536:=qPJ (Nat.pow_le_pow_right (by decide) hl) (by decide)
  have hN1:1≤2 ^ l.length:=Nat.one_le_two_pow
  have hcall:=hP y (qP9 hget) nx (by omega)
  have hw:w64 ((i:Int)+1)=((i+1:Nat):Int):=Qq hlt (by omega)
  have hstep:Zu Ql w9 n n.L (n.L.length:Int) (Zk (2 ^ l.length) best,l,(nx:Int),s,(i:Int))=some (.inl (Zk (2 ^ l.length) (stF (n.Kind==4 && !foF d nx (nx+lvN y)) (QN d s l y nx) best),l,((nx+lvN y:Nat):Int),s,((i+1:Nat):Int))):=by
   unfold Zu
   simp only
   rw[if_pos (by omega),if_pos ⟨by omega,by omega⟩,qPb,hget,qP8,hcall,qP8]
   simp only[zH]
   have hfo:foF d nx (nx+lvN y)=false:=by rw[hd];rfl
   cases hk4:(n.Kind==4)
   ·rw[if_neg (by simp),if_pos ⟨by omega,by omega,by omega⟩,qmZ (M:=M) Ql hN (by omega) hb,qP8,hw,qQb]
   ·rw[if_pos rfl,if_pos ⟨by omega,by omega,by omega⟩,qmZ (M:=M) Ql hN (by omega) hb,qP8,hw,hfo]
    rfl
  rw[zS hstep,ih (i+1) _ _ (M+1) (by omega) (fun j=>by rw[show i+1+j=i+(j+1) by omega,←hr (j+1)];rfl) (by omega) (qnX hb (by omega)) (by omega) (by omega)]
  rw[lvL,←qQ2]
  rfl
theorem qp7 (d:List Int) (hd:d=[]) (s:qg) (l:List qa) (hl:l.length≤16):∀(m:Nat) (n:qb),(ndN n).length≤m→(ndN n).length≤10000→(∀y∈ndN n,y.Set.length≤1000000)→∀nx:Nat,nx+(ndN n).length≤100000→Ql (n,l,(nx:Int),s)=some (Zk (2 ^ l.length) (QN d s l n nx),l,((nx+lvN n:Nat):Int),s):=by
 intro m
 induction m with
 | zero=>intro n h;rw[q0a] at h;simp at h
 | succ m ih=>
  intro n h1 h2 h3 nx hnx
  have hN:2 ^ l.length≤65536:=qPJ (Nat.pow_le_pow_right (by decide) hl) (by decide)
  have hN1:1≤2 ^ l.length:=Nat.one_le_two_pow
  have hlv:=qll n
  have hset:=h3 n (by rw[q0a];exact qPn)
  have hsub:∀(L:List qb),(ndL L).length≤m→(ndL L).length≤10000→(∀y∈ndL L,y.Set.length≤1000000)→∀y∈L,∀nx:Nat,nx+(ndN y).length≤100000→Ql (y,l,(nx:Int),s)=some (Zk (2 ^ l.length) (QN d s l y nx),l,((nx+lvN y:Nat):Int),s):=by
   intro L
   induction L with
   | nil=>intro _ _ _ y hy;simp at hy
   | cons x L ihl=>
    intro g1 g2 g3 y hy
    rw[ndL,qPf] at g1 g2
    rw[ndL] at g3
    rcases qPu.1 hy with rfl|hy
    ·exact ih _ (by omega) (by omega) fun z hz=>g3 z (qPk _ hz)
    ·exact ihl (by omega) (by omega) (fun z hz=>g3 z (qPh _ hz)) y hy
  have e0:ndN n=n::ndL n.L:=q0a n
  have hlen:(ndN n).length=(ndL n.L).length+1:=by rw[e0];rfl
  have hP:=hsub n.L (by omega) (by omega) fun y hy=>h3 y (by rw[e0];exact qPg _ hy)
  have hLlen:∀L:List qb,L.length≤(ndL L).length:=fun L=>by
   induction L with
   | nil=>simp
   | cons x L ihL=>rw[ndL,qPf,qPj,q0a,qPj];omega
  have hLl:=hLlen n.L
  have hpow:w64 ((1:Int)*(2:Int) ^ min l.length (IntKind.bits IntKind.i64))=((2 ^ l.length:Nat):Int):=by
   rw[show min l.length (IntKind.bits IntKind.i64)=l.length from Nat.min_eq_left (by show l.length≤64;omega),Int.one_mul,show((2:Int) ^ l.length)=((2 ^ l.length:Nat):Int) by simp]
   exact Z3 (by omega) (by omega)
  rw[qbB,q0Z]
  rw[hpow,if_pos (by omega),if_pos ⟨by omega,by omega,by omega⟩,qPb,qc0,qe6]
  by_cases hlf:n.Kind=1∨n.Kind=2
  ·have e1:q9B n=true:=by unfold q9B;rcases hlf with h|h<;>simp[h]
   have e2:lvN n=1:=by rw[qdc,if_pos hlf]
   have hw2:w64 ((nx:Int)+1)=((nx+1:Nat):Int):=by rw[Z3 (by omega) (by omega)];omega
   rw[if_pos e1,if_pos hlf,e2]
   unfold q1c
   by_cases hk:n.Kind=1
   ·have hlt:=qk4 Ql d hd s l hl n hset nx (by omega) _ (if_pos hk).symm hN hN1
    rw[if_pos (by simpa using hk),qP8,Sum.elim_inl,hlt,qP8,hw2]
   ·have hlt:=qk4 Ql d hd s l hl n hset nx (by omega) _ (if_neg hk).symm hN hN1
    rw[if_neg (by simpa using hk),qP8,Sum.elim_inr,hlt,qP8,hw2]
  ·have e1:q9B n=false:=by unfold q9B;have h1:n.Kind≠1:=fun h=>hlf (.inl h);have h2:n.Kind≠2:=fun h=>hlf (.inr h);simp[h1,h2]
   have e2:lvN n=lvL n.L:=by rw[qdc,if_neg hlf]
   have hb0:Bnd b0F (2 ^ l.length) 0:=fun k _=>by unfold b0F;split<;>omega
   have hch:=qp2 d hd s l hl n (by omega) hP (List.replicate (2 ^ l.length) false) n.L 0 nx b0F 0 (by simp) (by simp) (by omega) hb0 (by omega) (by omega)
   rw[e1,if_neg (by simp),if_neg hlf,e2,if_pos ⟨by omega,by omega,by omega⟩]
   rw[qul Ql hN hN1,qP8]
   change Option.bind (zl _ (Zk (2 ^ l.length) b0F,l,(nx:Int),s,((0:Nat):Int))) _=_
   rw[hch,qP8]
   simp only
   by_cases hk:n.Kind=3
   ·rw[if_pos (by simpa using hk),qow Ql hN hN1,qP8]
    simp only[if_pos hk]
   ·rw[if_neg (by simpa using hk),qow Ql hN hN1,qP8]
    simp only[if_neg hk]
theorem qoJ (d:List Int) (hd:d.length≤16) (s:qg) (l:List qa) (hl:l.length≤16) (n:qb) (hLn:n.L.length≤1000000)
  (hP:∀y∈n.L,∀nx:Nat,nx+(ndN y).length≤100000→zK (y,d,l,(nx:Int),s)=some (Zk (2 ^ l.length) (QN d s l y nx),d,l,((nx+lvN y:Nat):Int),s)) (w9:List Bool) :
  ∀(r:List qb) (i nx:Nat) (best:Nat→Int) (M:Int),r.length+i=n.L.length→(∀j,r[j]?=n.L[i+j]?)→nx+(ndL r).length≤100000→Bnd best (2 ^ l.length) M→0≤M→M+r.length≤100000→
  zl (QW zK w9 n n.L (n.L.length:Int)) (d,Zk (2 ^ l.length) best,l,(nx:Int),s,(i:Int))=some ((d,Zk (2 ^ l.length) (qby d s l (n.Kind==4) r nx best),l,((nx+lvL r:Nat):Int),s)):=by
 intro r
 induction r with
 | nil=>
  intro i nx best M hi _ _ _ _ _
  have hi:i=n.L.length:=by simpa using hi
  subst hi
  refine zt ?_
  unfold QW
  simp only
  rw[if_neg (by omega),lvL,Nat.add_zero]
  rfl
 | cons y r ih=>
  intro i nx best M hi hr hnx hb hM0 hM
  rw[ndL,qPf] at hnx
  have hlv:=qll y
  simp only[qPj,Int.natCast_add,Int.natCast_one] at hM hi
  have hget:n.L[i]?=some y:=by have:=hr 0;simpa using this.symm
  have hlt:i<n.L.length:=ZB hget
  have hN:2 ^ l.length≤65536:=qPJ (Nat.pow_le_pow_right (by decide) hl) (by decide)
  have hN1:1≤2 ^ l.length:=Nat.one_le_two_pow
  have hcall:=hP y (qP9 hget) nx (by omega)
  have hw:w64 ((i:Int)+1)=((i+1:Nat):Int):=Qq hlt (by omega)
  have hstep:QW zK w9 n n.L (n.L.length:Int) (d,Zk (2 ^ l.length) best,l,(nx:Int),s,(i:Int))=some (.inl (d,Zk (2 ^ l.length) (stF (n.Kind==4 && !foF d nx (nx+lvN y)) (QN d s l y nx) best),l,((nx+lvN y:Nat):Int),s,((i+1:Nat):Int))):=by
   unfold QW
   simp only
   rw[if_pos (by omega),if_pos ⟨by omega,by omega⟩,qPb,hget,qP8,hcall,qP8]
   simp only[zH]
   cases hk4:(n.Kind==4)
   ·rw[if_neg (by simp),if_pos ⟨by omega,by omega,by omega⟩,qmp (M:=M) zK hN (by omega) hb,qP8,hw,qQb]
   ·rw[if_pos rfl,qpm d hd nx (nx+lvN y),qP8,if_pos ⟨by omega,by omega,by omega⟩,qmp (M:=M) zK hN (by omega) hb,qP8,hw,qPF]
  rw[zS hstep,ih (i+1) _ _ (M+1) (by omega) (fun j=>by rw[show i+1+j=i+(j+1) by omega,←hr (j+1)];rfl) (by omega) (qnX hb (by omega)) (by omega) (by omega)]
  rw[lvL,←qQ2]
  rfl
theorem qnz (d:List Int) (hd:d.length≤16) (s:qg) (l:List qa) (hl:l.length≤16):∀(m:Nat) (n:qb),(ndN n).length≤m→(ndN n).length≤10000→(∀y∈ndN n,y.Set.length≤1000000)→∀nx:Nat,nx+(ndN n).length≤100000→zK (n,d,l,(nx:Int),s)=some (Zk (2 ^ l.length) (QN d s l n nx),d,l,((nx+lvN n:Nat):Int),s):=by
 intro m
 induction m with
 | zero=>intro n h;rw[q0a] at h;simp at h
 | succ m ih=>
  intro n h1 h2 h3 nx hnx
  have hN:2 ^ l.length≤65536:=qPJ (Nat.pow_le_pow_right (by decide) hl) (by decide)
  have hN1:1≤2 ^ l.length:=Nat.one_le_two_pow
  have hlv:=qll n
  have hset:=h3 n (by rw[q0a];exact qPn)
  have hsub:∀(L:List qb),(ndL L).length≤m→(ndL L).length≤10000→(∀y∈ndL L,y.Set.length≤1000000)→∀y∈L,∀nx:Nat,nx+(ndN y).length≤100000→zK (y,d,l,(nx:Int),s)=some (Zk (2 ^ l.length) (QN d s l y nx),d,l,((nx+lvN y:Nat):Int),s):=by
   intro L
   induction L with
   | nil=>intro _ _ _ y hy;simp at hy
   | cons x L ihl=>
    intro g1 g2 g3 y hy
    rw[ndL,qPf] at g1 g2
    rw[ndL] at g3
    rcases qPu.1 hy with rfl|hy
    ·exact ih _ (by omega) (by omega) fun z hz=>g3 z (qPk _ hz)
    ·exact ihl (by omega) (by omega) (fun z hz=>g3 z (qPh _ hz)) y hy
  have e0:ndN n=n::ndL n.L:=q0a n
  have hlen:(ndN n).length=(ndL n.L).length+1:=by rw[e0];rfl
  have hP:=hsub n.L (by omega) (by omega) fun y hy=>h3 y (by rw[e0];exact qPg _ hy)
  have hLlen:∀L:List qb,L.length≤(ndL L).length:=fun L=>by
   induction L with
   | nil=>simp
   | cons x L ihL=>rw[ndL,qPf,qPj,q0a,qPj];omega
  have hLl:=hLlen n.L
  have hpow:w64 ((1:Int)*(2:Int) ^ min l.length (IntKind.bits IntKind.i64))=((2 ^ l.length:Nat):Int):=by
   rw[show min l.length (IntKind.bits IntKind.i64)=l.length from Nat.min_eq_left (by show l.length≤64;omega),Int.one_mul,show((2:Int) ^ l.length)=((2 ^ l.length:Nat):Int) by simp]
   exact Z3 (by omega) (by omega)
  rw[q9J,q0e]
  rw[hpow,if_pos (by omega),if_pos ⟨by omega,by omega,by omega⟩,qPb,qc0,qe6]
  by_cases hlf:n.Kind=1∨n.Kind=2
  ·have e1:q9B n=true:=by unfold q9B;rcases hlf with h|h<;>simp[h]
   have e2:lvN n=1:=by rw[qdc,if_pos hlf]
   have hw2:w64 ((nx:Int)+1)=((nx+1:Nat):Int):=by rw[Z3 (by omega) (by omega)];omega
   rw[if_pos e1,if_pos hlf,e2]
   unfold q1c
   by_cases hk:n.Kind=1
   ·have hlt:=qkq zK d hd s l hl n hset nx (by omega) _ (if_pos hk).symm hN hN1
    rw[if_pos (by simpa using hk),qP8,Sum.elim_inl,hlt,qP8,hw2]
   ·have hlt:=qkq zK d hd s l hl n hset nx (by omega) _ (if_neg hk).symm hN hN1
    rw[if_neg (by simpa using hk),qP8,Sum.elim_inr,hlt,qP8,hw2]
  ·have e1:q9B n=false:=by unfold q9B;have h1:n.Kind≠1:=fun h=>hlf (.inl h);have h2:n.Kind≠2:=fun h=>hlf (.inr h);simp[h1,h2]
   have e2:lvN n=lvL n.L:=by rw[qdc,if_neg hlf]
   have hb0:Bnd b0F (2 ^ l.length) 0:=fun k _=>by unfold b0F;split<;>omega
   have hch:=qoJ d hd s l hl n (by omega) hP (List.replicate (2 ^ l.length) false) n.L 0 nx b0F 0 (by simp) (by simp) (by omega) hb0 (by omega) (by omega)
   rw[e1,if_neg (by simp),if_neg hlf,e2,if_pos ⟨by omega,by omega,by omega⟩]
   rw[qxK zK hN hN1,qP8]
   change Option.bind (zl _ (d,Zk (2 ^ l.length) b0F,l,(nx:Int),s,((0:Nat):Int))) _=_
   rw[hch,qP8]
   simp only
   by_cases hk:n.Kind=3
   ·rw[if_pos (by simpa using hk),qnI zK hN hN1,qP8]
    simp only[if_pos hk]
   ·rw[if_neg (by simpa using hk),qnI zK hN hN1,qP8]
    simp only[if_neg hk]
end
noncomputable section
open Go.RowKit
structure q0G (d:qj):Prop where
 lo:0≤d.At
 hi:d.At≤d.L.length
 len:d.L.length≤9223372036854775807
theorem q2A {d:qj} (h:q0G d) {most:Int} (h0:0<most) (h1:most≤1000000):∃v d',qu most d=some (v,d')∧0≤v∧v<most∧q0G d':=by
 obtain⟨a,b,c⟩:=h
 unfold qu
 by_cases he:(d.L.length:Int)≤d.At
 ·exact⟨0,d,if_pos he,Int.le_refl _,h0,⟨a,b,c⟩⟩
 ·obtain⟨x,hx⟩:∃x,d.L[Int.toNat d.At]?=some x:=⟨_,qPa (by omega)⟩
  have e1:=Int.tmod_lt_of_pos x h0
  have e2 : -most<Int.tmod x most:=by
   have:=Int.tmod_lt_of_pos (-x) h0
   rw[Int.neg_tmod] at this;omega
  have e3:w64 (Int.tmod x most+most)=Int.tmod x most+most:=Z3 (by omega) (by omega)
  have e4:=Int.tmod_lt_of_pos (Int.tmod x most+most) h0
  have e5:0≤Int.tmod (Int.tmod x most+most) most:=Int.tmod_nonneg _ (by omega)
  have e6:w64 (d.At+1)=d.At+1:=Z3 (by omega) (by omega)
  refine⟨Int.tmod (Int.tmod x most+most) most,⟨d.L,d.At+1⟩,?_,e5,e4,⟨by show 0≤d.At+1;omega,by show d.At+1≤d.L.length;omega,c⟩⟩
  rw[if_neg he,if_pos ⟨a,by omega⟩,hx,qP8,if_neg (by omega),if_neg (by omega),e3,e6]
def q9T:List Int:=[1,1,1,2,2,3]
def q61 (c:qc):Prop:=c.School∈q9T∧c.Code∈Q3
theorem qlS {α:Type} (l:List α) (i:Int) (h0:0≤i) (h1:i<l.length):∃x,l[Int.toNat i]?=some x∧x∈l:=⟨l[Int.toNat i],qPa (by omega),qQ0 _⟩
theorem qhF {d:qj} (h:q0G d):∃c d',q05 d=some (c,d')∧q61 c∧q0G d':=by
 obtain⟨v,d1,e1,a1,b1,h1⟩:=q2A h (most:=6) (by omega) (by omega)
 obtain⟨w,d2,e2,a2,b2,h2⟩:=q2A h1 (most:=((Q3.length:Nat):Int)) (by unfold Q3;simp) (by unfold Q3;simp)
 obtain⟨x,hx,mx⟩:=qlS q9T v a1 (by simpa [q9T] using b1)
 obtain⟨y,hy,my⟩:=qlS Q3 w a2 b2
 refine⟨⟨x,y⟩,d2,?_,⟨mx,my⟩,h2⟩
 unfold q05
 rw[e1,qP8,if_pos ⟨a1,b1⟩]
 unfold q9T at hx
 rw[hx,qP8,e2,qP8,if_pos ⟨a2,b2⟩,hy,qP8]
theorem qam {c:qc} (h:q61 c):q1h c=true:=by
 obtain⟨s,k⟩:=c
 obtain⟨h1,h2⟩:=h
 have e1:∀s∈q9T,inF s 1 8=true:=by decide
 have e2:∀k∈Q3,qqC k=true:=by unfold Q3;decide
 unfold q1h
 rw[e1 s h1,e2 k h2];rfl
theorem qtB:∀(x y:List UInt8),Op.bytesLess x y=true∨x=y∨Op.bytesLess y x=true
 | [],[] => .inr (.inl rfl)
 | [],_::_ => .inl rfl
 | _::_,[] => .inr (.inr rfl)
 | a::x,b::y=>by
  simp only[Op.bytesLess]
  by_cases h1:a<b
  ·simp[h1]
  ·by_cases h2:b<a
   ·simp[h1,h2]
   ·have:a=b:=by
     apply UInt8.toNat_inj.1
     have h1':¬ a.toNat<b.toNat:=h1
     have h2':¬ b.toNat<a.toNat:=h2
     omega
    subst this
    rcases qtB x y with h|h|h<;>simp[h]
def q4e (a b:qc):Bool:=Qk a b
theorem qkE (a b:qc):q4e a b=decide (qxi a b<0):=by
 unfold q4e Qk qxi qfF qEF
 by_cases h1:a.School<b.School
 ·rw[if_pos h1,if_pos (by omega),if_pos h1];rfl
 ·rw[if_neg h1]
  by_cases h2:a.School=b.School
  ·rw[if_pos (by simpa using h2),if_neg (fun h=>h h2)]
   cases h3:Op.bytesLess a.Code.toList b.Code.toList
   ·cases h4:(a.Code.toList==b.Code.toList)<;>simp
   ·simp
  ·rw[if_neg (by simpa using h2),if_pos h2,if_neg h1,if_pos (by omega)];rfl
theorem qs6 (a b:qc):q4e a b=true∨ceq a b=true∨q4e b a=true:=by
 unfold q4e Qk ceq
 by_cases h1:a.School<b.School
 ·simp[h1]
 ·by_cases h2:b.School<a.School
  ·simp[h2]
  ·have h3:a.School=b.School:=by omega
   rcases qtB a.Code.toList b.Code.toList with h|h|h
   ·left;simp[h3,h]
   ·right;left;simp[h3,h]
   ·right;right;simp[h3,h]
def qj2 {α:Type} (l:List α) (k:Nat) (c:α):List α:=l.take k++c::l.drop k
theorem qtx {α:Type}:∀(ys l:List α) (k:Nat),k+ys.length≤l.length→spl l k ys=l.take k++(ys++l.drop (k+ys.length))
 | [],l,k,_=>by rw[spl,qPS,Nat.add_zero,qPs,qPX]
 | x::ys,l,k,h=>by
  simp only[qPj] at h ⊢
  rw[spl,qtx ys (l.set k x) (k+1) (by rw[qPU];omega)]
  have e:l.set k x=l.take k++x::l.drop (k+1):=by rw[List.set_eq_take_append_cons_drop,if_pos (by omega)]
  have hl:(l.take k).length=k:=by rw[qPB];omega
  have e1:(l.set k x).take (k+1)=l.take k++[x]:=by
   rw[e,List.take_append,hl,qQg (by omega),show k+1-k=1 by omega];rfl
  have e2:(l.set k x).drop (k+1+ys.length)=l.drop (k+(ys.length+1)):=by
   rw[e,List.drop_append,hl,qPP (by omega),qPs,show k+1+ys.length-k=ys.length+1 by omega,List.drop_succ_cons,qPW]
   congr 1;omega
  rw[e1,e2,qPO]
  rfl
theorem qnb {α:Type} (l:List α) (z c:α) (k:Nat) (h:k<l.length):List.set (spl (l++[z]) (k+1) (List.take (min (l.length+1-k) (l.length+1-(k+1))) (List.take (l.length+1-k) (List.drop k (l++[z]))))) k c=qj2 l k c:=by
 have e1:List.take (min (l.length+1-k) (l.length+1-(k+1))) (List.take (l.length+1-k) (List.drop k (l++[z])))=l.drop k:=by
  rw[List.take_take,List.drop_append_of_le_length (by omega),show min (min (l.length+1-k) (l.length+1-(k+1))) (l.length+1-k)=l.length-k by omega,List.take_append_of_le_length (by rw[qPV];omega),qQg (by rw[qPV];omega)]
 rw[e1,qtx _ _ _ (by rw[qPV,qPf,qPq];omega)]
 unfold qj2
 have e2:List.drop (k+1+(l.length-k)) (l++[z])=[]:=qPP (by rw[qPf,qPq];omega)
 rw[qPV,e2,qPt,List.take_append_of_le_length (by omega)]
 rw[List.take_add_one,qPa h,Option.toList_some,qPO,List.set_append_right _ _ (by rw[qPB];omega),qPB,Nat.min_eq_left (by omega),Nat.sub_self]
 rfl
theorem qjn {α:Type} (l:List α) (z c:α):List.set (l++[z]) l.length c=qj2 l l.length c:=by
 unfold qj2
 rw[List.set_append_right _ _ (qPo _),Nat.sub_self,List.take_length,List.drop_length]
 rfl
end
noncomputable section
open Go.RowKit
structure qap (l:List qc):Prop where
 ok:∀c∈l,q61 c
 ord:qhc l=true
theorem q5B {x y:qc} {l:List qc}:qhc (x::y::l)=(q4e x y&&qhc (y::l)):=by rw[qhc,qkE]
theorem qng {x:qc} {l:List qc} (h:qhc (x::l)=true):qhc l=true:=by
 cases l with
 | nil=>rfl
 | cons y l=>rw[q5B,qPE] at h;exact h.2
def atF (l:List qc) (c:qc):Nat:=(l.takeWhile fun x=>q4e x c).length
theorem qmt (l:List qc) (c:qc):atF l c≤l.length:=by
 unfold atF
 induction l with
 | nil=>simp
 | cons x l ih=>rw[List.takeWhile_cons];split<;>simp<;>omega
theorem qmA {c:qc}:∀{l:List qc},qhc l=true→(∀x,l[atF l c]?=some x→ceq x c=false)→qhc (qj2 l (atF l c) c)=true
 | [],_,_=>rfl
 | x::l,h,hc=>by
  by_cases hx:q4e x c=true
  ·have e:atF (x::l) c=atF l c+1:=by unfold atF;rw[List.takeWhile_cons,if_pos hx];rfl
   rw[e] at hc ⊢
   have ih:=qmA (qng h) (fun y hy=>hc y (by simpa using hy))
   have e2:qj2 (x::l) (atF l c+1) c=x::qj2 l (atF l c) c:=rfl
   rw[e2]
   cases l with
   | nil=>rw[show qj2 ([]:List qc) (atF [] c) c=[c] from rfl,q5B,hx];rfl
   | cons y l=>
    rw[q5B,qPE] at h
    by_cases hy:q4e y c=true
    ·have e3:atF (y::l) c=atF l c+1:=by unfold atF;rw[List.takeWhile_cons,if_pos hy];rfl
     rw[e3] at ih ⊢
     have e4:qj2 (y::l) (atF l c+1) c=y::qj2 l (atF l c) c:=rfl
     rw[e4] at ih ⊢
     rw[q5B,h.1,ih];rfl
    ·have e3:atF (y::l) c=0:=by unfold atF;rw[List.takeWhile_cons,if_neg hy];rfl
     rw[e3] at ih ⊢
     have e4:qj2 (y::l) 0 c=c::y::l:=rfl
     rw[e4] at ih ⊢
     rw[q5B,hx,ih];rfl
  ·have e:atF (x::l) c=0:=by unfold atF;rw[List.takeWhile_cons,if_neg hx];rfl
   rw[e] at hc ⊢
   have e2:qj2 (x::l) 0 c=c::x::l:=rfl
   rw[e2,q5B]
   have h1:=hc x (by simp)
   rcases qs6 x c with h2|h2|h2
   ·exact absurd h2 hx
   ·rw[h2] at h1;cases h1
   ·rw[h2,h];rfl
theorem qun (out:List qc) (hl:out.length≤1000000) (d:qj) (c:qc) (many k:Int):zl (q08 out d c many k) 0=some ((atF out c:Nat):Int):=by
 have h1:=q2m (ε:=Int) (step:=q08 out d c many k) out (fun(_:Unit) i=>(i:Int)) (fun i _ x=>if q4e x c=true then .inl () else .inr (i:Int)) (fun _=>(out.length:Int)) (fun _ i x hx=>by
   have hi:=ZB hx
   unfold q08
   rw[if_pos (by omega),if_pos ⟨by omega,by omega⟩,qPb,hx,qP8,Qq hi (by omega)]
   show(if q4e x c=true then _ else _)=_
   cases q4e x c<;>simp) (fun _=>by
   unfold q08
   rw[if_neg (by omega)]) ()
 rw[show((0:Nat):Int)=0 from rfl] at h1
 rw[h1]
 congr 1
 have:∀(l:List qc) (i:Nat) (n:Nat),i+l.length=n→q4z (ε:=Int) (fun i (_:Unit) (x:qc)=>if q4e x c=true then .inl () else .inr (i:Int)) (fun _=>(n:Int)) l i ()=((i+atF l c:Nat):Int):=by
  intro l
  induction l with
  | nil=>intro i n h;simp at h;unfold q4z atF;simp[h]
  | cons x l ih=>
   intro i n h
   simp only[qPj] at h
   unfold q4z
   by_cases hx:q4e x c=true
   ·have e:atF (x::l) c=atF l c+1:=by unfold atF;rw[List.takeWhile_cons,if_pos hx];rfl
    simp only[hx,if_true]
    rw[ih (i+1) n (by omega),e]
    omega
   ·have e:atF (x::l) c=0:=by unfold atF;rw[List.takeWhile_cons,if_neg hx];rfl
    have hx':q4e x c=false:=by simpa using hx
    simp only[hx',Bool.false_eq_true,if_false]
    rw[e];rfl
 have:=this out 0 out.length (by simp)
 simpa using this
def qiB (l:List qc) (c:qc):List qc:=if(l[atF l c]?).any (fun x=>ceq x c)=true then l else qj2 l (atF l c) c
theorem qhC (l:List qc) (c:qc):l.length≤(qiB l c).length∧(qiB l c).length≤l.length+1∧1≤(qiB l c).length:=by
 have h:=qmt l c
 unfold qiB
 split
 ·rename_i h2
  refine⟨qPo _,by omega,?_⟩
  cases l with
  | nil=>simp at h2
  | cons x l=>simp
 ·unfold qj2
  simp only[qPf,qPj,qPB,qPV]
  omega
theorem qqU {l:List qc} {c:qc} (h:qap l) (hc:q61 c):qap (qiB l c):=by
 unfold qiB
 split
 ·exact h
 ·rename_i h2
  refine⟨fun x hx=>?_,qmA h.ord fun x hx=>?_⟩
  ·unfold qj2 at hx
   rcases qPC.1 hx with hx|hx
   ·exact h.ok x (List.mem_of_mem_take hx)
   ·rcases qPu.1 hx with rfl|hx
    ·exact hc
    ·exact h.ok x (List.mem_of_mem_drop hx)
  ·rw[hx] at h2
   simpa using h2
theorem qpR (out:List qc) (hl:out.length≤1000) {d:qj} (hd:q0G d) (many:Int) (k:Nat) (hk:(k:Int)<many) (hk2:k≤1000):∃c d',q61 c∧q0G d'∧J6 many (out,d,(k:Int))=some (.inl (qiB out c,d',((k+1:Nat):Int))):=by
 obtain⟨c,d',h1,h2,h3⟩:=qhF hd
 refine⟨c,d',h2,h3,?_⟩
 have hML:100000≤maxLen:=by unfold maxLen;omega
 have hat:=qmt out c
 unfold J6
 simp only
 rw[if_pos hk,h1,qP8]
 simp only
 rw[qun out (by omega),qP8]
 have hwk:w64 ((k:Int)+1)=((k+1:Nat):Int):=by rw[Z3 (by omega) (by omega)];omega
 have hwa:w64 (((atF out c:Nat):Int)+1)=((atF out c+1:Nat):Int):=by rw[Z3 (by omega) (by omega)];omega
 rw[hwk,hwa]
 simp only[qPb,qPB,qPV,qPf,qPj,qPS]
 unfold qiB
 by_cases hlt:atF out c<out.length
 ·obtain⟨x,hx⟩:∃x,out[atF out c]?=some x:=⟨_,qPa hlt⟩
  rw[if_pos (by omega),if_pos ⟨by omega,by omega⟩,hx,qP8]
  simp only[Option.any_some]
  by_cases hc:ceq x c=true
  ·have hc2:=hc
   unfold ceq at hc2
   simp only[qPE] at hc2
   rw[if_pos hc2,if_pos hc]
  ·have hc2:¬ ((x.School==c.School)=true∧(x.Code.toList==c.Code.toList)=true):=fun h=>hc (by unfold ceq;rw[h.1,h.2];rfl)
   rw[if_neg hc2,if_neg hc]
   repeat (first|rw[if_pos (by omega)]|rw[if_neg (by omega)])
   rw[qnb _ _ _ _ hlt]
 ·have he:atF out c=out.length:=by omega
  have hnone:out[out.length]?=none:=qPG (qPo _)
  rw[he,hnone]
  simp only[Option.any_none,Bool.false_eq_true,if_false]
  repeat (first|rw[if_pos (by omega)]|rw[if_neg (by omega)])
  rw[qjn]
theorem qJP {d:qj} (hd:q0G d):∃S d',Jm d=some (S,d')∧q0G d'∧qap S∧1≤S.length∧S.length≤3:=by
 obtain⟨v,d1,e1,a1,b1,h1⟩:=q2A hd (most:=3) (by omega) (by omega)
 obtain⟨m,rfl⟩:∃m:Nat,v=(m:Int):=⟨v.toNat,by omega⟩
 have hw:w64 (1+(m:Int))=((m+1:Nat):Int):=by rw[Z3 (by omega) (by omega)];omega
 have key:∀(j k:Nat) (out:List qc) (d:qj),j+k=m+1→q0G d→qap out→out.length≤k→(1≤k→1≤out.length)→∃S d',zl (J6 ((m+1:Nat):Int)) (out,d,(k:Int))=some (S,d')∧q0G d'∧qap S∧1≤S.length∧S.length≤m+1:=by
  intro j
  induction j with
  | zero=>
   intro k out d hk hd hs hl1 hl2
   refine⟨out,d,zt ?_,hd,hs,hl2 (by omega),by omega⟩
   unfold J6
   simp only
   rw[if_neg (by omega)]
  | succ j ih=>
   intro k out d hk hd hs hl1 hl2
   obtain⟨c,d',g1,g2,g3⟩:=qpR out (by omega) hd ((m+1:Nat):Int) k (by omega) (by omega)
   obtain⟨p1,p2,p3⟩:=qhC out c
   rw[zS g3]
   exact ih (k+1) _ d' (by omega) g2 (qqU hs g1) (by omega) (fun _=>p3)
 obtain⟨S,d',g1,g2,g3,g4,g5⟩:=key (m+1) 0 [] d1 (by omega) h1 ⟨by simp,rfl⟩ (by simp) (by omega)
 refine⟨S,d',?_,g2,g3,g4,by omega⟩
 unfold Jm
 rw[e1,qP8,hw]
 rw[show((0:Nat):Int)=0 from rfl] at g1
 simp only
 rw[g1,qP8]
end
noncomputable section
open Go.RowKit
structure qcc (n:qb):Prop where
 kd:(n.Kind=2∧1≤n.N∧n.N≤12)∨(n.Kind=1∧n.N=0)
 mn:0≤n.Min∧n.Min≤80
 st:qap n.Set
 s1:1≤n.Set.length
 s3:n.Set.length≤3
 nl:n.L=[]
structure qgE (n:qb):Prop where
 kd:(n.Kind=3∧n.N=0)∨(n.Kind=4∧1≤n.N∧n.N≤n.L.length)
 mn:n.Min=0
 st:n.Set=[]
 ne:n.L≠[]
def q7O (n:qb):Prop:=qcc n∨qgE n
structure q6l (deep leaves:Nat) (n:qb):Prop where
 ok:∀y∈ndN n,q7O y
 hg:hgN n≤deep+1
 l1:1≤lvN n
 l2:lvN n≤max 1 leaves
 nd:(ndN n).length≤lvN n*(deep+1)
theorem qcC {n:qb} (h:qcc n) (deep leaves:Nat):q6l deep leaves n:=by
 have e1:ndN n=[n]:=by rw[q0a,h.nl,ndL]
 have e2:lvN n=1:=by rw[qdc,if_pos];rcases h.kd with h|h<;>simp[h.1]
 have e3:hgN n=1:=by rw[qex,h.nl,hgL]
 refine⟨fun y hy=>?_,by omega,by omega,by omega,?_⟩
 ·rw[e1] at hy
  rw[qPZ.1 hy];exact .inl h
 ·rw[e1,e2,qPq];omega
def qor (d:qj):Option (qb×qj):=Option.bind (qu (3:Int) d) fun a3=>if(a3.1==(0:Int))=Bool.true then Option.bind (qu (12:Int) a3.2) fun a4=>Option.bind (qu (3:Int) a4.2) fun a5=>if(0:Int)≤a5.1∧a5.1<(3:Int) then Option.bind [(0:Int),(50:Int),(60:Int)][Int.toNat a5.1]? fun a6=>Option.bind (Jm a5.2) fun a7=>some (qb.mk (2:Int) (w64 ((1:Int)+a4.1)) a6 a7.1 [],a7.2) else none else Option.bind (qu (4:Int) a3.2) fun a8=>if(0:Int)≤a8.1∧a8.1<(4:Int) then Option.bind [(0:Int),(50:Int),(60:Int),(80:Int)][Int.toNat a8.1]? fun a9=>Option.bind (Jm a8.2) fun a10=>some (qb.mk (1:Int) (0:Int) a9 a10.1 [],a10.2) else none
theorem qjy {d:qj} (hd:q0G d):∃n d',qor d=some (n,d')∧qcc n∧q0G d':=by
 obtain⟨v,d1,e1,a1,b1,h1⟩:=q2A hd (most:=3) (by omega) (by omega)
 unfold qor
 rw[e1,qP8]
 simp only
 by_cases hv:v=0
 ·obtain⟨w,d2,e2,a2,b2,h2⟩:=q2A h1 (most:=12) (by omega) (by omega)
  obtain⟨u,d3,e3,a3,b3,h3⟩:=q2A h2 (most:=3) (by omega) (by omega)
  obtain⟨x,hx,mx⟩:=qlS [(0:Int),50,60] u a3 (by simpa using b3)
  obtain⟨S,d4,e4,h4,s1,s2,s3⟩:=qJP h3
  have hw:w64 (1+w)=1+w:=Z3 (by omega) (by omega)
  have hm:∀x∈[(0:Int),50,60],0≤x∧x≤80:=by decide
  refine⟨⟨2,1+w,x,S,[]⟩,d4,?_,⟨.inl ⟨rfl,by show 1≤1+w;omega,by show 1+w≤12;omega⟩,hm x mx,s1,s2,s3,rfl⟩,h4⟩
  rw[if_pos (by simp[hv]),e2,qP8]
  simp only
  rw[e3,qP8]
  simp only
  rw[if_pos ⟨a3,b3⟩,hx,qP8,e4,qP8,hw]
 ·obtain⟨u,d3,e3,a3,b3,h3⟩:=q2A h1 (most:=4) (by omega) (by omega)
  obtain⟨x,hx,mx⟩:=qlS [(0:Int),50,60,80] u a3 (by simpa using b3)
  obtain⟨S,d4,e4,h4,s1,s2,s3⟩:=qJP h3
  have hm:∀x∈[(0:Int),50,60,80],0≤x∧x≤80:=by decide
  refine⟨⟨1,0,x,S,[]⟩,d4,?_,⟨.inr ⟨rfl,rfl⟩,hm x mx,s1,s2,s3,rfl⟩,h4⟩
  rw[if_neg (by simpa using hv),e3,qP8]
  simp only
  rw[if_pos ⟨a3,b3⟩,hx,qP8,e4,qP8]
theorem qbj (rF:(Int×Int×qj)→Option (qb×qj)) (x1 x2:Int) (v:qj):q1E rF (x1,x2,v)=(qu 6 v).bind fun a2=>
  if x1≤0 then qor a2.2 else if x2<2 then qor a2.2 else if a2.1<2 then qor a2.2 else
  Option.bind (qu (min (3:Int) x2) a2.2) fun a27=>
  Option.bind (zl (Zf rF (0:Int) (0:Int) (0:Int) (3:Int) (0:Int) (0:Int) x1 x2 a2.1 (w64 ((1:Int)+a27.1))) ([],(a27.2,(0:Int)))) fun a28=>
  if(3:Int)<a2.1 then Option.bind (qu (w64 ((1:Int)+a27.1)) a28.2) fun a29=>
   some (qb.mk (4:Int) (w64 ((1:Int)+a29.1)) (0:Int) [] a28.1,a29.2)
  else some (qb.mk (3:Int) (0:Int) (0:Int) [] a28.1,a28.2):=rfl
theorem qn9 {deep q:Nat} (hq:1≤q):∀(L:List qb),(∀y∈L,q6l deep q y)→hgL L≤deep+1∧L.length≤lvL L∧lvL L≤L.length*q∧(ndL L).length≤lvL L*(deep+1)∧∀y∈ndL L,q7O y
 | [],_=>⟨by simp[hgL],by simp[lvL],by simp[lvL],by simp[ndL],by simp[ndL]⟩
 | x::L,h=>by
  obtain⟨a,b,c,d,e⟩:=qn9 hq L fun y hy=>h y (qPg _ hy)
  obtain⟨f,g,i,j,k⟩:=h x qPn
  rw[Nat.max_eq_right hq] at j
  refine⟨?_,?_,?_,?_,?_⟩
  ·rw[hgL];omega
  ·rw[lvL,qPj];omega
  ·rw[lvL,qPj,Nat.add_mul];omega
  ·rw[ndL,lvL,qPf,Nat.add_mul];omega
  ·rw[ndL]
   intro y hy
   rcases qPC.1 hy with hy|hy
   ·exact f y hy
   ·exact e y hy
theorem qeg {n:qb} (h:qgE n) {deep leaves q:Nat} (hq:1≤q) (hk:n.L.length*q≤leaves) (hL:∀y∈n.L,q6l deep q y):q6l (deep+1) leaves n:=by
 obtain⟨a,b,c,d,e⟩:=qn9 hq n.L hL
 have hlen:1≤n.L.length:=by cases hn:n.L with|nil=>exact absurd hn h.ne|cons x l=>simp
 have e2:lvN n=lvL n.L:=by rw[qdc,if_neg];rcases h.kd with h|h<;>simp[h.1]
 refine⟨fun y hy=>?_,?_,by omega,by omega,?_⟩
 ·rw[q0a] at hy
  rcases qPu.1 hy with rfl|hy
  ·exact .inr h
  ·exact e y hy
 ·rw[qex];omega
 ·rw[q0a,qPj,e2,show deep+1+1=(deep+1)+1 from rfl,Nat.mul_add];omega
theorem qpT:∀(deep leaves:Nat) (d:qj),deep≤10→leaves≤100→q0G d→∃n d',ZS ((deep:Int),(leaves:Int),d)=some (n,d')∧q6l deep leaves n∧q0G d':=by
 intro deep
 induction deep with
 | zero=>
  intro leaves d _ _ hd
  obtain⟨v,d1,e1,a1,b1,h1⟩:=q2A hd (most:=6) (by omega) (by omega)
  obtain⟨n,d',g1,g2,g3⟩:=qjy h1
  refine⟨n,d',?_,qcC g2 _ _,g3⟩
  rw[q6X,qbj,e1,qP8,if_pos (by omega)]
  exact g1
 | succ deep ih=>
  intro leaves d hdp hlv hd
  obtain⟨v,d1,e1,a1,b1,h1⟩:=q2A hd (most:=6) (by omega) (by omega)
  obtain⟨n0,d0,g1,g2,g3⟩:=qjy h1
  rw[q6X,qbj,e1,qP8,if_neg (by omega)]
  by_cases hl:leaves<2
  ·exact⟨n0,d0,by rw[if_pos (by omega)];exact g1,qcC g2 _ _,g3⟩
  ·rw[if_neg (by omega)]
   by_cases hv:v<2
   ·exact⟨n0,d0,by rw[if_pos hv];exact g1,qcC g2 _ _,g3⟩
   ·rw[if_neg hv]
    clear g1 g2 g3 n0 d0
    obtain⟨w,d2,e2,a2,b2,h2⟩:=q2A h1 (most:=min 3 (leaves:Int)) (by omega) (by omega)
    simp only
    rw[e2,qP8]
    simp only
    obtain⟨m,hm⟩:∃m:Nat,(m:Int)=1+w:=⟨(1+w).toNat,by omega⟩
    have hw:w64 (1+w)=(m:Int):=by rw[Z3 (by omega) (by omega)];omega
    rw[hw]
    have hm1:1≤m:=by omega
    have hm3:m≤3:=by omega
    have hml:m≤leaves:=by omega
    obtain⟨q,hq⟩:∃q,q=leaves / m:=⟨_,rfl⟩
    have hq1:1≤q:=by rw[hq];exact(Nat.le_div_iff_mul_le (by omega)).2 (by omega)
    have hqm:m*q≤leaves:=by rw[hq];exact Nat.mul_div_le _ _
    have hq2:q≤leaves:=by rw[hq];exact Nat.div_le_self _ _
    have hML:100000≤maxLen:=by unfold maxLen;omega
    have hdiv:w64 (Int.tdiv (leaves:Int) (m:Int))=(q:Int):=by
     rw[←Int.ofNat_tdiv,←hq,Z3 (by omega) (by omega)]
    have hdeep:w64 (((deep+1:Nat):Int)-1)=(deep:Int):=by rw[Z3 (by omega) (by omega)];omega
    have key:∀(j i:Nat) (l:List qb) (d:qj),j+i=m→l.length=i→(∀y∈l,q6l deep q y)→q0G d→∃l' d',zl (Zf ZS 0 0 0 3 0 0 ((deep+1:Nat):Int) (leaves:Int) v (m:Int)) (l,d,(i:Int))=some (l',d')∧l'.length=m∧(∀y∈l',q6l deep q y)∧q0G d':=by
     intro j
     induction j with
     | zero=>
      intro i l d hi hl hy hd
      refine⟨l,d,zt ?_,by omega,hy,hd⟩
      unfold Zf
      simp only
      rw[if_neg (by omega)]
     | succ j ihj=>
      intro i l d hi hl hy hd
      obtain⟨n,d',q1,q2,q3⟩:=ih q d (by omega) (by omega) hd
      have hs:Zf ZS 0 0 0 3 0 0 ((deep+1:Nat):Int) (leaves:Int) v (m:Int) (l,d,(i:Int))=some (.inl (l++[n],d',((i+1:Nat):Int))):=by
       unfold Zf
       simp only
       rw[if_pos (by omega),if_neg (by omega),hdiv,hdeep,q1,qP8]
       simp only
       rw[if_pos ⟨by omega,by omega⟩,Z3 (by omega) (by omega)]
       rfl
      rw[zS hs]
      refine ihj (i+1) (l++[n]) d' (by omega) (by simp[hl]) (fun y hy2=>?_) q3
      rcases qPC.1 hy2 with h|h
      ·exact hy y h
      ·rw[qPZ.1 h];exact q2
    obtain⟨l,d3,q1,q2,q3,q4⟩:=key m 0 [] d2 (by omega) rfl (by simp) h2
    rw[show((0:Nat):Int)=0 from rfl] at q1
    rw[q1,qP8]
    have hne:l≠[]:=fun h=>by rw[h] at q2;simp at q2;omega
    by_cases hv3:(3:Int)<v
    ·obtain⟨u,d4,e4,a4,b4,h4⟩:=q2A q4 (most:=(m:Int)) (by omega) (by omega)
     have hwu:w64 (1+u)=1+u:=Z3 (by omega) (by omega)
     simp only
     rw[if_pos hv3,e4,qP8,hwu]
     exact⟨_,d4,rfl,qeg (q:=q) ⟨.inr ⟨rfl,by show 1≤1+u;omega,by show 1+u≤(l.length:Int);omega⟩,rfl,rfl,hne⟩ hq1 (by show l.length*q≤leaves;rw[q2];exact hqm) q3,h4⟩
    ·simp only
     rw[if_neg hv3]
     exact⟨_,d3,rfl,qeg (q:=q) ⟨.inl ⟨rfl,rfl⟩,rfl,rfl,hne⟩ hq1 (by show l.length*q≤leaves;rw[q2];exact hqm) q3,q4⟩
theorem qgr {n:qb} (h:qcc n):q3g n=0:=by
 have h1:=h.s1
 have h3:=h.s3
 have hm:=h.mn
 have e1:inF n.Min (-1000) 1000=true:=by unfold inF;simp;omega
 have e2:inF n.Set.length 1 12=true:=by unfold inF;simp;omega
 have e3:n.Set.all q1h=true:=qPp.2 fun c hc=>qam (h.st.ok c hc)
 unfold q3g
 rw[e1,e2,e3,h.st.ord]
 simp
theorem qlX {n:qb} (h:q7O n):q9L n=0:=by
 unfold q9L
 rcases h with h|h
 ·have hc:=qgr h
  rcases h.kd with ⟨k,a,b⟩|⟨k,a⟩
  ·have e:inF n.N 1 600=true:=by unfold inF;simp;omega
   simp[k,h.nl,e,hc]
  ·simp[k,h.nl,a,hc]
 ·have hb:q8G n=true:=by
   unfold q8G
   rw[h.mn,h.st]
   cases hL:n.L with
   | nil=>exact absurd hL h.ne
   | cons x l=>rfl
  rcases h.kd with ⟨k,a⟩|⟨k,a,b⟩
  ·simp[k,hb,a]
  ·have e:inF n.N 1 n.L.length=true:=by unfold inF;simp;omega
   simp[k,hb,e]
theorem qkD:∀(l:List qb),(∀y∈l,q9L y=0)→qtp l=none
 | [],_=>rfl
 | x::l,h=>by
  unfold qtp
  rw[List.findSome?_cons,h x qPn]
  simp only[ne_eq,not_true_eq_false,if_false]
  exact qkD l fun y hy=>h y (qPg _ hy)
theorem qGR:∀(n:qb) (d m:Int),dpN d n m≤max m (d+hgN n-1):=by
 intro n
 induction n using qb.rec (motive_2:=fun L=>∀(d m:Int),dpL d L m≤max m (d+hgL L-1)) with
 | mk k n m S L ih=>
  intro d mm
  rw[dpN,hgN]
  have:=ih (d+1) (max mm d)
  omega
 | nil=>rename_i d m;rw[dpL];omega
 | cons x L h1 h2=>
  rename_i d m
  rw[dpL,hgL]
  have a:=h1 d m
  have b:=h2 d (dpN d x m)
  omega
theorem qil:∀(n:qb),(∀y∈ndN n,q7O y)→((ndN n).filter q1S).length=lvN n:=by
 intro n
 induction n using qb.rec (motive_2:=fun L=>(∀y∈ndL L,q7O y)→((ndL L).filter q1S).length=lvL L) with
 | mk k n m S L ih=>
  intro h
  rw[ndN] at h ⊢
  have h0:=h _ qPn
  have hr:=ih fun y hy=>h y (qPg _ hy)
  rw[List.filter_cons,lvN]
  rcases h0 with h0|h0
  ·have e:L=[]:=h0.nl
   subst e
   have e1:k=1∨k=2:=by rcases h0.kd with h|h;exact .inr h.1;exact .inl h.1
   have e2:q1S ⟨k,n,m,S,[]⟩=true:=by unfold q1S;rcases e1 with rfl|rfl<;>rfl
   rw[if_pos e2,if_pos e1]
   simp[ndL]
  ·have e1:k=3∨k=4:=by rcases h0.kd with h|h;exact .inl h.1;exact .inr h.1
   have e2:q1S ⟨k,n,m,S,L⟩=false:=by unfold q1S;rcases e1 with rfl|rfl<;>rfl
   rw[e2,if_neg (by simp),if_neg (by omega),hr]
 | nil=>simp[ndL,lvL]
 | cons x L h1 h2=>
  rename_i h
  rw[ndL] at h ⊢
  rw[lvL,List.filter_append,qPf,h1 fun y hy=>h y (qPk _ hy),h2 fun y hy=>h y (qPh _ hy)]
theorem qff {n:qb} (h:∀y∈ndN n,q7O y):∀y∈ndN n,y.Set.length≤1000000:=fun y hy=>by
 rcases h y hy with h|h
 ·have:=h.s3;omega
 ·rw[h.st];simp
theorem qe5 {n:qb} (h:q6l 3 6 n):JF n=some 0:=by
 have h1:=h.hg
 have h2:=h.l1
 have h3:=h.l2
 have h4:=h.nd
 rw[q9d n (by omega) (by omega) (qff h.ok)]
 unfold qet
 have hf:=qil n h.ok
 have hd:=qGR n 1 0
 have e:inF ((ndN n).filter q1S).length 1 8=true:=by unfold inF;rw[hf];simp;omega
 rw[if_neg (by omega),if_neg (by omega),e,if_neg (by simp),qkD _ fun y hy=>qlX (h.ok y hy)]
 rfl
end
noncomputable section
open Go.RowKit
theorem qix (x y:Nat):(x &&& y) / 2=(x / 2) &&& (y / 2):=by
 apply Nat.eq_of_testBit_eq
 intro i
 rw[Nat.testBit_div_two,Nat.testBit_and,Nat.testBit_and,Nat.testBit_div_two,Nat.testBit_div_two]
theorem qhd (x y:Nat):(x &&& y) % 2=if x % 2=1∧y % 2=1 then 1 else 0:=by
 have h:(x &&& y).testBit 0=(x.testBit 0&&y.testBit 0):=Nat.testBit_and x y 0
 rw[Nat.testBit_zero,Nat.testBit_zero,Nat.testBit_zero] at h
 have h1:x % 2<2:=Nat.mod_lt _ (by decide)
 have h2:y % 2<2:=Nat.mod_lt _ (by decide)
 have h3:(x &&& y) % 2<2:=Nat.mod_lt _ (by decide)
 by_cases hx:x % 2=1
 ·by_cases hy:y % 2=1
  ·rw[if_pos ⟨hx,hy⟩]
   simpa [hx,hy] using h
  ·rw[if_neg (fun h=>hy h.2)]
   have:¬ (x &&& y) % 2=1:=by simpa [hx,hy] using h
   omega
 ·rw[if_neg (fun h=>hx h.1)]
  have:¬ (x &&& y) % 2=1:=by simpa [hx] using h
  omega
theorem qs5:∀(sub set t:Nat),sub &&& set=sub→t &&& set=t→t<sub→t≤(sub-1) &&& set:=by
 intro sub
 induction sub using Nat.strongRecOn with
 | _ sub ih=>
  intro set t hs ht hlt
  have hs2:=qix sub set
  have hsm:=qhd sub set
  have ht2:=qix t set
  have htm:=qhd t set
  rw[hs] at hs2 hsm
  rw[ht] at ht2 htm
  have hr2:=qix (sub-1) set
  have hrm:=qhd (sub-1) set
  by_cases hodd:sub % 2=1
  ·have e:(sub-1) / 2=sub / 2:=by omega
   rw[e,←hs2] at hr2
   have e2:(sub-1) % 2=0:=by omega
   rw[if_neg (by omega)] at hrm
   omega
  ·have hpos:sub / 2≠0:=by omega
   have e:(sub-1) / 2=sub / 2-1:=by omega
   rw[e] at hr2
   have hlt2:t / 2<sub / 2:=by omega
   have:=ih (sub / 2) (by omega) (set / 2) (t / 2) hs2.symm ht2.symm hlt2
   have hset:set % 2<2:=Nat.mod_lt _ (by decide)
   have e3:(sub-1) % 2=1:=by omega
   by_cases hm:set % 2=1
   ·rw[if_pos ⟨e3,hm⟩] at hrm
    have:t % 2<2:=Nat.mod_lt _ (by decide)
    omega
   ·rw[if_neg (fun h=>hm h.2)] at hrm htm
    omega
structure IsB (own:Nat→Bool) (best:Nat→Int) (set:Nat) (base v:Int):Prop where
 ge:base≤v
 all:∀t,t≠0→t &&& set=t→own t=true→0≤best (q1C set t)→best (q1C set t)+1≤v
 is:v=base∨∃t,t≠0∧t &&& set=t∧own t=true∧0≤best (q1C set t)∧v=best (q1C set t)+1
theorem qzT {own:Nat→Bool} {best:Nat→Int} {set:Nat}:∀(f sub:Nat) (v:Int),sub≤f→sub &&& set=sub→v≤eaF own best set f sub v∧(∀t,t≠0→t &&& set=t→t≤sub→own t=true→0≤best (q1C set t)→best (q1C set t)+1≤eaF own best set f sub v)∧
  (eaF own best set f sub v=v∨∃t,t≠0∧t &&& set=t∧own t=true∧0≤best (q1C set t)∧eaF own best set f sub v=best (q1C set t)+1):=by
 intro f
 induction f with
 | zero=>
  intro sub v hf _
  have:sub=0:=by omega
  subst this
  exact⟨Int.le_refl _,fun t h1 _ h3=>by omega,.inl rfl⟩
 | succ f ih=>
  intro sub v hf hs
  unfold eaF
  by_cases hz:sub=0
  ·rw[if_pos hz]
   exact⟨Int.le_refl _,fun t h1 _ h3=>by omega,.inl rfl⟩
  ·rw[if_neg hz]
   have ha:(sub-1) &&& set≤sub-1:=Nat.and_le_left
   have hb:((sub-1) &&& set) &&& set=(sub-1) &&& set:=by rw[Nat.and_assoc,Nat.and_self]
   obtain⟨i1,i2,i3⟩:=ih ((sub-1) &&& set) (eaV own best set sub v) (by omega) hb
   have hv:v≤eaV own best set sub v:=by unfold eaV;split<;>omega
   refine⟨by omega,fun t h1 h2 h3 h4 h5=>?_,?_⟩
   ·by_cases e:t=sub
    ·subst e
     have:best (q1C set t)+1≤eaV own best set t v:=by unfold eaV;rw[if_pos ⟨h4,h5⟩];omega
     omega
    ·exact i2 t h1 h2 (qs5 sub set t hs h2 (by omega)) h4 h5
   ·rcases i3 with e|h
    ·by_cases hc:own sub=true∧0≤best (q1C set sub)
     ·have e2:eaV own best set sub v=max v (best (q1C set sub)+1):=by unfold eaV;rw[if_pos hc]
      by_cases hm:v≤best (q1C set sub)+1
      ·exact .inr ⟨sub,hz,hs,hc.1,hc.2,by rw[e,e2];omega⟩
      ·exact .inl (by rw[e,e2];omega)
     ·exact .inl (by rw[e];unfold eaV;rw[if_neg hc])
    ·exact .inr h
theorem qoh (skip:Bool) (own:Nat→Bool) (best:Nat→Int) (set:Nat):IsB own best set (if skip=true then best set else -1) (stF skip own best set):=by
 obtain⟨h1,h2,h3⟩:=qzT (own:=own) (best:=best) (set:=set) set set (if skip=true then best set else -1) (qPo _) (Nat.and_self _)
 refine⟨h1,fun t t1 t2 t3 t4=>h2 t t1 t2 ?_ t3 t4,h3⟩
 rw[←t2];exact Nat.and_le_right
theorem qpH {w m j:Nat} (h:m<2 ^ w) (hj:m.testBit j=true):j<w:=by
 rcases Nat.lt_or_ge j w with h1|h1
 ·exact h1
 ·rw[Nat.testBit_lt_two_pow (qPI h (Nat.pow_le_pow_right (by decide) h1))] at hj
  cases hj
def qlQ (n:qb) (s:qg) (x:qM) (a:qa):qM:=⟨w64 (x.many+1),w64 (x.credits+a.Credits),x.fine&&qlz n s a⟩
def QJ {α:Type} (p:Nat→Bool):List α→List α
 | []=>[]
 | a::l=>(if p 0=true then[a] else[])++QJ (fun j=>p (j+1)) l
theorem qhW (n:qb) (s:qg) (set:Nat):∀(l:List qa) (k:Nat) (x:qM),wgF n s set l k x=(QJ (fun j=>set.testBit (k+j)) l).foldl (qlQ n s) x
 | [],k,x=>rfl
 | a::l,k,x=>by
  rw[wgF,QJ,qhW n s set l (k+1),List.foldl_append,show(fun j=>set.testBit (k+(j+1)))=fun j=>set.testBit (k+1+j) from funext fun j=>by rw[Nat.add_right_comm,qQ2]]
  congr 1
  cases set.testBit (k+0)<;>simp[qlQ]
theorem q47 {α:Type}:∀{l:List α} {p q:Nat→Bool},(∀j,j<l.length→p j=q j)→QJ p l=QJ q l
 | [],_,_,_=>rfl
 | a::l,p,q,h=>by
  rw[QJ,QJ,h 0 (by simp),q47 fun j hj=>h (j+1) (by simpa using hj)]
theorem q71 {α:Type}:∀(l:List α) (a:α) (p:Nat→Bool),QJ p (l++[a])=QJ p l++(if p l.length=true then[a] else[])
 | [],a,p=>by simp[QJ]
 | b::l,a,p=>by rw[qQe,QJ,q71 l a,QJ,qPO];rfl
end
noncomputable section
open Go.RowKit
def qip (n:qb) (s:qg) (l:List qa) (p:Nat→Bool):qM:=(QJ p l).foldl (qlQ n s) ld0
mutual
def q4Z (s:qg) (l:List qa) (a:Nat→Int):qb→Nat→Bool×Bool
 | ⟨k,n,m,S,L⟩,nx=>if k=1∨k=2 then((qip ⟨k,n,m,S,L⟩ s l (fun j=>a j==(nx:Int))).many==0,qeh ⟨k,n,m,S,L⟩ (qip ⟨k,n,m,S,L⟩ s l (fun j=>a j==(nx:Int))))
  else((q2K s l a (k==3) L nx).1,!(q2K s l a (k==3) L nx).2.2&&decide (n≤((q2K s l a (k==3) L nx).2.1:Int)))
def q2K (s:qg) (l:List qa) (a:Nat→Int) (al:Bool):List qb→Nat→Bool×Nat×Bool
 | [],_=>(true,0,false)
 | x::L,nx=>((q4Z s l a x nx).1&&(q2K s l a al L (nx+lvN x)).1,(if(q4Z s l a x nx).2=true then 1 else 0)+(q2K s l a al L (nx+lvN x)).2.1,
   (!(q4Z s l a x nx).2&&(!(q4Z s l a x nx).1||al))||(q2K s l a al L (nx+lvN x)).2.2)
end
theorem q62 (s:qg) (l:List qa) (a:Nat→Int) (n:qb) (nx:Nat):q4Z s l a n nx=if n.Kind=1∨n.Kind=2 then((qip n s l (fun j=>a j==(nx:Int))).many==0,qeh n (qip n s l (fun j=>a j==(nx:Int))))
  else((q2K s l a (n.Kind==3) n.L nx).1,!(q2K s l a (n.Kind==3) n.L nx).2.2&&decide (n.N≤((q2K s l a (n.Kind==3) n.L nx).2.1:Int))):=by
 cases n;rw[q4Z]
structure q2T (n:qb):Prop where
 kind:n.Kind=1∨n.Kind=2∨n.Kind=3∨n.Kind=4
 all:n.Kind=3→n.N≤(n.L.length:Int)∧n.L≠[]
 some:n.Kind=4→1≤n.N
theorem qf6 (n:qb):n∈ndN n:=by rw[q0a];exact qPn ..
theorem q5x (s:qg) (l:List qa) (a b:Nat→Int):∀(n:qb) (nx:Nat),(∀k,k<l.length→∀x:Int,(nx:Int)≤x→x<((nx+lvN n:Nat):Int)→(a k=x↔b k=x))→q4Z s l a n nx=q4Z s l b n nx:=by
 intro n
 induction n using qb.rec (motive_2:=fun L=>∀(al:Bool) (nx:Nat),(∀k,k<l.length→∀x:Int,(nx:Int)≤x→x<((nx+lvL L:Nat):Int)→(a k=x↔b k=x))→q2K s l a al L nx=q2K s l b al L nx) with
 | mk k n m S L ih=>
  intro nx h
  rw[q62,q62]
  rw[lvN] at h
  by_cases hk:k=1∨k=2
  ·rw[if_pos hk] at h
   rw[if_pos hk,if_pos hk]
   have:QJ (fun j=>a j==(nx:Int)) l=QJ (fun j=>b j==(nx:Int)) l:=q47 fun j hj=>by
    have:=h j hj nx (Int.le_refl _) (by omega)
    by_cases e:a j=nx
    ·rw[e,this.1 e]
    ·have e':¬ b j=nx:=fun e2=>e (this.2 e2)
     rw[beq_eq_false_iff_ne.2 e,beq_eq_false_iff_ne.2 e']
   unfold qip
   rw[this]
  ·rw[if_neg hk] at h
   rw[if_neg hk,if_neg hk]
   simp only
   rw[ih _ nx h]
 | nil=>rw[q2K,q2K]
 | cons x L h1 h2=>
  rename_i al nx h
  rw[lvL] at h
  rw[q2K,q2K,h1 nx (fun k hk y hy hy2=>h k hk y hy (by omega)),h2 al (nx+lvN x) (fun k hk y hy hy2=>h k hk y (by omega) (by omega))]
theorem qga (n:qb) (s:qg):∀(L:List qa) (x:qM),0≤x.many→x.many+L.length≤9223372036854775807→(L.foldl (qlQ n s) x).many=x.many+L.length
 | [],x,_,_=>by simp
 | a::L,x,h0,h=>by
  rw[qPj] at h
  have hw:w64 (x.many+1)=x.many+1:=Z3 (by omega) (by omega)
  rw[qQc,qga n s L (qlQ n s x a) (by unfold qlQ;simp only;omega) (by unfold qlQ;simp only;omega),qPj]
  unfold qlQ
  simp only
  omega
theorem q4H {α:Type}:∀(l:List α) (p:Nat→Bool),(QJ p l).length≤l.length
 | [],_=>by simp[QJ]
 | a::l,p=>by
  have:=q4H l (fun j=>p (j+1))
  rw[QJ,qPf,qPj]
  split<;>simp<;>omega
theorem qeH {α:Type}:∀(l:List α) (p:Nat→Bool),(QJ p l).length=0↔∀k,k<l.length→p k=false
 | [],_=>by simp[QJ]
 | a::l,p=>by
  have ih:=qeH l (fun j=>p (j+1))
  rw[QJ,qPf]
  constructor
  ·intro h k hk
   cases k with
   | zero=>
    by_cases e:p 0=true
    ·rw[if_pos e] at h;simp at h
    ·simpa using e
   | succ k=>exact ih.1 (by omega) k (by simpa using hk)
  ·intro h
   rw[ih.2 fun k hk=>h (k+1) (by simpa using hk),if_neg (by rw[h 0 (by simp)];decide)]
   try rfl
theorem qof (n:qb) (s:qg) (l:List qa) (hl:l.length≤62) (p:Nat→Bool):(qip n s l p).many=((QJ p l).length:Int):=by
 have:=q4H l p
 unfold qip
 rw[qga n s _ _ (by decide) (by show(0:Int)+_≤_;omega)]
 show(0:Int)+_=_
 omega
theorem q9I (s:qg) (l:List qa) (hl:l.length≤62) (a:Nat→Int):∀(n:qb) (nx:Nat),(q4Z s l a n nx).1=true↔∀k,k<l.length→¬((nx:Int)≤a k∧a k<((nx+lvN n:Nat):Int)):=by
 intro n
 induction n using qb.rec (motive_2:=fun L=>∀(al:Bool) (nx:Nat),(q2K s l a al L nx).1=true↔∀k,k<l.length→¬((nx:Int)≤a k∧a k<((nx+lvL L:Nat):Int))) with
 | mk k n m S L ih=>
  intro nx
  rw[q62,lvN]
  by_cases hk:k=1∨k=2
  ·rw[if_pos hk,if_pos hk]
   simp only
   rw[qof _ _ _ hl,beq_iff_eq,show(((QJ (fun j=>a j==(nx:Int)) l).length:Int)=0)↔(QJ (fun j=>a j==(nx:Int)) l).length=0 from by omega,qeH]
   constructor
   ·intro h k hk h2
    have:=beq_eq_false_iff_ne.1 (h k hk)
    omega
   ·intro h k hk
    have:=h k hk
    exact beq_eq_false_iff_ne.2 (by omega)
  ·rw[if_neg hk,if_neg hk]
   exact ih _ nx
 | nil=>rename_i al nx;rw[q2K,lvL];simp only[true_iff];intro k hk;omega
 | cons x L h1 h2=>
  rename_i al nx
  rw[q2K,lvL,qPE,h1,h2]
  constructor
  ·intro h k hk
   have a1:=h.1 k hk
   have a2:=h.2 k hk
   omega
  ·intro h
   exact⟨fun k hk=>by have:=h k hk;omega,fun k hk=>by have:=h k hk;omega⟩
theorem qhM (s:qg) (l:List qa) (a:Nat→Int):∀(n:qb) (nx:Nat),(∀y∈ndN n,q2T y)→(q4Z s l a n nx).2=true→(q4Z s l a n nx).1=false:=by
 intro n
 induction n using qb.rec (motive_2:=fun L=>∀(al:Bool) (nx:Nat),(∀y∈ndL L,q2T y)→(q2K s l a al L nx).1=true→(q2K s l a al L nx).2.1=0∧(al=true→(q2K s l a al L nx).2.2=false→L=[])) with
 | mk k n m S L ih=>
  intro nx hf h
  have hn:=hf _ (qf6 _)
  rw[q62] at h ⊢
  by_cases hk:k=1∨k=2
  ·rw[if_pos hk] at h ⊢
   simp only at h ⊢
   generalize qip ⟨k,n,m,S,L⟩ s l (fun j=>a j==(nx:Int))=x at h
   unfold qeh at h
   simp only at h
   refine beq_eq_false_iff_ne.2 fun e=>?_
   rw[e] at h
   split at h<;>simp at h
  ·rw[if_neg hk] at h ⊢
   simp only at h ⊢
   refine qPA.2 fun e=>?_
   obtain⟨h1,h2⟩:=ih (k==3) nx (fun y hy=>hf y (by rw[ndN];exact qPg _ hy)) e
   rw[qPE,h1,qQ8] at h
   rcases hn.kind with q|q|q|q
   ·exact hk (.inl q)
   ·exact hk (.inr q)
   ·simp only at q
    subst q
    exact(hn.all rfl).2 (h2 (by decide) (by simpa using h.1))
   ·have:=hn.some q
    simp only at this
    omega
 | nil=>rename_i al nx _ _;rw[q2K];exact⟨rfl,fun _ _=>rfl⟩
 | cons x L h1 h2=>
  rename_i al nx hf h
  rw[q2K] at h ⊢
  simp only at h ⊢
  rw[qPE] at h
  have hx:(q4Z s l a x nx).2=false:=by
   refine qPA.2 fun e=>?_
   have:=h1 nx (fun y hy=>hf y (by rw[ndL];exact qPk _ hy)) e
   rw[this] at h
   exact absurd h.1 (by decide)
  obtain⟨h3,h4⟩:=h2 al (nx+lvN x) (fun y hy=>hf y (by rw[ndL];exact qPh _ hy)) h.2
  rw[hx,h3]
  refine⟨by simp,fun ha hw=>?_⟩
  rw[ha] at hw
  simp at hw
end
noncomputable section
open Go.RowKit
def mkS (p:Nat→Bool):Nat→Nat
 | 0=>0
 | n+1=>mkS p n ||| (if p n=true then 2 ^ n else 0)
theorem qfa (p:Nat→Bool):∀(n k:Nat),(mkS p n).testBit k=(decide (k<n)&&p k)
 | 0,k=>by simp[mkS]
 | n+1,k=>by
  rw[mkS,Nat.testBit_or,qfa p n k]
  by_cases e:k=n
  ·subst e
   by_cases hp:p k=true
   ·rw[if_pos hp,Nat.testBit_two_pow];simp[hp]
   ·rw[if_neg hp];simp[qPA.2 hp]
  ·have h1:(if p n=true then 2 ^ n else 0).testBit k=false:=by
    split
    ·rw[Nat.testBit_two_pow];exact decide_eq_false (fun h=>e h.symm)
    ·exact Nat.zero_testBit k
   rw[h1,Bool.or_false]
   have:decide (k<n+1)=decide (k<n):=by
    by_cases h:k<n
    ·rw[qQ9 h,qQ9 (by omega)]
    ·rw[decide_eq_false h,decide_eq_false (by omega)]
   rw[this]
theorem qzI (p:Nat→Bool) (n:Nat):mkS p n<2 ^ n:=Nat.lt_pow_two_of_testBit _ fun i hi=>by
 rw[qfa,decide_eq_false (by omega)];rfl
theorem qnx (leaf:Int) (set:Nat):∀(d:List Int) (i:Nat),alG leaf set d i=true↔∀(k:Nat) (x:Int),d[k]?=some x→(set.testBit (i+k)=true↔x=leaf)
 | [],i=>by simp[alG]
 | y::d,i=>by
  rw[alG,qPE,qnx leaf set d (i+1),beq_iff_eq]
  constructor
  ·intro h k x hx
   cases k with
   | zero=>
    simp only[qPi,qPY] at hx
    subst hx
    rw[Nat.add_zero,h.1,beq_iff_eq]
   | succ k=>
    rw[qPx] at hx
    have:=h.2 k x hx
    rwa [Nat.add_right_comm,qQ2] at this
  ·intro h
   refine⟨?_,fun k x hx=>?_⟩
   ·have:=h 0 y (by simp)
    rw[Nat.add_zero] at this
    by_cases e:y=leaf
    ·rw[this.2 e,beq_iff_eq.2 e]
    ·rw[beq_eq_false_iff_ne.2 e];exact qPA.2 fun h2=>e (this.1 h2)
   ·have:=h (k+1) x (by rw[qPx];exact hx)
    rwa [show i+1+k=i+(k+1) from by omega]
theorem quD (d:List Int) (leaf set:Nat):alF d leaf set=true↔∀(k:Nat) (x:Int),d[k]?=some x→(set.testBit k=true↔x=(leaf:Int)):=by
 unfold alF
 rw[qnx]
 simp only[qPw]
theorem qoq (d:List Int) (a b:Nat):foF d a b=true↔∃(k:Nat) (x:Int),d[k]?=some x∧(a:Int)≤x∧x<(b:Int):=by
 unfold foF
 rw[qQ3]
 constructor
 ·rintro⟨x,hx,h⟩
  obtain⟨k,hk⟩:=List.mem_iff_getElem?.1 hx
  rw[qPE,qQ8,qQ8] at h
  exact⟨k,x,hk,h⟩
 ·rintro⟨k,x,hk,h⟩
  exact⟨x,List.mem_iff_getElem?.2 ⟨k,hk⟩,by rw[qPE,qQ8,qQ8];exact h⟩
structure Asg (d:List Int) (a:Nat→Int) (lo w set:Nat):Prop where
 inn:∀k,set.testBit k=true→(lo:Int)≤a k∧a k<((lo+w:Nat):Int)
 out:∀k,set.testBit k=false→a k = -1
 com:∀k y,d[k]?=some y→∀x:Int,(lo:Int)≤x→x<((lo+w:Nat):Int)→(y=x↔a k=x)
theorem Asg.bit {d:List Int} {a:Nat→Int} {lo w set:Nat} (h:Asg d a lo w set) (k:Nat) (h1:(lo:Int)≤a k):set.testBit k=true:=by
 by_cases e:set.testBit k=true
 ·exact e
 ·have:=h.out k (qPA.2 e)
  omega
theorem qb6 (s:qg) (l:List qa) (a b:Nat→Int) (al:Bool):∀(L:List qb) (nx:Nat),(∀k,k<l.length→∀x:Int,(nx:Int)≤x→x<((nx+lvL L:Nat):Int)→(a k=x↔b k=x))→q2K s l a al L nx=q2K s l b al L nx
 | [],nx,_=>by rw[q2K,q2K]
 | x::L,nx,h=>by
  rw[lvL] at h
  rw[q2K,q2K,q5x s l a b x nx (fun k hk y hy hy2=>h k hk y hy (by omega)),qb6 s l a b al L (nx+lvN x) (fun k hk y hy hy2=>h k hk y (by omega) (by omega))]
theorem qk8 (s:qg) (l:List qa) (a:Nat→Int):∀(L:List qb) (nx:Nat),(q2K s l a true L nx).2.2=false→(q2K s l a true L nx).2.1=L.length
 | [],nx,_=>by rw[q2K];rfl
 | x::L,nx,h=>by
  rw[q2K] at h ⊢
  simp only at h ⊢
  rw[Bool.or_eq_false_iff] at h
  have hx:(q4Z s l a x nx).2=true:=by
   have:=h.1
   rw[Bool.or_true,qQa] at this
   simpa using this
  rw[if_pos hx,qk8 s l a L _ h.2,qPj]
  omega
theorem qgI (set:Nat):q1C set 0=set:=Nat.eq_of_testBit_eq fun i=>by rw[Z7];simp
theorem qar {t s:Nat} (h:t &&& s=t) {k:Nat} (hk:t.testBit k=true):s.testBit k=true:=by
 rw[←h,Nat.testBit_and,qPE] at hk
 exact hk.2
theorem qgG {t s:Nat} (h:∀k,t.testBit k=true→s.testBit k=true):t &&& s=t:=Nat.eq_of_testBit_eq fun i=>by
 rw[Nat.testBit_and]
 by_cases e:t.testBit i=true
 ·rw[e,h i e];rfl
 ·rw[qPA.2 e];rfl
theorem qqL (d:List Int) (s:qg) (l:List qa) (n:qb) (hk:n.Kind=1∨n.Kind=2) (nx set:Nat) (hlt:set<2 ^ l.length) (hl:l.length≤62) :
  q2i d s l n nx set=true↔∃a,Asg d a nx 1 set∧qeh n (qip n s l (fun j=>a j==(nx:Int)))=true:=by
 have key:∀a,Asg d a nx 1 set→qip n s l (fun j=>a j==(nx:Int))=wgF n s set l 0 ld0:=fun a ha=>by
  rw[qhW]
  unfold qip
  rw[q47 (p:=fun j=>a j==(nx:Int)) (q:=fun j=>set.testBit (0+j)) fun j hj=>?_]
  rw[qPw]
  by_cases e:set.testBit j=true
  ·have:=ha.inn j e
   rw[e,beq_iff_eq]
   omega
  ·rw[qPA.2 e,ha.out j (qPA.2 e)]
   exact beq_eq_false_iff_ne.2 (by omega)
 unfold q2i
 rw[qPE,qPE,qQ8,quD]
 constructor
 ·rintro⟨h0,h1,h2⟩
  have ha:Asg d (fun k=>if set.testBit k=true then(nx:Int) else -1) nx 1 set:={
   inn:=fun k hk=>by simp only[hk,if_true];omega
   out:=fun k hk=>by simp only[hk];rfl
   com:=fun k y hy x hx hx2=>by
    have e:x=nx:=by omega
    subst e
    rw[←h1 k y hy]
    show set.testBit k=true↔(if set.testBit k=true then(nx:Int) else -1)=(nx:Int)
    by_cases e:set.testBit k=true
    ·rw[if_pos e];exact⟨fun _=>rfl,fun _=>e⟩
    ·rw[if_neg e];exact⟨fun h=>absurd h e,fun h=>by omega⟩ }
  exact⟨_,ha,by rw[key _ ha];exact h2⟩
 ·rintro⟨a,ha,hm⟩
  rw[key a ha] at hm
  refine⟨fun e=>?_,fun k x hx=>?_,hm⟩
  ·have h3:QJ (fun j=>set.testBit (0+j)) l=[]:=qPr ((qeH _ _).2 fun k hk=>by rw[e];exact Nat.zero_testBit _)
   rw[qhW,h3] at hm
   unfold qeh ld0 at hm
   simp only[List.foldl_nil] at hm
   split at hm<;>simp at hm
  ·constructor
   ·intro hb
    have:=ha.inn k hb
    exact(ha.com k x hx (nx:Int) (by omega) (by omega)).2 (by omega)
   ·intro e
    have:=(ha.com k x hx (nx:Int) (by omega) (by omega)).1 e
    exact ha.bit k (by omega)
theorem qxH (s:qg) (l:List qa) (hl:l.length≤62) (a:Nat→Int) (n:qb) (nx:Nat) (hf:∀y∈ndN n,q2T y) (h:∀k,¬((nx:Int)≤a k∧a k<((nx+lvN n:Nat):Int))):(q4Z s l a n nx).1=true∧(q4Z s l a n nx).2=false:=by
 have h1:=(q9I s l hl a n nx).2 fun k _=>h k
 refine⟨h1,qPA.2 fun e=>?_⟩
 rw[qhM s l a n nx hf e] at h1
 exact absurd h1 (by decide)
theorem q5f (d:List Int) (s:qg) (l:List qa) (hl:l.length≤62):∀(n:qb) (nx set:Nat),(∀y∈ndN n,q2T y)→set<2 ^ l.length→
  (QN d s l n nx set=true↔∃a,Asg d a nx (lvN n) set∧(q4Z s l a n nx).2=true):=by
 intro n
 induction n using qb.rec (motive_2:=fun L=>∀(sk:Bool) (nx:Nat) (b:Nat→Int) (set:Nat),(∀y∈ndL L,q2T y)→set<2 ^ l.length→
   (0≤qby d s l sk L nx b set→∃s1 a,s1 &&& set=s1∧0≤b s1∧Asg d a nx (lvL L) (q1C set s1)∧(q2K s l a (!sk) L nx).2.2=false∧qby d s l sk L nx b set=b s1+((q2K s l a (!sk) L nx).2.1:Int))∧
   (∀s1 a,s1 &&& set=s1→0≤b s1→Asg d a nx (lvL L) (q1C set s1)→(q2K s l a (!sk) L nx).2.2=false→b s1+((q2K s l a (!sk) L nx).2.1:Int)≤qby d s l sk L nx b set)) with
 | mk k n m S L ih=>
  intro nx set hf hlt
  have hn:=hf _ (qf6 _)
  have hfL:∀y∈ndL L,q2T y:=fun y hy=>hf y (by rw[ndN];exact qPg _ hy)
  rw[qdl,qdc]
  simp only[q62]
  by_cases hk:k=1∨k=2
  ·rw[if_pos hk,if_pos hk]
   simp only[if_pos hk]
   exact qqL d s l _ hk nx set hlt hl
  ·rw[if_neg hk,if_neg hk]
   simp only[if_neg hk]
   have hk4:(!(k==4))=(k==3):=by
    rcases hn.kind with q|q|q|q<;>simp only at q<;>subst q<;>first|decide|exact absurd (by decide) hk
   obtain⟨i1,i2⟩:=ih (k==4) nx b0F set hfL hlt
   rw[hk4] at i1 i2
   rw[qPE,qQ8,qQ8]
   constructor
   ·rintro⟨h0,h1⟩
    have hz:0≤qby d s l (k==4) L nx b0F set:=by
     rcases hn.kind with q|q|q|q
     ·exact absurd (.inl q) hk
     ·exact absurd (.inr q) hk
     ·simp only at q
      rw[if_pos q] at h1
      omega
     ·have:=hn.some q
      simp only at q this
      rw[if_neg (by omega)] at h1
      omega
    obtain⟨s1,a,e1,e2,e3,e4,e5⟩:=i1 hz
    have hs1:s1=0:=by
     unfold b0F at e2
     by_cases e:s1=0
     ·exact e
     ·rw[if_neg e] at e2;omega
    subst hs1
    rw[qgI] at e3
    refine⟨a,e3,?_⟩
    rw[e4,Bool.not_false,qPF,qQ8]
    have hb0:b0F 0=0:=rfl
    rw[hb0] at e5
    by_cases q:k=3
    ·rw[if_pos q] at h1
     have:=(hn.all q).1
     simp only at this
     omega
    ·rw[if_neg q] at h1
     omega
   ·rintro⟨a,ha,hm⟩
    rw[qPE,qQ8] at hm
    have hw:(q2K s l a (k==3) L nx).2.2=false:=by simpa using hm.1
    have hb0:b0F 0=0:=rfl
    have h2:=i2 0 a (Nat.zero_and _) (by rw[hb0];exact Int.le_refl _) (by rw[qgI];exact ha) hw
    rw[hb0] at h2
    have h3:(q4Z s l a ⟨k,n,m,S,L⟩ nx).1=false:=qhM s l a _ nx hf (by rw[q62,if_neg hk];simp only;rw[qPE,qQ8];exact hm)
    refine⟨fun e=>?_,?_⟩
    ·have h4:(q4Z s l a ⟨k,n,m,S,L⟩ nx).1=true:=(q9I s l hl a _ nx).2 fun j _ hj=>by
      have:=ha.bit j hj.1
      rw[e,Nat.zero_testBit] at this
      exact absurd this (by decide)
     rw[h3] at h4
     exact absurd h4 (by decide)
    ·by_cases q:k=3
     ·rw[if_pos q]
      have h5:(k==3)=true:=by rw[q];rfl
      rw[h5] at hw h2
      rw[qk8 s l a L nx hw] at h2
      omega
     ·rw[if_neg q]
      omega
 | nil=>
  rename_i sk nx b set hf hlt
  rw[lvL,qby]
  refine⟨fun h=>⟨set,fun _ => -1,Nat.and_self _,h,⟨fun k hk=>?_,fun _ _=>rfl,fun k y hy x hx hx2=>by omega⟩,by rw[q2K],by rw[q2K];simp⟩,fun s1 a h1 h2 h3 h4=>?_⟩
  ·rw[Z7] at hk
   cases h:set.testBit k<;>rw[h] at hk<;>simp at hk
  ·have:s1=set:=Nat.eq_of_testBit_eq fun i=>by
    by_cases e:(q1C set s1).testBit i=true
    ·have:=h3.inn i e
     omega
    ·rw[Z7] at e
     by_cases e2:s1.testBit i=true
     ·rw[e2,qar h1 e2]
     ·cases h:set.testBit i
      ·exact qPA.2 e2
      ·rw[h,qPA.2 e2] at e
       exact absurd rfl e
   subst this
   rw[q2K]
   simp
 | cons x L h1 h2=>
  rename_i sk nx b set hf hlt
  have hfx:∀y∈ndN x,q2T y:=fun y hy=>hf y (by rw[ndL];exact qPk _ hy)
  have hfL:∀y∈ndL L,q2T y:=fun y hy=>hf y (by rw[ndL];exact qPh _ hy)
  obtain⟨i1,i2⟩:=h2 sk (nx+lvN x) (stF (sk && !foF d nx (nx+lvN x)) (QN d s l x nx) b) set hfL hlt
  rw[lvL,qby]
  simp only[q2K]
  constructor
  ·intro h0
   obtain⟨s1,a1,e1,e2,e3,e4,e5⟩:=i1 h0
   have hI:=qoh (sk && !foF d nx (nx+lvN x)) (QN d s l x nx) b s1
   rcases hI.is with e|⟨t,t1,t2,t3,t4,e⟩
   ·have hsk:(sk && !foF d nx (nx+lvN x))=true:=by
     refine Classical.byContradiction fun hc=>?_
     rw[if_neg hc] at e
     omega
    rw[if_pos hsk] at e
    rw[qPE] at hsk
    have hfo:¬ foF d nx (nx+lvN x)=true:=by simpa using hsk.2
    rw[qoq] at hfo
    have hr:∀k,¬((nx:Int)≤a1 k∧a1 k<((nx+lvN x:Nat):Int)):=fun k hk=>by
     by_cases hb:(q1C set s1).testBit k=true
     ·have:=e3.inn k hb;omega
     ·have:=e3.out k (qPA.2 hb);omega
    obtain⟨v1,v2⟩:=qxH s l hl a1 x nx hfx hr
    refine⟨s1,a1,e1,by omega,⟨fun k hk=>by have:=e3.inn k hk;omega,e3.out,fun k y hy z hz hz2=>?_⟩,?_,?_⟩
    ·by_cases hz3:z<((nx+lvN x:Nat):Int)
     ·constructor
      ·intro e;subst e;exact absurd ⟨k,y,hy,hz,hz3⟩ hfo
      ·intro e;exact absurd ⟨by omega,by omega⟩ (hr k)
     ·exact e3.com k y hy z (by omega) (by omega)
    ·rw[v1,v2,e4,hsk.1];rfl
    ·rw[e5,e,v2];simp
   ·obtain⟨a2,ha2,hm2⟩:=(h1 nx t hfx (qPK (qPJ (by rw[←t2];exact Nat.and_le_right) (by rw[←e1];exact Nat.and_le_right)) hlt)).1 t3
    have hts:∀k,t.testBit k=true→s1.testBit k=true:=fun k hk=>qar t2 hk
    have hss:∀k,s1.testBit k=true→set.testBit k=true:=fun k hk=>qar e1 hk
    have hin:∀k,t.testBit k=true→(fun k=>if t.testBit k=true then a2 k else a1 k) k=a2 k:=fun k hk=>by show(if _ then _ else _)=_;rw[if_pos hk]
    have hnot:∀k,t.testBit k=false→(fun k=>if t.testBit k=true then a2 k else a1 k) k=a1 k:=fun k hk=>by show(if _ then _ else _)=_;rw[if_neg (by rw[hk];decide)]
    generalize (fun k=>if t.testBit k=true then a2 k else a1 k)=a at hin hnot
    have ht1:∀k,t.testBit k=true→a1 k = -1:=fun k hk=>e3.out k (by rw[Z7,hts k hk];simp)
    have hu1:∀k,t.testBit k=false→a2 k = -1:=fun k hk=>ha2.out k hk
    have hc1:q4Z s l a x nx=q4Z s l a2 x nx:=q5x s l a a2 x nx fun k _ z hz hz2=>by
     cases hb:t.testBit k
     ·rw[hnot k hb,hu1 k hb]
      by_cases hb2:(q1C set s1).testBit k=true
      ·have:=e3.inn k hb2;omega
      ·have:=e3.out k (qPA.2 hb2);omega
     ·rw[hin k hb]
    have hc2:q2K s l a (!sk) L (nx+lvN x)=q2K s l a1 (!sk) L (nx+lvN x):=qb6 s l a a1 (!sk) L (nx+lvN x) fun k _ z hz hz2=>by
     cases hb:t.testBit k
     ·rw[hnot k hb]
     ·rw[hin k hb,ht1 k hb]
      have:=ha2.inn k hb
      omega
    refine⟨q1C s1 t,a,?_,t4,⟨fun k hk=>?_,fun k hk=>?_,fun k y hy z hz hz2=>?_⟩,?_,?_⟩
    ·exact qgG fun k hk=>hss k (by rw[Z7,qPE] at hk;exact hk.1)
    ·cases hb:t.testBit k
     ·rw[hnot k hb]
      have:(q1C set s1).testBit k=true:=by
       rw[Z7,Z7,hb] at hk
       rw[Z7]
       simpa using hk
      have:=e3.inn k this
      omega
     ·rw[hin k hb]
      have:=ha2.inn k hb
      omega
    ·cases hb:t.testBit k
     ·rw[hnot k hb]
      refine e3.out k ?_
      rw[Z7,Z7,hb] at hk
      rw[Z7]
      simpa using hk
     ·exfalso
      rw[Z7,Z7,hb,hss k (hts k hb)] at hk
      simp at hk
    ·by_cases hz3:z<((nx+lvN x:Nat):Int)
     ·rw[ha2.com k y hy z hz hz3]
      cases hb:t.testBit k
      ·rw[hnot k hb,hu1 k hb]
       by_cases hb2:(q1C set s1).testBit k=true
       ·have:=e3.inn k hb2;omega
       ·have:=e3.out k (qPA.2 hb2);omega
      ·rw[hin k hb]
     ·rw[e3.com k y hy z (by omega) (by omega)]
      cases hb:t.testBit k
      ·rw[hnot k hb]
      ·rw[hin k hb,ht1 k hb]
       have:=ha2.inn k hb
       omega
    ·rw[hc1,hc2,hm2,e4];rfl
    ·rw[e5,e,hc1,hc2,if_pos hm2];omega
  ·intro s1 a g1 g2 g3 g4
   rw[Bool.or_eq_false_iff] at g4
   obtain⟨g4,g5⟩:=g4
   have hss:∀k,s1.testBit k=true→set.testBit k=true:=fun k hk=>qar g1 hk
   by_cases hm:(q4Z s l a x nx).2=true
   ·have hlen:∀k,(nx:Int)≤a k→k<l.length:=fun k hk=>by
     have hb:=g3.bit k hk
     have:set.testBit k=true:=by rw[Z7,qPE] at hb;exact hb.1
     exact qpH hlt this
    obtain⟨t,tb⟩:∃t:Nat,∀k,t.testBit k=true↔((nx:Int)≤a k∧a k<((nx+lvN x:Nat):Int)):=⟨mkS (fun k=>decide ((nx:Int)≤a k)&&decide (a k<((nx+lvN x:Nat):Int))) l.length,fun k=>by
     rw[qfa,qPE,qPE,qQ8,qQ8,qQ8]
     exact⟨fun h=>h.2,fun h=>⟨hlen k h.1,h⟩⟩⟩
    have hdis:∀k,t.testBit k=true→set.testBit k=true∧s1.testBit k=false:=fun k hk=>by
     have hb:=g3.bit k ((tb k).1 hk).1
     rw[Z7,qPE] at hb
     exact⟨hb.1,by simpa using hb.2⟩
    obtain⟨a2,hin2,hnot2⟩:∃a2:Nat→Int,(∀k,t.testBit k=true→a2 k=a k)∧(∀k,t.testBit k=false→a2 k = -1):=⟨fun k=>if t.testBit k=true then a k else -1,fun k hk=>if_pos hk,fun k hk=>if_neg (by rw[hk];decide)⟩
    obtain⟨a1,hin1,hnot1⟩:∃a1:Nat→Int,(∀k,t.testBit k=true→a1 k = -1)∧(∀k,t.testBit k=false→a1 k=a k):=⟨fun k=>if t.testBit k=true then -1 else a k,fun k hk=>if_pos hk,fun k hk=>if_neg (by rw[hk];decide)⟩
    have hoff:∀k,t.testBit k=false→¬((nx:Int)≤a k∧a k<((nx+lvN x:Nat):Int)):=fun k hk h=>by
     rw[(tb k).2 h] at hk
     exact absurd hk (by decide)
    have hA2:Asg d a2 nx (lvN x) t:=⟨fun k hk=>by rw[hin2 k hk];exact(tb k).1 hk,hnot2,fun k y hy z hz hz2=>by
     rw[g3.com k y hy z hz (by omega)]
     cases hb:t.testBit k
     ·rw[hnot2 k hb]
      have:=hoff k hb
      omega
     ·rw[hin2 k hb]⟩
    have hc1:q4Z s l a2 x nx=q4Z s l a x nx:=q5x s l a2 a x nx fun k _ z hz hz2=>by
     cases hb:t.testBit k
     ·rw[hnot2 k hb]
      have:=hoff k hb
      omega
     ·rw[hin2 k hb]
    have hc2:q2K s l a1 (!sk) L (nx+lvN x)=q2K s l a (!sk) L (nx+lvN x):=qb6 s l a1 a (!sk) L (nx+lvN x) fun k _ z hz hz2=>by
     cases hb:t.testBit k
     ·rw[hnot1 k hb]
     ·rw[hin1 k hb]
      have:=(tb k).1 hb
      omega
    have hown:QN d s l x nx t=true:=(h1 nx t hfx (qPK (qPJ (by rw[←qgG (t:=t) (s:=set) fun k hk=>(hdis k hk).1];exact Nat.and_le_right) (qPo _)) hlt)).2 ⟨a2,hA2,by rw[hc1];exact hm⟩
    have ht0:t≠0:=fun e=>by
     have h3:=qhM s l a x nx hfx hm
     have h4:=(q9I s l hl a x nx).2 fun k _ hk=>by
      have:=(tb k).2 hk
      rw[e,Nat.zero_testBit] at this
      exact absurd this (by decide)
     rw[h3] at h4
     exact absurd h4 (by decide)
    have hI:=qoh (sk && !foF d nx (nx+lvN x)) (QN d s l x nx) b (s1 ||| t)
    have hle:q1C (s1 ||| t) t=s1:=Nat.eq_of_testBit_eq fun k=>by
     rw[Z7,Nat.testBit_or]
     cases hb:t.testBit k
     ·simp
     ·rw[(hdis k hb).2];rfl
    have hall:=hI.all t ht0 (qgG fun k hk=>by rw[Nat.testBit_or,hk,Bool.or_true]) hown (by rw[hle];exact g2)
    rw[hle] at hall
    have:=i2 (s1 ||| t) a1 (qgG fun k hk=>by
      rw[Nat.testBit_or,qPD] at hk
      rcases hk with hk|hk
      ·exact hss k hk
      ·exact(hdis k hk).1) (by omega) ⟨fun k hk=>by
       rw[Z7,Nat.testBit_or,qPE] at hk
       have hb:t.testBit k=false:=by
        have:=hk.2
        cases h:t.testBit k
        ·rfl
        ·rw[h,Bool.or_true] at this;exact absurd this (by decide)
       have h5:=g3.inn k (by rw[Z7,qPE];refine⟨hk.1,?_⟩;have:=hk.2;rw[hb,Bool.or_false] at this;exact this)
       have h6:=hoff k hb
       rw[hnot1 k hb]
       omega,fun k hk=>by
       cases hb:t.testBit k
       ·rw[hnot1 k hb]
        refine g3.out k ?_
        rw[Z7,Nat.testBit_or,hb,Bool.or_false] at hk
        rw[Z7]
        exact hk
       ·exact hin1 k hb,fun k y hy z hz hz2=>by
       rw[g3.com k y hy z (by omega) (by omega)]
       cases hb:t.testBit k
       ·rw[hnot1 k hb]
       ·rw[hin1 k hb]
        have:=(tb k).1 hb
        omega⟩ (by rw[hc2];exact g5)
    rw[hc2] at this
    rw[if_pos hm]
    omega
   ·have hm':(q4Z s l a x nx).2=false:=qPA.2 hm
    rw[hm',Bool.not_false,qPF,Bool.or_eq_false_iff] at g4
    have hem:(q4Z s l a x nx).1=true:=by simpa using g4.1
    have hsk:sk=true:=by simpa using g4.2
    have hr:∀k,¬((nx:Int)≤a k∧a k<((nx+lvN x:Nat):Int)):=fun k hk=>by
     have hb:=g3.bit k hk.1
     have:set.testBit k=true:=by rw[Z7,qPE] at hb;exact hb.1
     have hkl:k<l.length:=qpH hlt this
     exact(q9I s l hl a x nx).1 hem k hkl hk
    have hfo:foF d nx (nx+lvN x)=false:=qPA.2 fun h=>by
     obtain⟨k,y,hy,h3,h4⟩:=(qoq d nx (nx+lvN x)).1 h
     have:=(g3.com k y hy y h3 (by omega)).1 rfl
     exact hr k (by omega)
    have hI:=qoh (sk && !foF d nx (nx+lvN x)) (QN d s l x nx) b s1
    have hge:=hI.ge
    rw[hsk,hfo] at hge
    simp only[Bool.not_false,qQa,if_true] at hge
    have hge2:b s1≤stF (sk && !foF d nx (nx+lvN x)) (QN d s l x nx) b s1:=by rw[hsk,hfo];exact hge
    have:=i2 s1 a g1 (by omega) ⟨fun k hk=>by
      have h5:=g3.inn k hk
      have h6:=hr k
      omega,g3.out,fun k y hy z hz hz2=>g3.com k y hy z (by omega) (by omega)⟩ g5
    rw[hm']
    simp only[Bool.false_eq_true,if_false,qPw]
    omega
end
noncomputable section
open Go.RowKit
def rkF (m:Nat→Bool):Nat→Nat
 | 0=>0
 | k+1=>rkF m k+if m k=true then 1 else 0
theorem qbZ (m:Nat→Bool):∀k,rkF m (k+1)=(if m 0=true then 1 else 0)+rkF (fun j=>m (j+1)) k
 | 0=>by simp[rkF]
 | k+1=>by rw[rkF,qbZ m k,rkF];omega
def qaY (m:Nat→Bool) (d:Nat→Int):Nat→Int:=fun k=>if m k=true then d (rkF m k) else -1
theorem qdi {α:Type}:∀(l:List α) (m p:Nat→Bool),QJ p (QJ m l)=QJ (fun k=>m k&&p (rkF m k)) l
 | [],_,_=>rfl
 | a::l,m,p=>by
  have e:∀j,rkF m (j+1)=(if m 0=true then 1 else 0)+rkF (fun j=>m (j+1)) j:=qbZ m
  rw[QJ,QJ]
  cases h:m 0
  ·rw[if_neg (by decide),qPs,qdi l,qQb,if_neg (by decide),qPs]
   refine q47 fun j _=>?_
   show(m (j+1)&&p (rkF (fun j=>m (j+1)) j))=(m (j+1)&&p (rkF m (j+1)))
   rw[e j,h,if_neg (by decide),qPw]
  ·rw[if_pos rfl,qQf,QJ,qdi l,qPF]
   congr 1
   refine q47 fun j _=>?_
   show(m (j+1)&&p (rkF (fun j=>m (j+1)) j+1))=(m (j+1)&&p (rkF m (j+1)))
   rw[e j,h,if_pos rfl,Nat.add_comm 1]
theorem q9F {α β:Type} (f:α→β):∀(l:List α) (m:Nat→Bool),QJ m (l.map f)=(QJ m l).map f
 | [],_=>rfl
 | a::l,m=>by rw[qPv,QJ,QJ,q9F f l,List.map_append];cases m 0<;>rfl
theorem qjr (s:qg) (l:List qa) (m:Nat→Bool) (d:Nat→Int):∀(n:qb) (nx:Nat),q4Z s (QJ m l) d n nx=q4Z s l (qaY m d) n nx:=by
 intro n
 induction n using qb.rec (motive_2:=fun L=>∀(al:Bool) (nx:Nat),q2K s (QJ m l) d al L nx=q2K s l (qaY m d) al L nx) with
 | mk k n mi S L ih=>
  intro nx
  rw[q62,q62]
  by_cases hk:k=1∨k=2
  ·rw[if_pos hk,if_pos hk]
   have:QJ (fun j=>d j==(nx:Int)) (QJ m l)=QJ (fun j=>qaY m d j==(nx:Int)) l:=by
    rw[qdi]
    refine q47 fun j _=>?_
    unfold qaY
    cases m j
    ·rw[qQb,if_neg (by decide)];symm;rw[beq_eq_false_iff_ne];omega
    ·rw[qPF,if_pos rfl]
   unfold qip
   rw[this]
  ·rw[if_neg hk,if_neg hk]
   simp only
   rw[ih _ nx]
 | nil=>rw[q2K,q2K]
 | cons x L h1 h2=>
  rename_i al nx
  rw[q2K,q2K,h1 nx,h2 al (nx+lvN x)]
end
noncomputable section
open Go.RowKit
def q6g:List Int→List Int→Bool
 | _,[]=>false
 | [],_::_=>true
 | a::l,b::m=>decide (a<b)||(a==b&&q6g l m)
theorem qfL:∀l,q6g l l=false
 | []=>rfl
 | a::l=>by rw[q6g,qfL l];simp
theorem q5v:∀{a b c:List Int},q6g a b=true→q6g b c=true→q6g a c=true
 | a,b,[],_,h=>by cases b<;>cases h
 | [],b,z::c,_,_=>rfl
 | x::a,[],z::c,h,_=>by cases h
 | x::a,y::b,z::c,h,h2=>by
  simp only[q6g,qPD,qPE,qQ8,beq_iff_eq] at h h2 ⊢
  rcases h with h|⟨h,h'⟩
  ·rcases h2 with h2|⟨h2,h2'⟩<;>exact .inl (by omega)
  ·rcases h2 with h2|⟨h2,h2'⟩
   ·exact .inl (by omega)
   ·exact .inr ⟨by omega,q5v h' h2'⟩
theorem qao:∀a b:List Int,a=b∨q6g a b=true∨q6g b a=true
 | [],[] => .inl rfl
 | [],_::_ => .inr (.inl rfl)
 | _::_,[] => .inr (.inr rfl)
 | x::a,y::b=>by
  simp only[q6g,qPD,qPE,qQ8,beq_iff_eq]
  rcases Int.lt_trichotomy x y with h|h|h
  ·exact .inr (.inl (.inl h))
  ·subst h
   rcases qao a b with e|e|e
   ·exact .inl (by rw[e])
   ·exact .inr (.inl (.inr ⟨rfl,e⟩))
   ·exact .inr (.inr (.inr ⟨rfl,e⟩))
  ·exact .inr (.inr (.inl h))
def slL (a b:List Int):Bool:=decide (a.length<b.length)||(a.length==b.length&&q6g a b)
theorem qiW {a b:List Int}:slL a b=true↔a.length<b.length∨(a.length=b.length∧q6g a b=true):=by
 simp only[slL,qPD,qPE,qQ8,beq_iff_eq]
theorem qf3 (l:List Int):slL l l=false:=by
 rw[slL,qfL];simp
theorem qcA {a b c:List Int} (h:slL a b=true) (h2:slL b c=true):slL a c=true:=by
 rw[qiW] at *
 rcases h with h|⟨h,h'⟩
 ·rcases h2 with h2|⟨h2,h2'⟩<;>exact .inl (by omega)
 ·rcases h2 with h2|⟨h2,h2'⟩
  ·exact .inl (by omega)
  ·exact .inr ⟨by omega,q5v h' h2'⟩
theorem qgq (a b:List Int):a=b∨slL a b=true∨slL b a=true:=by
 simp only[qiW]
 rcases Nat.lt_trichotomy a.length b.length with h|h|h
 ·exact .inr (.inl (.inl h))
 ·rcases qao a b with e|e|e
  ·exact .inl e
  ·exact .inr (.inl (.inr ⟨h,e⟩))
  ·exact .inr (.inr (.inr ⟨h.symm,e⟩))
 ·exact .inr (.inr (.inl h))
theorem qpk {f:Int→Int→Option Int} {zs:List Int} (ht:∀x∈zs,∀y∈zs,x=y∨ltB f x y=true∨ltB f y x=true) (htr:∀x∈zs,∀y∈zs,∀z∈zs,ltB f x y=true→ltB f y z=true→ltB f x z=true) {x:Int} (hx:x∈zs) :
  ∀l:List Int,(∀y∈l,y∈zs)→x ∉ l→l.Pairwise (fun a b=>ltB f a b=true)→(qfZ f x l).Pairwise (fun a b=>ltB f a b=true)
 | [],_,_,_=>by unfold qfZ;exact List.pairwise_singleton _ _
 | y::l,hl,hn,h=>by
  have hy:=hl y qPn
  rw[List.pairwise_cons] at h
  unfold qfZ
  split
  ·rename_i hlt
   rw[List.pairwise_cons]
   refine⟨fun z hz=>?_,qpk ht htr hx l (fun u hu=>hl u (qPg _ hu)) (fun hu=>hn (qPg _ hu)) h.2⟩
   rcases(qc8 f x l z).1 hz with e|e
   ·rw[e];exact hlt
   ·exact h.1 z e
  ·rename_i hlt
   have hxy:ltB f x y=true:=by
    rcases ht x hx y hy with e|e|e
    ·exact absurd (e ▸ qPn) hn
    ·exact e
    ·exact absurd e hlt
   rw[List.pairwise_cons,List.pairwise_cons]
   refine⟨fun z hz=>?_,h⟩
   rcases qPu.1 hz with e|e
   ·rw[e];exact hxy
   ·exact htr x hx y hy z (hl z (qPg _ e)) hxy (h.1 z e)
theorem qjq {f:Int→Int→Option Int} {zs:List Int} (ht:∀x∈zs,∀y∈zs,x=y∨ltB f x y=true∨ltB f y x=true) (htr:∀x∈zs,∀y∈zs,∀z∈zs,ltB f x y=true→ltB f y z=true→ltB f x z=true) :
  ∀l:List Int,(∀y∈l,y∈zs)→l.Nodup→(q17 f l).Pairwise (fun a b=>ltB f a b=true)
 | [],_,_=>by unfold q17;exact List.Pairwise.nil
 | x::l,hl,hn=>by
  rw[List.nodup_cons] at hn
  unfold q17
  exact qpk ht htr (hl x qPn) _ (fun y hy=>hl y (qPg _ ((q3t f l y).1 hy))) (fun hy=>hn.1 ((q3t f l x).1 hy)) (qjq ht htr l (fun y hy=>hl y (qPg _ hy)) hn.2)
theorem qph {f:Int→Int→Option Int} {zs:List Int} {key:Int→List Int} (hs:∀x∈zs,∀y∈zs,∃c,f x y=some c∧(c<0↔slL (key x) (key y)=true)) (hi:∀x∈zs,∀y∈zs,key x=key y→x=y) :
  okB f zs=true∧∀x∈zs,∀y∈zs,ltB f x y=slL (key x) (key y):=by
 have hl:∀x∈zs,∀y∈zs,ltB f x y=slL (key x) (key y):=fun x hx y hy=>by
  obtain⟨c,h1,h2⟩:=hs x hx y hy
  unfold ltB
  rw[h1,Bool.eq_iff_iff]
  simpa using h2
 refine⟨?_,hl⟩
 unfold okB
 simp only[qPE,qPp]
 refine⟨⟨⟨fun x hx y hy=>?_,fun x hx=>?_⟩,fun x hx y hy=>?_⟩,fun x hx y hy z hz=>?_⟩
 ·obtain⟨c,h1,_⟩:=hs x hx y hy;rw[h1];rfl
 ·rw[hl x hx x hx,qf3];rfl
 ·rw[hl x hx y hy,hl y hy x hx]
  rcases qgq (key x) (key y) with e|e|e
  ·rw[qQ9 (hi x hx y hy e)];rfl
  ·rw[e];simp
  ·rw[e];simp
 ·rw[hl x hx y hy,hl y hy z hz,hl x hx z hz]
  cases h1:slL (key x) (key y)
  ·simp
  ·cases h2:slL (key y) (key z)
   ·simp
   ·rw[qcA h1 h2];simp
theorem qo8 {f:Int→Int→Option Int} {zs:List Int} {key:Int→List Int} (hs:∀x∈zs,∀y∈zs,∃c,f x y=some c∧(c<0↔slL (key x) (key y)=true)) (hi:∀x∈zs,∀y∈zs,key x=key y→x=y) (hn:zs.Nodup) :
  (q17 f zs).Pairwise (fun a b=>slL (key a) (key b)=true):=by
 have hl:=(qph hs hi).2
 have h:=qjq (f:=f) (zs:=zs) (fun x hx y hy=>by
  rw[hl x hx y hy,hl y hy x hx]
  rcases qgq (key x) (key y) with e|e
  ·exact .inl (hi x hx y hy e)
  ·exact .inr e) (fun x hx y hy z hz h1 h2=>by
  rw[hl x hx y hy] at h1;rw[hl y hy z hz] at h2;rw[hl x hx z hz]
  exact qcA h1 h2) zs (fun _ h=>h) hn
 exact h.imp_of_mem fun {a b} ha hb h=>by
  rw[hl a ((q3t f zs a).1 ha) b ((q3t f zs b).1 hb)] at h;exact h
end
noncomputable section
open Go.RowKit
structure q3s (n:qb) (l:List qa) (set:Nat):Prop where
 fit:∀y∈ndN n,q2T y
 nd:(ndN n).length≤9999
 st:∀y∈ndN n,y.Set.length≤1000000
 ll:l.length≤16
 lt:set<2 ^ l.length
theorem q3s.lt64 {n:qb} {l:List qa} {set:Nat} (h:q3s n l set):set<9223372036854775808:=by
 have h1:=h.lt
 have h2:(2:Nat) ^ l.length≤2 ^ 16:=Nat.pow_le_pow_right (by decide) h.ll
 have h3:(2:Nat) ^ 16=65536:=by decide
 omega
theorem q3s.lv {n:qb} {l:List qa} {set:Nat} (h:q3s n l set):lvN n≤9999:=qPJ (qll n) h.nd
theorem qoG {n:qb} {l:List qa} {set:Nat} (h:q3s n l set) (s:qg) (d:List Int) (hd:d.length≤16):q2x n s l d=some (Zk (2 ^ l.length) (QN d s l n 0),d):=by
 have:=qnz d hd s l h.ll _ n (qPo _) (by have:=h.nd;omega) h.st 0 (by have:=h.nd;omega)
 unfold q2x
 change Option.bind (zK (n,d,l,((0:Nat):Int),s)) _=_
 rw[this]
 rfl
theorem q9x {α:Type} {d:List α} {y z:α} {j:Nat} (h:(d++[y])[j]?=some z):d[j]?=some z∨(j=d.length∧z=y):=by
 by_cases hj:j<d.length
 ·rw[qPM hj] at h
  exact .inl h
 ·rw[qPL (by omega)] at h
  have:=ZB h
  rw[qPq] at this
  have e:j-d.length=0:=by omega
  rw[e] at h
  simp only[qPi,qPY] at h
  exact .inr ⟨by omega,h.symm⟩
theorem qt1 {d:List Int} {a:Nat→Int} {w set:Nat} (h:Asg d a 0 w set):Asg (d++[a d.length]) a 0 w set:=⟨h.inn,h.out,fun k y hy x hx hx2=>by
 rcases q9x hy with e|⟨e1,e2⟩
 ·exact h.com k y e x hx hx2
 ·rw[e1,e2]⟩
theorem qpX {n:qb} {l:List qa} {set:Nat} (h:q3s n l set) (s:qg) (w4:List Int) (t49 t50:Int) (d:List Int) (hd:d.length+1≤16):∀(m x:Nat),x+m≤1000000→
  (∃v:Nat,x≤v∧v≤x+m∧QN (d++[(v:Int)]) s l n 0 set=true)→
  ∃v:Nat,x≤v∧v≤x+m∧QN (d++[(v:Int)]) s l n 0 set=true∧(∀y:Nat,x≤y→y<v→QN (d++[(y:Int)]) s l n 0 set=false)∧
   zl (JX w4 n s l (set:Int) (d.length:Int) t49 t50) (d++[(x:Int)])=some (d++[(v:Int)]):=by
 have hstep:∀x:Nat,x≤1000000→JX w4 n s l (set:Int) (d.length:Int) t49 t50 (d++[(x:Int)])=if QN (d++[(x:Int)]) s l n 0 set=true then some (.inr (d++[(x:Int)])) else some (.inl (d++[((x+1:Nat):Int)])):=by
  intro x hx
  have hlen:(d++[(x:Int)]).length=d.length+1:=by rw[qPf,qPq]
  have hg:(d++[(x:Int)])[d.length]?=some (x:Int):=by rw[qPL (qPo _),Nat.sub_self];rfl
  have hlt:=h.lt
  have hw:w64 ((x:Int)+1)=((x+1:Nat):Int):=Z3 (by omega) (by omega)
  have hset:(d++[(x:Int)]).set d.length ((x+1:Nat):Int)=d++[((x+1:Nat):Int)]:=by
   rw[List.set_append_right _ _ (qPo _),Nat.sub_self]
   rfl
  unfold JX
  simp only
  rw[qoG h s _ (by omega),qP8]
  simp only
  rw[if_pos (by rw[zH];omega),qPb,Jz _ hlt,qP8]
  cases hs:QN (d++[(x:Int)]) s l n 0 set
  ·rw[if_pos (by decide),if_pos (by rw[hlen];omega),qPb,hg,qP8,if_pos (by rw[hlen];omega),if_pos (by rw[hlen];omega),hw,hset]
   rfl
  ·rfl
 intro m
 induction m with
 | zero=>
  intro x hx hv
  obtain⟨v,h1,h2,h3⟩:=hv
  have e:v=x:=by omega
  subst e
  exact⟨v,qPo _,by omega,h3,fun y _ _=>by omega,zt (by rw[hstep v (by omega),if_pos h3])⟩
 | succ m ih=>
  intro x hx hv
  by_cases hs:QN (d++[(x:Int)]) s l n 0 set=true
  ·exact⟨x,qPo _,by omega,hs,fun y _ _=>by omega,zt (by rw[hstep x (by omega),if_pos hs])⟩
  ·obtain⟨v,h1,h2,h3⟩:=hv
   have hne:v≠x:=fun e=>hs (by rw[←e];exact h3)
   obtain⟨u,u1,u2,u3,u4,u5⟩:=ih (x+1) (by omega) ⟨v,by omega,by omega,h3⟩
   refine⟨u,by omega,by omega,u3,fun y hy hy2=>?_,?_⟩
   ·by_cases e:y=x
    ·subst e;exact qPA.2 hs
    ·exact u4 y (by omega) hy2
   ·rw[zS (by rw[hstep x (by omega),if_neg hs])]
    exact u5
structure q6x (d:List Int) (s:qg) (l:List qa) (n:qb) (set:Nat):Prop where
 ok:QN d s l n 0 set=true
 val:∀(j:Nat) (y:Int),d[j]?=some y→if set.testBit j=true then 0≤y∧y<(lvN n:Int) else y = -1
 lst:∀(j:Nat) (x:Int),d[j]?=some x→set.testBit j=true→∀y:Nat,(y:Int)<x→QN (d.take j++[(y:Int)]) s l n 0 set=false
theorem qgb {α:Type} {d:List α} {j:Nat} {x y:α} (h:d[j]?=some x):(d++[y]).take j=d.take j:=List.take_append_of_le_length (by have:=ZB h;omega)
theorem qlf {n:qb} {l:List qa} {set:Nat} (h:q3s n l set) {s:qg} {d:List Int} (hf:q6x d s l n set) (hd:d.length<l.length) :
  (set.testBit d.length=false→q6x (d++[-1]) s l n set)∧(set.testBit d.length=true→∃v:Nat,v<lvN n∧QN (d++[(v:Int)]) s l n 0 set=true):=by
 have hll:=h.ll
 obtain⟨a,ha,hm⟩:=(q5f d s l (by omega) n 0 set h.fit h.lt).1 hf.ok
 have hs:=(q5f (d++[a d.length]) s l (by omega) n 0 set h.fit h.lt).2 ⟨a,qt1 ha,hm⟩
 constructor
 ·intro hb
  rw[ha.out _ hb] at hs
  refine⟨hs,fun j y hy=>?_,fun j x hx hj y hy=>?_⟩
  ·rcases q9x hy with e|⟨e1,e2⟩
   ·exact hf.val j y e
   ·rw[e1,hb,if_neg (by decide)];exact e2
  ·rcases q9x hx with e|⟨e1,e2⟩
   ·rw[qgb e];exact hf.lst j x e hj y hy
   ·rw[e1,hb] at hj;exact absurd hj (by decide)
 ·intro hb
  have:=ha.inn _ hb
  refine⟨(a d.length).toNat,by omega,?_⟩
  rw[show(((a d.length).toNat:Nat):Int)=a d.length from by omega]
  exact hs
theorem qhL {n:qb} {l:List qa} {set:Nat} (h:q3s n l set) (s:qg):∀(m:Nat) (d:List Int),d.length+m=l.length→q6x d s l n set→
  ∃d',d'.length=l.length∧q6x d' s l n set∧(∃e,d'=d++e)∧zl (Jb n s l (set:Int) (l.length:Int)) (d,QJ set.testBit d,(d.length:Int))=some (QJ set.testBit d'):=by
 intro m
 induction m with
 | zero=>
  intro d hd hf
  refine⟨d,by omega,hf,⟨[],(qPt _).symm⟩,zt ?_⟩
  unfold Jb
  simp only
  rw[if_neg (by omega)]
 | succ m ih=>
  intro d hd hf
  have hll:=h.ll
  have hlt:=h.lt64
  have hML:100000≤maxLen:=by unfold maxLen;omega
  have hsel:=q4H d set.testBit
  obtain⟨f1,f2⟩:=qlf h hf (by omega)
  have hw:w64 ((d.length:Int)+1)=((d.length+1:Nat):Int):=Z3 (by omega) (by omega)
  have hbit:(ZW Go.BinOp.and IntKind.i64 (Int.fdiv (set:Int) ((2:Int) ^ min (Int.toNat (d.length:Int)) (IntKind.bits IntKind.i64))) (1:Int)==(0:Int)) = !set.testBit d.length:=by
   rw[qPb,q9Q set d.length (by omega),show(1:Int)=((1:Nat):Int) from rfl,qfs _ 1 (qPK (Nat.div_le_self _ _) hlt) (by decide),Nat.and_one_is_mod,Nat.testBit_eq_decide_div_mod_eq]
   have:set / 2 ^ d.length % 2<2:=Nat.mod_lt _ (by decide)
   by_cases e:set / 2 ^ d.length % 2=1
   ·rw[e];rfl
   ·have e0:set / 2 ^ d.length % 2=0:=by omega
    rw[e0];rfl
  have hset:∀y z:Int,(d++[y]).set d.length z=d++[z]:=fun y z=>by
   rw[List.set_append_right _ _ (qPo _),Nat.sub_self]
   rfl
  cases hb:set.testBit d.length
  ·obtain⟨d',g1,g2,⟨e,g3⟩,g4⟩:=ih (d++[-1]) (by rw[qPf,qPq];omega) (f1 hb)
   refine⟨d',g1,g2,⟨[-1]++e,by rw[g3,qPO]⟩,?_⟩
   rw[q71,hb,if_neg (by decide),qPt,qPf,qPq] at g4
   rw[←g4]
   refine zS ?_
   unfold Jb
   simp only
   rw[if_pos (by omega),if_pos ⟨by omega,by omega⟩,if_pos (by omega),hbit,hb,if_pos (by decide),hw]
  ·obtain⟨v0,hv0,hs0⟩:=f2 hb
   have hlv:=h.lv
   obtain⟨v,v1,v2,v3,v4,v5⟩:=qpX h s (QJ set.testBit d) (l.length:Int) (d.length:Int) d (by omega) v0 0 (by omega) ⟨v0,by omega,by omega,hs0⟩
   have hF:q6x (d++[(v:Int)]) s l n set:=⟨v3,fun j y hy=>by
    rcases q9x hy with e|⟨e1,e2⟩
    ·exact hf.val j y e
    ·rw[e1,hb,if_pos rfl,e2];omega,fun j x hx hj y hy=>by
    rcases q9x hx with e|⟨e1,e2⟩
    ·rw[qgb e];exact hf.lst j x e hj y hy
    ·rw[e1,List.take_left]
     exact v4 y (qPy _) (by omega)⟩
   obtain⟨d',g1,g2,⟨e,g3⟩,g4⟩:=ih (d++[(v:Int)]) (by rw[qPf,qPq];omega) hF
   refine⟨d',g1,g2,⟨[(v:Int)]++e,by rw[g3,qPO]⟩,?_⟩
   rw[q71,hb,if_pos rfl,qPf,qPq] at g4
   rw[←g4]
   refine zS ?_
   have hg:(d++[(v:Int)])[d.length]?=some (v:Int):=by rw[qPL (qPo _),Nat.sub_self];rfl
   unfold Jb
   simp only
   rw[if_pos (by omega),if_pos ⟨by omega,by omega⟩,if_pos (by omega),hbit,hb,if_neg (by decide),if_pos ⟨by omega,by omega⟩,qPb,if_pos (qPo _),hset]
   rw[show(0:Int)=((0:Nat):Int) from rfl,v5,qP8,if_pos (by rw[qPf,qPq];omega),hg,qP8,if_pos ⟨by omega,by omega⟩,hw]
theorem qgf {n:qb} {l:List qa} {set:Nat} (h:q3s n l set) (s:qg) (hS:q2Y n s l=some (Zk (2 ^ l.length) (QN [] s l n 0),0)) :
  (QN [] s l n 0 set=false∧q1f n s l (set:Int)=some ([],false))∨
  (QN [] s l n 0 set=true∧∃d,d.length=l.length∧q6x d s l n set∧q1f n s l (set:Int)=some (QJ set.testBit d,true)):=by
 have hlt:=h.lt
 have hll:=h.ll
 unfold q1f
 rw[hS,qP8]
 simp only
 rw[if_neg (by decide),if_neg (by omega),if_neg (by rw[zH];omega),if_pos (by rw[zH];omega),qPb,Jz _ hlt,qP8]
 cases hs:QN [] s l n 0 set
 ·exact .inl ⟨rfl,by rw[if_pos (by decide)]⟩
 ·refine .inr ⟨rfl,?_⟩
  obtain⟨d',g1,g2,_,g4⟩:=qhL h s l.length [] (by simp) ⟨hs,fun j y hy=>by simp at hy,fun j x hx=>by simp at hx⟩
  refine⟨d',g1,g2,?_⟩
  rw[if_neg (by decide),if_pos ⟨by omega,by omega,by omega⟩]
  change Option.bind (zl _ ([],QJ set.testBit [],((([]:List Int).length:Nat):Int))) _=_
  rw[g4]
  rfl
end
noncomputable section
open Go.RowKit
theorem qmw (n:qb) (hn:n.Set.length≤9223372036854775807) (s:qg) (l:List qa) (hl:l.length≤62) (d:List Int) (hd:d.length=l.length) (nx:Nat):q2z n s l d (nx:Int)=some (qip n s l (fun j=>d.getD j (-1)==(nx:Int))):=by
 have h1:=q2m (ε:=qM) (step:=Jj d (nx:Int) n s (qM.mk (0:Int) (0:Int) Bool.false) l (l.length:Int)) l (fun(b:qM) i=>(b,(i:Int))) (fun i b a => .inl (if(d.getD i (-1)==(nx:Int))=true then qlQ n s b a else b)) (fun b=>b) (fun b i a ha=>by
   have hi:=ZB ha
   have hw:w64 ((i:Int)+1)=((i+1:Nat):Int):=Qq hi (by omega)
   have hb:q1m (i:Int) d (nx:Int)=some (d.getD i (-1)==(nx:Int)):=by
    unfold q1m
    rw[if_pos ⟨by omega,by omega⟩,qPb,qPa (by omega),qP8,List.getD_eq_getElem?_getD,qPa (by omega)]
    rfl
   unfold Jj qlQ
   simp only
   rw[if_pos (by omega),if_pos ⟨by omega,by omega⟩,qPb,ha,qP8,hw,hb,qP8]
   cases(d.getD i (-1)==(nx:Int))
   ·simp
   ·cases hf:b.fine
    ·simp
    ·simp[qoX n hn s a]) (fun b=>by
   unfold Jj
   simp only
   rw[if_neg (by omega)]) ld0
 unfold q2z qip
 change Option.bind (zl _ (ld0,((0:Nat):Int))) _=_
 rw[h1,qP8]
 congr 1
 have:∀(l:List qa) (i:Nat) (b:qM),q4z (ε:=qM) (fun i (b:qM) (a:qa) => .inl (if(d.getD i (-1)==(nx:Int))=true then qlQ n s b a else b)) (fun b=>b) l i b=(QJ (fun j=>d.getD (i+j) (-1)==(nx:Int)) l).foldl (qlQ n s) b:=by
  intro l
  induction l with
  | nil=>intro i b;rfl
  | cons a l ih=>
   intro i b
   unfold q4z QJ
   rw[List.foldl_append]
   simp only[Nat.add_zero]
   rw[ih (i+1)]
   rw[show(fun j=>d.getD (i+1+j) (-1)==(nx:Int))=fun j=>d.getD (i+(j+1)) (-1)==(nx:Int) from funext fun j=>by rw[Nat.add_right_comm,qQ2]]
   split<;>rfl
 rw[this l 0 ld0]
 simp only[qPw]
end
noncomputable section
open Go.RowKit
mutual
def itN (d:Int):qb→List qw
 | ⟨k,n,m,S,L⟩=>⟨⟨k,n,m,S,L⟩,d⟩::itL (d+1) L
def itL (d:Int):List qb→List qw
 | []=>[]
 | x::L=>itN d x++itL d L
end
theorem qtk (d:Int) (n:qb):itN d n=⟨n,d⟩::itL (d+1) n.L:=by cases n;rw[itN]
theorem qpw:∀(n:qb) (d:Int),(itN d n).map (·.Need)=ndN n:=by
 intro n
 induction n using qb.rec (motive_2:=fun L=>∀d,(itL d L).map (·.Need)=ndL L) with
 | mk k n m S L ih=>intro d;rw[itN,ndN,qPv,ih]
 | nil=>rw[itL,ndL];rfl
 | cons x L h1 h2=>rw[itL,ndL,List.map_append,h1,h2]
theorem qnO (n:qb) (d:Int):(itN d n).length=(ndN n).length:=by rw[←qpw n d,qPR]
theorem qgk (rF:(qb×Int×List qw)→Option (Unit⊕(List qw))) (deep:Int) (hd:1≤deep) (n:qb) (hL:n.L.length≤10000)
  (step:List qw×Int→Option ((List qw×Int)⊕(Unit⊕(List qw))))
  (hst:∀w (i:Nat),step (w,(i:Int))=if(i:Int)<((n.L.length:Nat):Int) then if(0:Int)≤i∧(i:Int)<((n.L.length:Nat):Int) then Option.bind n.L[Int.toNat i]? fun a2=>Option.bind (rF (a2,w64 (deep+1),w)) fun a3=>Sum.elim (fun _=>some (Sum.inr (Sum.inl ()))) (fun a5=>some (Sum.inl (a5,w64 ((i:Int)+1)))) a3 else none else some (.inr (.inr w)))
  (hP:∀y∈n.L,∀w,deep+1+hgN y≤101→w.length+(ndN y).length≤10000→rF (y,deep+1,w)=some (.inr (w++itN (deep+1) y))) :
  ∀(r:List qb) (i:Nat) (w:List qw),r.length+i=n.L.length→(∀j,r[j]?=n.L[i+j]?)→deep+1+hgL r≤101→w.length+(ndL r).length≤10000→
  zl step (w,(i:Int))=some (.inr (w++itL (deep+1) r)):=by
 intro r
 induction r with
 | nil=>
  intro i w hi _ _ _
  have hi:i=n.L.length:=by simpa using hi
  subst hi
  refine zt ?_
  rw[hst,if_neg (by omega),itL,qPt]
 | cons y r ih=>
  intro i w hi hr hh hw
  rw[hgL] at hh
  rw[ndL,qPf] at hw
  simp only[qPj] at hi
  have hget:n.L[i]?=some y:=by have:=hr 0;simpa using this.symm
  have hlt:=ZB hget
  have hcall:=hP y (qP9 hget) w (by omega) (by omega)
  have hstep:step (w,(i:Int))=some (.inl (w++itN (deep+1) y,((i+1:Nat):Int))):=by
   rw[hst,if_pos (by omega),if_pos ⟨by omega,by omega⟩,qPb,hget,qP8,Z3 (by omega) (by omega),hcall,qP8,Qq hlt (by omega)]
   rfl
  rw[zS hstep,ih (i+1) _ (by omega) (fun j=>by rw[show i+1+j=i+(j+1) by omega,←hr (j+1)];rfl) (by omega) (by rw[qPf,qnO];omega),itL,qPO]
theorem qqZ:∀(m:Nat) (y:qb),(ndN y).length≤m→∀(deep:Int) (w:List qw),1≤deep→deep+hgN y≤101→w.length+(ndN y).length≤10000→ZC (y,deep,w)=some (.inr (w++itN deep y)):=by
 intro m
 induction m with
 | zero=>intro y h;rw[q0a] at h;simp at h
 | succ m ih=>
  intro y h deep w hd hh hw
  rw[q0a,qPj] at h hw
  rw[qex] at hh
  have hsub:∀(L:List qb),(ndL L).length≤m→∀z∈L,∀(deep:Int) (w:List qw),1≤deep→deep+hgN z≤101→w.length+(ndN z).length≤10000→ZC (z,deep,w)=some (.inr (w++itN deep z)):=by
   intro L
   induction L with
   | nil=>intro _ z hz;simp at hz
   | cons x L ihl=>
    intro g z hz
    rw[ndL,qPf] at g
    rcases qPu.1 hz with rfl|hz
    ·exact ih _ (by omega)
    ·exact ihl (by omega) z hz
  have hP:=hsub y.L (by omega)
  have hl:=qcG y.L
  have hML:100000≤maxLen:=by unfold maxLen;omega
  rw[qal,q0u,if_neg (by omega),if_neg (by omega),if_pos ⟨by omega,by omega⟩]
  have h1:=qgk ZC deep hd y (by omega) (q0w ZC y deep) (fun w i=>by rfl) (fun z hz w g1 g2=>hP z hz (deep+1) w (by omega) g1 g2) y.L 0 (w++[⟨y,deep⟩]) (by simp) (by simp) (by omega) (by rw[qPf,qPq];omega)
  rw[show((0:Nat):Int)=0 from rfl] at h1
  rw[h1,qP8,Sum.elim_inr,qtk,qPO]
  rfl
theorem qsT (n:qb) (hh:hgN n≤100) (hn:(ndN n).length≤9999):q3r n 1=some (.inr (itN 1 n)):=by
 rw[qex] at hh
 rw[q0a,qPj] at hn
 have hl:=qcG n.L
 unfold q3r
 rw[if_neg (by omega),if_pos (by unfold maxLen;omega)]
 have h1:=qgk ZC 1 (by omega) n (by omega) (q1b n 1) (fun w i=>by rfl) (fun z hz w g1 g2=>qqZ _ z (qPo _) (1+1) w (by omega) (by omega) g2) n.L 0 [⟨n,1⟩] (by simp) (by simp) (by omega) (by simp only[qPq];omega)
 rw[show((0:Nat):Int)=0 from rfl] at h1
 rw[h1,qP8,Sum.elim_inr,qtk]
 rfl
end
noncomputable section
open Go.RowKit
theorem qrP (items:List qw) (out:List qc) (hl:out.length≤1000000) (t6:Int) (S:List qc) (k:Nat) (c:qc) (hc:S[k]?=some c) (hS:S.length≤1000000):zl (QY items out t6 S (k:Int)) 0=some ((atF out c:Nat):Int):=by
 have hk:=ZB hc
 have h1:=q2m (ε:=Int) (step:=QY items out t6 S (k:Int)) out (fun(_:Unit) i=>(i:Int)) (fun i _ x=>if q4e x c=true then .inl () else .inr (i:Int)) (fun _=>(out.length:Int)) (fun _ i x hx=>by
   have hi:=ZB hx
   unfold QY
   rw[if_pos (by omega),if_pos ⟨by omega,by omega⟩,qPb,hx,qP8,if_pos ⟨by omega,by omega⟩,qPb,hc,qP8,Qq hi (by omega)]
   show(if q4e x c=true then _ else _)=_
   cases q4e x c<;>simp) (fun _=>by
   unfold QY
   rw[if_neg (by omega)]) ()
 rw[show((0:Nat):Int)=0 from rfl] at h1
 rw[h1]
 congr 1
 have:∀(l:List qc) (i:Nat) (n:Nat),i+l.length=n→q4z (ε:=Int) (fun i (_:Unit) (x:qc)=>if q4e x c=true then .inl () else .inr (i:Int)) (fun _=>(n:Int)) l i ()=((i+atF l c:Nat):Int):=by
  intro l
  induction l with
  | nil=>intro i n h;simp at h;unfold q4z atF;simp[h]
  | cons x l ih=>
   intro i n h
   simp only[qPj] at h
   unfold q4z
   by_cases hx:q4e x c=true
   ·have e:atF (x::l) c=atF l c+1:=by unfold atF;rw[List.takeWhile_cons,if_pos hx];rfl
    simp only[hx,if_true]
    rw[ih (i+1) n (by omega),e]
    omega
   ·have e:atF (x::l) c=0:=by unfold atF;rw[List.takeWhile_cons,if_neg hx];rfl
    have hx':q4e x c=false:=by simpa using hx
    simp only[hx',Bool.false_eq_true,if_false]
    rw[e];rfl
 have:=this out 0 out.length (by simp)
 simpa using this
theorem qfi (items:List qw) (out:List qc) (hl:out.length≤1000) (t6:Int) (S:List qc) (hS:S.length≤1000000) (k:Nat) (c:qc) (hc:S[k]?=some c) :
  Z8 items t6 S (out,(k:Int))=some (.inl (qiB out c,((k+1:Nat):Int))):=by
 have hk:=ZB hc
 have hML:100000≤maxLen:=by unfold maxLen;omega
 have hat:=qmt out c
 unfold Z8
 simp only
 rw[if_pos (by omega),qrP items out (by omega) t6 S k c hc hS,qP8]
 have hwk:w64 ((k:Int)+1)=((k+1:Nat):Int):=by rw[Z3 (by omega) (by omega)];omega
 have hwa:w64 (((atF out c:Nat):Int)+1)=((atF out c+1:Nat):Int):=by rw[Z3 (by omega) (by omega)];omega
 rw[hwk,hwa]
 simp only[qPb,qPB,qPV,qPf,qPj,qPS]
 rw[hc]
 simp only[qP8]
 have hkk:(0:Int)≤(k:Int)∧(k:Int)<((S.length:Nat):Int):=⟨by omega,by omega⟩
 simp only[hkk,and_self,if_true]
 unfold qiB
 by_cases hlt:atF out c<out.length
 ·obtain⟨x,hx⟩:∃x,out[atF out c]?=some x:=⟨_,qPa hlt⟩
  rw[if_pos (by omega),if_pos ⟨by omega,by omega⟩,hx,qP8]
  simp only[Option.any_some]
  by_cases hc:ceq x c=true
  ·have hc2:=hc
   unfold ceq at hc2
   simp only[qPE] at hc2
   rw[if_pos hc2,if_pos hc]
  ·have hc2:¬ ((x.School==c.School)=true∧(x.Code.toList==c.Code.toList)=true):=fun h=>hc (by unfold ceq;rw[h.1,h.2];rfl)
   rw[if_neg hc2,if_neg hc]
   repeat (first|rw[if_pos (by omega)]|rw[if_neg (by omega)])
   rw[qnb _ _ _ _ hlt]
 ·have he:atF out c=out.length:=by omega
  have hnone:out[out.length]?=none:=qPG (qPo _)
  rw[he,hnone]
  simp only[Option.any_none,Bool.false_eq_true,if_false]
  repeat (first|rw[if_pos (by omega)]|rw[if_neg (by omega)])
  rw[qjn]
theorem qAt (l:List qc):∀(out:List qc),(l.foldl qiB out).length≤out.length+l.length:=by
 induction l with
 | nil=>intro out;simp
 | cons c l ih=>
  intro out
  rw[qQc,qPj]
  have:=ih (qiB out c)
  have:=(qhC out c).2.1
  omega
theorem qiO (items:List qw) (t6:Int) (S:List qc) (hS:S.length≤100):∀(r:List qc) (k:Nat) (out:List qc),r.length+k=S.length→(∀j,r[j]?=S[k+j]?)→out.length+r.length≤1000→zl (Z8 items t6 S) (out,(k:Int))=some (r.foldl qiB out):=by
 intro r
 induction r with
 | nil=>
  intro k out hk _ _
  have hk:k=S.length:=by simpa using hk
  subst hk
  refine zt ?_
  unfold Z8
  simp only
  rw[if_neg (by omega)]
  rfl
 | cons c r ih=>
  intro k out hk hr hl
  simp only[qPj] at hk hl
  have hget:S[k]?=some c:=by have:=hr 0;simpa using this.symm
  rw[zS (qfi items out (by omega) t6 S (by omega) k c hget),qQc]
  have:=(qhC out c).2.1
  exact ih (k+1) _ (by omega) (fun j=>by rw[show k+1+j=k+(j+1) by omega,←hr (j+1)];rfl) (by omega)
theorem qiN (items:List qw) (hn:items.length≤100) (hS:∀x∈items,x.Need.Set.length≤3):∀(r:List qw) (i:Nat) (out:List qc),r.length+i=items.length→(∀j,r[j]?=items[i+j]?)→out.length+3*r.length≤900→∃cs,zl (Za items) (out,(i:Int))=some cs∧cs.length≤900:=by
 intro r
 induction r with
 | nil=>
  intro i out hi _ hl
  have hi:i=items.length:=by simpa using hi
  subst hi
  refine⟨out,zt ?_,by simp at hl;omega⟩
  unfold Za
  simp only
  rw[if_neg (by omega)]
 | cons x r ih=>
  intro i out hi hr hl
  simp only[qPj] at hi hl
  have hget:items[i]?=some x:=by have:=hr 0;simpa using this.symm
  have hlt:=ZB hget
  have hx:=hS x (qP9 hget)
  have hs:=qiO items (i:Int) x.Need.Set (by omega) x.Need.Set 0 out (by simp) (by simp) (by omega)
  rw[show((0:Nat):Int)=0 from rfl] at hs
  have hp:=qAt x.Need.Set out
  obtain⟨cs,h1,h2⟩:=ih (i+1) (x.Need.Set.foldl qiB out) (by omega) (fun j=>by rw[show i+1+j=i+(j+1) by omega,←hr (j+1)];rfl) (by omega)
  refine⟨cs,?_,h2⟩
  rw[zS (y:=(x.Need.Set.foldl qiB out,((i+1:Nat):Int))) (by
   unfold Za
   simp only
   rw[if_pos (by omega),if_pos ⟨by omega,by omega⟩,qPb,hget,qP8,hs,qP8,Qq hlt (by omega)])]
  exact h1
theorem qlb {n:qb} (h:q6l 3 6 n):∃cs,q1i n=some cs∧cs.length≤900:=by
 have h1:=h.hg
 have h2:=h.l2
 have h3:=h.nd
 have hlen:=qnO n 1
 have hS:∀x∈itN 1 n,x.Need.Set.length≤3:=fun x hx=>by
  have hm:x.Need∈ndN n:=by rw[←qpw n 1];exact qPT.2 ⟨x,hx,rfl⟩
  rcases h.ok _ hm with h|h
  ·exact h.s3
  ·rw[h.st];simp
 obtain⟨cs,g1,g2⟩:=qiN (itN 1 n) (by omega) hS (itN 1 n) 0 [] (by simp) (by simp) (by simp;omega)
 refine⟨cs,?_,g2⟩
 unfold q1i
 rw[qsT n (by omega) (by omega),qP8,Sum.elim_inr]
 rw[show((0:Nat):Int)=0 from rfl] at g1
 rw[g1,qP8]
theorem qAN (x m:Int) (h0:0<m) (h1:m≤1000000):∃v,q4r x m=some v∧0≤v∧v<m:=by
 have e1:=Int.tmod_lt_of_pos x h0
 have e2 : -m<Int.tmod x m:=by
  have:=Int.tmod_lt_of_pos (-x) h0
  rw[Int.neg_tmod] at this;omega
 have e3:w64 (Int.tmod x m+m)=Int.tmod x m+m:=Z3 (by omega) (by omega)
 refine⟨Int.tmod (Int.tmod x m+m) m,?_,Int.tmod_nonneg _ (by omega),Int.tmod_lt_of_pos _ h0⟩
 unfold q4r
 rw[if_neg (by omega),if_neg (by omega),e3]
theorem qlF {d:qj} (h:q0G d) {most:Int} (h0:0<most) (h1:most≤1000000):∃v d',QG most d=some (v,d')∧0≤v∧v<most∧q0G d':=by
 obtain⟨a,b,c⟩:=h
 unfold QG
 by_cases he:(d.L.length:Int)≤d.At
 ·exact⟨0,d,if_pos he,Int.le_refl _,h0,⟨a,b,c⟩⟩
 ·obtain⟨x,hx⟩:∃x,d.L[Int.toNat d.At]?=some x:=⟨_,qPa (by omega)⟩
  obtain⟨v,e1,e2,e3⟩:=qAN x most h0 h1
  have e6:w64 (d.At+1)=d.At+1:=Z3 (by omega) (by omega)
  have e7:w64 (d.At+1-1)=d.At:=by rw[Z3 (by omega) (by omega)];omega
  refine⟨v,⟨d.L,d.At+1⟩,?_,e2,e3,⟨by show 0≤d.At+1;omega,by show d.At+1≤d.L.length;omega,c⟩⟩
  rw[if_neg he,e6,e7,if_pos ⟨a,by omega⟩,hx,qP8,e1,qP8]
end

noncomputable section
open Go.RowKit
theorem qzn:∀L:List qb,L.length≤(ndL L).length
 | []=>qPy _
 | x::L=>by
  have:=qzn L
  rw[ndL,qPf,q0a,qPj,qPj]
  omega
theorem qo4 (s:qg) (l:List qa) (hl:l.length≤62) (d:List Int) (hd:d.length=l.length):∀(n:qb) (nx:Nat),(∀y∈ndN n,y.Set.length≤1000000)→nx+(ndN n).length≤100000→
  JZ (n,s,l,d,(nx:Int))=some ((q4Z s l (fun j=>d.getD j (-1)) n nx).1,(q4Z s l (fun j=>d.getD j (-1)) n nx).2,s,l,d,((nx+lvN n:Nat):Int)):=by
 intro n
 induction n using qb.rec (motive_2:=fun L=>∀(b5:qb) (pre:List qb) (nx many:Nat) (em wr:Bool),(∀y∈ndL L,y.Set.length≤1000000)→nx+(ndL L).length≤100000→many+L.length≤200000→pre.length+L.length≤200000→
   zl (Jo JZ b5 (pre++L) ((pre++L).length:Int)) (s,l,d,(nx:Int),em,(many:Int),wr,(pre.length:Int)) =
    some (s,l,d,((nx+lvL L:Nat):Int),em&&(q2K s l (fun j=>d.getD j (-1)) (b5.Kind==3) L nx).1,((many+(q2K s l (fun j=>d.getD j (-1)) (b5.Kind==3) L nx).2.1:Nat):Int),wr||(q2K s l (fun j=>d.getD j (-1)) (b5.Kind==3) L nx).2.2)) with
 | mk k n m S L ih=>
  intro nx hs hn
  rw[ndN,qPj] at hn
  rw[qbs]
  unfold q13
  simp only
  rw[qc0,q62,lvN]
  have hlf:q9B ⟨k,n,m,S,L⟩=decide (k=1∨k=2):=by
   unfold q9B
   simp only
   by_cases h1:k=1
   ·subst h1;rfl
   ·by_cases h2:k=2
    ·subst h2;rfl
    ·rw[beq_eq_false_iff_ne.2 h1,beq_eq_false_iff_ne.2 h2,decide_eq_false (by omega)];rfl
  rw[hlf]
  by_cases hk:k=1∨k=2
  ·have hsz:=hs _ (qf6 _)
   rw[if_pos (qQ9 hk),if_pos hk,if_pos hk,qmw _ (by omega) s l hl d hd nx,qP8]
   simp only
   generalize qip ⟨k,n,m,S,L⟩ s l (fun j=>d.getD j (-1)==(nx:Int))=x
   have hw:w64 ((nx:Int)+1)=((nx+1:Nat):Int):=Z3 (by omega) (by omega)
   rw[hw]
   unfold q1c
   by_cases h1:k=1
   ·subst h1
    have hx:Q2 x ⟨1,n,m,S,L⟩=qeh ⟨1,n,m,S,L⟩ x:=by
     unfold Q2 qeh
     rw[if_pos rfl]
     cases x.fine<;>simp
    rw[if_pos (by decide),qP8,Sum.elim_inl,hx]
   ·have hx:Qu x ⟨k,n,m,S,L⟩=qeh ⟨k,n,m,S,L⟩ x:=by
     unfold Qu qeh
     simp only
     rw[if_neg h1]
     cases x.fine
     ·simp
     ·by_cases h:0<x.many<;>simp[h]
    rw[if_neg (by rw[beq_eq_false_iff_ne.2 h1];decide),qP8,Sum.elim_inr,hx]
  ·have hln:=qzn L
   have h:=ih ⟨k,n,m,S,L⟩ [] nx 0 true false (fun y hy=>hs y (by rw[ndN];exact qPg _ hy)) (by omega) (by omega) (by simp;omega)
   rw[if_neg (by rw[decide_eq_false hk];decide),if_neg hk,if_neg hk]
   simp only[qPs] at h
   change Option.bind (zl _ (s,l,d,(nx:Int),true,((0:Nat):Int),false,((([]:List qb).length:Nat):Int))) _=_
   rw[h,qP8]
   simp only[qPF,Bool.false_or,qPw]
   cases(q2K s l (fun j=>d.getD j (-1)) (k==3) L nx).2.2<;>simp
 | nil=>
  rename_i b5 pre nx many em wr hs hn hm hp
  rw[lvL,q2K]
  refine zt ?_
  unfold Jo
  simp only
  rw[qPt,if_neg (by omega)]
  simp
 | cons x L h1 h2=>
  rename_i b5 pre nx many em wr hs hn hm hp
  rw[ndL,qPf] at hn
  rw[qPj] at hm hp
  have hx:=h1 nx (fun y hy=>hs y (by rw[ndL];exact qPk _ hy)) (by omega)
  have hlv:=qll x
  have hw:w64 ((pre.length:Int)+1)=((pre.length+1:Nat):Int):=Z3 (by omega) (by omega)
  have hw2:w64 ((many:Int)+1)=((many+1:Nat):Int):=Z3 (by omega) (by omega)
  have hL:=h2 b5 (pre++[x]) (nx+lvN x) (many+if(q4Z s l (fun j=>d.getD j (-1)) x nx).2=true then 1 else 0) (em&&(q4Z s l (fun j=>d.getD j (-1)) x nx).1) (wr||(!(q4Z s l (fun j=>d.getD j (-1)) x nx).2&&(!(q4Z s l (fun j=>d.getD j (-1)) x nx).1||(b5.Kind==3)))) (fun y hy=>hs y (by rw[ndL];exact qPh _ hy)) (by omega) (by split<;>omega) (by rw[qPf,qPq];omega)
  rw[qPO,qQf,show(pre++[x]).length=pre.length+1 from by rw[qPf,qPq]] at hL
  have hg:(pre++x::L)[pre.length]?=some x:=by rw[qPL (qPo _),Nat.sub_self];rfl
  rw[q2K,lvL]
  simp only
  rw[zS (y:=(s,l,d,((nx+lvN x:Nat):Int),em&&(q4Z s l (fun j=>d.getD j (-1)) x nx).1,((many+(if(q4Z s l (fun j=>d.getD j (-1)) x nx).2=true then 1 else 0):Nat):Int),wr||(!(q4Z s l (fun j=>d.getD j (-1)) x nx).2&&(!(q4Z s l (fun j=>d.getD j (-1)) x nx).1||(b5.Kind==3))),((pre.length+1:Nat):Int))) ?_,hL]
  ·simp only[qQ2,Bool.and_assoc,Bool.or_assoc]
  ·unfold Jo
   simp only
   rw[if_pos (by rw[qPf,qPj];omega),if_pos (by rw[qPf,qPj];omega),qPb,hg,qP8,hx,qP8]
   simp only
   rw[hw,hw2]
   generalize (q4Z s l (fun j=>d.getD j (-1)) x nx).1=q1
   generalize (q4Z s l (fun j=>d.getD j (-1)) x nx).2=q2
   cases em<;>cases wr<;>cases q1<;>cases q2<;>simp
end
noncomputable section
open Go.RowKit
theorem qpi:∀n:qb,(∀y∈ndN n,q2T y)→lvN n≤((ndN n).filter q1S).length:=by
 intro n
 induction n using qb.rec (motive_2:=fun L=>(∀y∈ndL L,q2T y)→lvL L≤((ndL L).filter q1S).length) with
 | mk k n m S L ih=>
  intro hf
  have h1:=ih fun y hy=>hf y (by rw[ndN];exact qPg _ hy)
  rw[lvN,ndN,List.filter_cons]
  have hk:=(hf _ (qf6 _)).kind
  simp only at hk
  by_cases h:k=1∨k=2
  ·rw[if_pos h,if_pos (by unfold q1S;simp only;rcases h with h|h<;>subst h<;>decide),qPj]
   omega
  ·rw[if_neg h]
   split
   ·rw[qPj];omega
   ·exact h1
 | nil=>rename_i hf;rw[lvL];exact qPy _
 | cons x L h1 h2=>
  rename_i hf
  have a:=h1 fun y hy=>hf y (by rw[ndL];exact qPk _ hy)
  have b:=h2 fun y hy=>hf y (by rw[ndL];exact qPh _ hy)
  rw[lvL,ndL,List.filter_append,qPf]
  omega
theorem qrs (d:List Int) (hd:d.length≤100) (v:Int) (h:∀(j:Nat) (y:Int),d[j]?=some y→q0l y v=false):Qw d v=some false:=by
 have h1:=q27 (step:=Q8 v d (d.length:Int)) (e := .inr ()) (fun i=>(i:Int)) 0 d.length (qPy _) (fun i _ hi=>by
   obtain⟨y,hy⟩:∃y,d[i]?=some y:=⟨_,qPa hi⟩
   have hw:w64 ((i:Int)+1)=((i+1:Nat):Int):=Qq (n:=100) (by omega) (by omega)
   unfold Q8
   rw[if_pos (by omega),if_pos ⟨by omega,by omega⟩,qPb,hy,qP8,h i y hy,if_neg (by decide),hw]) (by
   unfold Q8
   rw[if_neg (by omega)])
 unfold Qw Zy
 change Option.bind (Option.bind (zl _ ((0:Nat):Int)) _) _=_
 rw[h1]
 rfl
end
noncomputable section
open Go.RowKit
def qvO (W:Nat) (l:List Int):Nat:=l.foldl (fun acc y=>acc*W+(y+1).toNat) 0
theorem qg5 (W:Nat) (l:List Int) (y:Int):qvO W (l++[y])=qvO W l*W+(y+1).toNat:=by
 unfold qvO
 rw[List.foldl_append]
 rfl
def Holds (b:List Int) (set w:Nat):Prop:=∀(j:Nat) (y:Int),b[j]?=some y→if set.testBit j=true then 0≤y∧y<(w:Int) else y = -1
theorem qcs {n:qb} {l:List qa} {set:Nat} (h:q3s n l set) {b:List Int} (hb:b.length=l.length) (hv:Holds b set (lvN n)) (j:Nat):Asg (b.take j) (fun k=>b.getD k (-1)) 0 (lvN n) set:=by
 have hget:∀k y,b[k]?=some y→b.getD k (-1)=y:=fun k y hk=>by rw[List.getD_eq_getElem?_getD,hk];rfl
 refine⟨fun k hk=>?_,fun k hk=>?_,fun k y hy x hx hx2=>?_⟩
 ·have hl:=qpH h.lt hk
  obtain⟨y,hy⟩:∃y,b[k]?=some y:=⟨_,qPa (by omega)⟩
  have:=hv k y hy
  rw[if_pos hk] at this
  show _≤b.getD k (-1)∧b.getD k (-1)<_
  rw[hget k y hy]
  omega
 ·show b.getD k (-1) = -1
  by_cases hl:k<b.length
  ·have hy:=qPa hl
   have:=hv k _ hy
   rw[hk,if_neg (by decide)] at this
   rw[hget k _ hy,this]
  ·rw[List.getD_eq_getElem?_getD,qPG (by omega)];rfl
 ·rw[List.getElem?_take] at hy
  split at hy
  ·show y=x↔b.getD k (-1)=x
   rw[hget k y hy]
  ·cases hy
theorem qgL {n:qb} {l:List qa} {set:Nat} (h:q3s n l set) {s:qg} {d b:List Int} (hd:d.length=l.length) (hf:q6x d s l n set) (hb:b.length=l.length) (hv:Holds b set (lvN n))
  (hm:(q4Z s l (fun k=>b.getD k (-1)) n 0).2=true):d=b∨qvO (lvN n+1) d<qvO (lvN n+1) b:=by
 have hll:=h.ll
 have key:∀j,j≤l.length→d.take j=b.take j∨qvO (lvN n+1) (d.take j)<qvO (lvN n+1) (b.take j):=by
  intro j
  induction j with
  | zero=>intro _;left;rw[List.take_zero,List.take_zero]
  | succ j ih=>
   intro hj
   obtain⟨x,hx⟩:∃x,d[j]?=some x:=⟨_,qPa (by omega)⟩
   obtain⟨z,hz⟩:∃z,b[j]?=some z:=⟨_,qPa (by omega)⟩
   have ed:d.take (j+1)=d.take j++[x]:=by rw[List.take_add_one,hx];rfl
   have eb:b.take (j+1)=b.take j++[z]:=by rw[List.take_add_one,hz];rfl
   have vx:=hf.val j x hx
   have vz:=hv j z hz
   have hA:=(q5f (b.take (j+1)) s l (by omega) n 0 set h.fit h.lt).2 ⟨_,qcs h hb hv (j+1),hm⟩
   rw[ed,eb,qg5,qg5]
   rw[eb] at hA
   rcases ih (by omega) with e|e
   ·by_cases hbit:set.testBit j=true
    ·rw[if_pos hbit] at vx vz
     rcases Int.lt_trichotomy z x with g|g|g
     ·exfalso
      have:=hf.lst j x hx hbit z.toNat (by omega)
      rw[e,show((z.toNat:Nat):Int)=z from by omega,hA] at this
      exact absurd this (by decide)
     ·left;rw[e,g]
     ·right;rw[e];omega
    ·rw[if_neg hbit] at vx vz
     left;rw[e,vx,vz]
   ·right
    have h1:(x+1).toNat<lvN n+1:=by split at vx<;>omega
    have:=Nat.mul_le_mul_right (lvN n+1) e
    rw[Nat.succ_mul] at this
    omega
 have:=key l.length (qPo _)
 rwa [qQg (by omega),qQg (by omega)] at this
def qxF (b:List Int):Nat:=mkS (fun j=>decide (0≤b.getD j (-1))) b.length
theorem qeJ {b:List Int} {j:Nat} {y:Int} (h:b[j]?=some y):(qxF b).testBit j=decide (0≤y):=by
 unfold qxF
 rw[qfa,qQ9 (ZB h),qPF,List.getD_eq_getElem?_getD,h]
 rfl
theorem qtR (b:List Int):qxF b<2 ^ b.length:=qzI _ _
theorem ql5 {b:List Int} {w:Nat} (h:∀(j:Nat) (y:Int),b[j]?=some y → -1≤y∧y<(w:Int)):Holds b (qxF b) w:=fun j y hy=>by
 have:=h j y hy
 rw[qeJ hy]
 by_cases e:0≤y
 ·rw[if_pos (qQ9 e)];omega
 ·rw[decide_eq_false e,if_neg (by decide)];omega
def qlV (n:qb) (s:qg) (l:List qa) (b:List Int):Bool:=(q4Z s l (fun k=>b.getD k (-1)) n 0).2
theorem qh0 {n:qb} {l:List qa} {set:Nat} (h:q3s n l set) {s:qg} {b:List Int} (hb:b.length=l.length) (hv:Holds b set (lvN n)) (hm:qlV n s l b=true):QN [] s l n 0 set=true:=by
 have:=qcs h hb hv 0
 rw[List.take_zero] at this
 exact(q5f [] s l (by have:=h.ll;omega) n 0 set h.fit h.lt).2 ⟨_,this,hm⟩
end
noncomputable section
open Go.RowKit
theorem q9a {n:qb} {l:List qa} {set:Nat} (h:q3s n l set) {s:qg} {d:List Int} (hd:d.length=l.length) (hf:q6x d s l n set):qlV n s l d=true:=by
 have hll:=h.ll
 obtain⟨a,ha,hm⟩:=(q5f d s l (by omega) n 0 set h.fit h.lt).1 hf.ok
 have hget:∀j,j<l.length→∃y,d[j]?=some y∧d.getD j (-1)=y:=fun j hj=>⟨d[j]'(by omega),qPa (by omega),by rw[List.getD_eq_getElem?_getD,qPa (by omega)];rfl⟩
 have hv:q4Z s l (fun j=>d.getD j (-1)) n 0=q4Z s l a n 0:=q5x s l _ a n 0 fun k hk x hx hx2=>by
  obtain⟨y,hy,e⟩:=hget k hk
  show d.getD k (-1)=x↔a k=x
  rw[e]
  exact ha.com k y hy x hx (by omega)
 unfold qlV
 rw[hv];exact hm
theorem qiI {n:qb} {l:List qa} {set:Nat} {s:qg} {d:List Int} (hf:q6x d s l n set) (j:Nat) (y:Int) (hy:d[j]?=some y) : -1≤y∧y+1<((lvN n+1:Nat):Int):=by
 have:=hf.val j y hy
 split at this<;>omega
end
noncomputable section
open Go.RowKit
structure Szs (n:qb):Prop where
 hg:hgN n≤100
 nd:(ndN n).length≤9999
 st:∀y∈ndN n,y.Set.length≤1000000
structure Rgt (n:qb):Prop where
 sz:Szs n
 ck:qet n=0
theorem qkL:∀l:List qb,(qtp l).getD 0=0→∀y∈l,q9L y=0
 | [],_,y,hy=>by cases hy
 | x::l,h,y,hy=>by
  unfold qtp at h
  rw[List.findSome?_cons] at h
  by_cases hx:q9L x=0
  ·simp only[hx,ne_eq,not_true_eq_false,if_false] at h
   rcases qPu.1 hy with e|hy
   ·rw[e];exact hx
   ·exact qkL l h y hy
  ·simp only[hx,ne_eq,not_false_eq_true,if_true,Option.getD_some] at h
theorem qqx {n:qb} (h:Rgt n):∀y∈ndN n,q9L y=0:=by
 have hc:=h.ck
 unfold qet at hc
 split at hc
 ·exact absurd hc (by decide)
 split at hc
 ·exact absurd hc (by decide)
 split at hc
 ·exact absurd hc (by decide)
 exact qkL _ hc
theorem qqQ {y:qb} (h:q9L y=0):q2T y:=by
 unfold q9L at h
 by_cases e1:y.Kind=1
 ·exact⟨.inl e1,fun e=>by omega,fun e=>by omega⟩
 rw[if_neg e1] at h
 by_cases e2:y.Kind=2
 ·exact⟨.inr (.inl e2),fun e=>by omega,fun e=>by omega⟩
 rw[if_neg e2] at h
 by_cases e3:y.Kind=3
 ·rw[if_pos e3] at h
  split at h
  ·exact absurd h (by decide)
  ·rename_i hb
   have hb1:q8G y=true:=by
    cases hq:q8G y
    ·exact absurd (.inl hq) hb
    ·rfl
   have hb2:y.N=0:=Classical.byContradiction fun q=>hb (.inr q)
   unfold q8G at hb1
   simp only[qPE] at hb1
   refine⟨.inr (.inr (.inl e3)),fun _=>⟨by omega,fun q=>?_⟩,fun e=>by omega⟩
   rw[q] at hb1
   exact absurd hb1.2 (by decide)
 rw[if_neg e3] at h
 by_cases e4:y.Kind=4
 ·rw[if_pos e4] at h
  split at h
  ·exact absurd h (by decide)
  ·split at h
   ·exact absurd h (by decide)
   ·rename_i hi
    have:inF y.N 1 y.L.length=true:=by simpa using hi
    unfold inF at this
    rw[qPE,qQ8] at this
    exact⟨.inr (.inr (.inr e4)),fun e=>by omega,fun _=>this.1⟩
 ·rw[if_neg e4] at h
  exact absurd h (by decide)
theorem qpZ {n:qb} (h:Rgt n):∀y∈ndN n,q2T y:=fun y hy=>qqQ (qqx h y hy)
theorem q46 {n:qb} (h:Rgt n) {l:List qa} (hl:l.length≤10) {set:Nat} (hs:set<2 ^ l.length):q3s n l set:=⟨qpZ h,h.sz.nd,h.sz.st,by omega,hs⟩
theorem qeG {n:qb} (h:Rgt n) (s:qg) (l:List qa) (hl:l.length≤10):q2Y n s l=some (Zk (2 ^ l.length) (QN [] s l n 0),0):=by
 have h4:=h.sz.nd
 unfold q2Y
 rw[q9d n h.sz.hg h.sz.nd h.sz.st,h.ck,qP8,if_neg (by decide),if_neg (by omega)]
 unfold q5V
 have:=qp7 [] rfl s l (by omega) _ n (qPo _) (by omega) h.sz.st 0 (by omega)
 rw[show((0:Nat):Int)=0 from rfl] at this
 rw[this,qP8,qP8]
theorem qp0 {n:qb} (h:Rgt n) {l:List qa} (hl:l.length≤10) (s:qg) (d:List Int) (hd:d.length=l.length) (hv:∀(j:Nat) (y:Int),d[j]?=some y → -1≤y∧y<(lvN n:Int)):q2X n s l d=some (qlV n s l d):=by
 have hnd:=h.sz.nd
 have hlf:=qpi n (qpZ h)
 unfold q2X
 rw[qg8 n h.sz.hg hnd h.sz.st,qP8,q9d n h.sz.hg hnd h.sz.st,h.ck,qP8,if_neg (by decide),if_neg (by rw[hd];simp),qrs d (by omega) _ fun j y hy=>?_,qP8,if_neg (by decide)]
 ·change Option.bind (JZ (n,s,l,d,((0:Nat):Int))) _=_
  rw[qo4 s l (by omega) d hd n 0 h.sz.st (by omega),qP8]
  rfl
 ·have:=hv j y hy
  unfold q0l
  rw[if_neg (by omega)];exact decide_eq_false (by omega)
theorem qe9 {n:qb} {l:List qa} {set:Nat} (h:q3s n l set) {s:qg} {d b:List Int} (hd:d.length=l.length) (hf:q6x d s l n set) (hb:b.length=l.length) (hg:q6x b s l n set):d=b:=by
 rcases qgL h hd hf hb hg.val (q9a h hb hg) with e|e
 ·exact e
 ·rcases qgL h hb hg hd hf.val (q9a h hd hf) with e2|e2
  ·exact e2.symm
  ·omega
theorem qcq {n:qb} {l:List qa} {set:Nat} (h:q3s n l set) {s:qg} {d:List Int} (hd:d.length=l.length) (hf:q6x d s l n set):QN [] s l n 0 set=true:=
 qh0 h hd hf.val (q9a h hd hf)
theorem qmN {n:qb} (h:Rgt n) {l:List qa} (hl:l.length≤10) {set:Nat} (hs:set<2 ^ l.length) (s:qg) {d:List Int} (hd:d.length=l.length) (hf:q6x d s l n set):q1f n s l (set:Int)=some (QJ set.testBit d,true):=by
 have hG:=q46 h hl hs
 rcases qgf hG s (qeG h s l hl) with ⟨g1,_⟩|⟨_,b,g2,g3,g4⟩
 ·rw[qcq hG hd hf] at g1;cases g1
 ·rw[g4,qe9 hG hd hf g2 g3]
end
noncomputable section
open Go.RowKit
theorem qd7 {α:Type}:∀(l:List α) (m:Nat→Bool),(QJ m l).length=rkF m l.length
 | [],_=>rfl
 | a::l,m=>by
  rw[QJ,qPf,qd7 l,qPj,qbZ]
  cases m 0<;>rfl
theorem qmz {α:Type}:∀(l:List α) (m:Nat→Bool) (k:Nat),m k=true→(QJ m l)[rkF m k]?=l[k]?
 | [],_,_,_=>by rw[QJ];simp
 | a::l,m,0,h=>by rw[QJ,h,if_pos rfl];rfl
 | a::l,m,k+1,h=>by
  rw[QJ,qbZ]
  have:=qmz l (fun j=>m (j+1)) k h
  cases m 0
  ·rw[if_neg (by decide),if_neg (by decide),qPs,qPw,this,qPx]
  ·rw[if_pos rfl,if_pos rfl,qQf,Nat.add_comm 1,qPx,this,qPx]
theorem q7h {α:Type}:∀(l:List α) (m:Nat→Bool) (x:α),x∈QJ m l→x∈l
 | [],_,_,h=>by cases h
 | a::l,m,x,h=>by
  rw[QJ,qPC] at h
  rcases h with h|h
  ·cases h0:m 0<;>rw[h0] at h
   ·cases h
   ·exact qPZ.1 h ▸ qPn
  ·exact qPg _ (q7h l _ x h)
theorem qcD {α:Type} (N:Nat) (g:Nat→α):Zk (N+1) g=Zk N g++[g N]:=by
 unfold Zk
 rw[List.range_succ,List.map_append];rfl
theorem qjI (m:Nat→Bool) (lf:List Int):∀N,rkF m N≤lf.length→QJ m (Zk N (qaY m fun j=>lf.getD j (-1)))=lf.take (rkF m N)
 | 0,_=>by rw[rkF,List.take_zero];rfl
 | N+1,h=>by
  rw[rkF] at h
  rw[qcD,q71,qjI m lf N (by omega),zH,rkF]
  unfold qaY
  cases e:m N
  ·rw[if_neg (by decide),if_neg (by decide),qPt,Nat.add_zero]
  ·rw[if_pos rfl,if_pos rfl,if_pos rfl,List.take_add_one]
   rw[e,if_pos rfl] at h
   dsimp only
   rw[List.getD_eq_getElem?_getD,qPa (by omega)]
   rfl
theorem qgR:∀{a b:List Int} {x y:Int},a.length=b.length→(q6g (a++[x]) (b++[y])=true↔q6g a b=true∨(a=b∧x<y))
 | [],[],x,y,_=>by simp[q6g]
 | u::a,v::b,x,y,h=>by
  have:=qgR (a:=a) (b:=b) (x:=x) (y:=y) (by simpa using h)
  rw[qQe,qQe,q6g,q6g,qPD,qPD,qPE,qPE,this,qQ8,beq_iff_eq]
  constructor
  ·rintro(h|⟨h,h2|⟨h2,h3⟩⟩)
   ·exact .inl (.inl h)
   ·exact .inl (.inr ⟨h,h2⟩)
   ·exact .inr ⟨by rw[h,h2],h3⟩
  ·rintro((h|⟨h,h2⟩)|⟨h,h2⟩)
   ·exact .inl h
   ·exact .inr ⟨h,.inl h2⟩
   ·injection h with h3 h4;exact .inr ⟨h3,.inr ⟨h4,h2⟩⟩
theorem qkJ:∀{a b:List Int} {m:Nat→Bool},a.length=b.length→(∀k,m k=false→a[k]?=b[k]?)→q6g a b=true→q6g (QJ m a) (QJ m b)=true
 | [],[],_,_,_,h=>by cases h
 | x::a,y::b,m,hl,he,h=>by
  rw[q6g,qPD,qPE,qQ8,beq_iff_eq] at h
  have ih:=fun h=>qkJ (a:=a) (b:=b) (m:=fun j=>m (j+1)) (by simpa using hl) (fun k hk=>by simpa using he (k+1) hk) h
  rw[QJ,QJ]
  cases e:m 0
  ·rw[if_neg (by decide),if_neg (by decide),qPs,qPs]
   have:x=y:=by simpa using he 0 e
   rcases h with h|h
   ·omega
   ·exact ih h.2
  ·rw[if_pos rfl,if_pos rfl,qQf,qQf,q6g,qPD,qPE,qQ8,beq_iff_eq]
   rcases h with h|h
   ·exact .inl h
   ·exact .inr ⟨h.1,ih h.2⟩
theorem qn1 {n:qb} {l:List qa} {set:Nat} (h:q3s n l set) {s:qg} {d b:List Int} (hd:d.length=l.length) (hf:q6x d s l n set) (hb:b.length=l.length) (hv:Holds b set (lvN n))
  (hm:qlV n s l b=true):d=b∨q6g d b=true:=by
 have hll:=h.ll
 have key:∀j,j≤l.length→d.take j=b.take j∨q6g (d.take j) (b.take j)=true:=by
  intro j
  induction j with
  | zero=>intro _;left;rw[List.take_zero,List.take_zero]
  | succ j ih=>
   intro hj
   obtain⟨x,hx⟩:∃x,d[j]?=some x:=⟨_,qPa (by omega)⟩
   obtain⟨z,hz⟩:∃z,b[j]?=some z:=⟨_,qPa (by omega)⟩
   have ed:d.take (j+1)=d.take j++[x]:=by rw[List.take_add_one,hx];rfl
   have eb:b.take (j+1)=b.take j++[z]:=by rw[List.take_add_one,hz];rfl
   have hlen:(d.take j).length=(b.take j).length:=by rw[qPB,qPB];omega
   have vx:=hf.val j x hx
   have vz:=hv j z hz
   have hA:=(q5f (b.take (j+1)) s l (by omega) n 0 set h.fit h.lt).2 ⟨_,qcs h hb hv (j+1),hm⟩
   rw[ed,eb,qgR hlen]
   rw[eb] at hA
   rcases ih (by omega) with e|e
   ·by_cases hbit:set.testBit j=true
    ·rw[if_pos hbit] at vx vz
     rcases Int.lt_trichotomy z x with g|g|g
     ·exfalso
      have:=hf.lst j x hx hbit z.toNat (by omega)
      rw[e,show((z.toNat:Nat):Int)=z from by omega,hA] at this
      exact absurd this (by decide)
     ·left;rw[e,g]
     ·exact .inr (.inr ⟨e,g⟩)
    ·rw[if_neg hbit] at vx vz
     left;rw[e,vx,vz]
   ·exact .inr (.inl e)
 have:=key l.length (qPo _)
 rwa [qQg (by omega),qQg (by omega)] at this
structure Perm (n:qb) (s:qg) (l:List qa) (X:Nat) (lf:List Int):Prop where
 len:lf.length=rkF X.testBit l.length
 rng:∀(j:Nat) (y:Int),lf[j]?=some y → -1≤y∧y<(lvN n:Int)
 met:qlV n s (QJ X.testBit l) lf=true
theorem qk6 {n:qb} (h:Rgt n) {l:List qa} (hl:l.length≤10) {set:Nat} (hs:set<2 ^ l.length) (s:qg) (hS:QN [] s l n 0 set=true):∃d,d.length=l.length∧q6x d s l n set:=by
 rcases qgf (q46 h hl hs) s (qeG h s l hl) with ⟨e,_⟩|⟨_,d,h1,h2,_⟩
 ·rw[hS] at e;cases e
 ·exact⟨d,h1,h2⟩
theorem qer {n:qb} (h:Rgt n) {l:List qa} (hl:l.length≤10) {s:qg} {X:Nat} {lf:List Int} (hp:Perm n s l X lf) :
  ∃sub d,sub<2 ^ l.length∧sub &&& X=sub∧d.length=l.length∧q6x d s l n sub∧(QJ X.testBit d=lf∨q6g (QJ X.testBit d) lf=true):=by
 obtain⟨b,hb⟩:∃b,b=Zk l.length (qaY X.testBit fun j=>lf.getD j (-1)):=⟨_,rfl⟩
 have hbl:b.length=l.length:=by rw[hb,zH]
 have hget:∀k,k<l.length→b[k]?=some (qaY X.testBit (fun j=>lf.getD j (-1)) k):=fun k hk=>by rw[hb,Jz _ hk]
 have hrng:∀(j:Nat) (y:Int),b[j]?=some y → -1≤y∧y<(lvN n:Int):=fun j y hy=>by
  have hj:=ZB hy
  rw[hget j (by omega)] at hy
  injection hy with hy
  unfold qaY at hy
  split at hy
  ·subst hy
   by_cases hr:rkF X.testBit j<lf.length
   ·have:=hp.rng _ _ (qPa hr)
    dsimp only
    rw[List.getD_eq_getElem?_getD,qPa hr];exact this
   ·dsimp only
    rw[List.getD_eq_getElem?_getD,qPG (by omega)]
    exact⟨Int.le_refl _,by show(-1:Int)<_;omega⟩
  ·subst hy;exact⟨Int.le_refl _,by omega⟩
 have hv:=ql5 hrng
 have hset:qxF b<2 ^ l.length:=hbl ▸ qtR b
 have G:=q46 h hl hset
 have hm:qlV n s l b=true:=by
  have h1:=hp.met
  unfold qlV at h1 ⊢
  rw[qjr] at h1
  rw[←h1]
  congr 1
  refine q5x s l _ _ n 0 fun k hk x _ _=>?_
  show b.getD k (-1)=x↔_
  rw[List.getD_eq_getElem?_getD,hget k hk];exact Iff.rfl
 obtain⟨d,hd,hf⟩:=qk6 h hl hset s (qh0 G hbl hv hm)
 refine⟨qxF b,d,hset,?_,hd,hf,?_⟩
 ·refine qgG fun k hk=>?_
  by_cases hkl:k<l.length
  ·rw[qeJ (hget k hkl),qQ8] at hk
   unfold qaY at hk
   split at hk
   ·assumption
   ·omega
  ·rw[Nat.testBit_lt_two_pow (qPI hset (Nat.pow_le_pow_right (by decide) (by omega)))] at hk;cases hk
 ·have hsel:QJ X.testBit b=lf:=by
   rw[hb,qjI _ _ _ (by rw[hp.len];exact qPo _),←hp.len,List.take_length]
  rcases qn1 G hd hf hbl hv hm with e|e
  ·left;rw[e,hsel]
  ·right
   have:=qkJ (m:=X.testBit) (by omega) (fun k hk=>?_) e
   ·rw[hsel] at this;exact this
   ·by_cases hkl:k<l.length
    ·obtain⟨y,hy⟩:∃y,d[k]?=some y:=⟨_,qPa (by omega)⟩
     have hbit:(qxF b).testBit k=false:=by
      rw[qeJ (hget k hkl)]
      unfold qaY
      rw[hk,if_neg (by decide)];rfl
     have:=hf.val k y hy
     rw[hbit,if_neg (by decide)] at this
     rw[hy,hget k hkl,this]
     unfold qaY
     rw[hk,if_neg (by decide)]
    ·rw[qPG (by omega),qPG (by omega)]
theorem qlM {n:qb} (h:Rgt n) {l:List qa} (hl:l.length≤10) {s:qg} {X sub:Nat} (hs:sub<2 ^ l.length) (hX:sub &&& X=sub) {d:List Int} (hd:d.length=l.length) (hf:q6x d s l n sub):Perm n s l X (QJ X.testBit d):=by
 have G:=q46 h hl hs
 refine⟨by rw[qd7,hd],fun j y hy=>?_,?_⟩
 ·obtain⟨k,hk⟩:=List.getElem?_of_mem (q7h d _ y (qP9 hy))
  have:=qiI hf k y hk
  omega
 ·have h1:=q9a G hd hf
  unfold qlV at h1 ⊢
  rw[qjr,←h1]
  congr 1
  refine q5x s l _ _ n 0 fun k hk x _ _=>?_
  obtain⟨y,hy⟩:∃y,d[k]?=some y:=⟨_,qPa (by omega)⟩
  show _↔d.getD k (-1)=x
  unfold qaY
  by_cases hk2:X.testBit k=true
  ·rw[if_pos hk2]
   dsimp only
   rw[List.getD_eq_getElem?_getD,List.getD_eq_getElem?_getD,qmz d _ k hk2]
  ·rw[if_neg hk2,List.getD_eq_getElem?_getD,hy]
   have hb:sub.testBit k=false:=qPA.2 fun e=>hk2 (qar hX e)
   have:=hf.val k y hy
   rw[hb,if_neg (by decide)] at this
   rw[this];exact Iff.rfl
end
noncomputable section
open Go.RowKit
set_option maxRecDepth 100000
def q4f (N m:Nat):List Int:=QJ m.testBit (Zk N fun i=>(i:Int))
theorem qmd {α:Type} (N:Nat) (g:Nat→α):Zk (N+1) g=g 0::Zk N fun i=>g (i+1):=by
 unfold Zk
 rw[List.range_succ_eq_map,qPv,List.map_map];rfl
theorem qjT {α:Type}:∀(l:List α) (p:Nat→Bool),(∀k,k<l.length→p k=false)→QJ p l=[]
 | [],_,_=>rfl
 | a::l,p,h=>by
  rw[QJ,h 0 (by simp),qjT l _ fun k hk=>h (k+1) (by simpa using hk)];rfl
theorem qgw {m:Nat} {N:Nat} (hN:N≤60) (hm:m<2 ^ N):∀(j k:Nat) (l:List Int),j+k=N→l.length≤k→zl (QC (m:Int)) (l,(k:Int))=some (l++QJ (fun i=>m.testBit (k+i)) (Zk j fun i=>((k+i:Nat):Int))):=by
 have hML:100000≤maxLen:=by unfold maxLen;omega
 have hm63:m<9223372036854775808:=qPI hm (qPJ (Nat.pow_le_pow_right (by decide) hN) (by decide))
 have stop:∀(k:Nat) (l:List Int),k≤60→m / 2 ^ k=0→zl (QC (m:Int)) (l,(k:Int))=some l:=fun k l hk h0=>by
  refine zt ?_
  unfold QC
  dsimp only
  rw[if_pos (by omega),qPb,q9Q m k (by omega),h0,if_neg (by decide)]
 intro j
 induction j with
 | zero=>
  intro k l hk hl
  obtain rfl:k=N:=by omega
  rw[stop k l hN (Nat.div_eq_of_lt hm)]
  show some l=some (l++[])
  rw[qPt]
 | succ j ih=>
  intro k l hk hl
  by_cases h0:m / 2 ^ k=0
  ·rw[stop k l (by omega) h0,qjT _ _ fun i _=>?_,qPt]
   rw[Nat.testBit_eq_decide_div_mod_eq,Nat.pow_add,←Nat.div_div_eq_div_mul,h0,Nat.zero_div]
   rfl
  ·have hws:w64 ((k:Int)+1)=((k+1:Nat):Int):=Qq (n:=1000) (by omega) (by omega)
   have hb:=qhx m k hm63 (by omega)
   rw[qmd,QJ]
   have e1:(fun i=>m.testBit (k+(i+1)))=fun i=>m.testBit (k+1+i):=funext fun i=>by rw[Nat.add_right_comm,qQ2]
   have e2:(fun i=>((k+(i+1):Nat):Int))=fun i=>((k+1+i:Nat):Int):=funext fun i=>by rw[Nat.add_right_comm,qQ2]
   rw[e1,e2]
   have hpos:(0:Int)<((m:Int)).fdiv (2 ^ min k IntKind.i64.bits):=by rw[q9Q m k (by omega)];exact Int.ofNat_lt.2 (Nat.pos_of_ne_zero h0)
   cases e:m.testBit k
   ·rw[if_neg (by decide),qPs,←ih (k+1) l (by omega) (by omega)]
    refine zS ?_
    unfold QC
    dsimp only
    rw[if_pos (by omega),qPb,if_pos hpos,if_pos (by omega),if_neg (by rw[hb,e];decide),hws]
   ·rw[if_pos rfl,Nat.add_zero,←qPO,←ih (k+1) (l++[(k:Int)]) (by omega) (by rw[qPf];exact Nat.succ_le_succ hl)]
    refine zS ?_
    unfold QC
    dsimp only
    rw[if_pos (by omega),qPb,if_pos hpos,if_pos (by omega),if_pos (by rw[hb,e]),if_pos ⟨by omega,by omega⟩,hws]
theorem q45 {m N:Nat} (hN:N≤60) (hm:m<2 ^ N):ZT (m:Int)=some (q4f N m):=by
 have h:=qgw hN hm N 0 [] (by omega) (qPo _)
 unfold ZT
 change Option.bind (zl _ ([],((0:Nat):Int))) _=_
 rw[h,qP8,qPs]
 simp only[qPw]
 rfl
def qlR:List Int→List Int→Int
 | [],[]=>0
 | [],_::_ => -1
 | _::_,[]=>1
 | a::l,b::m=>if a<b then -1 else if b<a then 1 else qlR l m
theorem qeZ:∀a b:List Int,(qlR a b<0↔q6g a b=true)
 | [],[]=>by simp[qlR,q6g]
 | [],_::_=>by simp[qlR,q6g]
 | _::_,[]=>by simp[qlR,q6g]
 | a::l,b::m=>by
  rw[qlR,q6g,qPD,qPE,qQ8,beq_iff_eq]
  split
  ·rename_i h;exact⟨fun _ => .inl h,fun _=>by decide⟩
  ·split
   ·rename_i h;exact⟨fun h=>absurd h (by decide),fun h2=>by omega⟩
   ·rw[qeZ l m]
    exact⟨fun h => .inr ⟨by omega,h⟩,fun h=>h.elim (fun h=>absurd h (by assumption)) fun h=>h.2⟩
theorem qml (x y:Int):Qa x y=qfF x y:=by
 have hn:∀z:Int,Qi z=false:=fun z=>by unfold Qi;simp
 unfold Qa qfF
 rw[hn x,hn y,if_neg (by decide),if_neg (by decide)]
theorem qbo (s1 s2:List Int) (h1:s1.length≤1000000):∀(r q:List Int) (i:Nat),r.length+i=s1.length→(∀j,r[j]?=s1[i+j]?)→(∀j,q[j]?=s2[i+j]?)→(q=[]↔s2.length≤i)→
  ∃e:Int⊕Unit,zl (zT s1 s2 s1 ((s1.length:Nat):Int)) (i:Int)=some e∧e.elim id (fun _=>if((s1.length:Nat):Int)<((s2.length:Nat):Int) then -1 else 0)=qlR r q
 | [],q,i,hi,hr,hq,h0=>by
  have hi:i=s1.length:=by simpa using hi
  refine⟨.inr (),zt ?_,?_⟩
  ·unfold zT
   rw[if_neg (by omega)]
  ·show(if _ then(-1:Int) else 0)=_
   cases q with
   | nil=>rw[if_neg (by have:=h0.1 rfl;omega)];rfl
   | cons y q=>
    have hq2:¬ s2.length≤i:=fun h=>by cases h0.2 h
    rw[if_pos (by omega)];rfl
 | x::r,q,i,hi,hr,hq,h0=>by
  have hil:i<s1.length:=by simp only[qPj] at hi;omega
  have hx:s1[i]?=some x:=by have:=hr 0;rw[Nat.add_zero] at this;exact this.symm
  have hws:w64 ((i:Int)+1)=((i+1:Nat):Int):=Qq (n:=10000000) (by omega) (by omega)
  cases q with
  | nil=>
   have:=h0.1 rfl
   refine⟨.inl 1,zt ?_,rfl⟩
   unfold zT
   rw[if_pos (by omega),if_pos ⟨by omega,by omega⟩,qPb,hx,qP8,if_pos (by omega)]
  | cons y q=>
   have hl2:i<s2.length:=Nat.lt_of_not_le fun h=>by cases h0.2 h
   have hy:s2[i]?=some y:=by have:=hq 0;rw[Nat.add_zero] at this;exact this.symm
   have step:zT s1 s2 s1 ((s1.length:Nat):Int) (i:Int)=if(qfF x y != 0)=true then some (.inr (.inl (qfF x y))) else some (.inl ((i+1:Nat):Int)):=by
    unfold zT
    rw[if_pos (by omega),if_pos ⟨by omega,by omega⟩,qPb,hx,qP8,if_neg (by omega),if_pos ⟨by omega,by omega⟩,hy,qP8,qml,hws]
   by_cases hc:qfF x y=0
   ·rw[if_neg (by simpa using hc)] at step
    obtain⟨e,e1,e2⟩:=qbo s1 s2 h1 r q (i+1) (by simp only[qPj] at hi;omega) (fun j=>by have:=hr (j+1);rw[qPx] at this;rw[this];congr 1;omega) (fun j=>by have:=hq (j+1);rw[qPx] at this;rw[this];congr 1;omega) (by
     have h3:=hq 1
     rw[qPx] at h3
     constructor
     ·rintro rfl
      rw[List.getElem?_nil] at h3
      exact List.getElem?_eq_none_iff.1 h3.symm
     ·intro h
      rw[qPG h] at h3
      cases q with
      | nil=>rfl
      | cons z q=>cases h3)
    refine⟨e,(zS step).trans e1,?_⟩
    rw[e2,qlR]
    unfold qfF at hc
    split at hc
    ·cases hc
    ·split at hc
     ·cases hc
     ·rename_i h1 h2;rw[if_neg h1,if_neg h2]
   ·rw[if_pos (by simpa using hc)] at step
    refine⟨.inl (qfF x y),zt step,?_⟩
    show qfF x y=_
    rw[qlR]
    unfold qfF at hc ⊢
    split
    ·rfl
    ·rename_i h1
     split
     ·rfl
     ·rename_i h2;rw[if_neg h1,if_neg h2] at hc;exact absurd rfl hc
theorem qpP (s1 s2:List Int) (h1:s1.length≤1000000):QR s1 s2=some (qlR s1 s2):=by
 obtain⟨e,e1,e2⟩:=qbo s1 s2 h1 s1 s2 0 (by omega) (fun j=>by rw[qPw]) (fun j=>by rw[qPw]) ⟨fun h=>by rw[h];exact qPo _,fun h=>qPr (by omega)⟩
 unfold QR
 change Option.bind (zl _ ((0:Nat):Int)) _=_
 rw[e1,qP8]
 cases e with
 | inl v=>rw[Sum.elim_inl];exact congrArg some e2
 | inr v=>
  rw[Sum.elim_inr]
  have e2:(if((s1.length:Nat):Int)<((s2.length:Nat):Int) then(-1:Int) else 0)=qlR s1 s2:=e2
  rw[←e2]
  split<;>rfl
theorem qni {α:Type}:∀(l:List α) (p:Nat→Bool) (x:α),x∈QJ p l↔∃k,p k=true∧l[k]?=some x
 | [],p,x=>by simp[QJ]
 | a::l,p,x=>by
  rw[QJ,qPC,qni l]
  constructor
  ·rintro(h|⟨k,h1,h2⟩)
   ·split at h
    ·rename_i h0;exact⟨0,h0,by rw[qPZ.1 h];rfl⟩
    ·cases h
   ·exact⟨k+1,h1,h2⟩
  ·rintro⟨k,h1,h2⟩
   cases k with
   | zero=>left;rw[if_pos h1];injection h2 with h2;rw[h2];exact qPZ.2 rfl
   | succ k=>right;exact⟨k,h1,h2⟩
theorem qjC {N m k:Nat}:((k:Nat):Int)∈q4f N m↔k<N∧m.testBit k=true:=by
 unfold q4f
 rw[qni]
 constructor
 ·rintro⟨j,h1,h2⟩
  have hj:=ZB h2
  rw[zH] at hj
  rw[Jz _ hj] at h2
  injection h2 with h2
  obtain rfl:j=k:=by omega
  exact⟨hj,h1⟩
 ·rintro⟨h1,h2⟩
  exact⟨k,h2,Jz _ h1⟩
theorem qqr {N a b:Nat} (ha:a<2 ^ N) (hb:b<2 ^ N) (h:q4f N a=q4f N b):a=b:=Nat.eq_of_testBit_eq fun k=>by
 by_cases hk:k<N
 ·have h1:=qjC (N:=N) (m:=a) (k:=k)
  rw[h,qjC] at h1
  rw[Bool.eq_iff_iff]
  exact⟨fun e=>(h1.2 ⟨hk,e⟩).2,fun e=>(h1.1 ⟨hk,e⟩).2⟩
 ·rw[Nat.testBit_lt_two_pow (qPI ha (Nat.pow_le_pow_right (by decide) (by omega))),Nat.testBit_lt_two_pow (qPI hb (Nat.pow_le_pow_right (by decide) (by omega)))]
theorem qsc {N M m:Nat} (hN:N≤60) (hM:M≤60) (h1:m<2 ^ N) (h2:m<2 ^ M):q4f N m=q4f M m:=by
 have:=(q45 hN h1).symm.trans (q45 hM h2)
 injection this
theorem qjO (N m:Nat):(q4f N m).length=rkF m.testBit N:=by
 unfold q4f
 rw[qd7,zH]
theorem qgz (m:Nat→Bool):∀N,rkF m N≤N
 | 0=>qPo _
 | N+1=>by rw[rkF];have:=qgz m N;split<;>omega
def qM4 (m:Nat):Bool:=QB (IntKind.wrap IntKind.u64 (m:Int))==(((q4f 10 m).length:Nat):Int)
theorem qwP:(List.range 1024).all qM4=true:=by kernel_rfl
theorem qth {N m:Nat} (hN:N≤10) (hm:m<2 ^ N):QB (IntKind.wrap IntKind.u64 (m:Int))=(((q4f N m).length:Nat):Int):=by
 have h10:m<2 ^ 10:=qPI hm (Nat.pow_le_pow_right (by decide) hN)
 have h:=qPp.1 qwP m (qQ5.2 h10)
 rw[qsc (show N≤60 by omega) (show 10≤60 by omega) hm h10]
 exact eq_of_beq h
theorem qpI {N:Nat} (hN:N≤10) {a b:Nat} (ha:a<2 ^ N) (hb:b<2 ^ N):∃c,Qx (a:Int) (b:Int)=some c∧(c<0↔slL (q4f N a) (q4f N b)=true):=by
 have la:(q4f N a).length≤10:=by rw[qjO];exact qPJ (qgz _ _) hN
 unfold Qx
 rw[q45 (by omega) ha,qP8,q45 (by omega) hb,qP8,qpP _ _ (by omega),qP8,qth hN ha,qth hN hb,qml,qzo,qP8]
 refine⟨_,rfl,?_⟩
 rw[qiW]
 unfold qfF
 by_cases h1:(q4f N a).length<(q4f N b).length
 ·rw[if_pos (by omega:(((q4f N a).length:Nat):Int)<(((q4f N b).length:Nat):Int)),if_pos (by decide)]
  exact⟨fun _ => .inl h1,fun _=>by decide⟩
 ·rw[if_neg (by omega:¬ (((q4f N a).length:Nat):Int)<(((q4f N b).length:Nat):Int))]
  by_cases h2:(q4f N b).length<(q4f N a).length
  ·rw[if_pos (by omega:(((q4f N b).length:Nat):Int)<(((q4f N a).length:Nat):Int)),if_pos (by decide)]
   exact⟨fun h=>absurd h (by decide),fun h=>by rcases h with h|h<;>omega⟩
  ·rw[if_neg (by omega:¬ (((q4f N b).length:Nat):Int)<(((q4f N a).length:Nat):Int)),if_neg (by decide),qeZ]
   exact⟨fun h => .inr ⟨by omega,h⟩,fun h=>h.elim (fun h=>absurd h (by omega)) fun h=>h.2⟩
def msL (N:Nat):List Int:=q17 Qx (Zk (2 ^ N) fun i=>(i:Int))
theorem q8C {N:Nat} {x:Int}:x∈(Zk N fun i=>(i:Int))↔∃k:Nat,k<N∧x=(k:Int):=by
 unfold Zk
 rw[qPT]
 constructor
 ·rintro⟨k,h1,h2⟩;exact⟨k,qQ5.1 h1,h2.symm⟩
 ·rintro⟨k,h1,h2⟩;exact⟨k,qQ5.2 h1,h2.symm⟩
theorem qpK (N:Nat):(Zk N fun i=>(i:Int)).Nodup:=by
 unfold Zk
 rw[List.nodup_iff_pairwise_ne,List.pairwise_map]
 exact(List.nodup_iff_pairwise_ne.1 List.nodup_range).imp fun h e=>h (by omega)
theorem qzg {N:Nat} (hN:N≤10):okB Qx (Zk (2 ^ N) fun i=>(i:Int))=true∧(msL N).Pairwise (fun x y=>slL (q4f N x.toNat) (q4f N y.toNat)=true)∧∀x,x∈msL N↔∃k:Nat,k<2 ^ N∧x=(k:Int):=by
 have hs:∀x∈(Zk (2 ^ N) fun i=>(i:Int)),∀y∈(Zk (2 ^ N) fun i=>(i:Int)),∃c,Qx x y=some c∧(c<0↔slL (q4f N x.toNat) (q4f N y.toNat)=true):=fun x hx y hy=>by
  obtain⟨a,ha,rfl⟩:=q8C.1 hx
  obtain⟨b,hb,rfl⟩:=q8C.1 hy
  exact qpI hN ha hb
 have hi:∀x∈(Zk (2 ^ N) fun i=>(i:Int)),∀y∈(Zk (2 ^ N) fun i=>(i:Int)),q4f N x.toNat=q4f N y.toNat→x=y:=fun x hx y hy h=>by
  obtain⟨a,ha,rfl⟩:=q8C.1 hx
  obtain⟨b,hb,rfl⟩:=q8C.1 hy
  rw[qPb,qPb] at h
  rw[qqr ha hb h]
 refine⟨(qph hs hi).1,qo8 hs hi (qpK _),fun x=>?_⟩
 unfold msL
 rw[q3t,q8C]
end
noncomputable section
open Go.RowKit
theorem qoF {α β:Type} (f:α→Option β):∀(l:List α) (m:List β) (p:Nat→Bool),l.map f=m.map some→(QJ p l).filterMap f=QJ p m
 | [],[],_,_=>rfl
 | a::l,b::m,p,h=>by
  rw[qPv,qPv] at h
  injection h with h1 h2
  rw[QJ,QJ,List.filterMap_append,qoF f l m _ h2]
  congr 1
  split
  ·rw[List.filterMap_cons,h1];rfl
  ·rfl
theorem qhH {α:Type} (l:List α):(Zk l.length fun i=>(i:Int)).map (fun y=>l[Int.toNat y]?)=l.map some:=by
 apply List.ext_getElem?
 intro j
 rw[qPm,qPm]
 by_cases hj:j<l.length
 ·rw[Jz _ hj,qPa hj,Option.map_some,Option.map_some,qPb,qPa hj]
 ·rw[qPG (by rw[zH];omega),qPG (by omega)];rfl
theorem qt6 {α:Type} (l:List α) (X:Nat):(q4f l.length X).filterMap (fun y=>l[Int.toNat y]?)=QJ X.testBit l:=qoF _ _ _ _ (qhH l)
theorem mem_range {N X:Nat} {y:Int} (h:y∈q4f N X):∃k:Nat,k<N∧y=(k:Int):=by
 have:=q7h _ _ _ h
 obtain⟨k,h1,h2⟩:=q8C.1 this
 exact⟨k,h1,h2⟩
theorem qbl (l:List qa) (hl:l.length≤1000) (at0:List Int) (ha:at0.length≤1000) (hr:∀y∈at0,∃k:Nat,k<l.length∧y=(k:Int)):∀(r:List Int) (i:Nat) (out:List qa),r.length+i=at0.length→(∀j,r[j]?=at0[i+j]?)→out.length=i→
  zl (zr l at0 ((at0.length:Nat):Int)) (out,(i:Int))=some (out++r.filterMap fun y=>l[Int.toNat y]?)
 | [],i,out,hi,_,_=>by
  have hi:i=at0.length:=by simpa using hi
  refine(zt ?_).trans (by rw[List.filterMap_nil,qPt])
  unfold zr
  dsimp only
  rw[if_neg (by omega)]
 | y::r,i,out,hi,hj,ho=>by
  have hML:100000≤maxLen:=by unfold maxLen;omega
  have hil:i<at0.length:=by simp only[qPj] at hi;omega
  have hy:at0[i]?=some y:=by have:=hj 0;rw[Nat.add_zero] at this;exact this.symm
  obtain⟨k,hk,rfl⟩:=hr y (qP9 hy)
  have hws:w64 ((i:Int)+1)=((i+1:Nat):Int):=Qq (n:=10000) (by omega) (by omega)
  have e:zr l at0 ((at0.length:Nat):Int) (out,(i:Int))=some (.inl (out++[l[k]],((i+1:Nat):Int))):=by
   unfold zr
   dsimp only
   rw[if_pos (by omega),if_pos ⟨by omega,by omega⟩,qPb,hy,qP8,if_pos ⟨by omega,by omega⟩,qPb,qPa hk,qP8,if_pos ⟨by omega,by omega⟩,hws]
  rw[zS e,qbl l hl at0 ha hr r (i+1) _ (by simp only[qPj] at hi;omega) (fun j=>by have:=hj (j+1);rw[qPx] at this;rw[this];congr 1;omega) (by rw[qPf,ho];rfl),List.filterMap_cons,qPb,qPa hk]
  simp
def qdI (N:Nat) (m:Nat→Bool):List Int:=QJ m (Zk N fun i=>(i:Int))
theorem qfN (N:Nat) (m:Nat→Bool):(qdI N m).length=rkF m N:=by
 unfold qdI
 rw[qd7,zH]
theorem qaJ {N:Nat} {m:Nat→Bool} {y:Int} (h:y∈qdI N m):∃k:Nat,k<N∧y=(k:Int):=by
 have:=q7h _ _ _ h
 obtain⟨k,h1,h2⟩:=q8C.1 this
 exact⟨k,h1,h2⟩
theorem qpS {α:Type} (l:List α) (m:Nat→Bool):(qdI l.length m).filterMap (fun y=>l[Int.toNat y]?)=QJ m l:=qoF _ _ _ _ (qhH l)
theorem qmC {l:List qa} (hl:l.length≤1000) (m:Nat→Bool):zQ l (qdI l.length m)=some (QJ m l):=by
 have hlen:(qdI l.length m).length≤1000:=by rw[qfN];exact qPJ (qgz _ _) hl
 have h:=qbl l (by omega) (qdI l.length m) (by omega) (fun y hy=>qaJ hy) (qdI l.length m) 0 [] (by omega) (fun j=>by rw[qPw]) rfl
 unfold zQ
 change Option.bind (zl _ ([],((0:Nat):Int))) _=_
 rw[h,qP8,qPs,qpS]
theorem qbg (l:List Int) (hl:l.length≤1000) (at0:List Int) (ha:at0.length≤1000) (hr:∀y∈at0,∃k:Nat,k<l.length∧y=(k:Int)):∀(r:List Int) (i:Nat) (out:List Int),r.length+i=at0.length→(∀j,r[j]?=at0[i+j]?)→out.length=i→
  zl (Qs l at0 ((at0.length:Nat):Int)) (out,(i:Int))=some (out++r.filterMap fun y=>l[Int.toNat y]?)
 | [],i,out,hi,_,_=>by
  have hi:i=at0.length:=by simpa using hi
  refine(zt ?_).trans (by rw[List.filterMap_nil,qPt])
  unfold Qs
  dsimp only
  rw[if_neg (by omega)]
 | y::r,i,out,hi,hj,ho=>by
  have hML:100000≤maxLen:=by unfold maxLen;omega
  have hil:i<at0.length:=by simp only[qPj] at hi;omega
  have hy:at0[i]?=some y:=by have:=hj 0;rw[Nat.add_zero] at this;exact this.symm
  obtain⟨k,hk,rfl⟩:=hr y (qP9 hy)
  have hws:w64 ((i:Int)+1)=((i+1:Nat):Int):=Qq (n:=10000) (by omega) (by omega)
  have e:Qs l at0 ((at0.length:Nat):Int) (out,(i:Int))=some (.inl (out++[l[k]],((i+1:Nat):Int))):=by
   unfold Qs
   dsimp only
   rw[if_pos (by omega),if_pos ⟨by omega,by omega⟩,qPb,hy,qP8,if_pos ⟨by omega,by omega⟩,qPb,qPa hk,qP8,if_pos ⟨by omega,by omega⟩,hws]
  rw[zS e,qbg l hl at0 ha hr r (i+1) _ (by simp only[qPj] at hi;omega) (fun j=>by have:=hj (j+1);rw[qPx] at this;rw[this];congr 1;omega) (by rw[qPf,ho];rfl),List.filterMap_cons,qPb,qPa hk]
  simp
theorem qvU {l:List Int} (hl:l.length≤1000) (m:Nat→Bool):J3 l (qdI l.length m)=some (QJ m l):=by
 have hlen:(qdI l.length m).length≤1000:=by rw[qfN];exact qPJ (qgz _ _) hl
 have h:=qbg l (by omega) (qdI l.length m) (by omega) (fun y hy=>qaJ hy) (qdI l.length m) 0 [] (by omega) (fun j=>by rw[qPw]) rfl
 unfold J3
 change Option.bind (zl _ ([],((0:Nat):Int))) _=_
 rw[h,qP8,qPs,qpS]
end
noncomputable section
open Go.RowKit
structure qqk (n:qb) (s:qg) (l:List qa) (X sub:Nat) (lf:List Int):Prop where
 lt:sub<2 ^ l.length
 sb:sub &&& X=sub
 ex:∃d,d.length=l.length∧q6x d s l n sub∧lf=QJ X.testBit d
theorem qqk.uniq {n:qb} (h:Rgt n) {l:List qa} (hl:l.length≤10) {s:qg} {X sub:Nat} {lf lf':List Int} (a:qqk n s l X sub lf) (b:qqk n s l X sub lf'):lf=lf':=by
 obtain⟨d,h1,h2,rfl⟩:=a.ex
 obtain⟨d',h3,h4,rfl⟩:=b.ex
 rw[qe9 (q46 h hl a.lt) h1 h2 h3 h4]
def q1I (n:qb) (s:qg) (l:List qa) (X:Nat) (P:Nat→Prop) (w:List Int) (f:Bool):Prop:=
 (f=true→(∃sub,P sub∧qqk n s l X sub w)∧∀sub lf,P sub→qqk n s l X sub lf→w=lf∨q6g w lf=true)∧
 (f=false→w=[]∧∀sub lf,P sub→¬ qqk n s l X sub lf)
section
variable {n:qb} {s:qg} {l:List qa} {X:Nat} {P:Nat→Prop} {w:List Int} {f:Bool}
theorem q1I.start (h:∀k,¬ P k):q1I n s l X P [] false:=⟨fun h=>(by cases h),fun _=>⟨rfl,fun sub lf hp=>absurd hp (h sub)⟩⟩
theorem q1I.congr {Q:Nat→Prop} (h:q1I n s l X P w f) (hq:∀k,k<2 ^ l.length→k &&& X=k→(Q k↔P k)):q1I n s l X Q w f:=by
 refine⟨fun hf=>?_,fun hf=>?_⟩
 ·obtain⟨⟨sub,h1,h2⟩,h3⟩:=h.1 hf
  exact⟨⟨sub,(hq _ h2.lt h2.sb).2 h1,h2⟩,fun sub lf hp hc=>h3 sub lf ((hq _ hc.lt hc.sb).1 hp) hc⟩
 ·obtain⟨h1,h2⟩:=h.2 hf
  exact⟨h1,fun sub lf hp hc=>h2 sub lf ((hq _ hc.lt hc.sb).1 hp) hc⟩
theorem q1I.skip (h:q1I n s l X P w f) {sub:Nat} (hno:∀lf,¬ qqk n s l X sub lf):q1I n s l X (fun k=>P k∨k=sub) w f:=by
 refine⟨fun hf=>?_,fun hf=>?_⟩
 ·obtain⟨⟨sub',h1,h2⟩,h3⟩:=h.1 hf
  refine⟨⟨sub',.inl h1,h2⟩,fun k lf hp hc=>?_⟩
  rcases hp with hp|rfl
  ·exact h3 k lf hp hc
  ·exact absurd hc (hno lf)
 ·obtain⟨h1,h2⟩:=h.2 hf
  refine⟨h1,fun k lf hp hc=>?_⟩
  rcases hp with hp|rfl
  ·exact h2 k lf hp hc
  ·exact hno lf hc
theorem q1I.take (hR:Rgt n) (hl:l.length≤10) (h:q1I n s l X P w f) {sub:Nat} {lf:List Int} (hc:qqk n s l X sub lf) (hb:f=false∨q6g lf w=true):q1I n s l X (fun k=>P k∨k=sub) lf true:=by
 refine⟨fun _=>⟨⟨sub,.inr rfl,hc⟩,fun k lf2 hp hc2=>?_⟩,fun h=>(by cases h)⟩
 rcases hp with hp|rfl
 ·rcases hb with hf|hlt
  ·exact absurd hc2 ((h.2 hf).2 k lf2 hp)
  ·cases hf:f
   ·exact absurd hc2 ((h.2 hf).2 k lf2 hp)
   ·rcases(h.1 hf).2 k lf2 hp hc2 with e|e
    ·rw[←e];exact .inr hlt
    ·exact .inr (q5v hlt e)
 ·exact .inl (hc.uniq hR hl hc2)
theorem q1I.leave (hR:Rgt n) (hl:l.length≤10) (h:q1I n s l X P w true) {sub:Nat} {lf:List Int} (hc:qqk n s l X sub lf) (hb:q6g lf w=false):q1I n s l X (fun k=>P k∨k=sub) w true:=by
 obtain⟨⟨sub',h1,h2⟩,h3⟩:=h.1 rfl
 refine⟨fun _=>⟨⟨sub',.inl h1,h2⟩,fun k lf2 hp hc2=>?_⟩,fun h=>(by cases h)⟩
 rcases hp with hp|rfl
 ·exact h3 k lf2 hp hc2
 ·obtain rfl:=hc.uniq hR hl hc2
  rcases qao w lf with e|e|e
  ·exact .inl e
  ·exact .inr e
  ·rw[hb] at e;cases e
def qIc (n:qb) (s:qg) (l:List qa) (X:Nat) (w:List Int) (f:Bool):Prop:=
 (f=true→Perm n s l X w∧∀lf,Perm n s l X lf→w=lf∨q6g w lf=true)∧(f=false→w=[]∧∀lf,¬ Perm n s l X lf)
theorem q1I.lv (hR:Rgt n) (hl:l.length≤10) (h:q1I n s l X (fun _=>True) w f):qIc n s l X w f:=by
 refine⟨fun hf=>?_,fun hf=>?_⟩
 ·obtain⟨⟨sub,-,hc⟩,h3⟩:=h.1 hf
  obtain⟨d,h1,h2,rfl⟩:=hc.ex
  refine⟨qlM hR hl hc.lt hc.sb h1 h2,fun lf hp=>?_⟩
  obtain⟨sub',d',q1,q2,q3,q4,q5⟩:=qer hR hl hp
  have h4:=h3 sub' _ trivial ⟨q1,q2,d',q3,q4,rfl⟩
  rcases h4 with e|e
  ·rw[e];exact q5
  ·rcases q5 with q5|q5
   ·rw[←q5];exact .inr e
   ·exact .inr (q5v e q5)
 ·obtain⟨h1,h2⟩:=h.2 hf
  refine⟨h1,fun lf hp=>?_⟩
  obtain⟨sub',d',q1,q2,q3,q4,q5⟩:=qer hR hl hp
  exact h2 sub' _ trivial ⟨q1,q2,d',q3,q4,rfl⟩
end
end
noncomputable section
open Go.RowKit
theorem qsg {set k:Nat} (hs:set<9223372036854775808) (hk:k≤62):(ZW Go.BinOp.and IntKind.i64 (Int.fdiv (set:Int) ((2:Int) ^ min (Int.toNat (k:Int)) (IntKind.bits IntKind.i64))) (1:Int)==(0:Int)) = !set.testBit k:=by
 rw[qPb,q9Q set k (by omega),show(1:Int)=((1:Nat):Int) from rfl,qfs _ 1 (qPK (Nat.div_le_self _ _) hs) (by decide),Nat.and_one_is_mod,Nat.testBit_eq_decide_div_mod_eq]
 have:set / 2 ^ k % 2<2:=Nat.mod_lt _ (by decide)
 by_cases e:set / 2 ^ k % 2=1
 ·rw[e];rfl
 ·have e0:set / 2 ^ k % 2=0:=by omega
  rw[e0];rfl
theorem qen {α:Type}:∀(l:List α) (p m:Nat→Bool) (q:α→Bool),(∀k x,l[k]?=some x→p k=(m k&&q x))→QJ p l=(QJ m l).filter q
 | [],_,_,_,_=>rfl
 | a::l,p,m,q,h=>by
  have h0:p 0=(m 0&&q a):=h 0 a rfl
  rw[QJ,QJ,List.filter_append,←qen l _ _ q fun k x hk=>h (k+1) x hk,h0]
  congr 1
  cases m 0<;>cases hq:q a<;>simp[hq]
theorem qqs {N sub X:Nat} (h:sub &&& X=sub):q4f N sub=(q4f N X).filter fun y=>sub.testBit (Int.toNat y):=by
 unfold q4f
 refine qen _ _ _ _ fun k x hk=>?_
 have hj:=ZB hk
 rw[zH] at hj
 rw[Jz _ hj] at hk
 injection hk with hk
 subst hk
 rw[qPb]
 cases e:sub.testBit k
 ·simp
 ·rw[qar h e];rfl
theorem qgB {d:List Int} (hd:d.length≤10) {sub:Nat} (hs:sub<9223372036854775808) (hoff:∀(j:Nat) (y:Int),d[j]?=some y→sub.testBit j=false→y = -1) (w2:List Int) (b0:qf) (b1:qg) (t2:List qa) (t3:List Bool) (t4:Int) (t11:Bool) (M:List Int) (hM:M.length≤10) (hr:∀y∈M,∃k:Nat,k<d.length∧y=(k:Int)) :
  ∀(r:List Int) (i:Nat) (out asg:List Int),r.length+i=M.length→(∀j,r[j]?=M[i+j]?)→out.length=i→asg=r.filterMap (fun y=>if sub.testBit (Int.toNat y)=true then d[Int.toNat y]? else none)→
  zl (Qy w2 b0 b1 t2 t3 t4 t11 (sub:Int) M ((M.length:Nat):Int)) (out,asg,(i:Int))=some (out++r.filterMap fun y=>d[Int.toNat y]?)
 | [],i,out,asg,hi,_,_,_=>by
  have hi:i=M.length:=by simpa using hi
  refine(zt ?_).trans (by rw[List.filterMap_nil,qPt])
  unfold Qy
  dsimp only
  rw[if_neg (by omega)]
 | y::r,i,out,asg,hi,hj,ho,ha=>by
  have hML:100000≤maxLen:=by unfold maxLen;omega
  have hil:i<M.length:=by simp only[qPj] at hi;omega
  have hy:M[i]?=some y:=by have:=hj 0;rw[Nat.add_zero] at this;exact this.symm
  obtain⟨k,hk,rfl⟩:=hr y (qP9 hy)
  have hws:w64 ((i:Int)+1)=((i+1:Nat):Int):=Qq (n:=10000) (by omega) (by omega)
  have hb:=qsg (set:=sub) (k:=k) hs (by omega)
  have hdk:d[k]?=some d[k]:=qPa hk
  have next:∀(out' asg':List Int),out'.length=i+1→asg'=r.filterMap (fun y=>if sub.testBit (Int.toNat y)=true then d[Int.toNat y]? else none)→Qy w2 b0 b1 t2 t3 t4 t11 (sub:Int) M ((M.length:Nat):Int) (out,asg,(i:Int))=some (.inl (out',asg',((i+1:Nat):Int)))→out'=out++[d[k]]→
    zl (Qy w2 b0 b1 t2 t3 t4 t11 (sub:Int) M ((M.length:Nat):Int)) (out,asg,(i:Int))=some (out++((k:Int)::r).filterMap fun y=>d[Int.toNat y]?):=fun out' asg' h1 h2 h3 h4=>by
   rw[zS h3,qgB hd hs hoff w2 b0 b1 t2 t3 t4 t11 M hM hr r (i+1) out' asg' (by simp only[qPj] at hi;omega) (fun j=>by have:=hj (j+1);rw[qPx] at this;rw[this];congr 1;omega) h1 h2,List.filterMap_cons,qPb,hdk,h4]
   simp
  cases hbit:sub.testBit k
  ·have hm1:d[k] = -1:=hoff k _ hdk hbit
   refine next (out++[(-(1:Int))]) asg (by rw[qPf,ho];rfl) ?_ ?_ (by rw[hm1])
   ·rw[ha,List.filterMap_cons,qPb,hbit,if_neg (by decide)]
   ·unfold Qy
    dsimp only
    rw[if_pos (by omega),if_pos ⟨by omega,by omega⟩,qPb,hy,qP8,if_pos (by omega),if_pos (by rw[hb,hbit];rfl),if_pos ⟨by omega,by omega⟩,hws]
  ·rw[List.filterMap_cons,qPb,hbit,if_pos rfl,hdk] at ha
   subst ha
   refine next (out++[d[k]]) _ (by rw[qPf,ho];rfl) rfl ?_ rfl
   unfold Qy
   dsimp only
   rw[if_pos (by omega),if_pos ⟨by omega,by omega⟩,qPb,hy,qP8,if_pos (by omega),if_neg (by rw[hb,hbit];decide),if_pos (by simp),qPi,qP8,if_pos ⟨by omega,by omega⟩,if_pos (by simp;omega),hws]
   simp
theorem qgs {p:qf} (h:Rgt p.Need) {l:List qa} (hl:l.length≤10) (s:qg) {X:Nat} (hX:X<2 ^ l.length) {w:List Int} {f:Bool} (j:Nat) (hj:j≤X) (hw:w.length≤10) (hB:q1I p.Need s l X (fun k=>j+1≤k) w f) :
  ∃w' f',w'.length≤10∧q1I p.Need s l X (fun k=>j≤k) w' f'∧Zc p s l (Zk (2 ^ l.length) (QN [] s l p.Need 0)) (X:Int) (w,f,(j:Int))=some (.inl (w',f',(j:Int)-1)):=by
 have hjlt:j<2 ^ l.length:=by omega
 have h10:(2:Nat) ^ l.length≤1024:=qPJ (Nat.pow_le_pow_right (by decide) hl) (by decide)
 have G:=q46 h hl hjlt
 have ew:w64 ((j:Int)-1)=(j:Int)-1:=Z3 (by omega) (by omega)
 have grow:∀{w':List Int} {f':Bool},q1I p.Need s l X (fun k=>j+1≤k∨k=j) w' f'→q1I p.Need s l X (fun k=>j≤k) w' f':=fun hb=>hb.congr fun k _ _=>by omega
 have han:=qeq j X (by omega) (by omega)
 unfold Zc
 dsimp only
 rw[if_pos (by omega),han,ew]
 by_cases hsub:j &&& X=j
 ·rw[if_neg (by rw[hsub,Nat.xor_self];decide),if_pos ⟨by omega,by rw[zH];omega⟩,qPb,Jz _ hjlt,qP8]
  cases hS:QN [] s l p.Need 0 j
  ·rw[if_pos (by decide)]
   exact⟨w,f,hw,grow (hB.skip fun lf hc=>by
    obtain⟨d,h1,h2,-⟩:=hc.ex
    have:=qcq G h1 h2
    rw[hS] at this;cases this),rfl⟩
  ·rw[if_neg (by decide)]
   obtain⟨d,h1,h2⟩:=qk6 h hl hjlt s hS
   have hM:(q4f l.length X).length≤10:=by rw[qjO];exact qPJ (qgz _ _) hl
   have hloop:=qgB (d:=d) (by omega) (sub:=j) (by omega) (fun i y hy hb=>by have:=h2.val i y hy;rw[hb,if_neg (by decide)] at this;exact this) w p s l (Zk (2 ^ l.length) (QN [] s l p.Need 0)) (X:Int) f (q4f l.length X) hM (fun y hy=>by rw[h1];exact mem_range hy) (q4f l.length X) 0 [] (QJ j.testBit d) (by omega) (fun i=>by rw[qPw]) rfl (by
    rw[←qt6 d j,h1,qqs hsub,List.filterMap_filter])
   rw[qmN h hl hjlt s h1 h2,qP8]
   dsimp only
   rw[if_neg (by decide),q45 (N:=l.length) (by omega) hX,qP8]
   change ∃w' f',_∧_∧Option.bind (zl _ ([],QJ j.testBit d,((0:Nat):Int))) _=_
   have e1:(q4f l.length X).filterMap (fun y=>d[Int.toNat y]?)=QJ X.testBit d:=by rw[←h1];exact qt6 d X
   rw[hloop,qP8,qPs,e1]
   have hc:qqk p.Need s l X j (QJ X.testBit d):=⟨hjlt,hsub,d,h1,h2,rfl⟩
   have hlen:(QJ X.testBit d).length≤10:=by have:=q4H d X.testBit;omega
   cases hf:f
   ·rw[if_pos (by decide)]
    exact⟨_,_,hlen,grow (hB.take h hl hc (.inl hf)),rfl⟩
   ·rw[if_neg (by decide),qpP _ _ (by omega),qP8]
    subst hf
    by_cases hlt:qlR (QJ X.testBit d) w<0
    ·rw[if_pos hlt]
     exact⟨_,_,hlen,grow (hB.take h hl hc (.inr ((qeZ _ _).1 hlt))),rfl⟩
    ·rw[if_neg hlt]
     exact⟨_,_,hw,grow (hB.leave h hl hc (qPA.2 fun e=>hlt ((qeZ _ _).2 e))),rfl⟩
 ·have hne:((j ^^^ (j &&& X):Nat):Int)≠0:=fun e=>hsub (by
   have h0:j ^^^ (j &&& X)=0:=by omega
   exact Nat.eq_of_testBit_eq fun k=>by
    have h2:(j ^^^ (j &&& X)).testBit k=false:=by rw[h0,Nat.zero_testBit]
    rw[Nat.testBit_xor] at h2
    cases e1:(j &&& X).testBit k<;>cases e2:j.testBit k<;>rw[e1,e2] at h2<;>first|rfl|cases h2)
  rw[if_pos (by simpa using hne)]
  exact⟨w,f,hw,grow (hB.skip fun lf hc=>hsub hc.sb),rfl⟩
theorem qi0 {p:qf} (h:Rgt p.Need) {l:List qa} (hl:l.length≤10) (s:qg) {X:Nat} (hX:X<2 ^ l.length) :
  ∃w f,q1n p s l (Zk (2 ^ l.length) (QN [] s l p.Need 0)) (X:Int)=some (w,f)∧w.length≤10∧qIc p.Need s l X w f:=by
 have h10:(2:Nat) ^ l.length≤1024:=qPJ (Nat.pow_le_pow_right (by decide) hl) (by decide)
 have key:∀(i:Nat),i≤X+1→∀(w:List Int) (f:Bool),w.length≤10→q1I p.Need s l X (fun k=>i≤k) w f→∃w' f',zl (Zc p s l (Zk (2 ^ l.length) (QN [] s l p.Need 0)) (X:Int)) (w,f,(i:Int)-1)=some (w',f')∧w'.length≤10∧qIc p.Need s l X w' f':=by
  intro i
  induction i with
  | zero=>
   intro _ w f hw hB
   refine⟨w,f,zt ?_,hw,(hB.congr fun k _ _=>⟨fun _=>qPy k,fun _=>trivial⟩).lv h hl⟩
   unfold Zc
   dsimp only
   rw[if_neg (by decide)]
  | succ i ih=>
   intro hi w f hw hB
   obtain⟨w',f',h1,h2,h3⟩:=qgs h hl s hX i (by omega) hw hB
   rw[show((i+1:Nat):Int)-1=(i:Int) by omega,zS h3]
   exact ih (by omega) w' f' h1 h2
 obtain⟨w,f,h1,h2,h3⟩:=key (X+1) (qPo _) [] false (qPy _) ((q1I.start (P:=fun _=>False) fun _ h=>h).congr fun k _ hk=>⟨fun h=>by
  have:k≤X:=by rw[←hk];exact Nat.and_le_right
  omega,fun h=>h.elim⟩)
 rw[show((X+1:Nat):Int)-1=(X:Int) by omega] at h1
 unfold q1n
 rw[h1,qP8]
 exact⟨w,f,rfl,h2,h3⟩
end
noncomputable section
open Go.RowKit
section
variable {α ε:Type} {step:Int→Option (Int⊕ε)} (l:List α)
theorem q9t (q:α→Bool) (e0 e1:ε) (hs:∀(i:Nat) (a:α),l[i]?=some a→step (i:Int)=some (if q a=true then .inl ((i+1:Nat):Int) else .inr e0)) (he:step ((l.length:Nat):Int)=some (.inr e1)) :
  zl step (0:Int)=some (if l.all q=true then e1 else e0):=by
 have key:∀(r:List α) (i:Nat),r.length+i=l.length→(∀j,r[j]?=l[i+j]?)→zl step (i:Int)=some (if r.all q=true then e1 else e0):=by
  intro r
  induction r with
  | nil=>
   intro i hi _
   have:i=l.length:=by simpa using hi
   subst this
   exact zt he
  | cons a r ih=>
   intro i hi hj
   have ha:l[i]?=some a:=by have:=hj 0;rw[Nat.add_zero] at this;exact this.symm
   have h1:=hs i a ha
   rw[List.all_cons]
   cases hq:q a
   ·rw[hq,if_neg (by decide)] at h1
    exact zt h1
   ·rw[hq,if_pos rfl] at h1
    rw[zS h1,ih (i+1) (by simp only[qPj] at hi;omega) (fun j=>by have:=hj (j+1);rw[qPx] at this;rw[this];congr 1;omega),qPF]
 exact key l 0 (by omega) fun j=>by rw[qPw]
theorem q9S (q:α→Bool) (mk:Nat→ε) (e1:ε) (hs:∀(i:Nat) (a:α),l[i]?=some a→step (i:Int)=some (if q a=true then .inr (mk i) else .inl ((i+1:Nat):Int))) (he:step ((l.length:Nat):Int)=some (.inr e1)) :
  (l.any q=true∧∃i,zl step (0:Int)=some (mk i))∨(l.any q=false∧zl step (0:Int)=some e1):=by
 have key:∀(r:List α) (i:Nat),r.length+i=l.length→(∀j,r[j]?=l[i+j]?)→(r.any q=true∧∃k,zl step (i:Int)=some (mk k))∨(r.any q=false∧zl step (i:Int)=some e1):=by
  intro r
  induction r with
  | nil=>
   intro i hi _
   have:i=l.length:=by simpa using hi
   subst this
   exact .inr ⟨rfl,zt he⟩
  | cons a r ih=>
   intro i hi hj
   have ha:l[i]?=some a:=by have:=hj 0;rw[Nat.add_zero] at this;exact this.symm
   have h1:=hs i a ha
   rw[List.any_cons]
   cases hq:q a
   ·rw[hq,if_neg (by decide)] at h1
    rw[zS h1,Bool.false_or]
    exact ih (i+1) (by simp only[qPj] at hi;omega) (fun j=>by have:=hj (j+1);rw[qPx] at this;rw[this];congr 1;omega)
   ·rw[hq,if_pos rfl] at h1
    exact .inl ⟨rfl,i,zt h1⟩
 exact key l 0 (by omega) fun j=>by rw[qPw]
end
theorem q2n {i n:Nat} (h:i<n) (hn:n≤1000000):w64 ((i:Int)+1)=((i+1:Nat):Int):=Qq h (by omega)
theorem qgA (s:List Int) (hs:s.length≤1000000) (v:Int):Zj s v=some (s.any fun x=>v==x):=by
 have h:=q9S (step:=QH s v ((s.length:Nat):Int)) s (fun x=>v==x) (fun i => .inl (i:Int)) (.inr ()) (fun i a ha=>by
  have hi:=ZB ha
  unfold QH
  rw[if_pos (by omega),if_pos ⟨by omega,by omega⟩,qPb,ha,qP8,q2n hi hs]
  split<;>rfl) (by
  unfold QH
  rw[if_neg (by omega)])
 unfold Zj JQ
 rcases h with ⟨h1,i,h2⟩|⟨h1,h2⟩
 ·rw[h2,qP8,Sum.elim_inl,qP8,h1,qQ9 (by omega)]
 ·rw[h2,qP8,Sum.elim_inr,qP8,h1,decide_eq_false (by omega)]
def qiK (a b:List Int):Bool:=a.any fun x=>b.any fun y=>x==y
theorem qvc (a b:List Int) (ha:a.length≤1000000) (hb:b.length≤1000000):JK a b=some (qiK a b):=by
 have h:=q9S (step:=Qj b a ((a.length:Nat):Int)) a (fun x=>b.any fun y=>x==y) (fun i => .inl (i:Int)) (.inr ()) (fun i x hx=>by
  have hi:=ZB hx
  unfold Qj q0T
  rw[if_pos (by omega),if_pos ⟨by omega,by omega⟩,qPb,hx,qP8,qgA b hb,qP8,qP8,q2n hi ha]
  split<;>rfl) (by
  unfold Qj
  rw[if_neg (by omega)])
 unfold JK Zo ZU qiK
 rcases h with ⟨h1,i,h2⟩|⟨h1,h2⟩
 ·rw[h2,qP8,Sum.elim_inl,qP8,h1,qQ9 (by omega),qP8]
 ·rw[h2,qP8,Sum.elim_inr,qP8,h1,decide_eq_false (by omega),qP8]
theorem qcY (a b:List Int) (ha:a.length≤1000000):Zd a b=some (decide (a=b)):=by
 unfold Zd
 by_cases hl:a.length=b.length
 ·rw[if_neg (by rw[hl];simp)]
  have key:∀(r q:List Int) (i:Nat),r.length+i=a.length→q.length=r.length→(∀j,r[j]?=a[i+j]?)→(∀j,q[j]?=b[i+j]?)→zl (Qp a b ((a.length:Nat):Int)) (i:Int)=some (if r=q then .inr () else .inl ()):=by
   intro r
   induction r with
   | nil=>
    intro q i hi hq _ _
    obtain rfl:=qPr hq
    have hi:i=a.length:=by simpa using hi
    refine zt ?_
    unfold Qp
    rw[if_neg (by omega),if_pos rfl]
   | cons x r ih=>
    intro q i hi hq hr hb
    cases q with
    | nil=>cases hq
    | cons y q=>
     simp only[qPj] at hi hq
     have hx:a[i]?=some x:=by have:=hr 0;rw[Nat.add_zero] at this;exact this.symm
     have hy:b[i]?=some y:=by have:=hb 0;rw[Nat.add_zero] at this;exact this.symm
     have e:Qp a b ((a.length:Nat):Int) (i:Int)=some (if(x != y)=true then .inr (.inl ()) else .inl ((i+1:Nat):Int)):=by
      unfold Qp
      rw[if_pos (by omega),if_pos ⟨by omega,by omega⟩,qPb,hx,qP8,if_pos ⟨by omega,by omega⟩,hy,qP8,q2n (ZB hx) ha]
      split<;>rfl
     by_cases hxy:x=y
     ·subst hxy
      rw[if_neg (by simp)] at e
      rw[zS e,ih q (i+1) (by omega) (by omega) (fun j=>by have:=hr (j+1);rw[qPx] at this;rw[this];congr 1;omega) (fun j=>by have:=hb (j+1);rw[qPx] at this;rw[this];congr 1;omega)]
      simp
     ·rw[if_pos (by simpa using hxy)] at e
      rw[zt e,if_neg (fun h=>hxy (by injection h))]
  have h:=key a b 0 (by omega) hl.symm (fun j=>by rw[qPw]) (fun j=>by rw[qPw])
  change Option.bind (zl _ ((0:Nat):Int)) _=_
  rw[h,qP8]
  by_cases e:a=b
  ·rw[if_pos e,Sum.elim_inr,qQ9 e]
  ·rw[if_neg e,Sum.elim_inl,decide_eq_false e]
 ·rw[if_pos (by simpa using fun h=>hl (by omega)),decide_eq_false (fun e=>hl (by rw[e]))]
def q6f (a:qa):Prop:=a.Sources.length≤1000∧a.Path.length≤1000
def qey (a b:qa):Bool := !ceq a.Course b.Course&&((decide (0<a.Bundle)&&a.Bundle==b.Bundle&&decide (a.Path=b.Path)) || !qiK a.Sources b.Sources)
theorem qru {a b:qa} (ha:q6f a) (hb:q6f b):q3q a b=some (qey a b):=by
 have h1:=ha.1;have h2:=ha.2;have h3:=hb.1
 unfold q3q qey
 rw[qcY _ _ (by omega),qvc _ _ (by omega) (by omega)]
 simp only[qP8]
 by_cases hc:ceq a.Course b.Course=true
 ·rw[if_pos (by unfold ceq at hc;rw[qPE] at hc;exact hc),hc];rfl
 ·rw[if_neg (by unfold ceq at hc;rw[qPE] at hc;exact hc),qPA.2 hc]
  by_cases h0:0<a.Bundle
  ·rw[if_pos h0,qQ9 h0]
   cases hbd:a.Bundle==b.Bundle
   ·rw[if_neg (by decide)];simp
   ·rw[if_pos rfl]
    cases hp:decide (a.Path=b.Path)
    ·rw[if_neg (by decide)];simp
    ·rw[if_pos rfl];simp
  ·rw[if_neg h0,decide_eq_false h0];simp
def qqo (v a:JS qc):Bool:=ceq v.a0 a.a0&&ceq v.a1 a.a1
theorem q76 (s:List (JS qc)) (hs:s.length≤1000000) (v:JS qc):qZ s v=some (s.any (qqo v)):=by
 have h:=q9S (step:=zo v s ((s.length:Nat):Int)) s (qqo v) (fun i => .inl (i:Int)) (.inr ()) (fun i a ha=>by
  have hi:=ZB ha
  unfold zo
  rw[if_pos (by omega),if_pos ⟨by omega,by omega⟩,qPb,ha,qP8,q2n hi hs]
  have e:(((v.a0.School==a.a0.School)=true∧(v.a0.Code.toList==a.a0.Code.toList)=true)∧(v.a1.School==a.a1.School)=true∧(v.a1.Code.toList==a.a1.Code.toList)=true)↔qqo v a=true:=by
   unfold qqo ceq;simp only[qPE]
  by_cases hq:qqo v a=true
  ·rw[if_pos (e.2 hq),if_pos hq]
  ·rw[if_neg (fun h=>hq (e.1 h)),if_neg hq]) (by
  unfold zo
  rw[if_neg (by omega)])
 unfold qZ Qh
 rcases h with ⟨h1,i,h2⟩|⟨h1,h2⟩
 ·rw[h2,qP8,Sum.elim_inl,qP8,h1,qQ9 (by omega)]
 ·rw[h2,qP8,Sum.elim_inr,qP8,h1,decide_eq_false (by omega)]
def qbF (p:qf) (a b:qa):Bool:=qey a b && !p.Exclude.any (qqo ⟨a.Course,b.Course⟩) && !p.Exclude.any (qqo ⟨b.Course,a.Course⟩)
theorem qsC (p:qf) (hp:p.Exclude.length≤1000) (a:qa) (ha:q6f a) (t1:List qa) (t2 t7:Int) (t12:List qa) (t13 t14:Int) (l:List qa) (hl:l.length≤1000) (hf:∀b∈l,q6f b) :
  zl (ZM p a t1 t2 t7 t12 t13 t14 l ((l.length:Nat):Int)) (0:Int)=some (if l.all (qbF p a)=true then .inr () else .inl ()):=by
 refine q9t l (qbF p a) _ _ (fun i b hb=>?_) ?_
 ·have hi:=ZB hb
  unfold ZM
  rw[if_pos (by omega),if_pos ⟨by omega,by omega⟩,qPb,hb,qP8,qru ha (hf b (qP9 hb)),qP8,q76 _ (by omega),q76 _ (by omega),q2n hi (by omega)]
  unfold qbF
  simp only[qP8]
  cases qey a b
  ·simp
  ·cases p.Exclude.any (qqo ⟨a.Course,b.Course⟩)
   ·cases p.Exclude.any (qqo ⟨b.Course,a.Course⟩)<;>simp
   ·simp
 ·unfold ZM
  rw[if_neg (by omega)]
def qlT (p:qf) (a:qa) (day:Int):Bool:=(Zw p a day).getD false
theorem qoE (d:Int):∃v,q1r d=some v:=by
 have h:∀n,∃v,q0v n 100=some v:=fun n=>by
  unfold q0v
  rw[if_neg (by decide),if_neg (by decide),if_neg (by decide)]
  exact⟨_,rfl⟩
 unfold q1r
 split
 ·obtain⟨v,hv⟩:=h (w64 (d+100));rw[hv];exact⟨_,rfl⟩
 ·obtain⟨v,hv⟩:=h d;rw[hv];exact⟨_,rfl⟩
theorem qtf (p:qf) (a:qa) (day:Int):Zw p a day=some (qlT p a day):=by
 obtain⟨v,hv⟩:=qoE day
 obtain⟨w,hw⟩:=qoE a.Day
 have:∃b,Zw p a day=some b:=by
  unfold Zw
  rw[hv,hw]
  split<;>exact⟨_,rfl⟩
 obtain⟨b,hb⟩:=this
 unfold qlT
 rw[hb];rfl
def qtg (p:qf) (o:Int) (a:qa):Int:=if a.Course.School=p.School∧a.Bundle=0 then w64 (o+a.Credits) else o
def tgL (p:qf) (day:Int):List qa→List qa→Bool
 | _,[]=>true
 | done,a::r => !qlT p a day&&done.all (qbF p a)&&tgL p day (done++[a]) r
def qGf (l:List qa):Int:=l.foldl (fun n a=>w64 (n+a.Credits)) 0
def qgY (p:qf) (l:List qa) (day:Int):Bool:=tgL p day [] l&&decide (p.Total≤qGf l)&&decide (p.Own≤l.foldl (qtg p) 0)
theorem qlq (l:List qa) (hl:l.length≤1000):q1Q l=some (qGf l):=by
 have h:=qlo (step:=JH l ((l.length:Nat):Int)) l (fun(b:Int) k=>(b,(k:Int))) (fun b a=>w64 (b+a.Credits)) (fun b=>b) (fun b k a ha=>by
  have hi:=ZB ha
  unfold JH
  dsimp only
  rw[if_pos (by omega),if_pos ⟨by omega,by omega⟩,qPb,ha,qP8,q2n hi (by omega)]) (fun b=>by
  unfold JH
  dsimp only
  rw[if_neg (by omega)]) 0
 unfold q1Q
 change Option.bind (zl _ ((0:Int),((0:Nat):Int))) _=_
 rw[h];rfl
theorem qjU (p:qf) (hp:p.Exclude.length≤1000) (day:Int) (l:List qa) (hl:l.length≤1000) (hf:∀b∈l,q6f b):∀(r:List qa) (i:Nat) (o:Int),r.length+i=l.length→l.take i++r=l→
  ∃e,zl (Z9 p l day l ((l.length:Nat):Int)) (o,(i:Int))=some e∧(tgL p day (l.take i) r=true→e = .inr (r.foldl (qtg p) o))∧(tgL p day (l.take i) r=false→∃x,e = .inl x)
 | [],i,o,hi,_=>by
  have hi:i=l.length:=by simpa using hi
  refine⟨.inr o,zt ?_,fun _=>rfl,fun h=>by rw[tgL] at h;cases h⟩
  unfold Z9
  dsimp only
  rw[if_neg (by omega)]
 | a::r,i,o,hi,hr=>by
  have hil:i<l.length:=by simp only[qPj] at hi;omega
  have ha:l[i]?=some a:=by
   rw[←hr,qPL (by rw[qPB];omega),qPB,Nat.min_eq_left (by omega),Nat.sub_self];rfl
  have hmem:a∈l:=qP9 ha
  have htk:l.take i++[a]=l.take (i+1):=by rw[List.take_add_one,ha];rfl
  have hpre:(l.take i).length≤1000:=by rw[qPB];omega
  have hpr:=qsC p hp a (hf a hmem) l day o l ((l.length:Nat):Int) (i:Int) (l.take i) hpre (fun b hb=>hf b (List.mem_of_mem_take hb))
  have step:Z9 p l day l ((l.length:Nat):Int) (o,(i:Int))=some (if qlT p a day=true then .inr (.inl o) else if(l.take i).all (qbF p a)=true then .inl (qtg p o a,((i+1:Nat):Int)) else .inr (.inl o)):=by
   unfold Z9
   dsimp only
   rw[if_pos (by omega),if_pos ⟨by omega,by omega⟩,qPb,ha,qP8,qtf,qP8]
   by_cases hold:qlT p a day=true
   ·rw[if_pos hold,if_pos hold]
   ·rw[if_neg hold,if_neg hold,if_pos ⟨by omega,by omega⟩,qQ1,hpr,qP8,q2n hil (by omega)]
    by_cases hall:(l.take i).all (qbF p a)=true
    ·rw[if_pos hall,if_pos hall,Sum.elim_inr]
     unfold qtg
     by_cases h1:a.Course.School=p.School
     ·by_cases h2:a.Bundle=0
      ·rw[if_pos (by simpa using h1),if_pos (by simpa using h2),if_pos ⟨h1,h2⟩]
      ·rw[if_pos (by simpa using h1),if_neg (by simpa using h2),if_neg (fun h=>h2 h.2)]
     ·rw[if_neg (by simpa using h1),if_neg (fun h=>h1 h.1)]
    ·rw[if_neg hall,if_neg hall,Sum.elim_inl]
  rw[tgL]
  by_cases hold:qlT p a day=true
  ·rw[if_pos hold] at step
   exact⟨_,zt step,fun h=>by rw[hold] at h;simp at h,fun _=>⟨_,rfl⟩⟩
  ·rw[if_neg hold] at step
   by_cases hall:(l.take i).all (qbF p a)=true
   ·rw[if_pos hall] at step
    obtain⟨e,h1,h2,h3⟩:=qjU p hp day l hl hf r (i+1) (qtg p o a) (by simp only[qPj] at hi;omega) (by rw[←htk,qPO];exact hr)
    refine⟨e,(zS step).trans h1,?_,?_⟩
    ·rw[qPA.2 hold,hall,htk];exact h2
    ·rw[qPA.2 hold,hall,htk];exact h3
   ·rw[if_neg hall] at step
    exact⟨_,zt step,fun h=>by rw[qPA.2 hall] at h;simp at h,fun _=>⟨_,rfl⟩⟩
theorem qtM (p:qf) (hp:p.Exclude.length≤1000) (l:List qa) (hl:l.length≤1000) (hf:∀b∈l,q6f b) (day:Int):JJ p l day=some (qgY p l day):=by
 obtain⟨e,h1,h2,h3⟩:=qjU p hp day l hl hf l 0 0 (by omega) rfl
 unfold JJ qgY
 change Option.bind (zl _ ((0:Int),((0:Nat):Int))) _=_
 rw[h1,qP8]
 rw[List.take_zero] at h2 h3
 cases ht:tgL p day [] l
 ·obtain⟨x,rfl⟩:=h3 ht
  rw[Sum.elim_inl];rfl
 ·rw[h2 ht,Sum.elim_inr,qlq l hl,qP8,qPF]
  by_cases hc:p.Total≤qGf l
  ·rw[if_pos hc,qQ9 hc,qPF]
  ·rw[if_neg hc,decide_eq_false hc,qQb]
end
noncomputable section
open Go.RowKit
theorem qDC {l:List qa} (hl:l.length≤16):2 ^ l.length≤65536:=qPJ (Nat.pow_le_pow_right (by decide) hl) (by decide)
theorem qDK {l:List qa} (hl:l.length≤16):w64 ((1:Int)*(2:Int) ^ min l.length (IntKind.bits IntKind.i64))=((2 ^ l.length:Nat):Int):=by
 have:=qDC hl
 have h1:1≤2 ^ l.length:=Nat.one_le_two_pow
 rw[show min l.length (IntKind.bits IntKind.i64)=l.length from Nat.min_eq_left (by show l.length≤64;omega),Int.one_mul,show((2:Int) ^ l.length)=((2 ^ l.length:Nat):Int) by simp]
 exact Z3 (by omega) (by omega)
def mO (p:qf) (day:Int) (l:List qa) (k:Nat):Bool:=match l[k]? with
 | some a => !qlT p a day
 | none=>false
theorem qgt (p:qf) (s:qg) (day b4:Int) (l:List qa) (hl:l.length≤1000):∀(j i:Nat) (w:List Int),j+i=l.length→w=QJ (mO p day l) (Zk i fun i=>(i:Int))→
  zl (Zb p s day b4 l l ((l.length:Nat):Int)) (w,(i:Int))=some (qdI l.length (mO p day l))
 | 0,i,w,hi,hw=>by
  have hi:i=l.length:=by omega
  subst hi hw
  refine zt ?_
  unfold Zb
  dsimp only
  rw[if_neg (by omega)];rfl
 | j+1,i,w,hi,hw=>by
  have hML:100000≤maxLen:=by unfold maxLen;omega
  have hil:i<l.length:=by omega
  have ha:l[i]?=some l[i]:=qPa hil
  have hwl:w.length≤i:=by rw[hw];have:=q4H (Zk i fun i=>(i:Int)) (mO p day l);rw[zH] at this;exact this
  have step:Zb p s day b4 l l ((l.length:Nat):Int) (w,(i:Int))=some (.inl (w++(if mO p day l i=true then[(i:Int)] else[]),((i+1:Nat):Int))):=by
   have hm:mO p day l i = !qlT p l[i] day:=by unfold mO;rw[ha]
   unfold Zb
   dsimp only
   rw[if_pos (by omega),if_pos ⟨by omega,by omega⟩,qPb,ha,qP8,qtf,qP8,q2n hil (by omega),hm]
   cases qlT p l[i] day
   ·rw[if_pos (by decide),if_pos ⟨by omega,by omega⟩,if_pos (by decide)]
   ·rw[if_neg (by decide),if_neg (by decide),qPt]
  rw[zS step]
  refine qgt p s day b4 l hl j (i+1) _ (by omega) ?_
  rw[qcD,q71,zH,hw]
theorem qoN (p:qf) (s:qg) (day b5:Int) (b6:List Int) (b7:List qa) (b8:List Bool) (b9:Int) {N:Nat} (hN:N≤1024):zl (QZ p s day b5 b6 b7 b8 b9 ((N:Nat):Int)) ([],(0:Int))=some (Zk N fun i=>(i:Int)):=by
 have hML:100000≤maxLen:=by unfold maxLen;omega
 exact q27 (step:=QZ p s day b5 b6 b7 b8 b9 ((N:Nat):Int)) (fun i=>(Zk i (fun i=>(i:Int)),(i:Int))) 0 N (qPy _) (fun i _ hi=>by
  unfold QZ
  dsimp only
  rw[if_pos (by omega),if_pos (by rw[zH];exact⟨by omega,by omega⟩),qcD,q2n hi (by omega)]) (by
  unfold QZ
  dsimp only
  rw[if_neg (by omega)])
structure Grd (p:qf) (l:List qa):Prop where
 rgt:Rgt p.Need
 exc:p.Exclude.length≤1000
 fit:∀b∈l,q6f b
theorem Grd.sel {p:qf} {l:List qa} (h:Grd p l) (m:Nat→Bool):Grd p (QJ m l):=⟨h.rgt,h.exc,fun b hb=>h.fit b (q7h _ _ _ hb)⟩
theorem qsf {p:qf} {all:List qa} (h:Grd p all) (hl:all.length≤10) (s:qg) (day b5:Int) {at0:List Int} (ha:at0.length=all.length) {X:Nat} (hX:X<2 ^ all.length) :
  ∃r,JM (X:Int) p s day b5 at0 all (Zk (2 ^ all.length) (QN [] s all p.Need 0))=some r∧
   ((r = .inl ()∧∀lf,qgY p (QJ X.testBit all) day=true→¬ Perm p.Need s all X lf)∨
     (∃w,r = .inr ⟨QJ X.testBit at0,w⟩∧qgY p (QJ X.testBit all) day=true∧Perm p.Need s all X w∧∀lf,Perm p.Need s all X lf→w=lf∨q6g w lf=true)):=by
 obtain⟨w,f,h1,h2,h3⟩:=qi0 h.rgt hl s hX
 have hs:=q4H all X.testBit
 unfold JM
 rw[q45 (N:=all.length) (by omega) hX,qP8]
 have hp:zQ all (q4f all.length X)=some (QJ X.testBit all):=qmC (by omega) X.testBit
 have hi:J3 at0 (q4f all.length X)=some (QJ X.testBit at0):=by rw[←ha];exact qvU (by omega) X.testBit
 rw[hp,qP8,qtM p h.exc _ (by omega) (h.sel _).fit,qP8]
 cases ht:qgY p (QJ X.testBit all) day
 ·exact⟨_,rfl,.inl ⟨rfl,fun lf h=>by cases h⟩⟩
 ·rw[if_neg (by decide),h1,qP8]
  dsimp only
  cases hf:f
  ·rw[if_neg (by decide)]
   exact⟨_,rfl,.inl ⟨rfl,fun lf _=>(h3.2 hf).2 lf⟩⟩
  ·rw[if_pos rfl,hi,qP8]
   exact⟨_,rfl,.inr ⟨w,rfl,rfl,(h3.1 hf).1,(h3.1 hf).2⟩⟩
structure qw1 (p:qf) (s:qg) (all:List qa) (day:Int) (X:Nat) (w:List Int):Prop where
 lt:X<2 ^ all.length
 tog:qgY p (QJ X.testBit all) day=true
 perm:Perm p.Need s all X w
 min:∀Y lf,Y<2 ^ all.length→qgY p (QJ Y.testBit all) day=true→Perm p.Need s all Y lf→slL (q4f all.length X) (q4f all.length Y)=true∨(X=Y∧(w=lf∨q6g w lf=true))
theorem qpF {p:qf} {all:List qa} (h:Grd p all) (hl:all.length≤10) (s:qg) (day b5 b9:Int) {at0:List Int} (ha:at0.length=all.length) :
  ∃r,zl (QD p s day b5 at0 all (Zk (2 ^ all.length) (QN [] s all p.Need 0)) b9 (msL all.length) (((msL all.length).length:Nat):Int)) (0:Int)=some r∧
   ((r = .inr ()∧∀Y lf,Y<2 ^ all.length→qgY p (QJ Y.testBit all) day=true→¬ Perm p.Need s all Y lf)∨(∃X w,r = .inl ⟨QJ X.testBit at0,w⟩∧qw1 p s all day X w)):=by
 obtain⟨-,hpw,hmem⟩:=qzg hl
 have h10:(2:Nat) ^ all.length≤1024:=qPJ (Nat.pow_le_pow_right (by decide) hl) (by decide)
 have hlen:(msL all.length).length≤1024:=by unfold msL;rw[q5y,zH];exact h10
 have key:∀(r pre:List Int),pre++r=msL all.length→(∀y∈pre,∀(Y:Nat) (lf:List Int),y=(Y:Int)→qgY p (QJ Y.testBit all) day=true→¬ Perm p.Need s all Y lf)→
   ∃q,zl (QD p s day b5 at0 all (Zk (2 ^ all.length) (QN [] s all p.Need 0)) b9 (msL all.length) (((msL all.length).length:Nat):Int)) ((pre.length:Nat):Int)=some q∧
   ((q = .inr ()∧∀Y lf,Y<2 ^ all.length→qgY p (QJ Y.testBit all) day=true→¬ Perm p.Need s all Y lf)∨(∃X w,q = .inl ⟨QJ X.testBit at0,w⟩∧qw1 p s all day X w)):=by
  intro r
  induction r with
  | nil=>
   intro pre hpre hbad
   rw[qPt] at hpre
   refine⟨.inr (),zt ?_,.inl ⟨rfl,fun Y lf hY=>hbad (Y:Int) (by rw[hpre];exact(hmem _).2 ⟨Y,hY,rfl⟩) Y lf rfl⟩⟩
   unfold QD
   rw[hpre,if_neg (by omega)]
  | cons x r ih=>
   intro pre hpre hbad
   have hx:(msL all.length)[pre.length]?=some x:=by rw[←hpre,qPL (qPo _),Nat.sub_self];rfl
   have hlt:=ZB hx
   obtain⟨X,hX,rfl⟩:=(hmem x).1 (qP9 hx)
   obtain⟨q,h1,h2⟩:=qsf h hl s day b5 ha hX
   have step:QD p s day b5 at0 all (Zk (2 ^ all.length) (QN [] s all p.Need 0)) b9 (msL all.length) (((msL all.length).length:Nat):Int) ((pre.length:Nat):Int)=some (Sum.elim (fun _ => .inl ((pre.length+1:Nat):Int)) (fun u => .inr (.inl u)) q):=by
    unfold QD
    rw[if_pos (by omega),if_pos ⟨by omega,by omega⟩,qPb,hx,qP8,h1,qP8,q2n hlt (by omega)]
    cases q<;>rfl
   rcases h2 with ⟨rfl,hno⟩|⟨w,rfl,ht,hp,hmin⟩
   ·rw[Sum.elim_inl] at step
    rw[zS step]
    have:=ih (pre++[(X:Int)]) (by rw[qPO];exact hpre) (fun y hy Y lf e=>by
     rcases qPC.1 hy with hy|hy
     ·exact hbad y hy Y lf e
     ·have:=qPZ.1 hy
      obtain rfl:X=Y:=by omega
      exact hno lf)
    rw[qPf] at this
    exact this
   ·rw[Sum.elim_inr] at step
    refine⟨_,zt step,.inr ⟨X,w,rfl,hX,ht,hp,fun Y lf hY hty hpy=>?_⟩⟩
    have hYm:(Y:Int)∈pre++(X:Int)::r:=by rw[hpre];exact(hmem _).2 ⟨Y,hY,rfl⟩
    rcases qPC.1 hYm with hy|hy
    ·exact absurd hpy (hbad (Y:Int) hy Y lf rfl hty)
    ·rcases qPu.1 hy with e|hy
     ·obtain rfl:Y=X:=by omega
      exact .inr ⟨rfl,hmin lf hpy⟩
     ·rw[←hpre,List.pairwise_append] at hpw
      have:=(List.pairwise_cons.1 hpw.2.1).1 (Y:Int) hy
      rw[qPb,qPb] at this
      exact .inl this
 exact key (msL all.length) [] rfl (fun y hy=>by cases hy)
theorem qd1 {p:qf} {l:List qa} (h:Grd p l) (hl:l.length≤1000) (s:qg) (hck:QI p s=some 0) (day:Int) :
  (10<(QJ (mO p day l) l).length∧Zh p s l day=some (⟨[],[]⟩,2))∨
  ((QJ (mO p day l) l).length≤10∧Zh p s l day=some (⟨[],[]⟩,31)∧∀Y lf,Y<2 ^ (QJ (mO p day l) l).length→qgY p (QJ Y.testBit (QJ (mO p day l) l)) day=true→¬ Perm p.Need s (QJ (mO p day l) l) Y lf)∨
  ((QJ (mO p day l) l).length≤10∧∃X w,Zh p s l day=some (⟨QJ X.testBit (qdI l.length (mO p day l)),w⟩,0)∧qw1 p s (QJ (mO p day l) l) day X w):=by
 have hat:=qgt p s day 0 l hl l.length 0 [] (by omega) rfl
 have hlen:(qdI l.length (mO p day l)).length=(QJ (mO p day l) l).length:=by rw[qfN,qd7]
 unfold Zh
 rw[hck,qP8,if_neg (by decide)]
 change (_∧Option.bind (zl _ ([],((0:Nat):Int))) _=_)∨(_∧Option.bind (zl _ ([],((0:Nat):Int))) _=_∧_)∨(_∧∃X w,Option.bind (zl _ ([],((0:Nat):Int))) _=_∧_)
 rw[hat,qP8,hlen]
 by_cases h10:10<(QJ (mO p day l) l).length
 ·rw[if_pos (by omega)]
  exact .inl ⟨h10,rfl⟩
 ·right
  rw[if_neg (by omega),qmC hl,qP8,qeG h.rgt s _ (by omega),qP8]
  dsimp only
  rw[if_neg (by decide)]
  have hN:(QJ (mO p day l) l).length≤10:=by omega
  have hp10:(2:Nat) ^ (QJ (mO p day l) l).length≤1024:=qPJ (Nat.pow_le_pow_right (by decide) hN) (by decide)
  obtain⟨hok,-,-⟩:=qzg hN
  obtain⟨r,h1,h2⟩:=qpF (h.sel (mO p day l)) hN s day 0 (((QJ (mO p day l) l).length:Nat):Int) hlen
  have hm:q0D p s day 0 (qdI l.length (mO p day l)) (QJ (mO p day l) l) (Zk (2 ^ (QJ (mO p day l) l).length) (QN [] s (QJ (mO p day l) l) p.Need 0)) (((QJ (mO p day l) l).length:Nat):Int)=some r:=by
   unfold q0D
   rw[if_pos (by omega),qPb,qDK (by omega),qoN _ _ _ _ _ _ _ _ hp10,qP8,if_pos (by rw[zH];exact⟨Nat.two_pow_pos _,by omega,hok⟩)]
   change Option.bind (zl (QD p s day 0 _ _ _ _ (msL (QJ (mO p day l) l).length) (((msL (QJ (mO p day l) l).length).length:Nat):Int)) 0) _=_
   rw[h1,qP8]
   cases r<;>rfl
  rw[hm,qP8]
  rcases h2 with ⟨rfl,hno⟩|⟨X,w,rfl,hL⟩
  ·exact .inl ⟨hN,rfl,hno⟩
  ·exact .inr ⟨hN,X,w,rfl,hL⟩
end
end Go.Proofs.YtojflbfdcpkedaaGreat.Vc
