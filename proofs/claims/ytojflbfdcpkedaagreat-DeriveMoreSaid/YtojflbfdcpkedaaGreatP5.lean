/- Part 5 of a proof. -/
import Derived.Test.YtojflbfdcpkedaaGreatP4
set_option linter.unusedVariables false
set_option linter.unusedSimpArgs false
set_option linter.defProp false
set_option linter.unusedSectionVars false
set_option linter.unnecessarySimpa false
namespace Go.Proofs.YtojflbfdcpkedaaGreat.Vc
noncomputable section
open Go.RowKit
set_option maxRecDepth 20000
set_option maxHeartbeats 8000000
theorem qMC:okL 10 qpz:=qZ (qk qGS) (by kernel_rfl) (by kernel_rfl)
def qMb:=JA_ @qpz.eq_1 (JA_ @Tryz.f10.eq_1 @qGS)
theorem qKw:okL 28 qjp:=qZ (qk qF2) (by kernel_rfl) (by kernel_rfl)
def qJs:=JA_ @qjp.eq_1 (JA_ @Tryz.f28.eq_1 @qF2)
theorem qC6:lbO 28 5=qmw:=QG (qk qF2) rfl
theorem qBo:okL 28 qmw:=zV qKw (qOT (i:=0) (by kernel_rfl))
theorem qM0:okL 27 qoV:=qZ (qk qHo) (by kernel_rfl) (by kernel_rfl)
def qKT:=JA_ @qoV.eq_1 (JA_ @Tryz.f27.eq_1 @qHo)
theorem q2T:∀(code:ByteArray),ev 27 0 [rS code] []=some (R.agg [C.d (D.int IntKind.i64 1),dS code],[]):=
 fun code=>by
  rw[qW qHo qJ2.2.2.2 qM0]
  have:=qKT;exact gA
def q0T (w2:List qc) (qq:Int) (zL:Int) (qn:Int) (qB:Int) (qC:ByteArray) (qj:Int) (qr:Int) (ql:Int) (qw:Int) (qT:Int) (qU:Int) (qD:Int) (JL:Int) (qy:Int) (zl:Int) (zm:ByteArray) (qp:Int) (qE:Int) (qt:Int) (qO:Int) (Qf:Int) (Qg:Int) (codes:qdA ByteArray) (credits:qdA Int) (grades:qdA Int):(List qa×Int)→Option ((List qa×Int)⊕(List qa))|(l,k)=>if k<3 then if 0≤k∧k<3 then Option.bind [codes.a0,codes.a1,codes.a2][Int.toNat k]? fun(a:ByteArray)=>if 0≤k∧k<3 then Option.bind [credits.a0,credits.a1,credits.a2][Int.toNat k]? fun(a2:Int)=>if 0≤k∧k<3 then Option.bind [grades.a0,grades.a1,grades.a2][Int.toNat k]? fun(a3:Int)=>if l.length+1≤maxLen∧(l.length+1)*104≤140737488355328 then some (Sum.inl (l++[qa.mk (qc.mk 1 a) a2 a3 100 [w64 (1000001+k)] 0 []],w64 (k+1))) else none else none else none else none else some (Sum.inr l)
theorem q76:∀(w2:List qc) (l:List qa) (qq zL qn qB:Int) (qC:ByteArray) (qj qr ql qw qT qU qD JL qy zl:Int) (zm:ByteArray) (qp qE qt qO Qf Qg:Int) (q52 q53 q54:ByteArray) (q1S q1T q1U q3h q3i q3j k:Int) (qj4 q1l:Nat),qj4=l.length→q1l=w2.length→XL2 evo 28 0 5 ⟨[(2,rP 0),(4,rP 1),(5,rP 3),(6,rP 4),(7,rP 5),(8,rO 6 8 qj4),(9,rI k)],[(0,B.blk 39 [dI qq,dI zL,dI qn,dI qB,dS qC,dI qj,dI qr,dI ql,C.nils,C.nils,dI qw,dI qT,dI qU,C.nils]),(1,B.blk 39 [dI qD,dI JL,dI qy,dI zl,dS zm,dI qp,dI qE,dI qt,dO 2 2 q1l,C.nils,dI qO,dI Qf,dI Qg,C.nils]),(2,bR 55 2 qd w2),(3,B.blk 103 [dS q52,dS q53,dS q54]),(4,B.blk 29 [dI q1S,dI q1T,dI q1U]),(5,B.blk 29 [dI q3h,dI q3i,dI q3j]),(6,bR 57 8 qf l)],7,42⟩=(zB (q0T w2 qq zL qn qB qC qj qr ql qw qT qU qD JL qy zl zm qp qE qt qO Qf Qg (qdA.mk q52 q53 q54) (qdA.mk q1S q1T q1U) (qdA.mk q3h q3i q3j)) (l,k)).bind (fun(e:List qa)=>some (Exit.exit 0,⟨[(2,rP 0),(4,rP 1),(8,rO 3 8 e.length)],[(0,B.blk 39 [dI qq,dI zL,dI qn,dI qB,dS qC,dI qj,dI qr,dI ql,C.nils,C.nils,dI qw,dI qT,dI qU,C.nils]),(1,B.blk 39 [dI qD,dI JL,dI qy,dI zl,dS zm,dI qp,dI qE,dI qt,dO 2 2 w2.length,C.nils,dI qO,dI Qf,dI Qg,C.nils]),(2,bR 55 2 qd w2),(3,bR 57 8 qf e)],4,42⟩)):=
 by
 intro w2 l qq zL qn qB qC qj qr ql qw qT qU qD JL qy zl zm qp qE qt qO Qf Qg q52 q53 q54 q1S q1T q1U q3h q3i q3j k qj4 q1l h0 h1
 subst h0 h1
 revert k;revert l;exact q9j qC6 qBo (fun e=>by exact⟨_,rfl,fun h=>by cases h⟩) fun l k=>by
  have:=qJs;have:=@qmw.eq_1;have:=@q2T;have:=@q0T.eq_1;exact gA
theorem q5k:∀(q44:Int) (q7P:ByteArray) (q45:Int) (q7Q:ByteArray) (qq zL qn qB:Int) (qC:ByteArray) (qj qr ql qw qT qU qD JL qy zl:Int) (zm:ByteArray) (qp qE qt qO Qf Qg:Int) (q52 q53 q54:ByteArray) (q1S q1T q1U q3h q3i q3j k:Int),XL2 evo 28 0 5 ⟨[(2,rP 0),(4,rP 1),(5,rP 3),(6,rP 4),(7,rP 5),(8,rO 6 8 0),(9,rI k)],[(0,B.blk 39 [dI qq,dI zL,dI qn,dI qB,dS qC,dI qj,dI qr,dI ql,C.nils,C.nils,dI qw,dI qT,dI qU,C.nils]),(1,B.blk 39 [dI qD,dI JL,dI qy,dI zl,dS zm,dI qp,dI qE,dI qt,dO 2 2 2,C.nils,dI qO,dI Qf,dI Qg,C.nils]),(2,B.row 55 2 [dI q44,dS q7P,dI q45,dS q7Q]),(3,B.blk 103 [dS q52,dS q53,dS q54]),(4,B.blk 29 [dI q1S,dI q1T,dI q1U]),(5,B.blk 29 [dI q3h,dI q3i,dI q3j]),(6,B.row 57 8 [])],7,42⟩=(zB (q0T [(qc.mk q44 q7P),(qc.mk q45 q7Q)] qq zL qn qB qC qj qr ql qw qT qU qD JL qy zl zm qp qE qt qO Qf Qg (qdA.mk q52 q53 q54) (qdA.mk q1S q1T q1U) (qdA.mk q3h q3i q3j)) ([],k)).bind (fun(e:List qa)=>some (Exit.exit 0,⟨[(2,rP 0),(4,rP 1),(8,rO 3 8 e.length)],[(0,B.blk 39 [dI qq,dI zL,dI qn,dI qB,dS qC,dI qj,dI qr,dI ql,C.nils,C.nils,dI qw,dI qT,dI qU,C.nils]),(1,B.blk 39 [dI qD,dI JL,dI qy,dI zl,dS zm,dI qp,dI qE,dI qt,C.own 2 2 0 [(qc.mk q44 q7P),(qc.mk q45 q7Q)].length,C.nils,dI qO,dI Qf,dI Qg,C.nils]),(2,B.row 55 2 (([(qc.mk q44 q7P),(qc.mk q45 q7Q)].flatMap qd).map C.d)),(3,bR 57 8 qf e)],4,42⟩)):=by
 intro q44 q7P q45 q7Q qq zL qn qB qC qj qr ql qw qT qU qD JL qy zl zm qp qE qt qO Qf Qg q52 q53 q54 q1S q1T q1U q3h q3i q3j k;have h:=q76 [(qc.mk q44 q7P),(qc.mk q45 q7Q)] [] qq zL qn qB qC qj qr ql qw qT qU qD JL qy zl zm qp qE qt qO Qf Qg ((qdA.mk q52 q53 q54)).a0 ((qdA.mk q52 q53 q54)).a1 ((qdA.mk q52 q53 q54)).a2 ((qdA.mk q1S q1T q1U)).a0 ((qdA.mk q1S q1T q1U)).a1 ((qdA.mk q1S q1T q1U)).a2 ((qdA.mk q3h q3i q3j)).a0 ((qdA.mk q3h q3i q3j)).a1 ((qdA.mk q3h q3i q3j)).a2 k _ _ rfl rfl
 first
  | exact h
  | (simp only[rL,dL,bR,bZ,Nat.reduceAdd] at h;exact h)
def ZB (total:Int):Option (qe×List qa):=Option.bind (zB (q0T [qc.mk 1 (ByteArray.mk (List.toArray [65,49])),qc.mk 1 (ByteArray.mk (List.toArray [66,49]))] 0 0 0 0 (ByteArray.mk (List.toArray [])) 0 0 0 0 0 0 1 1 1 0 (ByteArray.mk (List.toArray [77,117,115,105,99])) 1 0 60 total 0 0 (qdA.mk (ByteArray.mk (List.toArray [65,49])) (ByteArray.mk (List.toArray [66,49])) (ByteArray.mk (List.toArray [65,49]))) (qdA.mk 5 5 6) (qdA.mk 55 60 80)) ([],0)) fun(a:List qa)=>some (qe.mk 1 1 1 0 (ByteArray.mk (List.toArray [77,117,115,105,99])) (qb.mk 1 0 60 ([qc.mk 1 (ByteArray.mk (List.toArray [65,49]))]++[qc.mk 1 (ByteArray.mk (List.toArray [66,49]))]) []) total 0 0 [],a)
theorem q9M:∀(total:Int),ev 28 0 [rI total] []=(ZB total).bind (fun(e:qe×List qa)=>some (R.tup [R.agg [dI e.1.School,dI e.1.Id,dI e.1.Version,dI e.1.From,dS e.1.Name,dI e.1.Need.Kind,dI e.1.Need.N,dI e.1.Need.Min,dL 2 qd e.1.Need.Set,dL 5 qh e.1.Need.L,dI e.1.Total,dI e.1.Own,dI e.1.Age,dL 4 (eA2 qd) e.1.Exclude],rL 8 qf e.2],[])):=
 fun total=>by
  rw[qW qF2 qJ4.2.2.2 qKw]
  have:=qJs;have:=@q2T;have:=@q5k;have:=@ZB.eq_1;exact gA
theorem qOg:okL 29 qpE:=qZ (qk qHG) (by kernel_rfl) (by kernel_rfl)
def qMH:=JA_ @qpE.eq_1 (JA_ @Tryz.f29.eq_1 @qHG)
theorem qKH:okL 13 qn3:=qZ (qk qHw) (by kernel_rfl) (by kernel_rfl)
def qNd:=JA_ @qn3.eq_1 (JA_ @Tryz.f13.eq_1 @qHw)
def q7K (school:Int):Option qg:=if(school==2)=Bool.true then some (qg.mk 5 1 3) else if(school==3)=Bool.true then some (qg.mk 0 20 10) else some (qg.mk 0 100 50)
def zj (school:Int):qg:=if(school==2)=Bool.true then qg.mk 5 1 3 else if(school==3)=Bool.true then qg.mk 0 20 10 else qg.mk 0 100 50
theorem qdL (school:Int):q7K school=some (zj school):=by
 unfold q7K zj
 simp only[Zn]
theorem q5I:∀(school:Int),ev 13 0 [rI school] []=some (R.agg [dI (zj school).Worst,dI (zj school).Best,dI (zj school).Pass],[]):=
 fun school=>by
  have h:ev 13 0 [rI school] []=(q7K school).bind (fun(e:qg)=>some (R.agg [dI e.Worst,dI e.Best,dI e.Pass],[])):=by
   rw[qW qHw qK4.2.2.2 qKH]
   have:=qNd;have:=@q7K.eq_1;exact gA
  rw[qdL] at h
  exact h
theorem qHi:okL 17 qgB:=qZ (qk qAi) (by kernel_rfl) (by kernel_rfl)
def qFT:=JA_ @qgB.eq_1 (JA_ @Tryz.f17.eq_1 @qAi)
theorem qzM:lbO 17 4=qo7:=QG (qk qAi) rfl
theorem qD2:okL 17 qo7:=zV qHi (qOT (i:=0) (by kernel_rfl))
theorem qyu:lbO 17 9=qot:=QG (qk qAi) rfl
theorem qDI:okL 17 qot:=zV qHi (qOT (i:=1) (by kernel_rfl))
def q09 (a:qI) (b:qI):Int→Option (Int⊕(Unit⊕Unit))|i=>if i<((a.Taken.length:Nat):Int) then if 0≤i∧i<((a.Taken.length:Nat):Int) then Option.bind a.Taken[Int.toNat i]? fun(a2:Int)=>if 0≤i∧i<((b.Taken.length:Nat):Int) then Option.bind b.Taken[Int.toNat i]? fun(a3:Int)=>if(a2 != a3)=Bool.true then some (Sum.inr (Sum.inl ())) else some (Sum.inl (w64 (i+1))) else none else none else some (Sum.inr (Sum.inr ()))
theorem q8Z:∀(q1m q3z q1n q3A:List Int) (i:Int),XL2 evo 17 0 4 ⟨[(2,rP 0),(3,rP 1),(5,rI i)],[(0,B.blk 48 [dL 1 eI q1m,dL 1 eI q3z]),(1,B.blk 48 [dL 1 eI q1n,dL 1 eI q3A])],2,59⟩=(zB (q09 (qI.mk q1m q3z) (qI.mk q1n q3A)) i).bind (Sum.elim (fun(e:Unit)=>some (Exit.ret,⟨[(2,rP 0),(3,rP 1),(4,rB Bool.false)],[(0,B.blk 48 [dL 1 eI q1m,dL 1 eI q3z]),(1,B.blk 48 [dL 1 eI q1n,dL 1 eI q3A])],2,59⟩)) (fun(e:Unit)=>some (Exit.exit 0,⟨[(2,rP 0),(3,rP 1),(4,R.any)],[(0,B.blk 48 [dL 1 eI q1m,dL 1 eI q3z]),(1,B.blk 48 [dL 1 eI q1n,dL 1 eI q3A])],2,59⟩))):=
 fun q1m q3z q1n q3A i=>by
  revert i;exact qbj qzM qD2 (fun e=>by rcases e with _|_<;>exact⟨_,rfl,fun h=>by cases h⟩) fun x=>by
   have:=qFT;have:=@qo7.eq_1;have:=@q09.eq_1;exact gA
def q0b (a:qI) (b:qI):Int→Option (Int⊕(Unit⊕Unit))|i=>if i<((a.Leaf.length:Nat):Int) then if 0≤i∧i<((a.Leaf.length:Nat):Int) then Option.bind a.Leaf[Int.toNat i]? fun(a2:Int)=>if 0≤i∧i<((b.Leaf.length:Nat):Int) then Option.bind b.Leaf[Int.toNat i]? fun(a3:Int)=>if(a2 != a3)=Bool.true then some (Sum.inr (Sum.inl ())) else some (Sum.inl (w64 (i+1))) else none else none else some (Sum.inr (Sum.inr ()))
theorem q9t:∀(q1m q3z q1n q3A:List Int) (i:Int),XL2 evo 17 0 9 ⟨[(2,rP 0),(3,rP 1),(6,rI i)],[(0,B.blk 48 [dL 1 eI q1m,dL 1 eI q3z]),(1,B.blk 48 [dL 1 eI q1n,dL 1 eI q3A])],2,59⟩=(zB (q0b (qI.mk q1m q3z) (qI.mk q1n q3A)) i).bind (Sum.elim (fun(e:Unit)=>some (Exit.ret,⟨[(4,rB Bool.false)],[],0,59⟩)) (fun(e:Unit)=>some (Exit.exit 2,⟨[(4,R.any)],[],0,59⟩))):=
 fun q1m q3z q1n q3A i=>by
  revert i;exact qbj qyu qDI (fun e=>by rcases e with _|_<;>exact⟨_,rfl,fun h=>by cases h⟩) fun x=>by
   have:=qFT;have:=@qot.eq_1;have:=@q0b.eq_1;exact gA
def q1g (a:qI) (b:qI):Option Bool:=if(((a.Taken.length:Nat):Int) != ((b.Taken.length:Nat):Int))=Bool.true then some Bool.false else if(((a.Leaf.length:Nat):Int) != ((b.Leaf.length:Nat):Int))=Bool.true then some Bool.false else Option.bind (zB (q09 a b) 0) fun(a2:Sum Unit Unit)=>Sum.elim (fun(a3:Unit)=>some Bool.false) (fun(a4:Unit)=>Option.bind (zB (q0b a b) 0) fun(a5:Sum Unit Unit)=>Sum.elim (fun(a6:Unit)=>some Bool.false) (fun(a7:Unit)=>some Bool.true) a5) a2
theorem q6P:∀(q1m q3z q1n q3A:List Int),ev 17 0 [R.agg [dL 1 eI q1m,dL 1 eI q3z],R.agg [dL 1 eI q1n,dL 1 eI q3A]] []=(q1g (qI.mk q1m q3z) (qI.mk q1n q3A)).bind (fun(e:Bool)=>some (rB e,[])):=
 fun q1m q3z q1n q3A=>by
  rw[qW qAi qKm.2.2.2 qHi]
  have:=qFT;have:=@q8Z;have:=@q9t;have:=@q1g.eq_1;exact gA
def zh (p:qe) (l:List qa) (taken:List Int) (leaf:List Int):Option Bool:=Option.bind (zN p (zj 1) l 500) fun(a:Prod qI Int)=>if(((taken.length:Nat):Int)==0)=Bool.true then if(a.2==31)=Bool.true then some (w64 (((a.1.Taken.length:Nat):Int)+((a.1.Leaf.length:Nat):Int))==0) else some Bool.false else if(a.2==0)=Bool.true then Option.bind (q1g a.1 (qI.mk taken leaf)) fun(e0:Bool)=>some e0 else some Bool.false
theorem q0U:∀(qD JL qy zl:Int) (zm:ByteArray) (qp qE qt:Int) (qx:List qc) (qJ:List qb) (qO Qf Qg:Int) (qL:List (q00 qc)) (l:List qa) (taken leaf:List Int),ev 29 0 [R.agg [dI qD,dI JL,dI qy,dI zl,dS zm,dI qp,dI qE,dI qt,dL 2 qd qx,dL 5 qh qJ,dI qO,dI Qf,dI Qg,dL 4 (eA2 qd) qL],rL 8 qf l,rL 1 eI taken,rL 1 eI leaf] []=(zh (qe.mk qD JL qy zl zm (qb.mk qp qE qt qx qJ) qO Qf Qg qL) l taken leaf).bind (fun(e:Bool)=>some (rB e,[])):=
 fun qD JL qy zl zm qp qE qt qx qJ qO Qf Qg qL l taken leaf=>by
  rw[qW qHG qK3.2.2.2 qOg]
  have:=qMH;have:=@q5I;have:=@q4E;have:=@q6P;have:=@zh.eq_1;exact gA
theorem q7r:∀(taken0 taken1 leaf0 leaf1 qD JL qy zl:Int) (zm:ByteArray) (qp qE qt:Int) (qx:List qc) (qJ:List qb) (qO Qf Qg:Int) (qL:List (q00 qc)) (l:List qa),ev 29 0 [R.agg [dI qD,dI JL,dI qy,dI zl,dS zm,dI qp,dI qE,dI qt,dL 2 qd qx,dL 5 qh qJ,dI qO,dI Qf,dI Qg,dL 4 (eA2 qd) qL],rL 8 qf l,R.c (C.d (D.sl 1 2 [D.int .i64 taken0,D.int .i64 taken1])),R.c (C.d (D.sl 1 2 [D.int .i64 leaf0,D.int .i64 leaf1]))] []=(zh (qe.mk qD JL qy zl zm (qb.mk qp qE qt qx qJ) qO Qf Qg qL) l [taken0,taken1] [leaf0,leaf1]).bind (fun(e:Bool)=>some (rB e,[])):=by
 intro taken0 taken1 leaf0 leaf1 qD JL qy zl zm qp qE qt qx qJ qO Qf Qg qL l;have h:=q0U ((qe.mk qD JL qy zl zm (qb.mk qp qE qt qx qJ) qO Qf Qg qL)).School ((qe.mk qD JL qy zl zm (qb.mk qp qE qt qx qJ) qO Qf Qg qL)).Id ((qe.mk qD JL qy zl zm (qb.mk qp qE qt qx qJ) qO Qf Qg qL)).Version ((qe.mk qD JL qy zl zm (qb.mk qp qE qt qx qJ) qO Qf Qg qL)).From ((qe.mk qD JL qy zl zm (qb.mk qp qE qt qx qJ) qO Qf Qg qL)).Name ((qe.mk qD JL qy zl zm (qb.mk qp qE qt qx qJ) qO Qf Qg qL)).Need.Kind ((qe.mk qD JL qy zl zm (qb.mk qp qE qt qx qJ) qO Qf Qg qL)).Need.N ((qe.mk qD JL qy zl zm (qb.mk qp qE qt qx qJ) qO Qf Qg qL)).Need.Min ((qe.mk qD JL qy zl zm (qb.mk qp qE qt qx qJ) qO Qf Qg qL)).Need.Set ((qe.mk qD JL qy zl zm (qb.mk qp qE qt qx qJ) qO Qf Qg qL)).Need.L ((qe.mk qD JL qy zl zm (qb.mk qp qE qt qx qJ) qO Qf Qg qL)).Total ((qe.mk qD JL qy zl zm (qb.mk qp qE qt qx qJ) qO Qf Qg qL)).Own ((qe.mk qD JL qy zl zm (qb.mk qp qE qt qx qJ) qO Qf Qg qL)).Age ((qe.mk qD JL qy zl zm (qb.mk qp qE qt qx qJ) qO Qf Qg qL)).Exclude l [taken0,taken1] [leaf0,leaf1]
 first
  | exact h
  | (simp only[rL,dL,bR,bZ,Nat.reduceAdd] at h;exact h)
theorem q7f:∀(taken0 leaf0 qD JL qy zl:Int) (zm:ByteArray) (qp qE qt:Int) (qx:List qc) (qJ:List qb) (qO Qf Qg:Int) (qL:List (q00 qc)) (l:List qa),ev 29 0 [R.agg [dI qD,dI JL,dI qy,dI zl,dS zm,dI qp,dI qE,dI qt,dL 2 qd qx,dL 5 qh qJ,dI qO,dI Qf,dI Qg,dL 4 (eA2 qd) qL],rL 8 qf l,R.c (C.d (D.sl 1 1 [D.int .i64 taken0])),R.c (C.d (D.sl 1 1 [D.int .i64 leaf0]))] []=(zh (qe.mk qD JL qy zl zm (qb.mk qp qE qt qx qJ) qO Qf Qg qL) l [taken0] [leaf0]).bind (fun(e:Bool)=>some (rB e,[])):=by
 intro taken0 leaf0 qD JL qy zl zm qp qE qt qx qJ qO Qf Qg qL l;have h:=q0U ((qe.mk qD JL qy zl zm (qb.mk qp qE qt qx qJ) qO Qf Qg qL)).School ((qe.mk qD JL qy zl zm (qb.mk qp qE qt qx qJ) qO Qf Qg qL)).Id ((qe.mk qD JL qy zl zm (qb.mk qp qE qt qx qJ) qO Qf Qg qL)).Version ((qe.mk qD JL qy zl zm (qb.mk qp qE qt qx qJ) qO Qf Qg qL)).From ((qe.mk qD JL qy zl zm (qb.mk qp qE qt qx qJ) qO Qf Qg qL)).Name ((qe.mk qD JL qy zl zm (qb.mk qp qE qt qx qJ) qO Qf Qg qL)).Need.Kind ((qe.mk qD JL qy zl zm (qb.mk qp qE qt qx qJ) qO Qf Qg qL)).Need.N ((qe.mk qD JL qy zl zm (qb.mk qp qE qt qx qJ) qO Qf Qg qL)).Need.Min ((qe.mk qD JL qy zl zm (qb.mk qp qE qt qx qJ) qO Qf Qg qL)).Need.Set ((qe.mk qD JL qy zl zm (qb.mk qp qE qt qx qJ) qO Qf Qg qL)).Need.L ((qe.mk qD JL qy zl zm (qb.mk qp qE qt qx qJ) qO Qf Qg qL)).Total ((qe.mk qD JL qy zl zm (qb.mk qp qE qt qx qJ) qO Qf Qg qL)).Own ((qe.mk qD JL qy zl zm (qb.mk qp qE qt qx qJ) qO Qf Qg qL)).Age ((qe.mk qD JL qy zl zm (qb.mk qp qE qt qx qJ) qO Qf Qg qL)).Exclude l [taken0] [leaf0]
 first
  | exact h
  | (simp only[rL,dL,bR,bZ,Nat.reduceAdd] at h;exact h)
theorem q7s:∀  (qD JL qy zl:Int) (zm:ByteArray) (qp qE qt:Int) (qx:List qc) (qJ:List qb) (qO Qf Qg:Int) (qL:List (q00 qc)) (l:List qa),ev 29 0 [R.agg [dI qD,dI JL,dI qy,dI zl,dS zm,dI qp,dI qE,dI qt,dL 2 qd qx,dL 5 qh qJ,dI qO,dI Qf,dI Qg,dL 4 (eA2 qd) qL],rL 8 qf l,R.c (C.d (D.sl 1 0 [])),R.c (C.d (D.sl 1 0 []))] []=(zh (qe.mk qD JL qy zl zm (qb.mk qp qE qt qx qJ) qO Qf Qg qL) l [] []).bind (fun(e:Bool)=>some (rB e,[])):=by
 intro qD JL qy zl zm qp qE qt qx qJ qO Qf Qg qL l;have h:=q0U ((qe.mk qD JL qy zl zm (qb.mk qp qE qt qx qJ) qO Qf Qg qL)).School ((qe.mk qD JL qy zl zm (qb.mk qp qE qt qx qJ) qO Qf Qg qL)).Id ((qe.mk qD JL qy zl zm (qb.mk qp qE qt qx qJ) qO Qf Qg qL)).Version ((qe.mk qD JL qy zl zm (qb.mk qp qE qt qx qJ) qO Qf Qg qL)).From ((qe.mk qD JL qy zl zm (qb.mk qp qE qt qx qJ) qO Qf Qg qL)).Name ((qe.mk qD JL qy zl zm (qb.mk qp qE qt qx qJ) qO Qf Qg qL)).Need.Kind ((qe.mk qD JL qy zl zm (qb.mk qp qE qt qx qJ) qO Qf Qg qL)).Need.N ((qe.mk qD JL qy zl zm (qb.mk qp qE qt qx qJ) qO Qf Qg qL)).Need.Min ((qe.mk qD JL qy zl zm (qb.mk qp qE qt qx qJ) qO Qf Qg qL)).Need.Set ((qe.mk qD JL qy zl zm (qb.mk qp qE qt qx qJ) qO Qf Qg qL)).Need.L ((qe.mk qD JL qy zl zm (qb.mk qp qE qt qx qJ) qO Qf Qg qL)).Total ((qe.mk qD JL qy zl zm (qb.mk qp qE qt qx qJ) qO Qf Qg qL)).Own ((qe.mk qD JL qy zl zm (qb.mk qp qE qt qx qJ) qO Qf Qg qL)).Age ((qe.mk qD JL qy zl zm (qb.mk qp qE qt qx qJ) qO Qf Qg qL)).Exclude l [] []
 first
  | exact h
  | (simp only[rL,dL,bR,bZ,Nat.reduceAdd] at h;exact h)
theorem q72:∀(qD JL qy zl:Int) (zm:ByteArray) (qp qE qt:Int) (qx:List qc) (qJ:List qb) (qO Qf Qg zp:Int) (zI:ByteArray) (zq:Int) (zJ:ByteArray) (taken0 leaf0:Int) (l:List qa),ev 29 0 [R.agg [dI qD,dI JL,dI qy,dI zl,dS zm,dI qp,dI qE,dI qt,dL 2 qd qx,dL 5 qh qJ,dI qO,dI Qf,dI Qg,C.d (D.sl 4 1 [D.int .i64 zp,D.str zI,D.int .i64 zq,D.str zJ])],rL 8 qf l,R.c (C.d (D.sl 1 1 [D.int .i64 taken0])),R.c (C.d (D.sl 1 1 [D.int .i64 leaf0]))] []=(zh (qe.mk qD JL qy zl zm (qb.mk qp qE qt qx qJ) qO Qf Qg [(q00.mk (qc.mk zp zI) (qc.mk zq zJ))]) l [taken0] [leaf0]).bind (fun(e:Bool)=>some (rB e,[])):=by
 intro qD JL qy zl zm qp qE qt qx qJ qO Qf Qg zp zI zq zJ taken0 leaf0 l;have h:=q0U ((qe.mk qD JL qy zl zm (qb.mk qp qE qt qx qJ) qO Qf Qg [(q00.mk (qc.mk zp zI) (qc.mk zq zJ))])).School ((qe.mk qD JL qy zl zm (qb.mk qp qE qt qx qJ) qO Qf Qg [(q00.mk (qc.mk zp zI) (qc.mk zq zJ))])).Id ((qe.mk qD JL qy zl zm (qb.mk qp qE qt qx qJ) qO Qf Qg [(q00.mk (qc.mk zp zI) (qc.mk zq zJ))])).Version ((qe.mk qD JL qy zl zm (qb.mk qp qE qt qx qJ) qO Qf Qg [(q00.mk (qc.mk zp zI) (qc.mk zq zJ))])).From ((qe.mk qD JL qy zl zm (qb.mk qp qE qt qx qJ) qO Qf Qg [(q00.mk (qc.mk zp zI) (qc.mk zq zJ))])).Name ((qe.mk qD JL qy zl zm (qb.mk qp qE qt qx qJ) qO Qf Qg [(q00.mk (qc.mk zp zI) (qc.mk zq zJ))])).Need.Kind ((qe.mk qD JL qy zl zm (qb.mk qp qE qt qx qJ) qO Qf Qg [(q00.mk (qc.mk zp zI) (qc.mk zq zJ))])).Need.N ((qe.mk qD JL qy zl zm (qb.mk qp qE qt qx qJ) qO Qf Qg [(q00.mk (qc.mk zp zI) (qc.mk zq zJ))])).Need.Min ((qe.mk qD JL qy zl zm (qb.mk qp qE qt qx qJ) qO Qf Qg [(q00.mk (qc.mk zp zI) (qc.mk zq zJ))])).Need.Set ((qe.mk qD JL qy zl zm (qb.mk qp qE qt qx qJ) qO Qf Qg [(q00.mk (qc.mk zp zI) (qc.mk zq zJ))])).Need.L ((qe.mk qD JL qy zl zm (qb.mk qp qE qt qx qJ) qO Qf Qg [(q00.mk (qc.mk zp zI) (qc.mk zq zJ))])).Total ((qe.mk qD JL qy zl zm (qb.mk qp qE qt qx qJ) qO Qf Qg [(q00.mk (qc.mk zp zI) (qc.mk zq zJ))])).Own ((qe.mk qD JL qy zl zm (qb.mk qp qE qt qx qJ) qO Qf Qg [(q00.mk (qc.mk zp zI) (qc.mk zq zJ))])).Age ((qe.mk qD JL qy zl zm (qb.mk qp qE qt qx qJ) qO Qf Qg [(q00.mk (qc.mk zp zI) (qc.mk zq zJ))])).Exclude l [taken0] [leaf0]
 first
  | exact h
  | (simp only[rL,dL,bR,bZ,Nat.reduceAdd] at h;exact h)
theorem qIL:okL 21 qjB:=qZ (qk qEC) (by kernel_rfl) (by kernel_rfl)
def qIW:=JA_ @qjB.eq_1 (JA_ @Tryz.f21.eq_1 @qEC)
theorem qCu:lbO 21 8=qlV:=QG (qk qEC) rfl
theorem qBl:okL 21 qlV:=zV qIL (qOT (i:=0) (by kernel_rfl))
def zQ (b0:qe) (b1:qg) (b2:qI) (t2:List qa) (t3:Int) (t35:List Int) (t36:Int):(List qa×Int)→Option ((List qa×Int)⊕((List qa)⊕(List qa)))|(w3,t37)=>if t37<t36 then if 0≤t37∧t37<((t35.length:Nat):Int) then Option.bind t35[Int.toNat t37]? fun(a:Int)=>if a<0 then some (Sum.inr (Sum.inl w3)) else if((t2.length:Nat):Int)≤a then some (Sum.inr (Sum.inl w3)) else if 0<t37 then if 0≤w64 (t37-1)∧w64 (t37-1)<((b2.Taken.length:Nat):Int) then Option.bind b2.Taken[Int.toNat (w64 (t37-1))]? fun(a2:Int)=>if a≤a2 then some (Sum.inr (Sum.inl w3)) else if 0≤a∧a<((t2.length:Nat):Int) then Option.bind t2[Int.toNat a]? fun(a3:qa)=>if w3.length+1≤maxLen∧(w3.length+1)*104≤140737488355328 then some (Sum.inl (w3++[a3],w64 (t37+1))) else none else none else none else if 0≤a∧a<((t2.length:Nat):Int) then Option.bind t2[Int.toNat a]? fun(a4:qa)=>if w3.length+1≤maxLen∧(w3.length+1)*104≤140737488355328 then some (Sum.inl (w3++[a4],w64 (t37+1))) else none else none else none else some (Sum.inr (Sum.inr w3))
theorem q7U:∀(w3:List qa) (qq zL qn qB:Int) (qC:ByteArray) (qj qr ql:Int) (qm:List qc) (qu:List qb) (qw qT qU:Int) (qo:List (q00 qc)) (qY zy zz:Int) (q1y q2V:List Int) (t2:List qa) (t3:Int) (t35:List Int) (t36 t37:Int) (q2w:Nat),q2w=w3.length→XL2 evo 21 0 8 ⟨[(2,rL 8 qf t2),(3,rI t3),(5,rP 0),(6,rP 1),(9,rP 2),(12,rO 3 8 q2w),(35,rL 1 eI t35),(36,rI t36),(37,rI t37)],[(0,B.blk 39 [dI qq,dI zL,dI qn,dI qB,dS qC,dI qj,dI qr,dI ql,dL 2 qd qm,dL 5 qh qu,dI qw,dI qT,dI qU,dL 4 (eA2 qd) qo]),(1,B.blk 28 [dI qY,dI zy,dI zz]),(2,B.blk 48 [dL 1 eI q1y,dL 1 eI q2V]),(3,bR 57 8 qf w3)],4,87⟩=(zB (zQ (qe.mk qq zL qn qB qC (qb.mk qj qr ql qm qu) qw qT qU qo) (qg.mk qY zy zz) (qI.mk q1y q2V) t2 t3 t35 t36) (w3,t37)).bind (Sum.elim (fun(e:List qa)=>some (Exit.ret,⟨[(3,rI t3),(5,rP 0),(6,rP 1),(9,rP 2),(10,rI 32),(12,rO 3 8 e.length)],[(0,B.blk 39 [dI qq,dI zL,dI qn,dI qB,dS qC,dI qj,dI qr,dI ql,dL 2 qd qm,dL 5 qh qu,dI qw,dI qT,dI qU,dL 4 (eA2 qd) qo]),(1,B.blk 28 [dI qY,dI zy,dI zz]),(2,B.blk 48 [dL 1 eI q1y,dL 1 eI q2V]),(3,bR 57 8 qf e)],4,87⟩)) (fun(e:List qa)=>some (Exit.exit 0,⟨[(3,rI t3),(5,rP 0),(6,rP 1),(9,rP 2),(10,R.any),(12,rO 3 8 e.length)],[(0,B.blk 39 [dI qq,dI zL,dI qn,dI qB,dS qC,dI qj,dI qr,dI ql,dL 2 qd qm,dL 5 qh qu,dI qw,dI qT,dI qU,dL 4 (eA2 qd) qo]),(1,B.blk 28 [dI qY,dI zy,dI zz]),(2,B.blk 48 [dL 1 eI q1y,dL 1 eI q2V]),(3,bR 57 8 qf e)],4,87⟩))):=
 by
 intro w3 qq zL qn qB qC qj qr ql qm qu qw qT qU qo qY zy zz q1y q2V t2 t3 t35 t36 t37 q2w h0
 subst h0
 revert t37;revert w3;exact q9j qCu qBl (fun e=>by rcases e with _|_<;>exact⟨_,rfl,fun h=>by cases h⟩) fun w3 t37=>by
  have:=qIW;have:=@qlV.eq_1;have:=@zQ.eq_1;exact gA
theorem q5H:∀  (qq zL qn qB:Int) (qC:ByteArray) (qj qr ql:Int) (qm:List qc) (qu:List qb) (qw qT qU:Int) (qo:List (q00 qc)) (qY zy zz:Int) (q1y q2V:List Int) (t2:List qa) (t3:Int) (t35:List Int) (t36 t37:Int),XL2 evo 21 0 8 ⟨[(2,rL 8 qf t2),(3,rI t3),(5,rP 0),(6,rP 1),(9,rP 2),(12,rO 3 8 0),(35,rL 1 eI t35),(36,rI t36),(37,rI t37)],[(0,B.blk 39 [dI qq,dI zL,dI qn,dI qB,dS qC,dI qj,dI qr,dI ql,dL 2 qd qm,dL 5 qh qu,dI qw,dI qT,dI qU,dL 4 (eA2 qd) qo]),(1,B.blk 28 [dI qY,dI zy,dI zz]),(2,B.blk 48 [dL 1 eI q1y,dL 1 eI q2V]),(3,B.row 57 8 [])],4,87⟩=(zB (zQ (qe.mk qq zL qn qB qC (qb.mk qj qr ql qm qu) qw qT qU qo) (qg.mk qY zy zz) (qI.mk q1y q2V) t2 t3 t35 t36) ([],t37)).bind (Sum.elim (fun(e:List qa)=>some (Exit.ret,⟨[(3,rI t3),(5,rP 0),(6,rP 1),(9,rP 2),(10,rI 32),(12,rO 3 8 e.length)],[(0,B.blk 39 [dI qq,dI zL,dI qn,dI qB,dS qC,dI qj,dI qr,dI ql,dL 2 qd qm,dL 5 qh qu,dI qw,dI qT,dI qU,dL 4 (eA2 qd) qo]),(1,B.blk 28 [dI qY,dI zy,dI zz]),(2,B.blk 48 [dL 1 eI q1y,dL 1 eI q2V]),(3,bR 57 8 qf e)],4,87⟩)) (fun(e:List qa)=>some (Exit.exit 0,⟨[(3,rI t3),(5,rP 0),(6,rP 1),(9,rP 2),(10,R.any),(12,rO 3 8 e.length)],[(0,B.blk 39 [dI qq,dI zL,dI qn,dI qB,dS qC,dI qj,dI qr,dI ql,dL 2 qd qm,dL 5 qh qu,dI qw,dI qT,dI qU,dL 4 (eA2 qd) qo]),(1,B.blk 28 [dI qY,dI zy,dI zz]),(2,B.blk 48 [dL 1 eI q1y,dL 1 eI q2V]),(3,bR 57 8 qf e)],4,87⟩))):=by
 intro qq zL qn qB qC qj qr ql qm qu qw qT qU qo qY zy zz q1y q2V t2 t3 t35 t36 t37;have h:=q7U [] ((qe.mk qq zL qn qB qC (qb.mk qj qr ql qm qu) qw qT qU qo)).School ((qe.mk qq zL qn qB qC (qb.mk qj qr ql qm qu) qw qT qU qo)).Id ((qe.mk qq zL qn qB qC (qb.mk qj qr ql qm qu) qw qT qU qo)).Version ((qe.mk qq zL qn qB qC (qb.mk qj qr ql qm qu) qw qT qU qo)).From ((qe.mk qq zL qn qB qC (qb.mk qj qr ql qm qu) qw qT qU qo)).Name ((qe.mk qq zL qn qB qC (qb.mk qj qr ql qm qu) qw qT qU qo)).Need.Kind ((qe.mk qq zL qn qB qC (qb.mk qj qr ql qm qu) qw qT qU qo)).Need.N ((qe.mk qq zL qn qB qC (qb.mk qj qr ql qm qu) qw qT qU qo)).Need.Min ((qe.mk qq zL qn qB qC (qb.mk qj qr ql qm qu) qw qT qU qo)).Need.Set ((qe.mk qq zL qn qB qC (qb.mk qj qr ql qm qu) qw qT qU qo)).Need.L ((qe.mk qq zL qn qB qC (qb.mk qj qr ql qm qu) qw qT qU qo)).Total ((qe.mk qq zL qn qB qC (qb.mk qj qr ql qm qu) qw qT qU qo)).Own ((qe.mk qq zL qn qB qC (qb.mk qj qr ql qm qu) qw qT qU qo)).Age ((qe.mk qq zL qn qB qC (qb.mk qj qr ql qm qu) qw qT qU qo)).Exclude ((qg.mk qY zy zz)).Worst ((qg.mk qY zy zz)).Best ((qg.mk qY zy zz)).Pass ((qI.mk q1y q2V)).Taken ((qI.mk q1y q2V)).Leaf t2 t3 t35 t36 t37 _ rfl
 first
  | exact h
  | (simp only[rL,dL,bR,bZ,Nat.reduceAdd] at h;exact h)
theorem qN9:okL 48 qn0:=qZ (qk qHg) (by kernel_rfl) (by kernel_rfl)
def qL2:=JA_ @qn0.eq_1 (JA_ @Tryz.f48.eq_1 @qHg)
theorem qME:okL 84 qpI:=qZ (qk qIn) (by kernel_rfl) (by kernel_rfl)
def qLY:=JA_ @qpI.eq_1 (JA_ @Tryz.f84.eq_1 @qIn)
def q3N (k:Int) (v:Int):Option Bool:=if k<(-1) then some Bool.true else some (decide (v≤k))
def q0f (k:Int) (v:Int):Bool:=if k<(-1) then Bool.true else decide (v≤k)
theorem qaV (k v:Int):q3N k v=some (q0f k v):=by
 unfold q3N q0f
 simp only[Zn]
theorem qbB:∀(k v:Int),ev 84 1 [rI k,rP 0] [(0,B.blk 3 [dI v])]=some (rB (q0f k v),[(0,B.blk 3 [dI v])]):=
 fun k v=>by
  have h:ev 84 1 [rI k,rP 0] [(0,B.blk 3 [dI v])]=(q3N k v).bind (fun(e:Bool)=>some (rB e,[(0,B.blk 3 [dI v])])):=by
   rw[qW qIn qIV.2.2.2 qME]
   have:=qLY;have:=@q3N.eq_1;exact gA
  rw[qaV] at h
  exact h
def Qb (b0:Int) (s:List Int) (t7:Int):Int→Option (Int⊕(Int⊕Unit))|t8=>if t8<t7 then if 0≤t8∧t8<((s.length:Nat):Int) then Option.bind s[Int.toNat t8]? fun(a:Int)=>if q0f a b0=Bool.true then some (Sum.inr (Sum.inl t8)) else some (Sum.inl (w64 (t8+1))) else none else some (Sum.inr (Sum.inr ()))
theorem q2i:∀(b0:Int) (s:List Int) (t7 t8:Int),XL2 evo 131 1 2 ⟨[(0,rL 1 eI s),(1,R.c (C.fn 84 [] [dP 0])),(7,rI t7),(8,rI t8)],[(0,B.blk 3 [dI b0])],1,19⟩=(zB (Qb b0 s t7) t8).bind (Sum.elim (fun(e:Int)=>some (Exit.ret,⟨[(4,rI e)],[(0,B.blk 3 [dI b0])],1,19⟩)) (fun(e:Unit)=>some (Exit.exit 0,⟨[(4,R.any)],[(0,B.blk 3 [dI b0])],1,19⟩))):=
 fun b0 s t7 t8=>by
  revert t8;exact qbj qhe qh3 (fun e=>by rcases e with _|_<;>exact⟨_,rfl,fun h=>by cases h⟩) fun x=>by
   have:=qlf;have:=@qcR.eq_1;have:=@qbB;have:=@Qb.eq_1;exact gA
def Zy (s:List Int) (b0:Int):Option Int:=Option.bind (zB (Qb b0 s ((s.length:Nat):Int)) 0) fun(a:Sum Int Unit)=>Sum.elim (fun(a2:Int)=>some a2) (fun(a3:Unit)=>some (-1)) a
theorem q2U:∀(s:List Int) (b0:Int),ev 131 1 [rL 1 eI s,R.c (C.fn 84 [] [dP 0])] [(0,B.blk 3 [dI b0])]=(Zy s b0).bind (fun(e:Int)=>some (rI e,[(0,B.blk 3 [dI b0])])):=
 fun s b0=>by
  rw[qW qlH qrG.2.2.2 qql]
  have:=qlf;have:=@q2i;have:=@Zy.eq_1;exact gA
def Qz (s:List Int) (b0:Int):Option Bool:=Option.bind (Zy s b0) fun(a:Int)=>some (decide (0≤a))
theorem q2h:∀(s:List Int) (b0:Int),ev 83 1 [rL 1 eI s,R.c (C.fn 84 [] [dP 0])] [(0,B.blk 3 [dI b0])]=(Qz s b0).bind (fun(e:Bool)=>some (rB e,[(0,B.blk 3 [dI b0])])):=
 fun s b0=>by
  rw[qW qCU qEL.2.2.2 qGZ]
  have:=qH3;have:=@q2U;have:=@Qz.eq_1;exact gA
theorem qJG:okL 85 qk3:=qZ (qk qEm) (by kernel_rfl) (by kernel_rfl)
def qK8:=JA_ @qk3.eq_1 (JA_ @Tryz.f85.eq_1 @qEm)
theorem qAy:lbO 85 8=qmy:=QG (qk qEm) rfl
theorem qzj:okL 85 qmy:=zV qJG (qOT (i:=0) (by kernel_rfl))
theorem qMR:okL 88 qlY:=qZ (qk qFf) (by kernel_rfl) (by kernel_rfl)
def qNK:=JA_ @qlY.eq_1 (JA_ @Tryz.f88.eq_1 @qFf)
def q12 (k:Int) (v:List Int) (v2:Int):Option Bool:=if 0≤k∧k<((v.length:Nat):Int) then Option.bind v[Int.toNat k]? fun(a:Int)=>some (a==v2) else none
theorem q9O:∀(k:Int) (v:List Int) (v2:Int),ev 88 2 [rI k,rP 0,rP 1] [(0,B.blk 22 [dL 1 eI v]),(1,B.blk 3 [dI v2])]=(q12 k v v2).bind (fun(e:Bool)=>some (rB e,[(0,B.blk 22 [dL 1 eI v]),(1,B.blk 3 [dI v2])])):=
 fun k v v2=>by
  rw[qW qFf qKu.2.2.2 qMR]
  have:=qNK;have:=@q12.eq_1;exact gA
def Jn (b0:List Int) (b1:Int) (n:qb) (s:qg) (b4:qP) (t13:List qa) (t14:Int):(qP×Int)→Option ((qP×Int)⊕qP)|(out,t15)=>if t15<t14 then if 0≤t15∧t15<((t13.length:Nat):Int) then Option.bind t13[Int.toNat t15]? fun(a:qa)=>Option.bind (q12 t15 b0 b1) fun(a2:Bool)=>if a2=Bool.true then if out.fine=Bool.true then Option.bind (q40 n s a) fun(a3:Bool)=>some (Sum.inl (qP.mk (w64 (out.many+1)) (w64 (out.credits+a.Credits)) a3,w64 (t15+1))) else some (Sum.inl (qP.mk (w64 (out.many+1)) (w64 (out.credits+a.Credits)) Bool.false,w64 (t15+1))) else some (Sum.inl (out,w64 (t15+1))) else none else some (Sum.inr out)
theorem q8M:∀(b0:List Int) (b1 qz n_N qQ:Int) (qR:List qc) (n_L:List qb) (zr Q2 Q3 b4_many b4_credits:Int) (b4_fine:Bool) (out_many out_credits:Int) (out_fine:Bool) (t13:List qa) (t14 t15:Int),XL2 evo 87 2 3 ⟨[(3,R.c (C.fn 88 [] [dP 0,dP 1])),(4,rP 2),(5,rP 3),(8,rP 4),(9,rP 5),(13,rL 8 qf t13),(14,rI t14),(15,rI t15)],[(0,B.blk 22 [dL 1 eI b0]),(1,B.blk 3 [dI b1]),(2,B.blk 36 [dI qz,dI n_N,dI qQ,dL 2 qd qR,dL 5 qh n_L]),(3,B.blk 28 [dI zr,dI Q2,dI Q3]),(4,B.blk 138 [dI b4_many,dI b4_credits,dB b4_fine]),(5,B.blk 138 [dI out_many,dI out_credits,dB out_fine])],6,44⟩=(zB (Jn b0 b1 (qb.mk qz n_N qQ qR n_L) (qg.mk zr Q2 Q3) (qP.mk b4_many b4_credits b4_fine) t13 t14) ((qP.mk out_many out_credits out_fine),t15)).bind (fun(e:qP)=>some (Exit.exit 0,⟨[(8,rP 2),(9,rP 3)],[(0,B.blk 22 [dL 1 eI b0]),(1,B.blk 3 [dI b1]),(2,B.blk 138 [dI b4_many,dI b4_credits,dB b4_fine]),(3,B.blk 138 [dI e.many,dI e.credits,dB e.fine])],4,44⟩)):=
 fun b0 b1 qz n_N qQ qR n_L zr Q2 Q3 b4_many b4_credits b4_fine out_many out_credits out_fine t13 t14 t15=>by
  have h:=q4O (E:=evo) (f:=87) (k:=2) (st:=fun x:qP×Int=>(⟨[(3,R.c (C.fn 88 [] [dP 0,dP 1])),(4,rP 2),(5,rP 3),(8,rP 4),(9,rP 5),(13,rL 8 qf t13),(14,rI t14),(15,rI x.2)],[(0,B.blk 22 [dL 1 eI b0]),(1,B.blk 3 [dI b1]),(2,B.blk 36 [dI qz,dI n_N,dI qQ,dL 2 qd qR,dL 5 qh n_L]),(3,B.blk 28 [dI zr,dI Q2,dI Q3]),(4,B.blk 138 [dI b4_many,dI b4_credits,dB b4_fine]),(5,B.blk 138 [dI x.1.many,dI x.1.credits,dB x.1.fine])],6,44⟩:S)) (ex:=fun(e:qP)=>(Exit.exit 0,⟨[(8,rP 2),(9,rP 3)],[(0,B.blk 22 [dL 1 eI b0]),(1,B.blk 3 [dI b1]),(2,B.blk 138 [dI b4_many,dI b4_credits,dB b4_fine]),(3,B.blk 138 [dI e.many,dI e.credits,dB e.fine])],4,44⟩)) (step:=(Jn b0 b1 (qb.mk qz n_N qQ qR n_L) (qg.mk zr Q2 Q3) (qP.mk b4_many b4_credits b4_fine) t13 t14)) qtF qte (fun e h=>by cases h) (fun x=>by
   obtain⟨out,t15⟩:=x;have:=qEY;have:=@qjl.eq_1;have:=@q9O;have:=@qa0;have:=@Jn.eq_1;exact gA) ((qP.mk out_many out_credits out_fine),t15)
  exact h
def q2k (n:qb) (s:qg) (l:List qa) (b0:List Int) (b1:Int):Option qP:=Option.bind (zB (Jn b0 b1 n s (qP.mk 0 0 Bool.false) l ((l.length:Nat):Int)) (qP.mk 0 0 Bool.true,0)) fun(a:qP)=>some a
theorem qbl:∀(qz n_N qQ:Int) (qR:List qc) (n_L:List qb) (zr Q2 Q3:Int) (l:List qa) (b0:List Int) (b1:Int),ev 87 2 [R.agg [dI qz,dI n_N,dI qQ,dL 2 qd qR,dL 5 qh n_L],R.agg [dI zr,dI Q2,dI Q3],rL 8 qf l,R.c (C.fn 88 [] [dP 0,dP 1])] [(0,B.blk 22 [dL 1 eI b0]),(1,B.blk 3 [dI b1])]=(q2k (qb.mk qz n_N qQ qR n_L) (qg.mk zr Q2 Q3) l b0 b1).bind (fun(e:qP)=>some (R.agg [dI e.many,dI e.credits,dB e.fine],[(0,B.blk 22 [dL 1 eI b0]),(1,B.blk 3 [dI b1])])):=
 fun qz n_N qQ qR n_L zr Q2 Q3 l b0 b1=>by
  rw[qW qBu qIk.2.2.2 qHL]
  have:=qEY;have:=@q8M;have:=@q2k.eq_1;exact gA
def J1 (x:(qb×qg×List qa×List Int×Int)):List R×List (Nat×B):=([R.agg [C.d (D.int .i64 x.1.Kind),C.d (D.int .i64 x.1.N),C.d (D.int .i64 x.1.Min),C.d (D.sl 2 x.1.Set.length (x.1.Set.flatMap qd)),C.d (D.sl 5 x.1.L.length (x.1.L.flatMap qh))],R.c (C.ptr 0 0),R.c (C.ptr 1 0),R.c (C.ptr 2 0),R.c (C.ptr 3 0),R.c (C.ptr 4 0)],[(0,B.blk 28 [C.d (D.int .i64 x.2.1.Worst),C.d (D.int .i64 x.2.1.Best),C.d (D.int .i64 x.2.1.Pass)]),(1,B.blk 26 [C.d (D.sl 8 x.2.2.1.length (x.2.2.1.flatMap qf))]),(2,B.blk 22 [C.d (D.sl 1 x.2.2.2.1.length (x.2.2.2.1.flatMap eI))]),(3,B.blk 3 [C.d (D.int .i64 x.2.2.2.2)]),(4,B.blk 135 [C.fn 85 [] [C.ptr 0 0,C.ptr 1 0,C.ptr 2 0,C.ptr 3 0,C.ptr 4 0]])])
def Jj:(Bool×Bool×qg×List qa×List Int×Int)→R×List (Nat×B):=fun(e:Bool×Bool×qg×List qa×List Int×Int)=>(R.tup [R.c (C.d (D.bool e.1)),R.c (C.d (D.bool e.2.1))],[(0,B.blk 28 [C.d (D.int .i64 e.2.2.1.Worst),C.d (D.int .i64 e.2.2.1.Best),C.d (D.int .i64 e.2.2.1.Pass)]),(1,B.blk 26 [C.d (D.sl 8 e.2.2.2.1.length (e.2.2.2.1.flatMap qf))]),(2,B.blk 22 [C.d (D.sl 1 e.2.2.2.2.1.length (e.2.2.2.2.1.flatMap eI))]),(3,B.blk 3 [C.d (D.int .i64 e.2.2.2.2.2)]),(4,B.blk 135 [C.fn 85 [] [C.ptr 0 0,C.ptr 1 0,C.ptr 2 0,C.ptr 3 0,C.ptr 4 0]])])
def Jr (rF:(qb×qg×List qa×List Int×Int)→Option (Bool×Bool×qg×List qa×List Int×Int)) (b5:qb) (t35:List qb) (t36:Int):(qg×List qa×List Int×Int×Bool×Int×Bool×Int)→Option ((qg×List qa×List Int×Int×Bool×Int×Bool×Int)⊕(qg×List qa×List Int×Int×Bool×Int×Bool))|(b0,b1,b2,b3,t7,t10,t11,t37)=>if t37<t36 then if 0≤t37∧t37<((t35.length:Nat):Int) then Option.bind t35[Int.toNat t37]? fun(a2:qb)=>Option.bind (rF (a2,(b0,(b1,(b2,b3))))) fun(a3:Prod Bool (Prod Bool (Prod qg (Prod (List qa) (Prod (List Int) Int)))))=>if t7=Bool.true then if t11=Bool.true then if a3.2.1=Bool.true then some (Sum.inl (a3.2.2.1,a3.2.2.2.1,a3.2.2.2.2.1,a3.2.2.2.2.2,a3.1,w64 (t10+1),Bool.true,w64 (t37+1))) else some (Sum.inl (a3.2.2.1,a3.2.2.2.1,a3.2.2.2.2.1,a3.2.2.2.2.2,a3.1,t10,Bool.true,w64 (t37+1))) else if(!a3.2.1)=Bool.true then if(!a3.1)=Bool.true then if a3.2.1=Bool.true then some (Sum.inl (a3.2.2.1,a3.2.2.2.1,a3.2.2.2.2.1,a3.2.2.2.2.2,a3.1,w64 (t10+1),Bool.true,w64 (t37+1))) else some (Sum.inl (a3.2.2.1,a3.2.2.2.1,a3.2.2.2.2.1,a3.2.2.2.2.2,a3.1,t10,Bool.true,w64 (t37+1))) else if a3.2.1=Bool.true then some (Sum.inl (a3.2.2.1,a3.2.2.2.1,a3.2.2.2.2.1,a3.2.2.2.2.2,a3.1,w64 (t10+1),b5.Kind==3,w64 (t37+1))) else some (Sum.inl (a3.2.2.1,a3.2.2.2.1,a3.2.2.2.2.1,a3.2.2.2.2.2,a3.1,t10,b5.Kind==3,w64 (t37+1))) else if a3.2.1=Bool.true then some (Sum.inl (a3.2.2.1,a3.2.2.2.1,a3.2.2.2.2.1,a3.2.2.2.2.2,a3.1,w64 (t10+1),Bool.false,w64 (t37+1))) else some (Sum.inl (a3.2.2.1,a3.2.2.2.1,a3.2.2.2.2.1,a3.2.2.2.2.2,a3.1,t10,Bool.false,w64 (t37+1))) else if t11=Bool.true then if a3.2.1=Bool.true then some (Sum.inl (a3.2.2.1,a3.2.2.2.1,a3.2.2.2.2.1,a3.2.2.2.2.2,Bool.false,w64 (t10+1),Bool.true,w64 (t37+1))) else some (Sum.inl (a3.2.2.1,a3.2.2.2.1,a3.2.2.2.2.1,a3.2.2.2.2.2,Bool.false,t10,Bool.true,w64 (t37+1))) else if(!a3.2.1)=Bool.true then if(!a3.1)=Bool.true then if a3.2.1=Bool.true then some (Sum.inl (a3.2.2.1,a3.2.2.2.1,a3.2.2.2.2.1,a3.2.2.2.2.2,Bool.false,w64 (t10+1),Bool.true,w64 (t37+1))) else some (Sum.inl (a3.2.2.1,a3.2.2.2.1,a3.2.2.2.2.1,a3.2.2.2.2.2,Bool.false,t10,Bool.true,w64 (t37+1))) else if a3.2.1=Bool.true then some (Sum.inl (a3.2.2.1,a3.2.2.2.1,a3.2.2.2.2.1,a3.2.2.2.2.2,Bool.false,w64 (t10+1),b5.Kind==3,w64 (t37+1))) else some (Sum.inl (a3.2.2.1,a3.2.2.2.1,a3.2.2.2.2.1,a3.2.2.2.2.2,Bool.false,t10,b5.Kind==3,w64 (t37+1))) else if a3.2.1=Bool.true then some (Sum.inl (a3.2.2.1,a3.2.2.2.1,a3.2.2.2.2.1,a3.2.2.2.2.2,Bool.false,w64 (t10+1),Bool.false,w64 (t37+1))) else some (Sum.inl (a3.2.2.1,a3.2.2.2.1,a3.2.2.2.2.1,a3.2.2.2.2.2,Bool.false,t10,Bool.false,w64 (t37+1))) else none else some (Sum.inr (b0,b1,b2,b3,t7,t10,t11))
theorem q8F (rE:Orc) (rF:(qb×qg×List qa×List Int×Int)→Option (Bool×Bool×qg×List qa×List Int×Int)) (hF:∀y,rE (.fn 85) 5 (J1 y).1 (J1 y).2=(rF y).bind fun e=>some (Jj e)) (hM:∀g k a G,g≠85→rE (.fn g) k a G=ev g k a G) (hR:∀g asg bd k a G,rE (.rd g asg bd) k a G=evr g asg bd k a G):∀(qc8 qfI qfJ:Int) (b1:List qa) (b2:List Int) (b3 q8U qyj qdp:Int) (qdq:List qc) (qyk:List qb) (t7:Bool) (t10:Int) (t11:Bool) (t35:List qb) (t36 t37:Int),XL2 rE 85 5 8 ⟨[(5,rP 4),(6,rP 5),(7,rB t7),(10,rI t10),(11,rB t11),(35,rL 5 qh t35),(36,rI t36),(37,rI t37)],[(0,B.blk 28 [dI qc8,dI qfI,dI qfJ]),(1,B.blk 26 [dL 8 qf b1]),(2,B.blk 22 [dL 1 eI b2]),(3,B.blk 3 [dI b3]),(4,B.blk 135 [C.fn 85 [] [dP 0,dP 1,dP 2,dP 3,dP 4]]),(5,B.blk 36 [dI q8U,dI qyj,dI qdp,dL 2 qd qdq,dL 5 qh qyk])],6,78⟩=(zB (Jr rF (qb.mk q8U qyj qdp qdq qyk) t35 t36) ((qg.mk qc8 qfI qfJ),b1,b2,b3,t7,t10,t11,t37)).bind (fun(e:qg×List qa×List Int×Int×Bool×Int×Bool)=>some (Exit.exit 0,⟨[(6,rP 5),(7,rB e.2.2.2.2.1),(10,rI e.2.2.2.2.2.1),(11,rB e.2.2.2.2.2.2)],[(0,B.blk 28 [dI e.1.Worst,dI e.1.Best,dI e.1.Pass]),(1,B.blk 26 [dL 8 qf e.2.1]),(2,B.blk 22 [dL 1 eI e.2.2.1]),(3,B.blk 3 [dI e.2.2.2.1]),(4,B.blk 135 [C.fn 85 [] [dP 0,dP 1,dP 2,dP 3,dP 4]]),(5,B.blk 36 [dI q8U,dI qyj,dI qdp,dL 2 qd qdq,dL 5 qh qyk])],6,78⟩)):=
 fun qc8 qfI qfJ b1 b2 b3 q8U qyj qdp qdq qyk t7 t10 t11 t35 t36 t37=>by
  have h:=q4O (E:=rE) (f:=85) (k:=5) (st:=fun x:qg×List qa×List Int×Int×Bool×Int×Bool×Int=>(⟨[(5,rP 4),(6,rP 5),(7,rB x.2.2.2.2.1),(10,rI x.2.2.2.2.2.1),(11,rB x.2.2.2.2.2.2.1),(35,rL 5 qh t35),(36,rI t36),(37,rI x.2.2.2.2.2.2.2)],[(0,B.blk 28 [dI x.1.Worst,dI x.1.Best,dI x.1.Pass]),(1,B.blk 26 [dL 8 qf x.2.1]),(2,B.blk 22 [dL 1 eI x.2.2.1]),(3,B.blk 3 [dI x.2.2.2.1]),(4,B.blk 135 [C.fn 85 [] [dP 0,dP 1,dP 2,dP 3,dP 4]]),(5,B.blk 36 [dI q8U,dI qyj,dI qdp,dL 2 qd qdq,dL 5 qh qyk])],6,78⟩:S)) (ex:=fun(e:qg×List qa×List Int×Int×Bool×Int×Bool)=>(Exit.exit 0,⟨[(6,rP 5),(7,rB e.2.2.2.2.1),(10,rI e.2.2.2.2.2.1),(11,rB e.2.2.2.2.2.2)],[(0,B.blk 28 [dI e.1.Worst,dI e.1.Best,dI e.1.Pass]),(1,B.blk 26 [dL 8 qf e.2.1]),(2,B.blk 22 [dL 1 eI e.2.2.1]),(3,B.blk 3 [dI e.2.2.2.1]),(4,B.blk 135 [C.fn 85 [] [dP 0,dP 1,dP 2,dP 3,dP 4]]),(5,B.blk 36 [dI q8U,dI qyj,dI qdp,dL 2 qd qdq,dL 5 qh qyk])],6,78⟩)) (step:=(Jr rF (qb.mk q8U qyj qdp qdq qyk) t35 t36)) qAy qzj (fun e h=>by cases h) (fun x=>by
   obtain⟨b0,b1,b2,b3,t7,t10,t11,t37⟩:=x;have hF':∀(qH Jc zb:Int) (zc:List qc) (Jd:List qb) (q2y q4M q4N:Int) (v2:List qa) (v3:List Int) (v4:Int),rE (.fn 85) 5 [R.agg [dI qH,dI Jc,dI zb,dL 2 qd zc,dL 5 qh Jd],rP 0,rP 1,rP 2,rP 3,rP 4] [(0,B.blk 28 [dI q2y,dI q4M,dI q4N]),(1,B.blk 26 [dL 8 qf v2]),(2,B.blk 22 [dL 1 eI v3]),(3,B.blk 3 [dI v4]),(4,B.blk 135 [C.fn 85 [] [dP 0,dP 1,dP 2,dP 3,dP 4]])]=(rF ((qb.mk qH Jc zb zc Jd),(qg.mk q2y q4M q4N),v2,v3,v4)).bind (fun e=>some (R.tup [rB e.1,rB e.2.1],[(0,B.blk 28 [dI e.2.2.1.Worst,dI e.2.2.1.Best,dI e.2.2.1.Pass]),(1,B.blk 26 [dL 8 qf e.2.2.2.1]),(2,B.blk 22 [dL 1 eI e.2.2.2.2.1]),(3,B.blk 3 [dI e.2.2.2.2.2]),(4,B.blk 135 [C.fn 85 [] [dP 0,dP 1,dP 2,dP 3,dP 4]])])):=fun qH Jc zb zc Jd q2y q4M q4N v2 v3 v4=>hF ((qb.mk qH Jc zb zc Jd),(qg.mk q2y q4M q4N),v2,v3,v4)
   have:=qK8;have:=@qmy.eq_1;have:=@Jr.eq_1;exact gA) ((qg.mk qc8 qfI qfJ),b1,b2,b3,t7,t10,t11,t37)
  exact h
def q0N (rF:(qb×qg×List qa×List Int×Int)→Option (Bool×Bool×qg×List qa×List Int×Int)):(qb×qg×List qa×List Int×Int)→Option (Bool×Bool×qg×List qa×List Int×Int)|(x0,v,v2,v3,v4)=>if JT x0=Bool.true then Option.bind (q2k x0 v v2 v3 v4) fun(a2:qP)=>Option.bind (q1a x0.Kind) fun(a3:Sum Unit Unit)=>Sum.elim (fun(a4:Unit)=>some (a2.many==0,Q4 a2 x0,v,v2,v3,w64 (v4+1))) (fun(a5:Unit)=>some (a2.many==0,Qx a2 x0,v,v2,v3,w64 (v4+1))) a3 else Option.bind (zB (Jr rF x0 x0.L ((x0.L.length:Nat):Int)) (v,(v2,(v3,(v4,(Bool.true,(0,(Bool.false,0)))))))) fun(a6:Prod qg (Prod (List qa) (Prod (List Int) (Prod Int (Prod Bool (Prod Int Bool))))))=>if(!a6.2.2.2.2.2.2)=Bool.true then some (a6.2.2.2.2.1,decide (x0.N≤a6.2.2.2.2.2.1),a6.1,a6.2.1,a6.2.2.1,a6.2.2.2.1) else some (a6.2.2.2.2.1,Bool.false,a6.1,a6.2.1,a6.2.2.1,a6.2.2.2.1)
theorem q6c:q8h 85 5 J1 Jj q0N:=by
 intro rE rF hF hM hR x
 obtain⟨x0,v,v2,v3,v4⟩:=x
 show qas rE 85 5 [R.agg [dI x0.Kind,dI x0.N,dI x0.Min,dL 2 qd x0.Set,dL 5 qh x0.L],rP 0,rP 1,rP 2,rP 3,rP 4] [(0,B.blk 28 [dI v.Worst,dI v.Best,dI v.Pass]),(1,B.blk 26 [dL 8 qf v2]),(2,B.blk 22 [dL 1 eI v3]),(3,B.blk 3 [dI v4]),(4,B.blk 135 [C.fn 85 [] [dP 0,dP 1,dP 2,dP 3,dP 4]])]=_
 have hF':∀(qH Jc zb:Int) (zc:List qc) (Jd:List qb) (q2y q4M q4N:Int) (v2:List qa) (v3:List Int) (v4:Int),rE (.fn 85) 5 [R.agg [dI qH,dI Jc,dI zb,dL 2 qd zc,dL 5 qh Jd],rP 0,rP 1,rP 2,rP 3,rP 4] [(0,B.blk 28 [dI q2y,dI q4M,dI q4N]),(1,B.blk 26 [dL 8 qf v2]),(2,B.blk 22 [dL 1 eI v3]),(3,B.blk 3 [dI v4]),(4,B.blk 135 [C.fn 85 [] [dP 0,dP 1,dP 2,dP 3,dP 4]])]=(rF ((qb.mk qH Jc zb zc Jd),(qg.mk q2y q4M q4N),v2,v3,v4)).bind (fun e=>some (R.tup [rB e.1,rB e.2.1],[(0,B.blk 28 [dI e.2.2.1.Worst,dI e.2.2.1.Best,dI e.2.2.1.Pass]),(1,B.blk 26 [dL 8 qf e.2.2.2.1]),(2,B.blk 22 [dL 1 eI e.2.2.2.2.1]),(3,B.blk 3 [dI e.2.2.2.2.2]),(4,B.blk 135 [C.fn 85 [] [dP 0,dP 1,dP 2,dP 3,dP 4]])])):=fun qH Jc zb zc Jd q2y q4M q4N v2 v3 v4=>hF ((qb.mk qH Jc zb zc Jd),(qg.mk q2y q4M q4N),v2,v3,v4)
 rw[q4F qEm qJG]
 have:=qK8;have:=@q3T;have:=@qbl;have:=@q4P;have:=@q1G;have:=@q2O;have:=q8F rE rF hF hM hR;have:=@q0N.eq_1;have:=@Jj.eq_1;exact gA
theorem q3H:∀x y,J1 x=J1 y→x=y:=by
 rintro⟨⟨qE6,qE7,qE8,qE9,qEa⟩,⟨qKy,qKz,qOj⟩,a2,a3,a4⟩ ⟨⟨qEb,qEc,qEd,qEe,qEf⟩,⟨qKA,qKB,qOk⟩,b2,b3,b4⟩ h
 simp only[J1,Prod.mk.injEq,List.cons.injEq,R.c.injEq,R.agg.injEq,R.tup.injEq,C.d.injEq,C.own.injEq,C.ptr.injEq,C.eptr.injEq,D.int.injEq,D.bool.injEq,D.str.injEq,D.sl.injEq,B.blk.injEq,B.row.injEq,q0P,q2D,q1E,q1F,q2a,q23,q4g,q4d,q47,q0S,true_and,and_true,qPc] at h
 simp only[h]
theorem q8C:∀x y,Jj x=Jj y→x=y:=by
 rintro⟨a0,a1,⟨qOx,qOy,a2_2⟩,a3,a4,a5⟩ ⟨b0,b1,⟨qOz,qOA,b2_2⟩,b3,b4,b5⟩ h
 simp only[Jj,Prod.mk.injEq,List.cons.injEq,R.c.injEq,R.agg.injEq,R.tup.injEq,C.d.injEq,C.own.injEq,C.ptr.injEq,C.eptr.injEq,D.int.injEq,D.bool.injEq,D.str.injEq,D.sl.injEq,B.blk.injEq,B.row.injEq,q0P,q2D,q1E,q1F,q2a,q23,q4g,q4d,q47,q0S,true_and,and_true,qPc] at h
 simp only[h]
def JV:(qb×qg×List qa×List Int×Int)→Option (Bool×Bool×qg×List qa×List Int×Int):=q8l 85 5 J1 Jj
theorem qbw (x:(qb×qg×List qa×List Int×Int)):JV x=q0N JV x:=qd4 qG5.2.2.2 q3H q8C q6c x
theorem qay (x0:qb) (v:qg) (v2:List qa) (v3:List Int) (v4:Int):ev 85 5 [R.agg [dI x0.Kind,dI x0.N,dI x0.Min,dL 2 qd x0.Set,dL 5 qh x0.L],rP 0,rP 1,rP 2,rP 3,rP 4] [(0,B.blk 28 [dI v.Worst,dI v.Best,dI v.Pass]),(1,B.blk 26 [dL 8 qf v2]),(2,B.blk 22 [dL 1 eI v3]),(3,B.blk 3 [dI v4]),(4,B.blk 135 [C.fn 85 [] [dP 0,dP 1,dP 2,dP 3,dP 4]])]=(JV (x0,v,v2,v3,v4)).bind (fun(e:Bool×Bool×qg×List qa×List Int×Int)=>some (R.tup [rB e.1,rB e.2.1],[(0,B.blk 28 [dI e.2.2.1.Worst,dI e.2.2.1.Best,dI e.2.2.1.Pass]),(1,B.blk 26 [dL 8 qf e.2.2.2.1]),(2,B.blk 22 [dL 1 eI e.2.2.2.2.1]),(3,B.blk 3 [dI e.2.2.2.2.2]),(4,B.blk 135 [C.fn 85 [] [dP 0,dP 1,dP 2,dP 3,dP 4]])])):=(q9g qG5.2.2.2 q3H q6c (x0,v,v2,v3,v4))
theorem qbC:∀(qH Jc zb:Int) (zc:List qc) (Jd:List qb) (q2y q4M q4N:Int) (v2:List qa) (v3:List Int) (v4:Int),ev 85 5 [R.agg [dI qH,dI Jc,dI zb,dL 2 qd zc,dL 5 qh Jd],rP 0,rP 1,rP 2,rP 3,rP 4] [(0,B.blk 28 [dI q2y,dI q4M,dI q4N]),(1,B.blk 26 [dL 8 qf v2]),(2,B.blk 22 [dL 1 eI v3]),(3,B.blk 3 [dI v4]),(4,B.blk 135 [C.fn 85 [] [dP 0,dP 1,dP 2,dP 3,dP 4]])]=(JV ((qb.mk qH Jc zb zc Jd),(qg.mk q2y q4M q4N),v2,v3,v4)).bind (fun(e:Bool×Bool×qg×List qa×List Int×Int)=>some (R.tup [rB e.1,rB e.2.1],[(0,B.blk 28 [dI e.2.2.1.Worst,dI e.2.2.1.Best,dI e.2.2.1.Pass]),(1,B.blk 26 [dL 8 qf e.2.2.2.1]),(2,B.blk 22 [dL 1 eI e.2.2.2.2.1]),(3,B.blk 3 [dI e.2.2.2.2.2]),(4,B.blk 135 [C.fn 85 [] [dP 0,dP 1,dP 2,dP 3,dP 4]])])):=
 fun qH Jc zb zc Jd q2y q4M q4N v2 v3 v4=>qay (qb.mk qH Jc zb zc Jd) (qg.mk q2y q4M q4N) v2 v3 v4
def q2P (n:qb) (s:qg) (l:List qa) (list:List Int):Option Bool:=Option.bind (q1q n) fun(a:List qb)=>Option.bind (JD n) fun(a2:Int)=>if(a2 != 0)=Bool.true then some Bool.false else if(((list.length:Nat):Int) != ((l.length:Nat):Int))=Bool.true then some Bool.false else Option.bind (Qz list ((a.length:Nat):Int)) fun(a3:Bool)=>if a3=Bool.true then some Bool.false else Option.bind (JV (n,(s,(l,(list,0))))) fun(a4:Prod Bool (Prod Bool (Prod qg (Prod (List qa) (Prod (List Int) Int)))))=>some a4.2.1
theorem qdE:∀(qz n_N qQ:Int) (qR:List qc) (n_L:List qb) (zr Q2 Q3:Int) (l:List qa) (list:List Int),ev 48 0 [R.agg [dI qz,dI n_N,dI qQ,dL 2 qd qR,dL 5 qh n_L],R.agg [dI zr,dI Q2,dI Q3],rL 8 qf l,rL 1 eI list] []=(q2P (qb.mk qz n_N qQ qR n_L) (qg.mk zr Q2 Q3) l list).bind (fun(e:Bool)=>some (rB e,[])):=
 fun qz n_N qQ qR n_L zr Q2 Q3 l list=>by
  rw[qW qHg qKn.2.2.2 qN9]
  have:=qL2;have:=@q67;have:=@q4c;have:=@q2h;have:=@qbC;have:=@q2P.eq_1;exact gA
def qX (x0:qe) (x1:qg) (x2:List qa) (x3:Int) (x4:qI):Option Int:=Option.bind (Qs x0 x1) fun(a:Int)=>if(a != 0)=Bool.true then some a else if 10<((x4.Taken.length:Nat):Int) then some 32 else if(((x4.Leaf.length:Nat):Int) != ((x4.Taken.length:Nat):Int))=Bool.true then some 32 else Option.bind (zB (zQ x0 x1 x4 x2 x3 x4.Taken ((x4.Taken.length:Nat):Int)) ([],0)) fun(a2:Sum (List qa) (List qa))=>Sum.elim (fun(a3:List qa)=>some 32) (fun(a4:List qa)=>Option.bind (JF x0 a4 x3) fun(a5:Bool)=>if(!a5)=Bool.true then some 32 else Option.bind (q2P x0.Need x1 a4 x4.Leaf) fun(a6:Bool)=>if(!a6)=Bool.true then some 32 else some 0) a2
theorem qax:∀(z6 J2 qM zT:Int) (zU:ByteArray) (qA z7 qF:Int) (qG:List qc) (z8:List qb) (zw QA QB:Int) (qN:List (q00 qc)) (QT ZK ZL:Int) (x2:List qa) (x3:Int) (qfK qj8:List Int),ev 21 0 [R.agg [dI z6,dI J2,dI qM,dI zT,dS zU,dI qA,dI z7,dI qF,dL 2 qd qG,dL 5 qh z8,dI zw,dI QA,dI QB,dL 4 (eA2 qd) qN],R.agg [dI QT,dI ZK,dI ZL],rL 8 qf x2,rI x3,R.agg [dL 1 eI qfK,dL 1 eI qj8]] []=(qX (qe.mk z6 J2 qM zT zU (qb.mk qA z7 qF qG z8) zw QA QB qN) (qg.mk QT ZK ZL) x2 x3 (qI.mk qfK qj8)).bind (fun(e:Int)=>some (rI e,[])):=
 fun z6 J2 qM zT zU qA z7 qF qG z8 zw QA QB qN QT ZK ZL x2 x3 qfK qj8=>by
  rw[qW qEC qKi.2.2.2 qIL]
  have:=qIW;have:=@q5g;have:=@q5H;have:=@q3F;have:=@qdE;have:=@qX.eq_1;exact gA
theorem q7Y:∀(q7A q7B qa7 qa8 z6 J2 qM zT:Int) (zU:ByteArray) (qA z7 qF:Int) (qG:List qc) (z8:List qb) (zw QA QB:Int) (qN:List (q00 qc)) (QT ZK ZL:Int) (x2:List qa) (x3:Int),ev 21 0 [R.agg [dI z6,dI J2,dI qM,dI zT,dS zU,dI qA,dI z7,dI qF,dL 2 qd qG,dL 5 qh z8,dI zw,dI QA,dI QB,dL 4 (eA2 qd) qN],R.agg [dI QT,dI ZK,dI ZL],rL 8 qf x2,rI x3,R.agg [C.d (D.sl 1 2 [D.int .i64 q7A,D.int .i64 q7B]),C.d (D.sl 1 2 [D.int .i64 qa7,D.int .i64 qa8])]] []=(qX (qe.mk z6 J2 qM zT zU (qb.mk qA z7 qF qG z8) zw QA QB qN) (qg.mk QT ZK ZL) x2 x3 (qI.mk [q7A,q7B] [qa7,qa8])).bind (fun(e:Int)=>some (rI e,[])):=by
 intro q7A q7B qa7 qa8 z6 J2 qM zT zU qA z7 qF qG z8 zw QA QB qN QT ZK ZL x2 x3;have h:=qax ((qe.mk z6 J2 qM zT zU (qb.mk qA z7 qF qG z8) zw QA QB qN)).School ((qe.mk z6 J2 qM zT zU (qb.mk qA z7 qF qG z8) zw QA QB qN)).Id ((qe.mk z6 J2 qM zT zU (qb.mk qA z7 qF qG z8) zw QA QB qN)).Version ((qe.mk z6 J2 qM zT zU (qb.mk qA z7 qF qG z8) zw QA QB qN)).From ((qe.mk z6 J2 qM zT zU (qb.mk qA z7 qF qG z8) zw QA QB qN)).Name ((qe.mk z6 J2 qM zT zU (qb.mk qA z7 qF qG z8) zw QA QB qN)).Need.Kind ((qe.mk z6 J2 qM zT zU (qb.mk qA z7 qF qG z8) zw QA QB qN)).Need.N ((qe.mk z6 J2 qM zT zU (qb.mk qA z7 qF qG z8) zw QA QB qN)).Need.Min ((qe.mk z6 J2 qM zT zU (qb.mk qA z7 qF qG z8) zw QA QB qN)).Need.Set ((qe.mk z6 J2 qM zT zU (qb.mk qA z7 qF qG z8) zw QA QB qN)).Need.L ((qe.mk z6 J2 qM zT zU (qb.mk qA z7 qF qG z8) zw QA QB qN)).Total ((qe.mk z6 J2 qM zT zU (qb.mk qA z7 qF qG z8) zw QA QB qN)).Own ((qe.mk z6 J2 qM zT zU (qb.mk qA z7 qF qG z8) zw QA QB qN)).Age ((qe.mk z6 J2 qM zT zU (qb.mk qA z7 qF qG z8) zw QA QB qN)).Exclude ((qg.mk QT ZK ZL)).Worst ((qg.mk QT ZK ZL)).Best ((qg.mk QT ZK ZL)).Pass x2 x3 ((qI.mk [q7A,q7B] [qa7,qa8])).Taken ((qI.mk [q7A,q7B] [qa7,qa8])).Leaf
 first
  | exact h
  | (simp only[rL,dL,bR,bZ,Nat.reduceAdd] at h;exact h)
theorem qNi:okL 23 qp9:=qZ (qk qIA) (by kernel_rfl) (by kernel_rfl)
def qNl:=JA_ @qp9.eq_1 (JA_ @Tryz.f23.eq_1 @qIA)
theorem qN1:okL 50 qnd:=qZ (qk qGJ) (by kernel_rfl) (by kernel_rfl)
def qLP:=JA_ @qnd.eq_1 (JA_ @Tryz.f50.eq_1 @qGJ)
def JU (a:List Int) (b:List Int):Option Bool:=Option.bind (Zf a b) fun(e0:Bool)=>some e0
theorem q7k:∀(a b:List Int),ev 50 0 [rL 1 eI a,rL 1 eI b] []=(JU a b).bind (fun(e:Bool)=>some (rB e,[])):=
 fun a b=>by
  rw[qW qGJ qJC.2.2.2 qN1]
  have:=qLP;have:=@q1P;have:=@JU.eq_1;exact gA
def q1w (a:qI) (b:qI):Option Bool:=Option.bind (JU a.Taken b.Taken) fun(a2:Bool)=>if a2=Bool.true then Option.bind (JU a.Leaf b.Leaf) fun(e0:Bool)=>some e0 else some Bool.false
theorem qbE:∀(q1m q3z q1n q3A:List Int),ev 23 0 [R.agg [dL 1 eI q1m,dL 1 eI q3z],R.agg [dL 1 eI q1n,dL 1 eI q3A]] []=(q1w (qI.mk q1m q3z) (qI.mk q1n q3A)).bind (fun(e:Bool)=>some (rB e,[])):=
 fun q1m q3z q1n q3A=>by
  rw[qW qIA qIZ.2.2.2 qNi]
  have:=qNl;have:=@q7k;have:=@q1w.eq_1;exact gA
theorem q8r:∀(qa9 qdr qaa qds:Int) , ev 23 0 [R.agg [C.d (D.sl 1 1 [D.int .i64 qa9]),C.d (D.sl 1 1 [D.int .i64 qdr])],R.agg [C.d (D.sl 1 1 [D.int .i64 qaa]),C.d (D.sl 1 1 [D.int .i64 qds])]] []=(q1w (qI.mk [qa9] [qdr]) (qI.mk [qaa] [qds])).bind (fun(e:Bool)=>some (rB e,[])):=by
 intro qa9 qdr qaa qds;have h:=qbE ((qI.mk [qa9] [qdr])).Taken ((qI.mk [qa9] [qdr])).Leaf ((qI.mk [qaa] [qds])).Taken ((qI.mk [qaa] [qds])).Leaf
 first
  | exact h
  | (simp only[rL,dL,bR,bZ,Nat.reduceAdd] at h;exact h)
def q1N:Option Bool:=Option.bind (ZB 11) fun(a:Prod qe (List qa))=>Option.bind (ZB 10) fun(a2:Prod qe (List qa))=>Option.bind (ZB 5) fun(a3:Prod qe (List qa))=>Option.bind (ZB 0) fun(a4:Prod qe (List qa))=>Option.bind (ZB 12) fun(a5:Prod qe (List qa))=>Option.bind (zh a.1 a.2 [(1:Int),2] [(-1),0]) fun(a6:Bool)=>if a6=Bool.true then Option.bind (zh a2.1 a.2 [(0:Int),1] [(-1),0]) fun(a7:Bool)=>if a7=Bool.true then Option.bind (zh a3.1 a.2 [(1:Int)] [(0:Int)]) fun(a8:Bool)=>if a8=Bool.true then Option.bind (zh a4.1 a.2 [(1:Int)] [(0:Int)]) fun(a9:Bool)=>if a9=Bool.true then Option.bind (zh a5.1 a.2 [] []) fun(a10:Bool)=>if a10=Bool.true then Option.bind (zh (qe.mk a.1.School a.1.Id a.1.Version a.1.From a.1.Name a.1.Need a.1.Total a.1.Own 3 a.1.Exclude) a.2 [] []) fun(a11:Bool)=>if a11=Bool.true then Option.bind (zh (qe.mk a.1.School a.1.Id a.1.Version a.1.From a.1.Name a.1.Need 6 a.1.Own a.1.Age [q00.mk (qc.mk 1 (ByteArray.mk (List.toArray [65,49]))) (qc.mk 1 (ByteArray.mk (List.toArray [66,49])))]) a.2 [(2:Int)] [(0:Int)]) fun(a12:Bool)=>Option.bind (qX a.1 (zj 1) a.2 500 (qI.mk [(1:Int),2] [(0:Int),(-1)])) fun(a13:Int)=>if(a13==0)=Bool.true then Option.bind (qX a.1 (zj 1) a.2 500 (qI.mk [(1:Int),2] [(0:Int),0])) fun(a14:Int)=>if(a14==32)=Bool.true then Option.bind (qX a.1 (zj 1) a.2 500 (qI.mk [(0:Int),2] [(-1),0])) fun(a15:Int)=>if a12=Bool.true then if(a15==32)=Bool.true then if 0<((a.2.length:Nat):Int) then Option.bind a.2[0]? fun(a16:qa)=>Option.bind (ZS (qe.mk a.1.School a.1.Id a.1.Version a.1.From a.1.Name a.1.Need a.1.Total a.1.Own 3 a.1.Exclude) a16 500) fun(a17:Bool)=>if a17=Bool.true then if 0<((a.2.length:Nat):Int) then Option.bind a.2[0]? fun(a18:qa)=>Option.bind (ZS a.1 a18 500) fun(a19:Bool)=>if(!a19)=Bool.true then Option.bind (q1w (qI.mk [(1:Int)] [(0:Int)]) (qI.mk [(1:Int)] [(0:Int)])) fun(e0:Bool)=>some e0 else some Bool.false else none else some Bool.false else none else some Bool.false else some Bool.false else some Bool.false else some Bool.false else Option.bind (qX a.1 (zj 1) a.2 500 (qI.mk [(1:Int),2] [(0:Int),(-1)])) fun(a20:Int)=>if(a20==0)=Bool.true then Option.bind (qX a.1 (zj 1) a.2 500 (qI.mk [(1:Int),2] [(0:Int),0])) fun(a21:Int)=>if(a21==32)=Bool.true then Option.bind (qX a.1 (zj 1) a.2 500 (qI.mk [(0:Int),2] [(-1),0])) fun(a22:Int)=>some Bool.false else some Bool.false else some Bool.false else Option.bind (qX a.1 (zj 1) a.2 500 (qI.mk [(1:Int),2] [(0:Int),(-1)])) fun(a23:Int)=>if(a23==0)=Bool.true then Option.bind (qX a.1 (zj 1) a.2 500 (qI.mk [(1:Int),2] [(0:Int),0])) fun(a24:Int)=>if(a24==32)=Bool.true then Option.bind (qX a.1 (zj 1) a.2 500 (qI.mk [(0:Int),2] [(-1),0])) fun(a25:Int)=>some Bool.false else some Bool.false else some Bool.false else Option.bind (qX a.1 (zj 1) a.2 500 (qI.mk [(1:Int),2] [(0:Int),(-1)])) fun(a26:Int)=>if(a26==0)=Bool.true then Option.bind (qX a.1 (zj 1) a.2 500 (qI.mk [(1:Int),2] [(0:Int),0])) fun(a27:Int)=>if(a27==32)=Bool.true then Option.bind (qX a.1 (zj 1) a.2 500 (qI.mk [(0:Int),2] [(-1),0])) fun(a28:Int)=>some Bool.false else some Bool.false else some Bool.false else Option.bind (qX a.1 (zj 1) a.2 500 (qI.mk [(1:Int),2] [(0:Int),(-1)])) fun(a29:Int)=>if(a29==0)=Bool.true then Option.bind (qX a.1 (zj 1) a.2 500 (qI.mk [(1:Int),2] [(0:Int),0])) fun(a30:Int)=>if(a30==32)=Bool.true then Option.bind (qX a.1 (zj 1) a.2 500 (qI.mk [(0:Int),2] [(-1),0])) fun(a31:Int)=>some Bool.false else some Bool.false else some Bool.false else Option.bind (qX a.1 (zj 1) a.2 500 (qI.mk [(1:Int),2] [(0:Int),(-1)])) fun(a32:Int)=>if(a32==0)=Bool.true then Option.bind (qX a.1 (zj 1) a.2 500 (qI.mk [(1:Int),2] [(0:Int),0])) fun(a33:Int)=>if(a33==32)=Bool.true then Option.bind (qX a.1 (zj 1) a.2 500 (qI.mk [(0:Int),2] [(-1),0])) fun(a34:Int)=>some Bool.false else some Bool.false else some Bool.false else Option.bind (qX a.1 (zj 1) a.2 500 (qI.mk [(1:Int),2] [(0:Int),(-1)])) fun(a35:Int)=>if(a35==0)=Bool.true then Option.bind (qX a.1 (zj 1) a.2 500 (qI.mk [(1:Int),2] [(0:Int),0])) fun(a36:Int)=>if(a36==32)=Bool.true then Option.bind (qX a.1 (zj 1) a.2 500 (qI.mk [(0:Int),2] [(-1),0])) fun(a37:Int)=>some Bool.false else some Bool.false else some Bool.false
theorem qaB:ev 10 0 [] []=(q1N).bind (fun(e:Bool)=>some (rB e,[])):=
 by
  rw[qW qGS qJZ.2.2.2 qMC]
  have:=qMb;have:=@q9M;have:=@q2T;have:=@q7r;have:=@q7f;have:=@q5I;have:=@q7s;have:=@q7Y;have:=@q72;have:=@q4i;have:=@q8r;have:=@q1N.eq_1;exact gA
end

noncomputable section
open Go.RowKit
section
variable {τ ε:Type} {step:τ→Option (τ⊕ε)}
theorem Q1 {x y:τ} (h:step x=some (.inl y)):zB step x=zB step y:=by
 rw[qeB,h];rfl
theorem zA {x:τ} {e:ε} (h:step x=some (.inr e)):zB step x=some e:=by
 rw[qeB,h];rfl
theorem q2o {e:ε} (st:Nat→τ) (i0 n:Nat) (h0:i0≤n) (h:∀i,i0≤i→i<n→step (st i)=some (.inl (st (i+1)))) (hn:step (st n)=some (.inr e)):zB step (st i0)=some e:=by
 have key:∀j i,j+i=n→i0≤i→zB step (st i)=some e:=by
  intro j
  induction j with
  | zero=>intro i hi _;rw[qPg] at hi;subst hi;exact zA hn
  | succ j ih=>intro i hi h1;rw[Q1 (h i h1 (by omega))];exact ih (i+1) (by omega) (by omega)
 exact key (n-i0) i0 (by omega) (qP8 _)
def qfs {α β ε:Type} (g:β→α→β⊕ε) (fin:β→ε):List α→β→ε
 | [],b=>fin b
 | a::l,b=>match g b a with
  | .inl b'=>qfs g fin l b'
  | .inr e=>e
theorem qe0 {α β:Type} (l:List α) (st:β→Nat→τ) (g:β→α→β⊕ε) (fin:β→ε)
  (h:∀b i a,l[i]?=some a→step (st b i)=some (match g b a with | .inl b' => .inl (st b' (i+1)) | .inr e => .inr e)) (hn:∀b,step (st b l.length)=some (.inr (fin b))) (b:β):zB step (st b 0)=some (qfs g fin l b):=by
 have key:∀(r:List α) (i:Nat) (b:β),r.length+i=l.length→(∀j,r[j]?=l[i+j]?)→zB step (st b i)=some (qfs g fin r b):=by
  intro r
  induction r with
  | nil=>
   intro i b hi _
   have hi:i=l.length:=by simpa using hi
   subst hi;exact zA (hn b)
  | cons a r ih=>
   intro i b hi hr
   have ha:l[i]?=some a:=by have:=hr 0;simpa using this.symm
   have h1:=h b i a ha
   unfold qfs
   cases hg:g b a with
   | inl b'=>
    rw[hg] at h1
    rw[Q1 h1]
    refine ih (i+1) b' (by simp at hi;omega) fun j=>?_
    have:=hr (j+1)
    rw[show i+1+j=i+(j+1) by omega,←this];rfl
   | inr e=>
    rw[hg] at h1
    exact zA h1
 exact key l 0 b (by simp) (by simp)
theorem qlK {α β:Type} (l:List α) (st:β→Nat→τ) (g:β→α→β) (fin:β→ε)
  (h:∀b i a,l[i]?=some a→step (st b i)=some (.inl (st (g b a) (i+1)))) (hn:∀b,step (st b l.length)=some (.inr (fin b))) (b:β):zB step (st b 0)=some (fin (l.foldl g b)):=by
 rw[qe0 l st (fun b a => .inl (g b a)) fin h hn b]
 congr 1
 induction l generalizing b with
 | nil=>rfl
 | cons a l ih=>
  unfold qfs
  simp only[qPW]
  clear h hn
  have:∀(l:List α) (b:β),qfs (ε:=ε) (fun b a => .inl (g b a)) fin l b=fin (l.foldl g b):=by
   intro l
   induction l with
   | nil=>intro b;rfl
   | cons a l ih=>intro b;unfold qfs;simp only[qPW];exact ih _
  exact this l _
theorem qgO {α:Type} (l:List α) (st:Nat→τ) (p:α→Option ε) (d:ε)
  (h:∀i a,l[i]?=some a→step (st i)=some (match p a with|some e => .inr e|none => .inl (st (i+1)))) (hn:step (st l.length)=some (.inr d)):zB step (st 0)=some ((l.findSome? p).getD d):=by
 have h1:=qe0 (ε:=ε) (β:=Unit) l (fun _ i=>st i) (fun _ a=>match p a with|some e => .inr e|none => .inl ()) (fun _=>d) (fun b i a ha=>by
  rw[h i a ha];cases p a<;>rfl) (fun _=>hn) ()
 rw[h1]
 congr 1
 have:∀l:List α,qfs (ε:=ε) (fun(_:Unit) a=>match p a with|some e => .inr e|none => .inl ()) (fun _=>d) l ()=(l.findSome? p).getD d:=by
  intro l
  induction l with
  | nil=>rfl
  | cons a l ih=>
   unfold qfs
   rw[List.findSome?_cons]
   cases p a with
   | none=>simpa using ih
   | some e=>rfl
 exact this l
def q4x {α β ε:Type} (g:Nat→β→α→β⊕ε) (fin:β→ε):List α→Nat→β→ε
 | [],_,b=>fin b
 | a::l,i,b=>match g i b a with
  | .inl b'=>q4x g fin l (i+1) b'
  | .inr e=>e
theorem q2d {α β:Type} (l:List α) (st:β→Nat→τ) (g:Nat→β→α→β⊕ε) (fin:β→ε)
  (h:∀b i a,l[i]?=some a→step (st b i)=some (match g i b a with | .inl b' => .inl (st b' (i+1)) | .inr e => .inr e)) (hn:∀b,step (st b l.length)=some (.inr (fin b))) (b:β):zB step (st b 0)=some (q4x g fin l 0 b):=by
 have key:∀(r:List α) (i:Nat) (b:β),r.length+i=l.length→(∀j,r[j]?=l[i+j]?)→zB step (st b i)=some (q4x g fin r i b):=by
  intro r
  induction r with
  | nil=>
   intro i b hi _
   have hi:i=l.length:=by simpa using hi
   subst hi;exact zA (hn b)
  | cons a r ih=>
   intro i b hi hr
   have ha:l[i]?=some a:=by have:=hr 0;simpa using this.symm
   have h1:=h b i a ha
   unfold q4x
   cases hg:g i b a with
   | inl b'=>
    rw[hg] at h1
    rw[Q1 h1]
    refine ih (i+1) b' (by simp at hi;omega) fun j=>?_
    have:=hr (j+1)
    rw[show i+1+j=i+(j+1) by omega,←this];rfl
   | inr e=>
    rw[hg] at h1
    exact zA h1
 exact key l 0 b (by simp) (by simp)
end
theorem Jf {α:Type} {l:List α} {i:Nat} {a:α} (h:l[i]?=some a):i<l.length:=(qOW.1 h).1
theorem Z5 {n:Int} (h0 : -9223372036854775808≤n) (h1:n≤9223372036854775807):w64 n=n:=wi n h0 h1
theorem Qi {i n:Nat} (h:i<n) (hn:n≤9223372036854775807):w64 ((i:Int)+1)=((i+1:Nat):Int):=by
 rw[Z5 (by omega) (by omega)];omega
end
noncomputable section
open Go.RowKit
theorem qkJ (a:Nat) (h:a<9223372036854775808):IntKind.i64.wrap (a:Int)=a:=wi _ (by omega) (by omega)
theorem qgK (a:Nat):BitVec.ofInt IntKind.i64.bits (a:Int)=BitVec.ofNat 64 a:=by
 show BitVec.ofInt 64 (a:Int)=_
 simp
theorem qfA (a b:Nat) (ha:a<9223372036854775808) (hb:b<9223372036854775808):ZW .and .i64 (a:Int) (b:Int)=((a &&& b:Nat):Int):=by
 unfold ZW
 simp only[qgK]
 have h1:(BitVec.ofNat 64 a &&& BitVec.ofNat 64 b).toNat=a &&& b:=by
  rw[BitVec.toNat_and,BitVec.toNat_ofNat,BitVec.toNat_ofNat,Nat.mod_eq_of_lt (by omega),Nat.mod_eq_of_lt (by omega)]
 have h2:a &&& b≤a:=Nat.and_le_left
 show IntKind.i64.wrap (((BitVec.ofNat 64 a &&& BitVec.ofNat 64 b).toNat:Nat):Int)=_
 rw[h1]
 exact qkJ _ (by omega)
theorem qej (a b:Nat) (ha:a<9223372036854775808) (hb:b<9223372036854775808):ZW .andNot .i64 (a:Int) (b:Int)=((a ^^^ (a &&& b):Nat):Int):=by
 unfold ZW
 simp only[qgK]
 have h1:(BitVec.ofNat 64 a &&& ~~~BitVec.ofNat 64 b).toNat=a ^^^ (a &&& b):=by
  apply Nat.eq_of_testBit_eq
  intro i
  rw[BitVec.testBit_toNat,BitVec.getLsbD_and,BitVec.getLsbD_not,BitVec.getLsbD_ofNat,BitVec.getLsbD_ofNat,Nat.testBit_xor,Nat.testBit_and]
  by_cases hi:i<64
  ·simp only[hi,decide_true,qPp]
   cases a.testBit i<;>cases b.testBit i<;>rfl
  ·have:a.testBit i=false:=Nat.testBit_lt_two_pow (qPs ha (by
    have:=Nat.pow_le_pow_right (n:=2) (by decide) (show 63≤i by omega)
    exact this))
   simp[hi,this]
 have h2:a ^^^ (a &&& b)<2 ^ 63:=Nat.xor_lt_two_pow (by omega) (qPu Nat.and_le_left (by omega))
 show IntKind.i64.wrap (((BitVec.ofNat 64 a &&& ~~~BitVec.ofNat 64 b).toNat:Nat):Int)=_
 rw[h1]
 exact qkJ _ (by omega)
theorem q8V (a k:Nat) (hk:k≤64):((a:Int)).fdiv (2 ^ min k IntKind.i64.bits)=((a / 2 ^ k:Nat):Int):=by
 have:min k IntKind.i64.bits=k:=Nat.min_eq_left hk
 rw[this]
 show((a:Int)).fdiv (2 ^ k)=_
 rw[show((2:Int) ^ k)=((2 ^ k:Nat):Int) by simp]
 rw[Int.fdiv_eq_ediv_of_nonneg _ (Int.natCast_nonneg _)]
 simp
theorem qh5 (a k:Nat) (ha:a<9223372036854775808) (hk:k≤64):(ZW .and .i64 ((a:Int).fdiv (2 ^ min k IntKind.i64.bits)) 1==1)=a.testBit k:=by
 rw[q8V a k hk,show(1:Int)=((1:Nat):Int) from rfl,qfA _ _ (qPu (Nat.div_le_self _ _) ha) (by decide),Nat.and_one_is_mod,Nat.testBit_eq_decide_div_mod_eq]
 have:a / 2 ^ k % 2<2:=Nat.mod_lt _ (by decide)
 by_cases h:a / 2 ^ k % 2=1
 ·simp[h]
 ·have:a / 2 ^ k % 2=0:=by omega
  simp[this]
def Zk {α:Type} (N:Nat) (g:Nat→α):List α:=(List.range N).map g
theorem zK {α:Type} (N:Nat) (g:Nat→α):(Zk N g).length=N:=by simp[Zk]
theorem J3 {α:Type} {N:Nat} (g:Nat→α) {i:Nat} (h:i<N):(Zk N g)[i]?=some (g i):=by
 unfold Zk;rw[qP6,List.getElem?_range h];rfl
theorem q0E {α:Type} {N:Nat} {f g:Nat→α} (h:∀k,k<N→f k=g k):Zk N f=Zk N g:=by
 unfold Zk
 refine List.map_congr_left fun k hk=>h k (qPP.1 hk)
theorem q4C {α:Type} (N:Nat) (c:α):List.replicate N c=Zk N (fun _=>c):=by
 unfold Zk
 induction N with
 | zero=>rfl
 | succ n ih=>rw[List.range_succ,List.map_append,←ih,List.replicate_succ'];rfl
def qba {α:Type} (g:Nat→α) (i:Nat) (v:α):Nat→α:=fun k=>if k=i then v else g k
theorem Jx {α:Type} (N:Nat) (g:Nat→α) (i:Nat) (v:α):(Zk N g).set i v=Zk N (qba g i v):=by
 refine List.ext_getElem? fun k=>?_
 rw[List.getElem?_set,zK]
 by_cases hk:k<N
 ·rw[J3 _ hk,J3 _ hk]
  unfold qba
  by_cases h:i=k
  ·subst h;simp[hk]
  ·rw[if_neg h,if_neg (fun h2=>h h2.symm)]
 ·have e1:(Zk N g)[k]?=none:=qPq (by rw[zK];omega)
  have e2:(Zk N (qba g i v))[k]?=none:=qPq (by rw[zK];omega)
  rw[e1,e2]
  split
  ·rw[if_neg (by omega)]
  ·rfl
theorem qd2 {α:Type} (g:Nat→α) (i:Nat) (v:α):qba g i v i=v:=by simp[qba]
theorem q9m {α:Type} (g:Nat→α) (i:Nat) (v w:α):qba (qba g i v) i w=qba g i w:=by
 funext k;unfold qba;split<;>rfl
theorem ql9 {α:Type} (f:Nat→α) (c:α) {i0 i:Nat} (h:i0≤i):qba (fun k=>if i0≤k∧k<i then f k else c) i (f i)=fun k=>if i0≤k∧k<i+1 then f k else c:=by
 funext k
 unfold qba
 by_cases hk:k=i
 ·subst hk;rw[if_pos rfl,if_pos ⟨h,Nat.lt_succ_self _⟩]
 ·rw[if_neg hk]
  show(if i0≤k∧k<i then f k else c)=_
  by_cases h:i0≤k∧k<i
  ·rw[if_pos h,if_pos ⟨h.1,by omega⟩]
  ·rw[if_neg h,if_neg (by omega)]
end
noncomputable section
open Go.RowKit
def ceq (a b:qc):Bool:=(a.School==b.School)&&(a.Code.toList==b.Code.toList)
def qjc (n a b:Int):Int:=max (min a b) (min n (max a b))
def qd1 (s:qg):Bool:=qjc s.Worst (-1000) 1000==s.Worst&&qjc s.Best (-1000) 1000==s.Best&&s.Worst != s.Best&&qjc s.Pass s.Worst s.Best==s.Pass
def qkl (s:qg) (g:Int):Bool:=qd1 s&&qjc g s.Worst s.Best==g
def qmj (s:qg) (g m:Int):Bool:=qkl s g&&(g==m||(decide (m<g)==decide (s.Worst<s.Best)))
theorem q61 (s:qg):q1u s=some (if qd1 s then 0 else 10):=by
 have h1:=qgO (ε:=Unit⊕Unit) (step:=Jk [s.Worst,s.Best] s 2) [s.Worst,s.Best] (fun i=>(i:Int)) (fun a=>if qjc a (-1000) 1000 != a then some (.inl ()) else none) (.inr ()) (fun i a ha=>by
   have hi:i<2:=by obtain⟨h,_⟩:=qOW.1 ha;simpa using h
   have hw:w64 ((i:Int)+1)=((i+1:Nat):Int):=Qi hi (by omega)
   unfold Jk
   rw[if_pos (by omega),if_pos ⟨by omega,by simpa using by omega⟩,qOV,ha,qOS,hw]
   show(if(qjc a (-1000) 1000 != a)=true then _ else _)=_
   split<;>simp_all) (by
   unfold Jk
   rfl)
 unfold q1u
 rw[show((0:Int))=((0:Nat):Int) from rfl,h1,qOS]
 unfold qd1 QF
 simp only[List.findSome?_cons,List.findSome?_nil]
 show _=some (if(qjc s.Worst (-1000) 1000==s.Worst&&qjc s.Best (-1000) 1000==s.Best&&s.Worst != s.Best&&qjc s.Pass s.Worst s.Best==s.Pass)=true then 0 else 10)
 change (Sum.elim _ (fun _=>if(s.Worst==s.Best)=true then some (10:Int) else if(qjc s.Pass s.Worst s.Best != s.Pass)=true then some 10 else some 0) _)=_
 by_cases e1:qjc s.Worst (-1000) 1000=s.Worst<;>by_cases e2:qjc s.Best (-1000) 1000=s.Best<;>by_cases e3:s.Worst=s.Best<;>by_cases e4:qjc s.Pass s.Worst s.Best=s.Pass<;>simp[e1,e2,e3,e4,bne]
theorem qep (s:qg) (g:Int):q2t s g=some (qkl s g):=by
 unfold q2t qkl
 rw[q61,qOS]
 cases h:qd1 s<;>simp[QF,qjc]
theorem ql8 (s:qg) (g m:Int):q1h s g m=some (qmj s g m):=by
 unfold q1h qmj
 rw[qep,qOS]
 cases h:qkl s g
 ·simp
 ·by_cases h2:g=m<;>simp[h2]
theorem qcY (p:qc→Bool):∀(l:List qc) (i:Nat),(decide (0≤(q4x (ε:=Int⊕Unit) (fun i (_:Unit) a=>if p a=true then .inr (.inl (i:Int)) else .inl ()) (fun _ => .inr ()) l i ()).elim id (fun _ => -1)))=l.any p
 | [],i=>rfl
 | a::l,i=>by
  unfold q4x
  by_cases h:p a=true
  ·simp[h]
  ·have h':p a=false:=by simpa using h
   simp only[h',List.any_cons,Bool.false_or]
   exact qcY p l (i+1)
theorem qrv (l:List qc) (hl:l.length≤9223372036854775807) (v:qc):∃i:Int,Q9 l v=some i∧(decide (0≤i))=l.any (ceq v):=by
 have h1:=q2d (ε:=Int⊕Unit) (step:=zF v l (l.length:Int)) l (fun(b:Unit) i=>(i:Int)) (fun i b a=>if ceq v a=true then .inr (.inl (i:Int)) else .inl ()) (fun _ => .inr ()) (fun b i a ha=>by
   have hi:=Jf ha
   have hw:w64 ((i:Int)+1)=((i+1:Nat):Int):=Qi hi hl
   unfold zF
   rw[if_pos (by omega),if_pos ⟨by omega,by omega⟩,qOV,ha,qOS,hw]
   unfold ceq
   by_cases e1:v.School=a.School<;>by_cases e2:v.Code.toList=a.Code.toList<;>simp[e1,e2]) (fun b=>by
   unfold zF
   rw[if_neg (by omega)]) ()
 refine⟨_,?_,qcY (ceq v) l 0⟩
 unfold Q9
 rw[show((0:Int))=((0:Nat):Int) from rfl,h1,qOS]
 cases(q4x (ε:=Int⊕Unit) (fun i (_:Unit) a=>if ceq v a=true then .inr (.inl (i:Int)) else .inl ()) (fun _ => .inr ()) l 0 ())<;>rfl
theorem qhg (l:List qc) (hl:l.length≤9223372036854775807) (v:qc):zW l v=some (l.any (ceq v)):=by
 obtain⟨i,h1,h2⟩:=qrv l hl v
 unfold zW
 rw[h1,qOS,h2]
def q9l (n:qb):Bool:=n.Kind==1||n.Kind==2
theorem qbM (n:qb):JT n=q9l n:=by
 unfold JT q9l
 cases h:(n.Kind==1)<;>simp
def qkU (n:qb) (s:qg) (a:qa):Bool:=q9l n&&n.Set.any (ceq a.Course)&&qmj s a.Grade n.Min
theorem qpP (n:qb) (hn:n.Set.length≤9223372036854775807) (s:qg) (a:qa):q40 n s a=some (qkU n s a):=by
 unfold q40 qkU
 rw[qbM,qhg n.Set hn,ql8]
 cases q9l n<;>cases n.Set.any (ceq a.Course)<;>simp
def wgF (n:qb) (s:qg) (set:Nat):List qa→Nat→qP→qP
 | [],_,x=>x
 | a::l,k,x=>wgF n s set l (k+1) (if set.testBit k=true then⟨w64 (x.many+1),w64 (x.credits+a.Credits),x.fine&&qkU n s a⟩ else x)
def ld0:qP:=⟨0,0,true⟩
theorem qkI (n:qb) (hn:n.Set.length≤9223372036854775807) (s:qg) (l:List qa) (hl:l.length≤62) (set:Nat) (hs:set<9223372036854775808):q11 n s l (set:Int)=some (wgF n s set l 0 ld0):=by
 have h1:=q2d (ε:=qP) (step:=q01 (set:Int) n s (qP.mk (0:Int) (0:Int) Bool.false) l (l.length:Int)) l (fun(b:qP) i=>(b,(i:Int))) (fun i b a => .inl (if set.testBit i=true then⟨w64 (b.many+1),w64 (b.credits+a.Credits),b.fine&&qkU n s a⟩ else b)) (fun b=>b) (fun b i a ha=>by
   have hi:=Jf ha
   have hw:w64 ((i:Int)+1)=((i+1:Nat):Int):=Qi hi (by omega)
   have hb:q1f (i:Int) (set:Int)=some (set.testBit i):=by
    unfold q1f
    rw[if_pos (by omega),qOV,qh5 set i hs (by omega)]
   unfold q01
   simp only
   rw[if_pos (by omega),if_pos ⟨by omega,by omega⟩,qOV,ha,qOS,hw,hb,qOS]
   cases set.testBit i
   ·simp
   ·cases hf:b.fine
    ·simp
    ·simp[qpP n hn s a]) (fun b=>by
   unfold q01
   simp only
   rw[if_neg (by omega)]) ld0
 unfold q11
 change Option.bind (zB _ (ld0,((0:Nat):Int))) _=_
 rw[h1,qOS]
 congr 1
 have:∀(l:List qa) (i:Nat) (b:qP),q4x (ε:=qP) (fun i (b:qP) (a:qa) => .inl (if set.testBit i=true then⟨w64 (b.many+1),w64 (b.credits+a.Credits),b.fine&&qkU n s a⟩ else b)) (fun b=>b) l i b=wgF n s set l i b:=by
  intro l
  induction l with
  | nil=>intro i b;rfl
  | cons a l ih=>intro i b;unfold q4x wgF;exact ih _ _
 exact this l 0 ld0
def qe8 (n:qb) (x:qP):Bool:=if n.Kind=1 then x.fine&&x.many==1 else x.fine&&decide (0<x.many)&&decide (n.N≤x.credits)
end
noncomputable section
open Go.RowKit
def q1r (set sub:Nat):Nat:=set ^^^ (set &&& sub)
theorem Z9 (set sub i:Nat):(q1r set sub).testBit i=(set.testBit i && !sub.testBit i):=by
 unfold q1r
 rw[Nat.testBit_xor,Nat.testBit_and]
 cases set.testBit i<;>cases sub.testBit i<;>rfl
theorem qjI (set sub:Nat):q1r set sub≤set:=by
 have:q1r set sub &&& set=q1r set sub:=Nat.eq_of_testBit_eq fun i=>by
  rw[Nat.testBit_and,Z9];cases set.testBit i<;>cases sub.testBit i<;>rfl
 rw[←this];exact Nat.and_le_right
def eaV (own:Nat→Bool) (best:Nat→Int) (set sub:Nat) (v:Int):Int:=if own sub=true∧0≤best (q1r set sub) then max v (best (q1r set sub)+1) else v
def eaF (own:Nat→Bool) (best:Nat→Int) (set:Nat):Nat→Nat→Int→Int
 | 0,_,v=>v
 | f+1,sub,v=>if sub=0 then v else eaF own best set f ((sub-1) &&& set) (eaV own best set sub v)
def Bnd (best:Nat→Int) (N:Nat) (M:Int):Prop:=∀k,k<N → -1≤best k∧best k≤M
section
variable {N:Nat} (hN:N≤65536) {own:Nat→Bool} {best:Nat→Int} {M:Int} (hM:M≤1000000) (hb:Bnd best N M)
include hN hM hb
theorem qsk {set sub:Nat} (hs:set<N) (hsub:sub<N) (g:Nat→Int):q13 (sub:Int) ((q1r set sub:Nat):Int) (Zk N best) (Zk N g) (Zk N own) (set:Int)=some (Zk N (qba g set (eaV own best set sub (g set)))):=by
 have hr:=qjI set sub
 have hbr:=hb (q1r set sub) (by omega)
 unfold q13
 rw[zK,if_pos ⟨by omega,by omega⟩,qOV,J3 own hsub,qOS]
 unfold eaV
 cases ho:own sub
 ·simp only[Bool.false_eq_true,if_false,false_and]
  rw[←Jx]
  congr 1
  refine List.ext_getElem? fun k=>?_
  rw[List.getElem?_set]
  split
  ·rename_i h;subst h;rw[zK,if_pos hs,J3 _ hs]
  ·rfl
 ·simp only[if_true,true_and]
  rw[zK,if_pos ⟨by omega,by omega⟩,qOV,J3 best (by omega),qOS]
  by_cases h0:0≤best (q1r set sub)
  ·rw[if_pos h0,if_pos h0,zK,if_pos ⟨by omega,by omega⟩,qOV,J3 g hs,qOS,if_pos ⟨by omega,by omega⟩,qOS,if_pos ⟨by omega,by omega⟩,if_pos (by omega),Z5 (by omega) (by omega),Jx]
  ·rw[if_neg h0,if_neg h0,←Jx]
   congr 1
   refine List.ext_getElem? fun k=>?_
   rw[List.getElem?_set]
   split
   ·rename_i h;subst h;rw[zK,if_pos hs,J3 _ hs]
   ·rfl
theorem qfd {set:Nat} (hs:set<N):∀(f sub:Nat),sub≤f→sub≤set→∀(g:Nat→Int),zB (Qp (Zk N best) (Zk N own) (set:Int) (set:Int)) (Zk N g,(sub:Int))=some (Zk N (qba g set (eaF own best set f sub (g set)))):=by
 have hself:∀g:Nat→Int,qba g set (g set)=g:=fun g=>by funext k;unfold qba;split<;>simp_all
 have h0:∀(g:Nat→Int),zB (Qp (Zk N best) (Zk N own) (set:Int) (set:Int)) (Zk N g,((0:Nat):Int))=some (Zk N g):=fun g=>by
  refine zA ?_
  unfold Qp
  simp
 intro f
 induction f with
 | zero=>
  intro sub hf _ g
  have:sub=0:=by omega
  subst this
  rw[h0]
  unfold eaF
  rw[hself]
 | succ f ih=>
  intro sub hf hle g
  unfold eaF
  by_cases hz:sub=0
  ·subst hz
   rw[h0,if_pos rfl,hself]
  ·have ha:(sub-1) &&& set≤sub-1:=Nat.and_le_left
   have hstep:Qp (Zk N best) (Zk N own) (set:Int) (set:Int) (Zk N g,(sub:Int))=some (.inl (Zk N (qba g set (eaV own best set sub (g set))),((((sub-1) &&& set:Nat)):Int))):=by
    unfold Qp
    simp only
    rw[if_pos (by omega),qej _ _ (by omega) (by omega),Z5 (by omega) (by omega),show((sub:Int)-1)=((sub-1:Nat):Int) by omega,qfA _ _ (by omega) (by omega)]
    have:=qsk hN hM hb (own:=own) hs (sub:=sub) (by omega) g
    unfold q1r at this
    rw[this,qOS]
   rw[Q1 hstep,ih _ (by omega) (by omega),if_neg hz,qd2,q9m]
end
def stF (skip:Bool) (own:Nat→Bool) (best:Nat→Int) (set:Nat):Int:=eaF own best set set set (if skip=true then best set else -1)
theorem qvn {own:Nat→Bool} {best:Nat→Int} {N:Nat} {M:Int} (hb:Bnd best N M) (hM : -1≤M) {set sub:Nat} (hs:set<N) {v:Int} (h : -1≤v∧v≤M+1) : -1≤eaV own best set sub v∧eaV own best set sub v≤M+1:=by
 have:=hb (q1r set sub) (qPu (qjI set sub) hs)
 unfold eaV
 split<;>omega
theorem qoc {own:Nat→Bool} {best:Nat→Int} {N:Nat} {M:Int} (hb:Bnd best N M) (hM : -1≤M) {set:Nat} (hs:set<N):∀(f sub:Nat) (v:Int),-1≤v∧v≤M+1 → -1≤eaF own best set f sub v∧eaF own best set f sub v≤M+1
 | 0,_,_,h=>h
 | f+1,sub,v,h=>by
  unfold eaF
  split
  ·exact h
  ·exact qoc hb hM hs f _ _ (qvn hb hM hs h)
theorem qnz {skip:Bool} {own:Nat→Bool} {best:Nat→Int} {N:Nat} {M:Int} (hb:Bnd best N M) (hM : -1≤M):Bnd (stF skip own best) N (M+1):=fun k hk=>by
 unfold stF
 have:=hb k hk
 refine qoc hb hM hk _ _ _ ?_
 split<;>omega
end
noncomputable section
open Go.RowKit
def b0F (k:Nat):Int:=if k=0 then 0 else -1
def alG (leaf:Int) (set:Nat):List Int→Nat→Bool
 | [],_=>true
 | x::d,k=>(set.testBit k==(x==leaf))&&alG leaf set d (k+1)
def alF (d:List Int) (leaf set:Nat):Bool:=alG (leaf:Int) set d 0
def foF (d:List Int) (a b:Nat):Bool:=d.any fun x=>decide ((a:Int)≤x)&&decide (x<(b:Int))
def q24 (d:List Int) (s:qg) (l:List qa) (n:qb) (nx set:Nat):Bool:=decide (set≠0)&&(alF d nx set&&qe8 n (wgF n s set l 0 ld0))
mutual
def lvN:qb→Nat
 | ⟨k,_,_,_,L⟩=>if k=1∨k=2 then 1 else lvL L
def lvL:List qb→Nat
 | []=>0
 | x::L=>lvN x+lvL L
end
mutual
def ndN:qb→List qb
 | ⟨k,n,m,S,L⟩=>⟨k,n,m,S,L⟩::ndL L
def ndL:List qb→List qb
 | []=>[]
 | x::L=>ndN x++ndL L
end
theorem qcP (n:qb):lvN n=if n.Kind=1∨n.Kind=2 then 1 else lvL n.L:=by cases n;rw[lvN]
theorem q03 (n:qb):ndN n=n::ndL n.L:=by cases n;rw[ndN]
mutual
def QO (d:List Int) (s:qg) (l:List qa):qb→Nat→Nat→Bool
 | ⟨k,n,m,S,L⟩,nx,set=>if k=1∨k=2 then q24 d s l ⟨k,n,m,S,L⟩ nx set else decide (set≠0)&&decide ((if k=3 then(L.length:Int) else n)≤qbg d s l (k==4) L nx b0F set)
def qbg (d:List Int) (s:qg) (l:List qa) (sk:Bool):List qb→Nat→(Nat→Int)→Nat→Int
 | [],_,b,set=>b set
 | x::L,nx,b,set=>qbg d s l sk L (nx+lvN x) (stF (sk && !foF d nx (nx+lvN x)) (QO d s l x nx) b) set
end
theorem qch (d:List Int) (s:qg) (l:List qa) (n:qb) (nx set:Nat):QO d s l n nx set=if n.Kind=1∨n.Kind=2 then q24 d s l n nx set else decide (set≠0)&&decide ((if n.Kind=3 then(n.L.length:Int) else n.N)≤qbg d s l (n.Kind==4) n.L nx b0F set):=by cases n;rw[QO]
theorem qlg:∀n:qb,lvN n≤(ndN n).length:=by
 intro n
 induction n using qb.rec (motive_2:=fun L=>lvL L≤(ndL L).length) with
 | mk k n m S L ih=>rw[lvN,ndN,qP3];split<;>omega
 | nil=>simp[lvL]
 | cons x L h1 h2=>rw[lvL,ndL,qOZ];omega
theorem ql2 (d:List Int) (hd:d.length≤16) (leaf set:Nat) (hs:set<9223372036854775808):q0H (leaf:Int) (set:Int) d=some (alF d leaf set):=by
 have h1:=q2d (ε:=Unit⊕Unit) (step:=JG d (leaf:Int) (set:Int) (d.length:Int)) d (fun(_:Unit) i=>(i:Int)) (fun i _ x=>if(set.testBit i==(x==(leaf:Int)))=true then .inl () else .inr (.inl ())) (fun _ => .inr ()) (fun _ i x hx=>by
   have hi:=Jf hx
   have hw:w64 ((i:Int)+1)=((i+1:Nat):Int):=Qi hi (by omega)
   unfold JG
   rw[if_pos (by omega),if_pos ⟨by omega,by omega⟩,qOV,hx,qOS,if_pos (by omega),hw,qh5 set i hs (by omega)]
   cases(set.testBit i==(x==(leaf:Int)))<;>simp) (fun _=>by
   unfold JG
   rw[if_neg (by omega)]) ()
 unfold q0H
 change Option.bind (zB _ ((0:Nat):Int)) _=_
 rw[h1,qOS]
 have:∀(d:List Int) (k:Nat),(Sum.elim (fun(_:Unit)=>some false) (fun(_:Unit)=>some true) (q4x (ε:=Unit⊕Unit) (fun i (_:Unit) (x:Int)=>if(set.testBit i==(x==(leaf:Int)))=true then .inl () else .inr (.inl ())) (fun _ => .inr ()) d k ()))=some (alG leaf set d k):=by
  intro d
  induction d with
  | nil=>intro k;rfl
  | cons x d ih=>
   intro k
   unfold q4x alG
   cases h:(set.testBit k==(x==(leaf:Int)))
   ·simp
   ·simp only[if_true,qPp];exact ih (k+1)
 exact this d 0
theorem qmb (d:List Int) (hd:d.length≤16) (a b:Nat):q1O (a:Int) (b:Int) d=some (foF d a b):=by
 have h1:=q2d (ε:=Int⊕Unit) (step:=Qa (a:Int) (b:Int) d (d.length:Int)) d (fun(_:Unit) i=>(i:Int)) (fun i _ x=>if(decide ((a:Int)≤x)&&decide (x<(b:Int)))=true then .inr (.inl (i:Int)) else .inl ()) (fun _ => .inr ()) (fun _ i x hx=>by
   have hi:=Jf hx
   have hw:w64 ((i:Int)+1)=((i+1:Nat):Int):=Qi hi (by omega)
   unfold Qa JR
   rw[if_pos (by omega),if_pos ⟨by omega,by omega⟩,qOV,hx,qOS,hw]
   by_cases h2:(a:Int)≤x
   ·by_cases h3:x<(b:Int)<;>simp[h2,h3]
   ·simp[h2]) (fun _=>by
   unfold Qa
   rw[if_neg (by omega)]) ()
 unfold q1O Z6 Zx
 change Option.bind (Option.bind (Option.bind (zB _ ((0:Nat):Int)) _) _) _=_
 rw[h1,qOS]
 have:∀(d:List Int) (k:Nat),((Sum.elim (fun(a2:Int)=>some a2) (fun(_:Unit)=>some (-(1:Int))) (q4x (ε:=Int⊕Unit) (fun i (_:Unit) (x:Int)=>if(decide ((a:Int)≤x)&&decide (x<(b:Int)))=true then .inr (.inl (i:Int)) else .inl ()) (fun _ => .inr ()) d k ())).bind fun a=>some (decide ((0:Int)≤a)))=some (foF d a b):=by
  intro d
  induction d with
  | nil=>intro k;rfl
  | cons x d ih=>
   intro k
   unfold q4x foF
   rw[List.any_cons]
   cases h:(decide ((a:Int)≤x)&&decide (x<(b:Int)))
   ·simp only[Bool.false_eq_true,if_false,Bool.false_or];exact ih (k+1)
   ·simp
 have h2:=this d 0
 rw[qOX] at h2
 obtain⟨i,h3,h4⟩:=h2
 rw[h3,qOS,h4,qOS]
end
noncomputable section
open Go.RowKit
mutual
def hgN:qb→Nat
 | ⟨_,_,_,_,L⟩=>1+hgL L
def hgL:List qb→Nat
 | []=>0
 | x::L=>max (hgN x) (hgL L)
end
mutual
def dpN (d:Int):qb→Int→Int
 | ⟨_,_,_,_,L⟩,m=>dpL (d+1) L (max m d)
def dpL (d:Int):List qb→Int→Int
 | [],m=>m
 | x::L,m=>dpL d L (dpN d x m)
end
theorem qe5 (n:qb):hgN n=1+hgL n.L:=by cases n;rw[hgN]
theorem qtn (d:Int) (n:qb) (m:Int):dpN d n m=dpL (d+1) n.L (max m d):=by cases n;rw[dpN]
theorem q7E (k:Nat) (h:k≤100000):k≤maxLen∧k*72≤140737488355328:=⟨by unfold maxLen;omega,by omega⟩
def qts (y:qb):Prop:=∀(deep:Int) (w:List qb) (b2:Int) (b3:Bool),1≤deep→deep+hgN y≤101→w.length+(ndN y).length≤10000→Jz (y,deep,w,b2,b3)=some (.inr (w++ndN y,dpN deep y b2,b3))
theorem qjQ (rF:(qb×Int×List qb×Int×Bool)→Option (Int⊕(List qb×Int×Bool))) (deep:Int) (hd:1≤deep) (L:List qb) (hL:L.length≤10000)
  (step:List qb×Int×Bool×Int→Option ((List qb×Int×Bool×Int)⊕(Int⊕(List qb×Int×Bool))))
  (hst:∀w b2 b3 (i:Nat),step (w,b2,b3,(i:Int))=if(i:Int)<(L.length:Int) then if(0:Int)≤i∧(i:Int)<(L.length:Int) then Option.bind L[Int.toNat i]? fun a2=>Option.bind (rF (a2,w64 (deep+1),w,b2,b3)) fun a3=>Sum.elim (fun a4=>some (Sum.inr (Sum.inl a4))) (fun a5=>some (Sum.inl (a5.1,a5.2.1,a5.2.2,w64 ((i:Int)+1)))) a3 else none else some (.inr (.inr (w,b2,b3))))
  (hP:∀y∈L,∀(w:List qb) (b2:Int) (b3:Bool),deep+1+hgN y≤101→w.length+(ndN y).length≤10000→rF (y,deep+1,w,b2,b3)=some (.inr (w++ndN y,dpN (deep+1) y b2,b3))) :
  ∀(r:List qb) (i:Nat) (w:List qb) (b2:Int) (b3:Bool),r.length+i=L.length→(∀j,r[j]?=L[i+j]?)→deep+1+hgL r≤101→w.length+(ndL r).length≤10000→
  zB step (w,b2,b3,(i:Int))=some (.inr (w++ndL r,dpL (deep+1) r b2,b3)):=by
 intro r
 induction r with
 | nil=>
  intro i w b2 b3 hi _ _ _
  have hi:i=L.length:=by simpa using hi
  subst hi
  refine zA ?_
  rw[hst,if_neg (by omega),ndL,dpL,qPd]
 | cons y r ih=>
  intro i w b2 b3 hi hr hh hw
  rw[hgL] at hh
  rw[ndL,qOZ] at hw
  simp only[qP3] at hi
  have hget:L[i]?=some y:=by have:=hr 0;simpa using this.symm
  have hlt:=Jf hget
  have hcall:=hP y (qOT hget) w b2 b3 (by omega) (by omega)
  have hstep:step (w,b2,b3,(i:Int))=some (.inl (w++ndN y,dpN (deep+1) y b2,b3,((i+1:Nat):Int))):=by
   rw[hst,if_pos (by omega),if_pos ⟨by omega,by omega⟩,qOV,hget,qOS,Z5 (by omega) (by omega),hcall,qOS,Qi hlt (by omega)]
   rfl
  rw[Q1 hstep,ih (i+1) _ _ _ (by omega) (fun j=>by rw[show i+1+j=i+(j+1) by omega,←hr (j+1)];rfl) (by omega) (by rw[qOZ];omega),ndL,dpL,qPy]
theorem qcH (L:List qb):L.length≤(ndL L).length:=by
 induction L with
 | nil=>simp
 | cons x L ih=>rw[ndL,qOZ,qP3,q03,qP3];omega
theorem qtP:∀(m:Nat) (y:qb),(ndN y).length≤m→qts y:=by
 intro m
 induction m with
 | zero=>intro y h;rw[q03] at h;simp at h
 | succ m ih=>
  intro y h deep w b2 b3 hd hh hw
  rw[q03,qP3] at h hw
  rw[qe5] at hh
  have hsub:∀(L:List qb),(ndL L).length≤m→∀z∈L,qts z:=by
   intro L
   induction L with
   | nil=>intro _ z hz;simp at hz
   | cons x L ihl=>
    intro g z hz
    rw[ndL,qOZ] at g
    rcases qPe.1 hz with rfl|hz
    ·exact ih _ (by omega)
    ·exact ihl (by omega) z hz
  have hP:=hsub y.L (by omega)
  have hl:=qcH y.L
  rw[qbi,q0V]
  unfold q1W
  have hne:(((w.length:Nat):Int)==(10000:Int))=false:=by simp;omega
  rw[if_neg (by omega),if_neg (by rw[hne];simp),if_pos ⟨(q7E _ (by omega)).1,(q7E _ (by omega)).2⟩,qOS,Sum.elim_inr]
  have h1:=qjQ Jz deep hd y.L (by omega) (q0M Jz deep y.L (y.L.length:Int)) (fun w b2 b3 i=>by rfl) (fun z hz w b2 b3 g1 g2=>hP z hz (deep+1) w b2 b3 (by omega) g1 g2) y.L 0 (w++[y]) (max b2 deep) b3 (by simp) (by simp) (by omega) (by rw[qOZ,qPa];omega)
  rw[show((0:Nat):Int)=0 from rfl] at h1
  dsimp only
  have h2:(⟨y.Kind,y.N,y.Min,y.Set,y.L⟩:qb)=y:=by cases y;rfl
  rw[h2,h1,qOS,Sum.elim_inr,q03,qtn,qPy]
  rfl
theorem qok (n:qb) (hh:hgN n≤100) (hn:(ndN n).length≤9999):q2J n=some (ndN n,dpN 1 n 0,true):=by
 rw[qe5] at hh
 rw[q03,qP3] at hn
 have hl:=qcH n.L
 unfold q2J q3d q5W q38
 rw[if_neg (by omega),if_pos (by unfold maxLen;omega),qOS,Sum.elim_inr]
 have h1:=qjQ Jz 1 (by omega) n.L (by omega) (q32 1 n.L (n.L.length:Int)) (fun w b2 b3 i=>by rfl) (fun z hz w b2 b3 g1 g2=>qtP _ z (qP8 _) (1+1) w b2 b3 (by omega) g1 g2) n.L 0 [n] (max 0 1) false (by simp) (by simp) (by omega) (by simp only[qPa];omega)
 rw[show((0:Nat):Int)=0 from rfl] at h1
 dsimp only
 have h2:(⟨n.Kind,n.N,n.Min,n.Set,n.L⟩:qb)=n:=by cases n;rfl
 rw[h2,h1,qOS,Sum.elim_inr,qOS,Sum.elim_inr,qOS,Sum.elim_inr,q03,qtn]
 rfl
def q1L (n:qb):Bool:=n.Kind != 3&&n.Kind != 4
theorem qsQ (n:qb):q1t n=q1L n:=by
 unfold q1t q1L
 cases h:(n.Kind != 3)<;>simp
theorem qm4 (l:List qc) (h:l.length≤1000000):Q8 l=some ():=by
 unfold Q8
 rw[if_pos ⟨by unfold maxLen;omega,by omega⟩]
theorem qpo:∀(m:Nat) (n:qb),(ndN n).length≤m→(ndN n).length≤100000→(∀y∈ndN n,y.Set.length≤1000000)→Jy n=some n:=by
 intro m
 induction m with
 | zero=>intro n h;rw[q03] at h;simp at h
 | succ m ih=>
  intro n h1 h2 h3
  have hset:=h3 n (by rw[q03];exact qP7)
  have hsub:∀(L:List qb),(ndL L).length≤m→(ndL L).length≤100000→(∀y∈ndL L,y.Set.length≤1000000)→∀y∈L,Jy y=some y:=by
   intro L
   induction L with
   | nil=>intro _ _ _ y hy;simp at hy
   | cons x L ihl=>
    intro g1 g2 g3 y hy
    rw[ndL,qOZ] at g1 g2
    rw[ndL] at g3
    rcases qPe.1 hy with rfl|hy
    ·exact ih _ (by omega) (by omega) fun z hz=>g3 z (qP4 _ hz)
    ·exact ihl (by omega) (by omega) (fun z hz=>g3 z (qP1 _ hz)) y hy
  have e0:ndN n=n::ndL n.L:=q03 n
  have hlen:(ndN n).length=(ndL n.L).length+1:=by rw[e0];rfl
  have hP:=hsub n.L (by omega) (by omega) fun y hy=>h3 y (by rw[e0];exact qP0 _ hy)
  have hl:=qcH n.L
  have hn:(⟨n.Kind,n.N,n.Min,n.Set,n.L⟩:qb)=n:=by cases n;rfl
  rw[qbF,q0R,qm4 _ hset,qOS]
  unfold QV
  rw[if_pos ⟨by unfold maxLen;omega,by omega⟩]
  rw[qOS]
  have hL:∀i0:Nat,zB (JP Jy n.Kind n.N n.Min n.Set 0 0 0 (n.L.length:Int)) (n.L,((0:Nat):Int))=some n.L:=fun _=>by
   refine q2o (fun i=>(n.L,(i:Int))) 0 n.L.length (qPi _) (fun i _ hi=>?_) ?_
   ·obtain⟨y,hy⟩:∃y,n.L[i]?=some y:=⟨_,qOU hi⟩
    unfold JP
    simp only
    rw[if_pos (by omega),if_pos ⟨by omega,by omega⟩,qOV,hy,qOS,hP y (qOT hy),qOS,if_pos ⟨by omega,by omega⟩,if_pos (by omega),Qi hi (by omega)]
    have:n.L.set i y=n.L:=by
     obtain⟨h1,h2⟩:=qOW.1 hy
     rw[←h2,List.set_getElem_self]
    rw[this]
   ·unfold JP
    simp only
    rw[if_neg (by omega)]
  have:=hL 0
  rw[show((0:Nat):Int)=0 from rfl] at this
  rw[this,qOS,hn]
theorem qg0 (n:qb) (hh:hgN n≤100) (hn:(ndN n).length≤9999) (hs:∀y∈ndN n,y.Set.length≤1000000):q1q n=some ((ndN n).filter q1L):=by
 have hsub:∀(m:Nat) (n y:qb),(ndN n).length≤m→y∈ndN n→(ndN y).length≤(ndN n).length∧∀z∈ndN y,z∈ndN n:=by
  intro m
  induction m with
  | zero=>intro n y h;rw[q03] at h;simp at h
  | succ m ih=>
   intro n y h hy
   rw[q03] at hy
   rcases qPe.1 hy with rfl|hy
   ·exact⟨qP8 _,fun z hz=>hz⟩
   ·have hL:∀(L:List qb),(ndL L).length≤m→y∈ndL L→(ndN y).length≤(ndL L).length∧∀z∈ndN y,z∈ndL L:=by
     intro L
     induction L with
     | nil=>intro _ h;simp[ndL] at h
     | cons x L ihl=>
      intro g gy
      rw[ndL,qOZ] at g
      rw[ndL] at gy ⊢
      rw[qOZ]
      rcases qPm.1 gy with gy|gy
      ·obtain⟨a,b⟩:=ih x y (by omega) gy
       exact⟨by omega,fun z hz=>qP4 _ (b z hz)⟩
      ·obtain⟨a,b⟩:=ihl (by omega) gy
       exact⟨by omega,fun z hz=>qP1 _ (b z hz)⟩
    have e0:=q03 n
    have:(ndN n).length=(ndL n.L).length+1:=by rw[e0];rfl
    obtain⟨a,b⟩:=hL n.L (by omega) hy
    exact⟨by omega,fun z hz=>by rw[e0];exact qP0 _ (b z hz)⟩
 have hc:∀y∈ndN n,q1L y=true→Jy y=some y:=fun y hy _=>by
  obtain⟨a,b⟩:=hsub _ n y (qP8 _) hy
  exact qpo _ y (qP8 _) (by omega) fun z hz=>hs z (b z hz)
 clear hsub hs
 unfold q1q
 rw[qok n hh hn,qOS]
 simp only
 generalize ndN n=l at hn hc
 have key:∀(r:List qb) (i:Nat) (b:List qb),r.length+i=l.length→(∀j,r[j]?=l[i+j]?)→b.length≤i→zB (ZT l (l.length:Int)) (b,(i:Int))=some (b++r.filter q1L):=by
  intro r
  induction r with
  | nil=>
   intro i b hi _ _
   have hi:i=l.length:=by simpa using hi
   subst hi
   refine zA ?_
   unfold ZT
   simp
  | cons y r ih=>
   intro i b hi hr hb
   simp only[qP3] at hi
   have hget:l[i]?=some y:=by have:=hr 0;simpa using this.symm
   have hlt:=Jf hget
   have hstep:ZT l (l.length:Int) (b,(i:Int))=some (.inl (if q1L y=true then b++[y] else b,((i+1:Nat):Int))):=by
    unfold ZT
    simp only
    rw[if_pos (by omega),if_pos ⟨by omega,by omega⟩,qOV,hget,qOS,qsQ,Qi hlt (by omega)]
    cases h:q1L y
    ·simp
    ·rw[hc y (qOT hget) h,qOS,if_pos rfl,if_pos ⟨(q7E _ (by omega)).1,(q7E _ (by omega)).2⟩]
     simp
   have hb2:(if q1L y=true then b++[y] else b).length≤i+1:=by
    split
    ·rw[qOZ,qPa];omega
    ·omega
   rw[Q1 hstep,ih (i+1) _ (by omega) (fun j=>by rw[show i+1+j=i+(j+1) by omega,←hr (j+1)];rfl) hb2,List.filter_cons]
   cases q1L y<;>simp
 have:=key l 0 [] (by simp) (by simp) (by simp)
 change Option.bind (zB _ ([],((0:Nat):Int))) _=_
 rw[this,qOS,qPc]
end
noncomputable section
open Go.RowKit
def qb9 (b:UInt8):Bool:=(48≤b.toNat&&b.toNat≤57)||(65≤b.toNat&&b.toNat≤90)
theorem qqU (s:ByteArray) (i:Nat) (h:(s.get! i).toNat<128):Utf8.decode s i=((s.get! i).toNat,1):=by
 unfold Utf8.decode
 simp only[Nat.add_zero]
 rw[if_pos h]
theorem qub (s:ByteArray) (i:Nat) (h:¬ (s.get! i).toNat<128):128≤(Utf8.decode s i).1:=by
 unfold Utf8.decode
 simp only[Nat.add_zero]
 rw[if_neg h]
 have hr:128≤Utf8.runeError:=by decide
 split
 ·split
  ·assumption
  ·exact hr
 ·split
  ·split
   ·rename_i h;simp only[ge_iff_le,qPo,qPS] at h;omega
   ·exact hr
  ·split
   ·split
    ·rename_i h;simp only[ge_iff_le,qPo,qPS] at h;omega
    ·exact hr
   ·exact hr
theorem qdV (b:UInt8) (h:b.toNat<128):Zv (b.toNat:Int) = !qb9 b:=by
 unfold Zv qb9
 by_cases h1:b.toNat<65
 ·rw[if_pos (by omega)]
  by_cases h2:b.toNat<48
  ·rw[if_pos (by omega)]
   have e1:decide (48≤b.toNat)=false:=decide_eq_false (by omega)
   have e2:decide (65≤b.toNat)=false:=decide_eq_false (by omega)
   simp[e1,e2]
  ·rw[if_neg (by omega)]
   have e1:decide (48≤b.toNat)=true:=qPT (by omega)
   have e2:decide (65≤b.toNat)=false:=decide_eq_false (by omega)
   by_cases h3:b.toNat≤57
   ·have e3:decide (b.toNat≤57)=true:=qPT h3
    have e4:decide ((57:Int)<b.toNat)=false:=decide_eq_false (by omega)
    simp[e1,e2,e3,e4]
   ·have e3:decide (b.toNat≤57)=false:=decide_eq_false h3
    have e4:decide ((57:Int)<b.toNat)=true:=qPT (by omega)
    simp[e1,e2,e3,e4]
 ·rw[if_neg (by omega)]
  have e0:decide (b.toNat≤57)=false:=decide_eq_false (by omega)
  have e1:decide (65≤b.toNat)=true:=qPT (by omega)
  by_cases h2:90<b.toNat
  ·rw[if_pos (by omega),if_neg (by omega)]
   have e3:decide (b.toNat≤90)=false:=decide_eq_false (by omega)
   have e4:decide ((57:Int)<b.toNat)=true:=qPT (by omega)
   simp[e0,e1,e3,e4]
  ·rw[if_neg (by omega)]
   have e3:decide (b.toNat≤90)=true:=qPT (by omega)
   simp[e0,e1,e3]
theorem qns (n:Nat) (h:128≤n):Zv (n:Int)=true:=by
 unfold Zv
 rw[if_neg (by omega),if_pos (by omega),if_neg (by omega)]
 exact qPT (by omega)
theorem qsy (s:ByteArray) (i:Nat) (h:i<s.size):s.get! i=s.data.toList.getD i 0:=by
 obtain⟨⟨l⟩⟩:=s
 have h':i<l.length:=h
 show(Array.mk l)[i]! = l.getD i 0
 simp[h',List.getD]
theorem qht (s:ByteArray):∀(r:List UInt8) (p:Nat),r.length+p=s.size→(∀j,r[j]?=s.data.toList[p+j]?)→∃e,zB (Qv s true) p=some e∧((∃i:Int,e = .inl i∧0≤i∧r.all qb9=false)∨(e = .inr ()∧r.all qb9=true)):=by
 intro r
 induction r with
 | nil=>
  intro p hp _
  have hp:p=s.size:=by simpa using hp
  subst hp
  refine⟨.inr (),zA ?_,.inr ⟨rfl,rfl⟩⟩
  unfold Qv
  rw[if_neg (by omega)]
 | cons b r ih=>
  intro p hp hr
  simp only[qP3] at hp
  have hb:s.data.toList[p]?=some b:=by have:=hr 0;simpa using this.symm
  have hg:s.get! p=b:=by rw[qsy s p (by omega),List.getD,hb];rfl
  by_cases h:b.toNat<128
  ·have hd:=qqU s p (by rw[hg];exact h)
   rw[hg] at hd
   cases ho:qb9 b
   ·refine⟨.inl (p:Int),zA ?_,.inl ⟨_,rfl,by omega,by simp[ho]⟩⟩
    unfold Qv
    rw[if_pos (by omega),hd,qdV b h,ho]
    rfl
   ·obtain⟨e,h1,h2⟩:=ih (p+1) (by omega) (fun j=>by rw[show p+1+j=p+(j+1) by omega,←hr (j+1)];rfl)
    refine⟨e,?_,by rw[List.all_cons,ho,qPp];exact h2⟩
    rw[Q1 (y:=p+1) (by
     unfold Qv
     rw[if_pos (by omega),hd,qdV b h,ho]
     rfl)]
    exact h1
  ·have hbig:=qub s p (by rw[hg];exact h)
   have hbad:qb9 b=false:=by
    unfold qb9
    have e1:decide (b.toNat≤57)=false:=decide_eq_false (by omega)
    have e2:decide (b.toNat≤90)=false:=decide_eq_false (by omega)
    simp[e1,e2]
   refine⟨.inl (p:Int),zA ?_,.inl ⟨_,rfl,by omega,by simp[hbad]⟩⟩
   unfold Qv
   rw[if_pos (by omega),qns _ hbig]
   rfl
def qrM (s:ByteArray):Bool:=decide (s.size≠0)&&decide (s.size≤8)&&s.data.toList.all qb9
theorem qln (s:ByteArray):(s.toList==ByteArray.toList (ByteArray.mk (List.toArray [])))=decide (s.size=0):=by
 rw[ByteArray.toList_eq,ByteArray.toList_eq]
 obtain⟨⟨l⟩⟩:=s
 show(l==[])=decide (l.length=0)
 cases l<;>simp
theorem qwQ (s:ByteArray):q2j s=some (qrM s):=by
 unfold q2j qrM
 rw[qln]
 by_cases h0:s.size=0
 ·simp[h0]
 ·have e0:decide (s.size=0)=false:=decide_eq_false h0
  have e1:decide (s.size≠0)=true:=qPT h0
  rw[e0,e1,if_pos (by rfl)]
  by_cases h8:s.size≤8
  ·have e2:decide (s.size≤8)=true:=qPT h8
   obtain⟨e,h1,h2⟩:=qht s s.data.toList 0 (by simp) (by simp)
   rw[if_pos (by omega),e2]
   unfold q0k q0m
   rw[h1,qOS]
   rcases h2 with ⟨i,rfl,hi,ha⟩|⟨rfl,ha⟩
   ·rw[Sum.elim_inl,qOS,qOS,ha]
    have:decide (i<0)=false:=decide_eq_false (by omega)
    rw[this];rfl
   ·rw[Sum.elim_inr,qOS,qOS,ha]
    rfl
  ·have e2:decide (s.size≤8)=false:=decide_eq_false h8
   rw[if_neg (by omega),e2]
   rfl
def inF (n a b:Int):Bool:=decide (a≤n)&&decide (n≤b)
theorem q3o (n a b:Int):zD n a b=inF n a b:=by
 unfold zD inF
 by_cases h:a≤n<;>simp[h]
def q0Z (c:qc):Bool:=inF c.School 1 8&&qrM c.Code
theorem qfB (c:qc):q14 c=some (q0Z c):=by
 unfold q14 q0Z
 rw[q3o,qwQ]
 cases inF c.School 1 8<;>simp
def qeJ (x y:Int):Int:=if x<y then -1 else if y<x then 1 else 0
def qEP (x y:ByteArray):Int:=if Op.bytesLess x.toList y.toList=true then -1 else if x.toList==y.toList then 0 else 1
def qtM (a b:qc):Int:=if a.School≠b.School then qeJ a.School b.School else qEP a.Code b.Code
theorem qyM (x y:Int):q15 [x,y]=some (if x≠0 then x else y):=by
 unfold q15
 by_cases hx:x=0
 ·by_cases hy:y=0
  ·rw[Q1 (y:=1) (by unfold ZE;simp[hx];rfl),Q1 (y:=2) (by unfold ZE;simp[hx,hy];rfl),zA (e := .inr ()) (by unfold ZE;simp)]
   simp[hx,hy]
  ·rw[Q1 (y:=1) (by unfold ZE;simp[hx];rfl),zA (e := .inl y) (by unfold ZE;simp[hx,hy])]
   simp[hx,hy]
 ·rw[zA (e := .inl x) (by unfold ZE;simp[hx])]
  simp[hx]
theorem qaD (a b:qc):q0G a b=some (qtM a b):=by
 unfold q0G
 rw[qyM,qOS]
 congr 1
 have e1:Qd a.School b.School=qeJ a.School b.School:=by
  unfold Qd Qm qeJ
  simp
 have e2:Zg a.Code b.Code=qEP a.Code b.Code:=by
  unfold Zg qEP
  cases h1:Op.bytesLess a.Code.toList b.Code.toList
  ·cases h2:(a.Code.toList==b.Code.toList)<;>simp
  ·simp
 rw[e1,e2]
 unfold qtM
 by_cases h:a.School=b.School
 ·have:qeJ a.School b.School=0:=by unfold qeJ;rw[if_neg (by omega),if_neg (by omega)]
  simp[h,this]
  intro h2;exact absurd (by unfold qeJ;simp) h2
 ·have:qeJ a.School b.School≠0:=by unfold qeJ;split<;>(try split)<;>omega
  simp[h,this]
def qh0:List qc→Bool
 | x::y::l=>decide (qtM x y<0)&&qh0 (y::l)
 | _=>true
def q30 (n:qb):Int:=
 if inF n.Min (-1000) 1000=false then 3 else if inF n.Set.length 1 12=false then 2 else if n.Set.all q0Z=false then 1 else if qh0 n.Set=true then 0 else 7
theorem qdC (l:List qc) (hl:l.length≤1000000):zM l=some (!l.all q0Z):=by
 have h1:=q2d (ε:=Int⊕Unit) (step:=zu l (l.length:Int)) l (fun(b:Unit) i=>(i:Int)) (fun i b a=>if(!q0Z a)=true then .inr (.inl (i:Int)) else .inl ()) (fun _ => .inr ()) (fun b i a ha=>by
   have hi:=Jf ha
   have hw:w64 ((i:Int)+1)=((i+1:Nat):Int):=Qi hi (by omega)
   unfold zu q1V
   rw[if_pos (by omega),if_pos ⟨by omega,by omega⟩,qOV,ha,qOS,hw,qfB,qOS,qOS]
   cases q0Z a<;>simp) (fun b=>by
   unfold zu
   rw[if_neg (by omega)]) ()
 have h2:=qcY (fun a => !q0Z a) l 0
 unfold zM Qk
 rw[show((0:Nat):Int)=0 from rfl] at h1
 rw[h1,qOS]
 have e:l.any (fun a => !q0Z a) = !l.all q0Z:=by
  clear h1 h2 hl
  induction l with
  | nil=>rfl
  | cons a l ih=>rw[List.any_cons,List.all_cons,ih];cases q0Z a<;>simp
 rw[←e,←h2]
 cases(q4x (ε:=Int⊕Unit) (fun i (_:Unit) (a:qc)=>if(!q0Z a)=true then .inr (.inl (i:Int)) else .inl ()) (fun _ => .inr ()) l 0 ())<;>rfl
theorem qlu (n:qb) (hl:n.Set.length≤1000000):∀(r:List qc) (i:Nat),r.length+i=n.Set.length→(∀j,r[j]?=n.Set[i+j]?)→zB (Zu n n.Set (n.Set.length:Int)) (i:Int)=some (if(match i,n.Set[i-1]? with|_+1,some x=>qh0 (x::r)|_,_=>qh0 r)=true then .inr () else .inl ()):=by
 intro r
 induction r with
 | nil=>
  intro i hi _
  have hi:i=n.Set.length:=by simpa using hi
  subst hi
  refine zA ?_
  unfold Zu
  rw[if_neg (by omega)]
  split<;>simp[qh0]
 | cons a r ih=>
  intro i hi hr
  simp only[qP3] at hi
  have hget:n.Set[i]?=some a:=by have:=hr 0;simpa using this.symm
  have hlt:=Jf hget
  have hnext:=ih (i+1) (by omega) (fun j=>by rw[show i+1+j=i+(j+1) by omega,←hr (j+1)];rfl)
  simp only[Nat.add_sub_cancel,hget] at hnext
  cases i with
  | zero=>
   rw[Q1 (y:=((0+1:Nat):Int)) (by
    unfold Zu
    rw[if_pos (by omega),if_pos ⟨by omega,by omega⟩,qOV,hget,qOS,if_neg (by omega),Qi hlt (by omega)])]
   exact hnext
  | succ i=>
   obtain⟨x,hx⟩:∃x,n.Set[i]?=some x:=⟨_,qOU (by omega)⟩
   simp only[Nat.add_sub_cancel,hx]
   have hw:w64 (((i+1:Nat):Int)-1)=(i:Int):=by rw[Z5 (by omega) (by omega)];omega
   by_cases hc:qtM x a<0
   ·rw[Q1 (y:=((i+1+1:Nat):Int)) (by
     unfold Zu
     rw[if_pos (by omega),if_pos ⟨by omega,by omega⟩,qOV,hget,qOS,if_pos (by omega),hw,if_pos ⟨by omega,by omega⟩,qOV,hx,qOS,qaD,qOS,if_neg (by omega),Qi hlt (by omega)]),hnext]
    simp[qh0,hc]
   ·rw[zA (e := .inl ()) (by
     unfold Zu
     rw[if_pos (by omega),if_pos ⟨by omega,by omega⟩,qOV,hget,qOS,if_pos (by omega),hw,if_pos ⟨by omega,by omega⟩,qOV,hx,qOS,qaD,qOS,if_pos (by omega)])]
    simp[qh0,hc]
theorem qe2 (n:qb) (hl:n.Set.length≤1000000):q0F n=some (q30 n):=by
 unfold q0F q30
 rw[q3o,q3o,qdC _ hl,qOS]
 have h:=qlu n hl n.Set 0 (by simp) (by simp)
 simp only at h
 rw[show((0:Nat):Int)=0 from rfl] at h
 rw[h,qOS]
 cases inF n.Min (-1000) 1000
 ·simp
 ·cases inF n.Set.length 1 12
  ·simp
  ·cases n.Set.all q0Z
   ·simp
   ·cases qh0 n.Set<;>simp
def q8P (n:qb):Bool:=n.Min==0&&n.Set.isEmpty && !n.L.isEmpty
def q9c (n:qb):Int:=
 if n.Kind=1 then(if n.N≠0∨n.L≠[] then 13 else q30 n)
 else if n.Kind=2 then(if n.L≠[] then 13 else if inF n.N 1 600=false then 3 else q30 n)
 else if n.Kind=3 then(if q8P n=false∨n.N≠0 then 13 else 0)
 else if n.Kind=4 then(if q8P n=false then 13 else if inF n.N 1 n.L.length=false then 3 else 0)
 else 13
theorem qmJ (n:qb):Zo n=q8P n:=by
 unfold Zo q8P
 cases n.Min==0
 ·simp
 ·cases hS:n.Set<;>cases hL:n.L<;>simp
  all_goals omega
theorem qHv (n:qb) (hl:n.Set.length≤1000000):q1K n=some (if n.N≠0∨n.L≠[] then 13 else q30 n):=by
 unfold q1K
 rw[qe2 n hl,qOS]
 by_cases h:n.N=0
 ·cases hL:n.L with
  | nil=>simp[h]
  | cons x l=>rw[if_neg (by simp[h]),if_pos (by simp),if_pos (.inr (by simp))]
 ·simp[h]
theorem qFG (n:qb) (hl:n.Set.length≤1000000):q1M n=some (if n.L≠[] then 13 else if inF n.N 1 600=false then 3 else q30 n):=by
 unfold q1M
 rw[qe2 n hl,qOS,q3o]
 cases hL:n.L with
 | nil=>
  cases hI:inF n.N 1 600<;>simp[hI]
 | cons x l=>rw[if_pos (by simp),if_pos (by simp)]
theorem qIj (n:qb):Jh n=if q8P n=false∨n.N≠0 then 13 else 0:=by
 unfold Jh
 rw[qmJ]
 cases q8P n
 ·simp
 ·by_cases h:n.N=0<;>simp[h]
theorem qHq (n:qb):Jm n=if q8P n=false then 13 else if inF n.N 1 n.L.length=false then 3 else 0:=by
 unfold Jm
 rw[qmJ,q3o]
 cases q8P n
 ·simp
 ·cases inF n.N 1 n.L.length<;>simp
def qt4 (l:List qb):Option Int:=l.findSome? fun y=>if q9c y≠0 then some (q9c y) else none
theorem qli (l:List qb) (hl:l.length≤1000000) (hs:∀y∈l,y.Set.length≤1000000):zB (JH l (l.length:Int)) 0=some (match qt4 l with|some e => .inl e|none => .inr ()):=by
 have h1:=qgO (ε:=Int⊕Unit) (step:=JH l (l.length:Int)) l (fun i=>(i:Int)) (fun y=>if q9c y≠0 then some (.inl (q9c y)) else none) (.inr ()) (fun i y hy=>by
   have hi:=Jf hy
   have hw:w64 ((i:Int)+1)=((i+1:Nat):Int):=Qi hi (by omega)
   have hset:=hs y (qOT hy)
   unfold JH
   rw[if_pos (by omega),if_pos ⟨by omega,by omega⟩,qOV,hy,qOS,hw,qHv y hset,qFG y hset,qIj,qHq,qOS,qOS]
   unfold q9c
   by_cases e1:y.Kind=1
   ·simp only[if_pos e1];generalize (if y.N≠0∨y.L≠[] then 13 else q30 y)=v;by_cases h:v=0<;>simp[h]
   ·by_cases e2:y.Kind=2
    ·simp only[if_neg e1,if_pos e2];generalize (if y.L≠[] then 13 else if inF y.N 1 600=false then 3 else q30 y)=v;by_cases h:v=0<;>simp[h]
    ·by_cases e3:y.Kind=3
     ·simp only[if_neg e1,if_neg e2,if_pos e3];generalize (if q8P y=false∨y.N≠0 then(13:Int) else 0)=v;by_cases h:v=0<;>simp[h]
     ·by_cases e4:y.Kind=4
      ·simp only[if_neg e1,if_neg e2,if_neg e3,if_pos e4];generalize (if q8P y=false then(13:Int) else if inF y.N 1 y.L.length=false then 3 else 0)=v;by_cases h:v=0<;>simp[h]
      ·simp[e1,e2,e3,e4]) (by
   unfold JH
   rw[if_neg (by omega)])
 rw[show((0:Nat):Int)=0 from rfl] at h1
 rw[h1]
 congr 1
 unfold qt4
 clear h1 hl hs
 induction l with
 | nil=>rfl
 | cons y l ih=>
  rw[List.findSome?_cons,List.findSome?_cons]
  by_cases h:q9c y=0<;>simp only[h,ne_eq,not_true_eq_false,not_false_eq_true,if_true,if_false]
  ·exact ih
  ·rfl
def qeg (n:qb):Int:=
 if 24<(ndN n).length then 2 else if 5<dpN 1 n 0 then 2 else if inF ((ndN n).filter q1L).length 1 8=false then 2 else(qt4 (ndN n)).getD 0
theorem q9w (n:qb) (hh:hgN n≤100) (hn:(ndN n).length≤9999) (hs:∀y∈ndN n,y.Set.length≤1000000):JD n=some (qeg n):=by
 unfold JD qeg
 rw[qok n hh hn,qOS,qg0 n hh hn hs]
 simp only[qOS]
 rw[qli (ndN n) (by omega) hs,q3o,if_neg (by simp)]
 by_cases h1:24<(ndN n).length
 ·rw[if_pos (by omega),if_pos h1]
 ·rw[if_neg (by omega),if_neg h1]
  by_cases h2:5<dpN 1 n 0
  ·rw[if_pos h2,if_pos h2]
  ·rw[if_neg h2,if_neg h2]
   cases inF ((ndN n).filter q1L).length 1 8
   ·simp
   ·simp only[Bool.not_true,Bool.false_eq_true,if_false,qOS]
    cases qt4 (ndN n)<;>rfl
end
noncomputable section
open Go.RowKit
section
variable {N:Nat} {best:Nat→Int} {M:Int}
theorem qm7 (rF:(qb×List qa×Int×qg)→Option (List Bool×List qa×Int×qg)) (hN:N≤65536) (hM:M≤1000000) (hb:Bnd best N M) (w9:List Bool) (b0:List qa) (b3:Int) (b4:qg) (b8:qb) (own:Nat→Bool) (skip:Bool) (t72:List qb) (t73 t74:Int) :
  zB (Zt rF w9 (Zk N best) b0 b3 b4 b8 (Zk N own) skip t72 t73 t74 ((N:Nat):Int)) (List.replicate N 0,0)=some (Zk N (stF skip own best)):=by
 have h1:=q2o (step:=Zt rF w9 (Zk N best) b0 b3 b4 b8 (Zk N own) skip t72 t73 t74 ((N:Nat):Int)) (fun i=>(Zk N (fun k=>if k<i then stF skip own best k else 0),(i:Int))) 0 N (qPi _) (e:=Zk N (stF skip own best)) (fun i _ hi=>by
   have hbi:=hb i hi
   have hw:w64 ((i:Int)+1)=((i+1:Nat):Int):=Qi hi (by omega)
   have hg:∀v:Int,v=(if skip=true then best i else -1)→qba (qba (fun k=>if k<i then stF skip own best k else 0) i v) i (eaF own best i i i (qba (fun k=>if k<i then stF skip own best k else 0) i v i))=fun k=>if k<i+1 then stF skip own best k else 0:=fun v hv=>by
    funext k
    rw[qd2,q9m]
    unfold qba
    by_cases hk:k=i
    ·subst hk
     rw[if_pos rfl,if_pos (by omega)]
     unfold stF
     rw[←hv]
    ·rw[if_neg hk]
     show(if k<i then stF skip own best k else 0)=_
     by_cases h:k<i
     ·rw[if_pos h,if_pos (by omega)]
     ·rw[if_neg h,if_neg (by omega)]
   unfold Zt
   simp only
   rw[if_pos (by omega),zK,if_pos ⟨by omega,by omega⟩,qOV,if_pos (by omega)]
   cases hs:skip
   ·simp only[Bool.false_eq_true,if_false]
    rw[Jx]
    unfold Qh
    rw[qfd hN hM hb (own:=own) hi i i (qP8 _) (qP8 _),qOS,qOS,hw,←hs,hg (-1) (by rw[hs];rfl)]
   ·simp only[if_true]
    rw[zK,if_pos ⟨by omega,by omega⟩,J3 best hi,qOS,if_pos ⟨by omega,by omega⟩,if_pos (by omega),Jx,Jx,q9m]
    unfold Qh
    rw[qfd hN hM hb (own:=own) hi i i (qP8 _) (qP8 _),qOS,qOS,hw,←hs,hg (best i) (by rw[hs];rfl)]) (by
   unfold Zt
   simp only
   rw[if_neg (by omega)]
   congr 2
   exact q0E fun k hk=>if_pos hk)
 rw[q4C]
 have e:(fun k:Nat=>if k<0 then stF skip own best k else 0)=fun _=>0:=by funext k;rw[if_neg (by omega)]
 rw[e] at h1
 exact h1
theorem qvo (rF:(qb×List qa×Int×qg)→Option (List Bool×List qa×Int×qg)) (hN:N≤65536) (hN1:1≤N) (w9:List Bool) (b0:List qa) (b3:Int) (b4:qg) (b8:qb) :
  zB (Zr rF w9 b0 b3 b4 b8) (List.replicate N 0,1)=some (Zk N b0F):=by
 have h1:=q2o (step:=Zr rF w9 b0 b3 b4 b8) (fun i=>(Zk N (fun k=>if 1≤k∧k<i then -1 else 0),(i:Int))) 1 N hN1 (e:=Zk N b0F) (fun i h1 hi=>by
   have hw:w64 ((i:Int)+1)=((i+1:Nat):Int):=Qi hi (by omega)
   unfold Zr
   simp only
   rw[zK,if_pos (by omega),if_pos ⟨by omega,by omega⟩,qOV,if_pos (by omega),hw,Jx]
   rw[ql9 (fun _=>(-1:Int)) 0 h1]) (by
   unfold Zr
   simp only
   rw[zK,if_neg (by omega)]
   congr 2
   refine q0E fun k hk=>?_
   unfold b0F
   by_cases h:k=0
   ·rw[if_pos h,if_neg (by omega)]
   ·rw[if_neg h,if_pos (by omega)])
 rw[q4C]
 have e:(fun k:Nat=>if 1≤k∧k<1 then(-1:Int) else 0)=fun _=>0:=by funext k;rw[if_neg (by omega)]
 rw[e] at h1
 exact h1
theorem qoi (rF:(qb×List qa×Int×qg)→Option (List Bool×List qa×Int×qg)) (hN:N≤65536) (hN1:1≤N) (b0:List qa) (b3:Int) (b4:qg) (least:Int) :
  zB (Zs rF (Zk N best) b0 b3 b4 least) (List.replicate N false,1)=some (Zk N (fun k=>decide (k≠0)&&decide (least≤best k))):=by
 have h1:=q2o (step:=Zs rF (Zk N best) b0 b3 b4 least) (fun i=>(Zk N (fun k=>if 1≤k∧k<i then decide (least≤best k) else false),(i:Int))) 1 N hN1 (e:=Zk N (fun k=>decide (k≠0)&&decide (least≤best k))) (fun i h1 hi=>by
   have hw:w64 ((i:Int)+1)=((i+1:Nat):Int):=Qi hi (by omega)
   unfold Zs
   simp only
   rw[zK,zK,if_pos (by omega),if_pos ⟨by omega,by omega⟩,qOV,J3 best hi,qOS,if_pos ⟨by omega,by omega⟩,if_pos (by omega),hw,Jx]
   rw[ql9 (fun k=>decide (least≤best k)) false h1]) (by
   unfold Zs
   simp only
   rw[zK,if_neg (by omega)]
   congr 2
   refine q0E fun k hk=>?_
   by_cases h:k=0
   ·subst h;simp
   ·rw[if_pos ⟨by omega,hk⟩];simp[h])
 rw[q4C]
 have e:(fun k:Nat=>if 1≤k∧k<1 then decide (least≤best k) else false)=fun _=>false:=by funext k;rw[if_neg (by omega)]
 rw[e] at h1
 exact h1
theorem qje (rF:(qb×List qa×Int×qg)→Option (List Bool×List qa×Int×qg)) (d:List Int) (hd:d=[]) (s:qg) (l:List qa) (hl:l.length≤16) (n:qb) (hn:n.Set.length≤1000000) (nx:Nat) (hnx:nx≤1000000) (step:List Bool×Int→Option ((List Bool×Int)⊕List Bool))
  (hst:step=(if n.Kind=1 then Je rF l (nx:Int) s n else Jg rF l (nx:Int) s n)) (hN:N≤65536) (hN1:1≤N) :
  zB step (List.replicate N false,1)=some (Zk N (q24 d s l n nx)):=by
 have h1:=q2o (step:=step) (fun i=>(Zk N (fun k=>if 1≤k∧k<i then q24 d s l n nx k else false),(i:Int))) 1 N hN1 (e:=Zk N (q24 d s l n nx)) (fun i h1 hi=>by
   have hw:w64 ((i:Int)+1)=((i+1:Nat):Int):=Qi hi (by omega)
   have hc:Zk N (qba (fun k=>if 1≤k∧k<i then q24 d s l n nx k else false) i (q24 d s l n nx i))=Zk N (fun k=>if 1≤k∧k<i+1 then q24 d s l n nx k else false):=by
    rw[ql9 (q24 d s l n nx) false h1]
   have hz:decide (i≠0)=true:=qPT (by omega)
   have hwg:=qkI n (by omega) s l (by omega) i (by omega)
   have hal:alF d nx i=true:=by rw[hd];rfl
   have hv:q24 d s l n nx i=(alF d nx i&&qe8 n (wgF n s i l 0 ld0)):=by unfold q24;rw[hz];simp
   have m1:n.Kind=1→Q4 (wgF n s i l 0 ld0) n=qe8 n (wgF n s i l 0 ld0):=fun hk=>by
    unfold Q4 qe8
    rw[if_pos hk]
    cases(wgF n s i l 0 ld0).fine<;>simp
   have m2:n.Kind≠1→Qx (wgF n s i l 0 ld0) n=qe8 n (wgF n s i l 0 ld0):=fun hk=>by
    unfold Qx qe8
    rw[if_neg hk]
    cases(wgF n s i l 0 ld0).fine
    ·simp
    ·by_cases h:0<(wgF n s i l 0 ld0).many<;>simp[h]
   rw[hst]
   by_cases hk:n.Kind=1
   ·rw[if_pos hk]
    unfold Je
    simp only
    rw[zK,if_pos (by omega),hwg,qOS]
    rw[if_pos ⟨by omega,by omega⟩,qOV,if_pos (by omega),hw,m1 hk,Jx,←hc,hv,hal,qPp]
   ·rw[if_neg hk]
    unfold Jg
    simp only
    rw[zK,if_pos (by omega),hwg,qOS]
    rw[if_pos ⟨by omega,by omega⟩,qOV,if_pos (by omega),hw,m2 hk,Jx,←hc,hv,hal,qPp]) (by
   have hend:some (Sum.inr (α:=List Bool×Int) (Zk N (fun k=>if 1≤k∧k<N then q24 d s l n nx k else false)))=some (Sum.inr (Zk N (q24 d s l n nx))):=by
    congr 2
    refine q0E fun k hk=>?_
    by_cases h:k=0
    ·subst h;simp[q24]
    ·rw[if_pos ⟨by omega,hk⟩]
   rw[hst]
   by_cases hk:n.Kind=1
   ·rw[if_pos hk]
    unfold Je
    simp only
    rw[zK,if_neg (by omega)]
    exact hend
   ·rw[if_neg hk]
    unfold Jg
    simp only
    rw[zK,if_neg (by omega)]
    exact hend)
 rw[q4C]
 have e:(fun k:Nat=>if 1≤k∧k<1 then q24 d s l n nx k else false)=fun _=>false:=by funext k;rw[if_neg (by omega)]
 rw[e] at h1
 exact h1
end
end
noncomputable section
open Go.RowKit
section
variable {N:Nat} {best:Nat→Int} {M:Int}
theorem qoH (rF:(qb×List Int×List qa×Int×qg)→Option (List Bool×List Int×List qa×Int×qg)) (hN:N≤65536) (hM:M≤1000000) (hb:Bnd best N M) (w7:List Int) (w9:List Bool) (b0:List qa) (b3:Int) (b4:qg) (b8:qb) (own:Nat→Bool) (skip:Bool) (t72:List qb) (t73 t74:Int) :
  zB (QE rF w7 w9 (Zk N best) b0 b3 b4 b8 (Zk N own) skip t72 t73 t74 ((N:Nat):Int)) (List.replicate N 0,0)=some (Zk N (stF skip own best)):=by
 have h1:=q2o (step:=QE rF w7 w9 (Zk N best) b0 b3 b4 b8 (Zk N own) skip t72 t73 t74 ((N:Nat):Int)) (fun i=>(Zk N (fun k=>if k<i then stF skip own best k else 0),(i:Int))) 0 N (qPi _) (e:=Zk N (stF skip own best)) (fun i _ hi=>by
   have hbi:=hb i hi
   have hw:w64 ((i:Int)+1)=((i+1:Nat):Int):=Qi hi (by omega)
   have hg:∀v:Int,v=(if skip=true then best i else -1)→qba (qba (fun k=>if k<i then stF skip own best k else 0) i v) i (eaF own best i i i (qba (fun k=>if k<i then stF skip own best k else 0) i v i))=fun k=>if k<i+1 then stF skip own best k else 0:=fun v hv=>by
    funext k
    rw[qd2,q9m]
    unfold qba
    by_cases hk:k=i
    ·subst hk
     rw[if_pos rfl,if_pos (by omega)]
     unfold stF
     rw[←hv]
    ·rw[if_neg hk]
     show(if k<i then stF skip own best k else 0)=_
     by_cases h:k<i
     ·rw[if_pos h,if_pos (by omega)]
     ·rw[if_neg h,if_neg (by omega)]
   unfold QE
   simp only
   rw[if_pos (by omega),zK,if_pos ⟨by omega,by omega⟩,qOV,if_pos (by omega)]
   cases hs:skip
   ·simp only[Bool.false_eq_true,if_false]
    rw[Jx]
    unfold Qh
    rw[qfd hN hM hb (own:=own) hi i i (qP8 _) (qP8 _),qOS,qOS,hw,←hs,hg (-1) (by rw[hs];rfl)]
   ·simp only[if_true]
    rw[zK,if_pos ⟨by omega,by omega⟩,J3 best hi,qOS,if_pos ⟨by omega,by omega⟩,if_pos (by omega),Jx,Jx,q9m]
    unfold Qh
    rw[qfd hN hM hb (own:=own) hi i i (qP8 _) (qP8 _),qOS,qOS,hw,←hs,hg (best i) (by rw[hs];rfl)]) (by
   unfold QE
   simp only
   rw[if_neg (by omega)]
   congr 2
   exact q0E fun k hk=>if_pos hk)
 rw[q4C]
 have e:(fun k:Nat=>if k<0 then stF skip own best k else 0)=fun _=>0:=by funext k;rw[if_neg (by omega)]
 rw[e] at h1
 exact h1
theorem qwO (rF:(qb×List Int×List qa×Int×qg)→Option (List Bool×List Int×List qa×Int×qg)) (hN:N≤65536) (hN1:1≤N) (w7:List Int) (w9:List Bool) (b0:List qa) (b3:Int) (b4:qg) (b8:qb) :
  zB (Z1 rF w7 w9 b0 b3 b4 b8) (List.replicate N 0,1)=some (Zk N b0F):=by
 have h1:=q2o (step:=Z1 rF w7 w9 b0 b3 b4 b8) (fun i=>(Zk N (fun k=>if 1≤k∧k<i then -1 else 0),(i:Int))) 1 N hN1 (e:=Zk N b0F) (fun i h1 hi=>by
   have hw:w64 ((i:Int)+1)=((i+1:Nat):Int):=Qi hi (by omega)
   unfold Z1
   simp only
   rw[zK,if_pos (by omega),if_pos ⟨by omega,by omega⟩,qOV,if_pos (by omega),hw,Jx]
   rw[ql9 (fun _=>(-1:Int)) 0 h1]) (by
   unfold Z1
   simp only
   rw[zK,if_neg (by omega)]
   congr 2
   refine q0E fun k hk=>?_
   unfold b0F
   by_cases h:k=0
   ·rw[if_pos h,if_neg (by omega)]
   ·rw[if_neg h,if_pos (by omega)])
 rw[q4C]
 have e:(fun k:Nat=>if 1≤k∧k<1 then(-1:Int) else 0)=fun _=>0:=by funext k;rw[if_neg (by omega)]
 rw[e] at h1
 exact h1
theorem qnl (rF:(qb×List Int×List qa×Int×qg)→Option (List Bool×List Int×List qa×Int×qg)) (hN:N≤65536) (hN1:1≤N) (w7:List Int) (b0:List qa) (b3:Int) (b4:qg) (least:Int) :
  zB (QX rF w7 (Zk N best) b0 b3 b4 least) (List.replicate N false,1)=some (Zk N (fun k=>decide (k≠0)&&decide (least≤best k))):=by
 have h1:=q2o (step:=QX rF w7 (Zk N best) b0 b3 b4 least) (fun i=>(Zk N (fun k=>if 1≤k∧k<i then decide (least≤best k) else false),(i:Int))) 1 N hN1 (e:=Zk N (fun k=>decide (k≠0)&&decide (least≤best k))) (fun i h1 hi=>by
   have hw:w64 ((i:Int)+1)=((i+1:Nat):Int):=Qi hi (by omega)
   unfold QX
   simp only
   rw[zK,zK,if_pos (by omega),if_pos ⟨by omega,by omega⟩,qOV,J3 best hi,qOS,if_pos ⟨by omega,by omega⟩,if_pos (by omega),hw,Jx]
   rw[ql9 (fun k=>decide (least≤best k)) false h1]) (by
   unfold QX
   simp only
   rw[zK,if_neg (by omega)]
   congr 2
   refine q0E fun k hk=>?_
   by_cases h:k=0
   ·subst h;simp
   ·rw[if_pos ⟨by omega,hk⟩];simp[h])
 rw[q4C]
 have e:(fun k:Nat=>if 1≤k∧k<1 then decide (least≤best k) else false)=fun _=>false:=by funext k;rw[if_neg (by omega)]
 rw[e] at h1
 exact h1
theorem qk7 (rF:(qb×List Int×List qa×Int×qg)→Option (List Bool×List Int×List qa×Int×qg)) (d:List Int) (hd:d.length≤16) (s:qg) (l:List qa) (hl:l.length≤16) (n:qb) (hn:n.Set.length≤1000000) (nx:Nat) (hnx:nx≤1000000) (step:List Bool×Int→Option ((List Bool×Int)⊕List Bool))
  (hst:step=(if n.Kind=1 then ZP rF d l (nx:Int) s n else ZM rF d l (nx:Int) s n)) (hN:N≤65536) (hN1:1≤N) :
  zB step (List.replicate N false,1)=some (Zk N (q24 d s l n nx)):=by
 have h1:=q2o (step:=step) (fun i=>(Zk N (fun k=>if 1≤k∧k<i then q24 d s l n nx k else false),(i:Int))) 1 N hN1 (e:=Zk N (q24 d s l n nx)) (fun i h1 hi=>by
   have hw:w64 ((i:Int)+1)=((i+1:Nat):Int):=Qi hi (by omega)
   have hc:Zk N (qba (fun k=>if 1≤k∧k<i then q24 d s l n nx k else false) i (q24 d s l n nx i))=Zk N (fun k=>if 1≤k∧k<i+1 then q24 d s l n nx k else false):=by
    rw[ql9 (q24 d s l n nx) false h1]
   have hz:decide (i≠0)=true:=qPT (by omega)
   have hwg:=qkI n (by omega) s l (by omega) i (by omega)
   have hal:=ql2 d hd nx i (by omega)
   have hv:q24 d s l n nx i=(alF d nx i&&qe8 n (wgF n s i l 0 ld0)):=by unfold q24;rw[hz];simp
   have m1:n.Kind=1→Q4 (wgF n s i l 0 ld0) n=qe8 n (wgF n s i l 0 ld0):=fun hk=>by
    unfold Q4 qe8
    rw[if_pos hk]
    cases(wgF n s i l 0 ld0).fine<;>simp
   have m2:n.Kind≠1→Qx (wgF n s i l 0 ld0) n=qe8 n (wgF n s i l 0 ld0):=fun hk=>by
    unfold Qx qe8
    rw[if_neg hk]
    cases(wgF n s i l 0 ld0).fine
    ·simp
    ·by_cases h:0<(wgF n s i l 0 ld0).many<;>simp[h]
   rw[hst]
   by_cases hk:n.Kind=1
   ·rw[if_pos hk]
    unfold ZP
    simp only
    rw[zK,if_pos (by omega),hal,qOS]
    cases ha:alF d nx i
    ·rw[if_neg (by simp),if_pos ⟨by omega,by omega⟩,qOV,if_pos (by omega),hw,Jx,←hc,hv,ha,qPV]
    ·rw[if_pos rfl,hwg,qOS,if_pos ⟨by omega,by omega⟩,qOV,if_pos (by omega),hw,m1 hk,Jx,←hc,hv,ha,qPp]
   ·rw[if_neg hk]
    unfold ZM
    simp only
    rw[zK,if_pos (by omega),hal,qOS]
    cases ha:alF d nx i
    ·rw[if_neg (by simp),if_pos ⟨by omega,by omega⟩,qOV,if_pos (by omega),hw,Jx,←hc,hv,ha,qPV]
    ·rw[if_pos rfl,hwg,qOS,if_pos ⟨by omega,by omega⟩,qOV,if_pos (by omega),hw,m2 hk,Jx,←hc,hv,ha,qPp]) (by
   have hend:some (Sum.inr (α:=List Bool×Int) (Zk N (fun k=>if 1≤k∧k<N then q24 d s l n nx k else false)))=some (Sum.inr (Zk N (q24 d s l n nx))):=by
    congr 2
    refine q0E fun k hk=>?_
    by_cases h:k=0
    ·subst h;simp[q24]
    ·rw[if_pos ⟨by omega,hk⟩]
   rw[hst]
   by_cases hk:n.Kind=1
   ·rw[if_pos hk]
    unfold ZP
    simp only
    rw[zK,if_neg (by omega)]
    exact hend
   ·rw[if_neg hk]
    unfold ZM
    simp only
    rw[zK,if_neg (by omega)]
    exact hend)
 rw[q4C]
 have e:(fun k:Nat=>if 1≤k∧k<1 then q24 d s l n nx k else false)=fun _=>false:=by funext k;rw[if_neg (by omega)]
 rw[e] at h1
 exact h1
end
end
noncomputable section
open Go.RowKit
theorem qdX (N:Nat) (d:List Int) (s:qg) (l:List qa) (n:qb) (nx:Nat):Zk N (QO d s l n nx)=if n.Kind=1∨n.Kind=2 then Zk N (q24 d s l n nx) else Zk N (fun k=>decide (k≠0)&&decide ((if n.Kind=3 then(n.L.length:Int) else n.N)≤qbg d s l (n.Kind==4) n.L nx b0F k)):=by
 have:QO d s l n nx=fun k=>QO d s l n nx k:=rfl
 by_cases h:n.Kind=1∨n.Kind=2
 ·rw[if_pos h];refine q0E fun k _=>?_;rw[qch,if_pos h]
 ·rw[if_neg h];refine q0E fun k _=>?_;rw[qch,if_neg h]
theorem qpe (d:List Int) (hd:d=[]) (s:qg) (l:List qa) (hl:l.length≤16) (n:qb) (hLn:n.L.length≤1000000)
  (hP:∀y∈n.L,∀nx:Nat,nx+(ndN y).length≤100000→Qn (y,l,(nx:Int),s)=some (Zk (2 ^ l.length) (QO d s l y nx),l,((nx+lvN y:Nat):Int),s)) (w9:List Bool) :
  ∀(r:List qb) (i nx:Nat) (best:Nat→Int) (M:Int),r.length+i=n.L.length→(∀j,r[j]?=n.L[i+j]?)→nx+(ndL r).length≤100000→Bnd best (2 ^ l.length) M→0≤M→M+r.length≤100000→
  zB (Zw Qn w9 n n.L (n.L.length:Int)) (Zk (2 ^ l.length) best,l,(nx:Int),s,(i:Int))=some ((Zk (2 ^ l.length) (qbg d s l (n.Kind==4) r nx best),l,((nx+lvL r:Nat):Int),s)):=by
 intro r
 induction r with
 | nil=>
  intro i nx best M hi _ _ _ _ _
  have hi:i=n.L.length:=by simpa using hi
  subst hi
  refine zA ?_
  unfold Zw
  simp only
  rw[if_neg (by omega),lvL,Nat.add_zero]
  rfl
 | cons y r ih=>
  intro i nx best M hi hr hnx hb hM0 hM
  rw[ndL,qOZ] at hnx
  have hlv:=qlg y
  simp only[qP3,Int.natCast_add,Int.natCast_one] at hM hi
  have hget:n.L[i]?=some y:=by have:=hr 0;simpa using this.symm
  have hlt:i<n.L.length:=Jf hget
  have hN:2 ^ l.length≤65536:=qPt (Nat.pow_le_pow_right (by decide) hl) (by decide)
  have hN1:1≤2 ^ l.length:=Nat.one_le_two_pow
  have hcall:=hP y (qOT hget) nx (by omega)
  have hw:w64 ((i:Int)+1)=((i+1:Nat):Int):=Qi hlt (by omega)
  have hstep:Zw Qn w9 n n.L (n.L.length:Int) (Zk (2 ^ l.length) best,l,(nx:Int),s,(i:Int))=some (.inl (Zk (2 ^ l.length) (stF (n.Kind==4 && !foF d nx (nx+lvN y)) (QO d s l y nx) best),l,((nx+lvN y:Nat):Int),s,((i+1:Nat):Int))):=by
   unfold Zw
   simp only
   rw[if_pos (by omega),if_pos ⟨by omega,by omega⟩,qOV,hget,qOS,hcall,qOS]
   simp only[zK]
   have hfo:foF d nx (nx+lvN y)=false:=by rw[hd];rfl
   cases hk4:(n.Kind==4)
   ·rw[if_neg (by simp),if_pos ⟨by omega,by omega,by omega⟩,qm7 (M:=M) Qn hN (by omega) hb,qOS,hw,qPV]
   ·rw[if_pos rfl,if_pos ⟨by omega,by omega,by omega⟩,qm7 (M:=M) Qn hN (by omega) hb,qOS,hw,hfo]
    rfl
  rw[Q1 hstep,ih (i+1) _ _ (M+1) (by omega) (fun j=>by rw[show i+1+j=i+(j+1) by omega,←hr (j+1)];rfl) (by omega) (qnz hb (by omega)) (by omega) (by omega)]
  rw[lvL,←qPM]
  rfl
theorem qoC (d:List Int) (hd:d=[]) (s:qg) (l:List qa) (hl:l.length≤16):∀(m:Nat) (n:qb),(ndN n).length≤m→(ndN n).length≤10000→(∀y∈ndN n,y.Set.length≤1000000)→∀nx:Nat,nx+(ndN n).length≤100000→Qn (n,l,(nx:Int),s)=some (Zk (2 ^ l.length) (QO d s l n nx),l,((nx+lvN n:Nat):Int),s):=by
 intro m
 induction m with
 | zero=>intro n h;rw[q03] at h;simp at h
 | succ m ih=>
  intro n h1 h2 h3 nx hnx
  have hN:2 ^ l.length≤65536:=qPt (Nat.pow_le_pow_right (by decide) hl) (by decide)
  have hN1:1≤2 ^ l.length:=Nat.one_le_two_pow
  have hlv:=qlg n
  have hset:=h3 n (by rw[q03];exact qP7)
  have hsub:∀(L:List qb),(ndL L).length≤m→(ndL L).length≤10000→(∀y∈ndL L,y.Set.length≤1000000)→∀y∈L,∀nx:Nat,nx+(ndN y).length≤100000→Qn (y,l,(nx:Int),s)=some (Zk (2 ^ l.length) (QO d s l y nx),l,((nx+lvN y:Nat):Int),s):=by
   intro L
   induction L with
   | nil=>intro _ _ _ y hy;simp at hy
   | cons x L ihl=>
    intro g1 g2 g3 y hy
    rw[ndL,qOZ] at g1 g2
    rw[ndL] at g3
    rcases qPe.1 hy with rfl|hy
    ·exact ih _ (by omega) (by omega) fun z hz=>g3 z (qP4 _ hz)
    ·exact ihl (by omega) (by omega) (fun z hz=>g3 z (qP1 _ hz)) y hy
  have e0:ndN n=n::ndL n.L:=q03 n
  have hlen:(ndN n).length=(ndL n.L).length+1:=by rw[e0];rfl
  have hP:=hsub n.L (by omega) (by omega) fun y hy=>h3 y (by rw[e0];exact qP0 _ hy)
  have hLlen:∀L:List qb,L.length≤(ndL L).length:=fun L=>by
   induction L with
   | nil=>simp
   | cons x L ihL=>rw[ndL,qOZ,qP3,q03,qP3];omega
  have hLl:=hLlen n.L
  have hpow:w64 ((1:Int)*(2:Int) ^ min l.length (IntKind.bits IntKind.i64))=((2 ^ l.length:Nat):Int):=by
   rw[show min l.length (IntKind.bits IntKind.i64)=l.length from Nat.min_eq_left (by show l.length≤64;omega),Int.one_mul,show((2:Int) ^ l.length)=((2 ^ l.length:Nat):Int) by simp]
   exact Z5 (by omega) (by omega)
  rw[qbt,q0J]
  rw[hpow,if_pos (by omega),if_pos ⟨by omega,by omega,by omega⟩,qOV,qbM,qdX]
  by_cases hlf:n.Kind=1∨n.Kind=2
  ·have e1:q9l n=true:=by unfold q9l;rcases hlf with h|h<;>simp[h]
   have e2:lvN n=1:=by rw[qcP,if_pos hlf]
   have hw2:w64 ((nx:Int)+1)=((nx+1:Nat):Int):=by rw[Z5 (by omega) (by omega)];omega
   rw[if_pos e1,if_pos hlf,e2]
   unfold q1a
   by_cases hk:n.Kind=1
   ·have hlt:=qje Qn d hd s l hl n hset nx (by omega) _ (if_pos hk).symm hN hN1
    rw[if_pos (by simpa using hk),qOS,Sum.elim_inl,hlt,qOS,hw2]
   ·have hlt:=qje Qn d hd s l hl n hset nx (by omega) _ (if_neg hk).symm hN hN1
    rw[if_neg (by simpa using hk),qOS,Sum.elim_inr,hlt,qOS,hw2]
  ·have e1:q9l n=false:=by unfold q9l;have h1:n.Kind≠1:=fun h=>hlf (.inl h);have h2:n.Kind≠2:=fun h=>hlf (.inr h);simp[h1,h2]
   have e2:lvN n=lvL n.L:=by rw[qcP,if_neg hlf]
   have hb0:Bnd b0F (2 ^ l.length) 0:=fun k _=>by unfold b0F;split<;>omega
   have hch:=qpe d hd s l hl n (by omega) hP (List.replicate (2 ^ l.length) false) n.L 0 nx b0F 0 (by simp) (by simp) (by omega) hb0 (by omega) (by omega)
   rw[e1,if_neg (by simp),if_neg hlf,e2,if_pos ⟨by omega,by omega,by omega⟩]
   rw[qvo Qn hN hN1,qOS]
   change Option.bind (zB _ (Zk (2 ^ l.length) b0F,l,(nx:Int),s,((0:Nat):Int))) _=_
   rw[hch,qOS]
   simp only
   by_cases hk:n.Kind=3
   ·rw[if_pos (by simpa using hk),qoi Qn hN hN1,qOS]
    simp only[if_pos hk]
   ·rw[if_neg (by simpa using hk),qoi Qn hN hN1,qOS]
    simp only[if_neg hk]
theorem qob (d:List Int) (hd:d.length≤16) (s:qg) (l:List qa) (hl:l.length≤16) (n:qb) (hLn:n.L.length≤1000000)
  (hP:∀y∈n.L,∀nx:Nat,nx+(ndN y).length≤100000→zO (y,d,l,(nx:Int),s)=some (Zk (2 ^ l.length) (QO d s l y nx),d,l,((nx+lvN y:Nat):Int),s)) (w9:List Bool) :
  ∀(r:List qb) (i nx:Nat) (best:Nat→Int) (M:Int),r.length+i=n.L.length→(∀j,r[j]?=n.L[i+j]?)→nx+(ndL r).length≤100000→Bnd best (2 ^ l.length) M→0≤M→M+r.length≤100000→
  zB (QY zO w9 n n.L (n.L.length:Int)) (d,Zk (2 ^ l.length) best,l,(nx:Int),s,(i:Int))=some ((d,Zk (2 ^ l.length) (qbg d s l (n.Kind==4) r nx best),l,((nx+lvL r:Nat):Int),s)):=by
 intro r
 induction r with
 | nil=>
  intro i nx best M hi _ _ _ _ _
  have hi:i=n.L.length:=by simpa using hi
  subst hi
  refine zA ?_
  unfold QY
  simp only
  rw[if_neg (by omega),lvL,Nat.add_zero]
  rfl
 | cons y r ih=>
  intro i nx best M hi hr hnx hb hM0 hM
  rw[ndL,qOZ] at hnx
  have hlv:=qlg y
  simp only[qP3,Int.natCast_add,Int.natCast_one] at hM hi
  have hget:n.L[i]?=some y:=by have:=hr 0;simpa using this.symm
  have hlt:i<n.L.length:=Jf hget
  have hN:2 ^ l.length≤65536:=qPt (Nat.pow_le_pow_right (by decide) hl) (by decide)
  have hN1:1≤2 ^ l.length:=Nat.one_le_two_pow
  have hcall:=hP y (qOT hget) nx (by omega)
  have hw:w64 ((i:Int)+1)=((i+1:Nat):Int):=Qi hlt (by omega)
  have hstep:QY zO w9 n n.L (n.L.length:Int) (d,Zk (2 ^ l.length) best,l,(nx:Int),s,(i:Int))=some (.inl (d,Zk (2 ^ l.length) (stF (n.Kind==4 && !foF d nx (nx+lvN y)) (QO d s l y nx) best),l,((nx+lvN y:Nat):Int),s,((i+1:Nat):Int))):=by
   unfold QY
   simp only
   rw[if_pos (by omega),if_pos ⟨by omega,by omega⟩,qOV,hget,qOS,hcall,qOS]
   simp only[zK]
   cases hk4:(n.Kind==4)
   ·rw[if_neg (by simp),if_pos ⟨by omega,by omega,by omega⟩,qoH (M:=M) zO hN (by omega) hb,qOS,hw,qPV]
   ·rw[if_pos rfl,qmb d hd nx (nx+lvN y),qOS,if_pos ⟨by omega,by omega,by omega⟩,qoH (M:=M) zO hN (by omega) hb,qOS,hw,qPp]
  rw[Q1 hstep,ih (i+1) _ _ (M+1) (by omega) (fun j=>by rw[show i+1+j=i+(j+1) by omega,←hr (j+1)];rfl) (by omega) (qnz hb (by omega)) (by omega) (by omega)]
  rw[lvL,←qPM]
  rfl
theorem qnt (d:List Int) (hd:d.length≤16) (s:qg) (l:List qa) (hl:l.length≤16):∀(m:Nat) (n:qb),(ndN n).length≤m→(ndN n).length≤10000→(∀y∈ndN n,y.Set.length≤1000000)→∀nx:Nat,nx+(ndN n).length≤100000→zO (n,d,l,(nx:Int),s)=some (Zk (2 ^ l.length) (QO d s l n nx),d,l,((nx+lvN n:Nat):Int),s):=by
 intro m
 induction m with
 | zero=>intro n h;rw[q03] at h;simp at h
 | succ m ih=>
  intro n h1 h2 h3 nx hnx
  have hN:2 ^ l.length≤65536:=qPt (Nat.pow_le_pow_right (by decide) hl) (by decide)
  have hN1:1≤2 ^ l.length:=Nat.one_le_two_pow
  have hlv:=qlg n
  have hset:=h3 n (by rw[q03];exact qP7)
  have hsub:∀(L:List qb),(ndL L).length≤m→(ndL L).length≤10000→(∀y∈ndL L,y.Set.length≤1000000)→∀y∈L,∀nx:Nat,nx+(ndN y).length≤100000→zO (y,d,l,(nx:Int),s)=some (Zk (2 ^ l.length) (QO d s l y nx),d,l,((nx+lvN y:Nat):Int),s):=by
   intro L
   induction L with
   | nil=>intro _ _ _ y hy;simp at hy
   | cons x L ihl=>
    intro g1 g2 g3 y hy
    rw[ndL,qOZ] at g1 g2
    rw[ndL] at g3
    rcases qPe.1 hy with rfl|hy
    ·exact ih _ (by omega) (by omega) fun z hz=>g3 z (qP4 _ hz)
    ·exact ihl (by omega) (by omega) (fun z hz=>g3 z (qP1 _ hz)) y hy
  have e0:ndN n=n::ndL n.L:=q03 n
  have hlen:(ndN n).length=(ndL n.L).length+1:=by rw[e0];rfl
  have hP:=hsub n.L (by omega) (by omega) fun y hy=>h3 y (by rw[e0];exact qP0 _ hy)
  have hLlen:∀L:List qb,L.length≤(ndL L).length:=fun L=>by
   induction L with
   | nil=>simp
   | cons x L ihL=>rw[ndL,qOZ,qP3,q03,qP3];omega
  have hLl:=hLlen n.L
  have hpow:w64 ((1:Int)*(2:Int) ^ min l.length (IntKind.bits IntKind.i64))=((2 ^ l.length:Nat):Int):=by
   rw[show min l.length (IntKind.bits IntKind.i64)=l.length from Nat.min_eq_left (by show l.length≤64;omega),Int.one_mul,show((2:Int) ^ l.length)=((2 ^ l.length:Nat):Int) by simp]
   exact Z5 (by omega) (by omega)
  rw[q9s,q07]
  rw[hpow,if_pos (by omega),if_pos ⟨by omega,by omega,by omega⟩,qOV,qbM,qdX]
  by_cases hlf:n.Kind=1∨n.Kind=2
  ·have e1:q9l n=true:=by unfold q9l;rcases hlf with h|h<;>simp[h]
   have e2:lvN n=1:=by rw[qcP,if_pos hlf]
   have hw2:w64 ((nx:Int)+1)=((nx+1:Nat):Int):=by rw[Z5 (by omega) (by omega)];omega
   rw[if_pos e1,if_pos hlf,e2]
   unfold q1a
   by_cases hk:n.Kind=1
   ·have hlt:=qk7 zO d hd s l hl n hset nx (by omega) _ (if_pos hk).symm hN hN1
    rw[if_pos (by simpa using hk),qOS,Sum.elim_inl,hlt,qOS,hw2]
   ·have hlt:=qk7 zO d hd s l hl n hset nx (by omega) _ (if_neg hk).symm hN hN1
    rw[if_neg (by simpa using hk),qOS,Sum.elim_inr,hlt,qOS,hw2]
  ·have e1:q9l n=false:=by unfold q9l;have h1:n.Kind≠1:=fun h=>hlf (.inl h);have h2:n.Kind≠2:=fun h=>hlf (.inr h);simp[h1,h2]
   have e2:lvN n=lvL n.L:=by rw[qcP,if_neg hlf]
   have hb0:Bnd b0F (2 ^ l.length) 0:=fun k _=>by unfold b0F;split<;>omega
   have hch:=qob d hd s l hl n (by omega) hP (List.replicate (2 ^ l.length) false) n.L 0 nx b0F 0 (by simp) (by simp) (by omega) hb0 (by omega) (by omega)
   rw[e1,if_neg (by simp),if_neg hlf,e2,if_pos ⟨by omega,by omega,by omega⟩]
   rw[qwO zO hN hN1,qOS]
   change Option.bind (zB _ (d,Zk (2 ^ l.length) b0F,l,(nx:Int),s,((0:Nat):Int))) _=_
   rw[hch,qOS]
   simp only
   by_cases hk:n.Kind=3
   ·rw[if_pos (by simpa using hk),qnl zO hN hN1,qOS]
    simp only[if_pos hk]
   ·rw[if_neg (by simpa using hk),qnl zO hN hN1,qOS]
    simp only[if_neg hk]
end
noncomputable section
open Go.RowKit
structure q0x (d:qi):Prop where
 lo:0≤d.At
 hi:d.At≤d.L.length
 len:d.L.length≤9223372036854775807
theorem q2r {d:qi} (h:q0x d) {most:Int} (h0:0<most) (h1:most≤1000000):∃v d',qs most d=some (v,d')∧0≤v∧v<most∧q0x d':=by
 obtain⟨a,b,c⟩:=h
 unfold qs
 by_cases he:(d.L.length:Int)≤d.At
 ·exact⟨0,d,if_pos he,Int.le_refl _,h0,⟨a,b,c⟩⟩
 ·obtain⟨x,hx⟩:∃x,d.L[Int.toNat d.At]?=some x:=⟨_,qOU (by omega)⟩
  have e1:=Int.tmod_lt_of_pos x h0
  have e2 : -most<Int.tmod x most:=by
   have:=Int.tmod_lt_of_pos (-x) h0
   rw[Int.neg_tmod] at this;omega
  have e3:w64 (Int.tmod x most+most)=Int.tmod x most+most:=Z5 (by omega) (by omega)
  have e4:=Int.tmod_lt_of_pos (Int.tmod x most+most) h0
  have e5:0≤Int.tmod (Int.tmod x most+most) most:=Int.tmod_nonneg _ (by omega)
  have e6:w64 (d.At+1)=d.At+1:=Z5 (by omega) (by omega)
  refine⟨Int.tmod (Int.tmod x most+most) most,⟨d.L,d.At+1⟩,?_,e5,e4,⟨by show 0≤d.At+1;omega,by show d.At+1≤d.L.length;omega,c⟩⟩
  rw[if_neg he,if_pos ⟨a,by omega⟩,hx,qOS,if_neg (by omega),if_neg (by omega),e3,e6]
def q8Y:List Int:=[1,1,1,2,2,3]
def q5P (c:qc):Prop:=c.School∈q8Y∧c.Code∈Q6
theorem qlP {α:Type} (l:List α) (i:Int) (h0:0≤i) (h1:i<l.length):∃x,l[Int.toNat i]?=some x∧x∈l:=⟨l[Int.toNat i],qOU (by omega),qPK _⟩
theorem qiR {d:qi} (h:q0x d):∃c d',JZ d=some (c,d')∧q5P c∧q0x d':=by
 obtain⟨v,d1,e1,a1,b1,h1⟩:=q2r h (most:=6) (by omega) (by omega)
 obtain⟨w,d2,e2,a2,b2,h2⟩:=q2r h1 (most:=((Q6.length:Nat):Int)) (by unfold Q6;simp) (by unfold Q6;simp)
 obtain⟨x,hx,mx⟩:=qlP q8Y v a1 (by simpa [q8Y] using b1)
 obtain⟨y,hy,my⟩:=qlP Q6 w a2 b2
 refine⟨⟨x,y⟩,d2,?_,⟨mx,my⟩,h2⟩
 unfold JZ
 rw[e1,qOS,if_pos ⟨a1,b1⟩]
 unfold q8Y at hx
 rw[hx,qOS,e2,qOS,if_pos ⟨a2,b2⟩,hy,qOS]
theorem qaO {c:qc} (h:q5P c):q0Z c=true:=by
 obtain⟨s,k⟩:=c
 obtain⟨h1,h2⟩:=h
 have e1:∀s∈q8Y,inF s 1 8=true:=by decide
 have e2:∀k∈Q6,qrM k=true:=by unfold Q6;decide
 unfold q0Z
 rw[e1 s h1,e2 k h2];rfl
theorem qtl:∀(x y:List UInt8),Op.bytesLess x y=true∨x=y∨Op.bytesLess y x=true
 | [],[] => .inr (.inl rfl)
 | [],_::_ => .inl rfl
 | _::_,[] => .inr (.inr rfl)
 | a::x,b::y=>by
  simp only[Op.bytesLess]
  by_cases h1:a<b
  ·simp[h1]
  ·by_cases h2:b<a
   ·simp[h1,h2]
   ·have:a=b:=by
     apply UInt8.toNat_inj.1
     have h1':¬ a.toNat<b.toNat:=h1
     have h2':¬ b.toNat<a.toNat:=h2
     omega
    subst this
    rcases qtl x y with h|h|h<;>simp[h]
def q46 (a b:qc):Bool:=Qo a b
theorem qk5 (a b:qc):q46 a b=decide (qtM a b<0):=by
 unfold q46 Qo qtM qeJ qEP
 by_cases h1:a.School<b.School
 ·rw[if_pos h1,if_pos (by omega),if_pos h1];rfl
 ·rw[if_neg h1]
  by_cases h2:a.School=b.School
  ·rw[if_pos (by simpa using h2),if_neg (fun h=>h h2)]
   cases h3:Op.bytesLess a.Code.toList b.Code.toList
   ·cases h4:(a.Code.toList==b.Code.toList)<;>simp
   ·simp
  ·rw[if_neg (by simpa using h2),if_pos h2,if_neg h1,if_pos (by omega)];rfl
theorem qqG (a b:qc):q46 a b=true∨ceq a b=true∨q46 b a=true:=by
 unfold q46 Qo ceq
 by_cases h1:a.School<b.School
 ·simp[h1]
 ·by_cases h2:b.School<a.School
  ·simp[h2]
  ·have h3:a.School=b.School:=by omega
   rcases qtl a.Code.toList b.Code.toList with h|h|h
   ·left;simp[h3,h]
   ·right;left;simp[h3,h]
   ·right;right;simp[h3,h]
def qit {α:Type} (l:List α) (k:Nat) (c:α):List α:=l.take k++c::l.drop k
theorem qt2 {α:Type}:∀(ys l:List α) (k:Nat),k+ys.length≤l.length→spl l k ys=l.take k++(ys++l.drop (k+ys.length))
 | [],l,k,_=>by rw[spl,qPC,Nat.add_zero,qPc,qPH]
 | x::ys,l,k,h=>by
  simp only[qP3] at h ⊢
  rw[spl,qt2 ys (l.set k x) (k+1) (by rw[qPE];omega)]
  have e:l.set k x=l.take k++x::l.drop (k+1):=by rw[List.set_eq_take_append_cons_drop,if_pos (by omega)]
  have hl:(l.take k).length=k:=by rw[qPl];omega
  have e1:(l.set k x).take (k+1)=l.take k++[x]:=by
   rw[e,List.take_append,hl,qQ0 (by omega),show k+1-k=1 by omega];rfl
  have e2:(l.set k x).drop (k+1+ys.length)=l.drop (k+(ys.length+1)):=by
   rw[e,List.drop_append,hl,qPz (by omega),qPc,show k+1+ys.length-k=ys.length+1 by omega,List.drop_succ_cons,qPG]
   congr 1;omega
  rw[e1,e2,qPy]
  rfl
theorem qow {α:Type} (l:List α) (z c:α) (k:Nat) (h:k<l.length):List.set (spl (l++[z]) (k+1) (List.take (min (l.length+1-k) (l.length+1-(k+1))) (List.take (l.length+1-k) (List.drop k (l++[z]))))) k c=qit l k c:=by
 have e1:List.take (min (l.length+1-k) (l.length+1-(k+1))) (List.take (l.length+1-k) (List.drop k (l++[z])))=l.drop k:=by
  rw[List.take_take,List.drop_append_of_le_length (by omega),show min (min (l.length+1-k) (l.length+1-(k+1))) (l.length+1-k)=l.length-k by omega,List.take_append_of_le_length (by rw[qPF];omega),qQ0 (by rw[qPF];omega)]
 rw[e1,qt2 _ _ _ (by rw[qPF,qOZ,qPa];omega)]
 unfold qit
 have e2:List.drop (k+1+(l.length-k)) (l++[z])=[]:=qPz (by rw[qOZ,qPa];omega)
 rw[qPF,e2,qPd,List.take_append_of_le_length (by omega)]
 rw[List.take_add_one,qOU h,Option.toList_some,qPy,List.set_append_right _ _ (by rw[qPl];omega),qPl,Nat.min_eq_left (by omega),Nat.sub_self]
 rfl
theorem qjq {α:Type} (l:List α) (z c:α):List.set (l++[z]) l.length c=qit l l.length c:=by
 unfold qit
 rw[List.set_append_right _ _ (qP8 _),Nat.sub_self,List.take_length,List.drop_length]
 rfl
end
noncomputable section
open Go.RowKit
structure qaR (l:List qc):Prop where
 ok:∀c∈l,q5P c
 ord:qh0 l=true
theorem q5t {x y:qc} {l:List qc}:qh0 (x::y::l)=(q46 x y&&qh0 (y::l)):=by rw[qh0,qk5]
theorem qlR {x:qc} {l:List qc} (h:qh0 (x::l)=true):qh0 l=true:=by
 cases l with
 | nil=>rfl
 | cons y l=>rw[q5t,qPo] at h;exact h.2
def atF (l:List qc) (c:qc):Nat:=(l.takeWhile fun x=>q46 x c).length
theorem qnc (l:List qc) (c:qc):atF l c≤l.length:=by
 unfold atF
 induction l with
 | nil=>simp
 | cons x l ih=>rw[List.takeWhile_cons];split<;>simp<;>omega
theorem qo0 {c:qc}:∀{l:List qc},qh0 l=true→(∀x,l[atF l c]?=some x→ceq x c=false)→qh0 (qit l (atF l c) c)=true
 | [],_,_=>rfl
 | x::l,h,hc=>by
  by_cases hx:q46 x c=true
  ·have e:atF (x::l) c=atF l c+1:=by unfold atF;rw[List.takeWhile_cons,if_pos hx];rfl
   rw[e] at hc ⊢
   have ih:=qo0 (qlR h) (fun y hy=>hc y (by simpa using hy))
   have e2:qit (x::l) (atF l c+1) c=x::qit l (atF l c) c:=rfl
   rw[e2]
   cases l with
   | nil=>rw[show qit ([]:List qc) (atF [] c) c=[c] from rfl,q5t,hx];rfl
   | cons y l=>
    rw[q5t,qPo] at h
    by_cases hy:q46 y c=true
    ·have e3:atF (y::l) c=atF l c+1:=by unfold atF;rw[List.takeWhile_cons,if_pos hy];rfl
     rw[e3] at ih ⊢
     have e4:qit (y::l) (atF l c+1) c=y::qit l (atF l c) c:=rfl
     rw[e4] at ih ⊢
     rw[q5t,h.1,ih];rfl
    ·have e3:atF (y::l) c=0:=by unfold atF;rw[List.takeWhile_cons,if_neg hy];rfl
     rw[e3] at ih ⊢
     have e4:qit (y::l) 0 c=c::y::l:=rfl
     rw[e4] at ih ⊢
     rw[q5t,hx,ih];rfl
  ·have e:atF (x::l) c=0:=by unfold atF;rw[List.takeWhile_cons,if_neg hx];rfl
   rw[e] at hc ⊢
   have e2:qit (x::l) 0 c=c::x::l:=rfl
   rw[e2,q5t]
   have h1:=hc x (by simp)
   rcases qqG x c with h2|h2|h2
   ·exact absurd h2 hx
   ·rw[h2] at h1;cases h1
   ·rw[h2,h];rfl
theorem qxC (out:List qc) (hl:out.length≤1000000) (d:qi) (c:qc) (many k:Int):zB (JY out d c many k) 0=some ((atF out c:Nat):Int):=by
 have h1:=q2d (ε:=Int) (step:=JY out d c many k) out (fun(_:Unit) i=>(i:Int)) (fun i _ x=>if q46 x c=true then .inl () else .inr (i:Int)) (fun _=>(out.length:Int)) (fun _ i x hx=>by
   have hi:=Jf hx
   unfold JY
   rw[if_pos (by omega),if_pos ⟨by omega,by omega⟩,qOV,hx,qOS,Qi hi (by omega)]
   show(if q46 x c=true then _ else _)=_
   cases q46 x c<;>simp) (fun _=>by
   unfold JY
   rw[if_neg (by omega)]) ()
 rw[show((0:Nat):Int)=0 from rfl] at h1
 rw[h1]
 congr 1
 have:∀(l:List qc) (i:Nat) (n:Nat),i+l.length=n→q4x (ε:=Int) (fun i (_:Unit) (x:qc)=>if q46 x c=true then .inl () else .inr (i:Int)) (fun _=>(n:Int)) l i ()=((i+atF l c:Nat):Int):=by
  intro l
  induction l with
  | nil=>intro i n h;simp at h;unfold q4x atF;simp[h]
  | cons x l ih=>
   intro i n h
   simp only[qP3] at h
   unfold q4x
   by_cases hx:q46 x c=true
   ·have e:atF (x::l) c=atF l c+1:=by unfold atF;rw[List.takeWhile_cons,if_pos hx];rfl
    simp only[hx,if_true]
    rw[ih (i+1) n (by omega),e]
    omega
   ·have e:atF (x::l) c=0:=by unfold atF;rw[List.takeWhile_cons,if_neg hx];rfl
    have hx':q46 x c=false:=by simpa using hx
    simp only[hx',Bool.false_eq_true,if_false]
    rw[e];rfl
 have:=this out 0 out.length (by simp)
 simpa using this
def qiU (l:List qc) (c:qc):List qc:=if(l[atF l c]?).any (fun x=>ceq x c)=true then l else qit l (atF l c) c
theorem qhm (l:List qc) (c:qc):l.length≤(qiU l c).length∧(qiU l c).length≤l.length+1∧1≤(qiU l c).length:=by
 have h:=qnc l c
 unfold qiU
 split
 ·rename_i h2
  refine⟨qP8 _,by omega,?_⟩
  cases l with
  | nil=>simp at h2
  | cons x l=>simp
 ·unfold qit
  simp only[qOZ,qP3,qPl,qPF]
  omega
theorem qqi {l:List qc} {c:qc} (h:qaR l) (hc:q5P c):qaR (qiU l c):=by
 unfold qiU
 split
 ·exact h
 ·rename_i h2
  refine⟨fun x hx=>?_,qo0 h.ord fun x hx=>?_⟩
  ·unfold qit at hx
   rcases qPm.1 hx with hx|hx
   ·exact h.ok x (List.mem_of_mem_take hx)
   ·rcases qPe.1 hx with rfl|hx
    ·exact hc
    ·exact h.ok x (List.mem_of_mem_drop hx)
  ·rw[hx] at h2
   simpa using h2
theorem qoa (out:List qc) (hl:out.length≤1000) {d:qi} (hd:q0x d) (many:Int) (k:Nat) (hk:(k:Int)<many) (hk2:k≤1000):∃c d',q5P c∧q0x d'∧J5 many (out,d,(k:Int))=some (.inl (qiU out c,d',((k+1:Nat):Int))):=by
 obtain⟨c,d',h1,h2,h3⟩:=qiR hd
 refine⟨c,d',h2,h3,?_⟩
 have hML:100000≤maxLen:=by unfold maxLen;omega
 have hat:=qnc out c
 unfold J5
 simp only
 rw[if_pos hk,h1,qOS]
 simp only
 rw[qxC out (by omega),qOS]
 have hwk:w64 ((k:Int)+1)=((k+1:Nat):Int):=by rw[Z5 (by omega) (by omega)];omega
 have hwa:w64 (((atF out c:Nat):Int)+1)=((atF out c+1:Nat):Int):=by rw[Z5 (by omega) (by omega)];omega
 rw[hwk,hwa]
 simp only[qOV,qPl,qPF,qOZ,qP3,qPC]
 unfold qiU
 by_cases hlt:atF out c<out.length
 ·obtain⟨x,hx⟩:∃x,out[atF out c]?=some x:=⟨_,qOU hlt⟩
  rw[if_pos (by omega),if_pos ⟨by omega,by omega⟩,hx,qOS]
  simp only[Option.any_some]
  by_cases hc:ceq x c=true
  ·have hc2:=hc
   unfold ceq at hc2
   simp only[qPo] at hc2
   rw[if_pos hc2,if_pos hc]
  ·have hc2:¬ ((x.School==c.School)=true∧(x.Code.toList==c.Code.toList)=true):=fun h=>hc (by unfold ceq;rw[h.1,h.2];rfl)
   rw[if_neg hc2,if_neg hc]
   repeat (first|rw[if_pos (by omega)]|rw[if_neg (by omega)])
   rw[qow _ _ _ _ hlt]
 ·have he:atF out c=out.length:=by omega
  have hnone:out[out.length]?=none:=qPq (qP8 _)
  rw[he,hnone]
  simp only[Option.any_none,Bool.false_eq_true,if_false]
  repeat (first|rw[if_pos (by omega)]|rw[if_neg (by omega)])
  rw[qjq]
theorem qJ6 {d:qi} (hd:q0x d):∃S d',Jp d=some (S,d')∧q0x d'∧qaR S∧1≤S.length∧S.length≤3:=by
 obtain⟨v,d1,e1,a1,b1,h1⟩:=q2r hd (most:=3) (by omega) (by omega)
 obtain⟨m,rfl⟩:∃m:Nat,v=(m:Int):=⟨v.toNat,by omega⟩
 have hw:w64 (1+(m:Int))=((m+1:Nat):Int):=by rw[Z5 (by omega) (by omega)];omega
 have key:∀(j k:Nat) (out:List qc) (d:qi),j+k=m+1→q0x d→qaR out→out.length≤k→(1≤k→1≤out.length)→∃S d',zB (J5 ((m+1:Nat):Int)) (out,d,(k:Int))=some (S,d')∧q0x d'∧qaR S∧1≤S.length∧S.length≤m+1:=by
  intro j
  induction j with
  | zero=>
   intro k out d hk hd hs hl1 hl2
   refine⟨out,d,zA ?_,hd,hs,hl2 (by omega),by omega⟩
   unfold J5
   simp only
   rw[if_neg (by omega)]
  | succ j ih=>
   intro k out d hk hd hs hl1 hl2
   obtain⟨c,d',g1,g2,g3⟩:=qoa out (by omega) hd ((m+1:Nat):Int) k (by omega) (by omega)
   obtain⟨p1,p2,p3⟩:=qhm out c
   rw[Q1 g3]
   exact ih (k+1) _ d' (by omega) g2 (qqi hs g1) (by omega) (fun _=>p3)
 obtain⟨S,d',g1,g2,g3,g4,g5⟩:=key (m+1) 0 [] d1 (by omega) h1 ⟨by simp,rfl⟩ (by simp) (by omega)
 refine⟨S,d',?_,g2,g3,g4,by omega⟩
 unfold Jp
 rw[e1,qOS,hw]
 rw[show((0:Nat):Int)=0 from rfl] at g1
 simp only
 rw[g1,qOS]
end
noncomputable section
open Go.RowKit
structure qc5 (n:qb):Prop where
 kd:(n.Kind=2∧1≤n.N∧n.N≤12)∨(n.Kind=1∧n.N=0)
 mn:0≤n.Min∧n.Min≤80
 st:qaR n.Set
 s1:1≤n.Set.length
 s3:n.Set.length≤3
 nl:n.L=[]
structure qgQ (n:qb):Prop where
 kd:(n.Kind=3∧n.N=0)∨(n.Kind=4∧1≤n.N∧n.N≤n.L.length)
 mn:n.Min=0
 st:n.Set=[]
 ne:n.L≠[]
def q7I (n:qb):Prop:=qc5 n∨qgQ n
structure q6b (deep leaves:Nat) (n:qb):Prop where
 ok:∀y∈ndN n,q7I y
 hg:hgN n≤deep+1
 l1:1≤lvN n
 l2:lvN n≤max 1 leaves
 nd:(ndN n).length≤lvN n*(deep+1)
theorem qcE {n:qb} (h:qc5 n) (deep leaves:Nat):q6b deep leaves n:=by
 have e1:ndN n=[n]:=by rw[q03,h.nl,ndL]
 have e2:lvN n=1:=by rw[qcP,if_pos];rcases h.kd with h|h<;>simp[h.1]
 have e3:hgN n=1:=by rw[qe5,h.nl,hgL]
 refine⟨fun y hy=>?_,by omega,by omega,by omega,?_⟩
 ·rw[e1] at hy
  rw[qPJ.1 hy];exact .inl h
 ·rw[e1,e2,qPa];omega
def qma (d:qi):Option (qb×qi):=Option.bind (qs (3:Int) d) fun a3=>if(a3.1==(0:Int))=Bool.true then Option.bind (qs (12:Int) a3.2) fun a4=>Option.bind (qs (3:Int) a4.2) fun a5=>if(0:Int)≤a5.1∧a5.1<(3:Int) then Option.bind [(0:Int),(50:Int),(60:Int)][Int.toNat a5.1]? fun a6=>Option.bind (Jp a5.2) fun a7=>some (qb.mk (2:Int) (w64 ((1:Int)+a4.1)) a6 a7.1 [],a7.2) else none else Option.bind (qs (4:Int) a3.2) fun a8=>if(0:Int)≤a8.1∧a8.1<(4:Int) then Option.bind [(0:Int),(50:Int),(60:Int),(80:Int)][Int.toNat a8.1]? fun a9=>Option.bind (Jp a8.2) fun a10=>some (qb.mk (1:Int) (0:Int) a9 a10.1 [],a10.2) else none
theorem qky {d:qi} (hd:q0x d):∃n d',qma d=some (n,d')∧qc5 n∧q0x d':=by
 obtain⟨v,d1,e1,a1,b1,h1⟩:=q2r hd (most:=3) (by omega) (by omega)
 unfold qma
 rw[e1,qOS]
 simp only
 by_cases hv:v=0
 ·obtain⟨w,d2,e2,a2,b2,h2⟩:=q2r h1 (most:=12) (by omega) (by omega)
  obtain⟨u,d3,e3,a3,b3,h3⟩:=q2r h2 (most:=3) (by omega) (by omega)
  obtain⟨x,hx,mx⟩:=qlP [(0:Int),50,60] u a3 (by simpa using b3)
  obtain⟨S,d4,e4,h4,s1,s2,s3⟩:=qJ6 h3
  have hw:w64 (1+w)=1+w:=Z5 (by omega) (by omega)
  have hm:∀x∈[(0:Int),50,60],0≤x∧x≤80:=by decide
  refine⟨⟨2,1+w,x,S,[]⟩,d4,?_,⟨.inl ⟨rfl,by show 1≤1+w;omega,by show 1+w≤12;omega⟩,hm x mx,s1,s2,s3,rfl⟩,h4⟩
  rw[if_pos (by simp[hv]),e2,qOS]
  simp only
  rw[e3,qOS]
  simp only
  rw[if_pos ⟨a3,b3⟩,hx,qOS,e4,qOS,hw]
 ·obtain⟨u,d3,e3,a3,b3,h3⟩:=q2r h1 (most:=4) (by omega) (by omega)
  obtain⟨x,hx,mx⟩:=qlP [(0:Int),50,60,80] u a3 (by simpa using b3)
  obtain⟨S,d4,e4,h4,s1,s2,s3⟩:=qJ6 h3
  have hm:∀x∈[(0:Int),50,60,80],0≤x∧x≤80:=by decide
  refine⟨⟨1,0,x,S,[]⟩,d4,?_,⟨.inr ⟨rfl,rfl⟩,hm x mx,s1,s2,s3,rfl⟩,h4⟩
  rw[if_neg (by simpa using hv),e3,qOS]
  simp only
  rw[if_pos ⟨a3,b3⟩,hx,qOS,e4,qOS]
theorem qb4 (rF:(Int×Int×qi)→Option (qb×qi)) (x1 x2:Int) (v:qi):q1x rF (x1,x2,v)=(qs 6 v).bind fun a2=>
  if x1≤0 then qma a2.2 else if x2<2 then qma a2.2 else if a2.1<2 then qma a2.2 else
  Option.bind (qs (min (3:Int) x2) a2.2) fun a27=>
  Option.bind (zB (Zi rF (0:Int) (0:Int) (0:Int) (3:Int) (0:Int) (0:Int) x1 x2 a2.1 (w64 ((1:Int)+a27.1))) ([],(a27.2,(0:Int)))) fun a28=>
  if(3:Int)<a2.1 then Option.bind (qs (w64 ((1:Int)+a27.1)) a28.2) fun a29=>
   some (qb.mk (4:Int) (w64 ((1:Int)+a29.1)) (0:Int) [] a28.1,a29.2)
  else some (qb.mk (3:Int) (0:Int) (0:Int) [] a28.1,a28.2):=rfl
theorem qn2 {deep q:Nat} (hq:1≤q):∀(L:List qb),(∀y∈L,q6b deep q y)→hgL L≤deep+1∧L.length≤lvL L∧lvL L≤L.length*q∧(ndL L).length≤lvL L*(deep+1)∧∀y∈ndL L,q7I y
 | [],_=>⟨by simp[hgL],by simp[lvL],by simp[lvL],by simp[ndL],by simp[ndL]⟩
 | x::L,h=>by
  obtain⟨a,b,c,d,e⟩:=qn2 hq L fun y hy=>h y (qP0 _ hy)
  obtain⟨f,g,i,j,k⟩:=h x qP7
  rw[Nat.max_eq_right hq] at j
  refine⟨?_,?_,?_,?_,?_⟩
  ·rw[hgL];omega
  ·rw[lvL,qP3];omega
  ·rw[lvL,qP3,Nat.add_mul];omega
  ·rw[ndL,lvL,qOZ,Nat.add_mul];omega
  ·rw[ndL]
   intro y hy
   rcases qPm.1 hy with hy|hy
   ·exact f y hy
   ·exact e y hy
theorem qe6 {n:qb} (h:qgQ n) {deep leaves q:Nat} (hq:1≤q) (hk:n.L.length*q≤leaves) (hL:∀y∈n.L,q6b deep q y):q6b (deep+1) leaves n:=by
 obtain⟨a,b,c,d,e⟩:=qn2 hq n.L hL
 have hlen:1≤n.L.length:=by cases hn:n.L with|nil=>exact absurd hn h.ne|cons x l=>simp
 have e2:lvN n=lvL n.L:=by rw[qcP,if_neg];rcases h.kd with h|h<;>simp[h.1]
 refine⟨fun y hy=>?_,?_,by omega,by omega,?_⟩
 ·rw[q03] at hy
  rcases qPe.1 hy with rfl|hy
  ·exact .inr h
  ·exact e y hy
 ·rw[qe5];omega
 ·rw[q03,qP3,e2,show deep+1+1=(deep+1)+1 from rfl,Nat.mul_add];omega
theorem qop:∀(deep leaves:Nat) (d:qi),deep≤10→leaves≤100→q0x d→∃n d',ZR ((deep:Int),(leaves:Int),d)=some (n,d')∧q6b deep leaves n∧q0x d':=by
 intro deep
 induction deep with
 | zero=>
  intro leaves d _ _ hd
  obtain⟨v,d1,e1,a1,b1,h1⟩:=q2r hd (most:=6) (by omega) (by omega)
  obtain⟨n,d',g1,g2,g3⟩:=qky h1
  refine⟨n,d',?_,qcE g2 _ _,g3⟩
  rw[q6D,qb4,e1,qOS,if_pos (by omega)]
  exact g1
 | succ deep ih=>
  intro leaves d hdp hlv hd
  obtain⟨v,d1,e1,a1,b1,h1⟩:=q2r hd (most:=6) (by omega) (by omega)
  obtain⟨n0,d0,g1,g2,g3⟩:=qky h1
  rw[q6D,qb4,e1,qOS,if_neg (by omega)]
  by_cases hl:leaves<2
  ·exact⟨n0,d0,by rw[if_pos (by omega)];exact g1,qcE g2 _ _,g3⟩
  ·rw[if_neg (by omega)]
   by_cases hv:v<2
   ·exact⟨n0,d0,by rw[if_pos hv];exact g1,qcE g2 _ _,g3⟩
   ·rw[if_neg hv]
    clear g1 g2 g3 n0 d0
    obtain⟨w,d2,e2,a2,b2,h2⟩:=q2r h1 (most:=min 3 (leaves:Int)) (by omega) (by omega)
    simp only
    rw[e2,qOS]
    simp only
    obtain⟨m,hm⟩:∃m:Nat,(m:Int)=1+w:=⟨(1+w).toNat,by omega⟩
    have hw:w64 (1+w)=(m:Int):=by rw[Z5 (by omega) (by omega)];omega
    rw[hw]
    have hm1:1≤m:=by omega
    have hm3:m≤3:=by omega
    have hml:m≤leaves:=by omega
    obtain⟨q,hq⟩:∃q,q=leaves / m:=⟨_,rfl⟩
    have hq1:1≤q:=by rw[hq];exact(Nat.le_div_iff_mul_le (by omega)).2 (by omega)
    have hqm:m*q≤leaves:=by rw[hq];exact Nat.mul_div_le _ _
    have hq2:q≤leaves:=by rw[hq];exact Nat.div_le_self _ _
    have hML:100000≤maxLen:=by unfold maxLen;omega
    have hdiv:w64 (Int.tdiv (leaves:Int) (m:Int))=(q:Int):=by
     rw[←Int.ofNat_tdiv,←hq,Z5 (by omega) (by omega)]
    have hdeep:w64 (((deep+1:Nat):Int)-1)=(deep:Int):=by rw[Z5 (by omega) (by omega)];omega
    have key:∀(j i:Nat) (l:List qb) (d:qi),j+i=m→l.length=i→(∀y∈l,q6b deep q y)→q0x d→∃l' d',zB (Zi ZR 0 0 0 3 0 0 ((deep+1:Nat):Int) (leaves:Int) v (m:Int)) (l,d,(i:Int))=some (l',d')∧l'.length=m∧(∀y∈l',q6b deep q y)∧q0x d':=by
     intro j
     induction j with
     | zero=>
      intro i l d hi hl hy hd
      refine⟨l,d,zA ?_,by omega,hy,hd⟩
      unfold Zi
      simp only
      rw[if_neg (by omega)]
     | succ j ihj=>
      intro i l d hi hl hy hd
      obtain⟨n,d',q1,q2,q3⟩:=ih q d (by omega) (by omega) hd
      have hs:Zi ZR 0 0 0 3 0 0 ((deep+1:Nat):Int) (leaves:Int) v (m:Int) (l,d,(i:Int))=some (.inl (l++[n],d',((i+1:Nat):Int))):=by
       unfold Zi
       simp only
       rw[if_pos (by omega),if_neg (by omega),hdiv,hdeep,q1,qOS]
       simp only
       rw[if_pos ⟨by omega,by omega⟩,Z5 (by omega) (by omega)]
       rfl
      rw[Q1 hs]
      refine ihj (i+1) (l++[n]) d' (by omega) (by simp[hl]) (fun y hy2=>?_) q3
      rcases qPm.1 hy2 with h|h
      ·exact hy y h
      ·rw[qPJ.1 h];exact q2
    obtain⟨l,d3,q1,q2,q3,q4⟩:=key m 0 [] d2 (by omega) rfl (by simp) h2
    rw[show((0:Nat):Int)=0 from rfl] at q1
    rw[q1,qOS]
    have hne:l≠[]:=fun h=>by rw[h] at q2;simp at q2;omega
    by_cases hv3:(3:Int)<v
    ·obtain⟨u,d4,e4,a4,b4,h4⟩:=q2r q4 (most:=(m:Int)) (by omega) (by omega)
     have hwu:w64 (1+u)=1+u:=Z5 (by omega) (by omega)
     simp only
     rw[if_pos hv3,e4,qOS,hwu]
     exact⟨_,d4,rfl,qe6 (q:=q) ⟨.inr ⟨rfl,by show 1≤1+u;omega,by show 1+u≤(l.length:Int);omega⟩,rfl,rfl,hne⟩ hq1 (by show l.length*q≤leaves;rw[q2];exact hqm) q3,h4⟩
    ·simp only
     rw[if_neg hv3]
     exact⟨_,d3,rfl,qe6 (q:=q) ⟨.inl ⟨rfl,rfl⟩,rfl,rfl,hne⟩ hq1 (by show l.length*q≤leaves;rw[q2];exact hqm) q3,q4⟩
theorem qfR {n:qb} (h:qc5 n):q30 n=0:=by
 have h1:=h.s1
 have h3:=h.s3
 have hm:=h.mn
 have e1:inF n.Min (-1000) 1000=true:=by unfold inF;simp;omega
 have e2:inF n.Set.length 1 12=true:=by unfold inF;simp;omega
 have e3:n.Set.all q0Z=true:=qP9.2 fun c hc=>qaO (h.st.ok c hc)
 unfold q30
 rw[e1,e2,e3,h.st.ord]
 simp
theorem qmV {n:qb} (h:q7I n):q9c n=0:=by
 unfold q9c
 rcases h with h|h
 ·have hc:=qfR h
  rcases h.kd with ⟨k,a,b⟩|⟨k,a⟩
  ·have e:inF n.N 1 600=true:=by unfold inF;simp;omega
   simp[k,h.nl,e,hc]
  ·simp[k,h.nl,a,hc]
 ·have hb:q8P n=true:=by
   unfold q8P
   rw[h.mn,h.st]
   cases hL:n.L with
   | nil=>exact absurd hL h.ne
   | cons x l=>rfl
  rcases h.kd with ⟨k,a⟩|⟨k,a,b⟩
  ·simp[k,hb,a]
  ·have e:inF n.N 1 n.L.length=true:=by unfold inF;simp;omega
   simp[k,hb,e]
theorem qjr:∀(l:List qb),(∀y∈l,q9c y=0)→qt4 l=none
 | [],_=>rfl
 | x::l,h=>by
  unfold qt4
  rw[List.findSome?_cons,h x qP7]
  simp only[ne_eq,not_true_eq_false,if_false]
  exact qjr l fun y hy=>h y (qP0 _ hy)
theorem qGc:∀(n:qb) (d m:Int),dpN d n m≤max m (d+hgN n-1):=by
 intro n
 induction n using qb.rec (motive_2:=fun L=>∀(d m:Int),dpL d L m≤max m (d+hgL L-1)) with
 | mk k n m S L ih=>
  intro d mm
  rw[dpN,hgN]
  have:=ih (d+1) (max mm d)
  omega
 | nil=>rename_i d m;rw[dpL];omega
 | cons x L h1 h2=>
  rename_i d m
  rw[dpL,hgL]
  have a:=h1 d m
  have b:=h2 d (dpN d x m)
  omega
theorem qhu:∀(n:qb),(∀y∈ndN n,q7I y)→((ndN n).filter q1L).length=lvN n:=by
 intro n
 induction n using qb.rec (motive_2:=fun L=>(∀y∈ndL L,q7I y)→((ndL L).filter q1L).length=lvL L) with
 | mk k n m S L ih=>
  intro h
  rw[ndN] at h ⊢
  have h0:=h _ qP7
  have hr:=ih fun y hy=>h y (qP0 _ hy)
  rw[List.filter_cons,lvN]
  rcases h0 with h0|h0
  ·have e:L=[]:=h0.nl
   subst e
   have e1:k=1∨k=2:=by rcases h0.kd with h|h;exact .inr h.1;exact .inl h.1
   have e2:q1L ⟨k,n,m,S,[]⟩=true:=by unfold q1L;rcases e1 with rfl|rfl<;>rfl
   rw[if_pos e2,if_pos e1]
   simp[ndL]
  ·have e1:k=3∨k=4:=by rcases h0.kd with h|h;exact .inl h.1;exact .inr h.1
   have e2:q1L ⟨k,n,m,S,L⟩=false:=by unfold q1L;rcases e1 with rfl|rfl<;>rfl
   rw[e2,if_neg (by simp),if_neg (by omega),hr]
 | nil=>simp[ndL,lvL]
 | cons x L h1 h2=>
  rename_i h
  rw[ndL] at h ⊢
  rw[lvL,List.filter_append,qOZ,h1 fun y hy=>h y (qP4 _ hy),h2 fun y hy=>h y (qP1 _ hy)]
theorem qeD {n:qb} (h:∀y∈ndN n,q7I y):∀y∈ndN n,y.Set.length≤1000000:=fun y hy=>by
 rcases h y hy with h|h
 ·have:=h.s3;omega
 ·rw[h.st];simp
theorem qdP {n:qb} (h:q6b 3 6 n):JD n=some 0:=by
 have h1:=h.hg
 have h2:=h.l1
 have h3:=h.l2
 have h4:=h.nd
 rw[q9w n (by omega) (by omega) (qeD h.ok)]
 unfold qeg
 have hf:=qhu n h.ok
 have hd:=qGc n 1 0
 have e:inF ((ndN n).filter q1L).length 1 8=true:=by unfold inF;rw[hf];simp;omega
 rw[if_neg (by omega),if_neg (by omega),e,if_neg (by simp),qjr _ fun y hy=>qmV (h.ok y hy)]
 rfl
end
noncomputable section
open Go.RowKit
theorem qiV (x y:Nat):(x &&& y) / 2=(x / 2) &&& (y / 2):=by
 apply Nat.eq_of_testBit_eq
 intro i
 rw[Nat.testBit_div_two,Nat.testBit_and,Nat.testBit_and,Nat.testBit_div_two,Nat.testBit_div_two]
theorem qh7 (x y:Nat):(x &&& y) % 2=if x % 2=1∧y % 2=1 then 1 else 0:=by
 have h:(x &&& y).testBit 0=(x.testBit 0&&y.testBit 0):=Nat.testBit_and x y 0
 rw[Nat.testBit_zero,Nat.testBit_zero,Nat.testBit_zero] at h
 have h1:x % 2<2:=Nat.mod_lt _ (by decide)
 have h2:y % 2<2:=Nat.mod_lt _ (by decide)
 have h3:(x &&& y) % 2<2:=Nat.mod_lt _ (by decide)
 by_cases hx:x % 2=1
 ·by_cases hy:y % 2=1
  ·rw[if_pos ⟨hx,hy⟩]
   simpa [hx,hy] using h
  ·rw[if_neg (fun h=>hy h.2)]
   have:¬ (x &&& y) % 2=1:=by simpa [hx,hy] using h
   omega
 ·rw[if_neg (fun h=>hx h.1)]
  have:¬ (x &&& y) % 2=1:=by simpa [hx] using h
  omega
theorem qrT:∀(sub set t:Nat),sub &&& set=sub→t &&& set=t→t<sub→t≤(sub-1) &&& set:=by
 intro sub
 induction sub using Nat.strongRecOn with
 | _ sub ih=>
  intro set t hs ht hlt
  have hs2:=qiV sub set
  have hsm:=qh7 sub set
  have ht2:=qiV t set
  have htm:=qh7 t set
  rw[hs] at hs2 hsm
  rw[ht] at ht2 htm
  have hr2:=qiV (sub-1) set
  have hrm:=qh7 (sub-1) set
  by_cases hodd:sub % 2=1
  ·have e:(sub-1) / 2=sub / 2:=by omega
   rw[e,←hs2] at hr2
   have e2:(sub-1) % 2=0:=by omega
   rw[if_neg (by omega)] at hrm
   omega
  ·have hpos:sub / 2≠0:=by omega
   have e:(sub-1) / 2=sub / 2-1:=by omega
   rw[e] at hr2
   have hlt2:t / 2<sub / 2:=by omega
   have:=ih (sub / 2) (by omega) (set / 2) (t / 2) hs2.symm ht2.symm hlt2
   have hset:set % 2<2:=Nat.mod_lt _ (by decide)
   have e3:(sub-1) % 2=1:=by omega
   by_cases hm:set % 2=1
   ·rw[if_pos ⟨e3,hm⟩] at hrm
    have:t % 2<2:=Nat.mod_lt _ (by decide)
    omega
   ·rw[if_neg (fun h=>hm h.2)] at hrm htm
    omega
structure IsB (own:Nat→Bool) (best:Nat→Int) (set:Nat) (base v:Int):Prop where
 ge:base≤v
 all:∀t,t≠0→t &&& set=t→own t=true→0≤best (q1r set t)→best (q1r set t)+1≤v
 is:v=base∨∃t,t≠0∧t &&& set=t∧own t=true∧0≤best (q1r set t)∧v=best (q1r set t)+1
theorem qBG {own:Nat→Bool} {best:Nat→Int} {set:Nat}:∀(f sub:Nat) (v:Int),sub≤f→sub &&& set=sub→v≤eaF own best set f sub v∧(∀t,t≠0→t &&& set=t→t≤sub→own t=true→0≤best (q1r set t)→best (q1r set t)+1≤eaF own best set f sub v)∧
  (eaF own best set f sub v=v∨∃t,t≠0∧t &&& set=t∧own t=true∧0≤best (q1r set t)∧eaF own best set f sub v=best (q1r set t)+1):=by
 intro f
 induction f with
 | zero=>
  intro sub v hf _
  have:sub=0:=by omega
  subst this
  exact⟨Int.le_refl _,fun t h1 _ h3=>by omega,.inl rfl⟩
 | succ f ih=>
  intro sub v hf hs
  unfold eaF
  by_cases hz:sub=0
  ·rw[if_pos hz]
   exact⟨Int.le_refl _,fun t h1 _ h3=>by omega,.inl rfl⟩
  ·rw[if_neg hz]
   have ha:(sub-1) &&& set≤sub-1:=Nat.and_le_left
   have hb:((sub-1) &&& set) &&& set=(sub-1) &&& set:=by rw[Nat.and_assoc,Nat.and_self]
   obtain⟨i1,i2,i3⟩:=ih ((sub-1) &&& set) (eaV own best set sub v) (by omega) hb
   have hv:v≤eaV own best set sub v:=by unfold eaV;split<;>omega
   refine⟨by omega,fun t h1 h2 h3 h4 h5=>?_,?_⟩
   ·by_cases e:t=sub
    ·subst e
     have:best (q1r set t)+1≤eaV own best set t v:=by unfold eaV;rw[if_pos ⟨h4,h5⟩];omega
     omega
    ·exact i2 t h1 h2 (qrT sub set t hs h2 (by omega)) h4 h5
   ·rcases i3 with e|h
    ·by_cases hc:own sub=true∧0≤best (q1r set sub)
     ·have e2:eaV own best set sub v=max v (best (q1r set sub)+1):=by unfold eaV;rw[if_pos hc]
      by_cases hm:v≤best (q1r set sub)+1
      ·exact .inr ⟨sub,hz,hs,hc.1,hc.2,by rw[e,e2];omega⟩
      ·exact .inl (by rw[e,e2];omega)
     ·exact .inl (by rw[e];unfold eaV;rw[if_neg hc])
    ·exact .inr h
theorem qp4 (skip:Bool) (own:Nat→Bool) (best:Nat→Int) (set:Nat):IsB own best set (if skip=true then best set else -1) (stF skip own best set):=by
 obtain⟨h1,h2,h3⟩:=qBG (own:=own) (best:=best) (set:=set) set set (if skip=true then best set else -1) (qP8 _) (Nat.and_self _)
 refine⟨h1,fun t t1 t2 t3 t4=>h2 t t1 t2 ?_ t3 t4,h3⟩
 rw[←t2];exact Nat.and_le_right
theorem qmf {w m j:Nat} (h:m<2 ^ w) (hj:m.testBit j=true):j<w:=by
 rcases Nat.lt_or_ge j w with h1|h1
 ·exact h1
 ·rw[Nat.testBit_lt_two_pow (qPs h (Nat.pow_le_pow_right (by decide) h1))] at hj
  cases hj
def qlO (n:qb) (s:qg) (x:qP) (a:qa):qP:=⟨w64 (x.many+1),w64 (x.credits+a.Credits),x.fine&&qkU n s a⟩
def Qu {α:Type} (p:Nat→Bool):List α→List α
 | []=>[]
 | a::l=>(if p 0=true then[a] else[])++Qu (fun j=>p (j+1)) l
theorem qhd (n:qb) (s:qg) (set:Nat):∀(l:List qa) (k:Nat) (x:qP),wgF n s set l k x=(Qu (fun j=>set.testBit (k+j)) l).foldl (qlO n s) x
 | [],k,x=>rfl
 | a::l,k,x=>by
  rw[wgF,Qu,qhd n s set l (k+1),List.foldl_append,show(fun j=>set.testBit (k+(j+1)))=fun j=>set.testBit (k+1+j) from funext fun j=>by rw[Nat.add_right_comm,qPM]]
  congr 1
  cases set.testBit (k+0)<;>simp[qlO]
theorem q2G {α:Type}:∀{l:List α} {p q:Nat→Bool},(∀j,j<l.length→p j=q j)→Qu p l=Qu q l
 | [],_,_,_=>rfl
 | a::l,p,q,h=>by
  rw[Qu,Qu,h 0 (by simp),q2G fun j hj=>h (j+1) (by simpa using hj)]
theorem q7i {α:Type}:∀(l:List α) (a:α) (p:Nat→Bool),Qu p (l++[a])=Qu p l++(if p l.length=true then[a] else[])
 | [],a,p=>by simp[Qu]
 | b::l,a,p=>by rw[qPY,Qu,q7i l a,Qu,qPy];rfl
end
noncomputable section
open Go.RowKit
def qi9 (n:qb) (s:qg) (l:List qa) (p:Nat→Bool):qP:=(Qu p l).foldl (qlO n s) ld0
mutual
def q50 (s:qg) (l:List qa) (a:Nat→Int):qb→Nat→Bool×Bool
 | ⟨k,n,m,S,L⟩,nx=>if k=1∨k=2 then((qi9 ⟨k,n,m,S,L⟩ s l (fun j=>a j==(nx:Int))).many==0,qe8 ⟨k,n,m,S,L⟩ (qi9 ⟨k,n,m,S,L⟩ s l (fun j=>a j==(nx:Int))))
  else((q2z s l a (k==3) L nx).1,!(q2z s l a (k==3) L nx).2.2&&decide (n≤((q2z s l a (k==3) L nx).2.1:Int)))
def q2z (s:qg) (l:List qa) (a:Nat→Int) (al:Bool):List qb→Nat→Bool×Nat×Bool
 | [],_=>(true,0,false)
 | x::L,nx=>((q50 s l a x nx).1&&(q2z s l a al L (nx+lvN x)).1,(if(q50 s l a x nx).2=true then 1 else 0)+(q2z s l a al L (nx+lvN x)).2.1,
   (!(q50 s l a x nx).2&&(!(q50 s l a x nx).1||al))||(q2z s l a al L (nx+lvN x)).2.2)
end
theorem q5U (s:qg) (l:List qa) (a:Nat→Int) (n:qb) (nx:Nat):q50 s l a n nx=if n.Kind=1∨n.Kind=2 then((qi9 n s l (fun j=>a j==(nx:Int))).many==0,qe8 n (qi9 n s l (fun j=>a j==(nx:Int))))
  else((q2z s l a (n.Kind==3) n.L nx).1,!(q2z s l a (n.Kind==3) n.L nx).2.2&&decide (n.N≤((q2z s l a (n.Kind==3) n.L nx).2.1:Int))):=by
 cases n;rw[q50]
structure q2Q (n:qb):Prop where
 kind:n.Kind=1∨n.Kind=2∨n.Kind=3∨n.Kind=4
 all:n.Kind=3→n.N≤(n.L.length:Int)∧n.L≠[]
 some:n.Kind=4→1≤n.N
theorem qfq (n:qb):n∈ndN n:=by rw[q03];exact qP7 ..
theorem q5m (s:qg) (l:List qa) (a b:Nat→Int):∀(n:qb) (nx:Nat),(∀k,k<l.length→∀x:Int,(nx:Int)≤x→x<((nx+lvN n:Nat):Int)→(a k=x↔b k=x))→q50 s l a n nx=q50 s l b n nx:=by
 intro n
 induction n using qb.rec (motive_2:=fun L=>∀(al:Bool) (nx:Nat),(∀k,k<l.length→∀x:Int,(nx:Int)≤x→x<((nx+lvL L:Nat):Int)→(a k=x↔b k=x))→q2z s l a al L nx=q2z s l b al L nx) with
 | mk k n m S L ih=>
  intro nx h
  rw[q5U,q5U]
  rw[lvN] at h
  by_cases hk:k=1∨k=2
  ·rw[if_pos hk] at h
   rw[if_pos hk,if_pos hk]
   have:Qu (fun j=>a j==(nx:Int)) l=Qu (fun j=>b j==(nx:Int)) l:=q2G fun j hj=>by
    have:=h j hj nx (Int.le_refl _) (by omega)
    by_cases e:a j=nx
    ·rw[e,this.1 e]
    ·have e':¬ b j=nx:=fun e2=>e (this.2 e2)
     rw[beq_eq_false_iff_ne.2 e,beq_eq_false_iff_ne.2 e']
   unfold qi9
   rw[this]
  ·rw[if_neg hk] at h
   rw[if_neg hk,if_neg hk]
   simp only
   rw[ih _ nx h]
 | nil=>rw[q2z,q2z]
 | cons x L h1 h2=>
  rename_i al nx h
  rw[lvL] at h
  rw[q2z,q2z,h1 nx (fun k hk y hy hy2=>h k hk y hy (by omega)),h2 al (nx+lvN x) (fun k hk y hy hy2=>h k hk y (by omega) (by omega))]
theorem qg2 (n:qb) (s:qg):∀(L:List qa) (x:qP),0≤x.many→x.many+L.length≤9223372036854775807→(L.foldl (qlO n s) x).many=x.many+L.length
 | [],x,_,_=>by simp
 | a::L,x,h0,h=>by
  rw[qP3] at h
  have hw:w64 (x.many+1)=x.many+1:=Z5 (by omega) (by omega)
  rw[qPW,qg2 n s L (qlO n s x a) (by unfold qlO;simp only;omega) (by unfold qlO;simp only;omega),qP3]
  unfold qlO
  simp only
  omega
theorem q4H {α:Type}:∀(l:List α) (p:Nat→Bool),(Qu p l).length≤l.length
 | [],_=>by simp[Qu]
 | a::l,p=>by
  have:=q4H l (fun j=>p (j+1))
  rw[Qu,qOZ,qP3]
  split<;>simp<;>omega
theorem qfx {α:Type}:∀(l:List α) (p:Nat→Bool),(Qu p l).length=0↔∀k,k<l.length→p k=false
 | [],_=>by simp[Qu]
 | a::l,p=>by
  have ih:=qfx l (fun j=>p (j+1))
  rw[Qu,qOZ]
  constructor
  ·intro h k hk
   cases k with
   | zero=>
    by_cases e:p 0=true
    ·rw[if_pos e] at h;simp at h
    ·simpa using e
   | succ k=>exact ih.1 (by omega) k (by simpa using hk)
  ·intro h
   rw[ih.2 fun k hk=>h (k+1) (by simpa using hk),if_neg (by rw[h 0 (by simp)];decide)]
   try rfl
theorem qoA (n:qb) (s:qg) (l:List qa) (hl:l.length≤62) (p:Nat→Bool):(qi9 n s l p).many=((Qu p l).length:Int):=by
 have:=q4H l p
 unfold qi9
 rw[qg2 n s _ _ (by decide) (by show(0:Int)+_≤_;omega)]
 show(0:Int)+_=_
 omega
theorem q9N (s:qg) (l:List qa) (hl:l.length≤62) (a:Nat→Int):∀(n:qb) (nx:Nat),(q50 s l a n nx).1=true↔∀k,k<l.length→¬((nx:Int)≤a k∧a k<((nx+lvN n:Nat):Int)):=by
 intro n
 induction n using qb.rec (motive_2:=fun L=>∀(al:Bool) (nx:Nat),(q2z s l a al L nx).1=true↔∀k,k<l.length→¬((nx:Int)≤a k∧a k<((nx+lvL L:Nat):Int))) with
 | mk k n m S L ih=>
  intro nx
  rw[q5U,lvN]
  by_cases hk:k=1∨k=2
  ·rw[if_pos hk,if_pos hk]
   simp only
   rw[qoA _ _ _ hl,beq_iff_eq,show(((Qu (fun j=>a j==(nx:Int)) l).length:Int)=0)↔(Qu (fun j=>a j==(nx:Int)) l).length=0 from by omega,qfx]
   constructor
   ·intro h k hk h2
    have:=beq_eq_false_iff_ne.1 (h k hk)
    omega
   ·intro h k hk
    have:=h k hk
    exact beq_eq_false_iff_ne.2 (by omega)
  ·rw[if_neg hk,if_neg hk]
   exact ih _ nx
 | nil=>rename_i al nx;rw[q2z,lvL];simp only[true_iff];intro k hk;omega
 | cons x L h1 h2=>
  rename_i al nx
  rw[q2z,lvL,qPo,h1,h2]
  constructor
  ·intro h k hk
   have a1:=h.1 k hk
   have a2:=h.2 k hk
   omega
  ·intro h
   exact⟨fun k hk=>by have:=h k hk;omega,fun k hk=>by have:=h k hk;omega⟩
theorem qhV (s:qg) (l:List qa) (a:Nat→Int):∀(n:qb) (nx:Nat),(∀y∈ndN n,q2Q y)→(q50 s l a n nx).2=true→(q50 s l a n nx).1=false:=by
 intro n
 induction n using qb.rec (motive_2:=fun L=>∀(al:Bool) (nx:Nat),(∀y∈ndL L,q2Q y)→(q2z s l a al L nx).1=true→(q2z s l a al L nx).2.1=0∧(al=true→(q2z s l a al L nx).2.2=false→L=[])) with
 | mk k n m S L ih=>
  intro nx hf h
  have hn:=hf _ (qfq _)
  rw[q5U] at h ⊢
  by_cases hk:k=1∨k=2
  ·rw[if_pos hk] at h ⊢
   simp only at h ⊢
   generalize qi9 ⟨k,n,m,S,L⟩ s l (fun j=>a j==(nx:Int))=x at h
   unfold qe8 at h
   simp only at h
   refine beq_eq_false_iff_ne.2 fun e=>?_
   rw[e] at h
   split at h<;>simp at h
  ·rw[if_neg hk] at h ⊢
   simp only at h ⊢
   refine qPk.2 fun e=>?_
   obtain⟨h1,h2⟩:=ih (k==3) nx (fun y hy=>hf y (by rw[ndN];exact qP0 _ hy)) e
   rw[qPo,h1,qPS] at h
   rcases hn.kind with q|q|q|q
   ·exact hk (.inl q)
   ·exact hk (.inr q)
   ·simp only at q
    subst q
    exact(hn.all rfl).2 (h2 (by decide) (by simpa using h.1))
   ·have:=hn.some q
    simp only at this
    omega
 | nil=>rename_i al nx _ _;rw[q2z];exact⟨rfl,fun _ _=>rfl⟩
 | cons x L h1 h2=>
  rename_i al nx hf h
  rw[q2z] at h ⊢
  simp only at h ⊢
  rw[qPo] at h
  have hx:(q50 s l a x nx).2=false:=by
   refine qPk.2 fun e=>?_
   have:=h1 nx (fun y hy=>hf y (by rw[ndL];exact qP4 _ hy)) e
   rw[this] at h
   exact absurd h.1 (by decide)
  obtain⟨h3,h4⟩:=h2 al (nx+lvN x) (fun y hy=>hf y (by rw[ndL];exact qP1 _ hy)) h.2
  rw[hx,h3]
  refine⟨by simp,fun ha hw=>?_⟩
  rw[ha] at hw
  simp at hw
end
noncomputable section
open Go.RowKit
def mkS (p:Nat→Bool):Nat→Nat
 | 0=>0
 | n+1=>mkS p n ||| (if p n=true then 2 ^ n else 0)
theorem qcL (p:Nat→Bool):∀(n k:Nat),(mkS p n).testBit k=(decide (k<n)&&p k)
 | 0,k=>by simp[mkS]
 | n+1,k=>by
  rw[mkS,Nat.testBit_or,qcL p n k]
  by_cases e:k=n
  ·subst e
   by_cases hp:p k=true
   ·rw[if_pos hp,Nat.testBit_two_pow];simp[hp]
   ·rw[if_neg hp];simp[qPk.2 hp]
  ·have h1:(if p n=true then 2 ^ n else 0).testBit k=false:=by
    split
    ·rw[Nat.testBit_two_pow];exact decide_eq_false (fun h=>e h.symm)
    ·exact Nat.zero_testBit k
   rw[h1,Bool.or_false]
   have:decide (k<n+1)=decide (k<n):=by
    by_cases h:k<n
    ·rw[qPT h,qPT (by omega)]
    ·rw[decide_eq_false h,decide_eq_false (by omega)]
   rw[this]
theorem qtC (p:Nat→Bool) (n:Nat):mkS p n<2 ^ n:=Nat.lt_pow_two_of_testBit _ fun i hi=>by
 rw[qcL,decide_eq_false (by omega)];rfl
theorem qmK (leaf:Int) (set:Nat):∀(d:List Int) (i:Nat),alG leaf set d i=true↔∀(k:Nat) (x:Int),d[k]?=some x→(set.testBit (i+k)=true↔x=leaf)
 | [],i=>by simp[alG]
 | y::d,i=>by
  rw[alG,qPo,qmK leaf set d (i+1),beq_iff_eq]
  constructor
  ·intro h k x hx
   cases k with
   | zero=>
    simp only[qP2,qPI] at hx
    subst hx
    rw[Nat.add_zero,h.1,beq_iff_eq]
   | succ k=>
    rw[qPh] at hx
    have:=h.2 k x hx
    rwa [Nat.add_right_comm,qPM] at this
  ·intro h
   refine⟨?_,fun k x hx=>?_⟩
   ·have:=h 0 y (by simp)
    rw[Nat.add_zero] at this
    by_cases e:y=leaf
    ·rw[this.2 e,beq_iff_eq.2 e]
    ·rw[beq_eq_false_iff_ne.2 e];exact qPk.2 fun h2=>e (this.1 h2)
   ·have:=h (k+1) x (by rw[qPh];exact hx)
    rwa [show i+1+k=i+(k+1) from by omega]
theorem qwu (d:List Int) (leaf set:Nat):alF d leaf set=true↔∀(k:Nat) (x:Int),d[k]?=some x→(set.testBit k=true↔x=(leaf:Int)):=by
 unfold alF
 rw[qmK]
 simp only[qPg]
theorem qnX (d:List Int) (a b:Nat):foF d a b=true↔∃(k:Nat) (x:Int),d[k]?=some x∧(a:Int)≤x∧x<(b:Int):=by
 unfold foF
 rw[qPN]
 constructor
 ·rintro⟨x,hx,h⟩
  obtain⟨k,hk⟩:=List.mem_iff_getElem?.1 hx
  rw[qPo,qPS,qPS] at h
  exact⟨k,x,hk,h⟩
 ·rintro⟨k,x,hk,h⟩
  exact⟨x,List.mem_iff_getElem?.2 ⟨k,hk⟩,by rw[qPo,qPS,qPS];exact h⟩
structure Asg (d:List Int) (a:Nat→Int) (lo w set:Nat):Prop where
 inn:∀k,set.testBit k=true→(lo:Int)≤a k∧a k<((lo+w:Nat):Int)
 out:∀k,set.testBit k=false→a k = -1
 com:∀k y,d[k]?=some y→∀x:Int,(lo:Int)≤x→x<((lo+w:Nat):Int)→(y=x↔a k=x)
theorem Asg.bit {d:List Int} {a:Nat→Int} {lo w set:Nat} (h:Asg d a lo w set) (k:Nat) (h1:(lo:Int)≤a k):set.testBit k=true:=by
 by_cases e:set.testBit k=true
 ·exact e
 ·have:=h.out k (qPk.2 e)
  omega
theorem qal (s:qg) (l:List qa) (a b:Nat→Int) (al:Bool):∀(L:List qb) (nx:Nat),(∀k,k<l.length→∀x:Int,(nx:Int)≤x→x<((nx+lvL L:Nat):Int)→(a k=x↔b k=x))→q2z s l a al L nx=q2z s l b al L nx
 | [],nx,_=>by rw[q2z,q2z]
 | x::L,nx,h=>by
  rw[lvL] at h
  rw[q2z,q2z,q5m s l a b x nx (fun k hk y hy hy2=>h k hk y hy (by omega)),qal s l a b al L (nx+lvN x) (fun k hk y hy hy2=>h k hk y (by omega) (by omega))]
theorem qjH (s:qg) (l:List qa) (a:Nat→Int):∀(L:List qb) (nx:Nat),(q2z s l a true L nx).2.2=false→(q2z s l a true L nx).2.1=L.length
 | [],nx,_=>by rw[q2z];rfl
 | x::L,nx,h=>by
  rw[q2z] at h ⊢
  simp only at h ⊢
  rw[Bool.or_eq_false_iff] at h
  have hx:(q50 s l a x nx).2=true:=by
   have:=h.1
   rw[Bool.or_true,qPU] at this
   simpa using this
  rw[if_pos hx,qjH s l a L _ h.2,qP3]
  omega
theorem qg3 (set:Nat):q1r set 0=set:=Nat.eq_of_testBit_eq fun i=>by rw[Z9];simp
theorem qap {t s:Nat} (h:t &&& s=t) {k:Nat} (hk:t.testBit k=true):s.testBit k=true:=by
 rw[←h,Nat.testBit_and,qPo] at hk
 exact hk.2
theorem qgj {t s:Nat} (h:∀k,t.testBit k=true→s.testBit k=true):t &&& s=t:=Nat.eq_of_testBit_eq fun i=>by
 rw[Nat.testBit_and]
 by_cases e:t.testBit i=true
 ·rw[e,h i e];rfl
 ·rw[qPk.2 e];rfl
theorem qrD (d:List Int) (s:qg) (l:List qa) (n:qb) (hk:n.Kind=1∨n.Kind=2) (nx set:Nat) (hlt:set<2 ^ l.length) (hl:l.length≤62) :
  q24 d s l n nx set=true↔∃a,Asg d a nx 1 set∧qe8 n (qi9 n s l (fun j=>a j==(nx:Int)))=true:=by
 have key:∀a,Asg d a nx 1 set→qi9 n s l (fun j=>a j==(nx:Int))=wgF n s set l 0 ld0:=fun a ha=>by
  rw[qhd]
  unfold qi9
  rw[q2G (p:=fun j=>a j==(nx:Int)) (q:=fun j=>set.testBit (0+j)) fun j hj=>?_]
  rw[qPg]
  by_cases e:set.testBit j=true
  ·have:=ha.inn j e
   rw[e,beq_iff_eq]
   omega
  ·rw[qPk.2 e,ha.out j (qPk.2 e)]
   exact beq_eq_false_iff_ne.2 (by omega)
 unfold q24
 rw[qPo,qPo,qPS,qwu]
 constructor
 ·rintro⟨h0,h1,h2⟩
  have ha:Asg d (fun k=>if set.testBit k=true then(nx:Int) else -1) nx 1 set:={
   inn:=fun k hk=>by simp only[hk,if_true];omega
   out:=fun k hk=>by simp only[hk];rfl
   com:=fun k y hy x hx hx2=>by
    have e:x=nx:=by omega
    subst e
    rw[←h1 k y hy]
    show set.testBit k=true↔(if set.testBit k=true then(nx:Int) else -1)=(nx:Int)
    by_cases e:set.testBit k=true
    ·rw[if_pos e];exact⟨fun _=>rfl,fun _=>e⟩
    ·rw[if_neg e];exact⟨fun h=>absurd h e,fun h=>by omega⟩ }
  exact⟨_,ha,by rw[key _ ha];exact h2⟩
 ·rintro⟨a,ha,hm⟩
  rw[key a ha] at hm
  refine⟨fun e=>?_,fun k x hx=>?_,hm⟩
  ·have h3:Qu (fun j=>set.testBit (0+j)) l=[]:=qPb ((qfx _ _).2 fun k hk=>by rw[e];exact Nat.zero_testBit _)
   rw[qhd,h3] at hm
   unfold qe8 ld0 at hm
   simp only[List.foldl_nil] at hm
   split at hm<;>simp at hm
  ·constructor
   ·intro hb
    have:=ha.inn k hb
    exact(ha.com k x hx (nx:Int) (by omega) (by omega)).2 (by omega)
   ·intro e
    have:=(ha.com k x hx (nx:Int) (by omega) (by omega)).1 e
    exact ha.bit k (by omega)
theorem qvz (s:qg) (l:List qa) (hl:l.length≤62) (a:Nat→Int) (n:qb) (nx:Nat) (hf:∀y∈ndN n,q2Q y) (h:∀k,¬((nx:Int)≤a k∧a k<((nx+lvN n:Nat):Int))):(q50 s l a n nx).1=true∧(q50 s l a n nx).2=false:=by
 have h1:=(q9N s l hl a n nx).2 fun k _=>h k
 refine⟨h1,qPk.2 fun e=>?_⟩
 rw[qhV s l a n nx hf e] at h1
 exact absurd h1 (by decide)
theorem q5e (d:List Int) (s:qg) (l:List qa) (hl:l.length≤62):∀(n:qb) (nx set:Nat),(∀y∈ndN n,q2Q y)→set<2 ^ l.length→
  (QO d s l n nx set=true↔∃a,Asg d a nx (lvN n) set∧(q50 s l a n nx).2=true):=by
 intro n
 induction n using qb.rec (motive_2:=fun L=>∀(sk:Bool) (nx:Nat) (b:Nat→Int) (set:Nat),(∀y∈ndL L,q2Q y)→set<2 ^ l.length→
   (0≤qbg d s l sk L nx b set→∃s1 a,s1 &&& set=s1∧0≤b s1∧Asg d a nx (lvL L) (q1r set s1)∧(q2z s l a (!sk) L nx).2.2=false∧qbg d s l sk L nx b set=b s1+((q2z s l a (!sk) L nx).2.1:Int))∧
   (∀s1 a,s1 &&& set=s1→0≤b s1→Asg d a nx (lvL L) (q1r set s1)→(q2z s l a (!sk) L nx).2.2=false→b s1+((q2z s l a (!sk) L nx).2.1:Int)≤qbg d s l sk L nx b set)) with
 | mk k n m S L ih=>
  intro nx set hf hlt
  have hn:=hf _ (qfq _)
  have hfL:∀y∈ndL L,q2Q y:=fun y hy=>hf y (by rw[ndN];exact qP0 _ hy)
  rw[qch,qcP]
  simp only[q5U]
  by_cases hk:k=1∨k=2
  ·rw[if_pos hk,if_pos hk]
   simp only[if_pos hk]
   exact qrD d s l _ hk nx set hlt hl
  ·rw[if_neg hk,if_neg hk]
   simp only[if_neg hk]
   have hk4:(!(k==4))=(k==3):=by
    rcases hn.kind with q|q|q|q<;>simp only at q<;>subst q<;>first|decide|exact absurd (by decide) hk
   obtain⟨i1,i2⟩:=ih (k==4) nx b0F set hfL hlt
   rw[hk4] at i1 i2
   rw[qPo,qPS,qPS]
   constructor
   ·rintro⟨h0,h1⟩
    have hz:0≤qbg d s l (k==4) L nx b0F set:=by
     rcases hn.kind with q|q|q|q
     ·exact absurd (.inl q) hk
     ·exact absurd (.inr q) hk
     ·simp only at q
      rw[if_pos q] at h1
      omega
     ·have:=hn.some q
      simp only at q this
      rw[if_neg (by omega)] at h1
      omega
    obtain⟨s1,a,e1,e2,e3,e4,e5⟩:=i1 hz
    have hs1:s1=0:=by
     unfold b0F at e2
     by_cases e:s1=0
     ·exact e
     ·rw[if_neg e] at e2;omega
    subst hs1
    rw[qg3] at e3
    refine⟨a,e3,?_⟩
    rw[e4,Bool.not_false,qPp,qPS]
    have hb0:b0F 0=0:=rfl
    rw[hb0] at e5
    by_cases q:k=3
    ·rw[if_pos q] at h1
     have:=(hn.all q).1
     simp only at this
     omega
    ·rw[if_neg q] at h1
     omega
   ·rintro⟨a,ha,hm⟩
    rw[qPo,qPS] at hm
    have hw:(q2z s l a (k==3) L nx).2.2=false:=by simpa using hm.1
    have hb0:b0F 0=0:=rfl
    have h2:=i2 0 a (Nat.zero_and _) (by rw[hb0];exact Int.le_refl _) (by rw[qg3];exact ha) hw
    rw[hb0] at h2
    have h3:(q50 s l a ⟨k,n,m,S,L⟩ nx).1=false:=qhV s l a _ nx hf (by rw[q5U,if_neg hk];simp only;rw[qPo,qPS];exact hm)
    refine⟨fun e=>?_,?_⟩
    ·have h4:(q50 s l a ⟨k,n,m,S,L⟩ nx).1=true:=(q9N s l hl a _ nx).2 fun j _ hj=>by
      have:=ha.bit j hj.1
      rw[e,Nat.zero_testBit] at this
      exact absurd this (by decide)
     rw[h3] at h4
     exact absurd h4 (by decide)
    ·by_cases q:k=3
     ·rw[if_pos q]
      have h5:(k==3)=true:=by rw[q];rfl
      rw[h5] at hw h2
      rw[qjH s l a L nx hw] at h2
      omega
     ·rw[if_neg q]
      omega
 | nil=>
  rename_i sk nx b set hf hlt
  rw[lvL,qbg]
  refine⟨fun h=>⟨set,fun _ => -1,Nat.and_self _,h,⟨fun k hk=>?_,fun _ _=>rfl,fun k y hy x hx hx2=>by omega⟩,by rw[q2z],by rw[q2z];simp⟩,fun s1 a h1 h2 h3 h4=>?_⟩
  ·rw[Z9] at hk
   cases h:set.testBit k<;>rw[h] at hk<;>simp at hk
  ·have:s1=set:=Nat.eq_of_testBit_eq fun i=>by
    by_cases e:(q1r set s1).testBit i=true
    ·have:=h3.inn i e
     omega
    ·rw[Z9] at e
     by_cases e2:s1.testBit i=true
     ·rw[e2,qap h1 e2]
     ·cases h:set.testBit i
      ·exact qPk.2 e2
      ·rw[h,qPk.2 e2] at e
       exact absurd rfl e
   subst this
   rw[q2z]
   simp
 | cons x L h1 h2=>
  rename_i sk nx b set hf hlt
  have hfx:∀y∈ndN x,q2Q y:=fun y hy=>hf y (by rw[ndL];exact qP4 _ hy)
  have hfL:∀y∈ndL L,q2Q y:=fun y hy=>hf y (by rw[ndL];exact qP1 _ hy)
  obtain⟨i1,i2⟩:=h2 sk (nx+lvN x) (stF (sk && !foF d nx (nx+lvN x)) (QO d s l x nx) b) set hfL hlt
  rw[lvL,qbg]
  simp only[q2z]
  constructor
  ·intro h0
   obtain⟨s1,a1,e1,e2,e3,e4,e5⟩:=i1 h0
   have hI:=qp4 (sk && !foF d nx (nx+lvN x)) (QO d s l x nx) b s1
   rcases hI.is with e|⟨t,t1,t2,t3,t4,e⟩
   ·have hsk:(sk && !foF d nx (nx+lvN x))=true:=by
     refine Classical.byContradiction fun hc=>?_
     rw[if_neg hc] at e
     omega
    rw[if_pos hsk] at e
    rw[qPo] at hsk
    have hfo:¬ foF d nx (nx+lvN x)=true:=by simpa using hsk.2
    rw[qnX] at hfo
    have hr:∀k,¬((nx:Int)≤a1 k∧a1 k<((nx+lvN x:Nat):Int)):=fun k hk=>by
     by_cases hb:(q1r set s1).testBit k=true
     ·have:=e3.inn k hb;omega
     ·have:=e3.out k (qPk.2 hb);omega
    obtain⟨v1,v2⟩:=qvz s l hl a1 x nx hfx hr
    refine⟨s1,a1,e1,by omega,⟨fun k hk=>by have:=e3.inn k hk;omega,e3.out,fun k y hy z hz hz2=>?_⟩,?_,?_⟩
    ·by_cases hz3:z<((nx+lvN x:Nat):Int)
     ·constructor
      ·intro e;subst e;exact absurd ⟨k,y,hy,hz,hz3⟩ hfo
      ·intro e;exact absurd ⟨by omega,by omega⟩ (hr k)
     ·exact e3.com k y hy z (by omega) (by omega)
    ·rw[v1,v2,e4,hsk.1];rfl
    ·rw[e5,e,v2];simp
   ·obtain⟨a2,ha2,hm2⟩:=(h1 nx t hfx (qPu (qPt (by rw[←t2];exact Nat.and_le_right) (by rw[←e1];exact Nat.and_le_right)) hlt)).1 t3
    have hts:∀k,t.testBit k=true→s1.testBit k=true:=fun k hk=>qap t2 hk
    have hss:∀k,s1.testBit k=true→set.testBit k=true:=fun k hk=>qap e1 hk
    have hin:∀k,t.testBit k=true→(fun k=>if t.testBit k=true then a2 k else a1 k) k=a2 k:=fun k hk=>by show(if _ then _ else _)=_;rw[if_pos hk]
    have hnot:∀k,t.testBit k=false→(fun k=>if t.testBit k=true then a2 k else a1 k) k=a1 k:=fun k hk=>by show(if _ then _ else _)=_;rw[if_neg (by rw[hk];decide)]
    generalize (fun k=>if t.testBit k=true then a2 k else a1 k)=a at hin hnot
    have ht1:∀k,t.testBit k=true→a1 k = -1:=fun k hk=>e3.out k (by rw[Z9,hts k hk];simp)
    have hu1:∀k,t.testBit k=false→a2 k = -1:=fun k hk=>ha2.out k hk
    have hc1:q50 s l a x nx=q50 s l a2 x nx:=q5m s l a a2 x nx fun k _ z hz hz2=>by
     cases hb:t.testBit k
     ·rw[hnot k hb,hu1 k hb]
      by_cases hb2:(q1r set s1).testBit k=true
      ·have:=e3.inn k hb2;omega
      ·have:=e3.out k (qPk.2 hb2);omega
     ·rw[hin k hb]
    have hc2:q2z s l a (!sk) L (nx+lvN x)=q2z s l a1 (!sk) L (nx+lvN x):=qal s l a a1 (!sk) L (nx+lvN x) fun k _ z hz hz2=>by
     cases hb:t.testBit k
     ·rw[hnot k hb]
     ·rw[hin k hb,ht1 k hb]
      have:=ha2.inn k hb
      omega
    refine⟨q1r s1 t,a,?_,t4,⟨fun k hk=>?_,fun k hk=>?_,fun k y hy z hz hz2=>?_⟩,?_,?_⟩
    ·exact qgj fun k hk=>hss k (by rw[Z9,qPo] at hk;exact hk.1)
    ·cases hb:t.testBit k
     ·rw[hnot k hb]
      have:(q1r set s1).testBit k=true:=by
       rw[Z9,Z9,hb] at hk
       rw[Z9]
       simpa using hk
      have:=e3.inn k this
      omega
     ·rw[hin k hb]
      have:=ha2.inn k hb
      omega
    ·cases hb:t.testBit k
     ·rw[hnot k hb]
      refine e3.out k ?_
      rw[Z9,Z9,hb] at hk
      rw[Z9]
      simpa using hk
     ·exfalso
      rw[Z9,Z9,hb,hss k (hts k hb)] at hk
      simp at hk
    ·by_cases hz3:z<((nx+lvN x:Nat):Int)
     ·rw[ha2.com k y hy z hz hz3]
      cases hb:t.testBit k
      ·rw[hnot k hb,hu1 k hb]
       by_cases hb2:(q1r set s1).testBit k=true
       ·have:=e3.inn k hb2;omega
       ·have:=e3.out k (qPk.2 hb2);omega
      ·rw[hin k hb]
     ·rw[e3.com k y hy z (by omega) (by omega)]
      cases hb:t.testBit k
      ·rw[hnot k hb]
      ·rw[hin k hb,ht1 k hb]
       have:=ha2.inn k hb
       omega
    ·rw[hc1,hc2,hm2,e4];rfl
    ·rw[e5,e,hc1,hc2,if_pos hm2];omega
  ·intro s1 a g1 g2 g3 g4
   rw[Bool.or_eq_false_iff] at g4
   obtain⟨g4,g5⟩:=g4
   have hss:∀k,s1.testBit k=true→set.testBit k=true:=fun k hk=>qap g1 hk
   by_cases hm:(q50 s l a x nx).2=true
   ·have hlen:∀k,(nx:Int)≤a k→k<l.length:=fun k hk=>by
     have hb:=g3.bit k hk
     have:set.testBit k=true:=by rw[Z9,qPo] at hb;exact hb.1
     exact qmf hlt this
    obtain⟨t,tb⟩:∃t:Nat,∀k,t.testBit k=true↔((nx:Int)≤a k∧a k<((nx+lvN x:Nat):Int)):=⟨mkS (fun k=>decide ((nx:Int)≤a k)&&decide (a k<((nx+lvN x:Nat):Int))) l.length,fun k=>by
     rw[qcL,qPo,qPo,qPS,qPS,qPS]
     exact⟨fun h=>h.2,fun h=>⟨hlen k h.1,h⟩⟩⟩
    have hdis:∀k,t.testBit k=true→set.testBit k=true∧s1.testBit k=false:=fun k hk=>by
     have hb:=g3.bit k ((tb k).1 hk).1
     rw[Z9,qPo] at hb
     exact⟨hb.1,by simpa using hb.2⟩
    obtain⟨a2,hin2,hnot2⟩:∃a2:Nat→Int,(∀k,t.testBit k=true→a2 k=a k)∧(∀k,t.testBit k=false→a2 k = -1):=⟨fun k=>if t.testBit k=true then a k else -1,fun k hk=>if_pos hk,fun k hk=>if_neg (by rw[hk];decide)⟩
    obtain⟨a1,hin1,hnot1⟩:∃a1:Nat→Int,(∀k,t.testBit k=true→a1 k = -1)∧(∀k,t.testBit k=false→a1 k=a k):=⟨fun k=>if t.testBit k=true then -1 else a k,fun k hk=>if_pos hk,fun k hk=>if_neg (by rw[hk];decide)⟩
    have hoff:∀k,t.testBit k=false→¬((nx:Int)≤a k∧a k<((nx+lvN x:Nat):Int)):=fun k hk h=>by
     rw[(tb k).2 h] at hk
     exact absurd hk (by decide)
    have hA2:Asg d a2 nx (lvN x) t:=⟨fun k hk=>by rw[hin2 k hk];exact(tb k).1 hk,hnot2,fun k y hy z hz hz2=>by
     rw[g3.com k y hy z hz (by omega)]
     cases hb:t.testBit k
     ·rw[hnot2 k hb]
      have:=hoff k hb
      omega
     ·rw[hin2 k hb]⟩
    have hc1:q50 s l a2 x nx=q50 s l a x nx:=q5m s l a2 a x nx fun k _ z hz hz2=>by
     cases hb:t.testBit k
     ·rw[hnot2 k hb]
      have:=hoff k hb
      omega
     ·rw[hin2 k hb]
    have hc2:q2z s l a1 (!sk) L (nx+lvN x)=q2z s l a (!sk) L (nx+lvN x):=qal s l a1 a (!sk) L (nx+lvN x) fun k _ z hz hz2=>by
     cases hb:t.testBit k
     ·rw[hnot1 k hb]
     ·rw[hin1 k hb]
      have:=(tb k).1 hb
      omega
    have hown:QO d s l x nx t=true:=(h1 nx t hfx (qPu (qPt (by rw[←qgj (t:=t) (s:=set) fun k hk=>(hdis k hk).1];exact Nat.and_le_right) (qP8 _)) hlt)).2 ⟨a2,hA2,by rw[hc1];exact hm⟩
    have ht0:t≠0:=fun e=>by
     have h3:=qhV s l a x nx hfx hm
     have h4:=(q9N s l hl a x nx).2 fun k _ hk=>by
      have:=(tb k).2 hk
      rw[e,Nat.zero_testBit] at this
      exact absurd this (by decide)
     rw[h3] at h4
     exact absurd h4 (by decide)
    have hI:=qp4 (sk && !foF d nx (nx+lvN x)) (QO d s l x nx) b (s1 ||| t)
    have hle:q1r (s1 ||| t) t=s1:=Nat.eq_of_testBit_eq fun k=>by
     rw[Z9,Nat.testBit_or]
     cases hb:t.testBit k
     ·simp
     ·rw[(hdis k hb).2];rfl
    have hall:=hI.all t ht0 (qgj fun k hk=>by rw[Nat.testBit_or,hk,Bool.or_true]) hown (by rw[hle];exact g2)
    rw[hle] at hall
    have:=i2 (s1 ||| t) a1 (qgj fun k hk=>by
      rw[Nat.testBit_or,qPn] at hk
      rcases hk with hk|hk
      ·exact hss k hk
      ·exact(hdis k hk).1) (by omega) ⟨fun k hk=>by
       rw[Z9,Nat.testBit_or,qPo] at hk
       have hb:t.testBit k=false:=by
        have:=hk.2
        cases h:t.testBit k
        ·rfl
        ·rw[h,Bool.or_true] at this;exact absurd this (by decide)
       have h5:=g3.inn k (by rw[Z9,qPo];refine⟨hk.1,?_⟩;have:=hk.2;rw[hb,Bool.or_false] at this;exact this)
       have h6:=hoff k hb
       rw[hnot1 k hb]
       omega,fun k hk=>by
       cases hb:t.testBit k
       ·rw[hnot1 k hb]
        refine g3.out k ?_
        rw[Z9,Nat.testBit_or,hb,Bool.or_false] at hk
        rw[Z9]
        exact hk
       ·exact hin1 k hb,fun k y hy z hz hz2=>by
       rw[g3.com k y hy z (by omega) (by omega)]
       cases hb:t.testBit k
       ·rw[hnot1 k hb]
       ·rw[hin1 k hb]
        have:=(tb k).1 hb
        omega⟩ (by rw[hc2];exact g5)
    rw[hc2] at this
    rw[if_pos hm]
    omega
   ·have hm':(q50 s l a x nx).2=false:=qPk.2 hm
    rw[hm',Bool.not_false,qPp,Bool.or_eq_false_iff] at g4
    have hem:(q50 s l a x nx).1=true:=by simpa using g4.1
    have hsk:sk=true:=by simpa using g4.2
    have hr:∀k,¬((nx:Int)≤a k∧a k<((nx+lvN x:Nat):Int)):=fun k hk=>by
     have hb:=g3.bit k hk.1
     have:set.testBit k=true:=by rw[Z9,qPo] at hb;exact hb.1
     have hkl:k<l.length:=qmf hlt this
     exact(q9N s l hl a x nx).1 hem k hkl hk
    have hfo:foF d nx (nx+lvN x)=false:=qPk.2 fun h=>by
     obtain⟨k,y,hy,h3,h4⟩:=(qnX d nx (nx+lvN x)).1 h
     have:=(g3.com k y hy y h3 (by omega)).1 rfl
     exact hr k (by omega)
    have hI:=qp4 (sk && !foF d nx (nx+lvN x)) (QO d s l x nx) b s1
    have hge:=hI.ge
    rw[hsk,hfo] at hge
    simp only[Bool.not_false,qPU,if_true] at hge
    have hge2:b s1≤stF (sk && !foF d nx (nx+lvN x)) (QO d s l x nx) b s1:=by rw[hsk,hfo];exact hge
    have:=i2 s1 a g1 (by omega) ⟨fun k hk=>by
      have h5:=g3.inn k hk
      have h6:=hr k
      omega,g3.out,fun k y hy z hz hz2=>g3.com k y hy z (by omega) (by omega)⟩ g5
    rw[hm']
    simp only[Bool.false_eq_true,if_false,qPg]
    omega
end
noncomputable section
open Go.RowKit
def rkF (m:Nat→Bool):Nat→Nat
 | 0=>0
 | k+1=>rkF m k+if m k=true then 1 else 0
theorem qbT (m:Nat→Bool):∀k,rkF m (k+1)=(if m 0=true then 1 else 0)+rkF (fun j=>m (j+1)) k
 | 0=>by simp[rkF]
 | k+1=>by rw[rkF,qbT m k,rkF];omega
def qah (m:Nat→Bool) (d:Nat→Int):Nat→Int:=fun k=>if m k=true then d (rkF m k) else -1
theorem q9z {α:Type}:∀(l:List α) (m p:Nat→Bool),Qu p (Qu m l)=Qu (fun k=>m k&&p (rkF m k)) l
 | [],_,_=>rfl
 | a::l,m,p=>by
  have e:∀j,rkF m (j+1)=(if m 0=true then 1 else 0)+rkF (fun j=>m (j+1)) j:=qbT m
  rw[Qu,Qu]
  cases h:m 0
  ·rw[if_neg (by decide),qPc,q9z l,qPV,if_neg (by decide),qPc]
   refine q2G fun j _=>?_
   show(m (j+1)&&p (rkF (fun j=>m (j+1)) j))=(m (j+1)&&p (rkF m (j+1)))
   rw[e j,h,if_neg (by decide),qPg]
  ·rw[if_pos rfl,qPZ,Qu,q9z l,qPp]
   congr 1
   refine q2G fun j _=>?_
   show(m (j+1)&&p (rkF (fun j=>m (j+1)) j+1))=(m (j+1)&&p (rkF m (j+1)))
   rw[e j,h,if_pos rfl,Nat.add_comm 1]
theorem q7D {α β:Type} (f:α→β):∀(l:List α) (m:Nat→Bool),Qu m (l.map f)=(Qu m l).map f
 | [],_=>rfl
 | a::l,m=>by rw[qPf,Qu,Qu,q7D f l,List.map_append];cases m 0<;>rfl
theorem qjo (s:qg) (l:List qa) (m:Nat→Bool) (d:Nat→Int):∀(n:qb) (nx:Nat),q50 s (Qu m l) d n nx=q50 s l (qah m d) n nx:=by
 intro n
 induction n using qb.rec (motive_2:=fun L=>∀(al:Bool) (nx:Nat),q2z s (Qu m l) d al L nx=q2z s l (qah m d) al L nx) with
 | mk k n mi S L ih=>
  intro nx
  rw[q5U,q5U]
  by_cases hk:k=1∨k=2
  ·rw[if_pos hk,if_pos hk]
   have:Qu (fun j=>d j==(nx:Int)) (Qu m l)=Qu (fun j=>qah m d j==(nx:Int)) l:=by
    rw[q9z]
    refine q2G fun j _=>?_
    unfold qah
    cases m j
    ·rw[qPV,if_neg (by decide)];symm;rw[beq_eq_false_iff_ne];omega
    ·rw[qPp,if_pos rfl]
   unfold qi9
   rw[this]
  ·rw[if_neg hk,if_neg hk]
   simp only
   rw[ih _ nx]
 | nil=>rw[q2z,q2z]
 | cons x L h1 h2=>
  rename_i al nx
  rw[q2z,q2z,h1 nx,h2 al (nx+lvN x)]
end
noncomputable section
open Go.RowKit
def q4u:List Int→List Int→Bool
 | _,[]=>false
 | [],_::_=>true
 | a::l,b::m=>decide (a<b)||(a==b&&q4u l m)
theorem qc1:∀l,q4u l l=false
 | []=>rfl
 | a::l=>by rw[q4u,qc1 l];simp
theorem q42:∀{a b c:List Int},q4u a b=true→q4u b c=true→q4u a c=true
 | a,b,[],_,h=>by cases b<;>cases h
 | [],b,z::c,_,_=>rfl
 | x::a,[],z::c,h,_=>by cases h
 | x::a,y::b,z::c,h,h2=>by
  simp only[q4u,qPn,qPo,qPS,beq_iff_eq] at h h2 ⊢
  rcases h with h|⟨h,h'⟩
  ·rcases h2 with h2|⟨h2,h2'⟩<;>exact .inl (by omega)
  ·rcases h2 with h2|⟨h2,h2'⟩
   ·exact .inl (by omega)
   ·exact .inr ⟨by omega,q42 h' h2'⟩
theorem qaQ:∀a b:List Int,a=b∨q4u a b=true∨q4u b a=true
 | [],[] => .inl rfl
 | [],_::_ => .inr (.inl rfl)
 | _::_,[] => .inr (.inr rfl)
 | x::a,y::b=>by
  simp only[q4u,qPn,qPo,qPS,beq_iff_eq]
  rcases Int.lt_trichotomy x y with h|h|h
  ·exact .inr (.inl (.inl h))
  ·subst h
   rcases qaQ a b with e|e|e
   ·exact .inl (by rw[e])
   ·exact .inr (.inl (.inr ⟨rfl,e⟩))
   ·exact .inr (.inr (.inr ⟨rfl,e⟩))
  ·exact .inr (.inr (.inl h))
def slL (a b:List Int):Bool:=decide (a.length<b.length)||(a.length==b.length&&q4u a b)
theorem qfy {a b:List Int}:slL a b=true↔a.length<b.length∨(a.length=b.length∧q4u a b=true):=by
 simp only[slL,qPn,qPo,qPS,beq_iff_eq]
theorem q8A (l:List Int):slL l l=false:=by
 rw[slL,qc1];simp
theorem q9d {a b c:List Int} (h:slL a b=true) (h2:slL b c=true):slL a c=true:=by
 rw[qfy] at *
 rcases h with h|⟨h,h'⟩
 ·rcases h2 with h2|⟨h2,h2'⟩<;>exact .inl (by omega)
 ·rcases h2 with h2|⟨h2,h2'⟩
  ·exact .inl (by omega)
  ·exact .inr ⟨by omega,q42 h' h2'⟩
theorem qfY (a b:List Int):a=b∨slL a b=true∨slL b a=true:=by
 simp only[qfy]
 rcases Nat.lt_trichotomy a.length b.length with h|h|h
 ·exact .inr (.inl (.inl h))
 ·rcases qaQ a b with e|e|e
  ·exact .inl e
  ·exact .inr (.inl (.inr ⟨h,e⟩))
  ·exact .inr (.inr (.inr ⟨h.symm,e⟩))
 ·exact .inr (.inr (.inl h))
theorem qkG {f:Int→Int}:∀{a b:List Int},(∀x∈a,∀y∈b,(f x<f y↔x<y)∧(f x=f y↔x=y))→q4u (a.map f) (b.map f)=q4u a b
 | a,[],_=>by cases a<;>rfl
 | [],_::_,_=>rfl
 | x::a,y::b,h=>by
  have h0:=h x qP7 y qP7
  have e1:decide (f x<f y)=decide (x<y):=by simp only[h0.1]
  have e2:(f x==f y)=(x==y):=by rw[Bool.eq_iff_iff,beq_iff_eq,beq_iff_eq];exact h0.2
  rw[qPf,qPf,q4u,q4u,e1,e2,qkG fun u hu v hv=>h u (qP0 _ hu) v (qP0 _ hv)]
theorem qn6 {f:Int→Int} {a b:List Int} (h:∀x∈a,∀y∈b,(f x<f y↔x<y)∧(f x=f y↔x=y)):slL (a.map f) (b.map f)=slL a b:=by
 unfold slL
 rw[qkG h,qPB,qPB]
theorem qmk {f:Int→Int→Option Int} {zs:List Int} (ht:∀x∈zs,∀y∈zs,x=y∨ltB f x y=true∨ltB f y x=true) (htr:∀x∈zs,∀y∈zs,∀z∈zs,ltB f x y=true→ltB f y z=true→ltB f x z=true) {x:Int} (hx:x∈zs) :
  ∀l:List Int,(∀y∈l,y∈zs)→x ∉ l→l.Pairwise (fun a b=>ltB f a b=true)→(qfL f x l).Pairwise (fun a b=>ltB f a b=true)
 | [],_,_,_=>by unfold qfL;exact List.pairwise_singleton _ _
 | y::l,hl,hn,h=>by
  have hy:=hl y qP7
  rw[List.pairwise_cons] at h
  unfold qfL
  split
  ·rename_i hlt
   rw[List.pairwise_cons]
   refine⟨fun z hz=>?_,qmk ht htr hx l (fun u hu=>hl u (qP0 _ hu)) (fun hu=>hn (qP0 _ hu)) h.2⟩
   rcases(qbU f x l z).1 hz with e|e
   ·rw[e];exact hlt
   ·exact h.1 z e
  ·rename_i hlt
   have hxy:ltB f x y=true:=by
    rcases ht x hx y hy with e|e|e
    ·exact absurd (e ▸ qP7) hn
    ·exact e
    ·exact absurd e hlt
   rw[List.pairwise_cons,List.pairwise_cons]
   refine⟨fun z hz=>?_,h⟩
   rcases qPe.1 hz with e|e
   ·rw[e];exact hxy
   ·exact htr x hx y hy z (hl z (qP0 _ e)) hxy (h.1 z e)
theorem qjw {f:Int→Int→Option Int} {zs:List Int} (ht:∀x∈zs,∀y∈zs,x=y∨ltB f x y=true∨ltB f y x=true) (htr:∀x∈zs,∀y∈zs,∀z∈zs,ltB f x y=true→ltB f y z=true→ltB f x z=true) :
  ∀l:List Int,(∀y∈l,y∈zs)→l.Nodup→(q0W f l).Pairwise (fun a b=>ltB f a b=true)
 | [],_,_=>by unfold q0W;exact List.Pairwise.nil
 | x::l,hl,hn=>by
  rw[List.nodup_cons] at hn
  unfold q0W
  exact qmk ht htr (hl x qP7) _ (fun y hy=>hl y (qP0 _ ((q3n f l y).1 hy))) (fun hy=>hn.1 ((q3n f l x).1 hy)) (qjw ht htr l (fun y hy=>hl y (qP0 _ hy)) hn.2)
theorem qoI {f:Int→Int→Option Int} {zs:List Int} {key:Int→List Int} (hs:∀x∈zs,∀y∈zs,∃c,f x y=some c∧(c<0↔slL (key x) (key y)=true)) (hi:∀x∈zs,∀y∈zs,key x=key y→x=y) :
  okB f zs=true∧∀x∈zs,∀y∈zs,ltB f x y=slL (key x) (key y):=by
 have hl:∀x∈zs,∀y∈zs,ltB f x y=slL (key x) (key y):=fun x hx y hy=>by
  obtain⟨c,h1,h2⟩:=hs x hx y hy
  unfold ltB
  rw[h1,Bool.eq_iff_iff]
  simpa using h2
 refine⟨?_,hl⟩
 unfold okB
 simp only[qPo,qP9]
 refine⟨⟨⟨fun x hx y hy=>?_,fun x hx=>?_⟩,fun x hx y hy=>?_⟩,fun x hx y hy z hz=>?_⟩
 ·obtain⟨c,h1,_⟩:=hs x hx y hy;rw[h1];rfl
 ·rw[hl x hx x hx,q8A];rfl
 ·rw[hl x hx y hy,hl y hy x hx]
  rcases qfY (key x) (key y) with e|e|e
  ·rw[qPT (hi x hx y hy e)];rfl
  ·rw[e];simp
  ·rw[e];simp
 ·rw[hl x hx y hy,hl y hy z hz,hl x hx z hz]
  cases h1:slL (key x) (key y)
  ·simp
  ·cases h2:slL (key y) (key z)
   ·simp
   ·rw[q9d h1 h2];simp
theorem qoE {f:Int→Int→Option Int} {zs:List Int} {key:Int→List Int} (hs:∀x∈zs,∀y∈zs,∃c,f x y=some c∧(c<0↔slL (key x) (key y)=true)) (hi:∀x∈zs,∀y∈zs,key x=key y→x=y) (hn:zs.Nodup) :
  (q0W f zs).Pairwise (fun a b=>slL (key a) (key b)=true):=by
 have hl:=(qoI hs hi).2
 have h:=qjw (f:=f) (zs:=zs) (fun x hx y hy=>by
  rw[hl x hx y hy,hl y hy x hx]
  rcases qfY (key x) (key y) with e|e
  ·exact .inl (hi x hx y hy e)
  ·exact .inr e) (fun x hx y hy z hz h1 h2=>by
  rw[hl x hx y hy] at h1;rw[hl y hy z hz] at h2;rw[hl x hx z hz]
  exact q9d h1 h2) zs (fun _ h=>h) hn
 exact h.imp_of_mem fun {a b} ha hb h=>by
  rw[hl a ((q3n f zs a).1 ha) b ((q3n f zs b).1 hb)] at h;exact h
end
noncomputable section
open Go.RowKit
structure q3v (n:qb) (l:List qa) (set:Nat):Prop where
 fit:∀y∈ndN n,q2Q y
 nd:(ndN n).length≤9999
 st:∀y∈ndN n,y.Set.length≤1000000
 ll:l.length≤16
 lt:set<2 ^ l.length
theorem q3v.lt64 {n:qb} {l:List qa} {set:Nat} (h:q3v n l set):set<9223372036854775808:=by
 have h1:=h.lt
 have h2:(2:Nat) ^ l.length≤2 ^ 16:=Nat.pow_le_pow_right (by decide) h.ll
 have h3:(2:Nat) ^ 16=65536:=by decide
 omega
theorem q3v.lv {n:qb} {l:List qa} {set:Nat} (h:q3v n l set):lvN n≤9999:=qPt (qlg n) h.nd
theorem qm1 {n:qb} {l:List qa} {set:Nat} (h:q3v n l set) (s:qg) (d:List Int) (hd:d.length≤16):q2s n s l d=some (Zk (2 ^ l.length) (QO d s l n 0),d):=by
 have:=qnt d hd s l h.ll _ n (qP8 _) (by have:=h.nd;omega) h.st 0 (by have:=h.nd;omega)
 unfold q2s
 change Option.bind (zO (n,d,l,((0:Nat):Int),s)) _=_
 rw[this]
 rfl
theorem q91 {α:Type} {d:List α} {y z:α} {j:Nat} (h:(d++[y])[j]?=some z):d[j]?=some z∨(j=d.length∧z=y):=by
 by_cases hj:j<d.length
 ·rw[qPw hj] at h
  exact .inl h
 ·rw[qPv (by omega)] at h
  have:=Jf h
  rw[qPa] at this
  have e:j-d.length=0:=by omega
  rw[e] at h
  simp only[qP2,qPI] at h
  exact .inr ⟨by omega,h.symm⟩
theorem qqp {d:List Int} {a:Nat→Int} {w set:Nat} (h:Asg d a 0 w set):Asg (d++[a d.length]) a 0 w set:=⟨h.inn,h.out,fun k y hy x hx hx2=>by
 rcases q91 hy with e|⟨e1,e2⟩
 ·exact h.com k y e x hx hx2
 ·rw[e1,e2]⟩
theorem qon {n:qb} {l:List qa} {set:Nat} (h:q3v n l set) (s:qg) (w4:List Int) (t49 t50:Int) (d:List Int) (hd:d.length+1≤16):∀(m x:Nat),x+m≤1000000→
  (∃v:Nat,x≤v∧v≤x+m∧QO (d++[(v:Int)]) s l n 0 set=true)→
  ∃v:Nat,x≤v∧v≤x+m∧QO (d++[(v:Int)]) s l n 0 set=true∧(∀y:Nat,x≤y→y<v→QO (d++[(y:Int)]) s l n 0 set=false)∧
   zB (JQ w4 n s l (set:Int) (d.length:Int) t49 t50) (d++[(x:Int)])=some (d++[(v:Int)]):=by
 have hstep:∀x:Nat,x≤1000000→JQ w4 n s l (set:Int) (d.length:Int) t49 t50 (d++[(x:Int)])=if QO (d++[(x:Int)]) s l n 0 set=true then some (.inr (d++[(x:Int)])) else some (.inl (d++[((x+1:Nat):Int)])):=by
  intro x hx
  have hlen:(d++[(x:Int)]).length=d.length+1:=by rw[qOZ,qPa]
  have hg:(d++[(x:Int)])[d.length]?=some (x:Int):=by rw[qPv (qP8 _),Nat.sub_self];rfl
  have hlt:=h.lt
  have hw:w64 ((x:Int)+1)=((x+1:Nat):Int):=Z5 (by omega) (by omega)
  have hset:(d++[(x:Int)]).set d.length ((x+1:Nat):Int)=d++[((x+1:Nat):Int)]:=by
   rw[List.set_append_right _ _ (qP8 _),Nat.sub_self]
   rfl
  unfold JQ
  simp only
  rw[qm1 h s _ (by omega),qOS]
  simp only
  rw[if_pos (by rw[zK];omega),qOV,J3 _ hlt,qOS]
  cases hs:QO (d++[(x:Int)]) s l n 0 set
  ·rw[if_pos (by decide),if_pos (by rw[hlen];omega),qOV,hg,qOS,if_pos (by rw[hlen];omega),if_pos (by rw[hlen];omega),hw,hset]
   rfl
  ·rfl
 intro m
 induction m with
 | zero=>
  intro x hx hv
  obtain⟨v,h1,h2,h3⟩:=hv
  have e:v=x:=by omega
  subst e
  exact⟨v,qP8 _,by omega,h3,fun y _ _=>by omega,zA (by rw[hstep v (by omega),if_pos h3])⟩
 | succ m ih=>
  intro x hx hv
  by_cases hs:QO (d++[(x:Int)]) s l n 0 set=true
  ·exact⟨x,qP8 _,by omega,hs,fun y _ _=>by omega,zA (by rw[hstep x (by omega),if_pos hs])⟩
  ·obtain⟨v,h1,h2,h3⟩:=hv
   have hne:v≠x:=fun e=>hs (by rw[←e];exact h3)
   obtain⟨u,u1,u2,u3,u4,u5⟩:=ih (x+1) (by omega) ⟨v,by omega,by omega,h3⟩
   refine⟨u,by omega,by omega,u3,fun y hy hy2=>?_,?_⟩
   ·by_cases e:y=x
    ·subst e;exact qPk.2 hs
    ·exact u4 y (by omega) hy2
   ·rw[Q1 (by rw[hstep x (by omega),if_neg hs])]
    exact u5
structure q6y (d:List Int) (s:qg) (l:List qa) (n:qb) (set:Nat):Prop where
 ok:QO d s l n 0 set=true
 val:∀(j:Nat) (y:Int),d[j]?=some y→if set.testBit j=true then 0≤y∧y<(lvN n:Int) else y = -1
 lst:∀(j:Nat) (x:Int),d[j]?=some x→set.testBit j=true→∀y:Nat,(y:Int)<x→QO (d.take j++[(y:Int)]) s l n 0 set=false
theorem qgy {α:Type} {d:List α} {j:Nat} {x y:α} (h:d[j]?=some x):(d++[y]).take j=d.take j:=List.take_append_of_le_length (by have:=Jf h;omega)
theorem qly {n:qb} {l:List qa} {set:Nat} (h:q3v n l set) {s:qg} {d:List Int} (hf:q6y d s l n set) (hd:d.length<l.length) :
  (set.testBit d.length=false→q6y (d++[-1]) s l n set)∧(set.testBit d.length=true→∃v:Nat,v<lvN n∧QO (d++[(v:Int)]) s l n 0 set=true):=by
 have hll:=h.ll
 obtain⟨a,ha,hm⟩:=(q5e d s l (by omega) n 0 set h.fit h.lt).1 hf.ok
 have hs:=(q5e (d++[a d.length]) s l (by omega) n 0 set h.fit h.lt).2 ⟨a,qqp ha,hm⟩
 constructor
 ·intro hb
  rw[ha.out _ hb] at hs
  refine⟨hs,fun j y hy=>?_,fun j x hx hj y hy=>?_⟩
  ·rcases q91 hy with e|⟨e1,e2⟩
   ·exact hf.val j y e
   ·rw[e1,hb,if_neg (by decide)];exact e2
  ·rcases q91 hx with e|⟨e1,e2⟩
   ·rw[qgy e];exact hf.lst j x e hj y hy
   ·rw[e1,hb] at hj;exact absurd hj (by decide)
 ·intro hb
  have:=ha.inn _ hb
  refine⟨(a d.length).toNat,by omega,?_⟩
  rw[show(((a d.length).toNat:Nat):Int)=a d.length from by omega]
  exact hs
theorem qia {n:qb} {l:List qa} {set:Nat} (h:q3v n l set) (s:qg):∀(m:Nat) (d:List Int),d.length+m=l.length→q6y d s l n set→
  ∃d',d'.length=l.length∧q6y d' s l n set∧(∃e,d'=d++e)∧zB (J8 n s l (set:Int) (l.length:Int)) (d,Qu set.testBit d,(d.length:Int))=some (Qu set.testBit d'):=by
 intro m
 induction m with
 | zero=>
  intro d hd hf
  refine⟨d,by omega,hf,⟨[],(qPd _).symm⟩,zA ?_⟩
  unfold J8
  simp only
  rw[if_neg (by omega)]
 | succ m ih=>
  intro d hd hf
  have hll:=h.ll
  have hlt:=h.lt64
  have hML:100000≤maxLen:=by unfold maxLen;omega
  have hsel:=q4H d set.testBit
  obtain⟨f1,f2⟩:=qly h hf (by omega)
  have hw:w64 ((d.length:Int)+1)=((d.length+1:Nat):Int):=Z5 (by omega) (by omega)
  have hbit:(ZW Go.BinOp.and IntKind.i64 (Int.fdiv (set:Int) ((2:Int) ^ min (Int.toNat (d.length:Int)) (IntKind.bits IntKind.i64))) (1:Int)==(0:Int)) = !set.testBit d.length:=by
   rw[qOV,q8V set d.length (by omega),show(1:Int)=((1:Nat):Int) from rfl,qfA _ 1 (qPu (Nat.div_le_self _ _) hlt) (by decide),Nat.and_one_is_mod,Nat.testBit_eq_decide_div_mod_eq]
   have:set / 2 ^ d.length % 2<2:=Nat.mod_lt _ (by decide)
   by_cases e:set / 2 ^ d.length % 2=1
   ·rw[e];rfl
   ·have e0:set / 2 ^ d.length % 2=0:=by omega
    rw[e0];rfl
  have hset:∀y z:Int,(d++[y]).set d.length z=d++[z]:=fun y z=>by
   rw[List.set_append_right _ _ (qP8 _),Nat.sub_self]
   rfl
  cases hb:set.testBit d.length
  ·obtain⟨d',g1,g2,⟨e,g3⟩,g4⟩:=ih (d++[-1]) (by rw[qOZ,qPa];omega) (f1 hb)
   refine⟨d',g1,g2,⟨[-1]++e,by rw[g3,qPy]⟩,?_⟩
   rw[q7i,hb,if_neg (by decide),qPd,qOZ,qPa] at g4
   rw[←g4]
   refine Q1 ?_
   unfold J8
   simp only
   rw[if_pos (by omega),if_pos ⟨by omega,by omega⟩,if_pos (by omega),hbit,hb,if_pos (by decide),hw]
  ·obtain⟨v0,hv0,hs0⟩:=f2 hb
   have hlv:=h.lv
   obtain⟨v,v1,v2,v3,v4,v5⟩:=qon h s (Qu set.testBit d) (l.length:Int) (d.length:Int) d (by omega) v0 0 (by omega) ⟨v0,by omega,by omega,hs0⟩
   have hF:q6y (d++[(v:Int)]) s l n set:=⟨v3,fun j y hy=>by
    rcases q91 hy with e|⟨e1,e2⟩
    ·exact hf.val j y e
    ·rw[e1,hb,if_pos rfl,e2];omega,fun j x hx hj y hy=>by
    rcases q91 hx with e|⟨e1,e2⟩
    ·rw[qgy e];exact hf.lst j x e hj y hy
    ·rw[e1,List.take_left]
     exact v4 y (qPi _) (by omega)⟩
   obtain⟨d',g1,g2,⟨e,g3⟩,g4⟩:=ih (d++[(v:Int)]) (by rw[qOZ,qPa];omega) hF
   refine⟨d',g1,g2,⟨[(v:Int)]++e,by rw[g3,qPy]⟩,?_⟩
   rw[q7i,hb,if_pos rfl,qOZ,qPa] at g4
   rw[←g4]
   refine Q1 ?_
   have hg:(d++[(v:Int)])[d.length]?=some (v:Int):=by rw[qPv (qP8 _),Nat.sub_self];rfl
   unfold J8
   simp only
   rw[if_pos (by omega),if_pos ⟨by omega,by omega⟩,if_pos (by omega),hbit,hb,if_neg (by decide),if_pos ⟨by omega,by omega⟩,qOV,if_pos (qP8 _),hset]
   rw[show(0:Int)=((0:Nat):Int) from rfl,v5,qOS,if_pos (by rw[qOZ,qPa];omega),hg,qOS,if_pos ⟨by omega,by omega⟩,hw]
theorem qg7 {n:qb} {l:List qa} {set:Nat} (h:q3v n l set) (s:qg) (hS:q2I n s l=some (Zk (2 ^ l.length) (QO [] s l n 0),0)) :
  (QO [] s l n 0 set=false∧q1c n s l (set:Int)=some ([],false))∨
  (QO [] s l n 0 set=true∧∃d,d.length=l.length∧q6y d s l n set∧q1c n s l (set:Int)=some (Qu set.testBit d,true)):=by
 have hlt:=h.lt
 have hll:=h.ll
 unfold q1c
 rw[hS,qOS]
 simp only
 rw[if_neg (by decide),if_neg (by omega),if_neg (by rw[zK];omega),if_pos (by rw[zK];omega),qOV,J3 _ hlt,qOS]
 cases hs:QO [] s l n 0 set
 ·exact .inl ⟨rfl,by rw[if_pos (by decide)]⟩
 ·refine .inr ⟨rfl,?_⟩
  obtain⟨d',g1,g2,_,g4⟩:=qia h s l.length [] (by simp) ⟨hs,fun j y hy=>by simp at hy,fun j x hx=>by simp at hx⟩
  refine⟨d',g1,g2,?_⟩
  rw[if_neg (by decide),if_pos ⟨by omega,by omega,by omega⟩]
  change Option.bind (zB _ ([],Qu set.testBit [],((([]:List Int).length:Nat):Int))) _=_
  rw[g4]
  rfl
end
noncomputable section
open Go.RowKit
theorem qoy (n:qb) (hn:n.Set.length≤9223372036854775807) (s:qg) (l:List qa) (hl:l.length≤62) (d:List Int) (hd:d.length=l.length) (nx:Nat):q2k n s l d (nx:Int)=some (qi9 n s l (fun j=>d.getD j (-1)==(nx:Int))):=by
 have h1:=q2d (ε:=qP) (step:=Jn d (nx:Int) n s (qP.mk (0:Int) (0:Int) Bool.false) l (l.length:Int)) l (fun(b:qP) i=>(b,(i:Int))) (fun i b a => .inl (if(d.getD i (-1)==(nx:Int))=true then qlO n s b a else b)) (fun b=>b) (fun b i a ha=>by
   have hi:=Jf ha
   have hw:w64 ((i:Int)+1)=((i+1:Nat):Int):=Qi hi (by omega)
   have hb:q12 (i:Int) d (nx:Int)=some (d.getD i (-1)==(nx:Int)):=by
    unfold q12
    rw[if_pos ⟨by omega,by omega⟩,qOV,qOU (by omega),qOS,List.getD_eq_getElem?_getD,qOU (by omega)]
    rfl
   unfold Jn qlO
   simp only
   rw[if_pos (by omega),if_pos ⟨by omega,by omega⟩,qOV,ha,qOS,hw,hb,qOS]
   cases(d.getD i (-1)==(nx:Int))
   ·simp
   ·cases hf:b.fine
    ·simp
    ·simp[qpP n hn s a]) (fun b=>by
   unfold Jn
   simp only
   rw[if_neg (by omega)]) ld0
 unfold q2k qi9
 change Option.bind (zB _ (ld0,((0:Nat):Int))) _=_
 rw[h1,qOS]
 congr 1
 have:∀(l:List qa) (i:Nat) (b:qP),q4x (ε:=qP) (fun i (b:qP) (a:qa) => .inl (if(d.getD i (-1)==(nx:Int))=true then qlO n s b a else b)) (fun b=>b) l i b=(Qu (fun j=>d.getD (i+j) (-1)==(nx:Int)) l).foldl (qlO n s) b:=by
  intro l
  induction l with
  | nil=>intro i b;rfl
  | cons a l ih=>
   intro i b
   unfold q4x Qu
   rw[List.foldl_append]
   simp only[Nat.add_zero]
   rw[ih (i+1)]
   rw[show(fun j=>d.getD (i+1+j) (-1)==(nx:Int))=fun j=>d.getD (i+(j+1)) (-1)==(nx:Int) from funext fun j=>by rw[Nat.add_right_comm,qPM]]
   split<;>rfl
 rw[this l 0 ld0]
 simp only[qPg]
end
noncomputable section
open Go.RowKit
mutual
def itN (d:Int):qb→List qv
 | ⟨k,n,m,S,L⟩=>⟨⟨k,n,m,S,L⟩,d⟩::itL (d+1) L
def itL (d:Int):List qb→List qv
 | []=>[]
 | x::L=>itN d x++itL d L
end
theorem qtB (d:Int) (n:qb):itN d n=⟨n,d⟩::itL (d+1) n.L:=by cases n;rw[itN]
theorem qog:∀(n:qb) (d:Int),(itN d n).map (·.Need)=ndN n:=by
 intro n
 induction n using qb.rec (motive_2:=fun L=>∀d,(itL d L).map (·.Need)=ndL L) with
 | mk k n m S L ih=>intro d;rw[itN,ndN,qPf,ih]
 | nil=>rw[itL,ndL];rfl
 | cons x L h1 h2=>rw[itL,ndL,List.map_append,h1,h2]
theorem qnC (n:qb) (d:Int):(itN d n).length=(ndN n).length:=by rw[←qog n d,qPB]
theorem qgm (rF:(qb×Int×List qv)→Option (Unit⊕(List qv))) (deep:Int) (hd:1≤deep) (n:qb) (hL:n.L.length≤10000)
  (step:List qv×Int→Option ((List qv×Int)⊕(Unit⊕(List qv))))
  (hst:∀w (i:Nat),step (w,(i:Int))=if(i:Int)<((n.L.length:Nat):Int) then if(0:Int)≤i∧(i:Int)<((n.L.length:Nat):Int) then Option.bind n.L[Int.toNat i]? fun a2=>Option.bind (rF (a2,w64 (deep+1),w)) fun a3=>Sum.elim (fun _=>some (Sum.inr (Sum.inl ()))) (fun a5=>some (Sum.inl (a5,w64 ((i:Int)+1)))) a3 else none else some (.inr (.inr w)))
  (hP:∀y∈n.L,∀w,deep+1+hgN y≤101→w.length+(ndN y).length≤10000→rF (y,deep+1,w)=some (.inr (w++itN (deep+1) y))) :
  ∀(r:List qb) (i:Nat) (w:List qv),r.length+i=n.L.length→(∀j,r[j]?=n.L[i+j]?)→deep+1+hgL r≤101→w.length+(ndL r).length≤10000→
  zB step (w,(i:Int))=some (.inr (w++itL (deep+1) r)):=by
 intro r
 induction r with
 | nil=>
  intro i w hi _ _ _
  have hi:i=n.L.length:=by simpa using hi
  subst hi
  refine zA ?_
  rw[hst,if_neg (by omega),itL,qPd]
 | cons y r ih=>
  intro i w hi hr hh hw
  rw[hgL] at hh
  rw[ndL,qOZ] at hw
  simp only[qP3] at hi
  have hget:n.L[i]?=some y:=by have:=hr 0;simpa using this.symm
  have hlt:=Jf hget
  have hcall:=hP y (qOT hget) w (by omega) (by omega)
  have hstep:step (w,(i:Int))=some (.inl (w++itN (deep+1) y,((i+1:Nat):Int))):=by
   rw[hst,if_pos (by omega),if_pos ⟨by omega,by omega⟩,qOV,hget,qOS,Z5 (by omega) (by omega),hcall,qOS,Qi hlt (by omega)]
   rfl
  rw[Q1 hstep,ih (i+1) _ (by omega) (fun j=>by rw[show i+1+j=i+(j+1) by omega,←hr (j+1)];rfl) (by omega) (by rw[qOZ,qnC];omega),itL,qPy]
theorem qrb:∀(m:Nat) (y:qb),(ndN y).length≤m→∀(deep:Int) (w:List qv),1≤deep→deep+hgN y≤101→w.length+(ndN y).length≤10000→ZA (y,deep,w)=some (.inr (w++itN deep y)):=by
 intro m
 induction m with
 | zero=>intro y h;rw[q03] at h;simp at h
 | succ m ih=>
  intro y h deep w hd hh hw
  rw[q03,qP3] at h hw
  rw[qe5] at hh
  have hsub:∀(L:List qb),(ndL L).length≤m→∀z∈L,∀(deep:Int) (w:List qv),1≤deep→deep+hgN z≤101→w.length+(ndN z).length≤10000→ZA (z,deep,w)=some (.inr (w++itN deep z)):=by
   intro L
   induction L with
   | nil=>intro _ z hz;simp at hz
   | cons x L ihl=>
    intro g z hz
    rw[ndL,qOZ] at g
    rcases qPe.1 hz with rfl|hz
    ·exact ih _ (by omega)
    ·exact ihl (by omega) z hz
  have hP:=hsub y.L (by omega)
  have hl:=qcH y.L
  have hML:100000≤maxLen:=by unfold maxLen;omega
  rw[qaA,q0o,if_neg (by omega),if_neg (by omega),if_pos ⟨by omega,by omega⟩]
  have h1:=qgm ZA deep hd y (by omega) (q0q ZA y deep) (fun w i=>by rfl) (fun z hz w g1 g2=>hP z hz (deep+1) w (by omega) g1 g2) y.L 0 (w++[⟨y,deep⟩]) (by simp) (by simp) (by omega) (by rw[qOZ,qPa];omega)
  rw[show((0:Nat):Int)=0 from rfl] at h1
  rw[h1,qOS,Sum.elim_inr,qtB,qPy]
  rfl
theorem qra (n:qb) (hh:hgN n≤100) (hn:(ndN n).length≤9999):q3k n 1=some (.inr (itN 1 n)):=by
 rw[qe5] at hh
 rw[q03,qP3] at hn
 have hl:=qcH n.L
 unfold q3k
 rw[if_neg (by omega),if_pos (by unfold maxLen;omega)]
 have h1:=qgm ZA 1 (by omega) n (by omega) (q1b n 1) (fun w i=>by rfl) (fun z hz w g1 g2=>qrb _ z (qP8 _) (1+1) w (by omega) (by omega) g2) n.L 0 [⟨n,1⟩] (by simp) (by simp) (by omega) (by simp only[qPa];omega)
 rw[show((0:Nat):Int)=0 from rfl] at h1
 rw[h1,qOS,Sum.elim_inr,qtB]
 rfl
end
noncomputable section
open Go.RowKit
theorem qqw (items:List qv) (out:List qc) (hl:out.length≤1000000) (t6:Int) (S:List qc) (k:Nat) (c:qc) (hc:S[k]?=some c) (hS:S.length≤1000000):zB (QZ items out t6 S (k:Int)) 0=some ((atF out c:Nat):Int):=by
 have hk:=Jf hc
 have h1:=q2d (ε:=Int) (step:=QZ items out t6 S (k:Int)) out (fun(_:Unit) i=>(i:Int)) (fun i _ x=>if q46 x c=true then .inl () else .inr (i:Int)) (fun _=>(out.length:Int)) (fun _ i x hx=>by
   have hi:=Jf hx
   unfold QZ
   rw[if_pos (by omega),if_pos ⟨by omega,by omega⟩,qOV,hx,qOS,if_pos ⟨by omega,by omega⟩,qOV,hc,qOS,Qi hi (by omega)]
   show(if q46 x c=true then _ else _)=_
   cases q46 x c<;>simp) (fun _=>by
   unfold QZ
   rw[if_neg (by omega)]) ()
 rw[show((0:Nat):Int)=0 from rfl] at h1
 rw[h1]
 congr 1
 have:∀(l:List qc) (i:Nat) (n:Nat),i+l.length=n→q4x (ε:=Int) (fun i (_:Unit) (x:qc)=>if q46 x c=true then .inl () else .inr (i:Int)) (fun _=>(n:Int)) l i ()=((i+atF l c:Nat):Int):=by
  intro l
  induction l with
  | nil=>intro i n h;simp at h;unfold q4x atF;simp[h]
  | cons x l ih=>
   intro i n h
   simp only[qP3] at h
   unfold q4x
   by_cases hx:q46 x c=true
   ·have e:atF (x::l) c=atF l c+1:=by unfold atF;rw[List.takeWhile_cons,if_pos hx];rfl
    simp only[hx,if_true]
    rw[ih (i+1) n (by omega),e]
    omega
   ·have e:atF (x::l) c=0:=by unfold atF;rw[List.takeWhile_cons,if_neg hx];rfl
    have hx':q46 x c=false:=by simpa using hx
    simp only[hx',Bool.false_eq_true,if_false]
    rw[e];rfl
 have:=this out 0 out.length (by simp)
 simpa using this
theorem qfp (items:List qv) (out:List qc) (hl:out.length≤1000) (t6:Int) (S:List qc) (hS:S.length≤1000000) (k:Nat) (c:qc) (hc:S[k]?=some c) :
  Zb items t6 S (out,(k:Int))=some (.inl (qiU out c,((k+1:Nat):Int))):=by
 have hk:=Jf hc
 have hML:100000≤maxLen:=by unfold maxLen;omega
 have hat:=qnc out c
 unfold Zb
 simp only
 rw[if_pos (by omega),qqw items out (by omega) t6 S k c hc hS,qOS]
 have hwk:w64 ((k:Int)+1)=((k+1:Nat):Int):=by rw[Z5 (by omega) (by omega)];omega
 have hwa:w64 (((atF out c:Nat):Int)+1)=((atF out c+1:Nat):Int):=by rw[Z5 (by omega) (by omega)];omega
 rw[hwk,hwa]
 simp only[qOV,qPl,qPF,qOZ,qP3,qPC]
 rw[hc]
 simp only[qOS]
 have hkk:(0:Int)≤(k:Int)∧(k:Int)<((S.length:Nat):Int):=⟨by omega,by omega⟩
 simp only[hkk,and_self,if_true]
 unfold qiU
 by_cases hlt:atF out c<out.length
 ·obtain⟨x,hx⟩:∃x,out[atF out c]?=some x:=⟨_,qOU hlt⟩
  rw[if_pos (by omega),if_pos ⟨by omega,by omega⟩,hx,qOS]
  simp only[Option.any_some]
  by_cases hc:ceq x c=true
  ·have hc2:=hc
   unfold ceq at hc2
   simp only[qPo] at hc2
   rw[if_pos hc2,if_pos hc]
  ·have hc2:¬ ((x.School==c.School)=true∧(x.Code.toList==c.Code.toList)=true):=fun h=>hc (by unfold ceq;rw[h.1,h.2];rfl)
   rw[if_neg hc2,if_neg hc]
   repeat (first|rw[if_pos (by omega)]|rw[if_neg (by omega)])
   rw[qow _ _ _ _ hlt]
 ·have he:atF out c=out.length:=by omega
  have hnone:out[out.length]?=none:=qPq (qP8 _)
  rw[he,hnone]
  simp only[Option.any_none,Bool.false_eq_true,if_false]
  repeat (first|rw[if_pos (by omega)]|rw[if_neg (by omega)])
  rw[qjq]
theorem qzb (l:List qc):∀(out:List qc),(l.foldl qiU out).length≤out.length+l.length:=by
 induction l with
 | nil=>intro out;simp
 | cons c l ih=>
  intro out
  rw[qPW,qP3]
  have:=ih (qiU out c)
  have:=(qhm out c).2.1
  omega
theorem qiA (items:List qv) (t6:Int) (S:List qc) (hS:S.length≤100):∀(r:List qc) (k:Nat) (out:List qc),r.length+k=S.length→(∀j,r[j]?=S[k+j]?)→out.length+r.length≤1000→zB (Zb items t6 S) (out,(k:Int))=some (r.foldl qiU out):=by
 intro r
 induction r with
 | nil=>
  intro k out hk _ _
  have hk:k=S.length:=by simpa using hk
  subst hk
  refine zA ?_
  unfold Zb
  simp only
  rw[if_neg (by omega)]
  rfl
 | cons c r ih=>
  intro k out hk hr hl
  simp only[qP3] at hk hl
  have hget:S[k]?=some c:=by have:=hr 0;simpa using this.symm
  rw[Q1 (qfp items out (by omega) t6 S (by omega) k c hget),qPW]
  have:=(qhm out c).2.1
  exact ih (k+1) _ (by omega) (fun j=>by rw[show k+1+j=k+(j+1) by omega,←hr (j+1)];rfl) (by omega)
theorem qhJ (items:List qv) (hn:items.length≤100) (hS:∀x∈items,x.Need.Set.length≤3):∀(r:List qv) (i:Nat) (out:List qc),r.length+i=items.length→(∀j,r[j]?=items[i+j]?)→out.length+3*r.length≤900→∃cs,zB (Zc items) (out,(i:Int))=some cs∧cs.length≤900:=by
 intro r
 induction r with
 | nil=>
  intro i out hi _ hl
  have hi:i=items.length:=by simpa using hi
  subst hi
  refine⟨out,zA ?_,by simp at hl;omega⟩
  unfold Zc
  simp only
  rw[if_neg (by omega)]
 | cons x r ih=>
  intro i out hi hr hl
  simp only[qP3] at hi hl
  have hget:items[i]?=some x:=by have:=hr 0;simpa using this.symm
  have hlt:=Jf hget
  have hx:=hS x (qOT hget)
  have hs:=qiA items (i:Int) x.Need.Set (by omega) x.Need.Set 0 out (by simp) (by simp) (by omega)
  rw[show((0:Nat):Int)=0 from rfl] at hs
  have hp:=qzb x.Need.Set out
  obtain⟨cs,h1,h2⟩:=ih (i+1) (x.Need.Set.foldl qiU out) (by omega) (fun j=>by rw[show i+1+j=i+(j+1) by omega,←hr (j+1)];rfl) (by omega)
  refine⟨cs,?_,h2⟩
  rw[Q1 (y:=(x.Need.Set.foldl qiU out,((i+1:Nat):Int))) (by
   unfold Zc
   simp only
   rw[if_pos (by omega),if_pos ⟨by omega,by omega⟩,qOV,hget,qOS,hs,qOS,Qi hlt (by omega)])]
  exact h1
theorem qlG {n:qb} (h:q6b 3 6 n):∃cs,q1i n=some cs∧cs.length≤900:=by
 have h1:=h.hg
 have h2:=h.l2
 have h3:=h.nd
 have hlen:=qnC n 1
 have hS:∀x∈itN 1 n,x.Need.Set.length≤3:=fun x hx=>by
  have hm:x.Need∈ndN n:=by rw[←qog n 1];exact qPD.2 ⟨x,hx,rfl⟩
  rcases h.ok _ hm with h|h
  ·exact h.s3
  ·rw[h.st];simp
 obtain⟨cs,g1,g2⟩:=qhJ (itN 1 n) (by omega) hS (itN 1 n) 0 [] (by simp) (by simp) (by simp;omega)
 refine⟨cs,?_,g2⟩
 unfold q1i
 rw[qra n (by omega) (by omega),qOS,Sum.elim_inr]
 rw[show((0:Nat):Int)=0 from rfl] at g1
 rw[g1,qOS]
theorem qBU (x m:Int) (h0:0<m) (h1:m≤1000000):∃v,q4k x m=some v∧0≤v∧v<m:=by
 have e1:=Int.tmod_lt_of_pos x h0
 have e2 : -m<Int.tmod x m:=by
  have:=Int.tmod_lt_of_pos (-x) h0
  rw[Int.neg_tmod] at this;omega
 have e3:w64 (Int.tmod x m+m)=Int.tmod x m+m:=Z5 (by omega) (by omega)
 refine⟨Int.tmod (Int.tmod x m+m) m,?_,Int.tmod_nonneg _ (by omega),Int.tmod_lt_of_pos _ h0⟩
 unfold q4k
 rw[if_neg (by omega),if_neg (by omega),e3]
theorem qlF {d:qi} (h:q0x d) {most:Int} (h0:0<most) (h1:most≤1000000):∃v d',QN most d=some (v,d')∧0≤v∧v<most∧q0x d':=by
 obtain⟨a,b,c⟩:=h
 unfold QN
 by_cases he:(d.L.length:Int)≤d.At
 ·exact⟨0,d,if_pos he,Int.le_refl _,h0,⟨a,b,c⟩⟩
 ·obtain⟨x,hx⟩:∃x,d.L[Int.toNat d.At]?=some x:=⟨_,qOU (by omega)⟩
  obtain⟨v,e1,e2,e3⟩:=qBU x most h0 h1
  have e6:w64 (d.At+1)=d.At+1:=Z5 (by omega) (by omega)
  have e7:w64 (d.At+1-1)=d.At:=by rw[Z5 (by omega) (by omega)];omega
  refine⟨v,⟨d.L,d.At+1⟩,?_,e2,e3,⟨by show 0≤d.At+1;omega,by show d.At+1≤d.L.length;omega,c⟩⟩
  rw[if_neg he,e6,e7,if_pos ⟨a,by omega⟩,hx,qOS,e1,qOS]
end

noncomputable section
open Go.RowKit
theorem qzW:∀L:List qb,L.length≤(ndL L).length
 | []=>qPi _
 | x::L=>by
  have:=qzW L
  rw[ndL,qOZ,q03,qP3,qP3]
  omega
theorem qnY (s:qg) (l:List qa) (hl:l.length≤62) (d:List Int) (hd:d.length=l.length):∀(n:qb) (nx:Nat),(∀y∈ndN n,y.Set.length≤1000000)→nx+(ndN n).length≤100000→
  JV (n,s,l,d,(nx:Int))=some ((q50 s l (fun j=>d.getD j (-1)) n nx).1,(q50 s l (fun j=>d.getD j (-1)) n nx).2,s,l,d,((nx+lvN n:Nat):Int)):=by
 intro n
 induction n using qb.rec (motive_2:=fun L=>∀(b5:qb) (pre:List qb) (nx many:Nat) (em wr:Bool),(∀y∈ndL L,y.Set.length≤1000000)→nx+(ndL L).length≤100000→many+L.length≤200000→pre.length+L.length≤200000→
   zB (Jr JV b5 (pre++L) ((pre++L).length:Int)) (s,l,d,(nx:Int),em,(many:Int),wr,(pre.length:Int)) =
    some (s,l,d,((nx+lvL L:Nat):Int),em&&(q2z s l (fun j=>d.getD j (-1)) (b5.Kind==3) L nx).1,((many+(q2z s l (fun j=>d.getD j (-1)) (b5.Kind==3) L nx).2.1:Nat):Int),wr||(q2z s l (fun j=>d.getD j (-1)) (b5.Kind==3) L nx).2.2)) with
 | mk k n m S L ih=>
  intro nx hs hn
  rw[ndN,qP3] at hn
  rw[qbw]
  unfold q0N
  simp only
  rw[qbM,q5U,lvN]
  have hlf:q9l ⟨k,n,m,S,L⟩=decide (k=1∨k=2):=by
   unfold q9l
   simp only
   by_cases h1:k=1
   ·subst h1;rfl
   ·by_cases h2:k=2
    ·subst h2;rfl
    ·rw[beq_eq_false_iff_ne.2 h1,beq_eq_false_iff_ne.2 h2,decide_eq_false (by omega)];rfl
  rw[hlf]
  by_cases hk:k=1∨k=2
  ·have hsz:=hs _ (qfq _)
   rw[if_pos (qPT hk),if_pos hk,if_pos hk,qoy _ (by omega) s l hl d hd nx,qOS]
   simp only
   generalize qi9 ⟨k,n,m,S,L⟩ s l (fun j=>d.getD j (-1)==(nx:Int))=x
   have hw:w64 ((nx:Int)+1)=((nx+1:Nat):Int):=Z5 (by omega) (by omega)
   rw[hw]
   unfold q1a
   by_cases h1:k=1
   ·subst h1
    have hx:Q4 x ⟨1,n,m,S,L⟩=qe8 ⟨1,n,m,S,L⟩ x:=by
     unfold Q4 qe8
     rw[if_pos rfl]
     cases x.fine<;>simp
    rw[if_pos (by decide),qOS,Sum.elim_inl,hx]
   ·have hx:Qx x ⟨k,n,m,S,L⟩=qe8 ⟨k,n,m,S,L⟩ x:=by
     unfold Qx qe8
     simp only
     rw[if_neg h1]
     cases x.fine
     ·simp
     ·by_cases h:0<x.many<;>simp[h]
    rw[if_neg (by rw[beq_eq_false_iff_ne.2 h1];decide),qOS,Sum.elim_inr,hx]
  ·have hln:=qzW L
   have h:=ih ⟨k,n,m,S,L⟩ [] nx 0 true false (fun y hy=>hs y (by rw[ndN];exact qP0 _ hy)) (by omega) (by omega) (by simp;omega)
   rw[if_neg (by rw[decide_eq_false hk];decide),if_neg hk,if_neg hk]
   simp only[qPc] at h
   change Option.bind (zB _ (s,l,d,(nx:Int),true,((0:Nat):Int),false,((([]:List qb).length:Nat):Int))) _=_
   rw[h,qOS]
   simp only[qPp,Bool.false_or,qPg]
   cases(q2z s l (fun j=>d.getD j (-1)) (k==3) L nx).2.2<;>simp
 | nil=>
  rename_i b5 pre nx many em wr hs hn hm hp
  rw[lvL,q2z]
  refine zA ?_
  unfold Jr
  simp only
  rw[qPd,if_neg (by omega)]
  simp
 | cons x L h1 h2=>
  rename_i b5 pre nx many em wr hs hn hm hp
  rw[ndL,qOZ] at hn
  rw[qP3] at hm hp
  have hx:=h1 nx (fun y hy=>hs y (by rw[ndL];exact qP4 _ hy)) (by omega)
  have hlv:=qlg x
  have hw:w64 ((pre.length:Int)+1)=((pre.length+1:Nat):Int):=Z5 (by omega) (by omega)
  have hw2:w64 ((many:Int)+1)=((many+1:Nat):Int):=Z5 (by omega) (by omega)
  have hL:=h2 b5 (pre++[x]) (nx+lvN x) (many+if(q50 s l (fun j=>d.getD j (-1)) x nx).2=true then 1 else 0) (em&&(q50 s l (fun j=>d.getD j (-1)) x nx).1) (wr||(!(q50 s l (fun j=>d.getD j (-1)) x nx).2&&(!(q50 s l (fun j=>d.getD j (-1)) x nx).1||(b5.Kind==3)))) (fun y hy=>hs y (by rw[ndL];exact qP1 _ hy)) (by omega) (by split<;>omega) (by rw[qOZ,qPa];omega)
  rw[qPy,qPZ,show(pre++[x]).length=pre.length+1 from by rw[qOZ,qPa]] at hL
  have hg:(pre++x::L)[pre.length]?=some x:=by rw[qPv (qP8 _),Nat.sub_self];rfl
  rw[q2z,lvL]
  simp only
  rw[Q1 (y:=(s,l,d,((nx+lvN x:Nat):Int),em&&(q50 s l (fun j=>d.getD j (-1)) x nx).1,((many+(if(q50 s l (fun j=>d.getD j (-1)) x nx).2=true then 1 else 0):Nat):Int),wr||(!(q50 s l (fun j=>d.getD j (-1)) x nx).2&&(!(q50 s l (fun j=>d.getD j (-1)) x nx).1||(b5.Kind==3))),((pre.length+1:Nat):Int))) ?_,hL]
  ·simp only[qPM,Bool.and_assoc,Bool.or_assoc]
  ·unfold Jr
   simp only
   rw[if_pos (by rw[qOZ,qP3];omega),if_pos (by rw[qOZ,qP3];omega),qOV,hg,qOS,hx,qOS]
   simp only
   rw[hw,hw2]
   generalize (q50 s l (fun j=>d.getD j (-1)) x nx).1=q1
   generalize (q50 s l (fun j=>d.getD j (-1)) x nx).2=q2
   cases em<;>cases wr<;>cases q1<;>cases q2<;>simp
end
noncomputable section
open Go.RowKit
theorem qmA:∀n:qb,(∀y∈ndN n,q2Q y)→lvN n≤((ndN n).filter q1L).length:=by
 intro n
 induction n using qb.rec (motive_2:=fun L=>(∀y∈ndL L,q2Q y)→lvL L≤((ndL L).filter q1L).length) with
 | mk k n m S L ih=>
  intro hf
  have h1:=ih fun y hy=>hf y (by rw[ndN];exact qP0 _ hy)
  rw[lvN,ndN,List.filter_cons]
  have hk:=(hf _ (qfq _)).kind
  simp only at hk
  by_cases h:k=1∨k=2
  ·rw[if_pos h,if_pos (by unfold q1L;simp only;rcases h with h|h<;>subst h<;>decide),qP3]
   omega
  ·rw[if_neg h]
   split
   ·rw[qP3];omega
   ·exact h1
 | nil=>rename_i hf;rw[lvL];exact qPi _
 | cons x L h1 h2=>
  rename_i hf
  have a:=h1 fun y hy=>hf y (by rw[ndL];exact qP4 _ hy)
  have b:=h2 fun y hy=>hf y (by rw[ndL];exact qP1 _ hy)
  rw[lvL,ndL,List.filter_append,qOZ]
  omega
theorem qsS (d:List Int) (hd:d.length≤100) (v:Int) (h:∀(j:Nat) (y:Int),d[j]?=some y→q0f y v=false):Qz d v=some false:=by
 have h1:=q2o (step:=Qb v d (d.length:Int)) (e := .inr ()) (fun i=>(i:Int)) 0 d.length (qPi _) (fun i _ hi=>by
   obtain⟨y,hy⟩:∃y,d[i]?=some y:=⟨_,qOU hi⟩
   have hw:w64 ((i:Int)+1)=((i+1:Nat):Int):=Qi (n:=100) (by omega) (by omega)
   unfold Qb
   rw[if_pos (by omega),if_pos ⟨by omega,by omega⟩,qOV,hy,qOS,h i y hy,if_neg (by decide),hw]) (by
   unfold Qb
   rw[if_neg (by omega)])
 unfold Qz Zy
 change Option.bind (Option.bind (zB _ ((0:Nat):Int)) _) _=_
 rw[h1]
 rfl
end
noncomputable section
open Go.RowKit
def qyf (W:Nat) (l:List Int):Nat:=l.foldl (fun acc y=>acc*W+(y+1).toNat) 0
theorem qgb (W:Nat) (l:List Int) (y:Int):qyf W (l++[y])=qyf W l*W+(y+1).toNat:=by
 unfold qyf
 rw[List.foldl_append]
 rfl
def Holds (b:List Int) (set w:Nat):Prop:=∀(j:Nat) (y:Int),b[j]?=some y→if set.testBit j=true then 0≤y∧y<(w:Int) else y = -1
theorem qcu {n:qb} {l:List qa} {set:Nat} (h:q3v n l set) {b:List Int} (hb:b.length=l.length) (hv:Holds b set (lvN n)) (j:Nat):Asg (b.take j) (fun k=>b.getD k (-1)) 0 (lvN n) set:=by
 have hget:∀k y,b[k]?=some y→b.getD k (-1)=y:=fun k y hk=>by rw[List.getD_eq_getElem?_getD,hk];rfl
 refine⟨fun k hk=>?_,fun k hk=>?_,fun k y hy x hx hx2=>?_⟩
 ·have hl:=qmf h.lt hk
  obtain⟨y,hy⟩:∃y,b[k]?=some y:=⟨_,qOU (by omega)⟩
  have:=hv k y hy
  rw[if_pos hk] at this
  show _≤b.getD k (-1)∧b.getD k (-1)<_
  rw[hget k y hy]
  omega
 ·show b.getD k (-1) = -1
  by_cases hl:k<b.length
  ·have hy:=qOU hl
   have:=hv k _ hy
   rw[hk,if_neg (by decide)] at this
   rw[hget k _ hy,this]
  ·rw[List.getD_eq_getElem?_getD,qPq (by omega)];rfl
 ·rw[List.getElem?_take] at hy
  split at hy
  ·show y=x↔b.getD k (-1)=x
   rw[hget k y hy]
  ·cases hy
theorem qfT {n:qb} {l:List qa} {set:Nat} (h:q3v n l set) {s:qg} {d b:List Int} (hd:d.length=l.length) (hf:q6y d s l n set) (hb:b.length=l.length) (hv:Holds b set (lvN n))
  (hm:(q50 s l (fun k=>b.getD k (-1)) n 0).2=true):d=b∨qyf (lvN n+1) d<qyf (lvN n+1) b:=by
 have hll:=h.ll
 have key:∀j,j≤l.length→d.take j=b.take j∨qyf (lvN n+1) (d.take j)<qyf (lvN n+1) (b.take j):=by
  intro j
  induction j with
  | zero=>intro _;left;rw[List.take_zero,List.take_zero]
  | succ j ih=>
   intro hj
   obtain⟨x,hx⟩:∃x,d[j]?=some x:=⟨_,qOU (by omega)⟩
   obtain⟨z,hz⟩:∃z,b[j]?=some z:=⟨_,qOU (by omega)⟩
   have ed:d.take (j+1)=d.take j++[x]:=by rw[List.take_add_one,hx];rfl
   have eb:b.take (j+1)=b.take j++[z]:=by rw[List.take_add_one,hz];rfl
   have vx:=hf.val j x hx
   have vz:=hv j z hz
   have hA:=(q5e (b.take (j+1)) s l (by omega) n 0 set h.fit h.lt).2 ⟨_,qcu h hb hv (j+1),hm⟩
   rw[ed,eb,qgb,qgb]
   rw[eb] at hA
   rcases ih (by omega) with e|e
   ·by_cases hbit:set.testBit j=true
    ·rw[if_pos hbit] at vx vz
     rcases Int.lt_trichotomy z x with g|g|g
     ·exfalso
      have:=hf.lst j x hx hbit z.toNat (by omega)
      rw[e,show((z.toNat:Nat):Int)=z from by omega,hA] at this
      exact absurd this (by decide)
     ·left;rw[e,g]
     ·right;rw[e];omega
    ·rw[if_neg hbit] at vx vz
     left;rw[e,vx,vz]
   ·right
    have h1:(x+1).toNat<lvN n+1:=by split at vx<;>omega
    have:=Nat.mul_le_mul_right (lvN n+1) e
    rw[Nat.succ_mul] at this
    omega
 have:=key l.length (qP8 _)
 rwa [qQ0 (by omega),qQ0 (by omega)] at this
def qu3 (b:List Int):Nat:=mkS (fun j=>decide (0≤b.getD j (-1))) b.length
theorem qfr {b:List Int} {j:Nat} {y:Int} (h:b[j]?=some y):(qu3 b).testBit j=decide (0≤y):=by
 unfold qu3
 rw[qcL,qPT (Jf h),qPp,List.getD_eq_getElem?_getD,h]
 rfl
theorem qxO (b:List Int):qu3 b<2 ^ b.length:=qtC _ _
theorem qlz {b:List Int} {w:Nat} (h:∀(j:Nat) (y:Int),b[j]?=some y → -1≤y∧y<(w:Int)):Holds b (qu3 b) w:=fun j y hy=>by
 have:=h j y hy
 rw[qfr hy]
 by_cases e:0≤y
 ·rw[if_pos (qPT e)];omega
 ·rw[decide_eq_false e,if_neg (by decide)];omega
def qgY (n:qb) (s:qg) (l:List qa) (b:List Int):Bool:=(q50 s l (fun k=>b.getD k (-1)) n 0).2
theorem qfN {n:qb} {l:List qa} {set:Nat} (h:q3v n l set) {s:qg} {b:List Int} (hb:b.length=l.length) (hv:Holds b set (lvN n)) (hm:qgY n s l b=true):QO [] s l n 0 set=true:=by
 have:=qcu h hb hv 0
 rw[List.take_zero] at this
 exact(q5e [] s l (by have:=h.ll;omega) n 0 set h.fit h.lt).2 ⟨_,this,hm⟩
end
noncomputable section
open Go.RowKit
theorem q9q {n:qb} {l:List qa} {set:Nat} (h:q3v n l set) {s:qg} {d:List Int} (hd:d.length=l.length) (hf:q6y d s l n set):qgY n s l d=true:=by
 have hll:=h.ll
 obtain⟨a,ha,hm⟩:=(q5e d s l (by omega) n 0 set h.fit h.lt).1 hf.ok
 have hget:∀j,j<l.length→∃y,d[j]?=some y∧d.getD j (-1)=y:=fun j hj=>⟨d[j]'(by omega),qOU (by omega),by rw[List.getD_eq_getElem?_getD,qOU (by omega)];rfl⟩
 have hv:q50 s l (fun j=>d.getD j (-1)) n 0=q50 s l a n 0:=q5m s l _ a n 0 fun k hk x hx hx2=>by
  obtain⟨y,hy,e⟩:=hget k hk
  show d.getD k (-1)=x↔a k=x
  rw[e]
  exact ha.com k y hy x hx (by omega)
 unfold qgY
 rw[hv];exact hm
theorem qiK {n:qb} {l:List qa} {set:Nat} {s:qg} {d:List Int} (hf:q6y d s l n set) (j:Nat) (y:Int) (hy:d[j]?=some y) : -1≤y∧y+1<((lvN n+1:Nat):Int):=by
 have:=hf.val j y hy
 split at this<;>omega
end
noncomputable section
open Go.RowKit
structure Szs (n:qb):Prop where
 hg:hgN n≤100
 nd:(ndN n).length≤9999
 st:∀y∈ndN n,y.Set.length≤1000000
structure Rgt (n:qb):Prop where
 sz:Szs n
 ck:qeg n=0
theorem qjd:∀l:List qb,(qt4 l).getD 0=0→∀y∈l,q9c y=0
 | [],_,y,hy=>by cases hy
 | x::l,h,y,hy=>by
  unfold qt4 at h
  rw[List.findSome?_cons] at h
  by_cases hx:q9c x=0
  ·simp only[hx,ne_eq,not_true_eq_false,if_false] at h
   rcases qPe.1 hy with e|hy
   ·rw[e];exact hx
   ·exact qjd l h y hy
  ·simp only[hx,ne_eq,not_false_eq_true,if_true,Option.getD_some] at h
theorem qrg {n:qb} (h:Rgt n):∀y∈ndN n,q9c y=0:=by
 have hc:=h.ck
 unfold qeg at hc
 split at hc
 ·exact absurd hc (by decide)
 split at hc
 ·exact absurd hc (by decide)
 split at hc
 ·exact absurd hc (by decide)
 exact qjd _ hc
theorem qsv {y:qb} (h:q9c y=0):q2Q y:=by
 unfold q9c at h
 by_cases e1:y.Kind=1
 ·exact⟨.inl e1,fun e=>by omega,fun e=>by omega⟩
 rw[if_neg e1] at h
 by_cases e2:y.Kind=2
 ·exact⟨.inr (.inl e2),fun e=>by omega,fun e=>by omega⟩
 rw[if_neg e2] at h
 by_cases e3:y.Kind=3
 ·rw[if_pos e3] at h
  split at h
  ·exact absurd h (by decide)
  ·rename_i hb
   have hb1:q8P y=true:=by
    cases hq:q8P y
    ·exact absurd (.inl hq) hb
    ·rfl
   have hb2:y.N=0:=Classical.byContradiction fun q=>hb (.inr q)
   unfold q8P at hb1
   simp only[qPo] at hb1
   refine⟨.inr (.inr (.inl e3)),fun _=>⟨by omega,fun q=>?_⟩,fun e=>by omega⟩
   rw[q] at hb1
   exact absurd hb1.2 (by decide)
 rw[if_neg e3] at h
 by_cases e4:y.Kind=4
 ·rw[if_pos e4] at h
  split at h
  ·exact absurd h (by decide)
  ·split at h
   ·exact absurd h (by decide)
   ·rename_i hi
    have:inF y.N 1 y.L.length=true:=by simpa using hi
    unfold inF at this
    rw[qPo,qPS] at this
    exact⟨.inr (.inr (.inr e4)),fun e=>by omega,fun _=>this.1⟩
 ·rw[if_neg e4] at h
  exact absurd h (by decide)
theorem qnm {n:qb} (h:Rgt n):∀y∈ndN n,q2Q y:=fun y hy=>qsv (qrg h y hy)
theorem q3Y {n:qb} (h:Rgt n) {l:List qa} (hl:l.length≤10) {set:Nat} (hs:set<2 ^ l.length):q3v n l set:=⟨qnm h,h.sz.nd,h.sz.st,by omega,hs⟩
theorem qf9 {n:qb} (h:Rgt n) (s:qg) (l:List qa) (hl:l.length≤10):q2I n s l=some (Zk (2 ^ l.length) (QO [] s l n 0),0):=by
 have h4:=h.sz.nd
 unfold q2I
 rw[q9w n h.sz.hg h.sz.nd h.sz.st,h.ck,qOS,if_neg (by decide),if_neg (by omega)]
 unfold q5M
 have:=qoC [] rfl s l (by omega) _ n (qP8 _) (by omega) h.sz.st 0 (by omega)
 rw[show((0:Nat):Int)=0 from rfl] at this
 rw[this,qOS,qOS]
theorem qof {n:qb} (h:Rgt n) {l:List qa} (hl:l.length≤10) (s:qg) (d:List Int) (hd:d.length=l.length) (hv:∀(j:Nat) (y:Int),d[j]?=some y → -1≤y∧y<(lvN n:Int)):q2P n s l d=some (qgY n s l d):=by
 have hnd:=h.sz.nd
 have hlf:=qmA n (qnm h)
 unfold q2P
 rw[qg0 n h.sz.hg hnd h.sz.st,qOS,q9w n h.sz.hg hnd h.sz.st,h.ck,qOS,if_neg (by decide),if_neg (by rw[hd];simp),qsS d (by omega) _ fun j y hy=>?_,qOS,if_neg (by decide)]
 ·change Option.bind (JV (n,s,l,d,((0:Nat):Int))) _=_
  rw[qnY s l (by omega) d hd n 0 h.sz.st (by omega),qOS]
  rfl
 ·have:=hv j y hy
  unfold q0f
  rw[if_neg (by omega)];exact decide_eq_false (by omega)
theorem qdQ {n:qb} {l:List qa} {set:Nat} (h:q3v n l set) {s:qg} {d b:List Int} (hd:d.length=l.length) (hf:q6y d s l n set) (hb:b.length=l.length) (hg:q6y b s l n set):d=b:=by
 rcases qfT h hd hf hb hg.val (q9q h hb hg) with e|e
 ·exact e
 ·rcases qfT h hb hg hd hf.val (q9q h hd hf) with e2|e2
  ·exact e2.symm
  ·omega
theorem qcz {n:qb} {l:List qa} {set:Nat} (h:q3v n l set) {s:qg} {d:List Int} (hd:d.length=l.length) (hf:q6y d s l n set):QO [] s l n 0 set=true:=
 qfN h hd hf.val (q9q h hd hf)
theorem qmp {n:qb} (h:Rgt n) {l:List qa} (hl:l.length≤10) {set:Nat} (hs:set<2 ^ l.length) (s:qg) {d:List Int} (hd:d.length=l.length) (hf:q6y d s l n set):q1c n s l (set:Int)=some (Qu set.testBit d,true):=by
 have hG:=q3Y h hl hs
 rcases qg7 hG s (qf9 h s l hl) with ⟨g1,_⟩|⟨_,b,g2,g3,g4⟩
 ·rw[qcz hG hd hf] at g1;cases g1
 ·rw[g4,qdQ hG hd hf g2 g3]
end
noncomputable section
open Go.RowKit
theorem q4R {α:Type}:∀(l:List α) (m:Nat→Bool),(Qu m l).length=rkF m l.length
 | [],_=>rfl
 | a::l,m=>by
  rw[Qu,qOZ,q4R l,qP3,qbT]
  cases m 0<;>rfl
theorem qm2 {α:Type}:∀(l:List α) (m:Nat→Bool) (k:Nat),m k=true→(Qu m l)[rkF m k]?=l[k]?
 | [],_,_,_=>by rw[Qu];simp
 | a::l,m,0,h=>by rw[Qu,h,if_pos rfl];rfl
 | a::l,m,k+1,h=>by
  rw[Qu,qbT]
  have:=qm2 l (fun j=>m (j+1)) k h
  cases m 0
  ·rw[if_neg (by decide),if_neg (by decide),qPc,qPg,this,qPh]
  ·rw[if_pos rfl,if_pos rfl,qPZ,Nat.add_comm 1,qPh,this,qPh]
theorem qcl {α:Type}:∀(l:List α) (m:Nat→Bool) (x:α),x∈Qu m l→x∈l
 | [],_,_,h=>by cases h
 | a::l,m,x,h=>by
  rw[Qu,qPm] at h
  rcases h with h|h
  ·cases h0:m 0<;>rw[h0] at h
   ·cases h
   ·exact qPJ.1 h ▸ qP7
  ·exact qP0 _ (qcl l _ x h)
theorem qdb {α:Type} (N:Nat) (g:Nat→α):Zk (N+1) g=Zk N g++[g N]:=by
 unfold Zk
 rw[List.range_succ,List.map_append];rfl
theorem qjt (m:Nat→Bool) (lf:List Int):∀N,rkF m N≤lf.length→Qu m (Zk N (qah m fun j=>lf.getD j (-1)))=lf.take (rkF m N)
 | 0,_=>by rw[rkF,List.take_zero];rfl
 | N+1,h=>by
  rw[rkF] at h
  rw[qdb,q7i,qjt m lf N (by omega),zK,rkF]
  unfold qah
  cases e:m N
  ·rw[if_neg (by decide),if_neg (by decide),qPd,Nat.add_zero]
  ·rw[if_pos rfl,if_pos rfl,if_pos rfl,List.take_add_one]
   rw[e,if_pos rfl] at h
   dsimp only
   rw[List.getD_eq_getElem?_getD,qOU (by omega)]
   rfl
theorem qfW:∀{a b:List Int} {x y:Int},a.length=b.length→(q4u (a++[x]) (b++[y])=true↔q4u a b=true∨(a=b∧x<y))
 | [],[],x,y,_=>by simp[q4u]
 | u::a,v::b,x,y,h=>by
  have:=qfW (a:=a) (b:=b) (x:=x) (y:=y) (by simpa using h)
  rw[qPY,qPY,q4u,q4u,qPn,qPn,qPo,qPo,this,qPS,beq_iff_eq]
  constructor
  ·rintro(h|⟨h,h2|⟨h2,h3⟩⟩)
   ·exact .inl (.inl h)
   ·exact .inl (.inr ⟨h,h2⟩)
   ·exact .inr ⟨by rw[h,h2],h3⟩
  ·rintro((h|⟨h,h2⟩)|⟨h,h2⟩)
   ·exact .inl h
   ·exact .inr ⟨h,.inl h2⟩
   ·injection h with h3 h4;exact .inr ⟨h3,.inr ⟨h4,h2⟩⟩
theorem qka:∀{a b:List Int} {m:Nat→Bool},a.length=b.length→(∀k,m k=false→a[k]?=b[k]?)→q4u a b=true→q4u (Qu m a) (Qu m b)=true
 | [],[],_,_,_,h=>by cases h
 | x::a,y::b,m,hl,he,h=>by
  rw[q4u,qPn,qPo,qPS,beq_iff_eq] at h
  have ih:=fun h=>qka (a:=a) (b:=b) (m:=fun j=>m (j+1)) (by simpa using hl) (fun k hk=>by simpa using he (k+1) hk) h
  rw[Qu,Qu]
  cases e:m 0
  ·rw[if_neg (by decide),if_neg (by decide),qPc,qPc]
   have:x=y:=by simpa using he 0 e
   rcases h with h|h
   ·omega
   ·exact ih h.2
  ·rw[if_pos rfl,if_pos rfl,qPZ,qPZ,q4u,qPn,qPo,qPS,beq_iff_eq]
   rcases h with h|h
   ·exact .inl h
   ·exact .inr ⟨h.1,ih h.2⟩
theorem qnZ {n:qb} {l:List qa} {set:Nat} (h:q3v n l set) {s:qg} {d b:List Int} (hd:d.length=l.length) (hf:q6y d s l n set) (hb:b.length=l.length) (hv:Holds b set (lvN n))
  (hm:qgY n s l b=true):d=b∨q4u d b=true:=by
 have hll:=h.ll
 have key:∀j,j≤l.length→d.take j=b.take j∨q4u (d.take j) (b.take j)=true:=by
  intro j
  induction j with
  | zero=>intro _;left;rw[List.take_zero,List.take_zero]
  | succ j ih=>
   intro hj
   obtain⟨x,hx⟩:∃x,d[j]?=some x:=⟨_,qOU (by omega)⟩
   obtain⟨z,hz⟩:∃z,b[j]?=some z:=⟨_,qOU (by omega)⟩
   have ed:d.take (j+1)=d.take j++[x]:=by rw[List.take_add_one,hx];rfl
   have eb:b.take (j+1)=b.take j++[z]:=by rw[List.take_add_one,hz];rfl
   have hlen:(d.take j).length=(b.take j).length:=by rw[qPl,qPl];omega
   have vx:=hf.val j x hx
   have vz:=hv j z hz
   have hA:=(q5e (b.take (j+1)) s l (by omega) n 0 set h.fit h.lt).2 ⟨_,qcu h hb hv (j+1),hm⟩
   rw[ed,eb,qfW hlen]
   rw[eb] at hA
   rcases ih (by omega) with e|e
   ·by_cases hbit:set.testBit j=true
    ·rw[if_pos hbit] at vx vz
     rcases Int.lt_trichotomy z x with g|g|g
     ·exfalso
      have:=hf.lst j x hx hbit z.toNat (by omega)
      rw[e,show((z.toNat:Nat):Int)=z from by omega,hA] at this
      exact absurd this (by decide)
     ·left;rw[e,g]
     ·exact .inr (.inr ⟨e,g⟩)
    ·rw[if_neg hbit] at vx vz
     left;rw[e,vx,vz]
   ·exact .inr (.inl e)
 have:=key l.length (qP8 _)
 rwa [qQ0 (by omega),qQ0 (by omega)] at this
structure Perm (n:qb) (s:qg) (l:List qa) (X:Nat) (lf:List Int):Prop where
 len:lf.length=rkF X.testBit l.length
 rng:∀(j:Nat) (y:Int),lf[j]?=some y → -1≤y∧y<(lvN n:Int)
 met:qgY n s (Qu X.testBit l) lf=true
theorem qks {n:qb} (h:Rgt n) {l:List qa} (hl:l.length≤10) {set:Nat} (hs:set<2 ^ l.length) (s:qg) (hS:QO [] s l n 0 set=true):∃d,d.length=l.length∧q6y d s l n set:=by
 rcases qg7 (q3Y h hl hs) s (qf9 h s l hl) with ⟨e,_⟩|⟨_,d,h1,h2,_⟩
 ·rw[hS] at e;cases e
 ·exact⟨d,h1,h2⟩
theorem qdU {n:qb} (h:Rgt n) {l:List qa} (hl:l.length≤10) {s:qg} {X:Nat} {lf:List Int} (hp:Perm n s l X lf) :
  ∃sub d,sub<2 ^ l.length∧sub &&& X=sub∧d.length=l.length∧q6y d s l n sub∧(Qu X.testBit d=lf∨q4u (Qu X.testBit d) lf=true):=by
 obtain⟨b,hb⟩:∃b,b=Zk l.length (qah X.testBit fun j=>lf.getD j (-1)):=⟨_,rfl⟩
 have hbl:b.length=l.length:=by rw[hb,zK]
 have hget:∀k,k<l.length→b[k]?=some (qah X.testBit (fun j=>lf.getD j (-1)) k):=fun k hk=>by rw[hb,J3 _ hk]
 have hrng:∀(j:Nat) (y:Int),b[j]?=some y → -1≤y∧y<(lvN n:Int):=fun j y hy=>by
  have hj:=Jf hy
  rw[hget j (by omega)] at hy
  injection hy with hy
  unfold qah at hy
  split at hy
  ·subst hy
   by_cases hr:rkF X.testBit j<lf.length
   ·have:=hp.rng _ _ (qOU hr)
    dsimp only
    rw[List.getD_eq_getElem?_getD,qOU hr];exact this
   ·dsimp only
    rw[List.getD_eq_getElem?_getD,qPq (by omega)]
    exact⟨Int.le_refl _,by show(-1:Int)<_;omega⟩
  ·subst hy;exact⟨Int.le_refl _,by omega⟩
 have hv:=qlz hrng
 have hset:qu3 b<2 ^ l.length:=hbl ▸ qxO b
 have G:=q3Y h hl hset
 have hm:qgY n s l b=true:=by
  have h1:=hp.met
  unfold qgY at h1 ⊢
  rw[qjo] at h1
  rw[←h1]
  congr 1
  refine q5m s l _ _ n 0 fun k hk x _ _=>?_
  show b.getD k (-1)=x↔_
  rw[List.getD_eq_getElem?_getD,hget k hk];exact Iff.rfl
 obtain⟨d,hd,hf⟩:=qks h hl hset s (qfN G hbl hv hm)
 refine⟨qu3 b,d,hset,?_,hd,hf,?_⟩
 ·refine qgj fun k hk=>?_
  by_cases hkl:k<l.length
  ·rw[qfr (hget k hkl),qPS] at hk
   unfold qah at hk
   split at hk
   ·assumption
   ·omega
  ·rw[Nat.testBit_lt_two_pow (qPs hset (Nat.pow_le_pow_right (by decide) (by omega)))] at hk;cases hk
 ·have hsel:Qu X.testBit b=lf:=by
   rw[hb,qjt _ _ _ (by rw[hp.len];exact qP8 _),←hp.len,List.take_length]
  rcases qnZ G hd hf hbl hv hm with e|e
  ·left;rw[e,hsel]
  ·right
   have:=qka (m:=X.testBit) (by omega) (fun k hk=>?_) e
   ·rw[hsel] at this;exact this
   ·by_cases hkl:k<l.length
    ·obtain⟨y,hy⟩:∃y,d[k]?=some y:=⟨_,qOU (by omega)⟩
     have hbit:(qu3 b).testBit k=false:=by
      rw[qfr (hget k hkl)]
      unfold qah
      rw[hk,if_neg (by decide)];rfl
     have:=hf.val k y hy
     rw[hbit,if_neg (by decide)] at this
     rw[hy,hget k hkl,this]
     unfold qah
     rw[hk,if_neg (by decide)]
    ·rw[qPq (by omega),qPq (by omega)]
theorem ql7 {n:qb} (h:Rgt n) {l:List qa} (hl:l.length≤10) {s:qg} {X sub:Nat} (hs:sub<2 ^ l.length) (hX:sub &&& X=sub) {d:List Int} (hd:d.length=l.length) (hf:q6y d s l n sub):Perm n s l X (Qu X.testBit d):=by
 have G:=q3Y h hl hs
 refine⟨by rw[q4R,hd],fun j y hy=>?_,?_⟩
 ·obtain⟨k,hk⟩:=List.getElem?_of_mem (qcl d _ y (qOT hy))
  have:=qiK hf k y hk
  omega
 ·have h1:=q9q G hd hf
  unfold qgY at h1 ⊢
  rw[qjo,←h1]
  congr 1
  refine q5m s l _ _ n 0 fun k hk x _ _=>?_
  obtain⟨y,hy⟩:∃y,d[k]?=some y:=⟨_,qOU (by omega)⟩
  show _↔d.getD k (-1)=x
  unfold qah
  by_cases hk2:X.testBit k=true
  ·rw[if_pos hk2]
   dsimp only
   rw[List.getD_eq_getElem?_getD,List.getD_eq_getElem?_getD,qm2 d _ k hk2]
  ·rw[if_neg hk2,List.getD_eq_getElem?_getD,hy]
   have hb:sub.testBit k=false:=qPk.2 fun e=>hk2 (qap hX e)
   have:=hf.val k y hy
   rw[hb,if_neg (by decide)] at this
   rw[this];exact Iff.rfl
end
noncomputable section
open Go.RowKit
set_option maxRecDepth 100000
def q3C (N m:Nat):List Int:=Qu m.testBit (Zk N fun i=>(i:Int))
theorem qg5 {α:Type} (N:Nat) (g:Nat→α):Zk (N+1) g=g 0::Zk N fun i=>g (i+1):=by
 unfold Zk
 rw[List.range_succ_eq_map,qPf,List.map_map];rfl
theorem qju {α:Type}:∀(l:List α) (p:Nat→Bool),(∀k,k<l.length→p k=false)→Qu p l=[]
 | [],_,_=>rfl
 | a::l,p,h=>by
  rw[Qu,h 0 (by simp),qju l _ fun k hk=>h (k+1) (by simpa using hk)];rfl
theorem qgC {m:Nat} {N:Nat} (hN:N≤60) (hm:m<2 ^ N):∀(j k:Nat) (l:List Int),j+k=N→l.length≤k→zB (QH (m:Int)) (l,(k:Int))=some (l++Qu (fun i=>m.testBit (k+i)) (Zk j fun i=>((k+i:Nat):Int))):=by
 have hML:100000≤maxLen:=by unfold maxLen;omega
 have hm63:m<9223372036854775808:=qPs hm (qPt (Nat.pow_le_pow_right (by decide) hN) (by decide))
 have stop:∀(k:Nat) (l:List Int),k≤60→m / 2 ^ k=0→zB (QH (m:Int)) (l,(k:Int))=some l:=fun k l hk h0=>by
  refine zA ?_
  unfold QH
  dsimp only
  rw[if_pos (by omega),qOV,q8V m k (by omega),h0,if_neg (by decide)]
 intro j
 induction j with
 | zero=>
  intro k l hk hl
  obtain rfl:k=N:=by omega
  rw[stop k l hN (Nat.div_eq_of_lt hm)]
  show some l=some (l++[])
  rw[qPd]
 | succ j ih=>
  intro k l hk hl
  by_cases h0:m / 2 ^ k=0
  ·rw[stop k l (by omega) h0,qju _ _ fun i _=>?_,qPd]
   rw[Nat.testBit_eq_decide_div_mod_eq,Nat.pow_add,←Nat.div_div_eq_div_mul,h0,Nat.zero_div]
   rfl
  ·have hws:w64 ((k:Int)+1)=((k+1:Nat):Int):=Qi (n:=1000) (by omega) (by omega)
   have hb:=qh5 m k hm63 (by omega)
   rw[qg5,Qu]
   have e1:(fun i=>m.testBit (k+(i+1)))=fun i=>m.testBit (k+1+i):=funext fun i=>by rw[Nat.add_right_comm,qPM]
   have e2:(fun i=>((k+(i+1):Nat):Int))=fun i=>((k+1+i:Nat):Int):=funext fun i=>by rw[Nat.add_right_comm,qPM]
   rw[e1,e2]
   have hpos:(0:Int)<((m:Int)).fdiv (2 ^ min k IntKind.i64.bits):=by rw[q8V m k (by omega)];exact Int.ofNat_lt.2 (Nat.pos_of_ne_zero h0)
   cases e:m.testBit k
   ·rw[if_neg (by decide),qPc,←ih (k+1) l (by omega) (by omega)]
    refine Q1 ?_
    unfold QH
    dsimp only
    rw[if_pos (by omega),qOV,if_pos hpos,if_pos (by omega),if_neg (by rw[hb,e];decide),hws]
   ·rw[if_pos rfl,Nat.add_zero,←qPy,←ih (k+1) (l++[(k:Int)]) (by omega) (by rw[qOZ];exact Nat.succ_le_succ hl)]
    refine Q1 ?_
    unfold QH
    dsimp only
    rw[if_pos (by omega),qOV,if_pos hpos,if_pos (by omega),if_pos (by rw[hb,e]),if_pos ⟨by omega,by omega⟩,hws]
theorem q3Z {m N:Nat} (hN:N≤60) (hm:m<2 ^ N):ZU (m:Int)=some (q3C N m):=by
 have h:=qgC hN hm N 0 [] (by omega) (qP8 _)
 unfold ZU
 change Option.bind (zB _ ([],((0:Nat):Int))) _=_
 rw[h,qOS,qPc]
 simp only[qPg]
 rfl
def qlL:List Int→List Int→Int
 | [],[]=>0
 | [],_::_ => -1
 | _::_,[]=>1
 | a::l,b::m=>if a<b then -1 else if b<a then 1 else qlL l m
theorem qeN:∀a b:List Int,(qlL a b<0↔q4u a b=true)
 | [],[]=>by simp[qlL,q4u]
 | [],_::_=>by simp[qlL,q4u]
 | _::_,[]=>by simp[qlL,q4u]
 | a::l,b::m=>by
  rw[qlL,q4u,qPn,qPo,qPS,beq_iff_eq]
  split
  ·rename_i h;exact⟨fun _ => .inl h,fun _=>by decide⟩
  ·split
   ·rename_i h;exact⟨fun h=>absurd h (by decide),fun h2=>by omega⟩
   ·rw[qeN l m]
    exact⟨fun h => .inr ⟨by omega,h⟩,fun h=>h.elim (fun h=>absurd h (by assumption)) fun h=>h.2⟩
theorem qpk (x y:Int):Qd x y=qeJ x y:=by
 have hn:∀z:Int,Qm z=false:=fun z=>by unfold Qm;simp
 unfold Qd qeJ
 rw[hn x,hn y,if_neg (by decide),if_neg (by decide)]
theorem qb5 (s1 s2:List Int) (h1:s1.length≤1000000):∀(r q:List Int) (i:Nat),r.length+i=s1.length→(∀j,r[j]?=s1[i+j]?)→(∀j,q[j]?=s2[i+j]?)→(q=[]↔s2.length≤i)→
  ∃e:Int⊕Unit,zB (zX s1 s2 s1 ((s1.length:Nat):Int)) (i:Int)=some e∧e.elim id (fun _=>if((s1.length:Nat):Int)<((s2.length:Nat):Int) then -1 else 0)=qlL r q
 | [],q,i,hi,hr,hq,h0=>by
  have hi:i=s1.length:=by simpa using hi
  refine⟨.inr (),zA ?_,?_⟩
  ·unfold zX
   rw[if_neg (by omega)]
  ·show(if _ then(-1:Int) else 0)=_
   cases q with
   | nil=>rw[if_neg (by have:=h0.1 rfl;omega)];rfl
   | cons y q=>
    have hq2:¬ s2.length≤i:=fun h=>by cases h0.2 h
    rw[if_pos (by omega)];rfl
 | x::r,q,i,hi,hr,hq,h0=>by
  have hil:i<s1.length:=by simp only[qP3] at hi;omega
  have hx:s1[i]?=some x:=by have:=hr 0;rw[Nat.add_zero] at this;exact this.symm
  have hws:w64 ((i:Int)+1)=((i+1:Nat):Int):=Qi (n:=10000000) (by omega) (by omega)
  cases q with
  | nil=>
   have:=h0.1 rfl
   refine⟨.inl 1,zA ?_,rfl⟩
   unfold zX
   rw[if_pos (by omega),if_pos ⟨by omega,by omega⟩,qOV,hx,qOS,if_pos (by omega)]
  | cons y q=>
   have hl2:i<s2.length:=Nat.lt_of_not_le fun h=>by cases h0.2 h
   have hy:s2[i]?=some y:=by have:=hq 0;rw[Nat.add_zero] at this;exact this.symm
   have step:zX s1 s2 s1 ((s1.length:Nat):Int) (i:Int)=if(qeJ x y != 0)=true then some (.inr (.inl (qeJ x y))) else some (.inl ((i+1:Nat):Int)):=by
    unfold zX
    rw[if_pos (by omega),if_pos ⟨by omega,by omega⟩,qOV,hx,qOS,if_neg (by omega),if_pos ⟨by omega,by omega⟩,hy,qOS,qpk,hws]
   by_cases hc:qeJ x y=0
   ·rw[if_neg (by simpa using hc)] at step
    obtain⟨e,e1,e2⟩:=qb5 s1 s2 h1 r q (i+1) (by simp only[qP3] at hi;omega) (fun j=>by have:=hr (j+1);rw[qPh] at this;rw[this];congr 1;omega) (fun j=>by have:=hq (j+1);rw[qPh] at this;rw[this];congr 1;omega) (by
     have h3:=hq 1
     rw[qPh] at h3
     constructor
     ·rintro rfl
      rw[List.getElem?_nil] at h3
      exact List.getElem?_eq_none_iff.1 h3.symm
     ·intro h
      rw[qPq h] at h3
      cases q with
      | nil=>rfl
      | cons z q=>cases h3)
    refine⟨e,(Q1 step).trans e1,?_⟩
    rw[e2,qlL]
    unfold qeJ at hc
    split at hc
    ·cases hc
    ·split at hc
     ·cases hc
     ·rename_i h1 h2;rw[if_neg h1,if_neg h2]
   ·rw[if_pos (by simpa using hc)] at step
    refine⟨.inl (qeJ x y),zA step,?_⟩
    show qeJ x y=_
    rw[qlL]
    unfold qeJ at hc ⊢
    split
    ·rfl
    ·rename_i h1
     split
     ·rfl
     ·rename_i h2;rw[if_neg h1,if_neg h2] at hc;exact absurd rfl hc
theorem qp8 (s1 s2:List Int) (h1:s1.length≤1000000):QU s1 s2=some (qlL s1 s2):=by
 obtain⟨e,e1,e2⟩:=qb5 s1 s2 h1 s1 s2 0 (by omega) (fun j=>by rw[qPg]) (fun j=>by rw[qPg]) ⟨fun h=>by rw[h];exact qP8 _,fun h=>qPb (by omega)⟩
 unfold QU
 change Option.bind (zB _ ((0:Nat):Int)) _=_
 rw[e1,qOS]
 cases e with
 | inl v=>rw[Sum.elim_inl];exact congrArg some e2
 | inr v=>
  rw[Sum.elim_inr]
  have e2:(if((s1.length:Nat):Int)<((s2.length:Nat):Int) then(-1:Int) else 0)=qlL s1 s2:=e2
  rw[←e2]
  split<;>rfl
theorem qix {α:Type}:∀(l:List α) (p:Nat→Bool) (x:α),x∈Qu p l↔∃k,p k=true∧l[k]?=some x
 | [],p,x=>by simp[Qu]
 | a::l,p,x=>by
  rw[Qu,qPm,qix l]
  constructor
  ·rintro(h|⟨k,h1,h2⟩)
   ·split at h
    ·rename_i h0;exact⟨0,h0,by rw[qPJ.1 h];rfl⟩
    ·cases h
   ·exact⟨k+1,h1,h2⟩
  ·rintro⟨k,h1,h2⟩
   cases k with
   | zero=>left;rw[if_pos h1];injection h2 with h2;rw[h2];exact qPJ.2 rfl
   | succ k=>right;exact⟨k,h1,h2⟩
theorem qkf {N m k:Nat}:((k:Nat):Int)∈q3C N m↔k<N∧m.testBit k=true:=by
 unfold q3C
 rw[qix]
 constructor
 ·rintro⟨j,h1,h2⟩
  have hj:=Jf h2
  rw[zK] at hj
  rw[J3 _ hj] at h2
  injection h2 with h2
  obtain rfl:j=k:=by omega
  exact⟨hj,h1⟩
 ·rintro⟨h1,h2⟩
  exact⟨k,h2,J3 _ h1⟩
theorem qr1 {N a b:Nat} (ha:a<2 ^ N) (hb:b<2 ^ N) (h:q3C N a=q3C N b):a=b:=Nat.eq_of_testBit_eq fun k=>by
 by_cases hk:k<N
 ·have h1:=qkf (N:=N) (m:=a) (k:=k)
  rw[h,qkf] at h1
  rw[Bool.eq_iff_iff]
  exact⟨fun e=>(h1.2 ⟨hk,e⟩).2,fun e=>(h1.1 ⟨hk,e⟩).2⟩
 ·rw[Nat.testBit_lt_two_pow (qPs ha (Nat.pow_le_pow_right (by decide) (by omega))),Nat.testBit_lt_two_pow (qPs hb (Nat.pow_le_pow_right (by decide) (by omega)))]
theorem qrf {N M m:Nat} (hN:N≤60) (hM:M≤60) (h1:m<2 ^ N) (h2:m<2 ^ M):q3C N m=q3C M m:=by
 have:=(q3Z hN h1).symm.trans (q3Z hM h2)
 injection this
theorem qkc (N m:Nat):(q3C N m).length=rkF m.testBit N:=by
 unfold q3C
 rw[q4R,zK]
theorem qdY (m:Nat→Bool):∀N,rkF m N≤N
 | 0=>qP8 _
 | N+1=>by rw[rkF];have:=qdY m N;split<;>omega
def qNL (m:Nat):Bool:=QJ (IntKind.wrap IntKind.u64 (m:Int))==(((q3C 10 m).length:Nat):Int)
theorem qv1:(List.range 1024).all qNL=true:=by kernel_rfl
theorem qtH {N m:Nat} (hN:N≤10) (hm:m<2 ^ N):QJ (IntKind.wrap IntKind.u64 (m:Int))=(((q3C N m).length:Nat):Int):=by
 have h10:m<2 ^ 10:=qPs hm (Nat.pow_le_pow_right (by decide) hN)
 have h:=qP9.1 qv1 m (qPP.2 h10)
 rw[qrf (show N≤60 by omega) (show 10≤60 by omega) hm h10]
 exact eq_of_beq h
theorem qmz {N:Nat} (hN:N≤10) {a b:Nat} (ha:a<2 ^ N) (hb:b<2 ^ N):∃c,QD (a:Int) (b:Int)=some c∧(c<0↔slL (q3C N a) (q3C N b)=true):=by
 have la:(q3C N a).length≤10:=by rw[qkc];exact qPt (qdY _ _) hN
 unfold QD
 rw[q3Z (by omega) ha,qOS,q3Z (by omega) hb,qOS,qp8 _ _ (by omega),qOS,qtH hN ha,qtH hN hb,qpk,qyM,qOS]
 refine⟨_,rfl,?_⟩
 rw[qfy]
 unfold qeJ
 by_cases h1:(q3C N a).length<(q3C N b).length
 ·rw[if_pos (by omega:(((q3C N a).length:Nat):Int)<(((q3C N b).length:Nat):Int)),if_pos (by decide)]
  exact⟨fun _ => .inl h1,fun _=>by decide⟩
 ·rw[if_neg (by omega:¬ (((q3C N a).length:Nat):Int)<(((q3C N b).length:Nat):Int))]
  by_cases h2:(q3C N b).length<(q3C N a).length
  ·rw[if_pos (by omega:(((q3C N b).length:Nat):Int)<(((q3C N a).length:Nat):Int)),if_pos (by decide)]
   exact⟨fun h=>absurd h (by decide),fun h=>by rcases h with h|h<;>omega⟩
  ·rw[if_neg (by omega:¬ (((q3C N b).length:Nat):Int)<(((q3C N a).length:Nat):Int)),if_neg (by decide),qeN]
   exact⟨fun h => .inr ⟨by omega,h⟩,fun h=>h.elim (fun h=>absurd h (by omega)) fun h=>h.2⟩
def msL (N:Nat):List Int:=q0W QD (Zk (2 ^ N) fun i=>(i:Int))
theorem q8w {N:Nat} {x:Int}:x∈(Zk N fun i=>(i:Int))↔∃k:Nat,k<N∧x=(k:Int):=by
 unfold Zk
 rw[qPD]
 constructor
 ·rintro⟨k,h1,h2⟩;exact⟨k,qPP.1 h1,h2.symm⟩
 ·rintro⟨k,h1,h2⟩;exact⟨k,qPP.2 h1,h2.symm⟩
theorem qpj (N:Nat):(Zk N fun i=>(i:Int)).Nodup:=by
 unfold Zk
 rw[List.nodup_iff_pairwise_ne,List.pairwise_map]
 exact(List.nodup_iff_pairwise_ne.1 List.nodup_range).imp fun h e=>h (by omega)
theorem qBa {N:Nat} (hN:N≤10):okB QD (Zk (2 ^ N) fun i=>(i:Int))=true∧(msL N).Pairwise (fun x y=>slL (q3C N x.toNat) (q3C N y.toNat)=true)∧∀x,x∈msL N↔∃k:Nat,k<2 ^ N∧x=(k:Int):=by
 have hs:∀x∈(Zk (2 ^ N) fun i=>(i:Int)),∀y∈(Zk (2 ^ N) fun i=>(i:Int)),∃c,QD x y=some c∧(c<0↔slL (q3C N x.toNat) (q3C N y.toNat)=true):=fun x hx y hy=>by
  obtain⟨a,ha,rfl⟩:=q8w.1 hx
  obtain⟨b,hb,rfl⟩:=q8w.1 hy
  exact qmz hN ha hb
 have hi:∀x∈(Zk (2 ^ N) fun i=>(i:Int)),∀y∈(Zk (2 ^ N) fun i=>(i:Int)),q3C N x.toNat=q3C N y.toNat→x=y:=fun x hx y hy h=>by
  obtain⟨a,ha,rfl⟩:=q8w.1 hx
  obtain⟨b,hb,rfl⟩:=q8w.1 hy
  rw[qOV,qOV] at h
  rw[qr1 ha hb h]
 refine⟨(qoI hs hi).1,qoE hs hi (qpj _),fun x=>?_⟩
 unfold msL
 rw[q3n,q8w]
end
noncomputable section
open Go.RowKit
theorem qp2 {α β:Type} (f:α→Option β):∀(l:List α) (m:List β) (p:Nat→Bool),l.map f=m.map some→(Qu p l).filterMap f=Qu p m
 | [],[],_,_=>rfl
 | a::l,b::m,p,h=>by
  rw[qPf,qPf] at h
  injection h with h1 h2
  rw[Qu,Qu,List.filterMap_append,qp2 f l m _ h2]
  congr 1
  split
  ·rw[List.filterMap_cons,h1];rfl
  ·rfl
theorem qio {α:Type} (l:List α):(Zk l.length fun i=>(i:Int)).map (fun y=>l[Int.toNat y]?)=l.map some:=by
 apply List.ext_getElem?
 intro j
 rw[qP6,qP6]
 by_cases hj:j<l.length
 ·rw[J3 _ hj,qOU hj,Option.map_some,Option.map_some,qOV,qOU hj]
 ·rw[qPq (by rw[zK];omega),qPq (by omega)];rfl
theorem qtc {α:Type} (l:List α) (X:Nat):(q3C l.length X).filterMap (fun y=>l[Int.toNat y]?)=Qu X.testBit l:=qp2 _ _ _ _ (qio l)
theorem mem_range {N X:Nat} {y:Int} (h:y∈q3C N X):∃k:Nat,k<N∧y=(k:Int):=by
 have:=qcl _ _ _ h
 obtain⟨k,h1,h2⟩:=q8w.1 this
 exact⟨k,h1,h2⟩
theorem qb2 (l:List qa) (hl:l.length≤1000) (at0:List Int) (ha:at0.length≤1000) (hr:∀y∈at0,∃k:Nat,k<l.length∧y=(k:Int)):∀(r:List Int) (i:Nat) (out:List qa),r.length+i=at0.length→(∀j,r[j]?=at0[i+j]?)→out.length=i→
  zB (zx l at0 ((at0.length:Nat):Int)) (out,(i:Int))=some (out++r.filterMap fun y=>l[Int.toNat y]?)
 | [],i,out,hi,_,_=>by
  have hi:i=at0.length:=by simpa using hi
  refine(zA ?_).trans (by rw[List.filterMap_nil,qPd])
  unfold zx
  dsimp only
  rw[if_neg (by omega)]
 | y::r,i,out,hi,hj,ho=>by
  have hML:100000≤maxLen:=by unfold maxLen;omega
  have hil:i<at0.length:=by simp only[qP3] at hi;omega
  have hy:at0[i]?=some y:=by have:=hj 0;rw[Nat.add_zero] at this;exact this.symm
  obtain⟨k,hk,rfl⟩:=hr y (qOT hy)
  have hws:w64 ((i:Int)+1)=((i+1:Nat):Int):=Qi (n:=10000) (by omega) (by omega)
  have e:zx l at0 ((at0.length:Nat):Int) (out,(i:Int))=some (.inl (out++[l[k]],((i+1:Nat):Int))):=by
   unfold zx
   dsimp only
   rw[if_pos (by omega),if_pos ⟨by omega,by omega⟩,qOV,hy,qOS,if_pos ⟨by omega,by omega⟩,qOV,qOU hk,qOS,if_pos ⟨by omega,by omega⟩,hws]
  rw[Q1 e,qb2 l hl at0 ha hr r (i+1) _ (by simp only[qP3] at hi;omega) (fun j=>by have:=hj (j+1);rw[qPh] at this;rw[this];congr 1;omega) (by rw[qOZ,ho];rfl),List.filterMap_cons,qOV,qOU hk]
  simp
def q5E (N:Nat) (m:Nat→Bool):List Int:=Qu m (Zk N fun i=>(i:Int))
theorem q5G (N:Nat) (m:Nat→Bool):(q5E N m).length=rkF m N:=by
 unfold q5E
 rw[q4R,zK]
theorem qe9 {N:Nat} {m:Nat→Bool} {y:Int} (h:y∈q5E N m):∃k:Nat,k<N∧y=(k:Int):=by
 have:=qcl _ _ _ h
 obtain⟨k,h1,h2⟩:=q8w.1 this
 exact⟨k,h1,h2⟩
theorem qm0 {α:Type} (l:List α) (m:Nat→Bool):(q5E l.length m).filterMap (fun y=>l[Int.toNat y]?)=Qu m l:=qp2 _ _ _ _ (qio l)
theorem qne {l:List qa} (hl:l.length≤1000) (m:Nat→Bool):zS l (q5E l.length m)=some (Qu m l):=by
 have hlen:(q5E l.length m).length≤1000:=by rw[q5G];exact qPt (qdY _ _) hl
 have h:=qb2 l (by omega) (q5E l.length m) (by omega) (fun y hy=>qe9 hy) (q5E l.length m) 0 [] (by omega) (fun j=>by rw[qPg]) rfl
 unfold zS
 change Option.bind (zB _ ([],((0:Nat):Int))) _=_
 rw[h,qOS,qPc,qm0]
theorem qbc (l:List Int) (hl:l.length≤1000) (at0:List Int) (ha:at0.length≤1000) (hr:∀y∈at0,∃k:Nat,k<l.length∧y=(k:Int)):∀(r:List Int) (i:Nat) (out:List Int),r.length+i=at0.length→(∀j,r[j]?=at0[i+j]?)→out.length=i→
  zB (Qw l at0 ((at0.length:Nat):Int)) (out,(i:Int))=some (out++r.filterMap fun y=>l[Int.toNat y]?)
 | [],i,out,hi,_,_=>by
  have hi:i=at0.length:=by simpa using hi
  refine(zA ?_).trans (by rw[List.filterMap_nil,qPd])
  unfold Qw
  dsimp only
  rw[if_neg (by omega)]
 | y::r,i,out,hi,hj,ho=>by
  have hML:100000≤maxLen:=by unfold maxLen;omega
  have hil:i<at0.length:=by simp only[qP3] at hi;omega
  have hy:at0[i]?=some y:=by have:=hj 0;rw[Nat.add_zero] at this;exact this.symm
  obtain⟨k,hk,rfl⟩:=hr y (qOT hy)
  have hws:w64 ((i:Int)+1)=((i+1:Nat):Int):=Qi (n:=10000) (by omega) (by omega)
  have e:Qw l at0 ((at0.length:Nat):Int) (out,(i:Int))=some (.inl (out++[l[k]],((i+1:Nat):Int))):=by
   unfold Qw
   dsimp only
   rw[if_pos (by omega),if_pos ⟨by omega,by omega⟩,qOV,hy,qOS,if_pos ⟨by omega,by omega⟩,qOV,qOU hk,qOS,if_pos ⟨by omega,by omega⟩,hws]
  rw[Q1 e,qbc l hl at0 ha hr r (i+1) _ (by simp only[qP3] at hi;omega) (fun j=>by have:=hj (j+1);rw[qPh] at this;rw[this];congr 1;omega) (by rw[qOZ,ho];rfl),List.filterMap_cons,qOV,qOU hk]
  simp
theorem qvR {l:List Int} (hl:l.length≤1000) (m:Nat→Bool):ZZ l (q5E l.length m)=some (Qu m l):=by
 have hlen:(q5E l.length m).length≤1000:=by rw[q5G];exact qPt (qdY _ _) hl
 have h:=qbc l (by omega) (q5E l.length m) (by omega) (fun y hy=>qe9 hy) (q5E l.length m) 0 [] (by omega) (fun j=>by rw[qPg]) rfl
 unfold ZZ
 change Option.bind (zB _ ([],((0:Nat):Int))) _=_
 rw[h,qOS,qPc,qm0]
end
noncomputable section
open Go.RowKit
structure qqa (n:qb) (s:qg) (l:List qa) (X sub:Nat) (lf:List Int):Prop where
 lt:sub<2 ^ l.length
 sb:sub &&& X=sub
 ex:∃d,d.length=l.length∧q6y d s l n sub∧lf=Qu X.testBit d
theorem qqa.uniq {n:qb} (h:Rgt n) {l:List qa} (hl:l.length≤10) {s:qg} {X sub:Nat} {lf lf':List Int} (a:qqa n s l X sub lf) (b:qqa n s l X sub lf'):lf=lf':=by
 obtain⟨d,h1,h2,rfl⟩:=a.ex
 obtain⟨d',h3,h4,rfl⟩:=b.ex
 rw[qdQ (q3Y h hl a.lt) h1 h2 h3 h4]
def q1B (n:qb) (s:qg) (l:List qa) (X:Nat) (P:Nat→Prop) (w:List Int) (f:Bool):Prop:=
 (f=true→(∃sub,P sub∧qqa n s l X sub w)∧∀sub lf,P sub→qqa n s l X sub lf→w=lf∨q4u w lf=true)∧
 (f=false→w=[]∧∀sub lf,P sub→¬ qqa n s l X sub lf)
section
variable {n:qb} {s:qg} {l:List qa} {X:Nat} {P:Nat→Prop} {w:List Int} {f:Bool}
theorem q1B.start (h:∀k,¬ P k):q1B n s l X P [] false:=⟨fun h=>(by cases h),fun _=>⟨rfl,fun sub lf hp=>absurd hp (h sub)⟩⟩
theorem q1B.congr {Q:Nat→Prop} (h:q1B n s l X P w f) (hq:∀k,k<2 ^ l.length→k &&& X=k→(Q k↔P k)):q1B n s l X Q w f:=by
 refine⟨fun hf=>?_,fun hf=>?_⟩
 ·obtain⟨⟨sub,h1,h2⟩,h3⟩:=h.1 hf
  exact⟨⟨sub,(hq _ h2.lt h2.sb).2 h1,h2⟩,fun sub lf hp hc=>h3 sub lf ((hq _ hc.lt hc.sb).1 hp) hc⟩
 ·obtain⟨h1,h2⟩:=h.2 hf
  exact⟨h1,fun sub lf hp hc=>h2 sub lf ((hq _ hc.lt hc.sb).1 hp) hc⟩
theorem q1B.skip (h:q1B n s l X P w f) {sub:Nat} (hno:∀lf,¬ qqa n s l X sub lf):q1B n s l X (fun k=>P k∨k=sub) w f:=by
 refine⟨fun hf=>?_,fun hf=>?_⟩
 ·obtain⟨⟨sub',h1,h2⟩,h3⟩:=h.1 hf
  refine⟨⟨sub',.inl h1,h2⟩,fun k lf hp hc=>?_⟩
  rcases hp with hp|rfl
  ·exact h3 k lf hp hc
  ·exact absurd hc (hno lf)
 ·obtain⟨h1,h2⟩:=h.2 hf
  refine⟨h1,fun k lf hp hc=>?_⟩
  rcases hp with hp|rfl
  ·exact h2 k lf hp hc
  ·exact hno lf hc
theorem q1B.take (hR:Rgt n) (hl:l.length≤10) (h:q1B n s l X P w f) {sub:Nat} {lf:List Int} (hc:qqa n s l X sub lf) (hb:f=false∨q4u lf w=true):q1B n s l X (fun k=>P k∨k=sub) lf true:=by
 refine⟨fun _=>⟨⟨sub,.inr rfl,hc⟩,fun k lf2 hp hc2=>?_⟩,fun h=>(by cases h)⟩
 rcases hp with hp|rfl
 ·rcases hb with hf|hlt
  ·exact absurd hc2 ((h.2 hf).2 k lf2 hp)
  ·cases hf:f
   ·exact absurd hc2 ((h.2 hf).2 k lf2 hp)
   ·rcases(h.1 hf).2 k lf2 hp hc2 with e|e
    ·rw[←e];exact .inr hlt
    ·exact .inr (q42 hlt e)
 ·exact .inl (hc.uniq hR hl hc2)
theorem q1B.leave (hR:Rgt n) (hl:l.length≤10) (h:q1B n s l X P w true) {sub:Nat} {lf:List Int} (hc:qqa n s l X sub lf) (hb:q4u lf w=false):q1B n s l X (fun k=>P k∨k=sub) w true:=by
 obtain⟨⟨sub',h1,h2⟩,h3⟩:=h.1 rfl
 refine⟨fun _=>⟨⟨sub',.inl h1,h2⟩,fun k lf2 hp hc2=>?_⟩,fun h=>(by cases h)⟩
 rcases hp with hp|rfl
 ·exact h3 k lf2 hp hc2
 ·obtain rfl:=hc.uniq hR hl hc2
  rcases qaQ w lf with e|e|e
  ·exact .inl e
  ·exact .inr e
  ·rw[hb] at e;cases e
def qHP (n:qb) (s:qg) (l:List qa) (X:Nat) (w:List Int) (f:Bool):Prop:=
 (f=true→Perm n s l X w∧∀lf,Perm n s l X lf→w=lf∨q4u w lf=true)∧(f=false→w=[]∧∀lf,¬ Perm n s l X lf)
theorem q1B.lv (hR:Rgt n) (hl:l.length≤10) (h:q1B n s l X (fun _=>True) w f):qHP n s l X w f:=by
 refine⟨fun hf=>?_,fun hf=>?_⟩
 ·obtain⟨⟨sub,-,hc⟩,h3⟩:=h.1 hf
  obtain⟨d,h1,h2,rfl⟩:=hc.ex
  refine⟨ql7 hR hl hc.lt hc.sb h1 h2,fun lf hp=>?_⟩
  obtain⟨sub',d',q1,q2,q3,q4,q5⟩:=qdU hR hl hp
  have h4:=h3 sub' _ trivial ⟨q1,q2,d',q3,q4,rfl⟩
  rcases h4 with e|e
  ·rw[e];exact q5
  ·rcases q5 with q5|q5
   ·rw[←q5];exact .inr e
   ·exact .inr (q42 e q5)
 ·obtain⟨h1,h2⟩:=h.2 hf
  refine⟨h1,fun lf hp=>?_⟩
  obtain⟨sub',d',q1,q2,q3,q4,q5⟩:=qdU hR hl hp
  exact h2 sub' _ trivial ⟨q1,q2,d',q3,q4,rfl⟩
end
end
noncomputable section
open Go.RowKit
theorem qsu {set k:Nat} (hs:set<9223372036854775808) (hk:k≤62):(ZW Go.BinOp.and IntKind.i64 (Int.fdiv (set:Int) ((2:Int) ^ min (Int.toNat (k:Int)) (IntKind.bits IntKind.i64))) (1:Int)==(0:Int)) = !set.testBit k:=by
 rw[qOV,q8V set k (by omega),show(1:Int)=((1:Nat):Int) from rfl,qfA _ 1 (qPu (Nat.div_le_self _ _) hs) (by decide),Nat.and_one_is_mod,Nat.testBit_eq_decide_div_mod_eq]
 have:set / 2 ^ k % 2<2:=Nat.mod_lt _ (by decide)
 by_cases e:set / 2 ^ k % 2=1
 ·rw[e];rfl
 ·have e0:set / 2 ^ k % 2=0:=by omega
  rw[e0];rfl
theorem qeb {α:Type}:∀(l:List α) (p m:Nat→Bool) (q:α→Bool),(∀k x,l[k]?=some x→p k=(m k&&q x))→Qu p l=(Qu m l).filter q
 | [],_,_,_,_=>rfl
 | a::l,p,m,q,h=>by
  have h0:p 0=(m 0&&q a):=h 0 a rfl
  rw[Qu,Qu,List.filter_append,←qeb l _ _ q fun k x hk=>h (k+1) x hk,h0]
  congr 1
  cases m 0<;>cases hq:q a<;>simp[hq]
theorem qqB {N sub X:Nat} (h:sub &&& X=sub):q3C N sub=(q3C N X).filter fun y=>sub.testBit (Int.toNat y):=by
 unfold q3C
 refine qeb _ _ _ _ fun k x hk=>?_
 have hj:=Jf hk
 rw[zK] at hj
 rw[J3 _ hj] at hk
 injection hk with hk
 subst hk
 rw[qOV]
 cases e:sub.testBit k
 ·simp
 ·rw[qap h e];rfl
theorem qfU {d:List Int} (hd:d.length≤10) {sub:Nat} (hs:sub<9223372036854775808) (hoff:∀(j:Nat) (y:Int),d[j]?=some y→sub.testBit j=false→y = -1) (w2:List Int) (b0:qe) (b1:qg) (t2:List qa) (t3:List Bool) (t4:Int) (t11:Bool) (M:List Int) (hM:M.length≤10) (hr:∀y∈M,∃k:Nat,k<d.length∧y=(k:Int)) :
  ∀(r:List Int) (i:Nat) (out asg:List Int),r.length+i=M.length→(∀j,r[j]?=M[i+j]?)→out.length=i→asg=r.filterMap (fun y=>if sub.testBit (Int.toNat y)=true then d[Int.toNat y]? else none)→
  zB (QC w2 b0 b1 t2 t3 t4 t11 (sub:Int) M ((M.length:Nat):Int)) (out,asg,(i:Int))=some (out++r.filterMap fun y=>d[Int.toNat y]?)
 | [],i,out,asg,hi,_,_,_=>by
  have hi:i=M.length:=by simpa using hi
  refine(zA ?_).trans (by rw[List.filterMap_nil,qPd])
  unfold QC
  dsimp only
  rw[if_neg (by omega)]
 | y::r,i,out,asg,hi,hj,ho,ha=>by
  have hML:100000≤maxLen:=by unfold maxLen;omega
  have hil:i<M.length:=by simp only[qP3] at hi;omega
  have hy:M[i]?=some y:=by have:=hj 0;rw[Nat.add_zero] at this;exact this.symm
  obtain⟨k,hk,rfl⟩:=hr y (qOT hy)
  have hws:w64 ((i:Int)+1)=((i+1:Nat):Int):=Qi (n:=10000) (by omega) (by omega)
  have hb:=qsu (set:=sub) (k:=k) hs (by omega)
  have hdk:d[k]?=some d[k]:=qOU hk
  have next:∀(out' asg':List Int),out'.length=i+1→asg'=r.filterMap (fun y=>if sub.testBit (Int.toNat y)=true then d[Int.toNat y]? else none)→QC w2 b0 b1 t2 t3 t4 t11 (sub:Int) M ((M.length:Nat):Int) (out,asg,(i:Int))=some (.inl (out',asg',((i+1:Nat):Int)))→out'=out++[d[k]]→
    zB (QC w2 b0 b1 t2 t3 t4 t11 (sub:Int) M ((M.length:Nat):Int)) (out,asg,(i:Int))=some (out++((k:Int)::r).filterMap fun y=>d[Int.toNat y]?):=fun out' asg' h1 h2 h3 h4=>by
   rw[Q1 h3,qfU hd hs hoff w2 b0 b1 t2 t3 t4 t11 M hM hr r (i+1) out' asg' (by simp only[qP3] at hi;omega) (fun j=>by have:=hj (j+1);rw[qPh] at this;rw[this];congr 1;omega) h1 h2,List.filterMap_cons,qOV,hdk,h4]
   simp
  cases hbit:sub.testBit k
  ·have hm1:d[k] = -1:=hoff k _ hdk hbit
   refine next (out++[(-(1:Int))]) asg (by rw[qOZ,ho];rfl) ?_ ?_ (by rw[hm1])
   ·rw[ha,List.filterMap_cons,qOV,hbit,if_neg (by decide)]
   ·unfold QC
    dsimp only
    rw[if_pos (by omega),if_pos ⟨by omega,by omega⟩,qOV,hy,qOS,if_pos (by omega),if_pos (by rw[hb,hbit];rfl),if_pos ⟨by omega,by omega⟩,hws]
  ·rw[List.filterMap_cons,qOV,hbit,if_pos rfl,hdk] at ha
   subst ha
   refine next (out++[d[k]]) _ (by rw[qOZ,ho];rfl) rfl ?_ rfl
   unfold QC
   dsimp only
   rw[if_pos (by omega),if_pos ⟨by omega,by omega⟩,qOV,hy,qOS,if_pos (by omega),if_neg (by rw[hb,hbit];decide),if_pos (by simp),qP2,qOS,if_pos ⟨by omega,by omega⟩,if_pos (by simp;omega),hws]
   simp
theorem qgx {p:qe} (h:Rgt p.Need) {l:List qa} (hl:l.length≤10) (s:qg) {X:Nat} (hX:X<2 ^ l.length) {w:List Int} {f:Bool} (j:Nat) (hj:j≤X) (hw:w.length≤10) (hB:q1B p.Need s l X (fun k=>j+1≤k) w f) :
  ∃w' f',w'.length≤10∧q1B p.Need s l X (fun k=>j≤k) w' f'∧Zd p s l (Zk (2 ^ l.length) (QO [] s l p.Need 0)) (X:Int) (w,f,(j:Int))=some (.inl (w',f',(j:Int)-1)):=by
 have hjlt:j<2 ^ l.length:=by omega
 have h10:(2:Nat) ^ l.length≤1024:=qPt (Nat.pow_le_pow_right (by decide) hl) (by decide)
 have G:=q3Y h hl hjlt
 have ew:w64 ((j:Int)-1)=(j:Int)-1:=Z5 (by omega) (by omega)
 have grow:∀{w':List Int} {f':Bool},q1B p.Need s l X (fun k=>j+1≤k∨k=j) w' f'→q1B p.Need s l X (fun k=>j≤k) w' f':=fun hb=>hb.congr fun k _ _=>by omega
 have han:=qej j X (by omega) (by omega)
 unfold Zd
 dsimp only
 rw[if_pos (by omega),han,ew]
 by_cases hsub:j &&& X=j
 ·rw[if_neg (by rw[hsub,Nat.xor_self];decide),if_pos ⟨by omega,by rw[zK];omega⟩,qOV,J3 _ hjlt,qOS]
  cases hS:QO [] s l p.Need 0 j
  ·rw[if_pos (by decide)]
   exact⟨w,f,hw,grow (hB.skip fun lf hc=>by
    obtain⟨d,h1,h2,-⟩:=hc.ex
    have:=qcz G h1 h2
    rw[hS] at this;cases this),rfl⟩
  ·rw[if_neg (by decide)]
   obtain⟨d,h1,h2⟩:=qks h hl hjlt s hS
   have hM:(q3C l.length X).length≤10:=by rw[qkc];exact qPt (qdY _ _) hl
   have hloop:=qfU (d:=d) (by omega) (sub:=j) (by omega) (fun i y hy hb=>by have:=h2.val i y hy;rw[hb,if_neg (by decide)] at this;exact this) w p s l (Zk (2 ^ l.length) (QO [] s l p.Need 0)) (X:Int) f (q3C l.length X) hM (fun y hy=>by rw[h1];exact mem_range hy) (q3C l.length X) 0 [] (Qu j.testBit d) (by omega) (fun i=>by rw[qPg]) rfl (by
    rw[←qtc d j,h1,qqB hsub,List.filterMap_filter])
   rw[qmp h hl hjlt s h1 h2,qOS]
   dsimp only
   rw[if_neg (by decide),q3Z (N:=l.length) (by omega) hX,qOS]
   change ∃w' f',_∧_∧Option.bind (zB _ ([],Qu j.testBit d,((0:Nat):Int))) _=_
   have e1:(q3C l.length X).filterMap (fun y=>d[Int.toNat y]?)=Qu X.testBit d:=by rw[←h1];exact qtc d X
   rw[hloop,qOS,qPc,e1]
   have hc:qqa p.Need s l X j (Qu X.testBit d):=⟨hjlt,hsub,d,h1,h2,rfl⟩
   have hlen:(Qu X.testBit d).length≤10:=by have:=q4H d X.testBit;omega
   cases hf:f
   ·rw[if_pos (by decide)]
    exact⟨_,_,hlen,grow (hB.take h hl hc (.inl hf)),rfl⟩
   ·rw[if_neg (by decide),qp8 _ _ (by omega),qOS]
    subst hf
    by_cases hlt:qlL (Qu X.testBit d) w<0
    ·rw[if_pos hlt]
     exact⟨_,_,hlen,grow (hB.take h hl hc (.inr ((qeN _ _).1 hlt))),rfl⟩
    ·rw[if_neg hlt]
     exact⟨_,_,hw,grow (hB.leave h hl hc (qPk.2 fun e=>hlt ((qeN _ _).2 e))),rfl⟩
 ·have hne:((j ^^^ (j &&& X):Nat):Int)≠0:=fun e=>hsub (by
   have h0:j ^^^ (j &&& X)=0:=by omega
   exact Nat.eq_of_testBit_eq fun k=>by
    have h2:(j ^^^ (j &&& X)).testBit k=false:=by rw[h0,Nat.zero_testBit]
    rw[Nat.testBit_xor] at h2
    cases e1:(j &&& X).testBit k<;>cases e2:j.testBit k<;>rw[e1,e2] at h2<;>first|rfl|cases h2)
  rw[if_pos (by simpa using hne)]
  exact⟨w,f,hw,grow (hB.skip fun lf hc=>hsub hc.sb),rfl⟩
theorem qi2 {p:qe} (h:Rgt p.Need) {l:List qa} (hl:l.length≤10) (s:qg) {X:Nat} (hX:X<2 ^ l.length) :
  ∃w f,q0Y p s l (Zk (2 ^ l.length) (QO [] s l p.Need 0)) (X:Int)=some (w,f)∧w.length≤10∧qHP p.Need s l X w f:=by
 have h10:(2:Nat) ^ l.length≤1024:=qPt (Nat.pow_le_pow_right (by decide) hl) (by decide)
 have key:∀(i:Nat),i≤X+1→∀(w:List Int) (f:Bool),w.length≤10→q1B p.Need s l X (fun k=>i≤k) w f→∃w' f',zB (Zd p s l (Zk (2 ^ l.length) (QO [] s l p.Need 0)) (X:Int)) (w,f,(i:Int)-1)=some (w',f')∧w'.length≤10∧qHP p.Need s l X w' f':=by
  intro i
  induction i with
  | zero=>
   intro _ w f hw hB
   refine⟨w,f,zA ?_,hw,(hB.congr fun k _ _=>⟨fun _=>qPi k,fun _=>trivial⟩).lv h hl⟩
   unfold Zd
   dsimp only
   rw[if_neg (by decide)]
  | succ i ih=>
   intro hi w f hw hB
   obtain⟨w',f',h1,h2,h3⟩:=qgx h hl s hX i (by omega) hw hB
   rw[show((i+1:Nat):Int)-1=(i:Int) by omega,Q1 h3]
   exact ih (by omega) w' f' h1 h2
 obtain⟨w,f,h1,h2,h3⟩:=key (X+1) (qP8 _) [] false (qPi _) ((q1B.start (P:=fun _=>False) fun _ h=>h).congr fun k _ hk=>⟨fun h=>by
  have:k≤X:=by rw[←hk];exact Nat.and_le_right
  omega,fun h=>h.elim⟩)
 rw[show((X+1:Nat):Int)-1=(X:Int) by omega] at h1
 unfold q0Y
 rw[h1,qOS]
 exact⟨w,f,rfl,h2,h3⟩
end
noncomputable section
open Go.RowKit
section
variable {α ε:Type} {step:Int→Option (Int⊕ε)} (l:List α)
theorem qc6 (q:α→Bool) (e0 e1:ε) (hs:∀(i:Nat) (a:α),l[i]?=some a→step (i:Int)=some (if q a=true then .inl ((i+1:Nat):Int) else .inr e0)) (he:step ((l.length:Nat):Int)=some (.inr e1)) :
  zB step (0:Int)=some (if l.all q=true then e1 else e0):=by
 have key:∀(r:List α) (i:Nat),r.length+i=l.length→(∀j,r[j]?=l[i+j]?)→zB step (i:Int)=some (if r.all q=true then e1 else e0):=by
  intro r
  induction r with
  | nil=>
   intro i hi _
   have:i=l.length:=by simpa using hi
   subst this
   exact zA he
  | cons a r ih=>
   intro i hi hj
   have ha:l[i]?=some a:=by have:=hj 0;rw[Nat.add_zero] at this;exact this.symm
   have h1:=hs i a ha
   rw[List.all_cons]
   cases hq:q a
   ·rw[hq,if_neg (by decide)] at h1
    exact zA h1
   ·rw[hq,if_pos rfl] at h1
    rw[Q1 h1,ih (i+1) (by simp only[qP3] at hi;omega) (fun j=>by have:=hj (j+1);rw[qPh] at this;rw[this];congr 1;omega),qPp]
 exact key l 0 (by omega) fun j=>by rw[qPg]
theorem qeP (q:α→Bool) (mk:Nat→ε) (e1:ε) (hs:∀(i:Nat) (a:α),l[i]?=some a→step (i:Int)=some (if q a=true then .inr (mk i) else .inl ((i+1:Nat):Int))) (he:step ((l.length:Nat):Int)=some (.inr e1)) :
  (l.any q=true∧∃i,zB step (0:Int)=some (mk i))∨(l.any q=false∧zB step (0:Int)=some e1):=by
 have key:∀(r:List α) (i:Nat),r.length+i=l.length→(∀j,r[j]?=l[i+j]?)→(r.any q=true∧∃k,zB step (i:Int)=some (mk k))∨(r.any q=false∧zB step (i:Int)=some e1):=by
  intro r
  induction r with
  | nil=>
   intro i hi _
   have:i=l.length:=by simpa using hi
   subst this
   exact .inr ⟨rfl,zA he⟩
  | cons a r ih=>
   intro i hi hj
   have ha:l[i]?=some a:=by have:=hj 0;rw[Nat.add_zero] at this;exact this.symm
   have h1:=hs i a ha
   rw[List.any_cons]
   cases hq:q a
   ·rw[hq,if_neg (by decide)] at h1
    rw[Q1 h1,Bool.false_or]
    exact ih (i+1) (by simp only[qP3] at hi;omega) (fun j=>by have:=hj (j+1);rw[qPh] at this;rw[this];congr 1;omega)
   ·rw[hq,if_pos rfl] at h1
    exact .inl ⟨rfl,i,zA h1⟩
 exact key l 0 (by omega) fun j=>by rw[qPg]
end
theorem q4n {i n:Nat} (h:i<n) (hn:n≤1000000):w64 ((i:Int)+1)=((i+1:Nat):Int):=Qi h (by omega)
theorem qgz (s:List Int) (hs:s.length≤1000000) (v:Int):Zh s v=some (s.any fun x=>v==x):=by
 have h:=qeP (step:=QM s v ((s.length:Nat):Int)) s (fun x=>v==x) (fun i => .inl (i:Int)) (.inr ()) (fun i a ha=>by
  have hi:=Jf ha
  unfold QM
  rw[if_pos (by omega),if_pos ⟨by omega,by omega⟩,qOV,ha,qOS,q4n hi hs]
  split<;>rfl) (by
  unfold QM
  rw[if_neg (by omega)])
 unfold Zh JN
 rcases h with ⟨h1,i,h2⟩|⟨h1,h2⟩
 ·rw[h2,qOS,Sum.elim_inl,qOS,h1,qPT (by omega)]
 ·rw[h2,qOS,Sum.elim_inr,qOS,h1,decide_eq_false (by omega)]
def qvC (a b:List Int):Bool:=a.any fun x=>b.any fun y=>x==y
theorem qvy (a b:List Int) (ha:a.length≤1000000) (hb:b.length≤1000000):JJ a b=some (qvC a b):=by
 have h:=qeP (step:=Ql b a ((a.length:Nat):Int)) a (fun x=>b.any fun y=>x==y) (fun i => .inl (i:Int)) (.inr ()) (fun i x hx=>by
  have hi:=Jf hx
  unfold Ql q0Q
  rw[if_pos (by omega),if_pos ⟨by omega,by omega⟩,qOV,hx,qOS,qgz b hb,qOS,qOS,q4n hi ha]
  split<;>rfl) (by
  unfold Ql
  rw[if_neg (by omega)])
 unfold JJ Zp ZV qvC
 rcases h with ⟨h1,i,h2⟩|⟨h1,h2⟩
 ·rw[h2,qOS,Sum.elim_inl,qOS,h1,qPT (by omega),qOS]
 ·rw[h2,qOS,Sum.elim_inr,qOS,h1,decide_eq_false (by omega),qOS]
theorem qd3 (a b:List Int) (ha:a.length≤1000000):Zf a b=some (decide (a=b)):=by
 unfold Zf
 by_cases hl:a.length=b.length
 ·rw[if_neg (by rw[hl];simp)]
  have key:∀(r q:List Int) (i:Nat),r.length+i=a.length→q.length=r.length→(∀j,r[j]?=a[i+j]?)→(∀j,q[j]?=b[i+j]?)→zB (Qt a b ((a.length:Nat):Int)) (i:Int)=some (if r=q then .inr () else .inl ()):=by
   intro r
   induction r with
   | nil=>
    intro q i hi hq _ _
    obtain rfl:=qPb hq
    have hi:i=a.length:=by simpa using hi
    refine zA ?_
    unfold Qt
    rw[if_neg (by omega),if_pos rfl]
   | cons x r ih=>
    intro q i hi hq hr hb
    cases q with
    | nil=>cases hq
    | cons y q=>
     simp only[qP3] at hi hq
     have hx:a[i]?=some x:=by have:=hr 0;rw[Nat.add_zero] at this;exact this.symm
     have hy:b[i]?=some y:=by have:=hb 0;rw[Nat.add_zero] at this;exact this.symm
     have e:Qt a b ((a.length:Nat):Int) (i:Int)=some (if(x != y)=true then .inr (.inl ()) else .inl ((i+1:Nat):Int)):=by
      unfold Qt
      rw[if_pos (by omega),if_pos ⟨by omega,by omega⟩,qOV,hx,qOS,if_pos ⟨by omega,by omega⟩,hy,qOS,q4n (Jf hx) ha]
      split<;>rfl
     by_cases hxy:x=y
     ·subst hxy
      rw[if_neg (by simp)] at e
      rw[Q1 e,ih q (i+1) (by omega) (by omega) (fun j=>by have:=hr (j+1);rw[qPh] at this;rw[this];congr 1;omega) (fun j=>by have:=hb (j+1);rw[qPh] at this;rw[this];congr 1;omega)]
      simp
     ·rw[if_pos (by simpa using hxy)] at e
      rw[zA e,if_neg (fun h=>hxy (by injection h))]
  have h:=key a b 0 (by omega) hl.symm (fun j=>by rw[qPg]) (fun j=>by rw[qPg])
  change Option.bind (zB _ ((0:Nat):Int)) _=_
  rw[h,qOS]
  by_cases e:a=b
  ·rw[if_pos e,Sum.elim_inr,qPT e]
  ·rw[if_neg e,Sum.elim_inl,decide_eq_false e]
 ·rw[if_pos (by simpa using fun h=>hl (by omega)),decide_eq_false (fun e=>hl (by rw[e]))]
def q8c (a:qa):Prop:=a.Sources.length≤1000∧a.Path.length≤1000
def qkD (a b:qa):Bool := !ceq a.Course b.Course&&((decide (0<a.Bundle)&&a.Bundle==b.Bundle&&decide (a.Path=b.Path)) || !qvC a.Sources b.Sources)
theorem qsp {a b:qa} (ha:q8c a) (hb:q8c b):q3p a b=some (qkD a b):=by
 have h1:=ha.1;have h2:=ha.2;have h3:=hb.1
 unfold q3p qkD
 rw[qd3 _ _ (by omega),qvy _ _ (by omega) (by omega)]
 simp only[qOS]
 by_cases hc:ceq a.Course b.Course=true
 ·rw[if_pos (by unfold ceq at hc;rw[qPo] at hc;exact hc),hc];rfl
 ·rw[if_neg (by unfold ceq at hc;rw[qPo] at hc;exact hc),qPk.2 hc]
  by_cases h0:0<a.Bundle
  ·rw[if_pos h0,qPT h0]
   cases hbd:a.Bundle==b.Bundle
   ·rw[if_neg (by decide)];simp
   ·rw[if_pos rfl]
    cases hp:decide (a.Path=b.Path)
    ·rw[if_neg (by decide)];simp
    ·rw[if_pos rfl];simp
  ·rw[if_neg h0,decide_eq_false h0];simp
def qqH (v a:q00 qc):Bool:=ceq v.a0 a.a0&&ceq v.a1 a.a1
theorem q75 (s:List (q00 qc)) (hs:s.length≤1000000) (v:q00 qc):zd s v=some (s.any (qqH v)):=by
 have h:=qeP (step:=zt v s ((s.length:Nat):Int)) s (qqH v) (fun i => .inl (i:Int)) (.inr ()) (fun i a ha=>by
  have hi:=Jf ha
  unfold zt
  rw[if_pos (by omega),if_pos ⟨by omega,by omega⟩,qOV,ha,qOS,q4n hi hs]
  have e:(((v.a0.School==a.a0.School)=true∧(v.a0.Code.toList==a.a0.Code.toList)=true)∧(v.a1.School==a.a1.School)=true∧(v.a1.Code.toList==a.a1.Code.toList)=true)↔qqH v a=true:=by
   unfold qqH ceq;simp only[qPo]
  by_cases hq:qqH v a=true
  ·rw[if_pos (e.2 hq),if_pos hq]
  ·rw[if_neg (fun h=>hq (e.1 h)),if_neg hq]) (by
  unfold zt
  rw[if_neg (by omega)])
 unfold zd Qj
 rcases h with ⟨h1,i,h2⟩|⟨h1,h2⟩
 ·rw[h2,qOS,Sum.elim_inl,qOS,h1,qPT (by omega)]
 ·rw[h2,qOS,Sum.elim_inr,qOS,h1,decide_eq_false (by omega)]
def qic (p:qe) (a b:qa):Bool:=qkD a b && !p.Exclude.any (qqH ⟨a.Course,b.Course⟩) && !p.Exclude.any (qqH ⟨b.Course,a.Course⟩)
theorem qrx (p:qe) (hp:p.Exclude.length≤1000) (a:qa) (ha:q8c a) (t1:List qa) (t2 t7:Int) (t12:List qa) (t13 t14:Int) (l:List qa) (hl:l.length≤1000) (hf:∀b∈l,q8c b) :
  zB (ZO p a t1 t2 t7 t12 t13 t14 l ((l.length:Nat):Int)) (0:Int)=some (if l.all (qic p a)=true then .inr () else .inl ()):=by
 refine qc6 l (qic p a) _ _ (fun i b hb=>?_) ?_
 ·have hi:=Jf hb
  unfold ZO
  rw[if_pos (by omega),if_pos ⟨by omega,by omega⟩,qOV,hb,qOS,qsp ha (hf b (qOT hb)),qOS,q75 _ (by omega),q75 _ (by omega),q4n hi (by omega)]
  unfold qic
  simp only[qOS]
  cases qkD a b
  ·simp
  ·cases p.Exclude.any (qqH ⟨a.Course,b.Course⟩)
   ·cases p.Exclude.any (qqH ⟨b.Course,a.Course⟩)<;>simp
   ·simp
 ·unfold ZO
  rw[if_neg (by omega)]
def qq7 (p:qe) (a:qa) (day:Int):Bool:=(ZS p a day).getD false
theorem qlW (d:Int):∃v,q2M d=some v:=by
 have h:∀n,∃v,q1v n 100=some v:=fun n=>by
  unfold q1v
  rw[if_neg (by decide),if_neg (by decide),if_neg (by decide)]
  exact⟨_,rfl⟩
 unfold q2M
 split
 ·obtain⟨v,hv⟩:=h (w64 (d+100));rw[hv];exact⟨_,rfl⟩
 ·obtain⟨v,hv⟩:=h d;rw[hv];exact⟨_,rfl⟩
theorem qt9 (p:qe) (a:qa) (day:Int):ZS p a day=some (qq7 p a day):=by
 obtain⟨v,hv⟩:=qlW day
 obtain⟨w,hw⟩:=qlW a.Day
 have:∃b,ZS p a day=some b:=by
  unfold ZS
  rw[hv,hw]
  split<;>exact⟨_,rfl⟩
 obtain⟨b,hb⟩:=this
 unfold qq7
 rw[hb];rfl
def qB5 (p:qe) (o:Int) (a:qa):Int:=if a.Course.School=p.School∧a.Bundle=0 then w64 (o+a.Credits) else o
def tgL (p:qe) (day:Int):List qa→List qa→Bool
 | _,[]=>true
 | done,a::r => !qq7 p a day&&done.all (qic p a)&&tgL p day (done++[a]) r
def qGD (l:List qa):Int:=l.foldl (fun n a=>w64 (n+a.Credits)) 0
def qdt (p:qe) (l:List qa) (day:Int):Bool:=tgL p day [] l&&decide (p.Total≤qGD l)&&decide (p.Own≤l.foldl (qB5 p) 0)
theorem ql6 (l:List qa) (hl:l.length≤1000):q1I l=some (qGD l):=by
 have h:=qlK (step:=JE l ((l.length:Nat):Int)) l (fun(b:Int) k=>(b,(k:Int))) (fun b a=>w64 (b+a.Credits)) (fun b=>b) (fun b k a ha=>by
  have hi:=Jf ha
  unfold JE
  dsimp only
  rw[if_pos (by omega),if_pos ⟨by omega,by omega⟩,qOV,ha,qOS,q4n hi (by omega)]) (fun b=>by
  unfold JE
  dsimp only
  rw[if_neg (by omega)]) 0
 unfold q1I
 change Option.bind (zB _ ((0:Int),((0:Nat):Int))) _=_
 rw[h];rfl
theorem qkp (p:qe) (hp:p.Exclude.length≤1000) (day:Int) (l:List qa) (hl:l.length≤1000) (hf:∀b∈l,q8c b):∀(r:List qa) (i:Nat) (o:Int),r.length+i=l.length→l.take i++r=l→
  ∃e,zB (Za p l day l ((l.length:Nat):Int)) (o,(i:Int))=some e∧(tgL p day (l.take i) r=true→e = .inr (r.foldl (qB5 p) o))∧(tgL p day (l.take i) r=false→∃x,e = .inl x)
 | [],i,o,hi,_=>by
  have hi:i=l.length:=by simpa using hi
  refine⟨.inr o,zA ?_,fun _=>rfl,fun h=>by rw[tgL] at h;cases h⟩
  unfold Za
  dsimp only
  rw[if_neg (by omega)]
 | a::r,i,o,hi,hr=>by
  have hil:i<l.length:=by simp only[qP3] at hi;omega
  have ha:l[i]?=some a:=by
   rw[←hr,qPv (by rw[qPl];omega),qPl,Nat.min_eq_left (by omega),Nat.sub_self];rfl
  have hmem:a∈l:=qOT ha
  have htk:l.take i++[a]=l.take (i+1):=by rw[List.take_add_one,ha];rfl
  have hpre:(l.take i).length≤1000:=by rw[qPl];omega
  have hpr:=qrx p hp a (hf a hmem) l day o l ((l.length:Nat):Int) (i:Int) (l.take i) hpre (fun b hb=>hf b (List.mem_of_mem_take hb))
  have step:Za p l day l ((l.length:Nat):Int) (o,(i:Int))=some (if qq7 p a day=true then .inr (.inl o) else if(l.take i).all (qic p a)=true then .inl (qB5 p o a,((i+1:Nat):Int)) else .inr (.inl o)):=by
   unfold Za
   dsimp only
   rw[if_pos (by omega),if_pos ⟨by omega,by omega⟩,qOV,ha,qOS,qt9,qOS]
   by_cases hold:qq7 p a day=true
   ·rw[if_pos hold,if_pos hold]
   ·rw[if_neg hold,if_neg hold,if_pos ⟨by omega,by omega⟩,qPL,hpr,qOS,q4n hil (by omega)]
    by_cases hall:(l.take i).all (qic p a)=true
    ·rw[if_pos hall,if_pos hall,Sum.elim_inr]
     unfold qB5
     by_cases h1:a.Course.School=p.School
     ·by_cases h2:a.Bundle=0
      ·rw[if_pos (by simpa using h1),if_pos (by simpa using h2),if_pos ⟨h1,h2⟩]
      ·rw[if_pos (by simpa using h1),if_neg (by simpa using h2),if_neg (fun h=>h2 h.2)]
     ·rw[if_neg (by simpa using h1),if_neg (fun h=>h1 h.1)]
    ·rw[if_neg hall,if_neg hall,Sum.elim_inl]
  rw[tgL]
  by_cases hold:qq7 p a day=true
  ·rw[if_pos hold] at step
   exact⟨_,zA step,fun h=>by rw[hold] at h;simp at h,fun _=>⟨_,rfl⟩⟩
  ·rw[if_neg hold] at step
   by_cases hall:(l.take i).all (qic p a)=true
   ·rw[if_pos hall] at step
    obtain⟨e,h1,h2,h3⟩:=qkp p hp day l hl hf r (i+1) (qB5 p o a) (by simp only[qP3] at hi;omega) (by rw[←htk,qPy];exact hr)
    refine⟨e,(Q1 step).trans h1,?_,?_⟩
    ·rw[qPk.2 hold,hall,htk];exact h2
    ·rw[qPk.2 hold,hall,htk];exact h3
   ·rw[if_neg hall] at step
    exact⟨_,zA step,fun h=>by rw[qPk.2 hall] at h;simp at h,fun _=>⟨_,rfl⟩⟩
theorem qtx (p:qe) (hp:p.Exclude.length≤1000) (l:List qa) (hl:l.length≤1000) (hf:∀b∈l,q8c b) (day:Int):JF p l day=some (qdt p l day):=by
 obtain⟨e,h1,h2,h3⟩:=qkp p hp day l hl hf l 0 0 (by omega) rfl
 unfold JF qdt
 change Option.bind (zB _ ((0:Int),((0:Nat):Int))) _=_
 rw[h1,qOS]
 rw[List.take_zero] at h2 h3
 cases ht:tgL p day [] l
 ·obtain⟨x,rfl⟩:=h3 ht
  rw[Sum.elim_inl];rfl
 ·rw[h2 ht,Sum.elim_inr,ql6 l hl,qOS,qPp]
  by_cases hc:p.Total≤qGD l
  ·rw[if_pos hc,qPT hc,qPp]
  ·rw[if_neg hc,decide_eq_false hc,qPV]
end
end Go.Proofs.YtojflbfdcpkedaaGreat.Vc
