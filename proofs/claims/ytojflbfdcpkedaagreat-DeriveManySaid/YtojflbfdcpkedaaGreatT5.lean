/- Part 5 of a proof. -/
import Derived.Test.YtojflbfdcpkedaaGreatT4
set_option linter.unusedVariables false
set_option linter.unusedSimpArgs false
set_option linter.defProp false
set_option linter.unusedSectionVars false
set_option linter.unnecessarySimpa false
namespace Go.Proofs.YtojflbfdcpkedaaGreat.Vc
noncomputable section
open Go.RowKit
set_option maxRecDepth 20000
set_option maxHeartbeats 8000000
theorem qJK:okL 10 qlN:=qV (qn qDz) (by kernel_rfl) (by kernel_rfl)
def qHP:=JA_ @qlN.eq_1 (JA_ @Tryz.f10.eq_1 @qDz)
theorem qGn:okL 28 qhL:=qV (qn qBN) (by kernel_rfl) (by kernel_rfl)
def qG9:=JA_ @qhL.eq_1 (JA_ @Tryz.f28.eq_1 @qBN)
theorem qxF:lbO 28 5=qnC:=QO (qn qBN) rfl
theorem qzq:okL 28 qnC:=Q6 qGn (qLe (i:=0) (by kernel_rfl))
theorem qHi:okL 27 qmX:=qV (qn qCu) (by kernel_rfl) (by kernel_rfl)
def qJV:=JA_ @qmX.eq_1 (JA_ @Tryz.f27.eq_1 @qCu)
theorem q19:∀(code:ByteArray),ev 27 0 [rS code] []=some (R.agg [C.d (D.int IntKind.i64 1),dS code],[]):=
 fun code=>by
  rw[qQ qCu qFG.2.2.2 qHi]
  have:=qJV;exact gA
def q0u (w2:List qd) (qo:Int) (za:Int) (ql:Int) (qv:Int) (qw:ByteArray) (qi:Int) (qp:Int) (qj:Int) (qt:Int) (qD:Int) (qE:Int) (qA:Int) (Jt:Int) (qy:Int) (zc:Int) (zd:ByteArray) (qs:Int) (qB:Int) (qu:Int) (qJ:Int) (Q9:Int) (Qa:Int) (codes:qcm ByteArray) (credits:qcm Int) (grades:qcm Int):(List qa×Int)→Option ((List qa×Int)⊕(List qa))|(l,k)=>if k<3 then if 0≤k∧k<3 then Option.bind [codes.a0,codes.a1,codes.a2][Int.toNat k]? fun(a:ByteArray)=>if 0≤k∧k<3 then Option.bind [credits.a0,credits.a1,credits.a2][Int.toNat k]? fun(a2:Int)=>if 0≤k∧k<3 then Option.bind [grades.a0,grades.a1,grades.a2][Int.toNat k]? fun(a3:Int)=>if l.length+1≤maxLen∧(l.length+1)*104≤140737488355328 then some (Sum.inl (l++[qa.mk (qd.mk 1 a) a2 a3 100 [w64 (1000001+k)] 0 []],w64 (k+1))) else none else none else none else none else some (Sum.inr l)
theorem q5S:∀(w2:List qd) (l:List qa) (qo za ql qv:Int) (qw:ByteArray) (qi qp qj qt qD qE qA Jt qy zc:Int) (zd:ByteArray) (qs qB qu qJ Q9 Qa:Int) (q4c q4d q4e:ByteArray) (q1r q1s q1t q2D q2E q2F k:Int) (qhy q3H:Nat),qhy=l.length→q3H=w2.length→XL2 evo 28 0 5 ⟨[(2,rP 0),(4,rP 1),(5,rP 3),(6,rP 4),(7,rP 5),(8,rO 6 8 qhy),(9,rI k)],[(0,B.blk 39 [dI qo,dI za,dI ql,dI qv,dS qw,dI qi,dI qp,dI qj,C.nils,C.nils,dI qt,dI qD,dI qE,C.nils]),(1,B.blk 39 [dI qA,dI Jt,dI qy,dI zc,dS zd,dI qs,dI qB,dI qu,dO 2 2 q3H,C.nils,dI qJ,dI Q9,dI Qa,C.nils]),(2,bR 55 2 qe w2),(3,B.blk 103 [dS q4c,dS q4d,dS q4e]),(4,B.blk 29 [dI q1r,dI q1s,dI q1t]),(5,B.blk 29 [dI q2D,dI q2E,dI q2F]),(6,bR 57 8 qf l)],7,42⟩=(zG (q0u w2 qo za ql qv qw qi qp qj qt qD qE qA Jt qy zc zd qs qB qu qJ Q9 Qa (qcm.mk q4c q4d q4e) (qcm.mk q1r q1s q1t) (qcm.mk q2D q2E q2F)) (l,k)).bind (fun(e:List qa)=>some (Exit.exit 0,⟨[(2,rP 0),(4,rP 1),(8,rO 3 8 e.length)],[(0,B.blk 39 [dI qo,dI za,dI ql,dI qv,dS qw,dI qi,dI qp,dI qj,C.nils,C.nils,dI qt,dI qD,dI qE,C.nils]),(1,B.blk 39 [dI qA,dI Jt,dI qy,dI zc,dS zd,dI qs,dI qB,dI qu,dO 2 2 w2.length,C.nils,dI qJ,dI Q9,dI Qa,C.nils]),(2,bR 55 2 qe w2),(3,bR 57 8 qf e)],4,42⟩)):=
 by
 intro w2 l qo za ql qv qw qi qp qj qt qD qE qA Jt qy zc zd qs qB qu qJ Q9 Qa q4c q4d q4e q1r q1s q1t q2D q2E q2F k qhy q3H h0 h1
 subst h0 h1
 revert k;revert l;exact qcb qxF qzq (fun e=>by exact⟨_,rfl,fun h=>by cases h⟩) fun l k=>by
  have:=qG9;have:=@qnC.eq_1;have:=@q19;have:=@q0u.eq_1;exact gA
theorem q4B:∀(q3p:Int) (q6O:ByteArray) (q3q:Int) (q6P:ByteArray) (qo za ql qv:Int) (qw:ByteArray) (qi qp qj qt qD qE qA Jt qy zc:Int) (zd:ByteArray) (qs qB qu qJ Q9 Qa:Int) (q4c q4d q4e:ByteArray) (q1r q1s q1t q2D q2E q2F k:Int),XL2 evo 28 0 5 ⟨[(2,rP 0),(4,rP 1),(5,rP 3),(6,rP 4),(7,rP 5),(8,rO 6 8 0),(9,rI k)],[(0,B.blk 39 [dI qo,dI za,dI ql,dI qv,dS qw,dI qi,dI qp,dI qj,C.nils,C.nils,dI qt,dI qD,dI qE,C.nils]),(1,B.blk 39 [dI qA,dI Jt,dI qy,dI zc,dS zd,dI qs,dI qB,dI qu,dO 2 2 2,C.nils,dI qJ,dI Q9,dI Qa,C.nils]),(2,B.row 55 2 [dI q3p,dS q6O,dI q3q,dS q6P]),(3,B.blk 103 [dS q4c,dS q4d,dS q4e]),(4,B.blk 29 [dI q1r,dI q1s,dI q1t]),(5,B.blk 29 [dI q2D,dI q2E,dI q2F]),(6,B.row 57 8 [])],7,42⟩=(zG (q0u [(qd.mk q3p q6O),(qd.mk q3q q6P)] qo za ql qv qw qi qp qj qt qD qE qA Jt qy zc zd qs qB qu qJ Q9 Qa (qcm.mk q4c q4d q4e) (qcm.mk q1r q1s q1t) (qcm.mk q2D q2E q2F)) ([],k)).bind (fun(e:List qa)=>some (Exit.exit 0,⟨[(2,rP 0),(4,rP 1),(8,rO 3 8 e.length)],[(0,B.blk 39 [dI qo,dI za,dI ql,dI qv,dS qw,dI qi,dI qp,dI qj,C.nils,C.nils,dI qt,dI qD,dI qE,C.nils]),(1,B.blk 39 [dI qA,dI Jt,dI qy,dI zc,dS zd,dI qs,dI qB,dI qu,C.own 2 2 0 [(qd.mk q3p q6O),(qd.mk q3q q6P)].length,C.nils,dI qJ,dI Q9,dI Qa,C.nils]),(2,B.row 55 2 (([(qd.mk q3p q6O),(qd.mk q3q q6P)].flatMap qe).map C.d)),(3,bR 57 8 qf e)],4,42⟩)):=by
 intro q3p q6O q3q q6P qo za ql qv qw qi qp qj qt qD qE qA Jt qy zc zd qs qB qu qJ Q9 Qa q4c q4d q4e q1r q1s q1t q2D q2E q2F k;have h:=q5S [(qd.mk q3p q6O),(qd.mk q3q q6P)] [] qo za ql qv qw qi qp qj qt qD qE qA Jt qy zc zd qs qB qu qJ Q9 Qa ((qcm.mk q4c q4d q4e)).a0 ((qcm.mk q4c q4d q4e)).a1 ((qcm.mk q4c q4d q4e)).a2 ((qcm.mk q1r q1s q1t)).a0 ((qcm.mk q1r q1s q1t)).a1 ((qcm.mk q1r q1s q1t)).a2 ((qcm.mk q2D q2E q2F)).a0 ((qcm.mk q2D q2E q2F)).a1 ((qcm.mk q2D q2E q2F)).a2 k _ _ rfl rfl
 first
  | exact h
  | (simp only[rL,dL,bR,bZ,Nat.reduceAdd] at h;exact h)
def Zp (total:Int):Option (qc×List qa):=Option.bind (zG (q0u [qd.mk 1 (ByteArray.mk (List.toArray [65,49])),qd.mk 1 (ByteArray.mk (List.toArray [66,49]))] 0 0 0 0 (ByteArray.mk (List.toArray [])) 0 0 0 0 0 0 1 1 1 0 (ByteArray.mk (List.toArray [77,117,115,105,99])) 1 0 60 total 0 0 (qcm.mk (ByteArray.mk (List.toArray [65,49])) (ByteArray.mk (List.toArray [66,49])) (ByteArray.mk (List.toArray [65,49]))) (qcm.mk 5 5 6) (qcm.mk 55 60 80)) ([],0)) fun(a:List qa)=>some (qc.mk 1 1 1 0 (ByteArray.mk (List.toArray [77,117,115,105,99])) (qb.mk 1 0 60 ([qd.mk 1 (ByteArray.mk (List.toArray [65,49]))]++[qd.mk 1 (ByteArray.mk (List.toArray [66,49]))]) []) total 0 0 [],a)
theorem q8v:∀(total:Int),ev 28 0 [rI total] []=(Zp total).bind (fun(e:qc×List qa)=>some (R.tup [R.agg [dI e.1.School,dI e.1.Id,dI e.1.Version,dI e.1.From,dS e.1.Name,dI e.1.Need.Kind,dI e.1.Need.N,dI e.1.Need.Min,dL 2 qe e.1.Need.Set,dL 5 qh e.1.Need.L,dI e.1.Total,dI e.1.Own,dI e.1.Age,dL 4 (eA2 qe) e.1.Exclude],rL 8 qf e.2],[])):=
 fun total=>by
  rw[qQ qBN qG2.2.2.2 qGn]
  have:=qG9;have:=@q19;have:=@q4B;have:=@Zp.eq_1;exact gA
theorem qIj:okL 29 qn2:=qV (qn qFi) (by kernel_rfl) (by kernel_rfl)
def qK8:=JA_ @qn2.eq_1 (JA_ @Tryz.f29.eq_1 @qFi)
theorem qHj:okL 13 qnB:=qV (qn qCm) (by kernel_rfl) (by kernel_rfl)
def qHn:=JA_ @qnB.eq_1 (JA_ @Tryz.f13.eq_1 @qCm)
def q6D (school:Int):Option qg:=if(school==2)=Bool.true then some (qg.mk 5 1 3) else if(school==3)=Bool.true then some (qg.mk 0 20 10) else some (qg.mk 0 100 50)
def zo (school:Int):qg:=if(school==2)=Bool.true then qg.mk 5 1 3 else if(school==3)=Bool.true then qg.mk 0 20 10 else qg.mk 0 100 50
theorem qck (school:Int):q6D school=some (zo school):=by
 unfold q6D zo
 simp only[Zc]
theorem q5c:∀(school:Int),ev 13 0 [rI school] []=some (R.agg [dI (zo school).Worst,dI (zo school).Best,dI (zo school).Pass],[]):=
 fun school=>by
  have h:ev 13 0 [rI school] []=(q6D school).bind (fun(e:qg)=>some (R.agg [dI e.Worst,dI e.Best,dI e.Pass],[])):=by
   rw[qQ qCm qGR.2.2.2 qHj]
   have:=qHn;have:=@q6D.eq_1;exact gA
  rw[qck] at h
  exact h
theorem qCy:okL 17 qeK:=qV (qn qxS) (by kernel_rfl) (by kernel_rfl)
def qCR:=JA_ @qeK.eq_1 (JA_ @Tryz.f17.eq_1 @qxS)
theorem qxW:lbO 17 4=qme:=QO (qn qxS) rfl
theorem qx6:okL 17 qme:=Q6 qCy (qLe (i:=0) (by kernel_rfl))
theorem qwQ:lbO 17 9=qlK:=QO (qn qxS) rfl
theorem qAA:okL 17 qlK:=Q6 qCy (qLe (i:=1) (by kernel_rfl))
def JZ (a:qP) (b:qP):Int→Option (Int⊕(Unit⊕Unit))|i=>if i<((a.Taken.length:Nat):Int) then if 0≤i∧i<((a.Taken.length:Nat):Int) then Option.bind a.Taken[Int.toNat i]? fun(a2:Int)=>if 0≤i∧i<((b.Taken.length:Nat):Int) then Option.bind b.Taken[Int.toNat i]? fun(a3:Int)=>if(a2 != a3)=Bool.true then some (Sum.inr (Sum.inl ())) else some (Sum.inl (w64 (i+1))) else none else none else some (Sum.inr (Sum.inr ()))
theorem q8o:∀(q0Z q2S q11 q2T:List Int) (i:Int),XL2 evo 17 0 4 ⟨[(2,rP 0),(3,rP 1),(5,rI i)],[(0,B.blk 48 [dL 1 eI q0Z,dL 1 eI q2S]),(1,B.blk 48 [dL 1 eI q11,dL 1 eI q2T])],2,59⟩=(zG (JZ (qP.mk q0Z q2S) (qP.mk q11 q2T)) i).bind (Sum.elim (fun(e:Unit)=>some (Exit.ret,⟨[(2,rP 0),(3,rP 1),(4,rB Bool.false)],[(0,B.blk 48 [dL 1 eI q0Z,dL 1 eI q2S]),(1,B.blk 48 [dL 1 eI q11,dL 1 eI q2T])],2,59⟩)) (fun(e:Unit)=>some (Exit.exit 0,⟨[(2,rP 0),(3,rP 1),(4,R.any)],[(0,B.blk 48 [dL 1 eI q0Z,dL 1 eI q2S]),(1,B.blk 48 [dL 1 eI q11,dL 1 eI q2T])],2,59⟩))):=
 fun q0Z q2S q11 q2T i=>by
  revert i;exact qbd qxW qx6 (fun e=>by rcases e with _|_<;>exact⟨_,rfl,fun h=>by cases h⟩) fun x=>by
   have:=qCR;have:=@qme.eq_1;have:=@JZ.eq_1;exact gA
def q00 (a:qP) (b:qP):Int→Option (Int⊕(Unit⊕Unit))|i=>if i<((a.Leaf.length:Nat):Int) then if 0≤i∧i<((a.Leaf.length:Nat):Int) then Option.bind a.Leaf[Int.toNat i]? fun(a2:Int)=>if 0≤i∧i<((b.Leaf.length:Nat):Int) then Option.bind b.Leaf[Int.toNat i]? fun(a3:Int)=>if(a2 != a3)=Bool.true then some (Sum.inr (Sum.inl ())) else some (Sum.inl (w64 (i+1))) else none else none else some (Sum.inr (Sum.inr ()))
theorem q8q:∀(q0Z q2S q11 q2T:List Int) (i:Int),XL2 evo 17 0 9 ⟨[(2,rP 0),(3,rP 1),(6,rI i)],[(0,B.blk 48 [dL 1 eI q0Z,dL 1 eI q2S]),(1,B.blk 48 [dL 1 eI q11,dL 1 eI q2T])],2,59⟩=(zG (q00 (qP.mk q0Z q2S) (qP.mk q11 q2T)) i).bind (Sum.elim (fun(e:Unit)=>some (Exit.ret,⟨[(4,rB Bool.false)],[],0,59⟩)) (fun(e:Unit)=>some (Exit.exit 2,⟨[(4,R.any)],[],0,59⟩))):=
 fun q0Z q2S q11 q2T i=>by
  revert i;exact qbd qwQ qAA (fun e=>by rcases e with _|_<;>exact⟨_,rfl,fun h=>by cases h⟩) fun x=>by
   have:=qCR;have:=@qlK.eq_1;have:=@q00.eq_1;exact gA
def q2H (a:qP) (b:qP):Option Bool:=if(((a.Taken.length:Nat):Int) != ((b.Taken.length:Nat):Int))=Bool.true then some Bool.false else if(((a.Leaf.length:Nat):Int) != ((b.Leaf.length:Nat):Int))=Bool.true then some Bool.false else Option.bind (zG (JZ a b) 0) fun(a2:Sum Unit Unit)=>Sum.elim (fun(a3:Unit)=>some Bool.false) (fun(a4:Unit)=>Option.bind (zG (q00 a b) 0) fun(a5:Sum Unit Unit)=>Sum.elim (fun(a6:Unit)=>some Bool.false) (fun(a7:Unit)=>some Bool.true) a5) a2
theorem qaV:∀(q0Z q2S q11 q2T:List Int),ev 17 0 [R.agg [dL 1 eI q0Z,dL 1 eI q2S],R.agg [dL 1 eI q11,dL 1 eI q2T]] []=(q2H (qP.mk q0Z q2S) (qP.mk q11 q2T)).bind (fun(e:Bool)=>some (rB e,[])):=
 fun q0Z q2S q11 q2T=>by
  rw[qQ qxS qGN.2.2.2 qCy]
  have:=qCR;have:=@q8o;have:=@q8q;have:=@q2H.eq_1;exact gA
def z6 (p:qc) (l:List qa) (taken:List Int) (leaf:List Int):Option Bool:=Option.bind (Qs p (zo 1) l 500) fun(a:Prod qP Int)=>if(((taken.length:Nat):Int)==0)=Bool.true then if(a.2==31)=Bool.true then some (w64 (((a.1.Taken.length:Nat):Int)+((a.1.Leaf.length:Nat):Int))==0) else some Bool.false else if(a.2==0)=Bool.true then Option.bind (q2H a.1 (qP.mk taken leaf)) fun(e0:Bool)=>some e0 else some Bool.false
theorem q0B:∀(qA Jt qy zc:Int) (zd:ByteArray) (qs qB qu:Int) (qx:List qd) (qF:List qb) (qJ Q9 Qa:Int) (qH:List (JK qd)) (l:List qa) (taken leaf:List Int),ev 29 0 [R.agg [dI qA,dI Jt,dI qy,dI zc,dS zd,dI qs,dI qB,dI qu,dL 2 qe qx,dL 5 qh qF,dI qJ,dI Q9,dI Qa,dL 4 (eA2 qe) qH],rL 8 qf l,rL 1 eI taken,rL 1 eI leaf] []=(z6 (qc.mk qA Jt qy zc zd (qb.mk qs qB qu qx qF) qJ Q9 Qa qH) l taken leaf).bind (fun(e:Bool)=>some (rB e,[])):=
 fun qA Jt qy zc zd qs qB qu qx qF qJ Q9 Qa qH l taken leaf=>by
  rw[qQ qFi qGo.2.2.2 qIj]
  have:=qK8;have:=@q5c;have:=@q3L;have:=@qaV;have:=@z6.eq_1;exact gA
theorem q61:∀(taken0 taken1 leaf0 leaf1 qA Jt qy zc:Int) (zd:ByteArray) (qs qB qu:Int) (qx:List qd) (qF:List qb) (qJ Q9 Qa:Int) (qH:List (JK qd)) (l:List qa),ev 29 0 [R.agg [dI qA,dI Jt,dI qy,dI zc,dS zd,dI qs,dI qB,dI qu,dL 2 qe qx,dL 5 qh qF,dI qJ,dI Q9,dI Qa,dL 4 (eA2 qe) qH],rL 8 qf l,R.c (C.d (D.sl 1 2 [D.int .i64 taken0,D.int .i64 taken1])),R.c (C.d (D.sl 1 2 [D.int .i64 leaf0,D.int .i64 leaf1]))] []=(z6 (qc.mk qA Jt qy zc zd (qb.mk qs qB qu qx qF) qJ Q9 Qa qH) l [taken0,taken1] [leaf0,leaf1]).bind (fun(e:Bool)=>some (rB e,[])):=by
 intro taken0 taken1 leaf0 leaf1 qA Jt qy zc zd qs qB qu qx qF qJ Q9 Qa qH l;have h:=q0B ((qc.mk qA Jt qy zc zd (qb.mk qs qB qu qx qF) qJ Q9 Qa qH)).School ((qc.mk qA Jt qy zc zd (qb.mk qs qB qu qx qF) qJ Q9 Qa qH)).Id ((qc.mk qA Jt qy zc zd (qb.mk qs qB qu qx qF) qJ Q9 Qa qH)).Version ((qc.mk qA Jt qy zc zd (qb.mk qs qB qu qx qF) qJ Q9 Qa qH)).From ((qc.mk qA Jt qy zc zd (qb.mk qs qB qu qx qF) qJ Q9 Qa qH)).Name ((qc.mk qA Jt qy zc zd (qb.mk qs qB qu qx qF) qJ Q9 Qa qH)).Need.Kind ((qc.mk qA Jt qy zc zd (qb.mk qs qB qu qx qF) qJ Q9 Qa qH)).Need.N ((qc.mk qA Jt qy zc zd (qb.mk qs qB qu qx qF) qJ Q9 Qa qH)).Need.Min ((qc.mk qA Jt qy zc zd (qb.mk qs qB qu qx qF) qJ Q9 Qa qH)).Need.Set ((qc.mk qA Jt qy zc zd (qb.mk qs qB qu qx qF) qJ Q9 Qa qH)).Need.L ((qc.mk qA Jt qy zc zd (qb.mk qs qB qu qx qF) qJ Q9 Qa qH)).Total ((qc.mk qA Jt qy zc zd (qb.mk qs qB qu qx qF) qJ Q9 Qa qH)).Own ((qc.mk qA Jt qy zc zd (qb.mk qs qB qu qx qF) qJ Q9 Qa qH)).Age ((qc.mk qA Jt qy zc zd (qb.mk qs qB qu qx qF) qJ Q9 Qa qH)).Exclude l [taken0,taken1] [leaf0,leaf1]
 first
  | exact h
  | (simp only[rL,dL,bR,bZ,Nat.reduceAdd] at h;exact h)
theorem q66:∀(taken0 leaf0 qA Jt qy zc:Int) (zd:ByteArray) (qs qB qu:Int) (qx:List qd) (qF:List qb) (qJ Q9 Qa:Int) (qH:List (JK qd)) (l:List qa),ev 29 0 [R.agg [dI qA,dI Jt,dI qy,dI zc,dS zd,dI qs,dI qB,dI qu,dL 2 qe qx,dL 5 qh qF,dI qJ,dI Q9,dI Qa,dL 4 (eA2 qe) qH],rL 8 qf l,R.c (C.d (D.sl 1 1 [D.int .i64 taken0])),R.c (C.d (D.sl 1 1 [D.int .i64 leaf0]))] []=(z6 (qc.mk qA Jt qy zc zd (qb.mk qs qB qu qx qF) qJ Q9 Qa qH) l [taken0] [leaf0]).bind (fun(e:Bool)=>some (rB e,[])):=by
 intro taken0 leaf0 qA Jt qy zc zd qs qB qu qx qF qJ Q9 Qa qH l;have h:=q0B ((qc.mk qA Jt qy zc zd (qb.mk qs qB qu qx qF) qJ Q9 Qa qH)).School ((qc.mk qA Jt qy zc zd (qb.mk qs qB qu qx qF) qJ Q9 Qa qH)).Id ((qc.mk qA Jt qy zc zd (qb.mk qs qB qu qx qF) qJ Q9 Qa qH)).Version ((qc.mk qA Jt qy zc zd (qb.mk qs qB qu qx qF) qJ Q9 Qa qH)).From ((qc.mk qA Jt qy zc zd (qb.mk qs qB qu qx qF) qJ Q9 Qa qH)).Name ((qc.mk qA Jt qy zc zd (qb.mk qs qB qu qx qF) qJ Q9 Qa qH)).Need.Kind ((qc.mk qA Jt qy zc zd (qb.mk qs qB qu qx qF) qJ Q9 Qa qH)).Need.N ((qc.mk qA Jt qy zc zd (qb.mk qs qB qu qx qF) qJ Q9 Qa qH)).Need.Min ((qc.mk qA Jt qy zc zd (qb.mk qs qB qu qx qF) qJ Q9 Qa qH)).Need.Set ((qc.mk qA Jt qy zc zd (qb.mk qs qB qu qx qF) qJ Q9 Qa qH)).Need.L ((qc.mk qA Jt qy zc zd (qb.mk qs qB qu qx qF) qJ Q9 Qa qH)).Total ((qc.mk qA Jt qy zc zd (qb.mk qs qB qu qx qF) qJ Q9 Qa qH)).Own ((qc.mk qA Jt qy zc zd (qb.mk qs qB qu qx qF) qJ Q9 Qa qH)).Age ((qc.mk qA Jt qy zc zd (qb.mk qs qB qu qx qF) qJ Q9 Qa qH)).Exclude l [taken0] [leaf0]
 first
  | exact h
  | (simp only[rL,dL,bR,bZ,Nat.reduceAdd] at h;exact h)
theorem q6k:∀  (qA Jt qy zc:Int) (zd:ByteArray) (qs qB qu:Int) (qx:List qd) (qF:List qb) (qJ Q9 Qa:Int) (qH:List (JK qd)) (l:List qa),ev 29 0 [R.agg [dI qA,dI Jt,dI qy,dI zc,dS zd,dI qs,dI qB,dI qu,dL 2 qe qx,dL 5 qh qF,dI qJ,dI Q9,dI Qa,dL 4 (eA2 qe) qH],rL 8 qf l,R.c (C.d (D.sl 1 0 [])),R.c (C.d (D.sl 1 0 []))] []=(z6 (qc.mk qA Jt qy zc zd (qb.mk qs qB qu qx qF) qJ Q9 Qa qH) l [] []).bind (fun(e:Bool)=>some (rB e,[])):=by
 intro qA Jt qy zc zd qs qB qu qx qF qJ Q9 Qa qH l;have h:=q0B ((qc.mk qA Jt qy zc zd (qb.mk qs qB qu qx qF) qJ Q9 Qa qH)).School ((qc.mk qA Jt qy zc zd (qb.mk qs qB qu qx qF) qJ Q9 Qa qH)).Id ((qc.mk qA Jt qy zc zd (qb.mk qs qB qu qx qF) qJ Q9 Qa qH)).Version ((qc.mk qA Jt qy zc zd (qb.mk qs qB qu qx qF) qJ Q9 Qa qH)).From ((qc.mk qA Jt qy zc zd (qb.mk qs qB qu qx qF) qJ Q9 Qa qH)).Name ((qc.mk qA Jt qy zc zd (qb.mk qs qB qu qx qF) qJ Q9 Qa qH)).Need.Kind ((qc.mk qA Jt qy zc zd (qb.mk qs qB qu qx qF) qJ Q9 Qa qH)).Need.N ((qc.mk qA Jt qy zc zd (qb.mk qs qB qu qx qF) qJ Q9 Qa qH)).Need.Min ((qc.mk qA Jt qy zc zd (qb.mk qs qB qu qx qF) qJ Q9 Qa qH)).Need.Set ((qc.mk qA Jt qy zc zd (qb.mk qs qB qu qx qF) qJ Q9 Qa qH)).Need.L ((qc.mk qA Jt qy zc zd (qb.mk qs qB qu qx qF) qJ Q9 Qa qH)).Total ((qc.mk qA Jt qy zc zd (qb.mk qs qB qu qx qF) qJ Q9 Qa qH)).Own ((qc.mk qA Jt qy zc zd (qb.mk qs qB qu qx qF) qJ Q9 Qa qH)).Age ((qc.mk qA Jt qy zc zd (qb.mk qs qB qu qx qF) qJ Q9 Qa qH)).Exclude l [] []
 first
  | exact h
  | (simp only[rL,dL,bR,bZ,Nat.reduceAdd] at h;exact h)
theorem q60:∀(qA Jt qy zc:Int) (zd:ByteArray) (qs qB qu:Int) (qx:List qd) (qF:List qb) (qJ Q9 Qa zh:Int) (zB:ByteArray) (zi:Int) (zC:ByteArray) (taken0 leaf0:Int) (l:List qa),ev 29 0 [R.agg [dI qA,dI Jt,dI qy,dI zc,dS zd,dI qs,dI qB,dI qu,dL 2 qe qx,dL 5 qh qF,dI qJ,dI Q9,dI Qa,C.d (D.sl 4 1 [D.int .i64 zh,D.str zB,D.int .i64 zi,D.str zC])],rL 8 qf l,R.c (C.d (D.sl 1 1 [D.int .i64 taken0])),R.c (C.d (D.sl 1 1 [D.int .i64 leaf0]))] []=(z6 (qc.mk qA Jt qy zc zd (qb.mk qs qB qu qx qF) qJ Q9 Qa [(JK.mk (qd.mk zh zB) (qd.mk zi zC))]) l [taken0] [leaf0]).bind (fun(e:Bool)=>some (rB e,[])):=by
 intro qA Jt qy zc zd qs qB qu qx qF qJ Q9 Qa zh zB zi zC taken0 leaf0 l;have h:=q0B ((qc.mk qA Jt qy zc zd (qb.mk qs qB qu qx qF) qJ Q9 Qa [(JK.mk (qd.mk zh zB) (qd.mk zi zC))])).School ((qc.mk qA Jt qy zc zd (qb.mk qs qB qu qx qF) qJ Q9 Qa [(JK.mk (qd.mk zh zB) (qd.mk zi zC))])).Id ((qc.mk qA Jt qy zc zd (qb.mk qs qB qu qx qF) qJ Q9 Qa [(JK.mk (qd.mk zh zB) (qd.mk zi zC))])).Version ((qc.mk qA Jt qy zc zd (qb.mk qs qB qu qx qF) qJ Q9 Qa [(JK.mk (qd.mk zh zB) (qd.mk zi zC))])).From ((qc.mk qA Jt qy zc zd (qb.mk qs qB qu qx qF) qJ Q9 Qa [(JK.mk (qd.mk zh zB) (qd.mk zi zC))])).Name ((qc.mk qA Jt qy zc zd (qb.mk qs qB qu qx qF) qJ Q9 Qa [(JK.mk (qd.mk zh zB) (qd.mk zi zC))])).Need.Kind ((qc.mk qA Jt qy zc zd (qb.mk qs qB qu qx qF) qJ Q9 Qa [(JK.mk (qd.mk zh zB) (qd.mk zi zC))])).Need.N ((qc.mk qA Jt qy zc zd (qb.mk qs qB qu qx qF) qJ Q9 Qa [(JK.mk (qd.mk zh zB) (qd.mk zi zC))])).Need.Min ((qc.mk qA Jt qy zc zd (qb.mk qs qB qu qx qF) qJ Q9 Qa [(JK.mk (qd.mk zh zB) (qd.mk zi zC))])).Need.Set ((qc.mk qA Jt qy zc zd (qb.mk qs qB qu qx qF) qJ Q9 Qa [(JK.mk (qd.mk zh zB) (qd.mk zi zC))])).Need.L ((qc.mk qA Jt qy zc zd (qb.mk qs qB qu qx qF) qJ Q9 Qa [(JK.mk (qd.mk zh zB) (qd.mk zi zC))])).Total ((qc.mk qA Jt qy zc zd (qb.mk qs qB qu qx qF) qJ Q9 Qa [(JK.mk (qd.mk zh zB) (qd.mk zi zC))])).Own ((qc.mk qA Jt qy zc zd (qb.mk qs qB qu qx qF) qJ Q9 Qa [(JK.mk (qd.mk zh zB) (qd.mk zi zC))])).Age ((qc.mk qA Jt qy zc zd (qb.mk qs qB qu qx qF) qJ Q9 Qa [(JK.mk (qd.mk zh zB) (qd.mk zi zC))])).Exclude l [taken0] [leaf0]
 first
  | exact h
  | (simp only[rL,dL,bR,bZ,Nat.reduceAdd] at h;exact h)
theorem qGt:okL 21 qj3:=qV (qn qBU) (by kernel_rfl) (by kernel_rfl)
def qGI:=JA_ @qj3.eq_1 (JA_ @Tryz.f21.eq_1 @qBU)
theorem qz9:lbO 21 8=qkB:=QO (qn qBU) rfl
theorem qyO:okL 21 qkB:=Q6 qGt (qLe (i:=0) (by kernel_rfl))
def zN (b0:qc) (b1:qg) (b2:qP) (t2:List qa) (t3:Int) (t35:List Int) (t36:Int):(List qa×Int)→Option ((List qa×Int)⊕((List qa)⊕(List qa)))|(w3,t37)=>if t37<t36 then if 0≤t37∧t37<((t35.length:Nat):Int) then Option.bind t35[Int.toNat t37]? fun(a:Int)=>if a<0 then some (Sum.inr (Sum.inl w3)) else if((t2.length:Nat):Int)≤a then some (Sum.inr (Sum.inl w3)) else if 0<t37 then if 0≤w64 (t37-1)∧w64 (t37-1)<((b2.Taken.length:Nat):Int) then Option.bind b2.Taken[Int.toNat (w64 (t37-1))]? fun(a2:Int)=>if a≤a2 then some (Sum.inr (Sum.inl w3)) else if 0≤a∧a<((t2.length:Nat):Int) then Option.bind t2[Int.toNat a]? fun(a3:qa)=>if w3.length+1≤maxLen∧(w3.length+1)*104≤140737488355328 then some (Sum.inl (w3++[a3],w64 (t37+1))) else none else none else none else if 0≤a∧a<((t2.length:Nat):Int) then Option.bind t2[Int.toNat a]? fun(a4:qa)=>if w3.length+1≤maxLen∧(w3.length+1)*104≤140737488355328 then some (Sum.inl (w3++[a4],w64 (t37+1))) else none else none else none else some (Sum.inr (Sum.inr w3))
theorem q6Y:∀(w3:List qa) (qo za ql qv:Int) (qw:ByteArray) (qi qp qj:Int) (qk:List qd) (qr:List qb) (qt qD qE:Int) (qm:List (JK qd)) (qO zp zq:Int) (q1c q2q:List Int) (t2:List qa) (t3:Int) (t35:List Int) (t36 t37:Int) (q23:Nat),q23=w3.length→XL2 evo 21 0 8 ⟨[(2,rL 8 qf t2),(3,rI t3),(5,rP 0),(6,rP 1),(9,rP 2),(12,rO 3 8 q23),(35,rL 1 eI t35),(36,rI t36),(37,rI t37)],[(0,B.blk 39 [dI qo,dI za,dI ql,dI qv,dS qw,dI qi,dI qp,dI qj,dL 2 qe qk,dL 5 qh qr,dI qt,dI qD,dI qE,dL 4 (eA2 qe) qm]),(1,B.blk 28 [dI qO,dI zp,dI zq]),(2,B.blk 48 [dL 1 eI q1c,dL 1 eI q2q]),(3,bR 57 8 qf w3)],4,87⟩=(zG (zN (qc.mk qo za ql qv qw (qb.mk qi qp qj qk qr) qt qD qE qm) (qg.mk qO zp zq) (qP.mk q1c q2q) t2 t3 t35 t36) (w3,t37)).bind (Sum.elim (fun(e:List qa)=>some (Exit.ret,⟨[(3,rI t3),(5,rP 0),(6,rP 1),(9,rP 2),(10,rI 32),(12,rO 3 8 e.length)],[(0,B.blk 39 [dI qo,dI za,dI ql,dI qv,dS qw,dI qi,dI qp,dI qj,dL 2 qe qk,dL 5 qh qr,dI qt,dI qD,dI qE,dL 4 (eA2 qe) qm]),(1,B.blk 28 [dI qO,dI zp,dI zq]),(2,B.blk 48 [dL 1 eI q1c,dL 1 eI q2q]),(3,bR 57 8 qf e)],4,87⟩)) (fun(e:List qa)=>some (Exit.exit 0,⟨[(3,rI t3),(5,rP 0),(6,rP 1),(9,rP 2),(10,R.any),(12,rO 3 8 e.length)],[(0,B.blk 39 [dI qo,dI za,dI ql,dI qv,dS qw,dI qi,dI qp,dI qj,dL 2 qe qk,dL 5 qh qr,dI qt,dI qD,dI qE,dL 4 (eA2 qe) qm]),(1,B.blk 28 [dI qO,dI zp,dI zq]),(2,B.blk 48 [dL 1 eI q1c,dL 1 eI q2q]),(3,bR 57 8 qf e)],4,87⟩))):=
 by
 intro w3 qo za ql qv qw qi qp qj qk qr qt qD qE qm qO zp zq q1c q2q t2 t3 t35 t36 t37 q23 h0
 subst h0
 revert t37;revert w3;exact qcb qz9 qyO (fun e=>by rcases e with _|_<;>exact⟨_,rfl,fun h=>by cases h⟩) fun w3 t37=>by
  have:=qGI;have:=@qkB.eq_1;have:=@zN.eq_1;exact gA
theorem q4U:∀  (qo za ql qv:Int) (qw:ByteArray) (qi qp qj:Int) (qk:List qd) (qr:List qb) (qt qD qE:Int) (qm:List (JK qd)) (qO zp zq:Int) (q1c q2q:List Int) (t2:List qa) (t3:Int) (t35:List Int) (t36 t37:Int),XL2 evo 21 0 8 ⟨[(2,rL 8 qf t2),(3,rI t3),(5,rP 0),(6,rP 1),(9,rP 2),(12,rO 3 8 0),(35,rL 1 eI t35),(36,rI t36),(37,rI t37)],[(0,B.blk 39 [dI qo,dI za,dI ql,dI qv,dS qw,dI qi,dI qp,dI qj,dL 2 qe qk,dL 5 qh qr,dI qt,dI qD,dI qE,dL 4 (eA2 qe) qm]),(1,B.blk 28 [dI qO,dI zp,dI zq]),(2,B.blk 48 [dL 1 eI q1c,dL 1 eI q2q]),(3,B.row 57 8 [])],4,87⟩=(zG (zN (qc.mk qo za ql qv qw (qb.mk qi qp qj qk qr) qt qD qE qm) (qg.mk qO zp zq) (qP.mk q1c q2q) t2 t3 t35 t36) ([],t37)).bind (Sum.elim (fun(e:List qa)=>some (Exit.ret,⟨[(3,rI t3),(5,rP 0),(6,rP 1),(9,rP 2),(10,rI 32),(12,rO 3 8 e.length)],[(0,B.blk 39 [dI qo,dI za,dI ql,dI qv,dS qw,dI qi,dI qp,dI qj,dL 2 qe qk,dL 5 qh qr,dI qt,dI qD,dI qE,dL 4 (eA2 qe) qm]),(1,B.blk 28 [dI qO,dI zp,dI zq]),(2,B.blk 48 [dL 1 eI q1c,dL 1 eI q2q]),(3,bR 57 8 qf e)],4,87⟩)) (fun(e:List qa)=>some (Exit.exit 0,⟨[(3,rI t3),(5,rP 0),(6,rP 1),(9,rP 2),(10,R.any),(12,rO 3 8 e.length)],[(0,B.blk 39 [dI qo,dI za,dI ql,dI qv,dS qw,dI qi,dI qp,dI qj,dL 2 qe qk,dL 5 qh qr,dI qt,dI qD,dI qE,dL 4 (eA2 qe) qm]),(1,B.blk 28 [dI qO,dI zp,dI zq]),(2,B.blk 48 [dL 1 eI q1c,dL 1 eI q2q]),(3,bR 57 8 qf e)],4,87⟩))):=by
 intro qo za ql qv qw qi qp qj qk qr qt qD qE qm qO zp zq q1c q2q t2 t3 t35 t36 t37;have h:=q6Y [] ((qc.mk qo za ql qv qw (qb.mk qi qp qj qk qr) qt qD qE qm)).School ((qc.mk qo za ql qv qw (qb.mk qi qp qj qk qr) qt qD qE qm)).Id ((qc.mk qo za ql qv qw (qb.mk qi qp qj qk qr) qt qD qE qm)).Version ((qc.mk qo za ql qv qw (qb.mk qi qp qj qk qr) qt qD qE qm)).From ((qc.mk qo za ql qv qw (qb.mk qi qp qj qk qr) qt qD qE qm)).Name ((qc.mk qo za ql qv qw (qb.mk qi qp qj qk qr) qt qD qE qm)).Need.Kind ((qc.mk qo za ql qv qw (qb.mk qi qp qj qk qr) qt qD qE qm)).Need.N ((qc.mk qo za ql qv qw (qb.mk qi qp qj qk qr) qt qD qE qm)).Need.Min ((qc.mk qo za ql qv qw (qb.mk qi qp qj qk qr) qt qD qE qm)).Need.Set ((qc.mk qo za ql qv qw (qb.mk qi qp qj qk qr) qt qD qE qm)).Need.L ((qc.mk qo za ql qv qw (qb.mk qi qp qj qk qr) qt qD qE qm)).Total ((qc.mk qo za ql qv qw (qb.mk qi qp qj qk qr) qt qD qE qm)).Own ((qc.mk qo za ql qv qw (qb.mk qi qp qj qk qr) qt qD qE qm)).Age ((qc.mk qo za ql qv qw (qb.mk qi qp qj qk qr) qt qD qE qm)).Exclude ((qg.mk qO zp zq)).Worst ((qg.mk qO zp zq)).Best ((qg.mk qO zp zq)).Pass ((qP.mk q1c q2q)).Taken ((qP.mk q1c q2q)).Leaf t2 t3 t35 t36 t37 _ rfl
 first
  | exact h
  | (simp only[rL,dL,bR,bZ,Nat.reduceAdd] at h;exact h)
theorem qKh:okL 48 qn1:=qV (qn qEI) (by kernel_rfl) (by kernel_rfl)
def qKD:=JA_ @qn1.eq_1 (JA_ @Tryz.f48.eq_1 @qEI)
theorem qIT:okL 84 qmv:=qV (qn qEa) (by kernel_rfl) (by kernel_rfl)
def qK4:=JA_ @qmv.eq_1 (JA_ @Tryz.f84.eq_1 @qEa)
def q3f (k:Int) (v:Int):Option Bool:=if k<(-1) then some Bool.true else some (decide (v≤k))
def JX (k:Int) (v:Int):Bool:=if k<(-1) then Bool.true else decide (v≤k)
theorem q9r (k v:Int):q3f k v=some (JX k v):=by
 unfold q3f JX
 simp only[Zc]
theorem qa8:∀(k v:Int),ev 84 1 [rI k,rP 0] [(0,B.blk 3 [dI v])]=some (rB (JX k v),[(0,B.blk 3 [dI v])]):=
 fun k v=>by
  have h:ev 84 1 [rI k,rP 0] [(0,B.blk 3 [dI v])]=(q3f k v).bind (fun(e:Bool)=>some (rB e,[(0,B.blk 3 [dI v])])):=by
   rw[qQ qEa qH1.2.2.2 qIT]
   have:=qK4;have:=@q3f.eq_1;exact gA
  rw[q9r] at h
  exact h
def Q3 (b0:Int) (s:List Int) (t7:Int):Int→Option (Int⊕(Int⊕Unit))|t8=>if t8<t7 then if 0≤t8∧t8<((s.length:Nat):Int) then Option.bind s[Int.toNat t8]? fun(a:Int)=>if JX a b0=Bool.true then some (Sum.inr (Sum.inl t8)) else some (Sum.inl (w64 (t8+1))) else none else some (Sum.inr (Sum.inr ()))
theorem q1L:∀(b0:Int) (s:List Int) (t7 t8:Int),XL2 evo 131 1 2 ⟨[(0,rL 1 eI s),(1,R.c (C.fn 84 [] [dP 0])),(7,rI t7),(8,rI t8)],[(0,B.blk 3 [dI b0])],1,19⟩=(zG (Q3 b0 s t7) t8).bind (Sum.elim (fun(e:Int)=>some (Exit.ret,⟨[(4,rI e)],[(0,B.blk 3 [dI b0])],1,19⟩)) (fun(e:Unit)=>some (Exit.exit 0,⟨[(4,R.any)],[(0,B.blk 3 [dI b0])],1,19⟩))):=
 fun b0 s t7 t8=>by
  revert t8;exact qbd qhs qhh (fun e=>by rcases e with _|_<;>exact⟨_,rfl,fun h=>by cases h⟩) fun x=>by
   have:=qjl;have:=@qbi.eq_1;have:=@qa8;have:=@Q3.eq_1;exact gA
def Zn (s:List Int) (b0:Int):Option Int:=Option.bind (zG (Q3 b0 s ((s.length:Nat):Int)) 0) fun(a:Sum Int Unit)=>Sum.elim (fun(a2:Int)=>some a2) (fun(a3:Unit)=>some (-1)) a
theorem q2k:∀(s:List Int) (b0:Int),ev 131 1 [rL 1 eI s,R.c (C.fn 84 [] [dP 0])] [(0,B.blk 3 [dI b0])]=(Zn s b0).bind (fun(e:Int)=>some (rI e,[(0,B.blk 3 [dI b0])])):=
 fun s b0=>by
  rw[qQ qjC qq9.2.2.2 qoN]
  have:=qjl;have:=@q1L;have:=@Zn.eq_1;exact gA
def Qr (s:List Int) (b0:Int):Option Bool:=Option.bind (Zn s b0) fun(a:Int)=>some (decide (0≤a))
theorem q1K:∀(s:List Int) (b0:Int),ev 83 1 [rL 1 eI s,R.c (C.fn 84 [] [dP 0])] [(0,B.blk 3 [dI b0])]=(Qr s b0).bind (fun(e:Bool)=>some (rB e,[(0,B.blk 3 [dI b0])])):=
 fun s b0=>by
  rw[qQ qBe qBq.2.2.2 qF5]
  have:=qEl;have:=@q2k;have:=@Qr.eq_1;exact gA
theorem qGT:okL 85 qiH:=qV (qn qBA) (by kernel_rfl) (by kernel_rfl)
def qH4:=JA_ @qiH.eq_1 (JA_ @Tryz.f85.eq_1 @qBA)
theorem qyJ:lbO 85 8=qmn:=QO (qn qBA) rfl
theorem qAU:okL 85 qmn:=Q6 qGT (qLe (i:=0) (by kernel_rfl))
theorem qJQ:okL 88 qkD:=qV (qn qD2) (by kernel_rfl) (by kernel_rfl)
def qJ1:=JA_ @qkD.eq_1 (JA_ @Tryz.f88.eq_1 @qD2)
def q0N (k:Int) (v:List Int) (v2:Int):Option Bool:=if 0≤k∧k<((v.length:Nat):Int) then Option.bind v[Int.toNat k]? fun(a:Int)=>some (a==v2) else none
theorem q8t:∀(k:Int) (v:List Int) (v2:Int),ev 88 2 [rI k,rP 0,rP 1] [(0,B.blk 22 [dL 1 eI v]),(1,B.blk 3 [dI v2])]=(q0N k v v2).bind (fun(e:Bool)=>some (rB e,[(0,B.blk 22 [dL 1 eI v]),(1,B.blk 3 [dI v2])])):=
 fun k v v2=>by
  rw[qQ qD2 qFT.2.2.2 qJQ]
  have:=qJ1;have:=@q0N.eq_1;exact gA
def J5 (b0:List Int) (b1:Int) (n:qb) (s:qg) (b4:qK) (t13:List qa) (t14:Int):(qK×Int)→Option ((qK×Int)⊕qK)|(out,t15)=>if t15<t14 then if 0≤t15∧t15<((t13.length:Nat):Int) then Option.bind t13[Int.toNat t15]? fun(a:qa)=>Option.bind (q0N t15 b0 b1) fun(a2:Bool)=>if a2=Bool.true then if out.fine=Bool.true then Option.bind (q3j n s a) fun(a3:Bool)=>some (Sum.inl (qK.mk (w64 (out.many+1)) (w64 (out.credits+a.Credits)) a3,w64 (t15+1))) else some (Sum.inl (qK.mk (w64 (out.many+1)) (w64 (out.credits+a.Credits)) Bool.false,w64 (t15+1))) else some (Sum.inl (out,w64 (t15+1))) else none else some (Sum.inr out)
theorem q7j:∀(b0:List Int) (b1 qC n_N qY:Int) (qZ:List qd) (n_L:List qb) (zj zU zV b4_many b4_credits:Int) (b4_fine:Bool) (out_many out_credits:Int) (out_fine:Bool) (t13:List qa) (t14 t15:Int),XL2 evo 87 2 3 ⟨[(3,R.c (C.fn 88 [] [dP 0,dP 1])),(4,rP 2),(5,rP 3),(8,rP 4),(9,rP 5),(13,rL 8 qf t13),(14,rI t14),(15,rI t15)],[(0,B.blk 22 [dL 1 eI b0]),(1,B.blk 3 [dI b1]),(2,B.blk 36 [dI qC,dI n_N,dI qY,dL 2 qe qZ,dL 5 qh n_L]),(3,B.blk 28 [dI zj,dI zU,dI zV]),(4,B.blk 138 [dI b4_many,dI b4_credits,dB b4_fine]),(5,B.blk 138 [dI out_many,dI out_credits,dB out_fine])],6,44⟩=(zG (J5 b0 b1 (qb.mk qC n_N qY qZ n_L) (qg.mk zj zU zV) (qK.mk b4_many b4_credits b4_fine) t13 t14) ((qK.mk out_many out_credits out_fine),t15)).bind (fun(e:qK)=>some (Exit.exit 0,⟨[(8,rP 2),(9,rP 3)],[(0,B.blk 22 [dL 1 eI b0]),(1,B.blk 3 [dI b1]),(2,B.blk 138 [dI b4_many,dI b4_credits,dB b4_fine]),(3,B.blk 138 [dI e.many,dI e.credits,dB e.fine])],4,44⟩)):=
 fun b0 b1 qC n_N qY qZ n_L zj zU zV b4_many b4_credits b4_fine out_many out_credits out_fine t13 t14 t15=>by
  have h:=q6p (E:=evo) (f:=87) (k:=2) (st:=fun x:qK×Int=>(⟨[(3,R.c (C.fn 88 [] [dP 0,dP 1])),(4,rP 2),(5,rP 3),(8,rP 4),(9,rP 5),(13,rL 8 qf t13),(14,rI t14),(15,rI x.2)],[(0,B.blk 22 [dL 1 eI b0]),(1,B.blk 3 [dI b1]),(2,B.blk 36 [dI qC,dI n_N,dI qY,dL 2 qe qZ,dL 5 qh n_L]),(3,B.blk 28 [dI zj,dI zU,dI zV]),(4,B.blk 138 [dI b4_many,dI b4_credits,dB b4_fine]),(5,B.blk 138 [dI x.1.many,dI x.1.credits,dB x.1.fine])],6,44⟩:S)) (ex:=fun(e:qK)=>(Exit.exit 0,⟨[(8,rP 2),(9,rP 3)],[(0,B.blk 22 [dL 1 eI b0]),(1,B.blk 3 [dI b1]),(2,B.blk 138 [dI b4_many,dI b4_credits,dB b4_fine]),(3,B.blk 138 [dI e.many,dI e.credits,dB e.fine])],4,44⟩)) (step:=(J5 b0 b1 (qb.mk qC n_N qY qZ n_L) (qg.mk zj zU zV) (qK.mk b4_many b4_credits b4_fine) t13 t14)) qra qrs (fun e h=>by cases h) (fun x=>by
   obtain⟨out,t15⟩:=x;have:=qBr;have:=@qiM.eq_1;have:=@q8t;have:=@q8a;have:=@J5.eq_1;exact gA) ((qK.mk out_many out_credits out_fine),t15)
  exact h
def q1R (n:qb) (s:qg) (l:List qa) (b0:List Int) (b1:Int):Option qK:=Option.bind (zG (J5 b0 b1 n s (qK.mk 0 0 Bool.false) l ((l.length:Nat):Int)) (qK.mk 0 0 Bool.true,0)) fun(a:qK)=>some a
theorem qa2:∀(qC n_N qY:Int) (qZ:List qd) (n_L:List qb) (zj zU zV:Int) (l:List qa) (b0:List Int) (b1:Int),ev 87 2 [R.agg [dI qC,dI n_N,dI qY,dL 2 qe qZ,dL 5 qh n_L],R.agg [dI zj,dI zU,dI zV],rL 8 qf l,R.c (C.fn 88 [] [dP 0,dP 1])] [(0,B.blk 22 [dL 1 eI b0]),(1,B.blk 3 [dI b1])]=(q1R (qb.mk qC n_N qY qZ n_L) (qg.mk zj zU zV) l b0 b1).bind (fun(e:qK)=>some (R.agg [dI e.many,dI e.credits,dB e.fine],[(0,B.blk 22 [dL 1 eI b0]),(1,B.blk 3 [dI b1])])):=
 fun qC n_N qY qZ n_L zj zU zV l b0 b1=>by
  rw[qQ qAI qDp.2.2.2 qFd]
  have:=qBr;have:=@q7j;have:=@q1R.eq_1;exact gA
def ZM (x:(qb×qg×List qa×List Int×Int)):List R×List (Nat×B):=([R.agg [C.d (D.int .i64 x.1.Kind),C.d (D.int .i64 x.1.N),C.d (D.int .i64 x.1.Min),C.d (D.sl 2 x.1.Set.length (x.1.Set.flatMap qe)),C.d (D.sl 5 x.1.L.length (x.1.L.flatMap qh))],R.c (C.ptr 0 0),R.c (C.ptr 1 0),R.c (C.ptr 2 0),R.c (C.ptr 3 0),R.c (C.ptr 4 0)],[(0,B.blk 28 [C.d (D.int .i64 x.2.1.Worst),C.d (D.int .i64 x.2.1.Best),C.d (D.int .i64 x.2.1.Pass)]),(1,B.blk 26 [C.d (D.sl 8 x.2.2.1.length (x.2.2.1.flatMap qf))]),(2,B.blk 22 [C.d (D.sl 1 x.2.2.2.1.length (x.2.2.2.1.flatMap eI))]),(3,B.blk 3 [C.d (D.int .i64 x.2.2.2.2)]),(4,B.blk 135 [C.fn 85 [] [C.ptr 0 0,C.ptr 1 0,C.ptr 2 0,C.ptr 3 0,C.ptr 4 0]])])
def J7:(Bool×Bool×qg×List qa×List Int×Int)→R×List (Nat×B):=fun(e:Bool×Bool×qg×List qa×List Int×Int)=>(R.tup [R.c (C.d (D.bool e.1)),R.c (C.d (D.bool e.2.1))],[(0,B.blk 28 [C.d (D.int .i64 e.2.2.1.Worst),C.d (D.int .i64 e.2.2.1.Best),C.d (D.int .i64 e.2.2.1.Pass)]),(1,B.blk 26 [C.d (D.sl 8 e.2.2.2.1.length (e.2.2.2.1.flatMap qf))]),(2,B.blk 22 [C.d (D.sl 1 e.2.2.2.2.1.length (e.2.2.2.2.1.flatMap eI))]),(3,B.blk 3 [C.d (D.int .i64 e.2.2.2.2.2)]),(4,B.blk 135 [C.fn 85 [] [C.ptr 0 0,C.ptr 1 0,C.ptr 2 0,C.ptr 3 0,C.ptr 4 0]])])
def J6 (rF:(qb×qg×List qa×List Int×Int)→Option (Bool×Bool×qg×List qa×List Int×Int)) (b5:qb) (t35:List qb) (t36:Int):(qg×List qa×List Int×Int×Bool×Int×Bool×Int)→Option ((qg×List qa×List Int×Int×Bool×Int×Bool×Int)⊕(qg×List qa×List Int×Int×Bool×Int×Bool))|(b0,b1,b2,b3,t7,t10,t11,t37)=>if t37<t36 then if 0≤t37∧t37<((t35.length:Nat):Int) then Option.bind t35[Int.toNat t37]? fun(a2:qb)=>Option.bind (rF (a2,(b0,(b1,(b2,b3))))) fun(a3:Prod Bool (Prod Bool (Prod qg (Prod (List qa) (Prod (List Int) Int)))))=>if t7=Bool.true then if t11=Bool.true then if a3.2.1=Bool.true then some (Sum.inl (a3.2.2.1,a3.2.2.2.1,a3.2.2.2.2.1,a3.2.2.2.2.2,a3.1,w64 (t10+1),Bool.true,w64 (t37+1))) else some (Sum.inl (a3.2.2.1,a3.2.2.2.1,a3.2.2.2.2.1,a3.2.2.2.2.2,a3.1,t10,Bool.true,w64 (t37+1))) else if(!a3.2.1)=Bool.true then if(!a3.1)=Bool.true then if a3.2.1=Bool.true then some (Sum.inl (a3.2.2.1,a3.2.2.2.1,a3.2.2.2.2.1,a3.2.2.2.2.2,a3.1,w64 (t10+1),Bool.true,w64 (t37+1))) else some (Sum.inl (a3.2.2.1,a3.2.2.2.1,a3.2.2.2.2.1,a3.2.2.2.2.2,a3.1,t10,Bool.true,w64 (t37+1))) else if a3.2.1=Bool.true then some (Sum.inl (a3.2.2.1,a3.2.2.2.1,a3.2.2.2.2.1,a3.2.2.2.2.2,a3.1,w64 (t10+1),b5.Kind==3,w64 (t37+1))) else some (Sum.inl (a3.2.2.1,a3.2.2.2.1,a3.2.2.2.2.1,a3.2.2.2.2.2,a3.1,t10,b5.Kind==3,w64 (t37+1))) else if a3.2.1=Bool.true then some (Sum.inl (a3.2.2.1,a3.2.2.2.1,a3.2.2.2.2.1,a3.2.2.2.2.2,a3.1,w64 (t10+1),Bool.false,w64 (t37+1))) else some (Sum.inl (a3.2.2.1,a3.2.2.2.1,a3.2.2.2.2.1,a3.2.2.2.2.2,a3.1,t10,Bool.false,w64 (t37+1))) else if t11=Bool.true then if a3.2.1=Bool.true then some (Sum.inl (a3.2.2.1,a3.2.2.2.1,a3.2.2.2.2.1,a3.2.2.2.2.2,Bool.false,w64 (t10+1),Bool.true,w64 (t37+1))) else some (Sum.inl (a3.2.2.1,a3.2.2.2.1,a3.2.2.2.2.1,a3.2.2.2.2.2,Bool.false,t10,Bool.true,w64 (t37+1))) else if(!a3.2.1)=Bool.true then if(!a3.1)=Bool.true then if a3.2.1=Bool.true then some (Sum.inl (a3.2.2.1,a3.2.2.2.1,a3.2.2.2.2.1,a3.2.2.2.2.2,Bool.false,w64 (t10+1),Bool.true,w64 (t37+1))) else some (Sum.inl (a3.2.2.1,a3.2.2.2.1,a3.2.2.2.2.1,a3.2.2.2.2.2,Bool.false,t10,Bool.true,w64 (t37+1))) else if a3.2.1=Bool.true then some (Sum.inl (a3.2.2.1,a3.2.2.2.1,a3.2.2.2.2.1,a3.2.2.2.2.2,Bool.false,w64 (t10+1),b5.Kind==3,w64 (t37+1))) else some (Sum.inl (a3.2.2.1,a3.2.2.2.1,a3.2.2.2.2.1,a3.2.2.2.2.2,Bool.false,t10,b5.Kind==3,w64 (t37+1))) else if a3.2.1=Bool.true then some (Sum.inl (a3.2.2.1,a3.2.2.2.1,a3.2.2.2.2.1,a3.2.2.2.2.2,Bool.false,w64 (t10+1),Bool.false,w64 (t37+1))) else some (Sum.inl (a3.2.2.1,a3.2.2.2.1,a3.2.2.2.2.1,a3.2.2.2.2.2,Bool.false,t10,Bool.false,w64 (t37+1))) else none else some (Sum.inr (b0,b1,b2,b3,t7,t10,t11))
theorem q7D (rE:Orc) (rF:(qb×qg×List qa×List Int×Int)→Option (Bool×Bool×qg×List qa×List Int×Int)) (hF:∀y,rE (.fn 85) 5 (ZM y).1 (ZM y).2=(rF y).bind fun e=>some (J7 e)) (hM:∀g k a G,g≠85→rE (.fn g) k a G=ev g k a G) (hR:∀g asg bd k a G,rE (.rd g asg bd) k a G=evr g asg bd k a G):∀(qaT qej qek:Int) (b1:List qa) (b2:List Int) (b3 q7M qw0 qc6:Int) (qc7:List qd) (qw1:List qb) (t7:Bool) (t10:Int) (t11:Bool) (t35:List qb) (t36 t37:Int),XL2 rE 85 5 8 ⟨[(5,rP 4),(6,rP 5),(7,rB t7),(10,rI t10),(11,rB t11),(35,rL 5 qh t35),(36,rI t36),(37,rI t37)],[(0,B.blk 28 [dI qaT,dI qej,dI qek]),(1,B.blk 26 [dL 8 qf b1]),(2,B.blk 22 [dL 1 eI b2]),(3,B.blk 3 [dI b3]),(4,B.blk 135 [C.fn 85 [] [dP 0,dP 1,dP 2,dP 3,dP 4]]),(5,B.blk 36 [dI q7M,dI qw0,dI qc6,dL 2 qe qc7,dL 5 qh qw1])],6,78⟩=(zG (J6 rF (qb.mk q7M qw0 qc6 qc7 qw1) t35 t36) ((qg.mk qaT qej qek),b1,b2,b3,t7,t10,t11,t37)).bind (fun(e:qg×List qa×List Int×Int×Bool×Int×Bool)=>some (Exit.exit 0,⟨[(6,rP 5),(7,rB e.2.2.2.2.1),(10,rI e.2.2.2.2.2.1),(11,rB e.2.2.2.2.2.2)],[(0,B.blk 28 [dI e.1.Worst,dI e.1.Best,dI e.1.Pass]),(1,B.blk 26 [dL 8 qf e.2.1]),(2,B.blk 22 [dL 1 eI e.2.2.1]),(3,B.blk 3 [dI e.2.2.2.1]),(4,B.blk 135 [C.fn 85 [] [dP 0,dP 1,dP 2,dP 3,dP 4]]),(5,B.blk 36 [dI q7M,dI qw0,dI qc6,dL 2 qe qc7,dL 5 qh qw1])],6,78⟩)):=
 fun qaT qej qek b1 b2 b3 q7M qw0 qc6 qc7 qw1 t7 t10 t11 t35 t36 t37=>by
  have h:=q6p (E:=rE) (f:=85) (k:=5) (st:=fun x:qg×List qa×List Int×Int×Bool×Int×Bool×Int=>(⟨[(5,rP 4),(6,rP 5),(7,rB x.2.2.2.2.1),(10,rI x.2.2.2.2.2.1),(11,rB x.2.2.2.2.2.2.1),(35,rL 5 qh t35),(36,rI t36),(37,rI x.2.2.2.2.2.2.2)],[(0,B.blk 28 [dI x.1.Worst,dI x.1.Best,dI x.1.Pass]),(1,B.blk 26 [dL 8 qf x.2.1]),(2,B.blk 22 [dL 1 eI x.2.2.1]),(3,B.blk 3 [dI x.2.2.2.1]),(4,B.blk 135 [C.fn 85 [] [dP 0,dP 1,dP 2,dP 3,dP 4]]),(5,B.blk 36 [dI q7M,dI qw0,dI qc6,dL 2 qe qc7,dL 5 qh qw1])],6,78⟩:S)) (ex:=fun(e:qg×List qa×List Int×Int×Bool×Int×Bool)=>(Exit.exit 0,⟨[(6,rP 5),(7,rB e.2.2.2.2.1),(10,rI e.2.2.2.2.2.1),(11,rB e.2.2.2.2.2.2)],[(0,B.blk 28 [dI e.1.Worst,dI e.1.Best,dI e.1.Pass]),(1,B.blk 26 [dL 8 qf e.2.1]),(2,B.blk 22 [dL 1 eI e.2.2.1]),(3,B.blk 3 [dI e.2.2.2.1]),(4,B.blk 135 [C.fn 85 [] [dP 0,dP 1,dP 2,dP 3,dP 4]]),(5,B.blk 36 [dI q7M,dI qw0,dI qc6,dL 2 qe qc7,dL 5 qh qw1])],6,78⟩)) (step:=(J6 rF (qb.mk q7M qw0 qc6 qc7 qw1) t35 t36)) qyJ qAU (fun e h=>by cases h) (fun x=>by
   obtain⟨b0,b1,b2,b3,t7,t10,t11,t37⟩:=x;have hF':∀(qI Jk z7:Int) (z8:List qd) (Jl:List qb) (q25 q3X q3Y:Int) (v2:List qa) (v3:List Int) (v4:Int),rE (.fn 85) 5 [R.agg [dI qI,dI Jk,dI z7,dL 2 qe z8,dL 5 qh Jl],rP 0,rP 1,rP 2,rP 3,rP 4] [(0,B.blk 28 [dI q25,dI q3X,dI q3Y]),(1,B.blk 26 [dL 8 qf v2]),(2,B.blk 22 [dL 1 eI v3]),(3,B.blk 3 [dI v4]),(4,B.blk 135 [C.fn 85 [] [dP 0,dP 1,dP 2,dP 3,dP 4]])]=(rF ((qb.mk qI Jk z7 z8 Jl),(qg.mk q25 q3X q3Y),v2,v3,v4)).bind (fun e=>some (R.tup [rB e.1,rB e.2.1],[(0,B.blk 28 [dI e.2.2.1.Worst,dI e.2.2.1.Best,dI e.2.2.1.Pass]),(1,B.blk 26 [dL 8 qf e.2.2.2.1]),(2,B.blk 22 [dL 1 eI e.2.2.2.2.1]),(3,B.blk 3 [dI e.2.2.2.2.2]),(4,B.blk 135 [C.fn 85 [] [dP 0,dP 1,dP 2,dP 3,dP 4]])])):=fun qI Jk z7 z8 Jl q25 q3X q3Y v2 v3 v4=>hF ((qb.mk qI Jk z7 z8 Jl),(qg.mk q25 q3X q3Y),v2,v3,v4)
   have:=qH4;have:=@qmn.eq_1;have:=@J6.eq_1;exact gA) ((qg.mk qaT qej qek),b1,b2,b3,t7,t10,t11,t37)
  exact h
def q0y (rF:(qb×qg×List qa×List Int×Int)→Option (Bool×Bool×qg×List qa×List Int×Int)):(qb×qg×List qa×List Int×Int)→Option (Bool×Bool×qg×List qa×List Int×Int)|(x0,v,v2,v3,v4)=>if JF x0=Bool.true then Option.bind (q1R x0 v v2 v3 v4) fun(a2:qK)=>Option.bind (q0P x0.Kind) fun(a3:Sum Unit Unit)=>Sum.elim (fun(a4:Unit)=>some (a2.many==0,zW a2 x0,v,v2,v3,w64 (v4+1))) (fun(a5:Unit)=>some (a2.many==0,Qq a2 x0,v,v2,v3,w64 (v4+1))) a3 else Option.bind (zG (J6 rF x0 x0.L ((x0.L.length:Nat):Int)) (v,(v2,(v3,(v4,(Bool.true,(0,(Bool.false,0)))))))) fun(a6:Prod qg (Prod (List qa) (Prod (List Int) (Prod Int (Prod Bool (Prod Int Bool))))))=>if(!a6.2.2.2.2.2.2)=Bool.true then some (a6.2.2.2.2.1,decide (x0.N≤a6.2.2.2.2.2.1),a6.1,a6.2.1,a6.2.2.1,a6.2.2.2.1) else some (a6.2.2.2.2.1,Bool.false,a6.1,a6.2.1,a6.2.2.1,a6.2.2.2.1)
theorem q5m:q7W 85 5 ZM J7 q0y:=by
 intro rE rF hF hM hR x
 obtain⟨x0,v,v2,v3,v4⟩:=x
 show qa7 rE 85 5 [R.agg [dI x0.Kind,dI x0.N,dI x0.Min,dL 2 qe x0.Set,dL 5 qh x0.L],rP 0,rP 1,rP 2,rP 3,rP 4] [(0,B.blk 28 [dI v.Worst,dI v.Best,dI v.Pass]),(1,B.blk 26 [dL 8 qf v2]),(2,B.blk 22 [dL 1 eI v3]),(3,B.blk 3 [dI v4]),(4,B.blk 135 [C.fn 85 [] [dP 0,dP 1,dP 2,dP 3,dP 4]])]=_
 have hF':∀(qI Jk z7:Int) (z8:List qd) (Jl:List qb) (q25 q3X q3Y:Int) (v2:List qa) (v3:List Int) (v4:Int),rE (.fn 85) 5 [R.agg [dI qI,dI Jk,dI z7,dL 2 qe z8,dL 5 qh Jl],rP 0,rP 1,rP 2,rP 3,rP 4] [(0,B.blk 28 [dI q25,dI q3X,dI q3Y]),(1,B.blk 26 [dL 8 qf v2]),(2,B.blk 22 [dL 1 eI v3]),(3,B.blk 3 [dI v4]),(4,B.blk 135 [C.fn 85 [] [dP 0,dP 1,dP 2,dP 3,dP 4]])]=(rF ((qb.mk qI Jk z7 z8 Jl),(qg.mk q25 q3X q3Y),v2,v3,v4)).bind (fun e=>some (R.tup [rB e.1,rB e.2.1],[(0,B.blk 28 [dI e.2.2.1.Worst,dI e.2.2.1.Best,dI e.2.2.1.Pass]),(1,B.blk 26 [dL 8 qf e.2.2.2.1]),(2,B.blk 22 [dL 1 eI e.2.2.2.2.1]),(3,B.blk 3 [dI e.2.2.2.2.2]),(4,B.blk 135 [C.fn 85 [] [dP 0,dP 1,dP 2,dP 3,dP 4]])])):=fun qI Jk z7 z8 Jl q25 q3X q3Y v2 v3 v4=>hF ((qb.mk qI Jk z7 z8 Jl),(qg.mk q25 q3X q3Y),v2,v3,v4)
 rw[q4T qBA qGT]
 have:=qH4;have:=@q3g;have:=@qa2;have:=@q40;have:=@q1h;have:=@q2d;have:=q7D rE rF hF hM hR;have:=@q0y.eq_1;have:=@J7.eq_1;exact gA
theorem q30:∀x y,ZM x=ZM y→x=y:=by
 rintro⟨⟨qC1,qC2,qC3,qC4,qC5⟩,⟨qHe,qHf,qKE⟩,a2,a3,a4⟩ ⟨⟨qC6,qC7,qC8,qC9,qCa⟩,⟨qHg,qHh,qKF⟩,b2,b3,b4⟩ h
 simp only[ZM,Prod.mk.injEq,List.cons.injEq,R.c.injEq,R.agg.injEq,R.tup.injEq,C.d.injEq,C.own.injEq,C.ptr.injEq,C.eptr.injEq,D.int.injEq,D.bool.injEq,D.str.injEq,D.sl.injEq,B.blk.injEq,B.row.injEq,q1z,q2Y,q1P,q1Y,q2e,q2c,q4x,q4I,q4p,q1A,true_and,and_true,qLx] at h
 simp only[h]
theorem q7y:∀x y,J7 x=J7 y→x=y:=by
 rintro⟨a0,a1,⟨qKS,qKT,a2_2⟩,a3,a4,a5⟩ ⟨b0,b1,⟨qKU,qKV,b2_2⟩,b3,b4,b5⟩ h
 simp only[J7,Prod.mk.injEq,List.cons.injEq,R.c.injEq,R.agg.injEq,R.tup.injEq,C.d.injEq,C.own.injEq,C.ptr.injEq,C.eptr.injEq,D.int.injEq,D.bool.injEq,D.str.injEq,D.sl.injEq,B.blk.injEq,B.row.injEq,q1z,q2Y,q1P,q1Y,q2e,q2c,q4x,q4I,q4p,q1A,true_and,and_true,qLx] at h
 simp only[h]
def JD:(qb×qg×List qa×List Int×Int)→Option (Bool×Bool×qg×List qa×List Int×Int):=q7N 85 5 ZM J7
theorem qa9 (x:(qb×qg×List qa×List Int×Int)):JD x=q0y JD x:=qcH qDL.2.2.2 q30 q7y q5m x
theorem q9h (x0:qb) (v:qg) (v2:List qa) (v3:List Int) (v4:Int):ev 85 5 [R.agg [dI x0.Kind,dI x0.N,dI x0.Min,dL 2 qe x0.Set,dL 5 qh x0.L],rP 0,rP 1,rP 2,rP 3,rP 4] [(0,B.blk 28 [dI v.Worst,dI v.Best,dI v.Pass]),(1,B.blk 26 [dL 8 qf v2]),(2,B.blk 22 [dL 1 eI v3]),(3,B.blk 3 [dI v4]),(4,B.blk 135 [C.fn 85 [] [dP 0,dP 1,dP 2,dP 3,dP 4]])]=(JD (x0,v,v2,v3,v4)).bind (fun(e:Bool×Bool×qg×List qa×List Int×Int)=>some (R.tup [rB e.1,rB e.2.1],[(0,B.blk 28 [dI e.2.2.1.Worst,dI e.2.2.1.Best,dI e.2.2.1.Pass]),(1,B.blk 26 [dL 8 qf e.2.2.2.1]),(2,B.blk 22 [dL 1 eI e.2.2.2.2.1]),(3,B.blk 3 [dI e.2.2.2.2.2]),(4,B.blk 135 [C.fn 85 [] [dP 0,dP 1,dP 2,dP 3,dP 4]])])):=(q9N qDL.2.2.2 q30 q5m (x0,v,v2,v3,v4))
theorem qa0:∀(qI Jk z7:Int) (z8:List qd) (Jl:List qb) (q25 q3X q3Y:Int) (v2:List qa) (v3:List Int) (v4:Int),ev 85 5 [R.agg [dI qI,dI Jk,dI z7,dL 2 qe z8,dL 5 qh Jl],rP 0,rP 1,rP 2,rP 3,rP 4] [(0,B.blk 28 [dI q25,dI q3X,dI q3Y]),(1,B.blk 26 [dL 8 qf v2]),(2,B.blk 22 [dL 1 eI v3]),(3,B.blk 3 [dI v4]),(4,B.blk 135 [C.fn 85 [] [dP 0,dP 1,dP 2,dP 3,dP 4]])]=(JD ((qb.mk qI Jk z7 z8 Jl),(qg.mk q25 q3X q3Y),v2,v3,v4)).bind (fun(e:Bool×Bool×qg×List qa×List Int×Int)=>some (R.tup [rB e.1,rB e.2.1],[(0,B.blk 28 [dI e.2.2.1.Worst,dI e.2.2.1.Best,dI e.2.2.1.Pass]),(1,B.blk 26 [dL 8 qf e.2.2.2.1]),(2,B.blk 22 [dL 1 eI e.2.2.2.2.1]),(3,B.blk 3 [dI e.2.2.2.2.2]),(4,B.blk 135 [C.fn 85 [] [dP 0,dP 1,dP 2,dP 3,dP 4]])])):=
 fun qI Jk z7 z8 Jl q25 q3X q3Y v2 v3 v4=>q9h (qb.mk qI Jk z7 z8 Jl) (qg.mk q25 q3X q3Y) v2 v3 v4
def q2f (n:qb) (s:qg) (l:List qa) (list:List Int):Option Bool:=Option.bind (q14 n) fun(a:List qb)=>Option.bind (Jj n) fun(a2:Int)=>if(a2 != 0)=Bool.true then some Bool.false else if(((list.length:Nat):Int) != ((l.length:Nat):Int))=Bool.true then some Bool.false else Option.bind (Qr list ((a.length:Nat):Int)) fun(a3:Bool)=>if a3=Bool.true then some Bool.false else Option.bind (JD (n,(s,(l,(list,0))))) fun(a4:Prod Bool (Prod Bool (Prod qg (Prod (List qa) (Prod (List Int) Int)))))=>some a4.2.1
theorem qcq:∀(qC n_N qY:Int) (qZ:List qd) (n_L:List qb) (zj zU zV:Int) (l:List qa) (list:List Int),ev 48 0 [R.agg [dI qC,dI n_N,dI qY,dL 2 qe qZ,dL 5 qh n_L],R.agg [dI zj,dI zU,dI zV],rL 8 qf l,rL 1 eI list] []=(q2f (qb.mk qC n_N qY qZ n_L) (qg.mk zj zU zV) l list).bind (fun(e:Bool)=>some (rB e,[])):=
 fun qC n_N qY qZ n_L zj zU zV l list=>by
  rw[qQ qEI qGD.2.2.2 qKh]
  have:=qKD;have:=@q5g;have:=@q3x;have:=@q1K;have:=@qa0;have:=@q2f.eq_1;exact gA
def qN (x0:qc) (x1:qg) (x2:List qa) (x3:Int) (x4:qP):Option Int:=Option.bind (QD x0 x1) fun(a:Int)=>if(a != 0)=Bool.true then some a else if 10<((x4.Taken.length:Nat):Int) then some 32 else if(((x4.Leaf.length:Nat):Int) != ((x4.Taken.length:Nat):Int))=Bool.true then some 32 else Option.bind (zG (zN x0 x1 x4 x2 x3 x4.Taken ((x4.Taken.length:Nat):Int)) ([],0)) fun(a2:Sum (List qa) (List qa))=>Sum.elim (fun(a3:List qa)=>some 32) (fun(a4:List qa)=>Option.bind (Jn x0 a4 x3) fun(a5:Bool)=>if(!a5)=Bool.true then some 32 else Option.bind (q2f x0.Need x1 a4 x4.Leaf) fun(a6:Bool)=>if(!a6)=Bool.true then some 32 else some 0) a2
theorem q9a:∀(zJ q0r zr QF:Int) (QG:ByteArray) (qM zK qW:Int) (qX:List qd) (zL:List qb) (Qb ZH ZI:Int) (zt:List (JK qd)) (ZF Jx Jy:Int) (x2:List qa) (x3:Int) (qel qhC:List Int),ev 21 0 [R.agg [dI zJ,dI q0r,dI zr,dI QF,dS QG,dI qM,dI zK,dI qW,dL 2 qe qX,dL 5 qh zL,dI Qb,dI ZH,dI ZI,dL 4 (eA2 qe) zt],R.agg [dI ZF,dI Jx,dI Jy],rL 8 qf x2,rI x3,R.agg [dL 1 eI qel,dL 1 eI qhC]] []=(qN (qc.mk zJ q0r zr QF QG (qb.mk qM zK qW qX zL) Qb ZH ZI zt) (qg.mk ZF Jx Jy) x2 x3 (qP.mk qel qhC)).bind (fun(e:Int)=>some (rI e,[])):=
 fun zJ q0r zr QF QG qM zK qW qX zL Qb ZH ZI zt ZF Jx Jy x2 x3 qel qhC=>by
  rw[qQ qBU qGO.2.2.2 qGt]
  have:=qGI;have:=@q4D;have:=@q4U;have:=@q2X;have:=@qcq;have:=@qN.eq_1;exact gA
theorem q6U:∀(q6B q6C q8U q8V zJ q0r zr QF:Int) (QG:ByteArray) (qM zK qW:Int) (qX:List qd) (zL:List qb) (Qb ZH ZI:Int) (zt:List (JK qd)) (ZF Jx Jy:Int) (x2:List qa) (x3:Int),ev 21 0 [R.agg [dI zJ,dI q0r,dI zr,dI QF,dS QG,dI qM,dI zK,dI qW,dL 2 qe qX,dL 5 qh zL,dI Qb,dI ZH,dI ZI,dL 4 (eA2 qe) zt],R.agg [dI ZF,dI Jx,dI Jy],rL 8 qf x2,rI x3,R.agg [C.d (D.sl 1 2 [D.int .i64 q6B,D.int .i64 q6C]),C.d (D.sl 1 2 [D.int .i64 q8U,D.int .i64 q8V])]] []=(qN (qc.mk zJ q0r zr QF QG (qb.mk qM zK qW qX zL) Qb ZH ZI zt) (qg.mk ZF Jx Jy) x2 x3 (qP.mk [q6B,q6C] [q8U,q8V])).bind (fun(e:Int)=>some (rI e,[])):=by
 intro q6B q6C q8U q8V zJ q0r zr QF QG qM zK qW qX zL Qb ZH ZI zt ZF Jx Jy x2 x3;have h:=q9a ((qc.mk zJ q0r zr QF QG (qb.mk qM zK qW qX zL) Qb ZH ZI zt)).School ((qc.mk zJ q0r zr QF QG (qb.mk qM zK qW qX zL) Qb ZH ZI zt)).Id ((qc.mk zJ q0r zr QF QG (qb.mk qM zK qW qX zL) Qb ZH ZI zt)).Version ((qc.mk zJ q0r zr QF QG (qb.mk qM zK qW qX zL) Qb ZH ZI zt)).From ((qc.mk zJ q0r zr QF QG (qb.mk qM zK qW qX zL) Qb ZH ZI zt)).Name ((qc.mk zJ q0r zr QF QG (qb.mk qM zK qW qX zL) Qb ZH ZI zt)).Need.Kind ((qc.mk zJ q0r zr QF QG (qb.mk qM zK qW qX zL) Qb ZH ZI zt)).Need.N ((qc.mk zJ q0r zr QF QG (qb.mk qM zK qW qX zL) Qb ZH ZI zt)).Need.Min ((qc.mk zJ q0r zr QF QG (qb.mk qM zK qW qX zL) Qb ZH ZI zt)).Need.Set ((qc.mk zJ q0r zr QF QG (qb.mk qM zK qW qX zL) Qb ZH ZI zt)).Need.L ((qc.mk zJ q0r zr QF QG (qb.mk qM zK qW qX zL) Qb ZH ZI zt)).Total ((qc.mk zJ q0r zr QF QG (qb.mk qM zK qW qX zL) Qb ZH ZI zt)).Own ((qc.mk zJ q0r zr QF QG (qb.mk qM zK qW qX zL) Qb ZH ZI zt)).Age ((qc.mk zJ q0r zr QF QG (qb.mk qM zK qW qX zL) Qb ZH ZI zt)).Exclude ((qg.mk ZF Jx Jy)).Worst ((qg.mk ZF Jx Jy)).Best ((qg.mk ZF Jx Jy)).Pass x2 x3 ((qP.mk [q6B,q6C] [q8U,q8V])).Taken ((qP.mk [q6B,q6C] [q8U,q8V])).Leaf
 first
  | exact h
  | (simp only[rL,dL,bR,bZ,Nat.reduceAdd] at h;exact h)
theorem qHq:okL 23 qkI:=qV (qn qDU) (by kernel_rfl) (by kernel_rfl)
def qHC:=JA_ @qkI.eq_1 (JA_ @Tryz.f23.eq_1 @qDU)
theorem qKt:okL 50 qki:=qV (qn qF3) (by kernel_rfl) (by kernel_rfl)
def qJY:=JA_ @qki.eq_1 (JA_ @Tryz.f50.eq_1 @qF3)
def JE (a:List Int) (b:List Int):Option Bool:=Option.bind (Z4 a b) fun(e0:Bool)=>some e0
theorem q6t:∀(a b:List Int),ev 50 0 [rL 1 eI a,rL 1 eI b] []=(JE a b).bind (fun(e:Bool)=>some (rB e,[])):=
 fun a b=>by
  rw[qQ qF3 qFY.2.2.2 qKt]
  have:=qJY;have:=@q1i;have:=@JE.eq_1;exact gA
def q17 (a:qP) (b:qP):Option Bool:=Option.bind (JE a.Taken b.Taken) fun(a2:Bool)=>if a2=Bool.true then Option.bind (JE a.Leaf b.Leaf) fun(e0:Bool)=>some e0 else some Bool.false
theorem qad:∀(q0Z q2S q11 q2T:List Int),ev 23 0 [R.agg [dL 1 eI q0Z,dL 1 eI q2S],R.agg [dL 1 eI q11,dL 1 eI q2T]] []=(q17 (qP.mk q0Z q2S) (qP.mk q11 q2T)).bind (fun(e:Bool)=>some (rB e,[])):=
 fun q0Z q2S q11 q2T=>by
  rw[qQ qDU qGL.2.2.2 qHq]
  have:=qHC;have:=@q6t;have:=@q17.eq_1;exact gA
theorem q7C:∀(q8W qc8 q8X qc9:Int) , ev 23 0 [R.agg [C.d (D.sl 1 1 [D.int .i64 q8W]),C.d (D.sl 1 1 [D.int .i64 qc8])],R.agg [C.d (D.sl 1 1 [D.int .i64 q8X]),C.d (D.sl 1 1 [D.int .i64 qc9])]] []=(q17 (qP.mk [q8W] [qc8]) (qP.mk [q8X] [qc9])).bind (fun(e:Bool)=>some (rB e,[])):=by
 intro q8W qc8 q8X qc9;have h:=qad ((qP.mk [q8W] [qc8])).Taken ((qP.mk [q8W] [qc8])).Leaf ((qP.mk [q8X] [qc9])).Taken ((qP.mk [q8X] [qc9])).Leaf
 first
  | exact h
  | (simp only[rL,dL,bR,bZ,Nat.reduceAdd] at h;exact h)
def q1k:Option Bool:=Option.bind (Zp 11) fun(a:Prod qc (List qa))=>Option.bind (Zp 10) fun(a2:Prod qc (List qa))=>Option.bind (Zp 5) fun(a3:Prod qc (List qa))=>Option.bind (Zp 0) fun(a4:Prod qc (List qa))=>Option.bind (Zp 12) fun(a5:Prod qc (List qa))=>Option.bind (z6 a.1 a.2 [(1:Int),2] [(-1),0]) fun(a6:Bool)=>if a6=Bool.true then Option.bind (z6 a2.1 a.2 [(0:Int),1] [(-1),0]) fun(a7:Bool)=>if a7=Bool.true then Option.bind (z6 a3.1 a.2 [(1:Int)] [(0:Int)]) fun(a8:Bool)=>if a8=Bool.true then Option.bind (z6 a4.1 a.2 [(1:Int)] [(0:Int)]) fun(a9:Bool)=>if a9=Bool.true then Option.bind (z6 a5.1 a.2 [] []) fun(a10:Bool)=>if a10=Bool.true then Option.bind (z6 (qc.mk a.1.School a.1.Id a.1.Version a.1.From a.1.Name a.1.Need a.1.Total a.1.Own 3 a.1.Exclude) a.2 [] []) fun(a11:Bool)=>if a11=Bool.true then Option.bind (z6 (qc.mk a.1.School a.1.Id a.1.Version a.1.From a.1.Name a.1.Need 6 a.1.Own a.1.Age [JK.mk (qd.mk 1 (ByteArray.mk (List.toArray [65,49]))) (qd.mk 1 (ByteArray.mk (List.toArray [66,49])))]) a.2 [(2:Int)] [(0:Int)]) fun(a12:Bool)=>Option.bind (qN a.1 (zo 1) a.2 500 (qP.mk [(1:Int),2] [(0:Int),(-1)])) fun(a13:Int)=>if(a13==0)=Bool.true then Option.bind (qN a.1 (zo 1) a.2 500 (qP.mk [(1:Int),2] [(0:Int),0])) fun(a14:Int)=>if(a14==32)=Bool.true then Option.bind (qN a.1 (zo 1) a.2 500 (qP.mk [(0:Int),2] [(-1),0])) fun(a15:Int)=>if a12=Bool.true then if(a15==32)=Bool.true then if 0<((a.2.length:Nat):Int) then Option.bind a.2[0]? fun(a16:qa)=>Option.bind (Zl (qc.mk a.1.School a.1.Id a.1.Version a.1.From a.1.Name a.1.Need a.1.Total a.1.Own 3 a.1.Exclude) a16 500) fun(a17:Bool)=>if a17=Bool.true then if 0<((a.2.length:Nat):Int) then Option.bind a.2[0]? fun(a18:qa)=>Option.bind (Zl a.1 a18 500) fun(a19:Bool)=>if(!a19)=Bool.true then Option.bind (q17 (qP.mk [(1:Int)] [(0:Int)]) (qP.mk [(1:Int)] [(0:Int)])) fun(e0:Bool)=>some e0 else some Bool.false else none else some Bool.false else none else some Bool.false else some Bool.false else some Bool.false else some Bool.false else Option.bind (qN a.1 (zo 1) a.2 500 (qP.mk [(1:Int),2] [(0:Int),(-1)])) fun(a20:Int)=>if(a20==0)=Bool.true then Option.bind (qN a.1 (zo 1) a.2 500 (qP.mk [(1:Int),2] [(0:Int),0])) fun(a21:Int)=>if(a21==32)=Bool.true then Option.bind (qN a.1 (zo 1) a.2 500 (qP.mk [(0:Int),2] [(-1),0])) fun(a22:Int)=>some Bool.false else some Bool.false else some Bool.false else Option.bind (qN a.1 (zo 1) a.2 500 (qP.mk [(1:Int),2] [(0:Int),(-1)])) fun(a23:Int)=>if(a23==0)=Bool.true then Option.bind (qN a.1 (zo 1) a.2 500 (qP.mk [(1:Int),2] [(0:Int),0])) fun(a24:Int)=>if(a24==32)=Bool.true then Option.bind (qN a.1 (zo 1) a.2 500 (qP.mk [(0:Int),2] [(-1),0])) fun(a25:Int)=>some Bool.false else some Bool.false else some Bool.false else Option.bind (qN a.1 (zo 1) a.2 500 (qP.mk [(1:Int),2] [(0:Int),(-1)])) fun(a26:Int)=>if(a26==0)=Bool.true then Option.bind (qN a.1 (zo 1) a.2 500 (qP.mk [(1:Int),2] [(0:Int),0])) fun(a27:Int)=>if(a27==32)=Bool.true then Option.bind (qN a.1 (zo 1) a.2 500 (qP.mk [(0:Int),2] [(-1),0])) fun(a28:Int)=>some Bool.false else some Bool.false else some Bool.false else Option.bind (qN a.1 (zo 1) a.2 500 (qP.mk [(1:Int),2] [(0:Int),(-1)])) fun(a29:Int)=>if(a29==0)=Bool.true then Option.bind (qN a.1 (zo 1) a.2 500 (qP.mk [(1:Int),2] [(0:Int),0])) fun(a30:Int)=>if(a30==32)=Bool.true then Option.bind (qN a.1 (zo 1) a.2 500 (qP.mk [(0:Int),2] [(-1),0])) fun(a31:Int)=>some Bool.false else some Bool.false else some Bool.false else Option.bind (qN a.1 (zo 1) a.2 500 (qP.mk [(1:Int),2] [(0:Int),(-1)])) fun(a32:Int)=>if(a32==0)=Bool.true then Option.bind (qN a.1 (zo 1) a.2 500 (qP.mk [(1:Int),2] [(0:Int),0])) fun(a33:Int)=>if(a33==32)=Bool.true then Option.bind (qN a.1 (zo 1) a.2 500 (qP.mk [(0:Int),2] [(-1),0])) fun(a34:Int)=>some Bool.false else some Bool.false else some Bool.false else Option.bind (qN a.1 (zo 1) a.2 500 (qP.mk [(1:Int),2] [(0:Int),(-1)])) fun(a35:Int)=>if(a35==0)=Bool.true then Option.bind (qN a.1 (zo 1) a.2 500 (qP.mk [(1:Int),2] [(0:Int),0])) fun(a36:Int)=>if(a36==32)=Bool.true then Option.bind (qN a.1 (zo 1) a.2 500 (qP.mk [(0:Int),2] [(-1),0])) fun(a37:Int)=>some Bool.false else some Bool.false else some Bool.false
theorem q9n:ev 10 0 [] []=(q1k).bind (fun(e:Bool)=>some (rB e,[])):=
 by
  rw[qQ qDz qGl.2.2.2 qJK]
  have:=qHP;have:=@q8v;have:=@q19;have:=@q61;have:=@q66;have:=@q5c;have:=@q6k;have:=@q6U;have:=@q60;have:=@q3D;have:=@q7C;have:=@q1k.eq_1;exact gA
end

noncomputable section
open Go.RowKit
section
variable {τ ε:Type} {step:τ→Option (τ⊕ε)}
theorem Q4 {x y:τ} (h:step x=some (.inl y)):zG step x=zG step y:=by
 rw[qdD,h];rfl
theorem zD {x:τ} {e:ε} (h:step x=some (.inr e)):zG step x=some e:=by
 rw[qdD,h];rfl
theorem q1V {e:ε} (st:Nat→τ) (i0 n:Nat) (h0:i0≤n) (h:∀i,i0≤i→i<n→step (st i)=some (.inl (st (i+1)))) (hn:step (st n)=some (.inr e)):zG step (st i0)=some e:=by
 have key:∀j i,j+i=n→i0≤i→zG step (st i)=some e:=by
  intro j
  induction j with
  | zero=>intro i hi _;rw[qLB] at hi;subst hi;exact zD hn
  | succ j ih=>intro i hi h1;rw[Q4 (h i h1 (by omega))];exact ih (i+1) (by omega) (by omega)
 exact key (n-i0) i0 (by omega) (qLt _)
def qdf {α β ε:Type} (g:β→α→β⊕ε) (fin:β→ε):List α→β→ε
 | [],b=>fin b
 | a::l,b=>match g b a with
  | .inl b'=>qdf g fin l b'
  | .inr e=>e
theorem qcT {α β:Type} (l:List α) (st:β→Nat→τ) (g:β→α→β⊕ε) (fin:β→ε)
  (h:∀b i a,l[i]?=some a→step (st b i)=some (match g b a with | .inl b' => .inl (st b' (i+1)) | .inr e => .inr e)) (hn:∀b,step (st b l.length)=some (.inr (fin b))) (b:β):zG step (st b 0)=some (qdf g fin l b):=by
 have key:∀(r:List α) (i:Nat) (b:β),r.length+i=l.length→(∀j,r[j]?=l[i+j]?)→zG step (st b i)=some (qdf g fin r b):=by
  intro r
  induction r with
  | nil=>
   intro i b hi _
   have hi:i=l.length:=by simpa using hi
   subst hi;exact zD (hn b)
  | cons a r ih=>
   intro i b hi hr
   have ha:l[i]?=some a:=by have:=hr 0;simpa using this.symm
   have h1:=h b i a ha
   unfold qdf
   cases hg:g b a with
   | inl b'=>
    rw[hg] at h1
    rw[Q4 h1]
    refine ih (i+1) b' (by simp at hi;omega) fun j=>?_
    have:=hr (j+1)
    rw[show i+1+j=i+(j+1) by omega,←this];rfl
   | inr e=>
    rw[hg] at h1
    exact zD h1
 exact key l 0 b (by simp) (by simp)
theorem qjh {α β:Type} (l:List α) (st:β→Nat→τ) (g:β→α→β) (fin:β→ε)
  (h:∀b i a,l[i]?=some a→step (st b i)=some (.inl (st (g b a) (i+1)))) (hn:∀b,step (st b l.length)=some (.inr (fin b))) (b:β):zG step (st b 0)=some (fin (l.foldl g b)):=by
 rw[qcT l st (fun b a => .inl (g b a)) fin h hn b]
 congr 1
 induction l generalizing b with
 | nil=>rfl
 | cons a l ih=>
  unfold qdf
  simp only[qMi]
  clear h hn
  have:∀(l:List α) (b:β),qdf (ε:=ε) (fun b a => .inl (g b a)) fin l b=fin (l.foldl g b):=by
   intro l
   induction l with
   | nil=>intro b;rfl
   | cons a l ih=>intro b;unfold qdf;simp only[qMi];exact ih _
  exact this l _
theorem qfo {α:Type} (l:List α) (st:Nat→τ) (p:α→Option ε) (d:ε)
  (h:∀i a,l[i]?=some a→step (st i)=some (match p a with|some e => .inr e|none => .inl (st (i+1)))) (hn:step (st l.length)=some (.inr d)):zG step (st 0)=some ((l.findSome? p).getD d):=by
 have h1:=qcT (ε:=ε) (β:=Unit) l (fun _ i=>st i) (fun _ a=>match p a with|some e => .inr e|none => .inl ()) (fun _=>d) (fun b i a ha=>by
  rw[h i a ha];cases p a<;>rfl) (fun _=>hn) ()
 rw[h1]
 congr 1
 have:∀l:List α,qdf (ε:=ε) (fun(_:Unit) a=>match p a with|some e => .inr e|none => .inl ()) (fun _=>d) l ()=(l.findSome? p).getD d:=by
  intro l
  induction l with
  | nil=>rfl
  | cons a l ih=>
   unfold qdf
   rw[List.findSome?_cons]
   cases p a with
   | none=>simpa using ih
   | some e=>rfl
 exact this l
def q5a {α β ε:Type} (g:Nat→β→α→β⊕ε) (fin:β→ε):List α→Nat→β→ε
 | [],_,b=>fin b
 | a::l,i,b=>match g i b a with
  | .inl b'=>q5a g fin l (i+1) b'
  | .inr e=>e
theorem q2p {α β:Type} (l:List α) (st:β→Nat→τ) (g:Nat→β→α→β⊕ε) (fin:β→ε)
  (h:∀b i a,l[i]?=some a→step (st b i)=some (match g i b a with | .inl b' => .inl (st b' (i+1)) | .inr e => .inr e)) (hn:∀b,step (st b l.length)=some (.inr (fin b))) (b:β):zG step (st b 0)=some (q5a g fin l 0 b):=by
 have key:∀(r:List α) (i:Nat) (b:β),r.length+i=l.length→(∀j,r[j]?=l[i+j]?)→zG step (st b i)=some (q5a g fin r i b):=by
  intro r
  induction r with
  | nil=>
   intro i b hi _
   have hi:i=l.length:=by simpa using hi
   subst hi;exact zD (hn b)
  | cons a r ih=>
   intro i b hi hr
   have ha:l[i]?=some a:=by have:=hr 0;simpa using this.symm
   have h1:=h b i a ha
   unfold q5a
   cases hg:g i b a with
   | inl b'=>
    rw[hg] at h1
    rw[Q4 h1]
    refine ih (i+1) b' (by simp at hi;omega) fun j=>?_
    have:=hr (j+1)
    rw[show i+1+j=i+(j+1) by omega,←this];rfl
   | inr e=>
    rw[hg] at h1
    exact zD h1
 exact key l 0 b (by simp) (by simp)
end
theorem JB {α:Type} {l:List α} {i:Nat} {a:α} (h:l[i]?=some a):i<l.length:=(qLh.1 h).1
theorem ZC {n:Int} (h0 : -9223372036854775808≤n) (h1:n≤9223372036854775807):w64 n=n:=wi n h0 h1
theorem Qy {i n:Nat} (h:i<n) (hn:n≤9223372036854775807):w64 ((i:Int)+1)=((i+1:Nat):Int):=by
 rw[ZC (by omega) (by omega)];omega
end
noncomputable section
open Go.RowKit
theorem qib (a:Nat) (h:a<9223372036854775808):IntKind.i64.wrap (a:Int)=a:=wi _ (by omega) (by omega)
theorem qf9 (a:Nat):BitVec.ofInt IntKind.i64.bits (a:Int)=BitVec.ofNat 64 a:=by
 show BitVec.ofInt 64 (a:Int)=_
 simp
theorem qdN (a b:Nat) (ha:a<9223372036854775808) (hb:b<9223372036854775808):ZG .and .i64 (a:Int) (b:Int)=((a &&& b:Nat):Int):=by
 unfold ZG
 simp only[qf9]
 have h1:(BitVec.ofNat 64 a &&& BitVec.ofNat 64 b).toNat=a &&& b:=by
  rw[BitVec.toNat_and,BitVec.toNat_ofNat,BitVec.toNat_ofNat,Nat.mod_eq_of_lt (by omega),Nat.mod_eq_of_lt (by omega)]
 have h2:a &&& b≤a:=Nat.and_le_left
 show IntKind.i64.wrap (((BitVec.ofNat 64 a &&& BitVec.ofNat 64 b).toNat:Nat):Int)=_
 rw[h1]
 exact qib _ (by omega)
theorem qcx (a b:Nat) (ha:a<9223372036854775808) (hb:b<9223372036854775808):ZG .andNot .i64 (a:Int) (b:Int)=((a ^^^ (a &&& b):Nat):Int):=by
 unfold ZG
 simp only[qf9]
 have h1:(BitVec.ofNat 64 a &&& ~~~BitVec.ofNat 64 b).toNat=a ^^^ (a &&& b):=by
  apply Nat.eq_of_testBit_eq
  intro i
  rw[BitVec.testBit_toNat,BitVec.getLsbD_and,BitVec.getLsbD_not,BitVec.getLsbD_ofNat,BitVec.getLsbD_ofNat,Nat.testBit_xor,Nat.testBit_and]
  by_cases hi:i<64
  ·simp only[hi,decide_true,qLK]
   cases a.testBit i<;>cases b.testBit i<;>rfl
  ·have:a.testBit i=false:=Nat.testBit_lt_two_pow (qLN ha (by
    have:=Nat.pow_le_pow_right (n:=2) (by decide) (show 63≤i by omega)
    exact this))
   simp[hi,this]
 have h2:a ^^^ (a &&& b)<2 ^ 63:=Nat.xor_lt_two_pow (by omega) (qLP Nat.and_le_left (by omega))
 show IntKind.i64.wrap (((BitVec.ofNat 64 a &&& ~~~BitVec.ofNat 64 b).toNat:Nat):Int)=_
 rw[h1]
 exact qib _ (by omega)
theorem q8C (a k:Nat) (hk:k≤64):((a:Int)).fdiv (2 ^ min k IntKind.i64.bits)=((a / 2 ^ k:Nat):Int):=by
 have:min k IntKind.i64.bits=k:=Nat.min_eq_left hk
 rw[this]
 show((a:Int)).fdiv (2 ^ k)=_
 rw[show((2:Int) ^ k)=((2 ^ k:Nat):Int) by simp]
 rw[Int.fdiv_eq_ediv_of_nonneg _ (Int.natCast_nonneg _)]
 simp
theorem qfK (a k:Nat) (ha:a<9223372036854775808) (hk:k≤64):(ZG .and .i64 ((a:Int).fdiv (2 ^ min k IntKind.i64.bits)) 1==1)=a.testBit k:=by
 rw[q8C a k hk,show(1:Int)=((1:Nat):Int) from rfl,qdN _ _ (qLP (Nat.div_le_self _ _) ha) (by decide),Nat.and_one_is_mod,Nat.testBit_eq_decide_div_mod_eq]
 have:a / 2 ^ k % 2<2:=Nat.mod_lt _ (by decide)
 by_cases h:a / 2 ^ k % 2=1
 ·simp[h]
 ·have:a / 2 ^ k % 2=0:=by omega
  simp[this]
def Z9 {α:Type} (N:Nat) (g:Nat→α):List α:=(List.range N).map g
theorem zE {α:Type} (N:Nat) (g:Nat→α):(Z9 N g).length=N:=by simp[Z9]
theorem Jf {α:Type} {N:Nat} (g:Nat→α) {i:Nat} (h:i<N):(Z9 N g)[i]?=some (g i):=by
 unfold Z9;rw[qLr,List.getElem?_range h];rfl
theorem q0m {α:Type} {N:Nat} {f g:Nat→α} (h:∀k,k<N→f k=g k):Z9 N f=Z9 N g:=by
 unfold Z9
 refine List.map_congr_left fun k hk=>h k (qMa.1 hk)
theorem q3S {α:Type} (N:Nat) (c:α):List.replicate N c=Z9 N (fun _=>c):=by
 unfold Z9
 induction N with
 | zero=>rfl
 | succ n ih=>rw[List.range_succ,List.map_append,←ih,List.replicate_succ'];rfl
def q9T {α:Type} (g:Nat→α) (i:Nat) (v:α):Nat→α:=fun k=>if k=i then v else g k
theorem Jc {α:Type} (N:Nat) (g:Nat→α) (i:Nat) (v:α):(Z9 N g).set i v=Z9 N (q9T g i v):=by
 refine List.ext_getElem? fun k=>?_
 rw[List.getElem?_set,zE]
 by_cases hk:k<N
 ·rw[Jf _ hk,Jf _ hk]
  unfold q9T
  by_cases h:i=k
  ·subst h;simp[hk]
  ·rw[if_neg h,if_neg (fun h2=>h h2.symm)]
 ·have e1:(Z9 N g)[k]?=none:=qLL (by rw[zE];omega)
  have e2:(Z9 N (q9T g i v))[k]?=none:=qLL (by rw[zE];omega)
  rw[e1,e2]
  split
  ·rw[if_neg (by omega)]
  ·rfl
theorem qbM {α:Type} (g:Nat→α) (i:Nat) (v:α):q9T g i v i=v:=by simp[q9T]
theorem q8b {α:Type} (g:Nat→α) (i:Nat) (v w:α):q9T (q9T g i v) i w=q9T g i w:=by
 funext k;unfold q9T;split<;>rfl
theorem qjr {α:Type} (f:Nat→α) (c:α) {i0 i:Nat} (h:i0≤i):q9T (fun k=>if i0≤k∧k<i then f k else c) i (f i)=fun k=>if i0≤k∧k<i+1 then f k else c:=by
 funext k
 unfold q9T
 by_cases hk:k=i
 ·subst hk;rw[if_pos rfl,if_pos ⟨h,Nat.lt_succ_self _⟩]
 ·rw[if_neg hk]
  show(if i0≤k∧k<i then f k else c)=_
  by_cases h:i0≤k∧k<i
  ·rw[if_pos h,if_pos ⟨h.1,by omega⟩]
  ·rw[if_neg h,if_neg (by omega)]
end
noncomputable section
open Go.RowKit
def ceq (a b:qd):Bool:=(a.School==b.School)&&(a.Code.toList==b.Code.toList)
def qi5 (n a b:Int):Int:=max (min a b) (min n (max a b))
def qbU (s:qg):Bool:=qi5 s.Worst (-1000) 1000==s.Worst&&qi5 s.Best (-1000) 1000==s.Best&&s.Worst != s.Best&&qi5 s.Pass s.Worst s.Best==s.Pass
def qhG (s:qg) (g:Int):Bool:=qbU s&&qi5 g s.Worst s.Best==g
def qmb (s:qg) (g m:Int):Bool:=qhG s g&&(g==m||(decide (m<g)==decide (s.Worst<s.Best)))
theorem q4W (s:qg):q18 s=some (if qbU s then 0 else 10):=by
 have h1:=qfo (ε:=Unit⊕Unit) (step:=ZX [s.Worst,s.Best] s 2) [s.Worst,s.Best] (fun i=>(i:Int)) (fun a=>if qi5 a (-1000) 1000 != a then some (.inl ()) else none) (.inr ()) (fun i a ha=>by
   have hi:i<2:=by obtain⟨h,_⟩:=qLh.1 ha;simpa using h
   have hw:w64 ((i:Int)+1)=((i+1:Nat):Int):=Qy hi (by omega)
   unfold ZX
   rw[if_pos (by omega),if_pos ⟨by omega,by simpa using by omega⟩,qLg,ha,qLd,hw]
   show(if(qi5 a (-1000) 1000 != a)=true then _ else _)=_
   split<;>simp_all) (by
   unfold ZX
   rfl)
 unfold q18
 rw[show((0:Int))=((0:Nat):Int) from rfl,h1,qLd]
 unfold qbU Qv
 simp only[List.findSome?_cons,List.findSome?_nil]
 show _=some (if(qi5 s.Worst (-1000) 1000==s.Worst&&qi5 s.Best (-1000) 1000==s.Best&&s.Worst != s.Best&&qi5 s.Pass s.Worst s.Best==s.Pass)=true then 0 else 10)
 change (Sum.elim _ (fun _=>if(s.Worst==s.Best)=true then some (10:Int) else if(qi5 s.Pass s.Worst s.Best != s.Pass)=true then some 10 else some 0) _)=_
 by_cases e1:qi5 s.Worst (-1000) 1000=s.Worst<;>by_cases e2:qi5 s.Best (-1000) 1000=s.Best<;>by_cases e3:s.Worst=s.Best<;>by_cases e4:qi5 s.Pass s.Worst s.Best=s.Pass<;>simp[e1,e2,e3,e4,bne]
theorem qe1 (s:qg) (g:Int):q1Q s g=some (qhG s g):=by
 unfold q1Q qhG
 rw[q4W,qLd]
 cases h:qbU s<;>simp[Qv,qi5]
theorem qjk (s:qg) (g m:Int):q0S s g m=some (qmb s g m):=by
 unfold q0S qmb
 rw[qe1,qLd]
 cases h:qhG s g
 ·simp
 ·by_cases h2:g=m<;>simp[h2]
theorem qbb (p:qd→Bool):∀(l:List qd) (i:Nat),(decide (0≤(q5a (ε:=Int⊕Unit) (fun i (_:Unit) a=>if p a=true then .inr (.inl (i:Int)) else .inl ()) (fun _ => .inr ()) l i ()).elim id (fun _ => -1)))=l.any p
 | [],i=>rfl
 | a::l,i=>by
  unfold q5a
  by_cases h:p a=true
  ·simp[h]
  ·have h':p a=false:=by simpa using h
   simp only[h',List.any_cons,Bool.false_or]
   exact qbb p l (i+1)
theorem qok (l:List qd) (hl:l.length≤9223372036854775807) (v:qd):∃i:Int,Q1 l v=some i∧(decide (0≤i))=l.any (ceq v):=by
 have h1:=q2p (ε:=Int⊕Unit) (step:=zx v l (l.length:Int)) l (fun(b:Unit) i=>(i:Int)) (fun i b a=>if ceq v a=true then .inr (.inl (i:Int)) else .inl ()) (fun _ => .inr ()) (fun b i a ha=>by
   have hi:=JB ha
   have hw:w64 ((i:Int)+1)=((i+1:Nat):Int):=Qy hi hl
   unfold zx
   rw[if_pos (by omega),if_pos ⟨by omega,by omega⟩,qLg,ha,qLd,hw]
   unfold ceq
   by_cases e1:v.School=a.School<;>by_cases e2:v.Code.toList=a.Code.toList<;>simp[e1,e2]) (fun b=>by
   unfold zx
   rw[if_neg (by omega)]) ()
 refine⟨_,?_,qbb (ceq v) l 0⟩
 unfold Q1
 rw[show((0:Int))=((0:Nat):Int) from rfl,h1,qLd]
 cases(q5a (ε:=Int⊕Unit) (fun i (_:Unit) a=>if ceq v a=true then .inr (.inl (i:Int)) else .inl ()) (fun _ => .inr ()) l 0 ())<;>rfl
theorem qfU (l:List qd) (hl:l.length≤9223372036854775807) (v:qd):zO l v=some (l.any (ceq v)):=by
 obtain⟨i,h1,h2⟩:=qok l hl v
 unfold zO
 rw[h1,qLd,h2]
def q8r (n:qb):Bool:=n.Kind==1||n.Kind==2
theorem qaJ (n:qb):JF n=q8r n:=by
 unfold JF q8r
 cases h:(n.Kind==1)<;>simp
def q8i (n:qb) (s:qg) (a:qa):Bool:=q8r n&&n.Set.any (ceq a.Course)&&qmb s a.Grade n.Min
theorem qm9 (n:qb) (hn:n.Set.length≤9223372036854775807) (s:qg) (a:qa):q3j n s a=some (q8i n s a):=by
 unfold q3j q8i
 rw[qaJ,qfU n.Set hn,qjk]
 cases q8r n<;>cases n.Set.any (ceq a.Course)<;>simp
def wgF (n:qb) (s:qg) (set:Nat):List qa→Nat→qK→qK
 | [],_,x=>x
 | a::l,k,x=>wgF n s set l (k+1) (if set.testBit k=true then⟨w64 (x.many+1),w64 (x.credits+a.Credits),x.fine&&q8i n s a⟩ else x)
def ld0:qK:=⟨0,0,true⟩
theorem qiJ (n:qb) (hn:n.Set.length≤9223372036854775807) (s:qg) (l:List qa) (hl:l.length≤62) (set:Nat) (hs:set<9223372036854775808):q0H n s l (set:Int)=some (wgF n s set l 0 ld0):=by
 have h1:=q2p (ε:=qK) (step:=JN (set:Int) n s (qK.mk (0:Int) (0:Int) Bool.false) l (l.length:Int)) l (fun(b:qK) i=>(b,(i:Int))) (fun i b a => .inl (if set.testBit i=true then⟨w64 (b.many+1),w64 (b.credits+a.Credits),b.fine&&q8i n s a⟩ else b)) (fun b=>b) (fun b i a ha=>by
   have hi:=JB ha
   have hw:w64 ((i:Int)+1)=((i+1:Nat):Int):=Qy hi (by omega)
   have hb:q0Q (i:Int) (set:Int)=some (set.testBit i):=by
    unfold q0Q
    rw[if_pos (by omega),qLg,qfK set i hs (by omega)]
   unfold JN
   simp only
   rw[if_pos (by omega),if_pos ⟨by omega,by omega⟩,qLg,ha,qLd,hw,hb,qLd]
   cases set.testBit i
   ·simp
   ·cases hf:b.fine
    ·simp
    ·simp[qm9 n hn s a]) (fun b=>by
   unfold JN
   simp only
   rw[if_neg (by omega)]) ld0
 unfold q0H
 change Option.bind (zG _ (ld0,((0:Nat):Int))) _=_
 rw[h1,qLd]
 congr 1
 have:∀(l:List qa) (i:Nat) (b:qK),q5a (ε:=qK) (fun i (b:qK) (a:qa) => .inl (if set.testBit i=true then⟨w64 (b.many+1),w64 (b.credits+a.Credits),b.fine&&q8i n s a⟩ else b)) (fun b=>b) l i b=wgF n s set l i b:=by
  intro l
  induction l with
  | nil=>intro i b;rfl
  | cons a l ih=>intro i b;unfold q5a wgF;exact ih _ _
 exact this l 0 ld0
def qca (n:qb) (x:qK):Bool:=if n.Kind=1 then x.fine&&x.many==1 else x.fine&&decide (0<x.many)&&decide (n.N≤x.credits)
end
noncomputable section
open Go.RowKit
def q1a (set sub:Nat):Nat:=set ^^^ (set &&& sub)
theorem Z0 (set sub i:Nat):(q1a set sub).testBit i=(set.testBit i && !sub.testBit i):=by
 unfold q1a
 rw[Nat.testBit_xor,Nat.testBit_and]
 cases set.testBit i<;>cases sub.testBit i<;>rfl
theorem qj5 (set sub:Nat):q1a set sub≤set:=by
 have:q1a set sub &&& set=q1a set sub:=Nat.eq_of_testBit_eq fun i=>by
  rw[Nat.testBit_and,Z0];cases set.testBit i<;>cases sub.testBit i<;>rfl
 rw[←this];exact Nat.and_le_right
def eaV (own:Nat→Bool) (best:Nat→Int) (set sub:Nat) (v:Int):Int:=if own sub=true∧0≤best (q1a set sub) then max v (best (q1a set sub)+1) else v
def eaF (own:Nat→Bool) (best:Nat→Int) (set:Nat):Nat→Nat→Int→Int
 | 0,_,v=>v
 | f+1,sub,v=>if sub=0 then v else eaF own best set f ((sub-1) &&& set) (eaV own best set sub v)
def Bnd (best:Nat→Int) (N:Nat) (M:Int):Prop:=∀k,k<N → -1≤best k∧best k≤M
section
variable {N:Nat} (hN:N≤65536) {own:Nat→Bool} {best:Nat→Int} {M:Int} (hM:M≤1000000) (hb:Bnd best N M)
include hN hM hb
theorem qqJ {set sub:Nat} (hs:set<N) (hsub:sub<N) (g:Nat→Int):q0F (sub:Int) ((q1a set sub:Nat):Int) (Z9 N best) (Z9 N g) (Z9 N own) (set:Int)=some (Z9 N (q9T g set (eaV own best set sub (g set)))):=by
 have hr:=qj5 set sub
 have hbr:=hb (q1a set sub) (by omega)
 unfold q0F
 rw[zE,if_pos ⟨by omega,by omega⟩,qLg,Jf own hsub,qLd]
 unfold eaV
 cases ho:own sub
 ·simp only[Bool.false_eq_true,if_false,false_and]
  rw[←Jc]
  congr 1
  refine List.ext_getElem? fun k=>?_
  rw[List.getElem?_set]
  split
  ·rename_i h;subst h;rw[zE,if_pos hs,Jf _ hs]
  ·rfl
 ·simp only[if_true,true_and]
  rw[zE,if_pos ⟨by omega,by omega⟩,qLg,Jf best (by omega),qLd]
  by_cases h0:0≤best (q1a set sub)
  ·rw[if_pos h0,if_pos h0,zE,if_pos ⟨by omega,by omega⟩,qLg,Jf g hs,qLd,if_pos ⟨by omega,by omega⟩,qLd,if_pos ⟨by omega,by omega⟩,if_pos (by omega),ZC (by omega) (by omega),Jc]
  ·rw[if_neg h0,if_neg h0,←Jc]
   congr 1
   refine List.ext_getElem? fun k=>?_
   rw[List.getElem?_set]
   split
   ·rename_i h;subst h;rw[zE,if_pos hs,Jf _ hs]
   ·rfl
theorem qdi {set:Nat} (hs:set<N):∀(f sub:Nat),sub≤f→sub≤set→∀(g:Nat→Int),zG (Qi (Z9 N best) (Z9 N own) (set:Int) (set:Int)) (Z9 N g,(sub:Int))=some (Z9 N (q9T g set (eaF own best set f sub (g set)))):=by
 have hself:∀g:Nat→Int,q9T g set (g set)=g:=fun g=>by funext k;unfold q9T;split<;>simp_all
 have h0:∀(g:Nat→Int),zG (Qi (Z9 N best) (Z9 N own) (set:Int) (set:Int)) (Z9 N g,((0:Nat):Int))=some (Z9 N g):=fun g=>by
  refine zD ?_
  unfold Qi
  simp
 intro f
 induction f with
 | zero=>
  intro sub hf _ g
  have:sub=0:=by omega
  subst this
  rw[h0]
  unfold eaF
  rw[hself]
 | succ f ih=>
  intro sub hf hle g
  unfold eaF
  by_cases hz:sub=0
  ·subst hz
   rw[h0,if_pos rfl,hself]
  ·have ha:(sub-1) &&& set≤sub-1:=Nat.and_le_left
   have hstep:Qi (Z9 N best) (Z9 N own) (set:Int) (set:Int) (Z9 N g,(sub:Int))=some (.inl (Z9 N (q9T g set (eaV own best set sub (g set))),((((sub-1) &&& set:Nat)):Int))):=by
    unfold Qi
    simp only
    rw[if_pos (by omega),qcx _ _ (by omega) (by omega),ZC (by omega) (by omega),show((sub:Int)-1)=((sub-1:Nat):Int) by omega,qdN _ _ (by omega) (by omega)]
    have:=qqJ hN hM hb (own:=own) hs (sub:=sub) (by omega) g
    unfold q1a at this
    rw[this,qLd]
   rw[Q4 hstep,ih _ (by omega) (by omega),if_neg hz,qbM,q8b]
end
def stF (skip:Bool) (own:Nat→Bool) (best:Nat→Int) (set:Nat):Int:=eaF own best set set set (if skip=true then best set else -1)
theorem qrE {own:Nat→Bool} {best:Nat→Int} {N:Nat} {M:Int} (hb:Bnd best N M) (hM : -1≤M) {set sub:Nat} (hs:set<N) {v:Int} (h : -1≤v∧v≤M+1) : -1≤eaV own best set sub v∧eaV own best set sub v≤M+1:=by
 have:=hb (q1a set sub) (qLP (qj5 set sub) hs)
 unfold eaV
 split<;>omega
theorem qkO {own:Nat→Bool} {best:Nat→Int} {N:Nat} {M:Int} (hb:Bnd best N M) (hM : -1≤M) {set:Nat} (hs:set<N):∀(f sub:Nat) (v:Int),-1≤v∧v≤M+1 → -1≤eaF own best set f sub v∧eaF own best set f sub v≤M+1
 | 0,_,_,h=>h
 | f+1,sub,v,h=>by
  unfold eaF
  split
  ·exact h
  ·exact qkO hb hM hs f _ _ (qrE hb hM hs h)
theorem qmo {skip:Bool} {own:Nat→Bool} {best:Nat→Int} {N:Nat} {M:Int} (hb:Bnd best N M) (hM : -1≤M):Bnd (stF skip own best) N (M+1):=fun k hk=>by
 unfold stF
 have:=hb k hk
 refine qkO hb hM hk _ _ _ ?_
 split<;>omega
end
noncomputable section
open Go.RowKit
def b0F (k:Nat):Int:=if k=0 then 0 else -1
def alG (leaf:Int) (set:Nat):List Int→Nat→Bool
 | [],_=>true
 | x::d,k=>(set.testBit k==(x==leaf))&&alG leaf set d (k+1)
def alF (d:List Int) (leaf set:Nat):Bool:=alG (leaf:Int) set d 0
def foF (d:List Int) (a b:Nat):Bool:=d.any fun x=>decide ((a:Int)≤x)&&decide (x<(b:Int))
def q1C (d:List Int) (s:qg) (l:List qa) (n:qb) (nx set:Nat):Bool:=decide (set≠0)&&(alF d nx set&&qca n (wgF n s set l 0 ld0))
mutual
def lvN:qb→Nat
 | ⟨k,_,_,_,L⟩=>if k=1∨k=2 then 1 else lvL L
def lvL:List qb→Nat
 | []=>0
 | x::L=>lvN x+lvL L
end
mutual
def ndN:qb→List qb
 | ⟨k,n,m,S,L⟩=>⟨k,n,m,S,L⟩::ndL L
def ndL:List qb→List qb
 | []=>[]
 | x::L=>ndN x++ndL L
end
theorem qbV (n:qb):lvN n=if n.Kind=1∨n.Kind=2 then 1 else lvL n.L:=by cases n;rw[lvN]
theorem q0g (n:qb):ndN n=n::ndL n.L:=by cases n;rw[ndN]
mutual
def QH (d:List Int) (s:qg) (l:List qa):qb→Nat→Nat→Bool
 | ⟨k,n,m,S,L⟩,nx,set=>if k=1∨k=2 then q1C d s l ⟨k,n,m,S,L⟩ nx set else decide (set≠0)&&decide ((if k=3 then(L.length:Int) else n)≤qae d s l (k==4) L nx b0F set)
def qae (d:List Int) (s:qg) (l:List qa) (sk:Bool):List qb→Nat→(Nat→Int)→Nat→Int
 | [],_,b,set=>b set
 | x::L,nx,b,set=>qae d s l sk L (nx+lvN x) (stF (sk && !foF d nx (nx+lvN x)) (QH d s l x nx) b) set
end
theorem qbw (d:List Int) (s:qg) (l:List qa) (n:qb) (nx set:Nat):QH d s l n nx set=if n.Kind=1∨n.Kind=2 then q1C d s l n nx set else decide (set≠0)&&decide ((if n.Kind=3 then(n.L.length:Int) else n.N)≤qae d s l (n.Kind==4) n.L nx b0F set):=by cases n;rw[QH]
theorem qjs:∀n:qb,lvN n≤(ndN n).length:=by
 intro n
 induction n using qb.rec (motive_2:=fun L=>lvL L≤(ndL L).length) with
 | mk k n m S L ih=>rw[lvN,ndN,qLo];split<;>omega
 | nil=>simp[lvL]
 | cons x L h1 h2=>rw[lvL,ndL,qLk];omega
theorem qjT (d:List Int) (hd:d.length≤16) (leaf set:Nat) (hs:set<9223372036854775808):q0n (leaf:Int) (set:Int) d=some (alF d leaf set):=by
 have h1:=q2p (ε:=Unit⊕Unit) (step:=Jo d (leaf:Int) (set:Int) (d.length:Int)) d (fun(_:Unit) i=>(i:Int)) (fun i _ x=>if(set.testBit i==(x==(leaf:Int)))=true then .inl () else .inr (.inl ())) (fun _ => .inr ()) (fun _ i x hx=>by
   have hi:=JB hx
   have hw:w64 ((i:Int)+1)=((i+1:Nat):Int):=Qy hi (by omega)
   unfold Jo
   rw[if_pos (by omega),if_pos ⟨by omega,by omega⟩,qLg,hx,qLd,if_pos (by omega),hw,qfK set i hs (by omega)]
   cases(set.testBit i==(x==(leaf:Int)))<;>simp) (fun _=>by
   unfold Jo
   rw[if_neg (by omega)]) ()
 unfold q0n
 change Option.bind (zG _ ((0:Nat):Int)) _=_
 rw[h1,qLd]
 have:∀(d:List Int) (k:Nat),(Sum.elim (fun(_:Unit)=>some false) (fun(_:Unit)=>some true) (q5a (ε:=Unit⊕Unit) (fun i (_:Unit) (x:Int)=>if(set.testBit i==(x==(leaf:Int)))=true then .inl () else .inr (.inl ())) (fun _ => .inr ()) d k ()))=some (alG leaf set d k):=by
  intro d
  induction d with
  | nil=>intro k;rfl
  | cons x d ih=>
   intro k
   unfold q5a alG
   cases h:(set.testBit k==(x==(leaf:Int)))
   ·simp
   ·simp only[if_true,qLK];exact ih (k+1)
 exact this d 0
theorem qkG (d:List Int) (hd:d.length≤16) (a b:Nat):q1p (a:Int) (b:Int) d=some (foF d a b):=by
 have h1:=q2p (ε:=Int⊕Unit) (step:=Q2 (a:Int) (b:Int) d (d.length:Int)) d (fun(_:Unit) i=>(i:Int)) (fun i _ x=>if(decide ((a:Int)≤x)&&decide (x<(b:Int)))=true then .inr (.inl (i:Int)) else .inl ()) (fun _ => .inr ()) (fun _ i x hx=>by
   have hi:=JB hx
   have hw:w64 ((i:Int)+1)=((i+1:Nat):Int):=Qy hi (by omega)
   unfold Q2 JG
   rw[if_pos (by omega),if_pos ⟨by omega,by omega⟩,qLg,hx,qLd,hw]
   by_cases h2:(a:Int)≤x
   ·by_cases h3:x<(b:Int)<;>simp[h2,h3]
   ·simp[h2]) (fun _=>by
   unfold Q2
   rw[if_neg (by omega)]) ()
 unfold q1p QY Zm
 change Option.bind (Option.bind (Option.bind (zG _ ((0:Nat):Int)) _) _) _=_
 rw[h1,qLd]
 have:∀(d:List Int) (k:Nat),((Sum.elim (fun(a2:Int)=>some a2) (fun(_:Unit)=>some (-(1:Int))) (q5a (ε:=Int⊕Unit) (fun i (_:Unit) (x:Int)=>if(decide ((a:Int)≤x)&&decide (x<(b:Int)))=true then .inr (.inl (i:Int)) else .inl ()) (fun _ => .inr ()) d k ())).bind fun a=>some (decide ((0:Int)≤a)))=some (foF d a b):=by
  intro d
  induction d with
  | nil=>intro k;rfl
  | cons x d ih=>
   intro k
   unfold q5a foF
   rw[List.any_cons]
   cases h:(decide ((a:Int)≤x)&&decide (x<(b:Int)))
   ·simp only[Bool.false_eq_true,if_false,Bool.false_or];exact ih (k+1)
   ·simp
 have h2:=this d 0
 rw[qLi] at h2
 obtain⟨i,h3,h4⟩:=h2
 rw[h3,qLd,h4,qLd]
end
noncomputable section
open Go.RowKit
mutual
def hgN:qb→Nat
 | ⟨_,_,_,_,L⟩=>1+hgL L
def hgL:List qb→Nat
 | []=>0
 | x::L=>max (hgN x) (hgL L)
end
mutual
def dpN (d:Int):qb→Int→Int
 | ⟨_,_,_,_,L⟩,m=>dpL (d+1) L (max m d)
def dpL (d:Int):List qb→Int→Int
 | [],m=>m
 | x::L,m=>dpL d L (dpN d x m)
end
theorem qiR (n:qb):hgN n=1+hgL n.L:=by cases n;rw[hgN]
theorem qrv (d:Int) (n:qb) (m:Int):dpN d n m=dpL (d+1) n.L (max m d):=by cases n;rw[dpN]
theorem q6M (k:Nat) (h:k≤100000):k≤maxLen∧k*72≤140737488355328:=⟨by unfold maxLen;omega,by omega⟩
def qqX (y:qb):Prop:=∀(deep:Int) (w:List qb) (b2:Int) (b3:Bool),1≤deep→deep+hgN y≤101→w.length+(ndN y).length≤10000→Je (y,deep,w,b2,b3)=some (.inr (w++ndN y,dpN deep y b2,b3))
theorem qhW (rF:(qb×Int×List qb×Int×Bool)→Option (Int⊕(List qb×Int×Bool))) (deep:Int) (hd:1≤deep) (L:List qb) (hL:L.length≤10000)
  (step:List qb×Int×Bool×Int→Option ((List qb×Int×Bool×Int)⊕(Int⊕(List qb×Int×Bool))))
  (hst:∀w b2 b3 (i:Nat),step (w,b2,b3,(i:Int))=if(i:Int)<(L.length:Int) then if(0:Int)≤i∧(i:Int)<(L.length:Int) then Option.bind L[Int.toNat i]? fun a2=>Option.bind (rF (a2,w64 (deep+1),w,b2,b3)) fun a3=>Sum.elim (fun a4=>some (Sum.inr (Sum.inl a4))) (fun a5=>some (Sum.inl (a5.1,a5.2.1,a5.2.2,w64 ((i:Int)+1)))) a3 else none else some (.inr (.inr (w,b2,b3))))
  (hP:∀y∈L,∀(w:List qb) (b2:Int) (b3:Bool),deep+1+hgN y≤101→w.length+(ndN y).length≤10000→rF (y,deep+1,w,b2,b3)=some (.inr (w++ndN y,dpN (deep+1) y b2,b3))) :
  ∀(r:List qb) (i:Nat) (w:List qb) (b2:Int) (b3:Bool),r.length+i=L.length→(∀j,r[j]?=L[i+j]?)→deep+1+hgL r≤101→w.length+(ndL r).length≤10000→
  zG step (w,b2,b3,(i:Int))=some (.inr (w++ndL r,dpL (deep+1) r b2,b3)):=by
 intro r
 induction r with
 | nil=>
  intro i w b2 b3 hi _ _ _
  have hi:i=L.length:=by simpa using hi
  subst hi
  refine zD ?_
  rw[hst,if_neg (by omega),ndL,dpL,qLy]
 | cons y r ih=>
  intro i w b2 b3 hi hr hh hw
  rw[hgL] at hh
  rw[ndL,qLk] at hw
  simp only[qLo] at hi
  have hget:L[i]?=some y:=by have:=hr 0;simpa using this.symm
  have hlt:=JB hget
  have hcall:=hP y (qLe hget) w b2 b3 (by omega) (by omega)
  have hstep:step (w,b2,b3,(i:Int))=some (.inl (w++ndN y,dpN (deep+1) y b2,b3,((i+1:Nat):Int))):=by
   rw[hst,if_pos (by omega),if_pos ⟨by omega,by omega⟩,qLg,hget,qLd,ZC (by omega) (by omega),hcall,qLd,Qy hlt (by omega)]
   rfl
  rw[Q4 hstep,ih (i+1) _ _ _ (by omega) (fun j=>by rw[show i+1+j=i+(j+1) by omega,←hr (j+1)];rfl) (by omega) (by rw[qLk];omega),ndL,dpL,qLT]
theorem qhq (L:List qb):L.length≤(ndL L).length:=by
 induction L with
 | nil=>simp
 | cons x L ih=>rw[ndL,qLk,qLo,q0g,qLo];omega
theorem qv4:∀(m:Nat) (y:qb),(ndN y).length≤m→qqX y:=by
 intro m
 induction m with
 | zero=>intro y h;rw[q0g] at h;simp at h
 | succ m ih=>
  intro y h deep w b2 b3 hd hh hw
  rw[q0g,qLo] at h hw
  rw[qiR] at hh
  have hsub:∀(L:List qb),(ndL L).length≤m→∀z∈L,qqX z:=by
   intro L
   induction L with
   | nil=>intro _ z hz;simp at hz
   | cons x L ihl=>
    intro g z hz
    rw[ndL,qLk] at g
    rcases qLz.1 hz with rfl|hz
    ·exact ih _ (by omega)
    ·exact ihl (by omega) z hz
  have hP:=hsub y.L (by omega)
  have hl:=qhq y.L
  rw[qai,q0v]
  unfold q1w
  have hne:(((w.length:Nat):Int)==(10000:Int))=false:=by simp;omega
  rw[if_neg (by omega),if_neg (by rw[hne];simp),if_pos ⟨(q6M _ (by omega)).1,(q6M _ (by omega)).2⟩,qLd,Sum.elim_inr]
  have h1:=qhW Je deep hd y.L (by omega) (q0w Je deep y.L (y.L.length:Int)) (fun w b2 b3 i=>by rfl) (fun z hz w b2 b3 g1 g2=>hP z hz (deep+1) w b2 b3 (by omega) g1 g2) y.L 0 (w++[y]) (max b2 deep) b3 (by simp) (by simp) (by omega) (by rw[qLk,qLv];omega)
  rw[show((0:Nat):Int)=0 from rfl] at h1
  dsimp only
  have h2:(⟨y.Kind,y.N,y.Min,y.Set,y.L⟩:qb)=y:=by cases y;rfl
  rw[h2,h1,qLd,Sum.elim_inr,q0g,qrv,qLT]
  rfl
theorem qmN (n:qb) (hh:hgN n≤100) (hn:(ndN n).length≤9999):q2i n=some (ndN n,dpN 1 n 0,true):=by
 rw[qiR] at hh
 rw[q0g,qLo] at hn
 have hl:=qhq n.L
 unfold q2i q2z q54 q2t
 rw[if_neg (by omega),if_pos (by unfold maxLen;omega),qLd,Sum.elim_inr]
 have h1:=qhW Je 1 (by omega) n.L (by omega) (q2s 1 n.L (n.L.length:Int)) (fun w b2 b3 i=>by rfl) (fun z hz w b2 b3 g1 g2=>qv4 _ z (qLt _) (1+1) w b2 b3 (by omega) g1 g2) n.L 0 [n] (max 0 1) false (by simp) (by simp) (by omega) (by simp only[qLv];omega)
 rw[show((0:Nat):Int)=0 from rfl] at h1
 dsimp only
 have h2:(⟨n.Kind,n.N,n.Min,n.Set,n.L⟩:qb)=n:=by cases n;rfl
 rw[h2,h1,qLd,Sum.elim_inr,qLd,Sum.elim_inr,qLd,Sum.elim_inr,q0g,qrv]
 rfl
def q1o (n:qb):Bool:=n.Kind != 3&&n.Kind != 4
theorem qoE (n:qb):q1b n=q1o n:=by
 unfold q1b q1o
 cases h:(n.Kind != 3)<;>simp
theorem qmC (l:List qd) (h:l.length≤1000000):Q0 l=some ():=by
 unfold Q0
 rw[if_pos ⟨by unfold maxLen;omega,by omega⟩]
theorem qlQ:∀(m:Nat) (n:qb),(ndN n).length≤m→(ndN n).length≤100000→(∀y∈ndN n,y.Set.length≤1000000)→Jd n=some n:=by
 intro m
 induction m with
 | zero=>intro n h;rw[q0g] at h;simp at h
 | succ m ih=>
  intro n h1 h2 h3
  have hset:=h3 n (by rw[q0g];exact qLs)
  have hsub:∀(L:List qb),(ndL L).length≤m→(ndL L).length≤100000→(∀y∈ndL L,y.Set.length≤1000000)→∀y∈L,Jd y=some y:=by
   intro L
   induction L with
   | nil=>intro _ _ _ y hy;simp at hy
   | cons x L ihl=>
    intro g1 g2 g3 y hy
    rw[ndL,qLk] at g1 g2
    rw[ndL] at g3
    rcases qLz.1 hy with rfl|hy
    ·exact ih _ (by omega) (by omega) fun z hz=>g3 z (qLp _ hz)
    ·exact ihl (by omega) (by omega) (fun z hz=>g3 z (qLm _ hz)) y hy
  have e0:ndN n=n::ndL n.L:=q0g n
  have hlen:(ndN n).length=(ndL n.L).length+1:=by rw[e0];rfl
  have hP:=hsub n.L (by omega) (by omega) fun y hy=>h3 y (by rw[e0];exact qLl _ hy)
  have hl:=qhq n.L
  have hn:(⟨n.Kind,n.N,n.Min,n.Set,n.L⟩:qb)=n:=by cases n;rfl
  rw[qah,q0z,qmC _ hset,qLd]
  unfold QN
  rw[if_pos ⟨by unfold maxLen;omega,by omega⟩]
  rw[qLd]
  have hL:∀i0:Nat,zG (JA Jd n.Kind n.N n.Min n.Set 0 0 0 (n.L.length:Int)) (n.L,((0:Nat):Int))=some n.L:=fun _=>by
   refine q1V (fun i=>(n.L,(i:Int))) 0 n.L.length (qLD _) (fun i _ hi=>?_) ?_
   ·obtain⟨y,hy⟩:∃y,n.L[i]?=some y:=⟨_,qLf hi⟩
    unfold JA
    simp only
    rw[if_pos (by omega),if_pos ⟨by omega,by omega⟩,qLg,hy,qLd,hP y (qLe hy),qLd,if_pos ⟨by omega,by omega⟩,if_pos (by omega),Qy hi (by omega)]
    have:n.L.set i y=n.L:=by
     obtain⟨h1,h2⟩:=qLh.1 hy
     rw[←h2,List.set_getElem_self]
    rw[this]
   ·unfold JA
    simp only
    rw[if_neg (by omega)]
  have:=hL 0
  rw[show((0:Nat):Int)=0 from rfl] at this
  rw[this,qLd,hn]
theorem qfm (n:qb) (hh:hgN n≤100) (hn:(ndN n).length≤9999) (hs:∀y∈ndN n,y.Set.length≤1000000):q14 n=some ((ndN n).filter q1o):=by
 have hsub:∀(m:Nat) (n y:qb),(ndN n).length≤m→y∈ndN n→(ndN y).length≤(ndN n).length∧∀z∈ndN y,z∈ndN n:=by
  intro m
  induction m with
  | zero=>intro n y h;rw[q0g] at h;simp at h
  | succ m ih=>
   intro n y h hy
   rw[q0g] at hy
   rcases qLz.1 hy with rfl|hy
   ·exact⟨qLt _,fun z hz=>hz⟩
   ·have hL:∀(L:List qb),(ndL L).length≤m→y∈ndL L→(ndN y).length≤(ndL L).length∧∀z∈ndN y,z∈ndL L:=by
     intro L
     induction L with
     | nil=>intro _ h;simp[ndL] at h
     | cons x L ihl=>
      intro g gy
      rw[ndL,qLk] at g
      rw[ndL] at gy ⊢
      rw[qLk]
      rcases qLH.1 gy with gy|gy
      ·obtain⟨a,b⟩:=ih x y (by omega) gy
       exact⟨by omega,fun z hz=>qLp _ (b z hz)⟩
      ·obtain⟨a,b⟩:=ihl (by omega) gy
       exact⟨by omega,fun z hz=>qLm _ (b z hz)⟩
    have e0:=q0g n
    have:(ndN n).length=(ndL n.L).length+1:=by rw[e0];rfl
    obtain⟨a,b⟩:=hL n.L (by omega) hy
    exact⟨by omega,fun z hz=>by rw[e0];exact qLl _ (b z hz)⟩
 have hc:∀y∈ndN n,q1o y=true→Jd y=some y:=fun y hy _=>by
  obtain⟨a,b⟩:=hsub _ n y (qLt _) hy
  exact qlQ _ y (qLt _) (by omega) fun z hz=>hs z (b z hz)
 clear hsub hs
 unfold q14
 rw[qmN n hh hn,qLd]
 simp only
 generalize ndN n=l at hn hc
 have key:∀(r:List qb) (i:Nat) (b:List qb),r.length+i=l.length→(∀j,r[j]?=l[i+j]?)→b.length≤i→zG (ZA l (l.length:Int)) (b,(i:Int))=some (b++r.filter q1o):=by
  intro r
  induction r with
  | nil=>
   intro i b hi _ _
   have hi:i=l.length:=by simpa using hi
   subst hi
   refine zD ?_
   unfold ZA
   simp
  | cons y r ih=>
   intro i b hi hr hb
   simp only[qLo] at hi
   have hget:l[i]?=some y:=by have:=hr 0;simpa using this.symm
   have hlt:=JB hget
   have hstep:ZA l (l.length:Int) (b,(i:Int))=some (.inl (if q1o y=true then b++[y] else b,((i+1:Nat):Int))):=by
    unfold ZA
    simp only
    rw[if_pos (by omega),if_pos ⟨by omega,by omega⟩,qLg,hget,qLd,qoE,Qy hlt (by omega)]
    cases h:q1o y
    ·simp
    ·rw[hc y (qLe hget) h,qLd,if_pos rfl,if_pos ⟨(q6M _ (by omega)).1,(q6M _ (by omega)).2⟩]
     simp
   have hb2:(if q1o y=true then b++[y] else b).length≤i+1:=by
    split
    ·rw[qLk,qLv];omega
    ·omega
   rw[Q4 hstep,ih (i+1) _ (by omega) (fun j=>by rw[show i+1+j=i+(j+1) by omega,←hr (j+1)];rfl) hb2,List.filter_cons]
   cases q1o y<;>simp
 have:=key l 0 [] (by simp) (by simp) (by simp)
 change Option.bind (zG _ ([],((0:Nat):Int))) _=_
 rw[this,qLd,qLx]
end
noncomputable section
open Go.RowKit
def q9V (b:UInt8):Bool:=(48≤b.toNat&&b.toNat≤57)||(65≤b.toNat&&b.toNat≤90)
theorem qqv (s:ByteArray) (i:Nat) (h:(s.get! i).toNat<128):Utf8.decode s i=((s.get! i).toNat,1):=by
 unfold Utf8.decode
 simp only[Nat.add_zero]
 rw[if_pos h]
theorem qvl (s:ByteArray) (i:Nat) (h:¬ (s.get! i).toNat<128):128≤(Utf8.decode s i).1:=by
 unfold Utf8.decode
 simp only[Nat.add_zero]
 rw[if_neg h]
 have hr:128≤Utf8.runeError:=by decide
 split
 ·split
  ·assumption
  ·exact hr
 ·split
  ·split
   ·rename_i h;simp only[ge_iff_le,qLJ,qMd] at h;omega
   ·exact hr
  ·split
   ·split
    ·rename_i h;simp only[ge_iff_le,qLJ,qMd] at h;omega
    ·exact hr
   ·exact hr
theorem qcY (b:UInt8) (h:b.toNat<128):Zg (b.toNat:Int) = !q9V b:=by
 unfold Zg q9V
 by_cases h1:b.toNat<65
 ·rw[if_pos (by omega)]
  by_cases h2:b.toNat<48
  ·rw[if_pos (by omega)]
   have e1:decide (48≤b.toNat)=false:=decide_eq_false (by omega)
   have e2:decide (65≤b.toNat)=false:=decide_eq_false (by omega)
   simp[e1,e2]
  ·rw[if_neg (by omega)]
   have e1:decide (48≤b.toNat)=true:=qMe (by omega)
   have e2:decide (65≤b.toNat)=false:=decide_eq_false (by omega)
   by_cases h3:b.toNat≤57
   ·have e3:decide (b.toNat≤57)=true:=qMe h3
    have e4:decide ((57:Int)<b.toNat)=false:=decide_eq_false (by omega)
    simp[e1,e2,e3,e4]
   ·have e3:decide (b.toNat≤57)=false:=decide_eq_false h3
    have e4:decide ((57:Int)<b.toNat)=true:=qMe (by omega)
    simp[e1,e2,e3,e4]
 ·rw[if_neg (by omega)]
  have e0:decide (b.toNat≤57)=false:=decide_eq_false (by omega)
  have e1:decide (65≤b.toNat)=true:=qMe (by omega)
  by_cases h2:90<b.toNat
  ·rw[if_pos (by omega),if_neg (by omega)]
   have e3:decide (b.toNat≤90)=false:=decide_eq_false (by omega)
   have e4:decide ((57:Int)<b.toNat)=true:=qMe (by omega)
   simp[e0,e1,e3,e4]
  ·rw[if_neg (by omega)]
   have e3:decide (b.toNat≤90)=true:=qMe (by omega)
   simp[e0,e1,e3]
theorem qn8 (n:Nat) (h:128≤n):Zg (n:Int)=true:=by
 unfold Zg
 rw[if_neg (by omega),if_pos (by omega),if_neg (by omega)]
 exact qMe (by omega)
theorem qp8 (s:ByteArray) (i:Nat) (h:i<s.size):s.get! i=s.data.toList.getD i 0:=by
 obtain⟨⟨l⟩⟩:=s
 have h':i<l.length:=h
 show(Array.mk l)[i]! = l.getD i 0
 simp[h',List.getD]
theorem qgT (s:ByteArray):∀(r:List UInt8) (p:Nat),r.length+p=s.size→(∀j,r[j]?=s.data.toList[p+j]?)→∃e,zG (Qo s true) p=some e∧((∃i:Int,e = .inl i∧0≤i∧r.all q9V=false)∨(e = .inr ()∧r.all q9V=true)):=by
 intro r
 induction r with
 | nil=>
  intro p hp _
  have hp:p=s.size:=by simpa using hp
  subst hp
  refine⟨.inr (),zD ?_,.inr ⟨rfl,rfl⟩⟩
  unfold Qo
  rw[if_neg (by omega)]
 | cons b r ih=>
  intro p hp hr
  simp only[qLo] at hp
  have hb:s.data.toList[p]?=some b:=by have:=hr 0;simpa using this.symm
  have hg:s.get! p=b:=by rw[qp8 s p (by omega),List.getD,hb];rfl
  by_cases h:b.toNat<128
  ·have hd:=qqv s p (by rw[hg];exact h)
   rw[hg] at hd
   cases ho:q9V b
   ·refine⟨.inl (p:Int),zD ?_,.inl ⟨_,rfl,by omega,by simp[ho]⟩⟩
    unfold Qo
    rw[if_pos (by omega),hd,qcY b h,ho]
    rfl
   ·obtain⟨e,h1,h2⟩:=ih (p+1) (by omega) (fun j=>by rw[show p+1+j=p+(j+1) by omega,←hr (j+1)];rfl)
    refine⟨e,?_,by rw[List.all_cons,ho,qLK];exact h2⟩
    rw[Q4 (y:=p+1) (by
     unfold Qo
     rw[if_pos (by omega),hd,qcY b h,ho]
     rfl)]
    exact h1
  ·have hbig:=qvl s p (by rw[hg];exact h)
   have hbad:q9V b=false:=by
    unfold q9V
    have e1:decide (b.toNat≤57)=false:=decide_eq_false (by omega)
    have e2:decide (b.toNat≤90)=false:=decide_eq_false (by omega)
    simp[e1,e2]
   refine⟨.inl (p:Int),zD ?_,.inl ⟨_,rfl,by omega,by simp[hbad]⟩⟩
   unfold Qo
   rw[if_pos (by omega),qn8 _ hbig]
   rfl
def qoX (s:ByteArray):Bool:=decide (s.size≠0)&&decide (s.size≤8)&&s.data.toList.all q9V
theorem qjg (s:ByteArray):(s.toList==ByteArray.toList (ByteArray.mk (List.toArray [])))=decide (s.size=0):=by
 rw[ByteArray.toList_eq,ByteArray.toList_eq]
 obtain⟨⟨l⟩⟩:=s
 show(l==[])=decide (l.length=0)
 cases l<;>simp
theorem qrM (s:ByteArray):q1T s=some (qoX s):=by
 unfold q1T qoX
 rw[qjg]
 by_cases h0:s.size=0
 ·simp[h0]
 ·have e0:decide (s.size=0)=false:=decide_eq_false h0
  have e1:decide (s.size≠0)=true:=qMe h0
  rw[e0,e1,if_pos (by rfl)]
  by_cases h8:s.size≤8
  ·have e2:decide (s.size≤8)=true:=qMe h8
   obtain⟨e,h1,h2⟩:=qgT s s.data.toList 0 (by simp) (by simp)
   rw[if_pos (by omega),e2]
   unfold q08 q05
   rw[h1,qLd]
   rcases h2 with ⟨i,rfl,hi,ha⟩|⟨rfl,ha⟩
   ·rw[Sum.elim_inl,qLd,qLd,ha]
    have:decide (i<0)=false:=decide_eq_false (by omega)
    rw[this];rfl
   ·rw[Sum.elim_inr,qLd,qLd,ha]
    rfl
  ·have e2:decide (s.size≤8)=false:=decide_eq_false h8
   rw[if_neg (by omega),e2]
   rfl
def inF (n a b:Int):Bool:=decide (a≤n)&&decide (n≤b)
theorem q2L (n a b:Int):zu n a b=inF n a b:=by
 unfold zu inF
 by_cases h:a≤n<;>simp[h]
def q0M (c:qd):Bool:=inF c.School 1 8&&qoX c.Code
theorem qds (c:qd):q0I c=some (q0M c):=by
 unfold q0I q0M
 rw[q2L,qrM]
 cases inF c.School 1 8<;>simp
def qdF (x y:Int):Int:=if x<y then -1 else if y<x then 1 else 0
def qBT (x y:ByteArray):Int:=if Op.bytesLess x.toList y.toList=true then -1 else if x.toList==y.toList then 0 else 1
def quD (a b:qd):Int:=if a.School≠b.School then qdF a.School b.School else qBT a.Code b.Code
theorem qyt (x y:Int):q0J [x,y]=some (if x≠0 then x else y):=by
 unfold q0J
 by_cases hx:x=0
 ·by_cases hy:y=0
  ·rw[Q4 (y:=1) (by unfold Zq;simp[hx];rfl),Q4 (y:=2) (by unfold Zq;simp[hx,hy];rfl),zD (e := .inr ()) (by unfold Zq;simp)]
   simp[hx,hy]
  ·rw[Q4 (y:=1) (by unfold Zq;simp[hx];rfl),zD (e := .inl y) (by unfold Zq;simp[hx,hy])]
   simp[hx,hy]
 ·rw[zD (e := .inl x) (by unfold Zq;simp[hx])]
  simp[hx]
theorem q9x (a b:qd):q0o a b=some (quD a b):=by
 unfold q0o
 rw[qyt,qLd]
 congr 1
 have e1:Q7 a.School b.School=qdF a.School b.School:=by
  unfold Q7 Qg qdF
  simp
 have e2:Z5 a.Code b.Code=qBT a.Code b.Code:=by
  unfold Z5 qBT
  cases h1:Op.bytesLess a.Code.toList b.Code.toList
  ·cases h2:(a.Code.toList==b.Code.toList)<;>simp
  ·simp
 rw[e1,e2]
 unfold quD
 by_cases h:a.School=b.School
 ·have:qdF a.School b.School=0:=by unfold qdF;rw[if_neg (by omega),if_neg (by omega)]
  simp[h,this]
  intro h2;exact absurd (by unfold qdF;simp) h2
 ·have:qdF a.School b.School≠0:=by unfold qdF;split<;>(try split)<;>omega
  simp[h,this]
def qfC:List qd→Bool
 | x::y::l=>decide (quD x y<0)&&qfC (y::l)
 | _=>true
def q2y (n:qb):Int:=
 if inF n.Min (-1000) 1000=false then 3 else if inF n.Set.length 1 12=false then 2 else if n.Set.all q0M=false then 1 else if qfC n.Set=true then 0 else 7
theorem qcu (l:List qd) (hl:l.length≤1000000):zF l=some (!l.all q0M):=by
 have h1:=q2p (ε:=Int⊕Unit) (step:=zl l (l.length:Int)) l (fun(b:Unit) i=>(i:Int)) (fun i b a=>if(!q0M a)=true then .inr (.inl (i:Int)) else .inl ()) (fun _ => .inr ()) (fun b i a ha=>by
   have hi:=JB ha
   have hw:w64 ((i:Int)+1)=((i+1:Nat):Int):=Qy hi (by omega)
   unfold zl q1x
   rw[if_pos (by omega),if_pos ⟨by omega,by omega⟩,qLg,ha,qLd,hw,qds,qLd,qLd]
   cases q0M a<;>simp) (fun b=>by
   unfold zl
   rw[if_neg (by omega)]) ()
 have h2:=qbb (fun a => !q0M a) l 0
 unfold zF Qe
 rw[show((0:Nat):Int)=0 from rfl] at h1
 rw[h1,qLd]
 have e:l.any (fun a => !q0M a) = !l.all q0M:=by
  clear h1 h2 hl
  induction l with
  | nil=>rfl
  | cons a l ih=>rw[List.any_cons,List.all_cons,ih];cases q0M a<;>simp
 rw[←e,←h2]
 cases(q5a (ε:=Int⊕Unit) (fun i (_:Unit) (a:qd)=>if(!q0M a)=true then .inr (.inl (i:Int)) else .inl ()) (fun _ => .inr ()) l 0 ())<;>rfl
theorem qjF (n:qb) (hl:n.Set.length≤1000000):∀(r:List qd) (i:Nat),r.length+i=n.Set.length→(∀j,r[j]?=n.Set[i+j]?)→zG (Zi n n.Set (n.Set.length:Int)) (i:Int)=some (if(match i,n.Set[i-1]? with|_+1,some x=>qfC (x::r)|_,_=>qfC r)=true then .inr () else .inl ()):=by
 intro r
 induction r with
 | nil=>
  intro i hi _
  have hi:i=n.Set.length:=by simpa using hi
  subst hi
  refine zD ?_
  unfold Zi
  rw[if_neg (by omega)]
  split<;>simp[qfC]
 | cons a r ih=>
  intro i hi hr
  simp only[qLo] at hi
  have hget:n.Set[i]?=some a:=by have:=hr 0;simpa using this.symm
  have hlt:=JB hget
  have hnext:=ih (i+1) (by omega) (fun j=>by rw[show i+1+j=i+(j+1) by omega,←hr (j+1)];rfl)
  simp only[Nat.add_sub_cancel,hget] at hnext
  cases i with
  | zero=>
   rw[Q4 (y:=((0+1:Nat):Int)) (by
    unfold Zi
    rw[if_pos (by omega),if_pos ⟨by omega,by omega⟩,qLg,hget,qLd,if_neg (by omega),Qy hlt (by omega)])]
   exact hnext
  | succ i=>
   obtain⟨x,hx⟩:∃x,n.Set[i]?=some x:=⟨_,qLf (by omega)⟩
   simp only[Nat.add_sub_cancel,hx]
   have hw:w64 (((i+1:Nat):Int)-1)=(i:Int):=by rw[ZC (by omega) (by omega)];omega
   by_cases hc:quD x a<0
   ·rw[Q4 (y:=((i+1+1:Nat):Int)) (by
     unfold Zi
     rw[if_pos (by omega),if_pos ⟨by omega,by omega⟩,qLg,hget,qLd,if_pos (by omega),hw,if_pos ⟨by omega,by omega⟩,qLg,hx,qLd,q9x,qLd,if_neg (by omega),Qy hlt (by omega)]),hnext]
    simp[qfC,hc]
   ·rw[zD (e := .inl ()) (by
     unfold Zi
     rw[if_pos (by omega),if_pos ⟨by omega,by omega⟩,qLg,hget,qLd,if_pos (by omega),hw,if_pos ⟨by omega,by omega⟩,qLg,hx,qLd,q9x,qLd,if_pos (by omega)])]
    simp[qfC,hc]
theorem qd3 (n:qb) (hl:n.Set.length≤1000000):q0p n=some (q2y n):=by
 unfold q0p q2y
 rw[q2L,q2L,qcu _ hl,qLd]
 have h:=qjF n hl n.Set 0 (by simp) (by simp)
 simp only at h
 rw[show((0:Nat):Int)=0 from rfl] at h
 rw[h,qLd]
 cases inF n.Min (-1000) 1000
 ·simp
 ·cases inF n.Set.length 1 12
  ·simp
  ·cases n.Set.all q0M
   ·simp
   ·cases qfC n.Set<;>simp
def q7B (n:qb):Bool:=n.Min==0&&n.Set.isEmpty && !n.L.isEmpty
def q83 (n:qb):Int:=
 if n.Kind=1 then(if n.N≠0∨n.L≠[] then 13 else q2y n)
 else if n.Kind=2 then(if n.L≠[] then 13 else if inF n.N 1 600=false then 3 else q2y n)
 else if n.Kind=3 then(if q7B n=false∨n.N≠0 then 13 else 0)
 else if n.Kind=4 then(if q7B n=false then 13 else if inF n.N 1 n.L.length=false then 3 else 0)
 else 13
theorem qmk (n:qb):Za n=q7B n:=by
 unfold Za q7B
 cases n.Min==0
 ·simp
 ·cases hS:n.Set<;>cases hL:n.L<;>simp
  all_goals omega
theorem qF9 (n:qb) (hl:n.Set.length≤1000000):q1l n=some (if n.N≠0∨n.L≠[] then 13 else q2y n):=by
 unfold q1l
 rw[qd3 n hl,qLd]
 by_cases h:n.N=0
 ·cases hL:n.L with
  | nil=>simp[h]
  | cons x l=>rw[if_neg (by simp[h]),if_pos (by simp),if_pos (.inr (by simp))]
 ·simp[h]
theorem qE0 (n:qb) (hl:n.Set.length≤1000000):q1n n=some (if n.L≠[] then 13 else if inF n.N 1 600=false then 3 else q2y n):=by
 unfold q1n
 rw[qd3 n hl,qLd,q2L]
 cases hL:n.L with
 | nil=>
  cases hI:inF n.N 1 600<;>simp[hI]
 | cons x l=>rw[if_pos (by simp),if_pos (by simp)]
theorem qCF (n:qb):J3 n=if q7B n=false∨n.N≠0 then 13 else 0:=by
 unfold J3
 rw[qmk]
 cases q7B n
 ·simp
 ·by_cases h:n.N=0<;>simp[h]
theorem qCj (n:qb):J2 n=if q7B n=false then 13 else if inF n.N 1 n.L.length=false then 3 else 0:=by
 unfold J2
 rw[qmk,q2L]
 cases q7B n
 ·simp
 ·cases inF n.N 1 n.L.length<;>simp
def qqZ (l:List qb):Option Int:=l.findSome? fun y=>if q83 y≠0 then some (q83 y) else none
theorem qjX (l:List qb) (hl:l.length≤1000000) (hs:∀y∈l,y.Set.length≤1000000):zG (Jp l (l.length:Int)) 0=some (match qqZ l with|some e => .inl e|none => .inr ()):=by
 have h1:=qfo (ε:=Int⊕Unit) (step:=Jp l (l.length:Int)) l (fun i=>(i:Int)) (fun y=>if q83 y≠0 then some (.inl (q83 y)) else none) (.inr ()) (fun i y hy=>by
   have hi:=JB hy
   have hw:w64 ((i:Int)+1)=((i+1:Nat):Int):=Qy hi (by omega)
   have hset:=hs y (qLe hy)
   unfold Jp
   rw[if_pos (by omega),if_pos ⟨by omega,by omega⟩,qLg,hy,qLd,hw,qF9 y hset,qE0 y hset,qCF,qCj,qLd,qLd]
   unfold q83
   by_cases e1:y.Kind=1
   ·simp only[if_pos e1];generalize (if y.N≠0∨y.L≠[] then 13 else q2y y)=v;by_cases h:v=0<;>simp[h]
   ·by_cases e2:y.Kind=2
    ·simp only[if_neg e1,if_pos e2];generalize (if y.L≠[] then 13 else if inF y.N 1 600=false then 3 else q2y y)=v;by_cases h:v=0<;>simp[h]
    ·by_cases e3:y.Kind=3
     ·simp only[if_neg e1,if_neg e2,if_pos e3];generalize (if q7B y=false∨y.N≠0 then(13:Int) else 0)=v;by_cases h:v=0<;>simp[h]
     ·by_cases e4:y.Kind=4
      ·simp only[if_neg e1,if_neg e2,if_neg e3,if_pos e4];generalize (if q7B y=false then(13:Int) else if inF y.N 1 y.L.length=false then 3 else 0)=v;by_cases h:v=0<;>simp[h]
      ·simp[e1,e2,e3,e4]) (by
   unfold Jp
   rw[if_neg (by omega)])
 rw[show((0:Nat):Int)=0 from rfl] at h1
 rw[h1]
 congr 1
 unfold qqZ
 clear h1 hl hs
 induction l with
 | nil=>rfl
 | cons y l ih=>
  rw[List.findSome?_cons,List.findSome?_cons]
  by_cases h:q83 y=0<;>simp only[h,ne_eq,not_true_eq_false,not_false_eq_true,if_true,if_false]
  ·exact ih
  ·rfl
def qcF (n:qb):Int:=
 if 24<(ndN n).length then 2 else if 5<dpN 1 n 0 then 2 else if inF ((ndN n).filter q1o).length 1 8=false then 2 else(qqZ (ndN n)).getD 0
theorem q8g (n:qb) (hh:hgN n≤100) (hn:(ndN n).length≤9999) (hs:∀y∈ndN n,y.Set.length≤1000000):Jj n=some (qcF n):=by
 unfold Jj qcF
 rw[qmN n hh hn,qLd,qfm n hh hn hs]
 simp only[qLd]
 rw[qjX (ndN n) (by omega) hs,q2L,if_neg (by simp)]
 by_cases h1:24<(ndN n).length
 ·rw[if_pos (by omega),if_pos h1]
 ·rw[if_neg (by omega),if_neg h1]
  by_cases h2:5<dpN 1 n 0
  ·rw[if_pos h2,if_pos h2]
  ·rw[if_neg h2,if_neg h2]
   cases inF ((ndN n).filter q1o).length 1 8
   ·simp
   ·simp only[Bool.not_true,Bool.false_eq_true,if_false,qLd]
    cases qqZ (ndN n)<;>rfl
end
noncomputable section
open Go.RowKit
section
variable {N:Nat} {best:Nat→Int} {M:Int}
theorem qlg (rF:(qb×List qa×Int×qg)→Option (List Bool×List qa×Int×qg)) (hN:N≤65536) (hM:M≤1000000) (hb:Bnd best N M) (w9:List Bool) (b0:List qa) (b3:Int) (b4:qg) (b8:qb) (own:Nat→Bool) (skip:Bool) (t72:List qb) (t73 t74:Int) :
  zG (Zh rF w9 (Z9 N best) b0 b3 b4 b8 (Z9 N own) skip t72 t73 t74 ((N:Nat):Int)) (List.replicate N 0,0)=some (Z9 N (stF skip own best)):=by
 have h1:=q1V (step:=Zh rF w9 (Z9 N best) b0 b3 b4 b8 (Z9 N own) skip t72 t73 t74 ((N:Nat):Int)) (fun i=>(Z9 N (fun k=>if k<i then stF skip own best k else 0),(i:Int))) 0 N (qLD _) (e:=Z9 N (stF skip own best)) (fun i _ hi=>by
   have hbi:=hb i hi
   have hw:w64 ((i:Int)+1)=((i+1:Nat):Int):=Qy hi (by omega)
   have hg:∀v:Int,v=(if skip=true then best i else -1)→q9T (q9T (fun k=>if k<i then stF skip own best k else 0) i v) i (eaF own best i i i (q9T (fun k=>if k<i then stF skip own best k else 0) i v i))=fun k=>if k<i+1 then stF skip own best k else 0:=fun v hv=>by
    funext k
    rw[qbM,q8b]
    unfold q9T
    by_cases hk:k=i
    ·subst hk
     rw[if_pos rfl,if_pos (by omega)]
     unfold stF
     rw[←hv]
    ·rw[if_neg hk]
     show(if k<i then stF skip own best k else 0)=_
     by_cases h:k<i
     ·rw[if_pos h,if_pos (by omega)]
     ·rw[if_neg h,if_neg (by omega)]
   unfold Zh
   simp only
   rw[if_pos (by omega),zE,if_pos ⟨by omega,by omega⟩,qLg,if_pos (by omega)]
   cases hs:skip
   ·simp only[Bool.false_eq_true,if_false]
    rw[Jc]
    unfold Qc
    rw[qdi hN hM hb (own:=own) hi i i (qLt _) (qLt _),qLd,qLd,hw,←hs,hg (-1) (by rw[hs];rfl)]
   ·simp only[if_true]
    rw[zE,if_pos ⟨by omega,by omega⟩,Jf best hi,qLd,if_pos ⟨by omega,by omega⟩,if_pos (by omega),Jc,Jc,q8b]
    unfold Qc
    rw[qdi hN hM hb (own:=own) hi i i (qLt _) (qLt _),qLd,qLd,hw,←hs,hg (best i) (by rw[hs];rfl)]) (by
   unfold Zh
   simp only
   rw[if_neg (by omega)]
   congr 2
   exact q0m fun k hk=>if_pos hk)
 rw[q3S]
 have e:(fun k:Nat=>if k<0 then stF skip own best k else 0)=fun _=>0:=by funext k;rw[if_neg (by omega)]
 rw[e] at h1
 exact h1
theorem qtk (rF:(qb×List qa×Int×qg)→Option (List Bool×List qa×Int×qg)) (hN:N≤65536) (hN1:1≤N) (w9:List Bool) (b0:List qa) (b3:Int) (b4:qg) (b8:qb) :
  zG (Zf rF w9 b0 b3 b4 b8) (List.replicate N 0,1)=some (Z9 N b0F):=by
 have h1:=q1V (step:=Zf rF w9 b0 b3 b4 b8) (fun i=>(Z9 N (fun k=>if 1≤k∧k<i then -1 else 0),(i:Int))) 1 N hN1 (e:=Z9 N b0F) (fun i h1 hi=>by
   have hw:w64 ((i:Int)+1)=((i+1:Nat):Int):=Qy hi (by omega)
   unfold Zf
   simp only
   rw[zE,if_pos (by omega),if_pos ⟨by omega,by omega⟩,qLg,if_pos (by omega),hw,Jc]
   rw[qjr (fun _=>(-1:Int)) 0 h1]) (by
   unfold Zf
   simp only
   rw[zE,if_neg (by omega)]
   congr 2
   refine q0m fun k hk=>?_
   unfold b0F
   by_cases h:k=0
   ·rw[if_pos h,if_neg (by omega)]
   ·rw[if_neg h,if_pos (by omega)])
 rw[q3S]
 have e:(fun k:Nat=>if 1≤k∧k<1 then(-1:Int) else 0)=fun _=>0:=by funext k;rw[if_neg (by omega)]
 rw[e] at h1
 exact h1
theorem qns (rF:(qb×List qa×Int×qg)→Option (List Bool×List qa×Int×qg)) (hN:N≤65536) (hN1:1≤N) (b0:List qa) (b3:Int) (b4:qg) (least:Int) :
  zG (Zj rF (Z9 N best) b0 b3 b4 least) (List.replicate N false,1)=some (Z9 N (fun k=>decide (k≠0)&&decide (least≤best k))):=by
 have h1:=q1V (step:=Zj rF (Z9 N best) b0 b3 b4 least) (fun i=>(Z9 N (fun k=>if 1≤k∧k<i then decide (least≤best k) else false),(i:Int))) 1 N hN1 (e:=Z9 N (fun k=>decide (k≠0)&&decide (least≤best k))) (fun i h1 hi=>by
   have hw:w64 ((i:Int)+1)=((i+1:Nat):Int):=Qy hi (by omega)
   unfold Zj
   simp only
   rw[zE,zE,if_pos (by omega),if_pos ⟨by omega,by omega⟩,qLg,Jf best hi,qLd,if_pos ⟨by omega,by omega⟩,if_pos (by omega),hw,Jc]
   rw[qjr (fun k=>decide (least≤best k)) false h1]) (by
   unfold Zj
   simp only
   rw[zE,if_neg (by omega)]
   congr 2
   refine q0m fun k hk=>?_
   by_cases h:k=0
   ·subst h;simp
   ·rw[if_pos ⟨by omega,hk⟩];simp[h])
 rw[q3S]
 have e:(fun k:Nat=>if 1≤k∧k<1 then decide (least≤best k) else false)=fun _=>false:=by funext k;rw[if_neg (by omega)]
 rw[e] at h1
 exact h1
theorem qiI (rF:(qb×List qa×Int×qg)→Option (List Bool×List qa×Int×qg)) (d:List Int) (hd:d=[]) (s:qg) (l:List qa) (hl:l.length≤16) (n:qb) (hn:n.Set.length≤1000000) (nx:Nat) (hnx:nx≤1000000) (step:List Bool×Int→Option ((List Bool×Int)⊕List Bool))
  (hst:step=(if n.Kind=1 then ZW rF l (nx:Int) s n else ZV rF l (nx:Int) s n)) (hN:N≤65536) (hN1:1≤N) :
  zG step (List.replicate N false,1)=some (Z9 N (q1C d s l n nx)):=by
 have h1:=q1V (step:=step) (fun i=>(Z9 N (fun k=>if 1≤k∧k<i then q1C d s l n nx k else false),(i:Int))) 1 N hN1 (e:=Z9 N (q1C d s l n nx)) (fun i h1 hi=>by
   have hw:w64 ((i:Int)+1)=((i+1:Nat):Int):=Qy hi (by omega)
   have hc:Z9 N (q9T (fun k=>if 1≤k∧k<i then q1C d s l n nx k else false) i (q1C d s l n nx i))=Z9 N (fun k=>if 1≤k∧k<i+1 then q1C d s l n nx k else false):=by
    rw[qjr (q1C d s l n nx) false h1]
   have hz:decide (i≠0)=true:=qMe (by omega)
   have hwg:=qiJ n (by omega) s l (by omega) i (by omega)
   have hal:alF d nx i=true:=by rw[hd];rfl
   have hv:q1C d s l n nx i=(alF d nx i&&qca n (wgF n s i l 0 ld0)):=by unfold q1C;rw[hz];simp
   have m1:n.Kind=1→zW (wgF n s i l 0 ld0) n=qca n (wgF n s i l 0 ld0):=fun hk=>by
    unfold zW qca
    rw[if_pos hk]
    cases(wgF n s i l 0 ld0).fine<;>simp
   have m2:n.Kind≠1→Qq (wgF n s i l 0 ld0) n=qca n (wgF n s i l 0 ld0):=fun hk=>by
    unfold Qq qca
    rw[if_neg hk]
    cases(wgF n s i l 0 ld0).fine
    ·simp
    ·by_cases h:0<(wgF n s i l 0 ld0).many<;>simp[h]
   rw[hst]
   by_cases hk:n.Kind=1
   ·rw[if_pos hk]
    unfold ZW
    simp only
    rw[zE,if_pos (by omega),hwg,qLd]
    rw[if_pos ⟨by omega,by omega⟩,qLg,if_pos (by omega),hw,m1 hk,Jc,←hc,hv,hal,qLK]
   ·rw[if_neg hk]
    unfold ZV
    simp only
    rw[zE,if_pos (by omega),hwg,qLd]
    rw[if_pos ⟨by omega,by omega⟩,qLg,if_pos (by omega),hw,m2 hk,Jc,←hc,hv,hal,qLK]) (by
   have hend:some (Sum.inr (α:=List Bool×Int) (Z9 N (fun k=>if 1≤k∧k<N then q1C d s l n nx k else false)))=some (Sum.inr (Z9 N (q1C d s l n nx))):=by
    congr 2
    refine q0m fun k hk=>?_
    by_cases h:k=0
    ·subst h;simp[q1C]
    ·rw[if_pos ⟨by omega,hk⟩]
   rw[hst]
   by_cases hk:n.Kind=1
   ·rw[if_pos hk]
    unfold ZW
    simp only
    rw[zE,if_neg (by omega)]
    exact hend
   ·rw[if_neg hk]
    unfold ZV
    simp only
    rw[zE,if_neg (by omega)]
    exact hend)
 rw[q3S]
 have e:(fun k:Nat=>if 1≤k∧k<1 then q1C d s l n nx k else false)=fun _=>false:=by funext k;rw[if_neg (by omega)]
 rw[e] at h1
 exact h1
end
end
noncomputable section
open Go.RowKit
section
variable {N:Nat} {best:Nat→Int} {M:Int}
theorem qnt (rF:(qb×List Int×List qa×Int×qg)→Option (List Bool×List Int×List qa×Int×qg)) (hN:N≤65536) (hM:M≤1000000) (hb:Bnd best N M) (w7:List Int) (w9:List Bool) (b0:List qa) (b3:Int) (b4:qg) (b8:qb) (own:Nat→Bool) (skip:Bool) (t72:List qb) (t73 t74:Int) :
  zG (Qw rF w7 w9 (Z9 N best) b0 b3 b4 b8 (Z9 N own) skip t72 t73 t74 ((N:Nat):Int)) (List.replicate N 0,0)=some (Z9 N (stF skip own best)):=by
 have h1:=q1V (step:=Qw rF w7 w9 (Z9 N best) b0 b3 b4 b8 (Z9 N own) skip t72 t73 t74 ((N:Nat):Int)) (fun i=>(Z9 N (fun k=>if k<i then stF skip own best k else 0),(i:Int))) 0 N (qLD _) (e:=Z9 N (stF skip own best)) (fun i _ hi=>by
   have hbi:=hb i hi
   have hw:w64 ((i:Int)+1)=((i+1:Nat):Int):=Qy hi (by omega)
   have hg:∀v:Int,v=(if skip=true then best i else -1)→q9T (q9T (fun k=>if k<i then stF skip own best k else 0) i v) i (eaF own best i i i (q9T (fun k=>if k<i then stF skip own best k else 0) i v i))=fun k=>if k<i+1 then stF skip own best k else 0:=fun v hv=>by
    funext k
    rw[qbM,q8b]
    unfold q9T
    by_cases hk:k=i
    ·subst hk
     rw[if_pos rfl,if_pos (by omega)]
     unfold stF
     rw[←hv]
    ·rw[if_neg hk]
     show(if k<i then stF skip own best k else 0)=_
     by_cases h:k<i
     ·rw[if_pos h,if_pos (by omega)]
     ·rw[if_neg h,if_neg (by omega)]
   unfold Qw
   simp only
   rw[if_pos (by omega),zE,if_pos ⟨by omega,by omega⟩,qLg,if_pos (by omega)]
   cases hs:skip
   ·simp only[Bool.false_eq_true,if_false]
    rw[Jc]
    unfold Qc
    rw[qdi hN hM hb (own:=own) hi i i (qLt _) (qLt _),qLd,qLd,hw,←hs,hg (-1) (by rw[hs];rfl)]
   ·simp only[if_true]
    rw[zE,if_pos ⟨by omega,by omega⟩,Jf best hi,qLd,if_pos ⟨by omega,by omega⟩,if_pos (by omega),Jc,Jc,q8b]
    unfold Qc
    rw[qdi hN hM hb (own:=own) hi i i (qLt _) (qLt _),qLd,qLd,hw,←hs,hg (best i) (by rw[hs];rfl)]) (by
   unfold Qw
   simp only
   rw[if_neg (by omega)]
   congr 2
   exact q0m fun k hk=>if_pos hk)
 rw[q3S]
 have e:(fun k:Nat=>if k<0 then stF skip own best k else 0)=fun _=>0:=by funext k;rw[if_neg (by omega)]
 rw[e] at h1
 exact h1
theorem qvX (rF:(qb×List Int×List qa×Int×qg)→Option (List Bool×List Int×List qa×Int×qg)) (hN:N≤65536) (hN1:1≤N) (w7:List Int) (w9:List Bool) (b0:List qa) (b3:Int) (b4:qg) (b8:qb) :
  zG (QT rF w7 w9 b0 b3 b4 b8) (List.replicate N 0,1)=some (Z9 N b0F):=by
 have h1:=q1V (step:=QT rF w7 w9 b0 b3 b4 b8) (fun i=>(Z9 N (fun k=>if 1≤k∧k<i then -1 else 0),(i:Int))) 1 N hN1 (e:=Z9 N b0F) (fun i h1 hi=>by
   have hw:w64 ((i:Int)+1)=((i+1:Nat):Int):=Qy hi (by omega)
   unfold QT
   simp only
   rw[zE,if_pos (by omega),if_pos ⟨by omega,by omega⟩,qLg,if_pos (by omega),hw,Jc]
   rw[qjr (fun _=>(-1:Int)) 0 h1]) (by
   unfold QT
   simp only
   rw[zE,if_neg (by omega)]
   congr 2
   refine q0m fun k hk=>?_
   unfold b0F
   by_cases h:k=0
   ·rw[if_pos h,if_neg (by omega)]
   ·rw[if_neg h,if_pos (by omega)])
 rw[q3S]
 have e:(fun k:Nat=>if 1≤k∧k<1 then(-1:Int) else 0)=fun _=>0:=by funext k;rw[if_neg (by omega)]
 rw[e] at h1
 exact h1
theorem qk8 (rF:(qb×List Int×List qa×Int×qg)→Option (List Bool×List Int×List qa×Int×qg)) (hN:N≤65536) (hN1:1≤N) (w7:List Int) (b0:List qa) (b3:Int) (b4:qg) (least:Int) :
  zG (QP rF w7 (Z9 N best) b0 b3 b4 least) (List.replicate N false,1)=some (Z9 N (fun k=>decide (k≠0)&&decide (least≤best k))):=by
 have h1:=q1V (step:=QP rF w7 (Z9 N best) b0 b3 b4 least) (fun i=>(Z9 N (fun k=>if 1≤k∧k<i then decide (least≤best k) else false),(i:Int))) 1 N hN1 (e:=Z9 N (fun k=>decide (k≠0)&&decide (least≤best k))) (fun i h1 hi=>by
   have hw:w64 ((i:Int)+1)=((i+1:Nat):Int):=Qy hi (by omega)
   unfold QP
   simp only
   rw[zE,zE,if_pos (by omega),if_pos ⟨by omega,by omega⟩,qLg,Jf best hi,qLd,if_pos ⟨by omega,by omega⟩,if_pos (by omega),hw,Jc]
   rw[qjr (fun k=>decide (least≤best k)) false h1]) (by
   unfold QP
   simp only
   rw[zE,if_neg (by omega)]
   congr 2
   refine q0m fun k hk=>?_
   by_cases h:k=0
   ·subst h;simp
   ·rw[if_pos ⟨by omega,hk⟩];simp[h])
 rw[q3S]
 have e:(fun k:Nat=>if 1≤k∧k<1 then decide (least≤best k) else false)=fun _=>false:=by funext k;rw[if_neg (by omega)]
 rw[e] at h1
 exact h1
theorem qiX (rF:(qb×List Int×List qa×Int×qg)→Option (List Bool×List Int×List qa×Int×qg)) (d:List Int) (hd:d.length≤16) (s:qg) (l:List qa) (hl:l.length≤16) (n:qb) (hn:n.Set.length≤1000000) (nx:Nat) (hnx:nx≤1000000) (step:List Bool×Int→Option ((List Bool×Int)⊕List Bool))
  (hst:step=(if n.Kind=1 then Zy rF d l (nx:Int) s n else Zx rF d l (nx:Int) s n)) (hN:N≤65536) (hN1:1≤N) :
  zG step (List.replicate N false,1)=some (Z9 N (q1C d s l n nx)):=by
 have h1:=q1V (step:=step) (fun i=>(Z9 N (fun k=>if 1≤k∧k<i then q1C d s l n nx k else false),(i:Int))) 1 N hN1 (e:=Z9 N (q1C d s l n nx)) (fun i h1 hi=>by
   have hw:w64 ((i:Int)+1)=((i+1:Nat):Int):=Qy hi (by omega)
   have hc:Z9 N (q9T (fun k=>if 1≤k∧k<i then q1C d s l n nx k else false) i (q1C d s l n nx i))=Z9 N (fun k=>if 1≤k∧k<i+1 then q1C d s l n nx k else false):=by
    rw[qjr (q1C d s l n nx) false h1]
   have hz:decide (i≠0)=true:=qMe (by omega)
   have hwg:=qiJ n (by omega) s l (by omega) i (by omega)
   have hal:=qjT d hd nx i (by omega)
   have hv:q1C d s l n nx i=(alF d nx i&&qca n (wgF n s i l 0 ld0)):=by unfold q1C;rw[hz];simp
   have m1:n.Kind=1→zW (wgF n s i l 0 ld0) n=qca n (wgF n s i l 0 ld0):=fun hk=>by
    unfold zW qca
    rw[if_pos hk]
    cases(wgF n s i l 0 ld0).fine<;>simp
   have m2:n.Kind≠1→Qq (wgF n s i l 0 ld0) n=qca n (wgF n s i l 0 ld0):=fun hk=>by
    unfold Qq qca
    rw[if_neg hk]
    cases(wgF n s i l 0 ld0).fine
    ·simp
    ·by_cases h:0<(wgF n s i l 0 ld0).many<;>simp[h]
   rw[hst]
   by_cases hk:n.Kind=1
   ·rw[if_pos hk]
    unfold Zy
    simp only
    rw[zE,if_pos (by omega),hal,qLd]
    cases ha:alF d nx i
    ·rw[if_neg (by simp),if_pos ⟨by omega,by omega⟩,qLg,if_pos (by omega),hw,Jc,←hc,hv,ha,qMh]
    ·rw[if_pos rfl,hwg,qLd,if_pos ⟨by omega,by omega⟩,qLg,if_pos (by omega),hw,m1 hk,Jc,←hc,hv,ha,qLK]
   ·rw[if_neg hk]
    unfold Zx
    simp only
    rw[zE,if_pos (by omega),hal,qLd]
    cases ha:alF d nx i
    ·rw[if_neg (by simp),if_pos ⟨by omega,by omega⟩,qLg,if_pos (by omega),hw,Jc,←hc,hv,ha,qMh]
    ·rw[if_pos rfl,hwg,qLd,if_pos ⟨by omega,by omega⟩,qLg,if_pos (by omega),hw,m2 hk,Jc,←hc,hv,ha,qLK]) (by
   have hend:some (Sum.inr (α:=List Bool×Int) (Z9 N (fun k=>if 1≤k∧k<N then q1C d s l n nx k else false)))=some (Sum.inr (Z9 N (q1C d s l n nx))):=by
    congr 2
    refine q0m fun k hk=>?_
    by_cases h:k=0
    ·subst h;simp[q1C]
    ·rw[if_pos ⟨by omega,hk⟩]
   rw[hst]
   by_cases hk:n.Kind=1
   ·rw[if_pos hk]
    unfold Zy
    simp only
    rw[zE,if_neg (by omega)]
    exact hend
   ·rw[if_neg hk]
    unfold Zx
    simp only
    rw[zE,if_neg (by omega)]
    exact hend)
 rw[q3S]
 have e:(fun k:Nat=>if 1≤k∧k<1 then q1C d s l n nx k else false)=fun _=>false:=by funext k;rw[if_neg (by omega)]
 rw[e] at h1
 exact h1
end
end
noncomputable section
open Go.RowKit
theorem qcy (N:Nat) (d:List Int) (s:qg) (l:List qa) (n:qb) (nx:Nat):Z9 N (QH d s l n nx)=if n.Kind=1∨n.Kind=2 then Z9 N (q1C d s l n nx) else Z9 N (fun k=>decide (k≠0)&&decide ((if n.Kind=3 then(n.L.length:Int) else n.N)≤qae d s l (n.Kind==4) n.L nx b0F k)):=by
 have:QH d s l n nx=fun k=>QH d s l n nx k:=rfl
 by_cases h:n.Kind=1∨n.Kind=2
 ·rw[if_pos h];refine q0m fun k _=>?_;rw[qbw,if_pos h]
 ·rw[if_neg h];refine q0m fun k _=>?_;rw[qbw,if_neg h]
theorem qmY (d:List Int) (hd:d=[]) (s:qg) (l:List qa) (hl:l.length≤16) (n:qb) (hLn:n.L.length≤1000000)
  (hP:∀y∈n.L,∀nx:Nat,nx+(ndN y).length≤100000→Qj (y,l,(nx:Int),s)=some (Z9 (2 ^ l.length) (QH d s l y nx),l,((nx+lvN y:Nat):Int),s)) (w9:List Bool) :
  ∀(r:List qb) (i nx:Nat) (best:Nat→Int) (M:Int),r.length+i=n.L.length→(∀j,r[j]?=n.L[i+j]?)→nx+(ndL r).length≤100000→Bnd best (2 ^ l.length) M→0≤M→M+r.length≤100000→
  zG (Zk Qj w9 n n.L (n.L.length:Int)) (Z9 (2 ^ l.length) best,l,(nx:Int),s,(i:Int))=some ((Z9 (2 ^ l.length) (qae d s l (n.Kind==4) r nx best),l,((nx+lvL r:Nat):Int),s)):=by
 intro r
 induction r with
 | nil=>
  intro i nx best M hi _ _ _ _ _
  have hi:i=n.L.length:=by simpa using hi
  subst hi
  refine zD ?_
  unfold Zk
  simp only
  rw[if_neg (by omega),lvL,Nat.add_zero]
  rfl
 | cons y r ih=>
  intro i nx best M hi hr hnx hb hM0 hM
  rw[ndL,qLk] at hnx
  have hlv:=qjs y
  simp only[qLo,Int.natCast_add,Int.natCast_one] at hM hi
  have hget:n.L[i]?=some y:=by have:=hr 0;simpa using this.symm
  have hlt:i<n.L.length:=JB hget
  have hN:2 ^ l.length≤65536:=qLO (Nat.pow_le_pow_right (by decide) hl) (by decide)
  have hN1:1≤2 ^ l.length:=Nat.one_le_two_pow
  have hcall:=hP y (qLe hget) nx (by omega)
  have hw:w64 ((i:Int)+1)=((i+1:Nat):Int):=Qy hlt (by omega)
  have hstep:Zk Qj w9 n n.L (n.L.length:Int) (Z9 (2 ^ l.length) best,l,(nx:Int),s,(i:Int))=some (.inl (Z9 (2 ^ l.length) (stF (n.Kind==4 && !foF d nx (nx+lvN y)) (QH d s l y nx) best),l,((nx+lvN y:Nat):Int),s,((i+1:Nat):Int))):=by
   unfold Zk
   simp only
   rw[if_pos (by omega),if_pos ⟨by omega,by omega⟩,qLg,hget,qLd,hcall,qLd]
   simp only[zE]
   have hfo:foF d nx (nx+lvN y)=false:=by rw[hd];rfl
   cases hk4:(n.Kind==4)
   ·rw[if_neg (by simp),if_pos ⟨by omega,by omega,by omega⟩,qlg (M:=M) Qj hN (by omega) hb,qLd,hw,qMh]
   ·rw[if_pos rfl,if_pos ⟨by omega,by omega,by omega⟩,qlg (M:=M) Qj hN (by omega) hb,qLd,hw,hfo]
    rfl
  rw[Q4 hstep,ih (i+1) _ _ (M+1) (by omega) (fun j=>by rw[show i+1+j=i+(j+1) by omega,←hr (j+1)];rfl) (by omega) (qmo hb (by omega)) (by omega) (by omega)]
  rw[lvL,←qM7]
  rfl
theorem qlm (d:List Int) (hd:d=[]) (s:qg) (l:List qa) (hl:l.length≤16):∀(m:Nat) (n:qb),(ndN n).length≤m→(ndN n).length≤10000→(∀y∈ndN n,y.Set.length≤1000000)→∀nx:Nat,nx+(ndN n).length≤100000→Qj (n,l,(nx:Int),s)=some (Z9 (2 ^ l.length) (QH d s l n nx),l,((nx+lvN n:Nat):Int),s):=by
 intro m
 induction m with
 | zero=>intro n h;rw[q0g] at h;simp at h
 | succ m ih=>
  intro n h1 h2 h3 nx hnx
  have hN:2 ^ l.length≤65536:=qLO (Nat.pow_le_pow_right (by decide) hl) (by decide)
  have hN1:1≤2 ^ l.length:=Nat.one_le_two_pow
  have hlv:=qjs n
  have hset:=h3 n (by rw[q0g];exact qLs)
  have hsub:∀(L:List qb),(ndL L).length≤m→(ndL L).length≤10000→(∀y∈ndL L,y.Set.length≤1000000)→∀y∈L,∀nx:Nat,nx+(ndN y).length≤100000→Qj (y,l,(nx:Int),s)=some (Z9 (2 ^ l.length) (QH d s l y nx),l,((nx+lvN y:Nat):Int),s):=by
   intro L
   induction L with
   | nil=>intro _ _ _ y hy;simp at hy
   | cons x L ihl=>
    intro g1 g2 g3 y hy
    rw[ndL,qLk] at g1 g2
    rw[ndL] at g3
    rcases qLz.1 hy with rfl|hy
    ·exact ih _ (by omega) (by omega) fun z hz=>g3 z (qLp _ hz)
    ·exact ihl (by omega) (by omega) (fun z hz=>g3 z (qLm _ hz)) y hy
  have e0:ndN n=n::ndL n.L:=q0g n
  have hlen:(ndN n).length=(ndL n.L).length+1:=by rw[e0];rfl
  have hP:=hsub n.L (by omega) (by omega) fun y hy=>h3 y (by rw[e0];exact qLl _ hy)
  have hLlen:∀L:List qb,L.length≤(ndL L).length:=fun L=>by
   induction L with
   | nil=>simp
   | cons x L ihL=>rw[ndL,qLk,qLo,q0g,qLo];omega
  have hLl:=hLlen n.L
  have hpow:w64 ((1:Int)*(2:Int) ^ min l.length (IntKind.bits IntKind.i64))=((2 ^ l.length:Nat):Int):=by
   rw[show min l.length (IntKind.bits IntKind.i64)=l.length from Nat.min_eq_left (by show l.length≤64;omega),Int.one_mul,show((2:Int) ^ l.length)=((2 ^ l.length:Nat):Int) by simp]
   exact ZC (by omega) (by omega)
  rw[qap,q0t]
  rw[hpow,if_pos (by omega),if_pos ⟨by omega,by omega,by omega⟩,qLg,qaJ,qcy]
  by_cases hlf:n.Kind=1∨n.Kind=2
  ·have e1:q8r n=true:=by unfold q8r;rcases hlf with h|h<;>simp[h]
   have e2:lvN n=1:=by rw[qbV,if_pos hlf]
   have hw2:w64 ((nx:Int)+1)=((nx+1:Nat):Int):=by rw[ZC (by omega) (by omega)];omega
   rw[if_pos e1,if_pos hlf,e2]
   unfold q0P
   by_cases hk:n.Kind=1
   ·have hlt:=qiI Qj d hd s l hl n hset nx (by omega) _ (if_pos hk).symm hN hN1
    rw[if_pos (by simpa using hk),qLd,Sum.elim_inl,hlt,qLd,hw2]
   ·have hlt:=qiI Qj d hd s l hl n hset nx (by omega) _ (if_neg hk).symm hN hN1
    rw[if_neg (by simpa using hk),qLd,Sum.elim_inr,hlt,qLd,hw2]
  ·have e1:q8r n=false:=by unfold q8r;have h1:n.Kind≠1:=fun h=>hlf (.inl h);have h2:n.Kind≠2:=fun h=>hlf (.inr h);simp[h1,h2]
   have e2:lvN n=lvL n.L:=by rw[qbV,if_neg hlf]
   have hb0:Bnd b0F (2 ^ l.length) 0:=fun k _=>by unfold b0F;split<;>omega
   have hch:=qmY d hd s l hl n (by omega) hP (List.replicate (2 ^ l.length) false) n.L 0 nx b0F 0 (by simp) (by simp) (by omega) hb0 (by omega) (by omega)
   rw[e1,if_neg (by simp),if_neg hlf,e2,if_pos ⟨by omega,by omega,by omega⟩]
   rw[qtk Qj hN hN1,qLd]
   change Option.bind (zG _ (Z9 (2 ^ l.length) b0F,l,(nx:Int),s,((0:Nat):Int))) _=_
   rw[hch,qLd]
   simp only
   by_cases hk:n.Kind=3
   ·rw[if_pos (by simpa using hk),qns Qj hN hN1,qLd]
    simp only[if_pos hk]
   ·rw[if_neg (by simpa using hk),qns Qj hN hN1,qLd]
    simp only[if_neg hk]
theorem qks (d:List Int) (hd:d.length≤16) (s:qg) (l:List qa) (hl:l.length≤16) (n:qb) (hLn:n.L.length≤1000000)
  (hP:∀y∈n.L,∀nx:Nat,nx+(ndN y).length≤100000→zH (y,d,l,(nx:Int),s)=some (Z9 (2 ^ l.length) (QH d s l y nx),d,l,((nx+lvN y:Nat):Int),s)) (w9:List Bool) :
  ∀(r:List qb) (i nx:Nat) (best:Nat→Int) (M:Int),r.length+i=n.L.length→(∀j,r[j]?=n.L[i+j]?)→nx+(ndL r).length≤100000→Bnd best (2 ^ l.length) M→0≤M→M+r.length≤100000→
  zG (QQ zH w9 n n.L (n.L.length:Int)) (d,Z9 (2 ^ l.length) best,l,(nx:Int),s,(i:Int))=some ((d,Z9 (2 ^ l.length) (qae d s l (n.Kind==4) r nx best),l,((nx+lvL r:Nat):Int),s)):=by
 intro r
 induction r with
 | nil=>
  intro i nx best M hi _ _ _ _ _
  have hi:i=n.L.length:=by simpa using hi
  subst hi
  refine zD ?_
  unfold QQ
  simp only
  rw[if_neg (by omega),lvL,Nat.add_zero]
  rfl
 | cons y r ih=>
  intro i nx best M hi hr hnx hb hM0 hM
  rw[ndL,qLk] at hnx
  have hlv:=qjs y
  simp only[qLo,Int.natCast_add,Int.natCast_one] at hM hi
  have hget:n.L[i]?=some y:=by have:=hr 0;simpa using this.symm
  have hlt:i<n.L.length:=JB hget
  have hN:2 ^ l.length≤65536:=qLO (Nat.pow_le_pow_right (by decide) hl) (by decide)
  have hN1:1≤2 ^ l.length:=Nat.one_le_two_pow
  have hcall:=hP y (qLe hget) nx (by omega)
  have hw:w64 ((i:Int)+1)=((i+1:Nat):Int):=Qy hlt (by omega)
  have hstep:QQ zH w9 n n.L (n.L.length:Int) (d,Z9 (2 ^ l.length) best,l,(nx:Int),s,(i:Int))=some (.inl (d,Z9 (2 ^ l.length) (stF (n.Kind==4 && !foF d nx (nx+lvN y)) (QH d s l y nx) best),l,((nx+lvN y:Nat):Int),s,((i+1:Nat):Int))):=by
   unfold QQ
   simp only
   rw[if_pos (by omega),if_pos ⟨by omega,by omega⟩,qLg,hget,qLd,hcall,qLd]
   simp only[zE]
   cases hk4:(n.Kind==4)
   ·rw[if_neg (by simp),if_pos ⟨by omega,by omega,by omega⟩,qnt (M:=M) zH hN (by omega) hb,qLd,hw,qMh]
   ·rw[if_pos rfl,qkG d hd nx (nx+lvN y),qLd,if_pos ⟨by omega,by omega,by omega⟩,qnt (M:=M) zH hN (by omega) hb,qLd,hw,qLK]
  rw[Q4 hstep,ih (i+1) _ _ (M+1) (by omega) (fun j=>by rw[show i+1+j=i+(j+1) by omega,←hr (j+1)];rfl) (by omega) (qmo hb (by omega)) (by omega) (by omega)]
  rw[lvL,←qM7]
  rfl
theorem qkj (d:List Int) (hd:d.length≤16) (s:qg) (l:List qa) (hl:l.length≤16):∀(m:Nat) (n:qb),(ndN n).length≤m→(ndN n).length≤10000→(∀y∈ndN n,y.Set.length≤1000000)→∀nx:Nat,nx+(ndN n).length≤100000→zH (n,d,l,(nx:Int),s)=some (Z9 (2 ^ l.length) (QH d s l n nx),d,l,((nx+lvN n:Nat):Int),s):=by
 intro m
 induction m with
 | zero=>intro n h;rw[q0g] at h;simp at h
 | succ m ih=>
  intro n h1 h2 h3 nx hnx
  have hN:2 ^ l.length≤65536:=qLO (Nat.pow_le_pow_right (by decide) hl) (by decide)
  have hN1:1≤2 ^ l.length:=Nat.one_le_two_pow
  have hlv:=qjs n
  have hset:=h3 n (by rw[q0g];exact qLs)
  have hsub:∀(L:List qb),(ndL L).length≤m→(ndL L).length≤10000→(∀y∈ndL L,y.Set.length≤1000000)→∀y∈L,∀nx:Nat,nx+(ndN y).length≤100000→zH (y,d,l,(nx:Int),s)=some (Z9 (2 ^ l.length) (QH d s l y nx),d,l,((nx+lvN y:Nat):Int),s):=by
   intro L
   induction L with
   | nil=>intro _ _ _ y hy;simp at hy
   | cons x L ihl=>
    intro g1 g2 g3 y hy
    rw[ndL,qLk] at g1 g2
    rw[ndL] at g3
    rcases qLz.1 hy with rfl|hy
    ·exact ih _ (by omega) (by omega) fun z hz=>g3 z (qLp _ hz)
    ·exact ihl (by omega) (by omega) (fun z hz=>g3 z (qLm _ hz)) y hy
  have e0:ndN n=n::ndL n.L:=q0g n
  have hlen:(ndN n).length=(ndL n.L).length+1:=by rw[e0];rfl
  have hP:=hsub n.L (by omega) (by omega) fun y hy=>h3 y (by rw[e0];exact qLl _ hy)
  have hLlen:∀L:List qb,L.length≤(ndL L).length:=fun L=>by
   induction L with
   | nil=>simp
   | cons x L ihL=>rw[ndL,qLk,qLo,q0g,qLo];omega
  have hLl:=hLlen n.L
  have hpow:w64 ((1:Int)*(2:Int) ^ min l.length (IntKind.bits IntKind.i64))=((2 ^ l.length:Nat):Int):=by
   rw[show min l.length (IntKind.bits IntKind.i64)=l.length from Nat.min_eq_left (by show l.length≤64;omega),Int.one_mul,show((2:Int) ^ l.length)=((2 ^ l.length:Nat):Int) by simp]
   exact ZC (by omega) (by omega)
  rw[q8x,JU]
  rw[hpow,if_pos (by omega),if_pos ⟨by omega,by omega,by omega⟩,qLg,qaJ,qcy]
  by_cases hlf:n.Kind=1∨n.Kind=2
  ·have e1:q8r n=true:=by unfold q8r;rcases hlf with h|h<;>simp[h]
   have e2:lvN n=1:=by rw[qbV,if_pos hlf]
   have hw2:w64 ((nx:Int)+1)=((nx+1:Nat):Int):=by rw[ZC (by omega) (by omega)];omega
   rw[if_pos e1,if_pos hlf,e2]
   unfold q0P
   by_cases hk:n.Kind=1
   ·have hlt:=qiX zH d hd s l hl n hset nx (by omega) _ (if_pos hk).symm hN hN1
    rw[if_pos (by simpa using hk),qLd,Sum.elim_inl,hlt,qLd,hw2]
   ·have hlt:=qiX zH d hd s l hl n hset nx (by omega) _ (if_neg hk).symm hN hN1
    rw[if_neg (by simpa using hk),qLd,Sum.elim_inr,hlt,qLd,hw2]
  ·have e1:q8r n=false:=by unfold q8r;have h1:n.Kind≠1:=fun h=>hlf (.inl h);have h2:n.Kind≠2:=fun h=>hlf (.inr h);simp[h1,h2]
   have e2:lvN n=lvL n.L:=by rw[qbV,if_neg hlf]
   have hb0:Bnd b0F (2 ^ l.length) 0:=fun k _=>by unfold b0F;split<;>omega
   have hch:=qks d hd s l hl n (by omega) hP (List.replicate (2 ^ l.length) false) n.L 0 nx b0F 0 (by simp) (by simp) (by omega) hb0 (by omega) (by omega)
   rw[e1,if_neg (by simp),if_neg hlf,e2,if_pos ⟨by omega,by omega,by omega⟩]
   rw[qvX zH hN hN1,qLd]
   change Option.bind (zG _ (d,Z9 (2 ^ l.length) b0F,l,(nx:Int),s,((0:Nat):Int))) _=_
   rw[hch,qLd]
   simp only
   by_cases hk:n.Kind=3
   ·rw[if_pos (by simpa using hk),qk8 zH hN hN1,qLd]
    simp only[if_pos hk]
   ·rw[if_neg (by simpa using hk),qk8 zH hN hN1,qLd]
    simp only[if_neg hk]
end
noncomputable section
open Go.RowKit
structure q32 (d:qq):Prop where
 lo:0≤d.At
 hi:d.At≤d.L.length
 len:d.L.length≤9223372036854775807
theorem q4g {d:qq} (h:q32 d) {most:Int} (h0:0<most) (h1:most≤1000000):∃v d',qz most d=some (v,d')∧0≤v∧v<most∧q32 d':=by
 obtain⟨a,b,c⟩:=h
 unfold qz
 by_cases he:(d.L.length:Int)≤d.At
 ·exact⟨0,d,if_pos he,Int.le_refl _,h0,⟨a,b,c⟩⟩
 ·obtain⟨x,hx⟩:∃x,d.L[Int.toNat d.At]?=some x:=⟨_,qLf (by omega)⟩
  have e1:=Int.tmod_lt_of_pos x h0
  have e2 : -most<Int.tmod x most:=by
   have:=Int.tmod_lt_of_pos (-x) h0
   rw[Int.neg_tmod] at this;omega
  have e3:w64 (Int.tmod x most+most)=Int.tmod x most+most:=ZC (by omega) (by omega)
  have e4:=Int.tmod_lt_of_pos (Int.tmod x most+most) h0
  have e5:0≤Int.tmod (Int.tmod x most+most) most:=Int.tmod_nonneg _ (by omega)
  have e6:w64 (d.At+1)=d.At+1:=ZC (by omega) (by omega)
  refine⟨Int.tmod (Int.tmod x most+most) most,⟨d.L,d.At+1⟩,?_,e5,e4,⟨by show 0≤d.At+1;omega,by show d.At+1≤d.L.length;omega,c⟩⟩
  rw[if_neg he,if_pos ⟨a,by omega⟩,hx,qLd,if_neg (by omega),if_neg (by omega),e3,e6]
def q8f:List Int:=[1,1,1,2,2,3]
def q56 (c:qd):Prop:=c.School∈q8f∧c.Code∈zY
theorem qw4 {α:Type} (l:List α) (i:Int) (h0:0≤i) (h1:i<l.length):∃x,l[Int.toNat i]?=some x∧x∈l:=⟨l[Int.toNat i],qLf (by omega),qM5 _⟩
theorem qgu {d:qq} (h:q32 d):∃c d',JM d=some (c,d')∧q56 c∧q32 d':=by
 obtain⟨v,d1,e1,a1,b1,h1⟩:=q4g h (most:=6) (by omega) (by omega)
 obtain⟨w,d2,e2,a2,b2,h2⟩:=q4g h1 (most:=((zY.length:Nat):Int)) (by unfold zY;simp) (by unfold zY;simp)
 obtain⟨x,hx,mx⟩:=qw4 q8f v a1 (by simpa [q8f] using b1)
 obtain⟨y,hy,my⟩:=qw4 zY w a2 b2
 refine⟨⟨x,y⟩,d2,?_,⟨mx,my⟩,h2⟩
 unfold JM
 rw[e1,qLd,if_pos ⟨a1,b1⟩]
 unfold q8f at hx
 rw[hx,qLd,e2,qLd,if_pos ⟨a2,b2⟩,hy,qLd]
theorem q9D {c:qd} (h:q56 c):q0M c=true:=by
 obtain⟨s,k⟩:=c
 obtain⟨h1,h2⟩:=h
 have e1:∀s∈q8f,inF s 1 8=true:=by decide
 have e2:∀k∈zY,qoX k=true:=by unfold zY;decide
 unfold q0M
 rw[e1 s h1,e2 k h2];rfl
theorem qrp:∀(x y:List UInt8),Op.bytesLess x y=true∨x=y∨Op.bytesLess y x=true
 | [],[] => .inr (.inl rfl)
 | [],_::_ => .inl rfl
 | _::_,[] => .inr (.inr rfl)
 | a::x,b::y=>by
  simp only[Op.bytesLess]
  by_cases h1:a<b
  ·simp[h1]
  ·by_cases h2:b<a
   ·simp[h1,h2]
   ·have:a=b:=by
     apply UInt8.toNat_inj.1
     have h1':¬ a.toNat<b.toNat:=h1
     have h2':¬ b.toNat<a.toNat:=h2
     omega
    subst this
    rcases qrp x y with h|h|h<;>simp[h]
def q5L (a b:qd):Bool:=QJ a b
theorem qiS (a b:qd):q5L a b=decide (quD a b<0):=by
 unfold q5L QJ quD qdF qBT
 by_cases h1:a.School<b.School
 ·rw[if_pos h1,if_pos (by omega),if_pos h1];rfl
 ·rw[if_neg h1]
  by_cases h2:a.School=b.School
  ·rw[if_pos (by simpa using h2),if_neg (fun h=>h h2)]
   cases h3:Op.bytesLess a.Code.toList b.Code.toList
   ·cases h4:(a.Code.toList==b.Code.toList)<;>simp
   ·simp
  ·rw[if_neg (by simpa using h2),if_pos h2,if_neg h1,if_pos (by omega)];rfl
theorem qqh (a b:qd):q5L a b=true∨ceq a b=true∨q5L b a=true:=by
 unfold q5L QJ ceq
 by_cases h1:a.School<b.School
 ·simp[h1]
 ·by_cases h2:b.School<a.School
  ·simp[h2]
  ·have h3:a.School=b.School:=by omega
   rcases qrp a.Code.toList b.Code.toList with h|h|h
   ·left;simp[h3,h]
   ·right;left;simp[h3,h]
   ·right;right;simp[h3,h]
def qha {α:Type} (l:List α) (k:Nat) (c:α):List α:=l.take k++c::l.drop k
theorem qrd {α:Type}:∀(ys l:List α) (k:Nat),k+ys.length≤l.length→spl l k ys=l.take k++(ys++l.drop (k+ys.length))
 | [],l,k,_=>by rw[spl,qLX,Nat.add_zero,qLx,qM2]
 | x::ys,l,k,h=>by
  simp only[qLo] at h ⊢
  rw[spl,qrd ys (l.set k x) (k+1) (by rw[qLZ];omega)]
  have e:l.set k x=l.take k++x::l.drop (k+1):=by rw[List.set_eq_take_append_cons_drop,if_pos (by omega)]
  have hl:(l.take k).length=k:=by rw[qLG];omega
  have e1:(l.set k x).take (k+1)=l.take k++[x]:=by
   rw[e,List.take_append,hl,qMm (by omega),show k+1-k=1 by omega];rfl
  have e2:(l.set k x).drop (k+1+ys.length)=l.drop (k+(ys.length+1)):=by
   rw[e,List.drop_append,hl,qLU (by omega),qLx,show k+1+ys.length-k=ys.length+1 by omega,List.drop_succ_cons,qM1]
   congr 1;omega
  rw[e1,e2,qLT]
  rfl
theorem qtI {α:Type} (l:List α) (z c:α) (k:Nat) (h:k<l.length):List.set (spl (l++[z]) (k+1) (List.take (min (l.length+1-k) (l.length+1-(k+1))) (List.take (l.length+1-k) (List.drop k (l++[z]))))) k c=qha l k c:=by
 have e1:List.take (min (l.length+1-k) (l.length+1-(k+1))) (List.take (l.length+1-k) (List.drop k (l++[z])))=l.drop k:=by
  rw[List.take_take,List.drop_append_of_le_length (by omega),show min (min (l.length+1-k) (l.length+1-(k+1))) (l.length+1-k)=l.length-k by omega,List.take_append_of_le_length (by rw[qM0];omega),qMm (by rw[qM0];omega)]
 rw[e1,qrd _ _ _ (by rw[qM0,qLk,qLv];omega)]
 unfold qha
 have e2:List.drop (k+1+(l.length-k)) (l++[z])=[]:=qLU (by rw[qLk,qLv];omega)
 rw[qM0,e2,qLy,List.take_append_of_le_length (by omega)]
 rw[List.take_add_one,qLf h,Option.toList_some,qLT,List.set_append_right _ _ (by rw[qLG];omega),qLG,Nat.min_eq_left (by omega),Nat.sub_self]
 rfl
theorem qpG {α:Type} (l:List α) (z c:α):List.set (l++[z]) l.length c=qha l l.length c:=by
 unfold qha
 rw[List.set_append_right _ _ (qLt _),Nat.sub_self,List.take_length,List.drop_length]
 rfl
end
noncomputable section
open Go.RowKit
structure q9E (l:List qd):Prop where
 ok:∀c∈l,q56 c
 ord:qfC l=true
theorem q4C {x y:qd} {l:List qd}:qfC (x::y::l)=(q5L x y&&qfC (y::l)):=by rw[qfC,qiS]
theorem qlz {x:qd} {l:List qd} (h:qfC (x::l)=true):qfC l=true:=by
 cases l with
 | nil=>rfl
 | cons y l=>rw[q4C,qLJ] at h;exact h.2
def atF (l:List qd) (c:qd):Nat:=(l.takeWhile fun x=>q5L x c).length
theorem qrc (l:List qd) (c:qd):atF l c≤l.length:=by
 unfold atF
 induction l with
 | nil=>simp
 | cons x l ih=>rw[List.takeWhile_cons];split<;>simp<;>omega
theorem qk6 {c:qd}:∀{l:List qd},qfC l=true→(∀x,l[atF l c]?=some x→ceq x c=false)→qfC (qha l (atF l c) c)=true
 | [],_,_=>rfl
 | x::l,h,hc=>by
  by_cases hx:q5L x c=true
  ·have e:atF (x::l) c=atF l c+1:=by unfold atF;rw[List.takeWhile_cons,if_pos hx];rfl
   rw[e] at hc ⊢
   have ih:=qk6 (qlz h) (fun y hy=>hc y (by simpa using hy))
   have e2:qha (x::l) (atF l c+1) c=x::qha l (atF l c) c:=rfl
   rw[e2]
   cases l with
   | nil=>rw[show qha ([]:List qd) (atF [] c) c=[c] from rfl,q4C,hx];rfl
   | cons y l=>
    rw[q4C,qLJ] at h
    by_cases hy:q5L y c=true
    ·have e3:atF (y::l) c=atF l c+1:=by unfold atF;rw[List.takeWhile_cons,if_pos hy];rfl
     rw[e3] at ih ⊢
     have e4:qha (y::l) (atF l c+1) c=y::qha l (atF l c) c:=rfl
     rw[e4] at ih ⊢
     rw[q4C,h.1,ih];rfl
    ·have e3:atF (y::l) c=0:=by unfold atF;rw[List.takeWhile_cons,if_neg hy];rfl
     rw[e3] at ih ⊢
     have e4:qha (y::l) 0 c=c::y::l:=rfl
     rw[e4] at ih ⊢
     rw[q4C,hx,ih];rfl
  ·have e:atF (x::l) c=0:=by unfold atF;rw[List.takeWhile_cons,if_neg hx];rfl
   rw[e] at hc ⊢
   have e2:qha (x::l) 0 c=c::x::l:=rfl
   rw[e2,q4C]
   have h1:=hc x (by simp)
   rcases qqh x c with h2|h2|h2
   ·exact absurd h2 hx
   ·rw[h2] at h1;cases h1
   ·rw[h2,h];rfl
theorem qsE (out:List qd) (hl:out.length≤1000000) (d:qq) (c:qd) (many k:Int):zG (JL out d c many k) 0=some ((atF out c:Nat):Int):=by
 have h1:=q2p (ε:=Int) (step:=JL out d c many k) out (fun(_:Unit) i=>(i:Int)) (fun i _ x=>if q5L x c=true then .inl () else .inr (i:Int)) (fun _=>(out.length:Int)) (fun _ i x hx=>by
   have hi:=JB hx
   unfold JL
   rw[if_pos (by omega),if_pos ⟨by omega,by omega⟩,qLg,hx,qLd,Qy hi (by omega)]
   show(if q5L x c=true then _ else _)=_
   cases q5L x c<;>simp) (fun _=>by
   unfold JL
   rw[if_neg (by omega)]) ()
 rw[show((0:Nat):Int)=0 from rfl] at h1
 rw[h1]
 congr 1
 have:∀(l:List qd) (i:Nat) (n:Nat),i+l.length=n→q5a (ε:=Int) (fun i (_:Unit) (x:qd)=>if q5L x c=true then .inl () else .inr (i:Int)) (fun _=>(n:Int)) l i ()=((i+atF l c:Nat):Int):=by
  intro l
  induction l with
  | nil=>intro i n h;simp at h;unfold q5a atF;simp[h]
  | cons x l ih=>
   intro i n h
   simp only[qLo] at h
   unfold q5a
   by_cases hx:q5L x c=true
   ·have e:atF (x::l) c=atF l c+1:=by unfold atF;rw[List.takeWhile_cons,if_pos hx];rfl
    simp only[hx,if_true]
    rw[ih (i+1) n (by omega),e]
    omega
   ·have e:atF (x::l) c=0:=by unfold atF;rw[List.takeWhile_cons,if_neg hx];rfl
    have hx':q5L x c=false:=by simpa using hx
    simp only[hx',Bool.false_eq_true,if_false]
    rw[e];rfl
 have:=this out 0 out.length (by simp)
 simpa using this
def qrt (l:List qd) (c:qd):List qd:=if(l[atF l c]?).any (fun x=>ceq x c)=true then l else qha l (atF l c) c
theorem qvz (l:List qd) (c:qd):l.length≤(qrt l c).length∧(qrt l c).length≤l.length+1∧1≤(qrt l c).length:=by
 have h:=qrc l c
 unfold qrt
 split
 ·rename_i h2
  refine⟨qLt _,by omega,?_⟩
  cases l with
  | nil=>simp at h2
  | cons x l=>simp
 ·unfold qha
  simp only[qLk,qLo,qLG,qM0]
  omega
theorem qot {l:List qd} {c:qd} (h:q9E l) (hc:q56 c):q9E (qrt l c):=by
 unfold qrt
 split
 ·exact h
 ·rename_i h2
  refine⟨fun x hx=>?_,qk6 h.ord fun x hx=>?_⟩
  ·unfold qha at hx
   rcases qLH.1 hx with hx|hx
   ·exact h.ok x (List.mem_of_mem_take hx)
   ·rcases qLz.1 hx with rfl|hx
    ·exact hc
    ·exact h.ok x (List.mem_of_mem_drop hx)
  ·rw[hx] at h2
   simpa using h2
theorem qnr (out:List qd) (hl:out.length≤1000) {d:qq} (hd:q32 d) (many:Int) (k:Nat) (hk:(k:Int)<many) (hk2:k≤1000):∃c d',q56 c∧q32 d'∧ZN many (out,d,(k:Int))=some (.inl (qrt out c,d',((k+1:Nat):Int))):=by
 obtain⟨c,d',h1,h2,h3⟩:=qgu hd
 refine⟨c,d',h2,h3,?_⟩
 have hML:100000≤maxLen:=by unfold maxLen;omega
 have hat:=qrc out c
 unfold ZN
 simp only
 rw[if_pos hk,h1,qLd]
 simp only
 rw[qsE out (by omega),qLd]
 have hwk:w64 ((k:Int)+1)=((k+1:Nat):Int):=by rw[ZC (by omega) (by omega)];omega
 have hwa:w64 (((atF out c:Nat):Int)+1)=((atF out c+1:Nat):Int):=by rw[ZC (by omega) (by omega)];omega
 rw[hwk,hwa]
 simp only[qLg,qLG,qM0,qLk,qLo,qLX]
 unfold qrt
 by_cases hlt:atF out c<out.length
 ·obtain⟨x,hx⟩:∃x,out[atF out c]?=some x:=⟨_,qLf hlt⟩
  rw[if_pos (by omega),if_pos ⟨by omega,by omega⟩,hx,qLd]
  simp only[Option.any_some]
  by_cases hc:ceq x c=true
  ·have hc2:=hc
   unfold ceq at hc2
   simp only[qLJ] at hc2
   rw[if_pos hc2,if_pos hc]
  ·have hc2:¬ ((x.School==c.School)=true∧(x.Code.toList==c.Code.toList)=true):=fun h=>hc (by unfold ceq;rw[h.1,h.2];rfl)
   rw[if_neg hc2,if_neg hc]
   repeat (first|rw[if_pos (by omega)]|rw[if_neg (by omega)])
   rw[qtI _ _ _ _ hlt]
 ·have he:atF out c=out.length:=by omega
  have hnone:out[out.length]?=none:=qLL (qLt _)
  rw[he,hnone]
  simp only[Option.any_none,Bool.false_eq_true,if_false]
  repeat (first|rw[if_pos (by omega)]|rw[if_neg (by omega)])
  rw[qpG]
theorem qGp {d:qq} (hd:q32 d):∃S d',J4 d=some (S,d')∧q32 d'∧q9E S∧1≤S.length∧S.length≤3:=by
 obtain⟨v,d1,e1,a1,b1,h1⟩:=q4g hd (most:=3) (by omega) (by omega)
 obtain⟨m,rfl⟩:∃m:Nat,v=(m:Int):=⟨v.toNat,by omega⟩
 have hw:w64 (1+(m:Int))=((m+1:Nat):Int):=by rw[ZC (by omega) (by omega)];omega
 have key:∀(j k:Nat) (out:List qd) (d:qq),j+k=m+1→q32 d→q9E out→out.length≤k→(1≤k→1≤out.length)→∃S d',zG (ZN ((m+1:Nat):Int)) (out,d,(k:Int))=some (S,d')∧q32 d'∧q9E S∧1≤S.length∧S.length≤m+1:=by
  intro j
  induction j with
  | zero=>
   intro k out d hk hd hs hl1 hl2
   refine⟨out,d,zD ?_,hd,hs,hl2 (by omega),by omega⟩
   unfold ZN
   simp only
   rw[if_neg (by omega)]
  | succ j ih=>
   intro k out d hk hd hs hl1 hl2
   obtain⟨c,d',g1,g2,g3⟩:=qnr out (by omega) hd ((m+1:Nat):Int) k (by omega) (by omega)
   obtain⟨p1,p2,p3⟩:=qvz out c
   rw[Q4 g3]
   exact ih (k+1) _ d' (by omega) g2 (qot hs g1) (by omega) (fun _=>p3)
 obtain⟨S,d',g1,g2,g3,g4,g5⟩:=key (m+1) 0 [] d1 (by omega) h1 ⟨by simp,rfl⟩ (by simp) (by omega)
 refine⟨S,d',?_,g2,g3,g4,by omega⟩
 unfold J4
 rw[e1,qLd,hw]
 rw[show((0:Nat):Int)=0 from rfl] at g1
 simp only
 rw[g1,qLd]
end
noncomputable section
open Go.RowKit
structure qaz (n:qb):Prop where
 kd:(n.Kind=2∧1≤n.N∧n.N≤12)∨(n.Kind=1∧n.N=0)
 mn:0≤n.Min∧n.Min≤80
 st:q9E n.Set
 s1:1≤n.Set.length
 s3:n.Set.length≤3
 nl:n.L=[]
structure qeH (n:qb):Prop where
 kd:(n.Kind=3∧n.N=0)∨(n.Kind=4∧1≤n.N∧n.N≤n.L.length)
 mn:n.Min=0
 st:n.Set=[]
 ne:n.L≠[]
def q6E (n:qb):Prop:=qaz n∨qeH n
structure q73 (deep leaves:Nat) (n:qb):Prop where
 ok:∀y∈ndN n,q6E y
 hg:hgN n≤deep+1
 l1:1≤lvN n
 l2:lvN n≤max 1 leaves
 nd:(ndN n).length≤lvN n*(deep+1)
theorem qb6 {n:qb} (h:qaz n) (deep leaves:Nat):q73 deep leaves n:=by
 have e1:ndN n=[n]:=by rw[q0g,h.nl,ndL]
 have e2:lvN n=1:=by rw[qbV,if_pos];rcases h.kd with h|h<;>simp[h.1]
 have e3:hgN n=1:=by rw[qiR,h.nl,hgL]
 refine⟨fun y hy=>?_,by omega,by omega,by omega,?_⟩
 ·rw[e1] at hy
  rw[qM4.1 hy];exact .inl h
 ·rw[e1,e2,qLv];omega
def qmJ (d:qq):Option (qb×qq):=Option.bind (qz (3:Int) d) fun a3=>if(a3.1==(0:Int))=Bool.true then Option.bind (qz (12:Int) a3.2) fun a4=>Option.bind (qz (3:Int) a4.2) fun a5=>if(0:Int)≤a5.1∧a5.1<(3:Int) then Option.bind [(0:Int),(50:Int),(60:Int)][Int.toNat a5.1]? fun a6=>Option.bind (J4 a5.2) fun a7=>some (qb.mk (2:Int) (w64 ((1:Int)+a4.1)) a6 a7.1 [],a7.2) else none else Option.bind (qz (4:Int) a3.2) fun a8=>if(0:Int)≤a8.1∧a8.1<(4:Int) then Option.bind [(0:Int),(50:Int),(60:Int),(80:Int)][Int.toNat a8.1]? fun a9=>Option.bind (J4 a8.2) fun a10=>some (qb.mk (1:Int) (0:Int) a9 a10.1 [],a10.2) else none
theorem qiL {d:qq} (hd:q32 d):∃n d',qmJ d=some (n,d')∧qaz n∧q32 d':=by
 obtain⟨v,d1,e1,a1,b1,h1⟩:=q4g hd (most:=3) (by omega) (by omega)
 unfold qmJ
 rw[e1,qLd]
 simp only
 by_cases hv:v=0
 ·obtain⟨w,d2,e2,a2,b2,h2⟩:=q4g h1 (most:=12) (by omega) (by omega)
  obtain⟨u,d3,e3,a3,b3,h3⟩:=q4g h2 (most:=3) (by omega) (by omega)
  obtain⟨x,hx,mx⟩:=qw4 [(0:Int),50,60] u a3 (by simpa using b3)
  obtain⟨S,d4,e4,h4,s1,s2,s3⟩:=qGp h3
  have hw:w64 (1+w)=1+w:=ZC (by omega) (by omega)
  have hm:∀x∈[(0:Int),50,60],0≤x∧x≤80:=by decide
  refine⟨⟨2,1+w,x,S,[]⟩,d4,?_,⟨.inl ⟨rfl,by show 1≤1+w;omega,by show 1+w≤12;omega⟩,hm x mx,s1,s2,s3,rfl⟩,h4⟩
  rw[if_pos (by simp[hv]),e2,qLd]
  simp only
  rw[e3,qLd]
  simp only
  rw[if_pos ⟨a3,b3⟩,hx,qLd,e4,qLd,hw]
 ·obtain⟨u,d3,e3,a3,b3,h3⟩:=q4g h1 (most:=4) (by omega) (by omega)
  obtain⟨x,hx,mx⟩:=qw4 [(0:Int),50,60,80] u a3 (by simpa using b3)
  obtain⟨S,d4,e4,h4,s1,s2,s3⟩:=qGp h3
  have hm:∀x∈[(0:Int),50,60,80],0≤x∧x≤80:=by decide
  refine⟨⟨1,0,x,S,[]⟩,d4,?_,⟨.inr ⟨rfl,rfl⟩,hm x mx,s1,s2,s3,rfl⟩,h4⟩
  rw[if_neg (by simpa using hv),e3,qLd]
  simp only
  rw[if_pos ⟨a3,b3⟩,hx,qLd,e4,qLd]
theorem q9U (rF:(Int×Int×qq)→Option (qb×qq)) (x1 x2:Int) (v:qq):q16 rF (x1,x2,v)=(qz 6 v).bind fun a2=>
  if x1≤0 then qmJ a2.2 else if x2<2 then qmJ a2.2 else if a2.1<2 then qmJ a2.2 else
  Option.bind (qz (min (3:Int) x2) a2.2) fun a27=>
  Option.bind (zG (Z6 rF (0:Int) (0:Int) (0:Int) (3:Int) (0:Int) (0:Int) x1 x2 a2.1 (w64 ((1:Int)+a27.1))) ([],(a27.2,(0:Int)))) fun a28=>
  if(3:Int)<a2.1 then Option.bind (qz (w64 ((1:Int)+a27.1)) a28.2) fun a29=>
   some (qb.mk (4:Int) (w64 ((1:Int)+a29.1)) (0:Int) [] a28.1,a29.2)
  else some (qb.mk (3:Int) (0:Int) (0:Int) [] a28.1,a28.2):=rfl
theorem qn9 {deep q:Nat} (hq:1≤q):∀(L:List qb),(∀y∈L,q73 deep q y)→hgL L≤deep+1∧L.length≤lvL L∧lvL L≤L.length*q∧(ndL L).length≤lvL L*(deep+1)∧∀y∈ndL L,q6E y
 | [],_=>⟨by simp[hgL],by simp[lvL],by simp[lvL],by simp[ndL],by simp[ndL]⟩
 | x::L,h=>by
  obtain⟨a,b,c,d,e⟩:=qn9 hq L fun y hy=>h y (qLl _ hy)
  obtain⟨f,g,i,j,k⟩:=h x qLs
  rw[Nat.max_eq_right hq] at j
  refine⟨?_,?_,?_,?_,?_⟩
  ·rw[hgL];omega
  ·rw[lvL,qLo];omega
  ·rw[lvL,qLo,Nat.add_mul];omega
  ·rw[ndL,lvL,qLk,Nat.add_mul];omega
  ·rw[ndL]
   intro y hy
   rcases qLH.1 hy with hy|hy
   ·exact f y hy
   ·exact e y hy
theorem qcX {n:qb} (h:qeH n) {deep leaves q:Nat} (hq:1≤q) (hk:n.L.length*q≤leaves) (hL:∀y∈n.L,q73 deep q y):q73 (deep+1) leaves n:=by
 obtain⟨a,b,c,d,e⟩:=qn9 hq n.L hL
 have hlen:1≤n.L.length:=by cases hn:n.L with|nil=>exact absurd hn h.ne|cons x l=>simp
 have e2:lvN n=lvL n.L:=by rw[qbV,if_neg];rcases h.kd with h|h<;>simp[h.1]
 refine⟨fun y hy=>?_,?_,by omega,by omega,?_⟩
 ·rw[q0g] at hy
  rcases qLz.1 hy with rfl|hy
  ·exact .inr h
  ·exact e y hy
 ·rw[qiR];omega
 ·rw[q0g,qLo,e2,show deep+1+1=(deep+1)+1 from rfl,Nat.mul_add];omega
theorem qlu:∀(deep leaves:Nat) (d:qq),deep≤10→leaves≤100→q32 d→∃n d',ZB ((deep:Int),(leaves:Int),d)=some (n,d')∧q73 deep leaves n∧q32 d':=by
 intro deep
 induction deep with
 | zero=>
  intro leaves d _ _ hd
  obtain⟨v,d1,e1,a1,b1,h1⟩:=q4g hd (most:=6) (by omega) (by omega)
  obtain⟨n,d',g1,g2,g3⟩:=qiL h1
  refine⟨n,d',?_,qb6 g2 _ _,g3⟩
  rw[q69,q9U,e1,qLd,if_pos (by omega)]
  exact g1
 | succ deep ih=>
  intro leaves d hdp hlv hd
  obtain⟨v,d1,e1,a1,b1,h1⟩:=q4g hd (most:=6) (by omega) (by omega)
  obtain⟨n0,d0,g1,g2,g3⟩:=qiL h1
  rw[q69,q9U,e1,qLd,if_neg (by omega)]
  by_cases hl:leaves<2
  ·exact⟨n0,d0,by rw[if_pos (by omega)];exact g1,qb6 g2 _ _,g3⟩
  ·rw[if_neg (by omega)]
   by_cases hv:v<2
   ·exact⟨n0,d0,by rw[if_pos hv];exact g1,qb6 g2 _ _,g3⟩
   ·rw[if_neg hv]
    clear g1 g2 g3 n0 d0
    obtain⟨w,d2,e2,a2,b2,h2⟩:=q4g h1 (most:=min 3 (leaves:Int)) (by omega) (by omega)
    simp only
    rw[e2,qLd]
    simp only
    obtain⟨m,hm⟩:∃m:Nat,(m:Int)=1+w:=⟨(1+w).toNat,by omega⟩
    have hw:w64 (1+w)=(m:Int):=by rw[ZC (by omega) (by omega)];omega
    rw[hw]
    have hm1:1≤m:=by omega
    have hm3:m≤3:=by omega
    have hml:m≤leaves:=by omega
    obtain⟨q,hq⟩:∃q,q=leaves / m:=⟨_,rfl⟩
    have hq1:1≤q:=by rw[hq];exact(Nat.le_div_iff_mul_le (by omega)).2 (by omega)
    have hqm:m*q≤leaves:=by rw[hq];exact Nat.mul_div_le _ _
    have hq2:q≤leaves:=by rw[hq];exact Nat.div_le_self _ _
    have hML:100000≤maxLen:=by unfold maxLen;omega
    have hdiv:w64 (Int.tdiv (leaves:Int) (m:Int))=(q:Int):=by
     rw[←Int.ofNat_tdiv,←hq,ZC (by omega) (by omega)]
    have hdeep:w64 (((deep+1:Nat):Int)-1)=(deep:Int):=by rw[ZC (by omega) (by omega)];omega
    have key:∀(j i:Nat) (l:List qb) (d:qq),j+i=m→l.length=i→(∀y∈l,q73 deep q y)→q32 d→∃l' d',zG (Z6 ZB 0 0 0 3 0 0 ((deep+1:Nat):Int) (leaves:Int) v (m:Int)) (l,d,(i:Int))=some (l',d')∧l'.length=m∧(∀y∈l',q73 deep q y)∧q32 d':=by
     intro j
     induction j with
     | zero=>
      intro i l d hi hl hy hd
      refine⟨l,d,zD ?_,by omega,hy,hd⟩
      unfold Z6
      simp only
      rw[if_neg (by omega)]
     | succ j ihj=>
      intro i l d hi hl hy hd
      obtain⟨n,d',q1,q2,q3⟩:=ih q d (by omega) (by omega) hd
      have hs:Z6 ZB 0 0 0 3 0 0 ((deep+1:Nat):Int) (leaves:Int) v (m:Int) (l,d,(i:Int))=some (.inl (l++[n],d',((i+1:Nat):Int))):=by
       unfold Z6
       simp only
       rw[if_pos (by omega),if_neg (by omega),hdiv,hdeep,q1,qLd]
       simp only
       rw[if_pos ⟨by omega,by omega⟩,ZC (by omega) (by omega)]
       rfl
      rw[Q4 hs]
      refine ihj (i+1) (l++[n]) d' (by omega) (by simp[hl]) (fun y hy2=>?_) q3
      rcases qLH.1 hy2 with h|h
      ·exact hy y h
      ·rw[qM4.1 h];exact q2
    obtain⟨l,d3,q1,q2,q3,q4⟩:=key m 0 [] d2 (by omega) rfl (by simp) h2
    rw[show((0:Nat):Int)=0 from rfl] at q1
    rw[q1,qLd]
    have hne:l≠[]:=fun h=>by rw[h] at q2;simp at q2;omega
    by_cases hv3:(3:Int)<v
    ·obtain⟨u,d4,e4,a4,b4,h4⟩:=q4g q4 (most:=(m:Int)) (by omega) (by omega)
     have hwu:w64 (1+u)=1+u:=ZC (by omega) (by omega)
     simp only
     rw[if_pos hv3,e4,qLd,hwu]
     exact⟨_,d4,rfl,qcX (q:=q) ⟨.inr ⟨rfl,by show 1≤1+u;omega,by show 1+u≤(l.length:Int);omega⟩,rfl,rfl,hne⟩ hq1 (by show l.length*q≤leaves;rw[q2];exact hqm) q3,h4⟩
    ·simp only
     rw[if_neg hv3]
     exact⟨_,d3,rfl,qcX (q:=q) ⟨.inl ⟨rfl,rfl⟩,rfl,rfl,hne⟩ hq1 (by show l.length*q≤leaves;rw[q2];exact hqm) q3,q4⟩
theorem qes {n:qb} (h:qaz n):q2y n=0:=by
 have h1:=h.s1
 have h3:=h.s3
 have hm:=h.mn
 have e1:inF n.Min (-1000) 1000=true:=by unfold inF;simp;omega
 have e2:inF n.Set.length 1 12=true:=by unfold inF;simp;omega
 have e3:n.Set.all q0M=true:=qLu.2 fun c hc=>q9D (h.st.ok c hc)
 unfold q2y
 rw[e1,e2,e3,h.st.ord]
 simp
theorem qnf {n:qb} (h:q6E n):q83 n=0:=by
 unfold q83
 rcases h with h|h
 ·have hc:=qes h
  rcases h.kd with ⟨k,a,b⟩|⟨k,a⟩
  ·have e:inF n.N 1 600=true:=by unfold inF;simp;omega
   simp[k,h.nl,e,hc]
  ·simp[k,h.nl,a,hc]
 ·have hb:q7B n=true:=by
   unfold q7B
   rw[h.mn,h.st]
   cases hL:n.L with
   | nil=>exact absurd hL h.ne
   | cons x l=>rfl
  rcases h.kd with ⟨k,a⟩|⟨k,a,b⟩
  ·simp[k,hb,a]
  ·have e:inF n.N 1 n.L.length=true:=by unfold inF;simp;omega
   simp[k,hb,e]
theorem qhJ:∀(l:List qb),(∀y∈l,q83 y=0)→qqZ l=none
 | [],_=>rfl
 | x::l,h=>by
  unfold qqZ
  rw[List.findSome?_cons,h x qLs]
  simp only[ne_eq,not_true_eq_false,if_false]
  exact qhJ l fun y hy=>h y (qLl _ hy)
theorem qDQ:∀(n:qb) (d m:Int),dpN d n m≤max m (d+hgN n-1):=by
 intro n
 induction n using qb.rec (motive_2:=fun L=>∀(d m:Int),dpL d L m≤max m (d+hgL L-1)) with
 | mk k n m S L ih=>
  intro d mm
  rw[dpN,hgN]
  have:=ih (d+1) (max mm d)
  omega
 | nil=>rename_i d m;rw[dpL];omega
 | cons x L h1 h2=>
  rename_i d m
  rw[dpL,hgL]
  have a:=h1 d m
  have b:=h2 d (dpN d x m)
  omega
theorem qg2:∀(n:qb),(∀y∈ndN n,q6E y)→((ndN n).filter q1o).length=lvN n:=by
 intro n
 induction n using qb.rec (motive_2:=fun L=>(∀y∈ndL L,q6E y)→((ndL L).filter q1o).length=lvL L) with
 | mk k n m S L ih=>
  intro h
  rw[ndN] at h ⊢
  have h0:=h _ qLs
  have hr:=ih fun y hy=>h y (qLl _ hy)
  rw[List.filter_cons,lvN]
  rcases h0 with h0|h0
  ·have e:L=[]:=h0.nl
   subst e
   have e1:k=1∨k=2:=by rcases h0.kd with h|h;exact .inr h.1;exact .inl h.1
   have e2:q1o ⟨k,n,m,S,[]⟩=true:=by unfold q1o;rcases e1 with rfl|rfl<;>rfl
   rw[if_pos e2,if_pos e1]
   simp[ndL]
  ·have e1:k=3∨k=4:=by rcases h0.kd with h|h;exact .inl h.1;exact .inr h.1
   have e2:q1o ⟨k,n,m,S,L⟩=false:=by unfold q1o;rcases e1 with rfl|rfl<;>rfl
   rw[e2,if_neg (by simp),if_neg (by omega),hr]
 | nil=>simp[ndL,lvL]
 | cons x L h1 h2=>
  rename_i h
  rw[ndL] at h ⊢
  rw[lvL,List.filter_append,qLk,h1 fun y hy=>h y (qLp _ hy),h2 fun y hy=>h y (qLm _ hy)]
theorem qde {n:qb} (h:∀y∈ndN n,q6E y):∀y∈ndN n,y.Set.length≤1000000:=fun y hy=>by
 rcases h y hy with h|h
 ·have:=h.s3;omega
 ·rw[h.st];simp
theorem qcW {n:qb} (h:q73 3 6 n):Jj n=some 0:=by
 have h1:=h.hg
 have h2:=h.l1
 have h3:=h.l2
 have h4:=h.nd
 rw[q8g n (by omega) (by omega) (qde h.ok)]
 unfold qcF
 have hf:=qg2 n h.ok
 have hd:=qDQ n 1 0
 have e:inF ((ndN n).filter q1o).length 1 8=true:=by unfold inF;rw[hf];simp;omega
 rw[if_neg (by omega),if_neg (by omega),e,if_neg (by simp),qhJ _ fun y hy=>qnf (h.ok y hy)]
 rfl
end
noncomputable section
open Go.RowKit
theorem qhi (x y:Nat):(x &&& y) / 2=(x / 2) &&& (y / 2):=by
 apply Nat.eq_of_testBit_eq
 intro i
 rw[Nat.testBit_div_two,Nat.testBit_and,Nat.testBit_and,Nat.testBit_div_two,Nat.testBit_div_two]
theorem qfM (x y:Nat):(x &&& y) % 2=if x % 2=1∧y % 2=1 then 1 else 0:=by
 have h:(x &&& y).testBit 0=(x.testBit 0&&y.testBit 0):=Nat.testBit_and x y 0
 rw[Nat.testBit_zero,Nat.testBit_zero,Nat.testBit_zero] at h
 have h1:x % 2<2:=Nat.mod_lt _ (by decide)
 have h2:y % 2<2:=Nat.mod_lt _ (by decide)
 have h3:(x &&& y) % 2<2:=Nat.mod_lt _ (by decide)
 by_cases hx:x % 2=1
 ·by_cases hy:y % 2=1
  ·rw[if_pos ⟨hx,hy⟩]
   simpa [hx,hy] using h
  ·rw[if_neg (fun h=>hy h.2)]
   have:¬ (x &&& y) % 2=1:=by simpa [hx,hy] using h
   omega
 ·rw[if_neg (fun h=>hx h.1)]
  have:¬ (x &&& y) % 2=1:=by simpa [hx] using h
  omega
theorem qoS:∀(sub set t:Nat),sub &&& set=sub→t &&& set=t→t<sub→t≤(sub-1) &&& set:=by
 intro sub
 induction sub using Nat.strongRecOn with
 | _ sub ih=>
  intro set t hs ht hlt
  have hs2:=qhi sub set
  have hsm:=qfM sub set
  have ht2:=qhi t set
  have htm:=qfM t set
  rw[hs] at hs2 hsm
  rw[ht] at ht2 htm
  have hr2:=qhi (sub-1) set
  have hrm:=qfM (sub-1) set
  by_cases hodd:sub % 2=1
  ·have e:(sub-1) / 2=sub / 2:=by omega
   rw[e,←hs2] at hr2
   have e2:(sub-1) % 2=0:=by omega
   rw[if_neg (by omega)] at hrm
   omega
  ·have hpos:sub / 2≠0:=by omega
   have e:(sub-1) / 2=sub / 2-1:=by omega
   rw[e] at hr2
   have hlt2:t / 2<sub / 2:=by omega
   have:=ih (sub / 2) (by omega) (set / 2) (t / 2) hs2.symm ht2.symm hlt2
   have hset:set % 2<2:=Nat.mod_lt _ (by decide)
   have e3:(sub-1) % 2=1:=by omega
   by_cases hm:set % 2=1
   ·rw[if_pos ⟨e3,hm⟩] at hrm
    have:t % 2<2:=Nat.mod_lt _ (by decide)
    omega
   ·rw[if_neg (fun h=>hm h.2)] at hrm htm
    omega
structure IsB (own:Nat→Bool) (best:Nat→Int) (set:Nat) (base v:Int):Prop where
 ge:base≤v
 all:∀t,t≠0→t &&& set=t→own t=true→0≤best (q1a set t)→best (q1a set t)+1≤v
 is:v=base∨∃t,t≠0∧t &&& set=t∧own t=true∧0≤best (q1a set t)∧v=best (q1a set t)+1
theorem qAC {own:Nat→Bool} {best:Nat→Int} {set:Nat}:∀(f sub:Nat) (v:Int),sub≤f→sub &&& set=sub→v≤eaF own best set f sub v∧(∀t,t≠0→t &&& set=t→t≤sub→own t=true→0≤best (q1a set t)→best (q1a set t)+1≤eaF own best set f sub v)∧
  (eaF own best set f sub v=v∨∃t,t≠0∧t &&& set=t∧own t=true∧0≤best (q1a set t)∧eaF own best set f sub v=best (q1a set t)+1):=by
 intro f
 induction f with
 | zero=>
  intro sub v hf _
  have:sub=0:=by omega
  subst this
  exact⟨Int.le_refl _,fun t h1 _ h3=>by omega,.inl rfl⟩
 | succ f ih=>
  intro sub v hf hs
  unfold eaF
  by_cases hz:sub=0
  ·rw[if_pos hz]
   exact⟨Int.le_refl _,fun t h1 _ h3=>by omega,.inl rfl⟩
  ·rw[if_neg hz]
   have ha:(sub-1) &&& set≤sub-1:=Nat.and_le_left
   have hb:((sub-1) &&& set) &&& set=(sub-1) &&& set:=by rw[Nat.and_assoc,Nat.and_self]
   obtain⟨i1,i2,i3⟩:=ih ((sub-1) &&& set) (eaV own best set sub v) (by omega) hb
   have hv:v≤eaV own best set sub v:=by unfold eaV;split<;>omega
   refine⟨by omega,fun t h1 h2 h3 h4 h5=>?_,?_⟩
   ·by_cases e:t=sub
    ·subst e
     have:best (q1a set t)+1≤eaV own best set t v:=by unfold eaV;rw[if_pos ⟨h4,h5⟩];omega
     omega
    ·exact i2 t h1 h2 (qoS sub set t hs h2 (by omega)) h4 h5
   ·rcases i3 with e|h
    ·by_cases hc:own sub=true∧0≤best (q1a set sub)
     ·have e2:eaV own best set sub v=max v (best (q1a set sub)+1):=by unfold eaV;rw[if_pos hc]
      by_cases hm:v≤best (q1a set sub)+1
      ·exact .inr ⟨sub,hz,hs,hc.1,hc.2,by rw[e,e2];omega⟩
      ·exact .inl (by rw[e,e2];omega)
     ·exact .inl (by rw[e];unfold eaV;rw[if_neg hc])
    ·exact .inr h
theorem qkC (skip:Bool) (own:Nat→Bool) (best:Nat→Int) (set:Nat):IsB own best set (if skip=true then best set else -1) (stF skip own best set):=by
 obtain⟨h1,h2,h3⟩:=qAC (own:=own) (best:=best) (set:=set) set set (if skip=true then best set else -1) (qLt _) (Nat.and_self _)
 refine⟨h1,fun t t1 t2 t3 t4=>h2 t t1 t2 ?_ t3 t4,h3⟩
 rw[←t2];exact Nat.and_le_right
theorem qlE {w m j:Nat} (h:m<2 ^ w) (hj:m.testBit j=true):j<w:=by
 rcases Nat.lt_or_ge j w with h1|h1
 ·exact h1
 ·rw[Nat.testBit_lt_two_pow (qLN h (Nat.pow_le_pow_right (by decide) h1))] at hj
  cases hj
def qhN (n:qb) (s:qg) (x:qK) (a:qa):qK:=⟨w64 (x.many+1),w64 (x.credits+a.Credits),x.fine&&q8i n s a⟩
def QW {α:Type} (p:Nat→Bool):List α→List α
 | []=>[]
 | a::l=>(if p 0=true then[a] else[])++QW (fun j=>p (j+1)) l
theorem qfX (n:qb) (s:qg) (set:Nat):∀(l:List qa) (k:Nat) (x:qK),wgF n s set l k x=(QW (fun j=>set.testBit (k+j)) l).foldl (qhN n s) x
 | [],k,x=>rfl
 | a::l,k,x=>by
  rw[wgF,QW,qfX n s set l (k+1),List.foldl_append,show(fun j=>set.testBit (k+(j+1)))=fun j=>set.testBit (k+1+j) from funext fun j=>by rw[Nat.add_right_comm,qM7]]
  congr 1
  cases set.testBit (k+0)<;>simp[qhN]
theorem q3m {α:Type}:∀{l:List α} {p q:Nat→Bool},(∀j,j<l.length→p j=q j)→QW p l=QW q l
 | [],_,_,_=>rfl
 | a::l,p,q,h=>by
  rw[QW,QW,h 0 (by simp),q3m fun j hj=>h (j+1) (by simpa using hj)]
theorem q5K {α:Type}:∀(l:List α) (a:α) (p:Nat→Bool),QW p (l++[a])=QW p l++(if p l.length=true then[a] else[])
 | [],a,p=>by simp[QW]
 | b::l,a,p=>by rw[qMk,QW,q5K l a,QW,qLT];rfl
end
noncomputable section
open Go.RowKit
def qfl (n:qb) (s:qg) (l:List qa) (p:Nat→Bool):qK:=(QW p l).foldl (qhN n s) ld0
mutual
def q3R (s:qg) (l:List qa) (a:Nat→Int):qb→Nat→Bool×Bool
 | ⟨k,n,m,S,L⟩,nx=>if k=1∨k=2 then((qfl ⟨k,n,m,S,L⟩ s l (fun j=>a j==(nx:Int))).many==0,qca ⟨k,n,m,S,L⟩ (qfl ⟨k,n,m,S,L⟩ s l (fun j=>a j==(nx:Int))))
  else((q1I s l a (k==3) L nx).1,!(q1I s l a (k==3) L nx).2.2&&decide (n≤((q1I s l a (k==3) L nx).2.1:Int)))
def q1I (s:qg) (l:List qa) (a:Nat→Int) (al:Bool):List qb→Nat→Bool×Nat×Bool
 | [],_=>(true,0,false)
 | x::L,nx=>((q3R s l a x nx).1&&(q1I s l a al L (nx+lvN x)).1,(if(q3R s l a x nx).2=true then 1 else 0)+(q1I s l a al L (nx+lvN x)).2.1,
   (!(q3R s l a x nx).2&&(!(q3R s l a x nx).1||al))||(q1I s l a al L (nx+lvN x)).2.2)
end
theorem q41 (s:qg) (l:List qa) (a:Nat→Int) (n:qb) (nx:Nat):q3R s l a n nx=if n.Kind=1∨n.Kind=2 then((qfl n s l (fun j=>a j==(nx:Int))).many==0,qca n (qfl n s l (fun j=>a j==(nx:Int))))
  else((q1I s l a (n.Kind==3) n.L nx).1,!(q1I s l a (n.Kind==3) n.L nx).2.2&&decide (n.N≤((q1I s l a (n.Kind==3) n.L nx).2.1:Int))):=by
 cases n;rw[q3R]
structure q1E (n:qb):Prop where
 kind:n.Kind=1∨n.Kind=2∨n.Kind=3∨n.Kind=4
 all:n.Kind=3→n.N≤(n.L.length:Int)∧n.L≠[]
 some:n.Kind=4→1≤n.N
theorem q9g (n:qb):n∈ndN n:=by rw[q0g];exact qLs ..
theorem q4k (s:qg) (l:List qa) (a b:Nat→Int):∀(n:qb) (nx:Nat),(∀k,k<l.length→∀x:Int,(nx:Int)≤x→x<((nx+lvN n:Nat):Int)→(a k=x↔b k=x))→q3R s l a n nx=q3R s l b n nx:=by
 intro n
 induction n using qb.rec (motive_2:=fun L=>∀(al:Bool) (nx:Nat),(∀k,k<l.length→∀x:Int,(nx:Int)≤x→x<((nx+lvL L:Nat):Int)→(a k=x↔b k=x))→q1I s l a al L nx=q1I s l b al L nx) with
 | mk k n m S L ih=>
  intro nx h
  rw[q41,q41]
  rw[lvN] at h
  by_cases hk:k=1∨k=2
  ·rw[if_pos hk] at h
   rw[if_pos hk,if_pos hk]
   have:QW (fun j=>a j==(nx:Int)) l=QW (fun j=>b j==(nx:Int)) l:=q3m fun j hj=>by
    have:=h j hj nx (Int.le_refl _) (by omega)
    by_cases e:a j=nx
    ·rw[e,this.1 e]
    ·have e':¬ b j=nx:=fun e2=>e (this.2 e2)
     rw[beq_eq_false_iff_ne.2 e,beq_eq_false_iff_ne.2 e']
   unfold qfl
   rw[this]
  ·rw[if_neg hk] at h
   rw[if_neg hk,if_neg hk]
   simp only
   rw[ih _ nx h]
 | nil=>rw[q1I,q1I]
 | cons x L h1 h2=>
  rename_i al nx h
  rw[lvL] at h
  rw[q1I,q1I,h1 nx (fun k hk y hy hy2=>h k hk y hy (by omega)),h2 al (nx+lvN x) (fun k hk y hy hy2=>h k hk y (by omega) (by omega))]
theorem qeA (n:qb) (s:qg):∀(L:List qa) (x:qK),0≤x.many→x.many+L.length≤9223372036854775807→(L.foldl (qhN n s) x).many=x.many+L.length
 | [],x,_,_=>by simp
 | a::L,x,h0,h=>by
  rw[qLo] at h
  have hw:w64 (x.many+1)=x.many+1:=ZC (by omega) (by omega)
  rw[qMi,qeA n s L (qhN n s x a) (by unfold qhN;simp only;omega) (by unfold qhN;simp only;omega),qLo]
  unfold qhN
  simp only
  omega
theorem q6G {α:Type}:∀(l:List α) (p:Nat→Bool),(QW p l).length≤l.length
 | [],_=>by simp[QW]
 | a::l,p=>by
  have:=q6G l (fun j=>p (j+1))
  rw[QW,qLk,qLo]
  split<;>simp<;>omega
theorem qdu {α:Type}:∀(l:List α) (p:Nat→Bool),(QW p l).length=0↔∀k,k<l.length→p k=false
 | [],_=>by simp[QW]
 | a::l,p=>by
  have ih:=qdu l (fun j=>p (j+1))
  rw[QW,qLk]
  constructor
  ·intro h k hk
   cases k with
   | zero=>
    by_cases e:p 0=true
    ·rw[if_pos e] at h;simp at h
    ·simpa using e
   | succ k=>exact ih.1 (by omega) k (by simpa using hk)
  ·intro h
   rw[ih.2 fun k hk=>h (k+1) (by simpa using hk),if_neg (by rw[h 0 (by simp)];decide)]
   try rfl
theorem qnz (n:qb) (s:qg) (l:List qa) (hl:l.length≤62) (p:Nat→Bool):(qfl n s l p).many=((QW p l).length:Int):=by
 have:=q6G l p
 unfold qfl
 rw[qeA n s _ _ (by decide) (by show(0:Int)+_≤_;omega)]
 show(0:Int)+_=_
 omega
theorem q7X (s:qg) (l:List qa) (hl:l.length≤62) (a:Nat→Int):∀(n:qb) (nx:Nat),(q3R s l a n nx).1=true↔∀k,k<l.length→¬((nx:Int)≤a k∧a k<((nx+lvN n:Nat):Int)):=by
 intro n
 induction n using qb.rec (motive_2:=fun L=>∀(al:Bool) (nx:Nat),(q1I s l a al L nx).1=true↔∀k,k<l.length→¬((nx:Int)≤a k∧a k<((nx+lvL L:Nat):Int))) with
 | mk k n m S L ih=>
  intro nx
  rw[q41,lvN]
  by_cases hk:k=1∨k=2
  ·rw[if_pos hk,if_pos hk]
   simp only
   rw[qnz _ _ _ hl,beq_iff_eq,show(((QW (fun j=>a j==(nx:Int)) l).length:Int)=0)↔(QW (fun j=>a j==(nx:Int)) l).length=0 from by omega,qdu]
   constructor
   ·intro h k hk h2
    have:=beq_eq_false_iff_ne.1 (h k hk)
    omega
   ·intro h k hk
    have:=h k hk
    exact beq_eq_false_iff_ne.2 (by omega)
  ·rw[if_neg hk,if_neg hk]
   exact ih _ nx
 | nil=>rename_i al nx;rw[q1I,lvL];simp only[true_iff];intro k hk;omega
 | cons x L h1 h2=>
  rename_i al nx
  rw[q1I,lvL,qLJ,h1,h2]
  constructor
  ·intro h k hk
   have a1:=h.1 k hk
   have a2:=h.2 k hk
   omega
  ·intro h
   exact⟨fun k hk=>by have:=h k hk;omega,fun k hk=>by have:=h k hk;omega⟩
theorem qgb (s:qg) (l:List qa) (a:Nat→Int):∀(n:qb) (nx:Nat),(∀y∈ndN n,q1E y)→(q3R s l a n nx).2=true→(q3R s l a n nx).1=false:=by
 intro n
 induction n using qb.rec (motive_2:=fun L=>∀(al:Bool) (nx:Nat),(∀y∈ndL L,q1E y)→(q1I s l a al L nx).1=true→(q1I s l a al L nx).2.1=0∧(al=true→(q1I s l a al L nx).2.2=false→L=[])) with
 | mk k n m S L ih=>
  intro nx hf h
  have hn:=hf _ (q9g _)
  rw[q41] at h ⊢
  by_cases hk:k=1∨k=2
  ·rw[if_pos hk] at h ⊢
   simp only at h ⊢
   generalize qfl ⟨k,n,m,S,L⟩ s l (fun j=>a j==(nx:Int))=x at h
   unfold qca at h
   simp only at h
   refine beq_eq_false_iff_ne.2 fun e=>?_
   rw[e] at h
   split at h<;>simp at h
  ·rw[if_neg hk] at h ⊢
   simp only at h ⊢
   refine qLF.2 fun e=>?_
   obtain⟨h1,h2⟩:=ih (k==3) nx (fun y hy=>hf y (by rw[ndN];exact qLl _ hy)) e
   rw[qLJ,h1,qMd] at h
   rcases hn.kind with q|q|q|q
   ·exact hk (.inl q)
   ·exact hk (.inr q)
   ·simp only at q
    subst q
    exact(hn.all rfl).2 (h2 (by decide) (by simpa using h.1))
   ·have:=hn.some q
    simp only at this
    omega
 | nil=>rename_i al nx _ _;rw[q1I];exact⟨rfl,fun _ _=>rfl⟩
 | cons x L h1 h2=>
  rename_i al nx hf h
  rw[q1I] at h ⊢
  simp only at h ⊢
  rw[qLJ] at h
  have hx:(q3R s l a x nx).2=false:=by
   refine qLF.2 fun e=>?_
   have:=h1 nx (fun y hy=>hf y (by rw[ndL];exact qLp _ hy)) e
   rw[this] at h
   exact absurd h.1 (by decide)
  obtain⟨h3,h4⟩:=h2 al (nx+lvN x) (fun y hy=>hf y (by rw[ndL];exact qLm _ hy)) h.2
  rw[hx,h3]
  refine⟨by simp,fun ha hw=>?_⟩
  rw[ha] at hw
  simp at hw
end
noncomputable section
open Go.RowKit
def mkS (p:Nat→Bool):Nat→Nat
 | 0=>0
 | n+1=>mkS p n ||| (if p n=true then 2 ^ n else 0)
theorem qdm (p:Nat→Bool):∀(n k:Nat),(mkS p n).testBit k=(decide (k<n)&&p k)
 | 0,k=>by simp[mkS]
 | n+1,k=>by
  rw[mkS,Nat.testBit_or,qdm p n k]
  by_cases e:k=n
  ·subst e
   by_cases hp:p k=true
   ·rw[if_pos hp,Nat.testBit_two_pow];simp[hp]
   ·rw[if_neg hp];simp[qLF.2 hp]
  ·have h1:(if p n=true then 2 ^ n else 0).testBit k=false:=by
    split
    ·rw[Nat.testBit_two_pow];exact decide_eq_false (fun h=>e h.symm)
    ·exact Nat.zero_testBit k
   rw[h1,Bool.or_false]
   have:decide (k<n+1)=decide (k<n):=by
    by_cases h:k<n
    ·rw[qMe h,qMe (by omega)]
    ·rw[decide_eq_false h,decide_eq_false (by omega)]
   rw[this]
theorem qxL (p:Nat→Bool) (n:Nat):mkS p n<2 ^ n:=Nat.lt_pow_two_of_testBit _ fun i hi=>by
 rw[qdm,decide_eq_false (by omega)];rfl
theorem qkM (leaf:Int) (set:Nat):∀(d:List Int) (i:Nat),alG leaf set d i=true↔∀(k:Nat) (x:Int),d[k]?=some x→(set.testBit (i+k)=true↔x=leaf)
 | [],i=>by simp[alG]
 | y::d,i=>by
  rw[alG,qLJ,qkM leaf set d (i+1),beq_iff_eq]
  constructor
  ·intro h k x hx
   cases k with
   | zero=>
    simp only[qLn,qM3] at hx
    subst hx
    rw[Nat.add_zero,h.1,beq_iff_eq]
   | succ k=>
    rw[qLC] at hx
    have:=h.2 k x hx
    rwa [Nat.add_right_comm,qM7] at this
  ·intro h
   refine⟨?_,fun k x hx=>?_⟩
   ·have:=h 0 y (by simp)
    rw[Nat.add_zero] at this
    by_cases e:y=leaf
    ·rw[this.2 e,beq_iff_eq.2 e]
    ·rw[beq_eq_false_iff_ne.2 e];exact qLF.2 fun h2=>e (this.1 h2)
   ·have:=h (k+1) x (by rw[qLC];exact hx)
    rwa [show i+1+k=i+(k+1) from by omega]
theorem quk (d:List Int) (leaf set:Nat):alF d leaf set=true↔∀(k:Nat) (x:Int),d[k]?=some x→(set.testBit k=true↔x=(leaf:Int)):=by
 unfold alF
 rw[qkM]
 simp only[qLB]
theorem qmO (d:List Int) (a b:Nat):foF d a b=true↔∃(k:Nat) (x:Int),d[k]?=some x∧(a:Int)≤x∧x<(b:Int):=by
 unfold foF
 rw[qM8]
 constructor
 ·rintro⟨x,hx,h⟩
  obtain⟨k,hk⟩:=List.mem_iff_getElem?.1 hx
  rw[qLJ,qMd,qMd] at h
  exact⟨k,x,hk,h⟩
 ·rintro⟨k,x,hk,h⟩
  exact⟨x,List.mem_iff_getElem?.2 ⟨k,hk⟩,by rw[qLJ,qMd,qMd];exact h⟩
structure Asg (d:List Int) (a:Nat→Int) (lo w set:Nat):Prop where
 inn:∀k,set.testBit k=true→(lo:Int)≤a k∧a k<((lo+w:Nat):Int)
 out:∀k,set.testBit k=false→a k = -1
 com:∀k y,d[k]?=some y→∀x:Int,(lo:Int)≤x→x<((lo+w:Nat):Int)→(y=x↔a k=x)
theorem Asg.bit {d:List Int} {a:Nat→Int} {lo w set:Nat} (h:Asg d a lo w set) (k:Nat) (h1:(lo:Int)≤a k):set.testBit k=true:=by
 by_cases e:set.testBit k=true
 ·exact e
 ·have:=h.out k (qLF.2 e)
  omega
theorem q9q (s:qg) (l:List qa) (a b:Nat→Int) (al:Bool):∀(L:List qb) (nx:Nat),(∀k,k<l.length→∀x:Int,(nx:Int)≤x→x<((nx+lvL L:Nat):Int)→(a k=x↔b k=x))→q1I s l a al L nx=q1I s l b al L nx
 | [],nx,_=>by rw[q1I,q1I]
 | x::L,nx,h=>by
  rw[lvL] at h
  rw[q1I,q1I,q4k s l a b x nx (fun k hk y hy hy2=>h k hk y hy (by omega)),q9q s l a b al L (nx+lvN x) (fun k hk y hy hy2=>h k hk y (by omega) (by omega))]
theorem qhE (s:qg) (l:List qa) (a:Nat→Int):∀(L:List qb) (nx:Nat),(q1I s l a true L nx).2.2=false→(q1I s l a true L nx).2.1=L.length
 | [],nx,_=>by rw[q1I];rfl
 | x::L,nx,h=>by
  rw[q1I] at h ⊢
  simp only at h ⊢
  rw[Bool.or_eq_false_iff] at h
  have hx:(q3R s l a x nx).2=true:=by
   have:=h.1
   rw[Bool.or_true,qMg] at this
   simpa using this
  rw[if_pos hx,qhE s l a L _ h.2,qLo]
  omega
theorem qeE (set:Nat):q1a set 0=set:=Nat.eq_of_testBit_eq fun i=>by rw[Z0];simp
theorem q9y {t s:Nat} (h:t &&& s=t) {k:Nat} (hk:t.testBit k=true):s.testBit k=true:=by
 rw[←h,Nat.testBit_and,qLJ] at hk
 exact hk.2
theorem qeu {t s:Nat} (h:∀k,t.testBit k=true→s.testBit k=true):t &&& s=t:=Nat.eq_of_testBit_eq fun i=>by
 rw[Nat.testBit_and]
 by_cases e:t.testBit i=true
 ·rw[e,h i e];rfl
 ·rw[qLF.2 e];rfl
theorem qpK (d:List Int) (s:qg) (l:List qa) (n:qb) (hk:n.Kind=1∨n.Kind=2) (nx set:Nat) (hlt:set<2 ^ l.length) (hl:l.length≤62) :
  q1C d s l n nx set=true↔∃a,Asg d a nx 1 set∧qca n (qfl n s l (fun j=>a j==(nx:Int)))=true:=by
 have key:∀a,Asg d a nx 1 set→qfl n s l (fun j=>a j==(nx:Int))=wgF n s set l 0 ld0:=fun a ha=>by
  rw[qfX]
  unfold qfl
  rw[q3m (p:=fun j=>a j==(nx:Int)) (q:=fun j=>set.testBit (0+j)) fun j hj=>?_]
  rw[qLB]
  by_cases e:set.testBit j=true
  ·have:=ha.inn j e
   rw[e,beq_iff_eq]
   omega
  ·rw[qLF.2 e,ha.out j (qLF.2 e)]
   exact beq_eq_false_iff_ne.2 (by omega)
 unfold q1C
 rw[qLJ,qLJ,qMd,quk]
 constructor
 ·rintro⟨h0,h1,h2⟩
  have ha:Asg d (fun k=>if set.testBit k=true then(nx:Int) else -1) nx 1 set:={
   inn:=fun k hk=>by simp only[hk,if_true];omega
   out:=fun k hk=>by simp only[hk];rfl
   com:=fun k y hy x hx hx2=>by
    have e:x=nx:=by omega
    subst e
    rw[←h1 k y hy]
    show set.testBit k=true↔(if set.testBit k=true then(nx:Int) else -1)=(nx:Int)
    by_cases e:set.testBit k=true
    ·rw[if_pos e];exact⟨fun _=>rfl,fun _=>e⟩
    ·rw[if_neg e];exact⟨fun h=>absurd h e,fun h=>by omega⟩ }
  exact⟨_,ha,by rw[key _ ha];exact h2⟩
 ·rintro⟨a,ha,hm⟩
  rw[key a ha] at hm
  refine⟨fun e=>?_,fun k x hx=>?_,hm⟩
  ·have h3:QW (fun j=>set.testBit (0+j)) l=[]:=qLw ((qdu _ _).2 fun k hk=>by rw[e];exact Nat.zero_testBit _)
   rw[qfX,h3] at hm
   unfold qca ld0 at hm
   simp only[List.foldl_nil] at hm
   split at hm<;>simp at hm
  ·constructor
   ·intro hb
    have:=ha.inn k hb
    exact(ha.com k x hx (nx:Int) (by omega) (by omega)).2 (by omega)
   ·intro e
    have:=(ha.com k x hx (nx:Int) (by omega) (by omega)).1 e
    exact ha.bit k (by omega)
theorem qvV (s:qg) (l:List qa) (hl:l.length≤62) (a:Nat→Int) (n:qb) (nx:Nat) (hf:∀y∈ndN n,q1E y) (h:∀k,¬((nx:Int)≤a k∧a k<((nx+lvN n:Nat):Int))):(q3R s l a n nx).1=true∧(q3R s l a n nx).2=false:=by
 have h1:=(q7X s l hl a n nx).2 fun k _=>h k
 refine⟨h1,qLF.2 fun e=>?_⟩
 rw[qgb s l a n nx hf e] at h1
 exact absurd h1 (by decide)
theorem q4w (d:List Int) (s:qg) (l:List qa) (hl:l.length≤62):∀(n:qb) (nx set:Nat),(∀y∈ndN n,q1E y)→set<2 ^ l.length→
  (QH d s l n nx set=true↔∃a,Asg d a nx (lvN n) set∧(q3R s l a n nx).2=true):=by
 intro n
 induction n using qb.rec (motive_2:=fun L=>∀(sk:Bool) (nx:Nat) (b:Nat→Int) (set:Nat),(∀y∈ndL L,q1E y)→set<2 ^ l.length→
   (0≤qae d s l sk L nx b set→∃s1 a,s1 &&& set=s1∧0≤b s1∧Asg d a nx (lvL L) (q1a set s1)∧(q1I s l a (!sk) L nx).2.2=false∧qae d s l sk L nx b set=b s1+((q1I s l a (!sk) L nx).2.1:Int))∧
   (∀s1 a,s1 &&& set=s1→0≤b s1→Asg d a nx (lvL L) (q1a set s1)→(q1I s l a (!sk) L nx).2.2=false→b s1+((q1I s l a (!sk) L nx).2.1:Int)≤qae d s l sk L nx b set)) with
 | mk k n m S L ih=>
  intro nx set hf hlt
  have hn:=hf _ (q9g _)
  have hfL:∀y∈ndL L,q1E y:=fun y hy=>hf y (by rw[ndN];exact qLl _ hy)
  rw[qbw,qbV]
  simp only[q41]
  by_cases hk:k=1∨k=2
  ·rw[if_pos hk,if_pos hk]
   simp only[if_pos hk]
   exact qpK d s l _ hk nx set hlt hl
  ·rw[if_neg hk,if_neg hk]
   simp only[if_neg hk]
   have hk4:(!(k==4))=(k==3):=by
    rcases hn.kind with q|q|q|q<;>simp only at q<;>subst q<;>first|decide|exact absurd (by decide) hk
   obtain⟨i1,i2⟩:=ih (k==4) nx b0F set hfL hlt
   rw[hk4] at i1 i2
   rw[qLJ,qMd,qMd]
   constructor
   ·rintro⟨h0,h1⟩
    have hz:0≤qae d s l (k==4) L nx b0F set:=by
     rcases hn.kind with q|q|q|q
     ·exact absurd (.inl q) hk
     ·exact absurd (.inr q) hk
     ·simp only at q
      rw[if_pos q] at h1
      omega
     ·have:=hn.some q
      simp only at q this
      rw[if_neg (by omega)] at h1
      omega
    obtain⟨s1,a,e1,e2,e3,e4,e5⟩:=i1 hz
    have hs1:s1=0:=by
     unfold b0F at e2
     by_cases e:s1=0
     ·exact e
     ·rw[if_neg e] at e2;omega
    subst hs1
    rw[qeE] at e3
    refine⟨a,e3,?_⟩
    rw[e4,Bool.not_false,qLK,qMd]
    have hb0:b0F 0=0:=rfl
    rw[hb0] at e5
    by_cases q:k=3
    ·rw[if_pos q] at h1
     have:=(hn.all q).1
     simp only at this
     omega
    ·rw[if_neg q] at h1
     omega
   ·rintro⟨a,ha,hm⟩
    rw[qLJ,qMd] at hm
    have hw:(q1I s l a (k==3) L nx).2.2=false:=by simpa using hm.1
    have hb0:b0F 0=0:=rfl
    have h2:=i2 0 a (Nat.zero_and _) (by rw[hb0];exact Int.le_refl _) (by rw[qeE];exact ha) hw
    rw[hb0] at h2
    have h3:(q3R s l a ⟨k,n,m,S,L⟩ nx).1=false:=qgb s l a _ nx hf (by rw[q41,if_neg hk];simp only;rw[qLJ,qMd];exact hm)
    refine⟨fun e=>?_,?_⟩
    ·have h4:(q3R s l a ⟨k,n,m,S,L⟩ nx).1=true:=(q7X s l hl a _ nx).2 fun j _ hj=>by
      have:=ha.bit j hj.1
      rw[e,Nat.zero_testBit] at this
      exact absurd this (by decide)
     rw[h3] at h4
     exact absurd h4 (by decide)
    ·by_cases q:k=3
     ·rw[if_pos q]
      have h5:(k==3)=true:=by rw[q];rfl
      rw[h5] at hw h2
      rw[qhE s l a L nx hw] at h2
      omega
     ·rw[if_neg q]
      omega
 | nil=>
  rename_i sk nx b set hf hlt
  rw[lvL,qae]
  refine⟨fun h=>⟨set,fun _ => -1,Nat.and_self _,h,⟨fun k hk=>?_,fun _ _=>rfl,fun k y hy x hx hx2=>by omega⟩,by rw[q1I],by rw[q1I];simp⟩,fun s1 a h1 h2 h3 h4=>?_⟩
  ·rw[Z0] at hk
   cases h:set.testBit k<;>rw[h] at hk<;>simp at hk
  ·have:s1=set:=Nat.eq_of_testBit_eq fun i=>by
    by_cases e:(q1a set s1).testBit i=true
    ·have:=h3.inn i e
     omega
    ·rw[Z0] at e
     by_cases e2:s1.testBit i=true
     ·rw[e2,q9y h1 e2]
     ·cases h:set.testBit i
      ·exact qLF.2 e2
      ·rw[h,qLF.2 e2] at e
       exact absurd rfl e
   subst this
   rw[q1I]
   simp
 | cons x L h1 h2=>
  rename_i sk nx b set hf hlt
  have hfx:∀y∈ndN x,q1E y:=fun y hy=>hf y (by rw[ndL];exact qLp _ hy)
  have hfL:∀y∈ndL L,q1E y:=fun y hy=>hf y (by rw[ndL];exact qLm _ hy)
  obtain⟨i1,i2⟩:=h2 sk (nx+lvN x) (stF (sk && !foF d nx (nx+lvN x)) (QH d s l x nx) b) set hfL hlt
  rw[lvL,qae]
  simp only[q1I]
  constructor
  ·intro h0
   obtain⟨s1,a1,e1,e2,e3,e4,e5⟩:=i1 h0
   have hI:=qkC (sk && !foF d nx (nx+lvN x)) (QH d s l x nx) b s1
   rcases hI.is with e|⟨t,t1,t2,t3,t4,e⟩
   ·have hsk:(sk && !foF d nx (nx+lvN x))=true:=by
     refine Classical.byContradiction fun hc=>?_
     rw[if_neg hc] at e
     omega
    rw[if_pos hsk] at e
    rw[qLJ] at hsk
    have hfo:¬ foF d nx (nx+lvN x)=true:=by simpa using hsk.2
    rw[qmO] at hfo
    have hr:∀k,¬((nx:Int)≤a1 k∧a1 k<((nx+lvN x:Nat):Int)):=fun k hk=>by
     by_cases hb:(q1a set s1).testBit k=true
     ·have:=e3.inn k hb;omega
     ·have:=e3.out k (qLF.2 hb);omega
    obtain⟨v1,v2⟩:=qvV s l hl a1 x nx hfx hr
    refine⟨s1,a1,e1,by omega,⟨fun k hk=>by have:=e3.inn k hk;omega,e3.out,fun k y hy z hz hz2=>?_⟩,?_,?_⟩
    ·by_cases hz3:z<((nx+lvN x:Nat):Int)
     ·constructor
      ·intro e;subst e;exact absurd ⟨k,y,hy,hz,hz3⟩ hfo
      ·intro e;exact absurd ⟨by omega,by omega⟩ (hr k)
     ·exact e3.com k y hy z (by omega) (by omega)
    ·rw[v1,v2,e4,hsk.1];rfl
    ·rw[e5,e,v2];simp
   ·obtain⟨a2,ha2,hm2⟩:=(h1 nx t hfx (qLP (qLO (by rw[←t2];exact Nat.and_le_right) (by rw[←e1];exact Nat.and_le_right)) hlt)).1 t3
    have hts:∀k,t.testBit k=true→s1.testBit k=true:=fun k hk=>q9y t2 hk
    have hss:∀k,s1.testBit k=true→set.testBit k=true:=fun k hk=>q9y e1 hk
    have hin:∀k,t.testBit k=true→(fun k=>if t.testBit k=true then a2 k else a1 k) k=a2 k:=fun k hk=>by show(if _ then _ else _)=_;rw[if_pos hk]
    have hnot:∀k,t.testBit k=false→(fun k=>if t.testBit k=true then a2 k else a1 k) k=a1 k:=fun k hk=>by show(if _ then _ else _)=_;rw[if_neg (by rw[hk];decide)]
    generalize (fun k=>if t.testBit k=true then a2 k else a1 k)=a at hin hnot
    have ht1:∀k,t.testBit k=true→a1 k = -1:=fun k hk=>e3.out k (by rw[Z0,hts k hk];simp)
    have hu1:∀k,t.testBit k=false→a2 k = -1:=fun k hk=>ha2.out k hk
    have hc1:q3R s l a x nx=q3R s l a2 x nx:=q4k s l a a2 x nx fun k _ z hz hz2=>by
     cases hb:t.testBit k
     ·rw[hnot k hb,hu1 k hb]
      by_cases hb2:(q1a set s1).testBit k=true
      ·have:=e3.inn k hb2;omega
      ·have:=e3.out k (qLF.2 hb2);omega
     ·rw[hin k hb]
    have hc2:q1I s l a (!sk) L (nx+lvN x)=q1I s l a1 (!sk) L (nx+lvN x):=q9q s l a a1 (!sk) L (nx+lvN x) fun k _ z hz hz2=>by
     cases hb:t.testBit k
     ·rw[hnot k hb]
     ·rw[hin k hb,ht1 k hb]
      have:=ha2.inn k hb
      omega
    refine⟨q1a s1 t,a,?_,t4,⟨fun k hk=>?_,fun k hk=>?_,fun k y hy z hz hz2=>?_⟩,?_,?_⟩
    ·exact qeu fun k hk=>hss k (by rw[Z0,qLJ] at hk;exact hk.1)
    ·cases hb:t.testBit k
     ·rw[hnot k hb]
      have:(q1a set s1).testBit k=true:=by
       rw[Z0,Z0,hb] at hk
       rw[Z0]
       simpa using hk
      have:=e3.inn k this
      omega
     ·rw[hin k hb]
      have:=ha2.inn k hb
      omega
    ·cases hb:t.testBit k
     ·rw[hnot k hb]
      refine e3.out k ?_
      rw[Z0,Z0,hb] at hk
      rw[Z0]
      simpa using hk
     ·exfalso
      rw[Z0,Z0,hb,hss k (hts k hb)] at hk
      simp at hk
    ·by_cases hz3:z<((nx+lvN x:Nat):Int)
     ·rw[ha2.com k y hy z hz hz3]
      cases hb:t.testBit k
      ·rw[hnot k hb,hu1 k hb]
       by_cases hb2:(q1a set s1).testBit k=true
       ·have:=e3.inn k hb2;omega
       ·have:=e3.out k (qLF.2 hb2);omega
      ·rw[hin k hb]
     ·rw[e3.com k y hy z (by omega) (by omega)]
      cases hb:t.testBit k
      ·rw[hnot k hb]
      ·rw[hin k hb,ht1 k hb]
       have:=ha2.inn k hb
       omega
    ·rw[hc1,hc2,hm2,e4];rfl
    ·rw[e5,e,hc1,hc2,if_pos hm2];omega
  ·intro s1 a g1 g2 g3 g4
   rw[Bool.or_eq_false_iff] at g4
   obtain⟨g4,g5⟩:=g4
   have hss:∀k,s1.testBit k=true→set.testBit k=true:=fun k hk=>q9y g1 hk
   by_cases hm:(q3R s l a x nx).2=true
   ·have hlen:∀k,(nx:Int)≤a k→k<l.length:=fun k hk=>by
     have hb:=g3.bit k hk
     have:set.testBit k=true:=by rw[Z0,qLJ] at hb;exact hb.1
     exact qlE hlt this
    obtain⟨t,tb⟩:∃t:Nat,∀k,t.testBit k=true↔((nx:Int)≤a k∧a k<((nx+lvN x:Nat):Int)):=⟨mkS (fun k=>decide ((nx:Int)≤a k)&&decide (a k<((nx+lvN x:Nat):Int))) l.length,fun k=>by
     rw[qdm,qLJ,qLJ,qMd,qMd,qMd]
     exact⟨fun h=>h.2,fun h=>⟨hlen k h.1,h⟩⟩⟩
    have hdis:∀k,t.testBit k=true→set.testBit k=true∧s1.testBit k=false:=fun k hk=>by
     have hb:=g3.bit k ((tb k).1 hk).1
     rw[Z0,qLJ] at hb
     exact⟨hb.1,by simpa using hb.2⟩
    obtain⟨a2,hin2,hnot2⟩:∃a2:Nat→Int,(∀k,t.testBit k=true→a2 k=a k)∧(∀k,t.testBit k=false→a2 k = -1):=⟨fun k=>if t.testBit k=true then a k else -1,fun k hk=>if_pos hk,fun k hk=>if_neg (by rw[hk];decide)⟩
    obtain⟨a1,hin1,hnot1⟩:∃a1:Nat→Int,(∀k,t.testBit k=true→a1 k = -1)∧(∀k,t.testBit k=false→a1 k=a k):=⟨fun k=>if t.testBit k=true then -1 else a k,fun k hk=>if_pos hk,fun k hk=>if_neg (by rw[hk];decide)⟩
    have hoff:∀k,t.testBit k=false→¬((nx:Int)≤a k∧a k<((nx+lvN x:Nat):Int)):=fun k hk h=>by
     rw[(tb k).2 h] at hk
     exact absurd hk (by decide)
    have hA2:Asg d a2 nx (lvN x) t:=⟨fun k hk=>by rw[hin2 k hk];exact(tb k).1 hk,hnot2,fun k y hy z hz hz2=>by
     rw[g3.com k y hy z hz (by omega)]
     cases hb:t.testBit k
     ·rw[hnot2 k hb]
      have:=hoff k hb
      omega
     ·rw[hin2 k hb]⟩
    have hc1:q3R s l a2 x nx=q3R s l a x nx:=q4k s l a2 a x nx fun k _ z hz hz2=>by
     cases hb:t.testBit k
     ·rw[hnot2 k hb]
      have:=hoff k hb
      omega
     ·rw[hin2 k hb]
    have hc2:q1I s l a1 (!sk) L (nx+lvN x)=q1I s l a (!sk) L (nx+lvN x):=q9q s l a1 a (!sk) L (nx+lvN x) fun k _ z hz hz2=>by
     cases hb:t.testBit k
     ·rw[hnot1 k hb]
     ·rw[hin1 k hb]
      have:=(tb k).1 hb
      omega
    have hown:QH d s l x nx t=true:=(h1 nx t hfx (qLP (qLO (by rw[←qeu (t:=t) (s:=set) fun k hk=>(hdis k hk).1];exact Nat.and_le_right) (qLt _)) hlt)).2 ⟨a2,hA2,by rw[hc1];exact hm⟩
    have ht0:t≠0:=fun e=>by
     have h3:=qgb s l a x nx hfx hm
     have h4:=(q7X s l hl a x nx).2 fun k _ hk=>by
      have:=(tb k).2 hk
      rw[e,Nat.zero_testBit] at this
      exact absurd this (by decide)
     rw[h3] at h4
     exact absurd h4 (by decide)
    have hI:=qkC (sk && !foF d nx (nx+lvN x)) (QH d s l x nx) b (s1 ||| t)
    have hle:q1a (s1 ||| t) t=s1:=Nat.eq_of_testBit_eq fun k=>by
     rw[Z0,Nat.testBit_or]
     cases hb:t.testBit k
     ·simp
     ·rw[(hdis k hb).2];rfl
    have hall:=hI.all t ht0 (qeu fun k hk=>by rw[Nat.testBit_or,hk,Bool.or_true]) hown (by rw[hle];exact g2)
    rw[hle] at hall
    have:=i2 (s1 ||| t) a1 (qeu fun k hk=>by
      rw[Nat.testBit_or,qLI] at hk
      rcases hk with hk|hk
      ·exact hss k hk
      ·exact(hdis k hk).1) (by omega) ⟨fun k hk=>by
       rw[Z0,Nat.testBit_or,qLJ] at hk
       have hb:t.testBit k=false:=by
        have:=hk.2
        cases h:t.testBit k
        ·rfl
        ·rw[h,Bool.or_true] at this;exact absurd this (by decide)
       have h5:=g3.inn k (by rw[Z0,qLJ];refine⟨hk.1,?_⟩;have:=hk.2;rw[hb,Bool.or_false] at this;exact this)
       have h6:=hoff k hb
       rw[hnot1 k hb]
       omega,fun k hk=>by
       cases hb:t.testBit k
       ·rw[hnot1 k hb]
        refine g3.out k ?_
        rw[Z0,Nat.testBit_or,hb,Bool.or_false] at hk
        rw[Z0]
        exact hk
       ·exact hin1 k hb,fun k y hy z hz hz2=>by
       rw[g3.com k y hy z (by omega) (by omega)]
       cases hb:t.testBit k
       ·rw[hnot1 k hb]
       ·rw[hin1 k hb]
        have:=(tb k).1 hb
        omega⟩ (by rw[hc2];exact g5)
    rw[hc2] at this
    rw[if_pos hm]
    omega
   ·have hm':(q3R s l a x nx).2=false:=qLF.2 hm
    rw[hm',Bool.not_false,qLK,Bool.or_eq_false_iff] at g4
    have hem:(q3R s l a x nx).1=true:=by simpa using g4.1
    have hsk:sk=true:=by simpa using g4.2
    have hr:∀k,¬((nx:Int)≤a k∧a k<((nx+lvN x:Nat):Int)):=fun k hk=>by
     have hb:=g3.bit k hk.1
     have:set.testBit k=true:=by rw[Z0,qLJ] at hb;exact hb.1
     have hkl:k<l.length:=qlE hlt this
     exact(q7X s l hl a x nx).1 hem k hkl hk
    have hfo:foF d nx (nx+lvN x)=false:=qLF.2 fun h=>by
     obtain⟨k,y,hy,h3,h4⟩:=(qmO d nx (nx+lvN x)).1 h
     have:=(g3.com k y hy y h3 (by omega)).1 rfl
     exact hr k (by omega)
    have hI:=qkC (sk && !foF d nx (nx+lvN x)) (QH d s l x nx) b s1
    have hge:=hI.ge
    rw[hsk,hfo] at hge
    simp only[Bool.not_false,qMg,if_true] at hge
    have hge2:b s1≤stF (sk && !foF d nx (nx+lvN x)) (QH d s l x nx) b s1:=by rw[hsk,hfo];exact hge
    have:=i2 s1 a g1 (by omega) ⟨fun k hk=>by
      have h5:=g3.inn k hk
      have h6:=hr k
      omega,g3.out,fun k y hy z hz hz2=>g3.com k y hy z (by omega) (by omega)⟩ g5
    rw[hm']
    simp only[Bool.false_eq_true,if_false,qLB]
    omega
end
noncomputable section
open Go.RowKit
def rkF (m:Nat→Bool):Nat→Nat
 | 0=>0
 | k+1=>rkF m k+if m k=true then 1 else 0
theorem qaL (m:Nat→Bool):∀k,rkF m (k+1)=(if m 0=true then 1 else 0)+rkF (fun j=>m (j+1)) k
 | 0=>by simp[rkF]
 | k+1=>by rw[rkF,qaL m k,rkF];omega
def q9i (m:Nat→Bool) (d:Nat→Int):Nat→Int:=fun k=>if m k=true then d (rkF m k) else -1
theorem qbQ {α:Type}:∀(l:List α) (m p:Nat→Bool),QW p (QW m l)=QW (fun k=>m k&&p (rkF m k)) l
 | [],_,_=>rfl
 | a::l,m,p=>by
  have e:∀j,rkF m (j+1)=(if m 0=true then 1 else 0)+rkF (fun j=>m (j+1)) j:=qaL m
  rw[QW,QW]
  cases h:m 0
  ·rw[if_neg (by decide),qLx,qbQ l,qMh,if_neg (by decide),qLx]
   refine q3m fun j _=>?_
   show(m (j+1)&&p (rkF (fun j=>m (j+1)) j))=(m (j+1)&&p (rkF m (j+1)))
   rw[e j,h,if_neg (by decide),qLB]
  ·rw[if_pos rfl,qMl,QW,qbQ l,qLK]
   congr 1
   refine q3m fun j _=>?_
   show(m (j+1)&&p (rkF (fun j=>m (j+1)) j+1))=(m (j+1)&&p (rkF m (j+1)))
   rw[e j,h,if_pos rfl,Nat.add_comm 1]
theorem qi6 (s:qg) (l:List qa) (m:Nat→Bool) (d:Nat→Int):∀(n:qb) (nx:Nat),q3R s (QW m l) d n nx=q3R s l (q9i m d) n nx:=by
 intro n
 induction n using qb.rec (motive_2:=fun L=>∀(al:Bool) (nx:Nat),q1I s (QW m l) d al L nx=q1I s l (q9i m d) al L nx) with
 | mk k n mi S L ih=>
  intro nx
  rw[q41,q41]
  by_cases hk:k=1∨k=2
  ·rw[if_pos hk,if_pos hk]
   have:QW (fun j=>d j==(nx:Int)) (QW m l)=QW (fun j=>q9i m d j==(nx:Int)) l:=by
    rw[qbQ]
    refine q3m fun j _=>?_
    unfold q9i
    cases m j
    ·rw[qMh,if_neg (by decide)];symm;rw[beq_eq_false_iff_ne];omega
    ·rw[qLK,if_pos rfl]
   unfold qfl
   rw[this]
  ·rw[if_neg hk,if_neg hk]
   simp only
   rw[ih _ nx]
 | nil=>rw[q1I,q1I]
 | cons x L h1 h2=>
  rename_i al nx
  rw[q1I,q1I,h1 nx,h2 al (nx+lvN x)]
end
noncomputable section
open Go.RowKit
def q5p:List Int→List Int→Bool
 | _,[]=>false
 | [],_::_=>true
 | a::l,b::m=>decide (a<b)||(a==b&&q5p l m)
theorem qdx:∀l,q5p l l=false
 | []=>rfl
 | a::l=>by rw[q5p,qdx l];simp
theorem q4s:∀{a b c:List Int},q5p a b=true→q5p b c=true→q5p a c=true
 | a,b,[],_,h=>by cases b<;>cases h
 | [],b,z::c,_,_=>rfl
 | x::a,[],z::c,h,_=>by cases h
 | x::a,y::b,z::c,h,h2=>by
  simp only[q5p,qLI,qLJ,qMd,beq_iff_eq] at h h2 ⊢
  rcases h with h|⟨h,h'⟩
  ·rcases h2 with h2|⟨h2,h2'⟩<;>exact .inl (by omega)
  ·rcases h2 with h2|⟨h2,h2'⟩
   ·exact .inl (by omega)
   ·exact .inr ⟨by omega,q4s h' h2'⟩
theorem q9C:∀a b:List Int,a=b∨q5p a b=true∨q5p b a=true
 | [],[] => .inl rfl
 | [],_::_ => .inr (.inl rfl)
 | _::_,[] => .inr (.inr rfl)
 | x::a,y::b=>by
  simp only[q5p,qLI,qLJ,qMd,beq_iff_eq]
  rcases Int.lt_trichotomy x y with h|h|h
  ·exact .inr (.inl (.inl h))
  ·subst h
   rcases q9C a b with e|e|e
   ·exact .inl (by rw[e])
   ·exact .inr (.inl (.inr ⟨rfl,e⟩))
   ·exact .inr (.inr (.inr ⟨rfl,e⟩))
  ·exact .inr (.inr (.inl h))
def slL (a b:List Int):Bool:=decide (a.length<b.length)||(a.length==b.length&&q5p a b)
theorem qh7 {a b:List Int}:slL a b=true↔a.length<b.length∨(a.length=b.length∧q5p a b=true):=by
 simp only[slL,qLI,qLJ,qMd,beq_iff_eq]
theorem qdH (l:List Int):slL l l=false:=by
 rw[slL,qdx];simp
theorem qbz {a b c:List Int} (h:slL a b=true) (h2:slL b c=true):slL a c=true:=by
 rw[qh7] at *
 rcases h with h|⟨h,h'⟩
 ·rcases h2 with h2|⟨h2,h2'⟩<;>exact .inl (by omega)
 ·rcases h2 with h2|⟨h2,h2'⟩
  ·exact .inl (by omega)
  ·exact .inr ⟨by omega,q4s h' h2'⟩
theorem qeD (a b:List Int):a=b∨slL a b=true∨slL b a=true:=by
 simp only[qh7]
 rcases Nat.lt_trichotomy a.length b.length with h|h|h
 ·exact .inr (.inl (.inl h))
 ·rcases q9C a b with e|e|e
  ·exact .inl e
  ·exact .inr (.inl (.inr ⟨h,e⟩))
  ·exact .inr (.inr (.inr ⟨h.symm,e⟩))
 ·exact .inr (.inr (.inl h))
theorem qm7 {f:Int→Int→Option Int} {zs:List Int} (ht:∀x∈zs,∀y∈zs,x=y∨ltB f x y=true∨ltB f y x=true) (htr:∀x∈zs,∀y∈zs,∀z∈zs,ltB f x y=true→ltB f y z=true→ltB f x z=true) {x:Int} (hx:x∈zs) :
  ∀l:List Int,(∀y∈l,y∈zs)→x ∉ l→l.Pairwise (fun a b=>ltB f a b=true)→(qeo f x l).Pairwise (fun a b=>ltB f a b=true)
 | [],_,_,_=>by unfold qeo;exact List.pairwise_singleton _ _
 | y::l,hl,hn,h=>by
  have hy:=hl y qLs
  rw[List.pairwise_cons] at h
  unfold qeo
  split
  ·rename_i hlt
   rw[List.pairwise_cons]
   refine⟨fun z hz=>?_,qm7 ht htr hx l (fun u hu=>hl u (qLl _ hu)) (fun hu=>hn (qLl _ hu)) h.2⟩
   rcases(qay f x l z).1 hz with e|e
   ·rw[e];exact hlt
   ·exact h.1 z e
  ·rename_i hlt
   have hxy:ltB f x y=true:=by
    rcases ht x hx y hy with e|e|e
    ·exact absurd (e ▸ qLs) hn
    ·exact e
    ·exact absurd e hlt
   rw[List.pairwise_cons,List.pairwise_cons]
   refine⟨fun z hz=>?_,h⟩
   rcases qLz.1 hz with e|e
   ·rw[e];exact hxy
   ·exact htr x hx y hy z (hl z (qLl _ e)) hxy (h.1 z e)
theorem qiU {f:Int→Int→Option Int} {zs:List Int} (ht:∀x∈zs,∀y∈zs,x=y∨ltB f x y=true∨ltB f y x=true) (htr:∀x∈zs,∀y∈zs,∀z∈zs,ltB f x y=true→ltB f y z=true→ltB f x z=true) :
  ∀l:List Int,(∀y∈l,y∈zs)→l.Nodup→(q0C f l).Pairwise (fun a b=>ltB f a b=true)
 | [],_,_=>by unfold q0C;exact List.Pairwise.nil
 | x::l,hl,hn=>by
  rw[List.nodup_cons] at hn
  unfold q0C
  exact qm7 ht htr (hl x qLs) _ (fun y hy=>hl y (qLl _ ((q2I f l y).1 hy))) (fun hy=>hn.1 ((q2I f l x).1 hy)) (qiU ht htr l (fun y hy=>hl y (qLl _ hy)) hn.2)
theorem qld {f:Int→Int→Option Int} {zs:List Int} {key:Int→List Int} (hs:∀x∈zs,∀y∈zs,∃c,f x y=some c∧(c<0↔slL (key x) (key y)=true)) (hi:∀x∈zs,∀y∈zs,key x=key y→x=y) :
  okB f zs=true∧∀x∈zs,∀y∈zs,ltB f x y=slL (key x) (key y):=by
 have hl:∀x∈zs,∀y∈zs,ltB f x y=slL (key x) (key y):=fun x hx y hy=>by
  obtain⟨c,h1,h2⟩:=hs x hx y hy
  unfold ltB
  rw[h1,Bool.eq_iff_iff]
  simpa using h2
 refine⟨?_,hl⟩
 unfold okB
 simp only[qLJ,qLu]
 refine⟨⟨⟨fun x hx y hy=>?_,fun x hx=>?_⟩,fun x hx y hy=>?_⟩,fun x hx y hy z hz=>?_⟩
 ·obtain⟨c,h1,_⟩:=hs x hx y hy;rw[h1];rfl
 ·rw[hl x hx x hx,qdH];rfl
 ·rw[hl x hx y hy,hl y hy x hx]
  rcases qeD (key x) (key y) with e|e|e
  ·rw[qMe (hi x hx y hy e)];rfl
  ·rw[e];simp
  ·rw[e];simp
 ·rw[hl x hx y hy,hl y hy z hz,hl x hx z hz]
  cases h1:slL (key x) (key y)
  ·simp
  ·cases h2:slL (key y) (key z)
   ·simp
   ·rw[qbz h1 h2];simp
theorem qmF {f:Int→Int→Option Int} {zs:List Int} {key:Int→List Int} (hs:∀x∈zs,∀y∈zs,∃c,f x y=some c∧(c<0↔slL (key x) (key y)=true)) (hi:∀x∈zs,∀y∈zs,key x=key y→x=y) (hn:zs.Nodup) :
  (q0C f zs).Pairwise (fun a b=>slL (key a) (key b)=true):=by
 have hl:=(qld hs hi).2
 have h:=qiU (f:=f) (zs:=zs) (fun x hx y hy=>by
  rw[hl x hx y hy,hl y hy x hx]
  rcases qeD (key x) (key y) with e|e
  ·exact .inl (hi x hx y hy e)
  ·exact .inr e) (fun x hx y hy z hz h1 h2=>by
  rw[hl x hx y hy] at h1;rw[hl y hy z hz] at h2;rw[hl x hx z hz]
  exact qbz h1 h2) zs (fun _ h=>h) hn
 exact h.imp_of_mem fun {a b} ha hb h=>by
  rw[hl a ((q2I f zs a).1 ha) b ((q2I f zs b).1 hb)] at h;exact h
end
noncomputable section
open Go.RowKit
structure q2J (n:qb) (l:List qa) (set:Nat):Prop where
 fit:∀y∈ndN n,q1E y
 nd:(ndN n).length≤9999
 st:∀y∈ndN n,y.Set.length≤1000000
 ll:l.length≤16
 lt:set<2 ^ l.length
theorem q2J.lt64 {n:qb} {l:List qa} {set:Nat} (h:q2J n l set):set<9223372036854775808:=by
 have h1:=h.lt
 have h2:(2:Nat) ^ l.length≤2 ^ 16:=Nat.pow_le_pow_right (by decide) h.ll
 have h3:(2:Nat) ^ 16=65536:=by decide
 omega
theorem q2J.lv {n:qb} {l:List qa} {set:Nat} (h:q2J n l set):lvN n≤9999:=qLO (qjs n) h.nd
theorem qkh {n:qb} {l:List qa} {set:Nat} (h:q2J n l set) (s:qg) (d:List Int) (hd:d.length≤16):q1S n s l d=some (Z9 (2 ^ l.length) (QH d s l n 0),d):=by
 have:=qkj d hd s l h.ll _ n (qLt _) (by have:=h.nd;omega) h.st 0 (by have:=h.nd;omega)
 unfold q1S
 change Option.bind (zH (n,d,l,((0:Nat):Int),s)) _=_
 rw[this]
 rfl
theorem q8M {α:Type} {d:List α} {y z:α} {j:Nat} (h:(d++[y])[j]?=some z):d[j]?=some z∨(j=d.length∧z=y):=by
 by_cases hj:j<d.length
 ·rw[qLR hj] at h
  exact .inl h
 ·rw[qLQ (by omega)] at h
  have:=JB h
  rw[qLv] at this
  have e:j-d.length=0:=by omega
  rw[e] at h
  simp only[qLn,qM3] at h
  exact .inr ⟨by omega,h.symm⟩
theorem qoJ {d:List Int} {a:Nat→Int} {w set:Nat} (h:Asg d a 0 w set):Asg (d++[a d.length]) a 0 w set:=⟨h.inn,h.out,fun k y hy x hx hx2=>by
 rcases q8M hy with e|⟨e1,e2⟩
 ·exact h.com k y e x hx hx2
 ·rw[e1,e2]⟩
theorem qmd {n:qb} {l:List qa} {set:Nat} (h:q2J n l set) (s:qg) (w4:List Int) (t49 t50:Int) (d:List Int) (hd:d.length+1≤16):∀(m x:Nat),x+m≤1000000→
  (∃v:Nat,x≤v∧v≤x+m∧QH (d++[(v:Int)]) s l n 0 set=true)→
  ∃v:Nat,x≤v∧v≤x+m∧QH (d++[(v:Int)]) s l n 0 set=true∧(∀y:Nat,x≤y→y<v→QH (d++[(y:Int)]) s l n 0 set=false)∧
   zG (Jz w4 n s l (set:Int) (d.length:Int) t49 t50) (d++[(x:Int)])=some (d++[(v:Int)]):=by
 have hstep:∀x:Nat,x≤1000000→Jz w4 n s l (set:Int) (d.length:Int) t49 t50 (d++[(x:Int)])=if QH (d++[(x:Int)]) s l n 0 set=true then some (.inr (d++[(x:Int)])) else some (.inl (d++[((x+1:Nat):Int)])):=by
  intro x hx
  have hlen:(d++[(x:Int)]).length=d.length+1:=by rw[qLk,qLv]
  have hg:(d++[(x:Int)])[d.length]?=some (x:Int):=by rw[qLQ (qLt _),Nat.sub_self];rfl
  have hlt:=h.lt
  have hw:w64 ((x:Int)+1)=((x+1:Nat):Int):=ZC (by omega) (by omega)
  have hset:(d++[(x:Int)]).set d.length ((x+1:Nat):Int)=d++[((x+1:Nat):Int)]:=by
   rw[List.set_append_right _ _ (qLt _),Nat.sub_self]
   rfl
  unfold Jz
  simp only
  rw[qkh h s _ (by omega),qLd]
  simp only
  rw[if_pos (by rw[zE];omega),qLg,Jf _ hlt,qLd]
  cases hs:QH (d++[(x:Int)]) s l n 0 set
  ·rw[if_pos (by decide),if_pos (by rw[hlen];omega),qLg,hg,qLd,if_pos (by rw[hlen];omega),if_pos (by rw[hlen];omega),hw,hset]
   rfl
  ·rfl
 intro m
 induction m with
 | zero=>
  intro x hx hv
  obtain⟨v,h1,h2,h3⟩:=hv
  have e:v=x:=by omega
  subst e
  exact⟨v,qLt _,by omega,h3,fun y _ _=>by omega,zD (by rw[hstep v (by omega),if_pos h3])⟩
 | succ m ih=>
  intro x hx hv
  by_cases hs:QH (d++[(x:Int)]) s l n 0 set=true
  ·exact⟨x,qLt _,by omega,hs,fun y _ _=>by omega,zD (by rw[hstep x (by omega),if_pos hs])⟩
  ·obtain⟨v,h1,h2,h3⟩:=hv
   have hne:v≠x:=fun e=>hs (by rw[←e];exact h3)
   obtain⟨u,u1,u2,u3,u4,u5⟩:=ih (x+1) (by omega) ⟨v,by omega,by omega,h3⟩
   refine⟨u,by omega,by omega,u3,fun y hy hy2=>?_,?_⟩
   ·by_cases e:y=x
    ·subst e;exact qLF.2 hs
    ·exact u4 y (by omega) hy2
   ·rw[Q4 (by rw[hstep x (by omega),if_neg hs])]
    exact u5
structure q5t (d:List Int) (s:qg) (l:List qa) (n:qb) (set:Nat):Prop where
 ok:QH d s l n 0 set=true
 val:∀(j:Nat) (y:Int),d[j]?=some y→if set.testBit j=true then 0≤y∧y<(lvN n:Int) else y = -1
 lst:∀(j:Nat) (x:Int),d[j]?=some x→set.testBit j=true→∀y:Nat,(y:Int)<x→QH (d.take j++[(y:Int)]) s l n 0 set=false
theorem qeR {α:Type} {d:List α} {j:Nat} {x y:α} (h:d[j]?=some x):(d++[y]).take j=d.take j:=List.take_append_of_le_length (by have:=JB h;omega)
theorem qjj {n:qb} {l:List qa} {set:Nat} (h:q2J n l set) {s:qg} {d:List Int} (hf:q5t d s l n set) (hd:d.length<l.length) :
  (set.testBit d.length=false→q5t (d++[-1]) s l n set)∧(set.testBit d.length=true→∃v:Nat,v<lvN n∧QH (d++[(v:Int)]) s l n 0 set=true):=by
 have hll:=h.ll
 obtain⟨a,ha,hm⟩:=(q4w d s l (by omega) n 0 set h.fit h.lt).1 hf.ok
 have hs:=(q4w (d++[a d.length]) s l (by omega) n 0 set h.fit h.lt).2 ⟨a,qoJ ha,hm⟩
 constructor
 ·intro hb
  rw[ha.out _ hb] at hs
  refine⟨hs,fun j y hy=>?_,fun j x hx hj y hy=>?_⟩
  ·rcases q8M hy with e|⟨e1,e2⟩
   ·exact hf.val j y e
   ·rw[e1,hb,if_neg (by decide)];exact e2
  ·rcases q8M hx with e|⟨e1,e2⟩
   ·rw[qeR e];exact hf.lst j x e hj y hy
   ·rw[e1,hb] at hj;exact absurd hj (by decide)
 ·intro hb
  have:=ha.inn _ hb
  refine⟨(a d.length).toNat,by omega,?_⟩
  rw[show(((a d.length).toNat:Nat):Int)=a d.length from by omega]
  exact hs
theorem qgs {n:qb} {l:List qa} {set:Nat} (h:q2J n l set) (s:qg):∀(m:Nat) (d:List Int),d.length+m=l.length→q5t d s l n set→
  ∃d',d'.length=l.length∧q5t d' s l n set∧(∃e,d'=d++e)∧zG (ZQ n s l (set:Int) (l.length:Int)) (d,QW set.testBit d,(d.length:Int))=some (QW set.testBit d'):=by
 intro m
 induction m with
 | zero=>
  intro d hd hf
  refine⟨d,by omega,hf,⟨[],(qLy _).symm⟩,zD ?_⟩
  unfold ZQ
  simp only
  rw[if_neg (by omega)]
 | succ m ih=>
  intro d hd hf
  have hll:=h.ll
  have hlt:=h.lt64
  have hML:100000≤maxLen:=by unfold maxLen;omega
  have hsel:=q6G d set.testBit
  obtain⟨f1,f2⟩:=qjj h hf (by omega)
  have hw:w64 ((d.length:Int)+1)=((d.length+1:Nat):Int):=ZC (by omega) (by omega)
  have hbit:(ZG Go.BinOp.and IntKind.i64 (Int.fdiv (set:Int) ((2:Int) ^ min (Int.toNat (d.length:Int)) (IntKind.bits IntKind.i64))) (1:Int)==(0:Int)) = !set.testBit d.length:=by
   rw[qLg,q8C set d.length (by omega),show(1:Int)=((1:Nat):Int) from rfl,qdN _ 1 (qLP (Nat.div_le_self _ _) hlt) (by decide),Nat.and_one_is_mod,Nat.testBit_eq_decide_div_mod_eq]
   have:set / 2 ^ d.length % 2<2:=Nat.mod_lt _ (by decide)
   by_cases e:set / 2 ^ d.length % 2=1
   ·rw[e];rfl
   ·have e0:set / 2 ^ d.length % 2=0:=by omega
    rw[e0];rfl
  have hset:∀y z:Int,(d++[y]).set d.length z=d++[z]:=fun y z=>by
   rw[List.set_append_right _ _ (qLt _),Nat.sub_self]
   rfl
  cases hb:set.testBit d.length
  ·obtain⟨d',g1,g2,⟨e,g3⟩,g4⟩:=ih (d++[-1]) (by rw[qLk,qLv];omega) (f1 hb)
   refine⟨d',g1,g2,⟨[-1]++e,by rw[g3,qLT]⟩,?_⟩
   rw[q5K,hb,if_neg (by decide),qLy,qLk,qLv] at g4
   rw[←g4]
   refine Q4 ?_
   unfold ZQ
   simp only
   rw[if_pos (by omega),if_pos ⟨by omega,by omega⟩,if_pos (by omega),hbit,hb,if_pos (by decide),hw]
  ·obtain⟨v0,hv0,hs0⟩:=f2 hb
   have hlv:=h.lv
   obtain⟨v,v1,v2,v3,v4,v5⟩:=qmd h s (QW set.testBit d) (l.length:Int) (d.length:Int) d (by omega) v0 0 (by omega) ⟨v0,by omega,by omega,hs0⟩
   have hF:q5t (d++[(v:Int)]) s l n set:=⟨v3,fun j y hy=>by
    rcases q8M hy with e|⟨e1,e2⟩
    ·exact hf.val j y e
    ·rw[e1,hb,if_pos rfl,e2];omega,fun j x hx hj y hy=>by
    rcases q8M hx with e|⟨e1,e2⟩
    ·rw[qeR e];exact hf.lst j x e hj y hy
    ·rw[e1,List.take_left]
     exact v4 y (qLD _) (by omega)⟩
   obtain⟨d',g1,g2,⟨e,g3⟩,g4⟩:=ih (d++[(v:Int)]) (by rw[qLk,qLv];omega) hF
   refine⟨d',g1,g2,⟨[(v:Int)]++e,by rw[g3,qLT]⟩,?_⟩
   rw[q5K,hb,if_pos rfl,qLk,qLv] at g4
   rw[←g4]
   refine Q4 ?_
   have hg:(d++[(v:Int)])[d.length]?=some (v:Int):=by rw[qLQ (qLt _),Nat.sub_self];rfl
   unfold ZQ
   simp only
   rw[if_pos (by omega),if_pos ⟨by omega,by omega⟩,if_pos (by omega),hbit,hb,if_neg (by decide),if_pos ⟨by omega,by omega⟩,qLg,if_pos (qLt _),hset]
   rw[show(0:Int)=((0:Nat):Int) from rfl,v5,qLd,if_pos (by rw[qLk,qLv];omega),hg,qLd,if_pos ⟨by omega,by omega⟩,hw]
theorem qeU {n:qb} {l:List qa} {set:Nat} (h:q2J n l set) (s:qg) (hS:q2n n s l=some (Z9 (2 ^ l.length) (QH [] s l n 0),0)) :
  (QH [] s l n 0 set=false∧q0L n s l (set:Int)=some ([],false))∨
  (QH [] s l n 0 set=true∧∃d,d.length=l.length∧q5t d s l n set∧q0L n s l (set:Int)=some (QW set.testBit d,true)):=by
 have hlt:=h.lt
 have hll:=h.ll
 unfold q0L
 rw[hS,qLd]
 simp only
 rw[if_neg (by decide),if_neg (by omega),if_neg (by rw[zE];omega),if_pos (by rw[zE];omega),qLg,Jf _ hlt,qLd]
 cases hs:QH [] s l n 0 set
 ·exact .inl ⟨rfl,by rw[if_pos (by decide)]⟩
 ·refine .inr ⟨rfl,?_⟩
  obtain⟨d',g1,g2,_,g4⟩:=qgs h s l.length [] (by simp) ⟨hs,fun j y hy=>by simp at hy,fun j x hx=>by simp at hx⟩
  refine⟨d',g1,g2,?_⟩
  rw[if_neg (by decide),if_pos ⟨by omega,by omega,by omega⟩]
  change Option.bind (zG _ ([],QW set.testBit [],((([]:List Int).length:Nat):Int))) _=_
  rw[g4]
  rfl
end
noncomputable section
open Go.RowKit
theorem qnJ (n:qb) (hn:n.Set.length≤9223372036854775807) (s:qg) (l:List qa) (hl:l.length≤62) (d:List Int) (hd:d.length=l.length) (nx:Nat):q1R n s l d (nx:Int)=some (qfl n s l (fun j=>d.getD j (-1)==(nx:Int))):=by
 have h1:=q2p (ε:=qK) (step:=J5 d (nx:Int) n s (qK.mk (0:Int) (0:Int) Bool.false) l (l.length:Int)) l (fun(b:qK) i=>(b,(i:Int))) (fun i b a => .inl (if(d.getD i (-1)==(nx:Int))=true then qhN n s b a else b)) (fun b=>b) (fun b i a ha=>by
   have hi:=JB ha
   have hw:w64 ((i:Int)+1)=((i+1:Nat):Int):=Qy hi (by omega)
   have hb:q0N (i:Int) d (nx:Int)=some (d.getD i (-1)==(nx:Int)):=by
    unfold q0N
    rw[if_pos ⟨by omega,by omega⟩,qLg,qLf (by omega),qLd,List.getD_eq_getElem?_getD,qLf (by omega)]
    rfl
   unfold J5 qhN
   simp only
   rw[if_pos (by omega),if_pos ⟨by omega,by omega⟩,qLg,ha,qLd,hw,hb,qLd]
   cases(d.getD i (-1)==(nx:Int))
   ·simp
   ·cases hf:b.fine
    ·simp
    ·simp[qm9 n hn s a]) (fun b=>by
   unfold J5
   simp only
   rw[if_neg (by omega)]) ld0
 unfold q1R qfl
 change Option.bind (zG _ (ld0,((0:Nat):Int))) _=_
 rw[h1,qLd]
 congr 1
 have:∀(l:List qa) (i:Nat) (b:qK),q5a (ε:=qK) (fun i (b:qK) (a:qa) => .inl (if(d.getD i (-1)==(nx:Int))=true then qhN n s b a else b)) (fun b=>b) l i b=(QW (fun j=>d.getD (i+j) (-1)==(nx:Int)) l).foldl (qhN n s) b:=by
  intro l
  induction l with
  | nil=>intro i b;rfl
  | cons a l ih=>
   intro i b
   unfold q5a QW
   rw[List.foldl_append]
   simp only[Nat.add_zero]
   rw[ih (i+1)]
   rw[show(fun j=>d.getD (i+1+j) (-1)==(nx:Int))=fun j=>d.getD (i+(j+1)) (-1)==(nx:Int) from funext fun j=>by rw[Nat.add_right_comm,qM7]]
   split<;>rfl
 rw[this l 0 ld0]
 simp only[qLB]
end
noncomputable section
open Go.RowKit
end
noncomputable section
open Go.RowKit
end

noncomputable section
open Go.RowKit
theorem qyu:∀L:List qb,L.length≤(ndL L).length
 | []=>qLD _
 | x::L=>by
  have:=qyu L
  rw[ndL,qLk,q0g,qLo,qLo]
  omega
theorem qmB (s:qg) (l:List qa) (hl:l.length≤62) (d:List Int) (hd:d.length=l.length):∀(n:qb) (nx:Nat),(∀y∈ndN n,y.Set.length≤1000000)→nx+(ndN n).length≤100000→
  JD (n,s,l,d,(nx:Int))=some ((q3R s l (fun j=>d.getD j (-1)) n nx).1,(q3R s l (fun j=>d.getD j (-1)) n nx).2,s,l,d,((nx+lvN n:Nat):Int)):=by
 intro n
 induction n using qb.rec (motive_2:=fun L=>∀(b5:qb) (pre:List qb) (nx many:Nat) (em wr:Bool),(∀y∈ndL L,y.Set.length≤1000000)→nx+(ndL L).length≤100000→many+L.length≤200000→pre.length+L.length≤200000→
   zG (J6 JD b5 (pre++L) ((pre++L).length:Int)) (s,l,d,(nx:Int),em,(many:Int),wr,(pre.length:Int)) =
    some (s,l,d,((nx+lvL L:Nat):Int),em&&(q1I s l (fun j=>d.getD j (-1)) (b5.Kind==3) L nx).1,((many+(q1I s l (fun j=>d.getD j (-1)) (b5.Kind==3) L nx).2.1:Nat):Int),wr||(q1I s l (fun j=>d.getD j (-1)) (b5.Kind==3) L nx).2.2)) with
 | mk k n m S L ih=>
  intro nx hs hn
  rw[ndN,qLo] at hn
  rw[qa9]
  unfold q0y
  simp only
  rw[qaJ,q41,lvN]
  have hlf:q8r ⟨k,n,m,S,L⟩=decide (k=1∨k=2):=by
   unfold q8r
   simp only
   by_cases h1:k=1
   ·subst h1;rfl
   ·by_cases h2:k=2
    ·subst h2;rfl
    ·rw[beq_eq_false_iff_ne.2 h1,beq_eq_false_iff_ne.2 h2,decide_eq_false (by omega)];rfl
  rw[hlf]
  by_cases hk:k=1∨k=2
  ·have hsz:=hs _ (q9g _)
   rw[if_pos (qMe hk),if_pos hk,if_pos hk,qnJ _ (by omega) s l hl d hd nx,qLd]
   simp only
   generalize qfl ⟨k,n,m,S,L⟩ s l (fun j=>d.getD j (-1)==(nx:Int))=x
   have hw:w64 ((nx:Int)+1)=((nx+1:Nat):Int):=ZC (by omega) (by omega)
   rw[hw]
   unfold q0P
   by_cases h1:k=1
   ·subst h1
    have hx:zW x ⟨1,n,m,S,L⟩=qca ⟨1,n,m,S,L⟩ x:=by
     unfold zW qca
     rw[if_pos rfl]
     cases x.fine<;>simp
    rw[if_pos (by decide),qLd,Sum.elim_inl,hx]
   ·have hx:Qq x ⟨k,n,m,S,L⟩=qca ⟨k,n,m,S,L⟩ x:=by
     unfold Qq qca
     simp only
     rw[if_neg h1]
     cases x.fine
     ·simp
     ·by_cases h:0<x.many<;>simp[h]
    rw[if_neg (by rw[beq_eq_false_iff_ne.2 h1];decide),qLd,Sum.elim_inr,hx]
  ·have hln:=qyu L
   have h:=ih ⟨k,n,m,S,L⟩ [] nx 0 true false (fun y hy=>hs y (by rw[ndN];exact qLl _ hy)) (by omega) (by omega) (by simp;omega)
   rw[if_neg (by rw[decide_eq_false hk];decide),if_neg hk,if_neg hk]
   simp only[qLx] at h
   change Option.bind (zG _ (s,l,d,(nx:Int),true,((0:Nat):Int),false,((([]:List qb).length:Nat):Int))) _=_
   rw[h,qLd]
   simp only[qLK,Bool.false_or,qLB]
   cases(q1I s l (fun j=>d.getD j (-1)) (k==3) L nx).2.2<;>simp
 | nil=>
  rename_i b5 pre nx many em wr hs hn hm hp
  rw[lvL,q1I]
  refine zD ?_
  unfold J6
  simp only
  rw[qLy,if_neg (by omega)]
  simp
 | cons x L h1 h2=>
  rename_i b5 pre nx many em wr hs hn hm hp
  rw[ndL,qLk] at hn
  rw[qLo] at hm hp
  have hx:=h1 nx (fun y hy=>hs y (by rw[ndL];exact qLp _ hy)) (by omega)
  have hlv:=qjs x
  have hw:w64 ((pre.length:Int)+1)=((pre.length+1:Nat):Int):=ZC (by omega) (by omega)
  have hw2:w64 ((many:Int)+1)=((many+1:Nat):Int):=ZC (by omega) (by omega)
  have hL:=h2 b5 (pre++[x]) (nx+lvN x) (many+if(q3R s l (fun j=>d.getD j (-1)) x nx).2=true then 1 else 0) (em&&(q3R s l (fun j=>d.getD j (-1)) x nx).1) (wr||(!(q3R s l (fun j=>d.getD j (-1)) x nx).2&&(!(q3R s l (fun j=>d.getD j (-1)) x nx).1||(b5.Kind==3)))) (fun y hy=>hs y (by rw[ndL];exact qLm _ hy)) (by omega) (by split<;>omega) (by rw[qLk,qLv];omega)
  rw[qLT,qMl,show(pre++[x]).length=pre.length+1 from by rw[qLk,qLv]] at hL
  have hg:(pre++x::L)[pre.length]?=some x:=by rw[qLQ (qLt _),Nat.sub_self];rfl
  rw[q1I,lvL]
  simp only
  rw[Q4 (y:=(s,l,d,((nx+lvN x:Nat):Int),em&&(q3R s l (fun j=>d.getD j (-1)) x nx).1,((many+(if(q3R s l (fun j=>d.getD j (-1)) x nx).2=true then 1 else 0):Nat):Int),wr||(!(q3R s l (fun j=>d.getD j (-1)) x nx).2&&(!(q3R s l (fun j=>d.getD j (-1)) x nx).1||(b5.Kind==3))),((pre.length+1:Nat):Int))) ?_,hL]
  ·simp only[qM7,Bool.and_assoc,Bool.or_assoc]
  ·unfold J6
   simp only
   rw[if_pos (by rw[qLk,qLo];omega),if_pos (by rw[qLk,qLo];omega),qLg,hg,qLd,hx,qLd]
   simp only
   rw[hw,hw2]
   generalize (q3R s l (fun j=>d.getD j (-1)) x nx).1=q1
   generalize (q3R s l (fun j=>d.getD j (-1)) x nx).2=q2
   cases em<;>cases wr<;>cases q1<;>cases q2<;>simp
end
noncomputable section
open Go.RowKit
theorem ql2:∀n:qb,(∀y∈ndN n,q1E y)→lvN n≤((ndN n).filter q1o).length:=by
 intro n
 induction n using qb.rec (motive_2:=fun L=>(∀y∈ndL L,q1E y)→lvL L≤((ndL L).filter q1o).length) with
 | mk k n m S L ih=>
  intro hf
  have h1:=ih fun y hy=>hf y (by rw[ndN];exact qLl _ hy)
  rw[lvN,ndN,List.filter_cons]
  have hk:=(hf _ (q9g _)).kind
  simp only at hk
  by_cases h:k=1∨k=2
  ·rw[if_pos h,if_pos (by unfold q1o;simp only;rcases h with h|h<;>subst h<;>decide),qLo]
   omega
  ·rw[if_neg h]
   split
   ·rw[qLo];omega
   ·exact h1
 | nil=>rename_i hf;rw[lvL];exact qLD _
 | cons x L h1 h2=>
  rename_i hf
  have a:=h1 fun y hy=>hf y (by rw[ndL];exact qLp _ hy)
  have b:=h2 fun y hy=>hf y (by rw[ndL];exact qLm _ hy)
  rw[lvL,ndL,List.filter_append,qLk]
  omega
theorem qpN (d:List Int) (hd:d.length≤100) (v:Int) (h:∀(j:Nat) (y:Int),d[j]?=some y→JX y v=false):Qr d v=some false:=by
 have h1:=q1V (step:=Q3 v d (d.length:Int)) (e := .inr ()) (fun i=>(i:Int)) 0 d.length (qLD _) (fun i _ hi=>by
   obtain⟨y,hy⟩:∃y,d[i]?=some y:=⟨_,qLf hi⟩
   have hw:w64 ((i:Int)+1)=((i+1:Nat):Int):=Qy (n:=100) (by omega) (by omega)
   unfold Q3
   rw[if_pos (by omega),if_pos ⟨by omega,by omega⟩,qLg,hy,qLd,h i y hy,if_neg (by decide),hw]) (by
   unfold Q3
   rw[if_neg (by omega)])
 unfold Qr Zn
 change Option.bind (Option.bind (zG _ ((0:Nat):Int)) _) _=_
 rw[h1]
 rfl
end
noncomputable section
open Go.RowKit
def quS (W:Nat) (l:List Int):Nat:=l.foldl (fun acc y=>acc*W+(y+1).toNat) 0
theorem qeO (W:Nat) (l:List Int) (y:Int):quS W (l++[y])=quS W l*W+(y+1).toNat:=by
 unfold quS
 rw[List.foldl_append]
 rfl
def Holds (b:List Int) (set w:Nat):Prop:=∀(j:Nat) (y:Int),b[j]?=some y→if set.testBit j=true then 0≤y∧y<(w:Int) else y = -1
theorem qb9 {n:qb} {l:List qa} {set:Nat} (h:q2J n l set) {b:List Int} (hb:b.length=l.length) (hv:Holds b set (lvN n)) (j:Nat):Asg (b.take j) (fun k=>b.getD k (-1)) 0 (lvN n) set:=by
 have hget:∀k y,b[k]?=some y→b.getD k (-1)=y:=fun k y hk=>by rw[List.getD_eq_getElem?_getD,hk];rfl
 refine⟨fun k hk=>?_,fun k hk=>?_,fun k y hy x hx hx2=>?_⟩
 ·have hl:=qlE h.lt hk
  obtain⟨y,hy⟩:∃y,b[k]?=some y:=⟨_,qLf (by omega)⟩
  have:=hv k y hy
  rw[if_pos hk] at this
  show _≤b.getD k (-1)∧b.getD k (-1)<_
  rw[hget k y hy]
  omega
 ·show b.getD k (-1) = -1
  by_cases hl:k<b.length
  ·have hy:=qLf hl
   have:=hv k _ hy
   rw[hk,if_neg (by decide)] at this
   rw[hget k _ hy,this]
  ·rw[List.getD_eq_getElem?_getD,qLL (by omega)];rfl
 ·rw[List.getElem?_take] at hy
  split at hy
  ·show y=x↔b.getD k (-1)=x
   rw[hget k y hy]
  ·cases hy
theorem qff {n:qb} {l:List qa} {set:Nat} (h:q2J n l set) {s:qg} {d b:List Int} (hd:d.length=l.length) (hf:q5t d s l n set) (hb:b.length=l.length) (hv:Holds b set (lvN n))
  (hm:(q3R s l (fun k=>b.getD k (-1)) n 0).2=true):d=b∨quS (lvN n+1) d<quS (lvN n+1) b:=by
 have hll:=h.ll
 have key:∀j,j≤l.length→d.take j=b.take j∨quS (lvN n+1) (d.take j)<quS (lvN n+1) (b.take j):=by
  intro j
  induction j with
  | zero=>intro _;left;rw[List.take_zero,List.take_zero]
  | succ j ih=>
   intro hj
   obtain⟨x,hx⟩:∃x,d[j]?=some x:=⟨_,qLf (by omega)⟩
   obtain⟨z,hz⟩:∃z,b[j]?=some z:=⟨_,qLf (by omega)⟩
   have ed:d.take (j+1)=d.take j++[x]:=by rw[List.take_add_one,hx];rfl
   have eb:b.take (j+1)=b.take j++[z]:=by rw[List.take_add_one,hz];rfl
   have vx:=hf.val j x hx
   have vz:=hv j z hz
   have hA:=(q4w (b.take (j+1)) s l (by omega) n 0 set h.fit h.lt).2 ⟨_,qb9 h hb hv (j+1),hm⟩
   rw[ed,eb,qeO,qeO]
   rw[eb] at hA
   rcases ih (by omega) with e|e
   ·by_cases hbit:set.testBit j=true
    ·rw[if_pos hbit] at vx vz
     rcases Int.lt_trichotomy z x with g|g|g
     ·exfalso
      have:=hf.lst j x hx hbit z.toNat (by omega)
      rw[e,show((z.toNat:Nat):Int)=z from by omega,hA] at this
      exact absurd this (by decide)
     ·left;rw[e,g]
     ·right;rw[e];omega
    ·rw[if_neg hbit] at vx vz
     left;rw[e,vx,vz]
   ·right
    have h1:(x+1).toNat<lvN n+1:=by split at vx<;>omega
    have:=Nat.mul_le_mul_right (lvN n+1) e
    rw[Nat.succ_mul] at this
    omega
 have:=key l.length (qLt _)
 rwa [qMm (by omega),qMm (by omega)] at this
def qtN (b:List Int):Nat:=mkS (fun j=>decide (0≤b.getD j (-1))) b.length
theorem qdY {b:List Int} {j:Nat} {y:Int} (h:b[j]?=some y):(qtN b).testBit j=decide (0≤y):=by
 unfold qtN
 rw[qdm,qMe (JB h),qLK,List.getD_eq_getElem?_getD,h]
 rfl
theorem qsD (b:List Int):qtN b<2 ^ b.length:=qxL _ _
theorem qjb {b:List Int} {w:Nat} (h:∀(j:Nat) (y:Int),b[j]?=some y → -1≤y∧y<(w:Int)):Holds b (qtN b) w:=fun j y hy=>by
 have:=h j y hy
 rw[qdY hy]
 by_cases e:0≤y
 ·rw[if_pos (qMe e)];omega
 ·rw[decide_eq_false e,if_neg (by decide)];omega
def qje (n:qb) (s:qg) (l:List qa) (b:List Int):Bool:=(q3R s l (fun k=>b.getD k (-1)) n 0).2
theorem qf7 {n:qb} {l:List qa} {set:Nat} (h:q2J n l set) {s:qg} {b:List Int} (hb:b.length=l.length) (hv:Holds b set (lvN n)) (hm:qje n s l b=true):QH [] s l n 0 set=true:=by
 have:=qb9 h hb hv 0
 rw[List.take_zero] at this
 exact(q4w [] s l (by have:=h.ll;omega) n 0 set h.fit h.lt).2 ⟨_,this,hm⟩
end
noncomputable section
open Go.RowKit
theorem q8y {n:qb} {l:List qa} {set:Nat} (h:q2J n l set) {s:qg} {d:List Int} (hd:d.length=l.length) (hf:q5t d s l n set):qje n s l d=true:=by
 have hll:=h.ll
 obtain⟨a,ha,hm⟩:=(q4w d s l (by omega) n 0 set h.fit h.lt).1 hf.ok
 have hget:∀j,j<l.length→∃y,d[j]?=some y∧d.getD j (-1)=y:=fun j hj=>⟨d[j]'(by omega),qLf (by omega),by rw[List.getD_eq_getElem?_getD,qLf (by omega)];rfl⟩
 have hv:q3R s l (fun j=>d.getD j (-1)) n 0=q3R s l a n 0:=q4k s l _ a n 0 fun k hk x hx hx2=>by
  obtain⟨y,hy,e⟩:=hget k hk
  show d.getD k (-1)=x↔a k=x
  rw[e]
  exact ha.com k y hy x hx (by omega)
 unfold qje
 rw[hv];exact hm
theorem qfL {n:qb} {l:List qa} {set:Nat} {s:qg} {d:List Int} (hf:q5t d s l n set) (j:Nat) (y:Int) (hy:d[j]?=some y) : -1≤y∧y+1<((lvN n+1:Nat):Int):=by
 have:=hf.val j y hy
 split at this<;>omega
end
noncomputable section
open Go.RowKit
structure Szs (n:qb):Prop where
 hg:hgN n≤100
 nd:(ndN n).length≤9999
 st:∀y∈ndN n,y.Set.length≤1000000
structure Rgt (n:qb):Prop where
 sz:Szs n
 ck:qcF n=0
theorem qif:∀l:List qb,(qqZ l).getD 0=0→∀y∈l,q83 y=0
 | [],_,y,hy=>by cases hy
 | x::l,h,y,hy=>by
  unfold qqZ at h
  rw[List.findSome?_cons] at h
  by_cases hx:q83 x=0
  ·simp only[hx,ne_eq,not_true_eq_false,if_false] at h
   rcases qLz.1 hy with e|hy
   ·rw[e];exact hx
   ·exact qif l h y hy
  ·simp only[hx,ne_eq,not_false_eq_true,if_true,Option.getD_some] at h
theorem qpm {n:qb} (h:Rgt n):∀y∈ndN n,q83 y=0:=by
 have hc:=h.ck
 unfold qcF at hc
 split at hc
 ·exact absurd hc (by decide)
 split at hc
 ·exact absurd hc (by decide)
 split at hc
 ·exact absurd hc (by decide)
 exact qif _ hc
theorem qoK {y:qb} (h:q83 y=0):q1E y:=by
 unfold q83 at h
 by_cases e1:y.Kind=1
 ·exact⟨.inl e1,fun e=>by omega,fun e=>by omega⟩
 rw[if_neg e1] at h
 by_cases e2:y.Kind=2
 ·exact⟨.inr (.inl e2),fun e=>by omega,fun e=>by omega⟩
 rw[if_neg e2] at h
 by_cases e3:y.Kind=3
 ·rw[if_pos e3] at h
  split at h
  ·exact absurd h (by decide)
  ·rename_i hb
   have hb1:q7B y=true:=by
    cases hq:q7B y
    ·exact absurd (.inl hq) hb
    ·rfl
   have hb2:y.N=0:=Classical.byContradiction fun q=>hb (.inr q)
   unfold q7B at hb1
   simp only[qLJ] at hb1
   refine⟨.inr (.inr (.inl e3)),fun _=>⟨by omega,fun q=>?_⟩,fun e=>by omega⟩
   rw[q] at hb1
   exact absurd hb1.2 (by decide)
 rw[if_neg e3] at h
 by_cases e4:y.Kind=4
 ·rw[if_pos e4] at h
  split at h
  ·exact absurd h (by decide)
  ·split at h
   ·exact absurd h (by decide)
   ·rename_i hi
    have:inF y.N 1 y.L.length=true:=by simpa using hi
    unfold inF at this
    rw[qLJ,qMd] at this
    exact⟨.inr (.inr (.inr e4)),fun e=>by omega,fun _=>this.1⟩
 ·rw[if_neg e4] at h
  exact absurd h (by decide)
theorem qgh {n:qb} (h:Rgt n):∀y∈ndN n,q1E y:=fun y hy=>qoK (qpm h y hy)
theorem q3n {n:qb} (h:Rgt n) {l:List qa} (hl:l.length≤10) {set:Nat} (hs:set<2 ^ l.length):q2J n l set:=⟨qgh h,h.sz.nd,h.sz.st,by omega,hs⟩
theorem qdy {n:qb} (h:Rgt n) (s:qg) (l:List qa) (hl:l.length≤10):q2n n s l=some (Z9 (2 ^ l.length) (QH [] s l n 0),0):=by
 have h4:=h.sz.nd
 unfold q2n
 rw[q8g n h.sz.hg h.sz.nd h.sz.st,h.ck,qLd,if_neg (by decide),if_neg (by omega)]
 unfold q4S
 have:=qlm [] rfl s l (by omega) _ n (qLt _) (by omega) h.sz.st 0 (by omega)
 rw[show((0:Nat):Int)=0 from rfl] at this
 rw[this,qLd,qLd]
theorem qkZ {n:qb} (h:Rgt n) {l:List qa} (hl:l.length≤10) (s:qg) (d:List Int) (hd:d.length=l.length) (hv:∀(j:Nat) (y:Int),d[j]?=some y → -1≤y∧y<(lvN n:Int)):q2f n s l d=some (qje n s l d):=by
 have hnd:=h.sz.nd
 have hlf:=ql2 n (qgh h)
 unfold q2f
 rw[qfm n h.sz.hg hnd h.sz.st,qLd,q8g n h.sz.hg hnd h.sz.st,h.ck,qLd,if_neg (by decide),if_neg (by rw[hd];simp),qpN d (by omega) _ fun j y hy=>?_,qLd,if_neg (by decide)]
 ·change Option.bind (JD (n,s,l,d,((0:Nat):Int))) _=_
  rw[qmB s l (by omega) d hd n 0 h.sz.st (by omega),qLd]
  rfl
 ·have:=hv j y hy
  unfold JX
  rw[if_neg (by omega)];exact decide_eq_false (by omega)
theorem qcG {n:qb} {l:List qa} {set:Nat} (h:q2J n l set) {s:qg} {d b:List Int} (hd:d.length=l.length) (hf:q5t d s l n set) (hb:b.length=l.length) (hg:q5t b s l n set):d=b:=by
 rcases qff h hd hf hb hg.val (q8y h hb hg) with e|e
 ·exact e
 ·rcases qff h hb hg hd hf.val (q8y h hd hf) with e2|e2
  ·exact e2.symm
  ·omega
theorem qbs {n:qb} {l:List qa} {set:Nat} (h:q2J n l set) {s:qg} {d:List Int} (hd:d.length=l.length) (hf:q5t d s l n set):QH [] s l n 0 set=true:=
 qf7 h hd hf.val (q8y h hd hf)
theorem qms {n:qb} (h:Rgt n) {l:List qa} (hl:l.length≤10) {set:Nat} (hs:set<2 ^ l.length) (s:qg) {d:List Int} (hd:d.length=l.length) (hf:q5t d s l n set):q0L n s l (set:Int)=some (QW set.testBit d,true):=by
 have hG:=q3n h hl hs
 rcases qeU hG s (qdy h s l hl) with ⟨g1,_⟩|⟨_,b,g2,g3,g4⟩
 ·rw[qbs hG hd hf] at g1;cases g1
 ·rw[g4,qcG hG hd hf g2 g3]
end
noncomputable section
open Go.RowKit
theorem q7p {α:Type}:∀(l:List α) (m:Nat→Bool),(QW m l).length=rkF m l.length
 | [],_=>rfl
 | a::l,m=>by
  rw[QW,qLk,q7p l,qLo,qaL]
  cases m 0<;>rfl
theorem qkf {α:Type}:∀(l:List α) (m:Nat→Bool) (k:Nat),m k=true→(QW m l)[rkF m k]?=l[k]?
 | [],_,_,_=>by rw[QW];simp
 | a::l,m,0,h=>by rw[QW,h,if_pos rfl];rfl
 | a::l,m,k+1,h=>by
  rw[QW,qaL]
  have:=qkf l (fun j=>m (j+1)) k h
  cases m 0
  ·rw[if_neg (by decide),if_neg (by decide),qLx,qLB,this,qLC]
  ·rw[if_pos rfl,if_pos rfl,qMl,Nat.add_comm 1,qLC,this,qLC]
theorem q5V {α:Type}:∀(l:List α) (m:Nat→Bool) (x:α),x∈QW m l→x∈l
 | [],_,_,h=>by cases h
 | a::l,m,x,h=>by
  rw[QW,qLH] at h
  rcases h with h|h
  ·cases h0:m 0<;>rw[h0] at h
   ·cases h
   ·exact qM4.1 h ▸ qLs
  ·exact qLl _ (q5V l _ x h)
theorem qbt {α:Type} (N:Nat) (g:Nat→α):Z9 (N+1) g=Z9 N g++[g N]:=by
 unfold Z9
 rw[List.range_succ,List.map_append];rfl
theorem qhU (m:Nat→Bool) (lf:List Int):∀N,rkF m N≤lf.length→QW m (Z9 N (q9i m fun j=>lf.getD j (-1)))=lf.take (rkF m N)
 | 0,_=>by rw[rkF,List.take_zero];rfl
 | N+1,h=>by
  rw[rkF] at h
  rw[qbt,q5K,qhU m lf N (by omega),zE,rkF]
  unfold q9i
  cases e:m N
  ·rw[if_neg (by decide),if_neg (by decide),qLy,Nat.add_zero]
  ·rw[if_pos rfl,if_pos rfl,if_pos rfl,List.take_add_one]
   rw[e,if_pos rfl] at h
   dsimp only
   rw[List.getD_eq_getElem?_getD,qLf (by omega)]
   rfl
theorem qf2:∀{a b:List Int} {x y:Int},a.length=b.length→(q5p (a++[x]) (b++[y])=true↔q5p a b=true∨(a=b∧x<y))
 | [],[],x,y,_=>by simp[q5p]
 | u::a,v::b,x,y,h=>by
  have:=qf2 (a:=a) (b:=b) (x:=x) (y:=y) (by simpa using h)
  rw[qMk,qMk,q5p,q5p,qLI,qLI,qLJ,qLJ,this,qMd,beq_iff_eq]
  constructor
  ·rintro(h|⟨h,h2|⟨h2,h3⟩⟩)
   ·exact .inl (.inl h)
   ·exact .inl (.inr ⟨h,h2⟩)
   ·exact .inr ⟨by rw[h,h2],h3⟩
  ·rintro((h|⟨h,h2⟩)|⟨h,h2⟩)
   ·exact .inl h
   ·exact .inr ⟨h,.inl h2⟩
   ·injection h with h3 h4;exact .inr ⟨h3,.inr ⟨h4,h2⟩⟩
theorem qiz:∀{a b:List Int} {m:Nat→Bool},a.length=b.length→(∀k,m k=false→a[k]?=b[k]?)→q5p a b=true→q5p (QW m a) (QW m b)=true
 | [],[],_,_,_,h=>by cases h
 | x::a,y::b,m,hl,he,h=>by
  rw[q5p,qLI,qLJ,qMd,beq_iff_eq] at h
  have ih:=fun h=>qiz (a:=a) (b:=b) (m:=fun j=>m (j+1)) (by simpa using hl) (fun k hk=>by simpa using he (k+1) hk) h
  rw[QW,QW]
  cases e:m 0
  ·rw[if_neg (by decide),if_neg (by decide),qLx,qLx]
   have:x=y:=by simpa using he 0 e
   rcases h with h|h
   ·omega
   ·exact ih h.2
  ·rw[if_pos rfl,if_pos rfl,qMl,qMl,q5p,qLI,qLJ,qMd,beq_iff_eq]
   rcases h with h|h
   ·exact .inl h
   ·exact .inr ⟨h.1,ih h.2⟩
theorem qlk {n:qb} {l:List qa} {set:Nat} (h:q2J n l set) {s:qg} {d b:List Int} (hd:d.length=l.length) (hf:q5t d s l n set) (hb:b.length=l.length) (hv:Holds b set (lvN n))
  (hm:qje n s l b=true):d=b∨q5p d b=true:=by
 have hll:=h.ll
 have key:∀j,j≤l.length→d.take j=b.take j∨q5p (d.take j) (b.take j)=true:=by
  intro j
  induction j with
  | zero=>intro _;left;rw[List.take_zero,List.take_zero]
  | succ j ih=>
   intro hj
   obtain⟨x,hx⟩:∃x,d[j]?=some x:=⟨_,qLf (by omega)⟩
   obtain⟨z,hz⟩:∃z,b[j]?=some z:=⟨_,qLf (by omega)⟩
   have ed:d.take (j+1)=d.take j++[x]:=by rw[List.take_add_one,hx];rfl
   have eb:b.take (j+1)=b.take j++[z]:=by rw[List.take_add_one,hz];rfl
   have hlen:(d.take j).length=(b.take j).length:=by rw[qLG,qLG];omega
   have vx:=hf.val j x hx
   have vz:=hv j z hz
   have hA:=(q4w (b.take (j+1)) s l (by omega) n 0 set h.fit h.lt).2 ⟨_,qb9 h hb hv (j+1),hm⟩
   rw[ed,eb,qf2 hlen]
   rw[eb] at hA
   rcases ih (by omega) with e|e
   ·by_cases hbit:set.testBit j=true
    ·rw[if_pos hbit] at vx vz
     rcases Int.lt_trichotomy z x with g|g|g
     ·exfalso
      have:=hf.lst j x hx hbit z.toNat (by omega)
      rw[e,show((z.toNat:Nat):Int)=z from by omega,hA] at this
      exact absurd this (by decide)
     ·left;rw[e,g]
     ·exact .inr (.inr ⟨e,g⟩)
    ·rw[if_neg hbit] at vx vz
     left;rw[e,vx,vz]
   ·exact .inr (.inl e)
 have:=key l.length (qLt _)
 rwa [qMm (by omega),qMm (by omega)] at this
structure Perm (n:qb) (s:qg) (l:List qa) (X:Nat) (lf:List Int):Prop where
 len:lf.length=rkF X.testBit l.length
 rng:∀(j:Nat) (y:Int),lf[j]?=some y → -1≤y∧y<(lvN n:Int)
 met:qje n s (QW X.testBit l) lf=true
theorem qiY {n:qb} (h:Rgt n) {l:List qa} (hl:l.length≤10) {set:Nat} (hs:set<2 ^ l.length) (s:qg) (hS:QH [] s l n 0 set=true):∃d,d.length=l.length∧q5t d s l n set:=by
 rcases qeU (q3n h hl hs) s (qdy h s l hl) with ⟨e,_⟩|⟨_,d,h1,h2,_⟩
 ·rw[hS] at e;cases e
 ·exact⟨d,h1,h2⟩
theorem qcM {n:qb} (h:Rgt n) {l:List qa} (hl:l.length≤10) {s:qg} {X:Nat} {lf:List Int} (hp:Perm n s l X lf) :
  ∃sub d,sub<2 ^ l.length∧sub &&& X=sub∧d.length=l.length∧q5t d s l n sub∧(QW X.testBit d=lf∨q5p (QW X.testBit d) lf=true):=by
 obtain⟨b,hb⟩:∃b,b=Z9 l.length (q9i X.testBit fun j=>lf.getD j (-1)):=⟨_,rfl⟩
 have hbl:b.length=l.length:=by rw[hb,zE]
 have hget:∀k,k<l.length→b[k]?=some (q9i X.testBit (fun j=>lf.getD j (-1)) k):=fun k hk=>by rw[hb,Jf _ hk]
 have hrng:∀(j:Nat) (y:Int),b[j]?=some y → -1≤y∧y<(lvN n:Int):=fun j y hy=>by
  have hj:=JB hy
  rw[hget j (by omega)] at hy
  injection hy with hy
  unfold q9i at hy
  split at hy
  ·subst hy
   by_cases hr:rkF X.testBit j<lf.length
   ·have:=hp.rng _ _ (qLf hr)
    dsimp only
    rw[List.getD_eq_getElem?_getD,qLf hr];exact this
   ·dsimp only
    rw[List.getD_eq_getElem?_getD,qLL (by omega)]
    exact⟨Int.le_refl _,by show(-1:Int)<_;omega⟩
  ·subst hy;exact⟨Int.le_refl _,by omega⟩
 have hv:=qjb hrng
 have hset:qtN b<2 ^ l.length:=hbl ▸ qsD b
 have G:=q3n h hl hset
 have hm:qje n s l b=true:=by
  have h1:=hp.met
  unfold qje at h1 ⊢
  rw[qi6] at h1
  rw[←h1]
  congr 1
  refine q4k s l _ _ n 0 fun k hk x _ _=>?_
  show b.getD k (-1)=x↔_
  rw[List.getD_eq_getElem?_getD,hget k hk];exact Iff.rfl
 obtain⟨d,hd,hf⟩:=qiY h hl hset s (qf7 G hbl hv hm)
 refine⟨qtN b,d,hset,?_,hd,hf,?_⟩
 ·refine qeu fun k hk=>?_
  by_cases hkl:k<l.length
  ·rw[qdY (hget k hkl),qMd] at hk
   unfold q9i at hk
   split at hk
   ·assumption
   ·omega
  ·rw[Nat.testBit_lt_two_pow (qLN hset (Nat.pow_le_pow_right (by decide) (by omega)))] at hk;cases hk
 ·have hsel:QW X.testBit b=lf:=by
   rw[hb,qhU _ _ _ (by rw[hp.len];exact qLt _),←hp.len,List.take_length]
  rcases qlk G hd hf hbl hv hm with e|e
  ·left;rw[e,hsel]
  ·right
   have:=qiz (m:=X.testBit) (by omega) (fun k hk=>?_) e
   ·rw[hsel] at this;exact this
   ·by_cases hkl:k<l.length
    ·obtain⟨y,hy⟩:∃y,d[k]?=some y:=⟨_,qLf (by omega)⟩
     have hbit:(qtN b).testBit k=false:=by
      rw[qdY (hget k hkl)]
      unfold q9i
      rw[hk,if_neg (by decide)];rfl
     have:=hf.val k y hy
     rw[hbit,if_neg (by decide)] at this
     rw[hy,hget k hkl,this]
     unfold q9i
     rw[hk,if_neg (by decide)]
    ·rw[qLL (by omega),qLL (by omega)]
theorem qjO {n:qb} (h:Rgt n) {l:List qa} (hl:l.length≤10) {s:qg} {X sub:Nat} (hs:sub<2 ^ l.length) (hX:sub &&& X=sub) {d:List Int} (hd:d.length=l.length) (hf:q5t d s l n sub):Perm n s l X (QW X.testBit d):=by
 have G:=q3n h hl hs
 refine⟨by rw[q7p,hd],fun j y hy=>?_,?_⟩
 ·obtain⟨k,hk⟩:=List.getElem?_of_mem (q5V d _ y (qLe hy))
  have:=qfL hf k y hk
  omega
 ·have h1:=q8y G hd hf
  unfold qje at h1 ⊢
  rw[qi6,←h1]
  congr 1
  refine q4k s l _ _ n 0 fun k hk x _ _=>?_
  obtain⟨y,hy⟩:∃y,d[k]?=some y:=⟨_,qLf (by omega)⟩
  show _↔d.getD k (-1)=x
  unfold q9i
  by_cases hk2:X.testBit k=true
  ·rw[if_pos hk2]
   dsimp only
   rw[List.getD_eq_getElem?_getD,List.getD_eq_getElem?_getD,qkf d _ k hk2]
  ·rw[if_neg hk2,List.getD_eq_getElem?_getD,hy]
   have hb:sub.testBit k=false:=qLF.2 fun e=>hk2 (q9y hX e)
   have:=hf.val k y hy
   rw[hb,if_neg (by decide)] at this
   rw[this];exact Iff.rfl
end
noncomputable section
open Go.RowKit
set_option maxRecDepth 100000
def q3v (N m:Nat):List Int:=QW m.testBit (Z9 N fun i=>(i:Int))
theorem qn7 {α:Type} (N:Nat) (g:Nat→α):Z9 (N+1) g=g 0::Z9 N fun i=>g (i+1):=by
 unfold Z9
 rw[List.range_succ_eq_map,qLA,List.map_map];rfl
theorem qip {α:Type}:∀(l:List α) (p:Nat→Bool),(∀k,k<l.length→p k=false)→QW p l=[]
 | [],_,_=>rfl
 | a::l,p,h=>by
  rw[QW,h 0 (by simp),qip l _ fun k hk=>h (k+1) (by simpa using hk)];rfl
theorem qfj {m:Nat} {N:Nat} (hN:N≤60) (hm:m<2 ^ N):∀(j k:Nat) (l:List Int),j+k=N→l.length≤k→zG (Qz (m:Int)) (l,(k:Int))=some (l++QW (fun i=>m.testBit (k+i)) (Z9 j fun i=>((k+i:Nat):Int))):=by
 have hML:100000≤maxLen:=by unfold maxLen;omega
 have hm63:m<9223372036854775808:=qLN hm (qLO (Nat.pow_le_pow_right (by decide) hN) (by decide))
 have stop:∀(k:Nat) (l:List Int),k≤60→m / 2 ^ k=0→zG (Qz (m:Int)) (l,(k:Int))=some l:=fun k l hk h0=>by
  refine zD ?_
  unfold Qz
  dsimp only
  rw[if_pos (by omega),qLg,q8C m k (by omega),h0,if_neg (by decide)]
 intro j
 induction j with
 | zero=>
  intro k l hk hl
  obtain rfl:k=N:=by omega
  rw[stop k l hN (Nat.div_eq_of_lt hm)]
  show some l=some (l++[])
  rw[qLy]
 | succ j ih=>
  intro k l hk hl
  by_cases h0:m / 2 ^ k=0
  ·rw[stop k l (by omega) h0,qip _ _ fun i _=>?_,qLy]
   rw[Nat.testBit_eq_decide_div_mod_eq,Nat.pow_add,←Nat.div_div_eq_div_mul,h0,Nat.zero_div]
   rfl
  ·have hws:w64 ((k:Int)+1)=((k+1:Nat):Int):=Qy (n:=1000) (by omega) (by omega)
   have hb:=qfK m k hm63 (by omega)
   rw[qn7,QW]
   have e1:(fun i=>m.testBit (k+(i+1)))=fun i=>m.testBit (k+1+i):=funext fun i=>by rw[Nat.add_right_comm,qM7]
   have e2:(fun i=>((k+(i+1):Nat):Int))=fun i=>((k+1+i:Nat):Int):=funext fun i=>by rw[Nat.add_right_comm,qM7]
   rw[e1,e2]
   have hpos:(0:Int)<((m:Int)).fdiv (2 ^ min k IntKind.i64.bits):=by rw[q8C m k (by omega)];exact Int.ofNat_lt.2 (Nat.pos_of_ne_zero h0)
   cases e:m.testBit k
   ·rw[if_neg (by decide),qLx,←ih (k+1) l (by omega) (by omega)]
    refine Q4 ?_
    unfold Qz
    dsimp only
    rw[if_pos (by omega),qLg,if_pos hpos,if_pos (by omega),if_neg (by rw[hb,e];decide),hws]
   ·rw[if_pos rfl,Nat.add_zero,←qLT,←ih (k+1) (l++[(k:Int)]) (by omega) (by rw[qLk];exact Nat.succ_le_succ hl)]
    refine Q4 ?_
    unfold Qz
    dsimp only
    rw[if_pos (by omega),qLg,if_pos hpos,if_pos (by omega),if_pos (by rw[hb,e]),if_pos ⟨by omega,by omega⟩,hws]
theorem q3i {m N:Nat} (hN:N≤60) (hm:m<2 ^ N):ZD (m:Int)=some (q3v N m):=by
 have h:=qfj hN hm N 0 [] (by omega) (qLt _)
 unfold ZD
 change Option.bind (zG _ ([],((0:Nat):Int))) _=_
 rw[h,qLd,qLx]
 simp only[qLB]
 rfl
def qk1:List Int→List Int→Int
 | [],[]=>0
 | [],_::_ => -1
 | _::_,[]=>1
 | a::l,b::m=>if a<b then -1 else if b<a then 1 else qk1 l m
theorem qed:∀a b:List Int,(qk1 a b<0↔q5p a b=true)
 | [],[]=>by simp[qk1,q5p]
 | [],_::_=>by simp[qk1,q5p]
 | _::_,[]=>by simp[qk1,q5p]
 | a::l,b::m=>by
  rw[qk1,q5p,qLI,qLJ,qMd,beq_iff_eq]
  split
  ·rename_i h;exact⟨fun _ => .inl h,fun _=>by decide⟩
  ·split
   ·rename_i h;exact⟨fun h=>absurd h (by decide),fun h2=>by omega⟩
   ·rw[qed l m]
    exact⟨fun h => .inr ⟨by omega,h⟩,fun h=>h.elim (fun h=>absurd h (by assumption)) fun h=>h.2⟩
theorem qnD (x y:Int):Q7 x y=qdF x y:=by
 have hn:∀z:Int,Qg z=false:=fun z=>by unfold Qg;simp
 unfold Q7 qdF
 rw[hn x,hn y,if_neg (by decide),if_neg (by decide)]
theorem q9Z (s1 s2:List Int) (h1:s1.length≤1000000):∀(r q:List Int) (i:Nat),r.length+i=s1.length→(∀j,r[j]?=s1[i+j]?)→(∀j,q[j]?=s2[i+j]?)→(q=[]↔s2.length≤i)→
  ∃e:Int⊕Unit,zG (zP s1 s2 s1 ((s1.length:Nat):Int)) (i:Int)=some e∧e.elim id (fun _=>if((s1.length:Nat):Int)<((s2.length:Nat):Int) then -1 else 0)=qk1 r q
 | [],q,i,hi,hr,hq,h0=>by
  have hi:i=s1.length:=by simpa using hi
  refine⟨.inr (),zD ?_,?_⟩
  ·unfold zP
   rw[if_neg (by omega)]
  ·show(if _ then(-1:Int) else 0)=_
   cases q with
   | nil=>rw[if_neg (by have:=h0.1 rfl;omega)];rfl
   | cons y q=>
    have hq2:¬ s2.length≤i:=fun h=>by cases h0.2 h
    rw[if_pos (by omega)];rfl
 | x::r,q,i,hi,hr,hq,h0=>by
  have hil:i<s1.length:=by simp only[qLo] at hi;omega
  have hx:s1[i]?=some x:=by have:=hr 0;rw[Nat.add_zero] at this;exact this.symm
  have hws:w64 ((i:Int)+1)=((i+1:Nat):Int):=Qy (n:=10000000) (by omega) (by omega)
  cases q with
  | nil=>
   have:=h0.1 rfl
   refine⟨.inl 1,zD ?_,rfl⟩
   unfold zP
   rw[if_pos (by omega),if_pos ⟨by omega,by omega⟩,qLg,hx,qLd,if_pos (by omega)]
  | cons y q=>
   have hl2:i<s2.length:=Nat.lt_of_not_le fun h=>by cases h0.2 h
   have hy:s2[i]?=some y:=by have:=hq 0;rw[Nat.add_zero] at this;exact this.symm
   have step:zP s1 s2 s1 ((s1.length:Nat):Int) (i:Int)=if(qdF x y != 0)=true then some (.inr (.inl (qdF x y))) else some (.inl ((i+1:Nat):Int)):=by
    unfold zP
    rw[if_pos (by omega),if_pos ⟨by omega,by omega⟩,qLg,hx,qLd,if_neg (by omega),if_pos ⟨by omega,by omega⟩,hy,qLd,qnD,hws]
   by_cases hc:qdF x y=0
   ·rw[if_neg (by simpa using hc)] at step
    obtain⟨e,e1,e2⟩:=q9Z s1 s2 h1 r q (i+1) (by simp only[qLo] at hi;omega) (fun j=>by have:=hr (j+1);rw[qLC] at this;rw[this];congr 1;omega) (fun j=>by have:=hq (j+1);rw[qLC] at this;rw[this];congr 1;omega) (by
     have h3:=hq 1
     rw[qLC] at h3
     constructor
     ·rintro rfl
      rw[List.getElem?_nil] at h3
      exact List.getElem?_eq_none_iff.1 h3.symm
     ·intro h
      rw[qLL h] at h3
      cases q with
      | nil=>rfl
      | cons z q=>cases h3)
    refine⟨e,(Q4 step).trans e1,?_⟩
    rw[e2,qk1]
    unfold qdF at hc
    split at hc
    ·cases hc
    ·split at hc
     ·cases hc
     ·rename_i h1 h2;rw[if_neg h1,if_neg h2]
   ·rw[if_pos (by simpa using hc)] at step
    refine⟨.inl (qdF x y),zD step,?_⟩
    show qdF x y=_
    rw[qk1]
    unfold qdF at hc ⊢
    split
    ·rfl
    ·rename_i h1
     split
     ·rfl
     ·rename_i h2;rw[if_neg h1,if_neg h2] at hc;exact absurd rfl hc
theorem qlJ (s1 s2:List Int) (h1:s1.length≤1000000):QM s1 s2=some (qk1 s1 s2):=by
 obtain⟨e,e1,e2⟩:=q9Z s1 s2 h1 s1 s2 0 (by omega) (fun j=>by rw[qLB]) (fun j=>by rw[qLB]) ⟨fun h=>by rw[h];exact qLt _,fun h=>qLw (by omega)⟩
 unfold QM
 change Option.bind (zG _ ((0:Nat):Int)) _=_
 rw[e1,qLd]
 cases e with
 | inl v=>rw[Sum.elim_inl];exact congrArg some e2
 | inr v=>
  rw[Sum.elim_inr]
  have e2:(if((s1.length:Nat):Int)<((s2.length:Nat):Int) then(-1:Int) else 0)=qk1 s1 s2:=e2
  rw[←e2]
  split<;>rfl
theorem qny {α:Type}:∀(l:List α) (p:Nat→Bool) (x:α),x∈QW p l↔∃k,p k=true∧l[k]?=some x
 | [],p,x=>by simp[QW]
 | a::l,p,x=>by
  rw[QW,qLH,qny l]
  constructor
  ·rintro(h|⟨k,h1,h2⟩)
   ·split at h
    ·rename_i h0;exact⟨0,h0,by rw[qM4.1 h];rfl⟩
    ·cases h
   ·exact⟨k+1,h1,h2⟩
  ·rintro⟨k,h1,h2⟩
   cases k with
   | zero=>left;rw[if_pos h1];injection h2 with h2;rw[h2];exact qM4.2 rfl
   | succ k=>right;exact⟨k,h1,h2⟩
theorem qic {N m k:Nat}:((k:Nat):Int)∈q3v N m↔k<N∧m.testBit k=true:=by
 unfold q3v
 rw[qny]
 constructor
 ·rintro⟨j,h1,h2⟩
  have hj:=JB h2
  rw[zE] at hj
  rw[Jf _ hj] at h2
  injection h2 with h2
  obtain rfl:j=k:=by omega
  exact⟨hj,h1⟩
 ·rintro⟨h1,h2⟩
  exact⟨k,h2,Jf _ h1⟩
theorem qqF {N a b:Nat} (ha:a<2 ^ N) (hb:b<2 ^ N) (h:q3v N a=q3v N b):a=b:=Nat.eq_of_testBit_eq fun k=>by
 by_cases hk:k<N
 ·have h1:=qic (N:=N) (m:=a) (k:=k)
  rw[h,qic] at h1
  rw[Bool.eq_iff_iff]
  exact⟨fun e=>(h1.2 ⟨hk,e⟩).2,fun e=>(h1.1 ⟨hk,e⟩).2⟩
 ·rw[Nat.testBit_lt_two_pow (qLN ha (Nat.pow_le_pow_right (by decide) (by omega))),Nat.testBit_lt_two_pow (qLN hb (Nat.pow_le_pow_right (by decide) (by omega)))]
theorem qoi {N M m:Nat} (hN:N≤60) (hM:M≤60) (h1:m<2 ^ N) (h2:m<2 ^ M):q3v N m=q3v M m:=by
 have:=(q3i hN h1).symm.trans (q3i hM h2)
 injection this
theorem qiK (N m:Nat):(q3v N m).length=rkF m.testBit N:=by
 unfold q3v
 rw[q7p,zE]
theorem qeS (m:Nat→Bool):∀N,rkF m N≤N
 | 0=>qLt _
 | N+1=>by rw[rkF];have:=qeS m N;split<;>omega
def qIi (m:Nat):Bool:=QA (IntKind.wrap IntKind.u64 (m:Int))==(((q3v 10 m).length:Nat):Int)
theorem qts:(List.range 1024).all qIi=true:=by kernel_rfl
theorem qr4 {N m:Nat} (hN:N≤10) (hm:m<2 ^ N):QA (IntKind.wrap IntKind.u64 (m:Int))=(((q3v N m).length:Nat):Int):=by
 have h10:m<2 ^ 10:=qLN hm (Nat.pow_le_pow_right (by decide) hN)
 have h:=qLu.1 qts m (qMa.2 h10)
 rw[qoi (show N≤60 by omega) (show 10≤60 by omega) hm h10]
 exact eq_of_beq h
theorem qlO {N:Nat} (hN:N≤10) {a b:Nat} (ha:a<2 ^ N) (hb:b<2 ^ N):∃c,Qu (a:Int) (b:Int)=some c∧(c<0↔slL (q3v N a) (q3v N b)=true):=by
 have la:(q3v N a).length≤10:=by rw[qiK];exact qLO (qeS _ _) hN
 unfold Qu
 rw[q3i (by omega) ha,qLd,q3i (by omega) hb,qLd,qlJ _ _ (by omega),qLd,qr4 hN ha,qr4 hN hb,qnD,qyt,qLd]
 refine⟨_,rfl,?_⟩
 rw[qh7]
 unfold qdF
 by_cases h1:(q3v N a).length<(q3v N b).length
 ·rw[if_pos (by omega:(((q3v N a).length:Nat):Int)<(((q3v N b).length:Nat):Int)),if_pos (by decide)]
  exact⟨fun _ => .inl h1,fun _=>by decide⟩
 ·rw[if_neg (by omega:¬ (((q3v N a).length:Nat):Int)<(((q3v N b).length:Nat):Int))]
  by_cases h2:(q3v N b).length<(q3v N a).length
  ·rw[if_pos (by omega:(((q3v N b).length:Nat):Int)<(((q3v N a).length:Nat):Int)),if_pos (by decide)]
   exact⟨fun h=>absurd h (by decide),fun h=>by rcases h with h|h<;>omega⟩
  ·rw[if_neg (by omega:¬ (((q3v N b).length:Nat):Int)<(((q3v N a).length:Nat):Int)),if_neg (by decide),qed]
   exact⟨fun h => .inr ⟨by omega,h⟩,fun h=>h.elim (fun h=>absurd h (by omega)) fun h=>h.2⟩
def msL (N:Nat):List Int:=q0C Qu (Z9 (2 ^ N) fun i=>(i:Int))
theorem q7e {N:Nat} {x:Int}:x∈(Z9 N fun i=>(i:Int))↔∃k:Nat,k<N∧x=(k:Int):=by
 unfold Z9
 rw[qLY]
 constructor
 ·rintro⟨k,h1,h2⟩;exact⟨k,qMa.1 h1,h2.symm⟩
 ·rintro⟨k,h1,h2⟩;exact⟨k,qMa.2 h1,h2.symm⟩
theorem qln (N:Nat):(Z9 N fun i=>(i:Int)).Nodup:=by
 unfold Z9
 rw[List.nodup_iff_pairwise_ne,List.pairwise_map]
 exact(List.nodup_iff_pairwise_ne.1 List.nodup_range).imp fun h e=>h (by omega)
theorem qye {N:Nat} (hN:N≤10):okB Qu (Z9 (2 ^ N) fun i=>(i:Int))=true∧(msL N).Pairwise (fun x y=>slL (q3v N x.toNat) (q3v N y.toNat)=true)∧∀x,x∈msL N↔∃k:Nat,k<2 ^ N∧x=(k:Int):=by
 have hs:∀x∈(Z9 (2 ^ N) fun i=>(i:Int)),∀y∈(Z9 (2 ^ N) fun i=>(i:Int)),∃c,Qu x y=some c∧(c<0↔slL (q3v N x.toNat) (q3v N y.toNat)=true):=fun x hx y hy=>by
  obtain⟨a,ha,rfl⟩:=q7e.1 hx
  obtain⟨b,hb,rfl⟩:=q7e.1 hy
  exact qlO hN ha hb
 have hi:∀x∈(Z9 (2 ^ N) fun i=>(i:Int)),∀y∈(Z9 (2 ^ N) fun i=>(i:Int)),q3v N x.toNat=q3v N y.toNat→x=y:=fun x hx y hy h=>by
  obtain⟨a,ha,rfl⟩:=q7e.1 hx
  obtain⟨b,hb,rfl⟩:=q7e.1 hy
  rw[qLg,qLg] at h
  rw[qqF ha hb h]
 refine⟨(qld hs hi).1,qmF hs hi (qln _),fun x=>?_⟩
 unfold msL
 rw[q2I,q7e]
end
noncomputable section
open Go.RowKit
theorem qmu {α β:Type} (f:α→Option β):∀(l:List α) (m:List β) (p:Nat→Bool),l.map f=m.map some→(QW p l).filterMap f=QW p m
 | [],[],_,_=>rfl
 | a::l,b::m,p,h=>by
  rw[qLA,qLA] at h
  injection h with h1 h2
  rw[QW,QW,List.filterMap_append,qmu f l m _ h2]
  congr 1
  split
  ·rw[List.filterMap_cons,h1];rfl
  ·rfl
theorem qkn {α:Type} (l:List α):(Z9 l.length fun i=>(i:Int)).map (fun y=>l[Int.toNat y]?)=l.map some:=by
 apply List.ext_getElem?
 intro j
 rw[qLr,qLr]
 by_cases hj:j<l.length
 ·rw[Jf _ hj,qLf hj,Option.map_some,Option.map_some,qLg,qLf hj]
 ·rw[qLL (by rw[zE];omega),qLL (by omega)];rfl
theorem qr8 {α:Type} (l:List α) (X:Nat):(q3v l.length X).filterMap (fun y=>l[Int.toNat y]?)=QW X.testBit l:=qmu _ _ _ _ (qkn l)
theorem mem_range {N X:Nat} {y:Int} (h:y∈q3v N X):∃k:Nat,k<N∧y=(k:Int):=by
 have:=q5V _ _ _ h
 obtain⟨k,h1,h2⟩:=q7e.1 this
 exact⟨k,h1,h2⟩
theorem q9W (l:List qa) (hl:l.length≤1000) (at0:List Int) (ha:at0.length≤1000) (hr:∀y∈at0,∃k:Nat,k<l.length∧y=(k:Int)):∀(r:List Int) (i:Nat) (out:List qa),r.length+i=at0.length→(∀j,r[j]?=at0[i+j]?)→out.length=i→
  zG (zn l at0 ((at0.length:Nat):Int)) (out,(i:Int))=some (out++r.filterMap fun y=>l[Int.toNat y]?)
 | [],i,out,hi,_,_=>by
  have hi:i=at0.length:=by simpa using hi
  refine(zD ?_).trans (by rw[List.filterMap_nil,qLy])
  unfold zn
  dsimp only
  rw[if_neg (by omega)]
 | y::r,i,out,hi,hj,ho=>by
  have hML:100000≤maxLen:=by unfold maxLen;omega
  have hil:i<at0.length:=by simp only[qLo] at hi;omega
  have hy:at0[i]?=some y:=by have:=hj 0;rw[Nat.add_zero] at this;exact this.symm
  obtain⟨k,hk,rfl⟩:=hr y (qLe hy)
  have hws:w64 ((i:Int)+1)=((i+1:Nat):Int):=Qy (n:=10000) (by omega) (by omega)
  have e:zn l at0 ((at0.length:Nat):Int) (out,(i:Int))=some (.inl (out++[l[k]],((i+1:Nat):Int))):=by
   unfold zn
   dsimp only
   rw[if_pos (by omega),if_pos ⟨by omega,by omega⟩,qLg,hy,qLd,if_pos ⟨by omega,by omega⟩,qLg,qLf hk,qLd,if_pos ⟨by omega,by omega⟩,hws]
  rw[Q4 e,q9W l hl at0 ha hr r (i+1) _ (by simp only[qLo] at hi;omega) (fun j=>by have:=hj (j+1);rw[qLC] at this;rw[this];congr 1;omega) (by rw[qLk,ho];rfl),List.filterMap_cons,qLg,qLf hk]
  simp
def qem (N:Nat) (m:Nat→Bool):List Int:=QW m (Z9 N fun i=>(i:Int))
theorem qdG (N:Nat) (m:Nat→Bool):(qem N m).length=rkF m N:=by
 unfold qem
 rw[q7p,zE]
theorem qcN {N:Nat} {m:Nat→Bool} {y:Int} (h:y∈qem N m):∃k:Nat,k<N∧y=(k:Int):=by
 have:=q5V _ _ _ h
 obtain⟨k,h1,h2⟩:=q7e.1 this
 exact⟨k,h1,h2⟩
theorem qmx {α:Type} (l:List α) (m:Nat→Bool):(qem l.length m).filterMap (fun y=>l[Int.toNat y]?)=QW m l:=qmu _ _ _ _ (qkn l)
theorem qlh {l:List qa} (hl:l.length≤1000) (m:Nat→Bool):zM l (qem l.length m)=some (QW m l):=by
 have hlen:(qem l.length m).length≤1000:=by rw[qdG];exact qLO (qeS _ _) hl
 have h:=q9W l (by omega) (qem l.length m) (by omega) (fun y hy=>qcN hy) (qem l.length m) 0 [] (by omega) (fun j=>by rw[qLB]) rfl
 unfold zM
 change Option.bind (zG _ ([],((0:Nat):Int))) _=_
 rw[h,qLd,qLx,qmx]
theorem q9Q (l:List Int) (hl:l.length≤1000) (at0:List Int) (ha:at0.length≤1000) (hr:∀y∈at0,∃k:Nat,k<l.length∧y=(k:Int)):∀(r:List Int) (i:Nat) (out:List Int),r.length+i=at0.length→(∀j,r[j]?=at0[i+j]?)→out.length=i→
  zG (Qn l at0 ((at0.length:Nat):Int)) (out,(i:Int))=some (out++r.filterMap fun y=>l[Int.toNat y]?)
 | [],i,out,hi,_,_=>by
  have hi:i=at0.length:=by simpa using hi
  refine(zD ?_).trans (by rw[List.filterMap_nil,qLy])
  unfold Qn
  dsimp only
  rw[if_neg (by omega)]
 | y::r,i,out,hi,hj,ho=>by
  have hML:100000≤maxLen:=by unfold maxLen;omega
  have hil:i<at0.length:=by simp only[qLo] at hi;omega
  have hy:at0[i]?=some y:=by have:=hj 0;rw[Nat.add_zero] at this;exact this.symm
  obtain⟨k,hk,rfl⟩:=hr y (qLe hy)
  have hws:w64 ((i:Int)+1)=((i+1:Nat):Int):=Qy (n:=10000) (by omega) (by omega)
  have e:Qn l at0 ((at0.length:Nat):Int) (out,(i:Int))=some (.inl (out++[l[k]],((i+1:Nat):Int))):=by
   unfold Qn
   dsimp only
   rw[if_pos (by omega),if_pos ⟨by omega,by omega⟩,qLg,hy,qLd,if_pos ⟨by omega,by omega⟩,qLg,qLf hk,qLd,if_pos ⟨by omega,by omega⟩,hws]
  rw[Q4 e,q9Q l hl at0 ha hr r (i+1) _ (by simp only[qLo] at hi;omega) (fun j=>by have:=hj (j+1);rw[qLC] at this;rw[this];congr 1;omega) (by rw[qLk,ho];rfl),List.filterMap_cons,qLg,qLf hk]
  simp
theorem quK {l:List Int} (hl:l.length≤1000) (m:Nat→Bool):ZL l (qem l.length m)=some (QW m l):=by
 have hlen:(qem l.length m).length≤1000:=by rw[qdG];exact qLO (qeS _ _) hl
 have h:=q9Q l (by omega) (qem l.length m) (by omega) (fun y hy=>qcN hy) (qem l.length m) 0 [] (by omega) (fun j=>by rw[qLB]) rfl
 unfold ZL
 change Option.bind (zG _ ([],((0:Nat):Int))) _=_
 rw[h,qLd,qLx,qmx]
end
noncomputable section
open Go.RowKit
structure qo8 (n:qb) (s:qg) (l:List qa) (X sub:Nat) (lf:List Int):Prop where
 lt:sub<2 ^ l.length
 sb:sub &&& X=sub
 ex:∃d,d.length=l.length∧q5t d s l n sub∧lf=QW X.testBit d
theorem qo8.uniq {n:qb} (h:Rgt n) {l:List qa} (hl:l.length≤10) {s:qg} {X sub:Nat} {lf lf':List Int} (a:qo8 n s l X sub lf) (b:qo8 n s l X sub lf'):lf=lf':=by
 obtain⟨d,h1,h2,rfl⟩:=a.ex
 obtain⟨d',h3,h4,rfl⟩:=b.ex
 rw[qcG (q3n h hl a.lt) h1 h2 h3 h4]
def q1d (n:qb) (s:qg) (l:List qa) (X:Nat) (P:Nat→Prop) (w:List Int) (f:Bool):Prop:=
 (f=true→(∃sub,P sub∧qo8 n s l X sub w)∧∀sub lf,P sub→qo8 n s l X sub lf→w=lf∨q5p w lf=true)∧
 (f=false→w=[]∧∀sub lf,P sub→¬ qo8 n s l X sub lf)
section
variable {n:qb} {s:qg} {l:List qa} {X:Nat} {P:Nat→Prop} {w:List Int} {f:Bool}
theorem q1d.start (h:∀k,¬ P k):q1d n s l X P [] false:=⟨fun h=>(by cases h),fun _=>⟨rfl,fun sub lf hp=>absurd hp (h sub)⟩⟩
theorem q1d.congr {Q:Nat→Prop} (h:q1d n s l X P w f) (hq:∀k,k<2 ^ l.length→k &&& X=k→(Q k↔P k)):q1d n s l X Q w f:=by
 refine⟨fun hf=>?_,fun hf=>?_⟩
 ·obtain⟨⟨sub,h1,h2⟩,h3⟩:=h.1 hf
  exact⟨⟨sub,(hq _ h2.lt h2.sb).2 h1,h2⟩,fun sub lf hp hc=>h3 sub lf ((hq _ hc.lt hc.sb).1 hp) hc⟩
 ·obtain⟨h1,h2⟩:=h.2 hf
  exact⟨h1,fun sub lf hp hc=>h2 sub lf ((hq _ hc.lt hc.sb).1 hp) hc⟩
theorem q1d.skip (h:q1d n s l X P w f) {sub:Nat} (hno:∀lf,¬ qo8 n s l X sub lf):q1d n s l X (fun k=>P k∨k=sub) w f:=by
 refine⟨fun hf=>?_,fun hf=>?_⟩
 ·obtain⟨⟨sub',h1,h2⟩,h3⟩:=h.1 hf
  refine⟨⟨sub',.inl h1,h2⟩,fun k lf hp hc=>?_⟩
  rcases hp with hp|rfl
  ·exact h3 k lf hp hc
  ·exact absurd hc (hno lf)
 ·obtain⟨h1,h2⟩:=h.2 hf
  refine⟨h1,fun k lf hp hc=>?_⟩
  rcases hp with hp|rfl
  ·exact h2 k lf hp hc
  ·exact hno lf hc
theorem q1d.take (hR:Rgt n) (hl:l.length≤10) (h:q1d n s l X P w f) {sub:Nat} {lf:List Int} (hc:qo8 n s l X sub lf) (hb:f=false∨q5p lf w=true):q1d n s l X (fun k=>P k∨k=sub) lf true:=by
 refine⟨fun _=>⟨⟨sub,.inr rfl,hc⟩,fun k lf2 hp hc2=>?_⟩,fun h=>(by cases h)⟩
 rcases hp with hp|rfl
 ·rcases hb with hf|hlt
  ·exact absurd hc2 ((h.2 hf).2 k lf2 hp)
  ·cases hf:f
   ·exact absurd hc2 ((h.2 hf).2 k lf2 hp)
   ·rcases(h.1 hf).2 k lf2 hp hc2 with e|e
    ·rw[←e];exact .inr hlt
    ·exact .inr (q4s hlt e)
 ·exact .inl (hc.uniq hR hl hc2)
theorem q1d.leave (hR:Rgt n) (hl:l.length≤10) (h:q1d n s l X P w true) {sub:Nat} {lf:List Int} (hc:qo8 n s l X sub lf) (hb:q5p lf w=false):q1d n s l X (fun k=>P k∨k=sub) w true:=by
 obtain⟨⟨sub',h1,h2⟩,h3⟩:=h.1 rfl
 refine⟨fun _=>⟨⟨sub',.inl h1,h2⟩,fun k lf2 hp hc2=>?_⟩,fun h=>(by cases h)⟩
 rcases hp with hp|rfl
 ·exact h3 k lf2 hp hc2
 ·obtain rfl:=hc.uniq hR hl hc2
  rcases q9C w lf with e|e|e
  ·exact .inl e
  ·exact .inr e
  ·rw[hb] at e;cases e
def qD8 (n:qb) (s:qg) (l:List qa) (X:Nat) (w:List Int) (f:Bool):Prop:=
 (f=true→Perm n s l X w∧∀lf,Perm n s l X lf→w=lf∨q5p w lf=true)∧(f=false→w=[]∧∀lf,¬ Perm n s l X lf)
theorem q1d.lv (hR:Rgt n) (hl:l.length≤10) (h:q1d n s l X (fun _=>True) w f):qD8 n s l X w f:=by
 refine⟨fun hf=>?_,fun hf=>?_⟩
 ·obtain⟨⟨sub,-,hc⟩,h3⟩:=h.1 hf
  obtain⟨d,h1,h2,rfl⟩:=hc.ex
  refine⟨qjO hR hl hc.lt hc.sb h1 h2,fun lf hp=>?_⟩
  obtain⟨sub',d',q1,q2,q3,q4,q5⟩:=qcM hR hl hp
  have h4:=h3 sub' _ trivial ⟨q1,q2,d',q3,q4,rfl⟩
  rcases h4 with e|e
  ·rw[e];exact q5
  ·rcases q5 with q5|q5
   ·rw[←q5];exact .inr e
   ·exact .inr (q4s e q5)
 ·obtain⟨h1,h2⟩:=h.2 hf
  refine⟨h1,fun lf hp=>?_⟩
  obtain⟨sub',d',q1,q2,q3,q4,q5⟩:=qcM hR hl hp
  exact h2 sub' _ trivial ⟨q1,q2,d',q3,q4,rfl⟩
end
end
noncomputable section
open Go.RowKit
theorem qoC {set k:Nat} (hs:set<9223372036854775808) (hk:k≤62):(ZG Go.BinOp.and IntKind.i64 (Int.fdiv (set:Int) ((2:Int) ^ min (Int.toNat (k:Int)) (IntKind.bits IntKind.i64))) (1:Int)==(0:Int)) = !set.testBit k:=by
 rw[qLg,q8C set k (by omega),show(1:Int)=((1:Nat):Int) from rfl,qdN _ 1 (qLP (Nat.div_le_self _ _) hs) (by decide),Nat.and_one_is_mod,Nat.testBit_eq_decide_div_mod_eq]
 have:set / 2 ^ k % 2<2:=Nat.mod_lt _ (by decide)
 by_cases e:set / 2 ^ k % 2=1
 ·rw[e];rfl
 ·have e0:set / 2 ^ k % 2=0:=by omega
  rw[e0];rfl
theorem qcC {α:Type}:∀(l:List α) (p m:Nat→Bool) (q:α→Bool),(∀k x,l[k]?=some x→p k=(m k&&q x))→QW p l=(QW m l).filter q
 | [],_,_,_,_=>rfl
 | a::l,p,m,q,h=>by
  have h0:p 0=(m 0&&q a):=h 0 a rfl
  rw[QW,QW,List.filter_append,←qcC l _ _ q fun k x hk=>h (k+1) x hk,h0]
  congr 1
  cases m 0<;>cases hq:q a<;>simp[hq]
theorem qpI {N sub X:Nat} (h:sub &&& X=sub):q3v N sub=(q3v N X).filter fun y=>sub.testBit (Int.toNat y):=by
 unfold q3v
 refine qcC _ _ _ _ fun k x hk=>?_
 have hj:=JB hk
 rw[zE] at hj
 rw[Jf _ hj] at hk
 injection hk with hk
 subst hk
 rw[qLg]
 cases e:sub.testBit k
 ·simp
 ·rw[q9y h e];rfl
theorem qeJ {d:List Int} (hd:d.length≤10) {sub:Nat} (hs:sub<9223372036854775808) (hoff:∀(j:Nat) (y:Int),d[j]?=some y→sub.testBit j=false→y = -1) (w2:List Int) (b0:qc) (b1:qg) (t2:List qa) (t3:List Bool) (t4:Int) (t11:Bool) (M:List Int) (hM:M.length≤10) (hr:∀y∈M,∃k:Nat,k<d.length∧y=(k:Int)) :
  ∀(r:List Int) (i:Nat) (out asg:List Int),r.length+i=M.length→(∀j,r[j]?=M[i+j]?)→out.length=i→asg=r.filterMap (fun y=>if sub.testBit (Int.toNat y)=true then d[Int.toNat y]? else none)→
  zG (Qt w2 b0 b1 t2 t3 t4 t11 (sub:Int) M ((M.length:Nat):Int)) (out,asg,(i:Int))=some (out++r.filterMap fun y=>d[Int.toNat y]?)
 | [],i,out,asg,hi,_,_,_=>by
  have hi:i=M.length:=by simpa using hi
  refine(zD ?_).trans (by rw[List.filterMap_nil,qLy])
  unfold Qt
  dsimp only
  rw[if_neg (by omega)]
 | y::r,i,out,asg,hi,hj,ho,ha=>by
  have hML:100000≤maxLen:=by unfold maxLen;omega
  have hil:i<M.length:=by simp only[qLo] at hi;omega
  have hy:M[i]?=some y:=by have:=hj 0;rw[Nat.add_zero] at this;exact this.symm
  obtain⟨k,hk,rfl⟩:=hr y (qLe hy)
  have hws:w64 ((i:Int)+1)=((i+1:Nat):Int):=Qy (n:=10000) (by omega) (by omega)
  have hb:=qoC (set:=sub) (k:=k) hs (by omega)
  have hdk:d[k]?=some d[k]:=qLf hk
  have next:∀(out' asg':List Int),out'.length=i+1→asg'=r.filterMap (fun y=>if sub.testBit (Int.toNat y)=true then d[Int.toNat y]? else none)→Qt w2 b0 b1 t2 t3 t4 t11 (sub:Int) M ((M.length:Nat):Int) (out,asg,(i:Int))=some (.inl (out',asg',((i+1:Nat):Int)))→out'=out++[d[k]]→
    zG (Qt w2 b0 b1 t2 t3 t4 t11 (sub:Int) M ((M.length:Nat):Int)) (out,asg,(i:Int))=some (out++((k:Int)::r).filterMap fun y=>d[Int.toNat y]?):=fun out' asg' h1 h2 h3 h4=>by
   rw[Q4 h3,qeJ hd hs hoff w2 b0 b1 t2 t3 t4 t11 M hM hr r (i+1) out' asg' (by simp only[qLo] at hi;omega) (fun j=>by have:=hj (j+1);rw[qLC] at this;rw[this];congr 1;omega) h1 h2,List.filterMap_cons,qLg,hdk,h4]
   simp
  cases hbit:sub.testBit k
  ·have hm1:d[k] = -1:=hoff k _ hdk hbit
   refine next (out++[(-(1:Int))]) asg (by rw[qLk,ho];rfl) ?_ ?_ (by rw[hm1])
   ·rw[ha,List.filterMap_cons,qLg,hbit,if_neg (by decide)]
   ·unfold Qt
    dsimp only
    rw[if_pos (by omega),if_pos ⟨by omega,by omega⟩,qLg,hy,qLd,if_pos (by omega),if_pos (by rw[hb,hbit];rfl),if_pos ⟨by omega,by omega⟩,hws]
  ·rw[List.filterMap_cons,qLg,hbit,if_pos rfl,hdk] at ha
   subst ha
   refine next (out++[d[k]]) _ (by rw[qLk,ho];rfl) rfl ?_ rfl
   unfold Qt
   dsimp only
   rw[if_pos (by omega),if_pos ⟨by omega,by omega⟩,qLg,hy,qLd,if_pos (by omega),if_neg (by rw[hb,hbit];decide),if_pos (by simp),qLn,qLd,if_pos ⟨by omega,by omega⟩,if_pos (by simp;omega),hws]
   simp
theorem qeC {p:qc} (h:Rgt p.Need) {l:List qa} (hl:l.length≤10) (s:qg) {X:Nat} (hX:X<2 ^ l.length) {w:List Int} {f:Bool} (j:Nat) (hj:j≤X) (hw:w.length≤10) (hB:q1d p.Need s l X (fun k=>j+1≤k) w f) :
  ∃w' f',w'.length≤10∧q1d p.Need s l X (fun k=>j≤k) w' f'∧Z2 p s l (Z9 (2 ^ l.length) (QH [] s l p.Need 0)) (X:Int) (w,f,(j:Int))=some (.inl (w',f',(j:Int)-1)):=by
 have hjlt:j<2 ^ l.length:=by omega
 have h10:(2:Nat) ^ l.length≤1024:=qLO (Nat.pow_le_pow_right (by decide) hl) (by decide)
 have G:=q3n h hl hjlt
 have ew:w64 ((j:Int)-1)=(j:Int)-1:=ZC (by omega) (by omega)
 have grow:∀{w':List Int} {f':Bool},q1d p.Need s l X (fun k=>j+1≤k∨k=j) w' f'→q1d p.Need s l X (fun k=>j≤k) w' f':=fun hb=>hb.congr fun k _ _=>by omega
 have han:=qcx j X (by omega) (by omega)
 unfold Z2
 dsimp only
 rw[if_pos (by omega),han,ew]
 by_cases hsub:j &&& X=j
 ·rw[if_neg (by rw[hsub,Nat.xor_self];decide),if_pos ⟨by omega,by rw[zE];omega⟩,qLg,Jf _ hjlt,qLd]
  cases hS:QH [] s l p.Need 0 j
  ·rw[if_pos (by decide)]
   exact⟨w,f,hw,grow (hB.skip fun lf hc=>by
    obtain⟨d,h1,h2,-⟩:=hc.ex
    have:=qbs G h1 h2
    rw[hS] at this;cases this),rfl⟩
  ·rw[if_neg (by decide)]
   obtain⟨d,h1,h2⟩:=qiY h hl hjlt s hS
   have hM:(q3v l.length X).length≤10:=by rw[qiK];exact qLO (qeS _ _) hl
   have hloop:=qeJ (d:=d) (by omega) (sub:=j) (by omega) (fun i y hy hb=>by have:=h2.val i y hy;rw[hb,if_neg (by decide)] at this;exact this) w p s l (Z9 (2 ^ l.length) (QH [] s l p.Need 0)) (X:Int) f (q3v l.length X) hM (fun y hy=>by rw[h1];exact mem_range hy) (q3v l.length X) 0 [] (QW j.testBit d) (by omega) (fun i=>by rw[qLB]) rfl (by
    rw[←qr8 d j,h1,qpI hsub,List.filterMap_filter])
   rw[qms h hl hjlt s h1 h2,qLd]
   dsimp only
   rw[if_neg (by decide),q3i (N:=l.length) (by omega) hX,qLd]
   change ∃w' f',_∧_∧Option.bind (zG _ ([],QW j.testBit d,((0:Nat):Int))) _=_
   have e1:(q3v l.length X).filterMap (fun y=>d[Int.toNat y]?)=QW X.testBit d:=by rw[←h1];exact qr8 d X
   rw[hloop,qLd,qLx,e1]
   have hc:qo8 p.Need s l X j (QW X.testBit d):=⟨hjlt,hsub,d,h1,h2,rfl⟩
   have hlen:(QW X.testBit d).length≤10:=by have:=q6G d X.testBit;omega
   cases hf:f
   ·rw[if_pos (by decide)]
    exact⟨_,_,hlen,grow (hB.take h hl hc (.inl hf)),rfl⟩
   ·rw[if_neg (by decide),qlJ _ _ (by omega),qLd]
    subst hf
    by_cases hlt:qk1 (QW X.testBit d) w<0
    ·rw[if_pos hlt]
     exact⟨_,_,hlen,grow (hB.take h hl hc (.inr ((qed _ _).1 hlt))),rfl⟩
    ·rw[if_neg hlt]
     exact⟨_,_,hw,grow (hB.leave h hl hc (qLF.2 fun e=>hlt ((qed _ _).2 e))),rfl⟩
 ·have hne:((j ^^^ (j &&& X):Nat):Int)≠0:=fun e=>hsub (by
   have h0:j ^^^ (j &&& X)=0:=by omega
   exact Nat.eq_of_testBit_eq fun k=>by
    have h2:(j ^^^ (j &&& X)).testBit k=false:=by rw[h0,Nat.zero_testBit]
    rw[Nat.testBit_xor] at h2
    cases e1:(j &&& X).testBit k<;>cases e2:j.testBit k<;>rw[e1,e2] at h2<;>first|rfl|cases h2)
  rw[if_pos (by simpa using hne)]
  exact⟨w,f,hw,grow (hB.skip fun lf hc=>hsub hc.sb),rfl⟩
theorem qgx {p:qc} (h:Rgt p.Need) {l:List qa} (hl:l.length≤10) (s:qg) {X:Nat} (hX:X<2 ^ l.length) :
  ∃w f,q0E p s l (Z9 (2 ^ l.length) (QH [] s l p.Need 0)) (X:Int)=some (w,f)∧w.length≤10∧qD8 p.Need s l X w f:=by
 have h10:(2:Nat) ^ l.length≤1024:=qLO (Nat.pow_le_pow_right (by decide) hl) (by decide)
 have key:∀(i:Nat),i≤X+1→∀(w:List Int) (f:Bool),w.length≤10→q1d p.Need s l X (fun k=>i≤k) w f→∃w' f',zG (Z2 p s l (Z9 (2 ^ l.length) (QH [] s l p.Need 0)) (X:Int)) (w,f,(i:Int)-1)=some (w',f')∧w'.length≤10∧qD8 p.Need s l X w' f':=by
  intro i
  induction i with
  | zero=>
   intro _ w f hw hB
   refine⟨w,f,zD ?_,hw,(hB.congr fun k _ _=>⟨fun _=>qLD k,fun _=>trivial⟩).lv h hl⟩
   unfold Z2
   dsimp only
   rw[if_neg (by decide)]
  | succ i ih=>
   intro hi w f hw hB
   obtain⟨w',f',h1,h2,h3⟩:=qeC h hl s hX i (by omega) hw hB
   rw[show((i+1:Nat):Int)-1=(i:Int) by omega,Q4 h3]
   exact ih (by omega) w' f' h1 h2
 obtain⟨w,f,h1,h2,h3⟩:=key (X+1) (qLt _) [] false (qLD _) ((q1d.start (P:=fun _=>False) fun _ h=>h).congr fun k _ hk=>⟨fun h=>by
  have:k≤X:=by rw[←hk];exact Nat.and_le_right
  omega,fun h=>h.elim⟩)
 rw[show((X+1:Nat):Int)-1=(X:Int) by omega] at h1
 unfold q0E
 rw[h1,qLd]
 exact⟨w,f,rfl,h2,h3⟩
end
noncomputable section
open Go.RowKit
section
variable {α ε:Type} {step:Int→Option (Int⊕ε)} (l:List α)
theorem qaR (q:α→Bool) (e0 e1:ε) (hs:∀(i:Nat) (a:α),l[i]?=some a→step (i:Int)=some (if q a=true then .inl ((i+1:Nat):Int) else .inr e0)) (he:step ((l.length:Nat):Int)=some (.inr e1)) :
  zG step (0:Int)=some (if l.all q=true then e1 else e0):=by
 have key:∀(r:List α) (i:Nat),r.length+i=l.length→(∀j,r[j]?=l[i+j]?)→zG step (i:Int)=some (if r.all q=true then e1 else e0):=by
  intro r
  induction r with
  | nil=>
   intro i hi _
   have:i=l.length:=by simpa using hi
   subst this
   exact zD he
  | cons a r ih=>
   intro i hi hj
   have ha:l[i]?=some a:=by have:=hj 0;rw[Nat.add_zero] at this;exact this.symm
   have h1:=hs i a ha
   rw[List.all_cons]
   cases hq:q a
   ·rw[hq,if_neg (by decide)] at h1
    exact zD h1
   ·rw[hq,if_pos rfl] at h1
    rw[Q4 h1,ih (i+1) (by simp only[qLo] at hi;omega) (fun j=>by have:=hj (j+1);rw[qLC] at this;rw[this];congr 1;omega),qLK]
 exact key l 0 (by omega) fun j=>by rw[qLB]
theorem qe6 (q:α→Bool) (mk:Nat→ε) (e1:ε) (hs:∀(i:Nat) (a:α),l[i]?=some a→step (i:Int)=some (if q a=true then .inr (mk i) else .inl ((i+1:Nat):Int))) (he:step ((l.length:Nat):Int)=some (.inr e1)) :
  (l.any q=true∧∃i,zG step (0:Int)=some (mk i))∨(l.any q=false∧zG step (0:Int)=some e1):=by
 have key:∀(r:List α) (i:Nat),r.length+i=l.length→(∀j,r[j]?=l[i+j]?)→(r.any q=true∧∃k,zG step (i:Int)=some (mk k))∨(r.any q=false∧zG step (i:Int)=some e1):=by
  intro r
  induction r with
  | nil=>
   intro i hi _
   have:i=l.length:=by simpa using hi
   subst this
   exact .inr ⟨rfl,zD he⟩
  | cons a r ih=>
   intro i hi hj
   have ha:l[i]?=some a:=by have:=hj 0;rw[Nat.add_zero] at this;exact this.symm
   have h1:=hs i a ha
   rw[List.any_cons]
   cases hq:q a
   ·rw[hq,if_neg (by decide)] at h1
    rw[Q4 h1,Bool.false_or]
    exact ih (i+1) (by simp only[qLo] at hi;omega) (fun j=>by have:=hj (j+1);rw[qLC] at this;rw[this];congr 1;omega)
   ·rw[hq,if_pos rfl] at h1
    exact .inl ⟨rfl,i,zD h1⟩
 exact key l 0 (by omega) fun j=>by rw[qLB]
end
theorem q3E {i n:Nat} (h:i<n) (hn:n≤1000000):w64 ((i:Int)+1)=((i+1:Nat):Int):=Qy h (by omega)
theorem qeV (s:List Int) (hs:s.length≤1000000) (v:Int):Z7 s v=some (s.any fun x=>v==x):=by
 have h:=qe6 (step:=QE s v ((s.length:Nat):Int)) s (fun x=>v==x) (fun i => .inl (i:Int)) (.inr ()) (fun i a ha=>by
  have hi:=JB ha
  unfold QE
  rw[if_pos (by omega),if_pos ⟨by omega,by omega⟩,qLg,ha,qLd,q3E hi hs]
  split<;>rfl) (by
  unfold QE
  rw[if_neg (by omega)])
 unfold Z7 Jv
 rcases h with ⟨h1,i,h2⟩|⟨h1,h2⟩
 ·rw[h2,qLd,Sum.elim_inl,qLd,h1,qMe (by omega)]
 ·rw[h2,qLd,Sum.elim_inr,qLd,h1,decide_eq_false (by omega)]
def qsg (a b:List Int):Bool:=a.any fun x=>b.any fun y=>x==y
theorem qvJ (a b:List Int) (ha:a.length≤1000000) (hb:b.length≤1000000):Jr a b=some (qsg a b):=by
 have h:=qe6 (step:=Qh b a ((a.length:Nat):Int)) a (fun x=>b.any fun y=>x==y) (fun i => .inl (i:Int)) (.inr ()) (fun i x hx=>by
  have hi:=JB hx
  unfold Qh q0s
  rw[if_pos (by omega),if_pos ⟨by omega,by omega⟩,qLg,hx,qLd,qeV b hb,qLd,qLd,q3E hi ha]
  split<;>rfl) (by
  unfold Qh
  rw[if_neg (by omega)])
 unfold Jr Zd ZE qsg
 rcases h with ⟨h1,i,h2⟩|⟨h1,h2⟩
 ·rw[h2,qLd,Sum.elim_inl,qLd,h1,qMe (by omega),qLd]
 ·rw[h2,qLd,Sum.elim_inr,qLd,h1,decide_eq_false (by omega),qLd]
theorem qbx (a b:List Int) (ha:a.length≤1000000):Z4 a b=some (decide (a=b)):=by
 unfold Z4
 by_cases hl:a.length=b.length
 ·rw[if_neg (by rw[hl];simp)]
  have key:∀(r q:List Int) (i:Nat),r.length+i=a.length→q.length=r.length→(∀j,r[j]?=a[i+j]?)→(∀j,q[j]?=b[i+j]?)→zG (Qm a b ((a.length:Nat):Int)) (i:Int)=some (if r=q then .inr () else .inl ()):=by
   intro r
   induction r with
   | nil=>
    intro q i hi hq _ _
    obtain rfl:=qLw hq
    have hi:i=a.length:=by simpa using hi
    refine zD ?_
    unfold Qm
    rw[if_neg (by omega),if_pos rfl]
   | cons x r ih=>
    intro q i hi hq hr hb
    cases q with
    | nil=>cases hq
    | cons y q=>
     simp only[qLo] at hi hq
     have hx:a[i]?=some x:=by have:=hr 0;rw[Nat.add_zero] at this;exact this.symm
     have hy:b[i]?=some y:=by have:=hb 0;rw[Nat.add_zero] at this;exact this.symm
     have e:Qm a b ((a.length:Nat):Int) (i:Int)=some (if(x != y)=true then .inr (.inl ()) else .inl ((i+1:Nat):Int)):=by
      unfold Qm
      rw[if_pos (by omega),if_pos ⟨by omega,by omega⟩,qLg,hx,qLd,if_pos ⟨by omega,by omega⟩,hy,qLd,q3E (JB hx) ha]
      split<;>rfl
     by_cases hxy:x=y
     ·subst hxy
      rw[if_neg (by simp)] at e
      rw[Q4 e,ih q (i+1) (by omega) (by omega) (fun j=>by have:=hr (j+1);rw[qLC] at this;rw[this];congr 1;omega) (fun j=>by have:=hb (j+1);rw[qLC] at this;rw[this];congr 1;omega)]
      simp
     ·rw[if_pos (by simpa using hxy)] at e
      rw[zD e,if_neg (fun h=>hxy (by injection h))]
  have h:=key a b 0 (by omega) hl.symm (fun j=>by rw[qLB]) (fun j=>by rw[qLB])
  change Option.bind (zG _ ((0:Nat):Int)) _=_
  rw[h,qLd]
  by_cases e:a=b
  ·rw[if_pos e,Sum.elim_inr,qMe e]
  ·rw[if_neg e,Sum.elim_inl,decide_eq_false e]
 ·rw[if_pos (by simpa using fun h=>hl (by omega)),decide_eq_false (fun e=>hl (by rw[e]))]
def q4t (a:qa):Prop:=a.Sources.length≤1000∧a.Path.length≤1000
def qiP (a b:qa):Bool := !ceq a.Course b.Course&&((decide (0<a.Bundle)&&a.Bundle==b.Bundle&&decide (a.Path=b.Path)) || !qsg a.Sources b.Sources)
theorem qqD {a b:qa} (ha:q4t a) (hb:q4t b):q2O a b=some (qiP a b):=by
 have h1:=ha.1;have h2:=ha.2;have h3:=hb.1
 unfold q2O qiP
 rw[qbx _ _ (by omega),qvJ _ _ (by omega) (by omega)]
 simp only[qLd]
 by_cases hc:ceq a.Course b.Course=true
 ·rw[if_pos (by unfold ceq at hc;rw[qLJ] at hc;exact hc),hc];rfl
 ·rw[if_neg (by unfold ceq at hc;rw[qLJ] at hc;exact hc),qLF.2 hc]
  by_cases h0:0<a.Bundle
  ·rw[if_pos h0,qMe h0]
   cases hbd:a.Bundle==b.Bundle
   ·rw[if_neg (by decide)];simp
   ·rw[if_pos rfl]
    cases hp:decide (a.Path=b.Path)
    ·rw[if_neg (by decide)];simp
    ·rw[if_pos rfl];simp
  ·rw[if_neg h0,decide_eq_false h0];simp
def qog (v a:JK qd):Bool:=ceq v.a0 a.a0&&ceq v.a1 a.a1
theorem q65 (s:List (JK qd)) (hs:s.length≤1000000) (v:JK qd):qS s v=some (s.any (qog v)):=by
 have h:=qe6 (step:=zm v s ((s.length:Nat):Int)) s (qog v) (fun i => .inl (i:Int)) (.inr ()) (fun i a ha=>by
  have hi:=JB ha
  unfold zm
  rw[if_pos (by omega),if_pos ⟨by omega,by omega⟩,qLg,ha,qLd,q3E hi hs]
  have e:(((v.a0.School==a.a0.School)=true∧(v.a0.Code.toList==a.a0.Code.toList)=true)∧(v.a1.School==a.a1.School)=true∧(v.a1.Code.toList==a.a1.Code.toList)=true)↔qog v a=true:=by
   unfold qog ceq;simp only[qLJ]
  by_cases hq:qog v a=true
  ·rw[if_pos (e.2 hq),if_pos hq]
  ·rw[if_neg (fun h=>hq (e.1 h)),if_neg hq]) (by
  unfold zm
  rw[if_neg (by omega)])
 unfold qS Qf
 rcases h with ⟨h1,i,h2⟩|⟨h1,h2⟩
 ·rw[h2,qLd,Sum.elim_inl,qLd,h1,qMe (by omega)]
 ·rw[h2,qLd,Sum.elim_inr,qLd,h1,decide_eq_false (by omega)]
def qhk (p:qc) (a b:qa):Bool:=qiP a b && !p.Exclude.any (qog ⟨a.Course,b.Course⟩) && !p.Exclude.any (qog ⟨b.Course,a.Course⟩)
theorem qp9 (p:qc) (hp:p.Exclude.length≤1000) (a:qa) (ha:q4t a) (t1:List qa) (t2 t7:Int) (t12:List qa) (t13 t14:Int) (l:List qa) (hl:l.length≤1000) (hf:∀b∈l,q4t b) :
  zG (Zw p a t1 t2 t7 t12 t13 t14 l ((l.length:Nat):Int)) (0:Int)=some (if l.all (qhk p a)=true then .inr () else .inl ()):=by
 refine qaR l (qhk p a) _ _ (fun i b hb=>?_) ?_
 ·have hi:=JB hb
  unfold Zw
  rw[if_pos (by omega),if_pos ⟨by omega,by omega⟩,qLg,hb,qLd,qqD ha (hf b (qLe hb)),qLd,q65 _ (by omega),q65 _ (by omega),q3E hi (by omega)]
  unfold qhk
  simp only[qLd]
  cases qiP a b
  ·simp
  ·cases p.Exclude.any (qog ⟨a.Course,b.Course⟩)
   ·cases p.Exclude.any (qog ⟨b.Course,a.Course⟩)<;>simp
   ·simp
 ·unfold Zw
  rw[if_neg (by omega)]
def qeM (p:qc) (a:qa) (day:Int):Bool:=(Zl p a day).getD false
theorem qnV (d:Int):∃v,q0G d=some v:=by
 have h:∀n,∃v,q06 n 100=some v:=fun n=>by
  unfold q06
  rw[if_neg (by decide),if_neg (by decide),if_neg (by decide)]
  exact⟨_,rfl⟩
 unfold q0G
 split
 ·obtain⟨v,hv⟩:=h (w64 (d+100));rw[hv];exact⟨_,rfl⟩
 ·obtain⟨v,hv⟩:=h d;rw[hv];exact⟨_,rfl⟩
theorem qrk (p:qc) (a:qa) (day:Int):Zl p a day=some (qeM p a day):=by
 obtain⟨v,hv⟩:=qnV day
 obtain⟨w,hw⟩:=qnV a.Day
 have:∃b,Zl p a day=some b:=by
  unfold Zl
  rw[hv,hw]
  split<;>exact⟨_,rfl⟩
 obtain⟨b,hb⟩:=this
 unfold qeM
 rw[hb];rfl
def qxp (p:qc) (o:Int) (a:qa):Int:=if a.Course.School=p.School∧a.Bundle=0 then w64 (o+a.Credits) else o
def tgL (p:qc) (day:Int):List qa→List qa→Bool
 | _,[]=>true
 | done,a::r => !qeM p a day&&done.all (qhk p a)&&tgL p day (done++[a]) r
def qCq (l:List qa):Int:=l.foldl (fun n a=>w64 (n+a.Credits)) 0
def qfB (p:qc) (l:List qa) (day:Int):Bool:=tgL p day [] l&&decide (p.Total≤qCq l)&&decide (p.Own≤l.foldl (qxp p) 0)
theorem qju (l:List qa) (hl:l.length≤1000):q1j l=some (qCq l):=by
 have h:=qjh (step:=Jm l ((l.length:Nat):Int)) l (fun(b:Int) k=>(b,(k:Int))) (fun b a=>w64 (b+a.Credits)) (fun b=>b) (fun b k a ha=>by
  have hi:=JB ha
  unfold Jm
  dsimp only
  rw[if_pos (by omega),if_pos ⟨by omega,by omega⟩,qLg,ha,qLd,q3E hi (by omega)]) (fun b=>by
  unfold Jm
  dsimp only
  rw[if_neg (by omega)]) 0
 unfold q1j
 change Option.bind (zG _ ((0:Int),((0:Nat):Int))) _=_
 rw[h];rfl
theorem qj6 (p:qc) (hp:p.Exclude.length≤1000) (day:Int) (l:List qa) (hl:l.length≤1000) (hf:∀b∈l,q4t b):∀(r:List qa) (i:Nat) (o:Int),r.length+i=l.length→l.take i++r=l→
  ∃e,zG (Z1 p l day l ((l.length:Nat):Int)) (o,(i:Int))=some e∧(tgL p day (l.take i) r=true→e = .inr (r.foldl (qxp p) o))∧(tgL p day (l.take i) r=false→∃x,e = .inl x)
 | [],i,o,hi,_=>by
  have hi:i=l.length:=by simpa using hi
  refine⟨.inr o,zD ?_,fun _=>rfl,fun h=>by rw[tgL] at h;cases h⟩
  unfold Z1
  dsimp only
  rw[if_neg (by omega)]
 | a::r,i,o,hi,hr=>by
  have hil:i<l.length:=by simp only[qLo] at hi;omega
  have ha:l[i]?=some a:=by
   rw[←hr,qLQ (by rw[qLG];omega),qLG,Nat.min_eq_left (by omega),Nat.sub_self];rfl
  have hmem:a∈l:=qLe ha
  have htk:l.take i++[a]=l.take (i+1):=by rw[List.take_add_one,ha];rfl
  have hpre:(l.take i).length≤1000:=by rw[qLG];omega
  have hpr:=qp9 p hp a (hf a hmem) l day o l ((l.length:Nat):Int) (i:Int) (l.take i) hpre (fun b hb=>hf b (List.mem_of_mem_take hb))
  have step:Z1 p l day l ((l.length:Nat):Int) (o,(i:Int))=some (if qeM p a day=true then .inr (.inl o) else if(l.take i).all (qhk p a)=true then .inl (qxp p o a,((i+1:Nat):Int)) else .inr (.inl o)):=by
   unfold Z1
   dsimp only
   rw[if_pos (by omega),if_pos ⟨by omega,by omega⟩,qLg,ha,qLd,qrk,qLd]
   by_cases hold:qeM p a day=true
   ·rw[if_pos hold,if_pos hold]
   ·rw[if_neg hold,if_neg hold,if_pos ⟨by omega,by omega⟩,qM6,hpr,qLd,q3E hil (by omega)]
    by_cases hall:(l.take i).all (qhk p a)=true
    ·rw[if_pos hall,if_pos hall,Sum.elim_inr]
     unfold qxp
     by_cases h1:a.Course.School=p.School
     ·by_cases h2:a.Bundle=0
      ·rw[if_pos (by simpa using h1),if_pos (by simpa using h2),if_pos ⟨h1,h2⟩]
      ·rw[if_pos (by simpa using h1),if_neg (by simpa using h2),if_neg (fun h=>h2 h.2)]
     ·rw[if_neg (by simpa using h1),if_neg (fun h=>h1 h.1)]
    ·rw[if_neg hall,if_neg hall,Sum.elim_inl]
  rw[tgL]
  by_cases hold:qeM p a day=true
  ·rw[if_pos hold] at step
   exact⟨_,zD step,fun h=>by rw[hold] at h;simp at h,fun _=>⟨_,rfl⟩⟩
  ·rw[if_neg hold] at step
   by_cases hall:(l.take i).all (qhk p a)=true
   ·rw[if_pos hall] at step
    obtain⟨e,h1,h2,h3⟩:=qj6 p hp day l hl hf r (i+1) (qxp p o a) (by simp only[qLo] at hi;omega) (by rw[←htk,qLT];exact hr)
    refine⟨e,(Q4 step).trans h1,?_,?_⟩
    ·rw[qLF.2 hold,hall,htk];exact h2
    ·rw[qLF.2 hold,hall,htk];exact h3
   ·rw[if_neg hall] at step
    exact⟨_,zD step,fun h=>by rw[qLF.2 hall] at h;simp at h,fun _=>⟨_,rfl⟩⟩
theorem qr5 (p:qc) (hp:p.Exclude.length≤1000) (l:List qa) (hl:l.length≤1000) (hf:∀b∈l,q4t b) (day:Int):Jn p l day=some (qfB p l day):=by
 obtain⟨e,h1,h2,h3⟩:=qj6 p hp day l hl hf l 0 0 (by omega) rfl
 unfold Jn qfB
 change Option.bind (zG _ ((0:Int),((0:Nat):Int))) _=_
 rw[h1,qLd]
 rw[List.take_zero] at h2 h3
 cases ht:tgL p day [] l
 ·obtain⟨x,rfl⟩:=h3 ht
  rw[Sum.elim_inl];rfl
 ·rw[h2 ht,Sum.elim_inr,qju l hl,qLd,qLK]
  by_cases hc:p.Total≤qCq l
  ·rw[if_pos hc,qMe hc,qLK]
  ·rw[if_neg hc,decide_eq_false hc,qMh]
end
noncomputable section
open Go.RowKit
theorem qyr {l:List qa} (hl:l.length≤16):2 ^ l.length≤65536:=qLO (Nat.pow_le_pow_right (by decide) hl) (by decide)
theorem qxf {l:List qa} (hl:l.length≤16):w64 ((1:Int)*(2:Int) ^ min l.length (IntKind.bits IntKind.i64))=((2 ^ l.length:Nat):Int):=by
 have:=qyr hl
 have h1:1≤2 ^ l.length:=Nat.one_le_two_pow
 rw[show min l.length (IntKind.bits IntKind.i64)=l.length from Nat.min_eq_left (by show l.length≤64;omega),Int.one_mul,show((2:Int) ^ l.length)=((2 ^ l.length:Nat):Int) by simp]
 exact ZC (by omega) (by omega)
def mO (p:qc) (day:Int) (l:List qa) (k:Nat):Bool:=match l[k]? with
 | some a => !qeM p a day
 | none=>false
theorem qeG (p:qc) (s:qg) (day b4:Int) (l:List qa) (hl:l.length≤1000):∀(j i:Nat) (w:List Int),j+i=l.length→w=QW (mO p day l) (Z9 i fun i=>(i:Int))→
  zG (Z3 p s day b4 l l ((l.length:Nat):Int)) (w,(i:Int))=some (qem l.length (mO p day l))
 | 0,i,w,hi,hw=>by
  have hi:i=l.length:=by omega
  subst hi hw
  refine zD ?_
  unfold Z3
  dsimp only
  rw[if_neg (by omega)];rfl
 | j+1,i,w,hi,hw=>by
  have hML:100000≤maxLen:=by unfold maxLen;omega
  have hil:i<l.length:=by omega
  have ha:l[i]?=some l[i]:=qLf hil
  have hwl:w.length≤i:=by rw[hw];have:=q6G (Z9 i fun i=>(i:Int)) (mO p day l);rw[zE] at this;exact this
  have step:Z3 p s day b4 l l ((l.length:Nat):Int) (w,(i:Int))=some (.inl (w++(if mO p day l i=true then[(i:Int)] else[]),((i+1:Nat):Int))):=by
   have hm:mO p day l i = !qeM p l[i] day:=by unfold mO;rw[ha]
   unfold Z3
   dsimp only
   rw[if_pos (by omega),if_pos ⟨by omega,by omega⟩,qLg,ha,qLd,qrk,qLd,q3E hil (by omega),hm]
   cases qeM p l[i] day
   ·rw[if_pos (by decide),if_pos ⟨by omega,by omega⟩,if_pos (by decide)]
   ·rw[if_neg (by decide),if_neg (by decide),qLy]
  rw[Q4 step]
  refine qeG p s day b4 l hl j (i+1) _ (by omega) ?_
  rw[qbt,q5K,zE,hw]
theorem qlo (p:qc) (s:qg) (day b5:Int) (b6:List Int) (b7:List qa) (b8:List Bool) (b9:Int) {N:Nat} (hN:N≤1024):zG (QR p s day b5 b6 b7 b8 b9 ((N:Nat):Int)) ([],(0:Int))=some (Z9 N fun i=>(i:Int)):=by
 have hML:100000≤maxLen:=by unfold maxLen;omega
 exact q1V (step:=QR p s day b5 b6 b7 b8 b9 ((N:Nat):Int)) (fun i=>(Z9 i (fun i=>(i:Int)),(i:Int))) 0 N (qLD _) (fun i _ hi=>by
  unfold QR
  dsimp only
  rw[if_pos (by omega),if_pos (by rw[zE];exact⟨by omega,by omega⟩),qbt,q3E hi (by omega)]) (by
  unfold QR
  dsimp only
  rw[if_neg (by omega)])
structure Grd (p:qc) (l:List qa):Prop where
 rgt:Rgt p.Need
 exc:p.Exclude.length≤1000
 fit:∀b∈l,q4t b
theorem Grd.sel {p:qc} {l:List qa} (h:Grd p l) (m:Nat→Bool):Grd p (QW m l):=⟨h.rgt,h.exc,fun b hb=>h.fit b (q5V _ _ _ hb)⟩
theorem qqi {p:qc} {all:List qa} (h:Grd p all) (hl:all.length≤10) (s:qg) (day b5:Int) {at0:List Int} (ha:at0.length=all.length) {X:Nat} (hX:X<2 ^ all.length) :
  ∃r,Jq (X:Int) p s day b5 at0 all (Z9 (2 ^ all.length) (QH [] s all p.Need 0))=some r∧
   ((r = .inl ()∧∀lf,qfB p (QW X.testBit all) day=true→¬ Perm p.Need s all X lf)∨
     (∃w,r = .inr ⟨QW X.testBit at0,w⟩∧qfB p (QW X.testBit all) day=true∧Perm p.Need s all X w∧∀lf,Perm p.Need s all X lf→w=lf∨q5p w lf=true)):=by
 obtain⟨w,f,h1,h2,h3⟩:=qgx h.rgt hl s hX
 have hs:=q6G all X.testBit
 unfold Jq
 rw[q3i (N:=all.length) (by omega) hX,qLd]
 have hp:zM all (q3v all.length X)=some (QW X.testBit all):=qlh (by omega) X.testBit
 have hi:ZL at0 (q3v all.length X)=some (QW X.testBit at0):=by rw[←ha];exact quK (by omega) X.testBit
 rw[hp,qLd,qr5 p h.exc _ (by omega) (h.sel _).fit,qLd]
 cases ht:qfB p (QW X.testBit all) day
 ·exact⟨_,rfl,.inl ⟨rfl,fun lf h=>by cases h⟩⟩
 ·rw[if_neg (by decide),h1,qLd]
  dsimp only
  cases hf:f
  ·rw[if_neg (by decide)]
   exact⟨_,rfl,.inl ⟨rfl,fun lf _=>(h3.2 hf).2 lf⟩⟩
  ·rw[if_pos rfl,hi,qLd]
   exact⟨_,rfl,.inr ⟨w,rfl,rfl,(h3.1 hf).1,(h3.1 hf).2⟩⟩
structure qvK (p:qc) (s:qg) (all:List qa) (day:Int) (X:Nat) (w:List Int):Prop where
 lt:X<2 ^ all.length
 tog:qfB p (QW X.testBit all) day=true
 perm:Perm p.Need s all X w
 min:∀Y lf,Y<2 ^ all.length→qfB p (QW Y.testBit all) day=true→Perm p.Need s all Y lf→slL (q3v all.length X) (q3v all.length Y)=true∨(X=Y∧(w=lf∨q5p w lf=true))
theorem qng {p:qc} {all:List qa} (h:Grd p all) (hl:all.length≤10) (s:qg) (day b5 b9:Int) {at0:List Int} (ha:at0.length=all.length) :
  ∃r,zG (Qx p s day b5 at0 all (Z9 (2 ^ all.length) (QH [] s all p.Need 0)) b9 (msL all.length) (((msL all.length).length:Nat):Int)) (0:Int)=some r∧
   ((r = .inr ()∧∀Y lf,Y<2 ^ all.length→qfB p (QW Y.testBit all) day=true→¬ Perm p.Need s all Y lf)∨(∃X w,r = .inl ⟨QW X.testBit at0,w⟩∧qvK p s all day X w)):=by
 obtain⟨-,hpw,hmem⟩:=qye hl
 have h10:(2:Nat) ^ all.length≤1024:=qLO (Nat.pow_le_pow_right (by decide) hl) (by decide)
 have hlen:(msL all.length).length≤1024:=by unfold msL;rw[q4L,zE];exact h10
 have key:∀(r pre:List Int),pre++r=msL all.length→(∀y∈pre,∀(Y:Nat) (lf:List Int),y=(Y:Int)→qfB p (QW Y.testBit all) day=true→¬ Perm p.Need s all Y lf)→
   ∃q,zG (Qx p s day b5 at0 all (Z9 (2 ^ all.length) (QH [] s all p.Need 0)) b9 (msL all.length) (((msL all.length).length:Nat):Int)) ((pre.length:Nat):Int)=some q∧
   ((q = .inr ()∧∀Y lf,Y<2 ^ all.length→qfB p (QW Y.testBit all) day=true→¬ Perm p.Need s all Y lf)∨(∃X w,q = .inl ⟨QW X.testBit at0,w⟩∧qvK p s all day X w)):=by
  intro r
  induction r with
  | nil=>
   intro pre hpre hbad
   rw[qLy] at hpre
   refine⟨.inr (),zD ?_,.inl ⟨rfl,fun Y lf hY=>hbad (Y:Int) (by rw[hpre];exact(hmem _).2 ⟨Y,hY,rfl⟩) Y lf rfl⟩⟩
   unfold Qx
   rw[hpre,if_neg (by omega)]
  | cons x r ih=>
   intro pre hpre hbad
   have hx:(msL all.length)[pre.length]?=some x:=by rw[←hpre,qLQ (qLt _),Nat.sub_self];rfl
   have hlt:=JB hx
   obtain⟨X,hX,rfl⟩:=(hmem x).1 (qLe hx)
   obtain⟨q,h1,h2⟩:=qqi h hl s day b5 ha hX
   have step:Qx p s day b5 at0 all (Z9 (2 ^ all.length) (QH [] s all p.Need 0)) b9 (msL all.length) (((msL all.length).length:Nat):Int) ((pre.length:Nat):Int)=some (Sum.elim (fun _ => .inl ((pre.length+1:Nat):Int)) (fun u => .inr (.inl u)) q):=by
    unfold Qx
    rw[if_pos (by omega),if_pos ⟨by omega,by omega⟩,qLg,hx,qLd,h1,qLd,q3E hlt (by omega)]
    cases q<;>rfl
   rcases h2 with ⟨rfl,hno⟩|⟨w,rfl,ht,hp,hmin⟩
   ·rw[Sum.elim_inl] at step
    rw[Q4 step]
    have:=ih (pre++[(X:Int)]) (by rw[qLT];exact hpre) (fun y hy Y lf e=>by
     rcases qLH.1 hy with hy|hy
     ·exact hbad y hy Y lf e
     ·have:=qM4.1 hy
      obtain rfl:X=Y:=by omega
      exact hno lf)
    rw[qLk] at this
    exact this
   ·rw[Sum.elim_inr] at step
    refine⟨_,zD step,.inr ⟨X,w,rfl,hX,ht,hp,fun Y lf hY hty hpy=>?_⟩⟩
    have hYm:(Y:Int)∈pre++(X:Int)::r:=by rw[hpre];exact(hmem _).2 ⟨Y,hY,rfl⟩
    rcases qLH.1 hYm with hy|hy
    ·exact absurd hpy (hbad (Y:Int) hy Y lf rfl hty)
    ·rcases qLz.1 hy with e|hy
     ·obtain rfl:Y=X:=by omega
      exact .inr ⟨rfl,hmin lf hpy⟩
     ·rw[←hpre,List.pairwise_append] at hpw
      have:=(List.pairwise_cons.1 hpw.2.1).1 (Y:Int) hy
      rw[qLg,qLg] at this
      exact .inl this
 exact key (msL all.length) [] rfl (fun y hy=>by cases hy)
theorem qbm {p:qc} {l:List qa} (h:Grd p l) (hl:l.length≤1000) (s:qg) (hck:QD p s=some 0) (day:Int) :
  (10<(QW (mO p day l) l).length∧Qs p s l day=some (⟨[],[]⟩,2))∨
  ((QW (mO p day l) l).length≤10∧Qs p s l day=some (⟨[],[]⟩,31)∧∀Y lf,Y<2 ^ (QW (mO p day l) l).length→qfB p (QW Y.testBit (QW (mO p day l) l)) day=true→¬ Perm p.Need s (QW (mO p day l) l) Y lf)∨
  ((QW (mO p day l) l).length≤10∧∃X w,Qs p s l day=some (⟨QW X.testBit (qem l.length (mO p day l)),w⟩,0)∧qvK p s (QW (mO p day l) l) day X w):=by
 have hat:=qeG p s day 0 l hl l.length 0 [] (by omega) rfl
 have hlen:(qem l.length (mO p day l)).length=(QW (mO p day l) l).length:=by rw[qdG,q7p]
 unfold Qs
 rw[hck,qLd,if_neg (by decide)]
 change (_∧Option.bind (zG _ ([],((0:Nat):Int))) _=_)∨(_∧Option.bind (zG _ ([],((0:Nat):Int))) _=_∧_)∨(_∧∃X w,Option.bind (zG _ ([],((0:Nat):Int))) _=_∧_)
 rw[hat,qLd,hlen]
 by_cases h10:10<(QW (mO p day l) l).length
 ·rw[if_pos (by omega)]
  exact .inl ⟨h10,rfl⟩
 ·right
  rw[if_neg (by omega),qlh hl,qLd,qdy h.rgt s _ (by omega),qLd]
  dsimp only
  rw[if_neg (by decide)]
  have hN:(QW (mO p day l) l).length≤10:=by omega
  have hp10:(2:Nat) ^ (QW (mO p day l) l).length≤1024:=qLO (Nat.pow_le_pow_right (by decide) hN) (by decide)
  obtain⟨hok,-,-⟩:=qye hN
  obtain⟨r,h1,h2⟩:=qng (h.sel (mO p day l)) hN s day 0 (((QW (mO p day l) l).length:Nat):Int) hlen
  have hm:q0e p s day 0 (qem l.length (mO p day l)) (QW (mO p day l) l) (Z9 (2 ^ (QW (mO p day l) l).length) (QH [] s (QW (mO p day l) l) p.Need 0)) (((QW (mO p day l) l).length:Nat):Int)=some r:=by
   unfold q0e
   rw[if_pos (by omega),qLg,qxf (by omega),qlo _ _ _ _ _ _ _ _ hp10,qLd,if_pos (by rw[zE];exact⟨Nat.two_pow_pos _,by omega,hok⟩)]
   change Option.bind (zG (Qx p s day 0 _ _ _ _ (msL (QW (mO p day l) l).length) (((msL (QW (mO p day l) l).length).length:Nat):Int)) 0) _=_
   rw[h1,qLd]
   cases r<;>rfl
  rw[hm,qLd]
  rcases h2 with ⟨rfl,hno⟩|⟨X,w,rfl,hL⟩
  ·exact .inl ⟨hN,rfl,hno⟩
  ·exact .inr ⟨hN,X,w,rfl,hL⟩
end
noncomputable section
open Go.RowKit
def okG (N:Nat):Int→List Int→Bool
 | _,[]=>true
 | p,y::r=>decide (p<y)&&decide (0≤y)&&decide (y<(N:Int))&&okG N y r
theorem qlG {N:Nat}:∀{r:List Int} {p:Int},okG N p r=true→∀y∈r,∃k:Nat,k<N∧y=(k:Int)
 | [],_,_,y,h=>by cases h
 | x::r,p,h,y,hy=>by
  rw[okG,qLJ,qLJ,qLJ,qMd,qMd,qMd] at h
  rcases qLz.1 hy with rfl|hy
  ·exact⟨y.toNat,by omega,by omega⟩
  ·exact qlG h.2 y hy
def q94 (l:List qa) (T:List Int):List qa:=T.filterMap fun y=>l[Int.toNat y]?
theorem qeN {l:List qa}:∀{T:List Int} {p:Int},okG l.length p T=true→(q94 l T).length=T.length
 | [],_,_=>rfl
 | x::r,p,h=>by
  obtain⟨k,hk,rfl⟩:=qlG h x qLs
  rw[okG,qLJ] at h
  unfold q94
  rw[List.filterMap_cons,qLg,qLf hk]
  show((q94 l r).length+1)=_
  rw[qeN h.2];rfl
theorem qle {l:List qa} (h:∀b∈l,q4t b) (T:List Int):∀b∈q94 l T,q4t b:=fun b hb=>by
 obtain⟨y,-,hy⟩:=List.mem_filterMap.1 hb
 exact h b (qLe hy)
theorem qia (p:qc) (s:qg) (u:qP) (l:List qa) (hl:l.length≤1000) (day:Int) (hT:u.Taken.length≤1000):∀(r:List Int) (i:Nat) (w:List qa) (pv:Int),r.length+i=u.Taken.length→(∀j,r[j]?=u.Taken[i+j]?)→w.length=i→((i=0∧pv = -1)∨(0<i∧u.Taken[i-1]?=some pv))→
  ∃e,zG (zN p s u l day u.Taken ((u.Taken.length:Nat):Int)) (w,(i:Int))=some e∧(okG l.length pv r=true→e = .inr (w++q94 l r))∧(okG l.length pv r=false→∃x,e = .inl x)
 | [],i,w,pv,hi,_,_,_=>by
  have hi:i=u.Taken.length:=by simpa using hi
  refine⟨.inr w,zD ?_,fun _=>by unfold q94;rw[List.filterMap_nil,qLy],fun h=>by rw[okG] at h;cases h⟩
  unfold zN
  dsimp only
  rw[if_neg (by omega)]
 | y::r,i,w,pv,hi,hj,hw,hp=>by
  have hML:100000≤maxLen:=by unfold maxLen;omega
  have hil:i<u.Taken.length:=by simp only[qLo] at hi;omega
  have hy:u.Taken[i]?=some y:=by have:=hj 0;rw[Nat.add_zero] at this;exact this.symm
  have bad:zN p s u l day u.Taken ((u.Taken.length:Nat):Int) (w,(i:Int))=some (.inr (.inl w))→okG l.length pv (y::r)=false→∃e,zG (zN p s u l day u.Taken ((u.Taken.length:Nat):Int)) (w,(i:Int))=some e∧(okG l.length pv (y::r)=true→e = .inr (w++q94 l (y::r)))∧(okG l.length pv (y::r)=false→∃x,e = .inl x):=fun h1 h2=>
   ⟨_,zD h1,fun h=>(by rw[h2] at h;cases h),fun _=>⟨_,rfl⟩⟩
  by_cases h0:y<0
  ·refine bad ?_ ?_
   ·unfold zN
    dsimp only
    rw[if_pos (by omega),if_pos ⟨by omega,by omega⟩,qLg,hy,qLd,if_pos h0]
   ·rw[okG,decide_eq_false (by omega:¬ (0≤y))];simp
  ·by_cases h1:(l.length:Int)≤y
   ·refine bad ?_ ?_
    ·unfold zN
     dsimp only
     rw[if_pos (by omega),if_pos ⟨by omega,by omega⟩,qLg,hy,qLd,if_neg h0,if_pos h1]
    ·rw[okG,decide_eq_false (by omega:¬ (y<(l.length:Int)))];simp
   ·obtain⟨k,rfl⟩:∃k:Nat,y=(k:Int):=⟨y.toNat,by omega⟩
    have hk:k<l.length:=by omega
    have good:pv<(k:Int)→zN p s u l day u.Taken ((u.Taken.length:Nat):Int) (w,(i:Int))=some (.inl (w++[l[k]],((i+1:Nat):Int)))→∃e,zG (zN p s u l day u.Taken ((u.Taken.length:Nat):Int)) (w,(i:Int))=some e∧(okG l.length pv ((k:Int)::r)=true→e = .inr (w++q94 l ((k:Int)::r)))∧(okG l.length pv ((k:Int)::r)=false→∃x,e = .inl x):=fun hlt hstep=>by
     obtain⟨e,e1,e2,e3⟩:=qia p s u l hl day hT r (i+1) (w++[l[k]]) (k:Int) (by simp only[qLo] at hi;omega) (fun j=>by have:=hj (j+1);rw[qLC] at this;rw[this];congr 1;omega) (by rw[qLk,hw];rfl) (.inr ⟨by omega,by rw[Nat.add_sub_cancel];exact hy⟩)
     refine⟨e,(Q4 hstep).trans e1,fun h=>?_,fun h=>?_⟩
     ·rw[okG,qLJ] at h
      rw[e2 h.2]
      unfold q94
      rw[List.filterMap_cons,qLg,qLf hk]
      simp
     ·rw[okG,qMe hlt,qMe (by omega:(0:Int)≤(k:Int)),qMe (by omega:(k:Int)<(l.length:Int))] at h
      exact e3 (by simpa using h)
    rcases hp with ⟨hp1,hp2⟩|⟨hp1,hp2⟩
    ·refine good (by omega) ?_
     unfold zN
     dsimp only
     rw[if_pos (by omega),if_pos ⟨by omega,by omega⟩,qLg,hy,qLd,if_neg h0,if_neg h1,if_neg (by omega),if_pos ⟨by omega,by omega⟩,qLg,qLf hk,qLd,if_pos ⟨by omega,by omega⟩,q3E hil (by omega)]
    ·have hwk:w64 ((i:Int)-1)=((i-1:Nat):Int):=by rw[ZC (by omega) (by omega)];omega
     by_cases hlt:(k:Int)≤pv
     ·refine bad ?_ ?_
      ·unfold zN
       dsimp only
       rw[if_pos (by omega),if_pos ⟨by omega,by omega⟩,qLg,hy,qLd,if_neg h0,if_neg h1,if_pos (by omega),hwk,if_pos ⟨by omega,by omega⟩,qLg,hp2,qLd,if_pos hlt]
      ·rw[okG,decide_eq_false (by omega:¬ (pv<(k:Int)))];simp
     ·refine good (by omega) ?_
      unfold zN
      dsimp only
      rw[if_pos (by omega),if_pos ⟨by omega,by omega⟩,qLg,hy,qLd,if_neg h0,if_neg h1,if_pos (by omega),hwk,if_pos ⟨by omega,by omega⟩,qLg,hp2,qLd,if_neg hlt,if_pos ⟨by omega,by omega⟩,qLg,qLf hk,qLd,if_pos ⟨by omega,by omega⟩,q3E hil (by omega)]
def qDu (p:qc) (l:List qa) (day:Int) (mF:List qa→Bool) (u:qP):Bool:=
 decide (u.Taken.length≤10)&&decide (u.Leaf.length=u.Taken.length)&&okG l.length (-1) u.Taken&&qfB p (q94 l u.Taken) day&&mF (q94 l u.Taken)
theorem qB9 {p:qc} {l:List qa} (h:Grd p l) (hl:l.length≤1000) (s:qg) (hck:QD p s=some 0) (day:Int) (u:qP) (mF:List qa→Bool)
  (hM:∀L:List qa,L.length=u.Leaf.length→L.length≤10→q2f p.Need s L u.Leaf=some (mF L)):qN p s l day u=some (if qDu p l day mF u=true then 0 else 32):=by
 unfold qN qDu
 rw[hck,qLd,if_neg (by decide)]
 by_cases h10:10<u.Taken.length
 ·rw[if_pos (by omega),decide_eq_false (by omega:¬ u.Taken.length≤10)]
  simp
 ·rw[if_neg (by omega),qMe (by omega:u.Taken.length≤10)]
  by_cases hlen:u.Leaf.length=u.Taken.length
  ·rw[if_neg (by rw[hlen];simp),qMe hlen]
   obtain⟨e,e1,e2,e3⟩:=qia p s u l hl day (by omega) u.Taken 0 [] (-1) (by omega) (fun j=>by rw[qLB]) rfl (.inl ⟨rfl,rfl⟩)
   change Option.bind (zG _ ([],((0:Nat):Int))) _=_
   rw[e1,qLd]
   cases hok:okG l.length (-1) u.Taken
   ·obtain⟨x,rfl⟩:=e3 hok
    rw[Sum.elim_inl];simp
   ·rw[e2 hok,Sum.elim_inr,qLx]
    have hpl:=qeN hok
    rw[qr5 p h.exc _ (by omega) (qle h.fit _),qLd]
    cases ht:qfB p (q94 l u.Taken) day
    ·simp
    ·rw[if_neg (by decide),hM _ (by omega) (by omega),qLd]
     cases mF (q94 l u.Taken)<;>simp
  ·rw[if_pos (by simpa using fun h=>hlen (by omega)),decide_eq_false hlen]
   simp
end
noncomputable section
open Go.RowKit
def qGb {α:Type} (f:α→Bool) (o:Option α):Bool:=(o.map f).getD false
theorem qiq {α:Type} (f:α→Bool):∀l:List α,QW (fun j=>qGb f l[j]?) l=l.filter f
 | []=>rfl
 | a::l=>by
  rw[QW]
  have:=qiq f l
  simp only[qLC]
  rw[this,List.filter_cons]
  show(if f a=true then[a] else[])++_=_
  cases f a<;>rfl
end
noncomputable section
open Go.RowKit
theorem qeI (n:qb) (s:qg):∀(l:List qa) (x:qK),(l.foldl (qhN n s) x).fine=(x.fine&&l.all (q8i n s))
 | [],x=>by simp
 | a::l,x=>by
  rw[qMi,qeI n s l,List.all_cons,←Bool.and_assoc]
  rfl
theorem qnw {n:qb} (hk:n.Kind=1∨n.Kind=2) {s:qg} {l:List qa} (h:∀a∈l,q8i n s a=false) (p:Nat→Bool):qca n (qfl n s l p)=false:=by
 unfold qca qfl
 cases hs:QW p l with
 | nil=>
  rw[List.foldl_nil]
  rcases hk with hk|hk
  ·rw[if_pos hk];rfl
  ·rw[if_neg (by omega)];rfl
 | cons a r=>
  have ha:a∈l:=q5V l p a (by rw[hs];exact qLs)
  have hf:((a::r).foldl (qhN n s) ld0).fine=false:=by
   rw[qeI,List.all_cons,h a ha];simp
  rw[hf]
  split<;>rfl
theorem qlj {s:qg} {l:List qa} (a:Nat→Int):∀n:qb,(∀y∈ndN n,q1E y)→(∀y∈ndN n,∀b∈l,q8i y s b=false)→∀nx,(q3R s l a n nx).2=false:=by
 intro n
 induction n using qb.rec (motive_2:=fun L=>(∀y∈ndL L,q1E y)→(∀y∈ndL L,∀b∈l,q8i y s b=false)→∀al nx,(q1I s l a al L nx).2.1=0∧(al=true→L≠[]→(q1I s l a al L nx).2.2=true)) with
 | mk k n m S L ih=>
  intro hf hu nx
  have h0:=hf _ (q9g _)
  have h1:=ih (fun y hy=>hf y (by rw[ndN];exact qLl _ hy)) (fun y hy=>hu y (by rw[ndN];exact qLl _ hy)) (k==3) nx
  rw[q41]
  by_cases h:k=1∨k=2
  ·rw[if_pos h]
   exact qnw h (hu _ (q9g _)) _
  ·rw[if_neg h]
   simp only
   rcases h0.kind with e|e|e|e
   ·exact absurd (.inl e) h
   ·exact absurd (.inr e) h
   ·have e:k=3:=e
    rw[h1.2 (by rw[e];rfl) (h0.all e).2];rfl
   ·have e:k=4:=e
    have hn:=h0.some e
    have hn:1≤n:=hn
    rw[h1.1,decide_eq_false (by omega),qMf]
 | nil=>rename_i hf hu al nx;rw[q1I];exact⟨rfl,fun _ h=>absurd rfl h⟩
 | cons x L h1 h2=>
  rename_i hf hu al nx
  have a1:=h1 (fun y hy=>hf y (by rw[ndL];exact qLp _ hy)) (fun y hy=>hu y (by rw[ndL];exact qLp _ hy)) nx
  have a2:=h2 (fun y hy=>hf y (by rw[ndL];exact qLm _ hy)) (fun y hy=>hu y (by rw[ndL];exact qLm _ hy)) al (nx+lvN x)
  rw[q1I]
  simp only
  rw[a1,a2.1,if_neg (by decide)]
  exact⟨rfl,fun h _=>by rw[h];simp⟩
theorem qpP {n:qb} (h:Rgt n) {s:qg} {l:List qa} (hu:∀y∈ndN n,∀b∈l,q8i y s b=false) (lf:List Int):qje n s l lf=false:=qlj _ n (qgh h) hu 0
theorem qoq {p:qc} {l:List qa} (h:Grd p l) (hl:l.length≤1000) (s:qg) (hck:QD p s=some 0) (day:Int) (hu:∀y∈ndN p.Need,∀b∈l,q8i y s b=false) :
  ∃u,Qs p s l day=some (u,if 10<rkF (mO p day l) l.length then 2 else 31):=by
 rw[←q7p l (mO p day l)]
 rcases qbm h hl s hck day with ⟨g,e⟩|⟨g,e,-⟩|⟨g,X,w,e,hL⟩
 ·rw[if_pos g];exact⟨_,e⟩
 ·rw[if_neg (by omega)];exact⟨_,e⟩
 ·exfalso
  have:=hL.perm.met
  rw[qpP h.rgt (fun y hy b hb=>hu y hy b (q5V _ _ _ (q5V _ _ _ hb)))] at this
  cases this
end
end Go.Proofs.YtojflbfdcpkedaaGreat.Vc
