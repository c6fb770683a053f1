/- Part 5 of a proof. -/
import Derived.Test.YtojflbfdcpkedaaGreatN4
set_option linter.unusedVariables false
set_option linter.unusedSimpArgs false
set_option linter.defProp false
set_option linter.unusedSectionVars false
set_option linter.unnecessarySimpa false
namespace Go.Proofs.YtojflbfdcpkedaaGreat.Vc
noncomputable section
open Go.RowKit
set_option maxRecDepth 20000
set_option maxHeartbeats 8000000
theorem qN4:okL 10 qn0:=qW (qk qEX) (by kernel_rfl) (by kernel_rfl)
def qKw:=JA_ @qn0.eq_1 (JA_ @Tryz.f10.eq_1 @qEX)
theorem qJS:okL 28 qk5:=qW (qk qEB) (by kernel_rfl) (by kernel_rfl)
def qK1:=JA_ @qk5.eq_1 (JA_ @Tryz.f28.eq_1 @qEB)
theorem qC4:lbO 28 5=qnd:=QG (qk qEB) rfl
theorem qAD:okL 28 qnd:=zZ qJS (qOq (i:=0) (by kernel_rfl))
theorem qKN:okL 27 qmZ:=qW (qk qGw) (by kernel_rfl) (by kernel_rfl)
def qMT:=JA_ @qmZ.eq_1 (JA_ @Tryz.f27.eq_1 @qGw)
theorem q2H:∀(code:ByteArray),ev 27 0 [rS code] []=some (R.agg [C.d (D.int IntKind.i64 1),dS code],[]):=
 fun code=>by
  rw[qS qGw qJX.2.2.2 qKN]
  have:=qMT;exact gA
def q0U (w2:List qc) (qq:Int) (zG:Int) (qn:Int) (qA:Int) (qB:ByteArray) (qj:Int) (qr:Int) (ql:Int) (qw:Int) (qP:Int) (qQ:Int) (qC:Int) (JH:Int) (qy:Int) (zf:Int) (zg:ByteArray) (qp:Int) (qD:Int) (qt:Int) (qJ:Int) (Qb:Int) (Qc:Int) (codes:qdu ByteArray) (credits:qdu Int) (grades:qdu Int):(List qa×Int)→Option ((List qa×Int)⊕(List qa))|(l,k)=>if k<3 then if 0≤k∧k<3 then Option.bind [codes.a0,codes.a1,codes.a2][Int.toNat k]? fun(a:ByteArray)=>if 0≤k∧k<3 then Option.bind [credits.a0,credits.a1,credits.a2][Int.toNat k]? fun(a2:Int)=>if 0≤k∧k<3 then Option.bind [grades.a0,grades.a1,grades.a2][Int.toNat k]? fun(a3:Int)=>if l.length+1≤maxLen∧(l.length+1)*104≤140737488355328 then some (Sum.inl (l++[qa.mk (qc.mk 1 a) a2 a3 100 [w64 (1000001+k)] 0 []],w64 (k+1))) else none else none else none else none else some (Sum.inr l)
theorem q6E:∀(w2:List qc) (l:List qa) (qq zG qn qA:Int) (qB:ByteArray) (qj qr ql qw qP qQ qC JH qy zf:Int) (zg:ByteArray) (qp qD qt qJ Qb Qc:Int) (q4U q4V q4W:ByteArray) (q1O q1P q1Q q3a q3b q3c k:Int) (qiT q2u:Nat),qiT=l.length→q2u=w2.length→XL2 evo 28 0 5 ⟨[(2,rP 0),(4,rP 1),(5,rP 3),(6,rP 4),(7,rP 5),(8,rO 6 8 qiT),(9,rI k)],[(0,B.blk 39 [dI qq,dI zG,dI qn,dI qA,dS qB,dI qj,dI qr,dI ql,C.nils,C.nils,dI qw,dI qP,dI qQ,C.nils]),(1,B.blk 39 [dI qC,dI JH,dI qy,dI zf,dS zg,dI qp,dI qD,dI qt,dO 2 2 q2u,C.nils,dI qJ,dI Qb,dI Qc,C.nils]),(2,bR 55 2 qd w2),(3,B.blk 103 [dS q4U,dS q4V,dS q4W]),(4,B.blk 29 [dI q1O,dI q1P,dI q1Q]),(5,B.blk 29 [dI q3a,dI q3b,dI q3c]),(6,bR 57 8 qe l)],7,42⟩=(zy (q0U w2 qq zG qn qA qB qj qr ql qw qP qQ qC JH qy zf zg qp qD qt qJ Qb Qc (qdu.mk q4U q4V q4W) (qdu.mk q1O q1P q1Q) (qdu.mk q3a q3b q3c)) (l,k)).bind (fun(e:List qa)=>some (Exit.exit 0,⟨[(2,rP 0),(4,rP 1),(8,rO 3 8 e.length)],[(0,B.blk 39 [dI qq,dI zG,dI qn,dI qA,dS qB,dI qj,dI qr,dI ql,C.nils,C.nils,dI qw,dI qP,dI qQ,C.nils]),(1,B.blk 39 [dI qC,dI JH,dI qy,dI zf,dS zg,dI qp,dI qD,dI qt,dO 2 2 w2.length,C.nils,dI qJ,dI Qb,dI Qc,C.nils]),(2,bR 55 2 qd w2),(3,bR 57 8 qe e)],4,42⟩)):=
 by
 intro w2 l qq zG qn qA qB qj qr ql qw qP qQ qC JH qy zf zg qp qD qt qJ Qb Qc q4U q4V q4W q1O q1P q1Q q3a q3b q3c k qiT q2u h0 h1
 subst h0 h1
 revert k;revert l;exact qa4 qC4 qAD (fun e=>by exact⟨_,rfl,fun h=>by cases h⟩) fun l k=>by
  have:=qK1;have:=@qnd.eq_1;have:=@q2H;have:=@q0U.eq_1;exact gA
theorem q5r:∀(q3X:Int) (q7I:ByteArray) (q3Y:Int) (q7J:ByteArray) (qq zG qn qA:Int) (qB:ByteArray) (qj qr ql qw qP qQ qC JH qy zf:Int) (zg:ByteArray) (qp qD qt qJ Qb Qc:Int) (q4U q4V q4W:ByteArray) (q1O q1P q1Q q3a q3b q3c k:Int),XL2 evo 28 0 5 ⟨[(2,rP 0),(4,rP 1),(5,rP 3),(6,rP 4),(7,rP 5),(8,rO 6 8 0),(9,rI k)],[(0,B.blk 39 [dI qq,dI zG,dI qn,dI qA,dS qB,dI qj,dI qr,dI ql,C.nils,C.nils,dI qw,dI qP,dI qQ,C.nils]),(1,B.blk 39 [dI qC,dI JH,dI qy,dI zf,dS zg,dI qp,dI qD,dI qt,dO 2 2 2,C.nils,dI qJ,dI Qb,dI Qc,C.nils]),(2,B.row 55 2 [dI q3X,dS q7I,dI q3Y,dS q7J]),(3,B.blk 103 [dS q4U,dS q4V,dS q4W]),(4,B.blk 29 [dI q1O,dI q1P,dI q1Q]),(5,B.blk 29 [dI q3a,dI q3b,dI q3c]),(6,B.row 57 8 [])],7,42⟩=(zy (q0U [(qc.mk q3X q7I),(qc.mk q3Y q7J)] qq zG qn qA qB qj qr ql qw qP qQ qC JH qy zf zg qp qD qt qJ Qb Qc (qdu.mk q4U q4V q4W) (qdu.mk q1O q1P q1Q) (qdu.mk q3a q3b q3c)) ([],k)).bind (fun(e:List qa)=>some (Exit.exit 0,⟨[(2,rP 0),(4,rP 1),(8,rO 3 8 e.length)],[(0,B.blk 39 [dI qq,dI zG,dI qn,dI qA,dS qB,dI qj,dI qr,dI ql,C.nils,C.nils,dI qw,dI qP,dI qQ,C.nils]),(1,B.blk 39 [dI qC,dI JH,dI qy,dI zf,dS zg,dI qp,dI qD,dI qt,C.own 2 2 0 [(qc.mk q3X q7I),(qc.mk q3Y q7J)].length,C.nils,dI qJ,dI Qb,dI Qc,C.nils]),(2,B.row 55 2 (([(qc.mk q3X q7I),(qc.mk q3Y q7J)].flatMap qd).map C.d)),(3,bR 57 8 qe e)],4,42⟩)):=by
 intro q3X q7I q3Y q7J qq zG qn qA qB qj qr ql qw qP qQ qC JH qy zf zg qp qD qt qJ Qb Qc q4U q4V q4W q1O q1P q1Q q3a q3b q3c k;have h:=q6E [(qc.mk q3X q7I),(qc.mk q3Y q7J)] [] qq zG qn qA qB qj qr ql qw qP qQ qC JH qy zf zg qp qD qt qJ Qb Qc ((qdu.mk q4U q4V q4W)).a0 ((qdu.mk q4U q4V q4W)).a1 ((qdu.mk q4U q4V q4W)).a2 ((qdu.mk q1O q1P q1Q)).a0 ((qdu.mk q1O q1P q1Q)).a1 ((qdu.mk q1O q1P q1Q)).a2 ((qdu.mk q3a q3b q3c)).a0 ((qdu.mk q3a q3b q3c)).a1 ((qdu.mk q3a q3b q3c)).a2 k _ _ rfl rfl
 first
  | exact h
  | (simp only[rL,dL,bR,bZ,Nat.reduceAdd] at h;exact h)
def Zz (total:Int):Option (qf×List qa):=Option.bind (zy (q0U [qc.mk 1 (ByteArray.mk (List.toArray [65,49])),qc.mk 1 (ByteArray.mk (List.toArray [66,49]))] 0 0 0 0 (ByteArray.mk (List.toArray [])) 0 0 0 0 0 0 1 1 1 0 (ByteArray.mk (List.toArray [77,117,115,105,99])) 1 0 60 total 0 0 (qdu.mk (ByteArray.mk (List.toArray [65,49])) (ByteArray.mk (List.toArray [66,49])) (ByteArray.mk (List.toArray [65,49]))) (qdu.mk 5 5 6) (qdu.mk 55 60 80)) ([],0)) fun(a:List qa)=>some (qf.mk 1 1 1 0 (ByteArray.mk (List.toArray [77,117,115,105,99])) (qb.mk 1 0 60 ([qc.mk 1 (ByteArray.mk (List.toArray [65,49]))]++[qc.mk 1 (ByteArray.mk (List.toArray [66,49]))]) []) total 0 0 [],a)
theorem q9I:∀(total:Int),ev 28 0 [rI total] []=(Zz total).bind (fun(e:qf×List qa)=>some (R.tup [R.agg [dI e.1.School,dI e.1.Id,dI e.1.Version,dI e.1.From,dS e.1.Name,dI e.1.Need.Kind,dI e.1.Need.N,dI e.1.Need.Min,dL 2 qd e.1.Need.Set,dL 5 qh e.1.Need.L,dI e.1.Total,dI e.1.Own,dI e.1.Age,dL 4 (eA2 qd) e.1.Exclude],rL 8 qe e.2],[])):=
 fun total=>by
  rw[qS qEB qJC.2.2.2 qJS]
  have:=qK1;have:=@q2H;have:=@q5r;have:=@Zz.eq_1;exact gA
theorem qKZ:okL 29 qmA:=qW (qk qHq) (by kernel_rfl) (by kernel_rfl)
def qLD:=JA_ @qmA.eq_1 (JA_ @Tryz.f29.eq_1 @qHq)
theorem qNx:okL 13 qmq:=qW (qk qHM) (by kernel_rfl) (by kernel_rfl)
def qLu:=JA_ @qmq.eq_1 (JA_ @Tryz.f13.eq_1 @qHM)
def q7F (school:Int):Option qg:=if(school==2)=Bool.true then some (qg.mk 5 1 3) else if(school==3)=Bool.true then some (qg.mk 0 20 10) else some (qg.mk 0 100 50)
def qT (school:Int):qg:=if(school==2)=Bool.true then qg.mk 5 1 3 else if(school==3)=Bool.true then qg.mk 0 20 10 else qg.mk 0 100 50
theorem qdn (school:Int):q7F school=some (qT school):=by
 unfold q7F qT
 simp only[Zm]
theorem q5R:∀(school:Int),ev 13 0 [rI school] []=some (R.agg [dI (qT school).Worst,dI (qT school).Best,dI (qT school).Pass],[]):=
 fun school=>by
  have h:ev 13 0 [rI school] []=(q7F school).bind (fun(e:qg)=>some (R.agg [dI e.Worst,dI e.Best,dI e.Pass],[])):=by
   rw[qS qHM qJY.2.2.2 qNx]
   have:=qLu;have:=@q7F.eq_1;exact gA
  rw[qdn] at h
  exact h
theorem qHH:okL 17 qgd:=qW (qk qCh) (by kernel_rfl) (by kernel_rfl)
def qHG:=JA_ @qgd.eq_1 (JA_ @Tryz.f17.eq_1 @qCh)
theorem qyt:lbO 17 4=qlJ:=QG (qk qCh) rfl
theorem qBI:okL 17 qlJ:=zZ qHH (qOq (i:=0) (by kernel_rfl))
theorem qyK:lbO 17 9=qpF:=QG (qk qCh) rfl
theorem qyn:okL 17 qpF:=zZ qHH (qOq (i:=1) (by kernel_rfl))
def q0c (a:qI) (b:qI):Int→Option (Int⊕(Unit⊕Unit))|i=>if i<((a.Taken.length:Nat):Int) then if 0≤i∧i<((a.Taken.length:Nat):Int) then Option.bind a.Taken[Int.toNat i]? fun(a2:Int)=>if 0≤i∧i<((b.Taken.length:Nat):Int) then Option.bind b.Taken[Int.toNat i]? fun(a3:Int)=>if(a2 != a3)=Bool.true then some (Sum.inr (Sum.inl ())) else some (Sum.inl (w64 (i+1))) else none else none else some (Sum.inr (Sum.inr ()))
theorem q9t:∀(q1l q3s q1m q3t:List Int) (i:Int),XL2 evo 17 0 4 ⟨[(2,rP 0),(3,rP 1),(5,rI i)],[(0,B.blk 48 [dL 1 eI q1l,dL 1 eI q3s]),(1,B.blk 48 [dL 1 eI q1m,dL 1 eI q3t])],2,59⟩=(zy (q0c (qI.mk q1l q3s) (qI.mk q1m q3t)) i).bind (Sum.elim (fun(e:Unit)=>some (Exit.ret,⟨[(2,rP 0),(3,rP 1),(4,rB Bool.false)],[(0,B.blk 48 [dL 1 eI q1l,dL 1 eI q3s]),(1,B.blk 48 [dL 1 eI q1m,dL 1 eI q3t])],2,59⟩)) (fun(e:Unit)=>some (Exit.exit 0,⟨[(2,rP 0),(3,rP 1),(4,R.any)],[(0,B.blk 48 [dL 1 eI q1l,dL 1 eI q3s]),(1,B.blk 48 [dL 1 eI q1m,dL 1 eI q3t])],2,59⟩))):=
 fun q1l q3s q1m q3t i=>by
  revert i;exact qbe qyt qBI (fun e=>by rcases e with _|_<;>exact⟨_,rfl,fun h=>by cases h⟩) fun x=>by
   have:=qHG;have:=@qlJ.eq_1;have:=@q0c.eq_1;exact gA
def q0b (a:qI) (b:qI):Int→Option (Int⊕(Unit⊕Unit))|i=>if i<((a.Leaf.length:Nat):Int) then if 0≤i∧i<((a.Leaf.length:Nat):Int) then Option.bind a.Leaf[Int.toNat i]? fun(a2:Int)=>if 0≤i∧i<((b.Leaf.length:Nat):Int) then Option.bind b.Leaf[Int.toNat i]? fun(a3:Int)=>if(a2 != a3)=Bool.true then some (Sum.inr (Sum.inl ())) else some (Sum.inl (w64 (i+1))) else none else none else some (Sum.inr (Sum.inr ()))
theorem q9q:∀(q1l q3s q1m q3t:List Int) (i:Int),XL2 evo 17 0 9 ⟨[(2,rP 0),(3,rP 1),(6,rI i)],[(0,B.blk 48 [dL 1 eI q1l,dL 1 eI q3s]),(1,B.blk 48 [dL 1 eI q1m,dL 1 eI q3t])],2,59⟩=(zy (q0b (qI.mk q1l q3s) (qI.mk q1m q3t)) i).bind (Sum.elim (fun(e:Unit)=>some (Exit.ret,⟨[(4,rB Bool.false)],[],0,59⟩)) (fun(e:Unit)=>some (Exit.exit 2,⟨[(4,R.any)],[],0,59⟩))):=
 fun q1l q3s q1m q3t i=>by
  revert i;exact qbe qyK qyn (fun e=>by rcases e with _|_<;>exact⟨_,rfl,fun h=>by cases h⟩) fun x=>by
   have:=qHG;have:=@qpF.eq_1;have:=@q0b.eq_1;exact gA
def q2a (a:qI) (b:qI):Option Bool:=if(((a.Taken.length:Nat):Int) != ((b.Taken.length:Nat):Int))=Bool.true then some Bool.false else if(((a.Leaf.length:Nat):Int) != ((b.Leaf.length:Nat):Int))=Bool.true then some Bool.false else Option.bind (zy (q0c a b) 0) fun(a2:Sum Unit Unit)=>Sum.elim (fun(a3:Unit)=>some Bool.false) (fun(a4:Unit)=>Option.bind (zy (q0b a b) 0) fun(a5:Sum Unit Unit)=>Sum.elim (fun(a6:Unit)=>some Bool.false) (fun(a7:Unit)=>some Bool.true) a5) a2
theorem q6L:∀(q1l q3s q1m q3t:List Int),ev 17 0 [R.agg [dL 1 eI q1l,dL 1 eI q3s],R.agg [dL 1 eI q1m,dL 1 eI q3t]] []=(q2a (qI.mk q1l q3s) (qI.mk q1m q3t)).bind (fun(e:Bool)=>some (rB e,[])):=
 fun q1l q3s q1m q3t=>by
  rw[qS qCh qJm.2.2.2 qHH]
  have:=qHG;have:=@q9t;have:=@q9q;have:=@q2a.eq_1;exact gA
def zc (p:qf) (l:List qa) (taken:List Int) (leaf:List Int):Option Bool:=Option.bind (zH p (qT 1) l 500) fun(a:Prod qI Int)=>if(((taken.length:Nat):Int)==0)=Bool.true then if(a.2==31)=Bool.true then some (w64 (((a.1.Taken.length:Nat):Int)+((a.1.Leaf.length:Nat):Int))==0) else some Bool.false else if(a.2==0)=Bool.true then Option.bind (q2a a.1 (qI.mk taken leaf)) fun(e0:Bool)=>some e0 else some Bool.false
theorem q0V:∀(qC JH qy zf:Int) (zg:ByteArray) (qp qD qt:Int) (qx:List qc) (qF:List qb) (qJ Qb Qc:Int) (qH:List (q01 qc)) (l:List qa) (taken leaf:List Int),ev 29 0 [R.agg [dI qC,dI JH,dI qy,dI zf,dS zg,dI qp,dI qD,dI qt,dL 2 qd qx,dL 5 qh qF,dI qJ,dI Qb,dI Qc,dL 4 (eA2 qd) qH],rL 8 qe l,rL 1 eI taken,rL 1 eI leaf] []=(zc (qf.mk qC JH qy zf zg (qb.mk qp qD qt qx qF) qJ Qb Qc qH) l taken leaf).bind (fun(e:Bool)=>some (rB e,[])):=
 fun qC JH qy zf zg qp qD qt qx qF qJ Qb Qc qH l taken leaf=>by
  rw[qS qHq qIv.2.2.2 qKZ]
  have:=qLD;have:=@q5R;have:=@q4y;have:=@q6L;have:=@zc.eq_1;exact gA
theorem q6X:∀(taken0 taken1 leaf0 leaf1 qC JH qy zf:Int) (zg:ByteArray) (qp qD qt:Int) (qx:List qc) (qF:List qb) (qJ Qb Qc:Int) (qH:List (q01 qc)) (l:List qa),ev 29 0 [R.agg [dI qC,dI JH,dI qy,dI zf,dS zg,dI qp,dI qD,dI qt,dL 2 qd qx,dL 5 qh qF,dI qJ,dI Qb,dI Qc,dL 4 (eA2 qd) qH],rL 8 qe l,R.c (C.d (D.sl 1 2 [D.int .i64 taken0,D.int .i64 taken1])),R.c (C.d (D.sl 1 2 [D.int .i64 leaf0,D.int .i64 leaf1]))] []=(zc (qf.mk qC JH qy zf zg (qb.mk qp qD qt qx qF) qJ Qb Qc qH) l [taken0,taken1] [leaf0,leaf1]).bind (fun(e:Bool)=>some (rB e,[])):=by
 intro taken0 taken1 leaf0 leaf1 qC JH qy zf zg qp qD qt qx qF qJ Qb Qc qH l;have h:=q0V ((qf.mk qC JH qy zf zg (qb.mk qp qD qt qx qF) qJ Qb Qc qH)).School ((qf.mk qC JH qy zf zg (qb.mk qp qD qt qx qF) qJ Qb Qc qH)).Id ((qf.mk qC JH qy zf zg (qb.mk qp qD qt qx qF) qJ Qb Qc qH)).Version ((qf.mk qC JH qy zf zg (qb.mk qp qD qt qx qF) qJ Qb Qc qH)).From ((qf.mk qC JH qy zf zg (qb.mk qp qD qt qx qF) qJ Qb Qc qH)).Name ((qf.mk qC JH qy zf zg (qb.mk qp qD qt qx qF) qJ Qb Qc qH)).Need.Kind ((qf.mk qC JH qy zf zg (qb.mk qp qD qt qx qF) qJ Qb Qc qH)).Need.N ((qf.mk qC JH qy zf zg (qb.mk qp qD qt qx qF) qJ Qb Qc qH)).Need.Min ((qf.mk qC JH qy zf zg (qb.mk qp qD qt qx qF) qJ Qb Qc qH)).Need.Set ((qf.mk qC JH qy zf zg (qb.mk qp qD qt qx qF) qJ Qb Qc qH)).Need.L ((qf.mk qC JH qy zf zg (qb.mk qp qD qt qx qF) qJ Qb Qc qH)).Total ((qf.mk qC JH qy zf zg (qb.mk qp qD qt qx qF) qJ Qb Qc qH)).Own ((qf.mk qC JH qy zf zg (qb.mk qp qD qt qx qF) qJ Qb Qc qH)).Age ((qf.mk qC JH qy zf zg (qb.mk qp qD qt qx qF) qJ Qb Qc qH)).Exclude l [taken0,taken1] [leaf0,leaf1]
 first
  | exact h
  | (simp only[rL,dL,bR,bZ,Nat.reduceAdd] at h;exact h)
theorem q76:∀(taken0 leaf0 qC JH qy zf:Int) (zg:ByteArray) (qp qD qt:Int) (qx:List qc) (qF:List qb) (qJ Qb Qc:Int) (qH:List (q01 qc)) (l:List qa),ev 29 0 [R.agg [dI qC,dI JH,dI qy,dI zf,dS zg,dI qp,dI qD,dI qt,dL 2 qd qx,dL 5 qh qF,dI qJ,dI Qb,dI Qc,dL 4 (eA2 qd) qH],rL 8 qe l,R.c (C.d (D.sl 1 1 [D.int .i64 taken0])),R.c (C.d (D.sl 1 1 [D.int .i64 leaf0]))] []=(zc (qf.mk qC JH qy zf zg (qb.mk qp qD qt qx qF) qJ Qb Qc qH) l [taken0] [leaf0]).bind (fun(e:Bool)=>some (rB e,[])):=by
 intro taken0 leaf0 qC JH qy zf zg qp qD qt qx qF qJ Qb Qc qH l;have h:=q0V ((qf.mk qC JH qy zf zg (qb.mk qp qD qt qx qF) qJ Qb Qc qH)).School ((qf.mk qC JH qy zf zg (qb.mk qp qD qt qx qF) qJ Qb Qc qH)).Id ((qf.mk qC JH qy zf zg (qb.mk qp qD qt qx qF) qJ Qb Qc qH)).Version ((qf.mk qC JH qy zf zg (qb.mk qp qD qt qx qF) qJ Qb Qc qH)).From ((qf.mk qC JH qy zf zg (qb.mk qp qD qt qx qF) qJ Qb Qc qH)).Name ((qf.mk qC JH qy zf zg (qb.mk qp qD qt qx qF) qJ Qb Qc qH)).Need.Kind ((qf.mk qC JH qy zf zg (qb.mk qp qD qt qx qF) qJ Qb Qc qH)).Need.N ((qf.mk qC JH qy zf zg (qb.mk qp qD qt qx qF) qJ Qb Qc qH)).Need.Min ((qf.mk qC JH qy zf zg (qb.mk qp qD qt qx qF) qJ Qb Qc qH)).Need.Set ((qf.mk qC JH qy zf zg (qb.mk qp qD qt qx qF) qJ Qb Qc qH)).Need.L ((qf.mk qC JH qy zf zg (qb.mk qp qD qt qx qF) qJ Qb Qc qH)).Total ((qf.mk qC JH qy zf zg (qb.mk qp qD qt qx qF) qJ Qb Qc qH)).Own ((qf.mk qC JH qy zf zg (qb.mk qp qD qt qx qF) qJ Qb Qc qH)).Age ((qf.mk qC JH qy zf zg (qb.mk qp qD qt qx qF) qJ Qb Qc qH)).Exclude l [taken0] [leaf0]
 first
  | exact h
  | (simp only[rL,dL,bR,bZ,Nat.reduceAdd] at h;exact h)
theorem q7e:∀  (qC JH qy zf:Int) (zg:ByteArray) (qp qD qt:Int) (qx:List qc) (qF:List qb) (qJ Qb Qc:Int) (qH:List (q01 qc)) (l:List qa),ev 29 0 [R.agg [dI qC,dI JH,dI qy,dI zf,dS zg,dI qp,dI qD,dI qt,dL 2 qd qx,dL 5 qh qF,dI qJ,dI Qb,dI Qc,dL 4 (eA2 qd) qH],rL 8 qe l,R.c (C.d (D.sl 1 0 [])),R.c (C.d (D.sl 1 0 []))] []=(zc (qf.mk qC JH qy zf zg (qb.mk qp qD qt qx qF) qJ Qb Qc qH) l [] []).bind (fun(e:Bool)=>some (rB e,[])):=by
 intro qC JH qy zf zg qp qD qt qx qF qJ Qb Qc qH l;have h:=q0V ((qf.mk qC JH qy zf zg (qb.mk qp qD qt qx qF) qJ Qb Qc qH)).School ((qf.mk qC JH qy zf zg (qb.mk qp qD qt qx qF) qJ Qb Qc qH)).Id ((qf.mk qC JH qy zf zg (qb.mk qp qD qt qx qF) qJ Qb Qc qH)).Version ((qf.mk qC JH qy zf zg (qb.mk qp qD qt qx qF) qJ Qb Qc qH)).From ((qf.mk qC JH qy zf zg (qb.mk qp qD qt qx qF) qJ Qb Qc qH)).Name ((qf.mk qC JH qy zf zg (qb.mk qp qD qt qx qF) qJ Qb Qc qH)).Need.Kind ((qf.mk qC JH qy zf zg (qb.mk qp qD qt qx qF) qJ Qb Qc qH)).Need.N ((qf.mk qC JH qy zf zg (qb.mk qp qD qt qx qF) qJ Qb Qc qH)).Need.Min ((qf.mk qC JH qy zf zg (qb.mk qp qD qt qx qF) qJ Qb Qc qH)).Need.Set ((qf.mk qC JH qy zf zg (qb.mk qp qD qt qx qF) qJ Qb Qc qH)).Need.L ((qf.mk qC JH qy zf zg (qb.mk qp qD qt qx qF) qJ Qb Qc qH)).Total ((qf.mk qC JH qy zf zg (qb.mk qp qD qt qx qF) qJ Qb Qc qH)).Own ((qf.mk qC JH qy zf zg (qb.mk qp qD qt qx qF) qJ Qb Qc qH)).Age ((qf.mk qC JH qy zf zg (qb.mk qp qD qt qx qF) qJ Qb Qc qH)).Exclude l [] []
 first
  | exact h
  | (simp only[rL,dL,bR,bZ,Nat.reduceAdd] at h;exact h)
theorem q7c:∀(qC JH qy zf:Int) (zg:ByteArray) (qp qD qt:Int) (qx:List qc) (qF:List qb) (qJ Qb Qc zj:Int) (zD:ByteArray) (zl:Int) (zE:ByteArray) (taken0 leaf0:Int) (l:List qa),ev 29 0 [R.agg [dI qC,dI JH,dI qy,dI zf,dS zg,dI qp,dI qD,dI qt,dL 2 qd qx,dL 5 qh qF,dI qJ,dI Qb,dI Qc,C.d (D.sl 4 1 [D.int .i64 zj,D.str zD,D.int .i64 zl,D.str zE])],rL 8 qe l,R.c (C.d (D.sl 1 1 [D.int .i64 taken0])),R.c (C.d (D.sl 1 1 [D.int .i64 leaf0]))] []=(zc (qf.mk qC JH qy zf zg (qb.mk qp qD qt qx qF) qJ Qb Qc [(q01.mk (qc.mk zj zD) (qc.mk zl zE))]) l [taken0] [leaf0]).bind (fun(e:Bool)=>some (rB e,[])):=by
 intro qC JH qy zf zg qp qD qt qx qF qJ Qb Qc zj zD zl zE taken0 leaf0 l;have h:=q0V ((qf.mk qC JH qy zf zg (qb.mk qp qD qt qx qF) qJ Qb Qc [(q01.mk (qc.mk zj zD) (qc.mk zl zE))])).School ((qf.mk qC JH qy zf zg (qb.mk qp qD qt qx qF) qJ Qb Qc [(q01.mk (qc.mk zj zD) (qc.mk zl zE))])).Id ((qf.mk qC JH qy zf zg (qb.mk qp qD qt qx qF) qJ Qb Qc [(q01.mk (qc.mk zj zD) (qc.mk zl zE))])).Version ((qf.mk qC JH qy zf zg (qb.mk qp qD qt qx qF) qJ Qb Qc [(q01.mk (qc.mk zj zD) (qc.mk zl zE))])).From ((qf.mk qC JH qy zf zg (qb.mk qp qD qt qx qF) qJ Qb Qc [(q01.mk (qc.mk zj zD) (qc.mk zl zE))])).Name ((qf.mk qC JH qy zf zg (qb.mk qp qD qt qx qF) qJ Qb Qc [(q01.mk (qc.mk zj zD) (qc.mk zl zE))])).Need.Kind ((qf.mk qC JH qy zf zg (qb.mk qp qD qt qx qF) qJ Qb Qc [(q01.mk (qc.mk zj zD) (qc.mk zl zE))])).Need.N ((qf.mk qC JH qy zf zg (qb.mk qp qD qt qx qF) qJ Qb Qc [(q01.mk (qc.mk zj zD) (qc.mk zl zE))])).Need.Min ((qf.mk qC JH qy zf zg (qb.mk qp qD qt qx qF) qJ Qb Qc [(q01.mk (qc.mk zj zD) (qc.mk zl zE))])).Need.Set ((qf.mk qC JH qy zf zg (qb.mk qp qD qt qx qF) qJ Qb Qc [(q01.mk (qc.mk zj zD) (qc.mk zl zE))])).Need.L ((qf.mk qC JH qy zf zg (qb.mk qp qD qt qx qF) qJ Qb Qc [(q01.mk (qc.mk zj zD) (qc.mk zl zE))])).Total ((qf.mk qC JH qy zf zg (qb.mk qp qD qt qx qF) qJ Qb Qc [(q01.mk (qc.mk zj zD) (qc.mk zl zE))])).Own ((qf.mk qC JH qy zf zg (qb.mk qp qD qt qx qF) qJ Qb Qc [(q01.mk (qc.mk zj zD) (qc.mk zl zE))])).Age ((qf.mk qC JH qy zf zg (qb.mk qp qD qt qx qF) qJ Qb Qc [(q01.mk (qc.mk zj zD) (qc.mk zl zE))])).Exclude l [taken0] [leaf0]
 first
  | exact h
  | (simp only[rL,dL,bR,bZ,Nat.reduceAdd] at h;exact h)
theorem qIA:okL 21 qj1:=qW (qk qE0) (by kernel_rfl) (by kernel_rfl)
def qIT:=JA_ @qj1.eq_1 (JA_ @Tryz.f21.eq_1 @qE0)
theorem qAY:lbO 21 8=qme:=QG (qk qE0) rfl
theorem qBo:okL 21 qme:=zZ qIA (qOq (i:=0) (by kernel_rfl))
def zO (b0:qf) (b1:qg) (b2:qI) (t2:List qa) (t3:Int) (t35:List Int) (t36:Int):(List qa×Int)→Option ((List qa×Int)⊕((List qa)⊕(List qa)))|(w3,t37)=>if t37<t36 then if 0≤t37∧t37<((t35.length:Nat):Int) then Option.bind t35[Int.toNat t37]? fun(a:Int)=>if a<0 then some (Sum.inr (Sum.inl w3)) else if((t2.length:Nat):Int)≤a then some (Sum.inr (Sum.inl w3)) else if 0<t37 then if 0≤w64 (t37-1)∧w64 (t37-1)<((b2.Taken.length:Nat):Int) then Option.bind b2.Taken[Int.toNat (w64 (t37-1))]? fun(a2:Int)=>if a≤a2 then some (Sum.inr (Sum.inl w3)) else if 0≤a∧a<((t2.length:Nat):Int) then Option.bind t2[Int.toNat a]? fun(a3:qa)=>if w3.length+1≤maxLen∧(w3.length+1)*104≤140737488355328 then some (Sum.inl (w3++[a3],w64 (t37+1))) else none else none else none else if 0≤a∧a<((t2.length:Nat):Int) then Option.bind t2[Int.toNat a]? fun(a4:qa)=>if w3.length+1≤maxLen∧(w3.length+1)*104≤140737488355328 then some (Sum.inl (w3++[a4],w64 (t37+1))) else none else none else none else some (Sum.inr (Sum.inr w3))
theorem q7V:∀(w3:List qa) (qq zG qn qA:Int) (qB:ByteArray) (qj qr ql:Int) (qm:List qc) (qu:List qb) (qw qP qQ:Int) (qo:List (q01 qc)) (qV zq zr:Int) (q1w q2R:List Int) (t2:List qa) (t3:Int) (t35:List Int) (t36 t37:Int) (q2t:Nat),q2t=w3.length→XL2 evo 21 0 8 ⟨[(2,rL 8 qe t2),(3,rI t3),(5,rP 0),(6,rP 1),(9,rP 2),(12,rO 3 8 q2t),(35,rL 1 eI t35),(36,rI t36),(37,rI t37)],[(0,B.blk 39 [dI qq,dI zG,dI qn,dI qA,dS qB,dI qj,dI qr,dI ql,dL 2 qd qm,dL 5 qh qu,dI qw,dI qP,dI qQ,dL 4 (eA2 qd) qo]),(1,B.blk 28 [dI qV,dI zq,dI zr]),(2,B.blk 48 [dL 1 eI q1w,dL 1 eI q2R]),(3,bR 57 8 qe w3)],4,87⟩=(zy (zO (qf.mk qq zG qn qA qB (qb.mk qj qr ql qm qu) qw qP qQ qo) (qg.mk qV zq zr) (qI.mk q1w q2R) t2 t3 t35 t36) (w3,t37)).bind (Sum.elim (fun(e:List qa)=>some (Exit.ret,⟨[(3,rI t3),(5,rP 0),(6,rP 1),(9,rP 2),(10,rI 32),(12,rO 3 8 e.length)],[(0,B.blk 39 [dI qq,dI zG,dI qn,dI qA,dS qB,dI qj,dI qr,dI ql,dL 2 qd qm,dL 5 qh qu,dI qw,dI qP,dI qQ,dL 4 (eA2 qd) qo]),(1,B.blk 28 [dI qV,dI zq,dI zr]),(2,B.blk 48 [dL 1 eI q1w,dL 1 eI q2R]),(3,bR 57 8 qe e)],4,87⟩)) (fun(e:List qa)=>some (Exit.exit 0,⟨[(3,rI t3),(5,rP 0),(6,rP 1),(9,rP 2),(10,R.any),(12,rO 3 8 e.length)],[(0,B.blk 39 [dI qq,dI zG,dI qn,dI qA,dS qB,dI qj,dI qr,dI ql,dL 2 qd qm,dL 5 qh qu,dI qw,dI qP,dI qQ,dL 4 (eA2 qd) qo]),(1,B.blk 28 [dI qV,dI zq,dI zr]),(2,B.blk 48 [dL 1 eI q1w,dL 1 eI q2R]),(3,bR 57 8 qe e)],4,87⟩))):=
 by
 intro w3 qq zG qn qA qB qj qr ql qm qu qw qP qQ qo qV zq zr q1w q2R t2 t3 t35 t36 t37 q2t h0
 subst h0
 revert t37;revert w3;exact qa4 qAY qBo (fun e=>by rcases e with _|_<;>exact⟨_,rfl,fun h=>by cases h⟩) fun w3 t37=>by
  have:=qIT;have:=@qme.eq_1;have:=@zO.eq_1;exact gA
theorem q5G:∀  (qq zG qn qA:Int) (qB:ByteArray) (qj qr ql:Int) (qm:List qc) (qu:List qb) (qw qP qQ:Int) (qo:List (q01 qc)) (qV zq zr:Int) (q1w q2R:List Int) (t2:List qa) (t3:Int) (t35:List Int) (t36 t37:Int),XL2 evo 21 0 8 ⟨[(2,rL 8 qe t2),(3,rI t3),(5,rP 0),(6,rP 1),(9,rP 2),(12,rO 3 8 0),(35,rL 1 eI t35),(36,rI t36),(37,rI t37)],[(0,B.blk 39 [dI qq,dI zG,dI qn,dI qA,dS qB,dI qj,dI qr,dI ql,dL 2 qd qm,dL 5 qh qu,dI qw,dI qP,dI qQ,dL 4 (eA2 qd) qo]),(1,B.blk 28 [dI qV,dI zq,dI zr]),(2,B.blk 48 [dL 1 eI q1w,dL 1 eI q2R]),(3,B.row 57 8 [])],4,87⟩=(zy (zO (qf.mk qq zG qn qA qB (qb.mk qj qr ql qm qu) qw qP qQ qo) (qg.mk qV zq zr) (qI.mk q1w q2R) t2 t3 t35 t36) ([],t37)).bind (Sum.elim (fun(e:List qa)=>some (Exit.ret,⟨[(3,rI t3),(5,rP 0),(6,rP 1),(9,rP 2),(10,rI 32),(12,rO 3 8 e.length)],[(0,B.blk 39 [dI qq,dI zG,dI qn,dI qA,dS qB,dI qj,dI qr,dI ql,dL 2 qd qm,dL 5 qh qu,dI qw,dI qP,dI qQ,dL 4 (eA2 qd) qo]),(1,B.blk 28 [dI qV,dI zq,dI zr]),(2,B.blk 48 [dL 1 eI q1w,dL 1 eI q2R]),(3,bR 57 8 qe e)],4,87⟩)) (fun(e:List qa)=>some (Exit.exit 0,⟨[(3,rI t3),(5,rP 0),(6,rP 1),(9,rP 2),(10,R.any),(12,rO 3 8 e.length)],[(0,B.blk 39 [dI qq,dI zG,dI qn,dI qA,dS qB,dI qj,dI qr,dI ql,dL 2 qd qm,dL 5 qh qu,dI qw,dI qP,dI qQ,dL 4 (eA2 qd) qo]),(1,B.blk 28 [dI qV,dI zq,dI zr]),(2,B.blk 48 [dL 1 eI q1w,dL 1 eI q2R]),(3,bR 57 8 qe e)],4,87⟩))):=by
 intro qq zG qn qA qB qj qr ql qm qu qw qP qQ qo qV zq zr q1w q2R t2 t3 t35 t36 t37;have h:=q7V [] ((qf.mk qq zG qn qA qB (qb.mk qj qr ql qm qu) qw qP qQ qo)).School ((qf.mk qq zG qn qA qB (qb.mk qj qr ql qm qu) qw qP qQ qo)).Id ((qf.mk qq zG qn qA qB (qb.mk qj qr ql qm qu) qw qP qQ qo)).Version ((qf.mk qq zG qn qA qB (qb.mk qj qr ql qm qu) qw qP qQ qo)).From ((qf.mk qq zG qn qA qB (qb.mk qj qr ql qm qu) qw qP qQ qo)).Name ((qf.mk qq zG qn qA qB (qb.mk qj qr ql qm qu) qw qP qQ qo)).Need.Kind ((qf.mk qq zG qn qA qB (qb.mk qj qr ql qm qu) qw qP qQ qo)).Need.N ((qf.mk qq zG qn qA qB (qb.mk qj qr ql qm qu) qw qP qQ qo)).Need.Min ((qf.mk qq zG qn qA qB (qb.mk qj qr ql qm qu) qw qP qQ qo)).Need.Set ((qf.mk qq zG qn qA qB (qb.mk qj qr ql qm qu) qw qP qQ qo)).Need.L ((qf.mk qq zG qn qA qB (qb.mk qj qr ql qm qu) qw qP qQ qo)).Total ((qf.mk qq zG qn qA qB (qb.mk qj qr ql qm qu) qw qP qQ qo)).Own ((qf.mk qq zG qn qA qB (qb.mk qj qr ql qm qu) qw qP qQ qo)).Age ((qf.mk qq zG qn qA qB (qb.mk qj qr ql qm qu) qw qP qQ qo)).Exclude ((qg.mk qV zq zr)).Worst ((qg.mk qV zq zr)).Best ((qg.mk qV zq zr)).Pass ((qI.mk q1w q2R)).Taken ((qI.mk q1w q2R)).Leaf t2 t3 t35 t36 t37 _ rfl
 first
  | exact h
  | (simp only[rL,dL,bR,bZ,Nat.reduceAdd] at h;exact h)
theorem qKy:okL 48 qnM:=qW (qk qEI) (by kernel_rfl) (by kernel_rfl)
def qMP:=JA_ @qnM.eq_1 (JA_ @Tryz.f48.eq_1 @qEI)
theorem qLp:okL 84 qmh:=qW (qk qF4) (by kernel_rfl) (by kernel_rfl)
def qKT:=JA_ @qmh.eq_1 (JA_ @Tryz.f84.eq_1 @qF4)
def q3M (k:Int) (v:Int):Option Bool:=if k<(-1) then some Bool.true else some (decide (v≤k))
def q0a (k:Int) (v:Int):Bool:=if k<(-1) then Bool.true else decide (v≤k)
theorem qa8 (k v:Int):q3M k v=some (q0a k v):=by
 unfold q3M q0a
 simp only[Zm]
theorem qbg:∀(k v:Int),ev 84 1 [rI k,rP 0] [(0,B.blk 3 [dI v])]=some (rB (q0a k v),[(0,B.blk 3 [dI v])]):=
 fun k v=>by
  have h:ev 84 1 [rI k,rP 0] [(0,B.blk 3 [dI v])]=(q3M k v).bind (fun(e:Bool)=>some (rB e,[(0,B.blk 3 [dI v])])):=by
   rw[qS qF4 qJD.2.2.2 qLp]
   have:=qKT;have:=@q3M.eq_1;exact gA
  rw[qa8] at h
  exact h
def Q7 (b0:Int) (s:List Int) (t7:Int):Int→Option (Int⊕(Int⊕Unit))|t8=>if t8<t7 then if 0≤t8∧t8<((s.length:Nat):Int) then Option.bind s[Int.toNat t8]? fun(a:Int)=>if q0a a b0=Bool.true then some (Sum.inr (Sum.inl t8)) else some (Sum.inl (w64 (t8+1))) else none else some (Sum.inr (Sum.inr ()))
theorem q2f:∀(b0:Int) (s:List Int) (t7 t8:Int),XL2 evo 131 1 2 ⟨[(0,rL 1 eI s),(1,R.c (C.fn 84 [] [dP 0])),(7,rI t7),(8,rI t8)],[(0,B.blk 3 [dI b0])],1,19⟩=(zy (Q7 b0 s t7) t8).bind (Sum.elim (fun(e:Int)=>some (Exit.ret,⟨[(4,rI e)],[(0,B.blk 3 [dI b0])],1,19⟩)) (fun(e:Unit)=>some (Exit.exit 0,⟨[(4,R.any)],[(0,B.blk 3 [dI b0])],1,19⟩))):=
 fun b0 s t7 t8=>by
  revert t8;exact qbe qhq qhf (fun e=>by rcases e with _|_<;>exact⟨_,rfl,fun h=>by cases h⟩) fun x=>by
   have:=ql3;have:=@qcF.eq_1;have:=@qbg;have:=@Q7.eq_1;exact gA
def Zu (s:List Int) (b0:Int):Option Int:=Option.bind (zy (Q7 b0 s ((s.length:Nat):Int)) 0) fun(a:Sum Int Unit)=>Sum.elim (fun(a2:Int)=>some a2) (fun(a3:Unit)=>some (-1)) a
theorem q2D:∀(s:List Int) (b0:Int),ev 131 1 [rL 1 eI s,R.c (C.fn 84 [] [dP 0])] [(0,B.blk 3 [dI b0])]=(Zu s b0).bind (fun(e:Int)=>some (rI e,[(0,B.blk 3 [dI b0])])):=
 fun s b0=>by
  rw[qS qls qs5.2.2.2 qrp]
  have:=ql3;have:=@q2f;have:=@Zu.eq_1;exact gA
def Qw (s:List Int) (b0:Int):Option Bool:=Option.bind (Zu s b0) fun(a:Int)=>some (decide (0≤a))
theorem q2e:∀(s:List Int) (b0:Int),ev 83 1 [rL 1 eI s,R.c (C.fn 84 [] [dP 0])] [(0,B.blk 3 [dI b0])]=(Qw s b0).bind (fun(e:Bool)=>some (rB e,[(0,B.blk 3 [dI b0])])):=
 fun s b0=>by
  rw[qS qD8 qE6.2.2.2 qGP]
  have:=qEO;have:=@q2D;have:=@Qw.eq_1;exact gA
theorem qJI:okL 85 qko:=qW (qk qEv) (by kernel_rfl) (by kernel_rfl)
def qJ7:=JA_ @qko.eq_1 (JA_ @Tryz.f85.eq_1 @qEv)
theorem qC0:lbO 85 8=qmi:=QG (qk qEv) rfl
theorem qAh:okL 85 qmi:=zZ qJI (qOq (i:=0) (by kernel_rfl))
theorem qL6:okL 88 qn5:=qW (qk qHx) (by kernel_rfl) (by kernel_rfl)
def qM1:=JA_ @qn5.eq_1 (JA_ @Tryz.f88.eq_1 @qHx)
def q1b (k:Int) (v:List Int) (v2:Int):Option Bool:=if 0≤k∧k<((v.length:Nat):Int) then Option.bind v[Int.toNat k]? fun(a:Int)=>some (a==v2) else none
theorem q9F:∀(k:Int) (v:List Int) (v2:Int),ev 88 2 [rI k,rP 0,rP 1] [(0,B.blk 22 [dL 1 eI v]),(1,B.blk 3 [dI v2])]=(q1b k v v2).bind (fun(e:Bool)=>some (rB e,[(0,B.blk 22 [dL 1 eI v]),(1,B.blk 3 [dI v2])])):=
 fun k v v2=>by
  rw[qS qHx qJ2.2.2.2 qL6]
  have:=qM1;have:=@q1b.eq_1;exact gA
def Jj (b0:List Int) (b1:Int) (n:qb) (s:qg) (b4:qK) (t13:List qa) (t14:Int):(qK×Int)→Option ((qK×Int)⊕qK)|(out,t15)=>if t15<t14 then if 0≤t15∧t15<((t13.length:Nat):Int) then Option.bind t13[Int.toNat t15]? fun(a:qa)=>Option.bind (q1b t15 b0 b1) fun(a2:Bool)=>if a2=Bool.true then if out.fine=Bool.true then Option.bind (q3S n s a) fun(a3:Bool)=>some (Sum.inl (qK.mk (w64 (out.many+1)) (w64 (out.credits+a.Credits)) a3,w64 (t15+1))) else some (Sum.inl (qK.mk (w64 (out.many+1)) (w64 (out.credits+a.Credits)) Bool.false,w64 (t15+1))) else some (Sum.inl (out,w64 (t15+1))) else none else some (Sum.inr out)
theorem q8q:∀(b0:List Int) (b1 qz n_N qM:Int) (qN:List qc) (n_L:List qb) (zm zX zY b4_many b4_credits:Int) (b4_fine:Bool) (out_many out_credits:Int) (out_fine:Bool) (t13:List qa) (t14 t15:Int),XL2 evo 87 2 3 ⟨[(3,R.c (C.fn 88 [] [dP 0,dP 1])),(4,rP 2),(5,rP 3),(8,rP 4),(9,rP 5),(13,rL 8 qe t13),(14,rI t14),(15,rI t15)],[(0,B.blk 22 [dL 1 eI b0]),(1,B.blk 3 [dI b1]),(2,B.blk 36 [dI qz,dI n_N,dI qM,dL 2 qd qN,dL 5 qh n_L]),(3,B.blk 28 [dI zm,dI zX,dI zY]),(4,B.blk 138 [dI b4_many,dI b4_credits,dB b4_fine]),(5,B.blk 138 [dI out_many,dI out_credits,dB out_fine])],6,44⟩=(zy (Jj b0 b1 (qb.mk qz n_N qM qN n_L) (qg.mk zm zX zY) (qK.mk b4_many b4_credits b4_fine) t13 t14) ((qK.mk out_many out_credits out_fine),t15)).bind (fun(e:qK)=>some (Exit.exit 0,⟨[(8,rP 2),(9,rP 3)],[(0,B.blk 22 [dL 1 eI b0]),(1,B.blk 3 [dI b1]),(2,B.blk 138 [dI b4_many,dI b4_credits,dB b4_fine]),(3,B.blk 138 [dI e.many,dI e.credits,dB e.fine])],4,44⟩)):=
 fun b0 b1 qz n_N qM qN n_L zm zX zY b4_many b4_credits b4_fine out_many out_credits out_fine t13 t14 t15=>by
  have h:=q4P (E:=evo) (f:=87) (k:=2) (st:=fun x:qK×Int=>(⟨[(3,R.c (C.fn 88 [] [dP 0,dP 1])),(4,rP 2),(5,rP 3),(8,rP 4),(9,rP 5),(13,rL 8 qe t13),(14,rI t14),(15,rI x.2)],[(0,B.blk 22 [dL 1 eI b0]),(1,B.blk 3 [dI b1]),(2,B.blk 36 [dI qz,dI n_N,dI qM,dL 2 qd qN,dL 5 qh n_L]),(3,B.blk 28 [dI zm,dI zX,dI zY]),(4,B.blk 138 [dI b4_many,dI b4_credits,dB b4_fine]),(5,B.blk 138 [dI x.1.many,dI x.1.credits,dB x.1.fine])],6,44⟩:S)) (ex:=fun(e:qK)=>(Exit.exit 0,⟨[(8,rP 2),(9,rP 3)],[(0,B.blk 22 [dL 1 eI b0]),(1,B.blk 3 [dI b1]),(2,B.blk 138 [dI b4_many,dI b4_credits,dB b4_fine]),(3,B.blk 138 [dI e.many,dI e.credits,dB e.fine])],4,44⟩)) (step:=(Jj b0 b1 (qb.mk qz n_N qM qN n_L) (qg.mk zm zX zY) (qK.mk b4_many b4_credits b4_fine) t13 t14)) qsJ qt3 (fun e h=>by cases h) (fun x=>by
   obtain⟨out,t15⟩:=x;have:=qEE;have:=@qkl.eq_1;have:=@q9F;have:=@q9u;have:=@Jj.eq_1;exact gA) ((qK.mk out_many out_credits out_fine),t15)
  exact h
def q2n (n:qb) (s:qg) (l:List qa) (b0:List Int) (b1:Int):Option qK:=Option.bind (zy (Jj b0 b1 n s (qK.mk 0 0 Bool.false) l ((l.length:Nat):Int)) (qK.mk 0 0 Bool.true,0)) fun(a:qK)=>some a
theorem qbv:∀(qz n_N qM:Int) (qN:List qc) (n_L:List qb) (zm zX zY:Int) (l:List qa) (b0:List Int) (b1:Int),ev 87 2 [R.agg [dI qz,dI n_N,dI qM,dL 2 qd qN,dL 5 qh n_L],R.agg [dI zm,dI zX,dI zY],rL 8 qe l,R.c (C.fn 88 [] [dP 0,dP 1])] [(0,B.blk 22 [dL 1 eI b0]),(1,B.blk 3 [dI b1])]=(q2n (qb.mk qz n_N qM qN n_L) (qg.mk zm zX zY) l b0 b1).bind (fun(e:qK)=>some (R.agg [dI e.many,dI e.credits,dB e.fine],[(0,B.blk 22 [dL 1 eI b0]),(1,B.blk 3 [dI b1])])):=
 fun qz n_N qM qN n_L zm zX zY l b0 b1=>by
  rw[qS qCt qHF.2.2.2 qFv]
  have:=qEE;have:=@q8q;have:=@q2n.eq_1;exact gA
def ZX (x:(qb×qg×List qa×List Int×Int)):List R×List (Nat×B):=([R.agg [C.d (D.int .i64 x.1.Kind),C.d (D.int .i64 x.1.N),C.d (D.int .i64 x.1.Min),C.d (D.sl 2 x.1.Set.length (x.1.Set.flatMap qd)),C.d (D.sl 5 x.1.L.length (x.1.L.flatMap qh))],R.c (C.ptr 0 0),R.c (C.ptr 1 0),R.c (C.ptr 2 0),R.c (C.ptr 3 0),R.c (C.ptr 4 0)],[(0,B.blk 28 [C.d (D.int .i64 x.2.1.Worst),C.d (D.int .i64 x.2.1.Best),C.d (D.int .i64 x.2.1.Pass)]),(1,B.blk 26 [C.d (D.sl 8 x.2.2.1.length (x.2.2.1.flatMap qe))]),(2,B.blk 22 [C.d (D.sl 1 x.2.2.2.1.length (x.2.2.2.1.flatMap eI))]),(3,B.blk 3 [C.d (D.int .i64 x.2.2.2.2)]),(4,B.blk 135 [C.fn 85 [] [C.ptr 0 0,C.ptr 1 0,C.ptr 2 0,C.ptr 3 0,C.ptr 4 0]])])
def Jf:(Bool×Bool×qg×List qa×List Int×Int)→R×List (Nat×B):=fun(e:Bool×Bool×qg×List qa×List Int×Int)=>(R.tup [R.c (C.d (D.bool e.1)),R.c (C.d (D.bool e.2.1))],[(0,B.blk 28 [C.d (D.int .i64 e.2.2.1.Worst),C.d (D.int .i64 e.2.2.1.Best),C.d (D.int .i64 e.2.2.1.Pass)]),(1,B.blk 26 [C.d (D.sl 8 e.2.2.2.1.length (e.2.2.2.1.flatMap qe))]),(2,B.blk 22 [C.d (D.sl 1 e.2.2.2.2.1.length (e.2.2.2.2.1.flatMap eI))]),(3,B.blk 3 [C.d (D.int .i64 e.2.2.2.2.2)]),(4,B.blk 135 [C.fn 85 [] [C.ptr 0 0,C.ptr 1 0,C.ptr 2 0,C.ptr 3 0,C.ptr 4 0]])])
def Ji (rF:(qb×qg×List qa×List Int×Int)→Option (Bool×Bool×qg×List qa×List Int×Int)) (b5:qb) (t35:List qb) (t36:Int):(qg×List qa×List Int×Int×Bool×Int×Bool×Int)→Option ((qg×List qa×List Int×Int×Bool×Int×Bool×Int)⊕(qg×List qa×List Int×Int×Bool×Int×Bool))|(b0,b1,b2,b3,t7,t10,t11,t37)=>if t37<t36 then if 0≤t37∧t37<((t35.length:Nat):Int) then Option.bind t35[Int.toNat t37]? fun(a2:qb)=>Option.bind (rF (a2,(b0,(b1,(b2,b3))))) fun(a3:Prod Bool (Prod Bool (Prod qg (Prod (List qa) (Prod (List Int) Int)))))=>if t7=Bool.true then if t11=Bool.true then if a3.2.1=Bool.true then some (Sum.inl (a3.2.2.1,a3.2.2.2.1,a3.2.2.2.2.1,a3.2.2.2.2.2,a3.1,w64 (t10+1),Bool.true,w64 (t37+1))) else some (Sum.inl (a3.2.2.1,a3.2.2.2.1,a3.2.2.2.2.1,a3.2.2.2.2.2,a3.1,t10,Bool.true,w64 (t37+1))) else if(!a3.2.1)=Bool.true then if(!a3.1)=Bool.true then if a3.2.1=Bool.true then some (Sum.inl (a3.2.2.1,a3.2.2.2.1,a3.2.2.2.2.1,a3.2.2.2.2.2,a3.1,w64 (t10+1),Bool.true,w64 (t37+1))) else some (Sum.inl (a3.2.2.1,a3.2.2.2.1,a3.2.2.2.2.1,a3.2.2.2.2.2,a3.1,t10,Bool.true,w64 (t37+1))) else if a3.2.1=Bool.true then some (Sum.inl (a3.2.2.1,a3.2.2.2.1,a3.2.2.2.2.1,a3.2.2.2.2.2,a3.1,w64 (t10+1),b5.Kind==3,w64 (t37+1))) else some (Sum.inl (a3.2.2.1,a3.2.2.2.1,a3.2.2.2.2.1,a3.2.2.2.2.2,a3.1,t10,b5.Kind==3,w64 (t37+1))) else if a3.2.1=Bool.true then some (Sum.inl (a3.2.2.1,a3.2.2.2.1,a3.2.2.2.2.1,a3.2.2.2.2.2,a3.1,w64 (t10+1),Bool.false,w64 (t37+1))) else some (Sum.inl (a3.2.2.1,a3.2.2.2.1,a3.2.2.2.2.1,a3.2.2.2.2.2,a3.1,t10,Bool.false,w64 (t37+1))) else if t11=Bool.true then if a3.2.1=Bool.true then some (Sum.inl (a3.2.2.1,a3.2.2.2.1,a3.2.2.2.2.1,a3.2.2.2.2.2,Bool.false,w64 (t10+1),Bool.true,w64 (t37+1))) else some (Sum.inl (a3.2.2.1,a3.2.2.2.1,a3.2.2.2.2.1,a3.2.2.2.2.2,Bool.false,t10,Bool.true,w64 (t37+1))) else if(!a3.2.1)=Bool.true then if(!a3.1)=Bool.true then if a3.2.1=Bool.true then some (Sum.inl (a3.2.2.1,a3.2.2.2.1,a3.2.2.2.2.1,a3.2.2.2.2.2,Bool.false,w64 (t10+1),Bool.true,w64 (t37+1))) else some (Sum.inl (a3.2.2.1,a3.2.2.2.1,a3.2.2.2.2.1,a3.2.2.2.2.2,Bool.false,t10,Bool.true,w64 (t37+1))) else if a3.2.1=Bool.true then some (Sum.inl (a3.2.2.1,a3.2.2.2.1,a3.2.2.2.2.1,a3.2.2.2.2.2,Bool.false,w64 (t10+1),b5.Kind==3,w64 (t37+1))) else some (Sum.inl (a3.2.2.1,a3.2.2.2.1,a3.2.2.2.2.1,a3.2.2.2.2.2,Bool.false,t10,b5.Kind==3,w64 (t37+1))) else if a3.2.1=Bool.true then some (Sum.inl (a3.2.2.1,a3.2.2.2.1,a3.2.2.2.2.1,a3.2.2.2.2.2,Bool.false,w64 (t10+1),Bool.false,w64 (t37+1))) else some (Sum.inl (a3.2.2.1,a3.2.2.2.1,a3.2.2.2.2.1,a3.2.2.2.2.2,Bool.false,t10,Bool.false,w64 (t37+1))) else none else some (Sum.inr (b0,b1,b2,b3,t7,t10,t11))
theorem q8e (rE:Orc) (rF:(qb×qg×List qa×List Int×Int)→Option (Bool×Bool×qg×List qa×List Int×Int)) (hF:∀y,rE (.fn 85) 5 (ZX y).1 (ZX y).2=(rF y).bind fun e=>some (Jf e)) (hM:∀g k a G,g≠85→rE (.fn g) k a G=ev g k a G) (hR:∀g asg bd k a G,rE (.rd g asg bd) k a G=evr g asg bd k a G):∀(qc0 qfB qfC:Int) (b1:List qa) (b2:List Int) (b3 q8N qy6 qdj:Int) (qdk:List qc) (qy7:List qb) (t7:Bool) (t10:Int) (t11:Bool) (t35:List qb) (t36 t37:Int),XL2 rE 85 5 8 ⟨[(5,rP 4),(6,rP 5),(7,rB t7),(10,rI t10),(11,rB t11),(35,rL 5 qh t35),(36,rI t36),(37,rI t37)],[(0,B.blk 28 [dI qc0,dI qfB,dI qfC]),(1,B.blk 26 [dL 8 qe b1]),(2,B.blk 22 [dL 1 eI b2]),(3,B.blk 3 [dI b3]),(4,B.blk 135 [C.fn 85 [] [dP 0,dP 1,dP 2,dP 3,dP 4]]),(5,B.blk 36 [dI q8N,dI qy6,dI qdj,dL 2 qd qdk,dL 5 qh qy7])],6,78⟩=(zy (Ji rF (qb.mk q8N qy6 qdj qdk qy7) t35 t36) ((qg.mk qc0 qfB qfC),b1,b2,b3,t7,t10,t11,t37)).bind (fun(e:qg×List qa×List Int×Int×Bool×Int×Bool)=>some (Exit.exit 0,⟨[(6,rP 5),(7,rB e.2.2.2.2.1),(10,rI e.2.2.2.2.2.1),(11,rB e.2.2.2.2.2.2)],[(0,B.blk 28 [dI e.1.Worst,dI e.1.Best,dI e.1.Pass]),(1,B.blk 26 [dL 8 qe e.2.1]),(2,B.blk 22 [dL 1 eI e.2.2.1]),(3,B.blk 3 [dI e.2.2.2.1]),(4,B.blk 135 [C.fn 85 [] [dP 0,dP 1,dP 2,dP 3,dP 4]]),(5,B.blk 36 [dI q8N,dI qy6,dI qdj,dL 2 qd qdk,dL 5 qh qy7])],6,78⟩)):=
 fun qc0 qfB qfC b1 b2 b3 q8N qy6 qdj qdk qy7 t7 t10 t11 t35 t36 t37=>by
  have h:=q4P (E:=rE) (f:=85) (k:=5) (st:=fun x:qg×List qa×List Int×Int×Bool×Int×Bool×Int=>(⟨[(5,rP 4),(6,rP 5),(7,rB x.2.2.2.2.1),(10,rI x.2.2.2.2.2.1),(11,rB x.2.2.2.2.2.2.1),(35,rL 5 qh t35),(36,rI t36),(37,rI x.2.2.2.2.2.2.2)],[(0,B.blk 28 [dI x.1.Worst,dI x.1.Best,dI x.1.Pass]),(1,B.blk 26 [dL 8 qe x.2.1]),(2,B.blk 22 [dL 1 eI x.2.2.1]),(3,B.blk 3 [dI x.2.2.2.1]),(4,B.blk 135 [C.fn 85 [] [dP 0,dP 1,dP 2,dP 3,dP 4]]),(5,B.blk 36 [dI q8N,dI qy6,dI qdj,dL 2 qd qdk,dL 5 qh qy7])],6,78⟩:S)) (ex:=fun(e:qg×List qa×List Int×Int×Bool×Int×Bool)=>(Exit.exit 0,⟨[(6,rP 5),(7,rB e.2.2.2.2.1),(10,rI e.2.2.2.2.2.1),(11,rB e.2.2.2.2.2.2)],[(0,B.blk 28 [dI e.1.Worst,dI e.1.Best,dI e.1.Pass]),(1,B.blk 26 [dL 8 qe e.2.1]),(2,B.blk 22 [dL 1 eI e.2.2.1]),(3,B.blk 3 [dI e.2.2.2.1]),(4,B.blk 135 [C.fn 85 [] [dP 0,dP 1,dP 2,dP 3,dP 4]]),(5,B.blk 36 [dI q8N,dI qy6,dI qdj,dL 2 qd qdk,dL 5 qh qy7])],6,78⟩)) (step:=(Ji rF (qb.mk q8N qy6 qdj qdk qy7) t35 t36)) qC0 qAh (fun e h=>by cases h) (fun x=>by
   obtain⟨b0,b1,b2,b3,t7,t10,t11,t37⟩:=x;have hF':∀(qE J8 qY:Int) (qZ:List qc) (J9:List qb) (q2w q4G q4H:Int) (v2:List qa) (v3:List Int) (v4:Int),rE (.fn 85) 5 [R.agg [dI qE,dI J8,dI qY,dL 2 qd qZ,dL 5 qh J9],rP 0,rP 1,rP 2,rP 3,rP 4] [(0,B.blk 28 [dI q2w,dI q4G,dI q4H]),(1,B.blk 26 [dL 8 qe v2]),(2,B.blk 22 [dL 1 eI v3]),(3,B.blk 3 [dI v4]),(4,B.blk 135 [C.fn 85 [] [dP 0,dP 1,dP 2,dP 3,dP 4]])]=(rF ((qb.mk qE J8 qY qZ J9),(qg.mk q2w q4G q4H),v2,v3,v4)).bind (fun e=>some (R.tup [rB e.1,rB e.2.1],[(0,B.blk 28 [dI e.2.2.1.Worst,dI e.2.2.1.Best,dI e.2.2.1.Pass]),(1,B.blk 26 [dL 8 qe e.2.2.2.1]),(2,B.blk 22 [dL 1 eI e.2.2.2.2.1]),(3,B.blk 3 [dI e.2.2.2.2.2]),(4,B.blk 135 [C.fn 85 [] [dP 0,dP 1,dP 2,dP 3,dP 4]])])):=fun qE J8 qY qZ J9 q2w q4G q4H v2 v3 v4=>hF ((qb.mk qE J8 qY qZ J9),(qg.mk q2w q4G q4H),v2,v3,v4)
   have:=qJ7;have:=@qmi.eq_1;have:=@Ji.eq_1;exact gA) ((qg.mk qc0 qfB qfC),b1,b2,b3,t7,t10,t11,t37)
  exact h
def q0N (rF:(qb×qg×List qa×List Int×Int)→Option (Bool×Bool×qg×List qa×List Int×Int)):(qb×qg×List qa×List Int×Int)→Option (Bool×Bool×qg×List qa×List Int×Int)|(x0,v,v2,v3,v4)=>if JS x0=Bool.true then Option.bind (q2n x0 v v2 v3 v4) fun(a2:qK)=>Option.bind (q0Z x0.Kind) fun(a3:Sum Unit Unit)=>Sum.elim (fun(a4:Unit)=>some (a2.many==0,Q0 a2 x0,v,v2,v3,w64 (v4+1))) (fun(a5:Unit)=>some (a2.many==0,Qv a2 x0,v,v2,v3,w64 (v4+1))) a3 else Option.bind (zy (Ji rF x0 x0.L ((x0.L.length:Nat):Int)) (v,(v2,(v3,(v4,(Bool.true,(0,(Bool.false,0)))))))) fun(a6:Prod qg (Prod (List qa) (Prod (List Int) (Prod Int (Prod Bool (Prod Int Bool))))))=>if(!a6.2.2.2.2.2.2)=Bool.true then some (a6.2.2.2.2.1,decide (x0.N≤a6.2.2.2.2.2.1),a6.1,a6.2.1,a6.2.2.1,a6.2.2.2.1) else some (a6.2.2.2.2.1,Bool.false,a6.1,a6.2.1,a6.2.2.1,a6.2.2.2.1)
theorem q64:q84 85 5 ZX Jf q0N:=by
 intro rE rF hF hM hR x
 obtain⟨x0,v,v2,v3,v4⟩:=x
 show qaJ rE 85 5 [R.agg [dI x0.Kind,dI x0.N,dI x0.Min,dL 2 qd x0.Set,dL 5 qh x0.L],rP 0,rP 1,rP 2,rP 3,rP 4] [(0,B.blk 28 [dI v.Worst,dI v.Best,dI v.Pass]),(1,B.blk 26 [dL 8 qe v2]),(2,B.blk 22 [dL 1 eI v3]),(3,B.blk 3 [dI v4]),(4,B.blk 135 [C.fn 85 [] [dP 0,dP 1,dP 2,dP 3,dP 4]])]=_
 have hF':∀(qE J8 qY:Int) (qZ:List qc) (J9:List qb) (q2w q4G q4H:Int) (v2:List qa) (v3:List Int) (v4:Int),rE (.fn 85) 5 [R.agg [dI qE,dI J8,dI qY,dL 2 qd qZ,dL 5 qh J9],rP 0,rP 1,rP 2,rP 3,rP 4] [(0,B.blk 28 [dI q2w,dI q4G,dI q4H]),(1,B.blk 26 [dL 8 qe v2]),(2,B.blk 22 [dL 1 eI v3]),(3,B.blk 3 [dI v4]),(4,B.blk 135 [C.fn 85 [] [dP 0,dP 1,dP 2,dP 3,dP 4]])]=(rF ((qb.mk qE J8 qY qZ J9),(qg.mk q2w q4G q4H),v2,v3,v4)).bind (fun e=>some (R.tup [rB e.1,rB e.2.1],[(0,B.blk 28 [dI e.2.2.1.Worst,dI e.2.2.1.Best,dI e.2.2.1.Pass]),(1,B.blk 26 [dL 8 qe e.2.2.2.1]),(2,B.blk 22 [dL 1 eI e.2.2.2.2.1]),(3,B.blk 3 [dI e.2.2.2.2.2]),(4,B.blk 135 [C.fn 85 [] [dP 0,dP 1,dP 2,dP 3,dP 4]])])):=fun qE J8 qY qZ J9 q2w q4G q4H v2 v3 v4=>hF ((qb.mk qE J8 qY qZ J9),(qg.mk q2w q4G q4H),v2,v3,v4)
 rw[q4u qEv qJI]
 have:=qJ7;have:=@q3J;have:=@qbv;have:=@q4J;have:=@q1y;have:=@q2Q;have:=q8e rE rF hF hM hR;have:=@q0N.eq_1;have:=@Jf.eq_1;exact gA
theorem q3z:∀x y,ZX x=ZX y→x=y:=by
 rintro⟨⟨qDJ,qDK,qDL,qDM,qDN⟩,⟨qK6,qK7,qNQ⟩,a2,a3,a4⟩ ⟨⟨qDO,qDP,qDQ,qDR,qDS⟩,⟨qK8,qK9,qNR⟩,b2,b3,b4⟩ h
 simp only[ZX,Prod.mk.injEq,List.cons.injEq,R.c.injEq,R.agg.injEq,R.tup.injEq,C.d.injEq,C.own.injEq,C.ptr.injEq,C.eptr.injEq,D.int.injEq,D.bool.injEq,D.str.injEq,D.sl.injEq,B.blk.injEq,B.row.injEq,q0J,q2C,q1z,q1A,q20,q1Z,q4g,q42,q3Z,q0M,true_and,and_true,qOJ] at h
 simp only[h]
theorem q8D:∀x y,Jf x=Jf y→x=y:=by
 rintro⟨a0,a1,⟨qO4,qO5,a2_2⟩,a3,a4,a5⟩ ⟨b0,b1,⟨qO6,qO7,b2_2⟩,b3,b4,b5⟩ h
 simp only[Jf,Prod.mk.injEq,List.cons.injEq,R.c.injEq,R.agg.injEq,R.tup.injEq,C.d.injEq,C.own.injEq,C.ptr.injEq,C.eptr.injEq,D.int.injEq,D.bool.injEq,D.str.injEq,D.sl.injEq,B.blk.injEq,B.row.injEq,q0J,q2C,q1z,q1A,q20,q1Z,q4g,q42,q3Z,q0M,true_and,and_true,qOJ] at h
 simp only[h]
def JP:(qb×qg×List qa×List Int×Int)→Option (Bool×Bool×qg×List qa×List Int×Int):=q8k 85 5 ZX Jf
theorem qbu (x:(qb×qg×List qa×List Int×Int)):JP x=q0N JP x:=qcI qHb.2.2.2 q3z q8D q64 x
theorem qap (x0:qb) (v:qg) (v2:List qa) (v3:List Int) (v4:Int):ev 85 5 [R.agg [dI x0.Kind,dI x0.N,dI x0.Min,dL 2 qd x0.Set,dL 5 qh x0.L],rP 0,rP 1,rP 2,rP 3,rP 4] [(0,B.blk 28 [dI v.Worst,dI v.Best,dI v.Pass]),(1,B.blk 26 [dL 8 qe v2]),(2,B.blk 22 [dL 1 eI v3]),(3,B.blk 3 [dI v4]),(4,B.blk 135 [C.fn 85 [] [dP 0,dP 1,dP 2,dP 3,dP 4]])]=(JP (x0,v,v2,v3,v4)).bind (fun(e:Bool×Bool×qg×List qa×List Int×Int)=>some (R.tup [rB e.1,rB e.2.1],[(0,B.blk 28 [dI e.2.2.1.Worst,dI e.2.2.1.Best,dI e.2.2.1.Pass]),(1,B.blk 26 [dL 8 qe e.2.2.2.1]),(2,B.blk 22 [dL 1 eI e.2.2.2.2.1]),(3,B.blk 3 [dI e.2.2.2.2.2]),(4,B.blk 135 [C.fn 85 [] [dP 0,dP 1,dP 2,dP 3,dP 4]])])):=(q99 qHb.2.2.2 q3z q64 (x0,v,v2,v3,v4))
theorem qba:∀(qE J8 qY:Int) (qZ:List qc) (J9:List qb) (q2w q4G q4H:Int) (v2:List qa) (v3:List Int) (v4:Int),ev 85 5 [R.agg [dI qE,dI J8,dI qY,dL 2 qd qZ,dL 5 qh J9],rP 0,rP 1,rP 2,rP 3,rP 4] [(0,B.blk 28 [dI q2w,dI q4G,dI q4H]),(1,B.blk 26 [dL 8 qe v2]),(2,B.blk 22 [dL 1 eI v3]),(3,B.blk 3 [dI v4]),(4,B.blk 135 [C.fn 85 [] [dP 0,dP 1,dP 2,dP 3,dP 4]])]=(JP ((qb.mk qE J8 qY qZ J9),(qg.mk q2w q4G q4H),v2,v3,v4)).bind (fun(e:Bool×Bool×qg×List qa×List Int×Int)=>some (R.tup [rB e.1,rB e.2.1],[(0,B.blk 28 [dI e.2.2.1.Worst,dI e.2.2.1.Best,dI e.2.2.1.Pass]),(1,B.blk 26 [dL 8 qe e.2.2.2.1]),(2,B.blk 22 [dL 1 eI e.2.2.2.2.1]),(3,B.blk 3 [dI e.2.2.2.2.2]),(4,B.blk 135 [C.fn 85 [] [dP 0,dP 1,dP 2,dP 3,dP 4]])])):=
 fun qE J8 qY qZ J9 q2w q4G q4H v2 v3 v4=>qap (qb.mk qE J8 qY qZ J9) (qg.mk q2w q4G q4H) v2 v3 v4
def q2I (n:qb) (s:qg) (l:List qa) (list:List Int):Option Bool:=Option.bind (q1n n) fun(a:List qb)=>Option.bind (Jz n) fun(a2:Int)=>if(a2 != 0)=Bool.true then some Bool.false else if(((list.length:Nat):Int) != ((l.length:Nat):Int))=Bool.true then some Bool.false else Option.bind (Qw list ((a.length:Nat):Int)) fun(a3:Bool)=>if a3=Bool.true then some Bool.false else Option.bind (JP (n,(s,(l,(list,0))))) fun(a4:Prod Bool (Prod Bool (Prod qg (Prod (List qa) (Prod (List Int) Int)))))=>some a4.2.1
theorem qdv:∀(qz n_N qM:Int) (qN:List qc) (n_L:List qb) (zm zX zY:Int) (l:List qa) (list:List Int),ev 48 0 [R.agg [dI qz,dI n_N,dI qM,dL 2 qd qN,dL 5 qh n_L],R.agg [dI zm,dI zX,dI zY],rL 8 qe l,rL 1 eI list] []=(q2I (qb.mk qz n_N qM qN n_L) (qg.mk zm zX zY) l list).bind (fun(e:Bool)=>some (rB e,[])):=
 fun qz n_N qM qN n_L zm zX zY l list=>by
  rw[qS qEI qIu.2.2.2 qKy]
  have:=qMP;have:=@q60;have:=@q43;have:=@q2e;have:=@qba;have:=@q2I.eq_1;exact gA
def qL (x0:qf) (x1:qg) (x2:List qa) (x3:Int) (x4:qI):Option Int:=Option.bind (Qe x0 x1) fun(a:Int)=>if(a != 0)=Bool.true then some a else if 10<((x4.Taken.length:Nat):Int) then some 32 else if(((x4.Leaf.length:Nat):Int) != ((x4.Taken.length:Nat):Int))=Bool.true then some 32 else Option.bind (zy (zO x0 x1 x4 x2 x3 x4.Taken ((x4.Taken.length:Nat):Int)) ([],0)) fun(a2:Sum (List qa) (List qa))=>Sum.elim (fun(a3:List qa)=>some 32) (fun(a4:List qa)=>Option.bind (JC x0 a4 x3) fun(a5:Bool)=>if(!a5)=Bool.true then some 32 else Option.bind (q2I x0.Need x1 a4 x4.Leaf) fun(a6:Bool)=>if(!a6)=Bool.true then some 32 else some 0) a2
theorem q5l:∀(zL q0I zu QK:Int) (QL:ByteArray) (qU zM za:Int) (zb:List qc) (zN:List qb) (Qd ZS ZT:Int) (zw:List (q01 qc)) (ZQ JL JM:Int) (x2:List qa) (x3:Int) (qfD qiX:List Int),ev 21 0 [R.agg [dI zL,dI q0I,dI zu,dI QK,dS QL,dI qU,dI zM,dI za,dL 2 qd zb,dL 5 qh zN,dI Qd,dI ZS,dI ZT,dL 4 (eA2 qd) zw],R.agg [dI ZQ,dI JL,dI JM],rL 8 qe x2,rI x3,R.agg [dL 1 eI qfD,dL 1 eI qiX]] []=(qL (qf.mk zL q0I zu QK QL (qb.mk qU zM za zb zN) Qd ZS ZT zw) (qg.mk ZQ JL JM) x2 x3 (qI.mk qfD qiX)).bind (fun(e:Int)=>some (rI e,[])):=
 fun zL q0I zu QK QL qU zM za zb zN Qd ZS ZT zw ZQ JL JM x2 x3 qfD qiX=>by
  rw[qS qE0 qIk.2.2.2 qIA]
  have:=qIT;have:=@q5s;have:=@q5G;have:=@q3C;have:=@qdv;have:=@qL.eq_1;exact gA
theorem q7M:∀(q7t q7u qa0 qa1 zL q0I zu QK:Int) (QL:ByteArray) (qU zM za:Int) (zb:List qc) (zN:List qb) (Qd ZS ZT:Int) (zw:List (q01 qc)) (ZQ JL JM:Int) (x2:List qa) (x3:Int),ev 21 0 [R.agg [dI zL,dI q0I,dI zu,dI QK,dS QL,dI qU,dI zM,dI za,dL 2 qd zb,dL 5 qh zN,dI Qd,dI ZS,dI ZT,dL 4 (eA2 qd) zw],R.agg [dI ZQ,dI JL,dI JM],rL 8 qe x2,rI x3,R.agg [C.d (D.sl 1 2 [D.int .i64 q7t,D.int .i64 q7u]),C.d (D.sl 1 2 [D.int .i64 qa0,D.int .i64 qa1])]] []=(qL (qf.mk zL q0I zu QK QL (qb.mk qU zM za zb zN) Qd ZS ZT zw) (qg.mk ZQ JL JM) x2 x3 (qI.mk [q7t,q7u] [qa0,qa1])).bind (fun(e:Int)=>some (rI e,[])):=by
 intro q7t q7u qa0 qa1 zL q0I zu QK QL qU zM za zb zN Qd ZS ZT zw ZQ JL JM x2 x3;have h:=q5l ((qf.mk zL q0I zu QK QL (qb.mk qU zM za zb zN) Qd ZS ZT zw)).School ((qf.mk zL q0I zu QK QL (qb.mk qU zM za zb zN) Qd ZS ZT zw)).Id ((qf.mk zL q0I zu QK QL (qb.mk qU zM za zb zN) Qd ZS ZT zw)).Version ((qf.mk zL q0I zu QK QL (qb.mk qU zM za zb zN) Qd ZS ZT zw)).From ((qf.mk zL q0I zu QK QL (qb.mk qU zM za zb zN) Qd ZS ZT zw)).Name ((qf.mk zL q0I zu QK QL (qb.mk qU zM za zb zN) Qd ZS ZT zw)).Need.Kind ((qf.mk zL q0I zu QK QL (qb.mk qU zM za zb zN) Qd ZS ZT zw)).Need.N ((qf.mk zL q0I zu QK QL (qb.mk qU zM za zb zN) Qd ZS ZT zw)).Need.Min ((qf.mk zL q0I zu QK QL (qb.mk qU zM za zb zN) Qd ZS ZT zw)).Need.Set ((qf.mk zL q0I zu QK QL (qb.mk qU zM za zb zN) Qd ZS ZT zw)).Need.L ((qf.mk zL q0I zu QK QL (qb.mk qU zM za zb zN) Qd ZS ZT zw)).Total ((qf.mk zL q0I zu QK QL (qb.mk qU zM za zb zN) Qd ZS ZT zw)).Own ((qf.mk zL q0I zu QK QL (qb.mk qU zM za zb zN) Qd ZS ZT zw)).Age ((qf.mk zL q0I zu QK QL (qb.mk qU zM za zb zN) Qd ZS ZT zw)).Exclude ((qg.mk ZQ JL JM)).Worst ((qg.mk ZQ JL JM)).Best ((qg.mk ZQ JL JM)).Pass x2 x3 ((qI.mk [q7t,q7u] [qa0,qa1])).Taken ((qI.mk [q7t,q7u] [qa0,qa1])).Leaf
 first
  | exact h
  | (simp only[rL,dL,bR,bZ,Nat.reduceAdd] at h;exact h)
theorem qMx:okL 23 qmK:=qW (qk qGZ) (by kernel_rfl) (by kernel_rfl)
def qMA:=JA_ @qmK.eq_1 (JA_ @Tryz.f23.eq_1 @qGZ)
theorem qLc:okL 50 qn6:=qW (qk qGM) (by kernel_rfl) (by kernel_rfl)
def qNE:=JA_ @qn6.eq_1 (JA_ @Tryz.f50.eq_1 @qGM)
def JR (a:List Int) (b:List Int):Option Bool:=Option.bind (Zd a b) fun(e0:Bool)=>some e0
theorem q6M:∀(a b:List Int),ev 50 0 [rL 1 eI a,rL 1 eI b] []=(JR a b).bind (fun(e:Bool)=>some (rB e,[])):=
 fun a b=>by
  rw[qS qGM qJQ.2.2.2 qLc]
  have:=qNE;have:=@q1F;have:=@JR.eq_1;exact gA
def q1v (a:qI) (b:qI):Option Bool:=Option.bind (JR a.Taken b.Taken) fun(a2:Bool)=>if a2=Bool.true then Option.bind (JR a.Leaf b.Leaf) fun(e0:Bool)=>some e0 else some Bool.false
theorem qbr:∀(q1l q3s q1m q3t:List Int),ev 23 0 [R.agg [dL 1 eI q1l,dL 1 eI q3s],R.agg [dL 1 eI q1m,dL 1 eI q3t]] []=(q1v (qI.mk q1l q3s) (qI.mk q1m q3t)).bind (fun(e:Bool)=>some (rB e,[])):=
 fun q1l q3s q1m q3t=>by
  rw[qS qGZ qIY.2.2.2 qMx]
  have:=qMA;have:=@q6M;have:=@q1v.eq_1;exact gA
theorem q8z:∀(qa2 qdl qa3 qdm:Int) , ev 23 0 [R.agg [C.d (D.sl 1 1 [D.int .i64 qa2]),C.d (D.sl 1 1 [D.int .i64 qdl])],R.agg [C.d (D.sl 1 1 [D.int .i64 qa3]),C.d (D.sl 1 1 [D.int .i64 qdm])]] []=(q1v (qI.mk [qa2] [qdl]) (qI.mk [qa3] [qdm])).bind (fun(e:Bool)=>some (rB e,[])):=by
 intro qa2 qdl qa3 qdm;have h:=qbr ((qI.mk [qa2] [qdl])).Taken ((qI.mk [qa2] [qdl])).Leaf ((qI.mk [qa3] [qdm])).Taken ((qI.mk [qa3] [qdm])).Leaf
 first
  | exact h
  | (simp only[rL,dL,bR,bZ,Nat.reduceAdd] at h;exact h)
def q1H:Option Bool:=Option.bind (Zz 11) fun(a:Prod qf (List qa))=>Option.bind (Zz 10) fun(a2:Prod qf (List qa))=>Option.bind (Zz 5) fun(a3:Prod qf (List qa))=>Option.bind (Zz 0) fun(a4:Prod qf (List qa))=>Option.bind (Zz 12) fun(a5:Prod qf (List qa))=>Option.bind (zc a.1 a.2 [(1:Int),2] [(-1),0]) fun(a6:Bool)=>if a6=Bool.true then Option.bind (zc a2.1 a.2 [(0:Int),1] [(-1),0]) fun(a7:Bool)=>if a7=Bool.true then Option.bind (zc a3.1 a.2 [(1:Int)] [(0:Int)]) fun(a8:Bool)=>if a8=Bool.true then Option.bind (zc a4.1 a.2 [(1:Int)] [(0:Int)]) fun(a9:Bool)=>if a9=Bool.true then Option.bind (zc a5.1 a.2 [] []) fun(a10:Bool)=>if a10=Bool.true then Option.bind (zc (qf.mk a.1.School a.1.Id a.1.Version a.1.From a.1.Name a.1.Need a.1.Total a.1.Own 3 a.1.Exclude) a.2 [] []) fun(a11:Bool)=>if a11=Bool.true then Option.bind (zc (qf.mk a.1.School a.1.Id a.1.Version a.1.From a.1.Name a.1.Need 6 a.1.Own a.1.Age [q01.mk (qc.mk 1 (ByteArray.mk (List.toArray [65,49]))) (qc.mk 1 (ByteArray.mk (List.toArray [66,49])))]) a.2 [(2:Int)] [(0:Int)]) fun(a12:Bool)=>Option.bind (qL a.1 (qT 1) a.2 500 (qI.mk [(1:Int),2] [(0:Int),(-1)])) fun(a13:Int)=>if(a13==0)=Bool.true then Option.bind (qL a.1 (qT 1) a.2 500 (qI.mk [(1:Int),2] [(0:Int),0])) fun(a14:Int)=>if(a14==32)=Bool.true then Option.bind (qL a.1 (qT 1) a.2 500 (qI.mk [(0:Int),2] [(-1),0])) fun(a15:Int)=>if a12=Bool.true then if(a15==32)=Bool.true then if 0<((a.2.length:Nat):Int) then Option.bind a.2[0]? fun(a16:qa)=>Option.bind (Za (qf.mk a.1.School a.1.Id a.1.Version a.1.From a.1.Name a.1.Need a.1.Total a.1.Own 3 a.1.Exclude) a16 500) fun(a17:Bool)=>if a17=Bool.true then if 0<((a.2.length:Nat):Int) then Option.bind a.2[0]? fun(a18:qa)=>Option.bind (Za a.1 a18 500) fun(a19:Bool)=>if(!a19)=Bool.true then Option.bind (q1v (qI.mk [(1:Int)] [(0:Int)]) (qI.mk [(1:Int)] [(0:Int)])) fun(e0:Bool)=>some e0 else some Bool.false else none else some Bool.false else none else some Bool.false else some Bool.false else some Bool.false else some Bool.false else Option.bind (qL a.1 (qT 1) a.2 500 (qI.mk [(1:Int),2] [(0:Int),(-1)])) fun(a20:Int)=>if(a20==0)=Bool.true then Option.bind (qL a.1 (qT 1) a.2 500 (qI.mk [(1:Int),2] [(0:Int),0])) fun(a21:Int)=>if(a21==32)=Bool.true then Option.bind (qL a.1 (qT 1) a.2 500 (qI.mk [(0:Int),2] [(-1),0])) fun(a22:Int)=>some Bool.false else some Bool.false else some Bool.false else Option.bind (qL a.1 (qT 1) a.2 500 (qI.mk [(1:Int),2] [(0:Int),(-1)])) fun(a23:Int)=>if(a23==0)=Bool.true then Option.bind (qL a.1 (qT 1) a.2 500 (qI.mk [(1:Int),2] [(0:Int),0])) fun(a24:Int)=>if(a24==32)=Bool.true then Option.bind (qL a.1 (qT 1) a.2 500 (qI.mk [(0:Int),2] [(-1),0])) fun(a25:Int)=>some Bool.false else some Bool.false else some Bool.false else Option.bind (qL a.1 (qT 1) a.2 500 (qI.mk [(1:Int),2] [(0:Int),(-1)])) fun(a26:Int)=>if(a26==0)=Bool.true then Option.bind (qL a.1 (qT 1) a.2 500 (qI.mk [(1:Int),2] [(0:Int),0])) fun(a27:Int)=>if(a27==32)=Bool.true then Option.bind (qL a.1 (qT 1) a.2 500 (qI.mk [(0:Int),2] [(-1),0])) fun(a28:Int)=>some Bool.false else some Bool.false else some Bool.false else Option.bind (qL a.1 (qT 1) a.2 500 (qI.mk [(1:Int),2] [(0:Int),(-1)])) fun(a29:Int)=>if(a29==0)=Bool.true then Option.bind (qL a.1 (qT 1) a.2 500 (qI.mk [(1:Int),2] [(0:Int),0])) fun(a30:Int)=>if(a30==32)=Bool.true then Option.bind (qL a.1 (qT 1) a.2 500 (qI.mk [(0:Int),2] [(-1),0])) fun(a31:Int)=>some Bool.false else some Bool.false else some Bool.false else Option.bind (qL a.1 (qT 1) a.2 500 (qI.mk [(1:Int),2] [(0:Int),(-1)])) fun(a32:Int)=>if(a32==0)=Bool.true then Option.bind (qL a.1 (qT 1) a.2 500 (qI.mk [(1:Int),2] [(0:Int),0])) fun(a33:Int)=>if(a33==32)=Bool.true then Option.bind (qL a.1 (qT 1) a.2 500 (qI.mk [(0:Int),2] [(-1),0])) fun(a34:Int)=>some Bool.false else some Bool.false else some Bool.false else Option.bind (qL a.1 (qT 1) a.2 500 (qI.mk [(1:Int),2] [(0:Int),(-1)])) fun(a35:Int)=>if(a35==0)=Bool.true then Option.bind (qL a.1 (qT 1) a.2 500 (qI.mk [(1:Int),2] [(0:Int),0])) fun(a36:Int)=>if(a36==32)=Bool.true then Option.bind (qL a.1 (qT 1) a.2 500 (qI.mk [(0:Int),2] [(-1),0])) fun(a37:Int)=>some Bool.false else some Bool.false else some Bool.false
theorem qaN:ev 10 0 [] []=(q1H).bind (fun(e:Bool)=>some (rB e,[])):=
 by
  rw[qS qEX qII.2.2.2 qN4]
  have:=qKw;have:=@q9I;have:=@q2H;have:=@q6X;have:=@q76;have:=@q5R;have:=@q7e;have:=@q7M;have:=@q7c;have:=@q47;have:=@q8z;have:=@q1H.eq_1;exact gA
end

noncomputable section
open Go.RowKit
section
variable {τ ε:Type} {step:τ→Option (τ⊕ε)}
theorem zW {x y:τ} (h:step x=some (.inl y)):zy step x=zy step y:=by
 rw[qom,h];rfl
theorem zt {x:τ} {e:ε} (h:step x=some (.inr e)):zy step x=some e:=by
 rw[qom,h];rfl
theorem q2o {e:ε} (st:Nat→τ) (i0 n:Nat) (h0:i0≤n) (h:∀i,i0≤i→i<n→step (st i)=some (.inl (st (i+1)))) (hn:step (st n)=some (.inr e)):zy step (st i0)=some e:=by
 have key:∀j i,j+i=n→i0≤i→zy step (st i)=some e:=by
  intro j
  induction j with
  | zero=>intro i hi _;rw[qON] at hi;subst hi;exact zt hn
  | succ j ih=>intro i hi h1;rw[zW (h i h1 (by omega))];exact ih (i+1) (by omega) (by omega)
 exact key (n-i0) i0 (by omega) (qOF _)
def qeJ {α β ε:Type} (g:β→α→β⊕ε) (fin:β→ε):List α→β→ε
 | [],b=>fin b
 | a::l,b=>match g b a with
  | .inl b'=>qeJ g fin l b'
  | .inr e=>e
theorem qe5 {α β:Type} (l:List α) (st:β→Nat→τ) (g:β→α→β⊕ε) (fin:β→ε)
  (h:∀b i a,l[i]?=some a→step (st b i)=some (match g b a with | .inl b' => .inl (st b' (i+1)) | .inr e => .inr e)) (hn:∀b,step (st b l.length)=some (.inr (fin b))) (b:β):zy step (st b 0)=some (qeJ g fin l b):=by
 have key:∀(r:List α) (i:Nat) (b:β),r.length+i=l.length→(∀j,r[j]?=l[i+j]?)→zy step (st b i)=some (qeJ g fin r b):=by
  intro r
  induction r with
  | nil=>
   intro i b hi _
   have hi:i=l.length:=by simpa using hi
   subst hi;exact zt (hn b)
  | cons a r ih=>
   intro i b hi hr
   have ha:l[i]?=some a:=by have:=hr 0;simpa using this.symm
   have h1:=h b i a ha
   unfold qeJ
   cases hg:g b a with
   | inl b'=>
    rw[hg] at h1
    rw[zW h1]
    refine ih (i+1) b' (by simp at hi;omega) fun j=>?_
    have:=hr (j+1)
    rw[show i+1+j=i+(j+1) by omega,←this];rfl
   | inr e=>
    rw[hg] at h1
    exact zt h1
 exact key l 0 b (by simp) (by simp)
theorem qll {α β:Type} (l:List α) (st:β→Nat→τ) (g:β→α→β) (fin:β→ε)
  (h:∀b i a,l[i]?=some a→step (st b i)=some (.inl (st (g b a) (i+1)))) (hn:∀b,step (st b l.length)=some (.inr (fin b))) (b:β):zy step (st b 0)=some (fin (l.foldl g b)):=by
 rw[qe5 l st (fun b a => .inl (g b a)) fin h hn b]
 congr 1
 induction l generalizing b with
 | nil=>rfl
 | cons a l ih=>
  unfold qeJ
  simp only[qPt]
  clear h hn
  have:∀(l:List α) (b:β),qeJ (ε:=ε) (fun b a => .inl (g b a)) fin l b=fin (l.foldl g b):=by
   intro l
   induction l with
   | nil=>intro b;rfl
   | cons a l ih=>intro b;unfold qeJ;simp only[qPt];exact ih _
  exact this l _
theorem qgm {α:Type} (l:List α) (st:Nat→τ) (p:α→Option ε) (d:ε)
  (h:∀i a,l[i]?=some a→step (st i)=some (match p a with|some e => .inr e|none => .inl (st (i+1)))) (hn:step (st l.length)=some (.inr d)):zy step (st 0)=some ((l.findSome? p).getD d):=by
 have h1:=qe5 (ε:=ε) (β:=Unit) l (fun _ i=>st i) (fun _ a=>match p a with|some e => .inr e|none => .inl ()) (fun _=>d) (fun b i a ha=>by
  rw[h i a ha];cases p a<;>rfl) (fun _=>hn) ()
 rw[h1]
 congr 1
 have:∀l:List α,qeJ (ε:=ε) (fun(_:Unit) a=>match p a with|some e => .inr e|none => .inl ()) (fun _=>d) l ()=(l.findSome? p).getD d:=by
  intro l
  induction l with
  | nil=>rfl
  | cons a l ih=>
   unfold qeJ
   rw[List.findSome?_cons]
   cases p a with
   | none=>simpa using ih
   | some e=>rfl
 exact this l
def q4l {α β ε:Type} (g:Nat→β→α→β⊕ε) (fin:β→ε):List α→Nat→β→ε
 | [],_,b=>fin b
 | a::l,i,b=>match g i b a with
  | .inl b'=>q4l g fin l (i+1) b'
  | .inr e=>e
theorem q29 {α β:Type} (l:List α) (st:β→Nat→τ) (g:Nat→β→α→β⊕ε) (fin:β→ε)
  (h:∀b i a,l[i]?=some a→step (st b i)=some (match g i b a with | .inl b' => .inl (st b' (i+1)) | .inr e => .inr e)) (hn:∀b,step (st b l.length)=some (.inr (fin b))) (b:β):zy step (st b 0)=some (q4l g fin l 0 b):=by
 have key:∀(r:List α) (i:Nat) (b:β),r.length+i=l.length→(∀j,r[j]?=l[i+j]?)→zy step (st b i)=some (q4l g fin r i b):=by
  intro r
  induction r with
  | nil=>
   intro i b hi _
   have hi:i=l.length:=by simpa using hi
   subst hi;exact zt (hn b)
  | cons a r ih=>
   intro i b hi hr
   have ha:l[i]?=some a:=by have:=hr 0;simpa using this.symm
   have h1:=h b i a ha
   unfold q4l
   cases hg:g i b a with
   | inl b'=>
    rw[hg] at h1
    rw[zW h1]
    refine ih (i+1) b' (by simp at hi;omega) fun j=>?_
    have:=hr (j+1)
    rw[show i+1+j=i+(j+1) by omega,←this];rfl
   | inr e=>
    rw[hg] at h1
    exact zt h1
 exact key l 0 b (by simp) (by simp)
end
theorem Ja {α:Type} {l:List α} {i:Nat} {a:α} (h:l[i]?=some a):i<l.length:=(qOt.1 h).1
theorem QF {n:Int} (h0 : -9223372036854775808≤n) (h1:n≤9223372036854775807):w64 n=n:=wi n h0 h1
theorem Qr {i n:Nat} (h:i<n) (hn:n≤9223372036854775807):w64 ((i:Int)+1)=((i+1:Nat):Int):=by
 rw[QF (by omega) (by omega)];omega
end
noncomputable section
open Go.RowKit
theorem qjI (a:Nat) (h:a<9223372036854775808):IntKind.i64.wrap (a:Int)=a:=wi _ (by omega) (by omega)
theorem qfS (a:Nat):BitVec.ofInt IntKind.i64.bits (a:Int)=BitVec.ofNat 64 a:=by
 show BitVec.ofInt 64 (a:Int)=_
 simp
theorem qfa (a b:Nat) (ha:a<9223372036854775808) (hb:b<9223372036854775808):ZR .and .i64 (a:Int) (b:Int)=((a &&& b:Nat):Int):=by
 unfold ZR
 simp only[qfS]
 have h1:(BitVec.ofNat 64 a &&& BitVec.ofNat 64 b).toNat=a &&& b:=by
  rw[BitVec.toNat_and,BitVec.toNat_ofNat,BitVec.toNat_ofNat,Nat.mod_eq_of_lt (by omega),Nat.mod_eq_of_lt (by omega)]
 have h2:a &&& b≤a:=Nat.and_le_left
 show IntKind.i64.wrap (((BitVec.ofNat 64 a &&& BitVec.ofNat 64 b).toNat:Nat):Int)=_
 rw[h1]
 exact qjI _ (by omega)
theorem qe2 (a b:Nat) (ha:a<9223372036854775808) (hb:b<9223372036854775808):ZR .andNot .i64 (a:Int) (b:Int)=((a ^^^ (a &&& b):Nat):Int):=by
 unfold ZR
 simp only[qfS]
 have h1:(BitVec.ofNat 64 a &&& ~~~BitVec.ofNat 64 b).toNat=a ^^^ (a &&& b):=by
  apply Nat.eq_of_testBit_eq
  intro i
  rw[BitVec.testBit_toNat,BitVec.getLsbD_and,BitVec.getLsbD_not,BitVec.getLsbD_ofNat,BitVec.getLsbD_ofNat,Nat.testBit_xor,Nat.testBit_and]
  by_cases hi:i<64
  ·simp only[hi,decide_true,qOW]
   cases a.testBit i<;>cases b.testBit i<;>rfl
  ·have:a.testBit i=false:=Nat.testBit_lt_two_pow (qOZ ha (by
    have:=Nat.pow_le_pow_right (n:=2) (by decide) (show 63≤i by omega)
    exact this))
   simp[hi,this]
 have h2:a ^^^ (a &&& b)<2 ^ 63:=Nat.xor_lt_two_pow (by omega) (qP1 Nat.and_le_left (by omega))
 show IntKind.i64.wrap (((BitVec.ofNat 64 a &&& ~~~BitVec.ofNat 64 b).toNat:Nat):Int)=_
 rw[h1]
 exact qjI _ (by omega)
theorem q9B (a k:Nat) (hk:k≤64):((a:Int)).fdiv (2 ^ min k IntKind.i64.bits)=((a / 2 ^ k:Nat):Int):=by
 have:min k IntKind.i64.bits=k:=Nat.min_eq_left hk
 rw[this]
 show((a:Int)).fdiv (2 ^ k)=_
 rw[show((2:Int) ^ k)=((2 ^ k:Nat):Int) by simp]
 rw[Int.fdiv_eq_ediv_of_nonneg _ (Int.natCast_nonneg _)]
 simp
theorem qh7 (a k:Nat) (ha:a<9223372036854775808) (hk:k≤64):(ZR .and .i64 ((a:Int).fdiv (2 ^ min k IntKind.i64.bits)) 1==1)=a.testBit k:=by
 rw[q9B a k hk,show(1:Int)=((1:Nat):Int) from rfl,qfa _ _ (qP1 (Nat.div_le_self _ _) ha) (by decide),Nat.and_one_is_mod,Nat.testBit_eq_decide_div_mod_eq]
 have:a / 2 ^ k % 2<2:=Nat.mod_lt _ (by decide)
 by_cases h:a / 2 ^ k % 2=1
 ·simp[h]
 ·have:a / 2 ^ k % 2=0:=by omega
  simp[this]
def Zh {α:Type} (N:Nat) (g:Nat→α):List α:=(List.range N).map g
theorem zF {α:Type} (N:Nat) (g:Nat→α):(Zh N g).length=N:=by simp[Zh]
theorem J2 {α:Type} {N:Nat} (g:Nat→α) {i:Nat} (h:i<N):(Zh N g)[i]?=some (g i):=by
 unfold Zh;rw[qOD,List.getElem?_range h];rfl
theorem q0D {α:Type} {N:Nat} {f g:Nat→α} (h:∀k,k<N→f k=g k):Zh N f=Zh N g:=by
 unfold Zh
 refine List.map_congr_left fun k hk=>h k (qPm.1 hk)
theorem q4z {α:Type} (N:Nat) (c:α):List.replicate N c=Zh N (fun _=>c):=by
 unfold Zh
 induction N with
 | zero=>rfl
 | succ n ih=>rw[List.range_succ,List.map_append,←ih,List.replicate_succ'];rfl
def qb2 {α:Type} (g:Nat→α) (i:Nat) (v:α):Nat→α:=fun k=>if k=i then v else g k
theorem Jw {α:Type} (N:Nat) (g:Nat→α) (i:Nat) (v:α):(Zh N g).set i v=Zh N (qb2 g i v):=by
 refine List.ext_getElem? fun k=>?_
 rw[List.getElem?_set,zF]
 by_cases hk:k<N
 ·rw[J2 _ hk,J2 _ hk]
  unfold qb2
  by_cases h:i=k
  ·subst h;simp[hk]
  ·rw[if_neg h,if_neg (fun h2=>h h2.symm)]
 ·have e1:(Zh N g)[k]?=none:=qOX (by rw[zF];omega)
  have e2:(Zh N (qb2 g i v))[k]?=none:=qOX (by rw[zF];omega)
  rw[e1,e2]
  split
  ·rw[if_neg (by omega)]
  ·rfl
theorem qcB {α:Type} (g:Nat→α) (i:Nat) (v:α):qb2 g i v i=v:=by simp[qb2]
theorem q9v {α:Type} (g:Nat→α) (i:Nat) (v w:α):qb2 (qb2 g i v) i w=qb2 g i w:=by
 funext k;unfold qb2;split<;>rfl
theorem qlo {α:Type} (f:Nat→α) (c:α) {i0 i:Nat} (h:i0≤i):qb2 (fun k=>if i0≤k∧k<i then f k else c) i (f i)=fun k=>if i0≤k∧k<i+1 then f k else c:=by
 funext k
 unfold qb2
 by_cases hk:k=i
 ·subst hk;rw[if_pos rfl,if_pos ⟨h,Nat.lt_succ_self _⟩]
 ·rw[if_neg hk]
  show(if i0≤k∧k<i then f k else c)=_
  by_cases h:i0≤k∧k<i
  ·rw[if_pos h,if_pos ⟨h.1,by omega⟩]
  ·rw[if_neg h,if_neg (by omega)]
end
noncomputable section
open Go.RowKit
def ceq (a b:qc):Bool:=(a.School==b.School)&&(a.Code.toList==b.Code.toList)
def qjv (n a b:Int):Int:=max (min a b) (min n (max a b))
def qct (s:qg):Bool:=qjv s.Worst (-1000) 1000==s.Worst&&qjv s.Best (-1000) 1000==s.Best&&s.Worst != s.Best&&qjv s.Pass s.Worst s.Best==s.Pass
def qjK (s:qg) (g:Int):Bool:=qct s&&qjv g s.Worst s.Best==g
def qo6 (s:qg) (g m:Int):Bool:=qjK s g&&(g==m||(decide (m<g)==decide (s.Worst<s.Best)))
theorem q5K (s:qg):q1s s=some (if qct s then 0 else 10):=by
 have h1:=qgm (ε:=Unit⊕Unit) (step:=Jm [s.Worst,s.Best] s 2) [s.Worst,s.Best] (fun i=>(i:Int)) (fun a=>if qjv a (-1000) 1000 != a then some (.inl ()) else none) (.inr ()) (fun i a ha=>by
   have hi:i<2:=by obtain⟨h,_⟩:=qOt.1 ha;simpa using h
   have hw:w64 ((i:Int)+1)=((i+1:Nat):Int):=Qr hi (by omega)
   unfold Jm
   rw[if_pos (by omega),if_pos ⟨by omega,by simpa using by omega⟩,qOs,ha,qOp,hw]
   show(if(qjv a (-1000) 1000 != a)=true then _ else _)=_
   split<;>simp_all) (by
   unfold Jm
   rfl)
 unfold q1s
 rw[show((0:Int))=((0:Nat):Int) from rfl,h1,qOp]
 unfold qct QA
 simp only[List.findSome?_cons,List.findSome?_nil]
 show _=some (if(qjv s.Worst (-1000) 1000==s.Worst&&qjv s.Best (-1000) 1000==s.Best&&s.Worst != s.Best&&qjv s.Pass s.Worst s.Best==s.Pass)=true then 0 else 10)
 change (Sum.elim _ (fun _=>if(s.Worst==s.Best)=true then some (10:Int) else if(qjv s.Pass s.Worst s.Best != s.Pass)=true then some 10 else some 0) _)=_
 by_cases e1:qjv s.Worst (-1000) 1000=s.Worst<;>by_cases e2:qjv s.Best (-1000) 1000=s.Best<;>by_cases e3:s.Worst=s.Best<;>by_cases e4:qjv s.Pass s.Worst s.Best=s.Pass<;>simp[e1,e2,e3,e4,bne]
theorem qf2 (s:qg) (g:Int):q2p s g=some (qjK s g):=by
 unfold q2p qjK
 rw[q5K,qOp]
 cases h:qct s<;>simp[QA,qjv]
theorem qlr (s:qg) (g m:Int):q1d s g m=some (qo6 s g m):=by
 unfold q1d qo6
 rw[qf2,qOp]
 cases h:qjK s g
 ·simp
 ·by_cases h2:g=m<;>simp[h2]
theorem qcW (p:qc→Bool):∀(l:List qc) (i:Nat),(decide (0≤(q4l (ε:=Int⊕Unit) (fun i (_:Unit) a=>if p a=true then .inr (.inl (i:Int)) else .inl ()) (fun _ => .inr ()) l i ()).elim id (fun _ => -1)))=l.any p
 | [],i=>rfl
 | a::l,i=>by
  unfold q4l
  by_cases h:p a=true
  ·simp[h]
  ·have h':p a=false:=by simpa using h
   simp only[h',List.any_cons,Bool.false_or]
   exact qcW p l (i+1)
theorem qsa (l:List qc) (hl:l.length≤9223372036854775807) (v:qc):∃i:Int,Q4 l v=some i∧(decide (0≤i))=l.any (ceq v):=by
 have h1:=q29 (ε:=Int⊕Unit) (step:=zA v l (l.length:Int)) l (fun(b:Unit) i=>(i:Int)) (fun i b a=>if ceq v a=true then .inr (.inl (i:Int)) else .inl ()) (fun _ => .inr ()) (fun b i a ha=>by
   have hi:=Ja ha
   have hw:w64 ((i:Int)+1)=((i+1:Nat):Int):=Qr hi hl
   unfold zA
   rw[if_pos (by omega),if_pos ⟨by omega,by omega⟩,qOs,ha,qOp,hw]
   unfold ceq
   by_cases e1:v.School=a.School<;>by_cases e2:v.Code.toList=a.Code.toList<;>simp[e1,e2]) (fun b=>by
   unfold zA
   rw[if_neg (by omega)]) ()
 refine⟨_,?_,qcW (ceq v) l 0⟩
 unfold Q4
 rw[show((0:Int))=((0:Nat):Int) from rfl,h1,qOp]
 cases(q4l (ε:=Int⊕Unit) (fun i (_:Unit) a=>if ceq v a=true then .inr (.inl (i:Int)) else .inl ()) (fun _ => .inr ()) l 0 ())<;>rfl
theorem qhh (l:List qc) (hl:l.length≤9223372036854775807) (v:qc):zQ l v=some (l.any (ceq v)):=by
 obtain⟨i,h1,h2⟩:=qsa l hl v
 unfold zQ
 rw[h1,qOp,h2]
def q9N (n:qb):Bool:=n.Kind==1||n.Kind==2
theorem qbQ (n:qb):JS n=q9N n:=by
 unfold JS q9N
 cases h:(n.Kind==1)<;>simp
def qlq (n:qb) (s:qg) (a:qa):Bool:=q9N n&&n.Set.any (ceq a.Course)&&qo6 s a.Grade n.Min
theorem qpB (n:qb) (hn:n.Set.length≤9223372036854775807) (s:qg) (a:qa):q3S n s a=some (qlq n s a):=by
 unfold q3S qlq
 rw[qbQ,qhh n.Set hn,qlr]
 cases q9N n<;>cases n.Set.any (ceq a.Course)<;>simp
def wgF (n:qb) (s:qg) (set:Nat):List qa→Nat→qK→qK
 | [],_,x=>x
 | a::l,k,x=>wgF n s set l (k+1) (if set.testBit k=true then⟨w64 (x.many+1),w64 (x.credits+a.Credits),x.fine&&qlq n s a⟩ else x)
def ld0:qK:=⟨0,0,true⟩
theorem qjN (n:qb) (hn:n.Set.length≤9223372036854775807) (s:qg) (l:List qa) (hl:l.length≤62) (set:Nat) (hs:set<9223372036854775808):q0Y n s l (set:Int)=some (wgF n s set l 0 ld0):=by
 have h1:=q29 (ε:=qK) (step:=JX (set:Int) n s (qK.mk (0:Int) (0:Int) Bool.false) l (l.length:Int)) l (fun(b:qK) i=>(b,(i:Int))) (fun i b a => .inl (if set.testBit i=true then⟨w64 (b.many+1),w64 (b.credits+a.Credits),b.fine&&qlq n s a⟩ else b)) (fun b=>b) (fun b i a ha=>by
   have hi:=Ja ha
   have hw:w64 ((i:Int)+1)=((i+1:Nat):Int):=Qr hi (by omega)
   have hb:q18 (i:Int) (set:Int)=some (set.testBit i):=by
    unfold q18
    rw[if_pos (by omega),qOs,qh7 set i hs (by omega)]
   unfold JX
   simp only
   rw[if_pos (by omega),if_pos ⟨by omega,by omega⟩,qOs,ha,qOp,hw,hb,qOp]
   cases set.testBit i
   ·simp
   ·cases hf:b.fine
    ·simp
    ·simp[qpB n hn s a]) (fun b=>by
   unfold JX
   simp only
   rw[if_neg (by omega)]) ld0
 unfold q0Y
 change Option.bind (zy _ (ld0,((0:Nat):Int))) _=_
 rw[h1,qOp]
 congr 1
 have:∀(l:List qa) (i:Nat) (b:qK),q4l (ε:=qK) (fun i (b:qK) (a:qa) => .inl (if set.testBit i=true then⟨w64 (b.many+1),w64 (b.credits+a.Credits),b.fine&&qlq n s a⟩ else b)) (fun b=>b) l i b=wgF n s set l i b:=by
  intro l
  induction l with
  | nil=>intro i b;rfl
  | cons a l ih=>intro i b;unfold q4l wgF;exact ih _ _
 exact this l 0 ld0
def qe0 (n:qb) (x:qK):Bool:=if n.Kind=1 then x.fine&&x.many==1 else x.fine&&decide (0<x.many)&&decide (n.N≤x.credits)
end
noncomputable section
open Go.RowKit
def q1r (set sub:Nat):Nat:=set ^^^ (set &&& sub)
theorem Z5 (set sub i:Nat):(q1r set sub).testBit i=(set.testBit i && !sub.testBit i):=by
 unfold q1r
 rw[Nat.testBit_xor,Nat.testBit_and]
 cases set.testBit i<;>cases sub.testBit i<;>rfl
theorem qj5 (set sub:Nat):q1r set sub≤set:=by
 have:q1r set sub &&& set=q1r set sub:=Nat.eq_of_testBit_eq fun i=>by
  rw[Nat.testBit_and,Z5];cases set.testBit i<;>cases sub.testBit i<;>rfl
 rw[←this];exact Nat.and_le_right
def eaV (own:Nat→Bool) (best:Nat→Int) (set sub:Nat) (v:Int):Int:=if own sub=true∧0≤best (q1r set sub) then max v (best (q1r set sub)+1) else v
def eaF (own:Nat→Bool) (best:Nat→Int) (set:Nat):Nat→Nat→Int→Int
 | 0,_,v=>v
 | f+1,sub,v=>if sub=0 then v else eaF own best set f ((sub-1) &&& set) (eaV own best set sub v)
def Bnd (best:Nat→Int) (N:Nat) (M:Int):Prop:=∀k,k<N → -1≤best k∧best k≤M
section
variable {N:Nat} (hN:N≤65536) {own:Nat→Bool} {best:Nat→Int} {M:Int} (hM:M≤1000000) (hb:Bnd best N M)
include hN hM hb
theorem qrZ {set sub:Nat} (hs:set<N) (hsub:sub<N) (g:Nat→Int):q1c (sub:Int) ((q1r set sub:Nat):Int) (Zh N best) (Zh N g) (Zh N own) (set:Int)=some (Zh N (qb2 g set (eaV own best set sub (g set)))):=by
 have hr:=qj5 set sub
 have hbr:=hb (q1r set sub) (by omega)
 unfold q1c
 rw[zF,if_pos ⟨by omega,by omega⟩,qOs,J2 own hsub,qOp]
 unfold eaV
 cases ho:own sub
 ·simp only[Bool.false_eq_true,if_false,false_and]
  rw[←Jw]
  congr 1
  refine List.ext_getElem? fun k=>?_
  rw[List.getElem?_set]
  split
  ·rename_i h;subst h;rw[zF,if_pos hs,J2 _ hs]
  ·rfl
 ·simp only[if_true,true_and]
  rw[zF,if_pos ⟨by omega,by omega⟩,qOs,J2 best (by omega),qOp]
  by_cases h0:0≤best (q1r set sub)
  ·rw[if_pos h0,if_pos h0,zF,if_pos ⟨by omega,by omega⟩,qOs,J2 g hs,qOp,if_pos ⟨by omega,by omega⟩,qOp,if_pos ⟨by omega,by omega⟩,if_pos (by omega),QF (by omega) (by omega),Jw]
  ·rw[if_neg h0,if_neg h0,←Jw]
   congr 1
   refine List.ext_getElem? fun k=>?_
   rw[List.getElem?_set]
   split
   ·rename_i h;subst h;rw[zF,if_pos hs,J2 _ hs]
   ·rfl
theorem qez {set:Nat} (hs:set<N):∀(f sub:Nat),sub≤f→sub≤set→∀(g:Nat→Int),zy (Ql (Zh N best) (Zh N own) (set:Int) (set:Int)) (Zh N g,(sub:Int))=some (Zh N (qb2 g set (eaF own best set f sub (g set)))):=by
 have hself:∀g:Nat→Int,qb2 g set (g set)=g:=fun g=>by funext k;unfold qb2;split<;>simp_all
 have h0:∀(g:Nat→Int),zy (Ql (Zh N best) (Zh N own) (set:Int) (set:Int)) (Zh N g,((0:Nat):Int))=some (Zh N g):=fun g=>by
  refine zt ?_
  unfold Ql
  simp
 intro f
 induction f with
 | zero=>
  intro sub hf _ g
  have:sub=0:=by omega
  subst this
  rw[h0]
  unfold eaF
  rw[hself]
 | succ f ih=>
  intro sub hf hle g
  unfold eaF
  by_cases hz:sub=0
  ·subst hz
   rw[h0,if_pos rfl,hself]
  ·have ha:(sub-1) &&& set≤sub-1:=Nat.and_le_left
   have hstep:Ql (Zh N best) (Zh N own) (set:Int) (set:Int) (Zh N g,(sub:Int))=some (.inl (Zh N (qb2 g set (eaV own best set sub (g set))),((((sub-1) &&& set:Nat)):Int))):=by
    unfold Ql
    simp only
    rw[if_pos (by omega),qe2 _ _ (by omega) (by omega),QF (by omega) (by omega),show((sub:Int)-1)=((sub-1:Nat):Int) by omega,qfa _ _ (by omega) (by omega)]
    have:=qrZ hN hM hb (own:=own) hs (sub:=sub) (by omega) g
    unfold q1r at this
    rw[this,qOp]
   rw[zW hstep,ih _ (by omega) (by omega),if_neg hz,qcB,q9v]
end
def stF (skip:Bool) (own:Nat→Bool) (best:Nat→Int) (set:Nat):Int:=eaF own best set set set (if skip=true then best set else -1)
theorem qwz {own:Nat→Bool} {best:Nat→Int} {N:Nat} {M:Int} (hb:Bnd best N M) (hM : -1≤M) {set sub:Nat} (hs:set<N) {v:Int} (h : -1≤v∧v≤M+1) : -1≤eaV own best set sub v∧eaV own best set sub v≤M+1:=by
 have:=hb (q1r set sub) (qP1 (qj5 set sub) hs)
 unfold eaV
 split<;>omega
theorem qow {own:Nat→Bool} {best:Nat→Int} {N:Nat} {M:Int} (hb:Bnd best N M) (hM : -1≤M) {set:Nat} (hs:set<N):∀(f sub:Nat) (v:Int),-1≤v∧v≤M+1 → -1≤eaF own best set f sub v∧eaF own best set f sub v≤M+1
 | 0,_,_,h=>h
 | f+1,sub,v,h=>by
  unfold eaF
  split
  ·exact h
  ·exact qow hb hM hs f _ _ (qwz hb hM hs h)
theorem qp9 {skip:Bool} {own:Nat→Bool} {best:Nat→Int} {N:Nat} {M:Int} (hb:Bnd best N M) (hM : -1≤M):Bnd (stF skip own best) N (M+1):=fun k hk=>by
 unfold stF
 have:=hb k hk
 refine qow hb hM hk _ _ _ ?_
 split<;>omega
end
noncomputable section
open Go.RowKit
def b0F (k:Nat):Int:=if k=0 then 0 else -1
def alG (leaf:Int) (set:Nat):List Int→Nat→Bool
 | [],_=>true
 | x::d,k=>(set.testBit k==(x==leaf))&&alG leaf set d (k+1)
def alF (d:List Int) (leaf set:Nat):Bool:=alG (leaf:Int) set d 0
def foF (d:List Int) (a b:Nat):Bool:=d.any fun x=>decide ((a:Int)≤x)&&decide (x<(b:Int))
def q1Y (d:List Int) (s:qg) (l:List qa) (n:qb) (nx set:Nat):Bool:=decide (set≠0)&&(alF d nx set&&qe0 n (wgF n s set l 0 ld0))
mutual
def lvN:qb→Nat
 | ⟨k,_,_,_,L⟩=>if k=1∨k=2 then 1 else lvL L
def lvL:List qb→Nat
 | []=>0
 | x::L=>lvN x+lvL L
end
mutual
def ndN:qb→List qb
 | ⟨k,n,m,S,L⟩=>⟨k,n,m,S,L⟩::ndL L
def ndL:List qb→List qb
 | []=>[]
 | x::L=>ndN x++ndL L
end
theorem qd5 (n:qb):lvN n=if n.Kind=1∨n.Kind=2 then 1 else lvL n.L:=by cases n;rw[lvN]
theorem q00 (n:qb):ndN n=n::ndL n.L:=by cases n;rw[ndN]
mutual
def QM (d:List Int) (s:qg) (l:List qa):qb→Nat→Nat→Bool
 | ⟨k,n,m,S,L⟩,nx,set=>if k=1∨k=2 then q1Y d s l ⟨k,n,m,S,L⟩ nx set else decide (set≠0)&&decide ((if k=3 then(L.length:Int) else n)≤qbc d s l (k==4) L nx b0F set)
def qbc (d:List Int) (s:qg) (l:List qa) (sk:Bool):List qb→Nat→(Nat→Int)→Nat→Int
 | [],_,b,set=>b set
 | x::L,nx,b,set=>qbc d s l sk L (nx+lvN x) (stF (sk && !foF d nx (nx+lvN x)) (QM d s l x nx) b) set
end
theorem qc3 (d:List Int) (s:qg) (l:List qa) (n:qb) (nx set:Nat):QM d s l n nx set=if n.Kind=1∨n.Kind=2 then q1Y d s l n nx set else decide (set≠0)&&decide ((if n.Kind=3 then(n.L.length:Int) else n.N)≤qbc d s l (n.Kind==4) n.L nx b0F set):=by cases n;rw[QM]
theorem qkD:∀n:qb,lvN n≤(ndN n).length:=by
 intro n
 induction n using qb.rec (motive_2:=fun L=>lvL L≤(ndL L).length) with
 | mk k n m S L ih=>rw[lvN,ndN,qOA];split<;>omega
 | nil=>simp[lvL]
 | cons x L h1 h2=>rw[lvL,ndL,qOw];omega
theorem qle (d:List Int) (hd:d.length≤16) (leaf set:Nat) (hs:set<9223372036854775808):q0E (leaf:Int) (set:Int) d=some (alF d leaf set):=by
 have h1:=q29 (ε:=Unit⊕Unit) (step:=JA d (leaf:Int) (set:Int) (d.length:Int)) d (fun(_:Unit) i=>(i:Int)) (fun i _ x=>if(set.testBit i==(x==(leaf:Int)))=true then .inl () else .inr (.inl ())) (fun _ => .inr ()) (fun _ i x hx=>by
   have hi:=Ja hx
   have hw:w64 ((i:Int)+1)=((i+1:Nat):Int):=Qr hi (by omega)
   unfold JA
   rw[if_pos (by omega),if_pos ⟨by omega,by omega⟩,qOs,hx,qOp,if_pos (by omega),hw,qh7 set i hs (by omega)]
   cases(set.testBit i==(x==(leaf:Int)))<;>simp) (fun _=>by
   unfold JA
   rw[if_neg (by omega)]) ()
 unfold q0E
 change Option.bind (zy _ ((0:Nat):Int)) _=_
 rw[h1,qOp]
 have:∀(d:List Int) (k:Nat),(Sum.elim (fun(_:Unit)=>some false) (fun(_:Unit)=>some true) (q4l (ε:=Unit⊕Unit) (fun i (_:Unit) (x:Int)=>if(set.testBit i==(x==(leaf:Int)))=true then .inl () else .inr (.inl ())) (fun _ => .inr ()) d k ()))=some (alG leaf set d k):=by
  intro d
  induction d with
  | nil=>intro k;rfl
  | cons x d ih=>
   intro k
   unfold q4l alG
   cases h:(set.testBit k==(x==(leaf:Int)))
   ·simp
   ·simp only[if_true,qOW];exact ih (k+1)
 exact this d 0
theorem qlH (d:List Int) (hd:d.length≤16) (a b:Nat):q1I (a:Int) (b:Int) d=some (foF d a b):=by
 have h1:=q29 (ε:=Int⊕Unit) (step:=Q6 (a:Int) (b:Int) d (d.length:Int)) d (fun(_:Unit) i=>(i:Int)) (fun i _ x=>if(decide ((a:Int)≤x)&&decide (x<(b:Int)))=true then .inr (.inl (i:Int)) else .inl ()) (fun _ => .inr ()) (fun _ i x hx=>by
   have hi:=Ja hx
   have hw:w64 ((i:Int)+1)=((i+1:Nat):Int):=Qr hi (by omega)
   unfold Q6 JQ
   rw[if_pos (by omega),if_pos ⟨by omega,by omega⟩,qOs,hx,qOp,hw]
   by_cases h2:(a:Int)≤x
   ·by_cases h3:x<(b:Int)<;>simp[h2,h3]
   ·simp[h2]) (fun _=>by
   unfold Q6
   rw[if_neg (by omega)]) ()
 unfold q1I Z4 Zv
 change Option.bind (Option.bind (Option.bind (zy _ ((0:Nat):Int)) _) _) _=_
 rw[h1,qOp]
 have:∀(d:List Int) (k:Nat),((Sum.elim (fun(a2:Int)=>some a2) (fun(_:Unit)=>some (-(1:Int))) (q4l (ε:=Int⊕Unit) (fun i (_:Unit) (x:Int)=>if(decide ((a:Int)≤x)&&decide (x<(b:Int)))=true then .inr (.inl (i:Int)) else .inl ()) (fun _ => .inr ()) d k ())).bind fun a=>some (decide ((0:Int)≤a)))=some (foF d a b):=by
  intro d
  induction d with
  | nil=>intro k;rfl
  | cons x d ih=>
   intro k
   unfold q4l foF
   rw[List.any_cons]
   cases h:(decide ((a:Int)≤x)&&decide (x<(b:Int)))
   ·simp only[Bool.false_eq_true,if_false,Bool.false_or];exact ih (k+1)
   ·simp
 have h2:=this d 0
 rw[qOu] at h2
 obtain⟨i,h3,h4⟩:=h2
 rw[h3,qOp,h4,qOp]
end
noncomputable section
open Go.RowKit
mutual
def hgN:qb→Nat
 | ⟨_,_,_,_,L⟩=>1+hgL L
def hgL:List qb→Nat
 | []=>0
 | x::L=>max (hgN x) (hgL L)
end
mutual
def dpN (d:Int):qb→Int→Int
 | ⟨_,_,_,_,L⟩,m=>dpL (d+1) L (max m d)
def dpL (d:Int):List qb→Int→Int
 | [],m=>m
 | x::L,m=>dpL d L (dpN d x m)
end
theorem qef (n:qb):hgN n=1+hgL n.L:=by cases n;rw[hgN]
theorem qtp (d:Int) (n:qb) (m:Int):dpN d n m=dpL (d+1) n.L (max m d):=by cases n;rw[dpN]
theorem q7E (k:Nat) (h:k≤100000):k≤maxLen∧k*72≤140737488355328:=⟨by unfold maxLen;omega,by omega⟩
def qtv (y:qb):Prop:=∀(deep:Int) (w:List qb) (b2:Int) (b3:Bool),1≤deep→deep+hgN y≤101→w.length+(ndN y).length≤10000→Ju (y,deep,w,b2,b3)=some (.inr (w++ndN y,dpN deep y b2,b3))
theorem qjU (rF:(qb×Int×List qb×Int×Bool)→Option (Int⊕(List qb×Int×Bool))) (deep:Int) (hd:1≤deep) (L:List qb) (hL:L.length≤10000)
  (step:List qb×Int×Bool×Int→Option ((List qb×Int×Bool×Int)⊕(Int⊕(List qb×Int×Bool))))
  (hst:∀w b2 b3 (i:Nat),step (w,b2,b3,(i:Int))=if(i:Int)<(L.length:Int) then if(0:Int)≤i∧(i:Int)<(L.length:Int) then Option.bind L[Int.toNat i]? fun a2=>Option.bind (rF (a2,w64 (deep+1),w,b2,b3)) fun a3=>Sum.elim (fun a4=>some (Sum.inr (Sum.inl a4))) (fun a5=>some (Sum.inl (a5.1,a5.2.1,a5.2.2,w64 ((i:Int)+1)))) a3 else none else some (.inr (.inr (w,b2,b3))))
  (hP:∀y∈L,∀(w:List qb) (b2:Int) (b3:Bool),deep+1+hgN y≤101→w.length+(ndN y).length≤10000→rF (y,deep+1,w,b2,b3)=some (.inr (w++ndN y,dpN (deep+1) y b2,b3))) :
  ∀(r:List qb) (i:Nat) (w:List qb) (b2:Int) (b3:Bool),r.length+i=L.length→(∀j,r[j]?=L[i+j]?)→deep+1+hgL r≤101→w.length+(ndL r).length≤10000→
  zy step (w,b2,b3,(i:Int))=some (.inr (w++ndL r,dpL (deep+1) r b2,b3)):=by
 intro r
 induction r with
 | nil=>
  intro i w b2 b3 hi _ _ _
  have hi:i=L.length:=by simpa using hi
  subst hi
  refine zt ?_
  rw[hst,if_neg (by omega),ndL,dpL,qOK]
 | cons y r ih=>
  intro i w b2 b3 hi hr hh hw
  rw[hgL] at hh
  rw[ndL,qOw] at hw
  simp only[qOA] at hi
  have hget:L[i]?=some y:=by have:=hr 0;simpa using this.symm
  have hlt:=Ja hget
  have hcall:=hP y (qOq hget) w b2 b3 (by omega) (by omega)
  have hstep:step (w,b2,b3,(i:Int))=some (.inl (w++ndN y,dpN (deep+1) y b2,b3,((i+1:Nat):Int))):=by
   rw[hst,if_pos (by omega),if_pos ⟨by omega,by omega⟩,qOs,hget,qOp,QF (by omega) (by omega),hcall,qOp,Qr hlt (by omega)]
   rfl
  rw[zW hstep,ih (i+1) _ _ _ (by omega) (fun j=>by rw[show i+1+j=i+(j+1) by omega,←hr (j+1)];rfl) (by omega) (by rw[qOw];omega),ndL,dpL,qP5]
theorem qcO (L:List qb):L.length≤(ndL L).length:=by
 induction L with
 | nil=>simp
 | cons x L ih=>rw[ndL,qOw,qOA,q00,qOA];omega
theorem qxY:∀(m:Nat) (y:qb),(ndN y).length≤m→qtv y:=by
 intro m
 induction m with
 | zero=>intro y h;rw[q00] at h;simp at h
 | succ m ih=>
  intro y h deep w b2 b3 hd hh hw
  rw[q00,qOA] at h hw
  rw[qef] at hh
  have hsub:∀(L:List qb),(ndL L).length≤m→∀z∈L,qtv z:=by
   intro L
   induction L with
   | nil=>intro _ z hz;simp at hz
   | cons x L ihl=>
    intro g z hz
    rw[ndL,qOw] at g
    rcases qOL.1 hz with rfl|hz
    ·exact ih _ (by omega)
    ·exact ihl (by omega) z hz
  have hP:=hsub y.L (by omega)
  have hl:=qcO y.L
  rw[qbj,q0P]
  unfold q1T
  have hne:(((w.length:Nat):Int)==(10000:Int))=false:=by simp;omega
  rw[if_neg (by omega),if_neg (by rw[hne];simp),if_pos ⟨(q7E _ (by omega)).1,(q7E _ (by omega)).2⟩,qOp,Sum.elim_inr]
  have h1:=qjU Ju deep hd y.L (by omega) (q0Q Ju deep y.L (y.L.length:Int)) (fun w b2 b3 i=>by rfl) (fun z hz w b2 b3 g1 g2=>hP z hz (deep+1) w b2 b3 (by omega) g1 g2) y.L 0 (w++[y]) (max b2 deep) b3 (by simp) (by simp) (by omega) (by rw[qOw,qOH];omega)
  rw[show((0:Nat):Int)=0 from rfl] at h1
  dsimp only
  have h2:(⟨y.Kind,y.N,y.Min,y.Set,y.L⟩:qb)=y:=by cases y;rfl
  rw[h2,h1,qOp,Sum.elim_inr,q00,qtp,qP5]
  rfl
theorem qmu (n:qb) (hh:hgN n≤100) (hn:(ndN n).length≤9999):q2N n=some (ndN n,dpN 1 n 0,true):=by
 rw[qef] at hh
 rw[q00,qOA] at hn
 have hl:=qcO n.L
 unfold q2N q2S q5Q q2T
 rw[if_neg (by omega),if_pos (by unfold maxLen;omega),qOp,Sum.elim_inr]
 have h1:=qjU Ju 1 (by omega) n.L (by omega) (q32 1 n.L (n.L.length:Int)) (fun w b2 b3 i=>by rfl) (fun z hz w b2 b3 g1 g2=>qxY _ z (qOF _) (1+1) w b2 b3 (by omega) g1 g2) n.L 0 [n] (max 0 1) false (by simp) (by simp) (by omega) (by simp only[qOH];omega)
 rw[show((0:Nat):Int)=0 from rfl] at h1
 dsimp only
 have h2:(⟨n.Kind,n.N,n.Min,n.Set,n.L⟩:qb)=n:=by cases n;rfl
 rw[h2,h1,qOp,Sum.elim_inr,qOp,Sum.elim_inr,qOp,Sum.elim_inr,q00,qtp]
 rfl
def q1G (n:qb):Bool:=n.Kind != 3&&n.Kind != 4
theorem qrz (n:qb):q1u n=q1G n:=by
 unfold q1u q1G
 cases h:(n.Kind != 3)<;>simp
theorem qoe (l:List qc) (h:l.length≤1000000):Q5 l=some ():=by
 unfold Q5
 rw[if_pos ⟨by unfold maxLen;omega,by omega⟩]
theorem qmQ:∀(m:Nat) (n:qb),(ndN n).length≤m→(ndN n).length≤100000→(∀y∈ndN n,y.Set.length≤1000000)→Jt n=some n:=by
 intro m
 induction m with
 | zero=>intro n h;rw[q00] at h;simp at h
 | succ m ih=>
  intro n h1 h2 h3
  have hset:=h3 n (by rw[q00];exact qOE)
  have hsub:∀(L:List qb),(ndL L).length≤m→(ndL L).length≤100000→(∀y∈ndL L,y.Set.length≤1000000)→∀y∈L,Jt y=some y:=by
   intro L
   induction L with
   | nil=>intro _ _ _ y hy;simp at hy
   | cons x L ihl=>
    intro g1 g2 g3 y hy
    rw[ndL,qOw] at g1 g2
    rw[ndL] at g3
    rcases qOL.1 hy with rfl|hy
    ·exact ih _ (by omega) (by omega) fun z hz=>g3 z (qOB _ hz)
    ·exact ihl (by omega) (by omega) (fun z hz=>g3 z (qOy _ hz)) y hy
  have e0:ndN n=n::ndL n.L:=q00 n
  have hlen:(ndN n).length=(ndL n.L).length+1:=by rw[e0];rfl
  have hP:=hsub n.L (by omega) (by omega) fun y hy=>h3 y (by rw[e0];exact qOx _ hy)
  have hl:=qcO n.L
  have hn:(⟨n.Kind,n.N,n.Min,n.Set,n.L⟩:qb)=n:=by cases n;rfl
  rw[qbx,q0L,qoe _ hset,qOp]
  unfold QS
  rw[if_pos ⟨by unfold maxLen;omega,by omega⟩]
  rw[qOp]
  have hL:∀i0:Nat,zy (JN Jt n.Kind n.N n.Min n.Set 0 0 0 (n.L.length:Int)) (n.L,((0:Nat):Int))=some n.L:=fun _=>by
   refine q2o (fun i=>(n.L,(i:Int))) 0 n.L.length (qOP _) (fun i _ hi=>?_) ?_
   ·obtain⟨y,hy⟩:∃y,n.L[i]?=some y:=⟨_,qOr hi⟩
    unfold JN
    simp only
    rw[if_pos (by omega),if_pos ⟨by omega,by omega⟩,qOs,hy,qOp,hP y (qOq hy),qOp,if_pos ⟨by omega,by omega⟩,if_pos (by omega),Qr hi (by omega)]
    have:n.L.set i y=n.L:=by
     obtain⟨h1,h2⟩:=qOt.1 hy
     rw[←h2,List.set_getElem_self]
    rw[this]
   ·unfold JN
    simp only
    rw[if_neg (by omega)]
  have:=hL 0
  rw[show((0:Nat):Int)=0 from rfl] at this
  rw[this,qOp,hn]
theorem qfK (n:qb) (hh:hgN n≤100) (hn:(ndN n).length≤9999) (hs:∀y∈ndN n,y.Set.length≤1000000):q1n n=some ((ndN n).filter q1G):=by
 have hsub:∀(m:Nat) (n y:qb),(ndN n).length≤m→y∈ndN n→(ndN y).length≤(ndN n).length∧∀z∈ndN y,z∈ndN n:=by
  intro m
  induction m with
  | zero=>intro n y h;rw[q00] at h;simp at h
  | succ m ih=>
   intro n y h hy
   rw[q00] at hy
   rcases qOL.1 hy with rfl|hy
   ·exact⟨qOF _,fun z hz=>hz⟩
   ·have hL:∀(L:List qb),(ndL L).length≤m→y∈ndL L→(ndN y).length≤(ndL L).length∧∀z∈ndN y,z∈ndL L:=by
     intro L
     induction L with
     | nil=>intro _ h;simp[ndL] at h
     | cons x L ihl=>
      intro g gy
      rw[ndL,qOw] at g
      rw[ndL] at gy ⊢
      rw[qOw]
      rcases qOT.1 gy with gy|gy
      ·obtain⟨a,b⟩:=ih x y (by omega) gy
       exact⟨by omega,fun z hz=>qOB _ (b z hz)⟩
      ·obtain⟨a,b⟩:=ihl (by omega) gy
       exact⟨by omega,fun z hz=>qOy _ (b z hz)⟩
    have e0:=q00 n
    have:(ndN n).length=(ndL n.L).length+1:=by rw[e0];rfl
    obtain⟨a,b⟩:=hL n.L (by omega) hy
    exact⟨by omega,fun z hz=>by rw[e0];exact qOx _ (b z hz)⟩
 have hc:∀y∈ndN n,q1G y=true→Jt y=some y:=fun y hy _=>by
  obtain⟨a,b⟩:=hsub _ n y (qOF _) hy
  exact qmQ _ y (qOF _) (by omega) fun z hz=>hs z (b z hz)
 clear hsub hs
 unfold q1n
 rw[qmu n hh hn,qOp]
 simp only
 generalize ndN n=l at hn hc
 have key:∀(r:List qb) (i:Nat) (b:List qb),r.length+i=l.length→(∀j,r[j]?=l[i+j]?)→b.length≤i→zy (ZM l (l.length:Int)) (b,(i:Int))=some (b++r.filter q1G):=by
  intro r
  induction r with
  | nil=>
   intro i b hi _ _
   have hi:i=l.length:=by simpa using hi
   subst hi
   refine zt ?_
   unfold ZM
   simp
  | cons y r ih=>
   intro i b hi hr hb
   simp only[qOA] at hi
   have hget:l[i]?=some y:=by have:=hr 0;simpa using this.symm
   have hlt:=Ja hget
   have hstep:ZM l (l.length:Int) (b,(i:Int))=some (.inl (if q1G y=true then b++[y] else b,((i+1:Nat):Int))):=by
    unfold ZM
    simp only
    rw[if_pos (by omega),if_pos ⟨by omega,by omega⟩,qOs,hget,qOp,qrz,Qr hlt (by omega)]
    cases h:q1G y
    ·simp
    ·rw[hc y (qOq hget) h,qOp,if_pos rfl,if_pos ⟨(q7E _ (by omega)).1,(q7E _ (by omega)).2⟩]
     simp
   have hb2:(if q1G y=true then b++[y] else b).length≤i+1:=by
    split
    ·rw[qOw,qOH];omega
    ·omega
   rw[zW hstep,ih (i+1) _ (by omega) (fun j=>by rw[show i+1+j=i+(j+1) by omega,←hr (j+1)];rfl) hb2,List.filter_cons]
   cases q1G y<;>simp
 have:=key l 0 [] (by simp) (by simp) (by simp)
 change Option.bind (zy _ ([],((0:Nat):Int))) _=_
 rw[this,qOp,qOJ]
end
noncomputable section
open Go.RowKit
def qb0 (b:UInt8):Bool:=(48≤b.toNat&&b.toNat≤57)||(65≤b.toNat&&b.toNat≤90)
theorem qqD (s:ByteArray) (i:Nat) (h:(s.get! i).toNat<128):Utf8.decode s i=((s.get! i).toNat,1):=by
 unfold Utf8.decode
 simp only[Nat.add_zero]
 rw[if_pos h]
theorem quk (s:ByteArray) (i:Nat) (h:¬ (s.get! i).toNat<128):128≤(Utf8.decode s i).1:=by
 unfold Utf8.decode
 simp only[Nat.add_zero]
 rw[if_neg h]
 have hr:128≤Utf8.runeError:=by decide
 split
 ·split
  ·assumption
  ·exact hr
 ·split
  ·split
   ·rename_i h;simp only[ge_iff_le,qOV,qPp] at h;omega
   ·exact hr
  ·split
   ·split
    ·rename_i h;simp only[ge_iff_le,qOV,qPp] at h;omega
    ·exact hr
   ·exact hr
theorem qdT (b:UInt8) (h:b.toNat<128):Zt (b.toNat:Int) = !qb0 b:=by
 unfold Zt qb0
 by_cases h1:b.toNat<65
 ·rw[if_pos (by omega)]
  by_cases h2:b.toNat<48
  ·rw[if_pos (by omega)]
   have e1:decide (48≤b.toNat)=false:=decide_eq_false (by omega)
   have e2:decide (65≤b.toNat)=false:=decide_eq_false (by omega)
   simp[e1,e2]
  ·rw[if_neg (by omega)]
   have e1:decide (48≤b.toNat)=true:=qPq (by omega)
   have e2:decide (65≤b.toNat)=false:=decide_eq_false (by omega)
   by_cases h3:b.toNat≤57
   ·have e3:decide (b.toNat≤57)=true:=qPq h3
    have e4:decide ((57:Int)<b.toNat)=false:=decide_eq_false (by omega)
    simp[e1,e2,e3,e4]
   ·have e3:decide (b.toNat≤57)=false:=decide_eq_false h3
    have e4:decide ((57:Int)<b.toNat)=true:=qPq (by omega)
    simp[e1,e2,e3,e4]
 ·rw[if_neg (by omega)]
  have e0:decide (b.toNat≤57)=false:=decide_eq_false (by omega)
  have e1:decide (65≤b.toNat)=true:=qPq (by omega)
  by_cases h2:90<b.toNat
  ·rw[if_pos (by omega),if_neg (by omega)]
   have e3:decide (b.toNat≤90)=false:=decide_eq_false (by omega)
   have e4:decide ((57:Int)<b.toNat)=true:=qPq (by omega)
   simp[e0,e1,e3,e4]
  ·rw[if_neg (by omega)]
   have e3:decide (b.toNat≤90)=true:=qPq (by omega)
   simp[e0,e1,e3]
theorem qnT (n:Nat) (h:128≤n):Zt (n:Int)=true:=by
 unfold Zt
 rw[if_neg (by omega),if_pos (by omega),if_neg (by omega)]
 exact qPq (by omega)
theorem qqU (s:ByteArray) (i:Nat) (h:i<s.size):s.get! i=s.data.toList.getD i 0:=by
 obtain⟨⟨l⟩⟩:=s
 have h':i<l.length:=h
 show(Array.mk l)[i]! = l.getD i 0
 simp[h',List.getD]
theorem qhH (s:ByteArray):∀(r:List UInt8) (p:Nat),r.length+p=s.size→(∀j,r[j]?=s.data.toList[p+j]?)→∃e,zy (Qs s true) p=some e∧((∃i:Int,e = .inl i∧0≤i∧r.all qb0=false)∨(e = .inr ()∧r.all qb0=true)):=by
 intro r
 induction r with
 | nil=>
  intro p hp _
  have hp:p=s.size:=by simpa using hp
  subst hp
  refine⟨.inr (),zt ?_,.inr ⟨rfl,rfl⟩⟩
  unfold Qs
  rw[if_neg (by omega)]
 | cons b r ih=>
  intro p hp hr
  simp only[qOA] at hp
  have hb:s.data.toList[p]?=some b:=by have:=hr 0;simpa using this.symm
  have hg:s.get! p=b:=by rw[qqU s p (by omega),List.getD,hb];rfl
  by_cases h:b.toNat<128
  ·have hd:=qqD s p (by rw[hg];exact h)
   rw[hg] at hd
   cases ho:qb0 b
   ·refine⟨.inl (p:Int),zt ?_,.inl ⟨_,rfl,by omega,by simp[ho]⟩⟩
    unfold Qs
    rw[if_pos (by omega),hd,qdT b h,ho]
    rfl
   ·obtain⟨e,h1,h2⟩:=ih (p+1) (by omega) (fun j=>by rw[show p+1+j=p+(j+1) by omega,←hr (j+1)];rfl)
    refine⟨e,?_,by rw[List.all_cons,ho,qOW];exact h2⟩
    rw[zW (y:=p+1) (by
     unfold Qs
     rw[if_pos (by omega),hd,qdT b h,ho]
     rfl)]
    exact h1
  ·have hbig:=quk s p (by rw[hg];exact h)
   have hbad:qb0 b=false:=by
    unfold qb0
    have e1:decide (b.toNat≤57)=false:=decide_eq_false (by omega)
    have e2:decide (b.toNat≤90)=false:=decide_eq_false (by omega)
    simp[e1,e2]
   refine⟨.inl (p:Int),zt ?_,.inl ⟨_,rfl,by omega,by simp[hbad]⟩⟩
   unfold Qs
   rw[if_pos (by omega),qnT _ hbig]
   rfl
def qrf (s:ByteArray):Bool:=decide (s.size≠0)&&decide (s.size≤8)&&s.data.toList.all qb0
theorem qlh (s:ByteArray):(s.toList==ByteArray.toList (ByteArray.mk (List.toArray [])))=decide (s.size=0):=by
 rw[ByteArray.toList_eq,ByteArray.toList_eq]
 obtain⟨⟨l⟩⟩:=s
 show(l==[])=decide (l.length=0)
 cases l<;>simp
theorem qul (s:ByteArray):q2k s=some (qrf s):=by
 unfold q2k qrf
 rw[qlh]
 by_cases h0:s.size=0
 ·simp[h0]
 ·have e0:decide (s.size=0)=false:=decide_eq_false h0
  have e1:decide (s.size≠0)=true:=qPq h0
  rw[e0,e1,if_pos (by rfl)]
  by_cases h8:s.size≤8
  ·have e2:decide (s.size≤8)=true:=qPq h8
   obtain⟨e,h1,h2⟩:=qhH s s.data.toList 0 (by simp) (by simp)
   rw[if_pos (by omega),e2]
   unfold q0q q0s
   rw[h1,qOp]
   rcases h2 with ⟨i,rfl,hi,ha⟩|⟨rfl,ha⟩
   ·rw[Sum.elim_inl,qOp,qOp,ha]
    have:decide (i<0)=false:=decide_eq_false (by omega)
    rw[this];rfl
   ·rw[Sum.elim_inr,qOp,qOp,ha]
    rfl
  ·have e2:decide (s.size≤8)=false:=decide_eq_false h8
   rw[if_neg (by omega),e2]
   rfl
def inF (n a b:Int):Bool:=decide (a≤n)&&decide (n≤b)
theorem q3i (n a b:Int):zx n a b=inF n a b:=by
 unfold zx inF
 by_cases h:a≤n<;>simp[h]
def q1e (c:qc):Bool:=inF c.School 1 8&&qrf c.Code
theorem qep (c:qc):q11 c=some (q1e c):=by
 unfold q11 q1e
 rw[q3i,qul]
 cases inF c.School 1 8<;>simp
def qf8 (x y:Int):Int:=if x<y then -1 else if y<x then 1 else 0
def qEq (x y:ByteArray):Int:=if Op.bytesLess x.toList y.toList=true then -1 else if x.toList==y.toList then 0 else 1
def qum (a b:qc):Int:=if a.School≠b.School then qf8 a.School b.School else qEq a.Code b.Code
theorem qAt (x y:Int):q1i [x,y]=some (if x≠0 then x else y):=by
 unfold q1i
 by_cases hx:x=0
 ·by_cases hy:y=0
  ·rw[zW (y:=1) (by unfold ZA;simp[hx];rfl),zW (y:=2) (by unfold ZA;simp[hx,hy];rfl),zt (e := .inr ()) (by unfold ZA;simp)]
   simp[hx,hy]
  ·rw[zW (y:=1) (by unfold ZA;simp[hx];rfl),zt (e := .inl y) (by unfold ZA;simp[hx,hy])]
   simp[hx,hy]
 ·rw[zt (e := .inl x) (by unfold ZA;simp[hx])]
  simp[hx]
theorem qa7 (a b:qc):q0F a b=some (qum a b):=by
 unfold q0F
 rw[qAt,qOp]
 congr 1
 have e1:Q9 a.School b.School=qf8 a.School b.School:=by
  unfold Q9 Qj qf8
  simp
 have e2:Zc a.Code b.Code=qEq a.Code b.Code:=by
  unfold Zc qEq
  cases h1:Op.bytesLess a.Code.toList b.Code.toList
  ·cases h2:(a.Code.toList==b.Code.toList)<;>simp
  ·simp
 rw[e1,e2]
 unfold qum
 by_cases h:a.School=b.School
 ·have:qf8 a.School b.School=0:=by unfold qf8;rw[if_neg (by omega),if_neg (by omega)]
  simp[h,this]
  intro h2;exact absurd (by unfold qf8;simp) h2
 ·have:qf8 a.School b.School≠0:=by unfold qf8;split<;>(try split)<;>omega
  simp[h,this]
def qgQ:List qc→Bool
 | x::y::l=>decide (qum x y<0)&&qgQ (y::l)
 | _=>true
def q2Z (n:qb):Int:=
 if inF n.Min (-1000) 1000=false then 3 else if inF n.Set.length 1 12=false then 2 else if n.Set.all q1e=false then 1 else if qgQ n.Set=true then 0 else 7
theorem qdH (l:List qc) (hl:l.length≤1000000):zI l=some (!l.all q1e):=by
 have h1:=q29 (ε:=Int⊕Unit) (step:=zn l (l.length:Int)) l (fun(b:Unit) i=>(i:Int)) (fun i b a=>if(!q1e a)=true then .inr (.inl (i:Int)) else .inl ()) (fun _ => .inr ()) (fun b i a ha=>by
   have hi:=Ja ha
   have hw:w64 ((i:Int)+1)=((i+1:Nat):Int):=Qr hi (by omega)
   unfold zn q1V
   rw[if_pos (by omega),if_pos ⟨by omega,by omega⟩,qOs,ha,qOp,hw,qep,qOp,qOp]
   cases q1e a<;>simp) (fun b=>by
   unfold zn
   rw[if_neg (by omega)]) ()
 have h2:=qcW (fun a => !q1e a) l 0
 unfold zI Qg
 rw[show((0:Nat):Int)=0 from rfl] at h1
 rw[h1,qOp]
 have e:l.any (fun a => !q1e a) = !l.all q1e:=by
  clear h1 h2 hl
  induction l with
  | nil=>rfl
  | cons a l ih=>rw[List.any_cons,List.all_cons,ih];cases q1e a<;>simp
 rw[←e,←h2]
 cases(q4l (ε:=Int⊕Unit) (fun i (_:Unit) (a:qc)=>if(!q1e a)=true then .inr (.inl (i:Int)) else .inl ()) (fun _ => .inr ()) l 0 ())<;>rfl
theorem qln (n:qb) (hl:n.Set.length≤1000000):∀(r:List qc) (i:Nat),r.length+i=n.Set.length→(∀j,r[j]?=n.Set[i+j]?)→zy (Zq n n.Set (n.Set.length:Int)) (i:Int)=some (if(match i,n.Set[i-1]? with|_+1,some x=>qgQ (x::r)|_,_=>qgQ r)=true then .inr () else .inl ()):=by
 intro r
 induction r with
 | nil=>
  intro i hi _
  have hi:i=n.Set.length:=by simpa using hi
  subst hi
  refine zt ?_
  unfold Zq
  rw[if_neg (by omega)]
  split<;>simp[qgQ]
 | cons a r ih=>
  intro i hi hr
  simp only[qOA] at hi
  have hget:n.Set[i]?=some a:=by have:=hr 0;simpa using this.symm
  have hlt:=Ja hget
  have hnext:=ih (i+1) (by omega) (fun j=>by rw[show i+1+j=i+(j+1) by omega,←hr (j+1)];rfl)
  simp only[Nat.add_sub_cancel,hget] at hnext
  cases i with
  | zero=>
   rw[zW (y:=((0+1:Nat):Int)) (by
    unfold Zq
    rw[if_pos (by omega),if_pos ⟨by omega,by omega⟩,qOs,hget,qOp,if_neg (by omega),Qr hlt (by omega)])]
   exact hnext
  | succ i=>
   obtain⟨x,hx⟩:∃x,n.Set[i]?=some x:=⟨_,qOr (by omega)⟩
   simp only[Nat.add_sub_cancel,hx]
   have hw:w64 (((i+1:Nat):Int)-1)=(i:Int):=by rw[QF (by omega) (by omega)];omega
   by_cases hc:qum x a<0
   ·rw[zW (y:=((i+1+1:Nat):Int)) (by
     unfold Zq
     rw[if_pos (by omega),if_pos ⟨by omega,by omega⟩,qOs,hget,qOp,if_pos (by omega),hw,if_pos ⟨by omega,by omega⟩,qOs,hx,qOp,qa7,qOp,if_neg (by omega),Qr hlt (by omega)]),hnext]
    simp[qgQ,hc]
   ·rw[zt (e := .inl ()) (by
     unfold Zq
     rw[if_pos (by omega),if_pos ⟨by omega,by omega⟩,qOs,hget,qOp,if_pos (by omega),hw,if_pos ⟨by omega,by omega⟩,qOs,hx,qOp,qa7,qOp,if_pos (by omega)])]
    simp[qgQ,hc]
theorem qeg (n:qb) (hl:n.Set.length≤1000000):q0G n=some (q2Z n):=by
 unfold q0G q2Z
 rw[q3i,q3i,qdH _ hl,qOp]
 have h:=qln n hl n.Set 0 (by simp) (by simp)
 simp only at h
 rw[show((0:Nat):Int)=0 from rfl] at h
 rw[h,qOp]
 cases inF n.Min (-1000) 1000
 ·simp
 ·cases inF n.Set.length 1 12
  ·simp
  ·cases n.Set.all q1e
   ·simp
   ·cases qgQ n.Set<;>simp
def q8r (n:qb):Bool:=n.Min==0&&n.Set.isEmpty && !n.L.isEmpty
def q9z (n:qb):Int:=
 if n.Kind=1 then(if n.N≠0∨n.L≠[] then 13 else q2Z n)
 else if n.Kind=2 then(if n.L≠[] then 13 else if inF n.N 1 600=false then 3 else q2Z n)
 else if n.Kind=3 then(if q8r n=false∨n.N≠0 then 13 else 0)
 else if n.Kind=4 then(if q8r n=false then 13 else if inF n.N 1 n.L.length=false then 3 else 0)
 else 13
theorem qny (n:qb):Zl n=q8r n:=by
 unfold Zl q8r
 cases n.Min==0
 ·simp
 ·cases hS:n.Set<;>cases hL:n.L<;>simp
  all_goals omega
theorem qFX (n:qb) (hl:n.Set.length≤1000000):q1E n=some (if n.N≠0∨n.L≠[] then 13 else q2Z n):=by
 unfold q1E
 rw[qeg n hl,qOp]
 by_cases h:n.N=0
 ·cases hL:n.L with
  | nil=>simp[h]
  | cons x l=>rw[if_neg (by simp[h]),if_pos (by simp),if_pos (.inr (by simp))]
 ·simp[h]
theorem qF8 (n:qb) (hl:n.Set.length≤1000000):q1K n=some (if n.L≠[] then 13 else if inF n.N 1 600=false then 3 else q2Z n):=by
 unfold q1K
 rw[qeg n hl,qOp,q3i]
 cases hL:n.L with
 | nil=>
  cases hI:inF n.N 1 600<;>simp[hI]
 | cons x l=>rw[if_pos (by simp),if_pos (by simp)]
theorem qGA (n:qb):Jd n=if q8r n=false∨n.N≠0 then 13 else 0:=by
 unfold Jd
 rw[qny]
 cases q8r n
 ·simp
 ·by_cases h:n.N=0<;>simp[h]
theorem qFq (n:qb):Jn n=if q8r n=false then 13 else if inF n.N 1 n.L.length=false then 3 else 0:=by
 unfold Jn
 rw[qny,q3i]
 cases q8r n
 ·simp
 ·cases inF n.N 1 n.L.length<;>simp
def qti (l:List qb):Option Int:=l.findSome? fun y=>if q9z y≠0 then some (q9z y) else none
theorem qkY (l:List qb) (hl:l.length≤1000000) (hs:∀y∈l,y.Set.length≤1000000):zy (JE l (l.length:Int)) 0=some (match qti l with|some e => .inl e|none => .inr ()):=by
 have h1:=qgm (ε:=Int⊕Unit) (step:=JE l (l.length:Int)) l (fun i=>(i:Int)) (fun y=>if q9z y≠0 then some (.inl (q9z y)) else none) (.inr ()) (fun i y hy=>by
   have hi:=Ja hy
   have hw:w64 ((i:Int)+1)=((i+1:Nat):Int):=Qr hi (by omega)
   have hset:=hs y (qOq hy)
   unfold JE
   rw[if_pos (by omega),if_pos ⟨by omega,by omega⟩,qOs,hy,qOp,hw,qFX y hset,qF8 y hset,qGA,qFq,qOp,qOp]
   unfold q9z
   by_cases e1:y.Kind=1
   ·simp only[if_pos e1];generalize (if y.N≠0∨y.L≠[] then 13 else q2Z y)=v;by_cases h:v=0<;>simp[h]
   ·by_cases e2:y.Kind=2
    ·simp only[if_neg e1,if_pos e2];generalize (if y.L≠[] then 13 else if inF y.N 1 600=false then 3 else q2Z y)=v;by_cases h:v=0<;>simp[h]
    ·by_cases e3:y.Kind=3
     ·simp only[if_neg e1,if_neg e2,if_pos e3];generalize (if q8r y=false∨y.N≠0 then(13:Int) else 0)=v;by_cases h:v=0<;>simp[h]
     ·by_cases e4:y.Kind=4
      ·simp only[if_neg e1,if_neg e2,if_neg e3,if_pos e4];generalize (if q8r y=false then(13:Int) else if inF y.N 1 y.L.length=false then 3 else 0)=v;by_cases h:v=0<;>simp[h]
      ·simp[e1,e2,e3,e4]) (by
   unfold JE
   rw[if_neg (by omega)])
 rw[show((0:Nat):Int)=0 from rfl] at h1
 rw[h1]
 congr 1
 unfold qti
 clear h1 hl hs
 induction l with
 | nil=>rfl
 | cons y l ih=>
  rw[List.findSome?_cons,List.findSome?_cons]
  by_cases h:q9z y=0<;>simp only[h,ne_eq,not_true_eq_false,not_false_eq_true,if_true,if_false]
  ·exact ih
  ·rfl
def qdR (n:qb):Int:=
 if 24<(ndN n).length then 2 else if 5<dpN 1 n 0 then 2 else if inF ((ndN n).filter q1G).length 1 8=false then 2 else(qti (ndN n)).getD 0
theorem q9n (n:qb) (hh:hgN n≤100) (hn:(ndN n).length≤9999) (hs:∀y∈ndN n,y.Set.length≤1000000):Jz n=some (qdR n):=by
 unfold Jz qdR
 rw[qmu n hh hn,qOp,qfK n hh hn hs]
 simp only[qOp]
 rw[qkY (ndN n) (by omega) hs,q3i,if_neg (by simp)]
 by_cases h1:24<(ndN n).length
 ·rw[if_pos (by omega),if_pos h1]
 ·rw[if_neg (by omega),if_neg h1]
  by_cases h2:5<dpN 1 n 0
  ·rw[if_pos h2,if_pos h2]
  ·rw[if_neg h2,if_neg h2]
   cases inF ((ndN n).filter q1G).length 1 8
   ·simp
   ·simp only[Bool.not_true,Bool.false_eq_true,if_false,qOp]
    cases qti (ndN n)<;>rfl
end
noncomputable section
open Go.RowKit
section
variable {N:Nat} {best:Nat→Int} {M:Int}
theorem qo4 (rF:(qb×List qa×Int×qg)→Option (List Bool×List qa×Int×qg)) (hN:N≤65536) (hM:M≤1000000) (hb:Bnd best N M) (w9:List Bool) (b0:List qa) (b3:Int) (b4:qg) (b8:qb) (own:Nat→Bool) (skip:Bool) (t72:List qb) (t73 t74:Int) :
  zy (Zs rF w9 (Zh N best) b0 b3 b4 b8 (Zh N own) skip t72 t73 t74 ((N:Nat):Int)) (List.replicate N 0,0)=some (Zh N (stF skip own best)):=by
 have h1:=q2o (step:=Zs rF w9 (Zh N best) b0 b3 b4 b8 (Zh N own) skip t72 t73 t74 ((N:Nat):Int)) (fun i=>(Zh N (fun k=>if k<i then stF skip own best k else 0),(i:Int))) 0 N (qOP _) (e:=Zh N (stF skip own best)) (fun i _ hi=>by
   have hbi:=hb i hi
   have hw:w64 ((i:Int)+1)=((i+1:Nat):Int):=Qr hi (by omega)
   have hg:∀v:Int,v=(if skip=true then best i else -1)→qb2 (qb2 (fun k=>if k<i then stF skip own best k else 0) i v) i (eaF own best i i i (qb2 (fun k=>if k<i then stF skip own best k else 0) i v i))=fun k=>if k<i+1 then stF skip own best k else 0:=fun v hv=>by
    funext k
    rw[qcB,q9v]
    unfold qb2
    by_cases hk:k=i
    ·subst hk
     rw[if_pos rfl,if_pos (by omega)]
     unfold stF
     rw[←hv]
    ·rw[if_neg hk]
     show(if k<i then stF skip own best k else 0)=_
     by_cases h:k<i
     ·rw[if_pos h,if_pos (by omega)]
     ·rw[if_neg h,if_neg (by omega)]
   unfold Zs
   simp only
   rw[if_pos (by omega),zF,if_pos ⟨by omega,by omega⟩,qOs,if_pos (by omega)]
   cases hs:skip
   ·simp only[Bool.false_eq_true,if_false]
    rw[Jw]
    unfold Qf
    rw[qez hN hM hb (own:=own) hi i i (qOF _) (qOF _),qOp,qOp,hw,←hs,hg (-1) (by rw[hs];rfl)]
   ·simp only[if_true]
    rw[zF,if_pos ⟨by omega,by omega⟩,J2 best hi,qOp,if_pos ⟨by omega,by omega⟩,if_pos (by omega),Jw,Jw,q9v]
    unfold Qf
    rw[qez hN hM hb (own:=own) hi i i (qOF _) (qOF _),qOp,qOp,hw,←hs,hg (best i) (by rw[hs];rfl)]) (by
   unfold Zs
   simp only
   rw[if_neg (by omega)]
   congr 2
   exact q0D fun k hk=>if_pos hk)
 rw[q4z]
 have e:(fun k:Nat=>if k<0 then stF skip own best k else 0)=fun _=>0:=by funext k;rw[if_neg (by omega)]
 rw[e] at h1
 exact h1
theorem qvK (rF:(qb×List qa×Int×qg)→Option (List Bool×List qa×Int×qg)) (hN:N≤65536) (hN1:1≤N) (w9:List Bool) (b0:List qa) (b3:Int) (b4:qg) (b8:qb) :
  zy (Zo rF w9 b0 b3 b4 b8) (List.replicate N 0,1)=some (Zh N b0F):=by
 have h1:=q2o (step:=Zo rF w9 b0 b3 b4 b8) (fun i=>(Zh N (fun k=>if 1≤k∧k<i then -1 else 0),(i:Int))) 1 N hN1 (e:=Zh N b0F) (fun i h1 hi=>by
   have hw:w64 ((i:Int)+1)=((i+1:Nat):Int):=Qr hi (by omega)
   unfold Zo
   simp only
   rw[zF,if_pos (by omega),if_pos ⟨by omega,by omega⟩,qOs,if_pos (by omega),hw,Jw]
   rw[qlo (fun _=>(-1:Int)) 0 h1]) (by
   unfold Zo
   simp only
   rw[zF,if_neg (by omega)]
   congr 2
   refine q0D fun k hk=>?_
   unfold b0F
   by_cases h:k=0
   ·rw[if_pos h,if_neg (by omega)]
   ·rw[if_neg h,if_pos (by omega)])
 rw[q4z]
 have e:(fun k:Nat=>if 1≤k∧k<1 then(-1:Int) else 0)=fun _=>0:=by funext k;rw[if_neg (by omega)]
 rw[e] at h1
 exact h1
theorem qo1 (rF:(qb×List qa×Int×qg)→Option (List Bool×List qa×Int×qg)) (hN:N≤65536) (hN1:1≤N) (b0:List qa) (b3:Int) (b4:qg) (least:Int) :
  zy (Zr rF (Zh N best) b0 b3 b4 least) (List.replicate N false,1)=some (Zh N (fun k=>decide (k≠0)&&decide (least≤best k))):=by
 have h1:=q2o (step:=Zr rF (Zh N best) b0 b3 b4 least) (fun i=>(Zh N (fun k=>if 1≤k∧k<i then decide (least≤best k) else false),(i:Int))) 1 N hN1 (e:=Zh N (fun k=>decide (k≠0)&&decide (least≤best k))) (fun i h1 hi=>by
   have hw:w64 ((i:Int)+1)=((i+1:Nat):Int):=Qr hi (by omega)
   unfold Zr
   simp only
   rw[zF,zF,if_pos (by omega),if_pos ⟨by omega,by omega⟩,qOs,J2 best hi,qOp,if_pos ⟨by omega,by omega⟩,if_pos (by omega),hw,Jw]
   rw[qlo (fun k=>decide (least≤best k)) false h1]) (by
   unfold Zr
   simp only
   rw[zF,if_neg (by omega)]
   congr 2
   refine q0D fun k hk=>?_
   by_cases h:k=0
   ·subst h;simp
   ·rw[if_pos ⟨by omega,hk⟩];simp[h])
 rw[q4z]
 have e:(fun k:Nat=>if 1≤k∧k<1 then decide (least≤best k) else false)=fun _=>false:=by funext k;rw[if_neg (by omega)]
 rw[e] at h1
 exact h1
theorem qjq (rF:(qb×List qa×Int×qg)→Option (List Bool×List qa×Int×qg)) (d:List Int) (hd:d=[]) (s:qg) (l:List qa) (hl:l.length≤16) (n:qb) (hn:n.Set.length≤1000000) (nx:Nat) (hnx:nx≤1000000) (step:List Bool×Int→Option ((List Bool×Int)⊕List Bool))
  (hst:step=(if n.Kind=1 then Jb rF l (nx:Int) s n else Jc rF l (nx:Int) s n)) (hN:N≤65536) (hN1:1≤N) :
  zy step (List.replicate N false,1)=some (Zh N (q1Y d s l n nx)):=by
 have h1:=q2o (step:=step) (fun i=>(Zh N (fun k=>if 1≤k∧k<i then q1Y d s l n nx k else false),(i:Int))) 1 N hN1 (e:=Zh N (q1Y d s l n nx)) (fun i h1 hi=>by
   have hw:w64 ((i:Int)+1)=((i+1:Nat):Int):=Qr hi (by omega)
   have hc:Zh N (qb2 (fun k=>if 1≤k∧k<i then q1Y d s l n nx k else false) i (q1Y d s l n nx i))=Zh N (fun k=>if 1≤k∧k<i+1 then q1Y d s l n nx k else false):=by
    rw[qlo (q1Y d s l n nx) false h1]
   have hz:decide (i≠0)=true:=qPq (by omega)
   have hwg:=qjN n (by omega) s l (by omega) i (by omega)
   have hal:alF d nx i=true:=by rw[hd];rfl
   have hv:q1Y d s l n nx i=(alF d nx i&&qe0 n (wgF n s i l 0 ld0)):=by unfold q1Y;rw[hz];simp
   have m1:n.Kind=1→Q0 (wgF n s i l 0 ld0) n=qe0 n (wgF n s i l 0 ld0):=fun hk=>by
    unfold Q0 qe0
    rw[if_pos hk]
    cases(wgF n s i l 0 ld0).fine<;>simp
   have m2:n.Kind≠1→Qv (wgF n s i l 0 ld0) n=qe0 n (wgF n s i l 0 ld0):=fun hk=>by
    unfold Qv qe0
    rw[if_neg hk]
    cases(wgF n s i l 0 ld0).fine
    ·simp
    ·by_cases h:0<(wgF n s i l 0 ld0).many<;>simp[h]
   rw[hst]
   by_cases hk:n.Kind=1
   ·rw[if_pos hk]
    unfold Jb
    simp only
    rw[zF,if_pos (by omega),hwg,qOp]
    rw[if_pos ⟨by omega,by omega⟩,qOs,if_pos (by omega),hw,m1 hk,Jw,←hc,hv,hal,qOW]
   ·rw[if_neg hk]
    unfold Jc
    simp only
    rw[zF,if_pos (by omega),hwg,qOp]
    rw[if_pos ⟨by omega,by omega⟩,qOs,if_pos (by omega),hw,m2 hk,Jw,←hc,hv,hal,qOW]) (by
   have hend:some (Sum.inr (α:=List Bool×Int) (Zh N (fun k=>if 1≤k∧k<N then q1Y d s l n nx k else false)))=some (Sum.inr (Zh N (q1Y d s l n nx))):=by
    congr 2
    refine q0D fun k hk=>?_
    by_cases h:k=0
    ·subst h;simp[q1Y]
    ·rw[if_pos ⟨by omega,hk⟩]
   rw[hst]
   by_cases hk:n.Kind=1
   ·rw[if_pos hk]
    unfold Jb
    simp only
    rw[zF,if_neg (by omega)]
    exact hend
   ·rw[if_neg hk]
    unfold Jc
    simp only
    rw[zF,if_neg (by omega)]
    exact hend)
 rw[q4z]
 have e:(fun k:Nat=>if 1≤k∧k<1 then q1Y d s l n nx k else false)=fun _=>false:=by funext k;rw[if_neg (by omega)]
 rw[e] at h1
 exact h1
end
end
noncomputable section
open Go.RowKit
section
variable {N:Nat} {best:Nat→Int} {M:Int}
theorem qmN (rF:(qb×List Int×List qa×Int×qg)→Option (List Bool×List Int×List qa×Int×qg)) (hN:N≤65536) (hM:M≤1000000) (hb:Bnd best N M) (w7:List Int) (w9:List Bool) (b0:List qa) (b3:Int) (b4:qg) (b8:qb) (own:Nat→Bool) (skip:Bool) (t72:List qb) (t73 t74:Int) :
  zy (Qz rF w7 w9 (Zh N best) b0 b3 b4 b8 (Zh N own) skip t72 t73 t74 ((N:Nat):Int)) (List.replicate N 0,0)=some (Zh N (stF skip own best)):=by
 have h1:=q2o (step:=Qz rF w7 w9 (Zh N best) b0 b3 b4 b8 (Zh N own) skip t72 t73 t74 ((N:Nat):Int)) (fun i=>(Zh N (fun k=>if k<i then stF skip own best k else 0),(i:Int))) 0 N (qOP _) (e:=Zh N (stF skip own best)) (fun i _ hi=>by
   have hbi:=hb i hi
   have hw:w64 ((i:Int)+1)=((i+1:Nat):Int):=Qr hi (by omega)
   have hg:∀v:Int,v=(if skip=true then best i else -1)→qb2 (qb2 (fun k=>if k<i then stF skip own best k else 0) i v) i (eaF own best i i i (qb2 (fun k=>if k<i then stF skip own best k else 0) i v i))=fun k=>if k<i+1 then stF skip own best k else 0:=fun v hv=>by
    funext k
    rw[qcB,q9v]
    unfold qb2
    by_cases hk:k=i
    ·subst hk
     rw[if_pos rfl,if_pos (by omega)]
     unfold stF
     rw[←hv]
    ·rw[if_neg hk]
     show(if k<i then stF skip own best k else 0)=_
     by_cases h:k<i
     ·rw[if_pos h,if_pos (by omega)]
     ·rw[if_neg h,if_neg (by omega)]
   unfold Qz
   simp only
   rw[if_pos (by omega),zF,if_pos ⟨by omega,by omega⟩,qOs,if_pos (by omega)]
   cases hs:skip
   ·simp only[Bool.false_eq_true,if_false]
    rw[Jw]
    unfold Qf
    rw[qez hN hM hb (own:=own) hi i i (qOF _) (qOF _),qOp,qOp,hw,←hs,hg (-1) (by rw[hs];rfl)]
   ·simp only[if_true]
    rw[zF,if_pos ⟨by omega,by omega⟩,J2 best hi,qOp,if_pos ⟨by omega,by omega⟩,if_pos (by omega),Jw,Jw,q9v]
    unfold Qf
    rw[qez hN hM hb (own:=own) hi i i (qOF _) (qOF _),qOp,qOp,hw,←hs,hg (best i) (by rw[hs];rfl)]) (by
   unfold Qz
   simp only
   rw[if_neg (by omega)]
   congr 2
   exact q0D fun k hk=>if_pos hk)
 rw[q4z]
 have e:(fun k:Nat=>if k<0 then stF skip own best k else 0)=fun _=>0:=by funext k;rw[if_neg (by omega)]
 rw[e] at h1
 exact h1
theorem qwX (rF:(qb×List Int×List qa×Int×qg)→Option (List Bool×List Int×List qa×Int×qg)) (hN:N≤65536) (hN1:1≤N) (w7:List Int) (w9:List Bool) (b0:List qa) (b3:Int) (b4:qg) (b8:qb) :
  zy (QX rF w7 w9 b0 b3 b4 b8) (List.replicate N 0,1)=some (Zh N b0F):=by
 have h1:=q2o (step:=QX rF w7 w9 b0 b3 b4 b8) (fun i=>(Zh N (fun k=>if 1≤k∧k<i then -1 else 0),(i:Int))) 1 N hN1 (e:=Zh N b0F) (fun i h1 hi=>by
   have hw:w64 ((i:Int)+1)=((i+1:Nat):Int):=Qr hi (by omega)
   unfold QX
   simp only
   rw[zF,if_pos (by omega),if_pos ⟨by omega,by omega⟩,qOs,if_pos (by omega),hw,Jw]
   rw[qlo (fun _=>(-1:Int)) 0 h1]) (by
   unfold QX
   simp only
   rw[zF,if_neg (by omega)]
   congr 2
   refine q0D fun k hk=>?_
   unfold b0F
   by_cases h:k=0
   ·rw[if_pos h,if_neg (by omega)]
   ·rw[if_neg h,if_pos (by omega)])
 rw[q4z]
 have e:(fun k:Nat=>if 1≤k∧k<1 then(-1:Int) else 0)=fun _=>0:=by funext k;rw[if_neg (by omega)]
 rw[e] at h1
 exact h1
theorem qnv (rF:(qb×List Int×List qa×Int×qg)→Option (List Bool×List Int×List qa×Int×qg)) (hN:N≤65536) (hN1:1≤N) (w7:List Int) (b0:List qa) (b3:Int) (b4:qg) (least:Int) :
  zy (QV rF w7 (Zh N best) b0 b3 b4 least) (List.replicate N false,1)=some (Zh N (fun k=>decide (k≠0)&&decide (least≤best k))):=by
 have h1:=q2o (step:=QV rF w7 (Zh N best) b0 b3 b4 least) (fun i=>(Zh N (fun k=>if 1≤k∧k<i then decide (least≤best k) else false),(i:Int))) 1 N hN1 (e:=Zh N (fun k=>decide (k≠0)&&decide (least≤best k))) (fun i h1 hi=>by
   have hw:w64 ((i:Int)+1)=((i+1:Nat):Int):=Qr hi (by omega)
   unfold QV
   simp only
   rw[zF,zF,if_pos (by omega),if_pos ⟨by omega,by omega⟩,qOs,J2 best hi,qOp,if_pos ⟨by omega,by omega⟩,if_pos (by omega),hw,Jw]
   rw[qlo (fun k=>decide (least≤best k)) false h1]) (by
   unfold QV
   simp only
   rw[zF,if_neg (by omega)]
   congr 2
   refine q0D fun k hk=>?_
   by_cases h:k=0
   ·subst h;simp
   ·rw[if_pos ⟨by omega,hk⟩];simp[h])
 rw[q4z]
 have e:(fun k:Nat=>if 1≤k∧k<1 then decide (least≤best k) else false)=fun _=>false:=by funext k;rw[if_neg (by omega)]
 rw[e] at h1
 exact h1
theorem qj8 (rF:(qb×List Int×List qa×Int×qg)→Option (List Bool×List Int×List qa×Int×qg)) (d:List Int) (hd:d.length≤16) (s:qg) (l:List qa) (hl:l.length≤16) (n:qb) (hn:n.Set.length≤1000000) (nx:Nat) (hnx:nx≤1000000) (step:List Bool×Int→Option ((List Bool×Int)⊕List Bool))
  (hst:step=(if n.Kind=1 then ZJ rF d l (nx:Int) s n else ZI rF d l (nx:Int) s n)) (hN:N≤65536) (hN1:1≤N) :
  zy step (List.replicate N false,1)=some (Zh N (q1Y d s l n nx)):=by
 have h1:=q2o (step:=step) (fun i=>(Zh N (fun k=>if 1≤k∧k<i then q1Y d s l n nx k else false),(i:Int))) 1 N hN1 (e:=Zh N (q1Y d s l n nx)) (fun i h1 hi=>by
   have hw:w64 ((i:Int)+1)=((i+1:Nat):Int):=Qr hi (by omega)
   have hc:Zh N (qb2 (fun k=>if 1≤k∧k<i then q1Y d s l n nx k else false) i (q1Y d s l n nx i))=Zh N (fun k=>if 1≤k∧k<i+1 then q1Y d s l n nx k else false):=by
    rw[qlo (q1Y d s l n nx) false h1]
   have hz:decide (i≠0)=true:=qPq (by omega)
   have hwg:=qjN n (by omega) s l (by omega) i (by omega)
   have hal:=qle d hd nx i (by omega)
   have hv:q1Y d s l n nx i=(alF d nx i&&qe0 n (wgF n s i l 0 ld0)):=by unfold q1Y;rw[hz];simp
   have m1:n.Kind=1→Q0 (wgF n s i l 0 ld0) n=qe0 n (wgF n s i l 0 ld0):=fun hk=>by
    unfold Q0 qe0
    rw[if_pos hk]
    cases(wgF n s i l 0 ld0).fine<;>simp
   have m2:n.Kind≠1→Qv (wgF n s i l 0 ld0) n=qe0 n (wgF n s i l 0 ld0):=fun hk=>by
    unfold Qv qe0
    rw[if_neg hk]
    cases(wgF n s i l 0 ld0).fine
    ·simp
    ·by_cases h:0<(wgF n s i l 0 ld0).many<;>simp[h]
   rw[hst]
   by_cases hk:n.Kind=1
   ·rw[if_pos hk]
    unfold ZJ
    simp only
    rw[zF,if_pos (by omega),hal,qOp]
    cases ha:alF d nx i
    ·rw[if_neg (by simp),if_pos ⟨by omega,by omega⟩,qOs,if_pos (by omega),hw,Jw,←hc,hv,ha,qPs]
    ·rw[if_pos rfl,hwg,qOp,if_pos ⟨by omega,by omega⟩,qOs,if_pos (by omega),hw,m1 hk,Jw,←hc,hv,ha,qOW]
   ·rw[if_neg hk]
    unfold ZI
    simp only
    rw[zF,if_pos (by omega),hal,qOp]
    cases ha:alF d nx i
    ·rw[if_neg (by simp),if_pos ⟨by omega,by omega⟩,qOs,if_pos (by omega),hw,Jw,←hc,hv,ha,qPs]
    ·rw[if_pos rfl,hwg,qOp,if_pos ⟨by omega,by omega⟩,qOs,if_pos (by omega),hw,m2 hk,Jw,←hc,hv,ha,qOW]) (by
   have hend:some (Sum.inr (α:=List Bool×Int) (Zh N (fun k=>if 1≤k∧k<N then q1Y d s l n nx k else false)))=some (Sum.inr (Zh N (q1Y d s l n nx))):=by
    congr 2
    refine q0D fun k hk=>?_
    by_cases h:k=0
    ·subst h;simp[q1Y]
    ·rw[if_pos ⟨by omega,hk⟩]
   rw[hst]
   by_cases hk:n.Kind=1
   ·rw[if_pos hk]
    unfold ZJ
    simp only
    rw[zF,if_neg (by omega)]
    exact hend
   ·rw[if_neg hk]
    unfold ZI
    simp only
    rw[zF,if_neg (by omega)]
    exact hend)
 rw[q4z]
 have e:(fun k:Nat=>if 1≤k∧k<1 then q1Y d s l n nx k else false)=fun _=>false:=by funext k;rw[if_neg (by omega)]
 rw[e] at h1
 exact h1
end
end
noncomputable section
open Go.RowKit
theorem qdI (N:Nat) (d:List Int) (s:qg) (l:List qa) (n:qb) (nx:Nat):Zh N (QM d s l n nx)=if n.Kind=1∨n.Kind=2 then Zh N (q1Y d s l n nx) else Zh N (fun k=>decide (k≠0)&&decide ((if n.Kind=3 then(n.L.length:Int) else n.N)≤qbc d s l (n.Kind==4) n.L nx b0F k)):=by
 have:QM d s l n nx=fun k=>QM d s l n nx k:=rfl
 by_cases h:n.Kind=1∨n.Kind=2
 ·rw[if_pos h];refine q0D fun k _=>?_;rw[qc3,if_pos h]
 ·rw[if_neg h];refine q0D fun k _=>?_;rw[qc3,if_neg h]
theorem qov (d:List Int) (hd:d=[]) (s:qg) (l:List qa) (hl:l.length≤16) (n:qb) (hLn:n.L.length≤1000000)
  (hP:∀y∈n.L,∀nx:Nat,nx+(ndN y).length≤100000→Qk (y,l,(nx:Int),s)=some (Zh (2 ^ l.length) (QM d s l y nx),l,((nx+lvN y:Nat):Int),s)) (w9:List Bool) :
  ∀(r:List qb) (i nx:Nat) (best:Nat→Int) (M:Int),r.length+i=n.L.length→(∀j,r[j]?=n.L[i+j]?)→nx+(ndL r).length≤100000→Bnd best (2 ^ l.length) M→0≤M→M+r.length≤100000→
  zy (Zp Qk w9 n n.L (n.L.length:Int)) (Zh (2 ^ l.length) best,l,(nx:Int),s,(i:Int))=some ((Zh (2 ^ l.length) (qbc d s l (n.Kind==4) r nx best),l,((nx+lvL r:Nat):Int),s)):=by
 intro r
 induction r with
 | nil=>
  intro i nx best M hi _ _ _ _ _
  have hi:i=n.L.length:=by simpa using hi
  subst hi
  refine zt ?_
  unfold Zp
  simp only
  rw[if_neg (by omega),lvL,Nat.add_zero]
  rfl
 | cons y r ih=>
  intro i nx best M hi hr hnx hb hM0 hM
  rw[ndL,qOw] at hnx
  have hlv:=qkD y
  simp only[qOA,Int.natCast_add,Int.natCast_one] at hM hi
  have hget:n.L[i]?=some y:=by have:=hr 0;simpa using this.symm
  have hlt:i<n.L.length:=Ja hget
  have hN:2 ^ l.length≤65536:=qP0 (Nat.pow_le_pow_right (by decide) hl) (by decide)
  have hN1:1≤2 ^ l.length:=Nat.one_le_two_pow
  have hcall:=hP y (qOq hget) nx (by omega)
  have hw:w64 ((i:Int)+1)=((i+1:Nat):Int):=Qr hlt (by omega)
  have hstep:Zp Qk w9 n n.L (n.L.length:Int) (Zh (2 ^ l.length) best,l,(nx:Int),s,(i:Int))=some (.inl (Zh (2 ^ l.length) (stF (n.Kind==4 && !foF d nx (nx+lvN y)) (QM d s l y nx) best),l,((nx+lvN y:Nat):Int),s,((i+1:Nat):Int))):=by
   unfold Zp
   simp only
   rw[if_pos (by omega),if_pos ⟨by omega,by omega⟩,qOs,hget,qOp,hcall,qOp]
   simp only[zF]
   have hfo:foF d nx (nx+lvN y)=false:=by rw[hd];rfl
   cases hk4:(n.Kind==4)
   ·rw[if_neg (by simp),if_pos ⟨by omega,by omega,by omega⟩,qo4 (M:=M) Qk hN (by omega) hb,qOp,hw,qPs]
   ·rw[if_pos rfl,if_pos ⟨by omega,by omega,by omega⟩,qo4 (M:=M) Qk hN (by omega) hb,qOp,hw,hfo]
    rfl
  rw[zW hstep,ih (i+1) _ _ (M+1) (by omega) (fun j=>by rw[show i+1+j=i+(j+1) by omega,←hr (j+1)];rfl) (by omega) (qp9 hb (by omega)) (by omega) (by omega)]
  rw[lvL,←qPj]
  rfl
theorem qlY (d:List Int) (hd:d=[]) (s:qg) (l:List qa) (hl:l.length≤16):∀(m:Nat) (n:qb),(ndN n).length≤m→(ndN n).length≤10000→(∀y∈ndN n,y.Set.length≤1000000)→∀nx:Nat,nx+(ndN n).length≤100000→Qk (n,l,(nx:Int),s)=some (Zh (2 ^ l.length) (QM d s l n nx),l,((nx+lvN n:Nat):Int),s):=by
 intro m
 induction m with
 | zero=>intro n h;rw[q00] at h;simp at h
 | succ m ih=>
  intro n h1 h2 h3 nx hnx
  have hN:2 ^ l.length≤65536:=qP0 (Nat.pow_le_pow_right (by decide) hl) (by decide)
  have hN1:1≤2 ^ l.length:=Nat.one_le_two_pow
  have hlv:=qkD n
  have hset:=h3 n (by rw[q00];exact qOE)
  have hsub:∀(L:List qb),(ndL L).length≤m→(ndL L).length≤10000→(∀y∈ndL L,y.Set.length≤1000000)→∀y∈L,∀nx:Nat,nx+(ndN y).length≤100000→Qk (y,l,(nx:Int),s)=some (Zh (2 ^ l.length) (QM d s l y nx),l,((nx+lvN y:Nat):Int),s):=by
   intro L
   induction L with
   | nil=>intro _ _ _ y hy;simp at hy
   | cons x L ihl=>
    intro g1 g2 g3 y hy
    rw[ndL,qOw] at g1 g2
    rw[ndL] at g3
    rcases qOL.1 hy with rfl|hy
    ·exact ih _ (by omega) (by omega) fun z hz=>g3 z (qOB _ hz)
    ·exact ihl (by omega) (by omega) (fun z hz=>g3 z (qOy _ hz)) y hy
  have e0:ndN n=n::ndL n.L:=q00 n
  have hlen:(ndN n).length=(ndL n.L).length+1:=by rw[e0];rfl
  have hP:=hsub n.L (by omega) (by omega) fun y hy=>h3 y (by rw[e0];exact qOx _ hy)
  have hLlen:∀L:List qb,L.length≤(ndL L).length:=fun L=>by
   induction L with
   | nil=>simp
   | cons x L ihL=>rw[ndL,qOw,qOA,q00,qOA];omega
  have hLl:=hLlen n.L
  have hpow:w64 ((1:Int)*(2:Int) ^ min l.length (IntKind.bits IntKind.i64))=((2 ^ l.length:Nat):Int):=by
   rw[show min l.length (IntKind.bits IntKind.i64)=l.length from Nat.min_eq_left (by show l.length≤64;omega),Int.one_mul,show((2:Int) ^ l.length)=((2 ^ l.length:Nat):Int) by simp]
   exact QF (by omega) (by omega)
  rw[qbk,q0T]
  rw[hpow,if_pos (by omega),if_pos ⟨by omega,by omega,by omega⟩,qOs,qbQ,qdI]
  by_cases hlf:n.Kind=1∨n.Kind=2
  ·have e1:q9N n=true:=by unfold q9N;rcases hlf with h|h<;>simp[h]
   have e2:lvN n=1:=by rw[qd5,if_pos hlf]
   have hw2:w64 ((nx:Int)+1)=((nx+1:Nat):Int):=by rw[QF (by omega) (by omega)];omega
   rw[if_pos e1,if_pos hlf,e2]
   unfold q0Z
   by_cases hk:n.Kind=1
   ·have hlt:=qjq Qk d hd s l hl n hset nx (by omega) _ (if_pos hk).symm hN hN1
    rw[if_pos (by simpa using hk),qOp,Sum.elim_inl,hlt,qOp,hw2]
   ·have hlt:=qjq Qk d hd s l hl n hset nx (by omega) _ (if_neg hk).symm hN hN1
    rw[if_neg (by simpa using hk),qOp,Sum.elim_inr,hlt,qOp,hw2]
  ·have e1:q9N n=false:=by unfold q9N;have h1:n.Kind≠1:=fun h=>hlf (.inl h);have h2:n.Kind≠2:=fun h=>hlf (.inr h);simp[h1,h2]
   have e2:lvN n=lvL n.L:=by rw[qd5,if_neg hlf]
   have hb0:Bnd b0F (2 ^ l.length) 0:=fun k _=>by unfold b0F;split<;>omega
   have hch:=qov d hd s l hl n (by omega) hP (List.replicate (2 ^ l.length) false) n.L 0 nx b0F 0 (by simp) (by simp) (by omega) hb0 (by omega) (by omega)
   rw[e1,if_neg (by simp),if_neg hlf,e2,if_pos ⟨by omega,by omega,by omega⟩]
   rw[qvK Qk hN hN1,qOp]
   change Option.bind (zy _ (Zh (2 ^ l.length) b0F,l,(nx:Int),s,((0:Nat):Int))) _=_
   rw[hch,qOp]
   simp only
   by_cases hk:n.Kind=3
   ·rw[if_pos (by simpa using hk),qo1 Qk hN hN1,qOp]
    simp only[if_pos hk]
   ·rw[if_neg (by simpa using hk),qo1 Qk hN hN1,qOp]
    simp only[if_neg hk]
theorem qot (d:List Int) (hd:d.length≤16) (s:qg) (l:List qa) (hl:l.length≤16) (n:qb) (hLn:n.L.length≤1000000)
  (hP:∀y∈n.L,∀nx:Nat,nx+(ndN y).length≤100000→zJ (y,d,l,(nx:Int),s)=some (Zh (2 ^ l.length) (QM d s l y nx),d,l,((nx+lvN y:Nat):Int),s)) (w9:List Bool) :
  ∀(r:List qb) (i nx:Nat) (best:Nat→Int) (M:Int),r.length+i=n.L.length→(∀j,r[j]?=n.L[i+j]?)→nx+(ndL r).length≤100000→Bnd best (2 ^ l.length) M→0≤M→M+r.length≤100000→
  zy (QW zJ w9 n n.L (n.L.length:Int)) (d,Zh (2 ^ l.length) best,l,(nx:Int),s,(i:Int))=some ((d,Zh (2 ^ l.length) (qbc d s l (n.Kind==4) r nx best),l,((nx+lvL r:Nat):Int),s)):=by
 intro r
 induction r with
 | nil=>
  intro i nx best M hi _ _ _ _ _
  have hi:i=n.L.length:=by simpa using hi
  subst hi
  refine zt ?_
  unfold QW
  simp only
  rw[if_neg (by omega),lvL,Nat.add_zero]
  rfl
 | cons y r ih=>
  intro i nx best M hi hr hnx hb hM0 hM
  rw[ndL,qOw] at hnx
  have hlv:=qkD y
  simp only[qOA,Int.natCast_add,Int.natCast_one] at hM hi
  have hget:n.L[i]?=some y:=by have:=hr 0;simpa using this.symm
  have hlt:i<n.L.length:=Ja hget
  have hN:2 ^ l.length≤65536:=qP0 (Nat.pow_le_pow_right (by decide) hl) (by decide)
  have hN1:1≤2 ^ l.length:=Nat.one_le_two_pow
  have hcall:=hP y (qOq hget) nx (by omega)
  have hw:w64 ((i:Int)+1)=((i+1:Nat):Int):=Qr hlt (by omega)
  have hstep:QW zJ w9 n n.L (n.L.length:Int) (d,Zh (2 ^ l.length) best,l,(nx:Int),s,(i:Int))=some (.inl (d,Zh (2 ^ l.length) (stF (n.Kind==4 && !foF d nx (nx+lvN y)) (QM d s l y nx) best),l,((nx+lvN y:Nat):Int),s,((i+1:Nat):Int))):=by
   unfold QW
   simp only
   rw[if_pos (by omega),if_pos ⟨by omega,by omega⟩,qOs,hget,qOp,hcall,qOp]
   simp only[zF]
   cases hk4:(n.Kind==4)
   ·rw[if_neg (by simp),if_pos ⟨by omega,by omega,by omega⟩,qmN (M:=M) zJ hN (by omega) hb,qOp,hw,qPs]
   ·rw[if_pos rfl,qlH d hd nx (nx+lvN y),qOp,if_pos ⟨by omega,by omega,by omega⟩,qmN (M:=M) zJ hN (by omega) hb,qOp,hw,qOW]
  rw[zW hstep,ih (i+1) _ _ (M+1) (by omega) (fun j=>by rw[show i+1+j=i+(j+1) by omega,←hr (j+1)];rfl) (by omega) (qp9 hb (by omega)) (by omega) (by omega)]
  rw[lvL,←qPj]
  rfl
theorem qlD (d:List Int) (hd:d.length≤16) (s:qg) (l:List qa) (hl:l.length≤16):∀(m:Nat) (n:qb),(ndN n).length≤m→(ndN n).length≤10000→(∀y∈ndN n,y.Set.length≤1000000)→∀nx:Nat,nx+(ndN n).length≤100000→zJ (n,d,l,(nx:Int),s)=some (Zh (2 ^ l.length) (QM d s l n nx),d,l,((nx+lvN n:Nat):Int),s):=by
 intro m
 induction m with
 | zero=>intro n h;rw[q00] at h;simp at h
 | succ m ih=>
  intro n h1 h2 h3 nx hnx
  have hN:2 ^ l.length≤65536:=qP0 (Nat.pow_le_pow_right (by decide) hl) (by decide)
  have hN1:1≤2 ^ l.length:=Nat.one_le_two_pow
  have hlv:=qkD n
  have hset:=h3 n (by rw[q00];exact qOE)
  have hsub:∀(L:List qb),(ndL L).length≤m→(ndL L).length≤10000→(∀y∈ndL L,y.Set.length≤1000000)→∀y∈L,∀nx:Nat,nx+(ndN y).length≤100000→zJ (y,d,l,(nx:Int),s)=some (Zh (2 ^ l.length) (QM d s l y nx),d,l,((nx+lvN y:Nat):Int),s):=by
   intro L
   induction L with
   | nil=>intro _ _ _ y hy;simp at hy
   | cons x L ihl=>
    intro g1 g2 g3 y hy
    rw[ndL,qOw] at g1 g2
    rw[ndL] at g3
    rcases qOL.1 hy with rfl|hy
    ·exact ih _ (by omega) (by omega) fun z hz=>g3 z (qOB _ hz)
    ·exact ihl (by omega) (by omega) (fun z hz=>g3 z (qOy _ hz)) y hy
  have e0:ndN n=n::ndL n.L:=q00 n
  have hlen:(ndN n).length=(ndL n.L).length+1:=by rw[e0];rfl
  have hP:=hsub n.L (by omega) (by omega) fun y hy=>h3 y (by rw[e0];exact qOx _ hy)
  have hLlen:∀L:List qb,L.length≤(ndL L).length:=fun L=>by
   induction L with
   | nil=>simp
   | cons x L ihL=>rw[ndL,qOw,qOA,q00,qOA];omega
  have hLl:=hLlen n.L
  have hpow:w64 ((1:Int)*(2:Int) ^ min l.length (IntKind.bits IntKind.i64))=((2 ^ l.length:Nat):Int):=by
   rw[show min l.length (IntKind.bits IntKind.i64)=l.length from Nat.min_eq_left (by show l.length≤64;omega),Int.one_mul,show((2:Int) ^ l.length)=((2 ^ l.length:Nat):Int) by simp]
   exact QF (by omega) (by omega)
  rw[q98,q06]
  rw[hpow,if_pos (by omega),if_pos ⟨by omega,by omega,by omega⟩,qOs,qbQ,qdI]
  by_cases hlf:n.Kind=1∨n.Kind=2
  ·have e1:q9N n=true:=by unfold q9N;rcases hlf with h|h<;>simp[h]
   have e2:lvN n=1:=by rw[qd5,if_pos hlf]
   have hw2:w64 ((nx:Int)+1)=((nx+1:Nat):Int):=by rw[QF (by omega) (by omega)];omega
   rw[if_pos e1,if_pos hlf,e2]
   unfold q0Z
   by_cases hk:n.Kind=1
   ·have hlt:=qj8 zJ d hd s l hl n hset nx (by omega) _ (if_pos hk).symm hN hN1
    rw[if_pos (by simpa using hk),qOp,Sum.elim_inl,hlt,qOp,hw2]
   ·have hlt:=qj8 zJ d hd s l hl n hset nx (by omega) _ (if_neg hk).symm hN hN1
    rw[if_neg (by simpa using hk),qOp,Sum.elim_inr,hlt,qOp,hw2]
  ·have e1:q9N n=false:=by unfold q9N;have h1:n.Kind≠1:=fun h=>hlf (.inl h);have h2:n.Kind≠2:=fun h=>hlf (.inr h);simp[h1,h2]
   have e2:lvN n=lvL n.L:=by rw[qd5,if_neg hlf]
   have hb0:Bnd b0F (2 ^ l.length) 0:=fun k _=>by unfold b0F;split<;>omega
   have hch:=qot d hd s l hl n (by omega) hP (List.replicate (2 ^ l.length) false) n.L 0 nx b0F 0 (by simp) (by simp) (by omega) hb0 (by omega) (by omega)
   rw[e1,if_neg (by simp),if_neg hlf,e2,if_pos ⟨by omega,by omega,by omega⟩]
   rw[qwX zJ hN hN1,qOp]
   change Option.bind (zy _ (d,Zh (2 ^ l.length) b0F,l,(nx:Int),s,((0:Nat):Int))) _=_
   rw[hch,qOp]
   simp only
   by_cases hk:n.Kind=3
   ·rw[if_pos (by simpa using hk),qnv zJ hN hN1,qOp]
    simp only[if_pos hk]
   ·rw[if_neg (by simpa using hk),qnv zJ hN hN1,qOp]
    simp only[if_neg hk]
end
noncomputable section
open Go.RowKit
structure q0u (d:qi):Prop where
 lo:0≤d.At
 hi:d.At≤d.L.length
 len:d.L.length≤9223372036854775807
theorem q2m {d:qi} (h:q0u d) {most:Int} (h0:0<most) (h1:most≤1000000):∃v d',qs most d=some (v,d')∧0≤v∧v<most∧q0u d':=by
 obtain⟨a,b,c⟩:=h
 unfold qs
 by_cases he:(d.L.length:Int)≤d.At
 ·exact⟨0,d,if_pos he,Int.le_refl _,h0,⟨a,b,c⟩⟩
 ·obtain⟨x,hx⟩:∃x,d.L[Int.toNat d.At]?=some x:=⟨_,qOr (by omega)⟩
  have e1:=Int.tmod_lt_of_pos x h0
  have e2 : -most<Int.tmod x most:=by
   have:=Int.tmod_lt_of_pos (-x) h0
   rw[Int.neg_tmod] at this;omega
  have e3:w64 (Int.tmod x most+most)=Int.tmod x most+most:=QF (by omega) (by omega)
  have e4:=Int.tmod_lt_of_pos (Int.tmod x most+most) h0
  have e5:0≤Int.tmod (Int.tmod x most+most) most:=Int.tmod_nonneg _ (by omega)
  have e6:w64 (d.At+1)=d.At+1:=QF (by omega) (by omega)
  refine⟨Int.tmod (Int.tmod x most+most) most,⟨d.L,d.At+1⟩,?_,e5,e4,⟨by show 0≤d.At+1;omega,by show d.At+1≤d.L.length;omega,c⟩⟩
  rw[if_neg he,if_pos ⟨a,by omega⟩,hx,qOp,if_neg (by omega),if_neg (by omega),e3,e6]
def q9i:List Int:=[1,1,1,2,2,3]
def q5A (c:qc):Prop:=c.School∈q9i∧c.Code∈Q2
theorem qly {α:Type} (l:List α) (i:Int) (h0:0≤i) (h1:i<l.length):∃x,l[Int.toNat i]?=some x∧x∈l:=⟨l[Int.toNat i],qOr (by omega),qPh _⟩
theorem qh3 {d:qi} (h:q0u d):∃c d',JZ d=some (c,d')∧q5A c∧q0u d':=by
 obtain⟨v,d1,e1,a1,b1,h1⟩:=q2m h (most:=6) (by omega) (by omega)
 obtain⟨w,d2,e2,a2,b2,h2⟩:=q2m h1 (most:=((Q2.length:Nat):Int)) (by unfold Q2;simp) (by unfold Q2;simp)
 obtain⟨x,hx,mx⟩:=qly q9i v a1 (by simpa [q9i] using b1)
 obtain⟨y,hy,my⟩:=qly Q2 w a2 b2
 refine⟨⟨x,y⟩,d2,?_,⟨mx,my⟩,h2⟩
 unfold JZ
 rw[e1,qOp,if_pos ⟨a1,b1⟩]
 unfold q9i at hx
 rw[hx,qOp,e2,qOp,if_pos ⟨a2,b2⟩,hy,qOp]
theorem qaq {c:qc} (h:q5A c):q1e c=true:=by
 obtain⟨s,k⟩:=c
 obtain⟨h1,h2⟩:=h
 have e1:∀s∈q9i,inF s 1 8=true:=by decide
 have e2:∀k∈Q2,qrf k=true:=by unfold Q2;decide
 unfold q1e
 rw[e1 s h1,e2 k h2];rfl
theorem qsG:∀(x y:List UInt8),Op.bytesLess x y=true∨x=y∨Op.bytesLess y x=true
 | [],[] => .inr (.inl rfl)
 | [],_::_ => .inl rfl
 | _::_,[] => .inr (.inr rfl)
 | a::x,b::y=>by
  simp only[Op.bytesLess]
  by_cases h1:a<b
  ·simp[h1]
  ·by_cases h2:b<a
   ·simp[h1,h2]
   ·have:a=b:=by
     apply UInt8.toNat_inj.1
     have h1':¬ a.toNat<b.toNat:=h1
     have h2':¬ b.toNat<a.toNat:=h2
     omega
    subst this
    rcases qsG x y with h|h|h<;>simp[h]
def q40 (a b:qc):Bool:=Qm a b
theorem qjb (a b:qc):q40 a b=decide (qum a b<0):=by
 unfold q40 Qm qum qf8 qEq
 by_cases h1:a.School<b.School
 ·rw[if_pos h1,if_pos (by omega),if_pos h1];rfl
 ·rw[if_neg h1]
  by_cases h2:a.School=b.School
  ·rw[if_pos (by simpa using h2),if_neg (fun h=>h h2)]
   cases h3:Op.bytesLess a.Code.toList b.Code.toList
   ·cases h4:(a.Code.toList==b.Code.toList)<;>simp
   ·simp
  ·rw[if_neg (by simpa using h2),if_pos h2,if_neg h1,if_pos (by omega)];rfl
theorem qqT (a b:qc):q40 a b=true∨ceq a b=true∨q40 b a=true:=by
 unfold q40 Qm ceq
 by_cases h1:a.School<b.School
 ·simp[h1]
 ·by_cases h2:b.School<a.School
  ·simp[h2]
  ·have h3:a.School=b.School:=by omega
   rcases qsG a.Code.toList b.Code.toList with h|h|h
   ·left;simp[h3,h]
   ·right;left;simp[h3,h]
   ·right;right;simp[h3,h]
def qhe {α:Type} (l:List α) (k:Nat) (c:α):List α:=l.take k++c::l.drop k
theorem qsZ {α:Type}:∀(ys l:List α) (k:Nat),k+ys.length≤l.length→spl l k ys=l.take k++(ys++l.drop (k+ys.length))
 | [],l,k,_=>by rw[spl,qP9,Nat.add_zero,qOJ,qPe]
 | x::ys,l,k,h=>by
  simp only[qOA] at h ⊢
  rw[spl,qsZ ys (l.set k x) (k+1) (by rw[qPb];omega)]
  have e:l.set k x=l.take k++x::l.drop (k+1):=by rw[List.set_eq_take_append_cons_drop,if_pos (by omega)]
  have hl:(l.take k).length=k:=by rw[qOS];omega
  have e1:(l.set k x).take (k+1)=l.take k++[x]:=by
   rw[e,List.take_append,hl,qPx (by omega),show k+1-k=1 by omega];rfl
  have e2:(l.set k x).drop (k+1+ys.length)=l.drop (k+(ys.length+1)):=by
   rw[e,List.drop_append,hl,qP6 (by omega),qOJ,show k+1+ys.length-k=ys.length+1 by omega,List.drop_succ_cons,qPd]
   congr 1;omega
  rw[e1,e2,qP5]
  rfl
theorem qpy {α:Type} (l:List α) (z c:α) (k:Nat) (h:k<l.length):List.set (spl (l++[z]) (k+1) (List.take (min (l.length+1-k) (l.length+1-(k+1))) (List.take (l.length+1-k) (List.drop k (l++[z]))))) k c=qhe l k c:=by
 have e1:List.take (min (l.length+1-k) (l.length+1-(k+1))) (List.take (l.length+1-k) (List.drop k (l++[z])))=l.drop k:=by
  rw[List.take_take,List.drop_append_of_le_length (by omega),show min (min (l.length+1-k) (l.length+1-(k+1))) (l.length+1-k)=l.length-k by omega,List.take_append_of_le_length (by rw[qPc];omega),qPx (by rw[qPc];omega)]
 rw[e1,qsZ _ _ _ (by rw[qPc,qOw,qOH];omega)]
 unfold qhe
 have e2:List.drop (k+1+(l.length-k)) (l++[z])=[]:=qP6 (by rw[qOw,qOH];omega)
 rw[qPc,e2,qOK,List.take_append_of_le_length (by omega)]
 rw[List.take_add_one,qOr h,Option.toList_some,qP5,List.set_append_right _ _ (by rw[qOS];omega),qOS,Nat.min_eq_left (by omega),Nat.sub_self]
 rfl
theorem qk9 {α:Type} (l:List α) (z c:α):List.set (l++[z]) l.length c=qhe l l.length c:=by
 unfold qhe
 rw[List.set_append_right _ _ (qOF _),Nat.sub_self,List.take_length,List.drop_length]
 rfl
end
noncomputable section
open Go.RowKit
structure qaG (l:List qc):Prop where
 ok:∀c∈l,q5A c
 ord:qgQ l=true
theorem q5b {x y:qc} {l:List qc}:qgQ (x::y::l)=(q40 x y&&qgQ (y::l)):=by rw[qgQ,qjb]
theorem qm5 {x:qc} {l:List qc} (h:qgQ (x::l)=true):qgQ l=true:=by
 cases l with
 | nil=>rfl
 | cons y l=>rw[q5b,qOV] at h;exact h.2
def atF (l:List qc) (c:qc):Nat:=(l.takeWhile fun x=>q40 x c).length
theorem qnQ (l:List qc) (c:qc):atF l c≤l.length:=by
 unfold atF
 induction l with
 | nil=>simp
 | cons x l ih=>rw[List.takeWhile_cons];split<;>simp<;>omega
theorem qpD {c:qc}:∀{l:List qc},qgQ l=true→(∀x,l[atF l c]?=some x→ceq x c=false)→qgQ (qhe l (atF l c) c)=true
 | [],_,_=>rfl
 | x::l,h,hc=>by
  by_cases hx:q40 x c=true
  ·have e:atF (x::l) c=atF l c+1:=by unfold atF;rw[List.takeWhile_cons,if_pos hx];rfl
   rw[e] at hc ⊢
   have ih:=qpD (qm5 h) (fun y hy=>hc y (by simpa using hy))
   have e2:qhe (x::l) (atF l c+1) c=x::qhe l (atF l c) c:=rfl
   rw[e2]
   cases l with
   | nil=>rw[show qhe ([]:List qc) (atF [] c) c=[c] from rfl,q5b,hx];rfl
   | cons y l=>
    rw[q5b,qOV] at h
    by_cases hy:q40 y c=true
    ·have e3:atF (y::l) c=atF l c+1:=by unfold atF;rw[List.takeWhile_cons,if_pos hy];rfl
     rw[e3] at ih ⊢
     have e4:qhe (y::l) (atF l c+1) c=y::qhe l (atF l c) c:=rfl
     rw[e4] at ih ⊢
     rw[q5b,h.1,ih];rfl
    ·have e3:atF (y::l) c=0:=by unfold atF;rw[List.takeWhile_cons,if_neg hy];rfl
     rw[e3] at ih ⊢
     have e4:qhe (y::l) 0 c=c::y::l:=rfl
     rw[e4] at ih ⊢
     rw[q5b,hx,ih];rfl
  ·have e:atF (x::l) c=0:=by unfold atF;rw[List.takeWhile_cons,if_neg hx];rfl
   rw[e] at hc ⊢
   have e2:qhe (x::l) 0 c=c::x::l:=rfl
   rw[e2,q5b]
   have h1:=hc x (by simp)
   rcases qqT x c with h2|h2|h2
   ·exact absurd h2 hx
   ·rw[h2] at h1;cases h1
   ·rw[h2,h];rfl
theorem quF (out:List qc) (hl:out.length≤1000000) (d:qi) (c:qc) (many k:Int):zy (JW out d c many k) 0=some ((atF out c:Nat):Int):=by
 have h1:=q29 (ε:=Int) (step:=JW out d c many k) out (fun(_:Unit) i=>(i:Int)) (fun i _ x=>if q40 x c=true then .inl () else .inr (i:Int)) (fun _=>(out.length:Int)) (fun _ i x hx=>by
   have hi:=Ja hx
   unfold JW
   rw[if_pos (by omega),if_pos ⟨by omega,by omega⟩,qOs,hx,qOp,Qr hi (by omega)]
   show(if q40 x c=true then _ else _)=_
   cases q40 x c<;>simp) (fun _=>by
   unfold JW
   rw[if_neg (by omega)]) ()
 rw[show((0:Nat):Int)=0 from rfl] at h1
 rw[h1]
 congr 1
 have:∀(l:List qc) (i:Nat) (n:Nat),i+l.length=n→q4l (ε:=Int) (fun i (_:Unit) (x:qc)=>if q40 x c=true then .inl () else .inr (i:Int)) (fun _=>(n:Int)) l i ()=((i+atF l c:Nat):Int):=by
  intro l
  induction l with
  | nil=>intro i n h;simp at h;unfold q4l atF;simp[h]
  | cons x l ih=>
   intro i n h
   simp only[qOA] at h
   unfold q4l
   by_cases hx:q40 x c=true
   ·have e:atF (x::l) c=atF l c+1:=by unfold atF;rw[List.takeWhile_cons,if_pos hx];rfl
    simp only[hx,if_true]
    rw[ih (i+1) n (by omega),e]
    omega
   ·have e:atF (x::l) c=0:=by unfold atF;rw[List.takeWhile_cons,if_neg hx];rfl
    have hx':q40 x c=false:=by simpa using hx
    simp only[hx',Bool.false_eq_true,if_false]
    rw[e];rfl
 have:=this out 0 out.length (by simp)
 simpa using this
def qi1 (l:List qc) (c:qc):List qc:=if(l[atF l c]?).any (fun x=>ceq x c)=true then l else qhe l (atF l c) c
theorem qhJ (l:List qc) (c:qc):l.length≤(qi1 l c).length∧(qi1 l c).length≤l.length+1∧1≤(qi1 l c).length:=by
 have h:=qnQ l c
 unfold qi1
 split
 ·rename_i h2
  refine⟨qOF _,by omega,?_⟩
  cases l with
  | nil=>simp at h2
  | cons x l=>simp
 ·unfold qhe
  simp only[qOw,qOA,qOS,qPc]
  omega
theorem qqW {l:List qc} {c:qc} (h:qaG l) (hc:q5A c):qaG (qi1 l c):=by
 unfold qi1
 split
 ·exact h
 ·rename_i h2
  refine⟨fun x hx=>?_,qpD h.ord fun x hx=>?_⟩
  ·unfold qhe at hx
   rcases qOT.1 hx with hx|hx
   ·exact h.ok x (List.mem_of_mem_take hx)
   ·rcases qOL.1 hx with rfl|hx
    ·exact hc
    ·exact h.ok x (List.mem_of_mem_drop hx)
  ·rw[hx] at h2
   simpa using h2
theorem qoR (out:List qc) (hl:out.length≤1000) {d:qi} (hd:q0u d) (many:Int) (k:Nat) (hk:(k:Int)<many) (hk2:k≤1000):∃c d',q5A c∧q0u d'∧ZZ many (out,d,(k:Int))=some (.inl (qi1 out c,d',((k+1:Nat):Int))):=by
 obtain⟨c,d',h1,h2,h3⟩:=qh3 hd
 refine⟨c,d',h2,h3,?_⟩
 have hML:100000≤maxLen:=by unfold maxLen;omega
 have hat:=qnQ out c
 unfold ZZ
 simp only
 rw[if_pos hk,h1,qOp]
 simp only
 rw[quF out (by omega),qOp]
 have hwk:w64 ((k:Int)+1)=((k+1:Nat):Int):=by rw[QF (by omega) (by omega)];omega
 have hwa:w64 (((atF out c:Nat):Int)+1)=((atF out c+1:Nat):Int):=by rw[QF (by omega) (by omega)];omega
 rw[hwk,hwa]
 simp only[qOs,qOS,qPc,qOw,qOA,qP9]
 unfold qi1
 by_cases hlt:atF out c<out.length
 ·obtain⟨x,hx⟩:∃x,out[atF out c]?=some x:=⟨_,qOr hlt⟩
  rw[if_pos (by omega),if_pos ⟨by omega,by omega⟩,hx,qOp]
  simp only[Option.any_some]
  by_cases hc:ceq x c=true
  ·have hc2:=hc
   unfold ceq at hc2
   simp only[qOV] at hc2
   rw[if_pos hc2,if_pos hc]
  ·have hc2:¬ ((x.School==c.School)=true∧(x.Code.toList==c.Code.toList)=true):=fun h=>hc (by unfold ceq;rw[h.1,h.2];rfl)
   rw[if_neg hc2,if_neg hc]
   repeat (first|rw[if_pos (by omega)]|rw[if_neg (by omega)])
   rw[qpy _ _ _ _ hlt]
 ·have he:atF out c=out.length:=by omega
  have hnone:out[out.length]?=none:=qOX (qOF _)
  rw[he,hnone]
  simp only[Option.any_none,Bool.false_eq_true,if_false]
  repeat (first|rw[if_pos (by omega)]|rw[if_neg (by omega)])
  rw[qk9]
theorem qIJ {d:qi} (hd:q0u d):∃S d',Jg d=some (S,d')∧q0u d'∧qaG S∧1≤S.length∧S.length≤3:=by
 obtain⟨v,d1,e1,a1,b1,h1⟩:=q2m hd (most:=3) (by omega) (by omega)
 obtain⟨m,rfl⟩:∃m:Nat,v=(m:Int):=⟨v.toNat,by omega⟩
 have hw:w64 (1+(m:Int))=((m+1:Nat):Int):=by rw[QF (by omega) (by omega)];omega
 have key:∀(j k:Nat) (out:List qc) (d:qi),j+k=m+1→q0u d→qaG out→out.length≤k→(1≤k→1≤out.length)→∃S d',zy (ZZ ((m+1:Nat):Int)) (out,d,(k:Int))=some (S,d')∧q0u d'∧qaG S∧1≤S.length∧S.length≤m+1:=by
  intro j
  induction j with
  | zero=>
   intro k out d hk hd hs hl1 hl2
   refine⟨out,d,zt ?_,hd,hs,hl2 (by omega),by omega⟩
   unfold ZZ
   simp only
   rw[if_neg (by omega)]
  | succ j ih=>
   intro k out d hk hd hs hl1 hl2
   obtain⟨c,d',g1,g2,g3⟩:=qoR out (by omega) hd ((m+1:Nat):Int) k (by omega) (by omega)
   obtain⟨p1,p2,p3⟩:=qhJ out c
   rw[zW g3]
   exact ih (k+1) _ d' (by omega) g2 (qqW hs g1) (by omega) (fun _=>p3)
 obtain⟨S,d',g1,g2,g3,g4,g5⟩:=key (m+1) 0 [] d1 (by omega) h1 ⟨by simp,rfl⟩ (by simp) (by omega)
 refine⟨S,d',?_,g2,g3,g4,by omega⟩
 unfold Jg
 rw[e1,qOp,hw]
 rw[show((0:Nat):Int)=0 from rfl] at g1
 simp only
 rw[g1,qOp]
end
noncomputable section
open Go.RowKit
structure qbI (n:qb):Prop where
 kd:(n.Kind=2∧1≤n.N∧n.N≤12)∨(n.Kind=1∧n.N=0)
 mn:0≤n.Min∧n.Min≤80
 st:qaG n.Set
 s1:1≤n.Set.length
 s3:n.Set.length≤3
 nl:n.L=[]
structure qge (n:qb):Prop where
 kd:(n.Kind=3∧n.N=0)∨(n.Kind=4∧1≤n.N∧n.N≤n.L.length)
 mn:n.Min=0
 st:n.Set=[]
 ne:n.L≠[]
def q7z (n:qb):Prop:=qbI n∨qge n
structure q6b (deep leaves:Nat) (n:qb):Prop where
 ok:∀y∈ndN n,q7z y
 hg:hgN n≤deep+1
 l1:1≤lvN n
 l2:lvN n≤max 1 leaves
 nd:(ndN n).length≤lvN n*(deep+1)
theorem qc5 {n:qb} (h:qbI n) (deep leaves:Nat):q6b deep leaves n:=by
 have e1:ndN n=[n]:=by rw[q00,h.nl,ndL]
 have e2:lvN n=1:=by rw[qd5,if_pos];rcases h.kd with h|h<;>simp[h.1]
 have e3:hgN n=1:=by rw[qef,h.nl,hgL]
 refine⟨fun y hy=>?_,by omega,by omega,by omega,?_⟩
 ·rw[e1] at hy
  rw[qPg.1 hy];exact .inl h
 ·rw[e1,e2,qOH];omega
def qmm (d:qi):Option (qb×qi):=Option.bind (qs (3:Int) d) fun a3=>if(a3.1==(0:Int))=Bool.true then Option.bind (qs (12:Int) a3.2) fun a4=>Option.bind (qs (3:Int) a4.2) fun a5=>if(0:Int)≤a5.1∧a5.1<(3:Int) then Option.bind [(0:Int),(50:Int),(60:Int)][Int.toNat a5.1]? fun a6=>Option.bind (Jg a5.2) fun a7=>some (qb.mk (2:Int) (w64 ((1:Int)+a4.1)) a6 a7.1 [],a7.2) else none else Option.bind (qs (4:Int) a3.2) fun a8=>if(0:Int)≤a8.1∧a8.1<(4:Int) then Option.bind [(0:Int),(50:Int),(60:Int),(80:Int)][Int.toNat a8.1]? fun a9=>Option.bind (Jg a8.2) fun a10=>some (qb.mk (1:Int) (0:Int) a9 a10.1 [],a10.2) else none
theorem qjg {d:qi} (hd:q0u d):∃n d',qmm d=some (n,d')∧qbI n∧q0u d':=by
 obtain⟨v,d1,e1,a1,b1,h1⟩:=q2m hd (most:=3) (by omega) (by omega)
 unfold qmm
 rw[e1,qOp]
 simp only
 by_cases hv:v=0
 ·obtain⟨w,d2,e2,a2,b2,h2⟩:=q2m h1 (most:=12) (by omega) (by omega)
  obtain⟨u,d3,e3,a3,b3,h3⟩:=q2m h2 (most:=3) (by omega) (by omega)
  obtain⟨x,hx,mx⟩:=qly [(0:Int),50,60] u a3 (by simpa using b3)
  obtain⟨S,d4,e4,h4,s1,s2,s3⟩:=qIJ h3
  have hw:w64 (1+w)=1+w:=QF (by omega) (by omega)
  have hm:∀x∈[(0:Int),50,60],0≤x∧x≤80:=by decide
  refine⟨⟨2,1+w,x,S,[]⟩,d4,?_,⟨.inl ⟨rfl,by show 1≤1+w;omega,by show 1+w≤12;omega⟩,hm x mx,s1,s2,s3,rfl⟩,h4⟩
  rw[if_pos (by simp[hv]),e2,qOp]
  simp only
  rw[e3,qOp]
  simp only
  rw[if_pos ⟨a3,b3⟩,hx,qOp,e4,qOp,hw]
 ·obtain⟨u,d3,e3,a3,b3,h3⟩:=q2m h1 (most:=4) (by omega) (by omega)
  obtain⟨x,hx,mx⟩:=qly [(0:Int),50,60,80] u a3 (by simpa using b3)
  obtain⟨S,d4,e4,h4,s1,s2,s3⟩:=qIJ h3
  have hm:∀x∈[(0:Int),50,60,80],0≤x∧x≤80:=by decide
  refine⟨⟨1,0,x,S,[]⟩,d4,?_,⟨.inr ⟨rfl,rfl⟩,hm x mx,s1,s2,s3,rfl⟩,h4⟩
  rw[if_neg (by simpa using hv),e3,qOp]
  simp only
  rw[if_pos ⟨a3,b3⟩,hx,qOp,e4,qOp]
theorem qb3 (rF:(Int×Int×qi)→Option (qb×qi)) (x1 x2:Int) (v:qi):q1t rF (x1,x2,v)=(qs 6 v).bind fun a2=>
  if x1≤0 then qmm a2.2 else if x2<2 then qmm a2.2 else if a2.1<2 then qmm a2.2 else
  Option.bind (qs (min (3:Int) x2) a2.2) fun a27=>
  Option.bind (zy (Zg rF (0:Int) (0:Int) (0:Int) (3:Int) (0:Int) (0:Int) x1 x2 a2.1 (w64 ((1:Int)+a27.1))) ([],(a27.2,(0:Int)))) fun a28=>
  if(3:Int)<a2.1 then Option.bind (qs (w64 ((1:Int)+a27.1)) a28.2) fun a29=>
   some (qb.mk (4:Int) (w64 ((1:Int)+a29.1)) (0:Int) [] a28.1,a29.2)
  else some (qb.mk (3:Int) (0:Int) (0:Int) [] a28.1,a28.2):=rfl
theorem qmf {deep q:Nat} (hq:1≤q):∀(L:List qb),(∀y∈L,q6b deep q y)→hgL L≤deep+1∧L.length≤lvL L∧lvL L≤L.length*q∧(ndL L).length≤lvL L*(deep+1)∧∀y∈ndL L,q7z y
 | [],_=>⟨by simp[hgL],by simp[lvL],by simp[lvL],by simp[ndL],by simp[ndL]⟩
 | x::L,h=>by
  obtain⟨a,b,c,d,e⟩:=qmf hq L fun y hy=>h y (qOx _ hy)
  obtain⟨f,g,i,j,k⟩:=h x qOE
  rw[Nat.max_eq_right hq] at j
  refine⟨?_,?_,?_,?_,?_⟩
  ·rw[hgL];omega
  ·rw[lvL,qOA];omega
  ·rw[lvL,qOA,Nat.add_mul];omega
  ·rw[ndL,lvL,qOw,Nat.add_mul];omega
  ·rw[ndL]
   intro y hy
   rcases qOT.1 hy with hy|hy
   ·exact f y hy
   ·exact e y hy
theorem qdU {n:qb} (h:qge n) {deep leaves q:Nat} (hq:1≤q) (hk:n.L.length*q≤leaves) (hL:∀y∈n.L,q6b deep q y):q6b (deep+1) leaves n:=by
 obtain⟨a,b,c,d,e⟩:=qmf hq n.L hL
 have hlen:1≤n.L.length:=by cases hn:n.L with|nil=>exact absurd hn h.ne|cons x l=>simp
 have e2:lvN n=lvL n.L:=by rw[qd5,if_neg];rcases h.kd with h|h<;>simp[h.1]
 refine⟨fun y hy=>?_,?_,by omega,by omega,?_⟩
 ·rw[q00] at hy
  rcases qOL.1 hy with rfl|hy
  ·exact .inr h
  ·exact e y hy
 ·rw[qef];omega
 ·rw[q00,qOA,e2,show deep+1+1=(deep+1)+1 from rfl,Nat.mul_add];omega
theorem qoV:∀(deep leaves:Nat) (d:qi),deep≤10→leaves≤100→q0u d→∃n d',ZN ((deep:Int),(leaves:Int),d)=some (n,d')∧q6b deep leaves n∧q0u d':=by
 intro deep
 induction deep with
 | zero=>
  intro leaves d _ _ hd
  obtain⟨v,d1,e1,a1,b1,h1⟩:=q2m hd (most:=6) (by omega) (by omega)
  obtain⟨n,d',g1,g2,g3⟩:=qjg h1
  refine⟨n,d',?_,qc5 g2 _ _,g3⟩
  rw[q7d,qb3,e1,qOp,if_pos (by omega)]
  exact g1
 | succ deep ih=>
  intro leaves d hdp hlv hd
  obtain⟨v,d1,e1,a1,b1,h1⟩:=q2m hd (most:=6) (by omega) (by omega)
  obtain⟨n0,d0,g1,g2,g3⟩:=qjg h1
  rw[q7d,qb3,e1,qOp,if_neg (by omega)]
  by_cases hl:leaves<2
  ·exact⟨n0,d0,by rw[if_pos (by omega)];exact g1,qc5 g2 _ _,g3⟩
  ·rw[if_neg (by omega)]
   by_cases hv:v<2
   ·exact⟨n0,d0,by rw[if_pos hv];exact g1,qc5 g2 _ _,g3⟩
   ·rw[if_neg hv]
    clear g1 g2 g3 n0 d0
    obtain⟨w,d2,e2,a2,b2,h2⟩:=q2m h1 (most:=min 3 (leaves:Int)) (by omega) (by omega)
    simp only
    rw[e2,qOp]
    simp only
    obtain⟨m,hm⟩:∃m:Nat,(m:Int)=1+w:=⟨(1+w).toNat,by omega⟩
    have hw:w64 (1+w)=(m:Int):=by rw[QF (by omega) (by omega)];omega
    rw[hw]
    have hm1:1≤m:=by omega
    have hm3:m≤3:=by omega
    have hml:m≤leaves:=by omega
    obtain⟨q,hq⟩:∃q,q=leaves / m:=⟨_,rfl⟩
    have hq1:1≤q:=by rw[hq];exact(Nat.le_div_iff_mul_le (by omega)).2 (by omega)
    have hqm:m*q≤leaves:=by rw[hq];exact Nat.mul_div_le _ _
    have hq2:q≤leaves:=by rw[hq];exact Nat.div_le_self _ _
    have hML:100000≤maxLen:=by unfold maxLen;omega
    have hdiv:w64 (Int.tdiv (leaves:Int) (m:Int))=(q:Int):=by
     rw[←Int.ofNat_tdiv,←hq,QF (by omega) (by omega)]
    have hdeep:w64 (((deep+1:Nat):Int)-1)=(deep:Int):=by rw[QF (by omega) (by omega)];omega
    have key:∀(j i:Nat) (l:List qb) (d:qi),j+i=m→l.length=i→(∀y∈l,q6b deep q y)→q0u d→∃l' d',zy (Zg ZN 0 0 0 3 0 0 ((deep+1:Nat):Int) (leaves:Int) v (m:Int)) (l,d,(i:Int))=some (l',d')∧l'.length=m∧(∀y∈l',q6b deep q y)∧q0u d':=by
     intro j
     induction j with
     | zero=>
      intro i l d hi hl hy hd
      refine⟨l,d,zt ?_,by omega,hy,hd⟩
      unfold Zg
      simp only
      rw[if_neg (by omega)]
     | succ j ihj=>
      intro i l d hi hl hy hd
      obtain⟨n,d',q1,q2,q3⟩:=ih q d (by omega) (by omega) hd
      have hs:Zg ZN 0 0 0 3 0 0 ((deep+1:Nat):Int) (leaves:Int) v (m:Int) (l,d,(i:Int))=some (.inl (l++[n],d',((i+1:Nat):Int))):=by
       unfold Zg
       simp only
       rw[if_pos (by omega),if_neg (by omega),hdiv,hdeep,q1,qOp]
       simp only
       rw[if_pos ⟨by omega,by omega⟩,QF (by omega) (by omega)]
       rfl
      rw[zW hs]
      refine ihj (i+1) (l++[n]) d' (by omega) (by simp[hl]) (fun y hy2=>?_) q3
      rcases qOT.1 hy2 with h|h
      ·exact hy y h
      ·rw[qPg.1 h];exact q2
    obtain⟨l,d3,q1,q2,q3,q4⟩:=key m 0 [] d2 (by omega) rfl (by simp) h2
    rw[show((0:Nat):Int)=0 from rfl] at q1
    rw[q1,qOp]
    have hne:l≠[]:=fun h=>by rw[h] at q2;simp at q2;omega
    by_cases hv3:(3:Int)<v
    ·obtain⟨u,d4,e4,a4,b4,h4⟩:=q2m q4 (most:=(m:Int)) (by omega) (by omega)
     have hwu:w64 (1+u)=1+u:=QF (by omega) (by omega)
     simp only
     rw[if_pos hv3,e4,qOp,hwu]
     exact⟨_,d4,rfl,qdU (q:=q) ⟨.inr ⟨rfl,by show 1≤1+u;omega,by show 1+u≤(l.length:Int);omega⟩,rfl,rfl,hne⟩ hq1 (by show l.length*q≤leaves;rw[q2];exact hqm) q3,h4⟩
    ·simp only
     rw[if_neg hv3]
     exact⟨_,d3,rfl,qdU (q:=q) ⟨.inl ⟨rfl,rfl⟩,rfl,rfl,hne⟩ hq1 (by show l.length*q≤leaves;rw[q2];exact hqm) q3,q4⟩
theorem qgE {n:qb} (h:qbI n):q2Z n=0:=by
 have h1:=h.s1
 have h3:=h.s3
 have hm:=h.mn
 have e1:inF n.Min (-1000) 1000=true:=by unfold inF;simp;omega
 have e2:inF n.Set.length 1 12=true:=by unfold inF;simp;omega
 have e3:n.Set.all q1e=true:=qOG.2 fun c hc=>qaq (h.st.ok c hc)
 unfold q2Z
 rw[e1,e2,e3,h.st.ord]
 simp
theorem qof {n:qb} (h:q7z n):q9z n=0:=by
 unfold q9z
 rcases h with h|h
 ·have hc:=qgE h
  rcases h.kd with ⟨k,a,b⟩|⟨k,a⟩
  ·have e:inF n.N 1 600=true:=by unfold inF;simp;omega
   simp[k,h.nl,e,hc]
  ·simp[k,h.nl,a,hc]
 ·have hb:q8r n=true:=by
   unfold q8r
   rw[h.mn,h.st]
   cases hL:n.L with
   | nil=>exact absurd hL h.ne
   | cons x l=>rfl
  rcases h.kd with ⟨k,a⟩|⟨k,a,b⟩
  ·simp[k,hb,a]
  ·have e:inF n.N 1 n.L.length=true:=by unfold inF;simp;omega
   simp[k,hb,e]
theorem qiY:∀(l:List qb),(∀y∈l,q9z y=0)→qti l=none
 | [],_=>rfl
 | x::l,h=>by
  unfold qti
  rw[List.findSome?_cons,h x qOE]
  simp only[ne_eq,not_true_eq_false,if_false]
  exact qiY l fun y hy=>h y (qOx _ hy)
theorem qEM:∀(n:qb) (d m:Int),dpN d n m≤max m (d+hgN n-1):=by
 intro n
 induction n using qb.rec (motive_2:=fun L=>∀(d m:Int),dpL d L m≤max m (d+hgL L-1)) with
 | mk k n m S L ih=>
  intro d mm
  rw[dpN,hgN]
  have:=ih (d+1) (max mm d)
  omega
 | nil=>rename_i d m;rw[dpL];omega
 | cons x L h1 h2=>
  rename_i d m
  rw[dpL,hgL]
  have a:=h1 d m
  have b:=h2 d (dpN d x m)
  omega
theorem qh8:∀(n:qb),(∀y∈ndN n,q7z y)→((ndN n).filter q1G).length=lvN n:=by
 intro n
 induction n using qb.rec (motive_2:=fun L=>(∀y∈ndL L,q7z y)→((ndL L).filter q1G).length=lvL L) with
 | mk k n m S L ih=>
  intro h
  rw[ndN] at h ⊢
  have h0:=h _ qOE
  have hr:=ih fun y hy=>h y (qOx _ hy)
  rw[List.filter_cons,lvN]
  rcases h0 with h0|h0
  ·have e:L=[]:=h0.nl
   subst e
   have e1:k=1∨k=2:=by rcases h0.kd with h|h;exact .inr h.1;exact .inl h.1
   have e2:q1G ⟨k,n,m,S,[]⟩=true:=by unfold q1G;rcases e1 with rfl|rfl<;>rfl
   rw[if_pos e2,if_pos e1]
   simp[ndL]
  ·have e1:k=3∨k=4:=by rcases h0.kd with h|h;exact .inl h.1;exact .inr h.1
   have e2:q1G ⟨k,n,m,S,L⟩=false:=by unfold q1G;rcases e1 with rfl|rfl<;>rfl
   rw[e2,if_neg (by simp),if_neg (by omega),hr]
 | nil=>simp[ndL,lvL]
 | cons x L h1 h2=>
  rename_i h
  rw[ndL] at h ⊢
  rw[lvL,List.filter_append,qOw,h1 fun y hy=>h y (qOB _ hy),h2 fun y hy=>h y (qOy _ hy)]
theorem qen {n:qb} (h:∀y∈ndN n,q7z y):∀y∈ndN n,y.Set.length≤1000000:=fun y hy=>by
 rcases h y hy with h|h
 ·have:=h.s3;omega
 ·rw[h.st];simp
theorem qdK {n:qb} (h:q6b 3 6 n):Jz n=some 0:=by
 have h1:=h.hg
 have h2:=h.l1
 have h3:=h.l2
 have h4:=h.nd
 rw[q9n n (by omega) (by omega) (qen h.ok)]
 unfold qdR
 have hf:=qh8 n h.ok
 have hd:=qEM n 1 0
 have e:inF ((ndN n).filter q1G).length 1 8=true:=by unfold inF;rw[hf];simp;omega
 rw[if_neg (by omega),if_neg (by omega),e,if_neg (by simp),qiY _ fun y hy=>qof (h.ok y hy)]
 rfl
end
noncomputable section
open Go.RowKit
theorem qhr (x y:Nat):(x &&& y) / 2=(x / 2) &&& (y / 2):=by
 apply Nat.eq_of_testBit_eq
 intro i
 rw[Nat.testBit_div_two,Nat.testBit_and,Nat.testBit_and,Nat.testBit_div_two,Nat.testBit_div_two]
theorem qiC (x y:Nat):(x &&& y) % 2=if x % 2=1∧y % 2=1 then 1 else 0:=by
 have h:(x &&& y).testBit 0=(x.testBit 0&&y.testBit 0):=Nat.testBit_and x y 0
 rw[Nat.testBit_zero,Nat.testBit_zero,Nat.testBit_zero] at h
 have h1:x % 2<2:=Nat.mod_lt _ (by decide)
 have h2:y % 2<2:=Nat.mod_lt _ (by decide)
 have h3:(x &&& y) % 2<2:=Nat.mod_lt _ (by decide)
 by_cases hx:x % 2=1
 ·by_cases hy:y % 2=1
  ·rw[if_pos ⟨hx,hy⟩]
   simpa [hx,hy] using h
  ·rw[if_neg (fun h=>hy h.2)]
   have:¬ (x &&& y) % 2=1:=by simpa [hx,hy] using h
   omega
 ·rw[if_neg (fun h=>hx h.1)]
  have:¬ (x &&& y) % 2=1:=by simpa [hx] using h
  omega
theorem qqJ:∀(sub set t:Nat),sub &&& set=sub→t &&& set=t→t<sub→t≤(sub-1) &&& set:=by
 intro sub
 induction sub using Nat.strongRecOn with
 | _ sub ih=>
  intro set t hs ht hlt
  have hs2:=qhr sub set
  have hsm:=qiC sub set
  have ht2:=qhr t set
  have htm:=qiC t set
  rw[hs] at hs2 hsm
  rw[ht] at ht2 htm
  have hr2:=qhr (sub-1) set
  have hrm:=qiC (sub-1) set
  by_cases hodd:sub % 2=1
  ·have e:(sub-1) / 2=sub / 2:=by omega
   rw[e,←hs2] at hr2
   have e2:(sub-1) % 2=0:=by omega
   rw[if_neg (by omega)] at hrm
   omega
  ·have hpos:sub / 2≠0:=by omega
   have e:(sub-1) / 2=sub / 2-1:=by omega
   rw[e] at hr2
   have hlt2:t / 2<sub / 2:=by omega
   have:=ih (sub / 2) (by omega) (set / 2) (t / 2) hs2.symm ht2.symm hlt2
   have hset:set % 2<2:=Nat.mod_lt _ (by decide)
   have e3:(sub-1) % 2=1:=by omega
   by_cases hm:set % 2=1
   ·rw[if_pos ⟨e3,hm⟩] at hrm
    have:t % 2<2:=Nat.mod_lt _ (by decide)
    omega
   ·rw[if_neg (fun h=>hm h.2)] at hrm htm
    omega
structure IsB (own:Nat→Bool) (best:Nat→Int) (set:Nat) (base v:Int):Prop where
 ge:base≤v
 all:∀t,t≠0→t &&& set=t→own t=true→0≤best (q1r set t)→best (q1r set t)+1≤v
 is:v=base∨∃t,t≠0∧t &&& set=t∧own t=true∧0≤best (q1r set t)∧v=best (q1r set t)+1
theorem qDf {own:Nat→Bool} {best:Nat→Int} {set:Nat}:∀(f sub:Nat) (v:Int),sub≤f→sub &&& set=sub→v≤eaF own best set f sub v∧(∀t,t≠0→t &&& set=t→t≤sub→own t=true→0≤best (q1r set t)→best (q1r set t)+1≤eaF own best set f sub v)∧
  (eaF own best set f sub v=v∨∃t,t≠0∧t &&& set=t∧own t=true∧0≤best (q1r set t)∧eaF own best set f sub v=best (q1r set t)+1):=by
 intro f
 induction f with
 | zero=>
  intro sub v hf _
  have:sub=0:=by omega
  subst this
  exact⟨Int.le_refl _,fun t h1 _ h3=>by omega,.inl rfl⟩
 | succ f ih=>
  intro sub v hf hs
  unfold eaF
  by_cases hz:sub=0
  ·rw[if_pos hz]
   exact⟨Int.le_refl _,fun t h1 _ h3=>by omega,.inl rfl⟩
  ·rw[if_neg hz]
   have ha:(sub-1) &&& set≤sub-1:=Nat.and_le_left
   have hb:((sub-1) &&& set) &&& set=(sub-1) &&& set:=by rw[Nat.and_assoc,Nat.and_self]
   obtain⟨i1,i2,i3⟩:=ih ((sub-1) &&& set) (eaV own best set sub v) (by omega) hb
   have hv:v≤eaV own best set sub v:=by unfold eaV;split<;>omega
   refine⟨by omega,fun t h1 h2 h3 h4 h5=>?_,?_⟩
   ·by_cases e:t=sub
    ·subst e
     have:best (q1r set t)+1≤eaV own best set t v:=by unfold eaV;rw[if_pos ⟨h4,h5⟩];omega
     omega
    ·exact i2 t h1 h2 (qqJ sub set t hs h2 (by omega)) h4 h5
   ·rcases i3 with e|h
    ·by_cases hc:own sub=true∧0≤best (q1r set sub)
     ·have e2:eaV own best set sub v=max v (best (q1r set sub)+1):=by unfold eaV;rw[if_pos hc]
      by_cases hm:v≤best (q1r set sub)+1
      ·exact .inr ⟨sub,hz,hs,hc.1,hc.2,by rw[e,e2];omega⟩
      ·exact .inl (by rw[e,e2];omega)
     ·exact .inl (by rw[e];unfold eaV;rw[if_neg hc])
    ·exact .inr h
theorem qoD (skip:Bool) (own:Nat→Bool) (best:Nat→Int) (set:Nat):IsB own best set (if skip=true then best set else -1) (stF skip own best set):=by
 obtain⟨h1,h2,h3⟩:=qDf (own:=own) (best:=best) (set:=set) set set (if skip=true then best set else -1) (qOF _) (Nat.and_self _)
 refine⟨h1,fun t t1 t2 t3 t4=>h2 t t1 t2 ?_ t3 t4,h3⟩
 rw[←t2];exact Nat.and_le_right
theorem qmR {w m j:Nat} (h:m<2 ^ w) (hj:m.testBit j=true):j<w:=by
 rcases Nat.lt_or_ge j w with h1|h1
 ·exact h1
 ·rw[Nat.testBit_lt_two_pow (qOZ h (Nat.pow_le_pow_right (by decide) h1))] at hj
  cases hj
def qlA (n:qb) (s:qg) (x:qK) (a:qa):qK:=⟨w64 (x.many+1),w64 (x.credits+a.Credits),x.fine&&qlq n s a⟩
def Qp {α:Type} (p:Nat→Bool):List α→List α
 | []=>[]
 | a::l=>(if p 0=true then[a] else[])++Qp (fun j=>p (j+1)) l
theorem qho (n:qb) (s:qg) (set:Nat):∀(l:List qa) (k:Nat) (x:qK),wgF n s set l k x=(Qp (fun j=>set.testBit (k+j)) l).foldl (qlA n s) x
 | [],k,x=>rfl
 | a::l,k,x=>by
  rw[wgF,Qp,qho n s set l (k+1),List.foldl_append,show(fun j=>set.testBit (k+(j+1)))=fun j=>set.testBit (k+1+j) from funext fun j=>by rw[Nat.add_right_comm,qPj]]
  congr 1
  cases set.testBit (k+0)<;>simp[qlA]
theorem q2O {α:Type}:∀{l:List α} {p q:Nat→Bool},(∀j,j<l.length→p j=q j)→Qp p l=Qp q l
 | [],_,_,_=>rfl
 | a::l,p,q,h=>by
  rw[Qp,Qp,h 0 (by simp),q2O fun j hj=>h (j+1) (by simpa using hj)]
theorem q6U {α:Type}:∀(l:List α) (a:α) (p:Nat→Bool),Qp p (l++[a])=Qp p l++(if p l.length=true then[a] else[])
 | [],a,p=>by simp[Qp]
 | b::l,a,p=>by rw[qPv,Qp,q6U l a,Qp,qP5];rfl
end
noncomputable section
open Go.RowKit
def qhy (n:qb) (s:qg) (l:List qa) (p:Nat→Bool):qK:=(Qp p l).foldl (qlA n s) ld0
mutual
def q4O (s:qg) (l:List qa) (a:Nat→Int):qb→Nat→Bool×Bool
 | ⟨k,n,m,S,L⟩,nx=>if k=1∨k=2 then((qhy ⟨k,n,m,S,L⟩ s l (fun j=>a j==(nx:Int))).many==0,qe0 ⟨k,n,m,S,L⟩ (qhy ⟨k,n,m,S,L⟩ s l (fun j=>a j==(nx:Int))))
  else((q2x s l a (k==3) L nx).1,!(q2x s l a (k==3) L nx).2.2&&decide (n≤((q2x s l a (k==3) L nx).2.1:Int)))
def q2x (s:qg) (l:List qa) (a:Nat→Int) (al:Bool):List qb→Nat→Bool×Nat×Bool
 | [],_=>(true,0,false)
 | x::L,nx=>((q4O s l a x nx).1&&(q2x s l a al L (nx+lvN x)).1,(if(q4O s l a x nx).2=true then 1 else 0)+(q2x s l a al L (nx+lvN x)).2.1,
   (!(q4O s l a x nx).2&&(!(q4O s l a x nx).1||al))||(q2x s l a al L (nx+lvN x)).2.2)
end
theorem q5F (s:qg) (l:List qa) (a:Nat→Int) (n:qb) (nx:Nat):q4O s l a n nx=if n.Kind=1∨n.Kind=2 then((qhy n s l (fun j=>a j==(nx:Int))).many==0,qe0 n (qhy n s l (fun j=>a j==(nx:Int))))
  else((q2x s l a (n.Kind==3) n.L nx).1,!(q2x s l a (n.Kind==3) n.L nx).2.2&&decide (n.N≤((q2x s l a (n.Kind==3) n.L nx).2.1:Int))):=by
 cases n;rw[q4O]
structure q2P (n:qb):Prop where
 kind:n.Kind=1∨n.Kind=2∨n.Kind=3∨n.Kind=4
 all:n.Kind=3→n.N≤(n.L.length:Int)∧n.L≠[]
 some:n.Kind=4→1≤n.N
theorem qev (n:qb):n∈ndN n:=by rw[q00];exact qOE ..
theorem q51 (s:qg) (l:List qa) (a b:Nat→Int):∀(n:qb) (nx:Nat),(∀k,k<l.length→∀x:Int,(nx:Int)≤x→x<((nx+lvN n:Nat):Int)→(a k=x↔b k=x))→q4O s l a n nx=q4O s l b n nx:=by
 intro n
 induction n using qb.rec (motive_2:=fun L=>∀(al:Bool) (nx:Nat),(∀k,k<l.length→∀x:Int,(nx:Int)≤x→x<((nx+lvL L:Nat):Int)→(a k=x↔b k=x))→q2x s l a al L nx=q2x s l b al L nx) with
 | mk k n m S L ih=>
  intro nx h
  rw[q5F,q5F]
  rw[lvN] at h
  by_cases hk:k=1∨k=2
  ·rw[if_pos hk] at h
   rw[if_pos hk,if_pos hk]
   have:Qp (fun j=>a j==(nx:Int)) l=Qp (fun j=>b j==(nx:Int)) l:=q2O fun j hj=>by
    have:=h j hj nx (Int.le_refl _) (by omega)
    by_cases e:a j=nx
    ·rw[e,this.1 e]
    ·have e':¬ b j=nx:=fun e2=>e (this.2 e2)
     rw[beq_eq_false_iff_ne.2 e,beq_eq_false_iff_ne.2 e']
   unfold qhy
   rw[this]
  ·rw[if_neg hk] at h
   rw[if_neg hk,if_neg hk]
   simp only
   rw[ih _ nx h]
 | nil=>rw[q2x,q2x]
 | cons x L h1 h2=>
  rename_i al nx h
  rw[lvL] at h
  rw[q2x,q2x,h1 nx (fun k hk y hy hy2=>h k hk y hy (by omega)),h2 al (nx+lvN x) (fun k hk y hy hy2=>h k hk y (by omega) (by omega))]
theorem qgq (n:qb) (s:qg):∀(L:List qa) (x:qK),0≤x.many→x.many+L.length≤9223372036854775807→(L.foldl (qlA n s) x).many=x.many+L.length
 | [],x,_,_=>by simp
 | a::L,x,h0,h=>by
  rw[qOA] at h
  have hw:w64 (x.many+1)=x.many+1:=QF (by omega) (by omega)
  rw[qPt,qgq n s L (qlA n s x a) (by unfold qlA;simp only;omega) (by unfold qlA;simp only;omega),qOA]
  unfold qlA
  simp only
  omega
theorem q3H {α:Type}:∀(l:List α) (p:Nat→Bool),(Qp p l).length≤l.length
 | [],_=>by simp[Qp]
 | a::l,p=>by
  have:=q3H l (fun j=>p (j+1))
  rw[Qp,qOw,qOA]
  split<;>simp<;>omega
theorem qem {α:Type}:∀(l:List α) (p:Nat→Bool),(Qp p l).length=0↔∀k,k<l.length→p k=false
 | [],_=>by simp[Qp]
 | a::l,p=>by
  have ih:=qem l (fun j=>p (j+1))
  rw[Qp,qOw]
  constructor
  ·intro h k hk
   cases k with
   | zero=>
    by_cases e:p 0=true
    ·rw[if_pos e] at h;simp at h
    ·simpa using e
   | succ k=>exact ih.1 (by omega) k (by simpa using hk)
  ·intro h
   rw[ih.2 fun k hk=>h (k+1) (by simpa using hk),if_neg (by rw[h 0 (by simp)];decide)]
   try rfl
theorem qoG (n:qb) (s:qg) (l:List qa) (hl:l.length≤62) (p:Nat→Bool):(qhy n s l p).many=((Qp p l).length:Int):=by
 have:=q3H l p
 unfold qhy
 rw[qgq n s _ _ (by decide) (by show(0:Int)+_≤_;omega)]
 show(0:Int)+_=_
 omega
theorem q93 (s:qg) (l:List qa) (hl:l.length≤62) (a:Nat→Int):∀(n:qb) (nx:Nat),(q4O s l a n nx).1=true↔∀k,k<l.length→¬((nx:Int)≤a k∧a k<((nx+lvN n:Nat):Int)):=by
 intro n
 induction n using qb.rec (motive_2:=fun L=>∀(al:Bool) (nx:Nat),(q2x s l a al L nx).1=true↔∀k,k<l.length→¬((nx:Int)≤a k∧a k<((nx+lvL L:Nat):Int))) with
 | mk k n m S L ih=>
  intro nx
  rw[q5F,lvN]
  by_cases hk:k=1∨k=2
  ·rw[if_pos hk,if_pos hk]
   simp only
   rw[qoG _ _ _ hl,beq_iff_eq,show(((Qp (fun j=>a j==(nx:Int)) l).length:Int)=0)↔(Qp (fun j=>a j==(nx:Int)) l).length=0 from by omega,qem]
   constructor
   ·intro h k hk h2
    have:=beq_eq_false_iff_ne.1 (h k hk)
    omega
   ·intro h k hk
    have:=h k hk
    exact beq_eq_false_iff_ne.2 (by omega)
  ·rw[if_neg hk,if_neg hk]
   exact ih _ nx
 | nil=>rename_i al nx;rw[q2x,lvL];simp only[true_iff];intro k hk;omega
 | cons x L h1 h2=>
  rename_i al nx
  rw[q2x,lvL,qOV,h1,h2]
  constructor
  ·intro h k hk
   have a1:=h.1 k hk
   have a2:=h.2 k hk
   omega
  ·intro h
   exact⟨fun k hk=>by have:=h k hk;omega,fun k hk=>by have:=h k hk;omega⟩
theorem qhT (s:qg) (l:List qa) (a:Nat→Int):∀(n:qb) (nx:Nat),(∀y∈ndN n,q2P y)→(q4O s l a n nx).2=true→(q4O s l a n nx).1=false:=by
 intro n
 induction n using qb.rec (motive_2:=fun L=>∀(al:Bool) (nx:Nat),(∀y∈ndL L,q2P y)→(q2x s l a al L nx).1=true→(q2x s l a al L nx).2.1=0∧(al=true→(q2x s l a al L nx).2.2=false→L=[])) with
 | mk k n m S L ih=>
  intro nx hf h
  have hn:=hf _ (qev _)
  rw[q5F] at h ⊢
  by_cases hk:k=1∨k=2
  ·rw[if_pos hk] at h ⊢
   simp only at h ⊢
   generalize qhy ⟨k,n,m,S,L⟩ s l (fun j=>a j==(nx:Int))=x at h
   unfold qe0 at h
   simp only at h
   refine beq_eq_false_iff_ne.2 fun e=>?_
   rw[e] at h
   split at h<;>simp at h
  ·rw[if_neg hk] at h ⊢
   simp only at h ⊢
   refine qOR.2 fun e=>?_
   obtain⟨h1,h2⟩:=ih (k==3) nx (fun y hy=>hf y (by rw[ndN];exact qOx _ hy)) e
   rw[qOV,h1,qPp] at h
   rcases hn.kind with q|q|q|q
   ·exact hk (.inl q)
   ·exact hk (.inr q)
   ·simp only at q
    subst q
    exact(hn.all rfl).2 (h2 (by decide) (by simpa using h.1))
   ·have:=hn.some q
    simp only at this
    omega
 | nil=>rename_i al nx _ _;rw[q2x];exact⟨rfl,fun _ _=>rfl⟩
 | cons x L h1 h2=>
  rename_i al nx hf h
  rw[q2x] at h ⊢
  simp only at h ⊢
  rw[qOV] at h
  have hx:(q4O s l a x nx).2=false:=by
   refine qOR.2 fun e=>?_
   have:=h1 nx (fun y hy=>hf y (by rw[ndL];exact qOB _ hy)) e
   rw[this] at h
   exact absurd h.1 (by decide)
  obtain⟨h3,h4⟩:=h2 al (nx+lvN x) (fun y hy=>hf y (by rw[ndL];exact qOy _ hy)) h.2
  rw[hx,h3]
  refine⟨by simp,fun ha hw=>?_⟩
  rw[ha] at hw
  simp at hw
end
noncomputable section
open Go.RowKit
def mkS (p:Nat→Bool):Nat→Nat
 | 0=>0
 | n+1=>mkS p n ||| (if p n=true then 2 ^ n else 0)
theorem qcD (p:Nat→Bool):∀(n k:Nat),(mkS p n).testBit k=(decide (k<n)&&p k)
 | 0,k=>by simp[mkS]
 | n+1,k=>by
  rw[mkS,Nat.testBit_or,qcD p n k]
  by_cases e:k=n
  ·subst e
   by_cases hp:p k=true
   ·rw[if_pos hp,Nat.testBit_two_pow];simp[hp]
   ·rw[if_neg hp];simp[qOR.2 hp]
  ·have h1:(if p n=true then 2 ^ n else 0).testBit k=false:=by
    split
    ·rw[Nat.testBit_two_pow];exact decide_eq_false (fun h=>e h.symm)
    ·exact Nat.zero_testBit k
   rw[h1,Bool.or_false]
   have:decide (k<n+1)=decide (k<n):=by
    by_cases h:k<n
    ·rw[qPq h,qPq (by omega)]
    ·rw[decide_eq_false h,decide_eq_false (by omega)]
   rw[this]
theorem qta (p:Nat→Bool) (n:Nat):mkS p n<2 ^ n:=Nat.lt_pow_two_of_testBit _ fun i hi=>by
 rw[qcD,decide_eq_false (by omega)];rfl
theorem qmE (leaf:Int) (set:Nat):∀(d:List Int) (i:Nat),alG leaf set d i=true↔∀(k:Nat) (x:Int),d[k]?=some x→(set.testBit (i+k)=true↔x=leaf)
 | [],i=>by simp[alG]
 | y::d,i=>by
  rw[alG,qOV,qmE leaf set d (i+1),beq_iff_eq]
  constructor
  ·intro h k x hx
   cases k with
   | zero=>
    simp only[qOz,qPf] at hx
    subst hx
    rw[Nat.add_zero,h.1,beq_iff_eq]
   | succ k=>
    rw[qOO] at hx
    have:=h.2 k x hx
    rwa [Nat.add_right_comm,qPj] at this
  ·intro h
   refine⟨?_,fun k x hx=>?_⟩
   ·have:=h 0 y (by simp)
    rw[Nat.add_zero] at this
    by_cases e:y=leaf
    ·rw[this.2 e,beq_iff_eq.2 e]
    ·rw[beq_eq_false_iff_ne.2 e];exact qOR.2 fun h2=>e (this.1 h2)
   ·have:=h (k+1) x (by rw[qOO];exact hx)
    rwa [show i+1+k=i+(k+1) from by omega]
theorem qvv (d:List Int) (leaf set:Nat):alF d leaf set=true↔∀(k:Nat) (x:Int),d[k]?=some x→(set.testBit k=true↔x=(leaf:Int)):=by
 unfold alF
 rw[qmE]
 simp only[qON]
theorem qnz (d:List Int) (a b:Nat):foF d a b=true↔∃(k:Nat) (x:Int),d[k]?=some x∧(a:Int)≤x∧x<(b:Int):=by
 unfold foF
 rw[qPk]
 constructor
 ·rintro⟨x,hx,h⟩
  obtain⟨k,hk⟩:=List.mem_iff_getElem?.1 hx
  rw[qOV,qPp,qPp] at h
  exact⟨k,x,hk,h⟩
 ·rintro⟨k,x,hk,h⟩
  exact⟨x,List.mem_iff_getElem?.2 ⟨k,hk⟩,by rw[qOV,qPp,qPp];exact h⟩
structure Asg (d:List Int) (a:Nat→Int) (lo w set:Nat):Prop where
 inn:∀k,set.testBit k=true→(lo:Int)≤a k∧a k<((lo+w:Nat):Int)
 out:∀k,set.testBit k=false→a k = -1
 com:∀k y,d[k]?=some y→∀x:Int,(lo:Int)≤x→x<((lo+w:Nat):Int)→(y=x↔a k=x)
theorem Asg.bit {d:List Int} {a:Nat→Int} {lo w set:Nat} (h:Asg d a lo w set) (k:Nat) (h1:(lo:Int)≤a k):set.testBit k=true:=by
 by_cases e:set.testBit k=true
 ·exact e
 ·have:=h.out k (qOR.2 e)
  omega
theorem qak (s:qg) (l:List qa) (a b:Nat→Int) (al:Bool):∀(L:List qb) (nx:Nat),(∀k,k<l.length→∀x:Int,(nx:Int)≤x→x<((nx+lvL L:Nat):Int)→(a k=x↔b k=x))→q2x s l a al L nx=q2x s l b al L nx
 | [],nx,_=>by rw[q2x,q2x]
 | x::L,nx,h=>by
  rw[lvL] at h
  rw[q2x,q2x,q51 s l a b x nx (fun k hk y hy hy2=>h k hk y hy (by omega)),qak s l a b al L (nx+lvN x) (fun k hk y hy hy2=>h k hk y (by omega) (by omega))]
theorem qk8 (s:qg) (l:List qa) (a:Nat→Int):∀(L:List qb) (nx:Nat),(q2x s l a true L nx).2.2=false→(q2x s l a true L nx).2.1=L.length
 | [],nx,_=>by rw[q2x];rfl
 | x::L,nx,h=>by
  rw[q2x] at h ⊢
  simp only at h ⊢
  rw[Bool.or_eq_false_iff] at h
  have hx:(q4O s l a x nx).2=true:=by
   have:=h.1
   rw[Bool.or_true,qPr] at this
   simpa using this
  rw[if_pos hx,qk8 s l a L _ h.2,qOA]
  omega
theorem qgF (set:Nat):q1r set 0=set:=Nat.eq_of_testBit_eq fun i=>by rw[Z5];simp
theorem qag {t s:Nat} (h:t &&& s=t) {k:Nat} (hk:t.testBit k=true):s.testBit k=true:=by
 rw[←h,Nat.testBit_and,qOV] at hk
 exact hk.2
theorem qfT {t s:Nat} (h:∀k,t.testBit k=true→s.testBit k=true):t &&& s=t:=Nat.eq_of_testBit_eq fun i=>by
 rw[Nat.testBit_and]
 by_cases e:t.testBit i=true
 ·rw[e,h i e];rfl
 ·rw[qOR.2 e];rfl
theorem qrR (d:List Int) (s:qg) (l:List qa) (n:qb) (hk:n.Kind=1∨n.Kind=2) (nx set:Nat) (hlt:set<2 ^ l.length) (hl:l.length≤62) :
  q1Y d s l n nx set=true↔∃a,Asg d a nx 1 set∧qe0 n (qhy n s l (fun j=>a j==(nx:Int)))=true:=by
 have key:∀a,Asg d a nx 1 set→qhy n s l (fun j=>a j==(nx:Int))=wgF n s set l 0 ld0:=fun a ha=>by
  rw[qho]
  unfold qhy
  rw[q2O (p:=fun j=>a j==(nx:Int)) (q:=fun j=>set.testBit (0+j)) fun j hj=>?_]
  rw[qON]
  by_cases e:set.testBit j=true
  ·have:=ha.inn j e
   rw[e,beq_iff_eq]
   omega
  ·rw[qOR.2 e,ha.out j (qOR.2 e)]
   exact beq_eq_false_iff_ne.2 (by omega)
 unfold q1Y
 rw[qOV,qOV,qPp,qvv]
 constructor
 ·rintro⟨h0,h1,h2⟩
  have ha:Asg d (fun k=>if set.testBit k=true then(nx:Int) else -1) nx 1 set:={
   inn:=fun k hk=>by simp only[hk,if_true];omega
   out:=fun k hk=>by simp only[hk];rfl
   com:=fun k y hy x hx hx2=>by
    have e:x=nx:=by omega
    subst e
    rw[←h1 k y hy]
    show set.testBit k=true↔(if set.testBit k=true then(nx:Int) else -1)=(nx:Int)
    by_cases e:set.testBit k=true
    ·rw[if_pos e];exact⟨fun _=>rfl,fun _=>e⟩
    ·rw[if_neg e];exact⟨fun h=>absurd h e,fun h=>by omega⟩ }
  exact⟨_,ha,by rw[key _ ha];exact h2⟩
 ·rintro⟨a,ha,hm⟩
  rw[key a ha] at hm
  refine⟨fun e=>?_,fun k x hx=>?_,hm⟩
  ·have h3:Qp (fun j=>set.testBit (0+j)) l=[]:=qOI ((qem _ _).2 fun k hk=>by rw[e];exact Nat.zero_testBit _)
   rw[qho,h3] at hm
   unfold qe0 ld0 at hm
   simp only[List.foldl_nil] at hm
   split at hm<;>simp at hm
  ·constructor
   ·intro hb
    have:=ha.inn k hb
    exact(ha.com k x hx (nx:Int) (by omega) (by omega)).2 (by omega)
   ·intro e
    have:=(ha.com k x hx (nx:Int) (by omega) (by omega)).1 e
    exact ha.bit k (by omega)
theorem quI (s:qg) (l:List qa) (hl:l.length≤62) (a:Nat→Int) (n:qb) (nx:Nat) (hf:∀y∈ndN n,q2P y) (h:∀k,¬((nx:Int)≤a k∧a k<((nx+lvN n:Nat):Int))):(q4O s l a n nx).1=true∧(q4O s l a n nx).2=false:=by
 have h1:=(q93 s l hl a n nx).2 fun k _=>h k
 refine⟨h1,qOR.2 fun e=>?_⟩
 rw[qhT s l a n nx hf e] at h1
 exact absurd h1 (by decide)
theorem q5h (d:List Int) (s:qg) (l:List qa) (hl:l.length≤62):∀(n:qb) (nx set:Nat),(∀y∈ndN n,q2P y)→set<2 ^ l.length→
  (QM d s l n nx set=true↔∃a,Asg d a nx (lvN n) set∧(q4O s l a n nx).2=true):=by
 intro n
 induction n using qb.rec (motive_2:=fun L=>∀(sk:Bool) (nx:Nat) (b:Nat→Int) (set:Nat),(∀y∈ndL L,q2P y)→set<2 ^ l.length→
   (0≤qbc d s l sk L nx b set→∃s1 a,s1 &&& set=s1∧0≤b s1∧Asg d a nx (lvL L) (q1r set s1)∧(q2x s l a (!sk) L nx).2.2=false∧qbc d s l sk L nx b set=b s1+((q2x s l a (!sk) L nx).2.1:Int))∧
   (∀s1 a,s1 &&& set=s1→0≤b s1→Asg d a nx (lvL L) (q1r set s1)→(q2x s l a (!sk) L nx).2.2=false→b s1+((q2x s l a (!sk) L nx).2.1:Int)≤qbc d s l sk L nx b set)) with
 | mk k n m S L ih=>
  intro nx set hf hlt
  have hn:=hf _ (qev _)
  have hfL:∀y∈ndL L,q2P y:=fun y hy=>hf y (by rw[ndN];exact qOx _ hy)
  rw[qc3,qd5]
  simp only[q5F]
  by_cases hk:k=1∨k=2
  ·rw[if_pos hk,if_pos hk]
   simp only[if_pos hk]
   exact qrR d s l _ hk nx set hlt hl
  ·rw[if_neg hk,if_neg hk]
   simp only[if_neg hk]
   have hk4:(!(k==4))=(k==3):=by
    rcases hn.kind with q|q|q|q<;>simp only at q<;>subst q<;>first|decide|exact absurd (by decide) hk
   obtain⟨i1,i2⟩:=ih (k==4) nx b0F set hfL hlt
   rw[hk4] at i1 i2
   rw[qOV,qPp,qPp]
   constructor
   ·rintro⟨h0,h1⟩
    have hz:0≤qbc d s l (k==4) L nx b0F set:=by
     rcases hn.kind with q|q|q|q
     ·exact absurd (.inl q) hk
     ·exact absurd (.inr q) hk
     ·simp only at q
      rw[if_pos q] at h1
      omega
     ·have:=hn.some q
      simp only at q this
      rw[if_neg (by omega)] at h1
      omega
    obtain⟨s1,a,e1,e2,e3,e4,e5⟩:=i1 hz
    have hs1:s1=0:=by
     unfold b0F at e2
     by_cases e:s1=0
     ·exact e
     ·rw[if_neg e] at e2;omega
    subst hs1
    rw[qgF] at e3
    refine⟨a,e3,?_⟩
    rw[e4,Bool.not_false,qOW,qPp]
    have hb0:b0F 0=0:=rfl
    rw[hb0] at e5
    by_cases q:k=3
    ·rw[if_pos q] at h1
     have:=(hn.all q).1
     simp only at this
     omega
    ·rw[if_neg q] at h1
     omega
   ·rintro⟨a,ha,hm⟩
    rw[qOV,qPp] at hm
    have hw:(q2x s l a (k==3) L nx).2.2=false:=by simpa using hm.1
    have hb0:b0F 0=0:=rfl
    have h2:=i2 0 a (Nat.zero_and _) (by rw[hb0];exact Int.le_refl _) (by rw[qgF];exact ha) hw
    rw[hb0] at h2
    have h3:(q4O s l a ⟨k,n,m,S,L⟩ nx).1=false:=qhT s l a _ nx hf (by rw[q5F,if_neg hk];simp only;rw[qOV,qPp];exact hm)
    refine⟨fun e=>?_,?_⟩
    ·have h4:(q4O s l a ⟨k,n,m,S,L⟩ nx).1=true:=(q93 s l hl a _ nx).2 fun j _ hj=>by
      have:=ha.bit j hj.1
      rw[e,Nat.zero_testBit] at this
      exact absurd this (by decide)
     rw[h3] at h4
     exact absurd h4 (by decide)
    ·by_cases q:k=3
     ·rw[if_pos q]
      have h5:(k==3)=true:=by rw[q];rfl
      rw[h5] at hw h2
      rw[qk8 s l a L nx hw] at h2
      omega
     ·rw[if_neg q]
      omega
 | nil=>
  rename_i sk nx b set hf hlt
  rw[lvL,qbc]
  refine⟨fun h=>⟨set,fun _ => -1,Nat.and_self _,h,⟨fun k hk=>?_,fun _ _=>rfl,fun k y hy x hx hx2=>by omega⟩,by rw[q2x],by rw[q2x];simp⟩,fun s1 a h1 h2 h3 h4=>?_⟩
  ·rw[Z5] at hk
   cases h:set.testBit k<;>rw[h] at hk<;>simp at hk
  ·have:s1=set:=Nat.eq_of_testBit_eq fun i=>by
    by_cases e:(q1r set s1).testBit i=true
    ·have:=h3.inn i e
     omega
    ·rw[Z5] at e
     by_cases e2:s1.testBit i=true
     ·rw[e2,qag h1 e2]
     ·cases h:set.testBit i
      ·exact qOR.2 e2
      ·rw[h,qOR.2 e2] at e
       exact absurd rfl e
   subst this
   rw[q2x]
   simp
 | cons x L h1 h2=>
  rename_i sk nx b set hf hlt
  have hfx:∀y∈ndN x,q2P y:=fun y hy=>hf y (by rw[ndL];exact qOB _ hy)
  have hfL:∀y∈ndL L,q2P y:=fun y hy=>hf y (by rw[ndL];exact qOy _ hy)
  obtain⟨i1,i2⟩:=h2 sk (nx+lvN x) (stF (sk && !foF d nx (nx+lvN x)) (QM d s l x nx) b) set hfL hlt
  rw[lvL,qbc]
  simp only[q2x]
  constructor
  ·intro h0
   obtain⟨s1,a1,e1,e2,e3,e4,e5⟩:=i1 h0
   have hI:=qoD (sk && !foF d nx (nx+lvN x)) (QM d s l x nx) b s1
   rcases hI.is with e|⟨t,t1,t2,t3,t4,e⟩
   ·have hsk:(sk && !foF d nx (nx+lvN x))=true:=by
     refine Classical.byContradiction fun hc=>?_
     rw[if_neg hc] at e
     omega
    rw[if_pos hsk] at e
    rw[qOV] at hsk
    have hfo:¬ foF d nx (nx+lvN x)=true:=by simpa using hsk.2
    rw[qnz] at hfo
    have hr:∀k,¬((nx:Int)≤a1 k∧a1 k<((nx+lvN x:Nat):Int)):=fun k hk=>by
     by_cases hb:(q1r set s1).testBit k=true
     ·have:=e3.inn k hb;omega
     ·have:=e3.out k (qOR.2 hb);omega
    obtain⟨v1,v2⟩:=quI s l hl a1 x nx hfx hr
    refine⟨s1,a1,e1,by omega,⟨fun k hk=>by have:=e3.inn k hk;omega,e3.out,fun k y hy z hz hz2=>?_⟩,?_,?_⟩
    ·by_cases hz3:z<((nx+lvN x:Nat):Int)
     ·constructor
      ·intro e;subst e;exact absurd ⟨k,y,hy,hz,hz3⟩ hfo
      ·intro e;exact absurd ⟨by omega,by omega⟩ (hr k)
     ·exact e3.com k y hy z (by omega) (by omega)
    ·rw[v1,v2,e4,hsk.1];rfl
    ·rw[e5,e,v2];simp
   ·obtain⟨a2,ha2,hm2⟩:=(h1 nx t hfx (qP1 (qP0 (by rw[←t2];exact Nat.and_le_right) (by rw[←e1];exact Nat.and_le_right)) hlt)).1 t3
    have hts:∀k,t.testBit k=true→s1.testBit k=true:=fun k hk=>qag t2 hk
    have hss:∀k,s1.testBit k=true→set.testBit k=true:=fun k hk=>qag e1 hk
    have hin:∀k,t.testBit k=true→(fun k=>if t.testBit k=true then a2 k else a1 k) k=a2 k:=fun k hk=>by show(if _ then _ else _)=_;rw[if_pos hk]
    have hnot:∀k,t.testBit k=false→(fun k=>if t.testBit k=true then a2 k else a1 k) k=a1 k:=fun k hk=>by show(if _ then _ else _)=_;rw[if_neg (by rw[hk];decide)]
    generalize (fun k=>if t.testBit k=true then a2 k else a1 k)=a at hin hnot
    have ht1:∀k,t.testBit k=true→a1 k = -1:=fun k hk=>e3.out k (by rw[Z5,hts k hk];simp)
    have hu1:∀k,t.testBit k=false→a2 k = -1:=fun k hk=>ha2.out k hk
    have hc1:q4O s l a x nx=q4O s l a2 x nx:=q51 s l a a2 x nx fun k _ z hz hz2=>by
     cases hb:t.testBit k
     ·rw[hnot k hb,hu1 k hb]
      by_cases hb2:(q1r set s1).testBit k=true
      ·have:=e3.inn k hb2;omega
      ·have:=e3.out k (qOR.2 hb2);omega
     ·rw[hin k hb]
    have hc2:q2x s l a (!sk) L (nx+lvN x)=q2x s l a1 (!sk) L (nx+lvN x):=qak s l a a1 (!sk) L (nx+lvN x) fun k _ z hz hz2=>by
     cases hb:t.testBit k
     ·rw[hnot k hb]
     ·rw[hin k hb,ht1 k hb]
      have:=ha2.inn k hb
      omega
    refine⟨q1r s1 t,a,?_,t4,⟨fun k hk=>?_,fun k hk=>?_,fun k y hy z hz hz2=>?_⟩,?_,?_⟩
    ·exact qfT fun k hk=>hss k (by rw[Z5,qOV] at hk;exact hk.1)
    ·cases hb:t.testBit k
     ·rw[hnot k hb]
      have:(q1r set s1).testBit k=true:=by
       rw[Z5,Z5,hb] at hk
       rw[Z5]
       simpa using hk
      have:=e3.inn k this
      omega
     ·rw[hin k hb]
      have:=ha2.inn k hb
      omega
    ·cases hb:t.testBit k
     ·rw[hnot k hb]
      refine e3.out k ?_
      rw[Z5,Z5,hb] at hk
      rw[Z5]
      simpa using hk
     ·exfalso
      rw[Z5,Z5,hb,hss k (hts k hb)] at hk
      simp at hk
    ·by_cases hz3:z<((nx+lvN x:Nat):Int)
     ·rw[ha2.com k y hy z hz hz3]
      cases hb:t.testBit k
      ·rw[hnot k hb,hu1 k hb]
       by_cases hb2:(q1r set s1).testBit k=true
       ·have:=e3.inn k hb2;omega
       ·have:=e3.out k (qOR.2 hb2);omega
      ·rw[hin k hb]
     ·rw[e3.com k y hy z (by omega) (by omega)]
      cases hb:t.testBit k
      ·rw[hnot k hb]
      ·rw[hin k hb,ht1 k hb]
       have:=ha2.inn k hb
       omega
    ·rw[hc1,hc2,hm2,e4];rfl
    ·rw[e5,e,hc1,hc2,if_pos hm2];omega
  ·intro s1 a g1 g2 g3 g4
   rw[Bool.or_eq_false_iff] at g4
   obtain⟨g4,g5⟩:=g4
   have hss:∀k,s1.testBit k=true→set.testBit k=true:=fun k hk=>qag g1 hk
   by_cases hm:(q4O s l a x nx).2=true
   ·have hlen:∀k,(nx:Int)≤a k→k<l.length:=fun k hk=>by
     have hb:=g3.bit k hk
     have:set.testBit k=true:=by rw[Z5,qOV] at hb;exact hb.1
     exact qmR hlt this
    obtain⟨t,tb⟩:∃t:Nat,∀k,t.testBit k=true↔((nx:Int)≤a k∧a k<((nx+lvN x:Nat):Int)):=⟨mkS (fun k=>decide ((nx:Int)≤a k)&&decide (a k<((nx+lvN x:Nat):Int))) l.length,fun k=>by
     rw[qcD,qOV,qOV,qPp,qPp,qPp]
     exact⟨fun h=>h.2,fun h=>⟨hlen k h.1,h⟩⟩⟩
    have hdis:∀k,t.testBit k=true→set.testBit k=true∧s1.testBit k=false:=fun k hk=>by
     have hb:=g3.bit k ((tb k).1 hk).1
     rw[Z5,qOV] at hb
     exact⟨hb.1,by simpa using hb.2⟩
    obtain⟨a2,hin2,hnot2⟩:∃a2:Nat→Int,(∀k,t.testBit k=true→a2 k=a k)∧(∀k,t.testBit k=false→a2 k = -1):=⟨fun k=>if t.testBit k=true then a k else -1,fun k hk=>if_pos hk,fun k hk=>if_neg (by rw[hk];decide)⟩
    obtain⟨a1,hin1,hnot1⟩:∃a1:Nat→Int,(∀k,t.testBit k=true→a1 k = -1)∧(∀k,t.testBit k=false→a1 k=a k):=⟨fun k=>if t.testBit k=true then -1 else a k,fun k hk=>if_pos hk,fun k hk=>if_neg (by rw[hk];decide)⟩
    have hoff:∀k,t.testBit k=false→¬((nx:Int)≤a k∧a k<((nx+lvN x:Nat):Int)):=fun k hk h=>by
     rw[(tb k).2 h] at hk
     exact absurd hk (by decide)
    have hA2:Asg d a2 nx (lvN x) t:=⟨fun k hk=>by rw[hin2 k hk];exact(tb k).1 hk,hnot2,fun k y hy z hz hz2=>by
     rw[g3.com k y hy z hz (by omega)]
     cases hb:t.testBit k
     ·rw[hnot2 k hb]
      have:=hoff k hb
      omega
     ·rw[hin2 k hb]⟩
    have hc1:q4O s l a2 x nx=q4O s l a x nx:=q51 s l a2 a x nx fun k _ z hz hz2=>by
     cases hb:t.testBit k
     ·rw[hnot2 k hb]
      have:=hoff k hb
      omega
     ·rw[hin2 k hb]
    have hc2:q2x s l a1 (!sk) L (nx+lvN x)=q2x s l a (!sk) L (nx+lvN x):=qak s l a1 a (!sk) L (nx+lvN x) fun k _ z hz hz2=>by
     cases hb:t.testBit k
     ·rw[hnot1 k hb]
     ·rw[hin1 k hb]
      have:=(tb k).1 hb
      omega
    have hown:QM d s l x nx t=true:=(h1 nx t hfx (qP1 (qP0 (by rw[←qfT (t:=t) (s:=set) fun k hk=>(hdis k hk).1];exact Nat.and_le_right) (qOF _)) hlt)).2 ⟨a2,hA2,by rw[hc1];exact hm⟩
    have ht0:t≠0:=fun e=>by
     have h3:=qhT s l a x nx hfx hm
     have h4:=(q93 s l hl a x nx).2 fun k _ hk=>by
      have:=(tb k).2 hk
      rw[e,Nat.zero_testBit] at this
      exact absurd this (by decide)
     rw[h3] at h4
     exact absurd h4 (by decide)
    have hI:=qoD (sk && !foF d nx (nx+lvN x)) (QM d s l x nx) b (s1 ||| t)
    have hle:q1r (s1 ||| t) t=s1:=Nat.eq_of_testBit_eq fun k=>by
     rw[Z5,Nat.testBit_or]
     cases hb:t.testBit k
     ·simp
     ·rw[(hdis k hb).2];rfl
    have hall:=hI.all t ht0 (qfT fun k hk=>by rw[Nat.testBit_or,hk,Bool.or_true]) hown (by rw[hle];exact g2)
    rw[hle] at hall
    have:=i2 (s1 ||| t) a1 (qfT fun k hk=>by
      rw[Nat.testBit_or,qOU] at hk
      rcases hk with hk|hk
      ·exact hss k hk
      ·exact(hdis k hk).1) (by omega) ⟨fun k hk=>by
       rw[Z5,Nat.testBit_or,qOV] at hk
       have hb:t.testBit k=false:=by
        have:=hk.2
        cases h:t.testBit k
        ·rfl
        ·rw[h,Bool.or_true] at this;exact absurd this (by decide)
       have h5:=g3.inn k (by rw[Z5,qOV];refine⟨hk.1,?_⟩;have:=hk.2;rw[hb,Bool.or_false] at this;exact this)
       have h6:=hoff k hb
       rw[hnot1 k hb]
       omega,fun k hk=>by
       cases hb:t.testBit k
       ·rw[hnot1 k hb]
        refine g3.out k ?_
        rw[Z5,Nat.testBit_or,hb,Bool.or_false] at hk
        rw[Z5]
        exact hk
       ·exact hin1 k hb,fun k y hy z hz hz2=>by
       rw[g3.com k y hy z (by omega) (by omega)]
       cases hb:t.testBit k
       ·rw[hnot1 k hb]
       ·rw[hin1 k hb]
        have:=(tb k).1 hb
        omega⟩ (by rw[hc2];exact g5)
    rw[hc2] at this
    rw[if_pos hm]
    omega
   ·have hm':(q4O s l a x nx).2=false:=qOR.2 hm
    rw[hm',Bool.not_false,qOW,Bool.or_eq_false_iff] at g4
    have hem:(q4O s l a x nx).1=true:=by simpa using g4.1
    have hsk:sk=true:=by simpa using g4.2
    have hr:∀k,¬((nx:Int)≤a k∧a k<((nx+lvN x:Nat):Int)):=fun k hk=>by
     have hb:=g3.bit k hk.1
     have:set.testBit k=true:=by rw[Z5,qOV] at hb;exact hb.1
     have hkl:k<l.length:=qmR hlt this
     exact(q93 s l hl a x nx).1 hem k hkl hk
    have hfo:foF d nx (nx+lvN x)=false:=qOR.2 fun h=>by
     obtain⟨k,y,hy,h3,h4⟩:=(qnz d nx (nx+lvN x)).1 h
     have:=(g3.com k y hy y h3 (by omega)).1 rfl
     exact hr k (by omega)
    have hI:=qoD (sk && !foF d nx (nx+lvN x)) (QM d s l x nx) b s1
    have hge:=hI.ge
    rw[hsk,hfo] at hge
    simp only[Bool.not_false,qPr,if_true] at hge
    have hge2:b s1≤stF (sk && !foF d nx (nx+lvN x)) (QM d s l x nx) b s1:=by rw[hsk,hfo];exact hge
    have:=i2 s1 a g1 (by omega) ⟨fun k hk=>by
      have h5:=g3.inn k hk
      have h6:=hr k
      omega,g3.out,fun k y hy z hz hz2=>g3.com k y hy z (by omega) (by omega)⟩ g5
    rw[hm']
    simp only[Bool.false_eq_true,if_false,qON]
    omega
end
noncomputable section
open Go.RowKit
def rkF (m:Nat→Bool):Nat→Nat
 | 0=>0
 | k+1=>rkF m k+if m k=true then 1 else 0
theorem qbE (m:Nat→Bool):∀k,rkF m (k+1)=(if m 0=true then 1 else 0)+rkF (fun j=>m (j+1)) k
 | 0=>by simp[rkF]
 | k+1=>by rw[rkF,qbE m k,rkF];omega
def qa6 (m:Nat→Bool) (d:Nat→Int):Nat→Int:=fun k=>if m k=true then d (rkF m k) else -1
theorem q9a {α:Type}:∀(l:List α) (m p:Nat→Bool),Qp p (Qp m l)=Qp (fun k=>m k&&p (rkF m k)) l
 | [],_,_=>rfl
 | a::l,m,p=>by
  have e:∀j,rkF m (j+1)=(if m 0=true then 1 else 0)+rkF (fun j=>m (j+1)) j:=qbE m
  rw[Qp,Qp]
  cases h:m 0
  ·rw[if_neg (by decide),qOJ,q9a l,qPs,if_neg (by decide),qOJ]
   refine q2O fun j _=>?_
   show(m (j+1)&&p (rkF (fun j=>m (j+1)) j))=(m (j+1)&&p (rkF m (j+1)))
   rw[e j,h,if_neg (by decide),qON]
  ·rw[if_pos rfl,qPw,Qp,q9a l,qOW]
   congr 1
   refine q2O fun j _=>?_
   show(m (j+1)&&p (rkF (fun j=>m (j+1)) j+1))=(m (j+1)&&p (rkF m (j+1)))
   rw[e j,h,if_pos rfl,Nat.add_comm 1]
theorem q7y {α β:Type} (f:α→β):∀(l:List α) (m:Nat→Bool),Qp m (l.map f)=(Qp m l).map f
 | [],_=>rfl
 | a::l,m=>by rw[qOM,Qp,Qp,q7y f l,List.map_append];cases m 0<;>rfl
theorem qku (s:qg) (l:List qa) (m:Nat→Bool) (d:Nat→Int):∀(n:qb) (nx:Nat),q4O s (Qp m l) d n nx=q4O s l (qa6 m d) n nx:=by
 intro n
 induction n using qb.rec (motive_2:=fun L=>∀(al:Bool) (nx:Nat),q2x s (Qp m l) d al L nx=q2x s l (qa6 m d) al L nx) with
 | mk k n mi S L ih=>
  intro nx
  rw[q5F,q5F]
  by_cases hk:k=1∨k=2
  ·rw[if_pos hk,if_pos hk]
   have:Qp (fun j=>d j==(nx:Int)) (Qp m l)=Qp (fun j=>qa6 m d j==(nx:Int)) l:=by
    rw[q9a]
    refine q2O fun j _=>?_
    unfold qa6
    cases m j
    ·rw[qPs,if_neg (by decide)];symm;rw[beq_eq_false_iff_ne];omega
    ·rw[qOW,if_pos rfl]
   unfold qhy
   rw[this]
  ·rw[if_neg hk,if_neg hk]
   simp only
   rw[ih _ nx]
 | nil=>rw[q2x,q2x]
 | cons x L h1 h2=>
  rename_i al nx
  rw[q2x,q2x,h1 nx,h2 al (nx+lvN x)]
end
noncomputable section
open Go.RowKit
def q4p:List Int→List Int→Bool
 | _,[]=>false
 | [],_::_=>true
 | a::l,b::m=>decide (a<b)||(a==b&&q4p l m)
theorem qbU:∀l,q4p l l=false
 | []=>rfl
 | a::l=>by rw[q4p,qbU l];simp
theorem q3W:∀{a b c:List Int},q4p a b=true→q4p b c=true→q4p a c=true
 | a,b,[],_,h=>by cases b<;>cases h
 | [],b,z::c,_,_=>rfl
 | x::a,[],z::c,h,_=>by cases h
 | x::a,y::b,z::c,h,h2=>by
  simp only[q4p,qOU,qOV,qPp,beq_iff_eq] at h h2 ⊢
  rcases h with h|⟨h,h'⟩
  ·rcases h2 with h2|⟨h2,h2'⟩<;>exact .inl (by omega)
  ·rcases h2 with h2|⟨h2,h2'⟩
   ·exact .inl (by omega)
   ·exact .inr ⟨by omega,q3W h' h2'⟩
theorem qab:∀a b:List Int,a=b∨q4p a b=true∨q4p b a=true
 | [],[] => .inl rfl
 | [],_::_ => .inr (.inl rfl)
 | _::_,[] => .inr (.inr rfl)
 | x::a,y::b=>by
  simp only[q4p,qOU,qOV,qPp,beq_iff_eq]
  rcases Int.lt_trichotomy x y with h|h|h
  ·exact .inr (.inl (.inl h))
  ·subst h
   rcases qab a b with e|e|e
   ·exact .inl (by rw[e])
   ·exact .inr (.inl (.inr ⟨rfl,e⟩))
   ·exact .inr (.inr (.inr ⟨rfl,e⟩))
  ·exact .inr (.inr (.inl h))
def slL (a b:List Int):Bool:=decide (a.length<b.length)||(a.length==b.length&&q4p a b)
theorem qfu {a b:List Int}:slL a b=true↔a.length<b.length∨(a.length=b.length∧q4p a b=true):=by
 simp only[slL,qOU,qOV,qPp,beq_iff_eq]
theorem q8j (l:List Int):slL l l=false:=by
 rw[slL,qbU];simp
theorem q9T {a b c:List Int} (h:slL a b=true) (h2:slL b c=true):slL a c=true:=by
 rw[qfu] at *
 rcases h with h|⟨h,h'⟩
 ·rcases h2 with h2|⟨h2,h2'⟩<;>exact .inl (by omega)
 ·rcases h2 with h2|⟨h2,h2'⟩
  ·exact .inl (by omega)
  ·exact .inr ⟨by omega,q3W h' h2'⟩
theorem qfL (a b:List Int):a=b∨slL a b=true∨slL b a=true:=by
 simp only[qfu]
 rcases Nat.lt_trichotomy a.length b.length with h|h|h
 ·exact .inr (.inl (.inl h))
 ·rcases qab a b with e|e|e
  ·exact .inl e
  ·exact .inr (.inl (.inr ⟨h,e⟩))
  ·exact .inr (.inr (.inr ⟨h.symm,e⟩))
 ·exact .inr (.inr (.inl h))
theorem qkz {f:Int→Int}:∀{a b:List Int},(∀x∈a,∀y∈b,(f x<f y↔x<y)∧(f x=f y↔x=y))→q4p (a.map f) (b.map f)=q4p a b
 | a,[],_=>by cases a<;>rfl
 | [],_::_,_=>rfl
 | x::a,y::b,h=>by
  have h0:=h x qOE y qOE
  have e1:decide (f x<f y)=decide (x<y):=by simp only[h0.1]
  have e2:(f x==f y)=(x==y):=by rw[Bool.eq_iff_iff,beq_iff_eq,beq_iff_eq];exact h0.2
  rw[qOM,qOM,q4p,q4p,e1,e2,qkz fun u hu v hv=>h u (qOx _ hu) v (qOx _ hv)]
theorem qxw {f:Int→Int} {a b:List Int} (h:∀x∈a,∀y∈b,(f x<f y↔x<y)∧(f x=f y↔x=y)):slL (a.map f) (b.map f)=slL a b:=by
 unfold slL
 rw[qkz h,qP8,qP8]
theorem qmW {f:Int→Int→Option Int} {zs:List Int} (ht:∀x∈zs,∀y∈zs,x=y∨ltB f x y=true∨ltB f y x=true) (htr:∀x∈zs,∀y∈zs,∀z∈zs,ltB f x y=true→ltB f y z=true→ltB f x z=true) {x:Int} (hx:x∈zs) :
  ∀l:List Int,(∀y∈l,y∈zs)→x ∉ l→l.Pairwise (fun a b=>ltB f a b=true)→(qfE f x l).Pairwise (fun a b=>ltB f a b=true)
 | [],_,_,_=>by unfold qfE;exact List.pairwise_singleton _ _
 | y::l,hl,hn,h=>by
  have hy:=hl y qOE
  rw[List.pairwise_cons] at h
  unfold qfE
  split
  ·rename_i hlt
   rw[List.pairwise_cons]
   refine⟨fun z hz=>?_,qmW ht htr hx l (fun u hu=>hl u (qOx _ hu)) (fun hu=>hn (qOx _ hu)) h.2⟩
   rcases(qbG f x l z).1 hz with e|e
   ·rw[e];exact hlt
   ·exact h.1 z e
  ·rename_i hlt
   have hxy:ltB f x y=true:=by
    rcases ht x hx y hy with e|e|e
    ·exact absurd (e ▸ qOE) hn
    ·exact e
    ·exact absurd e hlt
   rw[List.pairwise_cons,List.pairwise_cons]
   refine⟨fun z hz=>?_,h⟩
   rcases qOL.1 hz with e|e
   ·rw[e];exact hxy
   ·exact htr x hx y hy z (hl z (qOx _ e)) hxy (h.1 z e)
theorem qja {f:Int→Int→Option Int} {zs:List Int} (ht:∀x∈zs,∀y∈zs,x=y∨ltB f x y=true∨ltB f y x=true) (htr:∀x∈zs,∀y∈zs,∀z∈zs,ltB f x y=true→ltB f y z=true→ltB f x z=true) :
  ∀l:List Int,(∀y∈l,y∈zs)→l.Nodup→(q0X f l).Pairwise (fun a b=>ltB f a b=true)
 | [],_,_=>by unfold q0X;exact List.Pairwise.nil
 | x::l,hl,hn=>by
  rw[List.nodup_cons] at hn
  unfold q0X
  exact qmW ht htr (hl x qOE) _ (fun y hy=>hl y (qOx _ ((q3h f l y).1 hy))) (fun hy=>hn.1 ((q3h f l x).1 hy)) (qja ht htr l (fun y hy=>hl y (qOx _ hy)) hn.2)
theorem qpE {f:Int→Int→Option Int} {zs:List Int} {key:Int→List Int} (hs:∀x∈zs,∀y∈zs,∃c,f x y=some c∧(c<0↔slL (key x) (key y)=true)) (hi:∀x∈zs,∀y∈zs,key x=key y→x=y) :
  okB f zs=true∧∀x∈zs,∀y∈zs,ltB f x y=slL (key x) (key y):=by
 have hl:∀x∈zs,∀y∈zs,ltB f x y=slL (key x) (key y):=fun x hx y hy=>by
  obtain⟨c,h1,h2⟩:=hs x hx y hy
  unfold ltB
  rw[h1,Bool.eq_iff_iff]
  simpa using h2
 refine⟨?_,hl⟩
 unfold okB
 simp only[qOV,qOG]
 refine⟨⟨⟨fun x hx y hy=>?_,fun x hx=>?_⟩,fun x hx y hy=>?_⟩,fun x hx y hy z hz=>?_⟩
 ·obtain⟨c,h1,_⟩:=hs x hx y hy;rw[h1];rfl
 ·rw[hl x hx x hx,q8j];rfl
 ·rw[hl x hx y hy,hl y hy x hx]
  rcases qfL (key x) (key y) with e|e|e
  ·rw[qPq (hi x hx y hy e)];rfl
  ·rw[e];simp
  ·rw[e];simp
 ·rw[hl x hx y hy,hl y hy z hz,hl x hx z hz]
  cases h1:slL (key x) (key y)
  ·simp
  ·cases h2:slL (key y) (key z)
   ·simp
   ·rw[q9T h1 h2];simp
theorem qnH {f:Int→Int→Option Int} {zs:List Int} {key:Int→List Int} (hs:∀x∈zs,∀y∈zs,∃c,f x y=some c∧(c<0↔slL (key x) (key y)=true)) (hi:∀x∈zs,∀y∈zs,key x=key y→x=y) (hn:zs.Nodup) :
  (q0X f zs).Pairwise (fun a b=>slL (key a) (key b)=true):=by
 have hl:=(qpE hs hi).2
 have h:=qja (f:=f) (zs:=zs) (fun x hx y hy=>by
  rw[hl x hx y hy,hl y hy x hx]
  rcases qfL (key x) (key y) with e|e
  ·exact .inl (hi x hx y hy e)
  ·exact .inr e) (fun x hx y hy z hz h1 h2=>by
  rw[hl x hx y hy] at h1;rw[hl y hy z hz] at h2;rw[hl x hx z hz]
  exact q9T h1 h2) zs (fun _ h=>h) hn
 exact h.imp_of_mem fun {a b} ha hb h=>by
  rw[hl a ((q3h f zs a).1 ha) b ((q3h f zs b).1 hb)] at h;exact h
end
noncomputable section
open Go.RowKit
structure q3l (n:qb) (l:List qa) (set:Nat):Prop where
 fit:∀y∈ndN n,q2P y
 nd:(ndN n).length≤9999
 st:∀y∈ndN n,y.Set.length≤1000000
 ll:l.length≤16
 lt:set<2 ^ l.length
theorem q3l.lt64 {n:qb} {l:List qa} {set:Nat} (h:q3l n l set):set<9223372036854775808:=by
 have h1:=h.lt
 have h2:(2:Nat) ^ l.length≤2 ^ 16:=Nat.pow_le_pow_right (by decide) h.ll
 have h3:(2:Nat) ^ 16=65536:=by decide
 omega
theorem q3l.lv {n:qb} {l:List qa} {set:Nat} (h:q3l n l set):lvN n≤9999:=qP0 (qkD n) h.nd
theorem qnu {n:qb} {l:List qa} {set:Nat} (h:q3l n l set) (s:qg) (d:List Int) (hd:d.length≤16):q2h n s l d=some (Zh (2 ^ l.length) (QM d s l n 0),d):=by
 have:=qlD d hd s l h.ll _ n (qOF _) (by have:=h.nd;omega) h.st 0 (by have:=h.nd;omega)
 unfold q2h
 change Option.bind (zJ (n,d,l,((0:Nat):Int),s)) _=_
 rw[this]
 rfl
theorem q90 {α:Type} {d:List α} {y z:α} {j:Nat} (h:(d++[y])[j]?=some z):d[j]?=some z∨(j=d.length∧z=y):=by
 by_cases hj:j<d.length
 ·rw[qP3 hj] at h
  exact .inl h
 ·rw[qP2 (by omega)] at h
  have:=Ja h
  rw[qOH] at this
  have e:j-d.length=0:=by omega
  rw[e] at h
  simp only[qOz,qPf] at h
  exact .inr ⟨by omega,h.symm⟩
theorem qs4 {d:List Int} {a:Nat→Int} {w set:Nat} (h:Asg d a 0 w set):Asg (d++[a d.length]) a 0 w set:=⟨h.inn,h.out,fun k y hy x hx hx2=>by
 rcases q90 hy with e|⟨e1,e2⟩
 ·exact h.com k y e x hx hx2
 ·rw[e1,e2]⟩
theorem qpe {n:qb} {l:List qa} {set:Nat} (h:q3l n l set) (s:qg) (w4:List Int) (t49 t50:Int) (d:List Int) (hd:d.length+1≤16):∀(m x:Nat),x+m≤1000000→
  (∃v:Nat,x≤v∧v≤x+m∧QM (d++[(v:Int)]) s l n 0 set=true)→
  ∃v:Nat,x≤v∧v≤x+m∧QM (d++[(v:Int)]) s l n 0 set=true∧(∀y:Nat,x≤y→y<v→QM (d++[(y:Int)]) s l n 0 set=false)∧
   zy (JO w4 n s l (set:Int) (d.length:Int) t49 t50) (d++[(x:Int)])=some (d++[(v:Int)]):=by
 have hstep:∀x:Nat,x≤1000000→JO w4 n s l (set:Int) (d.length:Int) t49 t50 (d++[(x:Int)])=if QM (d++[(x:Int)]) s l n 0 set=true then some (.inr (d++[(x:Int)])) else some (.inl (d++[((x+1:Nat):Int)])):=by
  intro x hx
  have hlen:(d++[(x:Int)]).length=d.length+1:=by rw[qOw,qOH]
  have hg:(d++[(x:Int)])[d.length]?=some (x:Int):=by rw[qP2 (qOF _),Nat.sub_self];rfl
  have hlt:=h.lt
  have hw:w64 ((x:Int)+1)=((x+1:Nat):Int):=QF (by omega) (by omega)
  have hset:(d++[(x:Int)]).set d.length ((x+1:Nat):Int)=d++[((x+1:Nat):Int)]:=by
   rw[List.set_append_right _ _ (qOF _),Nat.sub_self]
   rfl
  unfold JO
  simp only
  rw[qnu h s _ (by omega),qOp]
  simp only
  rw[if_pos (by rw[zF];omega),qOs,J2 _ hlt,qOp]
  cases hs:QM (d++[(x:Int)]) s l n 0 set
  ·rw[if_pos (by decide),if_pos (by rw[hlen];omega),qOs,hg,qOp,if_pos (by rw[hlen];omega),if_pos (by rw[hlen];omega),hw,hset]
   rfl
  ·rfl
 intro m
 induction m with
 | zero=>
  intro x hx hv
  obtain⟨v,h1,h2,h3⟩:=hv
  have e:v=x:=by omega
  subst e
  exact⟨v,qOF _,by omega,h3,fun y _ _=>by omega,zt (by rw[hstep v (by omega),if_pos h3])⟩
 | succ m ih=>
  intro x hx hv
  by_cases hs:QM (d++[(x:Int)]) s l n 0 set=true
  ·exact⟨x,qOF _,by omega,hs,fun y _ _=>by omega,zt (by rw[hstep x (by omega),if_pos hs])⟩
  ·obtain⟨v,h1,h2,h3⟩:=hv
   have hne:v≠x:=fun e=>hs (by rw[←e];exact h3)
   obtain⟨u,u1,u2,u3,u4,u5⟩:=ih (x+1) (by omega) ⟨v,by omega,by omega,h3⟩
   refine⟨u,by omega,by omega,u3,fun y hy hy2=>?_,?_⟩
   ·by_cases e:y=x
    ·subst e;exact qOR.2 hs
    ·exact u4 y (by omega) hy2
   ·rw[zW (by rw[hstep x (by omega),if_neg hs])]
    exact u5
structure q6o (d:List Int) (s:qg) (l:List qa) (n:qb) (set:Nat):Prop where
 ok:QM d s l n 0 set=true
 val:∀(j:Nat) (y:Int),d[j]?=some y→if set.testBit j=true then 0≤y∧y<(lvN n:Int) else y = -1
 lst:∀(j:Nat) (x:Int),d[j]?=some x→set.testBit j=true→∀y:Nat,(y:Int)<x→QM (d.take j++[(y:Int)]) s l n 0 set=false
theorem qgw {α:Type} {d:List α} {j:Nat} {x y:α} (h:d[j]?=some x):(d++[y]).take j=d.take j:=List.take_append_of_le_length (by have:=Ja h;omega)
theorem ql0 {n:qb} {l:List qa} {set:Nat} (h:q3l n l set) {s:qg} {d:List Int} (hf:q6o d s l n set) (hd:d.length<l.length) :
  (set.testBit d.length=false→q6o (d++[-1]) s l n set)∧(set.testBit d.length=true→∃v:Nat,v<lvN n∧QM (d++[(v:Int)]) s l n 0 set=true):=by
 have hll:=h.ll
 obtain⟨a,ha,hm⟩:=(q5h d s l (by omega) n 0 set h.fit h.lt).1 hf.ok
 have hs:=(q5h (d++[a d.length]) s l (by omega) n 0 set h.fit h.lt).2 ⟨a,qs4 ha,hm⟩
 constructor
 ·intro hb
  rw[ha.out _ hb] at hs
  refine⟨hs,fun j y hy=>?_,fun j x hx hj y hy=>?_⟩
  ·rcases q90 hy with e|⟨e1,e2⟩
   ·exact hf.val j y e
   ·rw[e1,hb,if_neg (by decide)];exact e2
  ·rcases q90 hx with e|⟨e1,e2⟩
   ·rw[qgw e];exact hf.lst j x e hj y hy
   ·rw[e1,hb] at hj;exact absurd hj (by decide)
 ·intro hb
  have:=ha.inn _ hb
  refine⟨(a d.length).toNat,by omega,?_⟩
  rw[show(((a d.length).toNat:Nat):Int)=a d.length from by omega]
  exact hs
theorem qhm {n:qb} {l:List qa} {set:Nat} (h:q3l n l set) (s:qg):∀(m:Nat) (d:List Int),d.length+m=l.length→q6o d s l n set→
  ∃d',d'.length=l.length∧q6o d' s l n set∧(∃e,d'=d++e)∧zy (J5 n s l (set:Int) (l.length:Int)) (d,Qp set.testBit d,(d.length:Int))=some (Qp set.testBit d'):=by
 intro m
 induction m with
 | zero=>
  intro d hd hf
  refine⟨d,by omega,hf,⟨[],(qOK _).symm⟩,zt ?_⟩
  unfold J5
  simp only
  rw[if_neg (by omega)]
 | succ m ih=>
  intro d hd hf
  have hll:=h.ll
  have hlt:=h.lt64
  have hML:100000≤maxLen:=by unfold maxLen;omega
  have hsel:=q3H d set.testBit
  obtain⟨f1,f2⟩:=ql0 h hf (by omega)
  have hw:w64 ((d.length:Int)+1)=((d.length+1:Nat):Int):=QF (by omega) (by omega)
  have hbit:(ZR Go.BinOp.and IntKind.i64 (Int.fdiv (set:Int) ((2:Int) ^ min (Int.toNat (d.length:Int)) (IntKind.bits IntKind.i64))) (1:Int)==(0:Int)) = !set.testBit d.length:=by
   rw[qOs,q9B set d.length (by omega),show(1:Int)=((1:Nat):Int) from rfl,qfa _ 1 (qP1 (Nat.div_le_self _ _) hlt) (by decide),Nat.and_one_is_mod,Nat.testBit_eq_decide_div_mod_eq]
   have:set / 2 ^ d.length % 2<2:=Nat.mod_lt _ (by decide)
   by_cases e:set / 2 ^ d.length % 2=1
   ·rw[e];rfl
   ·have e0:set / 2 ^ d.length % 2=0:=by omega
    rw[e0];rfl
  have hset:∀y z:Int,(d++[y]).set d.length z=d++[z]:=fun y z=>by
   rw[List.set_append_right _ _ (qOF _),Nat.sub_self]
   rfl
  cases hb:set.testBit d.length
  ·obtain⟨d',g1,g2,⟨e,g3⟩,g4⟩:=ih (d++[-1]) (by rw[qOw,qOH];omega) (f1 hb)
   refine⟨d',g1,g2,⟨[-1]++e,by rw[g3,qP5]⟩,?_⟩
   rw[q6U,hb,if_neg (by decide),qOK,qOw,qOH] at g4
   rw[←g4]
   refine zW ?_
   unfold J5
   simp only
   rw[if_pos (by omega),if_pos ⟨by omega,by omega⟩,if_pos (by omega),hbit,hb,if_pos (by decide),hw]
  ·obtain⟨v0,hv0,hs0⟩:=f2 hb
   have hlv:=h.lv
   obtain⟨v,v1,v2,v3,v4,v5⟩:=qpe h s (Qp set.testBit d) (l.length:Int) (d.length:Int) d (by omega) v0 0 (by omega) ⟨v0,by omega,by omega,hs0⟩
   have hF:q6o (d++[(v:Int)]) s l n set:=⟨v3,fun j y hy=>by
    rcases q90 hy with e|⟨e1,e2⟩
    ·exact hf.val j y e
    ·rw[e1,hb,if_pos rfl,e2];omega,fun j x hx hj y hy=>by
    rcases q90 hx with e|⟨e1,e2⟩
    ·rw[qgw e];exact hf.lst j x e hj y hy
    ·rw[e1,List.take_left]
     exact v4 y (qOP _) (by omega)⟩
   obtain⟨d',g1,g2,⟨e,g3⟩,g4⟩:=ih (d++[(v:Int)]) (by rw[qOw,qOH];omega) hF
   refine⟨d',g1,g2,⟨[(v:Int)]++e,by rw[g3,qP5]⟩,?_⟩
   rw[q6U,hb,if_pos rfl,qOw,qOH] at g4
   rw[←g4]
   refine zW ?_
   have hg:(d++[(v:Int)])[d.length]?=some (v:Int):=by rw[qP2 (qOF _),Nat.sub_self];rfl
   unfold J5
   simp only
   rw[if_pos (by omega),if_pos ⟨by omega,by omega⟩,if_pos (by omega),hbit,hb,if_neg (by decide),if_pos ⟨by omega,by omega⟩,qOs,if_pos (qOF _),hset]
   rw[show(0:Int)=((0:Nat):Int) from rfl,v5,qOp,if_pos (by rw[qOw,qOH];omega),hg,qOp,if_pos ⟨by omega,by omega⟩,hw]
theorem qgc {n:qb} {l:List qa} {set:Nat} (h:q3l n l set) (s:qg) (hS:q2G n s l=some (Zh (2 ^ l.length) (QM [] s l n 0),0)) :
  (QM [] s l n 0 set=false∧q13 n s l (set:Int)=some ([],false))∨
  (QM [] s l n 0 set=true∧∃d,d.length=l.length∧q6o d s l n set∧q13 n s l (set:Int)=some (Qp set.testBit d,true)):=by
 have hlt:=h.lt
 have hll:=h.ll
 unfold q13
 rw[hS,qOp]
 simp only
 rw[if_neg (by decide),if_neg (by omega),if_neg (by rw[zF];omega),if_pos (by rw[zF];omega),qOs,J2 _ hlt,qOp]
 cases hs:QM [] s l n 0 set
 ·exact .inl ⟨rfl,by rw[if_pos (by decide)]⟩
 ·refine .inr ⟨rfl,?_⟩
  obtain⟨d',g1,g2,_,g4⟩:=qhm h s l.length [] (by simp) ⟨hs,fun j y hy=>by simp at hy,fun j x hx=>by simp at hx⟩
  refine⟨d',g1,g2,?_⟩
  rw[if_neg (by decide),if_pos ⟨by omega,by omega,by omega⟩]
  change Option.bind (zy _ ([],Qp set.testBit [],((([]:List Int).length:Nat):Int))) _=_
  rw[g4]
  rfl
end
noncomputable section
open Go.RowKit
theorem qlF (n:qb) (hn:n.Set.length≤9223372036854775807) (s:qg) (l:List qa) (hl:l.length≤62) (d:List Int) (hd:d.length=l.length) (nx:Nat):q2n n s l d (nx:Int)=some (qhy n s l (fun j=>d.getD j (-1)==(nx:Int))):=by
 have h1:=q29 (ε:=qK) (step:=Jj d (nx:Int) n s (qK.mk (0:Int) (0:Int) Bool.false) l (l.length:Int)) l (fun(b:qK) i=>(b,(i:Int))) (fun i b a => .inl (if(d.getD i (-1)==(nx:Int))=true then qlA n s b a else b)) (fun b=>b) (fun b i a ha=>by
   have hi:=Ja ha
   have hw:w64 ((i:Int)+1)=((i+1:Nat):Int):=Qr hi (by omega)
   have hb:q1b (i:Int) d (nx:Int)=some (d.getD i (-1)==(nx:Int)):=by
    unfold q1b
    rw[if_pos ⟨by omega,by omega⟩,qOs,qOr (by omega),qOp,List.getD_eq_getElem?_getD,qOr (by omega)]
    rfl
   unfold Jj qlA
   simp only
   rw[if_pos (by omega),if_pos ⟨by omega,by omega⟩,qOs,ha,qOp,hw,hb,qOp]
   cases(d.getD i (-1)==(nx:Int))
   ·simp
   ·cases hf:b.fine
    ·simp
    ·simp[qpB n hn s a]) (fun b=>by
   unfold Jj
   simp only
   rw[if_neg (by omega)]) ld0
 unfold q2n qhy
 change Option.bind (zy _ (ld0,((0:Nat):Int))) _=_
 rw[h1,qOp]
 congr 1
 have:∀(l:List qa) (i:Nat) (b:qK),q4l (ε:=qK) (fun i (b:qK) (a:qa) => .inl (if(d.getD i (-1)==(nx:Int))=true then qlA n s b a else b)) (fun b=>b) l i b=(Qp (fun j=>d.getD (i+j) (-1)==(nx:Int)) l).foldl (qlA n s) b:=by
  intro l
  induction l with
  | nil=>intro i b;rfl
  | cons a l ih=>
   intro i b
   unfold q4l Qp
   rw[List.foldl_append]
   simp only[Nat.add_zero]
   rw[ih (i+1)]
   rw[show(fun j=>d.getD (i+1+j) (-1)==(nx:Int))=fun j=>d.getD (i+(j+1)) (-1)==(nx:Int) from funext fun j=>by rw[Nat.add_right_comm,qPj]]
   split<;>rfl
 rw[this l 0 ld0]
 simp only[qON]
end
noncomputable section
open Go.RowKit
mutual
def itN (d:Int):qb→List qv
 | ⟨k,n,m,S,L⟩=>⟨⟨k,n,m,S,L⟩,d⟩::itL (d+1) L
def itL (d:Int):List qb→List qv
 | []=>[]
 | x::L=>itN d x++itL d L
end
theorem qsT (d:Int) (n:qb):itN d n=⟨n,d⟩::itL (d+1) n.L:=by cases n;rw[itN]
theorem qlU:∀(n:qb) (d:Int),(itN d n).map (·.Need)=ndN n:=by
 intro n
 induction n using qb.rec (motive_2:=fun L=>∀d,(itL d L).map (·.Need)=ndL L) with
 | mk k n m S L ih=>intro d;rw[itN,ndN,qOM,ih]
 | nil=>rw[itL,ndL];rfl
 | cons x L h1 h2=>rw[itL,ndL,List.map_append,h1,h2]
theorem qoa (n:qb) (d:Int):(itN d n).length=(ndN n).length:=by rw[←qlU n d,qP8]
theorem qgl (rF:(qb×Int×List qv)→Option (Unit⊕(List qv))) (deep:Int) (hd:1≤deep) (n:qb) (hL:n.L.length≤10000)
  (step:List qv×Int→Option ((List qv×Int)⊕(Unit⊕(List qv))))
  (hst:∀w (i:Nat),step (w,(i:Int))=if(i:Int)<((n.L.length:Nat):Int) then if(0:Int)≤i∧(i:Int)<((n.L.length:Nat):Int) then Option.bind n.L[Int.toNat i]? fun a2=>Option.bind (rF (a2,w64 (deep+1),w)) fun a3=>Sum.elim (fun _=>some (Sum.inr (Sum.inl ()))) (fun a5=>some (Sum.inl (a5,w64 ((i:Int)+1)))) a3 else none else some (.inr (.inr w)))
  (hP:∀y∈n.L,∀w,deep+1+hgN y≤101→w.length+(ndN y).length≤10000→rF (y,deep+1,w)=some (.inr (w++itN (deep+1) y))) :
  ∀(r:List qb) (i:Nat) (w:List qv),r.length+i=n.L.length→(∀j,r[j]?=n.L[i+j]?)→deep+1+hgL r≤101→w.length+(ndL r).length≤10000→
  zy step (w,(i:Int))=some (.inr (w++itL (deep+1) r)):=by
 intro r
 induction r with
 | nil=>
  intro i w hi _ _ _
  have hi:i=n.L.length:=by simpa using hi
  subst hi
  refine zt ?_
  rw[hst,if_neg (by omega),itL,qOK]
 | cons y r ih=>
  intro i w hi hr hh hw
  rw[hgL] at hh
  rw[ndL,qOw] at hw
  simp only[qOA] at hi
  have hget:n.L[i]?=some y:=by have:=hr 0;simpa using this.symm
  have hlt:=Ja hget
  have hcall:=hP y (qOq hget) w (by omega) (by omega)
  have hstep:step (w,(i:Int))=some (.inl (w++itN (deep+1) y,((i+1:Nat):Int))):=by
   rw[hst,if_pos (by omega),if_pos ⟨by omega,by omega⟩,qOs,hget,qOp,QF (by omega) (by omega),hcall,qOp,Qr hlt (by omega)]
   rfl
  rw[zW hstep,ih (i+1) _ (by omega) (fun j=>by rw[show i+1+j=i+(j+1) by omega,←hr (j+1)];rfl) (by omega) (by rw[qOw,qoa];omega),itL,qP5]
theorem qsb:∀(m:Nat) (y:qb),(ndN y).length≤m→∀(deep:Int) (w:List qv),1≤deep→deep+hgN y≤101→w.length+(ndN y).length≤10000→Zx (y,deep,w)=some (.inr (w++itN deep y)):=by
 intro m
 induction m with
 | zero=>intro y h;rw[q00] at h;simp at h
 | succ m ih=>
  intro y h deep w hd hh hw
  rw[q00,qOA] at h hw
  rw[qef] at hh
  have hsub:∀(L:List qb),(ndL L).length≤m→∀z∈L,∀(deep:Int) (w:List qv),1≤deep→deep+hgN z≤101→w.length+(ndN z).length≤10000→Zx (z,deep,w)=some (.inr (w++itN deep z)):=by
   intro L
   induction L with
   | nil=>intro _ z hz;simp at hz
   | cons x L ihl=>
    intro g z hz
    rw[ndL,qOw] at g
    rcases qOL.1 hz with rfl|hz
    ·exact ih _ (by omega)
    ·exact ihl (by omega) z hz
  have hP:=hsub y.L (by omega)
  have hl:=qcO y.L
  have hML:100000≤maxLen:=by unfold maxLen;omega
  rw[qay,q0l,if_neg (by omega),if_neg (by omega),if_pos ⟨by omega,by omega⟩]
  have h1:=qgl Zx deep hd y (by omega) (q0n Zx y deep) (fun w i=>by rfl) (fun z hz w g1 g2=>hP z hz (deep+1) w (by omega) g1 g2) y.L 0 (w++[⟨y,deep⟩]) (by simp) (by simp) (by omega) (by rw[qOw,qOH];omega)
  rw[show((0:Nat):Int)=0 from rfl] at h1
  rw[h1,qOp,Sum.elim_inr,qsT,qP5]
  rfl
theorem qpX (n:qb) (hh:hgN n≤100) (hn:(ndN n).length≤9999):q3m n 1=some (.inr (itN 1 n)):=by
 rw[qef] at hh
 rw[q00,qOA] at hn
 have hl:=qcO n.L
 unfold q3m
 rw[if_neg (by omega),if_pos (by unfold maxLen;omega)]
 have h1:=qgl Zx 1 (by omega) n (by omega) (q17 n 1) (fun w i=>by rfl) (fun z hz w g1 g2=>qsb _ z (qOF _) (1+1) w (by omega) (by omega) g2) n.L 0 [⟨n,1⟩] (by simp) (by simp) (by omega) (by simp only[qOH];omega)
 rw[show((0:Nat):Int)=0 from rfl] at h1
 rw[h1,qOp,Sum.elim_inr,qsT]
 rfl
end
noncomputable section
open Go.RowKit
theorem qqi (items:List qv) (out:List qc) (hl:out.length≤1000000) (t6:Int) (S:List qc) (k:Nat) (c:qc) (hc:S[k]?=some c) (hS:S.length≤1000000):zy (QY items out t6 S (k:Int)) 0=some ((atF out c:Nat):Int):=by
 have hk:=Ja hc
 have h1:=q29 (ε:=Int) (step:=QY items out t6 S (k:Int)) out (fun(_:Unit) i=>(i:Int)) (fun i _ x=>if q40 x c=true then .inl () else .inr (i:Int)) (fun _=>(out.length:Int)) (fun _ i x hx=>by
   have hi:=Ja hx
   unfold QY
   rw[if_pos (by omega),if_pos ⟨by omega,by omega⟩,qOs,hx,qOp,if_pos ⟨by omega,by omega⟩,qOs,hc,qOp,Qr hi (by omega)]
   show(if q40 x c=true then _ else _)=_
   cases q40 x c<;>simp) (fun _=>by
   unfold QY
   rw[if_neg (by omega)]) ()
 rw[show((0:Nat):Int)=0 from rfl] at h1
 rw[h1]
 congr 1
 have:∀(l:List qc) (i:Nat) (n:Nat),i+l.length=n→q4l (ε:=Int) (fun i (_:Unit) (x:qc)=>if q40 x c=true then .inl () else .inr (i:Int)) (fun _=>(n:Int)) l i ()=((i+atF l c:Nat):Int):=by
  intro l
  induction l with
  | nil=>intro i n h;simp at h;unfold q4l atF;simp[h]
  | cons x l ih=>
   intro i n h
   simp only[qOA] at h
   unfold q4l
   by_cases hx:q40 x c=true
   ·have e:atF (x::l) c=atF l c+1:=by unfold atF;rw[List.takeWhile_cons,if_pos hx];rfl
    simp only[hx,if_true]
    rw[ih (i+1) n (by omega),e]
    omega
   ·have e:atF (x::l) c=0:=by unfold atF;rw[List.takeWhile_cons,if_neg hx];rfl
    have hx':q40 x c=false:=by simpa using hx
    simp only[hx',Bool.false_eq_true,if_false]
    rw[e];rfl
 have:=this out 0 out.length (by simp)
 simpa using this
theorem qfs (items:List qv) (out:List qc) (hl:out.length≤1000) (t6:Int) (S:List qc) (hS:S.length≤1000000) (k:Nat) (c:qc) (hc:S[k]?=some c) :
  Z6 items t6 S (out,(k:Int))=some (.inl (qi1 out c,((k+1:Nat):Int))):=by
 have hk:=Ja hc
 have hML:100000≤maxLen:=by unfold maxLen;omega
 have hat:=qnQ out c
 unfold Z6
 simp only
 rw[if_pos (by omega),qqi items out (by omega) t6 S k c hc hS,qOp]
 have hwk:w64 ((k:Int)+1)=((k+1:Nat):Int):=by rw[QF (by omega) (by omega)];omega
 have hwa:w64 (((atF out c:Nat):Int)+1)=((atF out c+1:Nat):Int):=by rw[QF (by omega) (by omega)];omega
 rw[hwk,hwa]
 simp only[qOs,qOS,qPc,qOw,qOA,qP9]
 rw[hc]
 simp only[qOp]
 have hkk:(0:Int)≤(k:Int)∧(k:Int)<((S.length:Nat):Int):=⟨by omega,by omega⟩
 simp only[hkk,and_self,if_true]
 unfold qi1
 by_cases hlt:atF out c<out.length
 ·obtain⟨x,hx⟩:∃x,out[atF out c]?=some x:=⟨_,qOr hlt⟩
  rw[if_pos (by omega),if_pos ⟨by omega,by omega⟩,hx,qOp]
  simp only[Option.any_some]
  by_cases hc:ceq x c=true
  ·have hc2:=hc
   unfold ceq at hc2
   simp only[qOV] at hc2
   rw[if_pos hc2,if_pos hc]
  ·have hc2:¬ ((x.School==c.School)=true∧(x.Code.toList==c.Code.toList)=true):=fun h=>hc (by unfold ceq;rw[h.1,h.2];rfl)
   rw[if_neg hc2,if_neg hc]
   repeat (first|rw[if_pos (by omega)]|rw[if_neg (by omega)])
   rw[qpy _ _ _ _ hlt]
 ·have he:atF out c=out.length:=by omega
  have hnone:out[out.length]?=none:=qOX (qOF _)
  rw[he,hnone]
  simp only[Option.any_none,Bool.false_eq_true,if_false]
  repeat (first|rw[if_pos (by omega)]|rw[if_neg (by omega)])
  rw[qk9]
theorem qzC (l:List qc):∀(out:List qc),(l.foldl qi1 out).length≤out.length+l.length:=by
 induction l with
 | nil=>intro out;simp
 | cons c l ih=>
  intro out
  rw[qPt,qOA]
  have:=ih (qi1 out c)
  have:=(qhJ out c).2.1
  omega
theorem qiM (items:List qv) (t6:Int) (S:List qc) (hS:S.length≤100):∀(r:List qc) (k:Nat) (out:List qc),r.length+k=S.length→(∀j,r[j]?=S[k+j]?)→out.length+r.length≤1000→zy (Z6 items t6 S) (out,(k:Int))=some (r.foldl qi1 out):=by
 intro r
 induction r with
 | nil=>
  intro k out hk _ _
  have hk:k=S.length:=by simpa using hk
  subst hk
  refine zt ?_
  unfold Z6
  simp only
  rw[if_neg (by omega)]
  rfl
 | cons c r ih=>
  intro k out hk hr hl
  simp only[qOA] at hk hl
  have hget:S[k]?=some c:=by have:=hr 0;simpa using this.symm
  rw[zW (qfs items out (by omega) t6 S (by omega) k c hget),qPt]
  have:=(qhJ out c).2.1
  exact ih (k+1) _ (by omega) (fun j=>by rw[show k+1+j=k+(j+1) by omega,←hr (j+1)];rfl) (by omega)
theorem qhd (items:List qv) (hn:items.length≤100) (hS:∀x∈items,x.Need.Set.length≤3):∀(r:List qv) (i:Nat) (out:List qc),r.length+i=items.length→(∀j,r[j]?=items[i+j]?)→out.length+3*r.length≤900→∃cs,zy (Z7 items) (out,(i:Int))=some cs∧cs.length≤900:=by
 intro r
 induction r with
 | nil=>
  intro i out hi _ hl
  have hi:i=items.length:=by simpa using hi
  subst hi
  refine⟨out,zt ?_,by simp at hl;omega⟩
  unfold Z7
  simp only
  rw[if_neg (by omega)]
 | cons x r ih=>
  intro i out hi hr hl
  simp only[qOA] at hi hl
  have hget:items[i]?=some x:=by have:=hr 0;simpa using this.symm
  have hlt:=Ja hget
  have hx:=hS x (qOq hget)
  have hs:=qiM items (i:Int) x.Need.Set (by omega) x.Need.Set 0 out (by simp) (by simp) (by omega)
  rw[show((0:Nat):Int)=0 from rfl] at hs
  have hp:=qzC x.Need.Set out
  obtain⟨cs,h1,h2⟩:=ih (i+1) (x.Need.Set.foldl qi1 out) (by omega) (fun j=>by rw[show i+1+j=i+(j+1) by omega,←hr (j+1)];rfl) (by omega)
  refine⟨cs,?_,h2⟩
  rw[zW (y:=(x.Need.Set.foldl qi1 out,((i+1:Nat):Int))) (by
   unfold Z7
   simp only
   rw[if_pos (by omega),if_pos ⟨by omega,by omega⟩,qOs,hget,qOp,hs,qOp,Qr hlt (by omega)])]
  exact h1
theorem ql9 {n:qb} (h:q6b 3 6 n):∃cs,q12 n=some cs∧cs.length≤900:=by
 have h1:=h.hg
 have h2:=h.l2
 have h3:=h.nd
 have hlen:=qoa n 1
 have hS:∀x∈itN 1 n,x.Need.Set.length≤3:=fun x hx=>by
  have hm:x.Need∈ndN n:=by rw[←qlU n 1];exact qPa.2 ⟨x,hx,rfl⟩
  rcases h.ok _ hm with h|h
  ·exact h.s3
  ·rw[h.st];simp
 obtain⟨cs,g1,g2⟩:=qhd (itN 1 n) (by omega) hS (itN 1 n) 0 [] (by simp) (by simp) (by simp;omega)
 refine⟨cs,?_,g2⟩
 unfold q12
 rw[qpX n (by omega) (by omega),qOp,Sum.elim_inr]
 rw[show((0:Nat):Int)=0 from rfl] at g1
 rw[g1,qOp]
theorem qzD (x m:Int) (h0:0<m) (h1:m≤1000000):∃v,q4d x m=some v∧0≤v∧v<m:=by
 have e1:=Int.tmod_lt_of_pos x h0
 have e2 : -m<Int.tmod x m:=by
  have:=Int.tmod_lt_of_pos (-x) h0
  rw[Int.neg_tmod] at this;omega
 have e3:w64 (Int.tmod x m+m)=Int.tmod x m+m:=QF (by omega) (by omega)
 refine⟨Int.tmod (Int.tmod x m+m) m,?_,Int.tmod_nonneg _ (by omega),Int.tmod_lt_of_pos _ h0⟩
 unfold q4d
 rw[if_neg (by omega),if_neg (by omega),e3]
theorem qkO {d:qi} (h:q0u d) {most:Int} (h0:0<most) (h1:most≤1000000):∃v d',QI most d=some (v,d')∧0≤v∧v<most∧q0u d':=by
 obtain⟨a,b,c⟩:=h
 unfold QI
 by_cases he:(d.L.length:Int)≤d.At
 ·exact⟨0,d,if_pos he,Int.le_refl _,h0,⟨a,b,c⟩⟩
 ·obtain⟨x,hx⟩:∃x,d.L[Int.toNat d.At]?=some x:=⟨_,qOr (by omega)⟩
  obtain⟨v,e1,e2,e3⟩:=qzD x most h0 h1
  have e6:w64 (d.At+1)=d.At+1:=QF (by omega) (by omega)
  have e7:w64 (d.At+1-1)=d.At:=by rw[QF (by omega) (by omega)];omega
  refine⟨v,⟨d.L,d.At+1⟩,?_,e2,e3,⟨by show 0≤d.At+1;omega,by show d.At+1≤d.L.length;omega,c⟩⟩
  rw[if_neg he,e6,e7,if_pos ⟨a,by omega⟩,hx,qOp,e1,qOp]
end

noncomputable section
open Go.RowKit
theorem qBE:∀L:List qb,L.length≤(ndL L).length
 | []=>qOP _
 | x::L=>by
  have:=qBE L
  rw[ndL,qOw,q00,qOA,qOA]
  omega
theorem qo8 (s:qg) (l:List qa) (hl:l.length≤62) (d:List Int) (hd:d.length=l.length):∀(n:qb) (nx:Nat),(∀y∈ndN n,y.Set.length≤1000000)→nx+(ndN n).length≤100000→
  JP (n,s,l,d,(nx:Int))=some ((q4O s l (fun j=>d.getD j (-1)) n nx).1,(q4O s l (fun j=>d.getD j (-1)) n nx).2,s,l,d,((nx+lvN n:Nat):Int)):=by
 intro n
 induction n using qb.rec (motive_2:=fun L=>∀(b5:qb) (pre:List qb) (nx many:Nat) (em wr:Bool),(∀y∈ndL L,y.Set.length≤1000000)→nx+(ndL L).length≤100000→many+L.length≤200000→pre.length+L.length≤200000→
   zy (Ji JP b5 (pre++L) ((pre++L).length:Int)) (s,l,d,(nx:Int),em,(many:Int),wr,(pre.length:Int)) =
    some (s,l,d,((nx+lvL L:Nat):Int),em&&(q2x s l (fun j=>d.getD j (-1)) (b5.Kind==3) L nx).1,((many+(q2x s l (fun j=>d.getD j (-1)) (b5.Kind==3) L nx).2.1:Nat):Int),wr||(q2x s l (fun j=>d.getD j (-1)) (b5.Kind==3) L nx).2.2)) with
 | mk k n m S L ih=>
  intro nx hs hn
  rw[ndN,qOA] at hn
  rw[qbu]
  unfold q0N
  simp only
  rw[qbQ,q5F,lvN]
  have hlf:q9N ⟨k,n,m,S,L⟩=decide (k=1∨k=2):=by
   unfold q9N
   simp only
   by_cases h1:k=1
   ·subst h1;rfl
   ·by_cases h2:k=2
    ·subst h2;rfl
    ·rw[beq_eq_false_iff_ne.2 h1,beq_eq_false_iff_ne.2 h2,decide_eq_false (by omega)];rfl
  rw[hlf]
  by_cases hk:k=1∨k=2
  ·have hsz:=hs _ (qev _)
   rw[if_pos (qPq hk),if_pos hk,if_pos hk,qlF _ (by omega) s l hl d hd nx,qOp]
   simp only
   generalize qhy ⟨k,n,m,S,L⟩ s l (fun j=>d.getD j (-1)==(nx:Int))=x
   have hw:w64 ((nx:Int)+1)=((nx+1:Nat):Int):=QF (by omega) (by omega)
   rw[hw]
   unfold q0Z
   by_cases h1:k=1
   ·subst h1
    have hx:Q0 x ⟨1,n,m,S,L⟩=qe0 ⟨1,n,m,S,L⟩ x:=by
     unfold Q0 qe0
     rw[if_pos rfl]
     cases x.fine<;>simp
    rw[if_pos (by decide),qOp,Sum.elim_inl,hx]
   ·have hx:Qv x ⟨k,n,m,S,L⟩=qe0 ⟨k,n,m,S,L⟩ x:=by
     unfold Qv qe0
     simp only
     rw[if_neg h1]
     cases x.fine
     ·simp
     ·by_cases h:0<x.many<;>simp[h]
    rw[if_neg (by rw[beq_eq_false_iff_ne.2 h1];decide),qOp,Sum.elim_inr,hx]
  ·have hln:=qBE L
   have h:=ih ⟨k,n,m,S,L⟩ [] nx 0 true false (fun y hy=>hs y (by rw[ndN];exact qOx _ hy)) (by omega) (by omega) (by simp;omega)
   rw[if_neg (by rw[decide_eq_false hk];decide),if_neg hk,if_neg hk]
   simp only[qOJ] at h
   change Option.bind (zy _ (s,l,d,(nx:Int),true,((0:Nat):Int),false,((([]:List qb).length:Nat):Int))) _=_
   rw[h,qOp]
   simp only[qOW,Bool.false_or,qON]
   cases(q2x s l (fun j=>d.getD j (-1)) (k==3) L nx).2.2<;>simp
 | nil=>
  rename_i b5 pre nx many em wr hs hn hm hp
  rw[lvL,q2x]
  refine zt ?_
  unfold Ji
  simp only
  rw[qOK,if_neg (by omega)]
  simp
 | cons x L h1 h2=>
  rename_i b5 pre nx many em wr hs hn hm hp
  rw[ndL,qOw] at hn
  rw[qOA] at hm hp
  have hx:=h1 nx (fun y hy=>hs y (by rw[ndL];exact qOB _ hy)) (by omega)
  have hlv:=qkD x
  have hw:w64 ((pre.length:Int)+1)=((pre.length+1:Nat):Int):=QF (by omega) (by omega)
  have hw2:w64 ((many:Int)+1)=((many+1:Nat):Int):=QF (by omega) (by omega)
  have hL:=h2 b5 (pre++[x]) (nx+lvN x) (many+if(q4O s l (fun j=>d.getD j (-1)) x nx).2=true then 1 else 0) (em&&(q4O s l (fun j=>d.getD j (-1)) x nx).1) (wr||(!(q4O s l (fun j=>d.getD j (-1)) x nx).2&&(!(q4O s l (fun j=>d.getD j (-1)) x nx).1||(b5.Kind==3)))) (fun y hy=>hs y (by rw[ndL];exact qOy _ hy)) (by omega) (by split<;>omega) (by rw[qOw,qOH];omega)
  rw[qP5,qPw,show(pre++[x]).length=pre.length+1 from by rw[qOw,qOH]] at hL
  have hg:(pre++x::L)[pre.length]?=some x:=by rw[qP2 (qOF _),Nat.sub_self];rfl
  rw[q2x,lvL]
  simp only
  rw[zW (y:=(s,l,d,((nx+lvN x:Nat):Int),em&&(q4O s l (fun j=>d.getD j (-1)) x nx).1,((many+(if(q4O s l (fun j=>d.getD j (-1)) x nx).2=true then 1 else 0):Nat):Int),wr||(!(q4O s l (fun j=>d.getD j (-1)) x nx).2&&(!(q4O s l (fun j=>d.getD j (-1)) x nx).1||(b5.Kind==3))),((pre.length+1:Nat):Int))) ?_,hL]
  ·simp only[qPj,Bool.and_assoc,Bool.or_assoc]
  ·unfold Ji
   simp only
   rw[if_pos (by rw[qOw,qOA];omega),if_pos (by rw[qOw,qOA];omega),qOs,hg,qOp,hx,qOp]
   simp only
   rw[hw,hw2]
   generalize (q4O s l (fun j=>d.getD j (-1)) x nx).1=q1
   generalize (q4O s l (fun j=>d.getD j (-1)) x nx).2=q2
   cases em<;>cases wr<;>cases q1<;>cases q2<;>simp
end
noncomputable section
open Go.RowKit
theorem qo9:∀n:qb,(∀y∈ndN n,q2P y)→lvN n≤((ndN n).filter q1G).length:=by
 intro n
 induction n using qb.rec (motive_2:=fun L=>(∀y∈ndL L,q2P y)→lvL L≤((ndL L).filter q1G).length) with
 | mk k n m S L ih=>
  intro hf
  have h1:=ih fun y hy=>hf y (by rw[ndN];exact qOx _ hy)
  rw[lvN,ndN,List.filter_cons]
  have hk:=(hf _ (qev _)).kind
  simp only at hk
  by_cases h:k=1∨k=2
  ·rw[if_pos h,if_pos (by unfold q1G;simp only;rcases h with h|h<;>subst h<;>decide),qOA]
   omega
  ·rw[if_neg h]
   split
   ·rw[qOA];omega
   ·exact h1
 | nil=>rename_i hf;rw[lvL];exact qOP _
 | cons x L h1 h2=>
  rename_i hf
  have a:=h1 fun y hy=>hf y (by rw[ndL];exact qOB _ hy)
  have b:=h2 fun y hy=>hf y (by rw[ndL];exact qOy _ hy)
  rw[lvL,ndL,List.filter_append,qOw]
  omega
theorem qr8 (d:List Int) (hd:d.length≤100) (v:Int) (h:∀(j:Nat) (y:Int),d[j]?=some y→q0a y v=false):Qw d v=some false:=by
 have h1:=q2o (step:=Q7 v d (d.length:Int)) (e := .inr ()) (fun i=>(i:Int)) 0 d.length (qOP _) (fun i _ hi=>by
   obtain⟨y,hy⟩:∃y,d[i]?=some y:=⟨_,qOr hi⟩
   have hw:w64 ((i:Int)+1)=((i+1:Nat):Int):=Qr (n:=100) (by omega) (by omega)
   unfold Q7
   rw[if_pos (by omega),if_pos ⟨by omega,by omega⟩,qOs,hy,qOp,h i y hy,if_neg (by decide),hw]) (by
   unfold Q7
   rw[if_neg (by omega)])
 unfold Qw Zu
 change Option.bind (Option.bind (zy _ ((0:Nat):Int)) _) _=_
 rw[h1]
 rfl
end
noncomputable section
open Go.RowKit
def qup (W:Nat) (l:List Int):Nat:=l.foldl (fun acc y=>acc*W+(y+1).toNat) 0
theorem qgy (W:Nat) (l:List Int) (y:Int):qup W (l++[y])=qup W l*W+(y+1).toNat:=by
 unfold qup
 rw[List.foldl_append]
 rfl
def Holds (b:List Int) (set w:Nat):Prop:=∀(j:Nat) (y:Int),b[j]?=some y→if set.testBit j=true then 0≤y∧y<(w:Int) else y = -1
theorem qcH {n:qb} {l:List qa} {set:Nat} (h:q3l n l set) {b:List Int} (hb:b.length=l.length) (hv:Holds b set (lvN n)) (j:Nat):Asg (b.take j) (fun k=>b.getD k (-1)) 0 (lvN n) set:=by
 have hget:∀k y,b[k]?=some y→b.getD k (-1)=y:=fun k y hk=>by rw[List.getD_eq_getElem?_getD,hk];rfl
 refine⟨fun k hk=>?_,fun k hk=>?_,fun k y hy x hx hx2=>?_⟩
 ·have hl:=qmR h.lt hk
  obtain⟨y,hy⟩:∃y,b[k]?=some y:=⟨_,qOr (by omega)⟩
  have:=hv k y hy
  rw[if_pos hk] at this
  show _≤b.getD k (-1)∧b.getD k (-1)<_
  rw[hget k y hy]
  omega
 ·show b.getD k (-1) = -1
  by_cases hl:k<b.length
  ·have hy:=qOr hl
   have:=hv k _ hy
   rw[hk,if_neg (by decide)] at this
   rw[hget k _ hy,this]
  ·rw[List.getD_eq_getElem?_getD,qOX (by omega)];rfl
 ·rw[List.getElem?_take] at hy
  split at hy
  ·show y=x↔b.getD k (-1)=x
   rw[hget k y hy]
  ·cases hy
theorem qgo {n:qb} {l:List qa} {set:Nat} (h:q3l n l set) {s:qg} {d b:List Int} (hd:d.length=l.length) (hf:q6o d s l n set) (hb:b.length=l.length) (hv:Holds b set (lvN n))
  (hm:(q4O s l (fun k=>b.getD k (-1)) n 0).2=true):d=b∨qup (lvN n+1) d<qup (lvN n+1) b:=by
 have hll:=h.ll
 have key:∀j,j≤l.length→d.take j=b.take j∨qup (lvN n+1) (d.take j)<qup (lvN n+1) (b.take j):=by
  intro j
  induction j with
  | zero=>intro _;left;rw[List.take_zero,List.take_zero]
  | succ j ih=>
   intro hj
   obtain⟨x,hx⟩:∃x,d[j]?=some x:=⟨_,qOr (by omega)⟩
   obtain⟨z,hz⟩:∃z,b[j]?=some z:=⟨_,qOr (by omega)⟩
   have ed:d.take (j+1)=d.take j++[x]:=by rw[List.take_add_one,hx];rfl
   have eb:b.take (j+1)=b.take j++[z]:=by rw[List.take_add_one,hz];rfl
   have vx:=hf.val j x hx
   have vz:=hv j z hz
   have hA:=(q5h (b.take (j+1)) s l (by omega) n 0 set h.fit h.lt).2 ⟨_,qcH h hb hv (j+1),hm⟩
   rw[ed,eb,qgy,qgy]
   rw[eb] at hA
   rcases ih (by omega) with e|e
   ·by_cases hbit:set.testBit j=true
    ·rw[if_pos hbit] at vx vz
     rcases Int.lt_trichotomy z x with g|g|g
     ·exfalso
      have:=hf.lst j x hx hbit z.toNat (by omega)
      rw[e,show((z.toNat:Nat):Int)=z from by omega,hA] at this
      exact absurd this (by decide)
     ·left;rw[e,g]
     ·right;rw[e];omega
    ·rw[if_neg hbit] at vx vz
     left;rw[e,vx,vz]
   ·right
    have h1:(x+1).toNat<lvN n+1:=by split at vx<;>omega
    have:=Nat.mul_le_mul_right (lvN n+1) e
    rw[Nat.succ_mul] at this
    omega
 have:=key l.length (qOF _)
 rwa [qPx (by omega),qPx (by omega)] at this
def qx9 (b:List Int):Nat:=mkS (fun j=>decide (0≤b.getD j (-1))) b.length
theorem qew {b:List Int} {j:Nat} {y:Int} (h:b[j]?=some y):(qx9 b).testBit j=decide (0≤y):=by
 unfold qx9
 rw[qcD,qPq (Ja h),qOW,List.getD_eq_getElem?_getD,h]
 rfl
theorem qy1 (b:List Int):qx9 b<2 ^ b.length:=qta _ _
theorem qkV {b:List Int} {w:Nat} (h:∀(j:Nat) (y:Int),b[j]?=some y → -1≤y∧y<(w:Int)):Holds b (qx9 b) w:=fun j y hy=>by
 have:=h j y hy
 rw[qew hy]
 by_cases e:0≤y
 ·rw[if_pos (qPq e)];omega
 ·rw[decide_eq_false e,if_neg (by decide)];omega
def qip (n:qb) (s:qg) (l:List qa) (b:List Int):Bool:=(q4O s l (fun k=>b.getD k (-1)) n 0).2
theorem qgf {n:qb} {l:List qa} {set:Nat} (h:q3l n l set) {s:qg} {b:List Int} (hb:b.length=l.length) (hv:Holds b set (lvN n)) (hm:qip n s l b=true):QM [] s l n 0 set=true:=by
 have:=qcH h hb hv 0
 rw[List.take_zero] at this
 exact(q5h [] s l (by have:=h.ll;omega) n 0 set h.fit h.lt).2 ⟨_,this,hm⟩
end
noncomputable section
open Go.RowKit
theorem q8T {n:qb} {l:List qa} {set:Nat} (h:q3l n l set) {s:qg} {d:List Int} (hd:d.length=l.length) (hf:q6o d s l n set):qip n s l d=true:=by
 have hll:=h.ll
 obtain⟨a,ha,hm⟩:=(q5h d s l (by omega) n 0 set h.fit h.lt).1 hf.ok
 have hget:∀j,j<l.length→∃y,d[j]?=some y∧d.getD j (-1)=y:=fun j hj=>⟨d[j]'(by omega),qOr (by omega),by rw[List.getD_eq_getElem?_getD,qOr (by omega)];rfl⟩
 have hv:q4O s l (fun j=>d.getD j (-1)) n 0=q4O s l a n 0:=q51 s l _ a n 0 fun k hk x hx hx2=>by
  obtain⟨y,hy,e⟩:=hget k hk
  show d.getD k (-1)=x↔a k=x
  rw[e]
  exact ha.com k y hy x hx (by omega)
 unfold qip
 rw[hv];exact hm
theorem qhv {n:qb} {l:List qa} {set:Nat} {s:qg} {d:List Int} (hf:q6o d s l n set) (j:Nat) (y:Int) (hy:d[j]?=some y) : -1≤y∧y+1<((lvN n+1:Nat):Int):=by
 have:=hf.val j y hy
 split at this<;>omega
end
noncomputable section
open Go.RowKit
structure Szs (n:qb):Prop where
 hg:hgN n≤100
 nd:(ndN n).length≤9999
 st:∀y∈ndN n,y.Set.length≤1000000
structure Rgt (n:qb):Prop where
 sz:Szs n
 ck:qdR n=0
theorem qjT:∀l:List qb,(qti l).getD 0=0→∀y∈l,q9z y=0
 | [],_,y,hy=>by cases hy
 | x::l,h,y,hy=>by
  unfold qti at h
  rw[List.findSome?_cons] at h
  by_cases hx:q9z x=0
  ·simp only[hx,ne_eq,not_true_eq_false,if_false] at h
   rcases qOL.1 hy with e|hy
   ·rw[e];exact hx
   ·exact qjT l h y hy
  ·simp only[hx,ne_eq,not_false_eq_true,if_true,Option.getD_some] at h
theorem qrW {n:qb} (h:Rgt n):∀y∈ndN n,q9z y=0:=by
 have hc:=h.ck
 unfold qdR at hc
 split at hc
 ·exact absurd hc (by decide)
 split at hc
 ·exact absurd hc (by decide)
 split at hc
 ·exact absurd hc (by decide)
 exact qjT _ hc
theorem qsr {y:qb} (h:q9z y=0):q2P y:=by
 unfold q9z at h
 by_cases e1:y.Kind=1
 ·exact⟨.inl e1,fun e=>by omega,fun e=>by omega⟩
 rw[if_neg e1] at h
 by_cases e2:y.Kind=2
 ·exact⟨.inr (.inl e2),fun e=>by omega,fun e=>by omega⟩
 rw[if_neg e2] at h
 by_cases e3:y.Kind=3
 ·rw[if_pos e3] at h
  split at h
  ·exact absurd h (by decide)
  ·rename_i hb
   have hb1:q8r y=true:=by
    cases hq:q8r y
    ·exact absurd (.inl hq) hb
    ·rfl
   have hb2:y.N=0:=Classical.byContradiction fun q=>hb (.inr q)
   unfold q8r at hb1
   simp only[qOV] at hb1
   refine⟨.inr (.inr (.inl e3)),fun _=>⟨by omega,fun q=>?_⟩,fun e=>by omega⟩
   rw[q] at hb1
   exact absurd hb1.2 (by decide)
 rw[if_neg e3] at h
 by_cases e4:y.Kind=4
 ·rw[if_pos e4] at h
  split at h
  ·exact absurd h (by decide)
  ·split at h
   ·exact absurd h (by decide)
   ·rename_i hi
    have:inF y.N 1 y.L.length=true:=by simpa using hi
    unfold inF at this
    rw[qOV,qPp] at this
    exact⟨.inr (.inr (.inr e4)),fun e=>by omega,fun _=>this.1⟩
 ·rw[if_neg e4] at h
  exact absurd h (by decide)
theorem qoL {n:qb} (h:Rgt n):∀y∈ndN n,q2P y:=fun y hy=>qsr (qrW h y hy)
theorem q3U {n:qb} (h:Rgt n) {l:List qa} (hl:l.length≤10) {set:Nat} (hs:set<2 ^ l.length):q3l n l set:=⟨qoL h,h.sz.nd,h.sz.st,by omega,hs⟩
theorem qeL {n:qb} (h:Rgt n) (s:qg) (l:List qa) (hl:l.length≤10):q2G n s l=some (Zh (2 ^ l.length) (QM [] s l n 0),0):=by
 have h4:=h.sz.nd
 unfold q2G
 rw[q9n n h.sz.hg h.sz.nd h.sz.st,h.ck,qOp,if_neg (by decide),if_neg (by omega)]
 unfold q5P
 have:=qlY [] rfl s l (by omega) _ n (qOF _) (by omega) h.sz.st 0 (by omega)
 rw[show((0:Nat):Int)=0 from rfl] at this
 rw[this,qOp,qOp]
theorem qgn {n:qb} (h:Rgt n) {l:List qa} (hl:l.length≤10) (s:qg) (d:List Int) (hd:d.length=l.length) (hv:∀(j:Nat) (y:Int),d[j]?=some y → -1≤y∧y<(lvN n:Int)):q2I n s l d=some (qip n s l d):=by
 have hnd:=h.sz.nd
 have hlf:=qo9 n (qoL h)
 unfold q2I
 rw[qfK n h.sz.hg hnd h.sz.st,qOp,q9n n h.sz.hg hnd h.sz.st,h.ck,qOp,if_neg (by decide),if_neg (by rw[hd];simp),qr8 d (by omega) _ fun j y hy=>?_,qOp,if_neg (by decide)]
 ·change Option.bind (JP (n,s,l,d,((0:Nat):Int))) _=_
  rw[qo8 s l (by omega) d hd n 0 h.sz.st (by omega),qOp]
  rfl
 ·have:=hv j y hy
  unfold q0a
  rw[if_neg (by omega)];exact decide_eq_false (by omega)
theorem qdP {n:qb} {l:List qa} {set:Nat} (h:q3l n l set) {s:qg} {d b:List Int} (hd:d.length=l.length) (hf:q6o d s l n set) (hb:b.length=l.length) (hg:q6o b s l n set):d=b:=by
 rcases qgo h hd hf hb hg.val (q8T h hb hg) with e|e
 ·exact e
 ·rcases qgo h hb hg hd hf.val (q8T h hd hf) with e2|e2
  ·exact e2.symm
  ·omega
theorem qcC {n:qb} {l:List qa} {set:Nat} (h:q3l n l set) {s:qg} {d:List Int} (hd:d.length=l.length) (hf:q6o d s l n set):QM [] s l n 0 set=true:=
 qgf h hd hf.val (q8T h hd hf)
theorem qm6 {n:qb} (h:Rgt n) {l:List qa} (hl:l.length≤10) {set:Nat} (hs:set<2 ^ l.length) (s:qg) {d:List Int} (hd:d.length=l.length) (hf:q6o d s l n set):q13 n s l (set:Int)=some (Qp set.testBit d,true):=by
 have hG:=q3U h hl hs
 rcases qgc hG s (qeL h s l hl) with ⟨g1,_⟩|⟨_,b,g2,g3,g4⟩
 ·rw[qcC hG hd hf] at g1;cases g1
 ·rw[g4,qdP hG hd hf g2 g3]
end
noncomputable section
open Go.RowKit
theorem q4L {α:Type}:∀(l:List α) (m:Nat→Bool),(Qp m l).length=rkF m l.length
 | [],_=>rfl
 | a::l,m=>by
  rw[Qp,qOw,q4L l,qOA,qbE]
  cases m 0<;>rfl
theorem qlS {α:Type}:∀(l:List α) (m:Nat→Bool) (k:Nat),m k=true→(Qp m l)[rkF m k]?=l[k]?
 | [],_,_,_=>by rw[Qp];simp
 | a::l,m,0,h=>by rw[Qp,h,if_pos rfl];rfl
 | a::l,m,k+1,h=>by
  rw[Qp,qbE]
  have:=qlS l (fun j=>m (j+1)) k h
  cases m 0
  ·rw[if_neg (by decide),if_neg (by decide),qOJ,qON,this,qOO]
  ·rw[if_pos rfl,if_pos rfl,qPw,Nat.add_comm 1,qOO,this,qOO]
theorem qcR {α:Type}:∀(l:List α) (m:Nat→Bool) (x:α),x∈Qp m l→x∈l
 | [],_,_,h=>by cases h
 | a::l,m,x,h=>by
  rw[Qp,qOT] at h
  rcases h with h|h
  ·cases h0:m 0<;>rw[h0] at h
   ·cases h
   ·exact qPg.1 h ▸ qOE
  ·exact qOx _ (qcR l _ x h)
theorem qcS {α:Type} (N:Nat) (g:Nat→α):Zh (N+1) g=Zh N g++[g N]:=by
 unfold Zh
 rw[List.range_succ,List.map_append];rfl
theorem qjr (m:Nat→Bool) (lf:List Int):∀N,rkF m N≤lf.length→Qp m (Zh N (qa6 m fun j=>lf.getD j (-1)))=lf.take (rkF m N)
 | 0,_=>by rw[rkF,List.take_zero];rfl
 | N+1,h=>by
  rw[rkF] at h
  rw[qcS,q6U,qjr m lf N (by omega),zF,rkF]
  unfold qa6
  cases e:m N
  ·rw[if_neg (by decide),if_neg (by decide),qOK,Nat.add_zero]
  ·rw[if_pos rfl,if_pos rfl,if_pos rfl,List.take_add_one]
   rw[e,if_pos rfl] at h
   dsimp only
   rw[List.getD_eq_getElem?_getD,qOr (by omega)]
   rfl
theorem qfY:∀{a b:List Int} {x y:Int},a.length=b.length→(q4p (a++[x]) (b++[y])=true↔q4p a b=true∨(a=b∧x<y))
 | [],[],x,y,_=>by simp[q4p]
 | u::a,v::b,x,y,h=>by
  have:=qfY (a:=a) (b:=b) (x:=x) (y:=y) (by simpa using h)
  rw[qPv,qPv,q4p,q4p,qOU,qOU,qOV,qOV,this,qPp,beq_iff_eq]
  constructor
  ·rintro(h|⟨h,h2|⟨h2,h3⟩⟩)
   ·exact .inl (.inl h)
   ·exact .inl (.inr ⟨h,h2⟩)
   ·exact .inr ⟨by rw[h,h2],h3⟩
  ·rintro((h|⟨h,h2⟩)|⟨h,h2⟩)
   ·exact .inl h
   ·exact .inr ⟨h,.inl h2⟩
   ·injection h with h3 h4;exact .inr ⟨h3,.inr ⟨h4,h2⟩⟩
theorem qjk:∀{a b:List Int} {m:Nat→Bool},a.length=b.length→(∀k,m k=false→a[k]?=b[k]?)→q4p a b=true→q4p (Qp m a) (Qp m b)=true
 | [],[],_,_,_,h=>by cases h
 | x::a,y::b,m,hl,he,h=>by
  rw[q4p,qOU,qOV,qPp,beq_iff_eq] at h
  have ih:=fun h=>qjk (a:=a) (b:=b) (m:=fun j=>m (j+1)) (by simpa using hl) (fun k hk=>by simpa using he (k+1) hk) h
  rw[Qp,Qp]
  cases e:m 0
  ·rw[if_neg (by decide),if_neg (by decide),qOJ,qOJ]
   have:x=y:=by simpa using he 0 e
   rcases h with h|h
   ·omega
   ·exact ih h.2
  ·rw[if_pos rfl,if_pos rfl,qPw,qPw,q4p,qOU,qOV,qPp,beq_iff_eq]
   rcases h with h|h
   ·exact .inl h
   ·exact .inr ⟨h.1,ih h.2⟩
theorem qpd {n:qb} {l:List qa} {set:Nat} (h:q3l n l set) {s:qg} {d b:List Int} (hd:d.length=l.length) (hf:q6o d s l n set) (hb:b.length=l.length) (hv:Holds b set (lvN n))
  (hm:qip n s l b=true):d=b∨q4p d b=true:=by
 have hll:=h.ll
 have key:∀j,j≤l.length→d.take j=b.take j∨q4p (d.take j) (b.take j)=true:=by
  intro j
  induction j with
  | zero=>intro _;left;rw[List.take_zero,List.take_zero]
  | succ j ih=>
   intro hj
   obtain⟨x,hx⟩:∃x,d[j]?=some x:=⟨_,qOr (by omega)⟩
   obtain⟨z,hz⟩:∃z,b[j]?=some z:=⟨_,qOr (by omega)⟩
   have ed:d.take (j+1)=d.take j++[x]:=by rw[List.take_add_one,hx];rfl
   have eb:b.take (j+1)=b.take j++[z]:=by rw[List.take_add_one,hz];rfl
   have hlen:(d.take j).length=(b.take j).length:=by rw[qOS,qOS];omega
   have vx:=hf.val j x hx
   have vz:=hv j z hz
   have hA:=(q5h (b.take (j+1)) s l (by omega) n 0 set h.fit h.lt).2 ⟨_,qcH h hb hv (j+1),hm⟩
   rw[ed,eb,qfY hlen]
   rw[eb] at hA
   rcases ih (by omega) with e|e
   ·by_cases hbit:set.testBit j=true
    ·rw[if_pos hbit] at vx vz
     rcases Int.lt_trichotomy z x with g|g|g
     ·exfalso
      have:=hf.lst j x hx hbit z.toNat (by omega)
      rw[e,show((z.toNat:Nat):Int)=z from by omega,hA] at this
      exact absurd this (by decide)
     ·left;rw[e,g]
     ·exact .inr (.inr ⟨e,g⟩)
    ·rw[if_neg hbit] at vx vz
     left;rw[e,vx,vz]
   ·exact .inr (.inl e)
 have:=key l.length (qOF _)
 rwa [qPx (by omega),qPx (by omega)] at this
structure Perm (n:qb) (s:qg) (l:List qa) (X:Nat) (lf:List Int):Prop where
 len:lf.length=rkF X.testBit l.length
 rng:∀(j:Nat) (y:Int),lf[j]?=some y → -1≤y∧y<(lvN n:Int)
 met:qip n s (Qp X.testBit l) lf=true
theorem qjG {n:qb} (h:Rgt n) {l:List qa} (hl:l.length≤10) {set:Nat} (hs:set<2 ^ l.length) (s:qg) (hS:QM [] s l n 0 set=true):∃d,d.length=l.length∧q6o d s l n set:=by
 rcases qgc (q3U h hl hs) s (qeL h s l hl) with ⟨e,_⟩|⟨_,d,h1,h2,_⟩
 ·rw[hS] at e;cases e
 ·exact⟨d,h1,h2⟩
theorem qdS {n:qb} (h:Rgt n) {l:List qa} (hl:l.length≤10) {s:qg} {X:Nat} {lf:List Int} (hp:Perm n s l X lf) :
  ∃sub d,sub<2 ^ l.length∧sub &&& X=sub∧d.length=l.length∧q6o d s l n sub∧(Qp X.testBit d=lf∨q4p (Qp X.testBit d) lf=true):=by
 obtain⟨b,hb⟩:∃b,b=Zh l.length (qa6 X.testBit fun j=>lf.getD j (-1)):=⟨_,rfl⟩
 have hbl:b.length=l.length:=by rw[hb,zF]
 have hget:∀k,k<l.length→b[k]?=some (qa6 X.testBit (fun j=>lf.getD j (-1)) k):=fun k hk=>by rw[hb,J2 _ hk]
 have hrng:∀(j:Nat) (y:Int),b[j]?=some y → -1≤y∧y<(lvN n:Int):=fun j y hy=>by
  have hj:=Ja hy
  rw[hget j (by omega)] at hy
  injection hy with hy
  unfold qa6 at hy
  split at hy
  ·subst hy
   by_cases hr:rkF X.testBit j<lf.length
   ·have:=hp.rng _ _ (qOr hr)
    dsimp only
    rw[List.getD_eq_getElem?_getD,qOr hr];exact this
   ·dsimp only
    rw[List.getD_eq_getElem?_getD,qOX (by omega)]
    exact⟨Int.le_refl _,by show(-1:Int)<_;omega⟩
  ·subst hy;exact⟨Int.le_refl _,by omega⟩
 have hv:=qkV hrng
 have hset:qx9 b<2 ^ l.length:=hbl ▸ qy1 b
 have G:=q3U h hl hset
 have hm:qip n s l b=true:=by
  have h1:=hp.met
  unfold qip at h1 ⊢
  rw[qku] at h1
  rw[←h1]
  congr 1
  refine q51 s l _ _ n 0 fun k hk x _ _=>?_
  show b.getD k (-1)=x↔_
  rw[List.getD_eq_getElem?_getD,hget k hk];exact Iff.rfl
 obtain⟨d,hd,hf⟩:=qjG h hl hset s (qgf G hbl hv hm)
 refine⟨qx9 b,d,hset,?_,hd,hf,?_⟩
 ·refine qfT fun k hk=>?_
  by_cases hkl:k<l.length
  ·rw[qew (hget k hkl),qPp] at hk
   unfold qa6 at hk
   split at hk
   ·assumption
   ·omega
  ·rw[Nat.testBit_lt_two_pow (qOZ hset (Nat.pow_le_pow_right (by decide) (by omega)))] at hk;cases hk
 ·have hsel:Qp X.testBit b=lf:=by
   rw[hb,qjr _ _ _ (by rw[hp.len];exact qOF _),←hp.len,List.take_length]
  rcases qpd G hd hf hbl hv hm with e|e
  ·left;rw[e,hsel]
  ·right
   have:=qjk (m:=X.testBit) (by omega) (fun k hk=>?_) e
   ·rw[hsel] at this;exact this
   ·by_cases hkl:k<l.length
    ·obtain⟨y,hy⟩:∃y,d[k]?=some y:=⟨_,qOr (by omega)⟩
     have hbit:(qx9 b).testBit k=false:=by
      rw[qew (hget k hkl)]
      unfold qa6
      rw[hk,if_neg (by decide)];rfl
     have:=hf.val k y hy
     rw[hbit,if_neg (by decide)] at this
     rw[hy,hget k hkl,this]
     unfold qa6
     rw[hk,if_neg (by decide)]
    ·rw[qOX (by omega),qOX (by omega)]
theorem ql6 {n:qb} (h:Rgt n) {l:List qa} (hl:l.length≤10) {s:qg} {X sub:Nat} (hs:sub<2 ^ l.length) (hX:sub &&& X=sub) {d:List Int} (hd:d.length=l.length) (hf:q6o d s l n sub):Perm n s l X (Qp X.testBit d):=by
 have G:=q3U h hl hs
 refine⟨by rw[q4L,hd],fun j y hy=>?_,?_⟩
 ·obtain⟨k,hk⟩:=List.getElem?_of_mem (qcR d _ y (qOq hy))
  have:=qhv hf k y hk
  omega
 ·have h1:=q8T G hd hf
  unfold qip at h1 ⊢
  rw[qku,←h1]
  congr 1
  refine q51 s l _ _ n 0 fun k hk x _ _=>?_
  obtain⟨y,hy⟩:∃y,d[k]?=some y:=⟨_,qOr (by omega)⟩
  show _↔d.getD k (-1)=x
  unfold qa6
  by_cases hk2:X.testBit k=true
  ·rw[if_pos hk2]
   dsimp only
   rw[List.getD_eq_getElem?_getD,List.getD_eq_getElem?_getD,qlS d _ k hk2]
  ·rw[if_neg hk2,List.getD_eq_getElem?_getD,hy]
   have hb:sub.testBit k=false:=qOR.2 fun e=>hk2 (qag hX e)
   have:=hf.val k y hy
   rw[hb,if_neg (by decide)] at this
   rw[this];exact Iff.rfl
end
noncomputable section
open Go.RowKit
set_option maxRecDepth 100000
def q3u (N m:Nat):List Int:=Qp m.testBit (Zh N fun i=>(i:Int))
theorem qfN {α:Type} (N:Nat) (g:Nat→α):Zh (N+1) g=g 0::Zh N fun i=>g (i+1):=by
 unfold Zh
 rw[List.range_succ_eq_map,qOM,List.map_map];rfl
theorem qkq {α:Type}:∀(l:List α) (p:Nat→Bool),(∀k,k<l.length→p k=false)→Qp p l=[]
 | [],_,_=>rfl
 | a::l,p,h=>by
  rw[Qp,h 0 (by simp),qkq l _ fun k hk=>h (k+1) (by simpa using hk)];rfl
theorem qgI {m:Nat} {N:Nat} (hN:N≤60) (hm:m<2 ^ N):∀(j k:Nat) (l:List Int),j+k=N→l.length≤k→zy (QD (m:Int)) (l,(k:Int))=some (l++Qp (fun i=>m.testBit (k+i)) (Zh j fun i=>((k+i:Nat):Int))):=by
 have hML:100000≤maxLen:=by unfold maxLen;omega
 have hm63:m<9223372036854775808:=qOZ hm (qP0 (Nat.pow_le_pow_right (by decide) hN) (by decide))
 have stop:∀(k:Nat) (l:List Int),k≤60→m / 2 ^ k=0→zy (QD (m:Int)) (l,(k:Int))=some l:=fun k l hk h0=>by
  refine zt ?_
  unfold QD
  dsimp only
  rw[if_pos (by omega),qOs,q9B m k (by omega),h0,if_neg (by decide)]
 intro j
 induction j with
 | zero=>
  intro k l hk hl
  obtain rfl:k=N:=by omega
  rw[stop k l hN (Nat.div_eq_of_lt hm)]
  show some l=some (l++[])
  rw[qOK]
 | succ j ih=>
  intro k l hk hl
  by_cases h0:m / 2 ^ k=0
  ·rw[stop k l (by omega) h0,qkq _ _ fun i _=>?_,qOK]
   rw[Nat.testBit_eq_decide_div_mod_eq,Nat.pow_add,←Nat.div_div_eq_div_mul,h0,Nat.zero_div]
   rfl
  ·have hws:w64 ((k:Int)+1)=((k+1:Nat):Int):=Qr (n:=1000) (by omega) (by omega)
   have hb:=qh7 m k hm63 (by omega)
   rw[qfN,Qp]
   have e1:(fun i=>m.testBit (k+(i+1)))=fun i=>m.testBit (k+1+i):=funext fun i=>by rw[Nat.add_right_comm,qPj]
   have e2:(fun i=>((k+(i+1):Nat):Int))=fun i=>((k+1+i:Nat):Int):=funext fun i=>by rw[Nat.add_right_comm,qPj]
   rw[e1,e2]
   have hpos:(0:Int)<((m:Int)).fdiv (2 ^ min k IntKind.i64.bits):=by rw[q9B m k (by omega)];exact Int.ofNat_lt.2 (Nat.pos_of_ne_zero h0)
   cases e:m.testBit k
   ·rw[if_neg (by decide),qOJ,←ih (k+1) l (by omega) (by omega)]
    refine zW ?_
    unfold QD
    dsimp only
    rw[if_pos (by omega),qOs,if_pos hpos,if_pos (by omega),if_neg (by rw[hb,e];decide),hws]
   ·rw[if_pos rfl,Nat.add_zero,←qP5,←ih (k+1) (l++[(k:Int)]) (by omega) (by rw[qOw];exact Nat.succ_le_succ hl)]
    refine zW ?_
    unfold QD
    dsimp only
    rw[if_pos (by omega),qOs,if_pos hpos,if_pos (by omega),if_pos (by rw[hb,e]),if_pos ⟨by omega,by omega⟩,hws]
theorem q3V {m N:Nat} (hN:N≤60) (hm:m<2 ^ N):ZO (m:Int)=some (q3u N m):=by
 have h:=qgI hN hm N 0 [] (by omega) (qOF _)
 unfold ZO
 change Option.bind (zy _ ([],((0:Nat):Int))) _=_
 rw[h,qOp,qOJ]
 simp only[qON]
 rfl
def qlB:List Int→List Int→Int
 | [],[]=>0
 | [],_::_ => -1
 | _::_,[]=>1
 | a::l,b::m=>if a<b then -1 else if b<a then 1 else qlB l m
theorem qeo:∀a b:List Int,(qlB a b<0↔q4p a b=true)
 | [],[]=>by simp[qlB,q4p]
 | [],_::_=>by simp[qlB,q4p]
 | _::_,[]=>by simp[qlB,q4p]
 | a::l,b::m=>by
  rw[qlB,q4p,qOU,qOV,qPp,beq_iff_eq]
  split
  ·rename_i h;exact⟨fun _ => .inl h,fun _=>by decide⟩
  ·split
   ·rename_i h;exact⟨fun h=>absurd h (by decide),fun h2=>by omega⟩
   ·rw[qeo l m]
    exact⟨fun h => .inr ⟨by omega,h⟩,fun h=>h.elim (fun h=>absurd h (by assumption)) fun h=>h.2⟩
theorem qok (x y:Int):Q9 x y=qf8 x y:=by
 have hn:∀z:Int,Qj z=false:=fun z=>by unfold Qj;simp
 unfold Q9 qf8
 rw[hn x,hn y,if_neg (by decide),if_neg (by decide)]
theorem qaU (s1 s2:List Int) (h1:s1.length≤1000000):∀(r q:List Int) (i:Nat),r.length+i=s1.length→(∀j,r[j]?=s1[i+j]?)→(∀j,q[j]?=s2[i+j]?)→(q=[]↔s2.length≤i)→
  ∃e:Int⊕Unit,zy (zS s1 s2 s1 ((s1.length:Nat):Int)) (i:Int)=some e∧e.elim id (fun _=>if((s1.length:Nat):Int)<((s2.length:Nat):Int) then -1 else 0)=qlB r q
 | [],q,i,hi,hr,hq,h0=>by
  have hi:i=s1.length:=by simpa using hi
  refine⟨.inr (),zt ?_,?_⟩
  ·unfold zS
   rw[if_neg (by omega)]
  ·show(if _ then(-1:Int) else 0)=_
   cases q with
   | nil=>rw[if_neg (by have:=h0.1 rfl;omega)];rfl
   | cons y q=>
    have hq2:¬ s2.length≤i:=fun h=>by cases h0.2 h
    rw[if_pos (by omega)];rfl
 | x::r,q,i,hi,hr,hq,h0=>by
  have hil:i<s1.length:=by simp only[qOA] at hi;omega
  have hx:s1[i]?=some x:=by have:=hr 0;rw[Nat.add_zero] at this;exact this.symm
  have hws:w64 ((i:Int)+1)=((i+1:Nat):Int):=Qr (n:=10000000) (by omega) (by omega)
  cases q with
  | nil=>
   have:=h0.1 rfl
   refine⟨.inl 1,zt ?_,rfl⟩
   unfold zS
   rw[if_pos (by omega),if_pos ⟨by omega,by omega⟩,qOs,hx,qOp,if_pos (by omega)]
  | cons y q=>
   have hl2:i<s2.length:=Nat.lt_of_not_le fun h=>by cases h0.2 h
   have hy:s2[i]?=some y:=by have:=hq 0;rw[Nat.add_zero] at this;exact this.symm
   have step:zS s1 s2 s1 ((s1.length:Nat):Int) (i:Int)=if(qf8 x y != 0)=true then some (.inr (.inl (qf8 x y))) else some (.inl ((i+1:Nat):Int)):=by
    unfold zS
    rw[if_pos (by omega),if_pos ⟨by omega,by omega⟩,qOs,hx,qOp,if_neg (by omega),if_pos ⟨by omega,by omega⟩,hy,qOp,qok,hws]
   by_cases hc:qf8 x y=0
   ·rw[if_neg (by simpa using hc)] at step
    obtain⟨e,e1,e2⟩:=qaU s1 s2 h1 r q (i+1) (by simp only[qOA] at hi;omega) (fun j=>by have:=hr (j+1);rw[qOO] at this;rw[this];congr 1;omega) (fun j=>by have:=hq (j+1);rw[qOO] at this;rw[this];congr 1;omega) (by
     have h3:=hq 1
     rw[qOO] at h3
     constructor
     ·rintro rfl
      rw[List.getElem?_nil] at h3
      exact List.getElem?_eq_none_iff.1 h3.symm
     ·intro h
      rw[qOX h] at h3
      cases q with
      | nil=>rfl
      | cons z q=>cases h3)
    refine⟨e,(zW step).trans e1,?_⟩
    rw[e2,qlB]
    unfold qf8 at hc
    split at hc
    ·cases hc
    ·split at hc
     ·cases hc
     ·rename_i h1 h2;rw[if_neg h1,if_neg h2]
   ·rw[if_pos (by simpa using hc)] at step
    refine⟨.inl (qf8 x y),zt step,?_⟩
    show qf8 x y=_
    rw[qlB]
    unfold qf8 at hc ⊢
    split
    ·rfl
    ·rename_i h1
     split
     ·rfl
     ·rename_i h2;rw[if_neg h1,if_neg h2] at hc;exact absurd rfl hc
theorem qmj (s1 s2:List Int) (h1:s1.length≤1000000):QR s1 s2=some (qlB s1 s2):=by
 obtain⟨e,e1,e2⟩:=qaU s1 s2 h1 s1 s2 0 (by omega) (fun j=>by rw[qON]) (fun j=>by rw[qON]) ⟨fun h=>by rw[h];exact qOF _,fun h=>qOI (by omega)⟩
 unfold QR
 change Option.bind (zy _ ((0:Nat):Int)) _=_
 rw[e1,qOp]
 cases e with
 | inl v=>rw[Sum.elim_inl];exact congrArg some e2
 | inr v=>
  rw[Sum.elim_inr]
  have e2:(if((s1.length:Nat):Int)<((s2.length:Nat):Int) then(-1:Int) else 0)=qlB s1 s2:=e2
  rw[←e2]
  split<;>rfl
theorem qiE {α:Type}:∀(l:List α) (p:Nat→Bool) (x:α),x∈Qp p l↔∃k,p k=true∧l[k]?=some x
 | [],p,x=>by simp[Qp]
 | a::l,p,x=>by
  rw[Qp,qOT,qiE l]
  constructor
  ·rintro(h|⟨k,h1,h2⟩)
   ·split at h
    ·rename_i h0;exact⟨0,h0,by rw[qPg.1 h];rfl⟩
    ·cases h
   ·exact⟨k+1,h1,h2⟩
  ·rintro⟨k,h1,h2⟩
   cases k with
   | zero=>left;rw[if_pos h1];injection h2 with h2;rw[h2];exact qPg.2 rfl
   | succ k=>right;exact⟨k,h1,h2⟩
theorem qkr {N m k:Nat}:((k:Nat):Int)∈q3u N m↔k<N∧m.testBit k=true:=by
 unfold q3u
 rw[qiE]
 constructor
 ·rintro⟨j,h1,h2⟩
  have hj:=Ja h2
  rw[zF] at hj
  rw[J2 _ hj] at h2
  injection h2 with h2
  obtain rfl:j=k:=by omega
  exact⟨hj,h1⟩
 ·rintro⟨h1,h2⟩
  exact⟨k,h2,J2 _ h1⟩
theorem qr1 {N a b:Nat} (ha:a<2 ^ N) (hb:b<2 ^ N) (h:q3u N a=q3u N b):a=b:=Nat.eq_of_testBit_eq fun k=>by
 by_cases hk:k<N
 ·have h1:=qkr (N:=N) (m:=a) (k:=k)
  rw[h,qkr] at h1
  rw[Bool.eq_iff_iff]
  exact⟨fun e=>(h1.2 ⟨hk,e⟩).2,fun e=>(h1.1 ⟨hk,e⟩).2⟩
 ·rw[Nat.testBit_lt_two_pow (qOZ ha (Nat.pow_le_pow_right (by decide) (by omega))),Nat.testBit_lt_two_pow (qOZ hb (Nat.pow_le_pow_right (by decide) (by omega)))]
theorem qqO {N M m:Nat} (hN:N≤60) (hM:M≤60) (h1:m<2 ^ N) (h2:m<2 ^ M):q3u N m=q3u M m:=by
 have:=(q3V hN h1).symm.trans (q3V hM h2)
 injection this
theorem qjP (N m:Nat):(q3u N m).length=rkF m.testBit N:=by
 unfold q3u
 rw[q4L,zF]
theorem qcY (m:Nat→Bool):∀N,rkF m N≤N
 | 0=>qOF _
 | N+1=>by rw[rkF];have:=qcY m N;split<;>omega
def qKC (m:Nat):Bool:=QC (IntKind.wrap IntKind.u64 (m:Int))==(((q3u 10 m).length:Nat):Int)
theorem quZ:(List.range 1024).all qKC=true:=by kernel_rfl
theorem qt9 {N m:Nat} (hN:N≤10) (hm:m<2 ^ N):QC (IntKind.wrap IntKind.u64 (m:Int))=(((q3u N m).length:Nat):Int):=by
 have h10:m<2 ^ 10:=qOZ hm (Nat.pow_le_pow_right (by decide) hN)
 have h:=qOG.1 quZ m (qPm.2 h10)
 rw[qqO (show N≤60 by omega) (show 10≤60 by omega) hm h10]
 exact eq_of_beq h
theorem qoW {N:Nat} (hN:N≤10) {a b:Nat} (ha:a<2 ^ N) (hb:b<2 ^ N):∃c,Qy (a:Int) (b:Int)=some c∧(c<0↔slL (q3u N a) (q3u N b)=true):=by
 have la:(q3u N a).length≤10:=by rw[qjP];exact qP0 (qcY _ _) hN
 unfold Qy
 rw[q3V (by omega) ha,qOp,q3V (by omega) hb,qOp,qmj _ _ (by omega),qOp,qt9 hN ha,qt9 hN hb,qok,qAt,qOp]
 refine⟨_,rfl,?_⟩
 rw[qfu]
 unfold qf8
 by_cases h1:(q3u N a).length<(q3u N b).length
 ·rw[if_pos (by omega:(((q3u N a).length:Nat):Int)<(((q3u N b).length:Nat):Int)),if_pos (by decide)]
  exact⟨fun _ => .inl h1,fun _=>by decide⟩
 ·rw[if_neg (by omega:¬ (((q3u N a).length:Nat):Int)<(((q3u N b).length:Nat):Int))]
  by_cases h2:(q3u N b).length<(q3u N a).length
  ·rw[if_pos (by omega:(((q3u N b).length:Nat):Int)<(((q3u N a).length:Nat):Int)),if_pos (by decide)]
   exact⟨fun h=>absurd h (by decide),fun h=>by rcases h with h|h<;>omega⟩
  ·rw[if_neg (by omega:¬ (((q3u N b).length:Nat):Int)<(((q3u N a).length:Nat):Int)),if_neg (by decide),qeo]
   exact⟨fun h => .inr ⟨by omega,h⟩,fun h=>h.elim (fun h=>absurd h (by omega)) fun h=>h.2⟩
def msL (N:Nat):List Int:=q0X Qy (Zh (2 ^ N) fun i=>(i:Int))
theorem q8g {N:Nat} {x:Int}:x∈(Zh N fun i=>(i:Int))↔∃k:Nat,k<N∧x=(k:Int):=by
 unfold Zh
 rw[qPa]
 constructor
 ·rintro⟨k,h1,h2⟩;exact⟨k,qPm.1 h1,h2.symm⟩
 ·rintro⟨k,h1,h2⟩;exact⟨k,qPm.2 h1,h2.symm⟩
theorem qmT (N:Nat):(Zh N fun i=>(i:Int)).Nodup:=by
 unfold Zh
 rw[List.nodup_iff_pairwise_ne,List.pairwise_map]
 exact(List.nodup_iff_pairwise_ne.1 List.nodup_range).imp fun h e=>h (by omega)
theorem qzF {N:Nat} (hN:N≤10):okB Qy (Zh (2 ^ N) fun i=>(i:Int))=true∧(msL N).Pairwise (fun x y=>slL (q3u N x.toNat) (q3u N y.toNat)=true)∧∀x,x∈msL N↔∃k:Nat,k<2 ^ N∧x=(k:Int):=by
 have hs:∀x∈(Zh (2 ^ N) fun i=>(i:Int)),∀y∈(Zh (2 ^ N) fun i=>(i:Int)),∃c,Qy x y=some c∧(c<0↔slL (q3u N x.toNat) (q3u N y.toNat)=true):=fun x hx y hy=>by
  obtain⟨a,ha,rfl⟩:=q8g.1 hx
  obtain⟨b,hb,rfl⟩:=q8g.1 hy
  exact qoW hN ha hb
 have hi:∀x∈(Zh (2 ^ N) fun i=>(i:Int)),∀y∈(Zh (2 ^ N) fun i=>(i:Int)),q3u N x.toNat=q3u N y.toNat→x=y:=fun x hx y hy h=>by
  obtain⟨a,ha,rfl⟩:=q8g.1 hx
  obtain⟨b,hb,rfl⟩:=q8g.1 hy
  rw[qOs,qOs] at h
  rw[qr1 ha hb h]
 refine⟨(qpE hs hi).1,qnH hs hi (qmT _),fun x=>?_⟩
 unfold msL
 rw[q3h,q8g]
end
noncomputable section
open Go.RowKit
theorem qpm {α β:Type} (f:α→Option β):∀(l:List α) (m:List β) (p:Nat→Bool),l.map f=m.map some→(Qp p l).filterMap f=Qp p m
 | [],[],_,_=>rfl
 | a::l,b::m,p,h=>by
  rw[qOM,qOM] at h
  injection h with h1 h2
  rw[Qp,Qp,List.filterMap_append,qpm f l m _ h2]
  congr 1
  split
  ·rw[List.filterMap_cons,h1];rfl
  ·rfl
theorem qhu {α:Type} (l:List α):(Zh l.length fun i=>(i:Int)).map (fun y=>l[Int.toNat y]?)=l.map some:=by
 apply List.ext_getElem?
 intro j
 rw[qOD,qOD]
 by_cases hj:j<l.length
 ·rw[J2 _ hj,qOr hj,Option.map_some,Option.map_some,qOs,qOr hj]
 ·rw[qOX (by rw[zF];omega),qOX (by omega)];rfl
theorem qtm {α:Type} (l:List α) (X:Nat):(q3u l.length X).filterMap (fun y=>l[Int.toNat y]?)=Qp X.testBit l:=qpm _ _ _ _ (qhu l)
theorem mem_range {N X:Nat} {y:Int} (h:y∈q3u N X):∃k:Nat,k<N∧y=(k:Int):=by
 have:=qcR _ _ _ h
 obtain⟨k,h1,h2⟩:=q8g.1 this
 exact⟨k,h1,h2⟩
theorem qaZ (l:List qa) (hl:l.length≤1000) (at0:List Int) (ha:at0.length≤1000) (hr:∀y∈at0,∃k:Nat,k<l.length∧y=(k:Int)):∀(r:List Int) (i:Nat) (out:List qa),r.length+i=at0.length→(∀j,r[j]?=at0[i+j]?)→out.length=i→
  zy (zp l at0 ((at0.length:Nat):Int)) (out,(i:Int))=some (out++r.filterMap fun y=>l[Int.toNat y]?)
 | [],i,out,hi,_,_=>by
  have hi:i=at0.length:=by simpa using hi
  refine(zt ?_).trans (by rw[List.filterMap_nil,qOK])
  unfold zp
  dsimp only
  rw[if_neg (by omega)]
 | y::r,i,out,hi,hj,ho=>by
  have hML:100000≤maxLen:=by unfold maxLen;omega
  have hil:i<at0.length:=by simp only[qOA] at hi;omega
  have hy:at0[i]?=some y:=by have:=hj 0;rw[Nat.add_zero] at this;exact this.symm
  obtain⟨k,hk,rfl⟩:=hr y (qOq hy)
  have hws:w64 ((i:Int)+1)=((i+1:Nat):Int):=Qr (n:=10000) (by omega) (by omega)
  have e:zp l at0 ((at0.length:Nat):Int) (out,(i:Int))=some (.inl (out++[l[k]],((i+1:Nat):Int))):=by
   unfold zp
   dsimp only
   rw[if_pos (by omega),if_pos ⟨by omega,by omega⟩,qOs,hy,qOp,if_pos ⟨by omega,by omega⟩,qOs,qOr hk,qOp,if_pos ⟨by omega,by omega⟩,hws]
  rw[zW e,qaZ l hl at0 ha hr r (i+1) _ (by simp only[qOA] at hi;omega) (fun j=>by have:=hj (j+1);rw[qOO] at this;rw[this];congr 1;omega) (by rw[qOw,ho];rfl),List.filterMap_cons,qOs,qOr hk]
  simp
def q5g (N:Nat) (m:Nat→Bool):List Int:=Qp m (Zh N fun i=>(i:Int))
theorem q4r (N:Nat) (m:Nat→Bool):(q5g N m).length=rkF m N:=by
 unfold q5g
 rw[q4L,zF]
theorem qei {N:Nat} {m:Nat→Bool} {y:Int} (h:y∈q5g N m):∃k:Nat,k<N∧y=(k:Int):=by
 have:=qcR _ _ _ h
 obtain⟨k,h1,h2⟩:=q8g.1 this
 exact⟨k,h1,h2⟩
theorem qm3 {α:Type} (l:List α) (m:Nat→Bool):(q5g l.length m).filterMap (fun y=>l[Int.toNat y]?)=Qp m l:=qpm _ _ _ _ (qhu l)
theorem qnX {l:List qa} (hl:l.length≤1000) (m:Nat→Bool):zP l (q5g l.length m)=some (Qp m l):=by
 have hlen:(q5g l.length m).length≤1000:=by rw[q4r];exact qP0 (qcY _ _) hl
 have h:=qaZ l (by omega) (q5g l.length m) (by omega) (fun y hy=>qei hy) (q5g l.length m) 0 [] (by omega) (fun j=>by rw[qON]) rfl
 unfold zP
 change Option.bind (zy _ ([],((0:Nat):Int))) _=_
 rw[h,qOp,qOJ,qm3]
theorem qb4 (l:List Int) (hl:l.length≤1000) (at0:List Int) (ha:at0.length≤1000) (hr:∀y∈at0,∃k:Nat,k<l.length∧y=(k:Int)):∀(r:List Int) (i:Nat) (out:List Int),r.length+i=at0.length→(∀j,r[j]?=at0[i+j]?)→out.length=i→
  zy (Qt l at0 ((at0.length:Nat):Int)) (out,(i:Int))=some (out++r.filterMap fun y=>l[Int.toNat y]?)
 | [],i,out,hi,_,_=>by
  have hi:i=at0.length:=by simpa using hi
  refine(zt ?_).trans (by rw[List.filterMap_nil,qOK])
  unfold Qt
  dsimp only
  rw[if_neg (by omega)]
 | y::r,i,out,hi,hj,ho=>by
  have hML:100000≤maxLen:=by unfold maxLen;omega
  have hil:i<at0.length:=by simp only[qOA] at hi;omega
  have hy:at0[i]?=some y:=by have:=hj 0;rw[Nat.add_zero] at this;exact this.symm
  obtain⟨k,hk,rfl⟩:=hr y (qOq hy)
  have hws:w64 ((i:Int)+1)=((i+1:Nat):Int):=Qr (n:=10000) (by omega) (by omega)
  have e:Qt l at0 ((at0.length:Nat):Int) (out,(i:Int))=some (.inl (out++[l[k]],((i+1:Nat):Int))):=by
   unfold Qt
   dsimp only
   rw[if_pos (by omega),if_pos ⟨by omega,by omega⟩,qOs,hy,qOp,if_pos ⟨by omega,by omega⟩,qOs,qOr hk,qOp,if_pos ⟨by omega,by omega⟩,hws]
  rw[zW e,qb4 l hl at0 ha hr r (i+1) _ (by simp only[qOA] at hi;omega) (fun j=>by have:=hj (j+1);rw[qOO] at this;rw[this];congr 1;omega) (by rw[qOw,ho];rfl),List.filterMap_cons,qOs,qOr hk]
  simp
theorem qxC {l:List Int} (hl:l.length≤1000) (m:Nat→Bool):ZW l (q5g l.length m)=some (Qp m l):=by
 have hlen:(q5g l.length m).length≤1000:=by rw[q4r];exact qP0 (qcY _ _) hl
 have h:=qb4 l (by omega) (q5g l.length m) (by omega) (fun y hy=>qei hy) (q5g l.length m) 0 [] (by omega) (fun j=>by rw[qON]) rfl
 unfold ZW
 change Option.bind (zy _ ([],((0:Nat):Int))) _=_
 rw[h,qOp,qOJ,qm3]
end
noncomputable section
open Go.RowKit
structure qpO (n:qb) (s:qg) (l:List qa) (X sub:Nat) (lf:List Int):Prop where
 lt:sub<2 ^ l.length
 sb:sub &&& X=sub
 ex:∃d,d.length=l.length∧q6o d s l n sub∧lf=Qp X.testBit d
theorem qpO.uniq {n:qb} (h:Rgt n) {l:List qa} (hl:l.length≤10) {s:qg} {X sub:Nat} {lf lf':List Int} (a:qpO n s l X sub lf) (b:qpO n s l X sub lf'):lf=lf':=by
 obtain⟨d,h1,h2,rfl⟩:=a.ex
 obtain⟨d',h3,h4,rfl⟩:=b.ex
 rw[qdP (q3U h hl a.lt) h1 h2 h3 h4]
def q1x (n:qb) (s:qg) (l:List qa) (X:Nat) (P:Nat→Prop) (w:List Int) (f:Bool):Prop:=
 (f=true→(∃sub,P sub∧qpO n s l X sub w)∧∀sub lf,P sub→qpO n s l X sub lf→w=lf∨q4p w lf=true)∧
 (f=false→w=[]∧∀sub lf,P sub→¬ qpO n s l X sub lf)
section
variable {n:qb} {s:qg} {l:List qa} {X:Nat} {P:Nat→Prop} {w:List Int} {f:Bool}
theorem q1x.start (h:∀k,¬ P k):q1x n s l X P [] false:=⟨fun h=>(by cases h),fun _=>⟨rfl,fun sub lf hp=>absurd hp (h sub)⟩⟩
theorem q1x.congr {Q:Nat→Prop} (h:q1x n s l X P w f) (hq:∀k,k<2 ^ l.length→k &&& X=k→(Q k↔P k)):q1x n s l X Q w f:=by
 refine⟨fun hf=>?_,fun hf=>?_⟩
 ·obtain⟨⟨sub,h1,h2⟩,h3⟩:=h.1 hf
  exact⟨⟨sub,(hq _ h2.lt h2.sb).2 h1,h2⟩,fun sub lf hp hc=>h3 sub lf ((hq _ hc.lt hc.sb).1 hp) hc⟩
 ·obtain⟨h1,h2⟩:=h.2 hf
  exact⟨h1,fun sub lf hp hc=>h2 sub lf ((hq _ hc.lt hc.sb).1 hp) hc⟩
theorem q1x.skip (h:q1x n s l X P w f) {sub:Nat} (hno:∀lf,¬ qpO n s l X sub lf):q1x n s l X (fun k=>P k∨k=sub) w f:=by
 refine⟨fun hf=>?_,fun hf=>?_⟩
 ·obtain⟨⟨sub',h1,h2⟩,h3⟩:=h.1 hf
  refine⟨⟨sub',.inl h1,h2⟩,fun k lf hp hc=>?_⟩
  rcases hp with hp|rfl
  ·exact h3 k lf hp hc
  ·exact absurd hc (hno lf)
 ·obtain⟨h1,h2⟩:=h.2 hf
  refine⟨h1,fun k lf hp hc=>?_⟩
  rcases hp with hp|rfl
  ·exact h2 k lf hp hc
  ·exact hno lf hc
theorem q1x.take (hR:Rgt n) (hl:l.length≤10) (h:q1x n s l X P w f) {sub:Nat} {lf:List Int} (hc:qpO n s l X sub lf) (hb:f=false∨q4p lf w=true):q1x n s l X (fun k=>P k∨k=sub) lf true:=by
 refine⟨fun _=>⟨⟨sub,.inr rfl,hc⟩,fun k lf2 hp hc2=>?_⟩,fun h=>(by cases h)⟩
 rcases hp with hp|rfl
 ·rcases hb with hf|hlt
  ·exact absurd hc2 ((h.2 hf).2 k lf2 hp)
  ·cases hf:f
   ·exact absurd hc2 ((h.2 hf).2 k lf2 hp)
   ·rcases(h.1 hf).2 k lf2 hp hc2 with e|e
    ·rw[←e];exact .inr hlt
    ·exact .inr (q3W hlt e)
 ·exact .inl (hc.uniq hR hl hc2)
theorem q1x.leave (hR:Rgt n) (hl:l.length≤10) (h:q1x n s l X P w true) {sub:Nat} {lf:List Int} (hc:qpO n s l X sub lf) (hb:q4p lf w=false):q1x n s l X (fun k=>P k∨k=sub) w true:=by
 obtain⟨⟨sub',h1,h2⟩,h3⟩:=h.1 rfl
 refine⟨fun _=>⟨⟨sub',.inl h1,h2⟩,fun k lf2 hp hc2=>?_⟩,fun h=>(by cases h)⟩
 rcases hp with hp|rfl
 ·exact h3 k lf2 hp hc2
 ·obtain rfl:=hc.uniq hR hl hc2
  rcases qab w lf with e|e|e
  ·exact .inl e
  ·exact .inr e
  ·rw[hb] at e;cases e
def qF7 (n:qb) (s:qg) (l:List qa) (X:Nat) (w:List Int) (f:Bool):Prop:=
 (f=true→Perm n s l X w∧∀lf,Perm n s l X lf→w=lf∨q4p w lf=true)∧(f=false→w=[]∧∀lf,¬ Perm n s l X lf)
theorem q1x.lv (hR:Rgt n) (hl:l.length≤10) (h:q1x n s l X (fun _=>True) w f):qF7 n s l X w f:=by
 refine⟨fun hf=>?_,fun hf=>?_⟩
 ·obtain⟨⟨sub,-,hc⟩,h3⟩:=h.1 hf
  obtain⟨d,h1,h2,rfl⟩:=hc.ex
  refine⟨ql6 hR hl hc.lt hc.sb h1 h2,fun lf hp=>?_⟩
  obtain⟨sub',d',q1,q2,q3,q4,q5⟩:=qdS hR hl hp
  have h4:=h3 sub' _ trivial ⟨q1,q2,d',q3,q4,rfl⟩
  rcases h4 with e|e
  ·rw[e];exact q5
  ·rcases q5 with q5|q5
   ·rw[←q5];exact .inr e
   ·exact .inr (q3W e q5)
 ·obtain⟨h1,h2⟩:=h.2 hf
  refine⟨h1,fun lf hp=>?_⟩
  obtain⟨sub',d',q1,q2,q3,q4,q5⟩:=qdS hR hl hp
  exact h2 sub' _ trivial ⟨q1,q2,d',q3,q4,rfl⟩
end
end
noncomputable section
open Go.RowKit
theorem qra {set k:Nat} (hs:set<9223372036854775808) (hk:k≤62):(ZR Go.BinOp.and IntKind.i64 (Int.fdiv (set:Int) ((2:Int) ^ min (Int.toNat (k:Int)) (IntKind.bits IntKind.i64))) (1:Int)==(0:Int)) = !set.testBit k:=by
 rw[qOs,q9B set k (by omega),show(1:Int)=((1:Nat):Int) from rfl,qfa _ 1 (qP1 (Nat.div_le_self _ _) hs) (by decide),Nat.and_one_is_mod,Nat.testBit_eq_decide_div_mod_eq]
 have:set / 2 ^ k % 2<2:=Nat.mod_lt _ (by decide)
 by_cases e:set / 2 ^ k % 2=1
 ·rw[e];rfl
 ·have e0:set / 2 ^ k % 2=0:=by omega
  rw[e0];rfl
theorem qeh {α:Type}:∀(l:List α) (p m:Nat→Bool) (q:α→Bool),(∀k x,l[k]?=some x→p k=(m k&&q x))→Qp p l=(Qp m l).filter q
 | [],_,_,_,_=>rfl
 | a::l,p,m,q,h=>by
  have h0:p 0=(m 0&&q a):=h 0 a rfl
  rw[Qp,Qp,List.filter_append,←qeh l _ _ q fun k x hk=>h (k+1) x hk,h0]
  congr 1
  cases m 0<;>cases hq:q a<;>simp[hq]
theorem qpY {N sub X:Nat} (h:sub &&& X=sub):q3u N sub=(q3u N X).filter fun y=>sub.testBit (Int.toNat y):=by
 unfold q3u
 refine qeh _ _ _ _ fun k x hk=>?_
 have hj:=Ja hk
 rw[zF] at hj
 rw[J2 _ hj] at hk
 injection hk with hk
 subst hk
 rw[qOs]
 cases e:sub.testBit k
 ·simp
 ·rw[qag h e];rfl
theorem qg1 {d:List Int} (hd:d.length≤10) {sub:Nat} (hs:sub<9223372036854775808) (hoff:∀(j:Nat) (y:Int),d[j]?=some y→sub.testBit j=false→y = -1) (w2:List Int) (b0:qf) (b1:qg) (t2:List qa) (t3:List Bool) (t4:Int) (t11:Bool) (M:List Int) (hM:M.length≤10) (hr:∀y∈M,∃k:Nat,k<d.length∧y=(k:Int)) :
  ∀(r:List Int) (i:Nat) (out asg:List Int),r.length+i=M.length→(∀j,r[j]?=M[i+j]?)→out.length=i→asg=r.filterMap (fun y=>if sub.testBit (Int.toNat y)=true then d[Int.toNat y]? else none)→
  zy (Qx w2 b0 b1 t2 t3 t4 t11 (sub:Int) M ((M.length:Nat):Int)) (out,asg,(i:Int))=some (out++r.filterMap fun y=>d[Int.toNat y]?)
 | [],i,out,asg,hi,_,_,_=>by
  have hi:i=M.length:=by simpa using hi
  refine(zt ?_).trans (by rw[List.filterMap_nil,qOK])
  unfold Qx
  dsimp only
  rw[if_neg (by omega)]
 | y::r,i,out,asg,hi,hj,ho,ha=>by
  have hML:100000≤maxLen:=by unfold maxLen;omega
  have hil:i<M.length:=by simp only[qOA] at hi;omega
  have hy:M[i]?=some y:=by have:=hj 0;rw[Nat.add_zero] at this;exact this.symm
  obtain⟨k,hk,rfl⟩:=hr y (qOq hy)
  have hws:w64 ((i:Int)+1)=((i+1:Nat):Int):=Qr (n:=10000) (by omega) (by omega)
  have hb:=qra (set:=sub) (k:=k) hs (by omega)
  have hdk:d[k]?=some d[k]:=qOr hk
  have next:∀(out' asg':List Int),out'.length=i+1→asg'=r.filterMap (fun y=>if sub.testBit (Int.toNat y)=true then d[Int.toNat y]? else none)→Qx w2 b0 b1 t2 t3 t4 t11 (sub:Int) M ((M.length:Nat):Int) (out,asg,(i:Int))=some (.inl (out',asg',((i+1:Nat):Int)))→out'=out++[d[k]]→
    zy (Qx w2 b0 b1 t2 t3 t4 t11 (sub:Int) M ((M.length:Nat):Int)) (out,asg,(i:Int))=some (out++((k:Int)::r).filterMap fun y=>d[Int.toNat y]?):=fun out' asg' h1 h2 h3 h4=>by
   rw[zW h3,qg1 hd hs hoff w2 b0 b1 t2 t3 t4 t11 M hM hr r (i+1) out' asg' (by simp only[qOA] at hi;omega) (fun j=>by have:=hj (j+1);rw[qOO] at this;rw[this];congr 1;omega) h1 h2,List.filterMap_cons,qOs,hdk,h4]
   simp
  cases hbit:sub.testBit k
  ·have hm1:d[k] = -1:=hoff k _ hdk hbit
   refine next (out++[(-(1:Int))]) asg (by rw[qOw,ho];rfl) ?_ ?_ (by rw[hm1])
   ·rw[ha,List.filterMap_cons,qOs,hbit,if_neg (by decide)]
   ·unfold Qx
    dsimp only
    rw[if_pos (by omega),if_pos ⟨by omega,by omega⟩,qOs,hy,qOp,if_pos (by omega),if_pos (by rw[hb,hbit];rfl),if_pos ⟨by omega,by omega⟩,hws]
  ·rw[List.filterMap_cons,qOs,hbit,if_pos rfl,hdk] at ha
   subst ha
   refine next (out++[d[k]]) _ (by rw[qOw,ho];rfl) rfl ?_ rfl
   unfold Qx
   dsimp only
   rw[if_pos (by omega),if_pos ⟨by omega,by omega⟩,qOs,hy,qOp,if_pos (by omega),if_neg (by rw[hb,hbit];decide),if_pos (by simp),qOz,qOp,if_pos ⟨by omega,by omega⟩,if_pos (by simp;omega),hws]
   simp
theorem qg0 {p:qf} (h:Rgt p.Need) {l:List qa} (hl:l.length≤10) (s:qg) {X:Nat} (hX:X<2 ^ l.length) {w:List Int} {f:Bool} (j:Nat) (hj:j≤X) (hw:w.length≤10) (hB:q1x p.Need s l X (fun k=>j+1≤k) w f) :
  ∃w' f',w'.length≤10∧q1x p.Need s l X (fun k=>j≤k) w' f'∧Z9 p s l (Zh (2 ^ l.length) (QM [] s l p.Need 0)) (X:Int) (w,f,(j:Int))=some (.inl (w',f',(j:Int)-1)):=by
 have hjlt:j<2 ^ l.length:=by omega
 have h10:(2:Nat) ^ l.length≤1024:=qP0 (Nat.pow_le_pow_right (by decide) hl) (by decide)
 have G:=q3U h hl hjlt
 have ew:w64 ((j:Int)-1)=(j:Int)-1:=QF (by omega) (by omega)
 have grow:∀{w':List Int} {f':Bool},q1x p.Need s l X (fun k=>j+1≤k∨k=j) w' f'→q1x p.Need s l X (fun k=>j≤k) w' f':=fun hb=>hb.congr fun k _ _=>by omega
 have han:=qe2 j X (by omega) (by omega)
 unfold Z9
 dsimp only
 rw[if_pos (by omega),han,ew]
 by_cases hsub:j &&& X=j
 ·rw[if_neg (by rw[hsub,Nat.xor_self];decide),if_pos ⟨by omega,by rw[zF];omega⟩,qOs,J2 _ hjlt,qOp]
  cases hS:QM [] s l p.Need 0 j
  ·rw[if_pos (by decide)]
   exact⟨w,f,hw,grow (hB.skip fun lf hc=>by
    obtain⟨d,h1,h2,-⟩:=hc.ex
    have:=qcC G h1 h2
    rw[hS] at this;cases this),rfl⟩
  ·rw[if_neg (by decide)]
   obtain⟨d,h1,h2⟩:=qjG h hl hjlt s hS
   have hM:(q3u l.length X).length≤10:=by rw[qjP];exact qP0 (qcY _ _) hl
   have hloop:=qg1 (d:=d) (by omega) (sub:=j) (by omega) (fun i y hy hb=>by have:=h2.val i y hy;rw[hb,if_neg (by decide)] at this;exact this) w p s l (Zh (2 ^ l.length) (QM [] s l p.Need 0)) (X:Int) f (q3u l.length X) hM (fun y hy=>by rw[h1];exact mem_range hy) (q3u l.length X) 0 [] (Qp j.testBit d) (by omega) (fun i=>by rw[qON]) rfl (by
    rw[←qtm d j,h1,qpY hsub,List.filterMap_filter])
   rw[qm6 h hl hjlt s h1 h2,qOp]
   dsimp only
   rw[if_neg (by decide),q3V (N:=l.length) (by omega) hX,qOp]
   change ∃w' f',_∧_∧Option.bind (zy _ ([],Qp j.testBit d,((0:Nat):Int))) _=_
   have e1:(q3u l.length X).filterMap (fun y=>d[Int.toNat y]?)=Qp X.testBit d:=by rw[←h1];exact qtm d X
   rw[hloop,qOp,qOJ,e1]
   have hc:qpO p.Need s l X j (Qp X.testBit d):=⟨hjlt,hsub,d,h1,h2,rfl⟩
   have hlen:(Qp X.testBit d).length≤10:=by have:=q3H d X.testBit;omega
   cases hf:f
   ·rw[if_pos (by decide)]
    exact⟨_,_,hlen,grow (hB.take h hl hc (.inl hf)),rfl⟩
   ·rw[if_neg (by decide),qmj _ _ (by omega),qOp]
    subst hf
    by_cases hlt:qlB (Qp X.testBit d) w<0
    ·rw[if_pos hlt]
     exact⟨_,_,hlen,grow (hB.take h hl hc (.inr ((qeo _ _).1 hlt))),rfl⟩
    ·rw[if_neg hlt]
     exact⟨_,_,hw,grow (hB.leave h hl hc (qOR.2 fun e=>hlt ((qeo _ _).2 e))),rfl⟩
 ·have hne:((j ^^^ (j &&& X):Nat):Int)≠0:=fun e=>hsub (by
   have h0:j ^^^ (j &&& X)=0:=by omega
   exact Nat.eq_of_testBit_eq fun k=>by
    have h2:(j ^^^ (j &&& X)).testBit k=false:=by rw[h0,Nat.zero_testBit]
    rw[Nat.testBit_xor] at h2
    cases e1:(j &&& X).testBit k<;>cases e2:j.testBit k<;>rw[e1,e2] at h2<;>first|rfl|cases h2)
  rw[if_pos (by simpa using hne)]
  exact⟨w,f,hw,grow (hB.skip fun lf hc=>hsub hc.sb),rfl⟩
theorem qit {p:qf} (h:Rgt p.Need) {l:List qa} (hl:l.length≤10) (s:qg) {X:Nat} (hX:X<2 ^ l.length) :
  ∃w f,q1h p s l (Zh (2 ^ l.length) (QM [] s l p.Need 0)) (X:Int)=some (w,f)∧w.length≤10∧qF7 p.Need s l X w f:=by
 have h10:(2:Nat) ^ l.length≤1024:=qP0 (Nat.pow_le_pow_right (by decide) hl) (by decide)
 have key:∀(i:Nat),i≤X+1→∀(w:List Int) (f:Bool),w.length≤10→q1x p.Need s l X (fun k=>i≤k) w f→∃w' f',zy (Z9 p s l (Zh (2 ^ l.length) (QM [] s l p.Need 0)) (X:Int)) (w,f,(i:Int)-1)=some (w',f')∧w'.length≤10∧qF7 p.Need s l X w' f':=by
  intro i
  induction i with
  | zero=>
   intro _ w f hw hB
   refine⟨w,f,zt ?_,hw,(hB.congr fun k _ _=>⟨fun _=>qOP k,fun _=>trivial⟩).lv h hl⟩
   unfold Z9
   dsimp only
   rw[if_neg (by decide)]
  | succ i ih=>
   intro hi w f hw hB
   obtain⟨w',f',h1,h2,h3⟩:=qg0 h hl s hX i (by omega) hw hB
   rw[show((i+1:Nat):Int)-1=(i:Int) by omega,zW h3]
   exact ih (by omega) w' f' h1 h2
 obtain⟨w,f,h1,h2,h3⟩:=key (X+1) (qOF _) [] false (qOP _) ((q1x.start (P:=fun _=>False) fun _ h=>h).congr fun k _ hk=>⟨fun h=>by
  have:k≤X:=by rw[←hk];exact Nat.and_le_right
  omega,fun h=>h.elim⟩)
 rw[show((X+1:Nat):Int)-1=(X:Int) by omega] at h1
 unfold q1h
 rw[h1,qOp]
 exact⟨w,f,rfl,h2,h3⟩
end
noncomputable section
open Go.RowKit
section
variable {α ε:Type} {step:Int→Option (Int⊕ε)} (l:List α)
theorem qbX (q:α→Bool) (e0 e1:ε) (hs:∀(i:Nat) (a:α),l[i]?=some a→step (i:Int)=some (if q a=true then .inl ((i+1:Nat):Int) else .inr e0)) (he:step ((l.length:Nat):Int)=some (.inr e1)) :
  zy step (0:Int)=some (if l.all q=true then e1 else e0):=by
 have key:∀(r:List α) (i:Nat),r.length+i=l.length→(∀j,r[j]?=l[i+j]?)→zy step (i:Int)=some (if r.all q=true then e1 else e0):=by
  intro r
  induction r with
  | nil=>
   intro i hi _
   have:i=l.length:=by simpa using hi
   subst this
   exact zt he
  | cons a r ih=>
   intro i hi hj
   have ha:l[i]?=some a:=by have:=hj 0;rw[Nat.add_zero] at this;exact this.symm
   have h1:=hs i a ha
   rw[List.all_cons]
   cases hq:q a
   ·rw[hq,if_neg (by decide)] at h1
    exact zt h1
   ·rw[hq,if_pos rfl] at h1
    rw[zW h1,ih (i+1) (by simp only[qOA] at hi;omega) (fun j=>by have:=hj (j+1);rw[qOO] at this;rw[this];congr 1;omega),qOW]
 exact key l 0 (by omega) fun j=>by rw[qON]
theorem qes (q:α→Bool) (mk:Nat→ε) (e1:ε) (hs:∀(i:Nat) (a:α),l[i]?=some a→step (i:Int)=some (if q a=true then .inr (mk i) else .inl ((i+1:Nat):Int))) (he:step ((l.length:Nat):Int)=some (.inr e1)) :
  (l.any q=true∧∃i,zy step (0:Int)=some (mk i))∨(l.any q=false∧zy step (0:Int)=some e1):=by
 have key:∀(r:List α) (i:Nat),r.length+i=l.length→(∀j,r[j]?=l[i+j]?)→(r.any q=true∧∃k,zy step (i:Int)=some (mk k))∨(r.any q=false∧zy step (i:Int)=some e1):=by
  intro r
  induction r with
  | nil=>
   intro i hi _
   have:i=l.length:=by simpa using hi
   subst this
   exact .inr ⟨rfl,zt he⟩
  | cons a r ih=>
   intro i hi hj
   have ha:l[i]?=some a:=by have:=hj 0;rw[Nat.add_zero] at this;exact this.symm
   have h1:=hs i a ha
   rw[List.any_cons]
   cases hq:q a
   ·rw[hq,if_neg (by decide)] at h1
    rw[zW h1,Bool.false_or]
    exact ih (i+1) (by simp only[qOA] at hi;omega) (fun j=>by have:=hj (j+1);rw[qOO] at this;rw[this];congr 1;omega)
   ·rw[hq,if_pos rfl] at h1
    exact .inl ⟨rfl,i,zt h1⟩
 exact key l 0 (by omega) fun j=>by rw[qON]
end
theorem q4a {i n:Nat} (h:i<n) (hn:n≤1000000):w64 ((i:Int)+1)=((i+1:Nat):Int):=Qr h (by omega)
theorem qfR (s:List Int) (hs:s.length≤1000000) (v:Int):Zi s v=some (s.any fun x=>v==x):=by
 have h:=qes (step:=QJ s v ((s.length:Nat):Int)) s (fun x=>v==x) (fun i => .inl (i:Int)) (.inr ()) (fun i a ha=>by
  have hi:=Ja ha
  unfold QJ
  rw[if_pos (by omega),if_pos ⟨by omega,by omega⟩,qOs,ha,qOp,q4a hi hs]
  split<;>rfl) (by
  unfold QJ
  rw[if_neg (by omega)])
 unfold Zi JJ
 rcases h with ⟨h1,i,h2⟩|⟨h1,h2⟩
 ·rw[h2,qOp,Sum.elim_inl,qOp,h1,qPq (by omega)]
 ·rw[h2,qOp,Sum.elim_inr,qOp,h1,decide_eq_false (by omega)]
def qwq (a b:List Int):Bool:=a.any fun x=>b.any fun y=>x==y
theorem qv1 (a b:List Int) (ha:a.length≤1000000) (hb:b.length≤1000000):JF a b=some (qwq a b):=by
 have h:=qes (step:=Qi b a ((a.length:Nat):Int)) a (fun x=>b.any fun y=>x==y) (fun i => .inl (i:Int)) (.inr ()) (fun i x hx=>by
  have hi:=Ja hx
  unfold Qi q0R
  rw[if_pos (by omega),if_pos ⟨by omega,by omega⟩,qOs,hx,qOp,qfR b hb,qOp,qOp,q4a hi ha]
  split<;>rfl) (by
  unfold Qi
  rw[if_neg (by omega)])
 unfold JF Zj ZP qwq
 rcases h with ⟨h1,i,h2⟩|⟨h1,h2⟩
 ·rw[h2,qOp,Sum.elim_inl,qOp,h1,qPq (by omega),qOp]
 ·rw[h2,qOp,Sum.elim_inr,qOp,h1,decide_eq_false (by omega),qOp]
theorem qc2 (a b:List Int) (ha:a.length≤1000000):Zd a b=some (decide (a=b)):=by
 unfold Zd
 by_cases hl:a.length=b.length
 ·rw[if_neg (by rw[hl];simp)]
  have key:∀(r q:List Int) (i:Nat),r.length+i=a.length→q.length=r.length→(∀j,r[j]?=a[i+j]?)→(∀j,q[j]?=b[i+j]?)→zy (Qq a b ((a.length:Nat):Int)) (i:Int)=some (if r=q then .inr () else .inl ()):=by
   intro r
   induction r with
   | nil=>
    intro q i hi hq _ _
    obtain rfl:=qOI hq
    have hi:i=a.length:=by simpa using hi
    refine zt ?_
    unfold Qq
    rw[if_neg (by omega),if_pos rfl]
   | cons x r ih=>
    intro q i hi hq hr hb
    cases q with
    | nil=>cases hq
    | cons y q=>
     simp only[qOA] at hi hq
     have hx:a[i]?=some x:=by have:=hr 0;rw[Nat.add_zero] at this;exact this.symm
     have hy:b[i]?=some y:=by have:=hb 0;rw[Nat.add_zero] at this;exact this.symm
     have e:Qq a b ((a.length:Nat):Int) (i:Int)=some (if(x != y)=true then .inr (.inl ()) else .inl ((i+1:Nat):Int)):=by
      unfold Qq
      rw[if_pos (by omega),if_pos ⟨by omega,by omega⟩,qOs,hx,qOp,if_pos ⟨by omega,by omega⟩,hy,qOp,q4a (Ja hx) ha]
      split<;>rfl
     by_cases hxy:x=y
     ·subst hxy
      rw[if_neg (by simp)] at e
      rw[zW e,ih q (i+1) (by omega) (by omega) (fun j=>by have:=hr (j+1);rw[qOO] at this;rw[this];congr 1;omega) (fun j=>by have:=hb (j+1);rw[qOO] at this;rw[this];congr 1;omega)]
      simp
     ·rw[if_pos (by simpa using hxy)] at e
      rw[zt e,if_neg (fun h=>hxy (by injection h))]
  have h:=key a b 0 (by omega) hl.symm (fun j=>by rw[qON]) (fun j=>by rw[qON])
  change Option.bind (zy _ ((0:Nat):Int)) _=_
  rw[h,qOp]
  by_cases e:a=b
  ·rw[if_pos e,Sum.elim_inr,qPq e]
  ·rw[if_neg e,Sum.elim_inl,decide_eq_false e]
 ·rw[if_pos (by simpa using fun h=>hl (by omega)),decide_eq_false (fun e=>hl (by rw[e]))]
def q8a (a:qa):Prop:=a.Sources.length≤1000∧a.Path.length≤1000
def qjz (a b:qa):Bool := !ceq a.Course b.Course&&((decide (0<a.Bundle)&&a.Bundle==b.Bundle&&decide (a.Path=b.Path)) || !qwq a.Sources b.Sources)
theorem qqK {a b:qa} (ha:q8a a) (hb:q8a b):q3e a b=some (qjz a b):=by
 have h1:=ha.1;have h2:=ha.2;have h3:=hb.1
 unfold q3e qjz
 rw[qc2 _ _ (by omega),qv1 _ _ (by omega) (by omega)]
 simp only[qOp]
 by_cases hc:ceq a.Course b.Course=true
 ·rw[if_pos (by unfold ceq at hc;rw[qOV] at hc;exact hc),hc];rfl
 ·rw[if_neg (by unfold ceq at hc;rw[qOV] at hc;exact hc),qOR.2 hc]
  by_cases h0:0<a.Bundle
  ·rw[if_pos h0,qPq h0]
   cases hbd:a.Bundle==b.Bundle
   ·rw[if_neg (by decide)];simp
   ·rw[if_pos rfl]
    cases hp:decide (a.Path=b.Path)
    ·rw[if_neg (by decide)];simp
    ·rw[if_pos rfl];simp
  ·rw[if_neg h0,decide_eq_false h0];simp
def qqa (v a:q01 qc):Bool:=ceq v.a0 a.a0&&ceq v.a1 a.a1
theorem q71 (s:List (q01 qc)) (hs:s.length≤1000000) (v:q01 qc):z6 s v=some (s.any (qqa v)):=by
 have h:=qes (step:=zo v s ((s.length:Nat):Int)) s (qqa v) (fun i => .inl (i:Int)) (.inr ()) (fun i a ha=>by
  have hi:=Ja ha
  unfold zo
  rw[if_pos (by omega),if_pos ⟨by omega,by omega⟩,qOs,ha,qOp,q4a hi hs]
  have e:(((v.a0.School==a.a0.School)=true∧(v.a0.Code.toList==a.a0.Code.toList)=true)∧(v.a1.School==a.a1.School)=true∧(v.a1.Code.toList==a.a1.Code.toList)=true)↔qqa v a=true:=by
   unfold qqa ceq;simp only[qOV]
  by_cases hq:qqa v a=true
  ·rw[if_pos (e.2 hq),if_pos hq]
  ·rw[if_neg (fun h=>hq (e.1 h)),if_neg hq]) (by
  unfold zo
  rw[if_neg (by omega)])
 unfold z6 Qh
 rcases h with ⟨h1,i,h2⟩|⟨h1,h2⟩
 ·rw[h2,qOp,Sum.elim_inl,qOp,h1,qPq (by omega)]
 ·rw[h2,qOp,Sum.elim_inr,qOp,h1,decide_eq_false (by omega)]
def qg7 (p:qf) (a b:qa):Bool:=qjz a b && !p.Exclude.any (qqa ⟨a.Course,b.Course⟩) && !p.Exclude.any (qqa ⟨b.Course,a.Course⟩)
theorem qr4 (p:qf) (hp:p.Exclude.length≤1000) (a:qa) (ha:q8a a) (t1:List qa) (t2 t7:Int) (t12:List qa) (t13 t14:Int) (l:List qa) (hl:l.length≤1000) (hf:∀b∈l,q8a b) :
  zy (ZK p a t1 t2 t7 t12 t13 t14 l ((l.length:Nat):Int)) (0:Int)=some (if l.all (qg7 p a)=true then .inr () else .inl ()):=by
 refine qbX l (qg7 p a) _ _ (fun i b hb=>?_) ?_
 ·have hi:=Ja hb
  unfold ZK
  rw[if_pos (by omega),if_pos ⟨by omega,by omega⟩,qOs,hb,qOp,qqK ha (hf b (qOq hb)),qOp,q71 _ (by omega),q71 _ (by omega),q4a hi (by omega)]
  unfold qg7
  simp only[qOp]
  cases qjz a b
  ·simp
  ·cases p.Exclude.any (qqa ⟨a.Course,b.Course⟩)
   ·cases p.Exclude.any (qqa ⟨b.Course,a.Course⟩)<;>simp
   ·simp
 ·unfold ZK
  rw[if_neg (by omega)]
def qdJ (p:qf) (a:qa) (day:Int):Bool:=(Za p a day).getD false
theorem qoP (d:Int):∃v,q1a d=some v:=by
 have h:∀n,∃v,q0m n 100=some v:=fun n=>by
  unfold q0m
  rw[if_neg (by decide),if_neg (by decide),if_neg (by decide)]
  exact⟨_,rfl⟩
 unfold q1a
 split
 ·obtain⟨v,hv⟩:=h (w64 (d+100));rw[hv];exact⟨_,rfl⟩
 ·obtain⟨v,hv⟩:=h d;rw[hv];exact⟨_,rfl⟩
theorem qt4 (p:qf) (a:qa) (day:Int):Za p a day=some (qdJ p a day):=by
 obtain⟨v,hv⟩:=qoP day
 obtain⟨w,hw⟩:=qoP a.Day
 have:∃b,Za p a day=some b:=by
  unfold Za
  rw[hv,hw]
  split<;>exact⟨_,rfl⟩
 obtain⟨b,hb⟩:=this
 unfold qdJ
 rw[hb];rfl
def qtu (p:qf) (o:Int) (a:qa):Int:=if a.Course.School=p.School∧a.Bundle=0 then w64 (o+a.Credits) else o
def tgL (p:qf) (day:Int):List qa→List qa→Bool
 | _,[]=>true
 | done,a::r => !qdJ p a day&&done.all (qg7 p a)&&tgL p day (done++[a]) r
def qGn (l:List qa):Int:=l.foldl (fun n a=>w64 (n+a.Credits)) 0
def qdw (p:qf) (l:List qa) (day:Int):Bool:=tgL p day [] l&&decide (p.Total≤qGn l)&&decide (p.Own≤l.foldl (qtu p) 0)
theorem qlw (l:List qa) (hl:l.length≤1000):q1J l=some (qGn l):=by
 have h:=qll (step:=JB l ((l.length:Nat):Int)) l (fun(b:Int) k=>(b,(k:Int))) (fun b a=>w64 (b+a.Credits)) (fun b=>b) (fun b k a ha=>by
  have hi:=Ja ha
  unfold JB
  dsimp only
  rw[if_pos (by omega),if_pos ⟨by omega,by omega⟩,qOs,ha,qOp,q4a hi (by omega)]) (fun b=>by
  unfold JB
  dsimp only
  rw[if_neg (by omega)]) 0
 unfold q1J
 change Option.bind (zy _ ((0:Int),((0:Nat):Int))) _=_
 rw[h];rfl
theorem qkw (p:qf) (hp:p.Exclude.length≤1000) (day:Int) (l:List qa) (hl:l.length≤1000) (hf:∀b∈l,q8a b):∀(r:List qa) (i:Nat) (o:Int),r.length+i=l.length→l.take i++r=l→
  ∃e,zy (Z8 p l day l ((l.length:Nat):Int)) (o,(i:Int))=some e∧(tgL p day (l.take i) r=true→e = .inr (r.foldl (qtu p) o))∧(tgL p day (l.take i) r=false→∃x,e = .inl x)
 | [],i,o,hi,_=>by
  have hi:i=l.length:=by simpa using hi
  refine⟨.inr o,zt ?_,fun _=>rfl,fun h=>by rw[tgL] at h;cases h⟩
  unfold Z8
  dsimp only
  rw[if_neg (by omega)]
 | a::r,i,o,hi,hr=>by
  have hil:i<l.length:=by simp only[qOA] at hi;omega
  have ha:l[i]?=some a:=by
   rw[←hr,qP2 (by rw[qOS];omega),qOS,Nat.min_eq_left (by omega),Nat.sub_self];rfl
  have hmem:a∈l:=qOq ha
  have htk:l.take i++[a]=l.take (i+1):=by rw[List.take_add_one,ha];rfl
  have hpre:(l.take i).length≤1000:=by rw[qOS];omega
  have hpr:=qr4 p hp a (hf a hmem) l day o l ((l.length:Nat):Int) (i:Int) (l.take i) hpre (fun b hb=>hf b (List.mem_of_mem_take hb))
  have step:Z8 p l day l ((l.length:Nat):Int) (o,(i:Int))=some (if qdJ p a day=true then .inr (.inl o) else if(l.take i).all (qg7 p a)=true then .inl (qtu p o a,((i+1:Nat):Int)) else .inr (.inl o)):=by
   unfold Z8
   dsimp only
   rw[if_pos (by omega),if_pos ⟨by omega,by omega⟩,qOs,ha,qOp,qt4,qOp]
   by_cases hold:qdJ p a day=true
   ·rw[if_pos hold,if_pos hold]
   ·rw[if_neg hold,if_neg hold,if_pos ⟨by omega,by omega⟩,qPi,hpr,qOp,q4a hil (by omega)]
    by_cases hall:(l.take i).all (qg7 p a)=true
    ·rw[if_pos hall,if_pos hall,Sum.elim_inr]
     unfold qtu
     by_cases h1:a.Course.School=p.School
     ·by_cases h2:a.Bundle=0
      ·rw[if_pos (by simpa using h1),if_pos (by simpa using h2),if_pos ⟨h1,h2⟩]
      ·rw[if_pos (by simpa using h1),if_neg (by simpa using h2),if_neg (fun h=>h2 h.2)]
     ·rw[if_neg (by simpa using h1),if_neg (fun h=>h1 h.1)]
    ·rw[if_neg hall,if_neg hall,Sum.elim_inl]
  rw[tgL]
  by_cases hold:qdJ p a day=true
  ·rw[if_pos hold] at step
   exact⟨_,zt step,fun h=>by rw[hold] at h;simp at h,fun _=>⟨_,rfl⟩⟩
  ·rw[if_neg hold] at step
   by_cases hall:(l.take i).all (qg7 p a)=true
   ·rw[if_pos hall] at step
    obtain⟨e,h1,h2,h3⟩:=qkw p hp day l hl hf r (i+1) (qtu p o a) (by simp only[qOA] at hi;omega) (by rw[←htk,qP5];exact hr)
    refine⟨e,(zW step).trans h1,?_,?_⟩
    ·rw[qOR.2 hold,hall,htk];exact h2
    ·rw[qOR.2 hold,hall,htk];exact h3
   ·rw[if_neg hall] at step
    exact⟨_,zt step,fun h=>by rw[qOR.2 hall] at h;simp at h,fun _=>⟨_,rfl⟩⟩
theorem qsK (p:qf) (hp:p.Exclude.length≤1000) (l:List qa) (hl:l.length≤1000) (hf:∀b∈l,q8a b) (day:Int):JC p l day=some (qdw p l day):=by
 obtain⟨e,h1,h2,h3⟩:=qkw p hp day l hl hf l 0 0 (by omega) rfl
 unfold JC qdw
 change Option.bind (zy _ ((0:Int),((0:Nat):Int))) _=_
 rw[h1,qOp]
 rw[List.take_zero] at h2 h3
 cases ht:tgL p day [] l
 ·obtain⟨x,rfl⟩:=h3 ht
  rw[Sum.elim_inl];rfl
 ·rw[h2 ht,Sum.elim_inr,qlw l hl,qOp,qOW]
  by_cases hc:p.Total≤qGn l
  ·rw[if_pos hc,qPq hc,qOW]
  ·rw[if_neg hc,decide_eq_false hc,qPs]
end
end Go.Proofs.YtojflbfdcpkedaaGreat.Vc
