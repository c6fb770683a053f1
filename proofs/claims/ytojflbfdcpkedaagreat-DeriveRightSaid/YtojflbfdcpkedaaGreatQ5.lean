/- Part 5 of a proof. -/
import Derived.Test.YtojflbfdcpkedaaGreatQ4
set_option linter.unusedVariables false
set_option linter.unusedSimpArgs false
set_option linter.defProp false
set_option linter.unusedSectionVars false
set_option linter.unnecessarySimpa false
namespace Go.Proofs.YtojflbfdcpkedaaGreat.Vc
noncomputable section
open Go.RowKit
set_option maxRecDepth 20000
set_option maxHeartbeats 8000000
theorem qND:okL 10 qmS:=qV (qk qJu) (by kernel_rfl) (by kernel_rfl)
def qN6:=JA_ @qmS.eq_1 (JA_ @Tryz.f10.eq_1 @qJu)
theorem qKP:okL 28 qkx:=qV (qk qFT) (by kernel_rfl) (by kernel_rfl)
def qKp:=JA_ @qkx.eq_1 (JA_ @Tryz.f28.eq_1 @qFT)
theorem qE7:lbO 28 5=qoz:=Qz (qk qFT) rfl
theorem qCN:okL 28 qoz:=zS qKP (qQ6 (i:=0) (by kernel_rfl))
theorem qMK:okL 27 qoU:=qV (qk qGA) (by kernel_rfl) (by kernel_rfl)
def qOq:=JA_ @qoU.eq_1 (JA_ @Tryz.f27.eq_1 @qGA)
theorem q2T:∀(code:ByteArray),ev 27 0 [rS code] []=some (R.agg [C.d (D.int IntKind.i64 1),dS code],[]):=
 fun code=>by
  rw[qU qGA qLa.2.2.2 qMK]
  have:=qOq;exact gA
def q1a (w2:List qc) (qq:Int) (zJ:Int) (qn:Int) (qC:Int) (qD:ByteArray) (qj:Int) (qr:Int) (ql:Int) (qw:Int) (qR:Int) (qS:Int) (qE:Int) (JY:Int) (qA:Int) (zh:Int) (zi:ByteArray) (qp:Int) (qF:Int) (qt:Int) (qM:Int) (Qd:Int) (Qe:Int) (codes:qek ByteArray) (credits:qek Int) (grades:qek Int):(List qa×Int)→Option ((List qa×Int)⊕(List qa))|(l,k)=>if k<3 then if 0≤k∧k<3 then Option.bind [codes.a0,codes.a1,codes.a2][Int.toNat k]? fun(a:ByteArray)=>if 0≤k∧k<3 then Option.bind [credits.a0,credits.a1,credits.a2][Int.toNat k]? fun(a2:Int)=>if 0≤k∧k<3 then Option.bind [grades.a0,grades.a1,grades.a2][Int.toNat k]? fun(a3:Int)=>if l.length+1≤maxLen∧(l.length+1)*104≤140737488355328 then some (Sum.inl (l++[qa.mk (qc.mk 1 a) a2 a3 100 [w64 (1000001+k)] 0 []],w64 (k+1))) else none else none else none else none else some (Sum.inr l)
theorem q6U:∀(w2:List qc) (l:List qa) (qq zJ qn qC:Int) (qD:ByteArray) (qj qr ql qw qR qS qE JY qA zh:Int) (zi:ByteArray) (qp qF qt qM Qd Qe:Int) (q5f q5g q5h:ByteArray) (q2c q2d q2e q3r q3s q3t k:Int) (qjN q2K:Nat),qjN=l.length→q2K=w2.length→XL2 evo 28 0 5 ⟨[(2,rP 0),(4,rP 1),(5,rP 3),(6,rP 4),(7,rP 5),(8,rO 6 8 qjN),(9,rI k)],[(0,B.blk 39 [dI qq,dI zJ,dI qn,dI qC,dS qD,dI qj,dI qr,dI ql,C.nils,C.nils,dI qw,dI qR,dI qS,C.nils]),(1,B.blk 39 [dI qE,dI JY,dI qA,dI zh,dS zi,dI qp,dI qF,dI qt,dO 2 2 q2K,C.nils,dI qM,dI Qd,dI Qe,C.nils]),(2,bR 55 2 qd w2),(3,B.blk 103 [dS q5f,dS q5g,dS q5h]),(4,B.blk 29 [dI q2c,dI q2d,dI q2e]),(5,B.blk 29 [dI q3r,dI q3s,dI q3t]),(6,bR 57 8 qe l)],7,42⟩=(zw (q1a w2 qq zJ qn qC qD qj qr ql qw qR qS qE JY qA zh zi qp qF qt qM Qd Qe (qek.mk q5f q5g q5h) (qek.mk q2c q2d q2e) (qek.mk q3r q3s q3t)) (l,k)).bind (fun(e:List qa)=>some (Exit.exit 0,⟨[(2,rP 0),(4,rP 1),(8,rO 3 8 e.length)],[(0,B.blk 39 [dI qq,dI zJ,dI qn,dI qC,dS qD,dI qj,dI qr,dI ql,C.nils,C.nils,dI qw,dI qR,dI qS,C.nils]),(1,B.blk 39 [dI qE,dI JY,dI qA,dI zh,dS zi,dI qp,dI qF,dI qt,dO 2 2 w2.length,C.nils,dI qM,dI Qd,dI Qe,C.nils]),(2,bR 55 2 qd w2),(3,bR 57 8 qe e)],4,42⟩)):=
 by
 intro w2 l qq zJ qn qC qD qj qr ql qw qR qS qE JY qA zh zi qp qF qt qM Qd Qe q5f q5g q5h q2c q2d q2e q3r q3s q3t k qjN q2K h0 h1
 subst h0 h1
 revert k;revert l;exact qaL qE7 qCN (fun e=>by exact⟨_,rfl,fun h=>by cases h⟩) fun l k=>by
  have:=qKp;have:=@qoz.eq_1;have:=@q2T;have:=@q1a.eq_1;exact gA
theorem q5K:∀(q4i:Int) (q89:ByteArray) (q4j:Int) (q8a:ByteArray) (qq zJ qn qC:Int) (qD:ByteArray) (qj qr ql qw qR qS qE JY qA zh:Int) (zi:ByteArray) (qp qF qt qM Qd Qe:Int) (q5f q5g q5h:ByteArray) (q2c q2d q2e q3r q3s q3t k:Int),XL2 evo 28 0 5 ⟨[(2,rP 0),(4,rP 1),(5,rP 3),(6,rP 4),(7,rP 5),(8,rO 6 8 0),(9,rI k)],[(0,B.blk 39 [dI qq,dI zJ,dI qn,dI qC,dS qD,dI qj,dI qr,dI ql,C.nils,C.nils,dI qw,dI qR,dI qS,C.nils]),(1,B.blk 39 [dI qE,dI JY,dI qA,dI zh,dS zi,dI qp,dI qF,dI qt,dO 2 2 2,C.nils,dI qM,dI Qd,dI Qe,C.nils]),(2,B.row 55 2 [dI q4i,dS q89,dI q4j,dS q8a]),(3,B.blk 103 [dS q5f,dS q5g,dS q5h]),(4,B.blk 29 [dI q2c,dI q2d,dI q2e]),(5,B.blk 29 [dI q3r,dI q3s,dI q3t]),(6,B.row 57 8 [])],7,42⟩=(zw (q1a [(qc.mk q4i q89),(qc.mk q4j q8a)] qq zJ qn qC qD qj qr ql qw qR qS qE JY qA zh zi qp qF qt qM Qd Qe (qek.mk q5f q5g q5h) (qek.mk q2c q2d q2e) (qek.mk q3r q3s q3t)) ([],k)).bind (fun(e:List qa)=>some (Exit.exit 0,⟨[(2,rP 0),(4,rP 1),(8,rO 3 8 e.length)],[(0,B.blk 39 [dI qq,dI zJ,dI qn,dI qC,dS qD,dI qj,dI qr,dI ql,C.nils,C.nils,dI qw,dI qR,dI qS,C.nils]),(1,B.blk 39 [dI qE,dI JY,dI qA,dI zh,dS zi,dI qp,dI qF,dI qt,C.own 2 2 0 [(qc.mk q4i q89),(qc.mk q4j q8a)].length,C.nils,dI qM,dI Qd,dI Qe,C.nils]),(2,B.row 55 2 (([(qc.mk q4i q89),(qc.mk q4j q8a)].flatMap qd).map C.d)),(3,bR 57 8 qe e)],4,42⟩)):=by
 intro q4i q89 q4j q8a qq zJ qn qC qD qj qr ql qw qR qS qE JY qA zh zi qp qF qt qM Qd Qe q5f q5g q5h q2c q2d q2e q3r q3s q3t k;have h:=q6U [(qc.mk q4i q89),(qc.mk q4j q8a)] [] qq zJ qn qC qD qj qr ql qw qR qS qE JY qA zh zi qp qF qt qM Qd Qe ((qek.mk q5f q5g q5h)).a0 ((qek.mk q5f q5g q5h)).a1 ((qek.mk q5f q5g q5h)).a2 ((qek.mk q2c q2d q2e)).a0 ((qek.mk q2c q2d q2e)).a1 ((qek.mk q2c q2d q2e)).a2 ((qek.mk q3r q3s q3t)).a0 ((qek.mk q3r q3s q3t)).a1 ((qek.mk q3r q3s q3t)).a2 k _ _ rfl rfl
 first
  | exact h
  | (simp only[rL,dL,bR,bZ,Nat.reduceAdd] at h;exact h)
def ZD (total:Int):Option (qf×List qa):=Option.bind (zw (q1a [qc.mk 1 (ByteArray.mk (List.toArray [65,49])),qc.mk 1 (ByteArray.mk (List.toArray [66,49]))] 0 0 0 0 (ByteArray.mk (List.toArray [])) 0 0 0 0 0 0 1 1 1 0 (ByteArray.mk (List.toArray [77,117,115,105,99])) 1 0 60 total 0 0 (qek.mk (ByteArray.mk (List.toArray [65,49])) (ByteArray.mk (List.toArray [66,49])) (ByteArray.mk (List.toArray [65,49]))) (qek.mk 5 5 6) (qek.mk 55 60 80)) ([],0)) fun(a:List qa)=>some (qf.mk 1 1 1 0 (ByteArray.mk (List.toArray [77,117,115,105,99])) (qb.mk 1 0 60 ([qc.mk 1 (ByteArray.mk (List.toArray [65,49]))]++[qc.mk 1 (ByteArray.mk (List.toArray [66,49]))]) []) total 0 0 [],a)
theorem q9F:∀(total:Int),ev 28 0 [rI total] []=(ZD total).bind (fun(e:qf×List qa)=>some (R.tup [R.agg [dI e.1.School,dI e.1.Id,dI e.1.Version,dI e.1.From,dS e.1.Name,dI e.1.Need.Kind,dI e.1.Need.N,dI e.1.Need.Min,dL 2 qd e.1.Need.Set,dL 5 qh e.1.Need.L,dI e.1.Total,dI e.1.Own,dI e.1.Age,dL 4 (eA2 qd) e.1.Exclude],rL 8 qe e.2],[])):=
 fun total=>by
  rw[qU qFT qKT.2.2.2 qKP]
  have:=qKp;have:=@q2T;have:=@q5K;have:=@ZD.eq_1;exact gA
theorem qNL:okL 29 qol:=qV (qk qHc) (by kernel_rfl) (by kernel_rfl)
def qNN:=JA_ @qol.eq_1 (JA_ @Tryz.f29.eq_1 @qHc)
theorem qLR:okL 13 qp0:=qV (qk qH3) (by kernel_rfl) (by kernel_rfl)
def qMr:=JA_ @qp0.eq_1 (JA_ @Tryz.f13.eq_1 @qH3)
def q82 (school:Int):Option qg:=if(school==2)=Bool.true then some (qg.mk 5 1 3) else if(school==3)=Bool.true then some (qg.mk 0 20 10) else some (qg.mk 0 100 50)
def qH (school:Int):qg:=if(school==2)=Bool.true then qg.mk 5 1 3 else if(school==3)=Bool.true then qg.mk 0 20 10 else qg.mk 0 100 50
theorem qej (school:Int):q82 school=some (qH school):=by
 unfold q82 qH
 simp only[Zs]
theorem q5Y:∀(school:Int),ev 13 0 [rI school] []=some (R.agg [dI (qH school).Worst,dI (qH school).Best,dI (qH school).Pass],[]):=
 fun school=>by
  have h:ev 13 0 [rI school] []=(q82 school).bind (fun(e:qg)=>some (R.agg [dI e.Worst,dI e.Best,dI e.Pass],[])):=by
   rw[qU qH3 qLI.2.2.2 qLR]
   have:=qMr;have:=@q82.eq_1;exact gA
  rw[qej] at h
  exact h
theorem qGX:okL 17 qgE:=qV (qk qCE) (by kernel_rfl) (by kernel_rfl)
def qGL:=JA_ @qgE.eq_1 (JA_ @Tryz.f17.eq_1 @qCE)
theorem qDW:lbO 17 4=qp1:=Qz (qk qCE) rfl
theorem qET:okL 17 qp1:=zS qGX (qQ6 (i:=0) (by kernel_rfl))
theorem qzF:lbO 17 9=qni:=Qz (qk qCE) rfl
theorem qBK:okL 17 qni:=zS qGX (qQ6 (i:=1) (by kernel_rfl))
def q0s (a:qG) (b:qG):Int→Option (Int⊕(Unit⊕Unit))|i=>if i<((a.Taken.length:Nat):Int) then if 0≤i∧i<((a.Taken.length:Nat):Int) then Option.bind a.Taken[Int.toNat i]? fun(a2:Int)=>if 0≤i∧i<((b.Taken.length:Nat):Int) then Option.bind b.Taken[Int.toNat i]? fun(a3:Int)=>if(a2 != a3)=Bool.true then some (Sum.inr (Sum.inl ())) else some (Sum.inl (w64 (i+1))) else none else none else some (Sum.inr (Sum.inr ()))
theorem qad:∀(q1C q3L q1D q3M:List Int) (i:Int),XL2 evo 17 0 4 ⟨[(2,rP 0),(3,rP 1),(5,rI i)],[(0,B.blk 48 [dL 1 eI q1C,dL 1 eI q3L]),(1,B.blk 48 [dL 1 eI q1D,dL 1 eI q3M])],2,59⟩=(zw (q0s (qG.mk q1C q3L) (qG.mk q1D q3M)) i).bind (Sum.elim (fun(e:Unit)=>some (Exit.ret,⟨[(2,rP 0),(3,rP 1),(4,rB Bool.false)],[(0,B.blk 48 [dL 1 eI q1C,dL 1 eI q3L]),(1,B.blk 48 [dL 1 eI q1D,dL 1 eI q3M])],2,59⟩)) (fun(e:Unit)=>some (Exit.exit 0,⟨[(2,rP 0),(3,rP 1),(4,R.any)],[(0,B.blk 48 [dL 1 eI q1C,dL 1 eI q3L]),(1,B.blk 48 [dL 1 eI q1D,dL 1 eI q3M])],2,59⟩))):=
 fun q1C q3L q1D q3M i=>by
  revert i;exact qbL qDW qET (fun e=>by rcases e with _|_<;>exact⟨_,rfl,fun h=>by cases h⟩) fun x=>by
   have:=qGL;have:=@qp1.eq_1;have:=@q0s.eq_1;exact gA
def q0u (a:qG) (b:qG):Int→Option (Int⊕(Unit⊕Unit))|i=>if i<((a.Leaf.length:Nat):Int) then if 0≤i∧i<((a.Leaf.length:Nat):Int) then Option.bind a.Leaf[Int.toNat i]? fun(a2:Int)=>if 0≤i∧i<((b.Leaf.length:Nat):Int) then Option.bind b.Leaf[Int.toNat i]? fun(a3:Int)=>if(a2 != a3)=Bool.true then some (Sum.inr (Sum.inl ())) else some (Sum.inl (w64 (i+1))) else none else none else some (Sum.inr (Sum.inr ()))
theorem qa0:∀(q1C q3L q1D q3M:List Int) (i:Int),XL2 evo 17 0 9 ⟨[(2,rP 0),(3,rP 1),(6,rI i)],[(0,B.blk 48 [dL 1 eI q1C,dL 1 eI q3L]),(1,B.blk 48 [dL 1 eI q1D,dL 1 eI q3M])],2,59⟩=(zw (q0u (qG.mk q1C q3L) (qG.mk q1D q3M)) i).bind (Sum.elim (fun(e:Unit)=>some (Exit.ret,⟨[(4,rB Bool.false)],[],0,59⟩)) (fun(e:Unit)=>some (Exit.exit 2,⟨[(4,R.any)],[],0,59⟩))):=
 fun q1C q3L q1D q3M i=>by
  revert i;exact qbL qzF qBK (fun e=>by rcases e with _|_<;>exact⟨_,rfl,fun h=>by cases h⟩) fun x=>by
   have:=qGL;have:=@qni.eq_1;have:=@q0u.eq_1;exact gA
def q3x (a:qG) (b:qG):Option Bool:=if(((a.Taken.length:Nat):Int) != ((b.Taken.length:Nat):Int))=Bool.true then some Bool.false else if(((a.Leaf.length:Nat):Int) != ((b.Leaf.length:Nat):Int))=Bool.true then some Bool.false else Option.bind (zw (q0s a b) 0) fun(a2:Sum Unit Unit)=>Sum.elim (fun(a3:Unit)=>some Bool.false) (fun(a4:Unit)=>Option.bind (zw (q0u a b) 0) fun(a5:Sum Unit Unit)=>Sum.elim (fun(a6:Unit)=>some Bool.false) (fun(a7:Unit)=>some Bool.true) a5) a2
theorem qcM:∀(q1C q3L q1D q3M:List Int),ev 17 0 [R.agg [dL 1 eI q1C,dL 1 eI q3L],R.agg [dL 1 eI q1D,dL 1 eI q3M]] []=(q3x (qG.mk q1C q3L) (qG.mk q1D q3M)).bind (fun(e:Bool)=>some (rB e,[])):=
 fun q1C q3L q1D q3M=>by
  rw[qU qCE qKH.2.2.2 qGX]
  have:=qGL;have:=@qad;have:=@qa0;have:=@q3x.eq_1;exact gA
def zf (p:qf) (l:List qa) (taken:List Int) (leaf:List Int):Option Bool:=Option.bind (QK p (qH 1) l 500) fun(a:Prod qG Int)=>if(((taken.length:Nat):Int)==0)=Bool.true then if(a.2==31)=Bool.true then some (w64 (((a.1.Taken.length:Nat):Int)+((a.1.Leaf.length:Nat):Int))==0) else some Bool.false else if(a.2==0)=Bool.true then Option.bind (q3x a.1 (qG.mk taken leaf)) fun(e0:Bool)=>some e0 else some Bool.false
theorem q12:∀(qE JY qA zh:Int) (zi:ByteArray) (qp qF qt:Int) (qz:List qc) (qJ:List qb) (qM Qd Qe:Int) (qL:List (q05 qc)) (l:List qa) (taken leaf:List Int),ev 29 0 [R.agg [dI qE,dI JY,dI qA,dI zh,dS zi,dI qp,dI qF,dI qt,dL 2 qd qz,dL 5 qh qJ,dI qM,dI Qd,dI Qe,dL 4 (eA2 qd) qL],rL 8 qe l,rL 1 eI taken,rL 1 eI leaf] []=(zf (qf.mk qE JY qA zh zi (qb.mk qp qF qt qz qJ) qM Qd Qe qL) l taken leaf).bind (fun(e:Bool)=>some (rB e,[])):=
 fun qE JY qA zh zi qp qF qt qz qJ qM Qd Qe qL l taken leaf=>by
  rw[qU qHc qKe.2.2.2 qNL]
  have:=qNN;have:=@q5Y;have:=@q4P;have:=@qcM;have:=@zf.eq_1;exact gA
theorem q6Y:∀(taken0 taken1 leaf0 leaf1 qE JY qA zh:Int) (zi:ByteArray) (qp qF qt:Int) (qz:List qc) (qJ:List qb) (qM Qd Qe:Int) (qL:List (q05 qc)) (l:List qa),ev 29 0 [R.agg [dI qE,dI JY,dI qA,dI zh,dS zi,dI qp,dI qF,dI qt,dL 2 qd qz,dL 5 qh qJ,dI qM,dI Qd,dI Qe,dL 4 (eA2 qd) qL],rL 8 qe l,R.c (C.d (D.sl 1 2 [D.int .i64 taken0,D.int .i64 taken1])),R.c (C.d (D.sl 1 2 [D.int .i64 leaf0,D.int .i64 leaf1]))] []=(zf (qf.mk qE JY qA zh zi (qb.mk qp qF qt qz qJ) qM Qd Qe qL) l [taken0,taken1] [leaf0,leaf1]).bind (fun(e:Bool)=>some (rB e,[])):=by
 intro taken0 taken1 leaf0 leaf1 qE JY qA zh zi qp qF qt qz qJ qM Qd Qe qL l;have h:=q12 ((qf.mk qE JY qA zh zi (qb.mk qp qF qt qz qJ) qM Qd Qe qL)).School ((qf.mk qE JY qA zh zi (qb.mk qp qF qt qz qJ) qM Qd Qe qL)).Id ((qf.mk qE JY qA zh zi (qb.mk qp qF qt qz qJ) qM Qd Qe qL)).Version ((qf.mk qE JY qA zh zi (qb.mk qp qF qt qz qJ) qM Qd Qe qL)).From ((qf.mk qE JY qA zh zi (qb.mk qp qF qt qz qJ) qM Qd Qe qL)).Name ((qf.mk qE JY qA zh zi (qb.mk qp qF qt qz qJ) qM Qd Qe qL)).Need.Kind ((qf.mk qE JY qA zh zi (qb.mk qp qF qt qz qJ) qM Qd Qe qL)).Need.N ((qf.mk qE JY qA zh zi (qb.mk qp qF qt qz qJ) qM Qd Qe qL)).Need.Min ((qf.mk qE JY qA zh zi (qb.mk qp qF qt qz qJ) qM Qd Qe qL)).Need.Set ((qf.mk qE JY qA zh zi (qb.mk qp qF qt qz qJ) qM Qd Qe qL)).Need.L ((qf.mk qE JY qA zh zi (qb.mk qp qF qt qz qJ) qM Qd Qe qL)).Total ((qf.mk qE JY qA zh zi (qb.mk qp qF qt qz qJ) qM Qd Qe qL)).Own ((qf.mk qE JY qA zh zi (qb.mk qp qF qt qz qJ) qM Qd Qe qL)).Age ((qf.mk qE JY qA zh zi (qb.mk qp qF qt qz qJ) qM Qd Qe qL)).Exclude l [taken0,taken1] [leaf0,leaf1]
 first
  | exact h
  | (simp only[rL,dL,bR,bZ,Nat.reduceAdd] at h;exact h)
theorem q74:∀(taken0 leaf0 qE JY qA zh:Int) (zi:ByteArray) (qp qF qt:Int) (qz:List qc) (qJ:List qb) (qM Qd Qe:Int) (qL:List (q05 qc)) (l:List qa),ev 29 0 [R.agg [dI qE,dI JY,dI qA,dI zh,dS zi,dI qp,dI qF,dI qt,dL 2 qd qz,dL 5 qh qJ,dI qM,dI Qd,dI Qe,dL 4 (eA2 qd) qL],rL 8 qe l,R.c (C.d (D.sl 1 1 [D.int .i64 taken0])),R.c (C.d (D.sl 1 1 [D.int .i64 leaf0]))] []=(zf (qf.mk qE JY qA zh zi (qb.mk qp qF qt qz qJ) qM Qd Qe qL) l [taken0] [leaf0]).bind (fun(e:Bool)=>some (rB e,[])):=by
 intro taken0 leaf0 qE JY qA zh zi qp qF qt qz qJ qM Qd Qe qL l;have h:=q12 ((qf.mk qE JY qA zh zi (qb.mk qp qF qt qz qJ) qM Qd Qe qL)).School ((qf.mk qE JY qA zh zi (qb.mk qp qF qt qz qJ) qM Qd Qe qL)).Id ((qf.mk qE JY qA zh zi (qb.mk qp qF qt qz qJ) qM Qd Qe qL)).Version ((qf.mk qE JY qA zh zi (qb.mk qp qF qt qz qJ) qM Qd Qe qL)).From ((qf.mk qE JY qA zh zi (qb.mk qp qF qt qz qJ) qM Qd Qe qL)).Name ((qf.mk qE JY qA zh zi (qb.mk qp qF qt qz qJ) qM Qd Qe qL)).Need.Kind ((qf.mk qE JY qA zh zi (qb.mk qp qF qt qz qJ) qM Qd Qe qL)).Need.N ((qf.mk qE JY qA zh zi (qb.mk qp qF qt qz qJ) qM Qd Qe qL)).Need.Min ((qf.mk qE JY qA zh zi (qb.mk qp qF qt qz qJ) qM Qd Qe qL)).Need.Set ((qf.mk qE JY qA zh zi (qb.mk qp qF qt qz qJ) qM Qd Qe qL)).Need.L ((qf.mk qE JY qA zh zi (qb.mk qp qF qt qz qJ) qM Qd Qe qL)).Total ((qf.mk qE JY qA zh zi (qb.mk qp qF qt qz qJ) qM Qd Qe qL)).Own ((qf.mk qE JY qA zh zi (qb.mk qp qF qt qz qJ) qM Qd Qe qL)).Age ((qf.mk qE JY qA zh zi (qb.mk qp qF qt qz qJ) qM Qd Qe qL)).Exclude l [taken0] [leaf0]
 first
  | exact h
  | (simp only[rL,dL,bR,bZ,Nat.reduceAdd] at h;exact h)
theorem q7E:∀  (qE JY qA zh:Int) (zi:ByteArray) (qp qF qt:Int) (qz:List qc) (qJ:List qb) (qM Qd Qe:Int) (qL:List (q05 qc)) (l:List qa),ev 29 0 [R.agg [dI qE,dI JY,dI qA,dI zh,dS zi,dI qp,dI qF,dI qt,dL 2 qd qz,dL 5 qh qJ,dI qM,dI Qd,dI Qe,dL 4 (eA2 qd) qL],rL 8 qe l,R.c (C.d (D.sl 1 0 [])),R.c (C.d (D.sl 1 0 []))] []=(zf (qf.mk qE JY qA zh zi (qb.mk qp qF qt qz qJ) qM Qd Qe qL) l [] []).bind (fun(e:Bool)=>some (rB e,[])):=by
 intro qE JY qA zh zi qp qF qt qz qJ qM Qd Qe qL l;have h:=q12 ((qf.mk qE JY qA zh zi (qb.mk qp qF qt qz qJ) qM Qd Qe qL)).School ((qf.mk qE JY qA zh zi (qb.mk qp qF qt qz qJ) qM Qd Qe qL)).Id ((qf.mk qE JY qA zh zi (qb.mk qp qF qt qz qJ) qM Qd Qe qL)).Version ((qf.mk qE JY qA zh zi (qb.mk qp qF qt qz qJ) qM Qd Qe qL)).From ((qf.mk qE JY qA zh zi (qb.mk qp qF qt qz qJ) qM Qd Qe qL)).Name ((qf.mk qE JY qA zh zi (qb.mk qp qF qt qz qJ) qM Qd Qe qL)).Need.Kind ((qf.mk qE JY qA zh zi (qb.mk qp qF qt qz qJ) qM Qd Qe qL)).Need.N ((qf.mk qE JY qA zh zi (qb.mk qp qF qt qz qJ) qM Qd Qe qL)).Need.Min ((qf.mk qE JY qA zh zi (qb.mk qp qF qt qz qJ) qM Qd Qe qL)).Need.Set ((qf.mk qE JY qA zh zi (qb.mk qp qF qt qz qJ) qM Qd Qe qL)).Need.L ((qf.mk qE JY qA zh zi (qb.mk qp qF qt qz qJ) qM Qd Qe qL)).Total ((qf.mk qE JY qA zh zi (qb.mk qp qF qt qz qJ) qM Qd Qe qL)).Own ((qf.mk qE JY qA zh zi (qb.mk qp qF qt qz qJ) qM Qd Qe qL)).Age ((qf.mk qE JY qA zh zi (qb.mk qp qF qt qz qJ) qM Qd Qe qL)).Exclude l [] []
 first
  | exact h
  | (simp only[rL,dL,bR,bZ,Nat.reduceAdd] at h;exact h)
theorem q6X:∀(qE JY qA zh:Int) (zi:ByteArray) (qp qF qt:Int) (qz:List qc) (qJ:List qb) (qM Qd Qe zm:Int) (zG:ByteArray) (zn:Int) (zH:ByteArray) (taken0 leaf0:Int) (l:List qa),ev 29 0 [R.agg [dI qE,dI JY,dI qA,dI zh,dS zi,dI qp,dI qF,dI qt,dL 2 qd qz,dL 5 qh qJ,dI qM,dI Qd,dI Qe,C.d (D.sl 4 1 [D.int .i64 zm,D.str zG,D.int .i64 zn,D.str zH])],rL 8 qe l,R.c (C.d (D.sl 1 1 [D.int .i64 taken0])),R.c (C.d (D.sl 1 1 [D.int .i64 leaf0]))] []=(zf (qf.mk qE JY qA zh zi (qb.mk qp qF qt qz qJ) qM Qd Qe [(q05.mk (qc.mk zm zG) (qc.mk zn zH))]) l [taken0] [leaf0]).bind (fun(e:Bool)=>some (rB e,[])):=by
 intro qE JY qA zh zi qp qF qt qz qJ qM Qd Qe zm zG zn zH taken0 leaf0 l;have h:=q12 ((qf.mk qE JY qA zh zi (qb.mk qp qF qt qz qJ) qM Qd Qe [(q05.mk (qc.mk zm zG) (qc.mk zn zH))])).School ((qf.mk qE JY qA zh zi (qb.mk qp qF qt qz qJ) qM Qd Qe [(q05.mk (qc.mk zm zG) (qc.mk zn zH))])).Id ((qf.mk qE JY qA zh zi (qb.mk qp qF qt qz qJ) qM Qd Qe [(q05.mk (qc.mk zm zG) (qc.mk zn zH))])).Version ((qf.mk qE JY qA zh zi (qb.mk qp qF qt qz qJ) qM Qd Qe [(q05.mk (qc.mk zm zG) (qc.mk zn zH))])).From ((qf.mk qE JY qA zh zi (qb.mk qp qF qt qz qJ) qM Qd Qe [(q05.mk (qc.mk zm zG) (qc.mk zn zH))])).Name ((qf.mk qE JY qA zh zi (qb.mk qp qF qt qz qJ) qM Qd Qe [(q05.mk (qc.mk zm zG) (qc.mk zn zH))])).Need.Kind ((qf.mk qE JY qA zh zi (qb.mk qp qF qt qz qJ) qM Qd Qe [(q05.mk (qc.mk zm zG) (qc.mk zn zH))])).Need.N ((qf.mk qE JY qA zh zi (qb.mk qp qF qt qz qJ) qM Qd Qe [(q05.mk (qc.mk zm zG) (qc.mk zn zH))])).Need.Min ((qf.mk qE JY qA zh zi (qb.mk qp qF qt qz qJ) qM Qd Qe [(q05.mk (qc.mk zm zG) (qc.mk zn zH))])).Need.Set ((qf.mk qE JY qA zh zi (qb.mk qp qF qt qz qJ) qM Qd Qe [(q05.mk (qc.mk zm zG) (qc.mk zn zH))])).Need.L ((qf.mk qE JY qA zh zi (qb.mk qp qF qt qz qJ) qM Qd Qe [(q05.mk (qc.mk zm zG) (qc.mk zn zH))])).Total ((qf.mk qE JY qA zh zi (qb.mk qp qF qt qz qJ) qM Qd Qe [(q05.mk (qc.mk zm zG) (qc.mk zn zH))])).Own ((qf.mk qE JY qA zh zi (qb.mk qp qF qt qz qJ) qM Qd Qe [(q05.mk (qc.mk zm zG) (qc.mk zn zH))])).Age ((qf.mk qE JY qA zh zi (qb.mk qp qF qt qz qJ) qM Qd Qe [(q05.mk (qc.mk zm zG) (qc.mk zn zH))])).Exclude l [taken0] [leaf0]
 first
  | exact h
  | (simp only[rL,dL,bR,bZ,Nat.reduceAdd] at h;exact h)
theorem qJL:okL 21 qlo:=qV (qk qFn) (by kernel_rfl) (by kernel_rfl)
def qJW:=JA_ @qlo.eq_1 (JA_ @Tryz.f21.eq_1 @qFn)
theorem qEM:lbO 21 8=qqo:=Qz (qk qFn) rfl
theorem qBh:okL 21 qqo:=zS qJL (qQ6 (i:=0) (by kernel_rfl))
def zU (b0:qf) (b1:qg) (b2:qG) (t2:List qa) (t3:Int) (t35:List Int) (t36:Int):(List qa×Int)→Option ((List qa×Int)⊕((List qa)⊕(List qa)))|(w3,t37)=>if t37<t36 then if 0≤t37∧t37<((t35.length:Nat):Int) then Option.bind t35[Int.toNat t37]? fun(a:Int)=>if a<0 then some (Sum.inr (Sum.inl w3)) else if((t2.length:Nat):Int)≤a then some (Sum.inr (Sum.inl w3)) else if 0<t37 then if 0≤w64 (t37-1)∧w64 (t37-1)<((b2.Taken.length:Nat):Int) then Option.bind b2.Taken[Int.toNat (w64 (t37-1))]? fun(a2:Int)=>if a≤a2 then some (Sum.inr (Sum.inl w3)) else if 0≤a∧a<((t2.length:Nat):Int) then Option.bind t2[Int.toNat a]? fun(a3:qa)=>if w3.length+1≤maxLen∧(w3.length+1)*104≤140737488355328 then some (Sum.inl (w3++[a3],w64 (t37+1))) else none else none else none else if 0≤a∧a<((t2.length:Nat):Int) then Option.bind t2[Int.toNat a]? fun(a4:qa)=>if w3.length+1≤maxLen∧(w3.length+1)*104≤140737488355328 then some (Sum.inl (w3++[a4],w64 (t37+1))) else none else none else none else some (Sum.inr (Sum.inr w3))
theorem q8c:∀(w3:List qa) (qq zJ qn qC:Int) (qD:ByteArray) (qj qr ql:Int) (qm:List qc) (qu:List qb) (qw qR qS:Int) (qo:List (q05 qc)) (qX zx zy:Int) (q1P q3c:List Int) (t2:List qa) (t3:Int) (t35:List Int) (t36 t37:Int) (q1B:Nat),q1B=w3.length→XL2 evo 21 0 8 ⟨[(2,rL 8 qe t2),(3,rI t3),(5,rP 0),(6,rP 1),(9,rP 2),(12,rO 3 8 q1B),(35,rL 1 eI t35),(36,rI t36),(37,rI t37)],[(0,B.blk 39 [dI qq,dI zJ,dI qn,dI qC,dS qD,dI qj,dI qr,dI ql,dL 2 qd qm,dL 5 qh qu,dI qw,dI qR,dI qS,dL 4 (eA2 qd) qo]),(1,B.blk 28 [dI qX,dI zx,dI zy]),(2,B.blk 48 [dL 1 eI q1P,dL 1 eI q3c]),(3,bR 57 8 qe w3)],4,87⟩=(zw (zU (qf.mk qq zJ qn qC qD (qb.mk qj qr ql qm qu) qw qR qS qo) (qg.mk qX zx zy) (qG.mk q1P q3c) t2 t3 t35 t36) (w3,t37)).bind (Sum.elim (fun(e:List qa)=>some (Exit.ret,⟨[(3,rI t3),(5,rP 0),(6,rP 1),(9,rP 2),(10,rI 32),(12,rO 3 8 e.length)],[(0,B.blk 39 [dI qq,dI zJ,dI qn,dI qC,dS qD,dI qj,dI qr,dI ql,dL 2 qd qm,dL 5 qh qu,dI qw,dI qR,dI qS,dL 4 (eA2 qd) qo]),(1,B.blk 28 [dI qX,dI zx,dI zy]),(2,B.blk 48 [dL 1 eI q1P,dL 1 eI q3c]),(3,bR 57 8 qe e)],4,87⟩)) (fun(e:List qa)=>some (Exit.exit 0,⟨[(3,rI t3),(5,rP 0),(6,rP 1),(9,rP 2),(10,R.any),(12,rO 3 8 e.length)],[(0,B.blk 39 [dI qq,dI zJ,dI qn,dI qC,dS qD,dI qj,dI qr,dI ql,dL 2 qd qm,dL 5 qh qu,dI qw,dI qR,dI qS,dL 4 (eA2 qd) qo]),(1,B.blk 28 [dI qX,dI zx,dI zy]),(2,B.blk 48 [dL 1 eI q1P,dL 1 eI q3c]),(3,bR 57 8 qe e)],4,87⟩))):=
 by
 intro w3 qq zJ qn qC qD qj qr ql qm qu qw qR qS qo qX zx zy q1P q3c t2 t3 t35 t36 t37 q1B h0
 subst h0
 revert t37;revert w3;exact qaL qEM qBh (fun e=>by rcases e with _|_<;>exact⟨_,rfl,fun h=>by cases h⟩) fun w3 t37=>by
  have:=qJW;have:=@qqo.eq_1;have:=@zU.eq_1;exact gA
theorem q6e:∀  (qq zJ qn qC:Int) (qD:ByteArray) (qj qr ql:Int) (qm:List qc) (qu:List qb) (qw qR qS:Int) (qo:List (q05 qc)) (qX zx zy:Int) (q1P q3c:List Int) (t2:List qa) (t3:Int) (t35:List Int) (t36 t37:Int),XL2 evo 21 0 8 ⟨[(2,rL 8 qe t2),(3,rI t3),(5,rP 0),(6,rP 1),(9,rP 2),(12,rO 3 8 0),(35,rL 1 eI t35),(36,rI t36),(37,rI t37)],[(0,B.blk 39 [dI qq,dI zJ,dI qn,dI qC,dS qD,dI qj,dI qr,dI ql,dL 2 qd qm,dL 5 qh qu,dI qw,dI qR,dI qS,dL 4 (eA2 qd) qo]),(1,B.blk 28 [dI qX,dI zx,dI zy]),(2,B.blk 48 [dL 1 eI q1P,dL 1 eI q3c]),(3,B.row 57 8 [])],4,87⟩=(zw (zU (qf.mk qq zJ qn qC qD (qb.mk qj qr ql qm qu) qw qR qS qo) (qg.mk qX zx zy) (qG.mk q1P q3c) t2 t3 t35 t36) ([],t37)).bind (Sum.elim (fun(e:List qa)=>some (Exit.ret,⟨[(3,rI t3),(5,rP 0),(6,rP 1),(9,rP 2),(10,rI 32),(12,rO 3 8 e.length)],[(0,B.blk 39 [dI qq,dI zJ,dI qn,dI qC,dS qD,dI qj,dI qr,dI ql,dL 2 qd qm,dL 5 qh qu,dI qw,dI qR,dI qS,dL 4 (eA2 qd) qo]),(1,B.blk 28 [dI qX,dI zx,dI zy]),(2,B.blk 48 [dL 1 eI q1P,dL 1 eI q3c]),(3,bR 57 8 qe e)],4,87⟩)) (fun(e:List qa)=>some (Exit.exit 0,⟨[(3,rI t3),(5,rP 0),(6,rP 1),(9,rP 2),(10,R.any),(12,rO 3 8 e.length)],[(0,B.blk 39 [dI qq,dI zJ,dI qn,dI qC,dS qD,dI qj,dI qr,dI ql,dL 2 qd qm,dL 5 qh qu,dI qw,dI qR,dI qS,dL 4 (eA2 qd) qo]),(1,B.blk 28 [dI qX,dI zx,dI zy]),(2,B.blk 48 [dL 1 eI q1P,dL 1 eI q3c]),(3,bR 57 8 qe e)],4,87⟩))):=by
 intro qq zJ qn qC qD qj qr ql qm qu qw qR qS qo qX zx zy q1P q3c t2 t3 t35 t36 t37;have h:=q8c [] ((qf.mk qq zJ qn qC qD (qb.mk qj qr ql qm qu) qw qR qS qo)).School ((qf.mk qq zJ qn qC qD (qb.mk qj qr ql qm qu) qw qR qS qo)).Id ((qf.mk qq zJ qn qC qD (qb.mk qj qr ql qm qu) qw qR qS qo)).Version ((qf.mk qq zJ qn qC qD (qb.mk qj qr ql qm qu) qw qR qS qo)).From ((qf.mk qq zJ qn qC qD (qb.mk qj qr ql qm qu) qw qR qS qo)).Name ((qf.mk qq zJ qn qC qD (qb.mk qj qr ql qm qu) qw qR qS qo)).Need.Kind ((qf.mk qq zJ qn qC qD (qb.mk qj qr ql qm qu) qw qR qS qo)).Need.N ((qf.mk qq zJ qn qC qD (qb.mk qj qr ql qm qu) qw qR qS qo)).Need.Min ((qf.mk qq zJ qn qC qD (qb.mk qj qr ql qm qu) qw qR qS qo)).Need.Set ((qf.mk qq zJ qn qC qD (qb.mk qj qr ql qm qu) qw qR qS qo)).Need.L ((qf.mk qq zJ qn qC qD (qb.mk qj qr ql qm qu) qw qR qS qo)).Total ((qf.mk qq zJ qn qC qD (qb.mk qj qr ql qm qu) qw qR qS qo)).Own ((qf.mk qq zJ qn qC qD (qb.mk qj qr ql qm qu) qw qR qS qo)).Age ((qf.mk qq zJ qn qC qD (qb.mk qj qr ql qm qu) qw qR qS qo)).Exclude ((qg.mk qX zx zy)).Worst ((qg.mk qX zx zy)).Best ((qg.mk qX zx zy)).Pass ((qG.mk q1P q3c)).Taken ((qG.mk q1P q3c)).Leaf t2 t3 t35 t36 t37 _ rfl
 first
  | exact h
  | (simp only[rL,dL,bR,bZ,Nat.reduceAdd] at h;exact h)
theorem qP0:okL 48 qox:=qV (qk qIf) (by kernel_rfl) (by kernel_rfl)
def qOC:=JA_ @qox.eq_1 (JA_ @Tryz.f48.eq_1 @qIf)
theorem qMJ:okL 84 qnB:=qV (qk qGl) (by kernel_rfl) (by kernel_rfl)
def qOi:=JA_ @qnB.eq_1 (JA_ @Tryz.f84.eq_1 @qGl)
def q42 (k:Int) (v:Int):Option Bool:=if k<(-1) then some Bool.true else some (decide (v≤k))
def Zn (k:Int) (v:Int):Bool:=if k<(-1) then Bool.true else decide (v≤k)
theorem qbf (k v:Int):q42 k v=some (Zn k v):=by
 unfold q42 Zn
 simp only[Zs]
theorem qc9:∀(k v:Int),ev 84 1 [rI k,rP 0] [(0,B.blk 3 [dI v])]=some (rB (Zn k v),[(0,B.blk 3 [dI v])]):=
 fun k v=>by
  have h:ev 84 1 [rI k,rP 0] [(0,B.blk 3 [dI v])]=(q42 k v).bind (fun(e:Bool)=>some (rB e,[(0,B.blk 3 [dI v])])):=by
   rw[qU qGl qKd.2.2.2 qMJ]
   have:=qOi;have:=@q42.eq_1;exact gA
  rw[qbf] at h
  exact h
def zq (b0:Int) (s:List Int) (t7:Int):Int→Option (Int⊕(Int⊕Unit))|t8=>if t8<t7 then if 0≤t8∧t8<((s.length:Nat):Int) then Option.bind s[Int.toNat t8]? fun(a:Int)=>if Zn a b0=Bool.true then some (Sum.inr (Sum.inl t8)) else some (Sum.inl (w64 (t8+1))) else none else some (Sum.inr (Sum.inr ()))
theorem q2w:∀(b0:Int) (s:List Int) (t7 t8:Int),XL2 evo 131 1 2 ⟨[(0,rL 1 eI s),(1,R.c (C.fn 84 [] [dP 0])),(7,rI t7),(8,rI t8)],[(0,B.blk 3 [dI b0])],1,19⟩=(zw (zq b0 s t7) t8).bind (Sum.elim (fun(e:Int)=>some (Exit.ret,⟨[(4,rI e)],[(0,B.blk 3 [dI b0])],1,19⟩)) (fun(e:Unit)=>some (Exit.exit 0,⟨[(4,R.any)],[(0,B.blk 3 [dI b0])],1,19⟩))):=
 fun b0 s t7 t8=>by
  revert t8;exact qbL qj6 qjI (fun e=>by rcases e with _|_<;>exact⟨_,rfl,fun h=>by cases h⟩) fun x=>by
   have:=qmc;have:=@qdN.eq_1;have:=@qc9;have:=@zq.eq_1;exact gA
def QP (s:List Int) (b0:Int):Option Int:=Option.bind (zw (zq b0 s ((s.length:Nat):Int)) 0) fun(a:Sum Int Unit)=>Sum.elim (fun(a2:Int)=>some a2) (fun(a3:Unit)=>some (-1)) a
theorem q2X:∀(s:List Int) (b0:Int),ev 131 1 [rL 1 eI s,R.c (C.fn 84 [] [dP 0])] [(0,B.blk 3 [dI b0])]=(QP s b0).bind (fun(e:Int)=>some (rI e,[(0,B.blk 3 [dI b0])])):=
 fun s b0=>by
  rw[qU qmm qtu.2.2.2 qrz]
  have:=qmc;have:=@q2w;have:=@QP.eq_1;exact gA
def zT (s:List Int) (b0:Int):Option Bool:=Option.bind (QP s b0) fun(a:Int)=>some (decide (0≤a))
theorem q2u:∀(s:List Int) (b0:Int),ev 83 1 [rL 1 eI s,R.c (C.fn 84 [] [dP 0])] [(0,B.blk 3 [dI b0])]=(zT s b0).bind (fun(e:Bool)=>some (rB e,[(0,B.blk 3 [dI b0])])):=
 fun s b0=>by
  rw[qU qAr qFI.2.2.2 qHe]
  have:=qHA;have:=@q2X;have:=@zT.eq_1;exact gA
theorem qKb:okL 85 qkQ:=qV (qk qFW) (by kernel_rfl) (by kernel_rfl)
def qJZ:=JA_ @qkQ.eq_1 (JA_ @Tryz.f85.eq_1 @qFW)
theorem qDy:lbO 85 8=qnm:=Qz (qk qFW) rfl
theorem qAb:okL 85 qnm:=zS qKb (qQ6 (i:=0) (by kernel_rfl))
theorem qNd:okL 88 qph:=qV (qk qHw) (by kernel_rfl) (by kernel_rfl)
def qOG:=JA_ @qph.eq_1 (JA_ @Tryz.f88.eq_1 @qHw)
def q1m (k:Int) (v:List Int) (v2:Int):Option Bool:=if 0≤k∧k<((v.length:Nat):Int) then Option.bind v[Int.toNat k]? fun(a:Int)=>some (a==v2) else none
theorem q9M:∀(k:Int) (v:List Int) (v2:Int),ev 88 2 [rI k,rP 0,rP 1] [(0,B.blk 22 [dL 1 eI v]),(1,B.blk 3 [dI v2])]=(q1m k v v2).bind (fun(e:Bool)=>some (rB e,[(0,B.blk 22 [dL 1 eI v]),(1,B.blk 3 [dI v2])])):=
 fun k v v2=>by
  rw[qU qHw qLx.2.2.2 qNd]
  have:=qOG;have:=@q1m.eq_1;exact gA
def Jy (b0:List Int) (b1:Int) (n:qb) (s:qg) (b4:qO) (t13:List qa) (t14:Int):(qO×Int)→Option ((qO×Int)⊕qO)|(out,t15)=>if t15<t14 then if 0≤t15∧t15<((t13.length:Nat):Int) then Option.bind t13[Int.toNat t15]? fun(a:qa)=>Option.bind (q1m t15 b0 b1) fun(a2:Bool)=>if a2=Bool.true then if out.fine=Bool.true then Option.bind (q4g n s a) fun(a3:Bool)=>some (Sum.inl (qO.mk (w64 (out.many+1)) (w64 (out.credits+a.Credits)) a3,w64 (t15+1))) else some (Sum.inl (qO.mk (w64 (out.many+1)) (w64 (out.credits+a.Credits)) Bool.false,w64 (t15+1))) else some (Sum.inl (out,w64 (t15+1))) else none else some (Sum.inr out)
theorem q93:∀(b0:List Int) (b1 qB n_N qP:Int) (qQ:List qc) (n_L:List qb) (zo Q1 Q2 b4_many b4_credits:Int) (b4_fine:Bool) (out_many out_credits:Int) (out_fine:Bool) (t13:List qa) (t14 t15:Int),XL2 evo 87 2 3 ⟨[(3,R.c (C.fn 88 [] [dP 0,dP 1])),(4,rP 2),(5,rP 3),(8,rP 4),(9,rP 5),(13,rL 8 qe t13),(14,rI t14),(15,rI t15)],[(0,B.blk 22 [dL 1 eI b0]),(1,B.blk 3 [dI b1]),(2,B.blk 36 [dI qB,dI n_N,dI qP,dL 2 qd qQ,dL 5 qh n_L]),(3,B.blk 28 [dI zo,dI Q1,dI Q2]),(4,B.blk 138 [dI b4_many,dI b4_credits,dB b4_fine]),(5,B.blk 138 [dI out_many,dI out_credits,dB out_fine])],6,44⟩=(zw (Jy b0 b1 (qb.mk qB n_N qP qQ n_L) (qg.mk zo Q1 Q2) (qO.mk b4_many b4_credits b4_fine) t13 t14) ((qO.mk out_many out_credits out_fine),t15)).bind (fun(e:qO)=>some (Exit.exit 0,⟨[(8,rP 2),(9,rP 3)],[(0,B.blk 22 [dL 1 eI b0]),(1,B.blk 3 [dI b1]),(2,B.blk 138 [dI b4_many,dI b4_credits,dB b4_fine]),(3,B.blk 138 [dI e.many,dI e.credits,dB e.fine])],4,44⟩)):=
 fun b0 b1 qB n_N qP qQ n_L zo Q1 Q2 b4_many b4_credits b4_fine out_many out_credits out_fine t13 t14 t15=>by
  have h:=q5e (E:=evo) (f:=87) (k:=2) (st:=fun x:qO×Int=>(⟨[(3,R.c (C.fn 88 [] [dP 0,dP 1])),(4,rP 2),(5,rP 3),(8,rP 4),(9,rP 5),(13,rL 8 qe t13),(14,rI t14),(15,rI x.2)],[(0,B.blk 22 [dL 1 eI b0]),(1,B.blk 3 [dI b1]),(2,B.blk 36 [dI qB,dI n_N,dI qP,dL 2 qd qQ,dL 5 qh n_L]),(3,B.blk 28 [dI zo,dI Q1,dI Q2]),(4,B.blk 138 [dI b4_many,dI b4_credits,dB b4_fine]),(5,B.blk 138 [dI x.1.many,dI x.1.credits,dB x.1.fine])],6,44⟩:S)) (ex:=fun(e:qO)=>(Exit.exit 0,⟨[(8,rP 2),(9,rP 3)],[(0,B.blk 22 [dL 1 eI b0]),(1,B.blk 3 [dI b1]),(2,B.blk 138 [dI b4_many,dI b4_credits,dB b4_fine]),(3,B.blk 138 [dI e.many,dI e.credits,dB e.fine])],4,44⟩)) (step:=(Jy b0 b1 (qb.mk qB n_N qP qQ n_L) (qg.mk zo Q1 Q2) (qO.mk b4_many b4_credits b4_fine) t13 t14)) quh qtU (fun e h=>by cases h) (fun x=>by
   obtain⟨out,t15⟩:=x;have:=qG8;have:=@qlm.eq_1;have:=@q9M;have:=@q9L;have:=@Jy.eq_1;exact gA) ((qO.mk out_many out_credits out_fine),t15)
  exact h
def q2F (n:qb) (s:qg) (l:List qa) (b0:List Int) (b1:Int):Option qO:=Option.bind (zw (Jy b0 b1 n s (qO.mk 0 0 Bool.false) l ((l.length:Nat):Int)) (qO.mk 0 0 Bool.true,0)) fun(a:qO)=>some a
theorem qbT:∀(qB n_N qP:Int) (qQ:List qc) (n_L:List qb) (zo Q1 Q2:Int) (l:List qa) (b0:List Int) (b1:Int),ev 87 2 [R.agg [dI qB,dI n_N,dI qP,dL 2 qd qQ,dL 5 qh n_L],R.agg [dI zo,dI Q1,dI Q2],rL 8 qe l,R.c (C.fn 88 [] [dP 0,dP 1])] [(0,B.blk 22 [dL 1 eI b0]),(1,B.blk 3 [dI b1])]=(q2F (qb.mk qB n_N qP qQ n_L) (qg.mk zo Q1 Q2) l b0 b1).bind (fun(e:qO)=>some (R.agg [dI e.many,dI e.credits,dB e.fine],[(0,B.blk 22 [dL 1 eI b0]),(1,B.blk 3 [dI b1])])):=
 fun qB n_N qP qQ n_L zo Q1 Q2 l b0 b1=>by
  rw[qU qF0 qH5.2.2.2 qIH]
  have:=qG8;have:=@q93;have:=@q2F.eq_1;exact gA
def Jb (x:(qb×qg×List qa×List Int×Int)):List R×List (Nat×B):=([R.agg [C.d (D.int .i64 x.1.Kind),C.d (D.int .i64 x.1.N),C.d (D.int .i64 x.1.Min),C.d (D.sl 2 x.1.Set.length (x.1.Set.flatMap qd)),C.d (D.sl 5 x.1.L.length (x.1.L.flatMap qh))],R.c (C.ptr 0 0),R.c (C.ptr 1 0),R.c (C.ptr 2 0),R.c (C.ptr 3 0),R.c (C.ptr 4 0)],[(0,B.blk 28 [C.d (D.int .i64 x.2.1.Worst),C.d (D.int .i64 x.2.1.Best),C.d (D.int .i64 x.2.1.Pass)]),(1,B.blk 26 [C.d (D.sl 8 x.2.2.1.length (x.2.2.1.flatMap qe))]),(2,B.blk 22 [C.d (D.sl 1 x.2.2.2.1.length (x.2.2.2.1.flatMap eI))]),(3,B.blk 3 [C.d (D.int .i64 x.2.2.2.2)]),(4,B.blk 135 [C.fn 85 [] [C.ptr 0 0,C.ptr 1 0,C.ptr 2 0,C.ptr 3 0,C.ptr 4 0]])])
def JC:(Bool×Bool×qg×List qa×List Int×Int)→R×List (Nat×B):=fun(e:Bool×Bool×qg×List qa×List Int×Int)=>(R.tup [R.c (C.d (D.bool e.1)),R.c (C.d (D.bool e.2.1))],[(0,B.blk 28 [C.d (D.int .i64 e.2.2.1.Worst),C.d (D.int .i64 e.2.2.1.Best),C.d (D.int .i64 e.2.2.1.Pass)]),(1,B.blk 26 [C.d (D.sl 8 e.2.2.2.1.length (e.2.2.2.1.flatMap qe))]),(2,B.blk 22 [C.d (D.sl 1 e.2.2.2.2.1.length (e.2.2.2.2.1.flatMap eI))]),(3,B.blk 3 [C.d (D.int .i64 e.2.2.2.2.2)]),(4,B.blk 135 [C.fn 85 [] [C.ptr 0 0,C.ptr 1 0,C.ptr 2 0,C.ptr 3 0,C.ptr 4 0]])])
def JD (rF:(qb×qg×List qa×List Int×Int)→Option (Bool×Bool×qg×List qa×List Int×Int)) (b5:qb) (t35:List qb) (t36:Int):(qg×List qa×List Int×Int×Bool×Int×Bool×Int)→Option ((qg×List qa×List Int×Int×Bool×Int×Bool×Int)⊕(qg×List qa×List Int×Int×Bool×Int×Bool))|(b0,b1,b2,b3,t7,t10,t11,t37)=>if t37<t36 then if 0≤t37∧t37<((t35.length:Nat):Int) then Option.bind t35[Int.toNat t37]? fun(a2:qb)=>Option.bind (rF (a2,(b0,(b1,(b2,b3))))) fun(a3:Prod Bool (Prod Bool (Prod qg (Prod (List qa) (Prod (List Int) Int)))))=>if t7=Bool.true then if t11=Bool.true then if a3.2.1=Bool.true then some (Sum.inl (a3.2.2.1,a3.2.2.2.1,a3.2.2.2.2.1,a3.2.2.2.2.2,a3.1,w64 (t10+1),Bool.true,w64 (t37+1))) else some (Sum.inl (a3.2.2.1,a3.2.2.2.1,a3.2.2.2.2.1,a3.2.2.2.2.2,a3.1,t10,Bool.true,w64 (t37+1))) else if(!a3.2.1)=Bool.true then if(!a3.1)=Bool.true then if a3.2.1=Bool.true then some (Sum.inl (a3.2.2.1,a3.2.2.2.1,a3.2.2.2.2.1,a3.2.2.2.2.2,a3.1,w64 (t10+1),Bool.true,w64 (t37+1))) else some (Sum.inl (a3.2.2.1,a3.2.2.2.1,a3.2.2.2.2.1,a3.2.2.2.2.2,a3.1,t10,Bool.true,w64 (t37+1))) else if a3.2.1=Bool.true then some (Sum.inl (a3.2.2.1,a3.2.2.2.1,a3.2.2.2.2.1,a3.2.2.2.2.2,a3.1,w64 (t10+1),b5.Kind==3,w64 (t37+1))) else some (Sum.inl (a3.2.2.1,a3.2.2.2.1,a3.2.2.2.2.1,a3.2.2.2.2.2,a3.1,t10,b5.Kind==3,w64 (t37+1))) else if a3.2.1=Bool.true then some (Sum.inl (a3.2.2.1,a3.2.2.2.1,a3.2.2.2.2.1,a3.2.2.2.2.2,a3.1,w64 (t10+1),Bool.false,w64 (t37+1))) else some (Sum.inl (a3.2.2.1,a3.2.2.2.1,a3.2.2.2.2.1,a3.2.2.2.2.2,a3.1,t10,Bool.false,w64 (t37+1))) else if t11=Bool.true then if a3.2.1=Bool.true then some (Sum.inl (a3.2.2.1,a3.2.2.2.1,a3.2.2.2.2.1,a3.2.2.2.2.2,Bool.false,w64 (t10+1),Bool.true,w64 (t37+1))) else some (Sum.inl (a3.2.2.1,a3.2.2.2.1,a3.2.2.2.2.1,a3.2.2.2.2.2,Bool.false,t10,Bool.true,w64 (t37+1))) else if(!a3.2.1)=Bool.true then if(!a3.1)=Bool.true then if a3.2.1=Bool.true then some (Sum.inl (a3.2.2.1,a3.2.2.2.1,a3.2.2.2.2.1,a3.2.2.2.2.2,Bool.false,w64 (t10+1),Bool.true,w64 (t37+1))) else some (Sum.inl (a3.2.2.1,a3.2.2.2.1,a3.2.2.2.2.1,a3.2.2.2.2.2,Bool.false,t10,Bool.true,w64 (t37+1))) else if a3.2.1=Bool.true then some (Sum.inl (a3.2.2.1,a3.2.2.2.1,a3.2.2.2.2.1,a3.2.2.2.2.2,Bool.false,w64 (t10+1),b5.Kind==3,w64 (t37+1))) else some (Sum.inl (a3.2.2.1,a3.2.2.2.1,a3.2.2.2.2.1,a3.2.2.2.2.2,Bool.false,t10,b5.Kind==3,w64 (t37+1))) else if a3.2.1=Bool.true then some (Sum.inl (a3.2.2.1,a3.2.2.2.1,a3.2.2.2.2.1,a3.2.2.2.2.2,Bool.false,w64 (t10+1),Bool.false,w64 (t37+1))) else some (Sum.inl (a3.2.2.1,a3.2.2.2.1,a3.2.2.2.2.1,a3.2.2.2.2.2,Bool.false,t10,Bool.false,w64 (t37+1))) else none else some (Sum.inr (b0,b1,b2,b3,t7,t10,t11))
theorem q8B (rE:Orc) (rF:(qb×qg×List qa×List Int×Int)→Option (Bool×Bool×qg×List qa×List Int×Int)) (hF:∀y,rE (.fn 85) 5 (Jb y).1 (Jb y).2=(rF y).bind fun e=>some (JC e)) (hM:∀g k a G,g≠85→rE (.fn g) k a G=ev g k a G) (hR:∀g asg bd k a G,rE (.rd g asg bd) k a G=evr g asg bd k a G):∀(qcJ qgp qgq:Int) (b1:List qa) (b2:List Int) (b3 q9c qza qe7:Int) (qe8:List qc) (qzb:List qb) (t7:Bool) (t10:Int) (t11:Bool) (t35:List qb) (t36 t37:Int),XL2 rE 85 5 8 ⟨[(5,rP 4),(6,rP 5),(7,rB t7),(10,rI t10),(11,rB t11),(35,rL 5 qh t35),(36,rI t36),(37,rI t37)],[(0,B.blk 28 [dI qcJ,dI qgp,dI qgq]),(1,B.blk 26 [dL 8 qe b1]),(2,B.blk 22 [dL 1 eI b2]),(3,B.blk 3 [dI b3]),(4,B.blk 135 [C.fn 85 [] [dP 0,dP 1,dP 2,dP 3,dP 4]]),(5,B.blk 36 [dI q9c,dI qza,dI qe7,dL 2 qd qe8,dL 5 qh qzb])],6,78⟩=(zw (JD rF (qb.mk q9c qza qe7 qe8 qzb) t35 t36) ((qg.mk qcJ qgp qgq),b1,b2,b3,t7,t10,t11,t37)).bind (fun(e:qg×List qa×List Int×Int×Bool×Int×Bool)=>some (Exit.exit 0,⟨[(6,rP 5),(7,rB e.2.2.2.2.1),(10,rI e.2.2.2.2.2.1),(11,rB e.2.2.2.2.2.2)],[(0,B.blk 28 [dI e.1.Worst,dI e.1.Best,dI e.1.Pass]),(1,B.blk 26 [dL 8 qe e.2.1]),(2,B.blk 22 [dL 1 eI e.2.2.1]),(3,B.blk 3 [dI e.2.2.2.1]),(4,B.blk 135 [C.fn 85 [] [dP 0,dP 1,dP 2,dP 3,dP 4]]),(5,B.blk 36 [dI q9c,dI qza,dI qe7,dL 2 qd qe8,dL 5 qh qzb])],6,78⟩)):=
 fun qcJ qgp qgq b1 b2 b3 q9c qza qe7 qe8 qzb t7 t10 t11 t35 t36 t37=>by
  have h:=q5e (E:=rE) (f:=85) (k:=5) (st:=fun x:qg×List qa×List Int×Int×Bool×Int×Bool×Int=>(⟨[(5,rP 4),(6,rP 5),(7,rB x.2.2.2.2.1),(10,rI x.2.2.2.2.2.1),(11,rB x.2.2.2.2.2.2.1),(35,rL 5 qh t35),(36,rI t36),(37,rI x.2.2.2.2.2.2.2)],[(0,B.blk 28 [dI x.1.Worst,dI x.1.Best,dI x.1.Pass]),(1,B.blk 26 [dL 8 qe x.2.1]),(2,B.blk 22 [dL 1 eI x.2.2.1]),(3,B.blk 3 [dI x.2.2.2.1]),(4,B.blk 135 [C.fn 85 [] [dP 0,dP 1,dP 2,dP 3,dP 4]]),(5,B.blk 36 [dI q9c,dI qza,dI qe7,dL 2 qd qe8,dL 5 qh qzb])],6,78⟩:S)) (ex:=fun(e:qg×List qa×List Int×Int×Bool×Int×Bool)=>(Exit.exit 0,⟨[(6,rP 5),(7,rB e.2.2.2.2.1),(10,rI e.2.2.2.2.2.1),(11,rB e.2.2.2.2.2.2)],[(0,B.blk 28 [dI e.1.Worst,dI e.1.Best,dI e.1.Pass]),(1,B.blk 26 [dL 8 qe e.2.1]),(2,B.blk 22 [dL 1 eI e.2.2.1]),(3,B.blk 3 [dI e.2.2.2.1]),(4,B.blk 135 [C.fn 85 [] [dP 0,dP 1,dP 2,dP 3,dP 4]]),(5,B.blk 36 [dI q9c,dI qza,dI qe7,dL 2 qd qe8,dL 5 qh qzb])],6,78⟩)) (step:=(JD rF (qb.mk q9c qza qe7 qe8 qzb) t35 t36)) qDy qAb (fun e h=>by cases h) (fun x=>by
   obtain⟨b0,b1,b2,b3,t7,t10,t11,t37⟩:=x;have hF':∀(qI Jp qZ:Int) (z6:List qc) (Jq:List qb) (q2M q50 q51:Int) (v2:List qa) (v3:List Int) (v4:Int),rE (.fn 85) 5 [R.agg [dI qI,dI Jp,dI qZ,dL 2 qd z6,dL 5 qh Jq],rP 0,rP 1,rP 2,rP 3,rP 4] [(0,B.blk 28 [dI q2M,dI q50,dI q51]),(1,B.blk 26 [dL 8 qe v2]),(2,B.blk 22 [dL 1 eI v3]),(3,B.blk 3 [dI v4]),(4,B.blk 135 [C.fn 85 [] [dP 0,dP 1,dP 2,dP 3,dP 4]])]=(rF ((qb.mk qI Jp qZ z6 Jq),(qg.mk q2M q50 q51),v2,v3,v4)).bind (fun e=>some (R.tup [rB e.1,rB e.2.1],[(0,B.blk 28 [dI e.2.2.1.Worst,dI e.2.2.1.Best,dI e.2.2.1.Pass]),(1,B.blk 26 [dL 8 qe e.2.2.2.1]),(2,B.blk 22 [dL 1 eI e.2.2.2.2.1]),(3,B.blk 3 [dI e.2.2.2.2.2]),(4,B.blk 135 [C.fn 85 [] [dP 0,dP 1,dP 2,dP 3,dP 4]])])):=fun qI Jp qZ z6 Jq q2M q50 q51 v2 v3 v4=>hF ((qb.mk qI Jp qZ z6 Jq),(qg.mk q2M q50 q51),v2,v3,v4)
   have:=qJZ;have:=@qnm.eq_1;have:=@JD.eq_1;exact gA) ((qg.mk qcJ qgp qgq),b1,b2,b3,t7,t10,t11,t37)
  exact h
def q14 (rF:(qb×qg×List qa×List Int×Int)→Option (Bool×Bool×qg×List qa×List Int×Int)):(qb×qg×List qa×List Int×Int)→Option (Bool×Bool×qg×List qa×List Int×Int)|(x0,v,v2,v3,v4)=>if q0a x0=Bool.true then Option.bind (q2F x0 v v2 v3 v4) fun(a2:qO)=>Option.bind (q1l x0.Kind) fun(a3:Sum Unit Unit)=>Sum.elim (fun(a4:Unit)=>some (a2.many==0,Q4 a2 x0,v,v2,v3,w64 (v4+1))) (fun(a5:Unit)=>some (a2.many==0,Qw a2 x0,v,v2,v3,w64 (v4+1))) a3 else Option.bind (zw (JD rF x0 x0.L ((x0.L.length:Nat):Int)) (v,(v2,(v3,(v4,(Bool.true,(0,(Bool.false,0)))))))) fun(a6:Prod qg (Prod (List qa) (Prod (List Int) (Prod Int (Prod Bool (Prod Int Bool))))))=>if(!a6.2.2.2.2.2.2)=Bool.true then some (a6.2.2.2.2.1,decide (x0.N≤a6.2.2.2.2.2.1),a6.1,a6.2.1,a6.2.2.1,a6.2.2.2.1) else some (a6.2.2.2.2.1,Bool.false,a6.1,a6.2.1,a6.2.2.1,a6.2.2.2.1)
theorem q6s:q8v 85 5 Jb JC q14:=by
 intro rE rF hF hM hR x
 obtain⟨x0,v,v2,v3,v4⟩:=x
 show qb9 rE 85 5 [R.agg [dI x0.Kind,dI x0.N,dI x0.Min,dL 2 qd x0.Set,dL 5 qh x0.L],rP 0,rP 1,rP 2,rP 3,rP 4] [(0,B.blk 28 [dI v.Worst,dI v.Best,dI v.Pass]),(1,B.blk 26 [dL 8 qe v2]),(2,B.blk 22 [dL 1 eI v3]),(3,B.blk 3 [dI v4]),(4,B.blk 135 [C.fn 85 [] [dP 0,dP 1,dP 2,dP 3,dP 4]])]=_
 have hF':∀(qI Jp qZ:Int) (z6:List qc) (Jq:List qb) (q2M q50 q51:Int) (v2:List qa) (v3:List Int) (v4:Int),rE (.fn 85) 5 [R.agg [dI qI,dI Jp,dI qZ,dL 2 qd z6,dL 5 qh Jq],rP 0,rP 1,rP 2,rP 3,rP 4] [(0,B.blk 28 [dI q2M,dI q50,dI q51]),(1,B.blk 26 [dL 8 qe v2]),(2,B.blk 22 [dL 1 eI v3]),(3,B.blk 3 [dI v4]),(4,B.blk 135 [C.fn 85 [] [dP 0,dP 1,dP 2,dP 3,dP 4]])]=(rF ((qb.mk qI Jp qZ z6 Jq),(qg.mk q2M q50 q51),v2,v3,v4)).bind (fun e=>some (R.tup [rB e.1,rB e.2.1],[(0,B.blk 28 [dI e.2.2.1.Worst,dI e.2.2.1.Best,dI e.2.2.1.Pass]),(1,B.blk 26 [dL 8 qe e.2.2.2.1]),(2,B.blk 22 [dL 1 eI e.2.2.2.2.1]),(3,B.blk 3 [dI e.2.2.2.2.2]),(4,B.blk 135 [C.fn 85 [] [dP 0,dP 1,dP 2,dP 3,dP 4]])])):=fun qI Jp qZ z6 Jq q2M q50 q51 v2 v3 v4=>hF ((qb.mk qI Jp qZ z6 Jq),(qg.mk q2M q50 q51),v2,v3,v4)
 rw[q4T qFW qKb]
 have:=qJZ;have:=@q3Y;have:=@qbT;have:=@q58;have:=@q1W;have:=@q31;have:=q8B rE rF hF hM hR;have:=@q14.eq_1;have:=@JC.eq_1;exact gA
theorem q3Q:∀x y,Jb x=Jb y→x=y:=by
 rintro⟨⟨qF9,qFa,qFb,qFc,qFd⟩,⟨qLL,qLM,qPw⟩,a2,a3,a4⟩ ⟨⟨qFe,qFf,qFg,qFh,qFi⟩,⟨qLN,qLO,qPx⟩,b2,b3,b4⟩ h
 simp only[Jb,Prod.mk.injEq,List.cons.injEq,R.c.injEq,R.agg.injEq,R.tup.injEq,C.d.injEq,C.own.injEq,C.ptr.injEq,C.eptr.injEq,D.int.injEq,D.bool.injEq,D.str.injEq,D.sl.injEq,B.blk.injEq,B.row.injEq,q11,q2R,q1S,q1X,q2m,q2l,q4B,q4m,q4s,q16,true_and,and_true,qQp] at h
 simp only[h]
theorem q8A:∀x y,JC x=JC y→x=y:=by
 rintro⟨a0,a1,⟨qPK,qPL,a2_2⟩,a3,a4,a5⟩ ⟨b0,b1,⟨qPM,qPN,b2_2⟩,b3,b4,b5⟩ h
 simp only[JC,Prod.mk.injEq,List.cons.injEq,R.c.injEq,R.agg.injEq,R.tup.injEq,C.d.injEq,C.own.injEq,C.ptr.injEq,C.eptr.injEq,D.int.injEq,D.bool.injEq,D.str.injEq,D.sl.injEq,B.blk.injEq,B.row.injEq,q11,q2R,q1S,q1X,q2m,q2l,q4B,q4m,q4s,q16,true_and,and_true,qQp] at h
 simp only[h]
def JN:(qb×qg×List qa×List Int×Int)→Option (Bool×Bool×qg×List qa×List Int×Int):=q8L 85 5 Jb JC
theorem qc8 (x:(qb×qg×List qa×List Int×Int)):JN x=q14 JN x:=qdr qIP.2.2.2 q3Q q8A q6s x
theorem qb0 (x0:qb) (v:qg) (v2:List qa) (v3:List Int) (v4:Int):ev 85 5 [R.agg [dI x0.Kind,dI x0.N,dI x0.Min,dL 2 qd x0.Set,dL 5 qh x0.L],rP 0,rP 1,rP 2,rP 3,rP 4] [(0,B.blk 28 [dI v.Worst,dI v.Best,dI v.Pass]),(1,B.blk 26 [dL 8 qe v2]),(2,B.blk 22 [dL 1 eI v3]),(3,B.blk 3 [dI v4]),(4,B.blk 135 [C.fn 85 [] [dP 0,dP 1,dP 2,dP 3,dP 4]])]=(JN (x0,v,v2,v3,v4)).bind (fun(e:Bool×Bool×qg×List qa×List Int×Int)=>some (R.tup [rB e.1,rB e.2.1],[(0,B.blk 28 [dI e.2.2.1.Worst,dI e.2.2.1.Best,dI e.2.2.1.Pass]),(1,B.blk 26 [dL 8 qe e.2.2.2.1]),(2,B.blk 22 [dL 1 eI e.2.2.2.2.1]),(3,B.blk 3 [dI e.2.2.2.2.2]),(4,B.blk 135 [C.fn 85 [] [dP 0,dP 1,dP 2,dP 3,dP 4]])])):=(q9y qIP.2.2.2 q3Q q6s (x0,v,v2,v3,v4))
theorem qc5:∀(qI Jp qZ:Int) (z6:List qc) (Jq:List qb) (q2M q50 q51:Int) (v2:List qa) (v3:List Int) (v4:Int),ev 85 5 [R.agg [dI qI,dI Jp,dI qZ,dL 2 qd z6,dL 5 qh Jq],rP 0,rP 1,rP 2,rP 3,rP 4] [(0,B.blk 28 [dI q2M,dI q50,dI q51]),(1,B.blk 26 [dL 8 qe v2]),(2,B.blk 22 [dL 1 eI v3]),(3,B.blk 3 [dI v4]),(4,B.blk 135 [C.fn 85 [] [dP 0,dP 1,dP 2,dP 3,dP 4]])]=(JN ((qb.mk qI Jp qZ z6 Jq),(qg.mk q2M q50 q51),v2,v3,v4)).bind (fun(e:Bool×Bool×qg×List qa×List Int×Int)=>some (R.tup [rB e.1,rB e.2.1],[(0,B.blk 28 [dI e.2.2.1.Worst,dI e.2.2.1.Best,dI e.2.2.1.Pass]),(1,B.blk 26 [dL 8 qe e.2.2.2.1]),(2,B.blk 22 [dL 1 eI e.2.2.2.2.1]),(3,B.blk 3 [dI e.2.2.2.2.2]),(4,B.blk 135 [C.fn 85 [] [dP 0,dP 1,dP 2,dP 3,dP 4]])])):=
 fun qI Jp qZ z6 Jq q2M q50 q51 v2 v3 v4=>qb0 (qb.mk qI Jp qZ z6 Jq) (qg.mk q2M q50 q51) v2 v3 v4
def q1x (n:qb) (s:qg) (l:List qa) (list:List Int):Option Bool:=Option.bind (q1K n) fun(a:List qb)=>Option.bind (JQ n) fun(a2:Int)=>if(a2 != 0)=Bool.true then some Bool.false else if(((list.length:Nat):Int) != ((l.length:Nat):Int))=Bool.true then some Bool.false else Option.bind (zT list ((a.length:Nat):Int)) fun(a3:Bool)=>if a3=Bool.true then some Bool.false else Option.bind (JN (n,(s,(l,(list,0))))) fun(a4:Prod Bool (Prod Bool (Prod qg (Prod (List qa) (Prod (List Int) Int)))))=>some a4.2.1
theorem qew:∀(qB n_N qP:Int) (qQ:List qc) (n_L:List qb) (zo Q1 Q2:Int) (l:List qa) (list:List Int),ev 48 0 [R.agg [dI qB,dI n_N,dI qP,dL 2 qd qQ,dL 5 qh n_L],R.agg [dI zo,dI Q1,dI Q2],rL 8 qe l,rL 1 eI list] []=(q1x (qb.mk qB n_N qP qQ n_L) (qg.mk zo Q1 Q2) l list).bind (fun(e:Bool)=>some (rB e,[])):=
 fun qB n_N qP qQ n_L zo Q1 Q2 l list=>by
  rw[qU qIf qKM.2.2.2 qP0]
  have:=qOC;have:=@q6j;have:=@q4w;have:=@q2u;have:=@qc5;have:=@q1x.eq_1;exact gA
def qy (x0:qf) (x1:qg) (x2:List qa) (x3:Int) (x4:qG):Option Int:=Option.bind (Qg x0 x1) fun(a:Int)=>if(a != 0)=Bool.true then some a else if 10<((x4.Taken.length:Nat):Int) then some 32 else if(((x4.Leaf.length:Nat):Int) != ((x4.Taken.length:Nat):Int))=Bool.true then some 32 else Option.bind (zw (zU x0 x1 x4 x2 x3 x4.Taken ((x4.Taken.length:Nat):Int)) ([],0)) fun(a2:Sum (List qa) (List qa))=>Sum.elim (fun(a3:List qa)=>some 32) (fun(a4:List qa)=>Option.bind (JS x0 a4 x3) fun(a5:Bool)=>if(!a5)=Bool.true then some 32 else Option.bind (q1x x0.Need x1 a4 x4.Leaf) fun(a6:Bool)=>if(!a6)=Bool.true then some 32 else some 0) a2
theorem q5k:∀(zN q0Z zz QN:Int) (QO:ByteArray) (qW zO zc:Int) (zd:List qc) (zP:List qb) (Qf J7 J8:Int) (zA:List (q05 qc)) (ZW q02 q03:Int) (x2:List qa) (x3:Int) (qgr qjR:List Int),ev 21 0 [R.agg [dI zN,dI q0Z,dI zz,dI QN,dS QO,dI qW,dI zO,dI zc,dL 2 qd zd,dL 5 qh zP,dI Qf,dI J7,dI J8,dL 4 (eA2 qd) zA],R.agg [dI ZW,dI q02,dI q03],rL 8 qe x2,rI x3,R.agg [dL 1 eI qgr,dL 1 eI qjR]] []=(qy (qf.mk zN q0Z zz QN QO (qb.mk qW zO zc zd zP) Qf J7 J8 zA) (qg.mk ZW q02 q03) x2 x3 (qG.mk qgr qjR)).bind (fun(e:Int)=>some (rI e,[])):=
 fun zN q0Z zz QN QO qW zO zc zd zP Qf J7 J8 zA ZW q02 q03 x2 x3 qgr qjR=>by
  rw[qU qFn qKo.2.2.2 qJL]
  have:=qJW;have:=@q5q;have:=@q6e;have:=@q3R;have:=@qew;have:=@qy.eq_1;exact gA
theorem q8g:∀(q7Q q7R qaH qaI zN q0Z zz QN:Int) (QO:ByteArray) (qW zO zc:Int) (zd:List qc) (zP:List qb) (Qf J7 J8:Int) (zA:List (q05 qc)) (ZW q02 q03:Int) (x2:List qa) (x3:Int),ev 21 0 [R.agg [dI zN,dI q0Z,dI zz,dI QN,dS QO,dI qW,dI zO,dI zc,dL 2 qd zd,dL 5 qh zP,dI Qf,dI J7,dI J8,dL 4 (eA2 qd) zA],R.agg [dI ZW,dI q02,dI q03],rL 8 qe x2,rI x3,R.agg [C.d (D.sl 1 2 [D.int .i64 q7Q,D.int .i64 q7R]),C.d (D.sl 1 2 [D.int .i64 qaH,D.int .i64 qaI])]] []=(qy (qf.mk zN q0Z zz QN QO (qb.mk qW zO zc zd zP) Qf J7 J8 zA) (qg.mk ZW q02 q03) x2 x3 (qG.mk [q7Q,q7R] [qaH,qaI])).bind (fun(e:Int)=>some (rI e,[])):=by
 intro q7Q q7R qaH qaI zN q0Z zz QN QO qW zO zc zd zP Qf J7 J8 zA ZW q02 q03 x2 x3;have h:=q5k ((qf.mk zN q0Z zz QN QO (qb.mk qW zO zc zd zP) Qf J7 J8 zA)).School ((qf.mk zN q0Z zz QN QO (qb.mk qW zO zc zd zP) Qf J7 J8 zA)).Id ((qf.mk zN q0Z zz QN QO (qb.mk qW zO zc zd zP) Qf J7 J8 zA)).Version ((qf.mk zN q0Z zz QN QO (qb.mk qW zO zc zd zP) Qf J7 J8 zA)).From ((qf.mk zN q0Z zz QN QO (qb.mk qW zO zc zd zP) Qf J7 J8 zA)).Name ((qf.mk zN q0Z zz QN QO (qb.mk qW zO zc zd zP) Qf J7 J8 zA)).Need.Kind ((qf.mk zN q0Z zz QN QO (qb.mk qW zO zc zd zP) Qf J7 J8 zA)).Need.N ((qf.mk zN q0Z zz QN QO (qb.mk qW zO zc zd zP) Qf J7 J8 zA)).Need.Min ((qf.mk zN q0Z zz QN QO (qb.mk qW zO zc zd zP) Qf J7 J8 zA)).Need.Set ((qf.mk zN q0Z zz QN QO (qb.mk qW zO zc zd zP) Qf J7 J8 zA)).Need.L ((qf.mk zN q0Z zz QN QO (qb.mk qW zO zc zd zP) Qf J7 J8 zA)).Total ((qf.mk zN q0Z zz QN QO (qb.mk qW zO zc zd zP) Qf J7 J8 zA)).Own ((qf.mk zN q0Z zz QN QO (qb.mk qW zO zc zd zP) Qf J7 J8 zA)).Age ((qf.mk zN q0Z zz QN QO (qb.mk qW zO zc zd zP) Qf J7 J8 zA)).Exclude ((qg.mk ZW q02 q03)).Worst ((qg.mk ZW q02 q03)).Best ((qg.mk ZW q02 q03)).Pass x2 x3 ((qG.mk [q7Q,q7R] [qaH,qaI])).Taken ((qG.mk [q7Q,q7R] [qaH,qaI])).Leaf
 first
  | exact h
  | (simp only[rL,dL,bR,bZ,Nat.reduceAdd] at h;exact h)
theorem qM6:okL 23 qnN:=qV (qk qGC) (by kernel_rfl) (by kernel_rfl)
def qMu:=JA_ @qnN.eq_1 (JA_ @Tryz.f23.eq_1 @qGC)
theorem qMV:okL 50 qnu:=qV (qk qJf) (by kernel_rfl) (by kernel_rfl)
def qP1:=JA_ @qnu.eq_1 (JA_ @Tryz.f50.eq_1 @qJf)
def q0b (a:List Int) (b:List Int):Option Bool:=Option.bind (Zh a b) fun(e0:Bool)=>some e0
theorem q79:∀(a b:List Int),ev 50 0 [rL 1 eI a,rL 1 eI b] []=(q0b a b).bind (fun(e:Bool)=>some (rB e,[])):=
 fun a b=>by
  rw[qU qJf qKi.2.2.2 qMV]
  have:=qP1;have:=@q24;have:=@q0b.eq_1;exact gA
def q1L (a:qG) (b:qG):Option Bool:=Option.bind (q0b a.Taken b.Taken) fun(a2:Bool)=>if a2=Bool.true then Option.bind (q0b a.Leaf b.Leaf) fun(e0:Bool)=>some e0 else some Bool.false
theorem qc2:∀(q1C q3L q1D q3M:List Int),ev 23 0 [R.agg [dL 1 eI q1C,dL 1 eI q3L],R.agg [dL 1 eI q1D,dL 1 eI q3M]] []=(q1L (qG.mk q1C q3L) (qG.mk q1D q3M)).bind (fun(e:Bool)=>some (rB e,[])):=
 fun q1C q3L q1D q3M=>by
  rw[qU qGC qJP.2.2.2 qM6]
  have:=qMu;have:=@q79;have:=@q1L.eq_1;exact gA
theorem q8T:∀(qaJ qe9 qaK qea:Int) , ev 23 0 [R.agg [C.d (D.sl 1 1 [D.int .i64 qaJ]),C.d (D.sl 1 1 [D.int .i64 qe9])],R.agg [C.d (D.sl 1 1 [D.int .i64 qaK]),C.d (D.sl 1 1 [D.int .i64 qea])]] []=(q1L (qG.mk [qaJ] [qe9]) (qG.mk [qaK] [qea])).bind (fun(e:Bool)=>some (rB e,[])):=by
 intro qaJ qe9 qaK qea;have h:=qc2 ((qG.mk [qaJ] [qe9])).Taken ((qG.mk [qaJ] [qe9])).Leaf ((qG.mk [qaK] [qea])).Taken ((qG.mk [qaK] [qea])).Leaf
 first
  | exact h
  | (simp only[rL,dL,bR,bZ,Nat.reduceAdd] at h;exact h)
def q1Z:Option Bool:=Option.bind (ZD 11) fun(a:Prod qf (List qa))=>Option.bind (ZD 10) fun(a2:Prod qf (List qa))=>Option.bind (ZD 5) fun(a3:Prod qf (List qa))=>Option.bind (ZD 0) fun(a4:Prod qf (List qa))=>Option.bind (ZD 12) fun(a5:Prod qf (List qa))=>Option.bind (zf a.1 a.2 [(1:Int),2] [(-1),0]) fun(a6:Bool)=>if a6=Bool.true then Option.bind (zf a2.1 a.2 [(0:Int),1] [(-1),0]) fun(a7:Bool)=>if a7=Bool.true then Option.bind (zf a3.1 a.2 [(1:Int)] [(0:Int)]) fun(a8:Bool)=>if a8=Bool.true then Option.bind (zf a4.1 a.2 [(1:Int)] [(0:Int)]) fun(a9:Bool)=>if a9=Bool.true then Option.bind (zf a5.1 a.2 [] []) fun(a10:Bool)=>if a10=Bool.true then Option.bind (zf (qf.mk a.1.School a.1.Id a.1.Version a.1.From a.1.Name a.1.Need a.1.Total a.1.Own 3 a.1.Exclude) a.2 [] []) fun(a11:Bool)=>if a11=Bool.true then Option.bind (zf (qf.mk a.1.School a.1.Id a.1.Version a.1.From a.1.Name a.1.Need 6 a.1.Own a.1.Age [q05.mk (qc.mk 1 (ByteArray.mk (List.toArray [65,49]))) (qc.mk 1 (ByteArray.mk (List.toArray [66,49])))]) a.2 [(2:Int)] [(0:Int)]) fun(a12:Bool)=>Option.bind (qy a.1 (qH 1) a.2 500 (qG.mk [(1:Int),2] [(0:Int),(-1)])) fun(a13:Int)=>if(a13==0)=Bool.true then Option.bind (qy a.1 (qH 1) a.2 500 (qG.mk [(1:Int),2] [(0:Int),0])) fun(a14:Int)=>if(a14==32)=Bool.true then Option.bind (qy a.1 (qH 1) a.2 500 (qG.mk [(0:Int),2] [(-1),0])) fun(a15:Int)=>if a12=Bool.true then if(a15==32)=Bool.true then if 0<((a.2.length:Nat):Int) then Option.bind a.2[0]? fun(a16:qa)=>Option.bind (ZS (qf.mk a.1.School a.1.Id a.1.Version a.1.From a.1.Name a.1.Need a.1.Total a.1.Own 3 a.1.Exclude) a16 500) fun(a17:Bool)=>if a17=Bool.true then if 0<((a.2.length:Nat):Int) then Option.bind a.2[0]? fun(a18:qa)=>Option.bind (ZS a.1 a18 500) fun(a19:Bool)=>if(!a19)=Bool.true then Option.bind (q1L (qG.mk [(1:Int)] [(0:Int)]) (qG.mk [(1:Int)] [(0:Int)])) fun(e0:Bool)=>some e0 else some Bool.false else none else some Bool.false else none else some Bool.false else some Bool.false else some Bool.false else some Bool.false else Option.bind (qy a.1 (qH 1) a.2 500 (qG.mk [(1:Int),2] [(0:Int),(-1)])) fun(a20:Int)=>if(a20==0)=Bool.true then Option.bind (qy a.1 (qH 1) a.2 500 (qG.mk [(1:Int),2] [(0:Int),0])) fun(a21:Int)=>if(a21==32)=Bool.true then Option.bind (qy a.1 (qH 1) a.2 500 (qG.mk [(0:Int),2] [(-1),0])) fun(a22:Int)=>some Bool.false else some Bool.false else some Bool.false else Option.bind (qy a.1 (qH 1) a.2 500 (qG.mk [(1:Int),2] [(0:Int),(-1)])) fun(a23:Int)=>if(a23==0)=Bool.true then Option.bind (qy a.1 (qH 1) a.2 500 (qG.mk [(1:Int),2] [(0:Int),0])) fun(a24:Int)=>if(a24==32)=Bool.true then Option.bind (qy a.1 (qH 1) a.2 500 (qG.mk [(0:Int),2] [(-1),0])) fun(a25:Int)=>some Bool.false else some Bool.false else some Bool.false else Option.bind (qy a.1 (qH 1) a.2 500 (qG.mk [(1:Int),2] [(0:Int),(-1)])) fun(a26:Int)=>if(a26==0)=Bool.true then Option.bind (qy a.1 (qH 1) a.2 500 (qG.mk [(1:Int),2] [(0:Int),0])) fun(a27:Int)=>if(a27==32)=Bool.true then Option.bind (qy a.1 (qH 1) a.2 500 (qG.mk [(0:Int),2] [(-1),0])) fun(a28:Int)=>some Bool.false else some Bool.false else some Bool.false else Option.bind (qy a.1 (qH 1) a.2 500 (qG.mk [(1:Int),2] [(0:Int),(-1)])) fun(a29:Int)=>if(a29==0)=Bool.true then Option.bind (qy a.1 (qH 1) a.2 500 (qG.mk [(1:Int),2] [(0:Int),0])) fun(a30:Int)=>if(a30==32)=Bool.true then Option.bind (qy a.1 (qH 1) a.2 500 (qG.mk [(0:Int),2] [(-1),0])) fun(a31:Int)=>some Bool.false else some Bool.false else some Bool.false else Option.bind (qy a.1 (qH 1) a.2 500 (qG.mk [(1:Int),2] [(0:Int),(-1)])) fun(a32:Int)=>if(a32==0)=Bool.true then Option.bind (qy a.1 (qH 1) a.2 500 (qG.mk [(1:Int),2] [(0:Int),0])) fun(a33:Int)=>if(a33==32)=Bool.true then Option.bind (qy a.1 (qH 1) a.2 500 (qG.mk [(0:Int),2] [(-1),0])) fun(a34:Int)=>some Bool.false else some Bool.false else some Bool.false else Option.bind (qy a.1 (qH 1) a.2 500 (qG.mk [(1:Int),2] [(0:Int),(-1)])) fun(a35:Int)=>if(a35==0)=Bool.true then Option.bind (qy a.1 (qH 1) a.2 500 (qG.mk [(1:Int),2] [(0:Int),0])) fun(a36:Int)=>if(a36==32)=Bool.true then Option.bind (qy a.1 (qH 1) a.2 500 (qG.mk [(0:Int),2] [(-1),0])) fun(a37:Int)=>some Bool.false else some Bool.false else some Bool.false
theorem qb2:ev 10 0 [] []=(q1Z).bind (fun(e:Bool)=>some (rB e,[])):=
 by
  rw[qU qJu qKu.2.2.2 qND]
  have:=qN6;have:=@q9F;have:=@q2T;have:=@q6Y;have:=@q74;have:=@q5Y;have:=@q7E;have:=@q8g;have:=@q6X;have:=@q4l;have:=@q8T;have:=@q1Z.eq_1;exact gA
end

noncomputable section
open Go.RowKit
section
variable {τ ε:Type} {step:τ→Option (τ⊕ε)}
theorem zV {x y:τ} (h:step x=some (.inl y)):zw step x=zw step y:=by
 rw[qbn,h];rfl
theorem zu {x:τ} {e:ε} (h:step x=some (.inr e)):zw step x=some e:=by
 rw[qbn,h];rfl
theorem q2z {e:ε} (st:Nat→τ) (i0 n:Nat) (h0:i0≤n) (h:∀i,i0≤i→i<n→step (st i)=some (.inl (st (i+1)))) (hn:step (st n)=some (.inr e)):zw step (st i0)=some e:=by
 have key:∀j i,j+i=n→i0≤i→zw step (st i)=some e:=by
  intro j
  induction j with
  | zero=>intro i hi _;rw[qQt] at hi;subst hi;exact zu hn
  | succ j ih=>intro i hi h1;rw[zV (h i h1 (by omega))];exact ih (i+1) (by omega) (by omega)
 exact key (n-i0) i0 (by omega) (qQl _)
def qg9 {α β ε:Type} (g:β→α→β⊕ε) (fin:β→ε):List α→β→ε
 | [],b=>fin b
 | a::l,b=>match g b a with
  | .inl b'=>qg9 g fin l b'
  | .inr e=>e
theorem qeW {α β:Type} (l:List α) (st:β→Nat→τ) (g:β→α→β⊕ε) (fin:β→ε)
  (h:∀b i a,l[i]?=some a→step (st b i)=some (match g b a with | .inl b' => .inl (st b' (i+1)) | .inr e => .inr e)) (hn:∀b,step (st b l.length)=some (.inr (fin b))) (b:β):zw step (st b 0)=some (qg9 g fin l b):=by
 have key:∀(r:List α) (i:Nat) (b:β),r.length+i=l.length→(∀j,r[j]?=l[i+j]?)→zw step (st b i)=some (qg9 g fin r b):=by
  intro r
  induction r with
  | nil=>
   intro i b hi _
   have hi:i=l.length:=by simpa using hi
   subst hi;exact zu (hn b)
  | cons a r ih=>
   intro i b hi hr
   have ha:l[i]?=some a:=by have:=hr 0;simpa using this.symm
   have h1:=h b i a ha
   unfold qg9
   cases hg:g b a with
   | inl b'=>
    rw[hg] at h1
    rw[zV h1]
    refine ih (i+1) b' (by simp at hi;omega) fun j=>?_
    have:=hr (j+1)
    rw[show i+1+j=i+(j+1) by omega,←this];rfl
   | inr e=>
    rw[hg] at h1
    exact zu h1
 exact key l 0 b (by simp) (by simp)
theorem qm5 {α β:Type} (l:List α) (st:β→Nat→τ) (g:β→α→β) (fin:β→ε)
  (h:∀b i a,l[i]?=some a→step (st b i)=some (.inl (st (g b a) (i+1)))) (hn:∀b,step (st b l.length)=some (.inr (fin b))) (b:β):zw step (st b 0)=some (fin (l.foldl g b)):=by
 rw[qeW l st (fun b a => .inl (g b a)) fin h hn b]
 congr 1
 induction l generalizing b with
 | nil=>rfl
 | cons a l ih=>
  unfold qg9
  simp only[qR9]
  clear h hn
  have:∀(l:List α) (b:β),qg9 (ε:=ε) (fun b a => .inl (g b a)) fin l b=fin (l.foldl g b):=by
   intro l
   induction l with
   | nil=>intro b;rfl
   | cons a l ih=>intro b;unfold qg9;simp only[qR9];exact ih _
  exact this l _
theorem qgP {α:Type} (l:List α) (st:Nat→τ) (p:α→Option ε) (d:ε)
  (h:∀i a,l[i]?=some a→step (st i)=some (match p a with|some e => .inr e|none => .inl (st (i+1)))) (hn:step (st l.length)=some (.inr d)):zw step (st 0)=some ((l.findSome? p).getD d):=by
 have h1:=qeW (ε:=ε) (β:=Unit) l (fun _ i=>st i) (fun _ a=>match p a with|some e => .inr e|none => .inl ()) (fun _=>d) (fun b i a ha=>by
  rw[h i a ha];cases p a<;>rfl) (fun _=>hn) ()
 rw[h1]
 congr 1
 have:∀l:List α,qg9 (ε:=ε) (fun(_:Unit) a=>match p a with|some e => .inr e|none => .inl ()) (fun _=>d) l ()=(l.findSome? p).getD d:=by
  intro l
  induction l with
  | nil=>rfl
  | cons a l ih=>
   unfold qg9
   rw[List.findSome?_cons]
   cases p a with
   | none=>simpa using ih
   | some e=>rfl
 exact this l
def q4G {α β ε:Type} (g:Nat→β→α→β⊕ε) (fin:β→ε):List α→Nat→β→ε
 | [],_,b=>fin b
 | a::l,i,b=>match g i b a with
  | .inl b'=>q4G g fin l (i+1) b'
  | .inr e=>e
theorem q2r {α β:Type} (l:List α) (st:β→Nat→τ) (g:Nat→β→α→β⊕ε) (fin:β→ε)
  (h:∀b i a,l[i]?=some a→step (st b i)=some (match g i b a with | .inl b' => .inl (st b' (i+1)) | .inr e => .inr e)) (hn:∀b,step (st b l.length)=some (.inr (fin b))) (b:β):zw step (st b 0)=some (q4G g fin l 0 b):=by
 have key:∀(r:List α) (i:Nat) (b:β),r.length+i=l.length→(∀j,r[j]?=l[i+j]?)→zw step (st b i)=some (q4G g fin r i b):=by
  intro r
  induction r with
  | nil=>
   intro i b hi _
   have hi:i=l.length:=by simpa using hi
   subst hi;exact zu (hn b)
  | cons a r ih=>
   intro i b hi hr
   have ha:l[i]?=some a:=by have:=hr 0;simpa using this.symm
   have h1:=h b i a ha
   unfold q4G
   cases hg:g i b a with
   | inl b'=>
    rw[hg] at h1
    rw[zV h1]
    refine ih (i+1) b' (by simp at hi;omega) fun j=>?_
    have:=hr (j+1)
    rw[show i+1+j=i+(j+1) by omega,←this];rfl
   | inr e=>
    rw[hg] at h1
    exact zu h1
 exact key l 0 b (by simp) (by simp)
end
theorem Jl {α:Type} {l:List α} {i:Nat} {a:α} (h:l[i]?=some a):i<l.length:=(qQ9.1 h).1
theorem Z9 {n:Int} (h0 : -9223372036854775808≤n) (h1:n≤9223372036854775807):w64 n=n:=wi n h0 h1
theorem Qk {i n:Nat} (h:i<n) (hn:n≤9223372036854775807):w64 ((i:Int)+1)=((i+1:Nat):Int):=by
 rw[Z9 (by omega) (by omega)];omega
end
noncomputable section
open Go.RowKit
theorem qku (a:Nat) (h:a<9223372036854775808):IntKind.i64.wrap (a:Int)=a:=wi _ (by omega) (by omega)
theorem qgu (a:Nat):BitVec.ofInt IntKind.i64.bits (a:Int)=BitVec.ofNat 64 a:=by
 show BitVec.ofInt 64 (a:Int)=_
 simp
theorem qfh (a b:Nat) (ha:a<9223372036854775808) (hb:b<9223372036854775808):ZT .and .i64 (a:Int) (b:Int)=((a &&& b:Nat):Int):=by
 unfold ZT
 simp only[qgu]
 have h1:(BitVec.ofNat 64 a &&& BitVec.ofNat 64 b).toNat=a &&& b:=by
  rw[BitVec.toNat_and,BitVec.toNat_ofNat,BitVec.toNat_ofNat,Nat.mod_eq_of_lt (by omega),Nat.mod_eq_of_lt (by omega)]
 have h2:a &&& b≤a:=Nat.and_le_left
 show IntKind.i64.wrap (((BitVec.ofNat 64 a &&& BitVec.ofNat 64 b).toNat:Nat):Int)=_
 rw[h1]
 exact qku _ (by omega)
theorem qeL (a b:Nat) (ha:a<9223372036854775808) (hb:b<9223372036854775808):ZT .andNot .i64 (a:Int) (b:Int)=((a ^^^ (a &&& b):Nat):Int):=by
 unfold ZT
 simp only[qgu]
 have h1:(BitVec.ofNat 64 a &&& ~~~BitVec.ofNat 64 b).toNat=a ^^^ (a &&& b):=by
  apply Nat.eq_of_testBit_eq
  intro i
  rw[BitVec.testBit_toNat,BitVec.getLsbD_and,BitVec.getLsbD_not,BitVec.getLsbD_ofNat,BitVec.getLsbD_ofNat,Nat.testBit_xor,Nat.testBit_and]
  by_cases hi:i<64
  ·simp only[hi,decide_true,qQC]
   cases a.testBit i<;>cases b.testBit i<;>rfl
  ·have:a.testBit i=false:=Nat.testBit_lt_two_pow (qQF ha (by
    have:=Nat.pow_le_pow_right (n:=2) (by decide) (show 63≤i by omega)
    exact this))
   simp[hi,this]
 have h2:a ^^^ (a &&& b)<2 ^ 63:=Nat.xor_lt_two_pow (by omega) (qQH Nat.and_le_left (by omega))
 show IntKind.i64.wrap (((BitVec.ofNat 64 a &&& ~~~BitVec.ofNat 64 b).toNat:Nat):Int)=_
 rw[h1]
 exact qku _ (by omega)
theorem qau (a k:Nat) (hk:k≤64):((a:Int)).fdiv (2 ^ min k IntKind.i64.bits)=((a / 2 ^ k:Nat):Int):=by
 have:min k IntKind.i64.bits=k:=Nat.min_eq_left hk
 rw[this]
 show((a:Int)).fdiv (2 ^ k)=_
 rw[show((2:Int) ^ k)=((2 ^ k:Nat):Int) by simp]
 rw[Int.fdiv_eq_ediv_of_nonneg _ (Int.natCast_nonneg _)]
 simp
theorem qju (a k:Nat) (ha:a<9223372036854775808) (hk:k≤64):(ZT .and .i64 ((a:Int).fdiv (2 ^ min k IntKind.i64.bits)) 1==1)=a.testBit k:=by
 rw[qau a k hk,show(1:Int)=((1:Nat):Int) from rfl,qfh _ _ (qQH (Nat.div_le_self _ _) ha) (by decide),Nat.and_one_is_mod,Nat.testBit_eq_decide_div_mod_eq]
 have:a / 2 ^ k % 2<2:=Nat.mod_lt _ (by decide)
 by_cases h:a / 2 ^ k % 2=1
 ·simp[h]
 ·have:a / 2 ^ k % 2=0:=by omega
  simp[this]
def Zi {α:Type} (N:Nat) (g:Nat→α):List α:=(List.range N).map g
theorem zI {α:Type} (N:Nat) (g:Nat→α):(Zi N g).length=N:=by simp[Zi]
theorem Je {α:Type} {N:Nat} (g:Nat→α) {i:Nat} (h:i<N):(Zi N g)[i]?=some (g i):=by
 unfold Zi;rw[qQj,List.getElem?_range h];rfl
theorem q0X {α:Type} {N:Nat} {f g:Nat→α} (h:∀k,k<N→f k=g k):Zi N f=Zi N g:=by
 unfold Zi
 refine List.map_congr_left fun k hk=>h k (qR2.1 hk)
theorem q4V {α:Type} (N:Nat) (c:α):List.replicate N c=Zi N (fun _=>c):=by
 unfold Zi
 induction N with
 | zero=>rfl
 | succ n ih=>rw[List.range_succ,List.map_append,←ih,List.replicate_succ'];rfl
def qbD {α:Type} (g:Nat→α) (i:Nat) (v:α):Nat→α:=fun k=>if k=i then v else g k
theorem JK {α:Type} (N:Nat) (g:Nat→α) (i:Nat) (v:α):(Zi N g).set i v=Zi N (qbD g i v):=by
 refine List.ext_getElem? fun k=>?_
 rw[List.getElem?_set,zI]
 by_cases hk:k<N
 ·rw[Je _ hk,Je _ hk]
  unfold qbD
  by_cases h:i=k
  ·subst h;simp[hk]
  ·rw[if_neg h,if_neg (fun h2=>h h2.symm)]
 ·have e1:(Zi N g)[k]?=none:=qQD (by rw[zI];omega)
  have e2:(Zi N (qbD g i v))[k]?=none:=qQD (by rw[zI];omega)
  rw[e1,e2]
  split
  ·rw[if_neg (by omega)]
  ·rfl
theorem qcW {α:Type} (g:Nat→α) (i:Nat) (v:α):qbD g i v i=v:=by simp[qbD]
theorem qa9 {α:Type} (g:Nat→α) (i:Nat) (v w:α):qbD (qbD g i v) i w=qbD g i w:=by
 funext k;unfold qbD;split<;>rfl
theorem qms {α:Type} (f:Nat→α) (c:α) {i0 i:Nat} (h:i0≤i):qbD (fun k=>if i0≤k∧k<i then f k else c) i (f i)=fun k=>if i0≤k∧k<i+1 then f k else c:=by
 funext k
 unfold qbD
 by_cases hk:k=i
 ·subst hk;rw[if_pos rfl,if_pos ⟨h,Nat.lt_succ_self _⟩]
 ·rw[if_neg hk]
  show(if i0≤k∧k<i then f k else c)=_
  by_cases h:i0≤k∧k<i
  ·rw[if_pos h,if_pos ⟨h.1,by omega⟩]
  ·rw[if_neg h,if_neg (by omega)]
end
noncomputable section
open Go.RowKit
def ceq (a b:qc):Bool:=(a.School==b.School)&&(a.Code.toList==b.Code.toList)
def ql8 (n a b:Int):Int:=max (min a b) (min n (max a b))
def qdy (s:qg):Bool:=ql8 s.Worst (-1000) 1000==s.Worst&&ql8 s.Best (-1000) 1000==s.Best&&s.Worst != s.Best&&ql8 s.Pass s.Worst s.Best==s.Pass
def qkt (s:qg) (g:Int):Bool:=qdy s&&ql8 g s.Worst s.Best==g
def qpk (s:qg) (g m:Int):Bool:=qkt s g&&(g==m||(decide (m<g)==decide (s.Worst<s.Best)))
theorem q6d (s:qg):q1O s=some (if qdy s then 0 else 10):=by
 have h1:=qgP (ε:=Unit⊕Unit) (step:=JB [s.Worst,s.Best] s 2) [s.Worst,s.Best] (fun i=>(i:Int)) (fun a=>if ql8 a (-1000) 1000 != a then some (.inl ()) else none) (.inr ()) (fun i a ha=>by
   have hi:i<2:=by obtain⟨h,_⟩:=qQ9.1 ha;simpa using h
   have hw:w64 ((i:Int)+1)=((i+1:Nat):Int):=Qk hi (by omega)
   unfold JB
   rw[if_pos (by omega),if_pos ⟨by omega,by simpa using by omega⟩,qQ8,ha,qQ5,hw]
   show(if(ql8 a (-1000) 1000 != a)=true then _ else _)=_
   split<;>simp_all) (by
   unfold JB
   rfl)
 unfold q1O
 rw[show((0:Int))=((0:Nat):Int) from rfl,h1,qQ5]
 unfold qdy QF
 simp only[List.findSome?_cons,List.findSome?_nil]
 show _=some (if(ql8 s.Worst (-1000) 1000==s.Worst&&ql8 s.Best (-1000) 1000==s.Best&&s.Worst != s.Best&&ql8 s.Pass s.Worst s.Best==s.Pass)=true then 0 else 10)
 change (Sum.elim _ (fun _=>if(s.Worst==s.Best)=true then some (10:Int) else if(ql8 s.Pass s.Worst s.Best != s.Pass)=true then some 10 else some 0) _)=_
 by_cases e1:ql8 s.Worst (-1000) 1000=s.Worst<;>by_cases e2:ql8 s.Best (-1000) 1000=s.Best<;>by_cases e3:s.Worst=s.Best<;>by_cases e4:ql8 s.Pass s.Worst s.Best=s.Pass<;>simp[e1,e2,e3,e4,bne]
theorem qg6 (s:qg) (g:Int):q2B s g=some (qkt s g):=by
 unfold q2B qkt
 rw[q6d,qQ5]
 cases h:qdy s<;>simp[QF,ql8]
theorem qme (s:qg) (g m:Int):q1k s g m=some (qpk s g m):=by
 unfold q1k qpk
 rw[qg6,qQ5]
 cases h:qkt s g
 ·simp
 ·by_cases h2:g=m<;>simp[h2]
theorem qdB (p:qc→Bool):∀(l:List qc) (i:Nat),(decide (0≤(q4G (ε:=Int⊕Unit) (fun i (_:Unit) a=>if p a=true then .inr (.inl (i:Int)) else .inl ()) (fun _ => .inr ()) l i ()).elim id (fun _ => -1)))=l.any p
 | [],i=>rfl
 | a::l,i=>by
  unfold q4G
  by_cases h:p a=true
  ·simp[h]
  ·have h':p a=false:=by simpa using h
   simp only[h',List.any_cons,Bool.false_or]
   exact qdB p l (i+1)
theorem qs8 (l:List qc) (hl:l.length≤9223372036854775807) (v:qc):∃i:Int,Q8 l v=some i∧(decide (0≤i))=l.any (ceq v):=by
 have h1:=q2r (ε:=Int⊕Unit) (step:=zC v l (l.length:Int)) l (fun(b:Unit) i=>(i:Int)) (fun i b a=>if ceq v a=true then .inr (.inl (i:Int)) else .inl ()) (fun _ => .inr ()) (fun b i a ha=>by
   have hi:=Jl ha
   have hw:w64 ((i:Int)+1)=((i+1:Nat):Int):=Qk hi hl
   unfold zC
   rw[if_pos (by omega),if_pos ⟨by omega,by omega⟩,qQ8,ha,qQ5,hw]
   unfold ceq
   by_cases e1:v.School=a.School<;>by_cases e2:v.Code.toList=a.Code.toList<;>simp[e1,e2]) (fun b=>by
   unfold zC
   rw[if_neg (by omega)]) ()
 refine⟨_,?_,qdB (ceq v) l 0⟩
 unfold Q8
 rw[show((0:Int))=((0:Nat):Int) from rfl,h1,qQ5]
 cases(q4G (ε:=Int⊕Unit) (fun i (_:Unit) a=>if ceq v a=true then .inr (.inl (i:Int)) else .inl ()) (fun _ => .inr ()) l 0 ())<;>rfl
theorem qia (l:List qc) (hl:l.length≤9223372036854775807) (v:qc):zX l v=some (l.any (ceq v)):=by
 obtain⟨i,h1,h2⟩:=qs8 l hl v
 unfold zX
 rw[h1,qQ5,h2]
def qaf (n:qb):Bool:=n.Kind==1||n.Kind==2
theorem qcA (n:qb):q0a n=qaf n:=by
 unfold q0a qaf
 cases h:(n.Kind==1)<;>simp
def qmg (n:qb) (s:qg) (a:qa):Bool:=qaf n&&n.Set.any (ceq a.Course)&&qpk s a.Grade n.Min
theorem qoH (n:qb) (hn:n.Set.length≤9223372036854775807) (s:qg) (a:qa):q4g n s a=some (qmg n s a):=by
 unfold q4g qmg
 rw[qcA,qia n.Set hn,qme]
 cases qaf n<;>cases n.Set.any (ceq a.Course)<;>simp
def wgF (n:qb) (s:qg) (set:Nat):List qa→Nat→qO→qO
 | [],_,x=>x
 | a::l,k,x=>wgF n s set l (k+1) (if set.testBit k=true then⟨w64 (x.many+1),w64 (x.credits+a.Credits),x.fine&&qmg n s a⟩ else x)
def ld0:qO:=⟨0,0,true⟩
theorem qkJ (n:qb) (hn:n.Set.length≤9223372036854775807) (s:qg) (l:List qa) (hl:l.length≤62) (set:Nat) (hs:set<9223372036854775808):q1p n s l (set:Int)=some (wgF n s set l 0 ld0):=by
 have h1:=q2r (ε:=qO) (step:=q0f (set:Int) n s (qO.mk (0:Int) (0:Int) Bool.false) l (l.length:Int)) l (fun(b:qO) i=>(b,(i:Int))) (fun i b a => .inl (if set.testBit i=true then⟨w64 (b.many+1),w64 (b.credits+a.Credits),b.fine&&qmg n s a⟩ else b)) (fun b=>b) (fun b i a ha=>by
   have hi:=Jl ha
   have hw:w64 ((i:Int)+1)=((i+1:Nat):Int):=Qk hi (by omega)
   have hb:q1w (i:Int) (set:Int)=some (set.testBit i):=by
    unfold q1w
    rw[if_pos (by omega),qQ8,qju set i hs (by omega)]
   unfold q0f
   simp only
   rw[if_pos (by omega),if_pos ⟨by omega,by omega⟩,qQ8,ha,qQ5,hw,hb,qQ5]
   cases set.testBit i
   ·simp
   ·cases hf:b.fine
    ·simp
    ·simp[qoH n hn s a]) (fun b=>by
   unfold q0f
   simp only
   rw[if_neg (by omega)]) ld0
 unfold q1p
 change Option.bind (zw _ (ld0,((0:Nat):Int))) _=_
 rw[h1,qQ5]
 congr 1
 have:∀(l:List qa) (i:Nat) (b:qO),q4G (ε:=qO) (fun i (b:qO) (a:qa) => .inl (if set.testBit i=true then⟨w64 (b.many+1),w64 (b.credits+a.Credits),b.fine&&qmg n s a⟩ else b)) (fun b=>b) l i b=wgF n s set l i b:=by
  intro l
  induction l with
  | nil=>intro i b;rfl
  | cons a l ih=>intro i b;unfold q4G wgF;exact ih _ _
 exact this l 0 ld0
def qeK (n:qb) (x:qO):Bool:=if n.Kind=1 then x.fine&&x.many==1 else x.fine&&decide (0<x.many)&&decide (n.N≤x.credits)
end
noncomputable section
open Go.RowKit
def q1H (set sub:Nat):Nat:=set ^^^ (set &&& sub)
theorem Za (set sub i:Nat):(q1H set sub).testBit i=(set.testBit i && !sub.testBit i):=by
 unfold q1H
 rw[Nat.testBit_xor,Nat.testBit_and]
 cases set.testBit i<;>cases sub.testBit i<;>rfl
theorem ql2 (set sub:Nat):q1H set sub≤set:=by
 have:q1H set sub &&& set=q1H set sub:=Nat.eq_of_testBit_eq fun i=>by
  rw[Nat.testBit_and,Za];cases set.testBit i<;>cases sub.testBit i<;>rfl
 rw[←this];exact Nat.and_le_right
def eaV (own:Nat→Bool) (best:Nat→Int) (set sub:Nat) (v:Int):Int:=if own sub=true∧0≤best (q1H set sub) then max v (best (q1H set sub)+1) else v
def eaF (own:Nat→Bool) (best:Nat→Int) (set:Nat):Nat→Nat→Int→Int
 | 0,_,v=>v
 | f+1,sub,v=>if sub=0 then v else eaF own best set f ((sub-1) &&& set) (eaV own best set sub v)
def Bnd (best:Nat→Int) (N:Nat) (M:Int):Prop:=∀k,k<N → -1≤best k∧best k≤M
section
variable {N:Nat} (hN:N≤65536) {own:Nat→Bool} {best:Nat→Int} {M:Int} (hM:M≤1000000) (hb:Bnd best N M)
include hN hM hb
theorem qtf {set sub:Nat} (hs:set<N) (hsub:sub<N) (g:Nat→Int):q1v (sub:Int) ((q1H set sub:Nat):Int) (Zi N best) (Zi N g) (Zi N own) (set:Int)=some (Zi N (qbD g set (eaV own best set sub (g set)))):=by
 have hr:=ql2 set sub
 have hbr:=hb (q1H set sub) (by omega)
 unfold q1v
 rw[zI,if_pos ⟨by omega,by omega⟩,qQ8,Je own hsub,qQ5]
 unfold eaV
 cases ho:own sub
 ·simp only[Bool.false_eq_true,if_false,false_and]
  rw[←JK]
  congr 1
  refine List.ext_getElem? fun k=>?_
  rw[List.getElem?_set]
  split
  ·rename_i h;subst h;rw[zI,if_pos hs,Je _ hs]
  ·rfl
 ·simp only[if_true,true_and]
  rw[zI,if_pos ⟨by omega,by omega⟩,qQ8,Je best (by omega),qQ5]
  by_cases h0:0≤best (q1H set sub)
  ·rw[if_pos h0,if_pos h0,zI,if_pos ⟨by omega,by omega⟩,qQ8,Je g hs,qQ5,if_pos ⟨by omega,by omega⟩,qQ5,if_pos ⟨by omega,by omega⟩,if_pos (by omega),Z9 (by omega) (by omega),JK]
  ·rw[if_neg h0,if_neg h0,←JK]
   congr 1
   refine List.ext_getElem? fun k=>?_
   rw[List.getElem?_set]
   split
   ·rename_i h;subst h;rw[zI,if_pos hs,Je _ hs]
   ·rfl
theorem qgl {set:Nat} (hs:set<N):∀(f sub:Nat),sub≤f→sub≤set→∀(g:Nat→Int),zw (Qp (Zi N best) (Zi N own) (set:Int) (set:Int)) (Zi N g,(sub:Int))=some (Zi N (qbD g set (eaF own best set f sub (g set)))):=by
 have hself:∀g:Nat→Int,qbD g set (g set)=g:=fun g=>by funext k;unfold qbD;split<;>simp_all
 have h0:∀(g:Nat→Int),zw (Qp (Zi N best) (Zi N own) (set:Int) (set:Int)) (Zi N g,((0:Nat):Int))=some (Zi N g):=fun g=>by
  refine zu ?_
  unfold Qp
  simp
 intro f
 induction f with
 | zero=>
  intro sub hf _ g
  have:sub=0:=by omega
  subst this
  rw[h0]
  unfold eaF
  rw[hself]
 | succ f ih=>
  intro sub hf hle g
  unfold eaF
  by_cases hz:sub=0
  ·subst hz
   rw[h0,if_pos rfl,hself]
  ·have ha:(sub-1) &&& set≤sub-1:=Nat.and_le_left
   have hstep:Qp (Zi N best) (Zi N own) (set:Int) (set:Int) (Zi N g,(sub:Int))=some (.inl (Zi N (qbD g set (eaV own best set sub (g set))),((((sub-1) &&& set:Nat)):Int))):=by
    unfold Qp
    simp only
    rw[if_pos (by omega),qeL _ _ (by omega) (by omega),Z9 (by omega) (by omega),show((sub:Int)-1)=((sub-1:Nat):Int) by omega,qfh _ _ (by omega) (by omega)]
    have:=qtf hN hM hb (own:=own) hs (sub:=sub) (by omega) g
    unfold q1H at this
    rw[this,qQ5]
   rw[zV hstep,ih _ (by omega) (by omega),if_neg hz,qcW,qa9]
end
def stF (skip:Bool) (own:Nat→Bool) (best:Nat→Int) (set:Nat):Int:=eaF own best set set set (if skip=true then best set else -1)
theorem qvT {own:Nat→Bool} {best:Nat→Int} {N:Nat} {M:Int} (hb:Bnd best N M) (hM : -1≤M) {set sub:Nat} (hs:set<N) {v:Int} (h : -1≤v∧v≤M+1) : -1≤eaV own best set sub v∧eaV own best set sub v≤M+1:=by
 have:=hb (q1H set sub) (qQH (ql2 set sub) hs)
 unfold eaV
 split<;>omega
theorem qpt {own:Nat→Bool} {best:Nat→Int} {N:Nat} {M:Int} (hb:Bnd best N M) (hM : -1≤M) {set:Nat} (hs:set<N):∀(f sub:Nat) (v:Int),-1≤v∧v≤M+1 → -1≤eaF own best set f sub v∧eaF own best set f sub v≤M+1
 | 0,_,_,h=>h
 | f+1,sub,v,h=>by
  unfold eaF
  split
  ·exact h
  ·exact qpt hb hM hs f _ _ (qvT hb hM hs h)
theorem qnT {skip:Bool} {own:Nat→Bool} {best:Nat→Int} {N:Nat} {M:Int} (hb:Bnd best N M) (hM : -1≤M):Bnd (stF skip own best) N (M+1):=fun k hk=>by
 unfold stF
 have:=hb k hk
 refine qpt hb hM hk _ _ _ ?_
 split<;>omega
end
noncomputable section
open Go.RowKit
def b0F (k:Nat):Int:=if k=0 then 0 else -1
def alG (leaf:Int) (set:Nat):List Int→Nat→Bool
 | [],_=>true
 | x::d,k=>(set.testBit k==(x==leaf))&&alG leaf set d (k+1)
def alF (d:List Int) (leaf set:Nat):Bool:=alG (leaf:Int) set d 0
def foF (d:List Int) (a b:Nat):Bool:=d.any fun x=>decide ((a:Int)≤x)&&decide (x<(b:Int))
def q2o (d:List Int) (s:qg) (l:List qa) (n:qb) (nx set:Nat):Bool:=decide (set≠0)&&(alF d nx set&&qeK n (wgF n s set l 0 ld0))
mutual
def lvN:qb→Nat
 | ⟨k,_,_,_,L⟩=>if k=1∨k=2 then 1 else lvL L
def lvL:List qb→Nat
 | []=>0
 | x::L=>lvN x+lvL L
end
mutual
def ndN:qb→List qb
 | ⟨k,n,m,S,L⟩=>⟨k,n,m,S,L⟩::ndL L
def ndL:List qb→List qb
 | []=>[]
 | x::L=>ndN x++ndL L
end
theorem qdi (n:qb):lvN n=if n.Kind=1∨n.Kind=2 then 1 else lvL n.L:=by cases n;rw[lvN]
theorem q0i (n:qb):ndN n=n::ndL n.L:=by cases n;rw[ndN]
mutual
def QQ (d:List Int) (s:qg) (l:List qa):qb→Nat→Nat→Bool
 | ⟨k,n,m,S,L⟩,nx,set=>if k=1∨k=2 then q2o d s l ⟨k,n,m,S,L⟩ nx set else decide (set≠0)&&decide ((if k=3 then(L.length:Int) else n)≤qbY d s l (k==4) L nx b0F set)
def qbY (d:List Int) (s:qg) (l:List qa) (sk:Bool):List qb→Nat→(Nat→Int)→Nat→Int
 | [],_,b,set=>b set
 | x::L,nx,b,set=>qbY d s l sk L (nx+lvN x) (stF (sk && !foF d nx (nx+lvN x)) (QQ d s l x nx) b) set
end
theorem qdR (d:List Int) (s:qg) (l:List qa) (n:qb) (nx set:Nat):QQ d s l n nx set=if n.Kind=1∨n.Kind=2 then q2o d s l n nx set else decide (set≠0)&&decide ((if n.Kind=3 then(n.L.length:Int) else n.N)≤qbY d s l (n.Kind==4) n.L nx b0F set):=by cases n;rw[QQ]
theorem qmi:∀n:qb,lvN n≤(ndN n).length:=by
 intro n
 induction n using qb.rec (motive_2:=fun L=>lvL L≤(ndL L).length) with
 | mk k n m S L ih=>rw[lvN,ndN,qQg];split<;>omega
 | nil=>simp[lvL]
 | cons x L h1 h2=>rw[lvL,ndL,qQc];omega
theorem qlN (d:List Int) (hd:d.length≤16) (leaf set:Nat) (hs:set<9223372036854775808):q0U (leaf:Int) (set:Int) d=some (alF d leaf set):=by
 have h1:=q2r (ε:=Unit⊕Unit) (step:=JR d (leaf:Int) (set:Int) (d.length:Int)) d (fun(_:Unit) i=>(i:Int)) (fun i _ x=>if(set.testBit i==(x==(leaf:Int)))=true then .inl () else .inr (.inl ())) (fun _ => .inr ()) (fun _ i x hx=>by
   have hi:=Jl hx
   have hw:w64 ((i:Int)+1)=((i+1:Nat):Int):=Qk hi (by omega)
   unfold JR
   rw[if_pos (by omega),if_pos ⟨by omega,by omega⟩,qQ8,hx,qQ5,if_pos (by omega),hw,qju set i hs (by omega)]
   cases(set.testBit i==(x==(leaf:Int)))<;>simp) (fun _=>by
   unfold JR
   rw[if_neg (by omega)]) ()
 unfold q0U
 change Option.bind (zw _ ((0:Nat):Int)) _=_
 rw[h1,qQ5]
 have:∀(d:List Int) (k:Nat),(Sum.elim (fun(_:Unit)=>some false) (fun(_:Unit)=>some true) (q4G (ε:=Unit⊕Unit) (fun i (_:Unit) (x:Int)=>if(set.testBit i==(x==(leaf:Int)))=true then .inl () else .inr (.inl ())) (fun _ => .inr ()) d k ()))=some (alG leaf set d k):=by
  intro d
  induction d with
  | nil=>intro k;rfl
  | cons x d ih=>
   intro k
   unfold q4G alG
   cases h:(set.testBit k==(x==(leaf:Int)))
   ·simp
   ·simp only[if_true,qQC];exact ih (k+1)
 exact this d 0
theorem qpe (d:List Int) (hd:d.length≤16) (a b:Nat):q27 (a:Int) (b:Int) d=some (foF d a b):=by
 have h1:=q2r (ε:=Int⊕Unit) (step:=Q9 (a:Int) (b:Int) d (d.length:Int)) d (fun(_:Unit) i=>(i:Int)) (fun i _ x=>if(decide ((a:Int)≤x)&&decide (x<(b:Int)))=true then .inr (.inl (i:Int)) else .inl ()) (fun _ => .inr ()) (fun _ i x hx=>by
   have hi:=Jl hx
   have hw:w64 ((i:Int)+1)=((i+1:Nat):Int):=Qk hi (by omega)
   unfold Q9 q09
   rw[if_pos (by omega),if_pos ⟨by omega,by omega⟩,qQ8,hx,qQ5,hw]
   by_cases h2:(a:Int)≤x
   ·by_cases h3:x<(b:Int)<;>simp[h2,h3]
   ·simp[h2]) (fun _=>by
   unfold Q9
   rw[if_neg (by omega)]) ()
 unfold q27 Z7 ZA
 change Option.bind (Option.bind (Option.bind (zw _ ((0:Nat):Int)) _) _) _=_
 rw[h1,qQ5]
 have:∀(d:List Int) (k:Nat),((Sum.elim (fun(a2:Int)=>some a2) (fun(_:Unit)=>some (-(1:Int))) (q4G (ε:=Int⊕Unit) (fun i (_:Unit) (x:Int)=>if(decide ((a:Int)≤x)&&decide (x<(b:Int)))=true then .inr (.inl (i:Int)) else .inl ()) (fun _ => .inr ()) d k ())).bind fun a=>some (decide ((0:Int)≤a)))=some (foF d a b):=by
  intro d
  induction d with
  | nil=>intro k;rfl
  | cons x d ih=>
   intro k
   unfold q4G foF
   rw[List.any_cons]
   cases h:(decide ((a:Int)≤x)&&decide (x<(b:Int)))
   ·simp only[Bool.false_eq_true,if_false,Bool.false_or];exact ih (k+1)
   ·simp
 have h2:=this d 0
 rw[qQa] at h2
 obtain⟨i,h3,h4⟩:=h2
 rw[h3,qQ5,h4,qQ5]
end
noncomputable section
open Go.RowKit
mutual
def hgN:qb→Nat
 | ⟨_,_,_,_,L⟩=>1+hgL L
def hgL:List qb→Nat
 | []=>0
 | x::L=>max (hgN x) (hgL L)
end
mutual
def dpN (d:Int):qb→Int→Int
 | ⟨_,_,_,_,L⟩,m=>dpL (d+1) L (max m d)
def dpL (d:Int):List qb→Int→Int
 | [],m=>m
 | x::L,m=>dpL d L (dpN d x m)
end
theorem qeF (n:qb):hgN n=1+hgL n.L:=by cases n;rw[hgN]
theorem qtV (d:Int) (n:qb) (m:Int):dpN d n m=dpL (d+1) n.L (max m d):=by cases n;rw[dpN]
theorem q80 (k:Nat) (h:k≤100000):k≤maxLen∧k*72≤140737488355328:=⟨by unfold maxLen;omega,by omega⟩
def qus (y:qb):Prop:=∀(deep:Int) (w:List qb) (b2:Int) (b3:Bool),1≤deep→deep+hgN y≤101→w.length+(ndN y).length≤10000→JM (y,deep,w,b2,b3)=some (.inr (w++ndN y,dpN deep y b2,b3))
theorem ql6 (rF:(qb×Int×List qb×Int×Bool)→Option (Int⊕(List qb×Int×Bool))) (deep:Int) (hd:1≤deep) (L:List qb) (hL:L.length≤10000)
  (step:List qb×Int×Bool×Int→Option ((List qb×Int×Bool×Int)⊕(Int⊕(List qb×Int×Bool))))
  (hst:∀w b2 b3 (i:Nat),step (w,b2,b3,(i:Int))=if(i:Int)<(L.length:Int) then if(0:Int)≤i∧(i:Int)<(L.length:Int) then Option.bind L[Int.toNat i]? fun a2=>Option.bind (rF (a2,w64 (deep+1),w,b2,b3)) fun a3=>Sum.elim (fun a4=>some (Sum.inr (Sum.inl a4))) (fun a5=>some (Sum.inl (a5.1,a5.2.1,a5.2.2,w64 ((i:Int)+1)))) a3 else none else some (.inr (.inr (w,b2,b3))))
  (hP:∀y∈L,∀(w:List qb) (b2:Int) (b3:Bool),deep+1+hgN y≤101→w.length+(ndN y).length≤10000→rF (y,deep+1,w,b2,b3)=some (.inr (w++ndN y,dpN (deep+1) y b2,b3))) :
  ∀(r:List qb) (i:Nat) (w:List qb) (b2:Int) (b3:Bool),r.length+i=L.length→(∀j,r[j]?=L[i+j]?)→deep+1+hgL r≤101→w.length+(ndL r).length≤10000→
  zw step (w,b2,b3,(i:Int))=some (.inr (w++ndL r,dpL (deep+1) r b2,b3)):=by
 intro r
 induction r with
 | nil=>
  intro i w b2 b3 hi _ _ _
  have hi:i=L.length:=by simpa using hi
  subst hi
  refine zu ?_
  rw[hst,if_neg (by omega),ndL,dpL,qQq]
 | cons y r ih=>
  intro i w b2 b3 hi hr hh hw
  rw[hgL] at hh
  rw[ndL,qQc] at hw
  simp only[qQg] at hi
  have hget:L[i]?=some y:=by have:=hr 0;simpa using this.symm
  have hlt:=Jl hget
  have hcall:=hP y (qQ6 hget) w b2 b3 (by omega) (by omega)
  have hstep:step (w,b2,b3,(i:Int))=some (.inl (w++ndN y,dpN (deep+1) y b2,b3,((i+1:Nat):Int))):=by
   rw[hst,if_pos (by omega),if_pos ⟨by omega,by omega⟩,qQ8,hget,qQ5,Z9 (by omega) (by omega),hcall,qQ5,Qk hlt (by omega)]
   rfl
  rw[zV hstep,ih (i+1) _ _ _ (by omega) (fun j=>by rw[show i+1+j=i+(j+1) by omega,←hr (j+1)];rfl) (by omega) (by rw[qQc];omega),ndL,dpL,qQL]
theorem qdv (L:List qb):L.length≤(ndL L).length:=by
 induction L with
 | nil=>simp
 | cons x L ih=>rw[ndL,qQc,qQg,q0i,qQg];omega
theorem qyX:∀(m:Nat) (y:qb),(ndN y).length≤m→qus y:=by
 intro m
 induction m with
 | zero=>intro y h;rw[q0i] at h;simp at h
 | succ m ih=>
  intro y h deep w b2 b3 hd hh hw
  rw[q0i,qQg] at h hw
  rw[qeF] at hh
  have hsub:∀(L:List qb),(ndL L).length≤m→∀z∈L,qus z:=by
   intro L
   induction L with
   | nil=>intro _ z hz;simp at hz
   | cons x L ihl=>
    intro g z hz
    rw[ndL,qQc] at g
    rcases qQr.1 hz with rfl|hz
    ·exact ih _ (by omega)
    ·exact ihl (by omega) z hz
  have hP:=hsub y.L (by omega)
  have hl:=qdv y.L
  rw[qbX,q18]
  unfold q2h
  have hne:(((w.length:Nat):Int)==(10000:Int))=false:=by simp;omega
  rw[if_neg (by omega),if_neg (by rw[hne];simp),if_pos ⟨(q80 _ (by omega)).1,(q80 _ (by omega)).2⟩,qQ5,Sum.elim_inr]
  have h1:=ql6 JM deep hd y.L (by omega) (q1b JM deep y.L (y.L.length:Int)) (fun w b2 b3 i=>by rfl) (fun z hz w b2 b3 g1 g2=>hP z hz (deep+1) w b2 b3 (by omega) g1 g2) y.L 0 (w++[y]) (max b2 deep) b3 (by simp) (by simp) (by omega) (by rw[qQc,qQn];omega)
  rw[show((0:Nat):Int)=0 from rfl] at h1
  dsimp only
  have h2:(⟨y.Kind,y.N,y.Min,y.Set,y.L⟩:qb)=y:=by cases y;rfl
  rw[h2,h1,qQ5,Sum.elim_inr,q0i,qtV,qQL]
  rfl
theorem qpP (n:qb) (hh:hgN n≤100) (hn:(ndN n).length≤9999):q2W n=some (ndN n,dpN 1 n 0,true):=by
 rw[qeF] at hh
 rw[q0i,qQg] at hn
 have hl:=qdv n.L
 unfold q2W q3l q68 q3g
 rw[if_neg (by omega),if_pos (by unfold maxLen;omega),qQ5,Sum.elim_inr]
 have h1:=ql6 JM 1 (by omega) n.L (by omega) (q3k 1 n.L (n.L.length:Int)) (fun w b2 b3 i=>by rfl) (fun z hz w b2 b3 g1 g2=>qyX _ z (qQl _) (1+1) w b2 b3 (by omega) g1 g2) n.L 0 [n] (max 0 1) false (by simp) (by simp) (by omega) (by simp only[qQn];omega)
 rw[show((0:Nat):Int)=0 from rfl] at h1
 dsimp only
 have h2:(⟨n.Kind,n.N,n.Min,n.Set,n.L⟩:qb)=n:=by cases n;rfl
 rw[h2,h1,qQ5,Sum.elim_inr,qQ5,Sum.elim_inr,qQ5,Sum.elim_inr,q0i,qtV]
 rfl
def q0r (n:qb):Bool:=n.Kind != 3&&n.Kind != 4
theorem qt3 (n:qb):q1F n=q0r n:=by
 unfold q1F q0r
 cases h:(n.Kind != 3)<;>simp
theorem qqm (l:List qc) (h:l.length≤1000000):Q7 l=some ():=by
 unfold Q7
 rw[if_pos ⟨by unfold maxLen;omega,by omega⟩]
theorem qpY:∀(m:Nat) (n:qb),(ndN n).length≤m→(ndN n).length≤100000→(∀y∈ndN n,y.Set.length≤1000000)→JL n=some n:=by
 intro m
 induction m with
 | zero=>intro n h;rw[q0i] at h;simp at h
 | succ m ih=>
  intro n h1 h2 h3
  have hset:=h3 n (by rw[q0i];exact qQk)
  have hsub:∀(L:List qb),(ndL L).length≤m→(ndL L).length≤100000→(∀y∈ndL L,y.Set.length≤1000000)→∀y∈L,JL y=some y:=by
   intro L
   induction L with
   | nil=>intro _ _ _ y hy;simp at hy
   | cons x L ihl=>
    intro g1 g2 g3 y hy
    rw[ndL,qQc] at g1 g2
    rw[ndL] at g3
    rcases qQr.1 hy with rfl|hy
    ·exact ih _ (by omega) (by omega) fun z hz=>g3 z (qQh _ hz)
    ·exact ihl (by omega) (by omega) (fun z hz=>g3 z (qQe _ hz)) y hy
  have e0:ndN n=n::ndL n.L:=q0i n
  have hlen:(ndN n).length=(ndL n.L).length+1:=by rw[e0];rfl
  have hP:=hsub n.L (by omega) (by omega) fun y hy=>h3 y (by rw[e0];exact qQd _ hy)
  have hl:=qdv n.L
  have hn:(⟨n.Kind,n.N,n.Min,n.Set,n.L⟩:qb)=n:=by cases n;rfl
  rw[qcf,q1c,qqm _ hset,qQ5]
  unfold QW
  rw[if_pos ⟨by unfold maxLen;omega,by omega⟩]
  rw[qQ5]
  have hL:∀i0:Nat,zw (q06 JL n.Kind n.N n.Min n.Set 0 0 0 (n.L.length:Int)) (n.L,((0:Nat):Int))=some n.L:=fun _=>by
   refine q2z (fun i=>(n.L,(i:Int))) 0 n.L.length (qQv _) (fun i _ hi=>?_) ?_
   ·obtain⟨y,hy⟩:∃y,n.L[i]?=some y:=⟨_,qQ7 hi⟩
    unfold q06
    simp only
    rw[if_pos (by omega),if_pos ⟨by omega,by omega⟩,qQ8,hy,qQ5,hP y (qQ6 hy),qQ5,if_pos ⟨by omega,by omega⟩,if_pos (by omega),Qk hi (by omega)]
    have:n.L.set i y=n.L:=by
     obtain⟨h1,h2⟩:=qQ9.1 hy
     rw[←h2,List.set_getElem_self]
    rw[this]
   ·unfold q06
    simp only
    rw[if_neg (by omega)]
  have:=hL 0
  rw[show((0:Nat):Int)=0 from rfl] at this
  rw[this,qQ5,hn]
theorem qcO (n:qb) (hh:hgN n≤100) (hn:(ndN n).length≤9999) (hs:∀y∈ndN n,y.Set.length≤1000000):q1K n=some ((ndN n).filter q0r):=by
 have hsub:∀(m:Nat) (n y:qb),(ndN n).length≤m→y∈ndN n→(ndN y).length≤(ndN n).length∧∀z∈ndN y,z∈ndN n:=by
  intro m
  induction m with
  | zero=>intro n y h;rw[q0i] at h;simp at h
  | succ m ih=>
   intro n y h hy
   rw[q0i] at hy
   rcases qQr.1 hy with rfl|hy
   ·exact⟨qQl _,fun z hz=>hz⟩
   ·have hL:∀(L:List qb),(ndL L).length≤m→y∈ndL L→(ndN y).length≤(ndL L).length∧∀z∈ndN y,z∈ndL L:=by
     intro L
     induction L with
     | nil=>intro _ h;simp[ndL] at h
     | cons x L ihl=>
      intro g gy
      rw[ndL,qQc] at g
      rw[ndL] at gy ⊢
      rw[qQc]
      rcases qQz.1 gy with gy|gy
      ·obtain⟨a,b⟩:=ih x y (by omega) gy
       exact⟨by omega,fun z hz=>qQh _ (b z hz)⟩
      ·obtain⟨a,b⟩:=ihl (by omega) gy
       exact⟨by omega,fun z hz=>qQe _ (b z hz)⟩
    have e0:=q0i n
    have:(ndN n).length=(ndL n.L).length+1:=by rw[e0];rfl
    obtain⟨a,b⟩:=hL n.L (by omega) hy
    exact⟨by omega,fun z hz=>by rw[e0];exact qQd _ (b z hz)⟩
 have hc:∀y∈ndN n,q0r y=true→JL y=some y:=fun y hy _=>by
  obtain⟨a,b⟩:=hsub _ n y (qQl _) hy
  exact qpY _ y (qQl _) (by omega) fun z hz=>hs z (b z hz)
 clear hsub hs
 unfold q1K
 rw[qpP n hh hn,qQ5]
 simp only
 generalize ndN n=l at hn hc
 have key:∀(r:List qb) (i:Nat) (b:List qb),r.length+i=l.length→(∀j,r[j]?=l[i+j]?)→b.length≤i→zw (ZR l (l.length:Int)) (b,(i:Int))=some (b++r.filter q0r):=by
  intro r
  induction r with
  | nil=>
   intro i b hi _ _
   have hi:i=l.length:=by simpa using hi
   subst hi
   refine zu ?_
   unfold ZR
   simp
  | cons y r ih=>
   intro i b hi hr hb
   simp only[qQg] at hi
   have hget:l[i]?=some y:=by have:=hr 0;simpa using this.symm
   have hlt:=Jl hget
   have hstep:ZR l (l.length:Int) (b,(i:Int))=some (.inl (if q0r y=true then b++[y] else b,((i+1:Nat):Int))):=by
    unfold ZR
    simp only
    rw[if_pos (by omega),if_pos ⟨by omega,by omega⟩,qQ8,hget,qQ5,qt3,Qk hlt (by omega)]
    cases h:q0r y
    ·simp
    ·rw[hc y (qQ6 hget) h,qQ5,if_pos rfl,if_pos ⟨(q80 _ (by omega)).1,(q80 _ (by omega)).2⟩]
     simp
   have hb2:(if q0r y=true then b++[y] else b).length≤i+1:=by
    split
    ·rw[qQc,qQn];omega
    ·omega
   rw[zV hstep,ih (i+1) _ (by omega) (fun j=>by rw[show i+1+j=i+(j+1) by omega,←hr (j+1)];rfl) hb2,List.filter_cons]
   cases q0r y<;>simp
 have:=key l 0 [] (by simp) (by simp) (by simp)
 change Option.bind (zw _ ([],((0:Nat):Int))) _=_
 rw[this,qQ5,qQp]
end
noncomputable section
open Go.RowKit
def qbJ (b:UInt8):Bool:=(48≤b.toNat&&b.toNat≤57)||(65≤b.toNat&&b.toNat≤90)
theorem qse (s:ByteArray) (i:Nat) (h:(s.get! i).toNat<128):Utf8.decode s i=((s.get! i).toNat,1):=by
 unfold Utf8.decode
 simp only[Nat.add_zero]
 rw[if_pos h]
theorem qwq (s:ByteArray) (i:Nat) (h:¬ (s.get! i).toNat<128):128≤(Utf8.decode s i).1:=by
 unfold Utf8.decode
 simp only[Nat.add_zero]
 rw[if_neg h]
 have hr:128≤Utf8.runeError:=by decide
 split
 ·split
  ·assumption
  ·exact hr
 ·split
  ·split
   ·rename_i h;simp only[ge_iff_le,qQB,qR5] at h;omega
   ·exact hr
  ·split
   ·split
    ·rename_i h;simp only[ge_iff_le,qQB,qR5] at h;omega
    ·exact hr
   ·exact hr
theorem qey (b:UInt8) (h:b.toNat<128):Zv (b.toNat:Int) = !qbJ b:=by
 unfold Zv qbJ
 by_cases h1:b.toNat<65
 ·rw[if_pos (by omega)]
  by_cases h2:b.toNat<48
  ·rw[if_pos (by omega)]
   have e1:decide (48≤b.toNat)=false:=decide_eq_false (by omega)
   have e2:decide (65≤b.toNat)=false:=decide_eq_false (by omega)
   simp[e1,e2]
  ·rw[if_neg (by omega)]
   have e1:decide (48≤b.toNat)=true:=qR6 (by omega)
   have e2:decide (65≤b.toNat)=false:=decide_eq_false (by omega)
   by_cases h3:b.toNat≤57
   ·have e3:decide (b.toNat≤57)=true:=qR6 h3
    have e4:decide ((57:Int)<b.toNat)=false:=decide_eq_false (by omega)
    simp[e1,e2,e3,e4]
   ·have e3:decide (b.toNat≤57)=false:=decide_eq_false h3
    have e4:decide ((57:Int)<b.toNat)=true:=qR6 (by omega)
    simp[e1,e2,e3,e4]
 ·rw[if_neg (by omega)]
  have e0:decide (b.toNat≤57)=false:=decide_eq_false (by omega)
  have e1:decide (65≤b.toNat)=true:=qR6 (by omega)
  by_cases h2:90<b.toNat
  ·rw[if_pos (by omega),if_neg (by omega)]
   have e3:decide (b.toNat≤90)=false:=decide_eq_false (by omega)
   have e4:decide ((57:Int)<b.toNat)=true:=qR6 (by omega)
   simp[e0,e1,e3,e4]
  ·rw[if_neg (by omega)]
   have e3:decide (b.toNat≤90)=true:=qR6 (by omega)
   simp[e0,e1,e3]
theorem qnq (n:Nat) (h:128≤n):Zv (n:Int)=true:=by
 unfold Zv
 rw[if_neg (by omega),if_pos (by omega),if_neg (by omega)]
 exact qR6 (by omega)
theorem qrL (s:ByteArray) (i:Nat) (h:i<s.size):s.get! i=s.data.toList.getD i 0:=by
 obtain⟨⟨l⟩⟩:=s
 have h':i<l.length:=h
 show(Array.mk l)[i]! = l.getD i 0
 simp[h',List.getD]
theorem qhW (s:ByteArray):∀(r:List UInt8) (p:Nat),r.length+p=s.size→(∀j,r[j]?=s.data.toList[p+j]?)→∃e,zw (Qv s true) p=some e∧((∃i:Int,e = .inl i∧0≤i∧r.all qbJ=false)∨(e = .inr ()∧r.all qbJ=true)):=by
 intro r
 induction r with
 | nil=>
  intro p hp _
  have hp:p=s.size:=by simpa using hp
  subst hp
  refine⟨.inr (),zu ?_,.inr ⟨rfl,rfl⟩⟩
  unfold Qv
  rw[if_neg (by omega)]
 | cons b r ih=>
  intro p hp hr
  simp only[qQg] at hp
  have hb:s.data.toList[p]?=some b:=by have:=hr 0;simpa using this.symm
  have hg:s.get! p=b:=by rw[qrL s p (by omega),List.getD,hb];rfl
  by_cases h:b.toNat<128
  ·have hd:=qse s p (by rw[hg];exact h)
   rw[hg] at hd
   cases ho:qbJ b
   ·refine⟨.inl (p:Int),zu ?_,.inl ⟨_,rfl,by omega,by simp[ho]⟩⟩
    unfold Qv
    rw[if_pos (by omega),hd,qey b h,ho]
    rfl
   ·obtain⟨e,h1,h2⟩:=ih (p+1) (by omega) (fun j=>by rw[show p+1+j=p+(j+1) by omega,←hr (j+1)];rfl)
    refine⟨e,?_,by rw[List.all_cons,ho,qQC];exact h2⟩
    rw[zV (y:=p+1) (by
     unfold Qv
     rw[if_pos (by omega),hd,qey b h,ho]
     rfl)]
    exact h1
  ·have hbig:=qwq s p (by rw[hg];exact h)
   have hbad:qbJ b=false:=by
    unfold qbJ
    have e1:decide (b.toNat≤57)=false:=decide_eq_false (by omega)
    have e2:decide (b.toNat≤90)=false:=decide_eq_false (by omega)
    simp[e1,e2]
   refine⟨.inl (p:Int),zu ?_,.inl ⟨_,rfl,by omega,by simp[hbad]⟩⟩
   unfold Qv
   rw[if_pos (by omega),qnq _ hbig]
   rfl
def qrj (s:ByteArray):Bool:=decide (s.size≠0)&&decide (s.size≤8)&&s.data.toList.all qbJ
theorem qmn (s:ByteArray):(s.toList==ByteArray.toList (ByteArray.mk (List.toArray [])))=decide (s.size=0):=by
 rw[ByteArray.toList_eq,ByteArray.toList_eq]
 obtain⟨⟨l⟩⟩:=s
 show(l==[])=decide (l.length=0)
 cases l<;>simp
theorem qxp (s:ByteArray):q2A s=some (qrj s):=by
 unfold q2A qrj
 rw[qmn]
 by_cases h0:s.size=0
 ·simp[h0]
 ·have e0:decide (s.size=0)=false:=decide_eq_false h0
  have e1:decide (s.size≠0)=true:=qR6 h0
  rw[e0,e1,if_pos (by rfl)]
  by_cases h8:s.size≤8
  ·have e2:decide (s.size≤8)=true:=qR6 h8
   obtain⟨e,h1,h2⟩:=qhW s s.data.toList 0 (by simp) (by simp)
   rw[if_pos (by omega),e2]
   unfold q0G q0A
   rw[h1,qQ5]
   rcases h2 with ⟨i,rfl,hi,ha⟩|⟨rfl,ha⟩
   ·rw[Sum.elim_inl,qQ5,qQ5,ha]
    have:decide (i<0)=false:=decide_eq_false (by omega)
    rw[this];rfl
   ·rw[Sum.elim_inr,qQ5,qQ5,ha]
    rfl
  ·have e2:decide (s.size≤8)=false:=decide_eq_false h8
   rw[if_neg (by omega),e2]
   rfl
def inF (n a b:Int):Bool:=decide (a≤n)&&decide (n≤b)
theorem q3H (n a b:Int):zB n a b=inF n a b:=by
 unfold zB inF
 by_cases h:a≤n<;>simp[h]
def q1q (c:qc):Bool:=inF c.School 1 8&&qrj c.Code
theorem qfN (c:qc):q1y c=some (q1q c):=by
 unfold q1y q1q
 rw[q3H,qxp]
 cases inF c.School 1 8<;>simp
def qg1 (x y:Int):Int:=if x<y then -1 else if y<x then 1 else 0
def qG3 (x y:ByteArray):Int:=if Op.bytesLess x.toList y.toList=true then -1 else if x.toList==y.toList then 0 else 1
def qyv (a b:qc):Int:=if a.School≠b.School then qg1 a.School b.School else qG3 a.Code b.Code
theorem qC9 (x y:Int):q1t [x,y]=some (if x≠0 then x else y):=by
 unfold q1t
 by_cases hx:x=0
 ·by_cases hy:y=0
  ·rw[zV (y:=1) (by unfold ZF;simp[hx];rfl),zV (y:=2) (by unfold ZF;simp[hx,hy];rfl),zu (e := .inr ()) (by unfold ZF;simp)]
   simp[hx,hy]
  ·rw[zV (y:=1) (by unfold ZF;simp[hx];rfl),zu (e := .inl y) (by unfold ZF;simp[hx,hy])]
   simp[hx,hy]
 ·rw[zu (e := .inl x) (by unfold ZF;simp[hx])]
  simp[hx]
theorem qbi (a b:qc):q0W a b=some (qyv a b):=by
 unfold q0W
 rw[qC9,qQ5]
 congr 1
 have e1:Qb a.School b.School=qg1 a.School b.School:=by
  unfold Qb Ql qg1
  simp
 have e2:Zg a.Code b.Code=qG3 a.Code b.Code:=by
  unfold Zg qG3
  cases h1:Op.bytesLess a.Code.toList b.Code.toList
  ·cases h2:(a.Code.toList==b.Code.toList)<;>simp
  ·simp
 rw[e1,e2]
 unfold qyv
 by_cases h:a.School=b.School
 ·have:qg1 a.School b.School=0:=by unfold qg1;rw[if_neg (by omega),if_neg (by omega)]
  simp[h,this]
  intro h2;exact absurd (by unfold qg1;simp) h2
 ·have:qg1 a.School b.School≠0:=by unfold qg1;split<;>(try split)<;>omega
  simp[h,this]
def qhJ:List qc→Bool
 | x::y::l=>decide (qyv x y<0)&&qhJ (y::l)
 | _=>true
def q3e (n:qb):Int:=
 if inF n.Min (-1000) 1000=false then 3 else if inF n.Set.length 1 12=false then 2 else if n.Set.all q1q=false then 1 else if qhJ n.Set=true then 0 else 7
theorem qeo (l:List qc) (hl:l.length≤1000000):zK l=some (!l.all q1q):=by
 have h1:=q2r (ε:=Int⊕Unit) (step:=zp l (l.length:Int)) l (fun(b:Unit) i=>(i:Int)) (fun i b a=>if(!q1q a)=true then .inr (.inl (i:Int)) else .inl ()) (fun _ => .inr ()) (fun b i a ha=>by
   have hi:=Jl ha
   have hw:w64 ((i:Int)+1)=((i+1:Nat):Int):=Qk hi (by omega)
   unfold zp q2g
   rw[if_pos (by omega),if_pos ⟨by omega,by omega⟩,qQ8,ha,qQ5,hw,qfN,qQ5,qQ5]
   cases q1q a<;>simp) (fun b=>by
   unfold zp
   rw[if_neg (by omega)]) ()
 have h2:=qdB (fun a => !q1q a) l 0
 unfold zK Qi
 rw[show((0:Nat):Int)=0 from rfl] at h1
 rw[h1,qQ5]
 have e:l.any (fun a => !q1q a) = !l.all q1q:=by
  clear h1 h2 hl
  induction l with
  | nil=>rfl
  | cons a l ih=>rw[List.any_cons,List.all_cons,ih];cases q1q a<;>simp
 rw[←e,←h2]
 cases(q4G (ε:=Int⊕Unit) (fun i (_:Unit) (a:qc)=>if(!q1q a)=true then .inr (.inl (i:Int)) else .inl ()) (fun _ => .inr ()) l 0 ())<;>rfl
theorem qlD (n:qb) (hl:n.Set.length≤1000000):∀(r:List qc) (i:Nat),r.length+i=n.Set.length→(∀j,r[j]?=n.Set[i+j]?)→zw (Zw n n.Set (n.Set.length:Int)) (i:Int)=some (if(match i,n.Set[i-1]? with|_+1,some x=>qhJ (x::r)|_,_=>qhJ r)=true then .inr () else .inl ()):=by
 intro r
 induction r with
 | nil=>
  intro i hi _
  have hi:i=n.Set.length:=by simpa using hi
  subst hi
  refine zu ?_
  unfold Zw
  rw[if_neg (by omega)]
  split<;>simp[qhJ]
 | cons a r ih=>
  intro i hi hr
  simp only[qQg] at hi
  have hget:n.Set[i]?=some a:=by have:=hr 0;simpa using this.symm
  have hlt:=Jl hget
  have hnext:=ih (i+1) (by omega) (fun j=>by rw[show i+1+j=i+(j+1) by omega,←hr (j+1)];rfl)
  simp only[Nat.add_sub_cancel,hget] at hnext
  cases i with
  | zero=>
   rw[zV (y:=((0+1:Nat):Int)) (by
    unfold Zw
    rw[if_pos (by omega),if_pos ⟨by omega,by omega⟩,qQ8,hget,qQ5,if_neg (by omega),Qk hlt (by omega)])]
   exact hnext
  | succ i=>
   obtain⟨x,hx⟩:∃x,n.Set[i]?=some x:=⟨_,qQ7 (by omega)⟩
   simp only[Nat.add_sub_cancel,hx]
   have hw:w64 (((i+1:Nat):Int)-1)=(i:Int):=by rw[Z9 (by omega) (by omega)];omega
   by_cases hc:qyv x a<0
   ·rw[zV (y:=((i+1+1:Nat):Int)) (by
     unfold Zw
     rw[if_pos (by omega),if_pos ⟨by omega,by omega⟩,qQ8,hget,qQ5,if_pos (by omega),hw,if_pos ⟨by omega,by omega⟩,qQ8,hx,qQ5,qbi,qQ5,if_neg (by omega),Qk hlt (by omega)]),hnext]
    simp[qhJ,hc]
   ·rw[zu (e := .inl ()) (by
     unfold Zw
     rw[if_pos (by omega),if_pos ⟨by omega,by omega⟩,qQ8,hget,qQ5,if_pos (by omega),hw,if_pos ⟨by omega,by omega⟩,qQ8,hx,qQ5,qbi,qQ5,if_pos (by omega)])]
    simp[qhJ,hc]
theorem qf6 (n:qb) (hl:n.Set.length≤1000000):q0V n=some (q3e n):=by
 unfold q0V q3e
 rw[q3H,q3H,qeo _ hl,qQ5]
 have h:=qlD n hl n.Set 0 (by simp) (by simp)
 simp only at h
 rw[show((0:Nat):Int)=0 from rfl] at h
 rw[h,qQ5]
 cases inF n.Min (-1000) 1000
 ·simp
 ·cases inF n.Set.length 1 12
  ·simp
  ·cases n.Set.all q1q
   ·simp
   ·cases qhJ n.Set<;>simp
def q8W (n:qb):Bool:=n.Min==0&&n.Set.isEmpty && !n.L.isEmpty
def q6R (n:qb):Int:=
 if n.Kind=1 then(if n.N≠0∨n.L≠[] then 13 else q3e n)
 else if n.Kind=2 then(if n.L≠[] then 13 else if inF n.N 1 600=false then 3 else q3e n)
 else if n.Kind=3 then(if q8W n=false∨n.N≠0 then 13 else 0)
 else if n.Kind=4 then(if q8W n=false then 13 else if inF n.N 1 n.L.length=false then 3 else 0)
 else 13
theorem qn0 (n:qb):Zr n=q8W n:=by
 unfold Zr q8W
 cases n.Min==0
 ·simp
 ·cases hS:n.Set<;>cases hL:n.L<;>simp
  all_goals omega
theorem qGW (n:qb) (hl:n.Set.length≤1000000):q29 n=some (if n.N≠0∨n.L≠[] then 13 else q3e n):=by
 unfold q29
 rw[qf6 n hl,qQ5]
 by_cases h:n.N=0
 ·cases hL:n.L with
  | nil=>simp[h]
  | cons x l=>rw[if_neg (by simp[h]),if_pos (by simp),if_pos (.inr (by simp))]
 ·simp[h]
theorem qHb (n:qb) (hl:n.Set.length≤1000000):q1Y n=some (if n.L≠[] then 13 else if inF n.N 1 600=false then 3 else q3e n):=by
 unfold q1Y
 rw[qf6 n hl,qQ5,q3H]
 cases hL:n.L with
 | nil=>
  cases hI:inF n.N 1 600<;>simp[hI]
 | cons x l=>rw[if_pos (by simp),if_pos (by simp)]
theorem qJz (n:qb):Jt n=if q8W n=false∨n.N≠0 then 13 else 0:=by
 unfold Jt
 rw[qn0]
 cases q8W n
 ·simp
 ·by_cases h:n.N=0<;>simp[h]
theorem qJh (n:qb):Ju n=if q8W n=false then 13 else if inF n.N 1 n.L.length=false then 3 else 0:=by
 unfold Ju
 rw[qn0,q3H]
 cases q8W n
 ·simp
 ·cases inF n.N 1 n.L.length<;>simp
def qua (l:List qb):Option Int:=l.findSome? fun y=>if q6R y≠0 then some (q6R y) else none
theorem qml (l:List qb) (hl:l.length≤1000000) (hs:∀y∈l,y.Set.length≤1000000):zw (JW l (l.length:Int)) 0=some (match qua l with|some e => .inl e|none => .inr ()):=by
 have h1:=qgP (ε:=Int⊕Unit) (step:=JW l (l.length:Int)) l (fun i=>(i:Int)) (fun y=>if q6R y≠0 then some (.inl (q6R y)) else none) (.inr ()) (fun i y hy=>by
   have hi:=Jl hy
   have hw:w64 ((i:Int)+1)=((i+1:Nat):Int):=Qk hi (by omega)
   have hset:=hs y (qQ6 hy)
   unfold JW
   rw[if_pos (by omega),if_pos ⟨by omega,by omega⟩,qQ8,hy,qQ5,hw,qGW y hset,qHb y hset,qJz,qJh,qQ5,qQ5]
   unfold q6R
   by_cases e1:y.Kind=1
   ·simp only[if_pos e1];generalize (if y.N≠0∨y.L≠[] then 13 else q3e y)=v;by_cases h:v=0<;>simp[h]
   ·by_cases e2:y.Kind=2
    ·simp only[if_neg e1,if_pos e2];generalize (if y.L≠[] then 13 else if inF y.N 1 600=false then 3 else q3e y)=v;by_cases h:v=0<;>simp[h]
    ·by_cases e3:y.Kind=3
     ·simp only[if_neg e1,if_neg e2,if_pos e3];generalize (if q8W y=false∨y.N≠0 then(13:Int) else 0)=v;by_cases h:v=0<;>simp[h]
     ·by_cases e4:y.Kind=4
      ·simp only[if_neg e1,if_neg e2,if_neg e3,if_pos e4];generalize (if q8W y=false then(13:Int) else if inF y.N 1 y.L.length=false then 3 else 0)=v;by_cases h:v=0<;>simp[h]
      ·simp[e1,e2,e3,e4]) (by
   unfold JW
   rw[if_neg (by omega)])
 rw[show((0:Nat):Int)=0 from rfl] at h1
 rw[h1]
 congr 1
 unfold qua
 clear h1 hl hs
 induction l with
 | nil=>rfl
 | cons y l ih=>
  rw[List.findSome?_cons,List.findSome?_cons]
  by_cases h:q6R y=0<;>simp only[h,ne_eq,not_true_eq_false,not_false_eq_true,if_true,if_false]
  ·exact ih
  ·rfl
def q6T (n:qb):Int:=
 if 24<(ndN n).length then 2 else if 5<dpN 1 n 0 then 2 else if inF ((ndN n).filter q0r).length 1 8=false then 2 else(qua (ndN n)).getD 0
theorem q7W (n:qb) (hh:hgN n≤100) (hn:(ndN n).length≤9999) (hs:∀y∈ndN n,y.Set.length≤1000000):JQ n=some (q6T n):=by
 unfold JQ q6T
 rw[qpP n hh hn,qQ5,qcO n hh hn hs]
 simp only[qQ5]
 rw[qml (ndN n) (by omega) hs,q3H,if_neg (by simp)]
 by_cases h1:24<(ndN n).length
 ·rw[if_pos (by omega),if_pos h1]
 ·rw[if_neg (by omega),if_neg h1]
  by_cases h2:5<dpN 1 n 0
  ·rw[if_pos h2,if_pos h2]
  ·rw[if_neg h2,if_neg h2]
   cases inF ((ndN n).filter q0r).length 1 8
   ·simp
   ·simp only[Bool.not_true,Bool.false_eq_true,if_false,qQ5]
    cases qua (ndN n)<;>rfl
end
noncomputable section
open Go.RowKit
section
variable {N:Nat} {best:Nat→Int} {M:Int}
theorem qqj (rF:(qb×List qa×Int×qg)→Option (List Bool×List qa×Int×qg)) (hN:N≤65536) (hM:M≤1000000) (hb:Bnd best N M) (w9:List Bool) (b0:List qa) (b3:Int) (b4:qg) (b8:qb) (own:Nat→Bool) (skip:Bool) (t72:List qb) (t73 t74:Int) :
  zw (Zy rF w9 (Zi N best) b0 b3 b4 b8 (Zi N own) skip t72 t73 t74 ((N:Nat):Int)) (List.replicate N 0,0)=some (Zi N (stF skip own best)):=by
 have h1:=q2z (step:=Zy rF w9 (Zi N best) b0 b3 b4 b8 (Zi N own) skip t72 t73 t74 ((N:Nat):Int)) (fun i=>(Zi N (fun k=>if k<i then stF skip own best k else 0),(i:Int))) 0 N (qQv _) (e:=Zi N (stF skip own best)) (fun i _ hi=>by
   have hbi:=hb i hi
   have hw:w64 ((i:Int)+1)=((i+1:Nat):Int):=Qk hi (by omega)
   have hg:∀v:Int,v=(if skip=true then best i else -1)→qbD (qbD (fun k=>if k<i then stF skip own best k else 0) i v) i (eaF own best i i i (qbD (fun k=>if k<i then stF skip own best k else 0) i v i))=fun k=>if k<i+1 then stF skip own best k else 0:=fun v hv=>by
    funext k
    rw[qcW,qa9]
    unfold qbD
    by_cases hk:k=i
    ·subst hk
     rw[if_pos rfl,if_pos (by omega)]
     unfold stF
     rw[←hv]
    ·rw[if_neg hk]
     show(if k<i then stF skip own best k else 0)=_
     by_cases h:k<i
     ·rw[if_pos h,if_pos (by omega)]
     ·rw[if_neg h,if_neg (by omega)]
   unfold Zy
   simp only
   rw[if_pos (by omega),zI,if_pos ⟨by omega,by omega⟩,qQ8,if_pos (by omega)]
   cases hs:skip
   ·simp only[Bool.false_eq_true,if_false]
    rw[JK]
    unfold Qh
    rw[qgl hN hM hb (own:=own) hi i i (qQl _) (qQl _),qQ5,qQ5,hw,←hs,hg (-1) (by rw[hs];rfl)]
   ·simp only[if_true]
    rw[zI,if_pos ⟨by omega,by omega⟩,Je best hi,qQ5,if_pos ⟨by omega,by omega⟩,if_pos (by omega),JK,JK,qa9]
    unfold Qh
    rw[qgl hN hM hb (own:=own) hi i i (qQl _) (qQl _),qQ5,qQ5,hw,←hs,hg (best i) (by rw[hs];rfl)]) (by
   unfold Zy
   simp only
   rw[if_neg (by omega)]
   congr 2
   exact q0X fun k hk=>if_pos hk)
 rw[q4V]
 have e:(fun k:Nat=>if k<0 then stF skip own best k else 0)=fun _=>0:=by funext k;rw[if_neg (by omega)]
 rw[e] at h1
 exact h1
theorem qxR (rF:(qb×List qa×Int×qg)→Option (List Bool×List qa×Int×qg)) (hN:N≤65536) (hN1:1≤N) (w9:List Bool) (b0:List qa) (b3:Int) (b4:qg) (b8:qb) :
  zw (Zu rF w9 b0 b3 b4 b8) (List.replicate N 0,1)=some (Zi N b0F):=by
 have h1:=q2z (step:=Zu rF w9 b0 b3 b4 b8) (fun i=>(Zi N (fun k=>if 1≤k∧k<i then -1 else 0),(i:Int))) 1 N hN1 (e:=Zi N b0F) (fun i h1 hi=>by
   have hw:w64 ((i:Int)+1)=((i+1:Nat):Int):=Qk hi (by omega)
   unfold Zu
   simp only
   rw[zI,if_pos (by omega),if_pos ⟨by omega,by omega⟩,qQ8,if_pos (by omega),hw,JK]
   rw[qms (fun _=>(-1:Int)) 0 h1]) (by
   unfold Zu
   simp only
   rw[zI,if_neg (by omega)]
   congr 2
   refine q0X fun k hk=>?_
   unfold b0F
   by_cases h:k=0
   ·rw[if_pos h,if_neg (by omega)]
   ·rw[if_neg h,if_pos (by omega)])
 rw[q4V]
 have e:(fun k:Nat=>if 1≤k∧k<1 then(-1:Int) else 0)=fun _=>0:=by funext k;rw[if_neg (by omega)]
 rw[e] at h1
 exact h1
theorem qoc (rF:(qb×List qa×Int×qg)→Option (List Bool×List qa×Int×qg)) (hN:N≤65536) (hN1:1≤N) (b0:List qa) (b3:Int) (b4:qg) (least:Int) :
  zw (Zx rF (Zi N best) b0 b3 b4 least) (List.replicate N false,1)=some (Zi N (fun k=>decide (k≠0)&&decide (least≤best k))):=by
 have h1:=q2z (step:=Zx rF (Zi N best) b0 b3 b4 least) (fun i=>(Zi N (fun k=>if 1≤k∧k<i then decide (least≤best k) else false),(i:Int))) 1 N hN1 (e:=Zi N (fun k=>decide (k≠0)&&decide (least≤best k))) (fun i h1 hi=>by
   have hw:w64 ((i:Int)+1)=((i+1:Nat):Int):=Qk hi (by omega)
   unfold Zx
   simp only
   rw[zI,zI,if_pos (by omega),if_pos ⟨by omega,by omega⟩,qQ8,Je best hi,qQ5,if_pos ⟨by omega,by omega⟩,if_pos (by omega),hw,JK]
   rw[qms (fun k=>decide (least≤best k)) false h1]) (by
   unfold Zx
   simp only
   rw[zI,if_neg (by omega)]
   congr 2
   refine q0X fun k hk=>?_
   by_cases h:k=0
   ·subst h;simp
   ·rw[if_pos ⟨by omega,hk⟩];simp[h])
 rw[q4V]
 have e:(fun k:Nat=>if 1≤k∧k<1 then decide (least≤best k) else false)=fun _=>false:=by funext k;rw[if_neg (by omega)]
 rw[e] at h1
 exact h1
theorem qjT (rF:(qb×List qa×Int×qg)→Option (List Bool×List qa×Int×qg)) (d:List Int) (hd:d=[]) (s:qg) (l:List qa) (hl:l.length≤16) (n:qb) (hn:n.Set.length≤1000000) (nx:Nat) (hnx:nx≤1000000) (step:List Bool×Int→Option ((List Bool×Int)⊕List Bool))
  (hst:step=(if n.Kind=1 then Js rF l (nx:Int) s n else Jr rF l (nx:Int) s n)) (hN:N≤65536) (hN1:1≤N) :
  zw step (List.replicate N false,1)=some (Zi N (q2o d s l n nx)):=by
 have h1:=q2z (step:=step) (fun i=>(Zi N (fun k=>if 1≤k∧k<i then q2o d s l n nx k else false),(i:Int))) 1 N hN1 (e:=Zi N (q2o d s l n nx)) (fun i h1 hi=>by
   have hw:w64 ((i:Int)+1)=((i+1:Nat):Int):=Qk hi (by omega)
   have hc:Zi N (qbD (fun k=>if 1≤k∧k<i then q2o d s l n nx k else false) i (q2o d s l n nx i))=Zi N (fun k=>if 1≤k∧k<i+1 then q2o d s l n nx k else false):=by
    rw[qms (q2o d s l n nx) false h1]
   have hz:decide (i≠0)=true:=qR6 (by omega)
   have hwg:=qkJ n (by omega) s l (by omega) i (by omega)
   have hal:alF d nx i=true:=by rw[hd];rfl
   have hv:q2o d s l n nx i=(alF d nx i&&qeK n (wgF n s i l 0 ld0)):=by unfold q2o;rw[hz];simp
   have m1:n.Kind=1→Q4 (wgF n s i l 0 ld0) n=qeK n (wgF n s i l 0 ld0):=fun hk=>by
    unfold Q4 qeK
    rw[if_pos hk]
    cases(wgF n s i l 0 ld0).fine<;>simp
   have m2:n.Kind≠1→Qw (wgF n s i l 0 ld0) n=qeK n (wgF n s i l 0 ld0):=fun hk=>by
    unfold Qw qeK
    rw[if_neg hk]
    cases(wgF n s i l 0 ld0).fine
    ·simp
    ·by_cases h:0<(wgF n s i l 0 ld0).many<;>simp[h]
   rw[hst]
   by_cases hk:n.Kind=1
   ·rw[if_pos hk]
    unfold Js
    simp only
    rw[zI,if_pos (by omega),hwg,qQ5]
    rw[if_pos ⟨by omega,by omega⟩,qQ8,if_pos (by omega),hw,m1 hk,JK,←hc,hv,hal,qQC]
   ·rw[if_neg hk]
    unfold Jr
    simp only
    rw[zI,if_pos (by omega),hwg,qQ5]
    rw[if_pos ⟨by omega,by omega⟩,qQ8,if_pos (by omega),hw,m2 hk,JK,←hc,hv,hal,qQC]) (by
   have hend:some (Sum.inr (α:=List Bool×Int) (Zi N (fun k=>if 1≤k∧k<N then q2o d s l n nx k else false)))=some (Sum.inr (Zi N (q2o d s l n nx))):=by
    congr 2
    refine q0X fun k hk=>?_
    by_cases h:k=0
    ·subst h;simp[q2o]
    ·rw[if_pos ⟨by omega,hk⟩]
   rw[hst]
   by_cases hk:n.Kind=1
   ·rw[if_pos hk]
    unfold Js
    simp only
    rw[zI,if_neg (by omega)]
    exact hend
   ·rw[if_neg hk]
    unfold Jr
    simp only
    rw[zI,if_neg (by omega)]
    exact hend)
 rw[q4V]
 have e:(fun k:Nat=>if 1≤k∧k<1 then q2o d s l n nx k else false)=fun _=>false:=by funext k;rw[if_neg (by omega)]
 rw[e] at h1
 exact h1
end
end
noncomputable section
open Go.RowKit
section
variable {N:Nat} {best:Nat→Int} {M:Int}
theorem qoY (rF:(qb×List Int×List qa×Int×qg)→Option (List Bool×List Int×List qa×Int×qg)) (hN:N≤65536) (hM:M≤1000000) (hb:Bnd best N M) (w7:List Int) (w9:List Bool) (b0:List qa) (b3:Int) (b4:qg) (b8:qb) (own:Nat→Bool) (skip:Bool) (t72:List qb) (t73 t74:Int) :
  zw (QD rF w7 w9 (Zi N best) b0 b3 b4 b8 (Zi N own) skip t72 t73 t74 ((N:Nat):Int)) (List.replicate N 0,0)=some (Zi N (stF skip own best)):=by
 have h1:=q2z (step:=QD rF w7 w9 (Zi N best) b0 b3 b4 b8 (Zi N own) skip t72 t73 t74 ((N:Nat):Int)) (fun i=>(Zi N (fun k=>if k<i then stF skip own best k else 0),(i:Int))) 0 N (qQv _) (e:=Zi N (stF skip own best)) (fun i _ hi=>by
   have hbi:=hb i hi
   have hw:w64 ((i:Int)+1)=((i+1:Nat):Int):=Qk hi (by omega)
   have hg:∀v:Int,v=(if skip=true then best i else -1)→qbD (qbD (fun k=>if k<i then stF skip own best k else 0) i v) i (eaF own best i i i (qbD (fun k=>if k<i then stF skip own best k else 0) i v i))=fun k=>if k<i+1 then stF skip own best k else 0:=fun v hv=>by
    funext k
    rw[qcW,qa9]
    unfold qbD
    by_cases hk:k=i
    ·subst hk
     rw[if_pos rfl,if_pos (by omega)]
     unfold stF
     rw[←hv]
    ·rw[if_neg hk]
     show(if k<i then stF skip own best k else 0)=_
     by_cases h:k<i
     ·rw[if_pos h,if_pos (by omega)]
     ·rw[if_neg h,if_neg (by omega)]
   unfold QD
   simp only
   rw[if_pos (by omega),zI,if_pos ⟨by omega,by omega⟩,qQ8,if_pos (by omega)]
   cases hs:skip
   ·simp only[Bool.false_eq_true,if_false]
    rw[JK]
    unfold Qh
    rw[qgl hN hM hb (own:=own) hi i i (qQl _) (qQl _),qQ5,qQ5,hw,←hs,hg (-1) (by rw[hs];rfl)]
   ·simp only[if_true]
    rw[zI,if_pos ⟨by omega,by omega⟩,Je best hi,qQ5,if_pos ⟨by omega,by omega⟩,if_pos (by omega),JK,JK,qa9]
    unfold Qh
    rw[qgl hN hM hb (own:=own) hi i i (qQl _) (qQl _),qQ5,qQ5,hw,←hs,hg (best i) (by rw[hs];rfl)]) (by
   unfold QD
   simp only
   rw[if_neg (by omega)]
   congr 2
   exact q0X fun k hk=>if_pos hk)
 rw[q4V]
 have e:(fun k:Nat=>if k<0 then stF skip own best k else 0)=fun _=>0:=by funext k;rw[if_neg (by omega)]
 rw[e] at h1
 exact h1
theorem qwU (rF:(qb×List Int×List qa×Int×qg)→Option (List Bool×List Int×List qa×Int×qg)) (hN:N≤65536) (hN1:1≤N) (w7:List Int) (w9:List Bool) (b0:List qa) (b3:Int) (b4:qg) (b8:qb) :
  zw (QZ rF w7 w9 b0 b3 b4 b8) (List.replicate N 0,1)=some (Zi N b0F):=by
 have h1:=q2z (step:=QZ rF w7 w9 b0 b3 b4 b8) (fun i=>(Zi N (fun k=>if 1≤k∧k<i then -1 else 0),(i:Int))) 1 N hN1 (e:=Zi N b0F) (fun i h1 hi=>by
   have hw:w64 ((i:Int)+1)=((i+1:Nat):Int):=Qk hi (by omega)
   unfold QZ
   simp only
   rw[zI,if_pos (by omega),if_pos ⟨by omega,by omega⟩,qQ8,if_pos (by omega),hw,JK]
   rw[qms (fun _=>(-1:Int)) 0 h1]) (by
   unfold QZ
   simp only
   rw[zI,if_neg (by omega)]
   congr 2
   refine q0X fun k hk=>?_
   unfold b0F
   by_cases h:k=0
   ·rw[if_pos h,if_neg (by omega)]
   ·rw[if_neg h,if_pos (by omega)])
 rw[q4V]
 have e:(fun k:Nat=>if 1≤k∧k<1 then(-1:Int) else 0)=fun _=>0:=by funext k;rw[if_neg (by omega)]
 rw[e] at h1
 exact h1
theorem qno (rF:(qb×List Int×List qa×Int×qg)→Option (List Bool×List Int×List qa×Int×qg)) (hN:N≤65536) (hN1:1≤N) (w7:List Int) (b0:List qa) (b3:Int) (b4:qg) (least:Int) :
  zw (Z1 rF w7 (Zi N best) b0 b3 b4 least) (List.replicate N false,1)=some (Zi N (fun k=>decide (k≠0)&&decide (least≤best k))):=by
 have h1:=q2z (step:=Z1 rF w7 (Zi N best) b0 b3 b4 least) (fun i=>(Zi N (fun k=>if 1≤k∧k<i then decide (least≤best k) else false),(i:Int))) 1 N hN1 (e:=Zi N (fun k=>decide (k≠0)&&decide (least≤best k))) (fun i h1 hi=>by
   have hw:w64 ((i:Int)+1)=((i+1:Nat):Int):=Qk hi (by omega)
   unfold Z1
   simp only
   rw[zI,zI,if_pos (by omega),if_pos ⟨by omega,by omega⟩,qQ8,Je best hi,qQ5,if_pos ⟨by omega,by omega⟩,if_pos (by omega),hw,JK]
   rw[qms (fun k=>decide (least≤best k)) false h1]) (by
   unfold Z1
   simp only
   rw[zI,if_neg (by omega)]
   congr 2
   refine q0X fun k hk=>?_
   by_cases h:k=0
   ·subst h;simp
   ·rw[if_pos ⟨by omega,hk⟩];simp[h])
 rw[q4V]
 have e:(fun k:Nat=>if 1≤k∧k<1 then decide (least≤best k) else false)=fun _=>false:=by funext k;rw[if_neg (by omega)]
 rw[e] at h1
 exact h1
theorem qk5 (rF:(qb×List Int×List qa×Int×qg)→Option (List Bool×List Int×List qa×Int×qg)) (d:List Int) (hd:d.length≤16) (s:qg) (l:List qa) (hl:l.length≤16) (n:qb) (hn:n.Set.length≤1000000) (nx:Nat) (hnx:nx≤1000000) (step:List Bool×Int→Option ((List Bool×Int)⊕List Bool))
  (hst:step=(if n.Kind=1 then ZM rF d l (nx:Int) s n else ZN rF d l (nx:Int) s n)) (hN:N≤65536) (hN1:1≤N) :
  zw step (List.replicate N false,1)=some (Zi N (q2o d s l n nx)):=by
 have h1:=q2z (step:=step) (fun i=>(Zi N (fun k=>if 1≤k∧k<i then q2o d s l n nx k else false),(i:Int))) 1 N hN1 (e:=Zi N (q2o d s l n nx)) (fun i h1 hi=>by
   have hw:w64 ((i:Int)+1)=((i+1:Nat):Int):=Qk hi (by omega)
   have hc:Zi N (qbD (fun k=>if 1≤k∧k<i then q2o d s l n nx k else false) i (q2o d s l n nx i))=Zi N (fun k=>if 1≤k∧k<i+1 then q2o d s l n nx k else false):=by
    rw[qms (q2o d s l n nx) false h1]
   have hz:decide (i≠0)=true:=qR6 (by omega)
   have hwg:=qkJ n (by omega) s l (by omega) i (by omega)
   have hal:=qlN d hd nx i (by omega)
   have hv:q2o d s l n nx i=(alF d nx i&&qeK n (wgF n s i l 0 ld0)):=by unfold q2o;rw[hz];simp
   have m1:n.Kind=1→Q4 (wgF n s i l 0 ld0) n=qeK n (wgF n s i l 0 ld0):=fun hk=>by
    unfold Q4 qeK
    rw[if_pos hk]
    cases(wgF n s i l 0 ld0).fine<;>simp
   have m2:n.Kind≠1→Qw (wgF n s i l 0 ld0) n=qeK n (wgF n s i l 0 ld0):=fun hk=>by
    unfold Qw qeK
    rw[if_neg hk]
    cases(wgF n s i l 0 ld0).fine
    ·simp
    ·by_cases h:0<(wgF n s i l 0 ld0).many<;>simp[h]
   rw[hst]
   by_cases hk:n.Kind=1
   ·rw[if_pos hk]
    unfold ZM
    simp only
    rw[zI,if_pos (by omega),hal,qQ5]
    cases ha:alF d nx i
    ·rw[if_neg (by simp),if_pos ⟨by omega,by omega⟩,qQ8,if_pos (by omega),hw,JK,←hc,hv,ha,qR8]
    ·rw[if_pos rfl,hwg,qQ5,if_pos ⟨by omega,by omega⟩,qQ8,if_pos (by omega),hw,m1 hk,JK,←hc,hv,ha,qQC]
   ·rw[if_neg hk]
    unfold ZN
    simp only
    rw[zI,if_pos (by omega),hal,qQ5]
    cases ha:alF d nx i
    ·rw[if_neg (by simp),if_pos ⟨by omega,by omega⟩,qQ8,if_pos (by omega),hw,JK,←hc,hv,ha,qR8]
    ·rw[if_pos rfl,hwg,qQ5,if_pos ⟨by omega,by omega⟩,qQ8,if_pos (by omega),hw,m2 hk,JK,←hc,hv,ha,qQC]) (by
   have hend:some (Sum.inr (α:=List Bool×Int) (Zi N (fun k=>if 1≤k∧k<N then q2o d s l n nx k else false)))=some (Sum.inr (Zi N (q2o d s l n nx))):=by
    congr 2
    refine q0X fun k hk=>?_
    by_cases h:k=0
    ·subst h;simp[q2o]
    ·rw[if_pos ⟨by omega,hk⟩]
   rw[hst]
   by_cases hk:n.Kind=1
   ·rw[if_pos hk]
    unfold ZM
    simp only
    rw[zI,if_neg (by omega)]
    exact hend
   ·rw[if_neg hk]
    unfold ZN
    simp only
    rw[zI,if_neg (by omega)]
    exact hend)
 rw[q4V]
 have e:(fun k:Nat=>if 1≤k∧k<1 then q2o d s l n nx k else false)=fun _=>false:=by funext k;rw[if_neg (by omega)]
 rw[e] at h1
 exact h1
end
end
noncomputable section
open Go.RowKit
theorem qeO (N:Nat) (d:List Int) (s:qg) (l:List qa) (n:qb) (nx:Nat):Zi N (QQ d s l n nx)=if n.Kind=1∨n.Kind=2 then Zi N (q2o d s l n nx) else Zi N (fun k=>decide (k≠0)&&decide ((if n.Kind=3 then(n.L.length:Int) else n.N)≤qbY d s l (n.Kind==4) n.L nx b0F k)):=by
 have:QQ d s l n nx=fun k=>QQ d s l n nx k:=rfl
 by_cases h:n.Kind=1∨n.Kind=2
 ·rw[if_pos h];refine q0X fun k _=>?_;rw[qdR,if_pos h]
 ·rw[if_neg h];refine q0X fun k _=>?_;rw[qdR,if_neg h]
theorem qp7 (d:List Int) (hd:d=[]) (s:qg) (l:List qa) (hl:l.length≤16) (n:qb) (hLn:n.L.length≤1000000)
  (hP:∀y∈n.L,∀nx:Nat,nx+(ndN y).length≤100000→Qn (y,l,(nx:Int),s)=some (Zi (2 ^ l.length) (QQ d s l y nx),l,((nx+lvN y:Nat):Int),s)) (w9:List Bool) :
  ∀(r:List qb) (i nx:Nat) (best:Nat→Int) (M:Int),r.length+i=n.L.length→(∀j,r[j]?=n.L[i+j]?)→nx+(ndL r).length≤100000→Bnd best (2 ^ l.length) M→0≤M→M+r.length≤100000→
  zw (Zz Qn w9 n n.L (n.L.length:Int)) (Zi (2 ^ l.length) best,l,(nx:Int),s,(i:Int))=some ((Zi (2 ^ l.length) (qbY d s l (n.Kind==4) r nx best),l,((nx+lvL r:Nat):Int),s)):=by
 intro r
 induction r with
 | nil=>
  intro i nx best M hi _ _ _ _ _
  have hi:i=n.L.length:=by simpa using hi
  subst hi
  refine zu ?_
  unfold Zz
  simp only
  rw[if_neg (by omega),lvL,Nat.add_zero]
  rfl
 | cons y r ih=>
  intro i nx best M hi hr hnx hb hM0 hM
  rw[ndL,qQc] at hnx
  have hlv:=qmi y
  simp only[qQg,Int.natCast_add,Int.natCast_one] at hM hi
  have hget:n.L[i]?=some y:=by have:=hr 0;simpa using this.symm
  have hlt:i<n.L.length:=Jl hget
  have hN:2 ^ l.length≤65536:=qQG (Nat.pow_le_pow_right (by decide) hl) (by decide)
  have hN1:1≤2 ^ l.length:=Nat.one_le_two_pow
  have hcall:=hP y (qQ6 hget) nx (by omega)
  have hw:w64 ((i:Int)+1)=((i+1:Nat):Int):=Qk hlt (by omega)
  have hstep:Zz Qn w9 n n.L (n.L.length:Int) (Zi (2 ^ l.length) best,l,(nx:Int),s,(i:Int))=some (.inl (Zi (2 ^ l.length) (stF (n.Kind==4 && !foF d nx (nx+lvN y)) (QQ d s l y nx) best),l,((nx+lvN y:Nat):Int),s,((i+1:Nat):Int))):=by
   unfold Zz
   simp only
   rw[if_pos (by omega),if_pos ⟨by omega,by omega⟩,qQ8,hget,qQ5,hcall,qQ5]
   simp only[zI]
   have hfo:foF d nx (nx+lvN y)=false:=by rw[hd];rfl
   cases hk4:(n.Kind==4)
   ·rw[if_neg (by simp),if_pos ⟨by omega,by omega,by omega⟩,qqj (M:=M) Qn hN (by omega) hb,qQ5,hw,qR8]
   ·rw[if_pos rfl,if_pos ⟨by omega,by omega,by omega⟩,qqj (M:=M) Qn hN (by omega) hb,qQ5,hw,hfo]
    rfl
  rw[zV hstep,ih (i+1) _ _ (M+1) (by omega) (fun j=>by rw[show i+1+j=i+(j+1) by omega,←hr (j+1)];rfl) (by omega) (qnT hb (by omega)) (by omega) (by omega)]
  rw[lvL,←qQZ]
  rfl
theorem qp8 (d:List Int) (hd:d=[]) (s:qg) (l:List qa) (hl:l.length≤16):∀(m:Nat) (n:qb),(ndN n).length≤m→(ndN n).length≤10000→(∀y∈ndN n,y.Set.length≤1000000)→∀nx:Nat,nx+(ndN n).length≤100000→Qn (n,l,(nx:Int),s)=some (Zi (2 ^ l.length) (QQ d s l n nx),l,((nx+lvN n:Nat):Int),s):=by
 intro m
 induction m with
 | zero=>intro n h;rw[q0i] at h;simp at h
 | succ m ih=>
  intro n h1 h2 h3 nx hnx
  have hN:2 ^ l.length≤65536:=qQG (Nat.pow_le_pow_right (by decide) hl) (by decide)
  have hN1:1≤2 ^ l.length:=Nat.one_le_two_pow
  have hlv:=qmi n
  have hset:=h3 n (by rw[q0i];exact qQk)
  have hsub:∀(L:List qb),(ndL L).length≤m→(ndL L).length≤10000→(∀y∈ndL L,y.Set.length≤1000000)→∀y∈L,∀nx:Nat,nx+(ndN y).length≤100000→Qn (y,l,(nx:Int),s)=some (Zi (2 ^ l.length) (QQ d s l y nx),l,((nx+lvN y:Nat):Int),s):=by
   intro L
   induction L with
   | nil=>intro _ _ _ y hy;simp at hy
   | cons x L ihl=>
    intro g1 g2 g3 y hy
    rw[ndL,qQc] at g1 g2
    rw[ndL] at g3
    rcases qQr.1 hy with rfl|hy
    ·exact ih _ (by omega) (by omega) fun z hz=>g3 z (qQh _ hz)
    ·exact ihl (by omega) (by omega) (fun z hz=>g3 z (qQe _ hz)) y hy
  have e0:ndN n=n::ndL n.L:=q0i n
  have hlen:(ndN n).length=(ndL n.L).length+1:=by rw[e0];rfl
  have hP:=hsub n.L (by omega) (by omega) fun y hy=>h3 y (by rw[e0];exact qQd _ hy)
  have hLlen:∀L:List qb,L.length≤(ndL L).length:=fun L=>by
   induction L with
   | nil=>simp
   | cons x L ihL=>rw[ndL,qQc,qQg,q0i,qQg];omega
  have hLl:=hLlen n.L
  have hpow:w64 ((1:Int)*(2:Int) ^ min l.length (IntKind.bits IntKind.i64))=((2 ^ l.length:Nat):Int):=by
   rw[show min l.length (IntKind.bits IntKind.i64)=l.length from Nat.min_eq_left (by show l.length≤64;omega),Int.one_mul,show((2:Int) ^ l.length)=((2 ^ l.length:Nat):Int) by simp]
   exact Z9 (by omega) (by omega)
  rw[qbZ,q17]
  rw[hpow,if_pos (by omega),if_pos ⟨by omega,by omega,by omega⟩,qQ8,qcA,qeO]
  by_cases hlf:n.Kind=1∨n.Kind=2
  ·have e1:qaf n=true:=by unfold qaf;rcases hlf with h|h<;>simp[h]
   have e2:lvN n=1:=by rw[qdi,if_pos hlf]
   have hw2:w64 ((nx:Int)+1)=((nx+1:Nat):Int):=by rw[Z9 (by omega) (by omega)];omega
   rw[if_pos e1,if_pos hlf,e2]
   unfold q1l
   by_cases hk:n.Kind=1
   ·have hlt:=qjT Qn d hd s l hl n hset nx (by omega) _ (if_pos hk).symm hN hN1
    rw[if_pos (by simpa using hk),qQ5,Sum.elim_inl,hlt,qQ5,hw2]
   ·have hlt:=qjT Qn d hd s l hl n hset nx (by omega) _ (if_neg hk).symm hN hN1
    rw[if_neg (by simpa using hk),qQ5,Sum.elim_inr,hlt,qQ5,hw2]
  ·have e1:qaf n=false:=by unfold qaf;have h1:n.Kind≠1:=fun h=>hlf (.inl h);have h2:n.Kind≠2:=fun h=>hlf (.inr h);simp[h1,h2]
   have e2:lvN n=lvL n.L:=by rw[qdi,if_neg hlf]
   have hb0:Bnd b0F (2 ^ l.length) 0:=fun k _=>by unfold b0F;split<;>omega
   have hch:=qp7 d hd s l hl n (by omega) hP (List.replicate (2 ^ l.length) false) n.L 0 nx b0F 0 (by simp) (by simp) (by omega) hb0 (by omega) (by omega)
   rw[e1,if_neg (by simp),if_neg hlf,e2,if_pos ⟨by omega,by omega,by omega⟩]
   rw[qxR Qn hN hN1,qQ5]
   change Option.bind (zw _ (Zi (2 ^ l.length) b0F,l,(nx:Int),s,((0:Nat):Int))) _=_
   rw[hch,qQ5]
   simp only
   by_cases hk:n.Kind=3
   ·rw[if_pos (by simpa using hk),qoc Qn hN hN1,qQ5]
    simp only[if_pos hk]
   ·rw[if_neg (by simpa using hk),qoc Qn hN hN1,qQ5]
    simp only[if_neg hk]
theorem qmU (d:List Int) (hd:d.length≤16) (s:qg) (l:List qa) (hl:l.length≤16) (n:qb) (hLn:n.L.length≤1000000)
  (hP:∀y∈n.L,∀nx:Nat,nx+(ndN y).length≤100000→zL (y,d,l,(nx:Int),s)=some (Zi (2 ^ l.length) (QQ d s l y nx),d,l,((nx+lvN y:Nat):Int),s)) (w9:List Bool) :
  ∀(r:List qb) (i nx:Nat) (best:Nat→Int) (M:Int),r.length+i=n.L.length→(∀j,r[j]?=n.L[i+j]?)→nx+(ndL r).length≤100000→Bnd best (2 ^ l.length) M→0≤M→M+r.length≤100000→
  zw (QX zL w9 n n.L (n.L.length:Int)) (d,Zi (2 ^ l.length) best,l,(nx:Int),s,(i:Int))=some ((d,Zi (2 ^ l.length) (qbY d s l (n.Kind==4) r nx best),l,((nx+lvL r:Nat):Int),s)):=by
 intro r
 induction r with
 | nil=>
  intro i nx best M hi _ _ _ _ _
  have hi:i=n.L.length:=by simpa using hi
  subst hi
  refine zu ?_
  unfold QX
  simp only
  rw[if_neg (by omega),lvL,Nat.add_zero]
  rfl
 | cons y r ih=>
  intro i nx best M hi hr hnx hb hM0 hM
  rw[ndL,qQc] at hnx
  have hlv:=qmi y
  simp only[qQg,Int.natCast_add,Int.natCast_one] at hM hi
  have hget:n.L[i]?=some y:=by have:=hr 0;simpa using this.symm
  have hlt:i<n.L.length:=Jl hget
  have hN:2 ^ l.length≤65536:=qQG (Nat.pow_le_pow_right (by decide) hl) (by decide)
  have hN1:1≤2 ^ l.length:=Nat.one_le_two_pow
  have hcall:=hP y (qQ6 hget) nx (by omega)
  have hw:w64 ((i:Int)+1)=((i+1:Nat):Int):=Qk hlt (by omega)
  have hstep:QX zL w9 n n.L (n.L.length:Int) (d,Zi (2 ^ l.length) best,l,(nx:Int),s,(i:Int))=some (.inl (d,Zi (2 ^ l.length) (stF (n.Kind==4 && !foF d nx (nx+lvN y)) (QQ d s l y nx) best),l,((nx+lvN y:Nat):Int),s,((i+1:Nat):Int))):=by
   unfold QX
   simp only
   rw[if_pos (by omega),if_pos ⟨by omega,by omega⟩,qQ8,hget,qQ5,hcall,qQ5]
   simp only[zI]
   cases hk4:(n.Kind==4)
   ·rw[if_neg (by simp),if_pos ⟨by omega,by omega,by omega⟩,qoY (M:=M) zL hN (by omega) hb,qQ5,hw,qR8]
   ·rw[if_pos rfl,qpe d hd nx (nx+lvN y),qQ5,if_pos ⟨by omega,by omega,by omega⟩,qoY (M:=M) zL hN (by omega) hb,qQ5,hw,qQC]
  rw[zV hstep,ih (i+1) _ _ (M+1) (by omega) (fun j=>by rw[show i+1+j=i+(j+1) by omega,←hr (j+1)];rfl) (by omega) (qnT hb (by omega)) (by omega) (by omega)]
  rw[lvL,←qQZ]
  rfl
theorem qnA (d:List Int) (hd:d.length≤16) (s:qg) (l:List qa) (hl:l.length≤16):∀(m:Nat) (n:qb),(ndN n).length≤m→(ndN n).length≤10000→(∀y∈ndN n,y.Set.length≤1000000)→∀nx:Nat,nx+(ndN n).length≤100000→zL (n,d,l,(nx:Int),s)=some (Zi (2 ^ l.length) (QQ d s l n nx),d,l,((nx+lvN n:Nat):Int),s):=by
 intro m
 induction m with
 | zero=>intro n h;rw[q0i] at h;simp at h
 | succ m ih=>
  intro n h1 h2 h3 nx hnx
  have hN:2 ^ l.length≤65536:=qQG (Nat.pow_le_pow_right (by decide) hl) (by decide)
  have hN1:1≤2 ^ l.length:=Nat.one_le_two_pow
  have hlv:=qmi n
  have hset:=h3 n (by rw[q0i];exact qQk)
  have hsub:∀(L:List qb),(ndL L).length≤m→(ndL L).length≤10000→(∀y∈ndL L,y.Set.length≤1000000)→∀y∈L,∀nx:Nat,nx+(ndN y).length≤100000→zL (y,d,l,(nx:Int),s)=some (Zi (2 ^ l.length) (QQ d s l y nx),d,l,((nx+lvN y:Nat):Int),s):=by
   intro L
   induction L with
   | nil=>intro _ _ _ y hy;simp at hy
   | cons x L ihl=>
    intro g1 g2 g3 y hy
    rw[ndL,qQc] at g1 g2
    rw[ndL] at g3
    rcases qQr.1 hy with rfl|hy
    ·exact ih _ (by omega) (by omega) fun z hz=>g3 z (qQh _ hz)
    ·exact ihl (by omega) (by omega) (fun z hz=>g3 z (qQe _ hz)) y hy
  have e0:ndN n=n::ndL n.L:=q0i n
  have hlen:(ndN n).length=(ndL n.L).length+1:=by rw[e0];rfl
  have hP:=hsub n.L (by omega) (by omega) fun y hy=>h3 y (by rw[e0];exact qQd _ hy)
  have hLlen:∀L:List qb,L.length≤(ndL L).length:=fun L=>by
   induction L with
   | nil=>simp
   | cons x L ihL=>rw[ndL,qQc,qQg,q0i,qQg];omega
  have hLl:=hLlen n.L
  have hpow:w64 ((1:Int)*(2:Int) ^ min l.length (IntKind.bits IntKind.i64))=((2 ^ l.length:Nat):Int):=by
   rw[show min l.length (IntKind.bits IntKind.i64)=l.length from Nat.min_eq_left (by show l.length≤64;omega),Int.one_mul,show((2:Int) ^ l.length)=((2 ^ l.length:Nat):Int) by simp]
   exact Z9 (by omega) (by omega)
  rw[q9X,q0n]
  rw[hpow,if_pos (by omega),if_pos ⟨by omega,by omega,by omega⟩,qQ8,qcA,qeO]
  by_cases hlf:n.Kind=1∨n.Kind=2
  ·have e1:qaf n=true:=by unfold qaf;rcases hlf with h|h<;>simp[h]
   have e2:lvN n=1:=by rw[qdi,if_pos hlf]
   have hw2:w64 ((nx:Int)+1)=((nx+1:Nat):Int):=by rw[Z9 (by omega) (by omega)];omega
   rw[if_pos e1,if_pos hlf,e2]
   unfold q1l
   by_cases hk:n.Kind=1
   ·have hlt:=qk5 zL d hd s l hl n hset nx (by omega) _ (if_pos hk).symm hN hN1
    rw[if_pos (by simpa using hk),qQ5,Sum.elim_inl,hlt,qQ5,hw2]
   ·have hlt:=qk5 zL d hd s l hl n hset nx (by omega) _ (if_neg hk).symm hN hN1
    rw[if_neg (by simpa using hk),qQ5,Sum.elim_inr,hlt,qQ5,hw2]
  ·have e1:qaf n=false:=by unfold qaf;have h1:n.Kind≠1:=fun h=>hlf (.inl h);have h2:n.Kind≠2:=fun h=>hlf (.inr h);simp[h1,h2]
   have e2:lvN n=lvL n.L:=by rw[qdi,if_neg hlf]
   have hb0:Bnd b0F (2 ^ l.length) 0:=fun k _=>by unfold b0F;split<;>omega
   have hch:=qmU d hd s l hl n (by omega) hP (List.replicate (2 ^ l.length) false) n.L 0 nx b0F 0 (by simp) (by simp) (by omega) hb0 (by omega) (by omega)
   rw[e1,if_neg (by simp),if_neg hlf,e2,if_pos ⟨by omega,by omega,by omega⟩]
   rw[qwU zL hN hN1,qQ5]
   change Option.bind (zw _ (d,Zi (2 ^ l.length) b0F,l,(nx:Int),s,((0:Nat):Int))) _=_
   rw[hch,qQ5]
   simp only
   by_cases hk:n.Kind=3
   ·rw[if_pos (by simpa using hk),qno zL hN hN1,qQ5]
    simp only[if_pos hk]
   ·rw[if_neg (by simpa using hk),qno zL hN hN1,qQ5]
    simp only[if_neg hk]
end
noncomputable section
open Go.RowKit
structure q0M (d:qi):Prop where
 lo:0≤d.At
 hi:d.At≤d.L.length
 len:d.L.length≤9223372036854775807
theorem q2y {d:qi} (h:q0M d) {most:Int} (h0:0<most) (h1:most≤1000000):∃v d',qs most d=some (v,d')∧0≤v∧v<most∧q0M d':=by
 obtain⟨a,b,c⟩:=h
 unfold qs
 by_cases he:(d.L.length:Int)≤d.At
 ·exact⟨0,d,if_pos he,Int.le_refl _,h0,⟨a,b,c⟩⟩
 ·obtain⟨x,hx⟩:∃x,d.L[Int.toNat d.At]?=some x:=⟨_,qQ7 (by omega)⟩
  have e1:=Int.tmod_lt_of_pos x h0
  have e2 : -most<Int.tmod x most:=by
   have:=Int.tmod_lt_of_pos (-x) h0
   rw[Int.neg_tmod] at this;omega
  have e3:w64 (Int.tmod x most+most)=Int.tmod x most+most:=Z9 (by omega) (by omega)
  have e4:=Int.tmod_lt_of_pos (Int.tmod x most+most) h0
  have e5:0≤Int.tmod (Int.tmod x most+most) most:=Int.tmod_nonneg _ (by omega)
  have e6:w64 (d.At+1)=d.At+1:=Z9 (by omega) (by omega)
  refine⟨Int.tmod (Int.tmod x most+most) most,⟨d.L,d.At+1⟩,?_,e5,e4,⟨by show 0≤d.At+1;omega,by show d.At+1≤d.L.length;omega,c⟩⟩
  rw[if_neg he,if_pos ⟨a,by omega⟩,hx,qQ5,if_neg (by omega),if_neg (by omega),e3,e6]
def qao:List Int:=[1,1,1,2,2,3]
def q64 (c:qc):Prop:=c.School∈qao∧c.Code∈Q6
theorem qmz {α:Type} (l:List α) (i:Int) (h0:0≤i) (h1:i<l.length):∃x,l[Int.toNat i]?=some x∧x∈l:=⟨l[Int.toNat i],qQ7 (by omega),qQX _⟩
theorem qi8 {d:qi} (h:q0M d):∃c d',q0g d=some (c,d')∧q64 c∧q0M d':=by
 obtain⟨v,d1,e1,a1,b1,h1⟩:=q2y h (most:=6) (by omega) (by omega)
 obtain⟨w,d2,e2,a2,b2,h2⟩:=q2y h1 (most:=((Q6.length:Nat):Int)) (by unfold Q6;simp) (by unfold Q6;simp)
 obtain⟨x,hx,mx⟩:=qmz qao v a1 (by simpa [qao] using b1)
 obtain⟨y,hy,my⟩:=qmz Q6 w a2 b2
 refine⟨⟨x,y⟩,d2,?_,⟨mx,my⟩,h2⟩
 unfold q0g
 rw[e1,qQ5,if_pos ⟨a1,b1⟩]
 unfold qao at hx
 rw[hx,qQ5,e2,qQ5,if_pos ⟨a2,b2⟩,hy,qQ5]
theorem qba {c:qc} (h:q64 c):q1q c=true:=by
 obtain⟨s,k⟩:=c
 obtain⟨h1,h2⟩:=h
 have e1:∀s∈qao,inF s 1 8=true:=by decide
 have e2:∀k∈Q6,qrj k=true:=by unfold Q6;decide
 unfold q1q
 rw[e1 s h1,e2 k h2];rfl
theorem qtR:∀(x y:List UInt8),Op.bytesLess x y=true∨x=y∨Op.bytesLess y x=true
 | [],[] => .inr (.inl rfl)
 | [],_::_ => .inl rfl
 | _::_,[] => .inr (.inr rfl)
 | a::x,b::y=>by
  simp only[Op.bytesLess]
  by_cases h1:a<b
  ·simp[h1]
  ·by_cases h2:b<a
   ·simp[h1,h2]
   ·have:a=b:=by
     apply UInt8.toNat_inj.1
     have h1':¬ a.toNat<b.toNat:=h1
     have h2':¬ b.toNat<a.toNat:=h2
     omega
    subst this
    rcases qtR x y with h|h|h<;>simp[h]
def q4x (a b:qc):Bool:=Qo a b
theorem qkw (a b:qc):q4x a b=decide (qyv a b<0):=by
 unfold q4x Qo qyv qg1 qG3
 by_cases h1:a.School<b.School
 ·rw[if_pos h1,if_pos (by omega),if_pos h1];rfl
 ·rw[if_neg h1]
  by_cases h2:a.School=b.School
  ·rw[if_pos (by simpa using h2),if_neg (fun h=>h h2)]
   cases h3:Op.bytesLess a.Code.toList b.Code.toList
   ·cases h4:(a.Code.toList==b.Code.toList)<;>simp
   ·simp
  ·rw[if_neg (by simpa using h2),if_pos h2,if_neg h1,if_pos (by omega)];rfl
theorem qt5 (a b:qc):q4x a b=true∨ceq a b=true∨q4x b a=true:=by
 unfold q4x Qo ceq
 by_cases h1:a.School<b.School
 ·simp[h1]
 ·by_cases h2:b.School<a.School
  ·simp[h2]
  ·have h3:a.School=b.School:=by omega
   rcases qtR a.Code.toList b.Code.toList with h|h|h
   ·left;simp[h3,h]
   ·right;left;simp[h3,h]
   ·right;right;simp[h3,h]
def qjl {α:Type} (l:List α) (k:Nat) (c:α):List α:=l.take k++c::l.drop k
theorem qui {α:Type}:∀(ys l:List α) (k:Nat),k+ys.length≤l.length→spl l k ys=l.take k++(ys++l.drop (k+ys.length))
 | [],l,k,_=>by rw[spl,qQP,Nat.add_zero,qQp,qQU]
 | x::ys,l,k,h=>by
  simp only[qQg] at h ⊢
  rw[spl,qui ys (l.set k x) (k+1) (by rw[qQR];omega)]
  have e:l.set k x=l.take k++x::l.drop (k+1):=by rw[List.set_eq_take_append_cons_drop,if_pos (by omega)]
  have hl:(l.take k).length=k:=by rw[qQy];omega
  have e1:(l.set k x).take (k+1)=l.take k++[x]:=by
   rw[e,List.take_append,hl,qRd (by omega),show k+1-k=1 by omega];rfl
  have e2:(l.set k x).drop (k+1+ys.length)=l.drop (k+(ys.length+1)):=by
   rw[e,List.drop_append,hl,qQM (by omega),qQp,show k+1+ys.length-k=ys.length+1 by omega,List.drop_succ_cons,qQT]
   congr 1;omega
  rw[e1,e2,qQL]
  rfl
theorem qnD {α:Type} (l:List α) (z c:α) (k:Nat) (h:k<l.length):List.set (spl (l++[z]) (k+1) (List.take (min (l.length+1-k) (l.length+1-(k+1))) (List.take (l.length+1-k) (List.drop k (l++[z]))))) k c=qjl l k c:=by
 have e1:List.take (min (l.length+1-k) (l.length+1-(k+1))) (List.take (l.length+1-k) (List.drop k (l++[z])))=l.drop k:=by
  rw[List.take_take,List.drop_append_of_le_length (by omega),show min (min (l.length+1-k) (l.length+1-(k+1))) (l.length+1-k)=l.length-k by omega,List.take_append_of_le_length (by rw[qQS];omega),qRd (by rw[qQS];omega)]
 rw[e1,qui _ _ _ (by rw[qQS,qQc,qQn];omega)]
 unfold qjl
 have e2:List.drop (k+1+(l.length-k)) (l++[z])=[]:=qQM (by rw[qQc,qQn];omega)
 rw[qQS,e2,qQq,List.take_append_of_le_length (by omega)]
 rw[List.take_add_one,qQ7 h,Option.toList_some,qQL,List.set_append_right _ _ (by rw[qQy];omega),qQy,Nat.min_eq_left (by omega),Nat.sub_self]
 rfl
theorem ql7 {α:Type} (l:List α) (z c:α):List.set (l++[z]) l.length c=qjl l l.length c:=by
 unfold qjl
 rw[List.set_append_right _ _ (qQl _),Nat.sub_self,List.take_length,List.drop_length]
 rfl
end
noncomputable section
open Go.RowKit
structure qbe (l:List qc):Prop where
 ok:∀c∈l,q64 c
 ord:qhJ l=true
theorem q5m {x y:qc} {l:List qc}:qhJ (x::y::l)=(q4x x y&&qhJ (y::l)):=by rw[qhJ,qkw]
theorem qpZ {x:qc} {l:List qc} (h:qhJ (x::l)=true):qhJ l=true:=by
 cases l with
 | nil=>rfl
 | cons y l=>rw[q5m,qQB] at h;exact h.2
def atF (l:List qc) (c:qc):Nat:=(l.takeWhile fun x=>q4x x c).length
theorem qmE (l:List qc) (c:qc):atF l c≤l.length:=by
 unfold atF
 induction l with
 | nil=>simp
 | cons x l ih=>rw[List.takeWhile_cons];split<;>simp<;>omega
theorem qnY {c:qc}:∀{l:List qc},qhJ l=true→(∀x,l[atF l c]?=some x→ceq x c=false)→qhJ (qjl l (atF l c) c)=true
 | [],_,_=>rfl
 | x::l,h,hc=>by
  by_cases hx:q4x x c=true
  ·have e:atF (x::l) c=atF l c+1:=by unfold atF;rw[List.takeWhile_cons,if_pos hx];rfl
   rw[e] at hc ⊢
   have ih:=qnY (qpZ h) (fun y hy=>hc y (by simpa using hy))
   have e2:qjl (x::l) (atF l c+1) c=x::qjl l (atF l c) c:=rfl
   rw[e2]
   cases l with
   | nil=>rw[show qjl ([]:List qc) (atF [] c) c=[c] from rfl,q5m,hx];rfl
   | cons y l=>
    rw[q5m,qQB] at h
    by_cases hy:q4x y c=true
    ·have e3:atF (y::l) c=atF l c+1:=by unfold atF;rw[List.takeWhile_cons,if_pos hy];rfl
     rw[e3] at ih ⊢
     have e4:qjl (y::l) (atF l c+1) c=y::qjl l (atF l c) c:=rfl
     rw[e4] at ih ⊢
     rw[q5m,h.1,ih];rfl
    ·have e3:atF (y::l) c=0:=by unfold atF;rw[List.takeWhile_cons,if_neg hy];rfl
     rw[e3] at ih ⊢
     have e4:qjl (y::l) 0 c=c::y::l:=rfl
     rw[e4] at ih ⊢
     rw[q5m,hx,ih];rfl
  ·have e:atF (x::l) c=0:=by unfold atF;rw[List.takeWhile_cons,if_neg hx];rfl
   rw[e] at hc ⊢
   have e2:qjl (x::l) 0 c=c::x::l:=rfl
   rw[e2,q5m]
   have h1:=hc x (by simp)
   rcases qt5 x c with h2|h2|h2
   ·exact absurd h2 hx
   ·rw[h2] at h1;cases h1
   ·rw[h2,h];rfl
theorem qyx (out:List qc) (hl:out.length≤1000000) (d:qi) (c:qc) (many k:Int):zw (q0h out d c many k) 0=some ((atF out c:Nat):Int):=by
 have h1:=q2r (ε:=Int) (step:=q0h out d c many k) out (fun(_:Unit) i=>(i:Int)) (fun i _ x=>if q4x x c=true then .inl () else .inr (i:Int)) (fun _=>(out.length:Int)) (fun _ i x hx=>by
   have hi:=Jl hx
   unfold q0h
   rw[if_pos (by omega),if_pos ⟨by omega,by omega⟩,qQ8,hx,qQ5,Qk hi (by omega)]
   show(if q4x x c=true then _ else _)=_
   cases q4x x c<;>simp) (fun _=>by
   unfold q0h
   rw[if_neg (by omega)]) ()
 rw[show((0:Nat):Int)=0 from rfl] at h1
 rw[h1]
 congr 1
 have:∀(l:List qc) (i:Nat) (n:Nat),i+l.length=n→q4G (ε:=Int) (fun i (_:Unit) (x:qc)=>if q4x x c=true then .inl () else .inr (i:Int)) (fun _=>(n:Int)) l i ()=((i+atF l c:Nat):Int):=by
  intro l
  induction l with
  | nil=>intro i n h;simp at h;unfold q4G atF;simp[h]
  | cons x l ih=>
   intro i n h
   simp only[qQg] at h
   unfold q4G
   by_cases hx:q4x x c=true
   ·have e:atF (x::l) c=atF l c+1:=by unfold atF;rw[List.takeWhile_cons,if_pos hx];rfl
    simp only[hx,if_true]
    rw[ih (i+1) n (by omega),e]
    omega
   ·have e:atF (x::l) c=0:=by unfold atF;rw[List.takeWhile_cons,if_neg hx];rfl
    have hx':q4x x c=false:=by simpa using hx
    simp only[hx',Bool.false_eq_true,if_false]
    rw[e];rfl
 have:=this out 0 out.length (by simp)
 simpa using this
def qhM (l:List qc) (c:qc):List qc:=if(l[atF l c]?).any (fun x=>ceq x c)=true then l else qjl l (atF l c) c
theorem qiJ (l:List qc) (c:qc):l.length≤(qhM l c).length∧(qhM l c).length≤l.length+1∧1≤(qhM l c).length:=by
 have h:=qmE l c
 unfold qhM
 split
 ·rename_i h2
  refine⟨qQl _,by omega,?_⟩
  cases l with
  | nil=>simp at h2
  | cons x l=>simp
 ·unfold qjl
  simp only[qQc,qQg,qQy,qQS]
  omega
theorem qrd {l:List qc} {c:qc} (h:qbe l) (hc:q64 c):qbe (qhM l c):=by
 unfold qhM
 split
 ·exact h
 ·rename_i h2
  refine⟨fun x hx=>?_,qnY h.ord fun x hx=>?_⟩
  ·unfold qjl at hx
   rcases qQz.1 hx with hx|hx
   ·exact h.ok x (List.mem_of_mem_take hx)
   ·rcases qQr.1 hx with rfl|hx
    ·exact hc
    ·exact h.ok x (List.mem_of_mem_drop hx)
  ·rw[hx] at h2
   simpa using h2
theorem qmH (out:List qc) (hl:out.length≤1000) {d:qi} (hd:q0M d) (many:Int) (k:Nat) (hk:(k:Int)<many) (hk2:k≤1000):∃c d',q64 c∧q0M d'∧Jh many (out,d,(k:Int))=some (.inl (qhM out c,d',((k+1:Nat):Int))):=by
 obtain⟨c,d',h1,h2,h3⟩:=qi8 hd
 refine⟨c,d',h2,h3,?_⟩
 have hML:100000≤maxLen:=by unfold maxLen;omega
 have hat:=qmE out c
 unfold Jh
 simp only
 rw[if_pos hk,h1,qQ5]
 simp only
 rw[qyx out (by omega),qQ5]
 have hwk:w64 ((k:Int)+1)=((k+1:Nat):Int):=by rw[Z9 (by omega) (by omega)];omega
 have hwa:w64 (((atF out c:Nat):Int)+1)=((atF out c+1:Nat):Int):=by rw[Z9 (by omega) (by omega)];omega
 rw[hwk,hwa]
 simp only[qQ8,qQy,qQS,qQc,qQg,qQP]
 unfold qhM
 by_cases hlt:atF out c<out.length
 ·obtain⟨x,hx⟩:∃x,out[atF out c]?=some x:=⟨_,qQ7 hlt⟩
  rw[if_pos (by omega),if_pos ⟨by omega,by omega⟩,hx,qQ5]
  simp only[Option.any_some]
  by_cases hc:ceq x c=true
  ·have hc2:=hc
   unfold ceq at hc2
   simp only[qQB] at hc2
   rw[if_pos hc2,if_pos hc]
  ·have hc2:¬ ((x.School==c.School)=true∧(x.Code.toList==c.Code.toList)=true):=fun h=>hc (by unfold ceq;rw[h.1,h.2];rfl)
   rw[if_neg hc2,if_neg hc]
   repeat (first|rw[if_pos (by omega)]|rw[if_neg (by omega)])
   rw[qnD _ _ _ _ hlt]
 ·have he:atF out c=out.length:=by omega
  have hnone:out[out.length]?=none:=qQD (qQl _)
  rw[he,hnone]
  simp only[Option.any_none,Bool.false_eq_true,if_false]
  repeat (first|rw[if_pos (by omega)]|rw[if_neg (by omega)])
  rw[ql7]
theorem qKQ {d:qi} (hd:q0M d):∃S d',Jz d=some (S,d')∧q0M d'∧qbe S∧1≤S.length∧S.length≤3:=by
 obtain⟨v,d1,e1,a1,b1,h1⟩:=q2y hd (most:=3) (by omega) (by omega)
 obtain⟨m,rfl⟩:∃m:Nat,v=(m:Int):=⟨v.toNat,by omega⟩
 have hw:w64 (1+(m:Int))=((m+1:Nat):Int):=by rw[Z9 (by omega) (by omega)];omega
 have key:∀(j k:Nat) (out:List qc) (d:qi),j+k=m+1→q0M d→qbe out→out.length≤k→(1≤k→1≤out.length)→∃S d',zw (Jh ((m+1:Nat):Int)) (out,d,(k:Int))=some (S,d')∧q0M d'∧qbe S∧1≤S.length∧S.length≤m+1:=by
  intro j
  induction j with
  | zero=>
   intro k out d hk hd hs hl1 hl2
   refine⟨out,d,zu ?_,hd,hs,hl2 (by omega),by omega⟩
   unfold Jh
   simp only
   rw[if_neg (by omega)]
  | succ j ih=>
   intro k out d hk hd hs hl1 hl2
   obtain⟨c,d',g1,g2,g3⟩:=qmH out (by omega) hd ((m+1:Nat):Int) k (by omega) (by omega)
   obtain⟨p1,p2,p3⟩:=qiJ out c
   rw[zV g3]
   exact ih (k+1) _ d' (by omega) g2 (qrd hs g1) (by omega) (fun _=>p3)
 obtain⟨S,d',g1,g2,g3,g4,g5⟩:=key (m+1) 0 [] d1 (by omega) h1 ⟨by simp,rfl⟩ (by simp) (by omega)
 refine⟨S,d',?_,g2,g3,g4,by omega⟩
 unfold Jz
 rw[e1,qQ5,hw]
 rw[show((0:Nat):Int)=0 from rfl] at g1
 simp only
 rw[g1,qQ5]
end
noncomputable section
open Go.RowKit
structure qcB (n:qb):Prop where
 kd:(n.Kind=2∧1≤n.N∧n.N≤12)∨(n.Kind=1∧n.N=0)
 mn:0≤n.Min∧n.Min≤80
 st:qbe n.Set
 s1:1≤n.Set.length
 s3:n.Set.length≤3
 nl:n.L=[]
structure qgx (n:qb):Prop where
 kd:(n.Kind=3∧n.N=0)∨(n.Kind=4∧1≤n.N∧n.N≤n.L.length)
 mn:n.Min=0
 st:n.Set=[]
 ne:n.L≠[]
def q7T (n:qb):Prop:=qcB n∨qgx n
structure q6u (deep leaves:Nat) (n:qb):Prop where
 ok:∀y∈ndN n,q7T y
 hg:hgN n≤deep+1
 l1:1≤lvN n
 l2:lvN n≤max 1 leaves
 nd:(ndN n).length≤lvN n*(deep+1)
theorem qd2 {n:qb} (h:qcB n) (deep leaves:Nat):q6u deep leaves n:=by
 have e1:ndN n=[n]:=by rw[q0i,h.nl,ndL]
 have e2:lvN n=1:=by rw[qdi,if_pos];rcases h.kd with h|h<;>simp[h.1]
 have e3:hgN n=1:=by rw[qeF,h.nl,hgL]
 refine⟨fun y hy=>?_,by omega,by omega,by omega,?_⟩
 ·rw[e1] at hy
  rw[qQW.1 hy];exact .inl h
 ·rw[e1,e2,qQn];omega
def qmN (d:qi):Option (qb×qi):=Option.bind (qs (3:Int) d) fun a3=>if(a3.1==(0:Int))=Bool.true then Option.bind (qs (12:Int) a3.2) fun a4=>Option.bind (qs (3:Int) a4.2) fun a5=>if(0:Int)≤a5.1∧a5.1<(3:Int) then Option.bind [(0:Int),(50:Int),(60:Int)][Int.toNat a5.1]? fun a6=>Option.bind (Jz a5.2) fun a7=>some (qb.mk (2:Int) (w64 ((1:Int)+a4.1)) a6 a7.1 [],a7.2) else none else Option.bind (qs (4:Int) a3.2) fun a8=>if(0:Int)≤a8.1∧a8.1<(4:Int) then Option.bind [(0:Int),(50:Int),(60:Int),(80:Int)][Int.toNat a8.1]? fun a9=>Option.bind (Jz a8.2) fun a10=>some (qb.mk (1:Int) (0:Int) a9 a10.1 [],a10.2) else none
theorem qkf {d:qi} (hd:q0M d):∃n d',qmN d=some (n,d')∧qcB n∧q0M d':=by
 obtain⟨v,d1,e1,a1,b1,h1⟩:=q2y hd (most:=3) (by omega) (by omega)
 unfold qmN
 rw[e1,qQ5]
 simp only
 by_cases hv:v=0
 ·obtain⟨w,d2,e2,a2,b2,h2⟩:=q2y h1 (most:=12) (by omega) (by omega)
  obtain⟨u,d3,e3,a3,b3,h3⟩:=q2y h2 (most:=3) (by omega) (by omega)
  obtain⟨x,hx,mx⟩:=qmz [(0:Int),50,60] u a3 (by simpa using b3)
  obtain⟨S,d4,e4,h4,s1,s2,s3⟩:=qKQ h3
  have hw:w64 (1+w)=1+w:=Z9 (by omega) (by omega)
  have hm:∀x∈[(0:Int),50,60],0≤x∧x≤80:=by decide
  refine⟨⟨2,1+w,x,S,[]⟩,d4,?_,⟨.inl ⟨rfl,by show 1≤1+w;omega,by show 1+w≤12;omega⟩,hm x mx,s1,s2,s3,rfl⟩,h4⟩
  rw[if_pos (by simp[hv]),e2,qQ5]
  simp only
  rw[e3,qQ5]
  simp only
  rw[if_pos ⟨a3,b3⟩,hx,qQ5,e4,qQ5,hw]
 ·obtain⟨u,d3,e3,a3,b3,h3⟩:=q2y h1 (most:=4) (by omega) (by omega)
  obtain⟨x,hx,mx⟩:=qmz [(0:Int),50,60,80] u a3 (by simpa using b3)
  obtain⟨S,d4,e4,h4,s1,s2,s3⟩:=qKQ h3
  have hm:∀x∈[(0:Int),50,60,80],0≤x∧x≤80:=by decide
  refine⟨⟨1,0,x,S,[]⟩,d4,?_,⟨.inr ⟨rfl,rfl⟩,hm x mx,s1,s2,s3,rfl⟩,h4⟩
  rw[if_neg (by simpa using hv),e3,qQ5]
  simp only
  rw[if_pos ⟨a3,b3⟩,hx,qQ5,e4,qQ5]
theorem qbB (rF:(Int×Int×qi)→Option (qb×qi)) (x1 x2:Int) (v:qi):q1M rF (x1,x2,v)=(qs 6 v).bind fun a2=>
  if x1≤0 then qmN a2.2 else if x2<2 then qmN a2.2 else if a2.1<2 then qmN a2.2 else
  Option.bind (qs (min (3:Int) x2) a2.2) fun a27=>
  Option.bind (zw (Zl rF (0:Int) (0:Int) (0:Int) (3:Int) (0:Int) (0:Int) x1 x2 a2.1 (w64 ((1:Int)+a27.1))) ([],(a27.2,(0:Int)))) fun a28=>
  if(3:Int)<a2.1 then Option.bind (qs (w64 ((1:Int)+a27.1)) a28.2) fun a29=>
   some (qb.mk (4:Int) (w64 ((1:Int)+a29.1)) (0:Int) [] a28.1,a29.2)
  else some (qb.mk (3:Int) (0:Int) (0:Int) [] a28.1,a28.2):=rfl
theorem qoF {deep q:Nat} (hq:1≤q):∀(L:List qb),(∀y∈L,q6u deep q y)→hgL L≤deep+1∧L.length≤lvL L∧lvL L≤L.length*q∧(ndL L).length≤lvL L*(deep+1)∧∀y∈ndL L,q7T y
 | [],_=>⟨by simp[hgL],by simp[lvL],by simp[lvL],by simp[ndL],by simp[ndL]⟩
 | x::L,h=>by
  obtain⟨a,b,c,d,e⟩:=qoF hq L fun y hy=>h y (qQd _ hy)
  obtain⟨f,g,i,j,k⟩:=h x qQk
  rw[Nat.max_eq_right hq] at j
  refine⟨?_,?_,?_,?_,?_⟩
  ·rw[hgL];omega
  ·rw[lvL,qQg];omega
  ·rw[lvL,qQg,Nat.add_mul];omega
  ·rw[ndL,lvL,qQc,Nat.add_mul];omega
  ·rw[ndL]
   intro y hy
   rcases qQz.1 hy with hy|hy
   ·exact f y hy
   ·exact e y hy
theorem qeN {n:qb} (h:qgx n) {deep leaves q:Nat} (hq:1≤q) (hk:n.L.length*q≤leaves) (hL:∀y∈n.L,q6u deep q y):q6u (deep+1) leaves n:=by
 obtain⟨a,b,c,d,e⟩:=qoF hq n.L hL
 have hlen:1≤n.L.length:=by cases hn:n.L with|nil=>exact absurd hn h.ne|cons x l=>simp
 have e2:lvN n=lvL n.L:=by rw[qdi,if_neg];rcases h.kd with h|h<;>simp[h.1]
 refine⟨fun y hy=>?_,?_,by omega,by omega,?_⟩
 ·rw[q0i] at hy
  rcases qQr.1 hy with rfl|hy
  ·exact .inr h
  ·exact e y hy
 ·rw[qeF];omega
 ·rw[q0i,qQg,e2,show deep+1+1=(deep+1)+1 from rfl,Nat.mul_add];omega
theorem qoT:∀(deep leaves:Nat) (d:qi),deep≤10→leaves≤100→q0M d→∃n d',ZQ ((deep:Int),(leaves:Int),d)=some (n,d')∧q6u deep leaves n∧q0M d':=by
 intro deep
 induction deep with
 | zero=>
  intro leaves d _ _ hd
  obtain⟨v,d1,e1,a1,b1,h1⟩:=q2y hd (most:=6) (by omega) (by omega)
  obtain⟨n,d',g1,g2,g3⟩:=qkf h1
  refine⟨n,d',?_,qd2 g2 _ _,g3⟩
  rw[q7s,qbB,e1,qQ5,if_pos (by omega)]
  exact g1
 | succ deep ih=>
  intro leaves d hdp hlv hd
  obtain⟨v,d1,e1,a1,b1,h1⟩:=q2y hd (most:=6) (by omega) (by omega)
  obtain⟨n0,d0,g1,g2,g3⟩:=qkf h1
  rw[q7s,qbB,e1,qQ5,if_neg (by omega)]
  by_cases hl:leaves<2
  ·exact⟨n0,d0,by rw[if_pos (by omega)];exact g1,qd2 g2 _ _,g3⟩
  ·rw[if_neg (by omega)]
   by_cases hv:v<2
   ·exact⟨n0,d0,by rw[if_pos hv];exact g1,qd2 g2 _ _,g3⟩
   ·rw[if_neg hv]
    clear g1 g2 g3 n0 d0
    obtain⟨w,d2,e2,a2,b2,h2⟩:=q2y h1 (most:=min 3 (leaves:Int)) (by omega) (by omega)
    simp only
    rw[e2,qQ5]
    simp only
    obtain⟨m,hm⟩:∃m:Nat,(m:Int)=1+w:=⟨(1+w).toNat,by omega⟩
    have hw:w64 (1+w)=(m:Int):=by rw[Z9 (by omega) (by omega)];omega
    rw[hw]
    have hm1:1≤m:=by omega
    have hm3:m≤3:=by omega
    have hml:m≤leaves:=by omega
    obtain⟨q,hq⟩:∃q,q=leaves / m:=⟨_,rfl⟩
    have hq1:1≤q:=by rw[hq];exact(Nat.le_div_iff_mul_le (by omega)).2 (by omega)
    have hqm:m*q≤leaves:=by rw[hq];exact Nat.mul_div_le _ _
    have hq2:q≤leaves:=by rw[hq];exact Nat.div_le_self _ _
    have hML:100000≤maxLen:=by unfold maxLen;omega
    have hdiv:w64 (Int.tdiv (leaves:Int) (m:Int))=(q:Int):=by
     rw[←Int.ofNat_tdiv,←hq,Z9 (by omega) (by omega)]
    have hdeep:w64 (((deep+1:Nat):Int)-1)=(deep:Int):=by rw[Z9 (by omega) (by omega)];omega
    have key:∀(j i:Nat) (l:List qb) (d:qi),j+i=m→l.length=i→(∀y∈l,q6u deep q y)→q0M d→∃l' d',zw (Zl ZQ 0 0 0 3 0 0 ((deep+1:Nat):Int) (leaves:Int) v (m:Int)) (l,d,(i:Int))=some (l',d')∧l'.length=m∧(∀y∈l',q6u deep q y)∧q0M d':=by
     intro j
     induction j with
     | zero=>
      intro i l d hi hl hy hd
      refine⟨l,d,zu ?_,by omega,hy,hd⟩
      unfold Zl
      simp only
      rw[if_neg (by omega)]
     | succ j ihj=>
      intro i l d hi hl hy hd
      obtain⟨n,d',q1,q2,q3⟩:=ih q d (by omega) (by omega) hd
      have hs:Zl ZQ 0 0 0 3 0 0 ((deep+1:Nat):Int) (leaves:Int) v (m:Int) (l,d,(i:Int))=some (.inl (l++[n],d',((i+1:Nat):Int))):=by
       unfold Zl
       simp only
       rw[if_pos (by omega),if_neg (by omega),hdiv,hdeep,q1,qQ5]
       simp only
       rw[if_pos ⟨by omega,by omega⟩,Z9 (by omega) (by omega)]
       rfl
      rw[zV hs]
      refine ihj (i+1) (l++[n]) d' (by omega) (by simp[hl]) (fun y hy2=>?_) q3
      rcases qQz.1 hy2 with h|h
      ·exact hy y h
      ·rw[qQW.1 h];exact q2
    obtain⟨l,d3,q1,q2,q3,q4⟩:=key m 0 [] d2 (by omega) rfl (by simp) h2
    rw[show((0:Nat):Int)=0 from rfl] at q1
    rw[q1,qQ5]
    have hne:l≠[]:=fun h=>by rw[h] at q2;simp at q2;omega
    by_cases hv3:(3:Int)<v
    ·obtain⟨u,d4,e4,a4,b4,h4⟩:=q2y q4 (most:=(m:Int)) (by omega) (by omega)
     have hwu:w64 (1+u)=1+u:=Z9 (by omega) (by omega)
     simp only
     rw[if_pos hv3,e4,qQ5,hwu]
     exact⟨_,d4,rfl,qeN (q:=q) ⟨.inr ⟨rfl,by show 1≤1+u;omega,by show 1+u≤(l.length:Int);omega⟩,rfl,rfl,hne⟩ hq1 (by show l.length*q≤leaves;rw[q2];exact hqm) q3,h4⟩
    ·simp only
     rw[if_neg hv3]
     exact⟨_,d3,rfl,qeN (q:=q) ⟨.inl ⟨rfl,rfl⟩,rfl,rfl,hne⟩ hq1 (by show l.length*q≤leaves;rw[q2];exact hqm) q3,q4⟩
theorem qgy {n:qb} (h:qcB n):q3e n=0:=by
 have h1:=h.s1
 have h3:=h.s3
 have hm:=h.mn
 have e1:inF n.Min (-1000) 1000=true:=by unfold inF;simp;omega
 have e2:inF n.Set.length 1 12=true:=by unfold inF;simp;omega
 have e3:n.Set.all q1q=true:=qQm.2 fun c hc=>qba (h.st.ok c hc)
 unfold q3e
 rw[e1,e2,e3,h.st.ord]
 simp
theorem qpR {n:qb} (h:q7T n):q6R n=0:=by
 unfold q6R
 rcases h with h|h
 ·have hc:=qgy h
  rcases h.kd with ⟨k,a,b⟩|⟨k,a⟩
  ·have e:inF n.N 1 600=true:=by unfold inF;simp;omega
   simp[k,h.nl,e,hc]
  ·simp[k,h.nl,a,hc]
 ·have hb:q8W n=true:=by
   unfold q8W
   rw[h.mn,h.st]
   cases hL:n.L with
   | nil=>exact absurd hL h.ne
   | cons x l=>rfl
  rcases h.kd with ⟨k,a⟩|⟨k,a,b⟩
  ·simp[k,hb,a]
  ·have e:inF n.N 1 n.L.length=true:=by unfold inF;simp;omega
   simp[k,hb,e]
theorem qlk:∀(l:List qb),(∀y∈l,q6R y=0)→qua l=none
 | [],_=>rfl
 | x::l,h=>by
  unfold qua
  rw[List.findSome?_cons,h x qQk]
  simp only[ne_eq,not_true_eq_false,if_false]
  exact qlk l fun y hy=>h y (qQd _ hy)
theorem qJv:∀(n:qb) (d m:Int),dpN d n m≤max m (d+hgN n-1):=by
 intro n
 induction n using qb.rec (motive_2:=fun L=>∀(d m:Int),dpL d L m≤max m (d+hgL L-1)) with
 | mk k n m S L ih=>
  intro d mm
  rw[dpN,hgN]
  have:=ih (d+1) (max mm d)
  omega
 | nil=>rename_i d m;rw[dpL];omega
 | cons x L h1 h2=>
  rename_i d m
  rw[dpL,hgL]
  have a:=h1 d m
  have b:=h2 d (dpN d x m)
  omega
theorem qjz:∀(n:qb),(∀y∈ndN n,q7T y)→((ndN n).filter q0r).length=lvN n:=by
 intro n
 induction n using qb.rec (motive_2:=fun L=>(∀y∈ndL L,q7T y)→((ndL L).filter q0r).length=lvL L) with
 | mk k n m S L ih=>
  intro h
  rw[ndN] at h ⊢
  have h0:=h _ qQk
  have hr:=ih fun y hy=>h y (qQd _ hy)
  rw[List.filter_cons,lvN]
  rcases h0 with h0|h0
  ·have e:L=[]:=h0.nl
   subst e
   have e1:k=1∨k=2:=by rcases h0.kd with h|h;exact .inr h.1;exact .inl h.1
   have e2:q0r ⟨k,n,m,S,[]⟩=true:=by unfold q0r;rcases e1 with rfl|rfl<;>rfl
   rw[if_pos e2,if_pos e1]
   simp[ndL]
  ·have e1:k=3∨k=4:=by rcases h0.kd with h|h;exact .inl h.1;exact .inr h.1
   have e2:q0r ⟨k,n,m,S,L⟩=false:=by unfold q0r;rcases e1 with rfl|rfl<;>rfl
   rw[e2,if_neg (by simp),if_neg (by omega),hr]
 | nil=>simp[ndL,lvL]
 | cons x L h1 h2=>
  rename_i h
  rw[ndL] at h ⊢
  rw[lvL,List.filter_append,qQc,h1 fun y hy=>h y (qQh _ hy),h2 fun y hy=>h y (qQe _ hy)]
theorem qg3 {n:qb} (h:∀y∈ndN n,q7T y):∀y∈ndN n,y.Set.length≤1000000:=fun y hy=>by
 rcases h y hy with h|h
 ·have:=h.s3;omega
 ·rw[h.st];simp
theorem qeU {n:qb} (h:q6u 3 6 n):JQ n=some 0:=by
 have h1:=h.hg
 have h2:=h.l1
 have h3:=h.l2
 have h4:=h.nd
 rw[q7W n (by omega) (by omega) (qg3 h.ok)]
 unfold q6T
 have hf:=qjz n h.ok
 have hd:=qJv n 1 0
 have e:inF ((ndN n).filter q0r).length 1 8=true:=by unfold inF;rw[hf];simp;omega
 rw[if_neg (by omega),if_neg (by omega),e,if_neg (by simp),qlk _ fun y hy=>qpR (h.ok y hy)]
 rfl
end
noncomputable section
open Go.RowKit
theorem qhZ (x y:Nat):(x &&& y) / 2=(x / 2) &&& (y / 2):=by
 apply Nat.eq_of_testBit_eq
 intro i
 rw[Nat.testBit_div_two,Nat.testBit_and,Nat.testBit_and,Nat.testBit_div_two,Nat.testBit_div_two]
theorem qjy (x y:Nat):(x &&& y) % 2=if x % 2=1∧y % 2=1 then 1 else 0:=by
 have h:(x &&& y).testBit 0=(x.testBit 0&&y.testBit 0):=Nat.testBit_and x y 0
 rw[Nat.testBit_zero,Nat.testBit_zero,Nat.testBit_zero] at h
 have h1:x % 2<2:=Nat.mod_lt _ (by decide)
 have h2:y % 2<2:=Nat.mod_lt _ (by decide)
 have h3:(x &&& y) % 2<2:=Nat.mod_lt _ (by decide)
 by_cases hx:x % 2=1
 ·by_cases hy:y % 2=1
  ·rw[if_pos ⟨hx,hy⟩]
   simpa [hx,hy] using h
  ·rw[if_neg (fun h=>hy h.2)]
   have:¬ (x &&& y) % 2=1:=by simpa [hx,hy] using h
   omega
 ·rw[if_neg (fun h=>hx h.1)]
  have:¬ (x &&& y) % 2=1:=by simpa [hx] using h
  omega
theorem qrX:∀(sub set t:Nat),sub &&& set=sub→t &&& set=t→t<sub→t≤(sub-1) &&& set:=by
 intro sub
 induction sub using Nat.strongRecOn with
 | _ sub ih=>
  intro set t hs ht hlt
  have hs2:=qhZ sub set
  have hsm:=qjy sub set
  have ht2:=qhZ t set
  have htm:=qjy t set
  rw[hs] at hs2 hsm
  rw[ht] at ht2 htm
  have hr2:=qhZ (sub-1) set
  have hrm:=qjy (sub-1) set
  by_cases hodd:sub % 2=1
  ·have e:(sub-1) / 2=sub / 2:=by omega
   rw[e,←hs2] at hr2
   have e2:(sub-1) % 2=0:=by omega
   rw[if_neg (by omega)] at hrm
   omega
  ·have hpos:sub / 2≠0:=by omega
   have e:(sub-1) / 2=sub / 2-1:=by omega
   rw[e] at hr2
   have hlt2:t / 2<sub / 2:=by omega
   have:=ih (sub / 2) (by omega) (set / 2) (t / 2) hs2.symm ht2.symm hlt2
   have hset:set % 2<2:=Nat.mod_lt _ (by decide)
   have e3:(sub-1) % 2=1:=by omega
   by_cases hm:set % 2=1
   ·rw[if_pos ⟨e3,hm⟩] at hrm
    have:t % 2<2:=Nat.mod_lt _ (by decide)
    omega
   ·rw[if_neg (fun h=>hm h.2)] at hrm htm
    omega
structure IsB (own:Nat→Bool) (best:Nat→Int) (set:Nat) (base v:Int):Prop where
 ge:base≤v
 all:∀t,t≠0→t &&& set=t→own t=true→0≤best (q1H set t)→best (q1H set t)+1≤v
 is:v=base∨∃t,t≠0∧t &&& set=t∧own t=true∧0≤best (q1H set t)∧v=best (q1H set t)+1
theorem qAa {own:Nat→Bool} {best:Nat→Int} {set:Nat}:∀(f sub:Nat) (v:Int),sub≤f→sub &&& set=sub→v≤eaF own best set f sub v∧(∀t,t≠0→t &&& set=t→t≤sub→own t=true→0≤best (q1H set t)→best (q1H set t)+1≤eaF own best set f sub v)∧
  (eaF own best set f sub v=v∨∃t,t≠0∧t &&& set=t∧own t=true∧0≤best (q1H set t)∧eaF own best set f sub v=best (q1H set t)+1):=by
 intro f
 induction f with
 | zero=>
  intro sub v hf _
  have:sub=0:=by omega
  subst this
  exact⟨Int.le_refl _,fun t h1 _ h3=>by omega,.inl rfl⟩
 | succ f ih=>
  intro sub v hf hs
  unfold eaF
  by_cases hz:sub=0
  ·rw[if_pos hz]
   exact⟨Int.le_refl _,fun t h1 _ h3=>by omega,.inl rfl⟩
  ·rw[if_neg hz]
   have ha:(sub-1) &&& set≤sub-1:=Nat.and_le_left
   have hb:((sub-1) &&& set) &&& set=(sub-1) &&& set:=by rw[Nat.and_assoc,Nat.and_self]
   obtain⟨i1,i2,i3⟩:=ih ((sub-1) &&& set) (eaV own best set sub v) (by omega) hb
   have hv:v≤eaV own best set sub v:=by unfold eaV;split<;>omega
   refine⟨by omega,fun t h1 h2 h3 h4 h5=>?_,?_⟩
   ·by_cases e:t=sub
    ·subst e
     have:best (q1H set t)+1≤eaV own best set t v:=by unfold eaV;rw[if_pos ⟨h4,h5⟩];omega
     omega
    ·exact i2 t h1 h2 (qrX sub set t hs h2 (by omega)) h4 h5
   ·rcases i3 with e|h
    ·by_cases hc:own sub=true∧0≤best (q1H set sub)
     ·have e2:eaV own best set sub v=max v (best (q1H set sub)+1):=by unfold eaV;rw[if_pos hc]
      by_cases hm:v≤best (q1H set sub)+1
      ·exact .inr ⟨sub,hz,hs,hc.1,hc.2,by rw[e,e2];omega⟩
      ·exact .inl (by rw[e,e2];omega)
     ·exact .inl (by rw[e];unfold eaV;rw[if_neg hc])
    ·exact .inr h
theorem qpC (skip:Bool) (own:Nat→Bool) (best:Nat→Int) (set:Nat):IsB own best set (if skip=true then best set else -1) (stF skip own best set):=by
 obtain⟨h1,h2,h3⟩:=qAa (own:=own) (best:=best) (set:=set) set set (if skip=true then best set else -1) (qQl _) (Nat.and_self _)
 refine⟨h1,fun t t1 t2 t3 t4=>h2 t t1 t2 ?_ t3 t4,h3⟩
 rw[←t2];exact Nat.and_le_right
theorem qo9 {w m j:Nat} (h:m<2 ^ w) (hj:m.testBit j=true):j<w:=by
 rcases Nat.lt_or_ge j w with h1|h1
 ·exact h1
 ·rw[Nat.testBit_lt_two_pow (qQF h (Nat.pow_le_pow_right (by decide) h1))] at hj
  cases hj
def qmx (n:qb) (s:qg) (x:qO) (a:qa):qO:=⟨w64 (x.many+1),w64 (x.credits+a.Credits),x.fine&&qmg n s a⟩
def Qt {α:Type} (p:Nat→Bool):List α→List α
 | []=>[]
 | a::l=>(if p 0=true then[a] else[])++Qt (fun j=>p (j+1)) l
theorem qjA (n:qb) (s:qg) (set:Nat):∀(l:List qa) (k:Nat) (x:qO),wgF n s set l k x=(Qt (fun j=>set.testBit (k+j)) l).foldl (qmx n s) x
 | [],k,x=>rfl
 | a::l,k,x=>by
  rw[wgF,Qt,qjA n s set l (k+1),List.foldl_append,show(fun j=>set.testBit (k+(j+1)))=fun j=>set.testBit (k+1+j) from funext fun j=>by rw[Nat.add_right_comm,qQZ]]
  congr 1
  cases set.testBit (k+0)<;>simp[qmx]
theorem q2Y {α:Type}:∀{l:List α} {p q:Nat→Bool},(∀j,j<l.length→p j=q j)→Qt p l=Qt q l
 | [],_,_,_=>rfl
 | a::l,p,q,h=>by
  rw[Qt,Qt,h 0 (by simp),q2Y fun j hj=>h (j+1) (by simpa using hj)]
theorem q7f {α:Type}:∀(l:List α) (a:α) (p:Nat→Bool),Qt p (l++[a])=Qt p l++(if p l.length=true then[a] else[])
 | [],a,p=>by simp[Qt]
 | b::l,a,p=>by rw[qRb,Qt,q7f l a,Qt,qQL];rfl
end
noncomputable section
open Go.RowKit
def qj1 (n:qb) (s:qg) (l:List qa) (p:Nat→Bool):qO:=(Qt p l).foldl (qmx n s) ld0
mutual
def q4X (s:qg) (l:List qa) (a:Nat→Int):qb→Nat→Bool×Bool
 | ⟨k,n,m,S,L⟩,nx=>if k=1∨k=2 then((qj1 ⟨k,n,m,S,L⟩ s l (fun j=>a j==(nx:Int))).many==0,qeK ⟨k,n,m,S,L⟩ (qj1 ⟨k,n,m,S,L⟩ s l (fun j=>a j==(nx:Int))))
  else((q2N s l a (k==3) L nx).1,!(q2N s l a (k==3) L nx).2.2&&decide (n≤((q2N s l a (k==3) L nx).2.1:Int)))
def q2N (s:qg) (l:List qa) (a:Nat→Int) (al:Bool):List qb→Nat→Bool×Nat×Bool
 | [],_=>(true,0,false)
 | x::L,nx=>((q4X s l a x nx).1&&(q2N s l a al L (nx+lvN x)).1,(if(q4X s l a x nx).2=true then 1 else 0)+(q2N s l a al L (nx+lvN x)).2.1,
   (!(q4X s l a x nx).2&&(!(q4X s l a x nx).1||al))||(q2N s l a al L (nx+lvN x)).2.2)
end
theorem q5Z (s:qg) (l:List qa) (a:Nat→Int) (n:qb) (nx:Nat):q4X s l a n nx=if n.Kind=1∨n.Kind=2 then((qj1 n s l (fun j=>a j==(nx:Int))).many==0,qeK n (qj1 n s l (fun j=>a j==(nx:Int))))
  else((q2N s l a (n.Kind==3) n.L nx).1,!(q2N s l a (n.Kind==3) n.L nx).2.2&&decide (n.N≤((q2N s l a (n.Kind==3) n.L nx).2.1:Int))):=by
 cases n;rw[q4X]
structure q2V (n:qb):Prop where
 kind:n.Kind=1∨n.Kind=2∨n.Kind=3∨n.Kind=4
 all:n.Kind=3→n.N≤(n.L.length:Int)∧n.L≠[]
 some:n.Kind=4→1≤n.N
theorem qdl (n:qb):n∈ndN n:=by rw[q0i];exact qQk ..
theorem q5r (s:qg) (l:List qa) (a b:Nat→Int):∀(n:qb) (nx:Nat),(∀k,k<l.length→∀x:Int,(nx:Int)≤x→x<((nx+lvN n:Nat):Int)→(a k=x↔b k=x))→q4X s l a n nx=q4X s l b n nx:=by
 intro n
 induction n using qb.rec (motive_2:=fun L=>∀(al:Bool) (nx:Nat),(∀k,k<l.length→∀x:Int,(nx:Int)≤x→x<((nx+lvL L:Nat):Int)→(a k=x↔b k=x))→q2N s l a al L nx=q2N s l b al L nx) with
 | mk k n m S L ih=>
  intro nx h
  rw[q5Z,q5Z]
  rw[lvN] at h
  by_cases hk:k=1∨k=2
  ·rw[if_pos hk] at h
   rw[if_pos hk,if_pos hk]
   have:Qt (fun j=>a j==(nx:Int)) l=Qt (fun j=>b j==(nx:Int)) l:=q2Y fun j hj=>by
    have:=h j hj nx (Int.le_refl _) (by omega)
    by_cases e:a j=nx
    ·rw[e,this.1 e]
    ·have e':¬ b j=nx:=fun e2=>e (this.2 e2)
     rw[beq_eq_false_iff_ne.2 e,beq_eq_false_iff_ne.2 e']
   unfold qj1
   rw[this]
  ·rw[if_neg hk] at h
   rw[if_neg hk,if_neg hk]
   simp only
   rw[ih _ nx h]
 | nil=>rw[q2N,q2N]
 | cons x L h1 h2=>
  rename_i al nx h
  rw[lvL] at h
  rw[q2N,q2N,h1 nx (fun k hk y hy hy2=>h k hk y hy (by omega)),h2 al (nx+lvN x) (fun k hk y hy hy2=>h k hk y (by omega) (by omega))]
theorem qhd (n:qb) (s:qg):∀(L:List qa) (x:qO),0≤x.many→x.many+L.length≤9223372036854775807→(L.foldl (qmx n s) x).many=x.many+L.length
 | [],x,_,_=>by simp
 | a::L,x,h0,h=>by
  rw[qQg] at h
  have hw:w64 (x.many+1)=x.many+1:=Z9 (by omega) (by omega)
  rw[qR9,qhd n s L (qmx n s x a) (by unfold qmx;simp only;omega) (by unfold qmx;simp only;omega),qQg]
  unfold qmx
  simp only
  omega
theorem q44 {α:Type}:∀(l:List α) (p:Nat→Bool),(Qt p l).length≤l.length
 | [],_=>by simp[Qt]
 | a::l,p=>by
  have:=q44 l (fun j=>p (j+1))
  rw[Qt,qQc,qQg]
  split<;>simp<;>omega
theorem qfP {α:Type}:∀(l:List α) (p:Nat→Bool),(Qt p l).length=0↔∀k,k<l.length→p k=false
 | [],_=>by simp[Qt]
 | a::l,p=>by
  have ih:=qfP l (fun j=>p (j+1))
  rw[Qt,qQc]
  constructor
  ·intro h k hk
   cases k with
   | zero=>
    by_cases e:p 0=true
    ·rw[if_pos e] at h;simp at h
    ·simpa using e
   | succ k=>exact ih.1 (by omega) k (by simpa using hk)
  ·intro h
   rw[ih.2 fun k hk=>h (k+1) (by simpa using hk),if_neg (by rw[h 0 (by simp)];decide)]
   try rfl
theorem qpx (n:qb) (s:qg) (l:List qa) (hl:l.length≤62) (p:Nat→Bool):(qj1 n s l p).many=((Qt p l).length:Int):=by
 have:=q44 l p
 unfold qj1
 rw[qhd n s _ _ (by decide) (by show(0:Int)+_≤_;omega)]
 show(0:Int)+_=_
 omega
theorem q9P (s:qg) (l:List qa) (hl:l.length≤62) (a:Nat→Int):∀(n:qb) (nx:Nat),(q4X s l a n nx).1=true↔∀k,k<l.length→¬((nx:Int)≤a k∧a k<((nx+lvN n:Nat):Int)):=by
 intro n
 induction n using qb.rec (motive_2:=fun L=>∀(al:Bool) (nx:Nat),(q2N s l a al L nx).1=true↔∀k,k<l.length→¬((nx:Int)≤a k∧a k<((nx+lvL L:Nat):Int))) with
 | mk k n m S L ih=>
  intro nx
  rw[q5Z,lvN]
  by_cases hk:k=1∨k=2
  ·rw[if_pos hk,if_pos hk]
   simp only
   rw[qpx _ _ _ hl,beq_iff_eq,show(((Qt (fun j=>a j==(nx:Int)) l).length:Int)=0)↔(Qt (fun j=>a j==(nx:Int)) l).length=0 from by omega,qfP]
   constructor
   ·intro h k hk h2
    have:=beq_eq_false_iff_ne.1 (h k hk)
    omega
   ·intro h k hk
    have:=h k hk
    exact beq_eq_false_iff_ne.2 (by omega)
  ·rw[if_neg hk,if_neg hk]
   exact ih _ nx
 | nil=>rename_i al nx;rw[q2N,lvL];simp only[true_iff];intro k hk;omega
 | cons x L h1 h2=>
  rename_i al nx
  rw[q2N,lvL,qQB,h1,h2]
  constructor
  ·intro h k hk
   have a1:=h.1 k hk
   have a2:=h.2 k hk
   omega
  ·intro h
   exact⟨fun k hk=>by have:=h k hk;omega,fun k hk=>by have:=h k hk;omega⟩
theorem qiI (s:qg) (l:List qa) (a:Nat→Int):∀(n:qb) (nx:Nat),(∀y∈ndN n,q2V y)→(q4X s l a n nx).2=true→(q4X s l a n nx).1=false:=by
 intro n
 induction n using qb.rec (motive_2:=fun L=>∀(al:Bool) (nx:Nat),(∀y∈ndL L,q2V y)→(q2N s l a al L nx).1=true→(q2N s l a al L nx).2.1=0∧(al=true→(q2N s l a al L nx).2.2=false→L=[])) with
 | mk k n m S L ih=>
  intro nx hf h
  have hn:=hf _ (qdl _)
  rw[q5Z] at h ⊢
  by_cases hk:k=1∨k=2
  ·rw[if_pos hk] at h ⊢
   simp only at h ⊢
   generalize qj1 ⟨k,n,m,S,L⟩ s l (fun j=>a j==(nx:Int))=x at h
   unfold qeK at h
   simp only at h
   refine beq_eq_false_iff_ne.2 fun e=>?_
   rw[e] at h
   split at h<;>simp at h
  ·rw[if_neg hk] at h ⊢
   simp only at h ⊢
   refine qQx.2 fun e=>?_
   obtain⟨h1,h2⟩:=ih (k==3) nx (fun y hy=>hf y (by rw[ndN];exact qQd _ hy)) e
   rw[qQB,h1,qR5] at h
   rcases hn.kind with q|q|q|q
   ·exact hk (.inl q)
   ·exact hk (.inr q)
   ·simp only at q
    subst q
    exact(hn.all rfl).2 (h2 (by decide) (by simpa using h.1))
   ·have:=hn.some q
    simp only at this
    omega
 | nil=>rename_i al nx _ _;rw[q2N];exact⟨rfl,fun _ _=>rfl⟩
 | cons x L h1 h2=>
  rename_i al nx hf h
  rw[q2N] at h ⊢
  simp only at h ⊢
  rw[qQB] at h
  have hx:(q4X s l a x nx).2=false:=by
   refine qQx.2 fun e=>?_
   have:=h1 nx (fun y hy=>hf y (by rw[ndL];exact qQh _ hy)) e
   rw[this] at h
   exact absurd h.1 (by decide)
  obtain⟨h3,h4⟩:=h2 al (nx+lvN x) (fun y hy=>hf y (by rw[ndL];exact qQe _ hy)) h.2
  rw[hx,h3]
  refine⟨by simp,fun ha hw=>?_⟩
  rw[ha] at hw
  simp at hw
end
noncomputable section
open Go.RowKit
def mkS (p:Nat→Bool):Nat→Nat
 | 0=>0
 | n+1=>mkS p n ||| (if p n=true then 2 ^ n else 0)
theorem qdz (p:Nat→Bool):∀(n k:Nat),(mkS p n).testBit k=(decide (k<n)&&p k)
 | 0,k=>by simp[mkS]
 | n+1,k=>by
  rw[mkS,Nat.testBit_or,qdz p n k]
  by_cases e:k=n
  ·subst e
   by_cases hp:p k=true
   ·rw[if_pos hp,Nat.testBit_two_pow];simp[hp]
   ·rw[if_neg hp];simp[qQx.2 hp]
  ·have h1:(if p n=true then 2 ^ n else 0).testBit k=false:=by
    split
    ·rw[Nat.testBit_two_pow];exact decide_eq_false (fun h=>e h.symm)
    ·exact Nat.zero_testBit k
   rw[h1,Bool.or_false]
   have:decide (k<n+1)=decide (k<n):=by
    by_cases h:k<n
    ·rw[qR6 h,qR6 (by omega)]
    ·rw[decide_eq_false h,decide_eq_false (by omega)]
   rw[this]
theorem qtF (p:Nat→Bool) (n:Nat):mkS p n<2 ^ n:=Nat.lt_pow_two_of_testBit _ fun i hi=>by
 rw[qdz,decide_eq_false (by omega)];rfl
theorem qnz (leaf:Int) (set:Nat):∀(d:List Int) (i:Nat),alG leaf set d i=true↔∀(k:Nat) (x:Int),d[k]?=some x→(set.testBit (i+k)=true↔x=leaf)
 | [],i=>by simp[alG]
 | y::d,i=>by
  rw[alG,qQB,qnz leaf set d (i+1),beq_iff_eq]
  constructor
  ·intro h k x hx
   cases k with
   | zero=>
    simp only[qQf,qQV] at hx
    subst hx
    rw[Nat.add_zero,h.1,beq_iff_eq]
   | succ k=>
    rw[qQu] at hx
    have:=h.2 k x hx
    rwa [Nat.add_right_comm,qQZ] at this
  ·intro h
   refine⟨?_,fun k x hx=>?_⟩
   ·have:=h 0 y (by simp)
    rw[Nat.add_zero] at this
    by_cases e:y=leaf
    ·rw[this.2 e,beq_iff_eq.2 e]
    ·rw[beq_eq_false_iff_ne.2 e];exact qQx.2 fun h2=>e (this.1 h2)
   ·have:=h (k+1) x (by rw[qQu];exact hx)
    rwa [show i+1+k=i+(k+1) from by omega]
theorem qwj (d:List Int) (leaf set:Nat):alF d leaf set=true↔∀(k:Nat) (x:Int),d[k]?=some x→(set.testBit k=true↔x=(leaf:Int)):=by
 unfold alF
 rw[qnz]
 simp only[qQt]
theorem qnj (d:List Int) (a b:Nat):foF d a b=true↔∃(k:Nat) (x:Int),d[k]?=some x∧(a:Int)≤x∧x<(b:Int):=by
 unfold foF
 rw[qR0]
 constructor
 ·rintro⟨x,hx,h⟩
  obtain⟨k,hk⟩:=List.mem_iff_getElem?.1 hx
  rw[qQB,qR5,qR5] at h
  exact⟨k,x,hk,h⟩
 ·rintro⟨k,x,hk,h⟩
  exact⟨x,List.mem_iff_getElem?.2 ⟨k,hk⟩,by rw[qQB,qR5,qR5];exact h⟩
structure Asg (d:List Int) (a:Nat→Int) (lo w set:Nat):Prop where
 inn:∀k,set.testBit k=true→(lo:Int)≤a k∧a k<((lo+w:Nat):Int)
 out:∀k,set.testBit k=false→a k = -1
 com:∀k y,d[k]?=some y→∀x:Int,(lo:Int)≤x→x<((lo+w:Nat):Int)→(y=x↔a k=x)
theorem Asg.bit {d:List Int} {a:Nat→Int} {lo w set:Nat} (h:Asg d a lo w set) (k:Nat) (h1:(lo:Int)≤a k):set.testBit k=true:=by
 by_cases e:set.testBit k=true
 ·exact e
 ·have:=h.out k (qQx.2 e)
  omega
theorem qbp (s:qg) (l:List qa) (a b:Nat→Int) (al:Bool):∀(L:List qb) (nx:Nat),(∀k,k<l.length→∀x:Int,(nx:Int)≤x→x<((nx+lvL L:Nat):Int)→(a k=x↔b k=x))→q2N s l a al L nx=q2N s l b al L nx
 | [],nx,_=>by rw[q2N,q2N]
 | x::L,nx,h=>by
  rw[lvL] at h
  rw[q2N,q2N,q5r s l a b x nx (fun k hk y hy hy2=>h k hk y hy (by omega)),qbp s l a b al L (nx+lvN x) (fun k hk y hy hy2=>h k hk y (by omega) (by omega))]
theorem qkT (s:qg) (l:List qa) (a:Nat→Int):∀(L:List qb) (nx:Nat),(q2N s l a true L nx).2.2=false→(q2N s l a true L nx).2.1=L.length
 | [],nx,_=>by rw[q2N];rfl
 | x::L,nx,h=>by
  rw[q2N] at h ⊢
  simp only at h ⊢
  rw[Bool.or_eq_false_iff] at h
  have hx:(q4X s l a x nx).2=true:=by
   have:=h.1
   rw[Bool.or_true,qR7] at this
   simpa using this
  rw[if_pos hx,qkT s l a L _ h.2,qQg]
  omega
theorem qha (set:Nat):q1H set 0=set:=Nat.eq_of_testBit_eq fun i=>by rw[Za];simp
theorem qaR {t s:Nat} (h:t &&& s=t) {k:Nat} (hk:t.testBit k=true):s.testBit k=true:=by
 rw[←h,Nat.testBit_and,qQB] at hk
 exact hk.2
theorem qho {t s:Nat} (h:∀k,t.testBit k=true→s.testBit k=true):t &&& s=t:=Nat.eq_of_testBit_eq fun i=>by
 rw[Nat.testBit_and]
 by_cases e:t.testBit i=true
 ·rw[e,h i e];rfl
 ·rw[qQx.2 e];rfl
theorem qtd (d:List Int) (s:qg) (l:List qa) (n:qb) (hk:n.Kind=1∨n.Kind=2) (nx set:Nat) (hlt:set<2 ^ l.length) (hl:l.length≤62) :
  q2o d s l n nx set=true↔∃a,Asg d a nx 1 set∧qeK n (qj1 n s l (fun j=>a j==(nx:Int)))=true:=by
 have key:∀a,Asg d a nx 1 set→qj1 n s l (fun j=>a j==(nx:Int))=wgF n s set l 0 ld0:=fun a ha=>by
  rw[qjA]
  unfold qj1
  rw[q2Y (p:=fun j=>a j==(nx:Int)) (q:=fun j=>set.testBit (0+j)) fun j hj=>?_]
  rw[qQt]
  by_cases e:set.testBit j=true
  ·have:=ha.inn j e
   rw[e,beq_iff_eq]
   omega
  ·rw[qQx.2 e,ha.out j (qQx.2 e)]
   exact beq_eq_false_iff_ne.2 (by omega)
 unfold q2o
 rw[qQB,qQB,qR5,qwj]
 constructor
 ·rintro⟨h0,h1,h2⟩
  have ha:Asg d (fun k=>if set.testBit k=true then(nx:Int) else -1) nx 1 set:={
   inn:=fun k hk=>by simp only[hk,if_true];omega
   out:=fun k hk=>by simp only[hk];rfl
   com:=fun k y hy x hx hx2=>by
    have e:x=nx:=by omega
    subst e
    rw[←h1 k y hy]
    show set.testBit k=true↔(if set.testBit k=true then(nx:Int) else -1)=(nx:Int)
    by_cases e:set.testBit k=true
    ·rw[if_pos e];exact⟨fun _=>rfl,fun _=>e⟩
    ·rw[if_neg e];exact⟨fun h=>absurd h e,fun h=>by omega⟩ }
  exact⟨_,ha,by rw[key _ ha];exact h2⟩
 ·rintro⟨a,ha,hm⟩
  rw[key a ha] at hm
  refine⟨fun e=>?_,fun k x hx=>?_,hm⟩
  ·have h3:Qt (fun j=>set.testBit (0+j)) l=[]:=qQo ((qfP _ _).2 fun k hk=>by rw[e];exact Nat.zero_testBit _)
   rw[qjA,h3] at hm
   unfold qeK ld0 at hm
   simp only[List.foldl_nil] at hm
   split at hm<;>simp at hm
  ·constructor
   ·intro hb
    have:=ha.inn k hb
    exact(ha.com k x hx (nx:Int) (by omega) (by omega)).2 (by omega)
   ·intro e
    have:=(ha.com k x hx (nx:Int) (by omega) (by omega)).1 e
    exact ha.bit k (by omega)
theorem qvm (s:qg) (l:List qa) (hl:l.length≤62) (a:Nat→Int) (n:qb) (nx:Nat) (hf:∀y∈ndN n,q2V y) (h:∀k,¬((nx:Int)≤a k∧a k<((nx+lvN n:Nat):Int))):(q4X s l a n nx).1=true∧(q4X s l a n nx).2=false:=by
 have h1:=(q9P s l hl a n nx).2 fun k _=>h k
 refine⟨h1,qQx.2 fun e=>?_⟩
 rw[qiI s l a n nx hf e] at h1
 exact absurd h1 (by decide)
theorem q5D (d:List Int) (s:qg) (l:List qa) (hl:l.length≤62):∀(n:qb) (nx set:Nat),(∀y∈ndN n,q2V y)→set<2 ^ l.length→
  (QQ d s l n nx set=true↔∃a,Asg d a nx (lvN n) set∧(q4X s l a n nx).2=true):=by
 intro n
 induction n using qb.rec (motive_2:=fun L=>∀(sk:Bool) (nx:Nat) (b:Nat→Int) (set:Nat),(∀y∈ndL L,q2V y)→set<2 ^ l.length→
   (0≤qbY d s l sk L nx b set→∃s1 a,s1 &&& set=s1∧0≤b s1∧Asg d a nx (lvL L) (q1H set s1)∧(q2N s l a (!sk) L nx).2.2=false∧qbY d s l sk L nx b set=b s1+((q2N s l a (!sk) L nx).2.1:Int))∧
   (∀s1 a,s1 &&& set=s1→0≤b s1→Asg d a nx (lvL L) (q1H set s1)→(q2N s l a (!sk) L nx).2.2=false→b s1+((q2N s l a (!sk) L nx).2.1:Int)≤qbY d s l sk L nx b set)) with
 | mk k n m S L ih=>
  intro nx set hf hlt
  have hn:=hf _ (qdl _)
  have hfL:∀y∈ndL L,q2V y:=fun y hy=>hf y (by rw[ndN];exact qQd _ hy)
  rw[qdR,qdi]
  simp only[q5Z]
  by_cases hk:k=1∨k=2
  ·rw[if_pos hk,if_pos hk]
   simp only[if_pos hk]
   exact qtd d s l _ hk nx set hlt hl
  ·rw[if_neg hk,if_neg hk]
   simp only[if_neg hk]
   have hk4:(!(k==4))=(k==3):=by
    rcases hn.kind with q|q|q|q<;>simp only at q<;>subst q<;>first|decide|exact absurd (by decide) hk
   obtain⟨i1,i2⟩:=ih (k==4) nx b0F set hfL hlt
   rw[hk4] at i1 i2
   rw[qQB,qR5,qR5]
   constructor
   ·rintro⟨h0,h1⟩
    have hz:0≤qbY d s l (k==4) L nx b0F set:=by
     rcases hn.kind with q|q|q|q
     ·exact absurd (.inl q) hk
     ·exact absurd (.inr q) hk
     ·simp only at q
      rw[if_pos q] at h1
      omega
     ·have:=hn.some q
      simp only at q this
      rw[if_neg (by omega)] at h1
      omega
    obtain⟨s1,a,e1,e2,e3,e4,e5⟩:=i1 hz
    have hs1:s1=0:=by
     unfold b0F at e2
     by_cases e:s1=0
     ·exact e
     ·rw[if_neg e] at e2;omega
    subst hs1
    rw[qha] at e3
    refine⟨a,e3,?_⟩
    rw[e4,Bool.not_false,qQC,qR5]
    have hb0:b0F 0=0:=rfl
    rw[hb0] at e5
    by_cases q:k=3
    ·rw[if_pos q] at h1
     have:=(hn.all q).1
     simp only at this
     omega
    ·rw[if_neg q] at h1
     omega
   ·rintro⟨a,ha,hm⟩
    rw[qQB,qR5] at hm
    have hw:(q2N s l a (k==3) L nx).2.2=false:=by simpa using hm.1
    have hb0:b0F 0=0:=rfl
    have h2:=i2 0 a (Nat.zero_and _) (by rw[hb0];exact Int.le_refl _) (by rw[qha];exact ha) hw
    rw[hb0] at h2
    have h3:(q4X s l a ⟨k,n,m,S,L⟩ nx).1=false:=qiI s l a _ nx hf (by rw[q5Z,if_neg hk];simp only;rw[qQB,qR5];exact hm)
    refine⟨fun e=>?_,?_⟩
    ·have h4:(q4X s l a ⟨k,n,m,S,L⟩ nx).1=true:=(q9P s l hl a _ nx).2 fun j _ hj=>by
      have:=ha.bit j hj.1
      rw[e,Nat.zero_testBit] at this
      exact absurd this (by decide)
     rw[h3] at h4
     exact absurd h4 (by decide)
    ·by_cases q:k=3
     ·rw[if_pos q]
      have h5:(k==3)=true:=by rw[q];rfl
      rw[h5] at hw h2
      rw[qkT s l a L nx hw] at h2
      omega
     ·rw[if_neg q]
      omega
 | nil=>
  rename_i sk nx b set hf hlt
  rw[lvL,qbY]
  refine⟨fun h=>⟨set,fun _ => -1,Nat.and_self _,h,⟨fun k hk=>?_,fun _ _=>rfl,fun k y hy x hx hx2=>by omega⟩,by rw[q2N],by rw[q2N];simp⟩,fun s1 a h1 h2 h3 h4=>?_⟩
  ·rw[Za] at hk
   cases h:set.testBit k<;>rw[h] at hk<;>simp at hk
  ·have:s1=set:=Nat.eq_of_testBit_eq fun i=>by
    by_cases e:(q1H set s1).testBit i=true
    ·have:=h3.inn i e
     omega
    ·rw[Za] at e
     by_cases e2:s1.testBit i=true
     ·rw[e2,qaR h1 e2]
     ·cases h:set.testBit i
      ·exact qQx.2 e2
      ·rw[h,qQx.2 e2] at e
       exact absurd rfl e
   subst this
   rw[q2N]
   simp
 | cons x L h1 h2=>
  rename_i sk nx b set hf hlt
  have hfx:∀y∈ndN x,q2V y:=fun y hy=>hf y (by rw[ndL];exact qQh _ hy)
  have hfL:∀y∈ndL L,q2V y:=fun y hy=>hf y (by rw[ndL];exact qQe _ hy)
  obtain⟨i1,i2⟩:=h2 sk (nx+lvN x) (stF (sk && !foF d nx (nx+lvN x)) (QQ d s l x nx) b) set hfL hlt
  rw[lvL,qbY]
  simp only[q2N]
  constructor
  ·intro h0
   obtain⟨s1,a1,e1,e2,e3,e4,e5⟩:=i1 h0
   have hI:=qpC (sk && !foF d nx (nx+lvN x)) (QQ d s l x nx) b s1
   rcases hI.is with e|⟨t,t1,t2,t3,t4,e⟩
   ·have hsk:(sk && !foF d nx (nx+lvN x))=true:=by
     refine Classical.byContradiction fun hc=>?_
     rw[if_neg hc] at e
     omega
    rw[if_pos hsk] at e
    rw[qQB] at hsk
    have hfo:¬ foF d nx (nx+lvN x)=true:=by simpa using hsk.2
    rw[qnj] at hfo
    have hr:∀k,¬((nx:Int)≤a1 k∧a1 k<((nx+lvN x:Nat):Int)):=fun k hk=>by
     by_cases hb:(q1H set s1).testBit k=true
     ·have:=e3.inn k hb;omega
     ·have:=e3.out k (qQx.2 hb);omega
    obtain⟨v1,v2⟩:=qvm s l hl a1 x nx hfx hr
    refine⟨s1,a1,e1,by omega,⟨fun k hk=>by have:=e3.inn k hk;omega,e3.out,fun k y hy z hz hz2=>?_⟩,?_,?_⟩
    ·by_cases hz3:z<((nx+lvN x:Nat):Int)
     ·constructor
      ·intro e;subst e;exact absurd ⟨k,y,hy,hz,hz3⟩ hfo
      ·intro e;exact absurd ⟨by omega,by omega⟩ (hr k)
     ·exact e3.com k y hy z (by omega) (by omega)
    ·rw[v1,v2,e4,hsk.1];rfl
    ·rw[e5,e,v2];simp
   ·obtain⟨a2,ha2,hm2⟩:=(h1 nx t hfx (qQH (qQG (by rw[←t2];exact Nat.and_le_right) (by rw[←e1];exact Nat.and_le_right)) hlt)).1 t3
    have hts:∀k,t.testBit k=true→s1.testBit k=true:=fun k hk=>qaR t2 hk
    have hss:∀k,s1.testBit k=true→set.testBit k=true:=fun k hk=>qaR e1 hk
    have hin:∀k,t.testBit k=true→(fun k=>if t.testBit k=true then a2 k else a1 k) k=a2 k:=fun k hk=>by show(if _ then _ else _)=_;rw[if_pos hk]
    have hnot:∀k,t.testBit k=false→(fun k=>if t.testBit k=true then a2 k else a1 k) k=a1 k:=fun k hk=>by show(if _ then _ else _)=_;rw[if_neg (by rw[hk];decide)]
    generalize (fun k=>if t.testBit k=true then a2 k else a1 k)=a at hin hnot
    have ht1:∀k,t.testBit k=true→a1 k = -1:=fun k hk=>e3.out k (by rw[Za,hts k hk];simp)
    have hu1:∀k,t.testBit k=false→a2 k = -1:=fun k hk=>ha2.out k hk
    have hc1:q4X s l a x nx=q4X s l a2 x nx:=q5r s l a a2 x nx fun k _ z hz hz2=>by
     cases hb:t.testBit k
     ·rw[hnot k hb,hu1 k hb]
      by_cases hb2:(q1H set s1).testBit k=true
      ·have:=e3.inn k hb2;omega
      ·have:=e3.out k (qQx.2 hb2);omega
     ·rw[hin k hb]
    have hc2:q2N s l a (!sk) L (nx+lvN x)=q2N s l a1 (!sk) L (nx+lvN x):=qbp s l a a1 (!sk) L (nx+lvN x) fun k _ z hz hz2=>by
     cases hb:t.testBit k
     ·rw[hnot k hb]
     ·rw[hin k hb,ht1 k hb]
      have:=ha2.inn k hb
      omega
    refine⟨q1H s1 t,a,?_,t4,⟨fun k hk=>?_,fun k hk=>?_,fun k y hy z hz hz2=>?_⟩,?_,?_⟩
    ·exact qho fun k hk=>hss k (by rw[Za,qQB] at hk;exact hk.1)
    ·cases hb:t.testBit k
     ·rw[hnot k hb]
      have:(q1H set s1).testBit k=true:=by
       rw[Za,Za,hb] at hk
       rw[Za]
       simpa using hk
      have:=e3.inn k this
      omega
     ·rw[hin k hb]
      have:=ha2.inn k hb
      omega
    ·cases hb:t.testBit k
     ·rw[hnot k hb]
      refine e3.out k ?_
      rw[Za,Za,hb] at hk
      rw[Za]
      simpa using hk
     ·exfalso
      rw[Za,Za,hb,hss k (hts k hb)] at hk
      simp at hk
    ·by_cases hz3:z<((nx+lvN x:Nat):Int)
     ·rw[ha2.com k y hy z hz hz3]
      cases hb:t.testBit k
      ·rw[hnot k hb,hu1 k hb]
       by_cases hb2:(q1H set s1).testBit k=true
       ·have:=e3.inn k hb2;omega
       ·have:=e3.out k (qQx.2 hb2);omega
      ·rw[hin k hb]
     ·rw[e3.com k y hy z (by omega) (by omega)]
      cases hb:t.testBit k
      ·rw[hnot k hb]
      ·rw[hin k hb,ht1 k hb]
       have:=ha2.inn k hb
       omega
    ·rw[hc1,hc2,hm2,e4];rfl
    ·rw[e5,e,hc1,hc2,if_pos hm2];omega
  ·intro s1 a g1 g2 g3 g4
   rw[Bool.or_eq_false_iff] at g4
   obtain⟨g4,g5⟩:=g4
   have hss:∀k,s1.testBit k=true→set.testBit k=true:=fun k hk=>qaR g1 hk
   by_cases hm:(q4X s l a x nx).2=true
   ·have hlen:∀k,(nx:Int)≤a k→k<l.length:=fun k hk=>by
     have hb:=g3.bit k hk
     have:set.testBit k=true:=by rw[Za,qQB] at hb;exact hb.1
     exact qo9 hlt this
    obtain⟨t,tb⟩:∃t:Nat,∀k,t.testBit k=true↔((nx:Int)≤a k∧a k<((nx+lvN x:Nat):Int)):=⟨mkS (fun k=>decide ((nx:Int)≤a k)&&decide (a k<((nx+lvN x:Nat):Int))) l.length,fun k=>by
     rw[qdz,qQB,qQB,qR5,qR5,qR5]
     exact⟨fun h=>h.2,fun h=>⟨hlen k h.1,h⟩⟩⟩
    have hdis:∀k,t.testBit k=true→set.testBit k=true∧s1.testBit k=false:=fun k hk=>by
     have hb:=g3.bit k ((tb k).1 hk).1
     rw[Za,qQB] at hb
     exact⟨hb.1,by simpa using hb.2⟩
    obtain⟨a2,hin2,hnot2⟩:∃a2:Nat→Int,(∀k,t.testBit k=true→a2 k=a k)∧(∀k,t.testBit k=false→a2 k = -1):=⟨fun k=>if t.testBit k=true then a k else -1,fun k hk=>if_pos hk,fun k hk=>if_neg (by rw[hk];decide)⟩
    obtain⟨a1,hin1,hnot1⟩:∃a1:Nat→Int,(∀k,t.testBit k=true→a1 k = -1)∧(∀k,t.testBit k=false→a1 k=a k):=⟨fun k=>if t.testBit k=true then -1 else a k,fun k hk=>if_pos hk,fun k hk=>if_neg (by rw[hk];decide)⟩
    have hoff:∀k,t.testBit k=false→¬((nx:Int)≤a k∧a k<((nx+lvN x:Nat):Int)):=fun k hk h=>by
     rw[(tb k).2 h] at hk
     exact absurd hk (by decide)
    have hA2:Asg d a2 nx (lvN x) t:=⟨fun k hk=>by rw[hin2 k hk];exact(tb k).1 hk,hnot2,fun k y hy z hz hz2=>by
     rw[g3.com k y hy z hz (by omega)]
     cases hb:t.testBit k
     ·rw[hnot2 k hb]
      have:=hoff k hb
      omega
     ·rw[hin2 k hb]⟩
    have hc1:q4X s l a2 x nx=q4X s l a x nx:=q5r s l a2 a x nx fun k _ z hz hz2=>by
     cases hb:t.testBit k
     ·rw[hnot2 k hb]
      have:=hoff k hb
      omega
     ·rw[hin2 k hb]
    have hc2:q2N s l a1 (!sk) L (nx+lvN x)=q2N s l a (!sk) L (nx+lvN x):=qbp s l a1 a (!sk) L (nx+lvN x) fun k _ z hz hz2=>by
     cases hb:t.testBit k
     ·rw[hnot1 k hb]
     ·rw[hin1 k hb]
      have:=(tb k).1 hb
      omega
    have hown:QQ d s l x nx t=true:=(h1 nx t hfx (qQH (qQG (by rw[←qho (t:=t) (s:=set) fun k hk=>(hdis k hk).1];exact Nat.and_le_right) (qQl _)) hlt)).2 ⟨a2,hA2,by rw[hc1];exact hm⟩
    have ht0:t≠0:=fun e=>by
     have h3:=qiI s l a x nx hfx hm
     have h4:=(q9P s l hl a x nx).2 fun k _ hk=>by
      have:=(tb k).2 hk
      rw[e,Nat.zero_testBit] at this
      exact absurd this (by decide)
     rw[h3] at h4
     exact absurd h4 (by decide)
    have hI:=qpC (sk && !foF d nx (nx+lvN x)) (QQ d s l x nx) b (s1 ||| t)
    have hle:q1H (s1 ||| t) t=s1:=Nat.eq_of_testBit_eq fun k=>by
     rw[Za,Nat.testBit_or]
     cases hb:t.testBit k
     ·simp
     ·rw[(hdis k hb).2];rfl
    have hall:=hI.all t ht0 (qho fun k hk=>by rw[Nat.testBit_or,hk,Bool.or_true]) hown (by rw[hle];exact g2)
    rw[hle] at hall
    have:=i2 (s1 ||| t) a1 (qho fun k hk=>by
      rw[Nat.testBit_or,qQA] at hk
      rcases hk with hk|hk
      ·exact hss k hk
      ·exact(hdis k hk).1) (by omega) ⟨fun k hk=>by
       rw[Za,Nat.testBit_or,qQB] at hk
       have hb:t.testBit k=false:=by
        have:=hk.2
        cases h:t.testBit k
        ·rfl
        ·rw[h,Bool.or_true] at this;exact absurd this (by decide)
       have h5:=g3.inn k (by rw[Za,qQB];refine⟨hk.1,?_⟩;have:=hk.2;rw[hb,Bool.or_false] at this;exact this)
       have h6:=hoff k hb
       rw[hnot1 k hb]
       omega,fun k hk=>by
       cases hb:t.testBit k
       ·rw[hnot1 k hb]
        refine g3.out k ?_
        rw[Za,Nat.testBit_or,hb,Bool.or_false] at hk
        rw[Za]
        exact hk
       ·exact hin1 k hb,fun k y hy z hz hz2=>by
       rw[g3.com k y hy z (by omega) (by omega)]
       cases hb:t.testBit k
       ·rw[hnot1 k hb]
       ·rw[hin1 k hb]
        have:=(tb k).1 hb
        omega⟩ (by rw[hc2];exact g5)
    rw[hc2] at this
    rw[if_pos hm]
    omega
   ·have hm':(q4X s l a x nx).2=false:=qQx.2 hm
    rw[hm',Bool.not_false,qQC,Bool.or_eq_false_iff] at g4
    have hem:(q4X s l a x nx).1=true:=by simpa using g4.1
    have hsk:sk=true:=by simpa using g4.2
    have hr:∀k,¬((nx:Int)≤a k∧a k<((nx+lvN x:Nat):Int)):=fun k hk=>by
     have hb:=g3.bit k hk.1
     have:set.testBit k=true:=by rw[Za,qQB] at hb;exact hb.1
     have hkl:k<l.length:=qo9 hlt this
     exact(q9P s l hl a x nx).1 hem k hkl hk
    have hfo:foF d nx (nx+lvN x)=false:=qQx.2 fun h=>by
     obtain⟨k,y,hy,h3,h4⟩:=(qnj d nx (nx+lvN x)).1 h
     have:=(g3.com k y hy y h3 (by omega)).1 rfl
     exact hr k (by omega)
    have hI:=qpC (sk && !foF d nx (nx+lvN x)) (QQ d s l x nx) b s1
    have hge:=hI.ge
    rw[hsk,hfo] at hge
    simp only[Bool.not_false,qR7,if_true] at hge
    have hge2:b s1≤stF (sk && !foF d nx (nx+lvN x)) (QQ d s l x nx) b s1:=by rw[hsk,hfo];exact hge
    have:=i2 s1 a g1 (by omega) ⟨fun k hk=>by
      have h5:=g3.inn k hk
      have h6:=hr k
      omega,g3.out,fun k y hy z hz hz2=>g3.com k y hy z (by omega) (by omega)⟩ g5
    rw[hm']
    simp only[Bool.false_eq_true,if_false,qQt]
    omega
end
noncomputable section
open Go.RowKit
structure q3z (n:qb) (l:List qa) (set:Nat):Prop where
 fit:∀y∈ndN n,q2V y
 nd:(ndN n).length≤9999
 st:∀y∈ndN n,y.Set.length≤1000000
 ll:l.length≤16
 lt:set<2 ^ l.length
theorem q3z.lt64 {n:qb} {l:List qa} {set:Nat} (h:q3z n l set):set<9223372036854775808:=by
 have h1:=h.lt
 have h2:(2:Nat) ^ l.length≤2 ^ 16:=Nat.pow_le_pow_right (by decide) h.ll
 have h3:(2:Nat) ^ 16=65536:=by decide
 omega
theorem q3z.lv {n:qb} {l:List qa} {set:Nat} (h:q3z n l set):lvN n≤9999:=qQG (qmi n) h.nd
theorem qnf {n:qb} {l:List qa} {set:Nat} (h:q3z n l set) (s:qg) (d:List Int) (hd:d.length≤16):q2H n s l d=some (Zi (2 ^ l.length) (QQ d s l n 0),d):=by
 have:=qnA d hd s l h.ll _ n (qQl _) (by have:=h.nd;omega) h.st 0 (by have:=h.nd;omega)
 unfold q2H
 change Option.bind (zL (n,d,l,((0:Nat):Int),s)) _=_
 rw[this]
 rfl
theorem qai {α:Type} {d:List α} {y z:α} {j:Nat} (h:(d++[y])[j]?=some z):d[j]?=some z∨(j=d.length∧z=y):=by
 by_cases hj:j<d.length
 ·rw[qQJ hj] at h
  exact .inl h
 ·rw[qQI (by omega)] at h
  have:=Jl h
  rw[qQn] at this
  have e:j-d.length=0:=by omega
  rw[e] at h
  simp only[qQf,qQV] at h
  exact .inr ⟨by omega,h.symm⟩
theorem qsz {d:List Int} {a:Nat→Int} {w set:Nat} (h:Asg d a 0 w set):Asg (d++[a d.length]) a 0 w set:=⟨h.inn,h.out,fun k y hy x hx hx2=>by
 rcases qai hy with e|⟨e1,e2⟩
 ·exact h.com k y e x hx hx2
 ·rw[e1,e2]⟩
theorem qnc {n:qb} {l:List qa} {set:Nat} (h:q3z n l set) (s:qg) (w4:List Int) (t49 t50:Int) (d:List Int) (hd:d.length+1≤16):∀(m x:Nat),x+m≤1000000→
  (∃v:Nat,x≤v∧v≤x+m∧QQ (d++[(v:Int)]) s l n 0 set=true)→
  ∃v:Nat,x≤v∧v≤x+m∧QQ (d++[(v:Int)]) s l n 0 set=true∧(∀y:Nat,x≤y→y<v→QQ (d++[(y:Int)]) s l n 0 set=false)∧
   zw (q04 w4 n s l (set:Int) (d.length:Int) t49 t50) (d++[(x:Int)])=some (d++[(v:Int)]):=by
 have hstep:∀x:Nat,x≤1000000→q04 w4 n s l (set:Int) (d.length:Int) t49 t50 (d++[(x:Int)])=if QQ (d++[(x:Int)]) s l n 0 set=true then some (.inr (d++[(x:Int)])) else some (.inl (d++[((x+1:Nat):Int)])):=by
  intro x hx
  have hlen:(d++[(x:Int)]).length=d.length+1:=by rw[qQc,qQn]
  have hg:(d++[(x:Int)])[d.length]?=some (x:Int):=by rw[qQI (qQl _),Nat.sub_self];rfl
  have hlt:=h.lt
  have hw:w64 ((x:Int)+1)=((x+1:Nat):Int):=Z9 (by omega) (by omega)
  have hset:(d++[(x:Int)]).set d.length ((x+1:Nat):Int)=d++[((x+1:Nat):Int)]:=by
   rw[List.set_append_right _ _ (qQl _),Nat.sub_self]
   rfl
  unfold q04
  simp only
  rw[qnf h s _ (by omega),qQ5]
  simp only
  rw[if_pos (by rw[zI];omega),qQ8,Je _ hlt,qQ5]
  cases hs:QQ (d++[(x:Int)]) s l n 0 set
  ·rw[if_pos (by decide),if_pos (by rw[hlen];omega),qQ8,hg,qQ5,if_pos (by rw[hlen];omega),if_pos (by rw[hlen];omega),hw,hset]
   rfl
  ·rfl
 intro m
 induction m with
 | zero=>
  intro x hx hv
  obtain⟨v,h1,h2,h3⟩:=hv
  have e:v=x:=by omega
  subst e
  exact⟨v,qQl _,by omega,h3,fun y _ _=>by omega,zu (by rw[hstep v (by omega),if_pos h3])⟩
 | succ m ih=>
  intro x hx hv
  by_cases hs:QQ (d++[(x:Int)]) s l n 0 set=true
  ·exact⟨x,qQl _,by omega,hs,fun y _ _=>by omega,zu (by rw[hstep x (by omega),if_pos hs])⟩
  ·obtain⟨v,h1,h2,h3⟩:=hv
   have hne:v≠x:=fun e=>hs (by rw[←e];exact h3)
   obtain⟨u,u1,u2,u3,u4,u5⟩:=ih (x+1) (by omega) ⟨v,by omega,by omega,h3⟩
   refine⟨u,by omega,by omega,u3,fun y hy hy2=>?_,?_⟩
   ·by_cases e:y=x
    ·subst e;exact qQx.2 hs
    ·exact u4 y (by omega) hy2
   ·rw[zV (by rw[hstep x (by omega),if_neg hs])]
    exact u5
structure q6P (d:List Int) (s:qg) (l:List qa) (n:qb) (set:Nat):Prop where
 ok:QQ d s l n 0 set=true
 val:∀(j:Nat) (y:Int),d[j]?=some y→if set.testBit j=true then 0≤y∧y<(lvN n:Int) else y = -1
 lst:∀(j:Nat) (x:Int),d[j]?=some x→set.testBit j=true→∀y:Nat,(y:Int)<x→QQ (d.take j++[(y:Int)]) s l n 0 set=false
theorem qgT {α:Type} {d:List α} {j:Nat} {x y:α} (h:d[j]?=some x):(d++[y]).take j=d.take j:=List.take_append_of_le_length (by have:=Jl h;omega)
theorem qm4 {n:qb} {l:List qa} {set:Nat} (h:q3z n l set) {s:qg} {d:List Int} (hf:q6P d s l n set) (hd:d.length<l.length) :
  (set.testBit d.length=false→q6P (d++[-1]) s l n set)∧(set.testBit d.length=true→∃v:Nat,v<lvN n∧QQ (d++[(v:Int)]) s l n 0 set=true):=by
 have hll:=h.ll
 obtain⟨a,ha,hm⟩:=(q5D d s l (by omega) n 0 set h.fit h.lt).1 hf.ok
 have hs:=(q5D (d++[a d.length]) s l (by omega) n 0 set h.fit h.lt).2 ⟨a,qsz ha,hm⟩
 constructor
 ·intro hb
  rw[ha.out _ hb] at hs
  refine⟨hs,fun j y hy=>?_,fun j x hx hj y hy=>?_⟩
  ·rcases qai hy with e|⟨e1,e2⟩
   ·exact hf.val j y e
   ·rw[e1,hb,if_neg (by decide)];exact e2
  ·rcases qai hx with e|⟨e1,e2⟩
   ·rw[qgT e];exact hf.lst j x e hj y hy
   ·rw[e1,hb] at hj;exact absurd hj (by decide)
 ·intro hb
  have:=ha.inn _ hb
  refine⟨(a d.length).toNat,by omega,?_⟩
  rw[show(((a d.length).toNat:Nat):Int)=a d.length from by omega]
  exact hs
theorem qip {n:qb} {l:List qa} {set:Nat} (h:q3z n l set) (s:qg):∀(m:Nat) (d:List Int),d.length+m=l.length→q6P d s l n set→
  ∃d',d'.length=l.length∧q6P d' s l n set∧(∃e,d'=d++e)∧zw (Jj n s l (set:Int) (l.length:Int)) (d,Qt set.testBit d,(d.length:Int))=some (Qt set.testBit d'):=by
 intro m
 induction m with
 | zero=>
  intro d hd hf
  refine⟨d,by omega,hf,⟨[],(qQq _).symm⟩,zu ?_⟩
  unfold Jj
  simp only
  rw[if_neg (by omega)]
 | succ m ih=>
  intro d hd hf
  have hll:=h.ll
  have hlt:=h.lt64
  have hML:100000≤maxLen:=by unfold maxLen;omega
  have hsel:=q44 d set.testBit
  obtain⟨f1,f2⟩:=qm4 h hf (by omega)
  have hw:w64 ((d.length:Int)+1)=((d.length+1:Nat):Int):=Z9 (by omega) (by omega)
  have hbit:(ZT Go.BinOp.and IntKind.i64 (Int.fdiv (set:Int) ((2:Int) ^ min (Int.toNat (d.length:Int)) (IntKind.bits IntKind.i64))) (1:Int)==(0:Int)) = !set.testBit d.length:=by
   rw[qQ8,qau set d.length (by omega),show(1:Int)=((1:Nat):Int) from rfl,qfh _ 1 (qQH (Nat.div_le_self _ _) hlt) (by decide),Nat.and_one_is_mod,Nat.testBit_eq_decide_div_mod_eq]
   have:set / 2 ^ d.length % 2<2:=Nat.mod_lt _ (by decide)
   by_cases e:set / 2 ^ d.length % 2=1
   ·rw[e];rfl
   ·have e0:set / 2 ^ d.length % 2=0:=by omega
    rw[e0];rfl
  have hset:∀y z:Int,(d++[y]).set d.length z=d++[z]:=fun y z=>by
   rw[List.set_append_right _ _ (qQl _),Nat.sub_self]
   rfl
  cases hb:set.testBit d.length
  ·obtain⟨d',g1,g2,⟨e,g3⟩,g4⟩:=ih (d++[-1]) (by rw[qQc,qQn];omega) (f1 hb)
   refine⟨d',g1,g2,⟨[-1]++e,by rw[g3,qQL]⟩,?_⟩
   rw[q7f,hb,if_neg (by decide),qQq,qQc,qQn] at g4
   rw[←g4]
   refine zV ?_
   unfold Jj
   simp only
   rw[if_pos (by omega),if_pos ⟨by omega,by omega⟩,if_pos (by omega),hbit,hb,if_pos (by decide),hw]
  ·obtain⟨v0,hv0,hs0⟩:=f2 hb
   have hlv:=h.lv
   obtain⟨v,v1,v2,v3,v4,v5⟩:=qnc h s (Qt set.testBit d) (l.length:Int) (d.length:Int) d (by omega) v0 0 (by omega) ⟨v0,by omega,by omega,hs0⟩
   have hF:q6P (d++[(v:Int)]) s l n set:=⟨v3,fun j y hy=>by
    rcases qai hy with e|⟨e1,e2⟩
    ·exact hf.val j y e
    ·rw[e1,hb,if_pos rfl,e2];omega,fun j x hx hj y hy=>by
    rcases qai hx with e|⟨e1,e2⟩
    ·rw[qgT e];exact hf.lst j x e hj y hy
    ·rw[e1,List.take_left]
     exact v4 y (qQv _) (by omega)⟩
   obtain⟨d',g1,g2,⟨e,g3⟩,g4⟩:=ih (d++[(v:Int)]) (by rw[qQc,qQn];omega) hF
   refine⟨d',g1,g2,⟨[(v:Int)]++e,by rw[g3,qQL]⟩,?_⟩
   rw[q7f,hb,if_pos rfl,qQc,qQn] at g4
   rw[←g4]
   refine zV ?_
   have hg:(d++[(v:Int)])[d.length]?=some (v:Int):=by rw[qQI (qQl _),Nat.sub_self];rfl
   unfold Jj
   simp only
   rw[if_pos (by omega),if_pos ⟨by omega,by omega⟩,if_pos (by omega),hbit,hb,if_neg (by decide),if_pos ⟨by omega,by omega⟩,qQ8,if_pos (qQl _),hset]
   rw[show(0:Int)=((0:Nat):Int) from rfl,v5,qQ5,if_pos (by rw[qQc,qQn];omega),hg,qQ5,if_pos ⟨by omega,by omega⟩,hw]
theorem qhB {n:qb} {l:List qa} {set:Nat} (h:q3z n l set) (s:qg) (hS:q35 n s l=some (Zi (2 ^ l.length) (QQ [] s l n 0),0)) :
  (QQ [] s l n 0 set=false∧q1j n s l (set:Int)=some ([],false))∨
  (QQ [] s l n 0 set=true∧∃d,d.length=l.length∧q6P d s l n set∧q1j n s l (set:Int)=some (Qt set.testBit d,true)):=by
 have hlt:=h.lt
 have hll:=h.ll
 unfold q1j
 rw[hS,qQ5]
 simp only
 rw[if_neg (by decide),if_neg (by omega),if_neg (by rw[zI];omega),if_pos (by rw[zI];omega),qQ8,Je _ hlt,qQ5]
 cases hs:QQ [] s l n 0 set
 ·exact .inl ⟨rfl,by rw[if_pos (by decide)]⟩
 ·refine .inr ⟨rfl,?_⟩
  obtain⟨d',g1,g2,_,g4⟩:=qip h s l.length [] (by simp) ⟨hs,fun j y hy=>by simp at hy,fun j x hx=>by simp at hx⟩
  refine⟨d',g1,g2,?_⟩
  rw[if_neg (by decide),if_pos ⟨by omega,by omega,by omega⟩]
  change Option.bind (zw _ ([],Qt set.testBit [],((([]:List Int).length:Nat):Int))) _=_
  rw[g4]
  rfl
end
noncomputable section
open Go.RowKit
theorem qmA (n:qb) (hn:n.Set.length≤9223372036854775807) (s:qg) (l:List qa) (hl:l.length≤62) (d:List Int) (hd:d.length=l.length) (nx:Nat):q2F n s l d (nx:Int)=some (qj1 n s l (fun j=>d.getD j (-1)==(nx:Int))):=by
 have h1:=q2r (ε:=qO) (step:=Jy d (nx:Int) n s (qO.mk (0:Int) (0:Int) Bool.false) l (l.length:Int)) l (fun(b:qO) i=>(b,(i:Int))) (fun i b a => .inl (if(d.getD i (-1)==(nx:Int))=true then qmx n s b a else b)) (fun b=>b) (fun b i a ha=>by
   have hi:=Jl ha
   have hw:w64 ((i:Int)+1)=((i+1:Nat):Int):=Qk hi (by omega)
   have hb:q1m (i:Int) d (nx:Int)=some (d.getD i (-1)==(nx:Int)):=by
    unfold q1m
    rw[if_pos ⟨by omega,by omega⟩,qQ8,qQ7 (by omega),qQ5,List.getD_eq_getElem?_getD,qQ7 (by omega)]
    rfl
   unfold Jy qmx
   simp only
   rw[if_pos (by omega),if_pos ⟨by omega,by omega⟩,qQ8,ha,qQ5,hw,hb,qQ5]
   cases(d.getD i (-1)==(nx:Int))
   ·simp
   ·cases hf:b.fine
    ·simp
    ·simp[qoH n hn s a]) (fun b=>by
   unfold Jy
   simp only
   rw[if_neg (by omega)]) ld0
 unfold q2F qj1
 change Option.bind (zw _ (ld0,((0:Nat):Int))) _=_
 rw[h1,qQ5]
 congr 1
 have:∀(l:List qa) (i:Nat) (b:qO),q4G (ε:=qO) (fun i (b:qO) (a:qa) => .inl (if(d.getD i (-1)==(nx:Int))=true then qmx n s b a else b)) (fun b=>b) l i b=(Qt (fun j=>d.getD (i+j) (-1)==(nx:Int)) l).foldl (qmx n s) b:=by
  intro l
  induction l with
  | nil=>intro i b;rfl
  | cons a l ih=>
   intro i b
   unfold q4G Qt
   rw[List.foldl_append]
   simp only[Nat.add_zero]
   rw[ih (i+1)]
   rw[show(fun j=>d.getD (i+1+j) (-1)==(nx:Int))=fun j=>d.getD (i+(j+1)) (-1)==(nx:Int) from funext fun j=>by rw[Nat.add_right_comm,qQZ]]
   split<;>rfl
 rw[this l 0 ld0]
 simp only[qQt]
end
noncomputable section
open Go.RowKit
mutual
def itN (d:Int):qb→List qv
 | ⟨k,n,m,S,L⟩=>⟨⟨k,n,m,S,L⟩,d⟩::itL (d+1) L
def itL (d:Int):List qb→List qv
 | []=>[]
 | x::L=>itN d x++itL d L
end
theorem qut (d:Int) (n:qb):itN d n=⟨n,d⟩::itL (d+1) n.L:=by cases n;rw[itN]
theorem qn4:∀(n:qb) (d:Int),(itN d n).map (·.Need)=ndN n:=by
 intro n
 induction n using qb.rec (motive_2:=fun L=>∀d,(itL d L).map (·.Need)=ndL L) with
 | mk k n m S L ih=>intro d;rw[itN,ndN,qQs,ih]
 | nil=>rw[itL,ndL];rfl
 | cons x L h1 h2=>rw[itL,ndL,List.map_append,h1,h2]
theorem qpG (n:qb) (d:Int):(itN d n).length=(ndN n).length:=by rw[←qn4 n d,qQO]
theorem qh2 (rF:(qb×Int×List qv)→Option (Unit⊕(List qv))) (deep:Int) (hd:1≤deep) (n:qb) (hL:n.L.length≤10000)
  (step:List qv×Int→Option ((List qv×Int)⊕(Unit⊕(List qv))))
  (hst:∀w (i:Nat),step (w,(i:Int))=if(i:Int)<((n.L.length:Nat):Int) then if(0:Int)≤i∧(i:Int)<((n.L.length:Nat):Int) then Option.bind n.L[Int.toNat i]? fun a2=>Option.bind (rF (a2,w64 (deep+1),w)) fun a3=>Sum.elim (fun _=>some (Sum.inr (Sum.inl ()))) (fun a5=>some (Sum.inl (a5,w64 ((i:Int)+1)))) a3 else none else some (.inr (.inr w)))
  (hP:∀y∈n.L,∀w,deep+1+hgN y≤101→w.length+(ndN y).length≤10000→rF (y,deep+1,w)=some (.inr (w++itN (deep+1) y))) :
  ∀(r:List qb) (i:Nat) (w:List qv),r.length+i=n.L.length→(∀j,r[j]?=n.L[i+j]?)→deep+1+hgL r≤101→w.length+(ndL r).length≤10000→
  zw step (w,(i:Int))=some (.inr (w++itL (deep+1) r)):=by
 intro r
 induction r with
 | nil=>
  intro i w hi _ _ _
  have hi:i=n.L.length:=by simpa using hi
  subst hi
  refine zu ?_
  rw[hst,if_neg (by omega),itL,qQq]
 | cons y r ih=>
  intro i w hi hr hh hw
  rw[hgL] at hh
  rw[ndL,qQc] at hw
  simp only[qQg] at hi
  have hget:n.L[i]?=some y:=by have:=hr 0;simpa using this.symm
  have hlt:=Jl hget
  have hcall:=hP y (qQ6 hget) w (by omega) (by omega)
  have hstep:step (w,(i:Int))=some (.inl (w++itN (deep+1) y,((i+1:Nat):Int))):=by
   rw[hst,if_pos (by omega),if_pos ⟨by omega,by omega⟩,qQ8,hget,qQ5,Z9 (by omega) (by omega),hcall,qQ5,Qk hlt (by omega)]
   rfl
  rw[zV hstep,ih (i+1) _ (by omega) (fun j=>by rw[show i+1+j=i+(j+1) by omega,←hr (j+1)];rfl) (by omega) (by rw[qQc,qpG];omega),itL,qQL]
theorem qr9:∀(m:Nat) (y:qb),(ndN y).length≤m→∀(deep:Int) (w:List qv),1≤deep→deep+hgN y≤101→w.length+(ndN y).length≤10000→ZC (y,deep,w)=some (.inr (w++itN deep y)):=by
 intro m
 induction m with
 | zero=>intro y h;rw[q0i] at h;simp at h
 | succ m ih=>
  intro y h deep w hd hh hw
  rw[q0i,qQg] at h hw
  rw[qeF] at hh
  have hsub:∀(L:List qb),(ndL L).length≤m→∀z∈L,∀(deep:Int) (w:List qv),1≤deep→deep+hgN z≤101→w.length+(ndN z).length≤10000→ZC (z,deep,w)=some (.inr (w++itN deep z)):=by
   intro L
   induction L with
   | nil=>intro _ z hz;simp at hz
   | cons x L ihl=>
    intro g z hz
    rw[ndL,qQc] at g
    rcases qQr.1 hz with rfl|hz
    ·exact ih _ (by omega)
    ·exact ihl (by omega) z hz
  have hP:=hsub y.L (by omega)
  have hl:=qdv y.L
  have hML:100000≤maxLen:=by unfold maxLen;omega
  rw[qbh,q0J,if_neg (by omega),if_neg (by omega),if_pos ⟨by omega,by omega⟩]
  have h1:=qh2 ZC deep hd y (by omega) (q0E ZC y deep) (fun w i=>by rfl) (fun z hz w g1 g2=>hP z hz (deep+1) w (by omega) g1 g2) y.L 0 (w++[⟨y,deep⟩]) (by simp) (by simp) (by omega) (by rw[qQc,qQn];omega)
  rw[show((0:Nat):Int)=0 from rfl] at h1
  rw[h1,qQ5,Sum.elim_inr,qut,qQL]
  rfl
theorem qsl (n:qb) (hh:hgN n≤100) (hn:(ndN n).length≤9999):q3F n 1=some (.inr (itN 1 n)):=by
 rw[qeF] at hh
 rw[q0i,qQg] at hn
 have hl:=qdv n.L
 unfold q3F
 rw[if_neg (by omega),if_pos (by unfold maxLen;omega)]
 have h1:=qh2 ZC 1 (by omega) n (by omega) (q1u n 1) (fun w i=>by rfl) (fun z hz w g1 g2=>qr9 _ z (qQl _) (1+1) w (by omega) (by omega) g2) n.L 0 [⟨n,1⟩] (by simp) (by simp) (by omega) (by simp only[qQn];omega)
 rw[show((0:Nat):Int)=0 from rfl] at h1
 rw[h1,qQ5,Sum.elim_inr,qut]
 rfl
end
noncomputable section
open Go.RowKit
theorem qrf (items:List qv) (out:List qc) (hl:out.length≤1000000) (t6:Int) (S:List qc) (k:Nat) (c:qc) (hc:S[k]?=some c) (hS:S.length≤1000000):zw (Z0 items out t6 S (k:Int)) 0=some ((atF out c:Nat):Int):=by
 have hk:=Jl hc
 have h1:=q2r (ε:=Int) (step:=Z0 items out t6 S (k:Int)) out (fun(_:Unit) i=>(i:Int)) (fun i _ x=>if q4x x c=true then .inl () else .inr (i:Int)) (fun _=>(out.length:Int)) (fun _ i x hx=>by
   have hi:=Jl hx
   unfold Z0
   rw[if_pos (by omega),if_pos ⟨by omega,by omega⟩,qQ8,hx,qQ5,if_pos ⟨by omega,by omega⟩,qQ8,hc,qQ5,Qk hi (by omega)]
   show(if q4x x c=true then _ else _)=_
   cases q4x x c<;>simp) (fun _=>by
   unfold Z0
   rw[if_neg (by omega)]) ()
 rw[show((0:Nat):Int)=0 from rfl] at h1
 rw[h1]
 congr 1
 have:∀(l:List qc) (i:Nat) (n:Nat),i+l.length=n→q4G (ε:=Int) (fun i (_:Unit) (x:qc)=>if q4x x c=true then .inl () else .inr (i:Int)) (fun _=>(n:Int)) l i ()=((i+atF l c:Nat):Int):=by
  intro l
  induction l with
  | nil=>intro i n h;simp at h;unfold q4G atF;simp[h]
  | cons x l ih=>
   intro i n h
   simp only[qQg] at h
   unfold q4G
   by_cases hx:q4x x c=true
   ·have e:atF (x::l) c=atF l c+1:=by unfold atF;rw[List.takeWhile_cons,if_pos hx];rfl
    simp only[hx,if_true]
    rw[ih (i+1) n (by omega),e]
    omega
   ·have e:atF (x::l) c=0:=by unfold atF;rw[List.takeWhile_cons,if_neg hx];rfl
    have hx':q4x x c=false:=by simpa using hx
    simp only[hx',Bool.false_eq_true,if_false]
    rw[e];rfl
 have:=this out 0 out.length (by simp)
 simpa using this
theorem qfB (items:List qv) (out:List qc) (hl:out.length≤1000) (t6:Int) (S:List qc) (hS:S.length≤1000000) (k:Nat) (c:qc) (hc:S[k]?=some c) :
  Zc items t6 S (out,(k:Int))=some (.inl (qhM out c,((k+1:Nat):Int))):=by
 have hk:=Jl hc
 have hML:100000≤maxLen:=by unfold maxLen;omega
 have hat:=qmE out c
 unfold Zc
 simp only
 rw[if_pos (by omega),qrf items out (by omega) t6 S k c hc hS,qQ5]
 have hwk:w64 ((k:Int)+1)=((k+1:Nat):Int):=by rw[Z9 (by omega) (by omega)];omega
 have hwa:w64 (((atF out c:Nat):Int)+1)=((atF out c+1:Nat):Int):=by rw[Z9 (by omega) (by omega)];omega
 rw[hwk,hwa]
 simp only[qQ8,qQy,qQS,qQc,qQg,qQP]
 rw[hc]
 simp only[qQ5]
 have hkk:(0:Int)≤(k:Int)∧(k:Int)<((S.length:Nat):Int):=⟨by omega,by omega⟩
 simp only[hkk,and_self,if_true]
 unfold qhM
 by_cases hlt:atF out c<out.length
 ·obtain⟨x,hx⟩:∃x,out[atF out c]?=some x:=⟨_,qQ7 hlt⟩
  rw[if_pos (by omega),if_pos ⟨by omega,by omega⟩,hx,qQ5]
  simp only[Option.any_some]
  by_cases hc:ceq x c=true
  ·have hc2:=hc
   unfold ceq at hc2
   simp only[qQB] at hc2
   rw[if_pos hc2,if_pos hc]
  ·have hc2:¬ ((x.School==c.School)=true∧(x.Code.toList==c.Code.toList)=true):=fun h=>hc (by unfold ceq;rw[h.1,h.2];rfl)
   rw[if_neg hc2,if_neg hc]
   repeat (first|rw[if_pos (by omega)]|rw[if_neg (by omega)])
   rw[qnD _ _ _ _ hlt]
 ·have he:atF out c=out.length:=by omega
  have hnone:out[out.length]?=none:=qQD (qQl _)
  rw[he,hnone]
  simp only[Option.any_none,Bool.false_eq_true,if_false]
  repeat (first|rw[if_pos (by omega)]|rw[if_neg (by omega)])
  rw[ql7]
theorem qAI (l:List qc):∀(out:List qc),(l.foldl qhM out).length≤out.length+l.length:=by
 induction l with
 | nil=>intro out;simp
 | cons c l ih=>
  intro out
  rw[qR9,qQg]
  have:=ih (qhM out c)
  have:=(qiJ out c).2.1
  omega
theorem qj5 (items:List qv) (t6:Int) (S:List qc) (hS:S.length≤100):∀(r:List qc) (k:Nat) (out:List qc),r.length+k=S.length→(∀j,r[j]?=S[k+j]?)→out.length+r.length≤1000→zw (Zc items t6 S) (out,(k:Int))=some (r.foldl qhM out):=by
 intro r
 induction r with
 | nil=>
  intro k out hk _ _
  have hk:k=S.length:=by simpa using hk
  subst hk
  refine zu ?_
  unfold Zc
  simp only
  rw[if_neg (by omega)]
  rfl
 | cons c r ih=>
  intro k out hk hr hl
  simp only[qQg] at hk hl
  have hget:S[k]?=some c:=by have:=hr 0;simpa using this.symm
  rw[zV (qfB items out (by omega) t6 S (by omega) k c hget),qR9]
  have:=(qiJ out c).2.1
  exact ih (k+1) _ (by omega) (fun j=>by rw[show k+1+j=k+(j+1) by omega,←hr (j+1)];rfl) (by omega)
theorem qhU (items:List qv) (hn:items.length≤100) (hS:∀x∈items,x.Need.Set.length≤3):∀(r:List qv) (i:Nat) (out:List qc),r.length+i=items.length→(∀j,r[j]?=items[i+j]?)→out.length+3*r.length≤900→∃cs,zw (Zb items) (out,(i:Int))=some cs∧cs.length≤900:=by
 intro r
 induction r with
 | nil=>
  intro i out hi _ hl
  have hi:i=items.length:=by simpa using hi
  subst hi
  refine⟨out,zu ?_,by simp at hl;omega⟩
  unfold Zb
  simp only
  rw[if_neg (by omega)]
 | cons x r ih=>
  intro i out hi hr hl
  simp only[qQg] at hi hl
  have hget:items[i]?=some x:=by have:=hr 0;simpa using this.symm
  have hlt:=Jl hget
  have hx:=hS x (qQ6 hget)
  have hs:=qj5 items (i:Int) x.Need.Set (by omega) x.Need.Set 0 out (by simp) (by simp) (by omega)
  rw[show((0:Nat):Int)=0 from rfl] at hs
  have hp:=qAI x.Need.Set out
  obtain⟨cs,h1,h2⟩:=ih (i+1) (x.Need.Set.foldl qhM out) (by omega) (fun j=>by rw[show i+1+j=i+(j+1) by omega,←hr (j+1)];rfl) (by omega)
  refine⟨cs,?_,h2⟩
  rw[zV (y:=(x.Need.Set.foldl qhM out,((i+1:Nat):Int))) (by
   unfold Zb
   simp only
   rw[if_pos (by omega),if_pos ⟨by omega,by omega⟩,qQ8,hget,qQ5,hs,qQ5,Qk hlt (by omega)])]
  exact h1
theorem qm0 {n:qb} (h:q6u 3 6 n):∃cs,q1r n=some cs∧cs.length≤900:=by
 have h1:=h.hg
 have h2:=h.l2
 have h3:=h.nd
 have hlen:=qpG n 1
 have hS:∀x∈itN 1 n,x.Need.Set.length≤3:=fun x hx=>by
  have hm:x.Need∈ndN n:=by rw[←qn4 n 1];exact qQQ.2 ⟨x,hx,rfl⟩
  rcases h.ok _ hm with h|h
  ·exact h.s3
  ·rw[h.st];simp
 obtain⟨cs,g1,g2⟩:=qhU (itN 1 n) (by omega) hS (itN 1 n) 0 [] (by simp) (by simp) (by simp;omega)
 refine⟨cs,?_,g2⟩
 unfold q1r
 rw[qsl n (by omega) (by omega),qQ5,Sum.elim_inr]
 rw[show((0:Nat):Int)=0 from rfl] at g1
 rw[g1,qQ5]
theorem qBT (x m:Int) (h0:0<m) (h1:m≤1000000):∃v,q4z x m=some v∧0≤v∧v<m:=by
 have e1:=Int.tmod_lt_of_pos x h0
 have e2 : -m<Int.tmod x m:=by
  have:=Int.tmod_lt_of_pos (-x) h0
  rw[Int.neg_tmod] at this;omega
 have e3:w64 (Int.tmod x m+m)=Int.tmod x m+m:=Z9 (by omega) (by omega)
 refine⟨Int.tmod (Int.tmod x m+m) m,?_,Int.tmod_nonneg _ (by omega),Int.tmod_lt_of_pos _ h0⟩
 unfold q4z
 rw[if_neg (by omega),if_neg (by omega),e3]
theorem qlU {d:qi} (h:q0M d) {most:Int} (h0:0<most) (h1:most≤1000000):∃v d',QM most d=some (v,d')∧0≤v∧v<most∧q0M d':=by
 obtain⟨a,b,c⟩:=h
 unfold QM
 by_cases he:(d.L.length:Int)≤d.At
 ·exact⟨0,d,if_pos he,Int.le_refl _,h0,⟨a,b,c⟩⟩
 ·obtain⟨x,hx⟩:∃x,d.L[Int.toNat d.At]?=some x:=⟨_,qQ7 (by omega)⟩
  obtain⟨v,e1,e2,e3⟩:=qBT x most h0 h1
  have e6:w64 (d.At+1)=d.At+1:=Z9 (by omega) (by omega)
  have e7:w64 (d.At+1-1)=d.At:=by rw[Z9 (by omega) (by omega)];omega
  refine⟨v,⟨d.L,d.At+1⟩,?_,e2,e3,⟨by show 0≤d.At+1;omega,by show d.At+1≤d.L.length;omega,c⟩⟩
  rw[if_neg he,e6,e7,if_pos ⟨a,by omega⟩,hx,qQ5,e1,qQ5]
end

noncomputable section
open Go.RowKit
theorem qAt:∀L:List qb,L.length≤(ndL L).length
 | []=>qQv _
 | x::L=>by
  have:=qAt L
  rw[ndL,qQc,q0i,qQg,qQg]
  omega
theorem qhj (s:qg) (l:List qa) (hl:l.length≤62) (d:List Int) (hd:d.length=l.length):∀(n:qb) (nx:Nat),(∀y∈ndN n,y.Set.length≤1000000)→nx+(ndN n).length≤100000→
  JN (n,s,l,d,(nx:Int))=some ((q4X s l (fun j=>d.getD j (-1)) n nx).1,(q4X s l (fun j=>d.getD j (-1)) n nx).2,s,l,d,((nx+lvN n:Nat):Int)):=by
 intro n
 induction n using qb.rec (motive_2:=fun L=>∀(b5:qb) (pre:List qb) (nx many:Nat) (em wr:Bool),(∀y∈ndL L,y.Set.length≤1000000)→nx+(ndL L).length≤100000→many+L.length≤200000→pre.length+L.length≤200000→
   zw (JD JN b5 (pre++L) ((pre++L).length:Int)) (s,l,d,(nx:Int),em,(many:Int),wr,(pre.length:Int)) =
    some (s,l,d,((nx+lvL L:Nat):Int),em&&(q2N s l (fun j=>d.getD j (-1)) (b5.Kind==3) L nx).1,((many+(q2N s l (fun j=>d.getD j (-1)) (b5.Kind==3) L nx).2.1:Nat):Int),wr||(q2N s l (fun j=>d.getD j (-1)) (b5.Kind==3) L nx).2.2)) with
 | mk k n m S L ih=>
  intro nx hs hn
  rw[ndN,qQg] at hn
  rw[qc8]
  unfold q14
  simp only
  rw[qcA,q5Z,lvN]
  have hlf:qaf ⟨k,n,m,S,L⟩=decide (k=1∨k=2):=by
   unfold qaf
   simp only
   by_cases h1:k=1
   ·subst h1;rfl
   ·by_cases h2:k=2
    ·subst h2;rfl
    ·rw[beq_eq_false_iff_ne.2 h1,beq_eq_false_iff_ne.2 h2,decide_eq_false (by omega)];rfl
  rw[hlf]
  by_cases hk:k=1∨k=2
  ·have hsz:=hs _ (qdl _)
   rw[if_pos (qR6 hk),if_pos hk,if_pos hk,qmA _ (by omega) s l hl d hd nx,qQ5]
   simp only
   generalize qj1 ⟨k,n,m,S,L⟩ s l (fun j=>d.getD j (-1)==(nx:Int))=x
   have hw:w64 ((nx:Int)+1)=((nx+1:Nat):Int):=Z9 (by omega) (by omega)
   rw[hw]
   unfold q1l
   by_cases h1:k=1
   ·subst h1
    have hx:Q4 x ⟨1,n,m,S,L⟩=qeK ⟨1,n,m,S,L⟩ x:=by
     unfold Q4 qeK
     rw[if_pos rfl]
     cases x.fine<;>simp
    rw[if_pos (by decide),qQ5,Sum.elim_inl,hx]
   ·have hx:Qw x ⟨k,n,m,S,L⟩=qeK ⟨k,n,m,S,L⟩ x:=by
     unfold Qw qeK
     simp only
     rw[if_neg h1]
     cases x.fine
     ·simp
     ·by_cases h:0<x.many<;>simp[h]
    rw[if_neg (by rw[beq_eq_false_iff_ne.2 h1];decide),qQ5,Sum.elim_inr,hx]
  ·have hln:=qAt L
   have h:=ih ⟨k,n,m,S,L⟩ [] nx 0 true false (fun y hy=>hs y (by rw[ndN];exact qQd _ hy)) (by omega) (by omega) (by simp;omega)
   rw[if_neg (by rw[decide_eq_false hk];decide),if_neg hk,if_neg hk]
   simp only[qQp] at h
   change Option.bind (zw _ (s,l,d,(nx:Int),true,((0:Nat):Int),false,((([]:List qb).length:Nat):Int))) _=_
   rw[h,qQ5]
   simp only[qQC,Bool.false_or,qQt]
   cases(q2N s l (fun j=>d.getD j (-1)) (k==3) L nx).2.2<;>simp
 | nil=>
  rename_i b5 pre nx many em wr hs hn hm hp
  rw[lvL,q2N]
  refine zu ?_
  unfold JD
  simp only
  rw[qQq,if_neg (by omega)]
  simp
 | cons x L h1 h2=>
  rename_i b5 pre nx many em wr hs hn hm hp
  rw[ndL,qQc] at hn
  rw[qQg] at hm hp
  have hx:=h1 nx (fun y hy=>hs y (by rw[ndL];exact qQh _ hy)) (by omega)
  have hlv:=qmi x
  have hw:w64 ((pre.length:Int)+1)=((pre.length+1:Nat):Int):=Z9 (by omega) (by omega)
  have hw2:w64 ((many:Int)+1)=((many+1:Nat):Int):=Z9 (by omega) (by omega)
  have hL:=h2 b5 (pre++[x]) (nx+lvN x) (many+if(q4X s l (fun j=>d.getD j (-1)) x nx).2=true then 1 else 0) (em&&(q4X s l (fun j=>d.getD j (-1)) x nx).1) (wr||(!(q4X s l (fun j=>d.getD j (-1)) x nx).2&&(!(q4X s l (fun j=>d.getD j (-1)) x nx).1||(b5.Kind==3)))) (fun y hy=>hs y (by rw[ndL];exact qQe _ hy)) (by omega) (by split<;>omega) (by rw[qQc,qQn];omega)
  rw[qQL,qRc,show(pre++[x]).length=pre.length+1 from by rw[qQc,qQn]] at hL
  have hg:(pre++x::L)[pre.length]?=some x:=by rw[qQI (qQl _),Nat.sub_self];rfl
  rw[q2N,lvL]
  simp only
  rw[zV (y:=(s,l,d,((nx+lvN x:Nat):Int),em&&(q4X s l (fun j=>d.getD j (-1)) x nx).1,((many+(if(q4X s l (fun j=>d.getD j (-1)) x nx).2=true then 1 else 0):Nat):Int),wr||(!(q4X s l (fun j=>d.getD j (-1)) x nx).2&&(!(q4X s l (fun j=>d.getD j (-1)) x nx).1||(b5.Kind==3))),((pre.length+1:Nat):Int))) ?_,hL]
  ·simp only[qQZ,Bool.and_assoc,Bool.or_assoc]
  ·unfold JD
   simp only
   rw[if_pos (by rw[qQc,qQg];omega),if_pos (by rw[qQc,qQg];omega),qQ8,hg,qQ5,hx,qQ5]
   simp only
   rw[hw,hw2]
   generalize (q4X s l (fun j=>d.getD j (-1)) x nx).1=q1
   generalize (q4X s l (fun j=>d.getD j (-1)) x nx).2=q2
   cases em<;>cases wr<;>cases q1<;>cases q2<;>simp
end
noncomputable section
open Go.RowKit
theorem qoD:∀n:qb,(∀y∈ndN n,q2V y)→lvN n≤((ndN n).filter q0r).length:=by
 intro n
 induction n using qb.rec (motive_2:=fun L=>(∀y∈ndL L,q2V y)→lvL L≤((ndL L).filter q0r).length) with
 | mk k n m S L ih=>
  intro hf
  have h1:=ih fun y hy=>hf y (by rw[ndN];exact qQd _ hy)
  rw[lvN,ndN,List.filter_cons]
  have hk:=(hf _ (qdl _)).kind
  simp only at hk
  by_cases h:k=1∨k=2
  ·rw[if_pos h,if_pos (by unfold q0r;simp only;rcases h with h|h<;>subst h<;>decide),qQg]
   omega
  ·rw[if_neg h]
   split
   ·rw[qQg];omega
   ·exact h1
 | nil=>rename_i hf;rw[lvL];exact qQv _
 | cons x L h1 h2=>
  rename_i hf
  have a:=h1 fun y hy=>hf y (by rw[ndL];exact qQh _ hy)
  have b:=h2 fun y hy=>hf y (by rw[ndL];exact qQe _ hy)
  rw[lvL,ndL,List.filter_append,qQc]
  omega
theorem qkr (d:List Int) (hd:d.length≤100) (v:Int) (h:∀(j:Nat) (y:Int),d[j]?=some y→Zn y v=false):zT d v=some false:=by
 have h1:=q2z (step:=zq v d (d.length:Int)) (e := .inr ()) (fun i=>(i:Int)) 0 d.length (qQv _) (fun i _ hi=>by
   obtain⟨y,hy⟩:∃y,d[i]?=some y:=⟨_,qQ7 hi⟩
   have hw:w64 ((i:Int)+1)=((i+1:Nat):Int):=Qk (n:=100) (by omega) (by omega)
   unfold zq
   rw[if_pos (by omega),if_pos ⟨by omega,by omega⟩,qQ8,hy,qQ5,h i y hy,if_neg (by decide),hw]) (by
   unfold zq
   rw[if_neg (by omega)])
 unfold zT QP
 change Option.bind (Option.bind (zw _ ((0:Nat):Int)) _) _=_
 rw[h1]
 rfl
end
noncomputable section
open Go.RowKit
def qwX (W:Nat) (l:List Int):Nat:=l.foldl (fun acc y=>acc*W+(y+1).toNat) 0
theorem qh4 (W:Nat) (l:List Int) (y:Int):qwX W (l++[y])=qwX W l*W+(y+1).toNat:=by
 unfold qwX
 rw[List.foldl_append]
 rfl
def Holds (b:List Int) (set w:Nat):Prop:=∀(j:Nat) (y:Int),b[j]?=some y→if set.testBit j=true then 0≤y∧y<(w:Int) else y = -1
theorem qcT {n:qb} {l:List qa} {set:Nat} (h:q3z n l set) {b:List Int} (hb:b.length=l.length) (hv:Holds b set (lvN n)) (j:Nat):Asg (b.take j) (fun k=>b.getD k (-1)) 0 (lvN n) set:=by
 have hget:∀k y,b[k]?=some y→b.getD k (-1)=y:=fun k y hk=>by rw[List.getD_eq_getElem?_getD,hk];rfl
 refine⟨fun k hk=>?_,fun k hk=>?_,fun k y hy x hx hx2=>?_⟩
 ·have hl:=qo9 h.lt hk
  obtain⟨y,hy⟩:∃y,b[k]?=some y:=⟨_,qQ7 (by omega)⟩
  have:=hv k y hy
  rw[if_pos hk] at this
  show _≤b.getD k (-1)∧b.getD k (-1)<_
  rw[hget k y hy]
  omega
 ·show b.getD k (-1) = -1
  by_cases hl:k<b.length
  ·have hy:=qQ7 hl
   have:=hv k _ hy
   rw[hk,if_neg (by decide)] at this
   rw[hget k _ hy,this]
  ·rw[List.getD_eq_getElem?_getD,qQD (by omega)];rfl
 ·rw[List.getElem?_take] at hy
  split at hy
  ·show y=x↔b.getD k (-1)=x
   rw[hget k y hy]
  ·cases hy
theorem qhu {n:qb} {l:List qa} {set:Nat} (h:q3z n l set) {s:qg} {d b:List Int} (hd:d.length=l.length) (hf:q6P d s l n set) (hb:b.length=l.length) (hv:Holds b set (lvN n))
  (hm:(q4X s l (fun k=>b.getD k (-1)) n 0).2=true):d=b∨qwX (lvN n+1) d<qwX (lvN n+1) b:=by
 have hll:=h.ll
 have key:∀j,j≤l.length→d.take j=b.take j∨qwX (lvN n+1) (d.take j)<qwX (lvN n+1) (b.take j):=by
  intro j
  induction j with
  | zero=>intro _;left;rw[List.take_zero,List.take_zero]
  | succ j ih=>
   intro hj
   obtain⟨x,hx⟩:∃x,d[j]?=some x:=⟨_,qQ7 (by omega)⟩
   obtain⟨z,hz⟩:∃z,b[j]?=some z:=⟨_,qQ7 (by omega)⟩
   have ed:d.take (j+1)=d.take j++[x]:=by rw[List.take_add_one,hx];rfl
   have eb:b.take (j+1)=b.take j++[z]:=by rw[List.take_add_one,hz];rfl
   have vx:=hf.val j x hx
   have vz:=hv j z hz
   have hA:=(q5D (b.take (j+1)) s l (by omega) n 0 set h.fit h.lt).2 ⟨_,qcT h hb hv (j+1),hm⟩
   rw[ed,eb,qh4,qh4]
   rw[eb] at hA
   rcases ih (by omega) with e|e
   ·by_cases hbit:set.testBit j=true
    ·rw[if_pos hbit] at vx vz
     rcases Int.lt_trichotomy z x with g|g|g
     ·exfalso
      have:=hf.lst j x hx hbit z.toNat (by omega)
      rw[e,show((z.toNat:Nat):Int)=z from by omega,hA] at this
      exact absurd this (by decide)
     ·left;rw[e,g]
     ·right;rw[e];omega
    ·rw[if_neg hbit] at vx vz
     left;rw[e,vx,vz]
   ·right
    have h1:(x+1).toNat<lvN n+1:=by split at vx<;>omega
    have:=Nat.mul_le_mul_right (lvN n+1) e
    rw[Nat.succ_mul] at this
    omega
 have:=key l.length (qQl _)
 rwa [qRd (by omega),qRd (by omega)] at this
def qwa (b:List Int):Nat:=mkS (fun j=>decide (0≤b.getD j (-1))) b.length
theorem qfO {b:List Int} {j:Nat} {y:Int} (h:b[j]?=some y):(qwa b).testBit j=decide (0≤y):=by
 unfold qwa
 rw[qdz,qR6 (Jl h),qQC,List.getD_eq_getElem?_getD,h]
 rfl
theorem qw6 (b:List Int):qwa b<2 ^ b.length:=qtF _ _
theorem qlI {b:List Int} {w:Nat} (h:∀(j:Nat) (y:Int),b[j]?=some y → -1≤y∧y<(w:Int)):Holds b (qwa b) w:=fun j y hy=>by
 have:=h j y hy
 rw[qfO hy]
 by_cases e:0≤y
 ·rw[if_pos (qR6 e)];omega
 ·rw[decide_eq_false e,if_neg (by decide)];omega
def qi6 (n:qb) (s:qg) (l:List qa) (b:List Int):Bool:=(q4X s l (fun k=>b.getD k (-1)) n 0).2
theorem qgD {n:qb} {l:List qa} {set:Nat} (h:q3z n l set) {s:qg} {b:List Int} (hb:b.length=l.length) (hv:Holds b set (lvN n)) (hm:qi6 n s l b=true):QQ [] s l n 0 set=true:=by
 have:=qcT h hb hv 0
 rw[List.take_zero] at this
 exact(q5D [] s l (by have:=h.ll;omega) n 0 set h.fit h.lt).2 ⟨_,this,hm⟩
end
noncomputable section
open Go.RowKit
theorem qax {n:qb} {l:List qa} {set:Nat} (h:q3z n l set) {s:qg} {d:List Int} (hd:d.length=l.length) (hf:q6P d s l n set):qi6 n s l d=true:=by
 have hll:=h.ll
 obtain⟨a,ha,hm⟩:=(q5D d s l (by omega) n 0 set h.fit h.lt).1 hf.ok
 have hget:∀j,j<l.length→∃y,d[j]?=some y∧d.getD j (-1)=y:=fun j hj=>⟨d[j]'(by omega),qQ7 (by omega),by rw[List.getD_eq_getElem?_getD,qQ7 (by omega)];rfl⟩
 have hv:q4X s l (fun j=>d.getD j (-1)) n 0=q4X s l a n 0:=q5r s l _ a n 0 fun k hk x hx hx2=>by
  obtain⟨y,hy,e⟩:=hget k hk
  show d.getD k (-1)=x↔a k=x
  rw[e]
  exact ha.com k y hy x hx (by omega)
 unfold qi6
 rw[hv];exact hm
theorem qim {n:qb} {l:List qa} {set:Nat} {s:qg} {d:List Int} (hf:q6P d s l n set) (j:Nat) (y:Int) (hy:d[j]?=some y) : -1≤y∧y+1<((lvN n+1:Nat):Int):=by
 have:=hf.val j y hy
 split at this<;>omega
end
noncomputable section
open Go.RowKit
structure Szs (n:qb):Prop where
 hg:hgN n≤100
 nd:(ndN n).length≤9999
 st:∀y∈ndN n,y.Set.length≤1000000
structure Rgt (n:qb):Prop where
 sz:Szs n
 ck:q6T n=0
theorem qlh:∀l:List qb,(qua l).getD 0=0→∀y∈l,q6R y=0
 | [],_,y,hy=>by cases hy
 | x::l,h,y,hy=>by
  unfold qua at h
  rw[List.findSome?_cons] at h
  by_cases hx:q6R x=0
  ·simp only[hx,ne_eq,not_true_eq_false,if_false] at h
   rcases qQr.1 hy with e|hy
   ·rw[e];exact hx
   ·exact qlh l h y hy
  ·simp only[hx,ne_eq,not_false_eq_true,if_true,Option.getD_some] at h
theorem qlu {n:qb} (h:Rgt n):∀y∈ndN n,q6R y=0:=by
 have hc:=h.ck
 unfold q6T at hc
 split at hc
 ·exact absurd hc (by decide)
 split at hc
 ·exact absurd hc (by decide)
 split at hc
 ·exact absurd hc (by decide)
 exact qlh _ hc
theorem qkq {y:qb} (h:q6R y=0):q2V y:=by
 unfold q6R at h
 by_cases e1:y.Kind=1
 ·exact⟨.inl e1,fun e=>by omega,fun e=>by omega⟩
 rw[if_neg e1] at h
 by_cases e2:y.Kind=2
 ·exact⟨.inr (.inl e2),fun e=>by omega,fun e=>by omega⟩
 rw[if_neg e2] at h
 by_cases e3:y.Kind=3
 ·rw[if_pos e3] at h
  split at h
  ·exact absurd h (by decide)
  ·rename_i hb
   have hb1:q8W y=true:=by
    cases hq:q8W y
    ·exact absurd (.inl hq) hb
    ·rfl
   have hb2:y.N=0:=Classical.byContradiction fun q=>hb (.inr q)
   unfold q8W at hb1
   simp only[qQB] at hb1
   refine⟨.inr (.inr (.inl e3)),fun _=>⟨by omega,fun q=>?_⟩,fun e=>by omega⟩
   rw[q] at hb1
   exact absurd hb1.2 (by decide)
 rw[if_neg e3] at h
 by_cases e4:y.Kind=4
 ·rw[if_pos e4] at h
  split at h
  ·exact absurd h (by decide)
  ·split at h
   ·exact absurd h (by decide)
   ·rename_i hi
    have:inF y.N 1 y.L.length=true:=by simpa using hi
    unfold inF at this
    rw[qQB,qR5] at this
    exact⟨.inr (.inr (.inr e4)),fun e=>by omega,fun _=>this.1⟩
 ·rw[if_neg e4] at h
  exact absurd h (by decide)
theorem qpd {n:qb} (h:Rgt n):∀y∈ndN n,q2V y:=fun y hy=>qkq (qlu h y hy)
theorem q4e {n:qb} (h:Rgt n) {l:List qa} (hl:l.length≤10) {set:Nat} (hs:set<2 ^ l.length):q3z n l set:=⟨qpd h,h.sz.nd,h.sz.st,by omega,hs⟩
theorem qfi {n:qb} (h:Rgt n) (s:qg) (l:List qa) (hl:l.length≤10):q35 n s l=some (Zi (2 ^ l.length) (QQ [] s l n 0),0):=by
 have h4:=h.sz.nd
 unfold q35
 rw[q7W n h.sz.hg h.sz.nd h.sz.st,h.ck,qQ5,if_neg (by decide),if_neg (by omega)]
 unfold q67
 have:=qp8 [] rfl s l (by omega) _ n (qQl _) (by omega) h.sz.st 0 (by omega)
 rw[show((0:Nat):Int)=0 from rfl] at this
 rw[this,qQ5,qQ5]
theorem qh0 {n:qb} (h:Rgt n) {l:List qa} (hl:l.length≤10) (s:qg) (d:List Int) (hd:d.length=l.length) (hv:∀(j:Nat) (y:Int),d[j]?=some y → -1≤y∧y<(lvN n:Int)):q1x n s l d=some (qi6 n s l d):=by
 have hnd:=h.sz.nd
 have hlf:=qoD n (qpd h)
 unfold q1x
 rw[qcO n h.sz.hg hnd h.sz.st,qQ5,q7W n h.sz.hg hnd h.sz.st,h.ck,qQ5,if_neg (by decide),if_neg (by rw[hd];simp),qkr d (by omega) _ fun j y hy=>?_,qQ5,if_neg (by decide)]
 ·change Option.bind (JN (n,s,l,d,((0:Nat):Int))) _=_
  rw[qhj s l (by omega) d hd n 0 h.sz.st (by omega),qQ5]
  rfl
 ·have:=hv j y hy
  unfold Zn
  rw[if_neg (by omega)];exact decide_eq_false (by omega)
theorem qeQ {n:qb} {l:List qa} {set:Nat} (h:q3z n l set) {s:qg} {d b:List Int} (hd:d.length=l.length) (hf:q6P d s l n set) (hb:b.length=l.length) (hg:q6P b s l n set):d=b:=by
 rcases qhu h hd hf hb hg.val (qax h hb hg) with e|e
 ·exact e
 ·rcases qhu h hb hg hd hf.val (qax h hd hf) with e2|e2
  ·exact e2.symm
  ·omega
theorem qdC {n:qb} {l:List qa} {set:Nat} (h:q3z n l set) {s:qg} {d:List Int} (hd:d.length=l.length) (hf:q6P d s l n set):QQ [] s l n 0 set=true:=
 qgD h hd hf.val (qax h hd hf)
theorem qn8 {n:qb} (h:Rgt n) {l:List qa} (hl:l.length≤10) {set:Nat} (hs:set<2 ^ l.length) (s:qg) {d:List Int} (hd:d.length=l.length) (hf:q6P d s l n set):q1j n s l (set:Int)=some (Qt set.testBit d,true):=by
 have hG:=q4e h hl hs
 rcases qhB hG s (qfi h s l hl) with ⟨g1,_⟩|⟨_,b,g2,g3,g4⟩
 ·rw[qdC hG hd hf] at g1;cases g1
 ·rw[g4,qeQ hG hd hf g2 g3]
end
noncomputable section
open Go.RowKit
theorem qts (d:List Int) (hd:d.length≤100) (v:Int):∀(j i:Nat),j+i=d.length→(∃k y,i≤k∧d[k]?=some y∧Zn y v=true)→∃r:Nat,zw (zq v d ((d.length:Nat):Int)) (i:Int)=some (.inl (r:Int)):=by
 intro j
 induction j with
 | zero=>
  rintro i hi ⟨k,y,h1,h2,_⟩
  have:=Jl h2
  omega
 | succ j ih=>
  rintro i hi ⟨k,y,h1,h2,h3⟩
  have ha:d[i]?=some (d[i]'(by omega)):=qQ7 (by omega)
  generalize d[i]'(by omega)=a at ha
  have hw:w64 ((i:Int)+1)=((i+1:Nat):Int):=Qk (n:=1000) (by omega) (by omega)
  by_cases hq:Zn a v=true
  ·refine⟨i,zu ?_⟩
   unfold zq
   rw[if_pos (by omega),if_pos ⟨by omega,by omega⟩,qQ8,ha,qQ5,if_pos hq]
  ·have hk:i+1≤k:=by
    rcases Nat.lt_or_ge i k with h|h
    ·exact h
    ·have e:k=i:=by omega
     subst e
     rw[h2,qQV] at ha
     subst ha
     exact absurd h3 hq
   obtain⟨r,g⟩:=ih (i+1) (by omega) ⟨k,y,hk,h2,h3⟩
   refine⟨r,?_⟩
   rw[zV,g]
   unfold zq
   rw[if_pos (by omega),if_pos ⟨by omega,by omega⟩,qQ8,ha,qQ5,if_neg hq,hw]
def qu9 (n:qb) (d:List Int):Bool:=d.any fun y=>Zn y ((((ndN n).filter q0r).length:Nat):Int)
theorem qgB (n:qb) (d:List Int) (hd:d.length≤100):zT d ((((ndN n).filter q0r).length:Nat):Int)=some (qu9 n d):=by
 cases h:qu9 n d
 ·refine qkr d hd _ fun j y hy=>?_
  unfold qu9 at h
  rw[List.any_eq_false] at h
  have:=h y (qQ6 hy)
  simpa using this
 ·unfold qu9 at h
  rw[qR0] at h
  obtain⟨y,hy,h3⟩:=h
  obtain⟨k,hk⟩:=List.mem_iff_getElem?.1 hy
  obtain⟨r,g⟩:=qts d hd _ d.length 0 (by omega) ⟨k,y,qQv _,hk,h3⟩
  unfold zT QP
  change Option.bind (Option.bind (zw _ ((0:Nat):Int)) _) _=_
  rw[g,qQ5,Sum.elim_inl,qQ5,qR6 (by omega)]
def qhk (n:qb) (s:qg) (l:List qa) (d:List Int):Bool:=if q6T n≠0 then false else if d.length≠l.length then false else if qu9 n d=true then false else(q4X s l (fun j=>d.getD j (-1)) n 0).2
theorem qok {n:qb} (hz:Szs n) (s:qg) (l:List qa) (hl:l.length≤10) (d:List Int) (hd:d.length≤100):q1x n s l d=some (qhk n s l d):=by
 have hnd:=hz.nd
 unfold q1x qhk
 rw[qcO n hz.hg hnd hz.st,qQ5,q7W n hz.hg hnd hz.st,qQ5]
 by_cases hc:q6T n=0
 ·have c1:¬ (q6T n≠0):=fun q=>q hc
  have c2:¬ ((q6T n != 0)=true):=by rw[hc];decide
  rw[if_neg c1,if_neg c2]
  by_cases hq:d.length=l.length
  ·have c3:¬ (d.length≠l.length):=fun q=>q hq
   have c4:¬ ((((d.length:Nat):Int) != ((l.length:Nat):Int))=true):=by rw[hq];simp
   rw[if_neg c3,if_neg c4,qgB n d hd,qQ5]
   cases ho:qu9 n d
   ·rw[if_neg (by decide),if_neg (by decide)]
    change Option.bind (JN (n,s,l,d,((0:Nat):Int))) _=_
    rw[qhj s l (by omega) d hq n 0 hz.st (by omega),qQ5]
   ·rw[if_pos rfl,if_pos rfl]
  ·have c4:(((d.length:Nat):Int) != ((l.length:Nat):Int))=true:=by rw[bne_iff_ne];omega
   rw[if_pos c4,if_pos hq]
 ·have c2:(q6T n != 0)=true:=by simpa using hc
  rw[if_pos c2,if_pos hc]
end
noncomputable section
open Go.RowKit
def rkF (m:Nat→Bool):Nat→Nat
 | 0=>0
 | k+1=>rkF m k+if m k=true then 1 else 0
theorem qct (m:Nat→Bool):∀k,rkF m (k+1)=(if m 0=true then 1 else 0)+rkF (fun j=>m (j+1)) k
 | 0=>by simp[rkF]
 | k+1=>by rw[rkF,qct m k,rkF];omega
def qbq (m:Nat→Bool) (d:Nat→Int):Nat→Int:=fun k=>if m k=true then d (rkF m k) else -1
theorem q9V {α:Type}:∀(l:List α) (m p:Nat→Bool),Qt p (Qt m l)=Qt (fun k=>m k&&p (rkF m k)) l
 | [],_,_=>rfl
 | a::l,m,p=>by
  have e:∀j,rkF m (j+1)=(if m 0=true then 1 else 0)+rkF (fun j=>m (j+1)) j:=qct m
  rw[Qt,Qt]
  cases h:m 0
  ·rw[if_neg (by decide),qQp,q9V l,qR8,if_neg (by decide),qQp]
   refine q2Y fun j _=>?_
   show(m (j+1)&&p (rkF (fun j=>m (j+1)) j))=(m (j+1)&&p (rkF m (j+1)))
   rw[e j,h,if_neg (by decide),qQt]
  ·rw[if_pos rfl,qRc,Qt,q9V l,qQC]
   congr 1
   refine q2Y fun j _=>?_
   show(m (j+1)&&p (rkF (fun j=>m (j+1)) j+1))=(m (j+1)&&p (rkF m (j+1)))
   rw[e j,h,if_pos rfl,Nat.add_comm 1]
theorem q7V {α β:Type} (f:α→β):∀(l:List α) (m:Nat→Bool),Qt m (l.map f)=(Qt m l).map f
 | [],_=>rfl
 | a::l,m=>by rw[qQs,Qt,Qt,q7V f l,List.map_append];cases m 0<;>rfl
theorem qks (s:qg) (l:List qa) (m:Nat→Bool) (d:Nat→Int):∀(n:qb) (nx:Nat),q4X s (Qt m l) d n nx=q4X s l (qbq m d) n nx:=by
 intro n
 induction n using qb.rec (motive_2:=fun L=>∀(al:Bool) (nx:Nat),q2N s (Qt m l) d al L nx=q2N s l (qbq m d) al L nx) with
 | mk k n mi S L ih=>
  intro nx
  rw[q5Z,q5Z]
  by_cases hk:k=1∨k=2
  ·rw[if_pos hk,if_pos hk]
   have:Qt (fun j=>d j==(nx:Int)) (Qt m l)=Qt (fun j=>qbq m d j==(nx:Int)) l:=by
    rw[q9V]
    refine q2Y fun j _=>?_
    unfold qbq
    cases m j
    ·rw[qR8,if_neg (by decide)];symm;rw[beq_eq_false_iff_ne];omega
    ·rw[qQC,if_pos rfl]
   unfold qj1
   rw[this]
  ·rw[if_neg hk,if_neg hk]
   simp only
   rw[ih _ nx]
 | nil=>rw[q2N,q2N]
 | cons x L h1 h2=>
  rename_i al nx
  rw[q2N,q2N,h1 nx,h2 al (nx+lvN x)]
end
noncomputable section
open Go.RowKit
def q3d:List Int→List Int→Bool
 | _,[]=>false
 | [],_::_=>true
 | a::l,b::m=>decide (a<b)||(a==b&&q3d l m)
theorem q83:∀l,q3d l l=false
 | []=>rfl
 | a::l=>by rw[q3d,q83 l];simp
theorem q4c:∀{a b c:List Int},q3d a b=true→q3d b c=true→q3d a c=true
 | a,b,[],_,h=>by cases b<;>cases h
 | [],b,z::c,_,_=>rfl
 | x::a,[],z::c,h,_=>by cases h
 | x::a,y::b,z::c,h,h2=>by
  simp only[q3d,qQA,qQB,qR5,beq_iff_eq] at h h2 ⊢
  rcases h with h|⟨h,h'⟩
  ·rcases h2 with h2|⟨h2,h2'⟩<;>exact .inl (by omega)
  ·rcases h2 with h2|⟨h2,h2'⟩
   ·exact .inl (by omega)
   ·exact .inr ⟨by omega,q4c h' h2'⟩
theorem qaM:∀a b:List Int,a=b∨q3d a b=true∨q3d b a=true
 | [],[] => .inl rfl
 | [],_::_ => .inr (.inl rfl)
 | _::_,[] => .inr (.inr rfl)
 | x::a,y::b=>by
  simp only[q3d,qQA,qQB,qR5,beq_iff_eq]
  rcases Int.lt_trichotomy x y with h|h|h
  ·exact .inr (.inl (.inl h))
  ·subst h
   rcases qaM a b with e|e|e
   ·exact .inl (by rw[e])
   ·exact .inr (.inl (.inr ⟨rfl,e⟩))
   ·exact .inr (.inr (.inr ⟨rfl,e⟩))
  ·exact .inr (.inr (.inl h))
def slL (a b:List Int):Bool:=decide (a.length<b.length)||(a.length==b.length&&q3d a b)
theorem qdI {a b:List Int}:slL a b=true↔a.length<b.length∨(a.length=b.length∧q3d a b=true):=by
 simp only[slL,qQA,qQB,qR5,beq_iff_eq]
theorem qfI (l:List Int):slL l l=false:=by
 rw[slL,q83];simp
theorem qdF {a b c:List Int} (h:slL a b=true) (h2:slL b c=true):slL a c=true:=by
 rw[qdI] at *
 rcases h with h|⟨h,h'⟩
 ·rcases h2 with h2|⟨h2,h2'⟩<;>exact .inl (by omega)
 ·rcases h2 with h2|⟨h2,h2'⟩
  ·exact .inl (by omega)
  ·exact .inr ⟨by omega,q4c h' h2'⟩
theorem qgv (a b:List Int):a=b∨slL a b=true∨slL b a=true:=by
 simp only[qdI]
 rcases Nat.lt_trichotomy a.length b.length with h|h|h
 ·exact .inr (.inl (.inl h))
 ·rcases qaM a b with e|e|e
  ·exact .inl e
  ·exact .inr (.inl (.inr ⟨h,e⟩))
  ·exact .inr (.inr (.inr ⟨h.symm,e⟩))
 ·exact .inr (.inr (.inl h))
theorem qlp {f:Int→Int}:∀{a b:List Int},(∀x∈a,∀y∈b,(f x<f y↔x<y)∧(f x=f y↔x=y))→q3d (a.map f) (b.map f)=q3d a b
 | a,[],_=>by cases a<;>rfl
 | [],_::_,_=>rfl
 | x::a,y::b,h=>by
  have h0:=h x qQk y qQk
  have e1:decide (f x<f y)=decide (x<y):=by simp only[h0.1]
  have e2:(f x==f y)=(x==y):=by rw[Bool.eq_iff_iff,beq_iff_eq,beq_iff_eq];exact h0.2
  rw[qQs,qQs,q3d,q3d,e1,e2,qlp fun u hu v hv=>h u (qQd _ hu) v (qQd _ hv)]
theorem qxb {f:Int→Int} {a b:List Int} (h:∀x∈a,∀y∈b,(f x<f y↔x<y)∧(f x=f y↔x=y)):slL (a.map f) (b.map f)=slL a b:=by
 unfold slL
 rw[qlp h,qQO,qQO]
theorem qpg {f:Int→Int→Option Int} {zs:List Int} (ht:∀x∈zs,∀y∈zs,x=y∨ltB f x y=true∨ltB f y x=true) (htr:∀x∈zs,∀y∈zs,∀z∈zs,ltB f x y=true→ltB f y z=true→ltB f x z=true) {x:Int} (hx:x∈zs) :
  ∀l:List Int,(∀y∈l,y∈zs)→x ∉ l→l.Pairwise (fun a b=>ltB f a b=true)→(qgs f x l).Pairwise (fun a b=>ltB f a b=true)
 | [],_,_,_=>by unfold qgs;exact List.pairwise_singleton _ _
 | y::l,hl,hn,h=>by
  have hy:=hl y qQk
  rw[List.pairwise_cons] at h
  unfold qgs
  split
  ·rename_i hlt
   rw[List.pairwise_cons]
   refine⟨fun z hz=>?_,qpg ht htr hx l (fun u hu=>hl u (qQd _ hu)) (fun hu=>hn (qQd _ hu)) h.2⟩
   rcases(qcm f x l z).1 hz with e|e
   ·rw[e];exact hlt
   ·exact h.1 z e
  ·rename_i hlt
   have hxy:ltB f x y=true:=by
    rcases ht x hx y hy with e|e|e
    ·exact absurd (e ▸ qQk) hn
    ·exact e
    ·exact absurd e hlt
   rw[List.pairwise_cons,List.pairwise_cons]
   refine⟨fun z hz=>?_,h⟩
   rcases qQr.1 hz with e|e
   ·rw[e];exact hxy
   ·exact htr x hx y hy z (hl z (qQd _ e)) hxy (h.1 z e)
theorem qjV {f:Int→Int→Option Int} {zs:List Int} (ht:∀x∈zs,∀y∈zs,x=y∨ltB f x y=true∨ltB f y x=true) (htr:∀x∈zs,∀y∈zs,∀z∈zs,ltB f x y=true→ltB f y z=true→ltB f x z=true) :
  ∀l:List Int,(∀y∈l,y∈zs)→l.Nodup→(q1e f l).Pairwise (fun a b=>ltB f a b=true)
 | [],_,_=>by unfold q1e;exact List.Pairwise.nil
 | x::l,hl,hn=>by
  rw[List.nodup_cons] at hn
  unfold q1e
  exact qpg ht htr (hl x qQk) _ (fun y hy=>hl y (qQd _ ((q3y f l y).1 hy))) (fun hy=>hn.1 ((q3y f l x).1 hy)) (qjV ht htr l (fun y hy=>hl y (qQd _ hy)) hn.2)
theorem qpW {f:Int→Int→Option Int} {zs:List Int} {key:Int→List Int} (hs:∀x∈zs,∀y∈zs,∃c,f x y=some c∧(c<0↔slL (key x) (key y)=true)) (hi:∀x∈zs,∀y∈zs,key x=key y→x=y) :
  okB f zs=true∧∀x∈zs,∀y∈zs,ltB f x y=slL (key x) (key y):=by
 have hl:∀x∈zs,∀y∈zs,ltB f x y=slL (key x) (key y):=fun x hx y hy=>by
  obtain⟨c,h1,h2⟩:=hs x hx y hy
  unfold ltB
  rw[h1,Bool.eq_iff_iff]
  simpa using h2
 refine⟨?_,hl⟩
 unfold okB
 simp only[qQB,qQm]
 refine⟨⟨⟨fun x hx y hy=>?_,fun x hx=>?_⟩,fun x hx y hy=>?_⟩,fun x hx y hy z hz=>?_⟩
 ·obtain⟨c,h1,_⟩:=hs x hx y hy;rw[h1];rfl
 ·rw[hl x hx x hx,qfI];rfl
 ·rw[hl x hx y hy,hl y hy x hx]
  rcases qgv (key x) (key y) with e|e|e
  ·rw[qR6 (hi x hx y hy e)];rfl
  ·rw[e];simp
  ·rw[e];simp
 ·rw[hl x hx y hy,hl y hy z hz,hl x hx z hz]
  cases h1:slL (key x) (key y)
  ·simp
  ·cases h2:slL (key y) (key z)
   ·simp
   ·rw[qdF h1 h2];simp
theorem qpq {f:Int→Int→Option Int} {zs:List Int} {key:Int→List Int} (hs:∀x∈zs,∀y∈zs,∃c,f x y=some c∧(c<0↔slL (key x) (key y)=true)) (hi:∀x∈zs,∀y∈zs,key x=key y→x=y) (hn:zs.Nodup) :
  (q1e f zs).Pairwise (fun a b=>slL (key a) (key b)=true):=by
 have hl:=(qpW hs hi).2
 have h:=qjV (f:=f) (zs:=zs) (fun x hx y hy=>by
  rw[hl x hx y hy,hl y hy x hx]
  rcases qgv (key x) (key y) with e|e
  ·exact .inl (hi x hx y hy e)
  ·exact .inr e) (fun x hx y hy z hz h1 h2=>by
  rw[hl x hx y hy] at h1;rw[hl y hy z hz] at h2;rw[hl x hx z hz]
  exact qdF h1 h2) zs (fun _ h=>h) hn
 exact h.imp_of_mem fun {a b} ha hb h=>by
  rw[hl a ((q3y f zs a).1 ha) b ((q3y f zs b).1 hb)] at h;exact h
end
noncomputable section
open Go.RowKit
theorem q5b {α:Type}:∀(l:List α) (m:Nat→Bool),(Qt m l).length=rkF m l.length
 | [],_=>rfl
 | a::l,m=>by
  rw[Qt,qQc,q5b l,qQg,qct]
  cases m 0<;>rfl
theorem qnb {α:Type}:∀(l:List α) (m:Nat→Bool) (k:Nat),m k=true→(Qt m l)[rkF m k]?=l[k]?
 | [],_,_,_=>by rw[Qt];simp
 | a::l,m,0,h=>by rw[Qt,h,if_pos rfl];rfl
 | a::l,m,k+1,h=>by
  rw[Qt,qct]
  have:=qnb l (fun j=>m (j+1)) k h
  cases m 0
  ·rw[if_neg (by decide),if_neg (by decide),qQp,qQt,this,qQu]
  ·rw[if_pos rfl,if_pos rfl,qRc,Nat.add_comm 1,qQu,this,qQu]
theorem qd3 {α:Type}:∀(l:List α) (m:Nat→Bool) (x:α),x∈Qt m l→x∈l
 | [],_,_,h=>by cases h
 | a::l,m,x,h=>by
  rw[Qt,qQz] at h
  rcases h with h|h
  ·cases h0:m 0<;>rw[h0] at h
   ·cases h
   ·exact qQW.1 h ▸ qQk
  ·exact qQd _ (qd3 l _ x h)
theorem qdn {α:Type} (N:Nat) (g:Nat→α):Zi (N+1) g=Zi N g++[g N]:=by
 unfold Zi
 rw[List.range_succ,List.map_append];rfl
theorem qkL (m:Nat→Bool) (lf:List Int):∀N,rkF m N≤lf.length→Qt m (Zi N (qbq m fun j=>lf.getD j (-1)))=lf.take (rkF m N)
 | 0,_=>by rw[rkF,List.take_zero];rfl
 | N+1,h=>by
  rw[rkF] at h
  rw[qdn,q7f,qkL m lf N (by omega),zI,rkF]
  unfold qbq
  cases e:m N
  ·rw[if_neg (by decide),if_neg (by decide),qQq,Nat.add_zero]
  ·rw[if_pos rfl,if_pos rfl,if_pos rfl,List.take_add_one]
   rw[e,if_pos rfl] at h
   dsimp only
   rw[List.getD_eq_getElem?_getD,qQ7 (by omega)]
   rfl
theorem qhg:∀{a b:List Int} {x y:Int},a.length=b.length→(q3d (a++[x]) (b++[y])=true↔q3d a b=true∨(a=b∧x<y))
 | [],[],x,y,_=>by simp[q3d]
 | u::a,v::b,x,y,h=>by
  have:=qhg (a:=a) (b:=b) (x:=x) (y:=y) (by simpa using h)
  rw[qRb,qRb,q3d,q3d,qQA,qQA,qQB,qQB,this,qR5,beq_iff_eq]
  constructor
  ·rintro(h|⟨h,h2|⟨h2,h3⟩⟩)
   ·exact .inl (.inl h)
   ·exact .inl (.inr ⟨h,h2⟩)
   ·exact .inr ⟨by rw[h,h2],h3⟩
  ·rintro((h|⟨h,h2⟩)|⟨h,h2⟩)
   ·exact .inl h
   ·exact .inr ⟨h,.inl h2⟩
   ·injection h with h3 h4;exact .inr ⟨h3,.inr ⟨h4,h2⟩⟩
theorem ql0:∀{a b:List Int} {m:Nat→Bool},a.length=b.length→(∀k,m k=false→a[k]?=b[k]?)→q3d a b=true→q3d (Qt m a) (Qt m b)=true
 | [],[],_,_,_,h=>by cases h
 | x::a,y::b,m,hl,he,h=>by
  rw[q3d,qQA,qQB,qR5,beq_iff_eq] at h
  have ih:=fun h=>ql0 (a:=a) (b:=b) (m:=fun j=>m (j+1)) (by simpa using hl) (fun k hk=>by simpa using he (k+1) hk) h
  rw[Qt,Qt]
  cases e:m 0
  ·rw[if_neg (by decide),if_neg (by decide),qQp,qQp]
   have:x=y:=by simpa using he 0 e
   rcases h with h|h
   ·omega
   ·exact ih h.2
  ·rw[if_pos rfl,if_pos rfl,qRc,qRc,q3d,qQA,qQB,qR5,beq_iff_eq]
   rcases h with h|h
   ·exact .inl h
   ·exact .inr ⟨h.1,ih h.2⟩
theorem qmX {n:qb} {l:List qa} {set:Nat} (h:q3z n l set) {s:qg} {d b:List Int} (hd:d.length=l.length) (hf:q6P d s l n set) (hb:b.length=l.length) (hv:Holds b set (lvN n))
  (hm:qi6 n s l b=true):d=b∨q3d d b=true:=by
 have hll:=h.ll
 have key:∀j,j≤l.length→d.take j=b.take j∨q3d (d.take j) (b.take j)=true:=by
  intro j
  induction j with
  | zero=>intro _;left;rw[List.take_zero,List.take_zero]
  | succ j ih=>
   intro hj
   obtain⟨x,hx⟩:∃x,d[j]?=some x:=⟨_,qQ7 (by omega)⟩
   obtain⟨z,hz⟩:∃z,b[j]?=some z:=⟨_,qQ7 (by omega)⟩
   have ed:d.take (j+1)=d.take j++[x]:=by rw[List.take_add_one,hx];rfl
   have eb:b.take (j+1)=b.take j++[z]:=by rw[List.take_add_one,hz];rfl
   have hlen:(d.take j).length=(b.take j).length:=by rw[qQy,qQy];omega
   have vx:=hf.val j x hx
   have vz:=hv j z hz
   have hA:=(q5D (b.take (j+1)) s l (by omega) n 0 set h.fit h.lt).2 ⟨_,qcT h hb hv (j+1),hm⟩
   rw[ed,eb,qhg hlen]
   rw[eb] at hA
   rcases ih (by omega) with e|e
   ·by_cases hbit:set.testBit j=true
    ·rw[if_pos hbit] at vx vz
     rcases Int.lt_trichotomy z x with g|g|g
     ·exfalso
      have:=hf.lst j x hx hbit z.toNat (by omega)
      rw[e,show((z.toNat:Nat):Int)=z from by omega,hA] at this
      exact absurd this (by decide)
     ·left;rw[e,g]
     ·exact .inr (.inr ⟨e,g⟩)
    ·rw[if_neg hbit] at vx vz
     left;rw[e,vx,vz]
   ·exact .inr (.inl e)
 have:=key l.length (qQl _)
 rwa [qRd (by omega),qRd (by omega)] at this
structure Perm (n:qb) (s:qg) (l:List qa) (X:Nat) (lf:List Int):Prop where
 len:lf.length=rkF X.testBit l.length
 rng:∀(j:Nat) (y:Int),lf[j]?=some y → -1≤y∧y<(lvN n:Int)
 met:qi6 n s (Qt X.testBit l) lf=true
theorem qkA {n:qb} (h:Rgt n) {l:List qa} (hl:l.length≤10) {set:Nat} (hs:set<2 ^ l.length) (s:qg) (hS:QQ [] s l n 0 set=true):∃d,d.length=l.length∧q6P d s l n set:=by
 rcases qhB (q4e h hl hs) s (qfi h s l hl) with ⟨e,_⟩|⟨_,d,h1,h2,_⟩
 ·rw[hS] at e;cases e
 ·exact⟨d,h1,h2⟩
theorem qeG {n:qb} (h:Rgt n) {l:List qa} (hl:l.length≤10) {s:qg} {X:Nat} {lf:List Int} (hp:Perm n s l X lf) :
  ∃sub d,sub<2 ^ l.length∧sub &&& X=sub∧d.length=l.length∧q6P d s l n sub∧(Qt X.testBit d=lf∨q3d (Qt X.testBit d) lf=true):=by
 obtain⟨b,hb⟩:∃b,b=Zi l.length (qbq X.testBit fun j=>lf.getD j (-1)):=⟨_,rfl⟩
 have hbl:b.length=l.length:=by rw[hb,zI]
 have hget:∀k,k<l.length→b[k]?=some (qbq X.testBit (fun j=>lf.getD j (-1)) k):=fun k hk=>by rw[hb,Je _ hk]
 have hrng:∀(j:Nat) (y:Int),b[j]?=some y → -1≤y∧y<(lvN n:Int):=fun j y hy=>by
  have hj:=Jl hy
  rw[hget j (by omega)] at hy
  injection hy with hy
  unfold qbq at hy
  split at hy
  ·subst hy
   by_cases hr:rkF X.testBit j<lf.length
   ·have:=hp.rng _ _ (qQ7 hr)
    dsimp only
    rw[List.getD_eq_getElem?_getD,qQ7 hr];exact this
   ·dsimp only
    rw[List.getD_eq_getElem?_getD,qQD (by omega)]
    exact⟨Int.le_refl _,by show(-1:Int)<_;omega⟩
  ·subst hy;exact⟨Int.le_refl _,by omega⟩
 have hv:=qlI hrng
 have hset:qwa b<2 ^ l.length:=hbl ▸ qw6 b
 have G:=q4e h hl hset
 have hm:qi6 n s l b=true:=by
  have h1:=hp.met
  unfold qi6 at h1 ⊢
  rw[qks] at h1
  rw[←h1]
  congr 1
  refine q5r s l _ _ n 0 fun k hk x _ _=>?_
  show b.getD k (-1)=x↔_
  rw[List.getD_eq_getElem?_getD,hget k hk];exact Iff.rfl
 obtain⟨d,hd,hf⟩:=qkA h hl hset s (qgD G hbl hv hm)
 refine⟨qwa b,d,hset,?_,hd,hf,?_⟩
 ·refine qho fun k hk=>?_
  by_cases hkl:k<l.length
  ·rw[qfO (hget k hkl),qR5] at hk
   unfold qbq at hk
   split at hk
   ·assumption
   ·omega
  ·rw[Nat.testBit_lt_two_pow (qQF hset (Nat.pow_le_pow_right (by decide) (by omega)))] at hk;cases hk
 ·have hsel:Qt X.testBit b=lf:=by
   rw[hb,qkL _ _ _ (by rw[hp.len];exact qQl _),←hp.len,List.take_length]
  rcases qmX G hd hf hbl hv hm with e|e
  ·left;rw[e,hsel]
  ·right
   have:=ql0 (m:=X.testBit) (by omega) (fun k hk=>?_) e
   ·rw[hsel] at this;exact this
   ·by_cases hkl:k<l.length
    ·obtain⟨y,hy⟩:∃y,d[k]?=some y:=⟨_,qQ7 (by omega)⟩
     have hbit:(qwa b).testBit k=false:=by
      rw[qfO (hget k hkl)]
      unfold qbq
      rw[hk,if_neg (by decide)];rfl
     have:=hf.val k y hy
     rw[hbit,if_neg (by decide)] at this
     rw[hy,hget k hkl,this]
     unfold qbq
     rw[hk,if_neg (by decide)]
    ·rw[qQD (by omega),qQD (by omega)]
theorem qlB {n:qb} (h:Rgt n) {l:List qa} (hl:l.length≤10) {s:qg} {X sub:Nat} (hs:sub<2 ^ l.length) (hX:sub &&& X=sub) {d:List Int} (hd:d.length=l.length) (hf:q6P d s l n sub):Perm n s l X (Qt X.testBit d):=by
 have G:=q4e h hl hs
 refine⟨by rw[q5b,hd],fun j y hy=>?_,?_⟩
 ·obtain⟨k,hk⟩:=List.getElem?_of_mem (qd3 d _ y (qQ6 hy))
  have:=qim hf k y hk
  omega
 ·have h1:=qax G hd hf
  unfold qi6 at h1 ⊢
  rw[qks,←h1]
  congr 1
  refine q5r s l _ _ n 0 fun k hk x _ _=>?_
  obtain⟨y,hy⟩:∃y,d[k]?=some y:=⟨_,qQ7 (by omega)⟩
  show _↔d.getD k (-1)=x
  unfold qbq
  by_cases hk2:X.testBit k=true
  ·rw[if_pos hk2]
   dsimp only
   rw[List.getD_eq_getElem?_getD,List.getD_eq_getElem?_getD,qnb d _ k hk2]
  ·rw[if_neg hk2,List.getD_eq_getElem?_getD,hy]
   have hb:sub.testBit k=false:=qQx.2 fun e=>hk2 (qaR hX e)
   have:=hf.val k y hy
   rw[hb,if_neg (by decide)] at this
   rw[this];exact Iff.rfl
end
noncomputable section
open Go.RowKit
set_option maxRecDepth 100000
def q3O (N m:Nat):List Int:=Qt m.testBit (Zi N fun i=>(i:Int))
theorem qhe {α:Type} (N:Nat) (g:Nat→α):Zi (N+1) g=g 0::Zi N fun i=>g (i+1):=by
 unfold Zi
 rw[List.range_succ_eq_map,qQs,List.map_map];rfl
theorem qkk {α:Type}:∀(l:List α) (p:Nat→Bool),(∀k,k<l.length→p k=false)→Qt p l=[]
 | [],_,_=>rfl
 | a::l,p,h=>by
  rw[Qt,h 0 (by simp),qkk l _ fun k hk=>h (k+1) (by simpa using hk)];rfl
theorem qgI {m:Nat} {N:Nat} (hN:N≤60) (hm:m<2 ^ N):∀(j k:Nat) (l:List Int),j+k=N→l.length≤k→zw (QI (m:Int)) (l,(k:Int))=some (l++Qt (fun i=>m.testBit (k+i)) (Zi j fun i=>((k+i:Nat):Int))):=by
 have hML:100000≤maxLen:=by unfold maxLen;omega
 have hm63:m<9223372036854775808:=qQF hm (qQG (Nat.pow_le_pow_right (by decide) hN) (by decide))
 have stop:∀(k:Nat) (l:List Int),k≤60→m / 2 ^ k=0→zw (QI (m:Int)) (l,(k:Int))=some l:=fun k l hk h0=>by
  refine zu ?_
  unfold QI
  dsimp only
  rw[if_pos (by omega),qQ8,qau m k (by omega),h0,if_neg (by decide)]
 intro j
 induction j with
 | zero=>
  intro k l hk hl
  obtain rfl:k=N:=by omega
  rw[stop k l hN (Nat.div_eq_of_lt hm)]
  show some l=some (l++[])
  rw[qQq]
 | succ j ih=>
  intro k l hk hl
  by_cases h0:m / 2 ^ k=0
  ·rw[stop k l (by omega) h0,qkk _ _ fun i _=>?_,qQq]
   rw[Nat.testBit_eq_decide_div_mod_eq,Nat.pow_add,←Nat.div_div_eq_div_mul,h0,Nat.zero_div]
   rfl
  ·have hws:w64 ((k:Int)+1)=((k+1:Nat):Int):=Qk (n:=1000) (by omega) (by omega)
   have hb:=qju m k hm63 (by omega)
   rw[qhe,Qt]
   have e1:(fun i=>m.testBit (k+(i+1)))=fun i=>m.testBit (k+1+i):=funext fun i=>by rw[Nat.add_right_comm,qQZ]
   have e2:(fun i=>((k+(i+1):Nat):Int))=fun i=>((k+1+i:Nat):Int):=funext fun i=>by rw[Nat.add_right_comm,qQZ]
   rw[e1,e2]
   have hpos:(0:Int)<((m:Int)).fdiv (2 ^ min k IntKind.i64.bits):=by rw[qau m k (by omega)];exact Int.ofNat_lt.2 (Nat.pos_of_ne_zero h0)
   cases e:m.testBit k
   ·rw[if_neg (by decide),qQp,←ih (k+1) l (by omega) (by omega)]
    refine zV ?_
    unfold QI
    dsimp only
    rw[if_pos (by omega),qQ8,if_pos hpos,if_pos (by omega),if_neg (by rw[hb,e];decide),hws]
   ·rw[if_pos rfl,Nat.add_zero,←qQL,←ih (k+1) (l++[(k:Int)]) (by omega) (by rw[qQc];exact Nat.succ_le_succ hl)]
    refine zV ?_
    unfold QI
    dsimp only
    rw[if_pos (by omega),qQ8,if_pos hpos,if_pos (by omega),if_pos (by rw[hb,e]),if_pos ⟨by omega,by omega⟩,hws]
theorem q4h {m N:Nat} (hN:N≤60) (hm:m<2 ^ N):ZU (m:Int)=some (q3O N m):=by
 have h:=qgI hN hm N 0 [] (by omega) (qQl _)
 unfold ZU
 change Option.bind (zw _ ([],((0:Nat):Int))) _=_
 rw[h,qQ5,qQp]
 simp only[qQt]
 rfl
def qmw:List Int→List Int→Int
 | [],[]=>0
 | [],_::_ => -1
 | _::_,[]=>1
 | a::l,b::m=>if a<b then -1 else if b<a then 1 else qmw l m
theorem qfU:∀a b:List Int,(qmw a b<0↔q3d a b=true)
 | [],[]=>by simp[qmw,q3d]
 | [],_::_=>by simp[qmw,q3d]
 | _::_,[]=>by simp[qmw,q3d]
 | a::l,b::m=>by
  rw[qmw,q3d,qQA,qQB,qR5,beq_iff_eq]
  split
  ·rename_i h;exact⟨fun _ => .inl h,fun _=>by decide⟩
  ·split
   ·rename_i h;exact⟨fun h=>absurd h (by decide),fun h2=>by omega⟩
   ·rw[qfU l m]
    exact⟨fun h => .inr ⟨by omega,h⟩,fun h=>h.elim (fun h=>absurd h (by assumption)) fun h=>h.2⟩
theorem qqp (x y:Int):Qb x y=qg1 x y:=by
 have hn:∀z:Int,Ql z=false:=fun z=>by unfold Ql;simp
 unfold Qb qg1
 rw[hn x,hn y,if_neg (by decide),if_neg (by decide)]
theorem qbE (s1 s2:List Int) (h1:s1.length≤1000000):∀(r q:List Int) (i:Nat),r.length+i=s1.length→(∀j,r[j]?=s1[i+j]?)→(∀j,q[j]?=s2[i+j]?)→(q=[]↔s2.length≤i)→
  ∃e:Int⊕Unit,zw (zW s1 s2 s1 ((s1.length:Nat):Int)) (i:Int)=some e∧e.elim id (fun _=>if((s1.length:Nat):Int)<((s2.length:Nat):Int) then -1 else 0)=qmw r q
 | [],q,i,hi,hr,hq,h0=>by
  have hi:i=s1.length:=by simpa using hi
  refine⟨.inr (),zu ?_,?_⟩
  ·unfold zW
   rw[if_neg (by omega)]
  ·show(if _ then(-1:Int) else 0)=_
   cases q with
   | nil=>rw[if_neg (by have:=h0.1 rfl;omega)];rfl
   | cons y q=>
    have hq2:¬ s2.length≤i:=fun h=>by cases h0.2 h
    rw[if_pos (by omega)];rfl
 | x::r,q,i,hi,hr,hq,h0=>by
  have hil:i<s1.length:=by simp only[qQg] at hi;omega
  have hx:s1[i]?=some x:=by have:=hr 0;rw[Nat.add_zero] at this;exact this.symm
  have hws:w64 ((i:Int)+1)=((i+1:Nat):Int):=Qk (n:=10000000) (by omega) (by omega)
  cases q with
  | nil=>
   have:=h0.1 rfl
   refine⟨.inl 1,zu ?_,rfl⟩
   unfold zW
   rw[if_pos (by omega),if_pos ⟨by omega,by omega⟩,qQ8,hx,qQ5,if_pos (by omega)]
  | cons y q=>
   have hl2:i<s2.length:=Nat.lt_of_not_le fun h=>by cases h0.2 h
   have hy:s2[i]?=some y:=by have:=hq 0;rw[Nat.add_zero] at this;exact this.symm
   have step:zW s1 s2 s1 ((s1.length:Nat):Int) (i:Int)=if(qg1 x y != 0)=true then some (.inr (.inl (qg1 x y))) else some (.inl ((i+1:Nat):Int)):=by
    unfold zW
    rw[if_pos (by omega),if_pos ⟨by omega,by omega⟩,qQ8,hx,qQ5,if_neg (by omega),if_pos ⟨by omega,by omega⟩,hy,qQ5,qqp,hws]
   by_cases hc:qg1 x y=0
   ·rw[if_neg (by simpa using hc)] at step
    obtain⟨e,e1,e2⟩:=qbE s1 s2 h1 r q (i+1) (by simp only[qQg] at hi;omega) (fun j=>by have:=hr (j+1);rw[qQu] at this;rw[this];congr 1;omega) (fun j=>by have:=hq (j+1);rw[qQu] at this;rw[this];congr 1;omega) (by
     have h3:=hq 1
     rw[qQu] at h3
     constructor
     ·rintro rfl
      rw[List.getElem?_nil] at h3
      exact List.getElem?_eq_none_iff.1 h3.symm
     ·intro h
      rw[qQD h] at h3
      cases q with
      | nil=>rfl
      | cons z q=>cases h3)
    refine⟨e,(zV step).trans e1,?_⟩
    rw[e2,qmw]
    unfold qg1 at hc
    split at hc
    ·cases hc
    ·split at hc
     ·cases hc
     ·rename_i h1 h2;rw[if_neg h1,if_neg h2]
   ·rw[if_pos (by simpa using hc)] at step
    refine⟨.inl (qg1 x y),zu step,?_⟩
    show qg1 x y=_
    rw[qmw]
    unfold qg1 at hc ⊢
    split
    ·rfl
    ·rename_i h1
     split
     ·rfl
     ·rename_i h2;rw[if_neg h1,if_neg h2] at hc;exact absurd rfl hc
theorem qpT (s1 s2:List Int) (h1:s1.length≤1000000):QV s1 s2=some (qmw s1 s2):=by
 obtain⟨e,e1,e2⟩:=qbE s1 s2 h1 s1 s2 0 (by omega) (fun j=>by rw[qQt]) (fun j=>by rw[qQt]) ⟨fun h=>by rw[h];exact qQl _,fun h=>qQo (by omega)⟩
 unfold QV
 change Option.bind (zw _ ((0:Nat):Int)) _=_
 rw[e1,qQ5]
 cases e with
 | inl v=>rw[Sum.elim_inl];exact congrArg some e2
 | inr v=>
  rw[Sum.elim_inr]
  have e2:(if((s1.length:Nat):Int)<((s2.length:Nat):Int) then(-1:Int) else 0)=qmw s1 s2:=e2
  rw[←e2]
  split<;>rfl
theorem qiX {α:Type}:∀(l:List α) (p:Nat→Bool) (x:α),x∈Qt p l↔∃k,p k=true∧l[k]?=some x
 | [],p,x=>by simp[Qt]
 | a::l,p,x=>by
  rw[Qt,qQz,qiX l]
  constructor
  ·rintro(h|⟨k,h1,h2⟩)
   ·split at h
    ·rename_i h0;exact⟨0,h0,by rw[qQW.1 h];rfl⟩
    ·cases h
   ·exact⟨k+1,h1,h2⟩
  ·rintro⟨k,h1,h2⟩
   cases k with
   | zero=>left;rw[if_pos h1];injection h2 with h2;rw[h2];exact qQW.2 rfl
   | succ k=>right;exact⟨k,h1,h2⟩
theorem qkE {N m k:Nat}:((k:Nat):Int)∈q3O N m↔k<N∧m.testBit k=true:=by
 unfold q3O
 rw[qiX]
 constructor
 ·rintro⟨j,h1,h2⟩
  have hj:=Jl h2
  rw[zI] at hj
  rw[Je _ hj] at h2
  injection h2 with h2
  obtain rfl:j=k:=by omega
  exact⟨hj,h1⟩
 ·rintro⟨h1,h2⟩
  exact⟨k,h2,Je _ h1⟩
theorem qrg {N a b:Nat} (ha:a<2 ^ N) (hb:b<2 ^ N) (h:q3O N a=q3O N b):a=b:=Nat.eq_of_testBit_eq fun k=>by
 by_cases hk:k<N
 ·have h1:=qkE (N:=N) (m:=a) (k:=k)
  rw[h,qkE] at h1
  rw[Bool.eq_iff_iff]
  exact⟨fun e=>(h1.2 ⟨hk,e⟩).2,fun e=>(h1.1 ⟨hk,e⟩).2⟩
 ·rw[Nat.testBit_lt_two_pow (qQF ha (Nat.pow_le_pow_right (by decide) (by omega))),Nat.testBit_lt_two_pow (qQF hb (Nat.pow_le_pow_right (by decide) (by omega)))]
theorem qsK {N M m:Nat} (hN:N≤60) (hM:M≤60) (h1:m<2 ^ N) (h2:m<2 ^ M):q3O N m=q3O M m:=by
 have:=(q4h hN h1).symm.trans (q4h hM h2)
 injection this
theorem qjZ (N m:Nat):(q3O N m).length=rkF m.testBit N:=by
 unfold q3O
 rw[q5b,zI]
theorem qdP (m:Nat→Bool):∀N,rkF m N≤N
 | 0=>qQl _
 | N+1=>by rw[rkF];have:=qdP m N;split<;>omega
def qOh (m:Nat):Bool:=QG (IntKind.wrap IntKind.u64 (m:Int))==(((q3O 10 m).length:Nat):Int)
theorem qvi:(List.range 1024).all qOh=true:=by kernel_rfl
theorem qub {N m:Nat} (hN:N≤10) (hm:m<2 ^ N):QG (IntKind.wrap IntKind.u64 (m:Int))=(((q3O N m).length:Nat):Int):=by
 have h10:m<2 ^ 10:=qQF hm (Nat.pow_le_pow_right (by decide) hN)
 have h:=qQm.1 qvi m (qR2.2 h10)
 rw[qsK (show N≤60 by omega) (show 10≤60 by omega) hm h10]
 exact eq_of_beq h
theorem qp3 {N:Nat} (hN:N≤10) {a b:Nat} (ha:a<2 ^ N) (hb:b<2 ^ N):∃c,QA (a:Int) (b:Int)=some c∧(c<0↔slL (q3O N a) (q3O N b)=true):=by
 have la:(q3O N a).length≤10:=by rw[qjZ];exact qQG (qdP _ _) hN
 unfold QA
 rw[q4h (by omega) ha,qQ5,q4h (by omega) hb,qQ5,qpT _ _ (by omega),qQ5,qub hN ha,qub hN hb,qqp,qC9,qQ5]
 refine⟨_,rfl,?_⟩
 rw[qdI]
 unfold qg1
 by_cases h1:(q3O N a).length<(q3O N b).length
 ·rw[if_pos (by omega:(((q3O N a).length:Nat):Int)<(((q3O N b).length:Nat):Int)),if_pos (by decide)]
  exact⟨fun _ => .inl h1,fun _=>by decide⟩
 ·rw[if_neg (by omega:¬ (((q3O N a).length:Nat):Int)<(((q3O N b).length:Nat):Int))]
  by_cases h2:(q3O N b).length<(q3O N a).length
  ·rw[if_pos (by omega:(((q3O N b).length:Nat):Int)<(((q3O N a).length:Nat):Int)),if_pos (by decide)]
   exact⟨fun h=>absurd h (by decide),fun h=>by rcases h with h|h<;>omega⟩
  ·rw[if_neg (by omega:¬ (((q3O N b).length:Nat):Int)<(((q3O N a).length:Nat):Int)),if_neg (by decide),qfU]
   exact⟨fun h => .inr ⟨by omega,h⟩,fun h=>h.elim (fun h=>absurd h (by omega)) fun h=>h.2⟩
def msL (N:Nat):List Int:=q1e QA (Zi (2 ^ N) fun i=>(i:Int))
theorem q8G {N:Nat} {x:Int}:x∈(Zi N fun i=>(i:Int))↔∃k:Nat,k<N∧x=(k:Int):=by
 unfold Zi
 rw[qQQ]
 constructor
 ·rintro⟨k,h1,h2⟩;exact⟨k,qR2.1 h1,h2.symm⟩
 ·rintro⟨k,h1,h2⟩;exact⟨k,qR2.2 h1,h2.symm⟩
theorem qqB (N:Nat):(Zi N fun i=>(i:Int)).Nodup:=by
 unfold Zi
 rw[List.nodup_iff_pairwise_ne,List.pairwise_map]
 exact(List.nodup_iff_pairwise_ne.1 List.nodup_range).imp fun h e=>h (by omega)
theorem qAc {N:Nat} (hN:N≤10):okB QA (Zi (2 ^ N) fun i=>(i:Int))=true∧(msL N).Pairwise (fun x y=>slL (q3O N x.toNat) (q3O N y.toNat)=true)∧∀x,x∈msL N↔∃k:Nat,k<2 ^ N∧x=(k:Int):=by
 have hs:∀x∈(Zi (2 ^ N) fun i=>(i:Int)),∀y∈(Zi (2 ^ N) fun i=>(i:Int)),∃c,QA x y=some c∧(c<0↔slL (q3O N x.toNat) (q3O N y.toNat)=true):=fun x hx y hy=>by
  obtain⟨a,ha,rfl⟩:=q8G.1 hx
  obtain⟨b,hb,rfl⟩:=q8G.1 hy
  exact qp3 hN ha hb
 have hi:∀x∈(Zi (2 ^ N) fun i=>(i:Int)),∀y∈(Zi (2 ^ N) fun i=>(i:Int)),q3O N x.toNat=q3O N y.toNat→x=y:=fun x hx y hy h=>by
  obtain⟨a,ha,rfl⟩:=q8G.1 hx
  obtain⟨b,hb,rfl⟩:=q8G.1 hy
  rw[qQ8,qQ8] at h
  rw[qrg ha hb h]
 refine⟨(qpW hs hi).1,qpq hs hi (qqB _),fun x=>?_⟩
 unfold msL
 rw[q3y,q8G]
end
noncomputable section
open Go.RowKit
theorem qnw {α β:Type} (f:α→Option β):∀(l:List α) (m:List β) (p:Nat→Bool),l.map f=m.map some→(Qt p l).filterMap f=Qt p m
 | [],[],_,_=>rfl
 | a::l,b::m,p,h=>by
  rw[qQs,qQs] at h
  injection h with h1 h2
  rw[Qt,Qt,List.filterMap_append,qnw f l m _ h2]
  congr 1
  split
  ·rw[List.filterMap_cons,h1];rfl
  ·rfl
theorem qii {α:Type} (l:List α):(Zi l.length fun i=>(i:Int)).map (fun y=>l[Int.toNat y]?)=l.map some:=by
 apply List.ext_getElem?
 intro j
 rw[qQj,qQj]
 by_cases hj:j<l.length
 ·rw[Je _ hj,qQ7 hj,Option.map_some,Option.map_some,qQ8,qQ7 hj]
 ·rw[qQD (by rw[zI];omega),qQD (by omega)];rfl
theorem qtG {α:Type} (l:List α) (X:Nat):(q3O l.length X).filterMap (fun y=>l[Int.toNat y]?)=Qt X.testBit l:=qnw _ _ _ _ (qii l)
theorem mem_range {N X:Nat} {y:Int} (h:y∈q3O N X):∃k:Nat,k<N∧y=(k:Int):=by
 have:=qd3 _ _ _ h
 obtain⟨k,h1,h2⟩:=q8G.1 this
 exact⟨k,h1,h2⟩
theorem qbO (l:List qa) (hl:l.length≤1000) (at0:List Int) (ha:at0.length≤1000) (hr:∀y∈at0,∃k:Nat,k<l.length∧y=(k:Int)):∀(r:List Int) (i:Nat) (out:List qa),r.length+i=at0.length→(∀j,r[j]?=at0[i+j]?)→out.length=i→
  zw (zt l at0 ((at0.length:Nat):Int)) (out,(i:Int))=some (out++r.filterMap fun y=>l[Int.toNat y]?)
 | [],i,out,hi,_,_=>by
  have hi:i=at0.length:=by simpa using hi
  refine(zu ?_).trans (by rw[List.filterMap_nil,qQq])
  unfold zt
  dsimp only
  rw[if_neg (by omega)]
 | y::r,i,out,hi,hj,ho=>by
  have hML:100000≤maxLen:=by unfold maxLen;omega
  have hil:i<at0.length:=by simp only[qQg] at hi;omega
  have hy:at0[i]?=some y:=by have:=hj 0;rw[Nat.add_zero] at this;exact this.symm
  obtain⟨k,hk,rfl⟩:=hr y (qQ6 hy)
  have hws:w64 ((i:Int)+1)=((i+1:Nat):Int):=Qk (n:=10000) (by omega) (by omega)
  have e:zt l at0 ((at0.length:Nat):Int) (out,(i:Int))=some (.inl (out++[l[k]],((i+1:Nat):Int))):=by
   unfold zt
   dsimp only
   rw[if_pos (by omega),if_pos ⟨by omega,by omega⟩,qQ8,hy,qQ5,if_pos ⟨by omega,by omega⟩,qQ8,qQ7 hk,qQ5,if_pos ⟨by omega,by omega⟩,hws]
  rw[zV e,qbO l hl at0 ha hr r (i+1) _ (by simp only[qQg] at hi;omega) (fun j=>by have:=hj (j+1);rw[qQu] at this;rw[this];congr 1;omega) (by rw[qQc,ho];rfl),List.filterMap_cons,qQ8,qQ7 hk]
  simp
def q5G (N:Nat) (m:Nat→Bool):List Int:=Qt m (Zi N fun i=>(i:Int))
theorem q4Q (N:Nat) (m:Nat→Bool):(q5G N m).length=rkF m N:=by
 unfold q5G
 rw[q5b,zI]
theorem qeS {N:Nat} {m:Nat→Bool} {y:Int} (h:y∈q5G N m):∃k:Nat,k<N∧y=(k:Int):=by
 have:=qd3 _ _ _ h
 obtain⟨k,h1,h2⟩:=q8G.1 this
 exact⟨k,h1,h2⟩
theorem qqA {α:Type} (l:List α) (m:Nat→Bool):(q5G l.length m).filterMap (fun y=>l[Int.toNat y]?)=Qt m l:=qnw _ _ _ _ (qii l)
theorem qpE {l:List qa} (hl:l.length≤1000) (m:Nat→Bool):zQ l (q5G l.length m)=some (Qt m l):=by
 have hlen:(q5G l.length m).length≤1000:=by rw[q4Q];exact qQG (qdP _ _) hl
 have h:=qbO l (by omega) (q5G l.length m) (by omega) (fun y hy=>qeS hy) (q5G l.length m) 0 [] (by omega) (fun j=>by rw[qQt]) rfl
 unfold zQ
 change Option.bind (zw _ ([],((0:Nat):Int))) _=_
 rw[h,qQ5,qQp,qqA]
theorem qbN (l:List Int) (hl:l.length≤1000) (at0:List Int) (ha:at0.length≤1000) (hr:∀y∈at0,∃k:Nat,k<l.length∧y=(k:Int)):∀(r:List Int) (i:Nat) (out:List Int),r.length+i=at0.length→(∀j,r[j]?=at0[i+j]?)→out.length=i→
  zw (Qu l at0 ((at0.length:Nat):Int)) (out,(i:Int))=some (out++r.filterMap fun y=>l[Int.toNat y]?)
 | [],i,out,hi,_,_=>by
  have hi:i=at0.length:=by simpa using hi
  refine(zu ?_).trans (by rw[List.filterMap_nil,qQq])
  unfold Qu
  dsimp only
  rw[if_neg (by omega)]
 | y::r,i,out,hi,hj,ho=>by
  have hML:100000≤maxLen:=by unfold maxLen;omega
  have hil:i<at0.length:=by simp only[qQg] at hi;omega
  have hy:at0[i]?=some y:=by have:=hj 0;rw[Nat.add_zero] at this;exact this.symm
  obtain⟨k,hk,rfl⟩:=hr y (qQ6 hy)
  have hws:w64 ((i:Int)+1)=((i+1:Nat):Int):=Qk (n:=10000) (by omega) (by omega)
  have e:Qu l at0 ((at0.length:Nat):Int) (out,(i:Int))=some (.inl (out++[l[k]],((i+1:Nat):Int))):=by
   unfold Qu
   dsimp only
   rw[if_pos (by omega),if_pos ⟨by omega,by omega⟩,qQ8,hy,qQ5,if_pos ⟨by omega,by omega⟩,qQ8,qQ7 hk,qQ5,if_pos ⟨by omega,by omega⟩,hws]
  rw[zV e,qbN l hl at0 ha hr r (i+1) _ (by simp only[qQg] at hi;omega) (fun j=>by have:=hj (j+1);rw[qQu] at this;rw[this];congr 1;omega) (by rw[qQc,ho];rfl),List.filterMap_cons,qQ8,qQ7 hk]
  simp
theorem qvn {l:List Int} (hl:l.length≤1000) (m:Nat→Bool):Jd l (q5G l.length m)=some (Qt m l):=by
 have hlen:(q5G l.length m).length≤1000:=by rw[q4Q];exact qQG (qdP _ _) hl
 have h:=qbN l (by omega) (q5G l.length m) (by omega) (fun y hy=>qeS hy) (q5G l.length m) 0 [] (by omega) (fun j=>by rw[qQt]) rfl
 unfold Jd
 change Option.bind (zw _ ([],((0:Nat):Int))) _=_
 rw[h,qQ5,qQp,qqA]
end
noncomputable section
open Go.RowKit
structure qqV (n:qb) (s:qg) (l:List qa) (X sub:Nat) (lf:List Int):Prop where
 lt:sub<2 ^ l.length
 sb:sub &&& X=sub
 ex:∃d,d.length=l.length∧q6P d s l n sub∧lf=Qt X.testBit d
theorem qqV.uniq {n:qb} (h:Rgt n) {l:List qa} (hl:l.length≤10) {s:qg} {X sub:Nat} {lf lf':List Int} (a:qqV n s l X sub lf) (b:qqV n s l X sub lf'):lf=lf':=by
 obtain⟨d,h1,h2,rfl⟩:=a.ex
 obtain⟨d',h3,h4,rfl⟩:=b.ex
 rw[qeQ (q4e h hl a.lt) h1 h2 h3 h4]
def q1Q (n:qb) (s:qg) (l:List qa) (X:Nat) (P:Nat→Prop) (w:List Int) (f:Bool):Prop:=
 (f=true→(∃sub,P sub∧qqV n s l X sub w)∧∀sub lf,P sub→qqV n s l X sub lf→w=lf∨q3d w lf=true)∧
 (f=false→w=[]∧∀sub lf,P sub→¬ qqV n s l X sub lf)
section
variable {n:qb} {s:qg} {l:List qa} {X:Nat} {P:Nat→Prop} {w:List Int} {f:Bool}
theorem q1Q.start (h:∀k,¬ P k):q1Q n s l X P [] false:=⟨fun h=>(by cases h),fun _=>⟨rfl,fun sub lf hp=>absurd hp (h sub)⟩⟩
theorem q1Q.congr {Q:Nat→Prop} (h:q1Q n s l X P w f) (hq:∀k,k<2 ^ l.length→k &&& X=k→(Q k↔P k)):q1Q n s l X Q w f:=by
 refine⟨fun hf=>?_,fun hf=>?_⟩
 ·obtain⟨⟨sub,h1,h2⟩,h3⟩:=h.1 hf
  exact⟨⟨sub,(hq _ h2.lt h2.sb).2 h1,h2⟩,fun sub lf hp hc=>h3 sub lf ((hq _ hc.lt hc.sb).1 hp) hc⟩
 ·obtain⟨h1,h2⟩:=h.2 hf
  exact⟨h1,fun sub lf hp hc=>h2 sub lf ((hq _ hc.lt hc.sb).1 hp) hc⟩
theorem q1Q.skip (h:q1Q n s l X P w f) {sub:Nat} (hno:∀lf,¬ qqV n s l X sub lf):q1Q n s l X (fun k=>P k∨k=sub) w f:=by
 refine⟨fun hf=>?_,fun hf=>?_⟩
 ·obtain⟨⟨sub',h1,h2⟩,h3⟩:=h.1 hf
  refine⟨⟨sub',.inl h1,h2⟩,fun k lf hp hc=>?_⟩
  rcases hp with hp|rfl
  ·exact h3 k lf hp hc
  ·exact absurd hc (hno lf)
 ·obtain⟨h1,h2⟩:=h.2 hf
  refine⟨h1,fun k lf hp hc=>?_⟩
  rcases hp with hp|rfl
  ·exact h2 k lf hp hc
  ·exact hno lf hc
theorem q1Q.take (hR:Rgt n) (hl:l.length≤10) (h:q1Q n s l X P w f) {sub:Nat} {lf:List Int} (hc:qqV n s l X sub lf) (hb:f=false∨q3d lf w=true):q1Q n s l X (fun k=>P k∨k=sub) lf true:=by
 refine⟨fun _=>⟨⟨sub,.inr rfl,hc⟩,fun k lf2 hp hc2=>?_⟩,fun h=>(by cases h)⟩
 rcases hp with hp|rfl
 ·rcases hb with hf|hlt
  ·exact absurd hc2 ((h.2 hf).2 k lf2 hp)
  ·cases hf:f
   ·exact absurd hc2 ((h.2 hf).2 k lf2 hp)
   ·rcases(h.1 hf).2 k lf2 hp hc2 with e|e
    ·rw[←e];exact .inr hlt
    ·exact .inr (q4c hlt e)
 ·exact .inl (hc.uniq hR hl hc2)
theorem q1Q.leave (hR:Rgt n) (hl:l.length≤10) (h:q1Q n s l X P w true) {sub:Nat} {lf:List Int} (hc:qqV n s l X sub lf) (hb:q3d lf w=false):q1Q n s l X (fun k=>P k∨k=sub) w true:=by
 obtain⟨⟨sub',h1,h2⟩,h3⟩:=h.1 rfl
 refine⟨fun _=>⟨⟨sub',.inl h1,h2⟩,fun k lf2 hp hc2=>?_⟩,fun h=>(by cases h)⟩
 rcases hp with hp|rfl
 ·exact h3 k lf2 hp hc2
 ·obtain rfl:=hc.uniq hR hl hc2
  rcases qaM w lf with e|e|e
  ·exact .inl e
  ·exact .inr e
  ·rw[hb] at e;cases e
def qJd (n:qb) (s:qg) (l:List qa) (X:Nat) (w:List Int) (f:Bool):Prop:=
 (f=true→Perm n s l X w∧∀lf,Perm n s l X lf→w=lf∨q3d w lf=true)∧(f=false→w=[]∧∀lf,¬ Perm n s l X lf)
theorem q1Q.lv (hR:Rgt n) (hl:l.length≤10) (h:q1Q n s l X (fun _=>True) w f):qJd n s l X w f:=by
 refine⟨fun hf=>?_,fun hf=>?_⟩
 ·obtain⟨⟨sub,-,hc⟩,h3⟩:=h.1 hf
  obtain⟨d,h1,h2,rfl⟩:=hc.ex
  refine⟨qlB hR hl hc.lt hc.sb h1 h2,fun lf hp=>?_⟩
  obtain⟨sub',d',q1,q2,q3,q4,q5⟩:=qeG hR hl hp
  have h4:=h3 sub' _ trivial ⟨q1,q2,d',q3,q4,rfl⟩
  rcases h4 with e|e
  ·rw[e];exact q5
  ·rcases q5 with q5|q5
   ·rw[←q5];exact .inr e
   ·exact .inr (q4c e q5)
 ·obtain⟨h1,h2⟩:=h.2 hf
  refine⟨h1,fun lf hp=>?_⟩
  obtain⟨sub',d',q1,q2,q3,q4,q5⟩:=qeG hR hl hp
  exact h2 sub' _ trivial ⟨q1,q2,d',q3,q4,rfl⟩
end
end
noncomputable section
open Go.RowKit
theorem qrJ {set k:Nat} (hs:set<9223372036854775808) (hk:k≤62):(ZT Go.BinOp.and IntKind.i64 (Int.fdiv (set:Int) ((2:Int) ^ min (Int.toNat (k:Int)) (IntKind.bits IntKind.i64))) (1:Int)==(0:Int)) = !set.testBit k:=by
 rw[qQ8,qau set k (by omega),show(1:Int)=((1:Nat):Int) from rfl,qfh _ 1 (qQH (Nat.div_le_self _ _) hs) (by decide),Nat.and_one_is_mod,Nat.testBit_eq_decide_div_mod_eq]
 have:set / 2 ^ k % 2<2:=Nat.mod_lt _ (by decide)
 by_cases e:set / 2 ^ k % 2=1
 ·rw[e];rfl
 ·have e0:set / 2 ^ k % 2=0:=by omega
  rw[e0];rfl
theorem qeP {α:Type}:∀(l:List α) (p m:Nat→Bool) (q:α→Bool),(∀k x,l[k]?=some x→p k=(m k&&q x))→Qt p l=(Qt m l).filter q
 | [],_,_,_,_=>rfl
 | a::l,p,m,q,h=>by
  have h0:p 0=(m 0&&q a):=h 0 a rfl
  rw[Qt,Qt,List.filter_append,←qeP l _ _ q fun k x hk=>h (k+1) x hk,h0]
  congr 1
  cases m 0<;>cases hq:q a<;>simp[hq]
theorem qrY {N sub X:Nat} (h:sub &&& X=sub):q3O N sub=(q3O N X).filter fun y=>sub.testBit (Int.toNat y):=by
 unfold q3O
 refine qeP _ _ _ _ fun k x hk=>?_
 have hj:=Jl hk
 rw[zI] at hj
 rw[Je _ hj] at hk
 injection hk with hk
 subst hk
 rw[qQ8]
 cases e:sub.testBit k
 ·simp
 ·rw[qaR h e];rfl
theorem qhy {d:List Int} (hd:d.length≤10) {sub:Nat} (hs:sub<9223372036854775808) (hoff:∀(j:Nat) (y:Int),d[j]?=some y→sub.testBit j=false→y = -1) (w2:List Int) (b0:qf) (b1:qg) (t2:List qa) (t3:List Bool) (t4:Int) (t11:Bool) (M:List Int) (hM:M.length≤10) (hr:∀y∈M,∃k:Nat,k<d.length∧y=(k:Int)) :
  ∀(r:List Int) (i:Nat) (out asg:List Int),r.length+i=M.length→(∀j,r[j]?=M[i+j]?)→out.length=i→asg=r.filterMap (fun y=>if sub.testBit (Int.toNat y)=true then d[Int.toNat y]? else none)→
  zw (QB w2 b0 b1 t2 t3 t4 t11 (sub:Int) M ((M.length:Nat):Int)) (out,asg,(i:Int))=some (out++r.filterMap fun y=>d[Int.toNat y]?)
 | [],i,out,asg,hi,_,_,_=>by
  have hi:i=M.length:=by simpa using hi
  refine(zu ?_).trans (by rw[List.filterMap_nil,qQq])
  unfold QB
  dsimp only
  rw[if_neg (by omega)]
 | y::r,i,out,asg,hi,hj,ho,ha=>by
  have hML:100000≤maxLen:=by unfold maxLen;omega
  have hil:i<M.length:=by simp only[qQg] at hi;omega
  have hy:M[i]?=some y:=by have:=hj 0;rw[Nat.add_zero] at this;exact this.symm
  obtain⟨k,hk,rfl⟩:=hr y (qQ6 hy)
  have hws:w64 ((i:Int)+1)=((i+1:Nat):Int):=Qk (n:=10000) (by omega) (by omega)
  have hb:=qrJ (set:=sub) (k:=k) hs (by omega)
  have hdk:d[k]?=some d[k]:=qQ7 hk
  have next:∀(out' asg':List Int),out'.length=i+1→asg'=r.filterMap (fun y=>if sub.testBit (Int.toNat y)=true then d[Int.toNat y]? else none)→QB w2 b0 b1 t2 t3 t4 t11 (sub:Int) M ((M.length:Nat):Int) (out,asg,(i:Int))=some (.inl (out',asg',((i+1:Nat):Int)))→out'=out++[d[k]]→
    zw (QB w2 b0 b1 t2 t3 t4 t11 (sub:Int) M ((M.length:Nat):Int)) (out,asg,(i:Int))=some (out++((k:Int)::r).filterMap fun y=>d[Int.toNat y]?):=fun out' asg' h1 h2 h3 h4=>by
   rw[zV h3,qhy hd hs hoff w2 b0 b1 t2 t3 t4 t11 M hM hr r (i+1) out' asg' (by simp only[qQg] at hi;omega) (fun j=>by have:=hj (j+1);rw[qQu] at this;rw[this];congr 1;omega) h1 h2,List.filterMap_cons,qQ8,hdk,h4]
   simp
  cases hbit:sub.testBit k
  ·have hm1:d[k] = -1:=hoff k _ hdk hbit
   refine next (out++[(-(1:Int))]) asg (by rw[qQc,ho];rfl) ?_ ?_ (by rw[hm1])
   ·rw[ha,List.filterMap_cons,qQ8,hbit,if_neg (by decide)]
   ·unfold QB
    dsimp only
    rw[if_pos (by omega),if_pos ⟨by omega,by omega⟩,qQ8,hy,qQ5,if_pos (by omega),if_pos (by rw[hb,hbit];rfl),if_pos ⟨by omega,by omega⟩,hws]
  ·rw[List.filterMap_cons,qQ8,hbit,if_pos rfl,hdk] at ha
   subst ha
   refine next (out++[d[k]]) _ (by rw[qQc,ho];rfl) rfl ?_ rfl
   unfold QB
   dsimp only
   rw[if_pos (by omega),if_pos ⟨by omega,by omega⟩,qQ8,hy,qQ5,if_pos (by omega),if_neg (by rw[hb,hbit];decide),if_pos (by simp),qQf,qQ5,if_pos ⟨by omega,by omega⟩,if_pos (by simp;omega),hws]
   simp
theorem qhm {p:qf} (h:Rgt p.Need) {l:List qa} (hl:l.length≤10) (s:qg) {X:Nat} (hX:X<2 ^ l.length) {w:List Int} {f:Bool} (j:Nat) (hj:j≤X) (hw:w.length≤10) (hB:q1Q p.Need s l X (fun k=>j+1≤k) w f) :
  ∃w' f',w'.length≤10∧q1Q p.Need s l X (fun k=>j≤k) w' f'∧Zf p s l (Zi (2 ^ l.length) (QQ [] s l p.Need 0)) (X:Int) (w,f,(j:Int))=some (.inl (w',f',(j:Int)-1)):=by
 have hjlt:j<2 ^ l.length:=by omega
 have h10:(2:Nat) ^ l.length≤1024:=qQG (Nat.pow_le_pow_right (by decide) hl) (by decide)
 have G:=q4e h hl hjlt
 have ew:w64 ((j:Int)-1)=(j:Int)-1:=Z9 (by omega) (by omega)
 have grow:∀{w':List Int} {f':Bool},q1Q p.Need s l X (fun k=>j+1≤k∨k=j) w' f'→q1Q p.Need s l X (fun k=>j≤k) w' f':=fun hb=>hb.congr fun k _ _=>by omega
 have han:=qeL j X (by omega) (by omega)
 unfold Zf
 dsimp only
 rw[if_pos (by omega),han,ew]
 by_cases hsub:j &&& X=j
 ·rw[if_neg (by rw[hsub,Nat.xor_self];decide),if_pos ⟨by omega,by rw[zI];omega⟩,qQ8,Je _ hjlt,qQ5]
  cases hS:QQ [] s l p.Need 0 j
  ·rw[if_pos (by decide)]
   exact⟨w,f,hw,grow (hB.skip fun lf hc=>by
    obtain⟨d,h1,h2,-⟩:=hc.ex
    have:=qdC G h1 h2
    rw[hS] at this;cases this),rfl⟩
  ·rw[if_neg (by decide)]
   obtain⟨d,h1,h2⟩:=qkA h hl hjlt s hS
   have hM:(q3O l.length X).length≤10:=by rw[qjZ];exact qQG (qdP _ _) hl
   have hloop:=qhy (d:=d) (by omega) (sub:=j) (by omega) (fun i y hy hb=>by have:=h2.val i y hy;rw[hb,if_neg (by decide)] at this;exact this) w p s l (Zi (2 ^ l.length) (QQ [] s l p.Need 0)) (X:Int) f (q3O l.length X) hM (fun y hy=>by rw[h1];exact mem_range hy) (q3O l.length X) 0 [] (Qt j.testBit d) (by omega) (fun i=>by rw[qQt]) rfl (by
    rw[←qtG d j,h1,qrY hsub,List.filterMap_filter])
   rw[qn8 h hl hjlt s h1 h2,qQ5]
   dsimp only
   rw[if_neg (by decide),q4h (N:=l.length) (by omega) hX,qQ5]
   change ∃w' f',_∧_∧Option.bind (zw _ ([],Qt j.testBit d,((0:Nat):Int))) _=_
   have e1:(q3O l.length X).filterMap (fun y=>d[Int.toNat y]?)=Qt X.testBit d:=by rw[←h1];exact qtG d X
   rw[hloop,qQ5,qQp,e1]
   have hc:qqV p.Need s l X j (Qt X.testBit d):=⟨hjlt,hsub,d,h1,h2,rfl⟩
   have hlen:(Qt X.testBit d).length≤10:=by have:=q44 d X.testBit;omega
   cases hf:f
   ·rw[if_pos (by decide)]
    exact⟨_,_,hlen,grow (hB.take h hl hc (.inl hf)),rfl⟩
   ·rw[if_neg (by decide),qpT _ _ (by omega),qQ5]
    subst hf
    by_cases hlt:qmw (Qt X.testBit d) w<0
    ·rw[if_pos hlt]
     exact⟨_,_,hlen,grow (hB.take h hl hc (.inr ((qfU _ _).1 hlt))),rfl⟩
    ·rw[if_neg hlt]
     exact⟨_,_,hw,grow (hB.leave h hl hc (qQx.2 fun e=>hlt ((qfU _ _).2 e))),rfl⟩
 ·have hne:((j ^^^ (j &&& X):Nat):Int)≠0:=fun e=>hsub (by
   have h0:j ^^^ (j &&& X)=0:=by omega
   exact Nat.eq_of_testBit_eq fun k=>by
    have h2:(j ^^^ (j &&& X)).testBit k=false:=by rw[h0,Nat.zero_testBit]
    rw[Nat.testBit_xor] at h2
    cases e1:(j &&& X).testBit k<;>cases e2:j.testBit k<;>rw[e1,e2] at h2<;>first|rfl|cases h2)
  rw[if_pos (by simpa using hne)]
  exact⟨w,f,hw,grow (hB.skip fun lf hc=>hsub hc.sb),rfl⟩
theorem qja {p:qf} (h:Rgt p.Need) {l:List qa} (hl:l.length≤10) (s:qg) {X:Nat} (hX:X<2 ^ l.length) :
  ∃w f,q1n p s l (Zi (2 ^ l.length) (QQ [] s l p.Need 0)) (X:Int)=some (w,f)∧w.length≤10∧qJd p.Need s l X w f:=by
 have h10:(2:Nat) ^ l.length≤1024:=qQG (Nat.pow_le_pow_right (by decide) hl) (by decide)
 have key:∀(i:Nat),i≤X+1→∀(w:List Int) (f:Bool),w.length≤10→q1Q p.Need s l X (fun k=>i≤k) w f→∃w' f',zw (Zf p s l (Zi (2 ^ l.length) (QQ [] s l p.Need 0)) (X:Int)) (w,f,(i:Int)-1)=some (w',f')∧w'.length≤10∧qJd p.Need s l X w' f':=by
  intro i
  induction i with
  | zero=>
   intro _ w f hw hB
   refine⟨w,f,zu ?_,hw,(hB.congr fun k _ _=>⟨fun _=>qQv k,fun _=>trivial⟩).lv h hl⟩
   unfold Zf
   dsimp only
   rw[if_neg (by decide)]
  | succ i ih=>
   intro hi w f hw hB
   obtain⟨w',f',h1,h2,h3⟩:=qhm h hl s hX i (by omega) hw hB
   rw[show((i+1:Nat):Int)-1=(i:Int) by omega,zV h3]
   exact ih (by omega) w' f' h1 h2
 obtain⟨w,f,h1,h2,h3⟩:=key (X+1) (qQl _) [] false (qQv _) ((q1Q.start (P:=fun _=>False) fun _ h=>h).congr fun k _ hk=>⟨fun h=>by
  have:k≤X:=by rw[←hk];exact Nat.and_le_right
  omega,fun h=>h.elim⟩)
 rw[show((X+1:Nat):Int)-1=(X:Int) by omega] at h1
 unfold q1n
 rw[h1,qQ5]
 exact⟨w,f,rfl,h2,h3⟩
end
noncomputable section
open Go.RowKit
section
variable {α ε:Type} {step:Int→Option (Int⊕ε)} (l:List α)
theorem qco (q:α→Bool) (e0 e1:ε) (hs:∀(i:Nat) (a:α),l[i]?=some a→step (i:Int)=some (if q a=true then .inl ((i+1:Nat):Int) else .inr e0)) (he:step ((l.length:Nat):Int)=some (.inr e1)) :
  zw step (0:Int)=some (if l.all q=true then e1 else e0):=by
 have key:∀(r:List α) (i:Nat),r.length+i=l.length→(∀j,r[j]?=l[i+j]?)→zw step (i:Int)=some (if r.all q=true then e1 else e0):=by
  intro r
  induction r with
  | nil=>
   intro i hi _
   have:i=l.length:=by simpa using hi
   subst this
   exact zu he
  | cons a r ih=>
   intro i hi hj
   have ha:l[i]?=some a:=by have:=hj 0;rw[Nat.add_zero] at this;exact this.symm
   have h1:=hs i a ha
   rw[List.all_cons]
   cases hq:q a
   ·rw[hq,if_neg (by decide)] at h1
    exact zu h1
   ·rw[hq,if_pos rfl] at h1
    rw[zV h1,ih (i+1) (by simp only[qQg] at hi;omega) (fun j=>by have:=hj (j+1);rw[qQu] at this;rw[this];congr 1;omega),qQC]
 exact key l 0 (by omega) fun j=>by rw[qQt]
theorem qfE (q:α→Bool) (mk:Nat→ε) (e1:ε) (hs:∀(i:Nat) (a:α),l[i]?=some a→step (i:Int)=some (if q a=true then .inr (mk i) else .inl ((i+1:Nat):Int))) (he:step ((l.length:Nat):Int)=some (.inr e1)) :
  (l.any q=true∧∃i,zw step (0:Int)=some (mk i))∨(l.any q=false∧zw step (0:Int)=some e1):=by
 have key:∀(r:List α) (i:Nat),r.length+i=l.length→(∀j,r[j]?=l[i+j]?)→(r.any q=true∧∃k,zw step (i:Int)=some (mk k))∨(r.any q=false∧zw step (i:Int)=some e1):=by
  intro r
  induction r with
  | nil=>
   intro i hi _
   have:i=l.length:=by simpa using hi
   subst this
   exact .inr ⟨rfl,zu he⟩
  | cons a r ih=>
   intro i hi hj
   have ha:l[i]?=some a:=by have:=hj 0;rw[Nat.add_zero] at this;exact this.symm
   have h1:=hs i a ha
   rw[List.any_cons]
   cases hq:q a
   ·rw[hq,if_neg (by decide)] at h1
    rw[zV h1,Bool.false_or]
    exact ih (i+1) (by simp only[qQg] at hi;omega) (fun j=>by have:=hj (j+1);rw[qQu] at this;rw[this];congr 1;omega)
   ·rw[hq,if_pos rfl] at h1
    exact .inl ⟨rfl,i,zu h1⟩
 exact key l 0 (by omega) fun j=>by rw[qQt]
end
theorem q4n {i n:Nat} (h:i<n) (hn:n≤1000000):w64 ((i:Int)+1)=((i+1:Nat):Int):=Qk h (by omega)
theorem qhr (s:List Int) (hs:s.length≤1000000) (v:Int):Zk s v=some (s.any fun x=>v==x):=by
 have h:=qfE (step:=QL s v ((s.length:Nat):Int)) s (fun x=>v==x) (fun i => .inl (i:Int)) (.inr ()) (fun i a ha=>by
  have hi:=Jl ha
  unfold QL
  rw[if_pos (by omega),if_pos ⟨by omega,by omega⟩,qQ8,ha,qQ5,q4n hi hs]
  split<;>rfl) (by
  unfold QL
  rw[if_neg (by omega)])
 unfold Zk q00
 rcases h with ⟨h1,i,h2⟩|⟨h1,h2⟩
 ·rw[h2,qQ5,Sum.elim_inl,qQ5,h1,qR6 (by omega)]
 ·rw[h2,qQ5,Sum.elim_inr,qQ5,h1,decide_eq_false (by omega)]
def qx8 (a b:List Int):Bool:=a.any fun x=>b.any fun y=>x==y
theorem qyM (a b:List Int) (ha:a.length≤1000000) (hb:b.length≤1000000):JV a b=some (qx8 a b):=by
 have h:=qfE (step:=Qm b a ((a.length:Nat):Int)) a (fun x=>b.any fun y=>x==y) (fun i => .inl (i:Int)) (.inr ()) (fun i x hx=>by
  have hi:=Jl hx
  unfold Qm q19
  rw[if_pos (by omega),if_pos ⟨by omega,by omega⟩,qQ8,hx,qQ5,qhr b hb,qQ5,qQ5,q4n hi ha]
  split<;>rfl) (by
  unfold Qm
  rw[if_neg (by omega)])
 unfold JV Zq ZV qx8
 rcases h with ⟨h1,i,h2⟩|⟨h1,h2⟩
 ·rw[h2,qQ5,Sum.elim_inl,qQ5,h1,qR6 (by omega),qQ5]
 ·rw[h2,qQ5,Sum.elim_inr,qQ5,h1,decide_eq_false (by omega),qQ5]
theorem qdp (a b:List Int) (ha:a.length≤1000000):Zh a b=some (decide (a=b)):=by
 unfold Zh
 by_cases hl:a.length=b.length
 ·rw[if_neg (by rw[hl];simp)]
  have key:∀(r q:List Int) (i:Nat),r.length+i=a.length→q.length=r.length→(∀j,r[j]?=a[i+j]?)→(∀j,q[j]?=b[i+j]?)→zw (Qs a b ((a.length:Nat):Int)) (i:Int)=some (if r=q then .inr () else .inl ()):=by
   intro r
   induction r with
   | nil=>
    intro q i hi hq _ _
    obtain rfl:=qQo hq
    have hi:i=a.length:=by simpa using hi
    refine zu ?_
    unfold Qs
    rw[if_neg (by omega),if_pos rfl]
   | cons x r ih=>
    intro q i hi hq hr hb
    cases q with
    | nil=>cases hq
    | cons y q=>
     simp only[qQg] at hi hq
     have hx:a[i]?=some x:=by have:=hr 0;rw[Nat.add_zero] at this;exact this.symm
     have hy:b[i]?=some y:=by have:=hb 0;rw[Nat.add_zero] at this;exact this.symm
     have e:Qs a b ((a.length:Nat):Int) (i:Int)=some (if(x != y)=true then .inr (.inl ()) else .inl ((i+1:Nat):Int)):=by
      unfold Qs
      rw[if_pos (by omega),if_pos ⟨by omega,by omega⟩,qQ8,hx,qQ5,if_pos ⟨by omega,by omega⟩,hy,qQ5,q4n (Jl hx) ha]
      split<;>rfl
     by_cases hxy:x=y
     ·subst hxy
      rw[if_neg (by simp)] at e
      rw[zV e,ih q (i+1) (by omega) (by omega) (fun j=>by have:=hr (j+1);rw[qQu] at this;rw[this];congr 1;omega) (fun j=>by have:=hb (j+1);rw[qQu] at this;rw[this];congr 1;omega)]
      simp
     ·rw[if_pos (by simpa using hxy)] at e
      rw[zu e,if_neg (fun h=>hxy (by injection h))]
  have h:=key a b 0 (by omega) hl.symm (fun j=>by rw[qQt]) (fun j=>by rw[qQt])
  change Option.bind (zw _ ((0:Nat):Int)) _=_
  rw[h,qQ5]
  by_cases e:a=b
  ·rw[if_pos e,Sum.elim_inr,qR6 e]
  ·rw[if_neg e,Sum.elim_inl,decide_eq_false e]
 ·rw[if_pos (by simpa using fun h=>hl (by omega)),decide_eq_false (fun e=>hl (by rw[e]))]
def q8x (a:qa):Prop:=a.Sources.length≤1000∧a.Path.length≤1000
def qk4 (a b:qa):Bool := !ceq a.Course b.Course&&((decide (0<a.Bundle)&&a.Bundle==b.Bundle&&decide (a.Path=b.Path)) || !qx8 a.Sources b.Sources)
theorem qsB {a b:qa} (ha:q8x a) (hb:q8x b):q3B a b=some (qk4 a b):=by
 have h1:=ha.1;have h2:=ha.2;have h3:=hb.1
 unfold q3B qk4
 rw[qdp _ _ (by omega),qyM _ _ (by omega) (by omega)]
 simp only[qQ5]
 by_cases hc:ceq a.Course b.Course=true
 ·rw[if_pos (by unfold ceq at hc;rw[qQB] at hc;exact hc),hc];rfl
 ·rw[if_neg (by unfold ceq at hc;rw[qQB] at hc;exact hc),qQx.2 hc]
  by_cases h0:0<a.Bundle
  ·rw[if_pos h0,qR6 h0]
   cases hbd:a.Bundle==b.Bundle
   ·rw[if_neg (by decide)];simp
   ·rw[if_pos rfl]
    cases hp:decide (a.Path=b.Path)
    ·rw[if_neg (by decide)];simp
    ·rw[if_pos rfl];simp
  ·rw[if_neg h0,decide_eq_false h0];simp
def qt4 (v a:q05 qc):Bool:=ceq v.a0 a.a0&&ceq v.a1 a.a1
theorem q7h (s:List (q05 qc)) (hs:s.length≤1000000) (v:q05 qc):z7 s v=some (s.any (qt4 v)):=by
 have h:=qfE (step:=zr v s ((s.length:Nat):Int)) s (qt4 v) (fun i => .inl (i:Int)) (.inr ()) (fun i a ha=>by
  have hi:=Jl ha
  unfold zr
  rw[if_pos (by omega),if_pos ⟨by omega,by omega⟩,qQ8,ha,qQ5,q4n hi hs]
  have e:(((v.a0.School==a.a0.School)=true∧(v.a0.Code.toList==a.a0.Code.toList)=true)∧(v.a1.School==a.a1.School)=true∧(v.a1.Code.toList==a.a1.Code.toList)=true)↔qt4 v a=true:=by
   unfold qt4 ceq;simp only[qQB]
  by_cases hq:qt4 v a=true
  ·rw[if_pos (e.2 hq),if_pos hq]
  ·rw[if_neg (fun h=>hq (e.1 h)),if_neg hq]) (by
  unfold zr
  rw[if_neg (by omega)])
 unfold z7 Qj
 rcases h with ⟨h1,i,h2⟩|⟨h1,h2⟩
 ·rw[h2,qQ5,Sum.elim_inl,qQ5,h1,qR6 (by omega)]
 ·rw[h2,qQ5,Sum.elim_inr,qQ5,h1,decide_eq_false (by omega)]
def qiW (p:qf) (a b:qa):Bool:=qk4 a b && !p.Exclude.any (qt4 ⟨a.Course,b.Course⟩) && !p.Exclude.any (qt4 ⟨b.Course,a.Course⟩)
theorem qtr (p:qf) (hp:p.Exclude.length≤1000) (a:qa) (ha:q8x a) (t1:List qa) (t2 t7:Int) (t12:List qa) (t13 t14:Int) (l:List qa) (hl:l.length≤1000) (hf:∀b∈l,q8x b) :
  zw (ZO p a t1 t2 t7 t12 t13 t14 l ((l.length:Nat):Int)) (0:Int)=some (if l.all (qiW p a)=true then .inr () else .inl ()):=by
 refine qco l (qiW p a) _ _ (fun i b hb=>?_) ?_
 ·have hi:=Jl hb
  unfold ZO
  rw[if_pos (by omega),if_pos ⟨by omega,by omega⟩,qQ8,hb,qQ5,qsB ha (hf b (qQ6 hb)),qQ5,q7h _ (by omega),q7h _ (by omega),q4n hi (by omega)]
  unfold qiW
  simp only[qQ5]
  cases qk4 a b
  ·simp
  ·cases p.Exclude.any (qt4 ⟨a.Course,b.Course⟩)
   ·cases p.Exclude.any (qt4 ⟨b.Course,a.Course⟩)<;>simp
   ·simp
 ·unfold ZO
  rw[if_neg (by omega)]
def qqR (p:qf) (a:qa) (day:Int):Bool:=(ZS p a day).getD false
theorem qo7 (d:Int):∃v,q3b d=some v:=by
 have h:∀n,∃v,q1G n 100=some v:=fun n=>by
  unfold q1G
  rw[if_neg (by decide),if_neg (by decide),if_neg (by decide)]
  exact⟨_,rfl⟩
 unfold q3b
 split
 ·obtain⟨v,hv⟩:=h (w64 (d+100));rw[hv];exact⟨_,rfl⟩
 ·obtain⟨v,hv⟩:=h d;rw[hv];exact⟨_,rfl⟩
theorem qtS (p:qf) (a:qa) (day:Int):ZS p a day=some (qqR p a day):=by
 obtain⟨v,hv⟩:=qo7 day
 obtain⟨w,hw⟩:=qo7 a.Day
 have:∃b,ZS p a day=some b:=by
  unfold ZS
  rw[hv,hw]
  split<;>exact⟨_,rfl⟩
 obtain⟨b,hb⟩:=this
 unfold qqR
 rw[hb];rfl
def qEX (p:qf) (o:Int) (a:qa):Int:=if a.Course.School=p.School∧a.Bundle=0 then w64 (o+a.Credits) else o
def tgL (p:qf) (day:Int):List qa→List qa→Bool
 | _,[]=>true
 | done,a::r => !qqR p a day&&done.all (qiW p a)&&tgL p day (done++[a]) r
def qGj (l:List qa):Int:=l.foldl (fun n a=>w64 (n+a.Credits)) 0
def qf4 (p:qf) (l:List qa) (day:Int):Bool:=tgL p day [] l&&decide (p.Total≤qGj l)&&decide (p.Own≤l.foldl (qEX p) 0)
theorem qlT (l:List qa) (hl:l.length≤1000):q23 l=some (qGj l):=by
 have h:=qm5 (step:=JT l ((l.length:Nat):Int)) l (fun(b:Int) k=>(b,(k:Int))) (fun b a=>w64 (b+a.Credits)) (fun b=>b) (fun b k a ha=>by
  have hi:=Jl ha
  unfold JT
  dsimp only
  rw[if_pos (by omega),if_pos ⟨by omega,by omega⟩,qQ8,ha,qQ5,q4n hi (by omega)]) (fun b=>by
  unfold JT
  dsimp only
  rw[if_neg (by omega)]) 0
 unfold q23
 change Option.bind (zw _ ((0:Int),((0:Nat):Int))) _=_
 rw[h];rfl
theorem qkN (p:qf) (hp:p.Exclude.length≤1000) (day:Int) (l:List qa) (hl:l.length≤1000) (hf:∀b∈l,q8x b):∀(r:List qa) (i:Nat) (o:Int),r.length+i=l.length→l.take i++r=l→
  ∃e,zw (Zd p l day l ((l.length:Nat):Int)) (o,(i:Int))=some e∧(tgL p day (l.take i) r=true→e = .inr (r.foldl (qEX p) o))∧(tgL p day (l.take i) r=false→∃x,e = .inl x)
 | [],i,o,hi,_=>by
  have hi:i=l.length:=by simpa using hi
  refine⟨.inr o,zu ?_,fun _=>rfl,fun h=>by rw[tgL] at h;cases h⟩
  unfold Zd
  dsimp only
  rw[if_neg (by omega)]
 | a::r,i,o,hi,hr=>by
  have hil:i<l.length:=by simp only[qQg] at hi;omega
  have ha:l[i]?=some a:=by
   rw[←hr,qQI (by rw[qQy];omega),qQy,Nat.min_eq_left (by omega),Nat.sub_self];rfl
  have hmem:a∈l:=qQ6 ha
  have htk:l.take i++[a]=l.take (i+1):=by rw[List.take_add_one,ha];rfl
  have hpre:(l.take i).length≤1000:=by rw[qQy];omega
  have hpr:=qtr p hp a (hf a hmem) l day o l ((l.length:Nat):Int) (i:Int) (l.take i) hpre (fun b hb=>hf b (List.mem_of_mem_take hb))
  have step:Zd p l day l ((l.length:Nat):Int) (o,(i:Int))=some (if qqR p a day=true then .inr (.inl o) else if(l.take i).all (qiW p a)=true then .inl (qEX p o a,((i+1:Nat):Int)) else .inr (.inl o)):=by
   unfold Zd
   dsimp only
   rw[if_pos (by omega),if_pos ⟨by omega,by omega⟩,qQ8,ha,qQ5,qtS,qQ5]
   by_cases hold:qqR p a day=true
   ·rw[if_pos hold,if_pos hold]
   ·rw[if_neg hold,if_neg hold,if_pos ⟨by omega,by omega⟩,qQY,hpr,qQ5,q4n hil (by omega)]
    by_cases hall:(l.take i).all (qiW p a)=true
    ·rw[if_pos hall,if_pos hall,Sum.elim_inr]
     unfold qEX
     by_cases h1:a.Course.School=p.School
     ·by_cases h2:a.Bundle=0
      ·rw[if_pos (by simpa using h1),if_pos (by simpa using h2),if_pos ⟨h1,h2⟩]
      ·rw[if_pos (by simpa using h1),if_neg (by simpa using h2),if_neg (fun h=>h2 h.2)]
     ·rw[if_neg (by simpa using h1),if_neg (fun h=>h1 h.1)]
    ·rw[if_neg hall,if_neg hall,Sum.elim_inl]
  rw[tgL]
  by_cases hold:qqR p a day=true
  ·rw[if_pos hold] at step
   exact⟨_,zu step,fun h=>by rw[hold] at h;simp at h,fun _=>⟨_,rfl⟩⟩
  ·rw[if_neg hold] at step
   by_cases hall:(l.take i).all (qiW p a)=true
   ·rw[if_pos hall] at step
    obtain⟨e,h1,h2,h3⟩:=qkN p hp day l hl hf r (i+1) (qEX p o a) (by simp only[qQg] at hi;omega) (by rw[←htk,qQL];exact hr)
    refine⟨e,(zV step).trans h1,?_,?_⟩
    ·rw[qQx.2 hold,hall,htk];exact h2
    ·rw[qQx.2 hold,hall,htk];exact h3
   ·rw[if_neg hall] at step
    exact⟨_,zu step,fun h=>by rw[qQx.2 hall] at h;simp at h,fun _=>⟨_,rfl⟩⟩
theorem qu5 (p:qf) (hp:p.Exclude.length≤1000) (l:List qa) (hl:l.length≤1000) (hf:∀b∈l,q8x b) (day:Int):JS p l day=some (qf4 p l day):=by
 obtain⟨e,h1,h2,h3⟩:=qkN p hp day l hl hf l 0 0 (by omega) rfl
 unfold JS qf4
 change Option.bind (zw _ ((0:Int),((0:Nat):Int))) _=_
 rw[h1,qQ5]
 rw[List.take_zero] at h2 h3
 cases ht:tgL p day [] l
 ·obtain⟨x,rfl⟩:=h3 ht
  rw[Sum.elim_inl];rfl
 ·rw[h2 ht,Sum.elim_inr,qlT l hl,qQ5,qQC]
  by_cases hc:p.Total≤qGj l
  ·rw[if_pos hc,qR6 hc,qQC]
  ·rw[if_neg hc,decide_eq_false hc,qR8]
end
end Go.Proofs.YtojflbfdcpkedaaGreat.Vc
