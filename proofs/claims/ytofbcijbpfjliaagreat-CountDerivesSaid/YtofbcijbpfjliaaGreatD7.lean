/- Part 7 of a proof. -/
import Derived.Test.YtofbcijbpfjliaaGreatD6
set_option linter.unusedVariables false
set_option linter.unusedSimpArgs false
set_option linter.defProp false
set_option linter.unusedSectionVars false
set_option linter.unnecessarySimpa false
namespace Go.Proofs.YtofbcijbpfjliaaGreat.Vc
noncomputable section
open Go.RowKit
set_option maxRecDepth 20000
set_option maxHeartbeats 8000000
def JY (x0:qa) (x1:q0u Int):Option qa:=Option.bind (q2w x0) fun(a:Prod Int (Prod ByteArray (Prod Int (Prod Int (Prod Int (Prod Int (Prod (List Int) (List Int))))))))=>Option.bind (ZT x1.a1 40) fun(a2:Int)=>Option.bind (ZT x1.a0 8) fun(a3:Int)=>if(a3==0)=Bool.true then some (qa.mk (qe.mk (Int.tmod a2 9) a.2.1) a.2.2.1 a.2.2.2.1 a.2.2.2.2.1 a.2.2.2.2.2.2.1 a.2.2.2.2.2.1 a.2.2.2.2.2.2.2) else if(a3==1)=Bool.true then if 0≤Int.tmod a2 4∧Int.tmod a2 4<4 then Option.bind [ByteArray.mk (List.toArray [65,49]),ByteArray.mk (List.toArray [66,49]),ByteArray.mk (List.toArray []),ByteArray.mk (List.toArray [65])][Int.toNat (Int.tmod a2 4)]? fun(a4:ByteArray)=>some (qa.mk (qe.mk a.1 a4) a.2.2.1 a.2.2.2.1 a.2.2.2.2.1 a.2.2.2.2.2.2.1 a.2.2.2.2.2.1 a.2.2.2.2.2.2.2) else none else if(a3==2)=Bool.true then some (qa.mk (qe.mk a.1 a.2.1) a2 a.2.2.2.1 a.2.2.2.2.1 a.2.2.2.2.2.2.1 a.2.2.2.2.2.1 a.2.2.2.2.2.2.2) else if(a3==3)=Bool.true then some (qa.mk (qe.mk a.1 a.2.1) a.2.2.1 (w64 (w64 (5*a2)-50)) a.2.2.2.2.1 a.2.2.2.2.2.2.1 a.2.2.2.2.2.1 a.2.2.2.2.2.2.2) else if(a3==4)=Bool.true then some (qa.mk (qe.mk a.1 a.2.1) a.2.2.1 a.2.2.2.1 (w64 (20*a2)) a.2.2.2.2.2.2.1 a.2.2.2.2.2.1 a.2.2.2.2.2.2.2) else if(a3==5)=Bool.true then if a.2.2.2.2.2.2.1.length+1≤maxLen∧(a.2.2.2.2.2.2.1.length+1)*8≤140737488355328 then some (qa.mk (qe.mk a.1 a.2.1) a.2.2.1 a.2.2.2.1 a.2.2.2.2.1 (a.2.2.2.2.2.2.1++[w64 (1000000+a2)]) a.2.2.2.2.2.1 a.2.2.2.2.2.2.2) else none else if(a3==6)=Bool.true then some (qa.mk (qe.mk a.1 a.2.1) a.2.2.1 a.2.2.2.1 a.2.2.2.2.1 a.2.2.2.2.2.2.1 (w64 (Int.tmod a2 5-1)) a.2.2.2.2.2.2.2) else if(a3==7)=Bool.true then if a.2.2.2.2.2.2.2.length+1≤maxLen∧(a.2.2.2.2.2.2.2.length+1)*8≤140737488355328 then some (qa.mk (qe.mk a.1 a.2.1) a.2.2.1 a.2.2.2.1 a.2.2.2.2.1 a.2.2.2.2.2.2.1 a.2.2.2.2.2.1 (a.2.2.2.2.2.2.2++[Int.tmod a2 3])) else none else some (qa.mk (qe.mk a.1 a.2.1) a.2.2.1 a.2.2.2.1 a.2.2.2.2.1 a.2.2.2.2.2.2.1 a.2.2.2.2.2.1 a.2.2.2.2.2.2.2)
theorem qcn:∀(q2G:Int) (q4b:ByteArray) (q9O qeR qpX:Int) (q9P:List Int) (qce:Int) (qi1:List Int) (qJL qJM:Int),ev 15 0 [R.agg [dI q2G,dS q4b,dI q9O,dI qeR,dI qpX,dL 1 eI q9P,dI qce,dL 1 eI qi1],R.agg [dI qJL,dI qJM]] []=(JY (qa.mk (qe.mk q2G q4b) q9O qeR qpX q9P qce qi1) (q0u.mk qJL qJM)).bind (fun(e:qa)=>some (R.agg [dI e.Course.School,dS e.Course.Code,dI e.Credits,dI e.Grade,dI e.Day,dL 1 eI e.Sources,dI e.Bundle,dL 1 eI e.Path],[])):=
 fun q2G q4b q9O qeR qpX q9P qce qi1 qJL qJM=>by
  rw[qF qEK qLg.2.2.2 qOM]
  have:=qM0;have:=@qbn;have:=@q3Y;have:=@JY.eq_1;exact gA
def JJ (c:q0i):Option (List qa×qg×Int):=Option.bind (q2z c.Has) fun(a:List qa)=>if 0<((a.length:Nat):Int) then if 0<c.Odd.a0.a0 then Option.bind (ZT c.Odd.a0.a2 ((a.length:Nat):Int)) fun(a2:Int)=>if 0≤a2∧a2<((a.length:Nat):Int) then Option.bind a[Int.toNat a2]? fun(a3:qa)=>Option.bind (JY a3 (q0u.mk c.Odd.a0.a0 c.Odd.a0.a1)) fun(a4:qa)=>if 0≤a2∧a2<((a.length:Nat):Int) then if Int.toNat a2*8+8≤a.length*8 then if 0<((a.length:Nat):Int) then if 0<c.Odd.a1.a0 then Option.bind (ZT c.Odd.a1.a2 ((a.length:Nat):Int)) fun(a5:Int)=>if 0≤a5∧a5<((a.length:Nat):Int) then Option.bind (List.set a (Int.toNat a2) a4)[Int.toNat a5]? fun(a6:qa)=>Option.bind (JY a6 (q0u.mk c.Odd.a1.a0 c.Odd.a1.a1)) fun(a7:qa)=>if 0≤a5∧a5<((a.length:Nat):Int) then if Int.toNat a5*8+8≤a.length*8 then Option.bind (Q8 c.Programme) fun(a8:qg)=>some (List.set (List.set a (Int.toNat a2) a4) (Int.toNat a5) a7,a8,Int.tmod (w64 c.Day) 800) else none else none else none else Option.bind (Q8 c.Programme) fun(a9:qg)=>some (List.set a (Int.toNat a2) a4,a9,Int.tmod (w64 c.Day) 800) else Option.bind (Q8 c.Programme) fun(a10:qg)=>some (List.set a (Int.toNat a2) a4,a10,Int.tmod (w64 c.Day) 800) else none else none else none else if 0<((a.length:Nat):Int) then if 0<c.Odd.a1.a0 then Option.bind (ZT c.Odd.a1.a2 ((a.length:Nat):Int)) fun(a11:Int)=>if 0≤a11∧a11<((a.length:Nat):Int) then Option.bind a[Int.toNat a11]? fun(a12:qa)=>Option.bind (JY a12 (q0u.mk c.Odd.a1.a0 c.Odd.a1.a1)) fun(a13:qa)=>if 0≤a11∧a11<((a.length:Nat):Int) then if Int.toNat a11*8+8≤a.length*8 then Option.bind (Q8 c.Programme) fun(a14:qg)=>some (List.set a (Int.toNat a11) a13,a14,Int.tmod (w64 c.Day) 800) else none else none else none else Option.bind (Q8 c.Programme) fun(a15:qg)=>some (a,a15,Int.tmod (w64 c.Day) 800) else Option.bind (Q8 c.Programme) fun(a16:qg)=>some (a,a16,Int.tmod (w64 c.Day) 800) else if 0<((a.length:Nat):Int) then if 0<c.Odd.a1.a0 then Option.bind (ZT c.Odd.a1.a2 ((a.length:Nat):Int)) fun(a17:Int)=>if 0≤a17∧a17<((a.length:Nat):Int) then Option.bind a[Int.toNat a17]? fun(a18:qa)=>Option.bind (JY a18 (q0u.mk c.Odd.a1.a0 c.Odd.a1.a1)) fun(a19:qa)=>if 0≤a17∧a17<((a.length:Nat):Int) then if Int.toNat a17*8+8≤a.length*8 then Option.bind (Q8 c.Programme) fun(a20:qg)=>some (List.set a (Int.toNat a17) a19,a20,Int.tmod (w64 c.Day) 800) else none else none else none else Option.bind (Q8 c.Programme) fun(a21:qg)=>some (a,a21,Int.tmod (w64 c.Day) 800) else Option.bind (Q8 c.Programme) fun(a22:qg)=>some (a,a22,Int.tmod (w64 c.Day) 800)
theorem q6T:∀(qi2:List (List Int)) (q3r q3s q3t q3u q3v q3w:Int) (q1s:List Int) (qi3:Int),ev 5 0 [R.agg [dL 1 (eL 1 eI) qi2,dI q3r,dI q3s,dI q3t,dI q3u,dI q3v,dI q3w,dL 1 eI q1s,C.d (D.int .u16 qi3)]] []=(JJ (q0i.mk qi2 (q0u.mk (qty.mk q3r q3s q3t) (qty.mk q3u q3v q3w)) q1s qi3)).bind (fun(e:List qa×qg×Int)=>some (R.tup [rL 8 qc e.1,R.agg [dI e.2.1.School,dI e.2.1.Id,dI e.2.1.Version,dI e.2.1.From,dS e.2.1.Name,dI e.2.1.Need.Kind,dI e.2.1.Need.N,dI e.2.1.Need.Min,dL 2 qf e.2.1.Need.Set,dL 5 qh e.2.1.Need.L,dI e.2.1.Total,dI e.2.1.Own,dI e.2.1.Age,dL 4 (eA2 qf) e.2.1.Exclude],rI e.2.2],[])):=
 fun qi2 q3r q3s q3t q3u q3v q3w q1s qi3=>by
  rw[qF bd5 pw5.2.2.2 lo5]
  have:=cx5;have:=@qbJ;have:=@q3Y;have:=@q8y;have:=@qcn;have:=@JJ.eq_1;have:=fun(E:Orc) (k:Nat) (s:S)=>qxz (E:=E) (k:=k) (s:=s) qIK qHq;have:=@quS.eq_1;have:=@qmg;have:=@qwB;have:=@qCM;have:=@qwf;have:=@qBU;have:=@qxA;have:=@qCq;exact gA
theorem lo8:okL 8 qgC:=qJ (qj bd8) (by kernel_rfl) (by kernel_rfl)
def cx8:=JA_ @qgC.eq_1 (JA_ @Tryz.f8.eq_1 @bd8)
theorem qIi:lbO 8 6=qxR:=Qt (qj bd8) rfl
theorem qHa:okL 8 qxR:=zI lo8 (qQy (i:=0) (by kernel_rfl))
theorem qtw:raO 8 19=qdg:=qtO (qj bd8) rfl
theorem qpF:rbO 8 19=qbz:=qtl (qj bd8) rfl
theorem qtd:okL 8 qdg∧okL 8 qbz:=qtM (key:=0) (q:=(qdg,qbz)) lo8 (qQy (i:=0) (by kernel_rfl))
theorem qoM:zt (rbO 8 19)=19:=by rw[qpF];exact qzb
theorem qD3:∀k s,XE2 evo 8 k (raO 8 19) s=XE2 evo 8 k qdg s:=fun _ _=>by rw[qtw]
theorem qE0:∀k s,XE2 evo 8 k (rbO 8 19) s=XE2 evo 8 k qbz s:=fun _ _=>by rw[qpF]
theorem qPI:okL 21 qjw:=qJ (qj qEH) (by kernel_rfl) (by kernel_rfl)
def qPQ:=JA_ @qjw.eq_1 (JA_ @Tryz.f21.eq_1 @qEH)
theorem qKa:okL 47 qgd:=qJ (qj qyn) (by kernel_rfl) (by kernel_rfl)
def qKA:=JA_ @qgd.eq_1 (JA_ @Tryz.f47.eq_1 @qyn)
theorem qul:lbO 47 13=qhq:=Qt (qj qyn) rfl
theorem qwy:okL 47 qhq:=zI qKa (qQy (i:=0) (by kernel_rfl))
theorem qO8:okL 75 qjz:=qJ (qj qFu) (by kernel_rfl) (by kernel_rfl)
def qPR:=JA_ @qjz.eq_1 (JA_ @Tryz.f75.eq_1 @qFu)
def q2O (n:Int) (low:Int) (high:Int):Option Bool:=if low≤n then some (decide (n≤high)) else some Bool.false
def qX (n:Int) (low:Int) (high:Int):Bool:=if low≤n then decide (n≤high) else Bool.false
theorem q8Q (n low high:Int):q2O n low high=some (qX n low high):=by
 unfold q2O qX
 simp only[Zb]
theorem ZQ:∀(n low high:Int),ev 75 0 [rI n,rI low,rI high] []=some (rB (qX n low high),[]):=
 fun n low high=>by
  have h:ev 75 0 [rI n,rI low,rI high] []=(q2O n low high).bind (fun(e:Bool)=>some (rB e,[])):=by
   rw[qF qFu qLT.2.2.2 qO8]
   have:=qPR;have:=@q2O.eq_1;exact gA
  rw[q8Q] at h
  exact h
theorem qJO:okL 76 qf2:=qJ (qj qDU) (by kernel_rfl) (by kernel_rfl)
def qKR:=JA_ @qf2.eq_1 (JA_ @Tryz.f76.eq_1 @qDU)
theorem qAF:lbO 76 2=qnI:=Qt (qj qDU) rfl
theorem qyM:okL 76 qnI:=zI qJO (qQy (i:=0) (by kernel_rfl))
def JI (s:ByteArray) (t6:List Int) (t7:Int):Int→Option (Int⊕(Unit⊕Unit))|t8=>if t8<t7 then if 0≤t8∧t8<((t6.length:Nat):Int) then Option.bind t6[Int.toNat t8]? fun(a:Int)=>if a<32 then some (Sum.inr (Sum.inl ())) else if 126<a then some (Sum.inr (Sum.inl ())) else if(a==34)=Bool.true then some (Sum.inr (Sum.inl ())) else some (Sum.inl (w64 (t8+1))) else none else some (Sum.inr (Sum.inr ()))
theorem q7Z:∀(s:ByteArray) (t6:List Int) (t7 t8:Int),XL2 evo 76 0 2 ⟨[(0,rS s),(6,rL 1 eU8 t6),(7,rI t7),(8,rI t8)],[],0,26⟩=(zn (JI s t6 t7) t8).bind (Sum.elim (fun(e:Unit)=>some (Exit.ret,⟨[(0,rS s),(2,rB Bool.false)],[],0,26⟩)) (fun(e:Unit)=>some (Exit.exit 0,⟨[(0,rS s),(2,R.any)],[],0,26⟩))):=
 fun s t6 t7 t8=>by
  revert t8;exact qcm qAF qyM (fun e=>by rcases e with _|_<;>exact⟨_,rfl,fun h=>by cases h⟩) fun x=>by
   have:=qKR;have:=@qnI.eq_1;have:=@JI.eq_1;exact gA
def q0F (s:ByteArray):Option Bool:=if ByteArray.size s≤4611686018427387903 then Option.bind (zn (JI s (qgw s) (((qgw s).length:Nat):Int)) 0) fun(a:Sum Unit Unit)=>Sum.elim (fun(a2:Unit)=>some Bool.false) (fun(a3:Unit)=>some (qX ((ByteArray.size s:Nat):Int) 1 40)) a else none
theorem qbV:∀(s:ByteArray),ev 76 0 [rS s] []=(q0F s).bind (fun(e:Bool)=>some (rB e,[])):=
 fun s=>by
  rw[qF qDU qLy.2.2.2 qJO]
  have:=qKR;have:=@q7Z;have:=@ZQ;have:=@q0F.eq_1;exact gA
theorem qK7:okL 49 qfp:=qJ (qj qC2) (by kernel_rfl) (by kernel_rfl)
def qKF:=JA_ @qfp.eq_1 (JA_ @Tryz.f49.eq_1 @qC2)
theorem qBh:lbO 49 6=qmx:=Qt (qj qC2) rfl
theorem qzd:okL 49 qmx:=zI qK7 (qQy (i:=0) (by kernel_rfl))
theorem qLC:okL 80 qdj:=qJ (qj qy8) (by kernel_rfl) (by kernel_rfl)
def qIv:=JA_ @qdj.eq_1 (JA_ @Tryz.f80.eq_1 @qy8)
theorem qpE:raO 80 4=qbC:=qtO (qj qy8) rfl
theorem qiG:rbO 80 4=q9Z:=qtl (qj qy8) rfl
theorem qjC:okL 80 qbC∧okL 80 q9Z:=qtM (key:=0) (q:=(qbC,q9Z)) qLC (qQy (i:=0) (by kernel_rfl))
theorem qoK:zt (rbO 80 4)=4:=by rw[qiG];exact qCb
theorem qte:∀k s,XE2 evo 80 k (raO 80 4) s=XE2 evo 80 k qbC s:=fun _ _=>by rw[qpE]
theorem qtV:∀k s,XE2 evo 80 k (rbO 80 4) s=XE2 evo 80 k q9Z s:=fun _ _=>by rw[qiG]
theorem qGf:okL 106 qeN:=qJ (qj qrK) (by kernel_rfl) (by kernel_rfl)
def qFZ:=JA_ @qeN.eq_1 (JA_ @Tryz.f106.eq_1 @qrK)
def q3L (n:qb):Option Unit:=
 some ()
def q77 (n:qb):Unit:=
 ()
theorem qaa (n:qb):q3L n=some (q77 n):=by
 unfold q3L q77
 simp only[Zb]
theorem qby:∀(qw n_N qQ:Int) (qR:List qe) (n_L:List qb),ev 106 0 [R.agg [dI qw,dI n_N,dI qQ,dL 2 qf qR,dL 5 qh n_L]] []=some (R.c (C.fn 141 [] [dP 0]),[(0,B.blk 34 [dI qw,dI n_N,dI qQ,dL 2 qf qR,dL 5 qh n_L])]):=
 fun qw n_N qQ qR n_L=>by
  have h:ev 106 0 [R.agg [dI qw,dI n_N,dI qQ,dL 2 qf qR,dL 5 qh n_L]] []=(q3L (qb.mk qw n_N qQ qR n_L)).bind (fun(e:Unit)=>some (R.c (C.fn 141 [] [dP 0]),[(0,B.blk 34 [dI qw,dI n_N,dI qQ,dL 2 qf qR,dL 5 qh n_L])])):=by
   rw[qF qrK qE2.2.2.2 qGf]
   have:=qFZ;have:=@q3L.eq_1;exact gA
  rw[qaa] at h
  exact h
theorem qHS:okL 141 qeq:=qJ (qj qsA) (by kernel_rfl) (by kernel_rfl)
def qHK:=JA_ @qeq.eq_1 (JA_ @Tryz.f141.eq_1 @qsA)
theorem qvl:okL 142 qbr:=qJ (qj ql3) (by kernel_rfl) (by kernel_rfl)
def qrL:=JA_ @qbr.eq_1 (JA_ @Tryz.f142.eq_1 @ql3)
theorem qlu:lbO 142 4=qdo:=Qt (qj ql3) rfl
theorem qn7:okL 142 qdo:=zI qvl (qQy (i:=0) (by kernel_rfl))
def q2i (t9:Int) (t10:Int) (t102:Int) (t103:Int) (t104:List qe) (t105:List qb) (deepest:Int) (ok:Bool):Option (Unit⊕(List qb×Int)):=if 100<t9 then some (Sum.inl ()) else if 1≤maxLen then some (Sum.inr ([qb.mk t10 t102 t103 t104 t105],max deepest t9)) else none
theorem q9N:∀(t9 t10 t102 t103:Int) (t104:List qe) (t105:List qb) (deepest:Int) (ok:Bool),evr 80 (raO 80 4) (rbO 80 4) 4 [R.any,R.any,rP 0,rP 1,rP 2,R.any,R.any,R.any,R.any,rI t9,R.agg [dI t10,dI t102,dI t103,dL 2 qf t104,dL 5 qh t105],R.any,R.any,R.any,R.any,R.any,R.any,R.any,R.any,R.any,R.any,R.any,R.any,R.any,R.any,R.any,R.any] [(0,B.blk 32 [C.nils]),(1,B.blk 3 [dI deepest]),(2,B.blk 4 [dB ok]),(3,B.ob (AO.lp 80 (R.any::R.any::rP 0::rP 1::rP 2::q7s) [9,10] (raO 80 4) (rbO 80 4) LoopState.ready none))]=(q2i t9 t10 t102 t103 t104 t105 deepest ok).bind (Sum.elim (fun(e:Unit)=>some (rB Bool.false,[(0,B.blk 32 [C.nils]),(1,B.blk 3 [dI 0]),(2,B.blk 4 [dB Bool.false]),(3,B.ob (AO.lp 80 (R.any::R.any::rP 0::rP 1::rP 2::q7s) [9,10] (raO 80 4) (rbO 80 4) LoopState.done (some Code.ret)))])) (fun(e:List qb×Int)=>some (rB Bool.true,[(0,B.blk 32 [dO 4 5 e.1.length]),(1,B.blk 3 [dI e.2]),(2,B.blk 4 [dB ok]),(3,B.ob (AO.lp 80 (R.any::R.any::rP 0::rP 1::rP 2::q7s) [9,10] (raO 80 4) (rbO 80 4) LoopState.ready none)),(4,bR 34 5 qh e.1)]))):=
 fun t9 t10 t102 t103 t104 t105 deepest ok=>by
  rw[qh2 qpE qiG (by decide) qth qjC.1 qjC.2]
  have:=qIv;have:=@qte;have:=@qtV;have:=@qbC.eq_1;have:=@q9Z.eq_1;have:=@q2i.eq_1;have:=@qoK;exact gA
def q1h (t9:Int) (t10:Int) (t102:Int) (t103:Int) (t104:List qe) (t105:List qb) (w4:List qb) (deepest:Int) (ok:Bool):Option (Unit⊕(List qb×Int)):=if 100<t9 then some (Sum.inl ()) else if(((w4.length:Nat):Int)==10000)=Bool.true then some (Sum.inl ()) else if w4.length+1≤maxLen∧(w4.length+1)*72≤140737488355328 then some (Sum.inr (w4++[qb.mk t10 t102 t103 t104 t105],max deepest t9)) else none
theorem q7j:∀(t9 t10 t102 t103:Int) (t104:List qe) (t105 w4:List qb) (deepest:Int) (ok:Bool) (Ze:Nat),Ze=w4.length→evr 80 (raO 80 4) (rbO 80 4) 4 [R.any,R.any,rP 0,rP 1,rP 2,R.any,R.any,R.any,R.any,rI t9,R.agg [dI t10,dI t102,dI t103,dL 2 qf t104,dL 5 qh t105],R.any,R.any,R.any,R.any,R.any,R.any,R.any,R.any,R.any,R.any,R.any,R.any,R.any,R.any,R.any,R.any] [(0,B.blk 32 [dO 4 5 Ze]),(1,B.blk 3 [dI deepest]),(2,B.blk 4 [dB ok]),(3,B.ob (AO.lp 80 (R.any::R.any::rP 0::rP 1::rP 2::q7s) [9,10] (raO 80 4) (rbO 80 4) LoopState.ready none)),(4,bR 34 5 qh w4)]=(q1h t9 t10 t102 t103 t104 t105 w4 deepest ok).bind (Sum.elim (fun(e:Unit)=>some (rB Bool.false,[(0,B.blk 32 [C.nils]),(1,B.blk 3 [dI 0]),(2,B.blk 4 [dB Bool.false]),(3,B.ob (AO.lp 80 (R.any::R.any::rP 0::rP 1::rP 2::q7s) [9,10] (raO 80 4) (rbO 80 4) LoopState.done (some Code.ret)))])) (fun(e:List qb×Int)=>some (rB Bool.true,[(0,B.blk 32 [dO 4 5 e.1.length]),(1,B.blk 3 [dI e.2]),(2,B.blk 4 [dB ok]),(3,B.ob (AO.lp 80 (R.any::R.any::rP 0::rP 1::rP 2::q7s) [9,10] (raO 80 4) (rbO 80 4) LoopState.ready none)),(4,bR 34 5 qh e.1)]))):=
 by
 intro t9 t10 t102 t103 t104 t105 w4 deepest ok Ze h0
 subst h0
 rw[qh2 qpE qiG (by decide) qth qjC.1 qjC.2]
 have:=qIv;have:=@qte;have:=@qtV;have:=@qbC.eq_1;have:=@q9Z.eq_1;have:=@q1h.eq_1;have:=@qoK;exact gA
def Zs (x:(qb×Int×List qb×Int×Bool)):List R×List (Nat×B):=([R.agg [C.d (D.int .i64 x.1.Kind),C.d (D.int .i64 x.1.N),C.d (D.int .i64 x.1.Min),C.d (D.sl 2 x.1.Set.length (x.1.Set.flatMap qf)),C.d (D.sl 5 x.1.L.length (x.1.L.flatMap qh))],R.c (C.d (D.int .i64 x.2.1)),R.c (C.hd .yield 0)],[(0,B.ob (AO.lp 80 [R.any,R.any,R.c (C.ptr 1 0),R.c (C.ptr 2 0),R.c (C.ptr 3 0),R.any,R.any,R.any,R.any,R.any,R.any,R.any,R.any,R.any,R.any,R.any,R.any,R.any,R.any,R.any,R.any,R.any,R.any,R.any,R.any,R.any,R.any] [9,10] (raO 80 4) (rbO 80 4) LoopState.ready none)),(1,B.blk 32 [C.own 4 5 0 x.2.2.1.length]),(2,B.blk 3 [C.d (D.int .i64 x.2.2.2.1)]),(3,B.blk 4 [C.d (D.bool x.2.2.2.2)]),(4,B.row 34 5 ((x.2.2.1.flatMap qh).map C.d))])
def ZP:(Int⊕(List qb×Int×Bool))→R×List (Nat×B):=Sum.elim (fun(e:Int)=>(R.c (C.d (D.bool Bool.false)),[(0,B.ob (AO.lp 80 [R.any,R.any,R.c (C.ptr 1 0),R.c (C.ptr 2 0),R.c (C.ptr 3 0),R.any,R.any,R.any,R.any,R.any,R.any,R.any,R.any,R.any,R.any,R.any,R.any,R.any,R.any,R.any,R.any,R.any,R.any,R.any,R.any,R.any,R.any] [9,10] (raO 80 4) (rbO 80 4) LoopState.done (some Code.ret))),(1,B.blk 32 [C.nils]),(2,B.blk 3 [C.d (D.int .i64 e)]),(3,B.blk 4 [C.d (D.bool Bool.false)])])) (fun(e:List qb×Int×Bool)=>(R.c (C.d (D.bool Bool.true)),[(0,B.ob (AO.lp 80 [R.any,R.any,R.c (C.ptr 1 0),R.c (C.ptr 2 0),R.c (C.ptr 3 0),R.any,R.any,R.any,R.any,R.any,R.any,R.any,R.any,R.any,R.any,R.any,R.any,R.any,R.any,R.any,R.any,R.any,R.any,R.any,R.any,R.any,R.any] [9,10] (raO 80 4) (rbO 80 4) LoopState.ready none)),(1,B.blk 32 [C.own 4 5 0 e.1.length]),(2,B.blk 3 [C.d (D.int .i64 e.2.1)]),(3,B.blk 4 [C.d (D.bool e.2.2)]),(4,B.row 34 5 ((e.1.flatMap qh).map C.d))]))
def q0q (rF:(qb×Int×List qb×Int×Bool)→Option (Int⊕(List qb×Int×Bool))) (deep:Int) (t15:List qb) (t16:Int):(List qb×Int×Bool×Int)→Option ((List qb×Int×Bool×Int)⊕(Int⊕(List qb×Int×Bool)))|(w4,b2,b3,t17)=>if t17<t16 then if 0≤t17∧t17<((t15.length:Nat):Int) then Option.bind t15[Int.toNat t17]? fun(a2:qb)=>Option.bind (rF (a2,(w64 (deep+1),(w4,(b2,b3))))) fun(a3:Sum Int (Prod (List qb) (Prod Int Bool)))=>Sum.elim (fun(a4:Int)=>some (Sum.inr (Sum.inl a4))) (fun(a5:Prod (List qb) (Prod Int Bool))=>some (Sum.inl (a5.1,a5.2.1,a5.2.2,w64 (t17+1)))) a3 else none else some (Sum.inr (Sum.inr (w4,b2,b3)))
theorem q5K (rE:Orc) (rF:(qb×Int×List qb×Int×Bool)→Option (Int⊕(List qb×Int×Bool))) (hF:∀y,rE (.fn 142) 4 (Zs y).1 (Zs y).2=(rF y).bind fun e=>some (ZP e)) (hM:∀g k a G,g≠142→rE (.fn g) k a G=ev g k a G) (hR:∀g asg bd k a G,rE (.rd g asg bd) k a G=evr g asg bd k a G):∀(w4:List qb) (b2:Int) (b3:Bool) (deep:Int) (t15:List qb) (t16 t17:Int) (Ze:Nat),Ze=w4.length→XL2 rE 142 4 4 ⟨[(1,rI deep),(2,R.c (C.hd .yield 0)),(15,rL 5 qh t15),(16,rI t16),(17,rI t17)],[(0,B.ob (AO.lp 80 (R.any::R.any::rP 1::rP 2::rP 3::q7s) [9,10] (raO 80 4) (rbO 80 4) LoopState.ready none)),(1,B.blk 32 [dO 4 5 Ze]),(2,B.blk 3 [dI b2]),(3,B.blk 4 [dB b3]),(4,bR 34 5 qh w4)],5,28⟩=(zn (q0q rF deep t15 t16) (w4,b2,b3,t17)).bind (Sum.elim (fun(e:Int)=>some (Exit.ret,⟨[(6,rB Bool.false)],[(0,B.ob (AO.lp 80 (R.any::R.any::rP 1::rP 2::rP 3::q7s) [9,10] (raO 80 4) (rbO 80 4) LoopState.done (some Code.ret))),(1,B.blk 32 [C.nils]),(2,B.blk 3 [dI e]),(3,B.blk 4 [dB Bool.false])],4,28⟩)) (fun(e:List qb×Int×Bool)=>some (Exit.exit 0,⟨[(6,R.any)],[(0,B.ob (AO.lp 80 (R.any::R.any::rP 1::rP 2::rP 3::q7s) [9,10] (raO 80 4) (rbO 80 4) LoopState.ready none)),(1,B.blk 32 [dO 4 5 e.1.length]),(2,B.blk 3 [dI e.2.1]),(3,B.blk 4 [dB e.2.2]),(4,bR 34 5 qh e.1)],5,28⟩))):=
 by
 intro w4 b2 b3 deep t15 t16 t17 Ze h0
 subst h0
 revert t17;revert b3;revert b2;revert w4;exact qJN qlu qn7 (fun e=>by rcases e with _|_<;>exact⟨_,rfl,fun h=>by cases h⟩) fun w4 b2 b3 t17=>by
  have hF':∀(qw n_N qQ:Int) (qR:List qe) (n_L:List qb) (deep:Int) (w4:List qb) (b2:Int) (b3:Bool) (Ze:Nat),Ze=w4.length→rE (.fn 142) 4 [R.agg [dI qw,dI n_N,dI qQ,dL 2 qf qR,dL 5 qh n_L],rI deep,R.c (C.hd .yield 0)] [(0,B.ob (AO.lp 80 (R.any::R.any::rP 1::rP 2::rP 3::q7s) [9,10] (raO 80 4) (rbO 80 4) LoopState.ready none)),(1,B.blk 32 [dO 4 5 Ze]),(2,B.blk 3 [dI b2]),(3,B.blk 4 [dB b3]),(4,bR 34 5 qh w4)]=(rF ((qb.mk qw n_N qQ qR n_L),deep,w4,b2,b3)).bind (Sum.elim (fun(e:Int)=>some (rB Bool.false,[(0,B.ob (AO.lp 80 (R.any::R.any::rP 1::rP 2::rP 3::q7s) [9,10] (raO 80 4) (rbO 80 4) LoopState.done (some Code.ret))),(1,B.blk 32 [C.nils]),(2,B.blk 3 [dI e]),(3,B.blk 4 [dB Bool.false])])) (fun(e:List qb×Int×Bool)=>some (rB Bool.true,[(0,B.ob (AO.lp 80 (R.any::R.any::rP 1::rP 2::rP 3::q7s) [9,10] (raO 80 4) (rbO 80 4) LoopState.ready none)),(1,B.blk 32 [dO 4 5 e.1.length]),(2,B.blk 3 [dI e.2.1]),(3,B.blk 4 [dB e.2.2]),(4,bR 34 5 qh e.1)]))):=by intro qw n_N qQ qR n_L deep w4 b2 b3 Ze h0;subst h0;exact(hF ((qb.mk qw n_N qQ qR n_L),deep,w4,b2,b3)).trans (by congr 1;funext e;rcases e with _|_<;>rfl)
  have:=qrL;have:=@qdo.eq_1;have:=@q0q.eq_1;exact gA
def q0p (rF:(qb×Int×List qb×Int×Bool)→Option (Int⊕(List qb×Int×Bool))):(qb×Int×List qb×Int×Bool)→Option (Int⊕(List qb×Int×Bool))|(n,deep,w4,b2,b3)=>Option.bind (q1h deep n.Kind n.N n.Min n.Set n.L w4 b2 b3) fun(a2:Sum Unit (Prod (List qb) Int))=>Sum.elim (fun(a3:Unit)=>some (Sum.inl 0)) (fun(a4:Prod (List qb) Int)=>Option.bind (zn (q0q rF deep n.L ((n.L.length:Nat):Int)) (a4.1,(a4.2,(b3,0)))) fun(a5:Sum Int (Prod (List qb) (Prod Int Bool)))=>Sum.elim (fun(a6:Int)=>some (Sum.inl a6)) (fun(a7:Prod (List qb) (Prod Int Bool))=>some (Sum.inr (a7.1,a7.2.1,a7.2.2))) a5) a2
theorem q57:q9W 142 4 Zs ZP q0p:=by
 intro rE rF hF hM hR x
 obtain⟨n,deep,w4,b2,b3⟩:=x
 show qba rE 142 4 [R.agg [dI n.Kind,dI n.N,dI n.Min,dL 2 qf n.Set,dL 5 qh n.L],rI deep,R.c (C.hd .yield 0)] [(0,B.ob (AO.lp 80 (R.any::R.any::rP 1::rP 2::rP 3::q7s) [9,10] (raO 80 4) (rbO 80 4) LoopState.ready none)),(1,B.blk 32 [dO 4 5 w4.length]),(2,B.blk 3 [dI b2]),(3,B.blk 4 [dB b3]),(4,bR 34 5 qh w4)]=_
 have hF':∀(qw n_N qQ:Int) (qR:List qe) (n_L:List qb) (deep:Int) (w4:List qb) (b2:Int) (b3:Bool) (Ze:Nat),Ze=w4.length→rE (.fn 142) 4 [R.agg [dI qw,dI n_N,dI qQ,dL 2 qf qR,dL 5 qh n_L],rI deep,R.c (C.hd .yield 0)] [(0,B.ob (AO.lp 80 (R.any::R.any::rP 1::rP 2::rP 3::q7s) [9,10] (raO 80 4) (rbO 80 4) LoopState.ready none)),(1,B.blk 32 [dO 4 5 Ze]),(2,B.blk 3 [dI b2]),(3,B.blk 4 [dB b3]),(4,bR 34 5 qh w4)]=(rF ((qb.mk qw n_N qQ qR n_L),deep,w4,b2,b3)).bind (Sum.elim (fun(e:Int)=>some (rB Bool.false,[(0,B.ob (AO.lp 80 (R.any::R.any::rP 1::rP 2::rP 3::q7s) [9,10] (raO 80 4) (rbO 80 4) LoopState.done (some Code.ret))),(1,B.blk 32 [C.nils]),(2,B.blk 3 [dI e]),(3,B.blk 4 [dB Bool.false])])) (fun(e:List qb×Int×Bool)=>some (rB Bool.true,[(0,B.ob (AO.lp 80 (R.any::R.any::rP 1::rP 2::rP 3::q7s) [9,10] (raO 80 4) (rbO 80 4) LoopState.ready none)),(1,B.blk 32 [dO 4 5 e.1.length]),(2,B.blk 3 [dI e.2.1]),(3,B.blk 4 [dB e.2.2]),(4,bR 34 5 qh e.1)]))):=by intro qw n_N qQ qR n_L deep w4 b2 b3 Ze h0;subst h0;exact(hF ((qb.mk qw n_N qQ qR n_L),deep,w4,b2,b3)).trans (by congr 1;funext e;rcases e with _|_<;>rfl)
 rw[q6H ql3 qvl]
 have:=qrL;have:=@q7j;have:=q5K rE rF hF hM hR;have:=@q0p.eq_1;have:=@ZP.eq_1;exact gA
theorem q2K:∀x y,Zs x=Zs y→x=y:=by
 rintro⟨⟨qJB,qJC,qJD,qJE,qJF⟩,a1,a2,a3,a4⟩ ⟨⟨qJG,qJH,qJI,qJJ,qJK⟩,b1,b2,b3,b4⟩ h
 simp only[Zs,Prod.mk.injEq,List.cons.injEq,R.c.injEq,R.agg.injEq,R.tup.injEq,C.d.injEq,C.own.injEq,C.ptr.injEq,C.eptr.injEq,C.clp.injEq,D.int.injEq,D.bool.injEq,D.str.injEq,D.sl.injEq,B.blk.injEq,B.row.injEq,q2m,q3F,q1J,q2F,q2D,q3m,q1H,q5G,q3j,q60,q6p,q2f,true_and,and_true,qQR] at h
 simp only[h]
theorem q7A:∀x y,ZP x=ZP y→x=y:=by
 rintro(a0|⟨qQ0,qQ1,a1_2⟩) (b0|⟨qQ2,qQ3,b1_2⟩) h<;>simp only[Sum.elim_inl,Sum.elim_inr,ZP,Prod.mk.injEq,List.cons.injEq,R.c.injEq,R.agg.injEq,R.tup.injEq,C.d.injEq,C.own.injEq,C.ptr.injEq,C.eptr.injEq,C.clp.injEq,D.int.injEq,D.bool.injEq,D.str.injEq,D.sl.injEq,B.blk.injEq,B.row.injEq,q2m,q3F,q1J,q2F,q2D,q3m,q1H,q5G,q3j,q60,q6p,q2f,true_and,and_true,qQR,reduceCtorEq,false_and,and_false] at h<;>simp only[h]
def J7:(qb×Int×List qb×Int×Bool)→Option (Int⊕(List qb×Int×Bool)):=q9G 142 4 Zs ZP
theorem qah (x:(qb×Int×List qb×Int×Bool)):J7 x=q0p J7 x:=qfj qs1.2.2.2 q2K q7A q57 x
theorem q9z (n:qb) (deep:Int) (w4:List qb) (b2:Int) (b3:Bool):ev 142 4 [R.agg [dI n.Kind,dI n.N,dI n.Min,dL 2 qf n.Set,dL 5 qh n.L],rI deep,R.c (C.hd .yield 0)] [(0,B.ob (AO.lp 80 (R.any::R.any::rP 1::rP 2::rP 3::q7s) [9,10] (raO 80 4) (rbO 80 4) LoopState.ready none)),(1,B.blk 32 [dO 4 5 w4.length]),(2,B.blk 3 [dI b2]),(3,B.blk 4 [dB b3]),(4,bR 34 5 qh w4)]=(J7 (n,deep,w4,b2,b3)).bind (Sum.elim (fun(e:Int)=>some (rB Bool.false,[(0,B.ob (AO.lp 80 (R.any::R.any::rP 1::rP 2::rP 3::q7s) [9,10] (raO 80 4) (rbO 80 4) LoopState.done (some Code.ret))),(1,B.blk 32 [C.nils]),(2,B.blk 3 [dI e]),(3,B.blk 4 [dB Bool.false])])) (fun(e:List qb×Int×Bool)=>some (rB Bool.true,[(0,B.ob (AO.lp 80 (R.any::R.any::rP 1::rP 2::rP 3::q7s) [9,10] (raO 80 4) (rbO 80 4) LoopState.ready none)),(1,B.blk 32 [dO 4 5 e.1.length]),(2,B.blk 3 [dI e.2.1]),(3,B.blk 4 [dB e.2.2]),(4,bR 34 5 qh e.1)]))):=(qbx qs1.2.2.2 q2K q57 (n,deep,w4,b2,b3)).trans (by congr 1;funext e;rcases e with _|_<;>rfl)
theorem qap:∀(qw n_N qQ:Int) (qR:List qe) (n_L:List qb) (deep:Int) (w4:List qb) (b2:Int) (b3:Bool) (Ze:Nat),Ze=w4.length→ev 142 4 [R.agg [dI qw,dI n_N,dI qQ,dL 2 qf qR,dL 5 qh n_L],rI deep,R.c (C.hd .yield 0)] [(0,B.ob (AO.lp 80 (R.any::R.any::rP 1::rP 2::rP 3::q7s) [9,10] (raO 80 4) (rbO 80 4) LoopState.ready none)),(1,B.blk 32 [dO 4 5 Ze]),(2,B.blk 3 [dI b2]),(3,B.blk 4 [dB b3]),(4,bR 34 5 qh w4)]=(J7 ((qb.mk qw n_N qQ qR n_L),deep,w4,b2,b3)).bind (Sum.elim (fun(e:Int)=>some (rB Bool.false,[(0,B.ob (AO.lp 80 (R.any::R.any::rP 1::rP 2::rP 3::q7s) [9,10] (raO 80 4) (rbO 80 4) LoopState.done (some Code.ret))),(1,B.blk 32 [C.nils]),(2,B.blk 3 [dI e]),(3,B.blk 4 [dB Bool.false])])) (fun(e:List qb×Int×Bool)=>some (rB Bool.true,[(0,B.ob (AO.lp 80 (R.any::R.any::rP 1::rP 2::rP 3::q7s) [9,10] (raO 80 4) (rbO 80 4) LoopState.ready none)),(1,B.blk 32 [dO 4 5 e.1.length]),(2,B.blk 3 [dI e.2.1]),(3,B.blk 4 [dB e.2.2]),(4,bR 34 5 qh e.1)]))):=
 by
 intro qw n_N qQ qR n_L deep w4 b2 b3 Ze h0
 subst h0
 exact q9z (qb.mk qw n_N qQ qR n_L) deep w4 b2 b3
def q2d (deep:Int) (t15:List qb) (t16:Int):(List qb×Int×Bool×Int)→Option ((List qb×Int×Bool×Int)⊕(Int⊕(List qb×Int×Bool)))|(w4,b2,b3,t17)=>if t17<t16 then if 0≤t17∧t17<((t15.length:Nat):Int) then Option.bind t15[Int.toNat t17]? fun(a:qb)=>Option.bind (J7 (a,(w64 (deep+1),(w4,(b2,b3))))) fun(a2:Sum Int (Prod (List qb) (Prod Int Bool)))=>Sum.elim (fun(a3:Int)=>some (Sum.inr (Sum.inl a3))) (fun(a4:Prod (List qb) (Prod Int Bool))=>some (Sum.inl (a4.1,a4.2.1,a4.2.2,w64 (t17+1)))) a2 else none else some (Sum.inr (Sum.inr (w4,b2,b3)))
theorem q8S:∀(w4:List qb) (b2:Int) (b3:Bool) (deep:Int) (t15:List qb) (t16 t17:Int) (Ze:Nat),Ze=w4.length→XL2 evo 142 4 4 ⟨[(1,rI deep),(2,R.c (C.hd .yield 0)),(15,rL 5 qh t15),(16,rI t16),(17,rI t17)],[(0,B.ob (AO.lp 80 (R.any::R.any::rP 1::rP 2::rP 3::q7s) [9,10] (raO 80 4) (rbO 80 4) LoopState.ready none)),(1,B.blk 32 [dO 4 5 Ze]),(2,B.blk 3 [dI b2]),(3,B.blk 4 [dB b3]),(4,bR 34 5 qh w4)],5,28⟩=(zn (q2d deep t15 t16) (w4,b2,b3,t17)).bind (Sum.elim (fun(e:Int)=>some (Exit.ret,⟨[(6,rB Bool.false)],[(0,B.ob (AO.lp 80 (R.any::R.any::rP 1::rP 2::rP 3::q7s) [9,10] (raO 80 4) (rbO 80 4) LoopState.done (some Code.ret))),(1,B.blk 32 [C.nils]),(2,B.blk 3 [dI e]),(3,B.blk 4 [dB Bool.false])],4,28⟩)) (fun(e:List qb×Int×Bool)=>some (Exit.exit 0,⟨[(6,R.any)],[(0,B.ob (AO.lp 80 (R.any::R.any::rP 1::rP 2::rP 3::q7s) [9,10] (raO 80 4) (rbO 80 4) LoopState.ready none)),(1,B.blk 32 [dO 4 5 e.1.length]),(2,B.blk 3 [dI e.2.1]),(3,B.blk 4 [dB e.2.2]),(4,bR 34 5 qh e.1)],5,28⟩))):=
 by
 intro w4 b2 b3 deep t15 t16 t17 Ze h0
 subst h0
 revert t17;revert b3;revert b2;revert w4;exact qJN qlu qn7 (fun e=>by rcases e with _|_<;>exact⟨_,rfl,fun h=>by cases h⟩) fun w4 b2 b3 t17=>by
  have:=qrL;have:=@qdo.eq_1;have:=@qap;have:=@q2d.eq_1;exact gA
def q55 (n:qb) (deep:Int) (b2:Int) (b3:Bool):Option (Int⊕(List qb×Int×Bool)):=Option.bind (q2i deep n.Kind n.N n.Min n.Set n.L b2 b3) fun(a:Sum Unit (Prod (List qb) Int))=>Sum.elim (fun(a2:Unit)=>some (Sum.inl 0)) (fun(a3:Prod (List qb) Int)=>Option.bind (zn (q2d deep n.L ((n.L.length:Nat):Int)) (a3.1,(a3.2,(b3,0)))) fun(a4:Sum Int (Prod (List qb) (Prod Int Bool)))=>Sum.elim (fun(a5:Int)=>some (Sum.inl a5)) (fun(a6:Prod (List qb) (Prod Int Bool))=>some (Sum.inr (a6.1,a6.2.1,a6.2.2))) a4) a
theorem qcA:∀(qw n_N qQ:Int) (qR:List qe) (n_L:List qb) (deep b2:Int) (b3:Bool),ev 142 4 [R.agg [dI qw,dI n_N,dI qQ,dL 2 qf qR,dL 5 qh n_L],rI deep,R.c (C.hd .yield 0)] [(0,B.ob (AO.lp 80 (R.any::R.any::rP 1::rP 2::rP 3::q7s) [9,10] (raO 80 4) (rbO 80 4) LoopState.ready none)),(1,B.blk 32 [C.nils]),(2,B.blk 3 [dI b2]),(3,B.blk 4 [dB b3])]=(q55 (qb.mk qw n_N qQ qR n_L) deep b2 b3).bind (Sum.elim (fun(e:Int)=>some (rB Bool.false,[(0,B.ob (AO.lp 80 (R.any::R.any::rP 1::rP 2::rP 3::q7s) [9,10] (raO 80 4) (rbO 80 4) LoopState.done (some Code.ret))),(1,B.blk 32 [C.nils]),(2,B.blk 3 [dI e]),(3,B.blk 4 [dB Bool.false])])) (fun(e:List qb×Int×Bool)=>some (rB Bool.true,[(0,B.ob (AO.lp 80 (R.any::R.any::rP 1::rP 2::rP 3::q7s) [9,10] (raO 80 4) (rbO 80 4) LoopState.ready none)),(1,B.blk 32 [dO 4 5 e.1.length]),(2,B.blk 3 [dI e.2.1]),(3,B.blk 4 [dB e.2.2]),(4,bR 34 5 qh e.1)]))):=
 fun qw n_N qQ qR n_L deep b2 b3=>by
  rw[qF ql3 qs1.2.2.2 qvl]
  have:=qrL;have:=@q9N;have:=@q8S;have:=@q55.eq_1;exact gA
def q2p (b2:Int) (b3:Bool) (v:qb):Option (Int⊕(List qb×Int×Bool)):=Option.bind (q55 v 1 b2 b3) fun(a:Sum Int (Prod (List qb) (Prod Int Bool)))=>Sum.elim (fun(a2:Int)=>some (Sum.inl a2)) (fun(a3:Prod (List qb) (Prod Int Bool))=>some (Sum.inr (a3.1,a3.2.1,a3.2.2))) a
theorem q8W:∀(b2:Int) (b3:Bool) (qgp v_N qpY:Int) (qpZ:List qe) (v_L:List qb),ev 141 5 [R.c (C.hd .yield 0),rP 4] [(0,B.ob (AO.lp 80 (R.any::R.any::rP 1::rP 2::rP 3::q7s) [9,10] (raO 80 4) (rbO 80 4) LoopState.ready none)),(1,B.blk 32 [C.nils]),(2,B.blk 3 [dI b2]),(3,B.blk 4 [dB b3]),(4,B.blk 34 [dI qgp,dI v_N,dI qpY,dL 2 qf qpZ,dL 5 qh v_L])]=(q2p b2 b3 (qb.mk qgp v_N qpY qpZ v_L)).bind (Sum.elim (fun(e:Int)=>some (R.tup [],[(0,B.ob (AO.lp 80 (R.any::R.any::rP 1::rP 2::rP 3::q7s) [9,10] (raO 80 4) (rbO 80 4) LoopState.done (some Code.ret))),(1,B.blk 32 [C.nils]),(2,B.blk 3 [dI e]),(3,B.blk 4 [dB Bool.false]),(4,B.blk 34 [dI qgp,dI v_N,dI qpY,dL 2 qf qpZ,dL 5 qh v_L])])) (fun(e:List qb×Int×Bool)=>some (R.tup [],[(0,B.ob (AO.lp 80 (R.any::R.any::rP 1::rP 2::rP 3::q7s) [9,10] (raO 80 4) (rbO 80 4) LoopState.ready none)),(1,B.blk 32 [dO 5 5 e.1.length]),(2,B.blk 3 [dI e.2.1]),(3,B.blk 4 [dB e.2.2]),(4,B.blk 34 [dI qgp,dI v_N,dI qpY,dL 2 qf qpZ,dL 5 qh v_L]),(5,bR 34 5 qh e.1)]))):=
 fun b2 b3 qgp v_N qpY qpZ v_L=>by
  rw[qF qsA qCX.2.2.2 qHS]
  have:=qHK;have:=@qcA;have:=@q2p.eq_1;exact gA
def q2a (n:qb):Option (List qb×Int×Bool):=Option.bind (q2p 0 Bool.false n) fun(a:Sum Int (Prod (List qb) (Prod Int Bool)))=>Sum.elim (fun(a2:Int)=>some ([],a2,Bool.false)) (fun(a3:Prod (List qb) (Prod Int Bool))=>some (a3.1,a3.2.1,Bool.true)) a
theorem q7e:∀(qw n_N qQ:Int) (qR:List qe) (n_L:List qb),ev 80 0 [R.agg [dI qw,dI n_N,dI qQ,dL 2 qf qR,dL 5 qh n_L]] []=(q2a (qb.mk qw n_N qQ qR n_L)).bind (fun(e:List qb×Int×Bool)=>some (R.tup [rL 5 qh e.1,rI e.2.1,rB e.2.2],[])):=
 fun qw n_N qQ qR n_L=>by
  rw[qF qy8 qLI.2.2.2 qLC]
  have:=qIv;have:=@qby;have:=@q8W;have:=@q2a.eq_1;have:=@qoK;exact gA
theorem qLz:okL 81 qfA:=qJ (qj qE1) (by kernel_rfl) (by kernel_rfl)
def qK4:=JA_ @qfA.eq_1 (JA_ @Tryz.f81.eq_1 @qE1)
theorem qC4:lbO 81 3=qoT:=Qt (qj qE1) rfl
theorem qDH:okL 81 qoT:=zI qLz (qQy (i:=0) (by kernel_rfl))
theorem qHG:okL 107 qdM:=qJ (qj qra) (by kernel_rfl) (by kernel_rfl)
def qJa:=JA_ @qdM.eq_1 (JA_ @Tryz.f107.eq_1 @qra)
def q4V (n:qb):Option Bool:=if(n.Kind != 3)=Bool.true then some (n.Kind != 4) else some Bool.false
def q0V (n:qb):Bool:=if(n.Kind != 3)=Bool.true then n.Kind != 4 else Bool.false
theorem qbl (n:qb):q4V n=some (q0V n):=by
 unfold q4V q0V
 simp only[Zb]
theorem qcw:∀(qw n_N qQ:Int) (qR:List qe) (n_L:List qb),ev 107 0 [R.agg [dI qw,dI n_N,dI qQ,dL 2 qf qR,dL 5 qh n_L]] []=some (rB (q0V (qb.mk qw n_N qQ qR n_L)),[]):=
 fun qw n_N qQ qR n_L=>by
  have h:ev 107 0 [R.agg [dI qw,dI n_N,dI qQ,dL 2 qf qR,dL 5 qh n_L]] []=(q4V (qb.mk qw n_N qQ qR n_L)).bind (fun(e:Bool)=>some (rB e,[])):=by
   rw[qF qra qBl.2.2.2 qHG]
   have:=qJa;have:=@q4V.eq_1;exact gA
  rw[qbl] at h
  exact h
theorem qyk:okL 108 qaW:=qJ (qj qmy) (by kernel_rfl) (by kernel_rfl)
def qDR:=JA_ @qaW.eq_1 (JA_ @Tryz.f108.eq_1 @qmy)
theorem qwW:lbO 108 3=qgF:=Qt (qj qmy) rfl
theorem qxG:okL 108 qgF:=zI qyk (qQy (i:=0) (by kernel_rfl))
def zF (s:List qe):Option Unit:=if s.length≤maxLen∧s.length*24≤140737488355328 then some () else none
theorem q0K:∀(s:List qe),ev 143 0 [rL 2 qf s] []=(zF s).bind (fun(e:Unit)=>some (rL 2 qf s,[])):=
 fun s=>by
  rw[ql5,qzR.2.2.2]
  have:=@zF.eq_1;exact gA
def Qv (s:List qb):Option Unit:=if s.length≤maxLen∧s.length*72≤140737488355328 then some () else none
theorem q1m:∀(s:List qb),ev 144 0 [rL 5 qh s] []=(Qv s).bind (fun(e:Unit)=>some (rO 0 5 s.length,[(0,bR 34 5 qh s)])):=
 fun s=>by
  rw[ql5,qCf.2.2.2]
  have:=@Qv.eq_1;exact gA
def Zr (x:qb):List R×List (Nat×B):=([R.agg [C.d (D.int .i64 x.Kind),C.d (D.int .i64 x.N),C.d (D.int .i64 x.Min),C.d (D.sl 2 x.Set.length (x.Set.flatMap qf)),C.d (D.sl 5 x.L.length (x.L.flatMap qh))]],[])
def ZY:qb→R×List (Nat×B):=fun(e:qb)=>(R.agg [C.d (D.int .i64 e.Kind),C.d (D.int .i64 e.N),C.d (D.int .i64 e.Min),C.d (D.sl 2 e.Set.length (e.Set.flatMap qf)),C.d (D.sl 5 e.L.length (e.L.flatMap qh))],[])
def Jo (rF:qb→Option qb) (qw:Int) (n_N:Int) (qQ:Int) (qR:List qe) (JO:Int) (qdl:Int) (q1w:Int) (t15:Int):(List qb×Int)→Option ((List qb×Int)⊕(List qb))|(w1,t16)=>if t16<t15 then if 0≤t16∧t16<((w1.length:Nat):Int) then Option.bind w1[Int.toNat t16]? fun(a2:qb)=>Option.bind (rF a2) fun(a3:qb)=>if 0≤t16∧t16<((w1.length:Nat):Int) then if Int.toNat t16*5+5≤w1.length*5 then some (Sum.inl (List.set w1 (Int.toNat t16) a3,w64 (t16+1))) else none else none else none else some (Sum.inr w1)
theorem q7u (rE:Orc) (rF:qb→Option qb) (hF:∀y,rE (.fn 108) 0 (Zr y).1 (Zr y).2=(rF y).bind fun e=>some (ZY e)) (hM:∀g k a G,g≠108→rE (.fn g) k a G=ev g k a G) (hR:∀g asg bd k a G,rE (.rd g asg bd) k a G=evr g asg bd k a G):∀(w1:List qb) (qw n_N qQ:Int) (qR:List qe) (JO qdl q1w t15 t16:Int) (Jt:Nat),Jt=w1.length→XL2 rE 108 0 3 ⟨[(1,rP 0),(2,rP 2),(14,rO 1 5 Jt),(15,rI t15),(16,rI t16)],[(0,B.blk 34 [dI qw,dI n_N,dI qQ,dL 2 qf qR,dO 1 5 Jt]),(1,bR 34 5 qh w1),(2,B.blk 34 [dI JO,dI qdl,dI q1w,C.nils,C.nils])],3,29⟩=(zn (Jo rF qw n_N qQ qR JO qdl q1w t15) (w1,t16)).bind (fun(e:List qb)=>some (Exit.exit 0,⟨[(1,rP 0),(2,rP 2)],[(0,B.blk 34 [dI qw,dI n_N,dI qQ,dL 2 qf qR,dO 1 5 e.length]),(1,bR 34 5 qh e),(2,B.blk 34 [dI JO,dI qdl,dI q1w,C.nils,C.nils])],3,29⟩)):=
 by
 intro w1 qw n_N qQ qR JO qdl q1w t15 t16 Jt h0
 subst h0
 revert t16;revert w1;exact qab qwW qxG (fun e=>by exact⟨_,rfl,fun h=>by cases h⟩) fun w1 t16=>by
  have hF':∀(qw n_N qQ:Int) (qR:List qe) (n_L:List qb),rE (.fn 108) 0 [R.agg [dI qw,dI n_N,dI qQ,dL 2 qf qR,dL 5 qh n_L]] []=(rF (qb.mk qw n_N qQ qR n_L)).bind (fun e=>some (R.agg [dI e.Kind,dI e.N,dI e.Min,dL 2 qf e.Set,dL 5 qh e.L],[])):=fun qw n_N qQ qR n_L=>hF (qb.mk qw n_N qQ qR n_L)
  have:=qDR;have:=@qgF.eq_1;have:=@Jo.eq_1;exact gA
def q0n (rF:qb→Option qb):qb→Option qb|n=>Option.bind (zF n.Set) fun(a2:Unit)=>Option.bind (Qv n.L) fun(a3:Unit)=>Option.bind (zn (Jo rF n.Kind n.N n.Min n.Set 0 0 0 ((n.L.length:Nat):Int)) (n.L,0)) fun(a4:List qb)=>some (qb.mk n.Kind n.N n.Min n.Set a4)
theorem q59:q9W 108 0 Zr ZY q0n:=by
 intro rE rF hF hM hR n
 show qba rE 108 0 [R.agg [dI n.Kind,dI n.N,dI n.Min,dL 2 qf n.Set,dL 5 qh n.L]] []=_
 have hF':∀(qw n_N qQ:Int) (qR:List qe) (n_L:List qb),rE (.fn 108) 0 [R.agg [dI qw,dI n_N,dI qQ,dL 2 qf qR,dL 5 qh n_L]] []=(rF (qb.mk qw n_N qQ qR n_L)).bind (fun e=>some (R.agg [dI e.Kind,dI e.N,dI e.Min,dL 2 qf e.Set,dL 5 qh e.L],[])):=fun qw n_N qQ qR n_L=>hF (qb.mk qw n_N qQ qR n_L)
 rw[q6H qmy qyk]
 have:=qDR;have:=@q0K;have:=@q1m;have:=q7u rE rF hF hM hR;have:=@q0n.eq_1;have:=@ZY.eq_1;exact gA
theorem q2J:∀x y,Zr x=Zr y→x=y:=by
 rintro⟨a_0,a_1,a_2,a_3,a_4⟩ ⟨b_0,b_1,b_2,b_3,b_4⟩ h
 simp only[Zr,Prod.mk.injEq,List.cons.injEq,R.c.injEq,R.agg.injEq,R.tup.injEq,C.d.injEq,C.own.injEq,C.ptr.injEq,C.eptr.injEq,C.clp.injEq,D.int.injEq,D.bool.injEq,D.str.injEq,D.sl.injEq,B.blk.injEq,B.row.injEq,q2m,q3F,q1J,q2F,q2D,q3m,q1H,q5G,q3j,q60,q6p,q2f,true_and,and_true,qQR] at h
 simp only[h]
theorem q7v:∀x y,ZY x=ZY y→x=y:=by
 rintro⟨a_0,a_1,a_2,a_3,a_4⟩ ⟨b_0,b_1,b_2,b_3,b_4⟩ h
 simp only[ZY,Prod.mk.injEq,List.cons.injEq,R.c.injEq,R.agg.injEq,R.tup.injEq,C.d.injEq,C.own.injEq,C.ptr.injEq,C.eptr.injEq,C.clp.injEq,D.int.injEq,D.bool.injEq,D.str.injEq,D.sl.injEq,B.blk.injEq,B.row.injEq,q2m,q3F,q1J,q2F,q2D,q3m,q1H,q5G,q3j,q60,q6p,q2f,true_and,and_true,qQR] at h
 simp only[h]
def J4:qb→Option qb:=q9G 108 0 Zr ZY
theorem qai (x:qb):J4 x=q0n J4 x:=qfj qvh.2.2.2 q2J q7v q59 x
theorem q8V (n:qb):ev 108 0 [R.agg [dI n.Kind,dI n.N,dI n.Min,dL 2 qf n.Set,dL 5 qh n.L]] []=(J4 n).bind (fun(e:qb)=>some (R.agg [dI e.Kind,dI e.N,dI e.Min,dL 2 qf e.Set,dL 5 qh e.L],[])):=(qbx qvh.2.2.2 q2J q59 n)
theorem qak:∀(qw n_N qQ:Int) (qR:List qe) (n_L:List qb),ev 108 0 [R.agg [dI qw,dI n_N,dI qQ,dL 2 qf qR,dL 5 qh n_L]] []=(J4 (qb.mk qw n_N qQ qR n_L)).bind (fun(e:qb)=>some (R.agg [dI e.Kind,dI e.N,dI e.Min,dL 2 qf e.Set,dL 5 qh e.L],[])):=
 fun qw n_N qQ qR n_L=>q8V (qb.mk qw n_N qQ qR n_L)
def Zm (t14:List qb) (t15:Int):(List qb×Int)→Option ((List qb×Int)⊕(List qb))|(leaves,t16)=>if t16<t15 then if 0≤t16∧t16<((t14.length:Nat):Int) then Option.bind t14[Int.toNat t16]? fun(a:qb)=>if q0V a=Bool.true then Option.bind (J4 a) fun(a2:qb)=>if leaves.length+1≤maxLen∧(leaves.length+1)*72≤140737488355328 then some (Sum.inl (leaves++[a2],w64 (t16+1))) else none else some (Sum.inl (leaves,w64 (t16+1))) else none else some (Sum.inr leaves)
theorem q7C:∀(leaves t14:List qb) (t15 t16:Int) (q9Q:Nat),q9Q=leaves.length→XL2 evo 81 0 3 ⟨[(2,rO 0 5 q9Q),(14,rL 5 qh t14),(15,rI t15),(16,rI t16)],[(0,bR 34 5 qh leaves)],1,29⟩=(zn (Zm t14 t15) (leaves,t16)).bind (fun(e:List qb)=>some (Exit.exit 0,⟨[(2,rO 0 5 e.length)],[(0,bR 34 5 qh e)],1,29⟩)):=
 by
 intro leaves t14 t15 t16 q9Q h0
 subst h0
 revert t16;revert leaves;exact qab qC4 qDH (fun e=>by exact⟨_,rfl,fun h=>by cases h⟩) fun leaves t16=>by
  have:=qK4;have:=@qoT.eq_1;have:=@qcw;have:=@qak;have:=@Zm.eq_1;exact gA
theorem q5r:∀  (t14:List qb) (t15 t16:Int),XL2 evo 81 0 3 ⟨[(2,rO 0 5 0),(14,rL 5 qh t14),(15,rI t15),(16,rI t16)],[(0,B.row 34 5 [])],1,29⟩=(zn (Zm t14 t15) (([]:List qb),t16)).bind (fun(e:List qb)=>some (Exit.exit 0,⟨[(2,rO 0 5 e.length)],[(0,bR 34 5 qh e)],1,29⟩)):=by
 intro t14 t15 t16;have h:=q7C ([]:List qb) t14 t15 t16 _ rfl
 first
  | exact h
  | (simp only[rL,dL,bR,bZ,Nat.reduceAdd] at h;exact h)
def q1B (n:qb):Option (List qb):=Option.bind (q2a n) fun(a:Prod (List qb) (Prod Int Bool))=>Option.bind (zn (Zm a.1 ((a.1.length:Nat):Int)) ([],0)) fun(a2:List qb)=>some a2
theorem qag:∀(qw n_N qQ:Int) (qR:List qe) (n_L:List qb),ev 81 0 [R.agg [dI qw,dI n_N,dI qQ,dL 2 qf qR,dL 5 qh n_L]] []=(q1B (qb.mk qw n_N qQ qR n_L)).bind (fun(e:List qb)=>some (rL 5 qh e,[])):=
 fun qw n_N qQ qR n_L=>by
  rw[qF qE1 qL0.2.2.2 qLz]
  have:=qK4;have:=@q7e;have:=@q5r;have:=@q1B.eq_1;exact gA
theorem qOQ:okL 82 qjD:=qJ (qj qFn) (by kernel_rfl) (by kernel_rfl)
def qOE:=JA_ @qjD.eq_1 (JA_ @Tryz.f82.eq_1 @qFn)
theorem qbR:ev 82 0 [] []=some (R.c (C.hd HK.map 0),[(0,B.ob (@AO.mp [(Value.int IntKind.i64 1,(R.agg [C.fn 110 [] []],0)),(Value.int IntKind.i64 2,(R.agg [C.fn 112 [] []],1)),(Value.int IntKind.i64 3,(R.agg [C.fn 113 [] [dP 1]],2)),(Value.int IntKind.i64 4,(R.agg [C.fn 114 [] [dP 1]],3))] 4)),(1,B.blk 144 [C.fn 109 [] []])]):=
 by
  rw[qF qFn qLQ.2.2.2 qOQ]
  have:=qOE;exact gA
theorem qI9:okL 110 qdx:=qJ (qj qsq) (by kernel_rfl) (by kernel_rfl)
def qI4:=JA_ @qdx.eq_1 (JA_ @Tryz.f110.eq_1 @qsq)
theorem qBo:okL 111 qbL:=qJ (qj qpI) (by kernel_rfl) (by kernel_rfl)
def qAn:=JA_ @qbL.eq_1 (JA_ @Tryz.f111.eq_1 @qpI)
theorem qxf:lbO 111 7=qhJ:=Qt (qj qpI) rfl
theorem qut:okL 111 qhJ:=zI qBo (qQy (i:=0) (by kernel_rfl))
theorem qGb:okL 145 qei:=qJ (qj qrg) (by kernel_rfl) (by kernel_rfl)
def qGD:=JA_ @qei.eq_1 (JA_ @Tryz.f145.eq_1 @qrg)
theorem qyt:okL 157 qb4:=qJ (qj qmS) (by kernel_rfl) (by kernel_rfl)
def qA2:=JA_ @qb4.eq_1 (JA_ @Tryz.f157.eq_1 @qmS)
theorem quT:lbO 157 2=qgQ:=Qt (qj qmS) rfl
theorem qvb:okL 157 qgQ:=zI qyt (qQy (i:=0) (by kernel_rfl))
theorem qI2:okL 146 qeH:=qJ (qj qrt) (by kernel_rfl) (by kernel_rfl)
def qJk:=JA_ @qeH.eq_1 (JA_ @Tryz.f146.eq_1 @qrt)
theorem qPu:okL 77 qkb:=qJ (qj qFl) (by kernel_rfl) (by kernel_rfl)
def qPH:=JA_ @qkb.eq_1 (JA_ @Tryz.f77.eq_1 @qFl)
theorem qIA:okL 104 qeB:=qJ (qj qr5) (by kernel_rfl) (by kernel_rfl)
def qHe:=JA_ @qeB.eq_1 (JA_ @Tryz.f104.eq_1 @qr5)
theorem qGh:okL 139 qdE:=qJ (qj qrr) (by kernel_rfl) (by kernel_rfl)
def qJ8:=JA_ @qdE.eq_1 (JA_ @Tryz.f139.eq_1 @qrr)
theorem qEq:okL 156 qaX:=qJ (qj qoG) (by kernel_rfl) (by kernel_rfl)
def qyx:=JA_ @qaX.eq_1 (JA_ @Tryz.f156.eq_1 @qoG)
theorem qwk:lbO 156 2=qhu:=Qt (qj qoG) rfl
theorem quj:okL 156 qhu:=zI qEq (qQy (i:=0) (by kernel_rfl))
theorem qHn:okL 138 qdQ:=qJ (qj qsi) (by kernel_rfl) (by kernel_rfl)
def qG7:=JA_ @qdQ.eq_1 (JA_ @Tryz.f138.eq_1 @qsi)
def q1D (c:Int):Option Bool:=if c<65 then if c<48 then some Bool.true else some (decide (57<c)) else if 90<c then if c<48 then some Bool.true else some (decide (57<c)) else some Bool.false
def Z2 (c:Int):Bool:=if c<65 then if c<48 then Bool.true else decide (57<c) else if 90<c then if c<48 then Bool.true else decide (57<c) else Bool.false
theorem q7w (c:Int):q1D c=some (Z2 c):=by
 unfold q1D Z2
 simp only[Zb]
theorem q8s:∀(c:Int),ev 138 0 [R.c (C.d (D.int .i32 c))] []=some (rB (Z2 c),[]):=
 fun c=>by
  have h:ev 138 0 [R.c (C.d (D.int .i32 c))] []=(q1D c).bind (fun(e:Bool)=>some (rB e,[])):=by
   rw[qF qsi qzr.2.2.2 qHn]
   have:=qG7;have:=@q1D.eq_1;exact gA
  rw[q7w] at h
  exact h
def Q2 (it0_s:ByteArray) (truth:Bool):Nat→Option (Nat⊕(Int⊕Unit))|it0_p=>if it0_p<ByteArray.size it0_s then if(Z2 (((@Go.Utf8.decode it0_s it0_p).1:Nat):Int)==truth)=Bool.true then some (Sum.inr (Sum.inl ((it0_p:Nat):Int))) else some (Sum.inl (it0_p+(@Go.Utf8.decode it0_s it0_p).2)) else some (Sum.inr (Sum.inr ()))
theorem q3X:∀(it0_s:ByteArray) (it0_p:Nat) (truth:Bool),XL2 evo 156 0 2 ⟨[(1,R.c (C.fn 138 [] [])),(2,rB truth),(10,R.c (C.hd .iter 0))],[(0,B.ob (AO.si it0_s it0_p))],1,21⟩=(zn (Q2 it0_s truth) it0_p).bind (Sum.elim (fun(e:Int)=>some (Exit.ret,⟨[(6,rI e)],[],0,21⟩)) (fun(e:Unit)=>some (Exit.exit 0,⟨[(6,R.any)],[],0,21⟩))):=
 fun it0_s it0_p truth=>by
  revert it0_p;exact qcm qwk quj (fun e=>by rcases e with _|_<;>exact⟨_,rfl,fun h=>by cases h⟩) fun x=>by
   have:=qyx;have:=@qhu.eq_1;have:=@q8s;have:=@Q2.eq_1;exact gA
def q01 (s:ByteArray) (truth:Bool):Option Int:=Option.bind (zn (Q2 s truth) 0) fun(a:Sum Int Unit)=>Sum.elim (fun(a2:Int)=>some a2) (fun(a3:Unit)=>some (-1)) a
theorem q5B:∀(s:ByteArray) (truth:Bool),ev 156 0 [rS s,R.c (C.fn 138 [] []),rB truth] []=(q01 s truth).bind (fun(e:Int)=>some (rI e,[])):=
 fun s truth=>by
  rw[qF qoG qA9.2.2.2 qEq]
  have:=qyx;have:=@q3X;have:=@q01.eq_1;exact gA
def JX (s:ByteArray):Option Int:=Option.bind (q01 s Bool.true) fun(e0:Int)=>some e0
theorem q5z:∀(s:ByteArray),ev 139 0 [rS s,R.c (C.fn 138 [] [])] []=(JX s).bind (fun(e:Int)=>some (rI e,[])):=
 fun s=>by
  rw[qF qrr qyE.2.2.2 qGh]
  have:=qJ8;have:=@q5B;have:=@JX.eq_1;exact gA
def q1C (s:ByteArray):Option Bool:=if(!(ByteArray.toList s==ByteArray.toList (ByteArray.mk (List.toArray []))))=Bool.true then if((ByteArray.size s:Nat):Int)≤8 then Option.bind (JX s) fun(a:Int)=>some (decide (a<0)) else some Bool.false else some Bool.false
theorem qar:∀(s:ByteArray),ev 104 0 [rS s] []=(q1C s).bind (fun(e:Bool)=>some (rB e,[])):=
 fun s=>by
  rw[qF qr5 qB2.2.2.2 qIA]
  have:=qHe;have:=@q5z;have:=@q1C.eq_1;exact gA
def q0G (c:qe):Option Bool:=if qX c.School 1 8=Bool.true then Option.bind (q1C c.Code) fun(e0:Bool)=>some e0 else some Bool.false
theorem q5V:∀(q1l:Int) (q5i:ByteArray),ev 77 0 [R.agg [dI q1l,dS q5i]] []=(q0G (qe.mk q1l q5i)).bind (fun(e:Bool)=>some (rB e,[])):=
 fun q1l q5i=>by
  rw[qF qFl qKm.2.2.2 qPu]
  have:=qPH;have:=@ZQ;have:=@qar;have:=@q0G.eq_1;exact gA
def q1i (c:qe):Option Bool:=Option.bind (q0G c) fun(a:Bool)=>some (!a)
theorem q7p:∀(q1l:Int) (q5i:ByteArray),ev 146 0 [R.agg [dI q1l,dS q5i]] []=(q1i (qe.mk q1l q5i)).bind (fun(e:Bool)=>some (rB e,[])):=
 fun q1l q5i=>by
  rw[qF qrt qB1.2.2.2 qI2]
  have:=qJk;have:=@q5V;have:=@q1i.eq_1;exact gA
def qO (s:List qe) (t7:Int):Int→Option (Int⊕(Int⊕Unit))|t8=>if t8<t7 then if 0≤t8∧t8<((s.length:Nat):Int) then Option.bind s[Int.toNat t8]? fun(a:qe)=>Option.bind (q1i a) fun(a2:Bool)=>if a2=Bool.true then some (Sum.inr (Sum.inl t8)) else some (Sum.inl (w64 (t8+1))) else none else some (Sum.inr (Sum.inr ()))
theorem JB:∀(s:List qe) (t7 t8:Int),XL2 evo 157 0 2 ⟨[(0,rL 2 qf s),(1,R.c (C.fn 146 [] [])),(7,rI t7),(8,rI t8)],[],0,19⟩=(zn (qO s t7) t8).bind (Sum.elim (fun(e:Int)=>some (Exit.ret,⟨[(4,rI e)],[],0,19⟩)) (fun(e:Unit)=>some (Exit.exit 0,⟨[(4,R.any)],[],0,19⟩))):=
 fun s t7 t8=>by
  revert t8;exact qcm quT qvb (fun e=>by rcases e with _|_<;>exact⟨_,rfl,fun h=>by cases h⟩) fun x=>by
   have:=qA2;have:=@qgQ.eq_1;have:=@q7p;have:=@qO.eq_1;exact gA
def zQ (s:List qe):Option Int:=Option.bind (zn (qO s ((s.length:Nat):Int)) 0) fun(a:Sum Int Unit)=>Sum.elim (fun(a2:Int)=>some a2) (fun(a3:Unit)=>some (-1)) a
theorem JW:∀(s:List qe),ev 157 0 [rL 2 qf s,R.c (C.fn 146 [] [])] []=(zQ s).bind (fun(e:Int)=>some (rI e,[])):=
 fun s=>by
  rw[qF qmS qBf.2.2.2 qyt]
  have:=qA2;have:=@JB;have:=@zQ.eq_1;exact gA
def zh (s:List qe):Option Bool:=Option.bind (zQ s) fun(a:Int)=>some (decide (0≤a))
theorem JA:∀(s:List qe),ev 145 0 [rL 2 qf s,R.c (C.fn 146 [] [])] []=(zh s).bind (fun(e:Bool)=>some (rB e,[])):=
 fun s=>by
  rw[qF qrg qAU.2.2.2 qGb]
  have:=qGD;have:=@JW;have:=@zh.eq_1;exact gA
theorem qMi:okL 78 qi9:=qJ (qj qFq) (by kernel_rfl) (by kernel_rfl)
def qMb:=JA_ @qi9.eq_1 (JA_ @Tryz.f78.eq_1 @qFq)
theorem qM6:okL 57 qjb:=qJ (qj qEY) (by kernel_rfl) (by kernel_rfl)
def qOs:=JA_ @qjb.eq_1 (JA_ @Tryz.f57.eq_1 @qEY)
theorem qNx:okL 92 qiN:=qJ (qj qES) (by kernel_rfl) (by kernel_rfl)
def qP6:=JA_ @qiN.eq_1 (JA_ @Tryz.f92.eq_1 @qES)
def q1K (x:Int):Option Bool:=
 some (x != x)
def zU (x:Int):Bool:=
 x != x
theorem q7F (x:Int):q1K x=some (zU x):=by
 unfold q1K zU
 simp only[Zb]
theorem q86:∀(x:Int),ev 92 0 [rI x] []=some (rB (zU x),[]):=
 fun x=>by
  have h:ev 92 0 [rI x] []=(q1K x).bind (fun(e:Bool)=>some (rB e,[])):=by
   rw[qF qES qLb.2.2.2 qNx]
   have:=qP6;have:=@q1K.eq_1;exact gA
  rw[q7F] at h
  exact h
def q0P (x:Int) (y:Int):Option Int:=if zU x=Bool.true then if zU y=Bool.true then some 0 else some (-1) else if zU y=Bool.true then some 1 else if x<y then some (-1) else if y<x then some 1 else some 0
def zL (x:Int) (y:Int):Int:=if zU x=Bool.true then if zU y=Bool.true then 0 else(-1) else if zU y=Bool.true then 1 else if x<y then(-1) else if y<x then 1 else 0
theorem q6m (x y:Int):q0P x y=some (zL x y):=by
 unfold q0P zL
 simp only[Zb]
theorem q0Z:∀(x y:Int),ev 57 0 [rI x,rI y] []=some (rI (zL x y),[]):=
 fun x y=>by
  have h:ev 57 0 [rI x,rI y] []=(q0P x y).bind (fun(e:Int)=>some (rI e,[])):=by
   rw[qF qEY qLH.2.2.2 qM6]
   have:=qOs;have:=@q86;have:=@q0P.eq_1;exact gA
  rw[q6m] at h
  exact h
theorem qIb:okL 105 qe3:=qJ (qj qsZ) (by kernel_rfl) (by kernel_rfl)
def qHV:=JA_ @qe3.eq_1 (JA_ @Tryz.f105.eq_1 @qsZ)
theorem qHW:okL 140 qeu:=qJ (qj qsw) (by kernel_rfl) (by kernel_rfl)
def qJb:=JA_ @qeu.eq_1 (JA_ @Tryz.f140.eq_1 @qsw)
def q0o (x:ByteArray):Option Unit:=
 some ()
def q2H (x:ByteArray):Unit:=
 ()
theorem q5j (x:ByteArray):q0o x=some (q2H x):=by
 unfold q0o q2H
 simp only[Zb]
theorem q6f:∀(x:ByteArray),ev 140 0 [rS x] []=some (rB Bool.false,[]):=
 fun x=>by
  have h:ev 140 0 [rS x] []=(q0o x).bind (fun(e:Unit)=>some (rB Bool.false,[])):=by
   rw[qF qsw qBZ.2.2.2 qHW]
   have:=qJb;have:=@q0o.eq_1;exact gA
  rw[q5j] at h
  exact h
def JF (x:ByteArray) (y:ByteArray):Option Int:=if Op.bytesLess (ByteArray.toList x) (ByteArray.toList y)=Bool.true then some (-1) else if(!(Op.bytesLess (ByteArray.toList x) (ByteArray.toList y)||ByteArray.toList x==ByteArray.toList y))=Bool.true then some 1 else some 0
def QO (x:ByteArray) (y:ByteArray):Int:=if Op.bytesLess (ByteArray.toList x) (ByteArray.toList y)=Bool.true then(-1) else if(!(Op.bytesLess (ByteArray.toList x) (ByteArray.toList y)||ByteArray.toList x==ByteArray.toList y))=Bool.true then 1 else 0
theorem q4e (x y:ByteArray):JF x y=some (QO x y):=by
 unfold JF QO
 simp only[Zb]
theorem q53:∀(x y:ByteArray),ev 105 0 [rS x,rS y] []=some (rI (QO x y),[]):=
 fun x y=>by
  have h:ev 105 0 [rS x,rS y] []=(JF x y).bind (fun(e:Int)=>some (rI e,[])):=by
   rw[qF qsZ qAA.2.2.2 qIb]
   have:=qHV;have:=@q6f;have:=@JF.eq_1;exact gA
  rw[q4e] at h
  exact h
theorem qLr:okL 56 qf3:=qJ (qj qD2) (by kernel_rfl) (by kernel_rfl)
def qKr:=JA_ @qf3.eq_1 (JA_ @Tryz.f56.eq_1 @qD2)
theorem qzW:lbO 56 3=qmE:=Qt (qj qD2) rfl
theorem qBD:okL 56 qmE:=zI qLr (qQy (i:=0) (by kernel_rfl))
def Zd (zero:Int) (t6:List Int) (t7:Int):Int→Option (Int⊕(Int⊕Unit))|t8=>if t8<t7 then if 0≤t8∧t8<((t6.length:Nat):Int) then Option.bind t6[Int.toNat t8]? fun(a:Int)=>if(a != zero)=Bool.true then some (Sum.inr (Sum.inl a)) else some (Sum.inl (w64 (t8+1))) else none else some (Sum.inr (Sum.inr ()))
theorem q84:∀(zero:Int) (t6:List Int) (t7 t8:Int),XL2 evo 56 0 3 ⟨[(3,rI zero),(6,rL 1 eI t6),(7,rI t7),(8,rI t8)],[],0,18⟩=(zn (Zd zero t6 t7) t8).bind (Sum.elim (fun(e:Int)=>some (Exit.ret,⟨[(2,rI e),(3,rI zero)],[],0,18⟩)) (fun(e:Unit)=>some (Exit.exit 0,⟨[(2,R.any),(3,rI zero)],[],0,18⟩))):=
 fun zero t6 t7 t8=>by
  revert t8;exact qcm qzW qBD (fun e=>by rcases e with _|_<;>exact⟨_,rfl,fun h=>by cases h⟩) fun x=>by
   have:=qKr;have:=@qmE.eq_1;have:=@Zd.eq_1;exact gA
def q0L (vals:List Int):Option Int:=Option.bind (zn (Zd 0 vals ((vals.length:Nat):Int)) 0) fun(a:Sum Int Unit)=>Sum.elim (fun(a2:Int)=>some a2) (fun(a3:Unit)=>some 0) a
theorem qbq:∀(vals:List Int),ev 56 0 [rL 1 eI vals] []=(q0L vals).bind (fun(e:Int)=>some (rI e,[])):=
 fun vals=>by
  rw[qF qD2 qJX.2.2.2 qLr]
  have:=qKr;have:=@q84;have:=@q0L.eq_1;exact gA
theorem q3K:∀(vals0 vals1:Int) , ev 56 0 [R.c (C.d (D.sl 1 2 [D.int .i64 vals0,D.int .i64 vals1]))] []=(q0L [vals0,vals1]).bind (fun(e:Int)=>some (rI e,[])):=by
 intro vals0 vals1;have h:=qbq [vals0,vals1]
 first
  | exact h
  | (simp only[rL,dL,bR,bZ,Nat.reduceAdd] at h;exact h)
def q0g (a:qe) (b:qe):Option Int:=Option.bind (q0L [zL a.School b.School,QO a.Code b.Code]) fun(e0:Int)=>some e0
theorem q4k:∀(Js:Int) (q2A:ByteArray) (q2X:Int) (q8J:ByteArray),ev 78 0 [R.agg [dI Js,dS q2A],R.agg [dI q2X,dS q8J]] []=(q0g (qe.mk Js q2A) (qe.mk q2X q8J)).bind (fun(e:Int)=>some (rI e,[])):=
 fun Js q2A q2X q8J=>by
  rw[qF qFq qKg.2.2.2 qMi]
  have:=qMb;have:=@q0Z;have:=@q53;have:=@q3K;have:=@q0g.eq_1;exact gA
def Z4 (n:qb) (t22:List qe) (t23:Int):Int→Option (Int⊕(Unit⊕Unit))|t24=>if t24<t23 then if 0≤t24∧t24<((t22.length:Nat):Int) then Option.bind t22[Int.toNat t24]? fun(a:qe)=>if 0<t24 then if 0≤w64 (t24-1)∧w64 (t24-1)<((n.Set.length:Nat):Int) then Option.bind n.Set[Int.toNat (w64 (t24-1))]? fun(a2:qe)=>Option.bind (q0g a2 a) fun(a3:Int)=>if 0≤a3 then some (Sum.inr (Sum.inl ())) else some (Sum.inl (w64 (t24+1))) else none else some (Sum.inl (w64 (t24+1))) else none else some (Sum.inr (Sum.inr ()))
theorem q6W:∀(qw n_N qQ:Int) (qR:List qe) (n_L:List qb) (t22:List qe) (t23 t24:Int),XL2 evo 111 0 7 ⟨[(1,rP 0),(22,rL 2 qf t22),(23,rI t23),(24,rI t24)],[(0,B.blk 34 [dI qw,dI n_N,dI qQ,dL 2 qf qR,dL 5 qh n_L])],1,43⟩=(zn (Z4 (qb.mk qw n_N qQ qR n_L) t22 t23) t24).bind (Sum.elim (fun(e:Unit)=>some (Exit.ret,⟨[(2,rI 7)],[],0,43⟩)) (fun(e:Unit)=>some (Exit.exit 1,⟨[(2,R.any)],[],0,43⟩))):=
 fun qw n_N qQ qR n_L t22 t23 t24=>by
  revert t24;exact qcm qxf qut (fun e=>by rcases e with _|_<;>exact⟨_,rfl,fun h=>by cases h⟩) fun x=>by
   have:=qAn;have:=@qhJ.eq_1;have:=@q4k;have:=@Z4.eq_1;exact gA
def q0k (n:qb):Option Int:=if(!(qX n.Min (-1000) 1000))=Bool.true then some 3 else if(!(qX ((n.Set.length:Nat):Int) 1 12))=Bool.true then some 2 else Option.bind (zh n.Set) fun(a:Bool)=>if(!a)=Bool.true then Option.bind (zn (Z4 n n.Set ((n.Set.length:Nat):Int)) 0) fun(a2:Sum Unit Unit)=>Sum.elim (fun(a3:Unit)=>some 7) (fun(a4:Unit)=>some 0) a2 else some 1
theorem q4j:∀(qw n_N qQ:Int) (qR:List qe) (n_L:List qb),ev 111 0 [R.agg [dI qw,dI n_N,dI qQ,dL 2 qf qR,dL 5 qh n_L]] []=(q0k (qb.mk qw n_N qQ qR n_L)).bind (fun(e:Int)=>some (rI e,[])):=
 fun qw n_N qQ qR n_L=>by
  rw[qF qpI qBk.2.2.2 qBo]
  have:=qAn;have:=@ZQ;have:=@JA;have:=@q6W;have:=@q0k.eq_1;exact gA
def q16 (n:qb):Option Int:=if(n.N != 0)=Bool.true then some 13 else if 0<((n.L.length:Nat):Int) then some 13 else Option.bind (q0k n) fun(e0:Int)=>some e0
theorem q95:∀(qw n_N qQ:Int) (qR:List qe) (n_L:List qb),ev 110 0 [R.agg [dI qw,dI n_N,dI qQ,dL 2 qf qR,dL 5 qh n_L]] []=(q16 (qb.mk qw n_N qQ qR n_L)).bind (fun(e:Int)=>some (rI e,[])):=
 fun qw n_N qQ qR n_L=>by
  rw[qF qsq qCY.2.2.2 qI9]
  have:=qI4;have:=@q4j;have:=@q16.eq_1;exact gA
theorem qG5:okL 112 qdZ:=qJ (qj qrJ) (by kernel_rfl) (by kernel_rfl)
def qIy:=JA_ @qdZ.eq_1 (JA_ @Tryz.f112.eq_1 @qrJ)
def q17 (n:qb):Option Int:=if 0<((n.L.length:Nat):Int) then some 13 else if(!(qX n.N 1 600))=Bool.true then some 3 else Option.bind (q0k n) fun(e0:Int)=>some e0
theorem q96:∀(qw n_N qQ:Int) (qR:List qe) (n_L:List qb),ev 112 0 [R.agg [dI qw,dI n_N,dI qQ,dL 2 qf qR,dL 5 qh n_L]] []=(q17 (qb.mk qw n_N qQ qR n_L)).bind (fun(e:Int)=>some (rI e,[])):=
 fun qw n_N qQ qR n_L=>by
  rw[qF qrJ qEf.2.2.2 qG5]
  have:=qIy;have:=@ZQ;have:=@q4j;have:=@q17.eq_1;exact gA
theorem qFV:okL 113 qez:=qJ (qj qqf) (by kernel_rfl) (by kernel_rfl)
def qHA:=JA_ @qez.eq_1 (JA_ @Tryz.f113.eq_1 @qqf)
theorem qIr:okL 109 qen:=qJ (qj qsm) (by kernel_rfl) (by kernel_rfl)
def qJc:=JA_ @qen.eq_1 (JA_ @Tryz.f109.eq_1 @qsm)
def q2j (n:qb):Option Bool:=if(n.Min==0)=Bool.true then if(((n.Set.length:Nat):Int)==0)=Bool.true then some (decide (0<((n.L.length:Nat):Int))) else some Bool.false else some Bool.false
def QU (n:qb):Bool:=if(n.Min==0)=Bool.true then if(((n.Set.length:Nat):Int)==0)=Bool.true then decide (0<((n.L.length:Nat):Int)) else Bool.false else Bool.false
theorem q8G (n:qb):q2j n=some (QU n):=by
 unfold q2j QU
 simp only[Zb]
theorem q4B:∀(qw n_N qQ:Int) (qR:List qe) (n_L:List qb),ev 109 0 [R.agg [dI qw,dI n_N,dI qQ,dL 2 qf qR,dL 5 qh n_L]] []=some (rB (QU (qb.mk qw n_N qQ qR n_L)),[]):=
 fun qw n_N qQ qR n_L=>by
  have h:ev 109 0 [R.agg [dI qw,dI n_N,dI qQ,dL 2 qf qR,dL 5 qh n_L]] []=(q2j (qb.mk qw n_N qQ qR n_L)).bind (fun(e:Bool)=>some (rB e,[])):=by
   rw[qF qsm qAG.2.2.2 qIr]
   have:=qJc;have:=@q2j.eq_1;exact gA
  rw[q8G] at h
  exact h
def q2n (n:qb):Option Int:=if(!(QU n))=Bool.true then some 13 else if(n.N != 0)=Bool.true then some 13 else some 0
def ZU (n:qb):Int:=if(!(QU n))=Bool.true then 13 else if(n.N != 0)=Bool.true then 13 else 0
theorem q8H (n:qb):q2n n=some (ZU n):=by
 unfold q2n ZU
 simp only[Zb]
theorem q99:∀(qw n_N qQ:Int) (qR:List qe) (n_L:List qb),ev 113 1 [R.agg [dI qw,dI n_N,dI qQ,dL 2 qf qR,dL 5 qh n_L],rP 0] [(0,B.blk 144 [C.fn 109 [] []])]=some (rI (ZU (qb.mk qw n_N qQ qR n_L)),[(0,B.blk 144 [C.fn 109 [] []])]):=
 fun qw n_N qQ qR n_L=>by
  have h:ev 113 1 [R.agg [dI qw,dI n_N,dI qQ,dL 2 qf qR,dL 5 qh n_L],rP 0] [(0,B.blk 144 [C.fn 109 [] []])]=(q2n (qb.mk qw n_N qQ qR n_L)).bind (fun(e:Int)=>some (rI e,[(0,B.blk 144 [C.fn 109 [] []])])):=by
   rw[qF qqf qDn.2.2.2 qFV]
   have:=qHA;have:=@q4B;have:=@q2n.eq_1;exact gA
  rw[q8H] at h
  exact h
theorem qGK:okL 114 qdI:=qJ (qj qrq) (by kernel_rfl) (by kernel_rfl)
def qHw:=JA_ @qdI.eq_1 (JA_ @Tryz.f114.eq_1 @qrq)
def q2e (n:qb):Option Int:=if(!(QU n))=Bool.true then some 13 else if(!(qX n.N 1 ((n.L.length:Nat):Int)))=Bool.true then some 3 else some 0
def ZW (n:qb):Int:=if(!(QU n))=Bool.true then 13 else if(!(qX n.N 1 ((n.L.length:Nat):Int)))=Bool.true then 3 else 0
theorem q8p (n:qb):q2e n=some (ZW n):=by
 unfold q2e ZW
 simp only[Zb]
theorem q9L:∀(qw n_N qQ:Int) (qR:List qe) (n_L:List qb),ev 114 1 [R.agg [dI qw,dI n_N,dI qQ,dL 2 qf qR,dL 5 qh n_L],rP 0] [(0,B.blk 144 [C.fn 109 [] []])]=some (rI (ZW (qb.mk qw n_N qQ qR n_L)),[(0,B.blk 144 [C.fn 109 [] []])]):=
 fun qw n_N qQ qR n_L=>by
  have h:ev 114 1 [R.agg [dI qw,dI n_N,dI qQ,dL 2 qf qR,dL 5 qh n_L],rP 0] [(0,B.blk 144 [C.fn 109 [] []])]=(q2e (qb.mk qw n_N qQ qR n_L)).bind (fun(e:Int)=>some (rI e,[(0,B.blk 144 [C.fn 109 [] []])])):=by
   rw[qF qrq qE9.2.2.2 qGK]
   have:=qHw;have:=@q4B;have:=@ZQ;have:=@q2e.eq_1;exact gA
  rw[q8p] at h
  exact h
end
noncomputable section
open Go.RowKit
set_option maxRecDepth 20000
set_option maxHeartbeats 8000000
def Jc (t37:List qb) (t38:Int):Int→Option (Int⊕(Int⊕Unit))|t39=>if t39<t38 then if 0≤t39∧t39<((t37.length:Nat):Int) then Option.bind t37[Int.toNat t39]? fun(a:qb)=>if a.Kind=1 then Option.bind (q16 a) fun(a2:Int)=>if(a2 != 0)=Bool.true then some (Sum.inr (Sum.inl a2)) else some (Sum.inl (w64 (t39+1))) else if a.Kind=2 then Option.bind (q17 a) fun(a3:Int)=>if(a3 != 0)=Bool.true then some (Sum.inr (Sum.inl a3)) else some (Sum.inl (w64 (t39+1))) else if a.Kind=3 then if(ZU a != 0)=Bool.true then some (Sum.inr (Sum.inl (ZU a))) else some (Sum.inl (w64 (t39+1))) else if a.Kind=4 then if(ZW a != 0)=Bool.true then some (Sum.inr (Sum.inl (ZW a))) else some (Sum.inl (w64 (t39+1))) else some (Sum.inr (Sum.inl 13)) else none else some (Sum.inr (Sum.inr ()))
theorem q8x:∀(t37:List qb) (t38 t39:Int),XL2 evo 49 0 6 ⟨[(6,R.c (C.hd .map 0)),(37,rL 5 qh t37),(38,rI t38),(39,rI t39)],[(0,B.ob (AO.mp [(Value.int IntKind.i64 1,R.agg [C.fn 110 [] []],0),(Value.int IntKind.i64 2,R.agg [C.fn 112 [] []],1),(Value.int IntKind.i64 3,R.agg [C.fn 113 [] [dP 1]],2),(Value.int IntKind.i64 4,R.agg [C.fn 114 [] [dP 1]],3)] 4)),(1,B.blk 144 [C.fn 109 [] []])],2,60⟩=(zn (Jc t37 t38) t39).bind (Sum.elim (fun(e:Int)=>some (Exit.ret,⟨[(2,rI e)],[],0,60⟩)) (fun(e:Unit)=>some (Exit.exit 0,⟨[(2,R.any)],[],0,60⟩))):=
 fun t37 t38 t39=>by
  revert t39;exact qcm qBh qzd (fun e=>by rcases e with _|_<;>exact⟨_,rfl,fun h=>by cases h⟩) fun x=>by
   have:=qKF;have:=@qmx.eq_1;have:=@q95;have:=@q96;have:=@q99;have:=@q9L;have:=@Jc.eq_1;exact gA
def JU (n:qb):Option Int:=Option.bind (q2a n) fun(a:Prod (List qb) (Prod Int Bool))=>if(!a.2.2)=Bool.true then some 2 else if 24<((a.1.length:Nat):Int) then some 2 else if 5<a.2.1 then some 2 else Option.bind (q1B n) fun(a2:List qb)=>if(!(qX ((a2.length:Nat):Int) 1 8))=Bool.true then some 2 else Option.bind (zn (Jc a.1 ((a.1.length:Nat):Int)) 0) fun(a3:Sum Int Unit)=>Sum.elim (fun(a4:Int)=>some a4) (fun(a5:Unit)=>some 0) a3
theorem q6r:∀(qw n_N qQ:Int) (qR:List qe) (n_L:List qb),ev 49 0 [R.agg [dI qw,dI n_N,dI qQ,dL 2 qf qR,dL 5 qh n_L]] []=(JU (qb.mk qw n_N qQ qR n_L)).bind (fun(e:Int)=>some (rI e,[])):=
 fun qw n_N qQ qR n_L=>by
  rw[qF qC2 qKk.2.2.2 qK7]
  have:=qKF;have:=@q7e;have:=@qag;have:=@ZQ;have:=@qbR;have:=@q8x;have:=@JU.eq_1;exact gA
theorem qOW:okL 60 qjG:=qJ (qj qEV) (by kernel_rfl) (by kernel_rfl)
def qN2:=JA_ @qjG.eq_1 (JA_ @Tryz.f60.eq_1 @qEV)
theorem qJT:okL 95 qfk:=qJ (qj qC0) (by kernel_rfl) (by kernel_rfl)
def qKJ:=JA_ @qfk.eq_1 (JA_ @Tryz.f95.eq_1 @qC0)
theorem qBn:lbO 95 2=qlm:=Qt (qj qC0) rfl
theorem qzj:okL 95 qlm:=zI qJT (qQy (i:=0) (by kernel_rfl))
def qN (v:q0u qe) (s:List (q0u qe)) (t7:Int):Int→Option (Int⊕(Int⊕Unit))|t8=>if t8<t7 then if 0≤t8∧t8<((s.length:Nat):Int) then Option.bind s[Int.toNat t8]? fun(a:@q0u qe)=>if((v.a0.School==a.a0.School)=Bool.true∧(ByteArray.toList v.a0.Code==ByteArray.toList a.a0.Code)=Bool.true)∧(v.a1.School==a.a1.School)=Bool.true∧(ByteArray.toList v.a1.Code==ByteArray.toList a.a1.Code)=Bool.true then some (Sum.inr (Sum.inl t8)) else some (Sum.inl (w64 (t8+1))) else none else some (Sum.inr (Sum.inr ()))
theorem JC:∀(JP:Int) (q1N:ByteArray) (JQ:Int) (q1O:ByteArray) (s:List (q0u qe)) (t7 t8:Int),XL2 evo 95 0 2 ⟨[(0,rL 4 (eA2 qf) s),(3,rP 0),(7,rI t7),(8,rI t8)],[(0,B.blk 101 [dI JP,dS q1N,dI JQ,dS q1O])],1,19⟩=(zn (qN (q0u.mk (qe.mk JP q1N) (qe.mk JQ q1O)) s t7) t8).bind (Sum.elim (fun(e:Int)=>some (Exit.ret,⟨[(4,rI e)],[],0,19⟩)) (fun(e:Unit)=>some (Exit.exit 0,⟨[(4,R.any)],[],0,19⟩))):=
 fun JP q1N JQ q1O s t7 t8=>by
  revert t8;exact qcm qBn qzj (fun e=>by rcases e with _|_<;>exact⟨_,rfl,fun h=>by cases h⟩) fun x=>by
   have:=qKJ;have:=@qlm.eq_1;have:=@qN.eq_1;exact gA
def zS (s:List (q0u qe)) (v:q0u qe):Option Int:=Option.bind (zn (qN v s ((s.length:Nat):Int)) 0) fun(a:Sum Int Unit)=>Sum.elim (fun(a2:Int)=>some a2) (fun(a3:Unit)=>some (-1)) a
theorem q00:∀(s:List (q0u qe)) (JP:Int) (q1N:ByteArray) (JQ:Int) (q1O:ByteArray),ev 95 0 [rL 4 (eA2 qf) s,R.agg [dI JP,dS q1N,dI JQ,dS q1O]] []=(zS s (q0u.mk (qe.mk JP q1N) (qe.mk JQ q1O))).bind (fun(e:Int)=>some (rI e,[])):=
 fun s JP q1N JQ q1O=>by
  rw[qF qC0 qLq.2.2.2 qJT]
  have:=qKJ;have:=@JC;have:=@zS.eq_1;exact gA
def qG (s:List (q0u qe)) (v:q0u qe):Option Bool:=Option.bind (zS s v) fun(a:Int)=>some (decide (0≤a))
theorem QX:∀(s:List (q0u qe)) (JP:Int) (q1N:ByteArray) (JQ:Int) (q1O:ByteArray),ev 60 0 [rL 4 (eA2 qf) s,R.agg [dI JP,dS q1N,dI JQ,dS q1O]] []=(qG s (q0u.mk (qe.mk JP q1N) (qe.mk JQ q1O))).bind (fun(e:Bool)=>some (rB e,[])):=
 fun s JP q1N JQ q1O=>by
  rw[qF qEV qK5.2.2.2 qOW]
  have:=qN2;have:=@q00;have:=@qG.eq_1;exact gA
def Qw (b0:qg) (t62:List (q0u qe)) (t63:Int):Int→Option (Int⊕(Int⊕Unit))|t64=>if t64<t63 then if 0≤t64∧t64<((t62.length:Nat):Int) then Option.bind t62[Int.toNat t64]? fun(a:@q0u qe)=>Option.bind (q0G a.a0) fun(a2:Bool)=>if(!a2)=Bool.true then some (Sum.inr (Sum.inl 1)) else Option.bind (q0G a.a1) fun(a3:Bool)=>if(!a3)=Bool.true then some (Sum.inr (Sum.inl 1)) else Option.bind (q0g a.a0 a.a1) fun(a4:Int)=>if 0≤a4 then some (Sum.inr (Sum.inl 7)) else if 0≤t64∧t64≤((b0.Exclude.length:Nat):Int) then Option.bind (qG (List.take (Int.toNat t64-0) b0.Exclude) a) fun(a5:Bool)=>if a5=Bool.true then some (Sum.inr (Sum.inl 6)) else some (Sum.inl (w64 (t64+1))) else none else none else some (Sum.inr (Sum.inr ()))
theorem q5q:∀(qr Q0 qn qA:Int) (qB:ByteArray) (qk qs ql:Int) (qm:List qe) (qt:List qb) (qv qZ z6:Int) (qp t62:List (q0u qe)) (t63 t64:Int),XL2 evo 47 0 13 ⟨[(1,rP 0),(62,rL 4 (eA2 qf) t62),(63,rI t63),(64,rI t64)],[(0,B.blk 37 [dI qr,dI Q0,dI qn,dI qA,dS qB,dI qk,dI qs,dI ql,dL 2 qf qm,dL 5 qh qt,dI qv,dI qZ,dI z6,dL 4 (eA2 qf) qp])],1,95⟩=(zn (Qw (qg.mk qr Q0 qn qA qB (qb.mk qk qs ql qm qt) qv qZ z6 qp) t62 t63) t64).bind (Sum.elim (fun(e:Int)=>some (Exit.ret,⟨[(2,rI e)],[],0,95⟩)) (fun(e:Unit)=>some (Exit.exit 1,⟨[(2,R.any)],[],0,95⟩))):=
 fun qr Q0 qn qA qB qk qs ql qm qt qv qZ z6 qp t62 t63 t64=>by
  revert t64;exact qcm qul qwy (fun e=>by rcases e with _|_<;>exact⟨_,rfl,fun h=>by cases h⟩) fun x=>by
   have:=qKA;have:=@qhq.eq_1;have:=@q5V;have:=@q4k;have:=@QX;have:=@Qw.eq_1;exact gA
def JL (x0:qg):Option Int:=if(!(qX x0.School 1 8))=Bool.true then some 1 else if(!(qX x0.Id 1 999999))=Bool.true then some 3 else if(!(qX x0.Version 1 20))=Bool.true then some 3 else if(!(qX x0.From 0 100000))=Bool.true then some 3 else if(!(qX x0.Total 0 600))=Bool.true then some 3 else if(!(qX x0.Own 0 600))=Bool.true then some 3 else if(!(qX x0.Age 0 100))=Bool.true then some 3 else Option.bind (q0F x0.Name) fun(a:Bool)=>if(!a)=Bool.true then some 1 else Option.bind (JU x0.Need) fun(a2:Int)=>if(a2 != 0)=Bool.true then some a2 else if 8<((x0.Exclude.length:Nat):Int) then some 2 else Option.bind (zn (Qw x0 x0.Exclude ((x0.Exclude.length:Nat):Int)) 0) fun(a3:Sum Int Unit)=>Sum.elim (fun(e0:Int)=>some e0) (fun(a4:Unit)=>some 0) a3
theorem q81:∀(Jg q7K Zu q1t:Int) (q1u:ByteArray) (QB Jh Z0:Int) (Z1:List qe) (Ji:List qb) (q04 q3x q3y:Int) (Zv:List (q0u qe)),ev 47 0 [R.agg [dI Jg,dI q7K,dI Zu,dI q1t,dS q1u,dI QB,dI Jh,dI Z0,dL 2 qf Z1,dL 5 qh Ji,dI q04,dI q3x,dI q3y,dL 4 (eA2 qf) Zv]] []=(JL (qg.mk Jg q7K Zu q1t q1u (qb.mk QB Jh Z0 Z1 Ji) q04 q3x q3y Zv)).bind (fun(e:Int)=>some (rI e,[])):=
 fun Jg q7K Zu q1t q1u QB Jh Z0 Z1 Ji q04 q3x q3y Zv=>by
  rw[qF qyn qKx.2.2.2 qKa]
  have:=qKA;have:=@ZQ;have:=@qbV;have:=@q6r;have:=@q5q;have:=@JL.eq_1;exact gA
def Zx (p:qg) (s:qd):Option Int:=Option.bind (JL p) fun(a:Int)=>if(a != 0)=Bool.true then some a else Option.bind (q0T s) fun(e0:Int)=>some e0
theorem q9k:∀(Q3 q73 zC J2:Int) (J3:ByteArray) (qS Q4 zl:Int) (zm:List qe) (Q5:List qb) (QK q13 q14:Int) (zD:List (q0u qe)) (qz qT qU:Int),ev 21 0 [R.agg [dI Q3,dI q73,dI zC,dI J2,dS J3,dI qS,dI Q4,dI zl,dL 2 qf zm,dL 5 qh Q5,dI QK,dI q13,dI q14,dL 4 (eA2 qf) zD],R.agg [dI qz,dI qT,dI qU]] []=(Zx (qg.mk Q3 q73 zC J2 J3 (qb.mk qS Q4 zl zm Q5) QK q13 q14 zD) (qd.mk qz qT qU)).bind (fun(e:Int)=>some (rI e,[])):=
 fun Q3 q73 zC J2 J3 qS Q4 zl zm Q5 QK q13 q14 zD qz qT qU=>by
  rw[qF qEH qKX.2.2.2 qPI]
  have:=qPQ;have:=@q81;have:=@q5f;have:=@Zx.eq_1;exact gA
def QL (b0:qg) (b1:qd) (b2:Int) (b4:Int) (t2:List qa) (t28:List qa) (t29:Int):(List Int×Int)→Option ((List Int×Int)⊕(List Int))|(w6,t30)=>if t30<t29 then if 0≤t30∧t30<((t28.length:Nat):Int) then Option.bind t28[Int.toNat t30]? fun(a:qa)=>Option.bind (Jp b0 a b2) fun(a2:Bool)=>if(!a2)=Bool.true then if w6.length+1≤maxLen∧(w6.length+1)*8≤140737488355328 then some (Sum.inl (w6++[t30],w64 (t30+1))) else none else some (Sum.inl (w6,w64 (t30+1))) else none else some (Sum.inr w6)
theorem q6h:∀(w6:List Int) (qr Q0 qn qA:Int) (qB:ByteArray) (qk qs ql:Int) (qm:List qe) (qt:List qb) (qv qZ z6:Int) (qp:List (q0u qe)) (qW zz zA b2 b4:Int) (t2 t28:List qa) (t29 t30:Int) (qcf:Nat),qcf=w6.length→XL2 evo 8 0 6 ⟨[(2,rL 8 qc t2),(4,rP 0),(5,rP 1),(7,rP 2),(8,rP 3),(9,rP 4),(11,rP 5),(28,rL 8 qc t28),(29,rI t29),(30,rI t30)],[(0,B.blk 37 [dI qr,dI Q0,dI qn,dI qA,dS qB,dI qk,dI qs,dI ql,dL 2 qf qm,dL 5 qh qt,dI qv,dI qZ,dI z6,dL 4 (eA2 qf) qp]),(1,B.blk 44 [dI qW,dI zz,dI zA]),(2,B.blk 3 [dI b2]),(3,B.blk 47 [C.nils,C.nils]),(4,B.blk 40 [dI b4]),(5,B.blk 25 [dO 6 1 qcf]),(6,bR 3 1 eI w6)],7,93⟩=(zn (QL (qg.mk qr Q0 qn qA qB (qb.mk qk qs ql qm qt) qv qZ z6 qp) (qd.mk qW zz zA) b2 b4 t2 t28 t29) (w6,t30)).bind (fun(e:List Int)=>some (Exit.exit 0,⟨[(2,rL 8 qc t2),(4,rP 0),(5,rP 1),(7,rP 2),(8,rP 3),(9,rP 4),(11,rP 5)],[(0,B.blk 37 [dI qr,dI Q0,dI qn,dI qA,dS qB,dI qk,dI qs,dI ql,dL 2 qf qm,dL 5 qh qt,dI qv,dI qZ,dI z6,dL 4 (eA2 qf) qp]),(1,B.blk 44 [dI qW,dI zz,dI zA]),(2,B.blk 3 [dI b2]),(3,B.blk 47 [C.nils,C.nils]),(4,B.blk 40 [dI b4]),(5,B.blk 25 [dO 6 1 e.length]),(6,bR 3 1 eI e)],7,93⟩)):=
 by
 intro w6 qr Q0 qn qA qB qk qs ql qm qt qv qZ z6 qp qW zz zA b2 b4 t2 t28 t29 t30 qcf h0
 subst h0
 revert t30;revert w6;exact qab qIi qHa (fun e=>by exact⟨_,rfl,fun h=>by cases h⟩) fun w6 t30=>by
  have:=cx8;have:=@qxR.eq_1;have:=@q3n;have:=@QL.eq_1;have:=@qoM;exact gA
theorem q4y:∀  (qr Q0 qn qA:Int) (qB:ByteArray) (qk qs ql:Int) (qm:List qe) (qt:List qb) (qv qZ z6:Int) (qp:List (q0u qe)) (qW zz zA b2 b4:Int) (t2 t28:List qa) (t29 t30:Int),XL2 evo 8 0 6 ⟨[(2,rL 8 qc t2),(4,rP 0),(5,rP 1),(7,rP 2),(8,rP 3),(9,rP 4),(11,rP 5),(28,rL 8 qc t28),(29,rI t29),(30,rI t30)],[(0,B.blk 37 [dI qr,dI Q0,dI qn,dI qA,dS qB,dI qk,dI qs,dI ql,dL 2 qf qm,dL 5 qh qt,dI qv,dI qZ,dI z6,dL 4 (eA2 qf) qp]),(1,B.blk 44 [dI qW,dI zz,dI zA]),(2,B.blk 3 [dI b2]),(3,B.blk 47 [C.nils,C.nils]),(4,B.blk 40 [dI b4]),(5,B.blk 25 [dO 6 1 0]),(6,B.row 3 1 [])],7,93⟩=(zn (QL (qg.mk qr Q0 qn qA qB (qb.mk qk qs ql qm qt) qv qZ z6 qp) (qd.mk qW zz zA) b2 b4 t2 t28 t29) (([]:List Int),t30)).bind (fun(e:List Int)=>some (Exit.exit 0,⟨[(2,rL 8 qc t2),(4,rP 0),(5,rP 1),(7,rP 2),(8,rP 3),(9,rP 4),(11,rP 5)],[(0,B.blk 37 [dI qr,dI Q0,dI qn,dI qA,dS qB,dI qk,dI qs,dI ql,dL 2 qf qm,dL 5 qh qt,dI qv,dI qZ,dI z6,dL 4 (eA2 qf) qp]),(1,B.blk 44 [dI qW,dI zz,dI zA]),(2,B.blk 3 [dI b2]),(3,B.blk 47 [C.nils,C.nils]),(4,B.blk 40 [dI b4]),(5,B.blk 25 [dO 6 1 e.length]),(6,bR 3 1 eI e)],7,93⟩)):=by
 intro qr Q0 qn qA qB qk qs ql qm qt qv qZ z6 qp qW zz zA b2 b4 t2 t28 t29 t30;have h:=q6h ([]:List Int) ((qg.mk qr Q0 qn qA qB (qb.mk qk qs ql qm qt) qv qZ z6 qp)).School ((qg.mk qr Q0 qn qA qB (qb.mk qk qs ql qm qt) qv qZ z6 qp)).Id ((qg.mk qr Q0 qn qA qB (qb.mk qk qs ql qm qt) qv qZ z6 qp)).Version ((qg.mk qr Q0 qn qA qB (qb.mk qk qs ql qm qt) qv qZ z6 qp)).From ((qg.mk qr Q0 qn qA qB (qb.mk qk qs ql qm qt) qv qZ z6 qp)).Name ((qg.mk qr Q0 qn qA qB (qb.mk qk qs ql qm qt) qv qZ z6 qp)).Need.Kind ((qg.mk qr Q0 qn qA qB (qb.mk qk qs ql qm qt) qv qZ z6 qp)).Need.N ((qg.mk qr Q0 qn qA qB (qb.mk qk qs ql qm qt) qv qZ z6 qp)).Need.Min ((qg.mk qr Q0 qn qA qB (qb.mk qk qs ql qm qt) qv qZ z6 qp)).Need.Set ((qg.mk qr Q0 qn qA qB (qb.mk qk qs ql qm qt) qv qZ z6 qp)).Need.L ((qg.mk qr Q0 qn qA qB (qb.mk qk qs ql qm qt) qv qZ z6 qp)).Total ((qg.mk qr Q0 qn qA qB (qb.mk qk qs ql qm qt) qv qZ z6 qp)).Own ((qg.mk qr Q0 qn qA qB (qb.mk qk qs ql qm qt) qv qZ z6 qp)).Age ((qg.mk qr Q0 qn qA qB (qb.mk qk qs ql qm qt) qv qZ z6 qp)).Exclude ((qd.mk qW zz zA)).Worst ((qd.mk qW zz zA)).Best ((qd.mk qW zz zA)).Pass b2 b4 t2 t28 t29 t30 _ rfl
 first
  | exact h
  | (simp only[rL,dL,bR,bZ,Nat.reduceAdd] at h;exact h)
theorem qKf:okL 22 qfs:=qJ (qj qBC) (by kernel_rfl) (by kernel_rfl)
def qKw:=JA_ @qfs.eq_1 (JA_ @Tryz.f22.eq_1 @qBC)
theorem qzh:lbO 22 2=qmJ:=Qt (qj qBC) rfl
theorem qDf:okL 22 qmJ:=zI qKf (qQy (i:=0) (by kernel_rfl))
def qP (l:List qa) (t7:List Int) (t8:Int):(List qa×Int)→Option ((List qa×Int)⊕(List qa))|(out,t9)=>if t9<t8 then if 0≤t9∧t9<((t7.length:Nat):Int) then Option.bind t7[Int.toNat t9]? fun(a:Int)=>if 0≤a∧a<((l.length:Nat):Int) then Option.bind l[Int.toNat a]? fun(a2:qa)=>if out.length+1≤maxLen∧(out.length+1)*104≤140737488355328 then some (Sum.inl (out++[a2],w64 (t9+1))) else none else none else none else some (Sum.inr out)
theorem q12:∀(out l:List qa) (t7:List Int) (t8 t9:Int) (q1r:Nat),q1r=out.length→XL2 evo 22 0 2 ⟨[(0,rL 8 qc l),(4,rO 0 8 q1r),(7,rL 1 eI t7),(8,rI t8),(9,rI t9)],[(0,bR 54 8 qc out)],1,22⟩=(zn (qP l t7 t8) (out,t9)).bind (fun(e:List qa)=>some (Exit.exit 0,⟨[(4,rO 0 8 e.length)],[(0,bR 54 8 qc e)],1,22⟩)):=
 by
 intro out l t7 t8 t9 q1r h0
 subst h0
 revert t9;revert out;exact qab qzh qDf (fun e=>by exact⟨_,rfl,fun h=>by cases h⟩) fun out t9=>by
  have:=qKw;have:=@qmJ.eq_1;have:=@qP.eq_1;exact gA
theorem q0w:∀  (l:List qa) (t7:List Int) (t8 t9:Int),XL2 evo 22 0 2 ⟨[(0,rL 8 qc l),(4,rO 0 8 0),(7,rL 1 eI t7),(8,rI t8),(9,rI t9)],[(0,B.row 54 8 [])],1,22⟩=(zn (qP l t7 t8) (([]:List qa),t9)).bind (fun(e:List qa)=>some (Exit.exit 0,⟨[(4,rO 0 8 e.length)],[(0,bR 54 8 qc e)],1,22⟩)):=by
 intro l t7 t8 t9;have h:=q12 ([]:List qa) l t7 t8 t9 _ rfl
 first
  | exact h
  | (simp only[rL,dL,bR,bZ,Nat.reduceAdd] at h;exact h)
def zq (l:List qa) (at0:List Int):Option (List qa):=Option.bind (zn (qP l at0 ((at0.length:Nat):Int)) ([],0)) fun(a:List qa)=>some a
theorem Jm:∀(l:List qa) (at0:List Int),ev 22 0 [rL 8 qc l,rL 1 eI at0] []=(zq l at0).bind (fun(e:List qa)=>some (rL 8 qc e,[])):=
 fun l at0=>by
  rw[qF qBC qLG.2.2.2 qKf]
  have:=qKw;have:=@q0w;have:=@zq.eq_1;exact gA
theorem qOl:okL 23 qjY:=qJ (qj qFg) (by kernel_rfl) (by kernel_rfl)
def qO2:=JA_ @qjY.eq_1 (JA_ @Tryz.f23.eq_1 @qFg)
theorem qLm:okL 52 qiq:=qJ (qj qBN) (by kernel_rfl) (by kernel_rfl)
def qLs:=JA_ @qiq.eq_1 (JA_ @Tryz.f52.eq_1 @qBN)
theorem qwd:okL 83 q8i:=qJ (qj qq4) (by kernel_rfl) (by kernel_rfl)
def qjg:=JA_ @q8i.eq_1 (JA_ @Tryz.f83.eq_1 @qq4)
theorem qiM:lbO 83 5=qdh:=Qt (qj qq4) rfl
theorem qkc:okL 83 qdh:=zI qwd (qQy (i:=0) (by kernel_rfl))
theorem qmQ:lbO 83 14=qdR:=Qt (qj qq4) rfl
theorem qnB:okL 83 qdR:=zI qwd (qQy (i:=1) (by kernel_rfl))
theorem qlq:lbO 83 18=qeg:=Qt (qj qq4) rfl
theorem qob:okL 83 qeg:=zI qwd (qQy (i:=2) (by kernel_rfl))
theorem qll:lbO 83 25=qe9:=Qt (qj qq4) rfl
theorem qnz:okL 83 qe9:=zI qwd (qQy (i:=3) (by kernel_rfl))
theorem qlQ:lbO 83 38=qeE:=Qt (qj qq4) rfl
theorem qnZ:okL 83 qeE:=zI qwd (qQy (i:=4) (by kernel_rfl))
theorem qN9:okL 84 qjH:=qJ (qj qFa) (by kernel_rfl) (by kernel_rfl)
def qOd:=JA_ @qjH.eq_1 (JA_ @Tryz.f84.eq_1 @qFa)
def q6J (n:qb):Option Bool:=if(n.Kind==1)=Bool.true then some Bool.true else some (n.Kind==2)
def JT (n:qb):Bool:=if(n.Kind==1)=Bool.true then Bool.true else n.Kind==2
theorem qcr (n:qb):q6J n=some (JT n):=by
 unfold q6J JT
 simp only[Zb]
theorem q51:∀(qw n_N qQ:Int) (qR:List qe) (n_L:List qb),ev 84 0 [R.agg [dI qw,dI n_N,dI qQ,dL 2 qf qR,dL 5 qh n_L]] []=some (rB (JT (qb.mk qw n_N qQ qR n_L)),[]):=
 fun qw n_N qQ qR n_L=>by
  have h:ev 84 0 [R.agg [dI qw,dI n_N,dI qQ,dL 2 qf qR,dL 5 qh n_L]] []=(q6J (qb.mk qw n_N qQ qR n_L)).bind (fun(e:Bool)=>some (rB e,[])):=by
   rw[qF qFa qLk.2.2.2 qN9]
   have:=qOd;have:=@q6J.eq_1;exact gA
  rw[qcr] at h
  exact h
theorem qNh:okL 85 qiK:=qJ (qj qFe) (by kernel_rfl) (by kernel_rfl)
def qP3:=JA_ @qiK.eq_1 (JA_ @Tryz.f85.eq_1 @qFe)
def q1Z (kind:Int):Option (Unit⊕Unit):=if(kind==1)=Bool.true then some (Sum.inl ()) else some (Sum.inr ())
theorem q79:∀(kind:Int),ev 85 0 [rI kind] []=(q1Z kind).bind (Sum.elim (fun(e:Unit)=>some (R.c (C.fn 115 [] []),[])) (fun(e:Unit)=>some (R.c (C.fn 116 [] []),[]))):=
 fun kind=>by
  rw[qF qFe qJP.2.2.2 qNh]
  have:=qP3;have:=@q1Z.eq_1;exact gA
theorem qOU:okL 50 qjo:=qJ (qj qFs) (by kernel_rfl) (by kernel_rfl)
def qON:=JA_ @qjo.eq_1 (JA_ @Tryz.f50.eq_1 @qFs)
def q3M (x0:Int) (x1:Int):Option Unit:=
 some ()
def q7c (x0:Int) (x1:Int):Unit:=
 ()
theorem qao (x0 x1:Int):q3M x0 x1=some (q7c x0 x1):=by
 unfold q3M q7c
 simp only[Zb]
theorem q68:∀(x0 x1:Int),ev 50 0 [rI x0,rI x1] []=some (rB Bool.true,[]):=
 fun x0 x1=>by
  have h:ev 50 0 [rI x0,rI x1] []=(q3M x0 x1).bind (fun(e:Unit)=>some (rB Bool.true,[])):=by
   rw[qF qFs qKh.2.2.2 qOU]
   have:=qON;have:=@q3M.eq_1;exact gA
  rw[qao] at h
  exact h
theorem qKt:okL 86 qfS:=qJ (qj qCw) (by kernel_rfl) (by kernel_rfl)
def qLD:=JA_ @qfS.eq_1 (JA_ @Tryz.f86.eq_1 @qCw)
theorem qzA:lbO 86 3=qlV:=Qt (qj qCw) rfl
theorem qyK:okL 86 qlV:=zI qKt (qQy (i:=0) (by kernel_rfl))
theorem qMr:okL 87 qiO:=qJ (qj qFt) (by kernel_rfl) (by kernel_rfl)
def qMg:=JA_ @qiO.eq_1 (JA_ @Tryz.f87.eq_1 @qFt)
def q0I (k:Int) (v:Int):Option Bool:=if 0≤k then some (Zq Go.BinOp.and IntKind.i64 (Int.fdiv v (2 ^ min (Int.toNat k) (IntKind.bits IntKind.i64))) 1==1) else none
theorem q8k:∀(k v:Int),ev 87 1 [rI k,rP 0] [(0,B.blk 3 [dI v])]=(q0I k v).bind (fun(e:Bool)=>some (rB e,[(0,B.blk 3 [dI v])])):=
 fun k v=>by
  rw[qF qFt qKG.2.2.2 qMr]
  have:=qMg;have:=@q0I.eq_1;exact gA
theorem qJn:okL 117 qee:=qJ (qj qqY) (by kernel_rfl) (by kernel_rfl)
def qIV:=JA_ @qee.eq_1 (JA_ @Tryz.f117.eq_1 @qqY)
theorem qGz:okL 147 qdA:=qJ (qj qs9) (by kernel_rfl) (by kernel_rfl)
def qHf:=JA_ @qdA.eq_1 (JA_ @Tryz.f147.eq_1 @qs9)
theorem qAl:okL 158 qc7:=qJ (qj qor) (by kernel_rfl) (by kernel_rfl)
def qBq:=JA_ @qc7.eq_1 (JA_ @Tryz.f158.eq_1 @qor)
theorem qwT:lbO 158 2=qhP:=Qt (qj qor) rfl
theorem qwq:okL 158 qhP:=zI qAl (qQy (i:=0) (by kernel_rfl))
def z7 (v:qe) (s:List qe) (t7:Int):Int→Option (Int⊕(Int⊕Unit))|t8=>if t8<t7 then if 0≤t8∧t8<((s.length:Nat):Int) then Option.bind s[Int.toNat t8]? fun(a:qe)=>if(v.School==a.School)=Bool.true∧(ByteArray.toList v.Code==ByteArray.toList a.Code)=Bool.true then some (Sum.inr (Sum.inl t8)) else some (Sum.inl (w64 (t8+1))) else none else some (Sum.inr (Sum.inr ()))
theorem q06:∀(Ju:Int) (q6t:ByteArray) (s:List qe) (t7 t8:Int),XL2 evo 158 0 2 ⟨[(0,rL 2 qf s),(3,rP 0),(7,rI t7),(8,rI t8)],[(0,B.blk 52 [dI Ju,dS q6t])],1,19⟩=(zn (z7 (qe.mk Ju q6t) s t7) t8).bind (Sum.elim (fun(e:Int)=>some (Exit.ret,⟨[(4,rI e)],[],0,19⟩)) (fun(e:Unit)=>some (Exit.exit 0,⟨[(4,R.any)],[],0,19⟩))):=
 fun Ju q6t s t7 t8=>by
  revert t8;exact qcm qwT qwq (fun e=>by rcases e with _|_<;>exact⟨_,rfl,fun h=>by cases h⟩) fun x=>by
   have:=qBq;have:=@qhP.eq_1;have:=@z7.eq_1;exact gA
def zE (s:List qe) (v:qe):Option Int:=Option.bind (zn (z7 v s ((s.length:Nat):Int)) 0) fun(a:Sum Int Unit)=>Sum.elim (fun(a2:Int)=>some a2) (fun(a3:Unit)=>some (-1)) a
theorem q0H:∀(s:List qe) (Ju:Int) (q6t:ByteArray),ev 158 0 [rL 2 qf s,R.agg [dI Ju,dS q6t]] []=(zE s (qe.mk Ju q6t)).bind (fun(e:Int)=>some (rI e,[])):=
 fun s Ju q6t=>by
  rw[qF qor qAv.2.2.2 qAl]
  have:=qBq;have:=@q06;have:=@zE.eq_1;exact gA
def zr (s:List qe) (v:qe):Option Bool:=Option.bind (zE s v) fun(a:Int)=>some (decide (0≤a))
theorem q07:∀(s:List qe) (Ju:Int) (q6t:ByteArray),ev 147 0 [rL 2 qf s,R.agg [dI Ju,dS q6t]] []=(zr s (qe.mk Ju q6t)).bind (fun(e:Bool)=>some (rB e,[])):=
 fun s Ju q6t=>by
  rw[qF qs9 qBm.2.2.2 qGz]
  have:=qHf;have:=@q0H;have:=@zr.eq_1;exact gA
def q4r (n:qb) (s:qd) (a:qa):Option Bool:=if JT n=Bool.true then Option.bind (zr n.Set a.Course) fun(a2:Bool)=>if a2=Bool.true then Option.bind (JG s a.Grade n.Min) fun(e0:Bool)=>some e0 else some Bool.false else some Bool.false
theorem qer:∀(qw n_N qQ:Int) (qR:List qe) (n_L:List qb) (qz qT qU qy:Int) (qD:ByteArray) (zG QS q1e:Int) (zB:List Int) (Qc:Int) (ZO:List Int),ev 117 0 [R.agg [dI qw,dI n_N,dI qQ,dL 2 qf qR,dL 5 qh n_L],R.agg [dI qz,dI qT,dI qU],R.agg [dI qy,dS qD,dI zG,dI QS,dI q1e,dL 1 eI zB,dI Qc,dL 1 eI ZO]] []=(q4r (qb.mk qw n_N qQ qR n_L) (qd.mk qz qT qU) (qa.mk (qe.mk qy qD) zG QS q1e zB Qc ZO)).bind (fun(e:Bool)=>some (rB e,[])):=
 fun qw n_N qQ qR n_L qz qT qU qy qD zG QS q1e zB Qc ZO=>by
  rw[qF qqY qA7.2.2.2 qJn]
  have:=qIV;have:=@q51;have:=@q07;have:=@q3Q;have:=@q4r.eq_1;exact gA
def Jw (b0:Int) (n:qb) (s:qd) (b3:qV) (t13:List qa) (t14:Int):(qV×Int)→Option ((qV×Int)⊕qV)|(out,t15)=>if t15<t14 then if 0≤t15∧t15<((t13.length:Nat):Int) then Option.bind t13[Int.toNat t15]? fun(a:qa)=>Option.bind (q0I t15 b0) fun(a2:Bool)=>if a2=Bool.true then if out.fine=Bool.true then Option.bind (q4r n s a) fun(a3:Bool)=>some (Sum.inl (qV.mk (w64 (out.many+1)) (w64 (out.credits+a.Credits)) a3,w64 (t15+1))) else some (Sum.inl (qV.mk (w64 (out.many+1)) (w64 (out.credits+a.Credits)) Bool.false,w64 (t15+1))) else some (Sum.inl (out,w64 (t15+1))) else none else some (Sum.inr out)
theorem q9I:∀(b0 qw n_N qQ:Int) (qR:List qe) (n_L:List qb) (qz qT qU b3_many b3_credits:Int) (b3_fine:Bool) (out_many out_credits:Int) (out_fine:Bool) (t13:List qa) (t14 t15:Int),XL2 evo 86 1 3 ⟨[(3,R.c (C.fn 87 [] [dP 0])),(4,rP 1),(5,rP 2),(8,rP 3),(9,rP 4),(13,rL 8 qc t13),(14,rI t14),(15,rI t15)],[(0,B.blk 3 [dI b0]),(1,B.blk 34 [dI qw,dI n_N,dI qQ,dL 2 qf qR,dL 5 qh n_L]),(2,B.blk 44 [dI qz,dI qT,dI qU]),(3,B.blk 148 [dI b3_many,dI b3_credits,dB b3_fine]),(4,B.blk 148 [dI out_many,dI out_credits,dB out_fine])],5,44⟩=(zn (Jw b0 (qb.mk qw n_N qQ qR n_L) (qd.mk qz qT qU) (qV.mk b3_many b3_credits b3_fine) t13 t14) ((qV.mk out_many out_credits out_fine),t15)).bind (fun(e:qV)=>some (Exit.exit 0,⟨[(8,rP 1),(9,rP 2)],[(0,B.blk 3 [dI b0]),(1,B.blk 148 [dI b3_many,dI b3_credits,dB b3_fine]),(2,B.blk 148 [dI e.many,dI e.credits,dB e.fine])],3,44⟩)):=
 fun b0 qw n_N qQ qR n_L qz qT qU b3_many b3_credits b3_fine out_many out_credits out_fine t13 t14 t15=>by
  have h:=q9C (E:=evo) (f:=86) (k:=1) (st:=fun x:qV×Int=>(⟨[(3,R.c (C.fn 87 [] [dP 0])),(4,rP 1),(5,rP 2),(8,rP 3),(9,rP 4),(13,rL 8 qc t13),(14,rI t14),(15,rI x.2)],[(0,B.blk 3 [dI b0]),(1,B.blk 34 [dI qw,dI n_N,dI qQ,dL 2 qf qR,dL 5 qh n_L]),(2,B.blk 44 [dI qz,dI qT,dI qU]),(3,B.blk 148 [dI b3_many,dI b3_credits,dB b3_fine]),(4,B.blk 148 [dI x.1.many,dI x.1.credits,dB x.1.fine])],5,44⟩:S)) (ex:=fun(e:qV)=>(Exit.exit 0,⟨[(8,rP 1),(9,rP 2)],[(0,B.blk 3 [dI b0]),(1,B.blk 148 [dI b3_many,dI b3_credits,dB b3_fine]),(2,B.blk 148 [dI e.many,dI e.credits,dB e.fine])],3,44⟩)) (step:=(Jw b0 (qb.mk qw n_N qQ qR n_L) (qd.mk qz qT qU) (qV.mk b3_many b3_credits b3_fine) t13 t14)) qzA qyK (fun e h=>by cases h) (fun x=>by
   obtain⟨out,t15⟩:=x;have:=qLD;have:=@qlV.eq_1;have:=@q8k;have:=@qer;have:=@Jw.eq_1;exact gA) ((qV.mk out_many out_credits out_fine),t15)
  exact h
def q0y (n:qb) (s:qd) (l:List qa) (b0:Int):Option qV:=Option.bind (zn (Jw b0 n s (qV.mk 0 0 Bool.false) l ((l.length:Nat):Int)) (qV.mk 0 0 Bool.true,0)) fun(a:qV)=>some a
theorem q2b:∀(qw n_N qQ:Int) (qR:List qe) (n_L:List qb) (qz qT qU:Int) (l:List qa) (b0:Int),ev 86 1 [R.agg [dI qw,dI n_N,dI qQ,dL 2 qf qR,dL 5 qh n_L],R.agg [dI qz,dI qT,dI qU],rL 8 qc l,R.c (C.fn 87 [] [dP 0])] [(0,B.blk 3 [dI b0])]=(q0y (qb.mk qw n_N qQ qR n_L) (qd.mk qz qT qU) l b0).bind (fun(e:qV)=>some (R.agg [dI e.many,dI e.credits,dB e.fine],[(0,B.blk 3 [dI b0])])):=
 fun qw n_N qQ qR n_L qz qT qU l b0=>by
  rw[qF qCw qLM.2.2.2 qKt]
  have:=qLD;have:=@q9I;have:=@q0y.eq_1;exact gA
theorem qHu:okL 115 qdv:=qJ (qj qr1) (by kernel_rfl) (by kernel_rfl)
def qGy:=JA_ @qdv.eq_1 (JA_ @Tryz.f115.eq_1 @qr1)
def q0U (x:qV) (x1:qb):Option Bool:=if x.fine=Bool.true then some (x.many==1) else some Bool.false
def Qg (x:qV) (x1:qb):Bool:=if x.fine=Bool.true then x.many==1 else Bool.false
theorem q62 (x:qV) (x1:qb):q0U x x1=some (Qg x x1):=by
 unfold q0U Qg
 simp only[Zb]
theorem q2L:∀(x_many x_credits:Int) (x_fine:Bool) (qcg qEw qgq:Int) (qgr:List qe) (qEx:List qb),ev 115 0 [R.agg [dI x_many,dI x_credits,dB x_fine],R.agg [dI qcg,dI qEw,dI qgq,dL 2 qf qgr,dL 5 qh qEx]] []=some (rB (Qg (qV.mk x_many x_credits x_fine) (qb.mk qcg qEw qgq qgr qEx)),[]):=
 fun x_many x_credits x_fine qcg qEw qgq qgr qEx=>by
  have h:ev 115 0 [R.agg [dI x_many,dI x_credits,dB x_fine],R.agg [dI qcg,dI qEw,dI qgq,dL 2 qf qgr,dL 5 qh qEx]] []=(q0U (qV.mk x_many x_credits x_fine) (qb.mk qcg qEw qgq qgr qEx)).bind (fun(e:Bool)=>some (rB e,[])):=by
   rw[qF qr1 qAI.2.2.2 qHu]
   have:=qGy;have:=@q0U.eq_1;exact gA
  rw[q62] at h
  exact h
theorem qIF:okL 116 qe8:=qJ (qj qsv) (by kernel_rfl) (by kernel_rfl)
def qGE:=JA_ @qe8.eq_1 (JA_ @Tryz.f116.eq_1 @qsv)
def q2k (x:qV) (n:qb):Option Bool:=if x.fine=Bool.true then if 0<x.many then some (decide (n.N≤x.credits)) else some Bool.false else some Bool.false
def QV (x:qV) (n:qb):Bool:=if x.fine=Bool.true then if 0<x.many then decide (n.N≤x.credits) else Bool.false else Bool.false
theorem q8r (x:qV) (n:qb):q2k x n=some (QV x n):=by
 unfold q2k QV
 simp only[Zb]
theorem q4n:∀(x_many x_credits:Int) (x_fine:Bool) (qw n_N qQ:Int) (qR:List qe) (n_L:List qb),ev 116 0 [R.agg [dI x_many,dI x_credits,dB x_fine],R.agg [dI qw,dI n_N,dI qQ,dL 2 qf qR,dL 5 qh n_L]] []=some (rB (QV (qV.mk x_many x_credits x_fine) (qb.mk qw n_N qQ qR n_L)),[]):=
 fun x_many x_credits x_fine qw n_N qQ qR n_L=>by
  have h:ev 116 0 [R.agg [dI x_many,dI x_credits,dB x_fine],R.agg [dI qw,dI n_N,dI qQ,dL 2 qf qR,dL 5 qh n_L]] []=(q2k (qV.mk x_many x_credits x_fine) (qb.mk qw n_N qQ qR n_L)).bind (fun(e:Bool)=>some (rB e,[])):=by
   rw[qF qsv qDW.2.2.2 qIF]
   have:=qGE;have:=@q2k.eq_1;exact gA
  rw[q8r] at h
  exact h
def z8 (x:(qb×List qa×Int×qd)):List R×List (Nat×B):=([R.agg [C.d (D.int .i64 x.1.Kind),C.d (D.int .i64 x.1.N),C.d (D.int .i64 x.1.Min),C.d (D.sl 2 x.1.Set.length (x.1.Set.flatMap qf)),C.d (D.sl 5 x.1.L.length (x.1.L.flatMap qh))],R.c (C.ptr 0 0),R.c (C.ptr 1 0),R.c (C.ptr 2 0),R.c (C.ptr 3 0),R.c (C.ptr 4 0),R.c (C.ptr 5 0)],[(0,B.blk 30 [C.d (D.sl 8 x.2.1.length (x.2.1.flatMap qc))]),(1,B.blk 112 [C.fn 50 [] []]),(2,B.blk 3 [C.d (D.int .i64 x.2.2.1)]),(3,B.blk 44 [C.d (D.int .i64 x.2.2.2.Worst),C.d (D.int .i64 x.2.2.2.Best),C.d (D.int .i64 x.2.2.2.Pass)]),(4,B.blk 143 [C.fn 83 [] [C.ptr 0 0,C.ptr 1 0,C.ptr 2 0,C.ptr 3 0,C.ptr 4 0,C.ptr 5 0]]),(5,B.blk 112 [C.fn 51 [] []])])
def Q7:(List Bool×List qa×Int×qd)→R×List (Nat×B):=fun(e:List Bool×List qa×Int×qd)=>(R.c (C.d (D.sl 1 e.1.length (e.1.flatMap eB))),[(0,B.blk 30 [C.d (D.sl 8 e.2.1.length (e.2.1.flatMap qc))]),(1,B.blk 112 [C.fn 50 [] []]),(2,B.blk 3 [C.d (D.int .i64 e.2.2.1)]),(3,B.blk 44 [C.d (D.int .i64 e.2.2.2.Worst),C.d (D.int .i64 e.2.2.2.Best),C.d (D.int .i64 e.2.2.2.Pass)]),(4,B.blk 143 [C.fn 83 [] [C.ptr 0 0,C.ptr 1 0,C.ptr 2 0,C.ptr 3 0,C.ptr 4 0,C.ptr 5 0]]),(5,B.blk 112 [C.fn 51 [] []])])
def ZM (rF:(qb×List qa×Int×qd)→Option (List Bool×List qa×Int×qd)) (b0:List qa) (b2:Int) (b3:qd) (b6:qb):(List Bool×Int)→Option ((List Bool×Int)⊕(List Bool))|(w7,b8)=>if b8<((w7.length:Nat):Int) then Option.bind (q0y b6 b3 b0 b8) fun(a2:qV)=>if 0≤b8∧b8<((w7.length:Nat):Int) then if Int.toNat b8+1≤w7.length then some (Sum.inl (List.set w7 (Int.toNat b8) (Qg a2 b6),w64 (b8+1))) else none else none else some (Sum.inr w7)
theorem q6s (rE:Orc) (rF:(qb×List qa×Int×qd)→Option (List Bool×List qa×Int×qd)) (hF:∀y,rE (.fn 83) 6 (z8 y).1 (z8 y).2=(rF y).bind fun e=>some (Q7 e)) (hM:∀g k a G,g≠83→rE (.fn g) k a G=ev g k a G) (hR:∀g asg bd k a G,rE (.rd g asg bd) k a G=evr g asg bd k a G):∀(w7:List Bool) (b0:List qa) (b2 Qr Zf Zg ZZ qax q09:Int) (q0a:List qe) (qay:List qb) (b8:Int) (zp:Nat),zp=w7.length→XL2 rE 83 6 5 ⟨[(1,rP 0),(2,rP 1),(3,rP 2),(4,rP 3),(7,rP 6),(9,rO 7 1 zp),(10,R.c (C.fn 115 [] [])),(11,rP 8)],[(0,B.blk 30 [dL 8 qc b0]),(1,B.blk 112 [C.fn 50 [] []]),(2,B.blk 3 [dI b2]),(3,B.blk 44 [dI Qr,dI Zf,dI Zg]),(4,B.blk 143 [C.fn 83 [] [dP 0,dP 1,dP 2,dP 3,dP 4,dP 5]]),(5,B.blk 112 [C.fn 51 [] []]),(6,B.blk 34 [dI ZZ,dI qax,dI q09,dL 2 qf q0a,dL 5 qh qay]),(7,bR 4 1 eB w7),(8,B.blk 3 [dI b8])],9,142⟩=(zn (ZM rF b0 b2 (qd.mk Qr Zf Zg) (qb.mk ZZ qax q09 q0a qay)) (w7,b8)).bind (fun(e:List Bool)=>some (Exit.exit 0,⟨[(3,rP 2),(9,rO 6 1 e.length)],[(0,B.blk 30 [dL 8 qc b0]),(1,B.blk 112 [C.fn 50 [] []]),(2,B.blk 3 [dI b2]),(3,B.blk 44 [dI Qr,dI Zf,dI Zg]),(4,B.blk 143 [C.fn 83 [] [dP 0,dP 1,dP 2,dP 3,dP 4,dP 5]]),(5,B.blk 112 [C.fn 51 [] []]),(6,bR 4 1 eB e)],7,142⟩)):=
 by
 intro w7 b0 b2 Qr Zf Zg ZZ qax q09 q0a qay b8 zp h0
 subst h0
 revert b8;revert w7;exact qab qiM qkc (fun e=>by exact⟨_,rfl,fun h=>by cases h⟩) fun w7 b8=>by
  have hF':∀(qC JR za:Int) (zb:List qe) (JS:List qb) (v:List qa) (v2 qx qH qI:Int),rE (.fn 83) 6 [R.agg [dI qC,dI JR,dI za,dL 2 qf zb,dL 5 qh JS],rP 0,rP 1,rP 2,rP 3,rP 4,rP 5] [(0,B.blk 30 [dL 8 qc v]),(1,B.blk 112 [C.fn 50 [] []]),(2,B.blk 3 [dI v2]),(3,B.blk 44 [dI qx,dI qH,dI qI]),(4,B.blk 143 [C.fn 83 [] [dP 0,dP 1,dP 2,dP 3,dP 4,dP 5]]),(5,B.blk 112 [C.fn 51 [] []])]=(rF ((qb.mk qC JR za zb JS),v,v2,(qd.mk qx qH qI))).bind (fun e=>some (rL 1 eB e.1,[(0,B.blk 30 [dL 8 qc e.2.1]),(1,B.blk 112 [C.fn 50 [] []]),(2,B.blk 3 [dI e.2.2.1]),(3,B.blk 44 [dI e.2.2.2.Worst,dI e.2.2.2.Best,dI e.2.2.2.Pass]),(4,B.blk 143 [C.fn 83 [] [dP 0,dP 1,dP 2,dP 3,dP 4,dP 5]]),(5,B.blk 112 [C.fn 51 [] []])])):=fun qC JR za zb JS v v2 qx qH qI=>hF ((qb.mk qC JR za zb JS),v,v2,(qd.mk qx qH qI))
  have:=qjg;have:=@qdh.eq_1;have:=@q68;have:=@q2b;have:=@q2L;have:=@ZM.eq_1;exact gA
def ZL (rF:(qb×List qa×Int×qd)→Option (List Bool×List qa×Int×qd)) (b0:List qa) (b2:Int) (b3:qd) (b6:qb):(List Bool×Int)→Option ((List Bool×Int)⊕(List Bool))|(w7,b8)=>if b8<((w7.length:Nat):Int) then Option.bind (q0y b6 b3 b0 b8) fun(a2:qV)=>if 0≤b8∧b8<((w7.length:Nat):Int) then if Int.toNat b8+1≤w7.length then some (Sum.inl (List.set w7 (Int.toNat b8) (QV a2 b6),w64 (b8+1))) else none else none else some (Sum.inr w7)
theorem q5R (rE:Orc) (rF:(qb×List qa×Int×qd)→Option (List Bool×List qa×Int×qd)) (hF:∀y,rE (.fn 83) 6 (z8 y).1 (z8 y).2=(rF y).bind fun e=>some (Q7 e)) (hM:∀g k a G,g≠83→rE (.fn g) k a G=ev g k a G) (hR:∀g asg bd k a G,rE (.rd g asg bd) k a G=evr g asg bd k a G):∀(w7:List Bool) (b0:List qa) (b2 Qr Zf Zg ZZ qax q09:Int) (q0a:List qe) (qay:List qb) (b8:Int) (zp:Nat),zp=w7.length→XL2 rE 83 6 5 ⟨[(1,rP 0),(2,rP 1),(3,rP 2),(4,rP 3),(7,rP 6),(9,rO 7 1 zp),(10,R.c (C.fn 116 [] [])),(11,rP 8)],[(0,B.blk 30 [dL 8 qc b0]),(1,B.blk 112 [C.fn 50 [] []]),(2,B.blk 3 [dI b2]),(3,B.blk 44 [dI Qr,dI Zf,dI Zg]),(4,B.blk 143 [C.fn 83 [] [dP 0,dP 1,dP 2,dP 3,dP 4,dP 5]]),(5,B.blk 112 [C.fn 51 [] []]),(6,B.blk 34 [dI ZZ,dI qax,dI q09,dL 2 qf q0a,dL 5 qh qay]),(7,bR 4 1 eB w7),(8,B.blk 3 [dI b8])],9,142⟩=(zn (ZL rF b0 b2 (qd.mk Qr Zf Zg) (qb.mk ZZ qax q09 q0a qay)) (w7,b8)).bind (fun(e:List Bool)=>some (Exit.exit 0,⟨[(3,rP 2),(9,rO 6 1 e.length)],[(0,B.blk 30 [dL 8 qc b0]),(1,B.blk 112 [C.fn 50 [] []]),(2,B.blk 3 [dI b2]),(3,B.blk 44 [dI Qr,dI Zf,dI Zg]),(4,B.blk 143 [C.fn 83 [] [dP 0,dP 1,dP 2,dP 3,dP 4,dP 5]]),(5,B.blk 112 [C.fn 51 [] []]),(6,bR 4 1 eB e)],7,142⟩)):=
 by
 intro w7 b0 b2 Qr Zf Zg ZZ qax q09 q0a qay b8 zp h0
 subst h0
 revert b8;revert w7;exact qab qiM qkc (fun e=>by exact⟨_,rfl,fun h=>by cases h⟩) fun w7 b8=>by
  have hF':∀(qC JR za:Int) (zb:List qe) (JS:List qb) (v:List qa) (v2 qx qH qI:Int),rE (.fn 83) 6 [R.agg [dI qC,dI JR,dI za,dL 2 qf zb,dL 5 qh JS],rP 0,rP 1,rP 2,rP 3,rP 4,rP 5] [(0,B.blk 30 [dL 8 qc v]),(1,B.blk 112 [C.fn 50 [] []]),(2,B.blk 3 [dI v2]),(3,B.blk 44 [dI qx,dI qH,dI qI]),(4,B.blk 143 [C.fn 83 [] [dP 0,dP 1,dP 2,dP 3,dP 4,dP 5]]),(5,B.blk 112 [C.fn 51 [] []])]=(rF ((qb.mk qC JR za zb JS),v,v2,(qd.mk qx qH qI))).bind (fun e=>some (rL 1 eB e.1,[(0,B.blk 30 [dL 8 qc e.2.1]),(1,B.blk 112 [C.fn 50 [] []]),(2,B.blk 3 [dI e.2.2.1]),(3,B.blk 44 [dI e.2.2.2.Worst,dI e.2.2.2.Best,dI e.2.2.2.Pass]),(4,B.blk 143 [C.fn 83 [] [dP 0,dP 1,dP 2,dP 3,dP 4,dP 5]]),(5,B.blk 112 [C.fn 51 [] []])])):=fun qC JR za zb JS v v2 qx qH qI=>hF ((qb.mk qC JR za zb JS),v,v2,(qd.mk qx qH qI))
  have:=qjg;have:=@qdh.eq_1;have:=@q68;have:=@q2b;have:=@q4n;have:=@ZL.eq_1;exact gA
def QY (rF:(qb×List qa×Int×qd)→Option (List Bool×List qa×Int×qd)) (w7:List Bool) (b0:List qa) (b2:Int) (b3:qd) (b6:qb):(List Int×Int)→Option ((List Int×Int)⊕(List Int))|(w9,t13)=>if t13<((w9.length:Nat):Int) then if 0≤t13∧t13<((w9.length:Nat):Int) then if Int.toNat t13+1≤w9.length then some (Sum.inl (List.set w9 (Int.toNat t13) (-1),w64 (t13+1))) else none else none else some (Sum.inr w9)
theorem q5u (rE:Orc) (rF:(qb×List qa×Int×qd)→Option (List Bool×List qa×Int×qd)) (hF:∀y,rE (.fn 83) 6 (z8 y).1 (z8 y).2=(rF y).bind fun e=>some (Q7 e)) (hM:∀g k a G,g≠83→rE (.fn g) k a G=ev g k a G) (hR:∀g asg bd k a G,rE (.rd g asg bd) k a G=evr g asg bd k a G):∀(w7:List Bool) (w9:List Int) (b0:List qa) (b2 Qr Zf Zg ZZ qax q09:Int) (q0a:List qe) (qay:List qb) (t13:Int) (zp Jj:Nat),zp=w7.length→Jj=w9.length→XL2 rE 83 6 14 ⟨[(3,rP 2),(5,rP 4),(6,rP 5),(7,rP 6),(9,rO 7 1 zp),(12,rP 8),(13,rI t13)],[(0,B.blk 30 [dL 8 qc b0]),(1,B.blk 112 [C.fn 50 [] []]),(2,B.blk 3 [dI b2]),(3,B.blk 44 [dI Qr,dI Zf,dI Zg]),(4,B.blk 143 [C.fn 83 [] [dP 0,dP 1,dP 2,dP 3,dP 4,dP 5]]),(5,B.blk 112 [C.fn 51 [] []]),(6,B.blk 34 [dI ZZ,dI qax,dI q09,dL 2 qf q0a,dL 5 qh qay]),(7,bR 4 1 eB w7),(8,B.blk 150 [dO 9 1 Jj]),(9,bR 3 1 eI w9)],10,142⟩=(zn (QY rF w7 b0 b2 (qd.mk Qr Zf Zg) (qb.mk ZZ qax q09 q0a qay)) (w9,t13)).bind (fun(e:List Int)=>some (Exit.exit 2,⟨[(3,rP 2),(5,rP 4),(6,rP 5),(7,rP 6),(9,rO 7 1 w7.length),(12,rP 8)],[(0,B.blk 30 [dL 8 qc b0]),(1,B.blk 112 [C.fn 50 [] []]),(2,B.blk 3 [dI b2]),(3,B.blk 44 [dI Qr,dI Zf,dI Zg]),(4,B.blk 143 [C.fn 83 [] [dP 0,dP 1,dP 2,dP 3,dP 4,dP 5]]),(5,B.blk 112 [C.fn 51 [] []]),(6,B.blk 34 [dI ZZ,dI qax,dI q09,dL 2 qf q0a,dL 5 qh qay]),(7,bR 4 1 eB w7),(8,B.blk 150 [dO 9 1 e.length]),(9,bR 3 1 eI e)],10,142⟩)):=
 by
 intro w7 w9 b0 b2 Qr Zf Zg ZZ qax q09 q0a qay t13 zp Jj h0 h1
 subst h0 h1
 revert t13;revert w9;exact qab qmQ qnB (fun e=>by exact⟨_,rfl,fun h=>by cases h⟩) fun w9 t13=>by
  have hF':∀(qC JR za:Int) (zb:List qe) (JS:List qb) (v:List qa) (v2 qx qH qI:Int),rE (.fn 83) 6 [R.agg [dI qC,dI JR,dI za,dL 2 qf zb,dL 5 qh JS],rP 0,rP 1,rP 2,rP 3,rP 4,rP 5] [(0,B.blk 30 [dL 8 qc v]),(1,B.blk 112 [C.fn 50 [] []]),(2,B.blk 3 [dI v2]),(3,B.blk 44 [dI qx,dI qH,dI qI]),(4,B.blk 143 [C.fn 83 [] [dP 0,dP 1,dP 2,dP 3,dP 4,dP 5]]),(5,B.blk 112 [C.fn 51 [] []])]=(rF ((qb.mk qC JR za zb JS),v,v2,(qd.mk qx qH qI))).bind (fun e=>some (rL 1 eB e.1,[(0,B.blk 30 [dL 8 qc e.2.1]),(1,B.blk 112 [C.fn 50 [] []]),(2,B.blk 3 [dI e.2.2.1]),(3,B.blk 44 [dI e.2.2.2.Worst,dI e.2.2.2.Best,dI e.2.2.2.Pass]),(4,B.blk 143 [C.fn 83 [] [dP 0,dP 1,dP 2,dP 3,dP 4,dP 5]]),(5,B.blk 112 [C.fn 51 [] []])])):=fun qC JR za zb JS v v2 qx qH qI=>hF ((qb.mk qC JR za zb JS),v,v2,(qd.mk qx qH qI))
  have:=qjg;have:=@qdR.eq_1;have:=@QY.eq_1;exact gA
theorem qOc:okL 51 qjm:=qJ (qj qFj) (by kernel_rfl) (by kernel_rfl)
def qPL:=JA_ @qjm.eq_1 (JA_ @Tryz.f51.eq_1 @qFj)
def q3S (x0:Int) (x1:Int):Option Unit:=
 some ()
def q78 (x0:Int) (x1:Int):Unit:=
 ()
theorem qam (x0 x1:Int):q3S x0 x1=some (q78 x0 x1):=by
 unfold q3S q78
 simp only[Zb]
theorem qbG:∀(x0 x1:Int),ev 51 0 [rI x0,rI x1] []=some (rB Bool.false,[]):=
 fun x0 x1=>by
  have h:ev 51 0 [rI x0,rI x1] []=(q3S x0 x1).bind (fun(e:Unit)=>some (rB Bool.false,[])):=by
   rw[qF qFj qLl.2.2.2 qOc]
   have:=qPL;have:=@q3S.eq_1;exact gA
  rw[qam] at h
  exact h
theorem qKl:okL 88 qfC:=qJ (qj qCR) (by kernel_rfl) (by kernel_rfl)
def qLj:=JA_ @qfC.eq_1 (JA_ @Tryz.f88.eq_1 @qCR)
theorem qBa:lbO 88 1=qm5:=Qt (qj qCR) rfl
theorem qAg:okL 88 qm5:=zI qKl (qQy (i:=0) (by kernel_rfl))
theorem qMd:okL 89 qiz:=qJ (qj qF4) (by kernel_rfl) (by kernel_rfl)
def qNk:=JA_ @qiz.eq_1 (JA_ @Tryz.f89.eq_1 @qF4)
def q0z (sub:Int) (rest:Int) (w4:List Int) (w5:List Int) (v:List Bool) (v2:Int):Option (List Int):=if 0≤sub∧sub<((v.length:Nat):Int) then Option.bind v[Int.toNat sub]? fun(a:Bool)=>if a=Bool.true then if 0≤rest∧rest<((w4.length:Nat):Int) then Option.bind w4[Int.toNat rest]? fun(a2:Int)=>if 0≤a2 then if 0≤v2∧v2<((w5.length:Nat):Int) then Option.bind w5[Int.toNat v2]? fun(a3:Int)=>if 0≤rest∧rest<((w4.length:Nat):Int) then Option.bind w4[Int.toNat rest]? fun(a4:Int)=>if 0≤v2∧v2<((w5.length:Nat):Int) then if Int.toNat v2+1≤w5.length then some (List.set w5 (Int.toNat v2) (max a3 (w64 (a4+1)))) else none else none else none else none else some w5 else none else some w5 else none
theorem q7L:∀(sub rest:Int) (w4 w5:List Int) (v:List Bool) (v2:Int) (Ze q6u:Nat),Ze=w4.length→q6u=w5.length→ev 89 4 [rI sub,rI rest,rP 0,rP 1,rP 2,rP 3] [(0,B.blk 113 [dL 1 eB v]),(1,B.blk 150 [dO 4 1 Ze]),(2,B.blk 150 [dO 5 1 q6u]),(3,B.blk 3 [dI v2]),(4,bR 3 1 eI w4),(5,bR 3 1 eI w5)]=(q0z sub rest w4 w5 v v2).bind (fun(e:List Int)=>some (R.tup [],[(0,B.blk 113 [dL 1 eB v]),(1,B.blk 150 [dO 4 1 w4.length]),(2,B.blk 150 [dO 5 1 e.length]),(3,B.blk 3 [dI v2]),(4,bR 3 1 eI w4),(5,bR 3 1 eI e)])):=
 by
 intro sub rest w4 w5 v v2 Ze q6u h0 h1
 subst h0 h1
 rw[qF qF4 qLR.2.2.2 qMd]
 have:=qNk;have:=@q0z.eq_1;exact gA
def zW (w4:List Int) (b0:List Bool) (b3:Int) (set0:Int):(List Int×Int)→Option ((List Int×Int)⊕(List Int))|(w5,sub)=>if 0<sub then Option.bind (q0z sub (Zq Go.BinOp.andNot IntKind.i64 set0 sub) w4 w5 b0 b3) fun(a:List Int)=>some (Sum.inl (a,Zq Go.BinOp.and IntKind.i64 (w64 (sub-1)) set0)) else some (Sum.inr w5)
theorem q3E:∀(w4 w5:List Int) (b0:List Bool) (b3 set0 sub:Int) (Ze q6u:Nat),Ze=w4.length→q6u=w5.length→XL2 evo 88 4 1 ⟨[(1,rI set0),(2,R.c (C.fn 89 [] [dP 0,dP 1,dP 2,dP 3])),(6,rI sub)],[(0,B.blk 113 [dL 1 eB b0]),(1,B.blk 150 [dO 4 1 Ze]),(2,B.blk 150 [dO 5 1 q6u]),(3,B.blk 3 [dI b3]),(4,bR 3 1 eI w4),(5,bR 3 1 eI w5)],6,20⟩=(zn (zW w4 b0 b3 set0) (w5,sub)).bind (fun(e:List Int)=>some (Exit.exit 0,⟨[],[(0,B.blk 113 [dL 1 eB b0]),(1,B.blk 150 [dO 4 1 w4.length]),(2,B.blk 150 [dO 5 1 e.length]),(3,B.blk 3 [dI b3]),(4,bR 3 1 eI w4),(5,bR 3 1 eI e)],6,20⟩)):=
 by
 intro w4 w5 b0 b3 set0 sub Ze q6u h0 h1
 subst h0 h1
 revert sub;revert w5;exact qab qBa qAg (fun e=>by exact⟨_,rfl,fun h=>by cases h⟩) fun w5 sub=>by
  have:=qLj;have:=@qm5.eq_1;have:=@q7L;have:=@zW.eq_1;exact gA
def zO (set0:Int) (t:List Int) (w5:List Int) (b0:List Bool) (b3:Int):Option (List Int):=Option.bind (zn (zW t b0 b3 set0) (w5,set0)) fun(a:List Int)=>some a
theorem q1G:∀(set0:Int) (t w5:List Int) (b0:List Bool) (b3:Int) (qt6 q6u:Nat),qt6=t.length→q6u=w5.length→ev 88 4 [rO 4 1 qt6,rI set0,R.c (C.fn 89 [] [dP 0,dP 1,dP 2,dP 3])] [(0,B.blk 113 [dL 1 eB b0]),(1,B.blk 150 [dO 4 1 qt6]),(2,B.blk 150 [dO 5 1 q6u]),(3,B.blk 3 [dI b3]),(4,bR 3 1 eI t),(5,bR 3 1 eI w5)]=(zO set0 t w5 b0 b3).bind (fun(e:List Int)=>some (R.tup [],[(0,B.blk 113 [dL 1 eB b0]),(1,B.blk 150 [dO 4 1 t.length]),(2,B.blk 150 [dO 5 1 e.length]),(3,B.blk 3 [dI b3]),(4,bR 3 1 eI t),(5,bR 3 1 eI e)])):=
 by
 intro set0 t w5 b0 b3 qt6 q6u h0 h1
 subst h0 h1
 rw[qF qCR qLu.2.2.2 qKl]
 have:=qLj;have:=@q3E;have:=@zO.eq_1;exact gA
def Z8 (rF:(qb×List qa×Int×qd)→Option (List Bool×List qa×Int×qd)) (w7:List Bool) (w9:List Int) (b0:List qa) (b2:Int) (b3:qd) (b6:qb) (b10:List Bool) (t18:Bool) (t72:List qb) (t73:Int) (t74:Int) (t96:Int):(List Int×Int)→Option ((List Int×Int)⊕(List Int))|(w12,t97)=>if t97<t96 then if 0≤t97∧t97<((w12.length:Nat):Int) then if Int.toNat t97+1≤w12.length then if t18=Bool.true then if 0≤t97∧t97<((w9.length:Nat):Int) then Option.bind w9[Int.toNat t97]? fun(a2:Int)=>if 0≤t97∧t97<((w12.length:Nat):Int) then if Int.toNat t97+1≤w12.length then Option.bind (zO t97 w9 (List.set (List.set w12 (Int.toNat t97) (-1)) (Int.toNat t97) a2) b10 t97) fun(a3:List Int)=>some (Sum.inl (a3,w64 (t97+1))) else none else none else none else Option.bind (zO t97 w9 (List.set w12 (Int.toNat t97) (-1)) b10 t97) fun(a4:List Int)=>some (Sum.inl (a4,w64 (t97+1))) else none else none else some (Sum.inr w12)
theorem q6Y (rE:Orc) (rF:(qb×List qa×Int×qd)→Option (List Bool×List qa×Int×qd)) (hF:∀y,rE (.fn 83) 6 (z8 y).1 (z8 y).2=(rF y).bind fun e=>some (Q7 e)) (hM:∀g k a G,g≠83→rE (.fn g) k a G=ev g k a G) (hR:∀g asg bd k a G,rE (.rd g asg bd) k a G=evr g asg bd k a G):∀(w7:List Bool) (w9 w12:List Int) (b0:List qa) (b2 Qr Zf Zg ZZ qax q09:Int) (q0a:List qe) (qay:List qb) (b10:List Bool) (t18:Bool) (t72:List qb) (t73 t74 t96 t97:Int) (zp Jj qi4:Nat),zp=w7.length→Jj=w9.length→qi4=w12.length→XL2 rE 83 6 25 ⟨[(3,rP 2),(5,rP 4),(6,rP 5),(7,rP 6),(9,rO 7 1 zp),(12,rP 8),(17,rP 10),(18,rB t18),(19,rP 11),(72,rL 5 qh t72),(73,rI t73),(74,rI t74),(96,rI t96),(97,rI t97)],[(0,B.blk 30 [dL 8 qc b0]),(1,B.blk 112 [C.fn 50 [] []]),(2,B.blk 3 [dI b2]),(3,B.blk 44 [dI Qr,dI Zf,dI Zg]),(4,B.blk 143 [C.fn 83 [] [dP 0,dP 1,dP 2,dP 3,dP 4,dP 5]]),(5,B.blk 112 [C.fn 51 [] []]),(6,B.blk 34 [dI ZZ,dI qax,dI q09,dL 2 qf q0a,dL 5 qh qay]),(7,bR 4 1 eB w7),(8,B.blk 150 [dO 9 1 Jj]),(9,bR 3 1 eI w9),(10,B.blk 113 [dL 1 eB b10]),(11,B.blk 150 [dO 12 1 qi4]),(12,bR 3 1 eI w12)],13,142⟩=(zn (Z8 rF w7 w9 b0 b2 (qd.mk Qr Zf Zg) (qb.mk ZZ qax q09 q0a qay) b10 t18 t72 t73 t74 t96) (w12,t97)).bind (fun(e:List Int)=>some (Exit.exit 6,⟨[(3,rP 2),(5,rP 4),(6,rP 5),(7,rP 6),(9,rO 7 1 w7.length),(12,rP 8),(19,rP 10),(72,rL 5 qh t72),(73,rI t73),(74,rI t74)],[(0,B.blk 30 [dL 8 qc b0]),(1,B.blk 112 [C.fn 50 [] []]),(2,B.blk 3 [dI b2]),(3,B.blk 44 [dI Qr,dI Zf,dI Zg]),(4,B.blk 143 [C.fn 83 [] [dP 0,dP 1,dP 2,dP 3,dP 4,dP 5]]),(5,B.blk 112 [C.fn 51 [] []]),(6,B.blk 34 [dI ZZ,dI qax,dI q09,dL 2 qf q0a,dL 5 qh qay]),(7,bR 4 1 eB w7),(8,B.blk 150 [dO 9 1 w9.length]),(9,bR 3 1 eI w9),(10,B.blk 150 [dO 11 1 e.length]),(11,bR 3 1 eI e)],12,142⟩)):=
 by
 intro w7 w9 w12 b0 b2 Qr Zf Zg ZZ qax q09 q0a qay b10 t18 t72 t73 t74 t96 t97 zp Jj qi4 h0 h1 h2
 subst h0 h1 h2
 revert t97;revert w12;exact qab qll qnz (fun e=>by exact⟨_,rfl,fun h=>by cases h⟩) fun w12 t97=>by
  have hF':∀(qC JR za:Int) (zb:List qe) (JS:List qb) (v:List qa) (v2 qx qH qI:Int),rE (.fn 83) 6 [R.agg [dI qC,dI JR,dI za,dL 2 qf zb,dL 5 qh JS],rP 0,rP 1,rP 2,rP 3,rP 4,rP 5] [(0,B.blk 30 [dL 8 qc v]),(1,B.blk 112 [C.fn 50 [] []]),(2,B.blk 3 [dI v2]),(3,B.blk 44 [dI qx,dI qH,dI qI]),(4,B.blk 143 [C.fn 83 [] [dP 0,dP 1,dP 2,dP 3,dP 4,dP 5]]),(5,B.blk 112 [C.fn 51 [] []])]=(rF ((qb.mk qC JR za zb JS),v,v2,(qd.mk qx qH qI))).bind (fun e=>some (rL 1 eB e.1,[(0,B.blk 30 [dL 8 qc e.2.1]),(1,B.blk 112 [C.fn 50 [] []]),(2,B.blk 3 [dI e.2.2.1]),(3,B.blk 44 [dI e.2.2.2.Worst,dI e.2.2.2.Best,dI e.2.2.2.Pass]),(4,B.blk 143 [C.fn 83 [] [dP 0,dP 1,dP 2,dP 3,dP 4,dP 5]]),(5,B.blk 112 [C.fn 51 [] []])])):=fun qC JR za zb JS v v2 qx qH qI=>hF ((qb.mk qC JR za zb JS),v,v2,(qd.mk qx qH qI))
  have:=qjg;have:=@qe9.eq_1;have:=@q1G;have:=@Z8.eq_1;exact gA
def Z3 (rF:(qb×List qa×Int×qd)→Option (List Bool×List qa×Int×qd)) (w7:List Bool) (b6:qb) (t72:List qb) (t73:Int):(List Int×List qa×Int×qd×Int)→Option ((List Int×List qa×Int×qd×Int)⊕(List Int×List qa×Int×qd))|(w9,b0,b2,b3,t74)=>if t74<t73 then if 0≤t74∧t74<((t72.length:Nat):Int) then Option.bind t72[Int.toNat t74]? fun(a2:qb)=>Option.bind (rF (a2,(b0,(b2,b3)))) fun(a3:Prod (List Bool) (Prod (List qa) (Prod Int qd)))=>if(b6.Kind==4)=Bool.true then if 0≤((w9.length:Nat):Int)∧8*((w9.length:Nat):Int)≤281474976710656∧((w9.length:Nat):Int)≤9223372036854775807 then Option.bind (zn (Z8 rF w7 w9 a3.2.1 a3.2.2.1 a3.2.2.2 b6 a3.1 Bool.true t72 t73 t74 ((w9.length:Nat):Int)) (List.replicate w9.length 0,0)) fun(a4:List Int)=>some (Sum.inl (a4,a3.2.1,a3.2.2.1,a3.2.2.2,w64 (t74+1))) else none else if 0≤((w9.length:Nat):Int)∧8*((w9.length:Nat):Int)≤281474976710656∧((w9.length:Nat):Int)≤9223372036854775807 then Option.bind (zn (Z8 rF w7 w9 a3.2.1 a3.2.2.1 a3.2.2.2 b6 a3.1 Bool.false t72 t73 t74 ((w9.length:Nat):Int)) (List.replicate w9.length 0,0)) fun(a5:List Int)=>some (Sum.inl (a5,a3.2.1,a3.2.2.1,a3.2.2.2,w64 (t74+1))) else none else none else some (Sum.inr (w9,b0,b2,b3))
theorem q6P (rE:Orc) (rF:(qb×List qa×Int×qd)→Option (List Bool×List qa×Int×qd)) (hF:∀y,rE (.fn 83) 6 (z8 y).1 (z8 y).2=(rF y).bind fun e=>some (Q7 e)) (hM:∀g k a G,g≠83→rE (.fn g) k a G=ev g k a G) (hR:∀g asg bd k a G,rE (.rd g asg bd) k a G=evr g asg bd k a G):∀(w7:List Bool) (w9:List Int) (b0:List qa) (b2 Qr Zf Zg ZZ qax q09:Int) (q0a:List qe) (qay t72:List qb) (t73 t74:Int) (zp Jj:Nat),zp=w7.length→Jj=w9.length→XL2 rE 83 6 18 ⟨[(3,rP 2),(5,rP 4),(6,rP 5),(7,rP 6),(9,rO 7 1 zp),(12,rP 8),(72,rL 5 qh t72),(73,rI t73),(74,rI t74)],[(0,B.blk 30 [dL 8 qc b0]),(1,B.blk 112 [C.fn 50 [] []]),(2,B.blk 3 [dI b2]),(3,B.blk 44 [dI Qr,dI Zf,dI Zg]),(4,B.blk 143 [C.fn 83 [] [dP 0,dP 1,dP 2,dP 3,dP 4,dP 5]]),(5,B.blk 112 [C.fn 51 [] []]),(6,B.blk 34 [dI ZZ,dI qax,dI q09,dL 2 qf q0a,dL 5 qh qay]),(7,bR 4 1 eB w7),(8,B.blk 150 [dO 9 1 Jj]),(9,bR 3 1 eI w9)],10,142⟩=(zn (Z3 rF w7 (qb.mk ZZ qax q09 q0a qay) t72 t73) (w9,b0,b2,(qd.mk Qr Zf Zg),t74)).bind (fun(e:List Int×List qa×Int×qd)=>some (Exit.exit 4,⟨[(7,rP 6),(9,rO 7 1 w7.length),(12,rP 8)],[(0,B.blk 30 [dL 8 qc e.2.1]),(1,B.blk 112 [C.fn 50 [] []]),(2,B.blk 3 [dI e.2.2.1]),(3,B.blk 44 [dI e.2.2.2.Worst,dI e.2.2.2.Best,dI e.2.2.2.Pass]),(4,B.blk 143 [C.fn 83 [] [dP 0,dP 1,dP 2,dP 3,dP 4,dP 5]]),(5,B.blk 112 [C.fn 51 [] []]),(6,B.blk 34 [dI ZZ,dI qax,dI q09,dL 2 qf q0a,dL 5 qh qay]),(7,bR 4 1 eB w7),(8,B.blk 150 [dO 9 1 e.1.length]),(9,bR 3 1 eI e.1)],10,142⟩)):=
 by
 intro w7 w9 b0 b2 Qr Zf Zg ZZ qax q09 q0a qay t72 t73 t74 zp Jj h0 h1
 subst h0 h1
 have h:=q9C (E:=rE) (f:=83) (k:=6) (st:=fun x:List Int×List qa×Int×qd×Int=>(⟨[(3,rP 2),(5,rP 4),(6,rP 5),(7,rP 6),(9,rO 7 1 w7.length),(12,rP 8),(72,rL 5 qh t72),(73,rI t73),(74,rI x.2.2.2.2)],[(0,B.blk 30 [dL 8 qc x.2.1]),(1,B.blk 112 [C.fn 50 [] []]),(2,B.blk 3 [dI x.2.2.1]),(3,B.blk 44 [dI x.2.2.2.1.Worst,dI x.2.2.2.1.Best,dI x.2.2.2.1.Pass]),(4,B.blk 143 [C.fn 83 [] [dP 0,dP 1,dP 2,dP 3,dP 4,dP 5]]),(5,B.blk 112 [C.fn 51 [] []]),(6,B.blk 34 [dI ZZ,dI qax,dI q09,dL 2 qf q0a,dL 5 qh qay]),(7,bR 4 1 eB w7),(8,B.blk 150 [dO 9 1 x.1.length]),(9,bR 3 1 eI x.1)],10,142⟩:S)) (ex:=fun(e:List Int×List qa×Int×qd)=>(Exit.exit 4,⟨[(7,rP 6),(9,rO 7 1 w7.length),(12,rP 8)],[(0,B.blk 30 [dL 8 qc e.2.1]),(1,B.blk 112 [C.fn 50 [] []]),(2,B.blk 3 [dI e.2.2.1]),(3,B.blk 44 [dI e.2.2.2.Worst,dI e.2.2.2.Best,dI e.2.2.2.Pass]),(4,B.blk 143 [C.fn 83 [] [dP 0,dP 1,dP 2,dP 3,dP 4,dP 5]]),(5,B.blk 112 [C.fn 51 [] []]),(6,B.blk 34 [dI ZZ,dI qax,dI q09,dL 2 qf q0a,dL 5 qh qay]),(7,bR 4 1 eB w7),(8,B.blk 150 [dO 9 1 e.1.length]),(9,bR 3 1 eI e.1)],10,142⟩)) (step:=(Z3 rF w7 (qb.mk ZZ qax q09 q0a qay) t72 t73)) qlq qob (fun e h=>by cases h) (fun x=>by
  obtain⟨w9,b0,b2,b3,t74⟩:=x;have hF':∀(qC JR za:Int) (zb:List qe) (JS:List qb) (v:List qa) (v2 qx qH qI:Int),rE (.fn 83) 6 [R.agg [dI qC,dI JR,dI za,dL 2 qf zb,dL 5 qh JS],rP 0,rP 1,rP 2,rP 3,rP 4,rP 5] [(0,B.blk 30 [dL 8 qc v]),(1,B.blk 112 [C.fn 50 [] []]),(2,B.blk 3 [dI v2]),(3,B.blk 44 [dI qx,dI qH,dI qI]),(4,B.blk 143 [C.fn 83 [] [dP 0,dP 1,dP 2,dP 3,dP 4,dP 5]]),(5,B.blk 112 [C.fn 51 [] []])]=(rF ((qb.mk qC JR za zb JS),v,v2,(qd.mk qx qH qI))).bind (fun e=>some (rL 1 eB e.1,[(0,B.blk 30 [dL 8 qc e.2.1]),(1,B.blk 112 [C.fn 50 [] []]),(2,B.blk 3 [dI e.2.2.1]),(3,B.blk 44 [dI e.2.2.2.Worst,dI e.2.2.2.Best,dI e.2.2.2.Pass]),(4,B.blk 143 [C.fn 83 [] [dP 0,dP 1,dP 2,dP 3,dP 4,dP 5]]),(5,B.blk 112 [C.fn 51 [] []])])):=fun qC JR za zb JS v v2 qx qH qI=>hF ((qb.mk qC JR za zb JS),v,v2,(qd.mk qx qH qI))
  have:=qjg;have:=@qeg.eq_1;have:=@qbG;have:=q6Y rE rF hF hM hR;have:=@Z3.eq_1;exact gA) (w9,b0,b2,(qd.mk Qr Zf Zg),t74)
 exact h
def Z6 (rF:(qb×List qa×Int×qd)→Option (List Bool×List qa×Int×qd)) (w8:List Int) (b0:List qa) (b2:Int) (b3:qd) (t21:Int):(List Bool×Int)→Option ((List Bool×Int)⊕(List Bool))|(w6,t22)=>if t22<((w6.length:Nat):Int) then if 0≤t22∧t22<((w8.length:Nat):Int) then Option.bind w8[Int.toNat t22]? fun(a2:Int)=>if 0≤t22∧t22<((w6.length:Nat):Int) then if Int.toNat t22+1≤w6.length then some (Sum.inl (List.set w6 (Int.toNat t22) (decide (t21≤a2)),w64 (t22+1))) else none else none else none else some (Sum.inr w6)
theorem q6Q (rE:Orc) (rF:(qb×List qa×Int×qd)→Option (List Bool×List qa×Int×qd)) (hF:∀y,rE (.fn 83) 6 (z8 y).1 (z8 y).2=(rF y).bind fun e=>some (Q7 e)) (hM:∀g k a G,g≠83→rE (.fn g) k a G=ev g k a G) (hR:∀g asg bd k a G,rE (.rd g asg bd) k a G=evr g asg bd k a G):∀(w6:List Bool) (w8:List Int) (b0:List qa) (b2 Qr Zf Zg t21 t22:Int) (qcf qch:Nat),qcf=w6.length→qch=w8.length→XL2 rE 83 6 38 ⟨[(9,rO 6 1 qcf),(12,rP 7),(21,rI t21),(22,rI t22)],[(0,B.blk 30 [dL 8 qc b0]),(1,B.blk 112 [C.fn 50 [] []]),(2,B.blk 3 [dI b2]),(3,B.blk 44 [dI Qr,dI Zf,dI Zg]),(4,B.blk 143 [C.fn 83 [] [dP 0,dP 1,dP 2,dP 3,dP 4,dP 5]]),(5,B.blk 112 [C.fn 51 [] []]),(6,bR 4 1 eB w6),(7,B.blk 150 [dO 8 1 qch]),(8,bR 3 1 eI w8)],9,142⟩=(zn (Z6 rF w8 b0 b2 (qd.mk Qr Zf Zg) t21) (w6,t22)).bind (fun(e:List Bool)=>some (Exit.exit 8,⟨[(9,rO 6 1 e.length)],[(0,B.blk 30 [dL 8 qc b0]),(1,B.blk 112 [C.fn 50 [] []]),(2,B.blk 3 [dI b2]),(3,B.blk 44 [dI Qr,dI Zf,dI Zg]),(4,B.blk 143 [C.fn 83 [] [dP 0,dP 1,dP 2,dP 3,dP 4,dP 5]]),(5,B.blk 112 [C.fn 51 [] []]),(6,bR 4 1 eB e)],7,142⟩)):=
 by
 intro w6 w8 b0 b2 Qr Zf Zg t21 t22 qcf qch h0 h1
 subst h0 h1
 revert t22;revert w6;exact qab qlQ qnZ (fun e=>by exact⟨_,rfl,fun h=>by cases h⟩) fun w6 t22=>by
  have hF':∀(qC JR za:Int) (zb:List qe) (JS:List qb) (v:List qa) (v2 qx qH qI:Int),rE (.fn 83) 6 [R.agg [dI qC,dI JR,dI za,dL 2 qf zb,dL 5 qh JS],rP 0,rP 1,rP 2,rP 3,rP 4,rP 5] [(0,B.blk 30 [dL 8 qc v]),(1,B.blk 112 [C.fn 50 [] []]),(2,B.blk 3 [dI v2]),(3,B.blk 44 [dI qx,dI qH,dI qI]),(4,B.blk 143 [C.fn 83 [] [dP 0,dP 1,dP 2,dP 3,dP 4,dP 5]]),(5,B.blk 112 [C.fn 51 [] []])]=(rF ((qb.mk qC JR za zb JS),v,v2,(qd.mk qx qH qI))).bind (fun e=>some (rL 1 eB e.1,[(0,B.blk 30 [dL 8 qc e.2.1]),(1,B.blk 112 [C.fn 50 [] []]),(2,B.blk 3 [dI e.2.2.1]),(3,B.blk 44 [dI e.2.2.2.Worst,dI e.2.2.2.Best,dI e.2.2.2.Pass]),(4,B.blk 143 [C.fn 83 [] [dP 0,dP 1,dP 2,dP 3,dP 4,dP 5]]),(5,B.blk 112 [C.fn 51 [] []])])):=fun qC JR za zb JS v v2 qx qH qI=>hF ((qb.mk qC JR za zb JS),v,v2,(qd.mk qx qH qI))
  have:=qjg;have:=@qeE.eq_1;have:=@Z6.eq_1;exact gA
end
noncomputable section
open Go.RowKit
set_option maxRecDepth 20000
set_option maxHeartbeats 8000000
abbrev qNc:List R:=R.any::R.any::R.any::R.any::qNL
abbrev qPr:List R:=R.any::R.any::R.any::R.any::qNc
abbrev qP4:List R:=R.any::R.any::R.any::R.any::qPr
abbrev qMj:List R:=R.any::R.any::R.any::R.any::qP4
abbrev qPc:List R:=R.any::R.any::R.any::R.any::qMj
abbrev qMp:List R:=R.any::R.any::R.any::R.any::qPc
abbrev qMF:List R:=R.any::R.any::R.any::R.any::qMp
abbrev qOA:List R:=R.any::R.any::R.any::R.any::qMF
abbrev qPC:List R:=R.any::R.any::R.any::R.any::qOA
abbrev qkI:List R:=R.any::R.any::R.any::R.any::qPC
def q0r (rF:(qb×List qa×Int×qd)→Option (List Bool×List qa×Int×qd)):(qb×List qa×Int×qd)→Option (List Bool×List qa×Int×qd)|(x0,v,v2,v3)=>if 0≤((v.length:Nat):Int) then if 0≤w64 (1*2 ^ min v.length (IntKind.bits IntKind.i64))∧1*w64 (1*2 ^ min v.length (IntKind.bits IntKind.i64))≤281474976710656∧w64 (1*2 ^ min v.length (IntKind.bits IntKind.i64))≤9223372036854775807 then if JT x0=Bool.true then Option.bind (q1Z x0.Kind) fun(a2:Sum Unit Unit)=>Sum.elim (fun(a3:Unit)=>Option.bind (zn (ZM rF v v2 v3 x0) (List.replicate (Int.toNat (w64 (1*2 ^ min v.length (IntKind.bits IntKind.i64)))) Bool.false,1)) fun(a5:List Bool)=>some (a5,v,w64 (v2+1),v3)) (fun(a4:Unit)=>Option.bind (zn (ZL rF v v2 v3 x0) (List.replicate (Int.toNat (w64 (1*2 ^ min v.length (IntKind.bits IntKind.i64)))) Bool.false,1)) fun(a6:List Bool)=>some (a6,v,w64 (v2+1),v3)) a2 else if 0≤((Int.toNat (w64 (1*2 ^ min v.length (IntKind.bits IntKind.i64))):Nat):Int)∧8*((Int.toNat (w64 (1*2 ^ min v.length (IntKind.bits IntKind.i64))):Nat):Int)≤281474976710656∧((Int.toNat (w64 (1*2 ^ min v.length (IntKind.bits IntKind.i64))):Nat):Int)≤9223372036854775807 then Option.bind (zn (QY rF (List.replicate (Int.toNat (w64 (1*2 ^ min v.length (IntKind.bits IntKind.i64)))) Bool.false) v v2 v3 x0) (List.replicate (Int.toNat (w64 (1*2 ^ min v.length (IntKind.bits IntKind.i64)))) 0,1)) fun(a7:List Int)=>Option.bind (zn (Z3 rF (List.replicate (Int.toNat (w64 (1*2 ^ min v.length (IntKind.bits IntKind.i64)))) Bool.false) x0 x0.L ((x0.L.length:Nat):Int)) (a7,(v,(v2,(v3,0))))) fun(a8:Prod (List Int) (Prod (List qa) (Prod Int qd)))=>if(x0.Kind==3)=Bool.true then Option.bind (zn (Z6 rF a8.1 a8.2.1 a8.2.2.1 a8.2.2.2 ((x0.L.length:Nat):Int)) (List.replicate (Int.toNat (w64 (1*2 ^ min v.length (IntKind.bits IntKind.i64)))) Bool.false,1)) fun(a9:List Bool)=>some (a9,a8.2.1,a8.2.2.1,a8.2.2.2) else Option.bind (zn (Z6 rF a8.1 a8.2.1 a8.2.2.1 a8.2.2.2 x0.N) (List.replicate (Int.toNat (w64 (1*2 ^ min v.length (IntKind.bits IntKind.i64)))) Bool.false,1)) fun(a10:List Bool)=>some (a10,a8.2.1,a8.2.2.1,a8.2.2.2) else none else none else none
theorem q5h:q9W 83 6 z8 Q7 q0r:=by
 intro rE rF hF hM hR x
 obtain⟨x0,v,v2,v3⟩:=x
 show qba rE 83 6 [R.agg [dI x0.Kind,dI x0.N,dI x0.Min,dL 2 qf x0.Set,dL 5 qh x0.L],rP 0,rP 1,rP 2,rP 3,rP 4,rP 5] [(0,B.blk 30 [dL 8 qc v]),(1,B.blk 112 [C.fn 50 [] []]),(2,B.blk 3 [dI v2]),(3,B.blk 44 [dI v3.Worst,dI v3.Best,dI v3.Pass]),(4,B.blk 143 [C.fn 83 [] [dP 0,dP 1,dP 2,dP 3,dP 4,dP 5]]),(5,B.blk 112 [C.fn 51 [] []])]=_
 have hF':∀(qC JR za:Int) (zb:List qe) (JS:List qb) (v:List qa) (v2 qx qH qI:Int),rE (.fn 83) 6 [R.agg [dI qC,dI JR,dI za,dL 2 qf zb,dL 5 qh JS],rP 0,rP 1,rP 2,rP 3,rP 4,rP 5] [(0,B.blk 30 [dL 8 qc v]),(1,B.blk 112 [C.fn 50 [] []]),(2,B.blk 3 [dI v2]),(3,B.blk 44 [dI qx,dI qH,dI qI]),(4,B.blk 143 [C.fn 83 [] [dP 0,dP 1,dP 2,dP 3,dP 4,dP 5]]),(5,B.blk 112 [C.fn 51 [] []])]=(rF ((qb.mk qC JR za zb JS),v,v2,(qd.mk qx qH qI))).bind (fun e=>some (rL 1 eB e.1,[(0,B.blk 30 [dL 8 qc e.2.1]),(1,B.blk 112 [C.fn 50 [] []]),(2,B.blk 3 [dI e.2.2.1]),(3,B.blk 44 [dI e.2.2.2.Worst,dI e.2.2.2.Best,dI e.2.2.2.Pass]),(4,B.blk 143 [C.fn 83 [] [dP 0,dP 1,dP 2,dP 3,dP 4,dP 5]]),(5,B.blk 112 [C.fn 51 [] []])])):=fun qC JR za zb JS v v2 qx qH qI=>hF ((qb.mk qC JR za zb JS),v,v2,(qd.mk qx qH qI))
 rw[q6H qq4 qwd]
 have:=qjg;have:=@q51;have:=@q79;have:=q6s rE rF hF hM hR;have:=q5R rE rF hF hM hR;have:=q5u rE rF hF hM hR;have:=q6P rE rF hF hM hR;have:=q6Q rE rF hF hM hR;have:=@q0r.eq_1;have:=@Q7.eq_1;exact gA
theorem q2M:∀x y,z8 x=z8 y→x=y:=by
 rintro⟨⟨qJB,qJC,qJD,qJE,qJF⟩,a1,a2,⟨qQ4,qQ5,qQ6⟩⟩ ⟨⟨qJG,qJH,qJI,qJJ,qJK⟩,b1,b2,⟨qQ7,qQ8,qQ9⟩⟩ h
 simp only[z8,Prod.mk.injEq,List.cons.injEq,R.c.injEq,R.agg.injEq,R.tup.injEq,C.d.injEq,C.own.injEq,C.ptr.injEq,C.eptr.injEq,C.clp.injEq,D.int.injEq,D.bool.injEq,D.str.injEq,D.sl.injEq,B.blk.injEq,B.row.injEq,q2m,q3F,q1J,q2F,q2D,q3m,q1H,q5G,q3j,q60,q6p,q2f,true_and,and_true,qQR] at h
 simp only[h]
theorem q7z:∀x y,Q7 x=Q7 y→x=y:=by
 rintro⟨a0,a1,a2,⟨qQ4,qQ5,qQ6⟩⟩ ⟨b0,b1,b2,⟨qQ7,qQ8,qQ9⟩⟩ h
 simp only[Q7,Prod.mk.injEq,List.cons.injEq,R.c.injEq,R.agg.injEq,R.tup.injEq,C.d.injEq,C.own.injEq,C.ptr.injEq,C.eptr.injEq,C.clp.injEq,D.int.injEq,D.bool.injEq,D.str.injEq,D.sl.injEq,B.blk.injEq,B.row.injEq,q2m,q3F,q1J,q2F,q2D,q3m,q1H,q5G,q3j,q60,q6p,q2f,true_and,and_true,qQR] at h
 simp only[h]
def zX:(qb×List qa×Int×qd)→Option (List Bool×List qa×Int×qd):=q9G 83 6 z8 Q7
theorem qau (x:(qb×List qa×Int×qd)):zX x=q0r zX x:=qfj qCc.2.2.2 q2M q7z q5h x
theorem q9E (x0:qb) (v:List qa) (v2:Int) (v3:qd):ev 83 6 [R.agg [dI x0.Kind,dI x0.N,dI x0.Min,dL 2 qf x0.Set,dL 5 qh x0.L],rP 0,rP 1,rP 2,rP 3,rP 4,rP 5] [(0,B.blk 30 [dL 8 qc v]),(1,B.blk 112 [C.fn 50 [] []]),(2,B.blk 3 [dI v2]),(3,B.blk 44 [dI v3.Worst,dI v3.Best,dI v3.Pass]),(4,B.blk 143 [C.fn 83 [] [dP 0,dP 1,dP 2,dP 3,dP 4,dP 5]]),(5,B.blk 112 [C.fn 51 [] []])]=(zX (x0,v,v2,v3)).bind (fun(e:List Bool×List qa×Int×qd)=>some (rL 1 eB e.1,[(0,B.blk 30 [dL 8 qc e.2.1]),(1,B.blk 112 [C.fn 50 [] []]),(2,B.blk 3 [dI e.2.2.1]),(3,B.blk 44 [dI e.2.2.2.Worst,dI e.2.2.2.Best,dI e.2.2.2.Pass]),(4,B.blk 143 [C.fn 83 [] [dP 0,dP 1,dP 2,dP 3,dP 4,dP 5]]),(5,B.blk 112 [C.fn 51 [] []])])):=(qbx qCc.2.2.2 q2M q5h (x0,v,v2,v3))
theorem qan:∀(qC JR za:Int) (zb:List qe) (JS:List qb) (v:List qa) (v2 qx qH qI:Int),ev 83 6 [R.agg [dI qC,dI JR,dI za,dL 2 qf zb,dL 5 qh JS],rP 0,rP 1,rP 2,rP 3,rP 4,rP 5] [(0,B.blk 30 [dL 8 qc v]),(1,B.blk 112 [C.fn 50 [] []]),(2,B.blk 3 [dI v2]),(3,B.blk 44 [dI qx,dI qH,dI qI]),(4,B.blk 143 [C.fn 83 [] [dP 0,dP 1,dP 2,dP 3,dP 4,dP 5]]),(5,B.blk 112 [C.fn 51 [] []])]=(zX ((qb.mk qC JR za zb JS),v,v2,(qd.mk qx qH qI))).bind (fun(e:List Bool×List qa×Int×qd)=>some (rL 1 eB e.1,[(0,B.blk 30 [dL 8 qc e.2.1]),(1,B.blk 112 [C.fn 50 [] []]),(2,B.blk 3 [dI e.2.2.1]),(3,B.blk 44 [dI e.2.2.2.Worst,dI e.2.2.2.Best,dI e.2.2.2.Pass]),(4,B.blk 143 [C.fn 83 [] [dP 0,dP 1,dP 2,dP 3,dP 4,dP 5]]),(5,B.blk 112 [C.fn 51 [] []])])):=
 fun qC JR za zb JS v v2 qx qH qI=>q9E (qb.mk qC JR za zb JS) v v2 (qd.mk qx qH qI)
def q4P (n:qb) (s:qd) (l:List qa):Option (List Bool):=Option.bind (zX (n,(l,(0,s)))) fun(a:Prod (List Bool) (Prod (List qa) (Prod Int qd)))=>some a.1
theorem qcq:∀(qw n_N qQ:Int) (qR:List qe) (n_L:List qb) (qz qT qU:Int) (l:List qa),ev 52 0 [R.agg [dI qw,dI n_N,dI qQ,dL 2 qf qR,dL 5 qh n_L],R.agg [dI qz,dI qT,dI qU],rL 8 qc l,R.c (C.fn 50 [] []),R.c (C.fn 51 [] [])] []=(q4P (qb.mk qw n_N qQ qR n_L) (qd.mk qz qT qU) l).bind (fun(e:List Bool)=>some (rL 1 eB e,[])):=
 fun qw n_N qQ qR n_L qz qT qU l=>by
  rw[qF qBN qHb.2.2.2 qLm]
  have:=qLs;have:=@qan;have:=@q4P.eq_1;exact gA
def q20 (n:qb) (s:qd) (l:List qa):Option (List Bool×Int):=Option.bind (JU n) fun(a:Int)=>if(a != 0)=Bool.true then some ([],a) else if 10<((l.length:Nat):Int) then some ([],2) else Option.bind (q4P n s l) fun(a2:List Bool)=>some (a2,0)
theorem q8q:∀(qw n_N qQ:Int) (qR:List qe) (n_L:List qb) (qz qT qU:Int) (l:List qa),ev 23 0 [R.agg [dI qw,dI n_N,dI qQ,dL 2 qf qR,dL 5 qh n_L],R.agg [dI qz,dI qT,dI qU],rL 8 qc l] []=(q20 (qb.mk qw n_N qQ qR n_L) (qd.mk qz qT qU) l).bind (fun(e:List Bool×Int)=>some (R.tup [rL 1 eB e.1,rI e.2],[])):=
 fun qw n_N qQ qR n_L qz qT qU l=>by
  rw[qF qFg qLa.2.2.2 qOl]
  have:=qO2;have:=@q6r;have:=@qcq;have:=@q20.eq_1;exact gA
theorem qPb:okL 24 qiL:=qJ (qj qEW) (by kernel_rfl) (by kernel_rfl)
def qOt:=JA_ @qiL.eq_1 (JA_ @Tryz.f24.eq_1 @qEW)
def q2g (n:Int):Option Unit:=
 some ()
def q5d (n:Int):Unit:=
 ()
theorem q8C (n:Int):q2g n=some (q5d n):=by
 unfold q2g q5d
 simp only[Zb]
theorem q9n:∀(n:Int),ev 24 0 [rI n] []=some (R.c (C.fn 53 [] [dP 0]),[(0,B.blk 3 [dI n])]):=
 fun n=>by
  have h:ev 24 0 [rI n] []=(q2g n).bind (fun(e:Unit)=>some (R.c (C.fn 53 [] [dP 0]),[(0,B.blk 3 [dI n])])):=by
   rw[qF qEW qKc.2.2.2 qPb]
   have:=qOt;have:=@q2g.eq_1;exact gA
  rw[q8C] at h
  exact h
theorem qHh:okL 53 qcP:=qJ (qj qyg) (by kernel_rfl) (by kernel_rfl)
def qGF:=JA_ @qcP.eq_1 (JA_ @Tryz.f53.eq_1 @qyg)
theorem qAQ:lbO 53 2=qnM:=Qt (qj qyg) rfl
theorem qDA:okL 53 qnM:=zI qHh (qQy (i:=0) (by kernel_rfl))
theorem qBQ:lbO 53 8=qly:=Qt (qj qyg) rfl
theorem qAh:okL 53 qly:=zI qHh (qQy (i:=1) (by kernel_rfl))
def Qy (b1:qg) (b2:qd) (b3:Int) (b5:Int) (b6:List Int) (b7:List qa) (b8:List Bool) (b9:Int) (t8:Int):(List Int×Int)→Option ((List Int×Int)⊕(List Int))|(all,t9)=>if t9<t8 then if all.length+1≤maxLen∧(all.length+1)*8≤140737488355328 then some (Sum.inl (all++[t9],w64 (t9+1))) else none else some (Sum.inr all)
theorem q5v:∀(all:List Int) (zw q0M zc QC:Int) (QD:ByteArray) (qE zx qL:Int) (qM:List qe) (zy:List qb) (zY ZH ZI:Int) (zd:List (q0u qe)) (Zc J8 J9 b3 b5:Int) (b6:List Int) (b7:List qa) (b8:List Bool) (b9 t8 t9:Int) (qi5:Nat),qi5=all.length→XL2 evo 53 10 2 ⟨[(0,R.c (C.hd .yield 0)),(3,rO 10 1 qi5),(8,rI t8),(9,rI t9)],[(0,B.ob (AO.lp 8 (R.any::R.any::R.any::R.any::rP 1::rP 2::R.any::rP 3::rP 4::rP 5::R.any::rP 6::R.any::R.any::rP 7::rP 8::qkI) [67] (raO 8 19) (rbO 8 19) LoopState.ready none)),(1,B.blk 37 [dI zw,dI q0M,dI zc,dI QC,dS QD,dI qE,dI zx,dI qL,dL 2 qf qM,dL 5 qh zy,dI zY,dI ZH,dI ZI,dL 4 (eA2 qf) zd]),(2,B.blk 44 [dI Zc,dI J8,dI J9]),(3,B.blk 3 [dI b3]),(4,B.blk 47 [C.nils,C.nils]),(5,B.blk 40 [dI b5]),(6,B.blk 25 [dL 1 eI b6]),(7,B.blk 30 [dL 8 qc b7]),(8,B.blk 71 [dL 1 eB b8]),(9,B.blk 3 [dI b9]),(10,bR 3 1 eI all)],11,30⟩=(zn (Qy (qg.mk zw q0M zc QC QD (qb.mk qE zx qL qM zy) zY ZH ZI zd) (qd.mk Zc J8 J9) b3 b5 b6 b7 b8 b9 t8) (all,t9)).bind (fun(e:List Int)=>some (Exit.exit 0,⟨[(0,R.c (C.hd .yield 0)),(3,rO 10 1 e.length)],[(0,B.ob (AO.lp 8 (R.any::R.any::R.any::R.any::rP 1::rP 2::R.any::rP 3::rP 4::rP 5::R.any::rP 6::R.any::R.any::rP 7::rP 8::qkI) [67] (raO 8 19) (rbO 8 19) LoopState.ready none)),(1,B.blk 37 [dI zw,dI q0M,dI zc,dI QC,dS QD,dI qE,dI zx,dI qL,dL 2 qf qM,dL 5 qh zy,dI zY,dI ZH,dI ZI,dL 4 (eA2 qf) zd]),(2,B.blk 44 [dI Zc,dI J8,dI J9]),(3,B.blk 3 [dI b3]),(4,B.blk 47 [C.nils,C.nils]),(5,B.blk 40 [dI b5]),(6,B.blk 25 [dL 1 eI b6]),(7,B.blk 30 [dL 8 qc b7]),(8,B.blk 71 [dL 1 eB b8]),(9,B.blk 3 [dI b9]),(10,bR 3 1 eI e)],11,30⟩)):=
 by
 intro all zw q0M zc QC QD qE zx qL qM zy zY ZH ZI zd Zc J8 J9 b3 b5 b6 b7 b8 b9 t8 t9 qi5 h0
 subst h0
 revert t9;revert all;exact qab qAQ qDA (fun e=>by exact⟨_,rfl,fun h=>by cases h⟩) fun all t9=>by
  have:=qGF;have:=@qnM.eq_1;have:=@Qy.eq_1;exact gA
theorem q4a:∀  (zw q0M zc QC:Int) (QD:ByteArray) (qE zx qL:Int) (qM:List qe) (zy:List qb) (zY ZH ZI:Int) (zd:List (q0u qe)) (Zc J8 J9 b3 b5:Int) (b6:List Int) (b7:List qa) (b8:List Bool) (b9 t8 t9:Int),XL2 evo 53 10 2 ⟨[(0,R.c (C.hd .yield 0)),(3,rO 10 1 0),(8,rI t8),(9,rI t9)],[(0,B.ob (AO.lp 8 (R.any::R.any::R.any::R.any::rP 1::rP 2::R.any::rP 3::rP 4::rP 5::R.any::rP 6::R.any::R.any::rP 7::rP 8::qkI) [67] (raO 8 19) (rbO 8 19) LoopState.ready none)),(1,B.blk 37 [dI zw,dI q0M,dI zc,dI QC,dS QD,dI qE,dI zx,dI qL,dL 2 qf qM,dL 5 qh zy,dI zY,dI ZH,dI ZI,dL 4 (eA2 qf) zd]),(2,B.blk 44 [dI Zc,dI J8,dI J9]),(3,B.blk 3 [dI b3]),(4,B.blk 47 [C.nils,C.nils]),(5,B.blk 40 [dI b5]),(6,B.blk 25 [dL 1 eI b6]),(7,B.blk 30 [dL 8 qc b7]),(8,B.blk 71 [dL 1 eB b8]),(9,B.blk 3 [dI b9]),(10,B.row 3 1 [])],11,30⟩=(zn (Qy (qg.mk zw q0M zc QC QD (qb.mk qE zx qL qM zy) zY ZH ZI zd) (qd.mk Zc J8 J9) b3 b5 b6 b7 b8 b9 t8) (([]:List Int),t9)).bind (fun(e:List Int)=>some (Exit.exit 0,⟨[(0,R.c (C.hd .yield 0)),(3,rO 10 1 e.length)],[(0,B.ob (AO.lp 8 (R.any::R.any::R.any::R.any::rP 1::rP 2::R.any::rP 3::rP 4::rP 5::R.any::rP 6::R.any::R.any::rP 7::rP 8::qkI) [67] (raO 8 19) (rbO 8 19) LoopState.ready none)),(1,B.blk 37 [dI zw,dI q0M,dI zc,dI QC,dS QD,dI qE,dI zx,dI qL,dL 2 qf qM,dL 5 qh zy,dI zY,dI ZH,dI ZI,dL 4 (eA2 qf) zd]),(2,B.blk 44 [dI Zc,dI J8,dI J9]),(3,B.blk 3 [dI b3]),(4,B.blk 47 [C.nils,C.nils]),(5,B.blk 40 [dI b5]),(6,B.blk 25 [dL 1 eI b6]),(7,B.blk 30 [dL 8 qc b7]),(8,B.blk 71 [dL 1 eB b8]),(9,B.blk 3 [dI b9]),(10,bR 3 1 eI e)],11,30⟩)):=by
 intro zw q0M zc QC QD qE zx qL qM zy zY ZH ZI zd Zc J8 J9 b3 b5 b6 b7 b8 b9 t8 t9;have h:=q5v ([]:List Int) ((qg.mk zw q0M zc QC QD (qb.mk qE zx qL qM zy) zY ZH ZI zd)).School ((qg.mk zw q0M zc QC QD (qb.mk qE zx qL qM zy) zY ZH ZI zd)).Id ((qg.mk zw q0M zc QC QD (qb.mk qE zx qL qM zy) zY ZH ZI zd)).Version ((qg.mk zw q0M zc QC QD (qb.mk qE zx qL qM zy) zY ZH ZI zd)).From ((qg.mk zw q0M zc QC QD (qb.mk qE zx qL qM zy) zY ZH ZI zd)).Name ((qg.mk zw q0M zc QC QD (qb.mk qE zx qL qM zy) zY ZH ZI zd)).Need.Kind ((qg.mk zw q0M zc QC QD (qb.mk qE zx qL qM zy) zY ZH ZI zd)).Need.N ((qg.mk zw q0M zc QC QD (qb.mk qE zx qL qM zy) zY ZH ZI zd)).Need.Min ((qg.mk zw q0M zc QC QD (qb.mk qE zx qL qM zy) zY ZH ZI zd)).Need.Set ((qg.mk zw q0M zc QC QD (qb.mk qE zx qL qM zy) zY ZH ZI zd)).Need.L ((qg.mk zw q0M zc QC QD (qb.mk qE zx qL qM zy) zY ZH ZI zd)).Total ((qg.mk zw q0M zc QC QD (qb.mk qE zx qL qM zy) zY ZH ZI zd)).Own ((qg.mk zw q0M zc QC QD (qb.mk qE zx qL qM zy) zY ZH ZI zd)).Age ((qg.mk zw q0M zc QC QD (qb.mk qE zx qL qM zy) zY ZH ZI zd)).Exclude ((qd.mk Zc J8 J9)).Worst ((qd.mk Zc J8 J9)).Best ((qd.mk Zc J8 J9)).Pass b3 b5 b6 b7 b8 b9 t8 t9 _ rfl
 first
  | exact h
  | (simp only[rL,dL,bR,bZ,Nat.reduceAdd] at h;exact h)
theorem qPj:okL 55 qk5:=qJ (qj qFo) (by kernel_rfl) (by kernel_rfl)
def qNw:=JA_ @qk5.eq_1 (JA_ @Tryz.f55.eq_1 @qFo)
theorem qOJ:okL 58 qiP:=qJ (qj qET) (by kernel_rfl) (by kernel_rfl)
def qN4:=JA_ @qiP.eq_1 (JA_ @Tryz.f58.eq_1 @qET)
theorem qMD:okL 94 qi8:=qJ (qj qFw) (by kernel_rfl) (by kernel_rfl)
def qNN:=JA_ @qi8.eq_1 (JA_ @Tryz.f94.eq_1 @qFw)
def J6 (x:Int):Option Int:=
 some (let y1:=Zq Go.BinOp.and IntKind.u64 (Int.fdiv x (2 ^ min 1 (IntKind.bits IntKind.u64))) 6148914691236517205+Zq Go.BinOp.and IntKind.u64 x 6148914691236517205;let y2:=Int.fdiv (IntKind.wrap IntKind.u64 y1) (2 ^ min 2 (IntKind.bits IntKind.u64));let y3:=Zq Go.BinOp.and IntKind.u64 y2 3689348814741910323+Zq Go.BinOp.and IntKind.u64 (IntKind.wrap IntKind.u64 y1) 3689348814741910323;let y4:=Int.fdiv (IntKind.wrap IntKind.u64 y3) (2 ^ min 4 (IntKind.bits IntKind.u64))+IntKind.wrap IntKind.u64 y3;let y5:=Zq Go.BinOp.and IntKind.u64 (IntKind.wrap IntKind.u64 y4) 1085102592571150095;let y6:=Zq Go.BinOp.and IntKind.u64 (IntKind.wrap IntKind.u64 y4) 1085102592571150095+Int.fdiv y5 (2 ^ min 8 (IntKind.bits IntKind.u64));let y7:=IntKind.wrap IntKind.u64 y6+Int.fdiv (IntKind.wrap IntKind.u64 y6) (2 ^ min 16 (IntKind.bits IntKind.u64));Zq Go.BinOp.and IntKind.i64 (w64 (IntKind.wrap IntKind.u64 (IntKind.wrap IntKind.u64 y7+Int.fdiv (IntKind.wrap IntKind.u64 y7) (2 ^ min 32 (IntKind.bits IntKind.u64))))) 127)
def QP (x:Int):Int:=
 let y1:=Zq Go.BinOp.and IntKind.u64 (Int.fdiv x (2 ^ min 1 (IntKind.bits IntKind.u64))) 6148914691236517205+Zq Go.BinOp.and IntKind.u64 x 6148914691236517205;let y2:=Int.fdiv (IntKind.wrap IntKind.u64 y1) (2 ^ min 2 (IntKind.bits IntKind.u64));let y3:=Zq Go.BinOp.and IntKind.u64 y2 3689348814741910323+Zq Go.BinOp.and IntKind.u64 (IntKind.wrap IntKind.u64 y1) 3689348814741910323;let y4:=Int.fdiv (IntKind.wrap IntKind.u64 y3) (2 ^ min 4 (IntKind.bits IntKind.u64))+IntKind.wrap IntKind.u64 y3;let y5:=Zq Go.BinOp.and IntKind.u64 (IntKind.wrap IntKind.u64 y4) 1085102592571150095;let y6:=Zq Go.BinOp.and IntKind.u64 (IntKind.wrap IntKind.u64 y4) 1085102592571150095+Int.fdiv y5 (2 ^ min 8 (IntKind.bits IntKind.u64));let y7:=IntKind.wrap IntKind.u64 y6+Int.fdiv (IntKind.wrap IntKind.u64 y6) (2 ^ min 16 (IntKind.bits IntKind.u64));Zq Go.BinOp.and IntKind.i64 (w64 (IntKind.wrap IntKind.u64 (IntKind.wrap IntKind.u64 y7+Int.fdiv (IntKind.wrap IntKind.u64 y7) (2 ^ min 32 (IntKind.bits IntKind.u64))))) 127
theorem q3h (x:Int):J6 x=some (QP x):=by
 unfold J6 QP
 simp only[Zb]
theorem q3D:∀(x:Int),ev 94 0 [R.c (C.d (D.int .u64 x))] []=some (rI (QP x),[]):=
 fun x=>by
  have h:ev 94 0 [R.c (C.d (D.int .u64 x))] []=(J6 x).bind (fun(e:Int)=>some (rI e,[])):=by
   rw[qF qFw qKd.2.2.2 qMD]
   have:=qNN;have:=@J6.eq_1;exact gA
  rw[q3h] at h
  exact h
def Jr (x:Int):Option Int:=
 some (QP x)
def Qf (x:Int):Int:=
 QP x
theorem q3U (x:Int):Jr x=some (Qf x):=by
 unfold Jr Qf
 simp only[Zb]
theorem q4u:∀(x:Int),ev 58 0 [R.c (C.d (D.int .u64 x))] []=some (rI (Qf x),[]):=
 fun x=>by
  have h:ev 58 0 [R.c (C.d (D.int .u64 x))] []=(Jr x).bind (fun(e:Int)=>some (rI e,[])):=by
   rw[qF qET qL5.2.2.2 qOJ]
   have:=qN4;have:=@q3D;have:=@Jr.eq_1;exact gA
  rw[q3U] at h
  exact h
theorem qKj:okL 25 qfd:=qJ (qj qEn) (by kernel_rfl) (by kernel_rfl)
def qLf:=JA_ @qfd.eq_1 (JA_ @Tryz.f25.eq_1 @qEn)
theorem qAZ:lbO 25 2=qmR:=Qt (qj qEn) rfl
theorem qCQ:okL 25 qmR:=zI qKj (qQy (i:=0) (by kernel_rfl))
def Qe (mask:Int):(List Int×Int)→Option ((List Int×Int)⊕(List Int))|(l,k)=>if 0≤k then if 0<Int.fdiv mask (2 ^ min (Int.toNat k) (IntKind.bits IntKind.i64)) then if 0≤k then if(Zq Go.BinOp.and IntKind.i64 (Int.fdiv mask (2 ^ min (Int.toNat k) (IntKind.bits IntKind.i64))) 1==1)=Bool.true then if l.length+1≤maxLen∧(l.length+1)*8≤140737488355328 then some (Sum.inl (l++[k],w64 (k+1))) else none else some (Sum.inl (l,w64 (k+1))) else none else some (Sum.inr l) else none
theorem q5p:∀(l:List Int) (mask k:Int) (qxX:Nat),qxX=l.length→XL2 evo 25 0 2 ⟨[(0,rI mask),(2,rO 0 1 qxX),(3,rI k)],[(0,bR 3 1 eI l)],1,20⟩=(zn (Qe mask) (l,k)).bind (fun(e:List Int)=>some (Exit.exit 0,⟨[(2,rO 0 1 e.length)],[(0,bR 3 1 eI e)],1,20⟩)):=
 by
 intro l mask k qxX h0
 subst h0
 revert k;revert l;exact qab qAZ qCQ (fun e=>by exact⟨_,rfl,fun h=>by cases h⟩) fun l k=>by
  have:=qLf;have:=@qmR.eq_1;have:=@Qe.eq_1;exact gA
theorem q42:∀  (mask k:Int),XL2 evo 25 0 2 ⟨[(0,rI mask),(2,rO 0 1 0),(3,rI k)],[(0,B.row 3 1 [])],1,20⟩=(zn (Qe mask) (([]:List Int),k)).bind (fun(e:List Int)=>some (Exit.exit 0,⟨[(2,rO 0 1 e.length)],[(0,bR 3 1 eI e)],1,20⟩)):=by
 intro mask k;have h:=q5p ([]:List Int) mask k _ rfl
 first
  | exact h
  | (simp only[rL,dL,bR,bZ,Nat.reduceAdd] at h;exact h)
def Zn (mask:Int):Option (List Int):=Option.bind (zn (Qe mask) ([],0)) fun(a:List Int)=>some a
theorem q1o:∀(mask:Int),ev 25 0 [rI mask] []=(Zn mask).bind (fun(e:List Int)=>some (rL 1 eI e,[])):=
 fun mask=>by
  rw[qF qEn qKo.2.2.2 qKj]
  have:=qLf;have:=@q42;have:=@Zn.eq_1;exact gA
theorem qJY:okL 59 qfg:=qJ (qj qCI) (by kernel_rfl) (by kernel_rfl)
def qK9:=JA_ @qfg.eq_1 (JA_ @Tryz.f59.eq_1 @qCI)
theorem qyW:lbO 59 2=qn9:=Qt (qj qCI) rfl
theorem qAw:okL 59 qn9:=zI qJY (qQy (i:=0) (by kernel_rfl))
def zu (s1:List Int) (s2:List Int) (t9:List Int) (t10:Int):Int→Option (Int⊕(Int⊕Unit))|t11=>if t11<t10 then if 0≤t11∧t11<((t9.length:Nat):Int) then Option.bind t9[Int.toNat t11]? fun(a:Int)=>if((s2.length:Nat):Int)≤t11 then some (Sum.inr (Sum.inl 1)) else if 0≤t11∧t11<((s2.length:Nat):Int) then Option.bind s2[Int.toNat t11]? fun(a2:Int)=>if(zL a a2 != 0)=Bool.true then some (Sum.inr (Sum.inl (zL a a2))) else some (Sum.inl (w64 (t11+1))) else none else none else some (Sum.inr (Sum.inr ()))
theorem q2r:∀(s1 s2 t9:List Int) (t10 t11:Int),XL2 evo 59 0 2 ⟨[(0,rL 1 eI s1),(1,rL 1 eI s2),(9,rL 1 eI t9),(10,rI t10),(11,rI t11)],[],0,36⟩=(zn (zu s1 s2 t9 t10) t11).bind (Sum.elim (fun(e:Int)=>some (Exit.ret,⟨[(0,rL 1 eI s1),(1,rL 1 eI s2),(4,rI e)],[],0,36⟩)) (fun(e:Unit)=>some (Exit.exit 0,⟨[(0,rL 1 eI s1),(1,rL 1 eI s2),(4,R.any)],[],0,36⟩))):=
 fun s1 s2 t9 t10 t11=>by
  revert t11;exact qcm qyW qAw (fun e=>by rcases e with _|_<;>exact⟨_,rfl,fun h=>by cases h⟩) fun x=>by
   have:=qK9;have:=@qn9.eq_1;have:=@q0Z;have:=@zu.eq_1;exact gA
def Qu (s1:List Int) (s2:List Int):Option Int:=Option.bind (zn (zu s1 s2 s1 ((s1.length:Nat):Int)) 0) fun(a:Sum Int Unit)=>Sum.elim (fun(a2:Int)=>some a2) (fun(a3:Unit)=>if((s1.length:Nat):Int)<((s2.length:Nat):Int) then some (-1) else some 0) a
theorem q0C:∀(s1 s2:List Int),ev 59 0 [rL 1 eI s1,rL 1 eI s2] []=(Qu s1 s2).bind (fun(e:Int)=>some (rI e,[])):=
 fun s1 s2=>by
  rw[qF qCI qKe.2.2.2 qJY]
  have:=qK9;have:=@q2r;have:=@Qu.eq_1;exact gA
def Qb (a:Int) (b:Int):Option Int:=Option.bind (Zn a) fun(a2:List Int)=>Option.bind (Zn b) fun(a3:List Int)=>Option.bind (Qu a2 a3) fun(a4:Int)=>Option.bind (q0L [zL (Qf (IntKind.wrap IntKind.u64 a)) (Qf (IntKind.wrap IntKind.u64 b)),a4]) fun(e0:Int)=>some e0
theorem q5F:∀(a b:Int),ev 55 0 [rI a,rI b] []=(Qb a b).bind (fun(e:Int)=>some (rI e,[])):=
 fun a b=>by
  rw[qF qFo qL1.2.2.2 qPj]
  have:=qNw;have:=@q4u;have:=@q0Z;have:=@q1o;have:=@q0C;have:=@q3K;have:=@Qb.eq_1;exact gA
theorem qI6:okL 26 qdf:=qJ (qj qy6) (by kernel_rfl) (by kernel_rfl)
def qGG:=JA_ @qdf.eq_1 (JA_ @Tryz.f26.eq_1 @qy6)
theorem qCz:lbO 26 3=qnU:=Qt (qj qy6) rfl
theorem qBO:okL 26 qnU:=zI qI6 (qQy (i:=0) (by kernel_rfl))
theorem qDg:lbO 26 8=qlp:=Qt (qj qy6) rfl
theorem qzT:okL 26 qlp:=zI qI6 (qQy (i:=1) (by kernel_rfl))
theorem qPg:okL 32 qjv:=qJ (qj qEU) (by kernel_rfl) (by kernel_rfl)
def qMc:=JA_ @qjv.eq_1 (JA_ @Tryz.f32.eq_1 @qEU)
theorem qOL:okL 67 qjy:=qJ (qj qER) (by kernel_rfl) (by kernel_rfl)
def qOi:=JA_ @qjy.eq_1 (JA_ @Tryz.f67.eq_1 @qER)
theorem qJo:okL 101 qeC:=qJ (qj qs3) (by kernel_rfl) (by kernel_rfl)
def qHs:=JA_ @qeC.eq_1 (JA_ @Tryz.f101.eq_1 @qs3)
def q0m (x:Int) (v:List Int):Option Bool:=Option.bind (Ql v x) fun(a:Bool)=>some a
theorem q5P:∀(x:Int) (v:List Int),ev 101 1 [rI x,rP 0] [(0,B.blk 25 [dL 1 eI v])]=(q0m x v).bind (fun(e:Bool)=>some (rB e,[(0,B.blk 25 [dL 1 eI v])])):=
 fun x v=>by
  rw[qF qs3 qzM.2.2.2 qJo]
  have:=qHs;have:=@q0t;have:=@q0m.eq_1;exact gA
theorem qKv:okL 30 qfw:=qJ (qj qBV) (by kernel_rfl) (by kernel_rfl)
def qKL:=JA_ @qfw.eq_1 (JA_ @Tryz.f30.eq_1 @qBV)
theorem qE3:lbO 30 3=qnL:=Qt (qj qBV) rfl
theorem qDe:okL 30 qnL:=zI qKv (qQy (i:=0) (by kernel_rfl))
def Jb (t6:List qa) (t7:Int):(Int×Int)→Option ((Int×Int)⊕Int)|(n,t8)=>if t8<t7 then if 0≤t8∧t8<((t6.length:Nat):Int) then Option.bind t6[Int.toNat t8]? fun(a:qa)=>some (Sum.inl (w64 (n+a.Credits),w64 (t8+1))) else none else some (Sum.inr n)
theorem q6M:∀(n:Int) (t6:List qa) (t7 t8:Int),XL2 evo 30 0 3 ⟨[(3,rI n),(6,rL 8 qc t6),(7,rI t7),(8,rI t8)],[],0,18⟩=(zn (Jb t6 t7) (n,t8)).bind (fun(e:Int)=>some (Exit.exit 0,⟨[(3,rI e)],[],0,18⟩)):=
 fun n t6 t7 t8=>by
  revert t8;revert n;exact qab qE3 qDe (fun e=>by exact⟨_,rfl,fun h=>by cases h⟩) fun n t8=>by
   have:=qKL;have:=@qnL.eq_1;have:=@Jb.eq_1;exact gA
def q1a (l:List qa):Option Int:=Option.bind (zn (Jb l ((l.length:Nat):Int)) (0,0)) fun(a:Int)=>some a
theorem q9H:∀(l:List qa),ev 30 0 [rL 8 qc l] []=(q1a l).bind (fun(e:Int)=>some (rI e,[])):=
 fun l=>by
  rw[qF qBV qLE.2.2.2 qKv]
  have:=qKL;have:=@q6M;have:=@q1a.eq_1;exact gA
theorem qHI:okL 27 qcJ:=qJ (qj qy2) (by kernel_rfl) (by kernel_rfl)
def qHH:=JA_ @qcJ.eq_1 (JA_ @Tryz.f27.eq_1 @qy2)
theorem qAt:lbO 27 2=qpK:=Qt (qj qy2) rfl
theorem qAB:okL 27 qpK:=zI qHI (qQy (i:=0) (by kernel_rfl))
theorem qyv:lbO 27 9=qnX:=Qt (qj qy2) rfl
theorem qAO:okL 27 qnX:=zI qHI (qQy (i:=1) (by kernel_rfl))
theorem qGU:okL 61 qcV:=qJ (qj qy7) (by kernel_rfl) (by kernel_rfl)
def qFN:=JA_ @qcV.eq_1 (JA_ @Tryz.f61.eq_1 @qy7)
theorem qAq:lbO 61 9=qn2:=Qt (qj qy7) rfl
theorem qCK:okL 61 qn2:=zI qGU (qQy (i:=0) (by kernel_rfl))
theorem qvA:lbO 61 14=qhd:=Qt (qj qy7) rfl
theorem qvO:okL 61 qhd:=zI qGU (qQy (i:=1) (by kernel_rfl))
theorem qLO:okL 96 qfM:=qJ (qj qyh) (by kernel_rfl) (by kernel_rfl)
def qLP:=JA_ @qfM.eq_1 (JA_ @Tryz.f96.eq_1 @qyh)
theorem qCe:lbO 96 2=qo0:=Qt (qj qyh) rfl
theorem qyH:okL 96 qo0:=zI qLO (qQy (i:=0) (by kernel_rfl))
def Ja (w1:List Int) (leaf:Int) (set0:Int) (t9:Int):Int→Option (Int⊕(Unit⊕Unit))|t10=>if t10<t9 then if 0≤t10∧t10<((w1.length:Nat):Int) then Option.bind w1[Int.toNat t10]? fun(a:Int)=>if 0≤t10 then if(!((Zq Go.BinOp.and IntKind.i64 (Int.fdiv set0 (2 ^ min (Int.toNat t10) (IntKind.bits IntKind.i64))) 1==1)==(a==leaf)))=Bool.true then some (Sum.inr (Sum.inl ())) else some (Sum.inl (w64 (t10+1))) else none else none else some (Sum.inr (Sum.inr ()))
theorem q70:∀(w1:List Int) (leaf set0 t9 t10:Int) (Jt:Nat),Jt=w1.length→XL2 evo 96 1 2 ⟨[(0,rI leaf),(1,rI set0),(8,rO 1 1 Jt),(9,rI t9),(10,rI t10)],[(0,B.blk 25 [dO 1 1 Jt]),(1,bR 3 1 eI w1)],2,25⟩=(zn (Ja w1 leaf set0 t9) t10).bind (Sum.elim (fun(e:Unit)=>some (Exit.ret,⟨[(5,rB Bool.false)],[(0,B.blk 25 [dO 1 1 w1.length]),(1,bR 3 1 eI w1)],2,25⟩)) (fun(e:Unit)=>some (Exit.exit 0,⟨[(5,R.any)],[(0,B.blk 25 [dO 1 1 w1.length]),(1,bR 3 1 eI w1)],2,25⟩))):=
 by
 intro w1 leaf set0 t9 t10 Jt h0
 subst h0
 revert t10;exact qcm qCe qyH (fun e=>by rcases e with _|_<;>exact⟨_,rfl,fun h=>by cases h⟩) fun x=>by
  have:=qLP;have:=@qo0.eq_1;have:=@Ja.eq_1;exact gA
def q0f (leaf:Int) (set0:Int) (w1:List Int):Option Bool:=Option.bind (zn (Ja w1 leaf set0 ((w1.length:Nat):Int)) 0) fun(a:Sum Unit Unit)=>Sum.elim (fun(a2:Unit)=>some Bool.false) (fun(a3:Unit)=>some Bool.true) a
theorem q4c:∀(leaf set0:Int) (w1:List Int) (Jt:Nat),Jt=w1.length→ev 96 1 [rI leaf,rI set0,rP 0] [(0,B.blk 25 [dO 1 1 Jt]),(1,bR 3 1 eI w1)]=(q0f leaf set0 w1).bind (fun(e:Bool)=>some (rB e,[(0,B.blk 25 [dO 1 1 w1.length]),(1,bR 3 1 eI w1)])):=
 by
 intro leaf set0 w1 Jt h0
 subst h0
 rw[qF qyh qLU.2.2.2 qLO]
 have:=qLP;have:=@q70;have:=@q0f.eq_1;exact gA
def qK (x:(qb×List Int×List qa×Int×qd)):List R×List (Nat×B):=([R.agg [C.d (D.int .i64 x.1.Kind),C.d (D.int .i64 x.1.N),C.d (D.int .i64 x.1.Min),C.d (D.sl 2 x.1.Set.length (x.1.Set.flatMap qf)),C.d (D.sl 5 x.1.L.length (x.1.L.flatMap qh))],R.c (C.ptr 0 0),R.c (C.ptr 1 0),R.c (C.ptr 3 0),R.c (C.ptr 4 0),R.c (C.ptr 5 0),R.c (C.ptr 6 0)],[(0,B.blk 30 [C.d (D.sl 8 x.2.2.1.length (x.2.2.1.flatMap qc))]),(1,B.blk 112 [C.fn 96 [] [C.ptr 2 0]]),(2,B.blk 25 [C.own 7 1 0 x.2.1.length]),(3,B.blk 3 [C.d (D.int .i64 x.2.2.2.1)]),(4,B.blk 44 [C.d (D.int .i64 x.2.2.2.2.Worst),C.d (D.int .i64 x.2.2.2.2.Best),C.d (D.int .i64 x.2.2.2.2.Pass)]),(5,B.blk 143 [C.fn 83 [] [C.ptr 0 0,C.ptr 1 0,C.ptr 3 0,C.ptr 4 0,C.ptr 5 0,C.ptr 6 0]]),(6,B.blk 112 [C.fn 97 [] [C.ptr 2 0]]),(7,B.row 3 1 ((x.2.1.flatMap eI).map C.d))])
def zK:(List Bool×List Int×List qa×Int×qd)→R×List (Nat×B):=fun(e:List Bool×List Int×List qa×Int×qd)=>(R.c (C.d (D.sl 1 e.1.length (e.1.flatMap eB))),[(0,B.blk 30 [C.d (D.sl 8 e.2.2.1.length (e.2.2.1.flatMap qc))]),(1,B.blk 112 [C.fn 96 [] [C.ptr 2 0]]),(2,B.blk 25 [C.own 7 1 0 e.2.1.length]),(3,B.blk 3 [C.d (D.int .i64 e.2.2.2.1)]),(4,B.blk 44 [C.d (D.int .i64 e.2.2.2.2.Worst),C.d (D.int .i64 e.2.2.2.2.Best),C.d (D.int .i64 e.2.2.2.2.Pass)]),(5,B.blk 143 [C.fn 83 [] [C.ptr 0 0,C.ptr 1 0,C.ptr 3 0,C.ptr 4 0,C.ptr 5 0,C.ptr 6 0]]),(6,B.blk 112 [C.fn 97 [] [C.ptr 2 0]]),(7,B.row 3 1 ((e.2.1.flatMap eI).map C.d))])
def ZK (rF:(qb×List Int×List qa×Int×qd)→Option (List Bool×List Int×List qa×Int×qd)) (w7:List Int) (b0:List qa) (b3:Int) (b4:qd) (b8:qb):(List Bool×Int)→Option ((List Bool×Int)⊕(List Bool))|(w9,b10)=>if b10<((w9.length:Nat):Int) then Option.bind (q0f b3 b10 w7) fun(a2:Bool)=>if a2=Bool.true then Option.bind (q0y b8 b4 b0 b10) fun(a3:qV)=>if 0≤b10∧b10<((w9.length:Nat):Int) then if Int.toNat b10+1≤w9.length then some (Sum.inl (List.set w9 (Int.toNat b10) (Qg a3 b8),w64 (b10+1))) else none else none else if 0≤b10∧b10<((w9.length:Nat):Int) then if Int.toNat b10+1≤w9.length then some (Sum.inl (List.set w9 (Int.toNat b10) Bool.false,w64 (b10+1))) else none else none else some (Sum.inr w9)
theorem q67 (rE:Orc) (rF:(qb×List Int×List qa×Int×qd)→Option (List Bool×List Int×List qa×Int×qd)) (hF:∀y,rE (.fn 83) 7 (qK y).1 (qK y).2=(rF y).bind fun e=>some (zK e)) (hM:∀g k a G,g≠83→rE (.fn g) k a G=ev g k a G) (hR:∀g asg bd k a G,rE (.rd g asg bd) k a G=evr g asg bd k a G):∀(w7:List Int) (w9:List Bool) (b0:List qa) (b3 Qs Zh Zi J0 qaz q0b:Int) (q0c:List qe) (qaA:List qb) (b10:Int) (Jj zp:Nat),Jj=w9.length→zp=w7.length→XL2 rE 83 7 5 ⟨[(1,rP 0),(2,rP 1),(3,rP 3),(4,rP 4),(7,rP 8),(9,rO 9 1 Jj),(10,R.c (C.fn 115 [] [])),(11,rP 10)],[(0,B.blk 30 [dL 8 qc b0]),(1,B.blk 112 [C.fn 96 [] [dP 2]]),(2,B.blk 25 [dO 7 1 zp]),(3,B.blk 3 [dI b3]),(4,B.blk 44 [dI Qs,dI Zh,dI Zi]),(5,B.blk 143 [C.fn 83 [] [dP 0,dP 1,dP 3,dP 4,dP 5,dP 6]]),(6,B.blk 112 [C.fn 97 [] [dP 2]]),(7,bR 3 1 eI w7),(8,B.blk 34 [dI J0,dI qaz,dI q0b,dL 2 qf q0c,dL 5 qh qaA]),(9,bR 4 1 eB w9),(10,B.blk 3 [dI b10])],11,142⟩=(zn (ZK rF w7 b0 b3 (qd.mk Qs Zh Zi) (qb.mk J0 qaz q0b q0c qaA)) (w9,b10)).bind (fun(e:List Bool)=>some (Exit.exit 0,⟨[(3,rP 3),(9,rO 8 1 e.length)],[(0,B.blk 30 [dL 8 qc b0]),(1,B.blk 112 [C.fn 96 [] [dP 2]]),(2,B.blk 25 [dO 7 1 w7.length]),(3,B.blk 3 [dI b3]),(4,B.blk 44 [dI Qs,dI Zh,dI Zi]),(5,B.blk 143 [C.fn 83 [] [dP 0,dP 1,dP 3,dP 4,dP 5,dP 6]]),(6,B.blk 112 [C.fn 97 [] [dP 2]]),(7,bR 3 1 eI w7),(8,bR 4 1 eB e)],9,142⟩)):=
 by
 intro w7 w9 b0 b3 Qs Zh Zi J0 qaz q0b q0c qaA b10 Jj zp h0 h1
 subst h0 h1
 revert b10;revert w9;exact qab qiM qkc (fun e=>by exact⟨_,rfl,fun h=>by cases h⟩) fun w9 b10=>by
  have hF':∀(qC JR za:Int) (zb:List qe) (JS:List qb) (w7:List Int) (v:List qa) (v2 qx qH qI:Int) (zp:Nat),zp=w7.length→rE (.fn 83) 7 [R.agg [dI qC,dI JR,dI za,dL 2 qf zb,dL 5 qh JS],rP 0,rP 1,rP 3,rP 4,rP 5,rP 6] [(0,B.blk 30 [dL 8 qc v]),(1,B.blk 112 [C.fn 96 [] [dP 2]]),(2,B.blk 25 [dO 7 1 zp]),(3,B.blk 3 [dI v2]),(4,B.blk 44 [dI qx,dI qH,dI qI]),(5,B.blk 143 [C.fn 83 [] [dP 0,dP 1,dP 3,dP 4,dP 5,dP 6]]),(6,B.blk 112 [C.fn 97 [] [dP 2]]),(7,bR 3 1 eI w7)]=(rF ((qb.mk qC JR za zb JS),w7,v,v2,(qd.mk qx qH qI))).bind (fun e=>some (rL 1 eB e.1,[(0,B.blk 30 [dL 8 qc e.2.2.1]),(1,B.blk 112 [C.fn 96 [] [dP 2]]),(2,B.blk 25 [dO 7 1 e.2.1.length]),(3,B.blk 3 [dI e.2.2.2.1]),(4,B.blk 44 [dI e.2.2.2.2.Worst,dI e.2.2.2.2.Best,dI e.2.2.2.2.Pass]),(5,B.blk 143 [C.fn 83 [] [dP 0,dP 1,dP 3,dP 4,dP 5,dP 6]]),(6,B.blk 112 [C.fn 97 [] [dP 2]]),(7,bR 3 1 eI e.2.1)])):=by intro qC JR za zb JS w7 v v2 qx qH qI zp h0;subst h0;exact hF ((qb.mk qC JR za zb JS),w7,v,v2,(qd.mk qx qH qI))
  have:=qjg;have:=@qdh.eq_1;have:=@q4c;have:=@q2b;have:=@q2L;have:=@ZK.eq_1;exact gA
def Zl (rF:(qb×List Int×List qa×Int×qd)→Option (List Bool×List Int×List qa×Int×qd)) (w7:List Int) (b0:List qa) (b3:Int) (b4:qd) (b8:qb):(List Bool×Int)→Option ((List Bool×Int)⊕(List Bool))|(w9,b10)=>if b10<((w9.length:Nat):Int) then Option.bind (q0f b3 b10 w7) fun(a2:Bool)=>if a2=Bool.true then Option.bind (q0y b8 b4 b0 b10) fun(a3:qV)=>if 0≤b10∧b10<((w9.length:Nat):Int) then if Int.toNat b10+1≤w9.length then some (Sum.inl (List.set w9 (Int.toNat b10) (QV a3 b8),w64 (b10+1))) else none else none else if 0≤b10∧b10<((w9.length:Nat):Int) then if Int.toNat b10+1≤w9.length then some (Sum.inl (List.set w9 (Int.toNat b10) Bool.false,w64 (b10+1))) else none else none else some (Sum.inr w9)
theorem q4M (rE:Orc) (rF:(qb×List Int×List qa×Int×qd)→Option (List Bool×List Int×List qa×Int×qd)) (hF:∀y,rE (.fn 83) 7 (qK y).1 (qK y).2=(rF y).bind fun e=>some (zK e)) (hM:∀g k a G,g≠83→rE (.fn g) k a G=ev g k a G) (hR:∀g asg bd k a G,rE (.rd g asg bd) k a G=evr g asg bd k a G):∀(w7:List Int) (w9:List Bool) (b0:List qa) (b3 Qs Zh Zi J0 qaz q0b:Int) (q0c:List qe) (qaA:List qb) (b10:Int) (Jj zp:Nat),Jj=w9.length→zp=w7.length→XL2 rE 83 7 5 ⟨[(1,rP 0),(2,rP 1),(3,rP 3),(4,rP 4),(7,rP 8),(9,rO 9 1 Jj),(10,R.c (C.fn 116 [] [])),(11,rP 10)],[(0,B.blk 30 [dL 8 qc b0]),(1,B.blk 112 [C.fn 96 [] [dP 2]]),(2,B.blk 25 [dO 7 1 zp]),(3,B.blk 3 [dI b3]),(4,B.blk 44 [dI Qs,dI Zh,dI Zi]),(5,B.blk 143 [C.fn 83 [] [dP 0,dP 1,dP 3,dP 4,dP 5,dP 6]]),(6,B.blk 112 [C.fn 97 [] [dP 2]]),(7,bR 3 1 eI w7),(8,B.blk 34 [dI J0,dI qaz,dI q0b,dL 2 qf q0c,dL 5 qh qaA]),(9,bR 4 1 eB w9),(10,B.blk 3 [dI b10])],11,142⟩=(zn (Zl rF w7 b0 b3 (qd.mk Qs Zh Zi) (qb.mk J0 qaz q0b q0c qaA)) (w9,b10)).bind (fun(e:List Bool)=>some (Exit.exit 0,⟨[(3,rP 3),(9,rO 8 1 e.length)],[(0,B.blk 30 [dL 8 qc b0]),(1,B.blk 112 [C.fn 96 [] [dP 2]]),(2,B.blk 25 [dO 7 1 w7.length]),(3,B.blk 3 [dI b3]),(4,B.blk 44 [dI Qs,dI Zh,dI Zi]),(5,B.blk 143 [C.fn 83 [] [dP 0,dP 1,dP 3,dP 4,dP 5,dP 6]]),(6,B.blk 112 [C.fn 97 [] [dP 2]]),(7,bR 3 1 eI w7),(8,bR 4 1 eB e)],9,142⟩)):=
 by
 intro w7 w9 b0 b3 Qs Zh Zi J0 qaz q0b q0c qaA b10 Jj zp h0 h1
 subst h0 h1
 revert b10;revert w9;exact qab qiM qkc (fun e=>by exact⟨_,rfl,fun h=>by cases h⟩) fun w9 b10=>by
  have hF':∀(qC JR za:Int) (zb:List qe) (JS:List qb) (w7:List Int) (v:List qa) (v2 qx qH qI:Int) (zp:Nat),zp=w7.length→rE (.fn 83) 7 [R.agg [dI qC,dI JR,dI za,dL 2 qf zb,dL 5 qh JS],rP 0,rP 1,rP 3,rP 4,rP 5,rP 6] [(0,B.blk 30 [dL 8 qc v]),(1,B.blk 112 [C.fn 96 [] [dP 2]]),(2,B.blk 25 [dO 7 1 zp]),(3,B.blk 3 [dI v2]),(4,B.blk 44 [dI qx,dI qH,dI qI]),(5,B.blk 143 [C.fn 83 [] [dP 0,dP 1,dP 3,dP 4,dP 5,dP 6]]),(6,B.blk 112 [C.fn 97 [] [dP 2]]),(7,bR 3 1 eI w7)]=(rF ((qb.mk qC JR za zb JS),w7,v,v2,(qd.mk qx qH qI))).bind (fun e=>some (rL 1 eB e.1,[(0,B.blk 30 [dL 8 qc e.2.2.1]),(1,B.blk 112 [C.fn 96 [] [dP 2]]),(2,B.blk 25 [dO 7 1 e.2.1.length]),(3,B.blk 3 [dI e.2.2.2.1]),(4,B.blk 44 [dI e.2.2.2.2.Worst,dI e.2.2.2.2.Best,dI e.2.2.2.2.Pass]),(5,B.blk 143 [C.fn 83 [] [dP 0,dP 1,dP 3,dP 4,dP 5,dP 6]]),(6,B.blk 112 [C.fn 97 [] [dP 2]]),(7,bR 3 1 eI e.2.1)])):=by intro qC JR za zb JS w7 v v2 qx qH qI zp h0;subst h0;exact hF ((qb.mk qC JR za zb JS),w7,v,v2,(qd.mk qx qH qI))
  have:=qjg;have:=@qdh.eq_1;have:=@q4c;have:=@q2b;have:=@q4n;have:=@Zl.eq_1;exact gA
def QZ (rF:(qb×List Int×List qa×Int×qd)→Option (List Bool×List Int×List qa×Int×qd)) (w7:List Int) (w9:List Bool) (b0:List qa) (b3:Int) (b4:qd) (b8:qb):(List Int×Int)→Option ((List Int×Int)⊕(List Int))|(w11,t13)=>if t13<((w11.length:Nat):Int) then if 0≤t13∧t13<((w11.length:Nat):Int) then if Int.toNat t13+1≤w11.length then some (Sum.inl (List.set w11 (Int.toNat t13) (-1),w64 (t13+1))) else none else none else some (Sum.inr w11)
theorem q5s (rE:Orc) (rF:(qb×List Int×List qa×Int×qd)→Option (List Bool×List Int×List qa×Int×qd)) (hF:∀y,rE (.fn 83) 7 (qK y).1 (qK y).2=(rF y).bind fun e=>some (zK e)) (hM:∀g k a G,g≠83→rE (.fn g) k a G=ev g k a G) (hR:∀g asg bd k a G,rE (.rd g asg bd) k a G=evr g asg bd k a G):∀(w7:List Int) (w9:List Bool) (w11:List Int) (b0:List qa) (b3 Qs Zh Zi J0 qaz q0b:Int) (q0c:List qe) (qaA:List qb) (t13:Int) (Jj zp q3z:Nat),Jj=w9.length→zp=w7.length→q3z=w11.length→XL2 rE 83 7 14 ⟨[(3,rP 3),(5,rP 5),(6,rP 6),(7,rP 8),(9,rO 9 1 Jj),(12,rP 10),(13,rI t13)],[(0,B.blk 30 [dL 8 qc b0]),(1,B.blk 112 [C.fn 96 [] [dP 2]]),(2,B.blk 25 [dO 7 1 zp]),(3,B.blk 3 [dI b3]),(4,B.blk 44 [dI Qs,dI Zh,dI Zi]),(5,B.blk 143 [C.fn 83 [] [dP 0,dP 1,dP 3,dP 4,dP 5,dP 6]]),(6,B.blk 112 [C.fn 97 [] [dP 2]]),(7,bR 3 1 eI w7),(8,B.blk 34 [dI J0,dI qaz,dI q0b,dL 2 qf q0c,dL 5 qh qaA]),(9,bR 4 1 eB w9),(10,B.blk 150 [dO 11 1 q3z]),(11,bR 3 1 eI w11)],12,142⟩=(zn (QZ rF w7 w9 b0 b3 (qd.mk Qs Zh Zi) (qb.mk J0 qaz q0b q0c qaA)) (w11,t13)).bind (fun(e:List Int)=>some (Exit.exit 2,⟨[(3,rP 3),(5,rP 5),(6,rP 6),(7,rP 8),(9,rO 9 1 w9.length),(12,rP 10)],[(0,B.blk 30 [dL 8 qc b0]),(1,B.blk 112 [C.fn 96 [] [dP 2]]),(2,B.blk 25 [dO 7 1 w7.length]),(3,B.blk 3 [dI b3]),(4,B.blk 44 [dI Qs,dI Zh,dI Zi]),(5,B.blk 143 [C.fn 83 [] [dP 0,dP 1,dP 3,dP 4,dP 5,dP 6]]),(6,B.blk 112 [C.fn 97 [] [dP 2]]),(7,bR 3 1 eI w7),(8,B.blk 34 [dI J0,dI qaz,dI q0b,dL 2 qf q0c,dL 5 qh qaA]),(9,bR 4 1 eB w9),(10,B.blk 150 [dO 11 1 e.length]),(11,bR 3 1 eI e)],12,142⟩)):=
 by
 intro w7 w9 w11 b0 b3 Qs Zh Zi J0 qaz q0b q0c qaA t13 Jj zp q3z h0 h1 h2
 subst h0 h1 h2
 revert t13;revert w11;exact qab qmQ qnB (fun e=>by exact⟨_,rfl,fun h=>by cases h⟩) fun w11 t13=>by
  have hF':∀(qC JR za:Int) (zb:List qe) (JS:List qb) (w7:List Int) (v:List qa) (v2 qx qH qI:Int) (zp:Nat),zp=w7.length→rE (.fn 83) 7 [R.agg [dI qC,dI JR,dI za,dL 2 qf zb,dL 5 qh JS],rP 0,rP 1,rP 3,rP 4,rP 5,rP 6] [(0,B.blk 30 [dL 8 qc v]),(1,B.blk 112 [C.fn 96 [] [dP 2]]),(2,B.blk 25 [dO 7 1 zp]),(3,B.blk 3 [dI v2]),(4,B.blk 44 [dI qx,dI qH,dI qI]),(5,B.blk 143 [C.fn 83 [] [dP 0,dP 1,dP 3,dP 4,dP 5,dP 6]]),(6,B.blk 112 [C.fn 97 [] [dP 2]]),(7,bR 3 1 eI w7)]=(rF ((qb.mk qC JR za zb JS),w7,v,v2,(qd.mk qx qH qI))).bind (fun e=>some (rL 1 eB e.1,[(0,B.blk 30 [dL 8 qc e.2.2.1]),(1,B.blk 112 [C.fn 96 [] [dP 2]]),(2,B.blk 25 [dO 7 1 e.2.1.length]),(3,B.blk 3 [dI e.2.2.2.1]),(4,B.blk 44 [dI e.2.2.2.2.Worst,dI e.2.2.2.2.Best,dI e.2.2.2.2.Pass]),(5,B.blk 143 [C.fn 83 [] [dP 0,dP 1,dP 3,dP 4,dP 5,dP 6]]),(6,B.blk 112 [C.fn 97 [] [dP 2]]),(7,bR 3 1 eI e.2.1)])):=by intro qC JR za zb JS w7 v v2 qx qH qI zp h0;subst h0;exact hF ((qb.mk qC JR za zb JS),w7,v,v2,(qd.mk qx qH qI))
  have:=qjg;have:=@qdR.eq_1;have:=@QZ.eq_1;exact gA
theorem qPi:okL 97 qii:=qJ (qj qFD) (by kernel_rfl) (by kernel_rfl)
def qOk:=JA_ @qii.eq_1 (JA_ @Tryz.f97.eq_1 @qFD)
theorem qNQ:okL 98 qiW:=qJ (qj qEM) (by kernel_rfl) (by kernel_rfl)
def qPd:=JA_ @qiW.eq_1 (JA_ @Tryz.f98.eq_1 @qEM)
def q1g (x:Int) (v:Int) (v2:Int):Option Bool:=if v≤x then some (decide (x<v2)) else some Bool.false
def Jq (x:Int) (v:Int) (v2:Int):Bool:=if v≤x then decide (x<v2) else Bool.false
theorem q6O (x v v2:Int):q1g x v v2=some (Jq x v v2):=by
 unfold q1g Jq
 simp only[Zb]
theorem q7y:∀(x v v2:Int),ev 98 2 [rI x,rP 0,rP 1] [(0,B.blk 3 [dI v]),(1,B.blk 3 [dI v2])]=some (rB (Jq x v v2),[(0,B.blk 3 [dI v]),(1,B.blk 3 [dI v2])]):=
 fun x v v2=>by
  have h:ev 98 2 [rI x,rP 0,rP 1] [(0,B.blk 3 [dI v]),(1,B.blk 3 [dI v2])]=(q1g x v v2).bind (fun(e:Bool)=>some (rB e,[(0,B.blk 3 [dI v]),(1,B.blk 3 [dI v2])])):=by
   rw[qF qEM qKH.2.2.2 qNQ]
   have:=qPd;have:=@q1g.eq_1;exact gA
  rw[q6O] at h
  exact h
def zJ (b0:Int) (b1:Int) (s:List Int) (t7:Int):Int→Option (Int⊕(Int⊕Unit))|t8=>if t8<t7 then if 0≤t8∧t8<((s.length:Nat):Int) then Option.bind s[Int.toNat t8]? fun(a:Int)=>if Jq a b0 b1=Bool.true then some (Sum.inr (Sum.inl t8)) else some (Sum.inl (w64 (t8+1))) else none else some (Sum.inr (Sum.inr ()))
theorem q1y:∀(b0 b1:Int) (s:List Int) (t7 t8:Int),XL2 evo 74 2 2 ⟨[(0,rL 1 eI s),(1,R.c (C.fn 98 [] [dP 0,dP 1])),(7,rI t7),(8,rI t8)],[(0,B.blk 3 [dI b0]),(1,B.blk 3 [dI b1])],2,19⟩=(zn (zJ b0 b1 s t7) t8).bind (Sum.elim (fun(e:Int)=>some (Exit.ret,⟨[(4,rI e)],[(0,B.blk 3 [dI b0]),(1,B.blk 3 [dI b1])],2,19⟩)) (fun(e:Unit)=>some (Exit.exit 0,⟨[(4,R.any)],[(0,B.blk 3 [dI b0]),(1,B.blk 3 [dI b1])],2,19⟩))):=
 fun b0 b1 s t7 t8=>by
  revert t8;exact qcm qpO qo9 (fun e=>by rcases e with _|_<;>exact⟨_,rfl,fun h=>by cases h⟩) fun x=>by
   have:=qxY;have:=@qgl.eq_1;have:=@q7y;have:=@zJ.eq_1;exact gA
def Za (s:List Int) (b0:Int) (b1:Int):Option Int:=Option.bind (zn (zJ b0 b1 s ((s.length:Nat):Int)) 0) fun(a:Sum Int Unit)=>Sum.elim (fun(a2:Int)=>some a2) (fun(a3:Unit)=>some (-1)) a
theorem q23:∀(s:List Int) (b0 b1:Int),ev 74 2 [rL 1 eI s,R.c (C.fn 98 [] [dP 0,dP 1])] [(0,B.blk 3 [dI b0]),(1,B.blk 3 [dI b1])]=(Za s b0 b1).bind (fun(e:Int)=>some (rI e,[(0,B.blk 3 [dI b0]),(1,B.blk 3 [dI b1])])):=
 fun s b0 b1=>by
  rw[qF qvD qFp.2.2.2 qEB]
  have:=qxY;have:=@q1y;have:=@Za.eq_1;exact gA
def QG (s:List Int) (b0:Int) (b1:Int):Option Bool:=Option.bind (Za s b0 b1) fun(a:Int)=>some (decide (0≤a))
theorem q1z:∀(s:List Int) (b0 b1:Int),ev 46 2 [rL 1 eI s,R.c (C.fn 98 [] [dP 0,dP 1])] [(0,B.blk 3 [dI b0]),(1,B.blk 3 [dI b1])]=(QG s b0 b1).bind (fun(e:Bool)=>some (rB e,[(0,B.blk 3 [dI b0]),(1,B.blk 3 [dI b1])])):=
 fun s b0 b1=>by
  rw[qF qy9 qFc.2.2.2 qIp]
  have:=qIQ;have:=@q23;have:=@QG.eq_1;exact gA
def q15 (from0:Int) (to:Int) (w1:List Int):Option Bool:=Option.bind (QG w1 from0 to) fun(a:Bool)=>some a
theorem q8P:∀(from0 to:Int) (w1:List Int) (Jt:Nat),Jt=w1.length→ev 97 1 [rI from0,rI to,rP 0] [(0,B.blk 25 [dO 1 1 Jt]),(1,bR 3 1 eI w1)]=(q15 from0 to w1).bind (fun(e:Bool)=>some (rB e,[(0,B.blk 25 [dO 1 1 w1.length]),(1,bR 3 1 eI w1)])):=
 by
 intro from0 to w1 Jt h0
 subst h0
 rw[qF qFD qL8.2.2.2 qPi]
 have:=qOk;have:=@q1z;have:=@q15.eq_1;exact gA
def Qx (rF:(qb×List Int×List qa×Int×qd)→Option (List Bool×List Int×List qa×Int×qd)) (w7:List Int) (w9:List Bool) (w11:List Int) (b0:List qa) (b3:Int) (b4:qd) (b8:qb) (b12:List Bool) (t18:Bool) (t72:List qb) (t73:Int) (t74:Int) (t96:Int):(List Int×Int)→Option ((List Int×Int)⊕(List Int))|(w14,t97)=>if t97<t96 then if 0≤t97∧t97<((w14.length:Nat):Int) then if Int.toNat t97+1≤w14.length then if t18=Bool.true then if 0≤t97∧t97<((w11.length:Nat):Int) then Option.bind w11[Int.toNat t97]? fun(a2:Int)=>if 0≤t97∧t97<((w14.length:Nat):Int) then if Int.toNat t97+1≤w14.length then Option.bind (zO t97 w11 (List.set (List.set w14 (Int.toNat t97) (-1)) (Int.toNat t97) a2) b12 t97) fun(a3:List Int)=>some (Sum.inl (a3,w64 (t97+1))) else none else none else none else Option.bind (zO t97 w11 (List.set w14 (Int.toNat t97) (-1)) b12 t97) fun(a4:List Int)=>some (Sum.inl (a4,w64 (t97+1))) else none else none else some (Sum.inr w14)
theorem q5k (rE:Orc) (rF:(qb×List Int×List qa×Int×qd)→Option (List Bool×List Int×List qa×Int×qd)) (hF:∀y,rE (.fn 83) 7 (qK y).1 (qK y).2=(rF y).bind fun e=>some (zK e)) (hM:∀g k a G,g≠83→rE (.fn g) k a G=ev g k a G) (hR:∀g asg bd k a G,rE (.rd g asg bd) k a G=evr g asg bd k a G):∀(w7:List Int) (w9:List Bool) (w11 w14:List Int) (b0:List qa) (b3 Qs Zh Zi J0 qaz q0b:Int) (q0c:List qe) (qaA:List qb) (b12:List Bool) (t18:Bool) (t72:List qb) (t73 t74 t96 t97:Int) (Jj zp q3z qi6:Nat),Jj=w9.length→zp=w7.length→q3z=w11.length→qi6=w14.length→XL2 rE 83 7 25 ⟨[(3,rP 3),(5,rP 5),(6,rP 6),(7,rP 8),(9,rO 9 1 Jj),(12,rP 10),(17,rP 12),(18,rB t18),(19,rP 13),(72,rL 5 qh t72),(73,rI t73),(74,rI t74),(96,rI t96),(97,rI t97)],[(0,B.blk 30 [dL 8 qc b0]),(1,B.blk 112 [C.fn 96 [] [dP 2]]),(2,B.blk 25 [dO 7 1 zp]),(3,B.blk 3 [dI b3]),(4,B.blk 44 [dI Qs,dI Zh,dI Zi]),(5,B.blk 143 [C.fn 83 [] [dP 0,dP 1,dP 3,dP 4,dP 5,dP 6]]),(6,B.blk 112 [C.fn 97 [] [dP 2]]),(7,bR 3 1 eI w7),(8,B.blk 34 [dI J0,dI qaz,dI q0b,dL 2 qf q0c,dL 5 qh qaA]),(9,bR 4 1 eB w9),(10,B.blk 150 [dO 11 1 q3z]),(11,bR 3 1 eI w11),(12,B.blk 113 [dL 1 eB b12]),(13,B.blk 150 [dO 14 1 qi6]),(14,bR 3 1 eI w14)],15,142⟩=(zn (Qx rF w7 w9 w11 b0 b3 (qd.mk Qs Zh Zi) (qb.mk J0 qaz q0b q0c qaA) b12 t18 t72 t73 t74 t96) (w14,t97)).bind (fun(e:List Int)=>some (Exit.exit 6,⟨[(3,rP 3),(5,rP 5),(6,rP 6),(7,rP 8),(9,rO 9 1 w9.length),(12,rP 10),(19,rP 12),(72,rL 5 qh t72),(73,rI t73),(74,rI t74)],[(0,B.blk 30 [dL 8 qc b0]),(1,B.blk 112 [C.fn 96 [] [dP 2]]),(2,B.blk 25 [dO 7 1 w7.length]),(3,B.blk 3 [dI b3]),(4,B.blk 44 [dI Qs,dI Zh,dI Zi]),(5,B.blk 143 [C.fn 83 [] [dP 0,dP 1,dP 3,dP 4,dP 5,dP 6]]),(6,B.blk 112 [C.fn 97 [] [dP 2]]),(7,bR 3 1 eI w7),(8,B.blk 34 [dI J0,dI qaz,dI q0b,dL 2 qf q0c,dL 5 qh qaA]),(9,bR 4 1 eB w9),(10,B.blk 150 [dO 11 1 w11.length]),(11,bR 3 1 eI w11),(12,B.blk 150 [dO 13 1 e.length]),(13,bR 3 1 eI e)],14,142⟩)):=
 by
 intro w7 w9 w11 w14 b0 b3 Qs Zh Zi J0 qaz q0b q0c qaA b12 t18 t72 t73 t74 t96 t97 Jj zp q3z qi6 h0 h1 h2 h3
 subst h0 h1 h2 h3
 revert t97;revert w14;exact qab qll qnz (fun e=>by exact⟨_,rfl,fun h=>by cases h⟩) fun w14 t97=>by
  have hF':∀(qC JR za:Int) (zb:List qe) (JS:List qb) (w7:List Int) (v:List qa) (v2 qx qH qI:Int) (zp:Nat),zp=w7.length→rE (.fn 83) 7 [R.agg [dI qC,dI JR,dI za,dL 2 qf zb,dL 5 qh JS],rP 0,rP 1,rP 3,rP 4,rP 5,rP 6] [(0,B.blk 30 [dL 8 qc v]),(1,B.blk 112 [C.fn 96 [] [dP 2]]),(2,B.blk 25 [dO 7 1 zp]),(3,B.blk 3 [dI v2]),(4,B.blk 44 [dI qx,dI qH,dI qI]),(5,B.blk 143 [C.fn 83 [] [dP 0,dP 1,dP 3,dP 4,dP 5,dP 6]]),(6,B.blk 112 [C.fn 97 [] [dP 2]]),(7,bR 3 1 eI w7)]=(rF ((qb.mk qC JR za zb JS),w7,v,v2,(qd.mk qx qH qI))).bind (fun e=>some (rL 1 eB e.1,[(0,B.blk 30 [dL 8 qc e.2.2.1]),(1,B.blk 112 [C.fn 96 [] [dP 2]]),(2,B.blk 25 [dO 7 1 e.2.1.length]),(3,B.blk 3 [dI e.2.2.2.1]),(4,B.blk 44 [dI e.2.2.2.2.Worst,dI e.2.2.2.2.Best,dI e.2.2.2.2.Pass]),(5,B.blk 143 [C.fn 83 [] [dP 0,dP 1,dP 3,dP 4,dP 5,dP 6]]),(6,B.blk 112 [C.fn 97 [] [dP 2]]),(7,bR 3 1 eI e.2.1)])):=by intro qC JR za zb JS w7 v v2 qx qH qI zp h0;subst h0;exact hF ((qb.mk qC JR za zb JS),w7,v,v2,(qd.mk qx qH qI))
  have:=qjg;have:=@qe9.eq_1;have:=@q1G;have:=@Qx.eq_1;exact gA
end
noncomputable section
open Go.RowKit
set_option maxRecDepth 20000
set_option maxHeartbeats 8000000
def Qz (rF:(qb×List Int×List qa×Int×qd)→Option (List Bool×List Int×List qa×Int×qd)) (w9:List Bool) (b8:qb) (t72:List qb) (t73:Int):(List Int×List Int×List qa×Int×qd×Int)→Option ((List Int×List Int×List qa×Int×qd×Int)⊕(List Int×List Int×List qa×Int×qd))|(w7,w11,b0,b3,b4,t74)=>if t74<t73 then if 0≤t74∧t74<((t72.length:Nat):Int) then Option.bind t72[Int.toNat t74]? fun(a2:qb)=>Option.bind (rF (a2,(w7,(b0,(b3,b4))))) fun(a3:Prod (List Bool) (Prod (List Int) (Prod (List qa) (Prod Int qd))))=>if(b8.Kind==4)=Bool.true then Option.bind (q15 b3 a3.2.2.2.1 a3.2.1) fun(a4:Bool)=>if 0≤((w11.length:Nat):Int)∧8*((w11.length:Nat):Int)≤281474976710656∧((w11.length:Nat):Int)≤9223372036854775807 then Option.bind (zn (Qx rF a3.2.1 w9 w11 a3.2.2.1 a3.2.2.2.1 a3.2.2.2.2 b8 a3.1 (!a4) t72 t73 t74 ((w11.length:Nat):Int)) (List.replicate w11.length 0,0)) fun(a5:List Int)=>some (Sum.inl (a3.2.1,a5,a3.2.2.1,a3.2.2.2.1,a3.2.2.2.2,w64 (t74+1))) else none else if 0≤((w11.length:Nat):Int)∧8*((w11.length:Nat):Int)≤281474976710656∧((w11.length:Nat):Int)≤9223372036854775807 then Option.bind (zn (Qx rF a3.2.1 w9 w11 a3.2.2.1 a3.2.2.2.1 a3.2.2.2.2 b8 a3.1 Bool.false t72 t73 t74 ((w11.length:Nat):Int)) (List.replicate w11.length 0,0)) fun(a6:List Int)=>some (Sum.inl (a3.2.1,a6,a3.2.2.1,a3.2.2.2.1,a3.2.2.2.2,w64 (t74+1))) else none else none else some (Sum.inr (w7,w11,b0,b3,b4))
theorem q5w (rE:Orc) (rF:(qb×List Int×List qa×Int×qd)→Option (List Bool×List Int×List qa×Int×qd)) (hF:∀y,rE (.fn 83) 7 (qK y).1 (qK y).2=(rF y).bind fun e=>some (zK e)) (hM:∀g k a G,g≠83→rE (.fn g) k a G=ev g k a G) (hR:∀g asg bd k a G,rE (.rd g asg bd) k a G=evr g asg bd k a G):∀(w7:List Int) (w9:List Bool) (w11:List Int) (b0:List qa) (b3 Qs Zh Zi J0 qaz q0b:Int) (q0c:List qe) (qaA t72:List qb) (t73 t74:Int) (Jj zp q3z:Nat),Jj=w9.length→zp=w7.length→q3z=w11.length→XL2 rE 83 7 18 ⟨[(3,rP 3),(5,rP 5),(6,rP 6),(7,rP 8),(9,rO 9 1 Jj),(12,rP 10),(72,rL 5 qh t72),(73,rI t73),(74,rI t74)],[(0,B.blk 30 [dL 8 qc b0]),(1,B.blk 112 [C.fn 96 [] [dP 2]]),(2,B.blk 25 [dO 7 1 zp]),(3,B.blk 3 [dI b3]),(4,B.blk 44 [dI Qs,dI Zh,dI Zi]),(5,B.blk 143 [C.fn 83 [] [dP 0,dP 1,dP 3,dP 4,dP 5,dP 6]]),(6,B.blk 112 [C.fn 97 [] [dP 2]]),(7,bR 3 1 eI w7),(8,B.blk 34 [dI J0,dI qaz,dI q0b,dL 2 qf q0c,dL 5 qh qaA]),(9,bR 4 1 eB w9),(10,B.blk 150 [dO 11 1 q3z]),(11,bR 3 1 eI w11)],12,142⟩=(zn (Qz rF w9 (qb.mk J0 qaz q0b q0c qaA) t72 t73) (w7,w11,b0,b3,(qd.mk Qs Zh Zi),t74)).bind (fun(e:List Int×List Int×List qa×Int×qd)=>some (Exit.exit 4,⟨[(7,rP 8),(9,rO 9 1 w9.length),(12,rP 10)],[(0,B.blk 30 [dL 8 qc e.2.2.1]),(1,B.blk 112 [C.fn 96 [] [dP 2]]),(2,B.blk 25 [dO 7 1 e.1.length]),(3,B.blk 3 [dI e.2.2.2.1]),(4,B.blk 44 [dI e.2.2.2.2.Worst,dI e.2.2.2.2.Best,dI e.2.2.2.2.Pass]),(5,B.blk 143 [C.fn 83 [] [dP 0,dP 1,dP 3,dP 4,dP 5,dP 6]]),(6,B.blk 112 [C.fn 97 [] [dP 2]]),(7,bR 3 1 eI e.1),(8,B.blk 34 [dI J0,dI qaz,dI q0b,dL 2 qf q0c,dL 5 qh qaA]),(9,bR 4 1 eB w9),(10,B.blk 150 [dO 11 1 e.2.1.length]),(11,bR 3 1 eI e.2.1)],12,142⟩)):=
 by
 intro w7 w9 w11 b0 b3 Qs Zh Zi J0 qaz q0b q0c qaA t72 t73 t74 Jj zp q3z h0 h1 h2
 subst h0 h1 h2
 have h:=q9C (E:=rE) (f:=83) (k:=7) (st:=fun x:List Int×List Int×List qa×Int×qd×Int=>(⟨[(3,rP 3),(5,rP 5),(6,rP 6),(7,rP 8),(9,rO 9 1 w9.length),(12,rP 10),(72,rL 5 qh t72),(73,rI t73),(74,rI x.2.2.2.2.2)],[(0,B.blk 30 [dL 8 qc x.2.2.1]),(1,B.blk 112 [C.fn 96 [] [dP 2]]),(2,B.blk 25 [dO 7 1 x.1.length]),(3,B.blk 3 [dI x.2.2.2.1]),(4,B.blk 44 [dI x.2.2.2.2.1.Worst,dI x.2.2.2.2.1.Best,dI x.2.2.2.2.1.Pass]),(5,B.blk 143 [C.fn 83 [] [dP 0,dP 1,dP 3,dP 4,dP 5,dP 6]]),(6,B.blk 112 [C.fn 97 [] [dP 2]]),(7,bR 3 1 eI x.1),(8,B.blk 34 [dI J0,dI qaz,dI q0b,dL 2 qf q0c,dL 5 qh qaA]),(9,bR 4 1 eB w9),(10,B.blk 150 [dO 11 1 x.2.1.length]),(11,bR 3 1 eI x.2.1)],12,142⟩:S)) (ex:=fun(e:List Int×List Int×List qa×Int×qd)=>(Exit.exit 4,⟨[(7,rP 8),(9,rO 9 1 w9.length),(12,rP 10)],[(0,B.blk 30 [dL 8 qc e.2.2.1]),(1,B.blk 112 [C.fn 96 [] [dP 2]]),(2,B.blk 25 [dO 7 1 e.1.length]),(3,B.blk 3 [dI e.2.2.2.1]),(4,B.blk 44 [dI e.2.2.2.2.Worst,dI e.2.2.2.2.Best,dI e.2.2.2.2.Pass]),(5,B.blk 143 [C.fn 83 [] [dP 0,dP 1,dP 3,dP 4,dP 5,dP 6]]),(6,B.blk 112 [C.fn 97 [] [dP 2]]),(7,bR 3 1 eI e.1),(8,B.blk 34 [dI J0,dI qaz,dI q0b,dL 2 qf q0c,dL 5 qh qaA]),(9,bR 4 1 eB w9),(10,B.blk 150 [dO 11 1 e.2.1.length]),(11,bR 3 1 eI e.2.1)],12,142⟩)) (step:=(Qz rF w9 (qb.mk J0 qaz q0b q0c qaA) t72 t73)) qlq qob (fun e h=>by cases h) (fun x=>by
  obtain⟨w7,w11,b0,b3,b4,t74⟩:=x;have hF':∀(qC JR za:Int) (zb:List qe) (JS:List qb) (w7:List Int) (v:List qa) (v2 qx qH qI:Int) (zp:Nat),zp=w7.length→rE (.fn 83) 7 [R.agg [dI qC,dI JR,dI za,dL 2 qf zb,dL 5 qh JS],rP 0,rP 1,rP 3,rP 4,rP 5,rP 6] [(0,B.blk 30 [dL 8 qc v]),(1,B.blk 112 [C.fn 96 [] [dP 2]]),(2,B.blk 25 [dO 7 1 zp]),(3,B.blk 3 [dI v2]),(4,B.blk 44 [dI qx,dI qH,dI qI]),(5,B.blk 143 [C.fn 83 [] [dP 0,dP 1,dP 3,dP 4,dP 5,dP 6]]),(6,B.blk 112 [C.fn 97 [] [dP 2]]),(7,bR 3 1 eI w7)]=(rF ((qb.mk qC JR za zb JS),w7,v,v2,(qd.mk qx qH qI))).bind (fun e=>some (rL 1 eB e.1,[(0,B.blk 30 [dL 8 qc e.2.2.1]),(1,B.blk 112 [C.fn 96 [] [dP 2]]),(2,B.blk 25 [dO 7 1 e.2.1.length]),(3,B.blk 3 [dI e.2.2.2.1]),(4,B.blk 44 [dI e.2.2.2.2.Worst,dI e.2.2.2.2.Best,dI e.2.2.2.2.Pass]),(5,B.blk 143 [C.fn 83 [] [dP 0,dP 1,dP 3,dP 4,dP 5,dP 6]]),(6,B.blk 112 [C.fn 97 [] [dP 2]]),(7,bR 3 1 eI e.2.1)])):=by intro qC JR za zb JS w7 v v2 qx qH qI zp h0;subst h0;exact hF ((qb.mk qC JR za zb JS),w7,v,v2,(qd.mk qx qH qI))
  have:=qjg;have:=@qeg.eq_1;have:=@q8P;have:=q5k rE rF hF hM hR;have:=@Qz.eq_1;exact gA) (w7,w11,b0,b3,(qd.mk Qs Zh Zi),t74)
 exact h
def QA (rF:(qb×List Int×List qa×Int×qd)→Option (List Bool×List Int×List qa×Int×qd)) (w7:List Int) (w10:List Int) (b0:List qa) (b3:Int) (b4:qd) (t21:Int):(List Bool×Int)→Option ((List Bool×Int)⊕(List Bool))|(w8,t22)=>if t22<((w8.length:Nat):Int) then if 0≤t22∧t22<((w10.length:Nat):Int) then Option.bind w10[Int.toNat t22]? fun(a2:Int)=>if 0≤t22∧t22<((w8.length:Nat):Int) then if Int.toNat t22+1≤w8.length then some (Sum.inl (List.set w8 (Int.toNat t22) (decide (t21≤a2)),w64 (t22+1))) else none else none else none else some (Sum.inr w8)
theorem q5x (rE:Orc) (rF:(qb×List Int×List qa×Int×qd)→Option (List Bool×List Int×List qa×Int×qd)) (hF:∀y,rE (.fn 83) 7 (qK y).1 (qK y).2=(rF y).bind fun e=>some (zK e)) (hM:∀g k a G,g≠83→rE (.fn g) k a G=ev g k a G) (hR:∀g asg bd k a G,rE (.rd g asg bd) k a G=evr g asg bd k a G):∀(w7:List Int) (w8:List Bool) (w10:List Int) (b0:List qa) (b3 Qs Zh Zi t21 t22:Int) (qch zp qi7:Nat),qch=w8.length→zp=w7.length→qi7=w10.length→XL2 rE 83 7 38 ⟨[(9,rO 8 1 qch),(12,rP 9),(21,rI t21),(22,rI t22)],[(0,B.blk 30 [dL 8 qc b0]),(1,B.blk 112 [C.fn 96 [] [dP 2]]),(2,B.blk 25 [dO 7 1 zp]),(3,B.blk 3 [dI b3]),(4,B.blk 44 [dI Qs,dI Zh,dI Zi]),(5,B.blk 143 [C.fn 83 [] [dP 0,dP 1,dP 3,dP 4,dP 5,dP 6]]),(6,B.blk 112 [C.fn 97 [] [dP 2]]),(7,bR 3 1 eI w7),(8,bR 4 1 eB w8),(9,B.blk 150 [dO 10 1 qi7]),(10,bR 3 1 eI w10)],11,142⟩=(zn (QA rF w7 w10 b0 b3 (qd.mk Qs Zh Zi) t21) (w8,t22)).bind (fun(e:List Bool)=>some (Exit.exit 8,⟨[(9,rO 8 1 e.length)],[(0,B.blk 30 [dL 8 qc b0]),(1,B.blk 112 [C.fn 96 [] [dP 2]]),(2,B.blk 25 [dO 7 1 w7.length]),(3,B.blk 3 [dI b3]),(4,B.blk 44 [dI Qs,dI Zh,dI Zi]),(5,B.blk 143 [C.fn 83 [] [dP 0,dP 1,dP 3,dP 4,dP 5,dP 6]]),(6,B.blk 112 [C.fn 97 [] [dP 2]]),(7,bR 3 1 eI w7),(8,bR 4 1 eB e)],9,142⟩)):=
 by
 intro w7 w8 w10 b0 b3 Qs Zh Zi t21 t22 qch zp qi7 h0 h1 h2
 subst h0 h1 h2
 revert t22;revert w8;exact qab qlQ qnZ (fun e=>by exact⟨_,rfl,fun h=>by cases h⟩) fun w8 t22=>by
  have hF':∀(qC JR za:Int) (zb:List qe) (JS:List qb) (w7:List Int) (v:List qa) (v2 qx qH qI:Int) (zp:Nat),zp=w7.length→rE (.fn 83) 7 [R.agg [dI qC,dI JR,dI za,dL 2 qf zb,dL 5 qh JS],rP 0,rP 1,rP 3,rP 4,rP 5,rP 6] [(0,B.blk 30 [dL 8 qc v]),(1,B.blk 112 [C.fn 96 [] [dP 2]]),(2,B.blk 25 [dO 7 1 zp]),(3,B.blk 3 [dI v2]),(4,B.blk 44 [dI qx,dI qH,dI qI]),(5,B.blk 143 [C.fn 83 [] [dP 0,dP 1,dP 3,dP 4,dP 5,dP 6]]),(6,B.blk 112 [C.fn 97 [] [dP 2]]),(7,bR 3 1 eI w7)]=(rF ((qb.mk qC JR za zb JS),w7,v,v2,(qd.mk qx qH qI))).bind (fun e=>some (rL 1 eB e.1,[(0,B.blk 30 [dL 8 qc e.2.2.1]),(1,B.blk 112 [C.fn 96 [] [dP 2]]),(2,B.blk 25 [dO 7 1 e.2.1.length]),(3,B.blk 3 [dI e.2.2.2.1]),(4,B.blk 44 [dI e.2.2.2.2.Worst,dI e.2.2.2.2.Best,dI e.2.2.2.2.Pass]),(5,B.blk 143 [C.fn 83 [] [dP 0,dP 1,dP 3,dP 4,dP 5,dP 6]]),(6,B.blk 112 [C.fn 97 [] [dP 2]]),(7,bR 3 1 eI e.2.1)])):=by intro qC JR za zb JS w7 v v2 qx qH qI zp h0;subst h0;exact hF ((qb.mk qC JR za zb JS),w7,v,v2,(qd.mk qx qH qI))
  have:=qjg;have:=@qeE.eq_1;have:=@QA.eq_1;exact gA
def JD (rF:(qb×List Int×List qa×Int×qd)→Option (List Bool×List Int×List qa×Int×qd)):(qb×List Int×List qa×Int×qd)→Option (List Bool×List Int×List qa×Int×qd)|(x0,w7,v,v2,v3)=>if 0≤((v.length:Nat):Int) then if 0≤w64 (1*2 ^ min v.length (IntKind.bits IntKind.i64))∧1*w64 (1*2 ^ min v.length (IntKind.bits IntKind.i64))≤281474976710656∧w64 (1*2 ^ min v.length (IntKind.bits IntKind.i64))≤9223372036854775807 then if JT x0=Bool.true then Option.bind (q1Z x0.Kind) fun(a2:Sum Unit Unit)=>Sum.elim (fun(a3:Unit)=>Option.bind (zn (ZK rF w7 v v2 v3 x0) (List.replicate (Int.toNat (w64 (1*2 ^ min v.length (IntKind.bits IntKind.i64)))) Bool.false,1)) fun(a5:List Bool)=>some (a5,w7,v,w64 (v2+1),v3)) (fun(a4:Unit)=>Option.bind (zn (Zl rF w7 v v2 v3 x0) (List.replicate (Int.toNat (w64 (1*2 ^ min v.length (IntKind.bits IntKind.i64)))) Bool.false,1)) fun(a6:List Bool)=>some (a6,w7,v,w64 (v2+1),v3)) a2 else if 0≤((Int.toNat (w64 (1*2 ^ min v.length (IntKind.bits IntKind.i64))):Nat):Int)∧8*((Int.toNat (w64 (1*2 ^ min v.length (IntKind.bits IntKind.i64))):Nat):Int)≤281474976710656∧((Int.toNat (w64 (1*2 ^ min v.length (IntKind.bits IntKind.i64))):Nat):Int)≤9223372036854775807 then Option.bind (zn (QZ rF w7 (List.replicate (Int.toNat (w64 (1*2 ^ min v.length (IntKind.bits IntKind.i64)))) Bool.false) v v2 v3 x0) (List.replicate (Int.toNat (w64 (1*2 ^ min v.length (IntKind.bits IntKind.i64)))) 0,1)) fun(a7:List Int)=>Option.bind (zn (Qz rF (List.replicate (Int.toNat (w64 (1*2 ^ min v.length (IntKind.bits IntKind.i64)))) Bool.false) x0 x0.L ((x0.L.length:Nat):Int)) (w7,(a7,(v,(v2,(v3,0)))))) fun(a8:Prod (List Int) (Prod (List Int) (Prod (List qa) (Prod Int qd))))=>if(x0.Kind==3)=Bool.true then Option.bind (zn (QA rF a8.1 a8.2.1 a8.2.2.1 a8.2.2.2.1 a8.2.2.2.2 ((x0.L.length:Nat):Int)) (List.replicate (Int.toNat (w64 (1*2 ^ min v.length (IntKind.bits IntKind.i64)))) Bool.false,1)) fun(a9:List Bool)=>some (a9,a8.1,a8.2.2.1,a8.2.2.2.1,a8.2.2.2.2) else Option.bind (zn (QA rF a8.1 a8.2.1 a8.2.2.1 a8.2.2.2.1 a8.2.2.2.2 x0.N) (List.replicate (Int.toNat (w64 (1*2 ^ min v.length (IntKind.bits IntKind.i64)))) Bool.false,1)) fun(a10:List Bool)=>some (a10,a8.1,a8.2.2.1,a8.2.2.2.1,a8.2.2.2.2) else none else none else none
theorem q3O:q9W 83 7 qK zK JD:=by
 intro rE rF hF hM hR x
 obtain⟨x0,w7,v,v2,v3⟩:=x
 show qba rE 83 7 [R.agg [dI x0.Kind,dI x0.N,dI x0.Min,dL 2 qf x0.Set,dL 5 qh x0.L],rP 0,rP 1,rP 3,rP 4,rP 5,rP 6] [(0,B.blk 30 [dL 8 qc v]),(1,B.blk 112 [C.fn 96 [] [dP 2]]),(2,B.blk 25 [dO 7 1 w7.length]),(3,B.blk 3 [dI v2]),(4,B.blk 44 [dI v3.Worst,dI v3.Best,dI v3.Pass]),(5,B.blk 143 [C.fn 83 [] [dP 0,dP 1,dP 3,dP 4,dP 5,dP 6]]),(6,B.blk 112 [C.fn 97 [] [dP 2]]),(7,bR 3 1 eI w7)]=_
 have hF':∀(qC JR za:Int) (zb:List qe) (JS:List qb) (w7:List Int) (v:List qa) (v2 qx qH qI:Int) (zp:Nat),zp=w7.length→rE (.fn 83) 7 [R.agg [dI qC,dI JR,dI za,dL 2 qf zb,dL 5 qh JS],rP 0,rP 1,rP 3,rP 4,rP 5,rP 6] [(0,B.blk 30 [dL 8 qc v]),(1,B.blk 112 [C.fn 96 [] [dP 2]]),(2,B.blk 25 [dO 7 1 zp]),(3,B.blk 3 [dI v2]),(4,B.blk 44 [dI qx,dI qH,dI qI]),(5,B.blk 143 [C.fn 83 [] [dP 0,dP 1,dP 3,dP 4,dP 5,dP 6]]),(6,B.blk 112 [C.fn 97 [] [dP 2]]),(7,bR 3 1 eI w7)]=(rF ((qb.mk qC JR za zb JS),w7,v,v2,(qd.mk qx qH qI))).bind (fun e=>some (rL 1 eB e.1,[(0,B.blk 30 [dL 8 qc e.2.2.1]),(1,B.blk 112 [C.fn 96 [] [dP 2]]),(2,B.blk 25 [dO 7 1 e.2.1.length]),(3,B.blk 3 [dI e.2.2.2.1]),(4,B.blk 44 [dI e.2.2.2.2.Worst,dI e.2.2.2.2.Best,dI e.2.2.2.2.Pass]),(5,B.blk 143 [C.fn 83 [] [dP 0,dP 1,dP 3,dP 4,dP 5,dP 6]]),(6,B.blk 112 [C.fn 97 [] [dP 2]]),(7,bR 3 1 eI e.2.1)])):=by intro qC JR za zb JS w7 v v2 qx qH qI zp h0;subst h0;exact hF ((qb.mk qC JR za zb JS),w7,v,v2,(qd.mk qx qH qI))
 rw[q6H qq4 qwd]
 have:=qjg;have:=@q51;have:=@q79;have:=q67 rE rF hF hM hR;have:=q4M rE rF hF hM hR;have:=q5s rE rF hF hM hR;have:=q5w rE rF hF hM hR;have:=q5x rE rF hF hM hR;have:=@JD.eq_1;have:=@zK.eq_1;exact gA
theorem q1V:∀x y,qK x=qK y→x=y:=by
 rintro⟨⟨qJB,qJC,qJD,qJE,qJF⟩,a1,a2,a3,⟨qQa,qQb,qQc⟩⟩ ⟨⟨qJG,qJH,qJI,qJJ,qJK⟩,b1,b2,b3,⟨qQd,qQe,qQf⟩⟩ h
 simp only[qK,Prod.mk.injEq,List.cons.injEq,R.c.injEq,R.agg.injEq,R.tup.injEq,C.d.injEq,C.own.injEq,C.ptr.injEq,C.eptr.injEq,C.clp.injEq,D.int.injEq,D.bool.injEq,D.str.injEq,D.sl.injEq,B.blk.injEq,B.row.injEq,q2m,q3F,q1J,q2F,q2D,q3m,q1H,q5G,q3j,q60,q6p,q2f,true_and,and_true,qQR] at h
 simp only[h]
theorem q6q:∀x y,zK x=zK y→x=y:=by
 rintro⟨a0,a1,a2,a3,⟨qQa,qQb,qQc⟩⟩ ⟨b0,b1,b2,b3,⟨qQd,qQe,qQf⟩⟩ h
 simp only[zK,Prod.mk.injEq,List.cons.injEq,R.c.injEq,R.agg.injEq,R.tup.injEq,C.d.injEq,C.own.injEq,C.ptr.injEq,C.eptr.injEq,C.clp.injEq,D.int.injEq,D.bool.injEq,D.str.injEq,D.sl.injEq,B.blk.injEq,B.row.injEq,q2m,q3F,q1J,q2F,q2D,q3m,q1H,q5G,q3j,q60,q6p,q2f,true_and,and_true,qQR] at h
 simp only[h]
def zo:(qb×List Int×List qa×Int×qd)→Option (List Bool×List Int×List qa×Int×qd):=q9G 83 7 qK zK
theorem q7S (x:(qb×List Int×List qa×Int×qd)):zo x=JD zo x:=qfj qCc.2.2.2 q1V q6q q3O x
theorem q7H (x0:qb) (w7:List Int) (v:List qa) (v2:Int) (v3:qd):ev 83 7 [R.agg [dI x0.Kind,dI x0.N,dI x0.Min,dL 2 qf x0.Set,dL 5 qh x0.L],rP 0,rP 1,rP 3,rP 4,rP 5,rP 6] [(0,B.blk 30 [dL 8 qc v]),(1,B.blk 112 [C.fn 96 [] [dP 2]]),(2,B.blk 25 [dO 7 1 w7.length]),(3,B.blk 3 [dI v2]),(4,B.blk 44 [dI v3.Worst,dI v3.Best,dI v3.Pass]),(5,B.blk 143 [C.fn 83 [] [dP 0,dP 1,dP 3,dP 4,dP 5,dP 6]]),(6,B.blk 112 [C.fn 97 [] [dP 2]]),(7,bR 3 1 eI w7)]=(zo (x0,w7,v,v2,v3)).bind (fun(e:List Bool×List Int×List qa×Int×qd)=>some (rL 1 eB e.1,[(0,B.blk 30 [dL 8 qc e.2.2.1]),(1,B.blk 112 [C.fn 96 [] [dP 2]]),(2,B.blk 25 [dO 7 1 e.2.1.length]),(3,B.blk 3 [dI e.2.2.2.1]),(4,B.blk 44 [dI e.2.2.2.2.Worst,dI e.2.2.2.2.Best,dI e.2.2.2.2.Pass]),(5,B.blk 143 [C.fn 83 [] [dP 0,dP 1,dP 3,dP 4,dP 5,dP 6]]),(6,B.blk 112 [C.fn 97 [] [dP 2]]),(7,bR 3 1 eI e.2.1)])):=(qbx qCc.2.2.2 q1V q3O (x0,w7,v,v2,v3))
theorem q85:∀(qC JR za:Int) (zb:List qe) (JS:List qb) (w7:List Int) (v:List qa) (v2 qx qH qI:Int) (zp:Nat),zp=w7.length→ev 83 7 [R.agg [dI qC,dI JR,dI za,dL 2 qf zb,dL 5 qh JS],rP 0,rP 1,rP 3,rP 4,rP 5,rP 6] [(0,B.blk 30 [dL 8 qc v]),(1,B.blk 112 [C.fn 96 [] [dP 2]]),(2,B.blk 25 [dO 7 1 zp]),(3,B.blk 3 [dI v2]),(4,B.blk 44 [dI qx,dI qH,dI qI]),(5,B.blk 143 [C.fn 83 [] [dP 0,dP 1,dP 3,dP 4,dP 5,dP 6]]),(6,B.blk 112 [C.fn 97 [] [dP 2]]),(7,bR 3 1 eI w7)]=(zo ((qb.mk qC JR za zb JS),w7,v,v2,(qd.mk qx qH qI))).bind (fun(e:List Bool×List Int×List qa×Int×qd)=>some (rL 1 eB e.1,[(0,B.blk 30 [dL 8 qc e.2.2.1]),(1,B.blk 112 [C.fn 96 [] [dP 2]]),(2,B.blk 25 [dO 7 1 e.2.1.length]),(3,B.blk 3 [dI e.2.2.2.1]),(4,B.blk 44 [dI e.2.2.2.2.Worst,dI e.2.2.2.2.Best,dI e.2.2.2.2.Pass]),(5,B.blk 143 [C.fn 83 [] [dP 0,dP 1,dP 3,dP 4,dP 5,dP 6]]),(6,B.blk 112 [C.fn 97 [] [dP 2]]),(7,bR 3 1 eI e.2.1)])):=
 by
 intro qC JR za zb JS w7 v v2 qx qH qI zp h0
 subst h0
 exact q7H (qb.mk qC JR za zb JS) w7 v v2 (qd.mk qx qH qI)
def q1E (n:qb) (s:qd) (l:List qa) (w1:List Int):Option (List Bool×List Int):=Option.bind (zo (n,(w1,(l,(0,s))))) fun(a:Prod (List Bool) (Prod (List Int) (Prod (List qa) (Prod Int qd))))=>some (a.1,a.2.1)
theorem qal:∀(qw n_N qQ:Int) (qR:List qe) (n_L:List qb) (qz qT qU:Int) (l:List qa) (w1:List Int) (Jt:Nat),Jt=w1.length→ev 52 1 [R.agg [dI qw,dI n_N,dI qQ,dL 2 qf qR,dL 5 qh n_L],R.agg [dI qz,dI qT,dI qU],rL 8 qc l,R.c (C.fn 96 [] [dP 0]),R.c (C.fn 97 [] [dP 0])] [(0,B.blk 25 [dO 1 1 Jt]),(1,bR 3 1 eI w1)]=(q1E (qb.mk qw n_N qQ qR n_L) (qd.mk qz qT qU) l w1).bind (fun(e:List Bool×List Int)=>some (rL 1 eB e.1,[(0,B.blk 25 [dO 1 1 e.2.length]),(1,bR 3 1 eI e.2)])):=
 by
 intro qw n_N qQ qR n_L qz qT qU l w1 Jt h0
 subst h0
 rw[qF qBN qHb.2.2.2 qLm]
 have:=qLs;have:=@q85;have:=@q1E.eq_1;exact gA
def Jn (w4:List Int) (b0:qb) (b1:qd) (t2:List qa) (t3:Int) (t16:Int) (t49:Int) (t50:Int):(List Int)→Option ((List Int)⊕(List Int))|w3=>Option.bind (q1E b0 b1 t2 w3) fun(a:Prod (List Bool) (List Int))=>if 0≤t3∧t3<((a.1.length:Nat):Int) then Option.bind a.1[Int.toNat t3]? fun(a2:Bool)=>if(!a2)=Bool.true then if 0≤t16∧t16<((a.2.length:Nat):Int) then Option.bind a.2[Int.toNat t16]? fun(a3:Int)=>if 0≤t16∧t16<((a.2.length:Nat):Int) then if Int.toNat t16+1≤a.2.length then some (Sum.inl (List.set a.2 (Int.toNat t16) (w64 (a3+1)))) else none else none else none else some (Sum.inr a.2) else none
theorem q7B:∀(w3 w4:List Int) (q0N qgs q2B:Int) (q2C:List qe) (q8O:List qb) (qW zz zA:Int) (t2:List qa) (t3 t16 t49 t50:Int) (Ze q3q:Nat),Ze=w4.length→q3q=w3.length→XL2 evo 61 0 14 ⟨[(2,rL 8 qc t2),(3,rI t3),(4,rP 0),(5,rP 1),(12,rP 2),(13,R.c (C.fn 96 [] [dP 2])),(14,R.c (C.fn 97 [] [dP 2])),(15,rO 4 1 Ze),(16,rI t16),(49,rI t49),(50,rI t50)],[(0,B.blk 34 [dI q0N,dI qgs,dI q2B,dL 2 qf q2C,dL 5 qh q8O]),(1,B.blk 44 [dI qW,dI zz,dI zA]),(2,B.blk 25 [dO 3 1 q3q]),(3,bR 3 1 eI w3),(4,bR 3 1 eI w4)],5,89⟩=(zn (Jn w4 (qb.mk q0N qgs q2B q2C q8O) (qd.mk qW zz zA) t2 t3 t16 t49 t50) w3).bind (fun(e:List Int)=>some (Exit.exit 2,⟨[(2,rL 8 qc t2),(3,rI t3),(4,rP 0),(5,rP 1),(12,rP 2),(13,R.c (C.fn 96 [] [dP 2])),(14,R.c (C.fn 97 [] [dP 2])),(15,rO 4 1 w4.length),(16,rI t16),(49,rI t49),(50,rI t50)],[(0,B.blk 34 [dI q0N,dI qgs,dI q2B,dL 2 qf q2C,dL 5 qh q8O]),(1,B.blk 44 [dI qW,dI zz,dI zA]),(2,B.blk 25 [dO 3 1 e.length]),(3,bR 3 1 eI e),(4,bR 3 1 eI w4)],5,89⟩)):=
 by
 intro w3 w4 q0N qgs q2B q2C q8O qW zz zA t2 t3 t16 t49 t50 Ze q3q h0 h1
 subst h0 h1
 revert w3;exact qcm qvA qvO (fun e=>by exact⟨_,rfl,fun h=>by cases h⟩) fun x=>by
  have:=qFN;have:=@qhd.eq_1;have:=@qal;have:=@Jn.eq_1;exact gA
def ZF (b0:qb) (b1:qd) (t2:List qa) (t3:Int) (t49:Int):(List Int×List Int×Int)→Option ((List Int×List Int×Int)⊕(List Int))|(w3,w4,t50)=>if t50<t49 then if w3.length+1≤maxLen∧(w3.length+1)*8≤140737488355328 then if 0≤t50 then if(Zq Go.BinOp.and IntKind.i64 (Int.fdiv t3 (2 ^ min (Int.toNat t50) (IntKind.bits IntKind.i64))) 1==0)=Bool.true then some (Sum.inl (w3++[(-1)],w4,w64 (t50+1))) else if 0≤t50∧t50<((w3.length+1:Nat):Int) then if Int.toNat t50≤w3.length then Option.bind (zn (Jn w4 b0 b1 t2 t3 t50 t49 t50) (List.set (w3++[(-1)]) (Int.toNat t50) 0)) fun(a:List Int)=>if 0≤t50∧t50<((a.length:Nat):Int) then Option.bind a[Int.toNat t50]? fun(a2:Int)=>if w4.length+1≤maxLen∧(w4.length+1)*8≤140737488355328 then some (Sum.inl (a,w4++[a2],w64 (t50+1))) else none else none else none else none else none else none else some (Sum.inr w4)
theorem q83:∀(w3 w4:List Int) (q0N qgs q2B:Int) (q2C:List qe) (q8O:List qb) (qW zz zA:Int) (t2:List qa) (t3 t49 t50:Int) (Ze q3q:Nat),Ze=w4.length→q3q=w3.length→XL2 evo 61 0 9 ⟨[(2,rL 8 qc t2),(3,rI t3),(4,rP 0),(5,rP 1),(12,rP 2),(13,R.c (C.fn 96 [] [dP 2])),(14,R.c (C.fn 97 [] [dP 2])),(15,rO 4 1 Ze),(49,rI t49),(50,rI t50)],[(0,B.blk 34 [dI q0N,dI qgs,dI q2B,dL 2 qf q2C,dL 5 qh q8O]),(1,B.blk 44 [dI qW,dI zz,dI zA]),(2,B.blk 25 [dO 3 1 q3q]),(3,bR 3 1 eI w3),(4,bR 3 1 eI w4)],5,89⟩=(zn (ZF (qb.mk q0N qgs q2B q2C q8O) (qd.mk qW zz zA) t2 t3 t49) (w3,w4,t50)).bind (fun(e:List Int)=>some (Exit.exit 0,⟨[(15,rO 0 1 e.length)],[(0,bR 3 1 eI e)],1,89⟩)):=
 by
 intro w3 w4 q0N qgs q2B q2C q8O qW zz zA t2 t3 t49 t50 Ze q3q h0 h1
 subst h0 h1
 revert t50;revert w4;revert w3;exact qJw qAq qCK (fun e=>by exact⟨_,rfl,fun h=>by cases h⟩) fun w3 w4 t50=>by
  have:=qFN;have:=@qn2.eq_1;have:=@q7B;have:=@ZF.eq_1;exact gA
theorem q6g:∀  (q0N qgs q2B:Int) (q2C:List qe) (q8O:List qb) (qW zz zA:Int) (t2:List qa) (t3 t49 t50:Int),XL2 evo 61 0 9 ⟨[(2,rL 8 qc t2),(3,rI t3),(4,rP 0),(5,rP 1),(12,rP 2),(13,R.c (C.fn 96 [] [dP 2])),(14,R.c (C.fn 97 [] [dP 2])),(15,rO 4 1 0),(49,rI t49),(50,rI t50)],[(0,B.blk 34 [dI q0N,dI qgs,dI q2B,dL 2 qf q2C,dL 5 qh q8O]),(1,B.blk 44 [dI qW,dI zz,dI zA]),(2,B.blk 25 [dO 3 1 0]),(3,B.row 3 1 []),(4,B.row 3 1 [])],5,89⟩=(zn (ZF (qb.mk q0N qgs q2B q2C q8O) (qd.mk qW zz zA) t2 t3 t49) (([]:List Int),([]:List Int),t50)).bind (fun(e:List Int)=>some (Exit.exit 0,⟨[(15,rO 0 1 e.length)],[(0,bR 3 1 eI e)],1,89⟩)):=by
 intro q0N qgs q2B q2C q8O qW zz zA t2 t3 t49 t50;have h:=q83 ([]:List Int) ([]:List Int) ((qb.mk q0N qgs q2B q2C q8O)).Kind ((qb.mk q0N qgs q2B q2C q8O)).N ((qb.mk q0N qgs q2B q2C q8O)).Min ((qb.mk q0N qgs q2B q2C q8O)).Set ((qb.mk q0N qgs q2B q2C q8O)).L ((qd.mk qW zz zA)).Worst ((qd.mk qW zz zA)).Best ((qd.mk qW zz zA)).Pass t2 t3 t49 t50 _ _ rfl rfl
 first
  | exact h
  | (simp only[rL,dL,bR,bZ,Nat.reduceAdd] at h;exact h)
def q0D (x0:qb) (x1:qd) (x2:List qa) (x3:Int):Option (List Int×Bool):=Option.bind (q20 x0 x1 x2) fun(a:Prod (List Bool) Int)=>if(a.2 != 0)=Bool.true then some ([],Bool.false) else if x3<0 then some ([],Bool.false) else if((a.1.length:Nat):Int)≤x3 then some ([],Bool.false) else if 0≤x3∧x3<((a.1.length:Nat):Int) then Option.bind a.1[Int.toNat x3]? fun(a2:Bool)=>if(!a2)=Bool.true then some ([],Bool.false) else if 0≤((x2.length:Nat):Int)∧8*((x2.length:Nat):Int)≤281474976710656∧((x2.length:Nat):Int)≤9223372036854775807 then Option.bind (zn (ZF x0 x1 x2 x3 ((x2.length:Nat):Int)) ([],([],0))) fun(a3:List Int)=>some (a3,Bool.true) else none else none
theorem qc0:∀(qC JR za:Int) (zb:List qe) (JS:List qb) (q1P q3A q3B:Int) (x2:List qa) (x3:Int),ev 61 0 [R.agg [dI qC,dI JR,dI za,dL 2 qf zb,dL 5 qh JS],R.agg [dI q1P,dI q3A,dI q3B],rL 8 qc x2,rI x3] []=(q0D (qb.mk qC JR za zb JS) (qd.mk q1P q3A q3B) x2 x3).bind (fun(e:List Int×Bool)=>some (R.tup [rL 1 eI e.1,rB e.2],[])):=
 fun qC JR za zb JS q1P q3A q3B x2 x3=>by
  rw[qF qy7 qLJ.2.2.2 qGU]
  have:=qFN;have:=@q8q;have:=@q6g;have:=@q0D.eq_1;exact gA
def Qa (w2:List Int) (b0:qg) (b1:qd) (t2:List qa) (t3:List Bool) (t4:Int) (t11:Bool) (t12:Int) (t46:List Int) (t47:Int):(List Int×List Int×Int)→Option ((List Int×List Int×Int)⊕(List Int))|(w3,t13,t48)=>if t48<t47 then if 0≤t48∧t48<((t46.length:Nat):Int) then Option.bind t46[Int.toNat t48]? fun(a:Int)=>if 0≤a then if(Zq Go.BinOp.and IntKind.i64 (Int.fdiv t12 (2 ^ min (Int.toNat a) (IntKind.bits IntKind.i64))) 1==0)=Bool.true then if w3.length+1≤maxLen∧(w3.length+1)*8≤140737488355328 then some (Sum.inl (w3++[(-1)],t13,w64 (t48+1))) else none else if 0<((t13.length:Nat):Int) then Option.bind t13[0]? fun(a2:Int)=>if w3.length+1≤maxLen∧(w3.length+1)*8≤140737488355328 then if 1≤((t13.length:Nat):Int) then some (Sum.inl (w3++[a2],List.drop 1 t13,w64 (t48+1))) else none else none else none else none else none else some (Sum.inr w3)
theorem q5S:∀(w2 w3:List Int) (qr Q0 qn qA:Int) (qB:ByteArray) (qk qs ql:Int) (qm:List qe) (qt:List qb) (qv qZ z6:Int) (qp:List (q0u qe)) (qW zz zA:Int) (t2:List qa) (t3:List Bool) (t4:Int) (t11:Bool) (t12:Int) (t13 t46:List Int) (t47 t48:Int) (q6v q3q:Nat),q6v=w2.length→q3q=w3.length→XL2 evo 27 0 9 ⟨[(2,rL 8 qc t2),(3,rL 1 eB t3),(4,rI t4),(5,rP 0),(6,rP 1),(10,rO 2 1 q6v),(11,rB t11),(12,rI t12),(13,rL 1 eI t13),(15,rO 3 1 q3q),(46,rL 1 eI t46),(47,rI t47),(48,rI t48)],[(0,B.blk 37 [dI qr,dI Q0,dI qn,dI qA,dS qB,dI qk,dI qs,dI ql,dL 2 qf qm,dL 5 qh qt,dI qv,dI qZ,dI z6,dL 4 (eA2 qf) qp]),(1,B.blk 44 [dI qW,dI zz,dI zA]),(2,bR 3 1 eI w2),(3,bR 3 1 eI w3)],4,80⟩=(zn (Qa w2 (qg.mk qr Q0 qn qA qB (qb.mk qk qs ql qm qt) qv qZ z6 qp) (qd.mk qW zz zA) t2 t3 t4 t11 t12 t46 t47) (w3,t13,t48)).bind (fun(e:List Int)=>some (Exit.exit 2,⟨[(2,rL 8 qc t2),(3,rL 1 eB t3),(4,rI t4),(5,rP 0),(6,rP 1),(10,rO 2 1 w2.length),(11,rB t11),(12,rI t12),(15,rO 3 1 e.length)],[(0,B.blk 37 [dI qr,dI Q0,dI qn,dI qA,dS qB,dI qk,dI qs,dI ql,dL 2 qf qm,dL 5 qh qt,dI qv,dI qZ,dI z6,dL 4 (eA2 qf) qp]),(1,B.blk 44 [dI qW,dI zz,dI zA]),(2,bR 3 1 eI w2),(3,bR 3 1 eI e)],4,80⟩)):=
 by
 intro w2 w3 qr Q0 qn qA qB qk qs ql qm qt qv qZ z6 qp qW zz zA t2 t3 t4 t11 t12 t13 t46 t47 t48 q6v q3q h0 h1
 subst h0 h1
 revert t48;revert t13;revert w3;exact qJw qyv qAO (fun e=>by exact⟨_,rfl,fun h=>by cases h⟩) fun w3 t13 t48=>by
  have:=qHH;have:=@qnX.eq_1;have:=@Qa.eq_1;exact gA
theorem q4i:∀  (w2:List Int) (qr Q0 qn qA:Int) (qB:ByteArray) (qk qs ql:Int) (qm:List qe) (qt:List qb) (qv qZ z6:Int) (qp:List (q0u qe)) (qW zz zA:Int) (t2:List qa) (t3:List Bool) (t4:Int) (t11:Bool) (t12:Int) (t13 t46:List Int) (t47 t48:Int) (q6v:Nat),q6v=w2.length→XL2 evo 27 0 9 ⟨[(2,rL 8 qc t2),(3,rL 1 eB t3),(4,rI t4),(5,rP 0),(6,rP 1),(10,rO 2 1 q6v),(11,rB t11),(12,rI t12),(13,rL 1 eI t13),(15,rO 3 1 0),(46,rL 1 eI t46),(47,rI t47),(48,rI t48)],[(0,B.blk 37 [dI qr,dI Q0,dI qn,dI qA,dS qB,dI qk,dI qs,dI ql,dL 2 qf qm,dL 5 qh qt,dI qv,dI qZ,dI z6,dL 4 (eA2 qf) qp]),(1,B.blk 44 [dI qW,dI zz,dI zA]),(2,bR 3 1 eI w2),(3,B.row 3 1 [])],4,80⟩=(zn (Qa w2 (qg.mk qr Q0 qn qA qB (qb.mk qk qs ql qm qt) qv qZ z6 qp) (qd.mk qW zz zA) t2 t3 t4 t11 t12 t46 t47) (([]:List Int),t13,t48)).bind (fun(e:List Int)=>some (Exit.exit 2,⟨[(2,rL 8 qc t2),(3,rL 1 eB t3),(4,rI t4),(5,rP 0),(6,rP 1),(10,rO 2 1 w2.length),(11,rB t11),(12,rI t12),(15,rO 3 1 e.length)],[(0,B.blk 37 [dI qr,dI Q0,dI qn,dI qA,dS qB,dI qk,dI qs,dI ql,dL 2 qf qm,dL 5 qh qt,dI qv,dI qZ,dI z6,dL 4 (eA2 qf) qp]),(1,B.blk 44 [dI qW,dI zz,dI zA]),(2,bR 3 1 eI w2),(3,bR 3 1 eI e)],4,80⟩)):=by
 intro w2 qr Q0 qn qA qB qk qs ql qm qt qv qZ z6 qp qW zz zA t2 t3 t4 t11 t12 t13 t46 t47 t48 q6v h0;subst h0;have h:=q5S w2 ([]:List Int) ((qg.mk qr Q0 qn qA qB (qb.mk qk qs ql qm qt) qv qZ z6 qp)).School ((qg.mk qr Q0 qn qA qB (qb.mk qk qs ql qm qt) qv qZ z6 qp)).Id ((qg.mk qr Q0 qn qA qB (qb.mk qk qs ql qm qt) qv qZ z6 qp)).Version ((qg.mk qr Q0 qn qA qB (qb.mk qk qs ql qm qt) qv qZ z6 qp)).From ((qg.mk qr Q0 qn qA qB (qb.mk qk qs ql qm qt) qv qZ z6 qp)).Name ((qg.mk qr Q0 qn qA qB (qb.mk qk qs ql qm qt) qv qZ z6 qp)).Need.Kind ((qg.mk qr Q0 qn qA qB (qb.mk qk qs ql qm qt) qv qZ z6 qp)).Need.N ((qg.mk qr Q0 qn qA qB (qb.mk qk qs ql qm qt) qv qZ z6 qp)).Need.Min ((qg.mk qr Q0 qn qA qB (qb.mk qk qs ql qm qt) qv qZ z6 qp)).Need.Set ((qg.mk qr Q0 qn qA qB (qb.mk qk qs ql qm qt) qv qZ z6 qp)).Need.L ((qg.mk qr Q0 qn qA qB (qb.mk qk qs ql qm qt) qv qZ z6 qp)).Total ((qg.mk qr Q0 qn qA qB (qb.mk qk qs ql qm qt) qv qZ z6 qp)).Own ((qg.mk qr Q0 qn qA qB (qb.mk qk qs ql qm qt) qv qZ z6 qp)).Age ((qg.mk qr Q0 qn qA qB (qb.mk qk qs ql qm qt) qv qZ z6 qp)).Exclude ((qd.mk qW zz zA)).Worst ((qd.mk qW zz zA)).Best ((qd.mk qW zz zA)).Pass t2 t3 t4 t11 t12 t13 t46 t47 t48 _ _ rfl rfl
 first
  | exact h
  | (simp only[rL,dL,bR,bZ,Nat.reduceAdd] at h;exact h)
def QM (b0:qg) (b1:qd) (t2:List qa) (t3:List Bool) (t4:Int):(List Int×Bool×Int)→Option ((List Int×Bool×Int)⊕(List Int×Bool))|(w2,t11,t12)=>if 0≤t12 then if(Zq Go.BinOp.andNot IntKind.i64 t12 t4 != 0)=Bool.true then some (Sum.inl (w2,t11,w64 (t12-1))) else if 0≤t12∧t12<((t3.length:Nat):Int) then Option.bind t3[Int.toNat t12]? fun(a:Bool)=>if(!a)=Bool.true then some (Sum.inl (w2,t11,w64 (t12-1))) else Option.bind (q0D b0.Need b1 t2 t12) fun(a2:Prod (List Int) Bool)=>if(!a2.2)=Bool.true then some (Sum.inl (w2,t11,w64 (t12-1))) else Option.bind (Zn t4) fun(a3:List Int)=>Option.bind (zn (Qa w2 b0 b1 t2 t3 t4 t11 t12 a3 ((a3.length:Nat):Int)) ([],(a2.1,0))) fun(a4:List Int)=>if(!t11)=Bool.true then some (Sum.inl (a4,Bool.true,w64 (t12-1))) else Option.bind (Qu a4 w2) fun(a5:Int)=>if a5<0 then some (Sum.inl (a4,Bool.true,w64 (t12-1))) else some (Sum.inl (w2,t11,w64 (t12-1))) else none else some (Sum.inr (w2,t11))
theorem q64:∀(w2:List Int) (qr Q0 qn qA:Int) (qB:ByteArray) (qk qs ql:Int) (qm:List qe) (qt:List qb) (qv qZ z6:Int) (qp:List (q0u qe)) (qW zz zA:Int) (t2:List qa) (t3:List Bool) (t4:Int) (t11:Bool) (t12:Int) (q6v:Nat),q6v=w2.length→XL2 evo 27 0 2 ⟨[(2,rL 8 qc t2),(3,rL 1 eB t3),(4,rI t4),(5,rP 0),(6,rP 1),(10,rO 2 1 q6v),(11,rB t11),(12,rI t12)],[(0,B.blk 37 [dI qr,dI Q0,dI qn,dI qA,dS qB,dI qk,dI qs,dI ql,dL 2 qf qm,dL 5 qh qt,dI qv,dI qZ,dI z6,dL 4 (eA2 qf) qp]),(1,B.blk 44 [dI qW,dI zz,dI zA]),(2,bR 3 1 eI w2)],3,80⟩=(zn (QM (qg.mk qr Q0 qn qA qB (qb.mk qk qs ql qm qt) qv qZ z6 qp) (qd.mk qW zz zA) t2 t3 t4) (w2,t11,t12)).bind (fun(e:List Int×Bool)=>some (Exit.exit 0,⟨[(10,rO 0 1 e.1.length),(11,rB e.2)],[(0,bR 3 1 eI e.1)],1,80⟩)):=
 by
 intro w2 qr Q0 qn qA qB qk qs ql qm qt qv qZ z6 qp qW zz zA t2 t3 t4 t11 t12 q6v h0
 subst h0
 revert t12;revert t11;revert w2;exact qJw qAt qAB (fun e=>by exact⟨_,rfl,fun h=>by cases h⟩) fun w2 t11 t12=>by
  have:=qHH;have:=@qpK.eq_1;have:=@qc0;have:=@q1o;have:=@q4i;have:=@q0C;have:=@QM.eq_1;exact gA
theorem q4q:∀  (qr Q0 qn qA:Int) (qB:ByteArray) (qk qs ql:Int) (qm:List qe) (qt:List qb) (qv qZ z6:Int) (qp:List (q0u qe)) (qW zz zA:Int) (t2:List qa) (t3:List Bool) (t4:Int) (t11:Bool) (t12:Int),XL2 evo 27 0 2 ⟨[(2,rL 8 qc t2),(3,rL 1 eB t3),(4,rI t4),(5,rP 0),(6,rP 1),(10,rO 2 1 0),(11,rB t11),(12,rI t12)],[(0,B.blk 37 [dI qr,dI Q0,dI qn,dI qA,dS qB,dI qk,dI qs,dI ql,dL 2 qf qm,dL 5 qh qt,dI qv,dI qZ,dI z6,dL 4 (eA2 qf) qp]),(1,B.blk 44 [dI qW,dI zz,dI zA]),(2,B.row 3 1 [])],3,80⟩=(zn (QM (qg.mk qr Q0 qn qA qB (qb.mk qk qs ql qm qt) qv qZ z6 qp) (qd.mk qW zz zA) t2 t3 t4) (([]:List Int),t11,t12)).bind (fun(e:List Int×Bool)=>some (Exit.exit 0,⟨[(10,rO 0 1 e.1.length),(11,rB e.2)],[(0,bR 3 1 eI e.1)],1,80⟩)):=by
 intro qr Q0 qn qA qB qk qs ql qm qt qv qZ z6 qp qW zz zA t2 t3 t4 t11 t12;have h:=q64 ([]:List Int) ((qg.mk qr Q0 qn qA qB (qb.mk qk qs ql qm qt) qv qZ z6 qp)).School ((qg.mk qr Q0 qn qA qB (qb.mk qk qs ql qm qt) qv qZ z6 qp)).Id ((qg.mk qr Q0 qn qA qB (qb.mk qk qs ql qm qt) qv qZ z6 qp)).Version ((qg.mk qr Q0 qn qA qB (qb.mk qk qs ql qm qt) qv qZ z6 qp)).From ((qg.mk qr Q0 qn qA qB (qb.mk qk qs ql qm qt) qv qZ z6 qp)).Name ((qg.mk qr Q0 qn qA qB (qb.mk qk qs ql qm qt) qv qZ z6 qp)).Need.Kind ((qg.mk qr Q0 qn qA qB (qb.mk qk qs ql qm qt) qv qZ z6 qp)).Need.N ((qg.mk qr Q0 qn qA qB (qb.mk qk qs ql qm qt) qv qZ z6 qp)).Need.Min ((qg.mk qr Q0 qn qA qB (qb.mk qk qs ql qm qt) qv qZ z6 qp)).Need.Set ((qg.mk qr Q0 qn qA qB (qb.mk qk qs ql qm qt) qv qZ z6 qp)).Need.L ((qg.mk qr Q0 qn qA qB (qb.mk qk qs ql qm qt) qv qZ z6 qp)).Total ((qg.mk qr Q0 qn qA qB (qb.mk qk qs ql qm qt) qv qZ z6 qp)).Own ((qg.mk qr Q0 qn qA qB (qb.mk qk qs ql qm qt) qv qZ z6 qp)).Age ((qg.mk qr Q0 qn qA qB (qb.mk qk qs ql qm qt) qv qZ z6 qp)).Exclude ((qd.mk qW zz zA)).Worst ((qd.mk qW zz zA)).Best ((qd.mk qW zz zA)).Pass t2 t3 t4 t11 t12 _ rfl
 first
  | exact h
  | (simp only[rL,dL,bR,bZ,Nat.reduceAdd] at h;exact h)
def q0A (x0:qg) (x1:qd) (x2:List qa) (x3:List Bool) (x4:Int):Option (List Int×Bool):=Option.bind (zn (QM x0 x1 x2 x3 x4) ([],(Bool.false,x4))) fun(a:Prod (List Int) Bool)=>some (a.1,a.2)
theorem q8g:∀(Jg q7K Zu q1t:Int) (q1u:ByteArray) (QB Jh Z0:Int) (Z1:List qe) (Ji:List qb) (q04 q3x q3y:Int) (Zv:List (q0u qe)) (q1P q3A q3B:Int) (x2:List qa) (x3:List Bool) (x4:Int),ev 27 0 [R.agg [dI Jg,dI q7K,dI Zu,dI q1t,dS q1u,dI QB,dI Jh,dI Z0,dL 2 qf Z1,dL 5 qh Ji,dI q04,dI q3x,dI q3y,dL 4 (eA2 qf) Zv],R.agg [dI q1P,dI q3A,dI q3B],rL 8 qc x2,rL 1 eB x3,rI x4] []=(q0A (qg.mk Jg q7K Zu q1t q1u (qb.mk QB Jh Z0 Z1 Ji) q04 q3x q3y Zv) (qd.mk q1P q3A q3B) x2 x3 x4).bind (fun(e:List Int×Bool)=>some (R.tup [rL 1 eI e.1,rB e.2],[])):=
 fun Jg q7K Zu q1t q1u QB Jh Z0 Z1 Ji q04 q3x q3y Zv q1P q3A q3B x2 x3 x4=>by
  rw[qF qy2 qLS.2.2.2 qHI]
  have:=qHH;have:=@q4q;have:=@q0A.eq_1;exact gA
theorem qL7:okL 28 qgc:=qJ (qj qyO) (by kernel_rfl) (by kernel_rfl)
def qKS:=JA_ @qgc.eq_1 (JA_ @Tryz.f28.eq_1 @qyO)
theorem qyA:lbO 28 2=qnc:=Qt (qj qyO) rfl
theorem qzG:okL 28 qnc:=zI qL7 (qQy (i:=0) (by kernel_rfl))
def Q1 (l:List Int) (t7:List Int) (t8:Int):(List Int×Int)→Option ((List Int×Int)⊕(List Int))|(out,t9)=>if t9<t8 then if 0≤t9∧t9<((t7.length:Nat):Int) then Option.bind t7[Int.toNat t9]? fun(a:Int)=>if 0≤a∧a<((l.length:Nat):Int) then Option.bind l[Int.toNat a]? fun(a2:Int)=>if out.length+1≤maxLen∧(out.length+1)*8≤140737488355328 then some (Sum.inl (out++[a2],w64 (t9+1))) else none else none else none else some (Sum.inr out)
theorem q3V:∀(out l t7:List Int) (t8 t9:Int) (q1r:Nat),q1r=out.length→XL2 evo 28 0 2 ⟨[(0,rL 1 eI l),(4,rO 0 1 q1r),(7,rL 1 eI t7),(8,rI t8),(9,rI t9)],[(0,bR 3 1 eI out)],1,22⟩=(zn (Q1 l t7 t8) (out,t9)).bind (fun(e:List Int)=>some (Exit.exit 0,⟨[(4,rO 0 1 e.length)],[(0,bR 3 1 eI e)],1,22⟩)):=
 by
 intro out l t7 t8 t9 q1r h0
 subst h0
 revert t9;revert out;exact qab qyA qzG (fun e=>by exact⟨_,rfl,fun h=>by cases h⟩) fun out t9=>by
  have:=qKS;have:=@qnc.eq_1;have:=@Q1.eq_1;exact gA
theorem q2R:∀  (l t7:List Int) (t8 t9:Int),XL2 evo 28 0 2 ⟨[(0,rL 1 eI l),(4,rO 0 1 0),(7,rL 1 eI t7),(8,rI t8),(9,rI t9)],[(0,B.row 3 1 [])],1,22⟩=(zn (Q1 l t7 t8) (([]:List Int),t9)).bind (fun(e:List Int)=>some (Exit.exit 0,⟨[(4,rO 0 1 e.length)],[(0,bR 3 1 eI e)],1,22⟩)):=by
 intro l t7 t8 t9;have h:=q3V ([]:List Int) l t7 t8 t9 _ rfl
 first
  | exact h
  | (simp only[rL,dL,bR,bZ,Nat.reduceAdd] at h;exact h)
def Zt (l:List Int) (at0:List Int):Option (List Int):=Option.bind (zn (Q1 l at0 ((at0.length:Nat):Int)) ([],0)) fun(a:List Int)=>some a
theorem q5A:∀(l at0:List Int),ev 28 0 [rL 1 eI l,rL 1 eI at0] []=(Zt l at0).bind (fun(e:List Int)=>some (rL 1 eI e,[])):=
 fun l at0=>by
  rw[qF qyO qL2.2.2.2 qL7]
  have:=qKS;have:=@q2R;have:=@Zt.eq_1;exact gA
theorem q9t:ev 4 0 [] []=some (rB true,[]):=qoz
theorem lo3:okL 3 qqM:=qJ (qj bd3) (by kernel_rfl) (by kernel_rfl)
def cx3:=JA_ @qqM.eq_1 (JA_ @Tryz.f3.eq_1 @bd3)
theorem lo7:okL 7 qrs:=qJ (qj bd7) (by kernel_rfl) (by kernel_rfl)
def cx7:=JA_ @qrs.eq_1 (JA_ @Tryz.f7.eq_1 @bd7)
theorem q88:ev 7 0 [] []=some (R.agg [C.d (D.int IntKind.i64 0),C.d (D.int IntKind.i64 100),C.d (D.int IntKind.i64 50)],[]):=
 by
  rw[qF bd7 pw7.2.2.2 lo7]
  have:=cx7;exact gA
def zH (b0:List Int) (s:List Int) (t7:Int):Int→Option (Int⊕(Int⊕Unit))|t8=>if t8<t7 then if 0≤t8∧t8<((s.length:Nat):Int) then Option.bind s[Int.toNat t8]? fun(a:Int)=>Option.bind (q0m a b0) fun(a2:Bool)=>if a2=Bool.true then some (Sum.inr (Sum.inl t8)) else some (Sum.inl (w64 (t8+1))) else none else some (Sum.inr (Sum.inr ()))
theorem q1x:∀(b0 s:List Int) (t7 t8:Int),XL2 evo 74 1 2 ⟨[(0,rL 1 eI s),(1,R.c (C.fn 101 [] [dP 0])),(7,rI t7),(8,rI t8)],[(0,B.blk 25 [dL 1 eI b0])],1,19⟩=(zn (zH b0 s t7) t8).bind (Sum.elim (fun(e:Int)=>some (Exit.ret,⟨[(4,rI e)],[(0,B.blk 25 [dL 1 eI b0])],1,19⟩)) (fun(e:Unit)=>some (Exit.exit 0,⟨[(4,R.any)],[(0,B.blk 25 [dL 1 eI b0])],1,19⟩))):=
 fun b0 s t7 t8=>by
  revert t8;exact qcm qpO qo9 (fun e=>by rcases e with _|_<;>exact⟨_,rfl,fun h=>by cases h⟩) fun x=>by
   have:=qxY;have:=@qgl.eq_1;have:=@q5P;have:=@zH.eq_1;exact gA
def Z9 (s:List Int) (b0:List Int):Option Int:=Option.bind (zn (zH b0 s ((s.length:Nat):Int)) 0) fun(a:Sum Int Unit)=>Sum.elim (fun(a2:Int)=>some a2) (fun(a3:Unit)=>some (-1)) a
theorem q24:∀(s b0:List Int),ev 74 1 [rL 1 eI s,R.c (C.fn 101 [] [dP 0])] [(0,B.blk 25 [dL 1 eI b0])]=(Z9 s b0).bind (fun(e:Int)=>some (rI e,[(0,B.blk 25 [dL 1 eI b0])])):=
 fun s b0=>by
  rw[qF qvD qFp.2.2.2 qEB]
  have:=qxY;have:=@q1x;have:=@Z9.eq_1;exact gA
def QF (s:List Int) (b0:List Int):Option Bool:=Option.bind (Z9 s b0) fun(a:Int)=>some (decide (0≤a))
theorem q1A:∀(s b0:List Int),ev 46 1 [rL 1 eI s,R.c (C.fn 101 [] [dP 0])] [(0,B.blk 25 [dL 1 eI b0])]=(QF s b0).bind (fun(e:Bool)=>some (rB e,[(0,B.blk 25 [dL 1 eI b0])])):=
 fun s b0=>by
  rw[qF qy9 qFc.2.2.2 qIp]
  have:=qIQ;have:=@q24;have:=@QF.eq_1;exact gA
def Je (a:List Int) (b:List Int):Option Bool:=Option.bind (QF a b) fun(a2:Bool)=>some a2
theorem q89:∀(a b:List Int),ev 67 0 [rL 1 eI a,rL 1 eI b] []=(Je a b).bind (fun(e:Bool)=>some (rB e,[])):=
 fun a b=>by
  rw[qF qER qLh.2.2.2 qOL]
  have:=qOi;have:=@q1A;have:=@Je.eq_1;exact gA
def q2v (a:qa) (b:qa):Option Bool:=if(a.Course.School==b.Course.School)=Bool.true∧(ByteArray.toList a.Course.Code==ByteArray.toList b.Course.Code)=Bool.true then some Bool.false else if 0<a.Bundle then if(a.Bundle==b.Bundle)=Bool.true then Option.bind (QN a.Path b.Path) fun(a2:Bool)=>if a2=Bool.true then some Bool.true else Option.bind (Je a.Sources b.Sources) fun(a3:Bool)=>some (!a3) else Option.bind (Je a.Sources b.Sources) fun(a4:Bool)=>some (!a4) else Option.bind (Je a.Sources b.Sources) fun(a5:Bool)=>some (!a5)
theorem qb0:∀(qy:Int) (qD:ByteArray) (zG QS q1e:Int) (zB:List Int) (Qc:Int) (ZO:List Int) (Jf:Int) (q03:ByteArray) (q3o q7I qi0:Int) (q3p:List Int) (q56:Int) (qcd:List Int),ev 32 0 [R.agg [dI qy,dS qD,dI zG,dI QS,dI q1e,dL 1 eI zB,dI Qc,dL 1 eI ZO],R.agg [dI Jf,dS q03,dI q3o,dI q7I,dI qi0,dL 1 eI q3p,dI q56,dL 1 eI qcd]] []=(q2v (qa.mk (qe.mk qy qD) zG QS q1e zB Qc ZO) (qa.mk (qe.mk Jf q03) q3o q7I qi0 q3p q56 qcd)).bind (fun(e:Bool)=>some (rB e,[])):=
 fun qy qD zG QS q1e zB Qc ZO Jf q03 q3o q7I qi0 q3p q56 qcd=>by
  rw[qF qEU qKQ.2.2.2 qPg]
  have:=qMc;have:=@q1c;have:=@q89;have:=@q2v.eq_1;exact gA
def Zk (b0:qg) (b1:qa) (t1:List qa) (t2:Int) (t7:Int) (t12:List qa) (t13:Int) (t14:Int) (t25:List qa) (t26:Int):Int→Option (Int⊕(Unit⊕Unit))|t27=>if t27<t26 then if 0≤t27∧t27<((t25.length:Nat):Int) then Option.bind t25[Int.toNat t27]? fun(a:qa)=>Option.bind (q2v b1 a) fun(a2:Bool)=>if(!a2)=Bool.true then some (Sum.inr (Sum.inl ())) else Option.bind (qG b0.Exclude (q0u.mk b1.Course a.Course)) fun(a3:Bool)=>if a3=Bool.true then some (Sum.inr (Sum.inl ())) else Option.bind (qG b0.Exclude (q0u.mk a.Course b1.Course)) fun(a4:Bool)=>if a4=Bool.true then some (Sum.inr (Sum.inl ())) else some (Sum.inl (w64 (t27+1))) else none else some (Sum.inr (Sum.inr ()))
theorem q50:∀(qr Q0 qn qA:Int) (qB:ByteArray) (qk qs ql:Int) (qm:List qe) (qt:List qb) (qv qZ z6:Int) (qp:List (q0u qe)) (q0d:Int) (q1f:ByteArray) (q4D q8K qgt:Int) (q4E:List Int) (q6w:Int) (qci:List Int) (t1:List qa) (t2 t7:Int) (t12:List qa) (t13 t14:Int) (t25:List qa) (t26 t27:Int),XL2 evo 26 0 8 ⟨[(1,rL 8 qc t1),(2,rI t2),(3,rP 0),(7,rI t7),(9,rP 1),(12,rL 8 qc t12),(13,rI t13),(14,rI t14),(25,rL 8 qc t25),(26,rI t26),(27,rI t27)],[(0,B.blk 37 [dI qr,dI Q0,dI qn,dI qA,dS qB,dI qk,dI qs,dI ql,dL 2 qf qm,dL 5 qh qt,dI qv,dI qZ,dI z6,dL 4 (eA2 qf) qp]),(1,B.blk 54 [dI q0d,dS q1f,dI q4D,dI q8K,dI qgt,dL 1 eI q4E,dI q6w,dL 1 eI qci])],2,83⟩=(zn (Zk (qg.mk qr Q0 qn qA qB (qb.mk qk qs ql qm qt) qv qZ z6 qp) (qa.mk (qe.mk q0d q1f) q4D q8K qgt q4E q6w qci) t1 t2 t7 t12 t13 t14 t25 t26) t27).bind (Sum.elim (fun(e:Unit)=>some (Exit.ret,⟨[(1,rL 8 qc t1),(2,rI t2),(3,rP 0),(6,rB Bool.false),(7,rI t7),(9,rP 1),(12,rL 8 qc t12),(13,rI t13),(14,rI t14)],[(0,B.blk 37 [dI qr,dI Q0,dI qn,dI qA,dS qB,dI qk,dI qs,dI ql,dL 2 qf qm,dL 5 qh qt,dI qv,dI qZ,dI z6,dL 4 (eA2 qf) qp]),(1,B.blk 54 [dI q0d,dS q1f,dI q4D,dI q8K,dI qgt,dL 1 eI q4E,dI q6w,dL 1 eI qci])],2,83⟩)) (fun(e:Unit)=>some (Exit.exit 2,⟨[(1,rL 8 qc t1),(2,rI t2),(3,rP 0),(6,R.any),(7,rI t7),(9,rP 1),(12,rL 8 qc t12),(13,rI t13),(14,rI t14)],[(0,B.blk 37 [dI qr,dI Q0,dI qn,dI qA,dS qB,dI qk,dI qs,dI ql,dL 2 qf qm,dL 5 qh qt,dI qv,dI qZ,dI z6,dL 4 (eA2 qf) qp]),(1,B.blk 54 [dI q0d,dS q1f,dI q4D,dI q8K,dI qgt,dL 1 eI q4E,dI q6w,dL 1 eI qci])],2,83⟩))):=
 fun qr Q0 qn qA qB qk qs ql qm qt qv qZ z6 qp q0d q1f q4D q8K qgt q4E q6w qci t1 t2 t7 t12 t13 t14 t25 t26 t27=>by
  revert t27;exact qcm qDg qzT (fun e=>by rcases e with _|_<;>exact⟨_,rfl,fun h=>by cases h⟩) fun x=>by
   have:=qGG;have:=@qlp.eq_1;have:=@qb0;have:=@QX;have:=@Zk.eq_1;exact gA
def QJ (b0:qg) (t1:List qa) (t2:Int) (t12:List qa) (t13:Int):(Int×Int)→Option ((Int×Int)⊕(Int⊕Int))|(t7,t14)=>if t14<t13 then if 0≤t14∧t14<((t12.length:Nat):Int) then Option.bind t12[Int.toNat t14]? fun(a:qa)=>Option.bind (Jp b0 a t2) fun(a2:Bool)=>if a2=Bool.true then some (Sum.inr (Sum.inl t7)) else if 0≤t14∧t14≤((t1.length:Nat):Int) then Option.bind (zn (Zk b0 a t1 t2 t7 t12 t13 t14 (List.take (Int.toNat t14-0) t1) (((List.take (Int.toNat t14-0) t1).length:Nat):Int)) 0) fun(a3:Sum Unit Unit)=>Sum.elim (fun(a4:Unit)=>some (Sum.inr (Sum.inl t7))) (fun(a5:Unit)=>if(a.Course.School==b0.School)=Bool.true then if(a.Bundle==0)=Bool.true then some (Sum.inl (w64 (t7+a.Credits),w64 (t14+1))) else some (Sum.inl (t7,w64 (t14+1))) else some (Sum.inl (t7,w64 (t14+1)))) a3 else none else none else some (Sum.inr (Sum.inr t7))
theorem q4Y:∀(qr Q0 qn qA:Int) (qB:ByteArray) (qk qs ql:Int) (qm:List qe) (qt:List qb) (qv qZ z6:Int) (qp:List (q0u qe)) (t1:List qa) (t2 t7:Int) (t12:List qa) (t13 t14:Int),XL2 evo 26 0 3 ⟨[(1,rL 8 qc t1),(2,rI t2),(3,rP 0),(7,rI t7),(12,rL 8 qc t12),(13,rI t13),(14,rI t14)],[(0,B.blk 37 [dI qr,dI Q0,dI qn,dI qA,dS qB,dI qk,dI qs,dI ql,dL 2 qf qm,dL 5 qh qt,dI qv,dI qZ,dI z6,dL 4 (eA2 qf) qp])],1,83⟩=(zn (QJ (qg.mk qr Q0 qn qA qB (qb.mk qk qs ql qm qt) qv qZ z6 qp) t1 t2 t12 t13) (t7,t14)).bind (Sum.elim (fun(e:Int)=>some (Exit.ret,⟨[(1,rL 8 qc t1),(3,rP 0),(6,rB Bool.false),(7,rI e)],[(0,B.blk 37 [dI qr,dI Q0,dI qn,dI qA,dS qB,dI qk,dI qs,dI ql,dL 2 qf qm,dL 5 qh qt,dI qv,dI qZ,dI z6,dL 4 (eA2 qf) qp])],1,83⟩)) (fun(e:Int)=>some (Exit.exit 0,⟨[(1,rL 8 qc t1),(3,rP 0),(6,R.any),(7,rI e)],[(0,B.blk 37 [dI qr,dI Q0,dI qn,dI qA,dS qB,dI qk,dI qs,dI ql,dL 2 qf qm,dL 5 qh qt,dI qv,dI qZ,dI z6,dL 4 (eA2 qf) qp])],1,83⟩))):=
 fun qr Q0 qn qA qB qk qs ql qm qt qv qZ z6 qp t1 t2 t7 t12 t13 t14=>by
  revert t14;revert t7;exact qab qCz qBO (fun e=>by rcases e with _|_<;>exact⟨_,rfl,fun h=>by cases h⟩) fun t7 t14=>by
   have:=qGG;have:=@qnU.eq_1;have:=@q3n;have:=@q50;have:=@QJ.eq_1;exact gA
def JH (x0:qg) (x1:List qa) (x2:Int):Option Bool:=Option.bind (zn (QJ x0 x1 x2 x1 ((x1.length:Nat):Int)) (0,0)) fun(a:Sum Int Int)=>Sum.elim (fun(a2:Int)=>some Bool.false) (fun(a3:Int)=>Option.bind (q1a x1) fun(a4:Int)=>if x0.Total≤a4 then some (decide (x0.Own≤a3)) else some Bool.false) a
theorem q72:∀(Jg q7K Zu q1t:Int) (q1u:ByteArray) (QB Jh Z0:Int) (Z1:List qe) (Ji:List qb) (q04 q3x q3y:Int) (Zv:List (q0u qe)) (x1:List qa) (x2:Int),ev 26 0 [R.agg [dI Jg,dI q7K,dI Zu,dI q1t,dS q1u,dI QB,dI Jh,dI Z0,dL 2 qf Z1,dL 5 qh Ji,dI q04,dI q3x,dI q3y,dL 4 (eA2 qf) Zv],rL 8 qc x1,rI x2] []=(JH (qg.mk Jg q7K Zu q1t q1u (qb.mk QB Jh Z0 Z1 Ji) q04 q3x q3y Zv) x1 x2).bind (fun(e:Bool)=>some (rB e,[])):=
 fun Jg q7K Zu q1t q1u QB Jh Z0 Z1 Ji q04 q3x q3y Zv x1 x2=>by
  rw[qF qy6 qK1.2.2.2 qI6]
  have:=qGG;have:=@q4Y;have:=@q9H;have:=@JH.eq_1;exact gA
def Jd (t67:Int) (v:qg) (v2:qd) (v3:Int) (v4:Int) (v5:List Int) (v6:List qa) (v7:List Bool):Option (Unit⊕ZS):=Option.bind (Zn t67) fun(a:List Int)=>Option.bind (zq v6 a) fun(a2:List qa)=>Option.bind (JH v a2 v3) fun(a3:Bool)=>if(!a3)=Bool.true then some (Sum.inl ()) else Option.bind (q0A v v2 v6 v7 t67) fun(a4:Prod (List Int) Bool)=>if a4.2=Bool.true then Option.bind (Zt v5 a) fun(a5:List Int)=>some (Sum.inr (ZS.mk a5 a4.1)) else some (Sum.inl ())
theorem q5o:∀(t67 Ju qEy q6x qgu:Int) (qgv:ByteArray) (q3C q8L q4F:Int) (q4G:List qe) (q8M:List qb) (qcj qq1 qq2:Int) (q6y:List (q0u qe)) (q8N qck qcl v3 v4:Int) (v5:List Int) (v6:List qa) (v7:List Bool),evr 8 (raO 8 19) (rbO 8 19) 9 (R.any::R.any::R.any::R.any::rP 0::rP 1::R.any::rP 2::rP 3::rP 4::R.any::rP 5::R.any::R.any::rP 6::rP 7::R.any::R.any::R.any::R.any::R.any::R.any::R.any::R.any::R.any::R.any::R.any::R.any::R.any::R.any::R.any::R.any::R.any::R.any::R.any::R.any::R.any::R.any::R.any::R.any::R.any::R.any::R.any::R.any::R.any::R.any::R.any::R.any::R.any::R.any::R.any::R.any::R.any::R.any::R.any::R.any::R.any::R.any::R.any::R.any::R.any::R.any::R.any::R.any::R.any::R.any::R.any::rI t67::qKW) [(0,B.blk 37 [dI Ju,dI qEy,dI q6x,dI qgu,dS qgv,dI q3C,dI q8L,dI q4F,dL 2 qf q4G,dL 5 qh q8M,dI qcj,dI qq1,dI qq2,dL 4 (eA2 qf) q6y]),(1,B.blk 44 [dI q8N,dI qck,dI qcl]),(2,B.blk 3 [dI v3]),(3,B.blk 47 [C.nils,C.nils]),(4,B.blk 40 [dI v4]),(5,B.blk 25 [dL 1 eI v5]),(6,B.blk 30 [dL 8 qc v6]),(7,B.blk 71 [dL 1 eB v7]),(8,B.ob (AO.lp 8 (R.any::R.any::R.any::R.any::rP 0::rP 1::R.any::rP 2::rP 3::rP 4::R.any::rP 5::R.any::R.any::rP 6::rP 7::qkI) [67] (raO 8 19) (rbO 8 19) LoopState.ready none))]=(Jd t67 (qg.mk Ju qEy q6x qgu qgv (qb.mk q3C q8L q4F q4G q8M) qcj qq1 qq2 q6y) (qd.mk q8N qck qcl) v3 v4 v5 v6 v7).bind (Sum.elim (fun(e:Unit)=>some (rB Bool.true,[(0,B.blk 37 [dI Ju,dI qEy,dI q6x,dI qgu,dS qgv,dI q3C,dI q8L,dI q4F,dL 2 qf q4G,dL 5 qh q8M,dI qcj,dI qq1,dI qq2,dL 4 (eA2 qf) q6y]),(1,B.blk 44 [dI q8N,dI qck,dI qcl]),(2,B.blk 3 [dI v3]),(3,B.blk 47 [C.nils,C.nils]),(4,B.blk 40 [dI v4]),(5,B.blk 25 [dL 1 eI v5]),(6,B.blk 30 [dL 8 qc v6]),(7,B.blk 71 [dL 1 eB v7]),(8,B.ob (AO.lp 8 (R.any::R.any::R.any::R.any::rP 0::rP 1::R.any::rP 2::rP 3::rP 4::R.any::rP 5::R.any::R.any::rP 6::rP 7::qkI) [67] (raO 8 19) (rbO 8 19) LoopState.ready none))])) (fun(e:ZS)=>some (rB Bool.false,[(0,B.blk 37 [dI Ju,dI qEy,dI q6x,dI qgu,dS qgv,dI q3C,dI q8L,dI q4F,dL 2 qf q4G,dL 5 qh q8M,dI qcj,dI qq1,dI qq2,dL 4 (eA2 qf) q6y]),(1,B.blk 44 [dI q8N,dI qck,dI qcl]),(2,B.blk 3 [dI v3]),(3,B.blk 47 [dL 1 eI e.Taken,dL 1 eI e.Leaf]),(4,B.blk 40 [dI 0]),(5,B.blk 25 [dL 1 eI v5]),(6,B.blk 30 [dL 8 qc v6]),(7,B.blk 71 [dL 1 eB v7]),(8,B.ob (AO.lp 8 (R.any::R.any::R.any::R.any::rP 0::rP 1::R.any::rP 2::rP 3::rP 4::R.any::rP 5::R.any::R.any::rP 6::rP 7::qkI) [67] (raO 8 19) (rbO 8 19) LoopState.done (some Code.ret)))]))):=
 fun t67 Ju qEy q6x qgu qgv q3C q8L q4F q4G q8M qcj qq1 qq2 q6y q8N qck qcl v3 v4 v5 v6 v7=>by
  rw[qh2 qtw qpF (by decide) qCW qtd.1 qtd.2]
  have:=cx8;have:=@qD3;have:=@qE0;have:=@qdg.eq_1;have:=@qbz.eq_1;have:=@q1o;have:=@Jm;have:=@q72;have:=@q8g;have:=@q5A;have:=@Jd.eq_1;have:=@qoM;exact gA
def Qh (b1:qg) (b2:qd) (b3:Int) (b5:Int) (b6:List Int) (b7:List qa) (b8:List Bool) (b9:Int) (t19:List Int) (t20:Int):Int→Option (Int⊕(ZS⊕Unit))|t21=>if t21<t20 then if 0≤t21∧t21<((t19.length:Nat):Int) then Option.bind t19[Int.toNat t21]? fun(a:Int)=>Option.bind (Jd a b1 b2 b3 b5 b6 b7 b8) fun(a2:Sum Unit ZS)=>Sum.elim (fun(a3:Unit)=>some (Sum.inl (w64 (t21+1)))) (fun(a4:ZS)=>some (Sum.inr (Sum.inl a4))) a2 else none else some (Sum.inr (Sum.inr ()))
theorem q5m:∀(zw q0M zc QC:Int) (QD:ByteArray) (qE zx qL:Int) (qM:List qe) (zy:List qb) (zY ZH ZI:Int) (zd:List (q0u qe)) (Zc J8 J9 b3 b5:Int) (b6:List Int) (b7:List qa) (b8:List Bool) (b9:Int) (t19:List Int) (t20 t21:Int),XL2 evo 53 10 8 ⟨[(0,R.c (C.hd .yield 0)),(19,rL 1 eI t19),(20,rI t20),(21,rI t21)],[(0,B.ob (AO.lp 8 (R.any::R.any::R.any::R.any::rP 1::rP 2::R.any::rP 3::rP 4::rP 5::R.any::rP 6::R.any::R.any::rP 7::rP 8::qkI) [67] (raO 8 19) (rbO 8 19) LoopState.ready none)),(1,B.blk 37 [dI zw,dI q0M,dI zc,dI QC,dS QD,dI qE,dI zx,dI qL,dL 2 qf qM,dL 5 qh zy,dI zY,dI ZH,dI ZI,dL 4 (eA2 qf) zd]),(2,B.blk 44 [dI Zc,dI J8,dI J9]),(3,B.blk 3 [dI b3]),(4,B.blk 47 [C.nils,C.nils]),(5,B.blk 40 [dI b5]),(6,B.blk 25 [dL 1 eI b6]),(7,B.blk 30 [dL 8 qc b7]),(8,B.blk 71 [dL 1 eB b8]),(9,B.blk 3 [dI b9])],10,30⟩=(zn (Qh (qg.mk zw q0M zc QC QD (qb.mk qE zx qL qM zy) zY ZH ZI zd) (qd.mk Zc J8 J9) b3 b5 b6 b7 b8 b9 t19 t20) t21).bind (Sum.elim (fun(e:ZS)=>some (Exit.ret,⟨[],[(0,B.ob (AO.lp 8 (R.any::R.any::R.any::R.any::rP 1::rP 2::R.any::rP 3::rP 4::rP 5::R.any::rP 6::R.any::R.any::rP 7::rP 8::qkI) [67] (raO 8 19) (rbO 8 19) LoopState.done (some Code.ret))),(1,B.blk 37 [dI zw,dI q0M,dI zc,dI QC,dS QD,dI qE,dI zx,dI qL,dL 2 qf qM,dL 5 qh zy,dI zY,dI ZH,dI ZI,dL 4 (eA2 qf) zd]),(2,B.blk 44 [dI Zc,dI J8,dI J9]),(3,B.blk 3 [dI b3]),(4,B.blk 47 [dL 1 eI e.Taken,dL 1 eI e.Leaf]),(5,B.blk 40 [dI 0]),(6,B.blk 25 [dL 1 eI b6]),(7,B.blk 30 [dL 8 qc b7]),(8,B.blk 71 [dL 1 eB b8]),(9,B.blk 3 [dI b9])],10,30⟩)) (fun(e:Unit)=>some (Exit.exit 2,⟨[],[(0,B.ob (AO.lp 8 (R.any::R.any::R.any::R.any::rP 1::rP 2::R.any::rP 3::rP 4::rP 5::R.any::rP 6::R.any::R.any::rP 7::rP 8::qkI) [67] (raO 8 19) (rbO 8 19) LoopState.ready none)),(1,B.blk 37 [dI zw,dI q0M,dI zc,dI QC,dS QD,dI qE,dI zx,dI qL,dL 2 qf qM,dL 5 qh zy,dI zY,dI ZH,dI ZI,dL 4 (eA2 qf) zd]),(2,B.blk 44 [dI Zc,dI J8,dI J9]),(3,B.blk 3 [dI b3]),(4,B.blk 47 [C.nils,C.nils]),(5,B.blk 40 [dI b5]),(6,B.blk 25 [dL 1 eI b6]),(7,B.blk 30 [dL 8 qc b7]),(8,B.blk 71 [dL 1 eB b8]),(9,B.blk 3 [dI b9])],10,30⟩))):=
 fun zw q0M zc QC QD qE zx qL qM zy zY ZH ZI zd Zc J8 J9 b3 b5 b6 b7 b8 b9 t19 t20 t21=>by
  revert t21;exact qcm qBQ qAh (fun e=>by rcases e with _|_<;>exact⟨_,rfl,fun h=>by cases h⟩) fun x=>by
   have:=qGF;have:=@qly.eq_1;have:=@q5o;have:=@Qh.eq_1;exact gA
def q08 (b1:qg) (b2:qd) (b3:Int) (b5:Int) (b6:List Int) (b7:List qa) (b8:List Bool) (v:Int):Option (ZS⊕Unit):=if 0≤v then Option.bind (zn (Qy b1 b2 b3 b5 b6 b7 b8 v (w64 (1*2 ^ min (Int.toNat v) (IntKind.bits IntKind.i64)))) ([],0)) fun(a:List Int)=>if 0<a.length∧a.length<4611686018427387904∧okB Qb a=Bool.true then Option.bind (zn (Qh b1 b2 b3 b5 b6 b7 b8 v (q0v Qb a) (((q0v Qb a).length:Nat):Int)) 0) fun(a2:Sum ZS Unit)=>Sum.elim (fun(a3:ZS)=>some (Sum.inl a3)) (fun(a4:Unit)=>some (Sum.inr ())) a2 else none else none
theorem q7i:∀(zw q0M zc QC:Int) (QD:ByteArray) (qE zx qL:Int) (qM:List qe) (zy:List qb) (zY ZH ZI:Int) (zd:List (q0u qe)) (Zc J8 J9 b3 b5:Int) (b6:List Int) (b7:List qa) (b8:List Bool) (v:Int),ev 53 10 [R.c (C.hd .yield 0),rP 9] [(0,B.ob (AO.lp 8 (R.any::R.any::R.any::R.any::rP 1::rP 2::R.any::rP 3::rP 4::rP 5::R.any::rP 6::R.any::R.any::rP 7::rP 8::qkI) [67] (raO 8 19) (rbO 8 19) LoopState.ready none)),(1,B.blk 37 [dI zw,dI q0M,dI zc,dI QC,dS QD,dI qE,dI zx,dI qL,dL 2 qf qM,dL 5 qh zy,dI zY,dI ZH,dI ZI,dL 4 (eA2 qf) zd]),(2,B.blk 44 [dI Zc,dI J8,dI J9]),(3,B.blk 3 [dI b3]),(4,B.blk 47 [C.nils,C.nils]),(5,B.blk 40 [dI b5]),(6,B.blk 25 [dL 1 eI b6]),(7,B.blk 30 [dL 8 qc b7]),(8,B.blk 71 [dL 1 eB b8]),(9,B.blk 3 [dI v])]=(q08 (qg.mk zw q0M zc QC QD (qb.mk qE zx qL qM zy) zY ZH ZI zd) (qd.mk Zc J8 J9) b3 b5 b6 b7 b8 v).bind (Sum.elim (fun(e:ZS)=>some (R.tup [],[(0,B.ob (AO.lp 8 (R.any::R.any::R.any::R.any::rP 1::rP 2::R.any::rP 3::rP 4::rP 5::R.any::rP 6::R.any::R.any::rP 7::rP 8::qkI) [67] (raO 8 19) (rbO 8 19) LoopState.done (some Code.ret))),(1,B.blk 37 [dI zw,dI q0M,dI zc,dI QC,dS QD,dI qE,dI zx,dI qL,dL 2 qf qM,dL 5 qh zy,dI zY,dI ZH,dI ZI,dL 4 (eA2 qf) zd]),(2,B.blk 44 [dI Zc,dI J8,dI J9]),(3,B.blk 3 [dI b3]),(4,B.blk 47 [dL 1 eI e.Taken,dL 1 eI e.Leaf]),(5,B.blk 40 [dI 0]),(6,B.blk 25 [dL 1 eI b6]),(7,B.blk 30 [dL 8 qc b7]),(8,B.blk 71 [dL 1 eB b8]),(9,B.blk 3 [dI v])])) (fun(e:Unit)=>some (R.tup [],[(0,B.ob (AO.lp 8 (R.any::R.any::R.any::R.any::rP 1::rP 2::R.any::rP 3::rP 4::rP 5::R.any::rP 6::R.any::R.any::rP 7::rP 8::qkI) [67] (raO 8 19) (rbO 8 19) LoopState.ready none)),(1,B.blk 37 [dI zw,dI q0M,dI zc,dI QC,dS QD,dI qE,dI zx,dI qL,dL 2 qf qM,dL 5 qh zy,dI zY,dI ZH,dI ZI,dL 4 (eA2 qf) zd]),(2,B.blk 44 [dI Zc,dI J8,dI J9]),(3,B.blk 3 [dI b3]),(4,B.blk 47 [C.nils,C.nils]),(5,B.blk 40 [dI b5]),(6,B.blk 25 [dL 1 eI b6]),(7,B.blk 30 [dL 8 qc b7]),(8,B.blk 71 [dL 1 eB b8]),(9,B.blk 3 [dI v])]))):=
 fun zw q0M zc QC QD qE zx qL qM zy zY ZH ZI zd Zc J8 J9 b3 b5 b6 b7 b8 v=>by
  rw[qF qyg qKI.2.2.2 qHh]
  have:=qGF;have:=@q4a;have:=qIg q5F;have:=@q5m;have:=@q08.eq_1;exact gA
end
noncomputable section
open Go.RowKit
set_option maxRecDepth 20000
set_option maxHeartbeats 8000000
def Qi (x0:qg) (x1:qd) (x2:List qa) (x3:Int):Option (ZS×Int):=Option.bind (Zx x0 x1) fun(a:Int)=>if(a != 0)=Bool.true then some (ZS.mk [] [],a) else Option.bind (zn (QL x0 x1 x3 0 x2 x2 ((x2.length:Nat):Int)) ([],0)) fun(a2:List Int)=>if 10<((a2.length:Nat):Int) then some (ZS.mk [] [],2) else Option.bind (zq x2 a2) fun(a3:List qa)=>Option.bind (q20 x0.Need x1 a3) fun(a4:Prod (List Bool) Int)=>if(a4.2 != 0)=Bool.true then some (ZS.mk [] [],a4.2) else Option.bind (q08 x0 x1 x3 0 a2 a3 a4.1 ((a3.length:Nat):Int)) fun(a5:Sum ZS Unit)=>Sum.elim (fun(a6:ZS)=>some (a6,0)) (fun(a7:Unit)=>some (ZS.mk [] [],31)) a5
theorem q7W:∀(Jg q7K Zu q1t:Int) (q1u:ByteArray) (QB Jh Z0:Int) (Z1:List qe) (Ji:List qb) (q04 q3x q3y:Int) (Zv:List (q0u qe)) (q1P q3A q3B:Int) (x2:List qa) (x3:Int),ev 8 0 [R.agg [dI Jg,dI q7K,dI Zu,dI q1t,dS q1u,dI QB,dI Jh,dI Z0,dL 2 qf Z1,dL 5 qh Ji,dI q04,dI q3x,dI q3y,dL 4 (eA2 qf) Zv],R.agg [dI q1P,dI q3A,dI q3B],rL 8 qc x2,rI x3] []=(Qi (qg.mk Jg q7K Zu q1t q1u (qb.mk QB Jh Z0 Z1 Ji) q04 q3x q3y Zv) (qd.mk q1P q3A q3B) x2 x3).bind (fun(e:ZS×Int)=>some (R.tup [R.agg [dL 1 eI e.1.Taken,dL 1 eI e.1.Leaf],rI e.2],[])):=
 fun Jg q7K Zu q1t q1u QB Jh Z0 Z1 Ji q04 q3x q3y Zv q1P q3A q3B x2 x3=>by
  rw[qF bd8 pw8.2.2.2 lo8]
  have:=cx8;have:=@q9k;have:=@q4y;have:=@Jm;have:=@q8q;have:=@q9n;have:=@q7i;have:=@Qi.eq_1;have:=@qoM;exact gA
def J1 (c:q0i):Option Bool:=Option.bind (JJ c) fun(a:Prod (List qa) (Prod qg Int))=>Option.bind (q0j a.1 a.2.1 (qd.mk 0 100 50) a.2.2) fun(a2:Prod (List qa) Int)=>if(a2.2 != 0)=Bool.true then some Bool.false else Option.bind (Qi a.2.1 (qd.mk 0 100 50) a.1 a.2.2) fun(a3:Prod ZS Int)=>Option.bind (Qi a.2.1 (qd.mk 0 100 50) a2.1 a.2.2) fun(a4:Prod ZS Int)=>some (a3.2==a4.2)
theorem q4R:∀(qi2:List (List Int)) (q3r q3s q3t q3u q3v q3w:Int) (q1s:List Int) (qi3:Int),ev 3 0 [R.agg [dL 1 (eL 1 eI) qi2,dI q3r,dI q3s,dI q3t,dI q3u,dI q3v,dI q3w,dL 1 eI q1s,C.d (D.int .u16 qi3)]] []=(J1 (q0i.mk qi2 (q0u.mk (qty.mk q3r q3s q3t) (qty.mk q3u q3v q3w)) q1s qi3)).bind (fun(e:Bool)=>some (rB e,[])):=
 fun qi2 q3r q3s q3t q3u q3v q3w q1s qi3=>by
  rw[qF bd3 pw3.2.2.2 lo3]
  have:=cx3;have:=@q9t;have:=@q6T;have:=@q88;have:=@q9p;have:=@q7W;have:=@J1.eq_1;exact gA
end


noncomputable section
open Go.RowKit
section
variable {τ ε:Type} {step:τ→Option (τ⊕ε)}
theorem zM {x y:τ} (h:step x=some (.inl y)):zn step x=zn step y:=by
 rw[qnW,h];rfl
theorem zg {x:τ} {e:ε} (h:step x=some (.inr e)):zn step x=some e:=by
 rw[qnW,h];rfl
theorem q2h {e:ε} (st:Nat→τ) (i0 n:Nat) (h0:i0≤n) (h:∀i,i0≤i→i<n→step (st i)=some (.inl (st (i+1)))) (hn:step (st n)=some (.inr e)):zn step (st i0)=some e:=by
 have key:∀j i,j+i=n→i0≤i→zn step (st i)=some e:=by
  intro j
  induction j with
  | zero=>intro i hi _;rw[qQV] at hi;subst hi;exact zg hn
  | succ j ih=>intro i hi h1;rw[zM (h i h1 (by omega))];exact ih (i+1) (by omega) (by omega)
 exact key (n-i0) i0 (by omega) (qQN _)
def qeo {α β ε:Type} (g:β→α→β⊕ε) (fin:β→ε):List α→β→ε
 | [],b=>fin b
 | a::l,b=>match g b a with
  | .inl b'=>qeo g fin l b'
  | .inr e=>e
theorem qdi {α β:Type} (l:List α) (st:β→Nat→τ) (g:β→α→β⊕ε) (fin:β→ε)
  (h:∀b i a,l[i]?=some a→step (st b i)=some (match g b a with | .inl b' => .inl (st b' (i+1)) | .inr e => .inr e)) (hn:∀b,step (st b l.length)=some (.inr (fin b))) (b:β):zn step (st b 0)=some (qeo g fin l b):=by
 have key:∀(r:List α) (i:Nat) (b:β),r.length+i=l.length→(∀j,r[j]?=l[i+j]?)→zn step (st b i)=some (qeo g fin r b):=by
  intro r
  induction r with
  | nil=>
   intro i b hi _
   have hi:i=l.length:=by simpa using hi
   subst hi;exact zg (hn b)
  | cons a r ih=>
   intro i b hi hr
   have ha:l[i]?=some a:=by have:=hr 0;simpa using this.symm
   have h1:=h b i a ha
   unfold qeo
   cases hg:g b a with
   | inl b'=>
    rw[hg] at h1
    rw[zM h1]
    refine ih (i+1) b' (by simp at hi;omega) fun j=>?_
    have:=hr (j+1)
    rw[show i+1+j=i+(j+1) by omega,←this];rfl
   | inr e=>
    rw[hg] at h1
    exact zg h1
 exact key l 0 b (by simp) (by simp)
theorem q9a {α β:Type} (l:List α) (st:β→Nat→τ) (g:β→α→β) (fin:β→ε)
  (h:∀b i a,l[i]?=some a→step (st b i)=some (.inl (st (g b a) (i+1)))) (hn:∀b,step (st b l.length)=some (.inr (fin b))) (b:β):zn step (st b 0)=some (fin (l.foldl g b)):=by
 rw[qdi l st (fun b a => .inl (g b a)) fin h hn b]
 congr 1
 induction l generalizing b with
 | nil=>rfl
 | cons a l ih=>
  unfold qeo
  simp only[qRB]
  clear h hn
  have:∀(l:List α) (b:β),qeo (ε:=ε) (fun b a => .inl (g b a)) fin l b=fin (l.foldl g b):=by
   intro l
   induction l with
   | nil=>intro b;rfl
   | cons a l ih=>intro b;unfold qeo;simp only[qRB];exact ih _
  exact this l _
theorem qfY {α:Type} (l:List α) (st:Nat→τ) (p:α→Option ε) (d:ε)
  (h:∀i a,l[i]?=some a→step (st i)=some (match p a with|some e => .inr e|none => .inl (st (i+1)))) (hn:step (st l.length)=some (.inr d)):zn step (st 0)=some ((l.findSome? p).getD d):=by
 have h1:=qdi (ε:=ε) (β:=Unit) l (fun _ i=>st i) (fun _ a=>match p a with|some e => .inr e|none => .inl ()) (fun _=>d) (fun b i a ha=>by
  rw[h i a ha];cases p a<;>rfl) (fun _=>hn) ()
 rw[h1]
 congr 1
 have:∀l:List α,qeo (ε:=ε) (fun(_:Unit) a=>match p a with|some e => .inr e|none => .inl ()) (fun _=>d) l ()=(l.findSome? p).getD d:=by
  intro l
  induction l with
  | nil=>rfl
  | cons a l ih=>
   unfold qeo
   rw[List.findSome?_cons]
   cases p a with
   | none=>simpa using ih
   | some e=>rfl
 exact this l
def q69 {α β ε:Type} (g:Nat→β→α→β⊕ε) (fin:β→ε):List α→Nat→β→ε
 | [],_,b=>fin b
 | a::l,i,b=>match g i b a with
  | .inl b'=>q69 g fin l (i+1) b'
  | .inr e=>e
theorem q39 {α β:Type} (l:List α) (st:β→Nat→τ) (g:Nat→β→α→β⊕ε) (fin:β→ε)
  (h:∀b i a,l[i]?=some a→step (st b i)=some (match g i b a with | .inl b' => .inl (st b' (i+1)) | .inr e => .inr e)) (hn:∀b,step (st b l.length)=some (.inr (fin b))) (b:β):zn step (st b 0)=some (q69 g fin l 0 b):=by
 have key:∀(r:List α) (i:Nat) (b:β),r.length+i=l.length→(∀j,r[j]?=l[i+j]?)→zn step (st b i)=some (q69 g fin r i b):=by
  intro r
  induction r with
  | nil=>
   intro i b hi _
   have hi:i=l.length:=by simpa using hi
   subst hi;exact zg (hn b)
  | cons a r ih=>
   intro i b hi hr
   have ha:l[i]?=some a:=by have:=hr 0;simpa using this.symm
   have h1:=h b i a ha
   unfold q69
   cases hg:g i b a with
   | inl b'=>
    rw[hg] at h1
    rw[zM h1]
    refine ih (i+1) b' (by simp at hi;omega) fun j=>?_
    have:=hr (j+1)
    rw[show i+1+j=i+(j+1) by omega,←this];rfl
   | inr e=>
    rw[hg] at h1
    exact zg h1
 exact key l 0 b (by simp) (by simp)
end
theorem ZB {α:Type} {l:List α} {i:Nat} {a:α} (h:l[i]?=some a):i<l.length:=(qQB.1 h).1
theorem QI {n:Int} (h0 : -9223372036854775808≤n) (h1:n≤9223372036854775807):w64 n=n:=wi n h0 h1
theorem Qn {i n:Nat} (h:i<n) (hn:n≤9223372036854775807):w64 ((i:Int)+1)=((i+1:Nat):Int):=by
 rw[QI (by omega) (by omega)];omega
end
noncomputable section
open Go.RowKit
theorem qiE (a:Nat) (h:a<9223372036854775808):IntKind.i64.wrap (a:Int)=a:=wi _ (by omega) (by omega)
theorem qg8 (a:Nat):BitVec.ofInt IntKind.i64.bits (a:Int)=BitVec.ofNat 64 a:=by
 show BitVec.ofInt 64 (a:Int)=_
 simp
theorem qe4 (a b:Nat) (ha:a<9223372036854775808) (hb:b<9223372036854775808):Zq .and .i64 (a:Int) (b:Int)=((a &&& b:Nat):Int):=by
 unfold Zq
 simp only[qg8]
 have h1:(BitVec.ofNat 64 a &&& BitVec.ofNat 64 b).toNat=a &&& b:=by
  rw[BitVec.toNat_and,BitVec.toNat_ofNat,BitVec.toNat_ofNat,Nat.mod_eq_of_lt (by omega),Nat.mod_eq_of_lt (by omega)]
 have h2:a &&& b≤a:=Nat.and_le_left
 show IntKind.i64.wrap (((BitVec.ofNat 64 a &&& BitVec.ofNat 64 b).toNat:Nat):Int)=_
 rw[h1]
 exact qiE _ (by omega)
theorem qd3 (a b:Nat) (ha:a<9223372036854775808) (hb:b<9223372036854775808):Zq .andNot .i64 (a:Int) (b:Int)=((a ^^^ (a &&& b):Nat):Int):=by
 unfold Zq
 simp only[qg8]
 have h1:(BitVec.ofNat 64 a &&& ~~~BitVec.ofNat 64 b).toNat=a ^^^ (a &&& b):=by
  apply Nat.eq_of_testBit_eq
  intro i
  rw[BitVec.testBit_toNat,BitVec.getLsbD_and,BitVec.getLsbD_not,BitVec.getLsbD_ofNat,BitVec.getLsbD_ofNat,Nat.testBit_xor,Nat.testBit_and]
  by_cases hi:i<64
  ·simp only[hi,decide_true,qR4]
   cases a.testBit i<;>cases b.testBit i<;>rfl
  ·have:a.testBit i=false:=Nat.testBit_lt_two_pow (qR7 ha (by
    have:=Nat.pow_le_pow_right (n:=2) (by decide) (show 63≤i by omega)
    exact this))
   simp[hi,this]
 have h2:a ^^^ (a &&& b)<2 ^ 63:=Nat.xor_lt_two_pow (by omega) (qR9 Nat.and_le_left (by omega))
 show IntKind.i64.wrap (((BitVec.ofNat 64 a &&& ~~~BitVec.ofNat 64 b).toNat:Nat):Int)=_
 rw[h1]
 exact qiE _ (by omega)
theorem q8l (a k:Nat) (hk:k≤64):((a:Int)).fdiv (2 ^ min k IntKind.i64.bits)=((a / 2 ^ k:Nat):Int):=by
 have:min k IntKind.i64.bits=k:=Nat.min_eq_left hk
 rw[this]
 show((a:Int)).fdiv (2 ^ k)=_
 rw[show((2:Int) ^ k)=((2 ^ k:Nat):Int) by simp]
 rw[Int.fdiv_eq_ediv_of_nonneg _ (Int.natCast_nonneg _)]
 simp
theorem qhn (a k:Nat) (ha:a<9223372036854775808) (hk:k≤64):(Zq .and .i64 ((a:Int).fdiv (2 ^ min k IntKind.i64.bits)) 1==1)=a.testBit k:=by
 rw[q8l a k hk,show(1:Int)=((1:Nat):Int) from rfl,qe4 _ _ (qR9 (Nat.div_le_self _ _) ha) (by decide),Nat.and_one_is_mod,Nat.testBit_eq_decide_div_mod_eq]
 have:a / 2 ^ k % 2<2:=Nat.mod_lt _ (by decide)
 by_cases h:a / 2 ^ k % 2=1
 ·simp[h]
 ·have:a / 2 ^ k % 2=0:=by omega
  simp[this]
def QQ {α:Type} (N:Nat) (g:Nat→α):List α:=(List.range N).map g
theorem zf {α:Type} (N:Nat) (g:Nat→α):(QQ N g).length=N:=by simp[QQ]
theorem Zy {α:Type} {N:Nat} (g:Nat→α) {i:Nat} (h:i<N):(QQ N g)[i]?=some (g i):=by
 unfold QQ;rw[qQL,List.getElem?_range h];rfl
theorem q0e {α:Type} {N:Nat} {f g:Nat→α} (h:∀k,k<N→f k=g k):QQ N f=QQ N g:=by
 unfold QQ
 refine List.map_congr_left fun k hk=>h k (qRu.1 hk)
theorem q3H {α:Type} (N:Nat) (c:α):List.replicate N c=QQ N (fun _=>c):=by
 unfold QQ
 induction N with
 | zero=>rfl
 | succ n ih=>rw[List.range_succ,List.map_append,←ih,List.replicate_succ'];rfl
def q9X {α:Type} (g:Nat→α) (i:Nat) (v:α):Nat→α:=fun k=>if k=i then v else g k
theorem J5 {α:Type} (N:Nat) (g:Nat→α) (i:Nat) (v:α):(QQ N g).set i v=QQ N (q9X g i v):=by
 refine List.ext_getElem? fun k=>?_
 rw[List.getElem?_set,zf]
 by_cases hk:k<N
 ·rw[Zy _ hk,Zy _ hk]
  unfold q9X
  by_cases h:i=k
  ·subst h;simp[hk]
  ·rw[if_neg h,if_neg (fun h2=>h h2.symm)]
 ·have e1:(QQ N g)[k]?=none:=qR5 (by rw[zf];omega)
  have e2:(QQ N (q9X g i v))[k]?=none:=qR5 (by rw[zf];omega)
  rw[e1,e2]
  split
  ·rw[if_neg (by omega)]
  ·rfl
theorem qb9 {α:Type} (g:Nat→α) (i:Nat) (v:α):q9X g i v i=v:=by simp[q9X]
theorem q8D {α:Type} (g:Nat→α) (i:Nat) (v w:α):q9X (q9X g i v) i w=q9X g i w:=by
 funext k;unfold q9X;split<;>rfl
theorem qkH {α:Type} (f:Nat→α) (c:α) {i0 i:Nat} (h:i0≤i):q9X (fun k=>if i0≤k∧k<i then f k else c) i (f i)=fun k=>if i0≤k∧k<i+1 then f k else c:=by
 funext k
 unfold q9X
 by_cases hk:k=i
 ·subst hk;rw[if_pos rfl,if_pos ⟨h,Nat.lt_succ_self _⟩]
 ·rw[if_neg hk]
  show(if i0≤k∧k<i then f k else c)=_
  by_cases h:i0≤k∧k<i
  ·rw[if_pos h,if_pos ⟨h.1,by omega⟩]
  ·rw[if_neg h,if_neg (by omega)]
end
noncomputable section
open Go.RowKit
def ceq (a b:qe):Bool:=(a.School==b.School)&&(a.Code.toList==b.Code.toList)
def qjJ (n a b:Int):Int:=max (min a b) (min n (max a b))
def qbb (s:qd):Bool:=qjJ s.Worst (-1000) 1000==s.Worst&&qjJ s.Best (-1000) 1000==s.Best&&s.Worst != s.Best&&qjJ s.Pass s.Worst s.Best==s.Pass
def qif (s:qd) (g:Int):Bool:=qbb s&&qjJ g s.Worst s.Best==g
def q8b (s:qd) (g m:Int):Bool:=qif s g&&(g==m||(decide (m<g)==decide (s.Worst<s.Best)))
theorem q7R (s:qd):q0T s=some (if qbb s then 0 else 10):=by
 have h1:=qfY (ε:=Unit⊕Unit) (step:=ZR [s.Worst,s.Best] s 2) [s.Worst,s.Best] (fun i=>(i:Int)) (fun a=>if qjJ a (-1000) 1000 != a then some (.inl ()) else none) (.inr ()) (fun i a ha=>by
   have hi:i<2:=by obtain⟨h,_⟩:=qQB.1 ha;simpa using h
   have hw:w64 ((i:Int)+1)=((i+1:Nat):Int):=Qn hi (by omega)
   unfold ZR
   rw[if_pos (by omega),if_pos ⟨by omega,by simpa using by omega⟩,qQA,ha,qQx,hw]
   show(if(qjJ a (-1000) 1000 != a)=true then _ else _)=_
   split<;>simp_all) (by
   unfold ZR
   rfl)
 unfold q0T
 rw[show((0:Int))=((0:Nat):Int) from rfl,h1,qQx]
 unfold qbb Qd
 simp only[List.findSome?_cons,List.findSome?_nil]
 show _=some (if(qjJ s.Worst (-1000) 1000==s.Worst&&qjJ s.Best (-1000) 1000==s.Best&&s.Worst != s.Best&&qjJ s.Pass s.Worst s.Best==s.Pass)=true then 0 else 10)
 change (Sum.elim _ (fun _=>if(s.Worst==s.Best)=true then some (10:Int) else if(qjJ s.Pass s.Worst s.Best != s.Pass)=true then some 10 else some 0) _)=_
 by_cases e1:qjJ s.Worst (-1000) 1000=s.Worst<;>by_cases e2:qjJ s.Best (-1000) 1000=s.Best<;>by_cases e3:s.Worst=s.Best<;>by_cases e4:qjJ s.Pass s.Worst s.Best=s.Pass<;>simp[e1,e2,e3,e4,bne]
theorem qec (s:qd) (g:Int):q1F s g=some (qif s g):=by
 unfold q1F qif
 rw[q7R,qQx]
 cases h:qbb s<;>simp[Qd,qjJ]
theorem qcQ (s:qd) (g m:Int):JG s g m=some (q8b s g m):=by
 unfold JG q8b
 rw[qec,qQx]
 cases h:qif s g
 ·simp
 ·by_cases h2:g=m<;>simp[h2]
theorem qbE (p:qe→Bool):∀(l:List qe) (i:Nat),(decide (0≤(q69 (ε:=Int⊕Unit) (fun i (_:Unit) a=>if p a=true then .inr (.inl (i:Int)) else .inl ()) (fun _ => .inr ()) l i ()).elim id (fun _ => -1)))=l.any p
 | [],i=>rfl
 | a::l,i=>by
  unfold q69
  by_cases h:p a=true
  ·simp[h]
  ·have h':p a=false:=by simpa using h
   simp only[h',List.any_cons,Bool.false_or]
   exact qbE p l (i+1)
theorem qrd (l:List qe) (hl:l.length≤9223372036854775807) (v:qe):∃i:Int,zE l v=some i∧(decide (0≤i))=l.any (ceq v):=by
 have h1:=q39 (ε:=Int⊕Unit) (step:=z7 v l (l.length:Int)) l (fun(b:Unit) i=>(i:Int)) (fun i b a=>if ceq v a=true then .inr (.inl (i:Int)) else .inl ()) (fun _ => .inr ()) (fun b i a ha=>by
   have hi:=ZB ha
   have hw:w64 ((i:Int)+1)=((i+1:Nat):Int):=Qn hi hl
   unfold z7
   rw[if_pos (by omega),if_pos ⟨by omega,by omega⟩,qQA,ha,qQx,hw]
   unfold ceq
   by_cases e1:v.School=a.School<;>by_cases e2:v.Code.toList=a.Code.toList<;>simp[e1,e2]) (fun b=>by
   unfold z7
   rw[if_neg (by omega)]) ()
 refine⟨_,?_,qbE (ceq v) l 0⟩
 unfold zE
 rw[show((0:Int))=((0:Nat):Int) from rfl,h1,qQx]
 cases(q69 (ε:=Int⊕Unit) (fun i (_:Unit) a=>if ceq v a=true then .inr (.inl (i:Int)) else .inl ()) (fun _ => .inr ()) l 0 ())<;>rfl
theorem qhw (l:List qe) (hl:l.length≤9223372036854775807) (v:qe):zr l v=some (l.any (ceq v)):=by
 obtain⟨i,h1,h2⟩:=qrd l hl v
 unfold zr
 rw[h1,qQx,h2]
def qa9 (n:qb):Bool:=n.Kind==1||n.Kind==2
theorem qeJ (n:qb):JT n=qa9 n:=by
 unfold JT qa9
 cases h:(n.Kind==1)<;>simp
def qcE (n:qb) (s:qd) (a:qa):Bool:=qa9 n&&n.Set.any (ceq a.Course)&&q8b s a.Grade n.Min
theorem qvr (n:qb) (hn:n.Set.length≤9223372036854775807) (s:qd) (a:qa):q4r n s a=some (qcE n s a):=by
 unfold q4r qcE
 rw[qeJ,qhw n.Set hn,qcQ]
 cases qa9 n<;>cases n.Set.any (ceq a.Course)<;>simp
def wgF (n:qb) (s:qd) (set:Nat):List qa→Nat→qV→qV
 | [],_,x=>x
 | a::l,k,x=>wgF n s set l (k+1) (if set.testBit k=true then⟨w64 (x.many+1),w64 (x.credits+a.Credits),x.fine&&qcE n s a⟩ else x)
def ld0:qV:=⟨0,0,true⟩
theorem qji (n:qb) (hn:n.Set.length≤9223372036854775807) (s:qd) (l:List qa) (hl:l.length≤62) (set:Nat) (hs:set<9223372036854775808):q0y n s l (set:Int)=some (wgF n s set l 0 ld0):=by
 have h1:=q39 (ε:=qV) (step:=Jw (set:Int) n s (qV.mk (0:Int) (0:Int) Bool.false) l (l.length:Int)) l (fun(b:qV) i=>(b,(i:Int))) (fun i b a => .inl (if set.testBit i=true then⟨w64 (b.many+1),w64 (b.credits+a.Credits),b.fine&&qcE n s a⟩ else b)) (fun b=>b) (fun b i a ha=>by
   have hi:=ZB ha
   have hw:w64 ((i:Int)+1)=((i+1:Nat):Int):=Qn hi (by omega)
   have hb:q0I (i:Int) (set:Int)=some (set.testBit i):=by
    unfold q0I
    rw[if_pos (by omega),qQA,qhn set i hs (by omega)]
   unfold Jw
   simp only
   rw[if_pos (by omega),if_pos ⟨by omega,by omega⟩,qQA,ha,qQx,hw,hb,qQx]
   cases set.testBit i
   ·simp
   ·cases hf:b.fine
    ·simp
    ·simp[qvr n hn s a]) (fun b=>by
   unfold Jw
   simp only
   rw[if_neg (by omega)]) ld0
 unfold q0y
 change Option.bind (zn _ (ld0,((0:Nat):Int))) _=_
 rw[h1,qQx]
 congr 1
 have:∀(l:List qa) (i:Nat) (b:qV),q69 (ε:=qV) (fun i (b:qV) (a:qa) => .inl (if set.testBit i=true then⟨w64 (b.many+1),w64 (b.credits+a.Credits),b.fine&&qcE n s a⟩ else b)) (fun b=>b) l i b=wgF n s set l i b:=by
  intro l
  induction l with
  | nil=>intro i b;rfl
  | cons a l ih=>intro i b;unfold q69 wgF;exact ih _ _
 exact this l 0 ld0
def qcC (n:qb) (x:qV):Bool:=if n.Kind=1 then x.fine&&x.many==1 else x.fine&&decide (0<x.many)&&decide (n.N≤x.credits)
end
noncomputable section
open Go.RowKit
def q0R (set sub:Nat):Nat:=set ^^^ (set &&& sub)
theorem QH (set sub i:Nat):(q0R set sub).testBit i=(set.testBit i && !sub.testBit i):=by
 unfold q0R
 rw[Nat.testBit_xor,Nat.testBit_and]
 cases set.testBit i<;>cases sub.testBit i<;>rfl
theorem qiy (set sub:Nat):q0R set sub≤set:=by
 have:q0R set sub &&& set=q0R set sub:=Nat.eq_of_testBit_eq fun i=>by
  rw[Nat.testBit_and,QH];cases set.testBit i<;>cases sub.testBit i<;>rfl
 rw[←this];exact Nat.and_le_right
def eaV (own:Nat→Bool) (best:Nat→Int) (set sub:Nat) (v:Int):Int:=if own sub=true∧0≤best (q0R set sub) then max v (best (q0R set sub)+1) else v
def eaF (own:Nat→Bool) (best:Nat→Int) (set:Nat):Nat→Nat→Int→Int
 | 0,_,v=>v
 | f+1,sub,v=>if sub=0 then v else eaF own best set f ((sub-1) &&& set) (eaV own best set sub v)
def Bnd (best:Nat→Int) (N:Nat) (M:Int):Prop:=∀k,k<N → -1≤best k∧best k≤M
section
variable {N:Nat} (hN:N≤65536) {own:Nat→Bool} {best:Nat→Int} {M:Int} (hM:M≤1000000) (hb:Bnd best N M)
include hN hM hb
theorem qsh {set sub:Nat} (hs:set<N) (hsub:sub<N) (g:Nat→Int):q0z (sub:Int) ((q0R set sub:Nat):Int) (QQ N best) (QQ N g) (QQ N own) (set:Int)=some (QQ N (q9X g set (eaV own best set sub (g set)))):=by
 have hr:=qiy set sub
 have hbr:=hb (q0R set sub) (by omega)
 unfold q0z
 rw[zf,if_pos ⟨by omega,by omega⟩,qQA,Zy own hsub,qQx]
 unfold eaV
 cases ho:own sub
 ·simp only[Bool.false_eq_true,if_false,false_and]
  rw[←J5]
  congr 1
  refine List.ext_getElem? fun k=>?_
  rw[List.getElem?_set]
  split
  ·rename_i h;subst h;rw[zf,if_pos hs,Zy _ hs]
  ·rfl
 ·simp only[if_true,true_and]
  rw[zf,if_pos ⟨by omega,by omega⟩,qQA,Zy best (by omega),qQx]
  by_cases h0:0≤best (q0R set sub)
  ·rw[if_pos h0,if_pos h0,zf,if_pos ⟨by omega,by omega⟩,qQA,Zy g hs,qQx,if_pos ⟨by omega,by omega⟩,qQx,if_pos ⟨by omega,by omega⟩,if_pos (by omega),QI (by omega) (by omega),J5]
  ·rw[if_neg h0,if_neg h0,←J5]
   congr 1
   refine List.ext_getElem? fun k=>?_
   rw[List.getElem?_set]
   split
   ·rename_i h;subst h;rw[zf,if_pos hs,Zy _ hs]
   ·rfl
theorem qe2 {set:Nat} (hs:set<N):∀(f sub:Nat),sub≤f→sub≤set→∀(g:Nat→Int),zn (zW (QQ N best) (QQ N own) (set:Int) (set:Int)) (QQ N g,(sub:Int))=some (QQ N (q9X g set (eaF own best set f sub (g set)))):=by
 have hself:∀g:Nat→Int,q9X g set (g set)=g:=fun g=>by funext k;unfold q9X;split<;>simp_all
 have h0:∀(g:Nat→Int),zn (zW (QQ N best) (QQ N own) (set:Int) (set:Int)) (QQ N g,((0:Nat):Int))=some (QQ N g):=fun g=>by
  refine zg ?_
  unfold zW
  simp
 intro f
 induction f with
 | zero=>
  intro sub hf _ g
  have:sub=0:=by omega
  subst this
  rw[h0]
  unfold eaF
  rw[hself]
 | succ f ih=>
  intro sub hf hle g
  unfold eaF
  by_cases hz:sub=0
  ·subst hz
   rw[h0,if_pos rfl,hself]
  ·have ha:(sub-1) &&& set≤sub-1:=Nat.and_le_left
   have hstep:zW (QQ N best) (QQ N own) (set:Int) (set:Int) (QQ N g,(sub:Int))=some (.inl (QQ N (q9X g set (eaV own best set sub (g set))),((((sub-1) &&& set:Nat)):Int))):=by
    unfold zW
    simp only
    rw[if_pos (by omega),qd3 _ _ (by omega) (by omega),QI (by omega) (by omega),show((sub:Int)-1)=((sub-1:Nat):Int) by omega,qe4 _ _ (by omega) (by omega)]
    have:=qsh hN hM hb (own:=own) hs (sub:=sub) (by omega) g
    unfold q0R at this
    rw[this,qQx]
   rw[zM hstep,ih _ (by omega) (by omega),if_neg hz,qb9,q8D]
end
def stF (skip:Bool) (own:Nat→Bool) (best:Nat→Int) (set:Nat):Int:=eaF own best set set set (if skip=true then best set else -1)
theorem qvQ {own:Nat→Bool} {best:Nat→Int} {N:Nat} {M:Int} (hb:Bnd best N M) (hM : -1≤M) {set sub:Nat} (hs:set<N) {v:Int} (h : -1≤v∧v≤M+1) : -1≤eaV own best set sub v∧eaV own best set sub v≤M+1:=by
 have:=hb (q0R set sub) (qR9 (qiy set sub) hs)
 unfold eaV
 split<;>omega
theorem qoh {own:Nat→Bool} {best:Nat→Int} {N:Nat} {M:Int} (hb:Bnd best N M) (hM : -1≤M) {set:Nat} (hs:set<N):∀(f sub:Nat) (v:Int),-1≤v∧v≤M+1 → -1≤eaF own best set f sub v∧eaF own best set f sub v≤M+1
 | 0,_,_,h=>h
 | f+1,sub,v,h=>by
  unfold eaF
  split
  ·exact h
  ·exact qoh hb hM hs f _ _ (qvQ hb hM hs h)
theorem qnG {skip:Bool} {own:Nat→Bool} {best:Nat→Int} {N:Nat} {M:Int} (hb:Bnd best N M) (hM : -1≤M):Bnd (stF skip own best) N (M+1):=fun k hk=>by
 unfold stF
 have:=hb k hk
 refine qoh hb hM hk _ _ _ ?_
 split<;>omega
end
noncomputable section
open Go.RowKit
def b0F (k:Nat):Int:=if k=0 then 0 else -1
def alG (leaf:Int) (set:Nat):List Int→Nat→Bool
 | [],_=>true
 | x::d,k=>(set.testBit k==(x==leaf))&&alG leaf set d (k+1)
def alF (d:List Int) (leaf set:Nat):Bool:=alG (leaf:Int) set d 0
def foF (d:List Int) (a b:Nat):Bool:=d.any fun x=>decide ((a:Int)≤x)&&decide (x<(b:Int))
def q1q (d:List Int) (s:qd) (l:List qa) (n:qb) (nx set:Nat):Bool:=decide (set≠0)&&(alF d nx set&&qcC n (wgF n s set l 0 ld0))
mutual
def lvN:qb→Nat
 | ⟨k,_,_,_,L⟩=>if k=1∨k=2 then 1 else lvL L
def lvL:List qb→Nat
 | []=>0
 | x::L=>lvN x+lvL L
end
mutual
def ndN:qb→List qb
 | ⟨k,n,m,S,L⟩=>⟨k,n,m,S,L⟩::ndL L
def ndL:List qb→List qb
 | []=>[]
 | x::L=>ndN x++ndL L
end
theorem qbi (n:qb):lvN n=if n.Kind=1∨n.Kind=2 then 1 else lvL n.L:=by cases n;rw[lvN]
theorem q0s (n:qb):ndN n=n::ndL n.L:=by cases n;rw[ndN]
mutual
def Qp (d:List Int) (s:qd) (l:List qa):qb→Nat→Nat→Bool
 | ⟨k,n,m,S,L⟩,nx,set=>if k=1∨k=2 then q1q d s l ⟨k,n,m,S,L⟩ nx set else decide (set≠0)&&decide ((if k=3 then(L.length:Int) else n)≤qas d s l (k==4) L nx b0F set)
def qas (d:List Int) (s:qd) (l:List qa) (sk:Bool):List qb→Nat→(Nat→Int)→Nat→Int
 | [],_,b,set=>b set
 | x::L,nx,b,set=>qas d s l sk L (nx+lvN x) (stF (sk && !foF d nx (nx+lvN x)) (Qp d s l x nx) b) set
end
theorem qc3 (d:List Int) (s:qd) (l:List qa) (n:qb) (nx set:Nat):Qp d s l n nx set=if n.Kind=1∨n.Kind=2 then q1q d s l n nx set else decide (set≠0)&&decide ((if n.Kind=3 then(n.L.length:Int) else n.N)≤qas d s l (n.Kind==4) n.L nx b0F set):=by cases n;rw[Qp]
theorem qoD:∀n:qb,lvN n≤(ndN n).length:=by
 intro n
 induction n using qb.rec (motive_2:=fun L=>lvL L≤(ndL L).length) with
 | mk k n m S L ih=>rw[lvN,ndN,qQI];split<;>omega
 | nil=>simp[lvL]
 | cons x L h1 h2=>rw[lvL,ndL,qQE];omega
theorem qkY (d:List Int) (hd:d.length≤16) (leaf set:Nat) (hs:set<9223372036854775808):q0f (leaf:Int) (set:Int) d=some (alF d leaf set):=by
 have h1:=q39 (ε:=Unit⊕Unit) (step:=Ja d (leaf:Int) (set:Int) (d.length:Int)) d (fun(_:Unit) i=>(i:Int)) (fun i _ x=>if(set.testBit i==(x==(leaf:Int)))=true then .inl () else .inr (.inl ())) (fun _ => .inr ()) (fun _ i x hx=>by
   have hi:=ZB hx
   have hw:w64 ((i:Int)+1)=((i+1:Nat):Int):=Qn hi (by omega)
   unfold Ja
   rw[if_pos (by omega),if_pos ⟨by omega,by omega⟩,qQA,hx,qQx,if_pos (by omega),hw,qhn set i hs (by omega)]
   cases(set.testBit i==(x==(leaf:Int)))<;>simp) (fun _=>by
   unfold Ja
   rw[if_neg (by omega)]) ()
 unfold q0f
 change Option.bind (zn _ ((0:Nat):Int)) _=_
 rw[h1,qQx]
 have:∀(d:List Int) (k:Nat),(Sum.elim (fun(_:Unit)=>some false) (fun(_:Unit)=>some true) (q69 (ε:=Unit⊕Unit) (fun i (_:Unit) (x:Int)=>if(set.testBit i==(x==(leaf:Int)))=true then .inl () else .inr (.inl ())) (fun _ => .inr ()) d k ()))=some (alG leaf set d k):=by
  intro d
  induction d with
  | nil=>intro k;rfl
  | cons x d ih=>
   intro k
   unfold q69 alG
   cases h:(set.testBit k==(x==(leaf:Int)))
   ·simp
   ·simp only[if_true,qR4];exact ih (k+1)
 exact this d 0
theorem qp0 (d:List Int) (hd:d.length≤16) (a b:Nat):q15 (a:Int) (b:Int) d=some (foF d a b):=by
 have h1:=q39 (ε:=Int⊕Unit) (step:=zJ (a:Int) (b:Int) d (d.length:Int)) d (fun(_:Unit) i=>(i:Int)) (fun i _ x=>if(decide ((a:Int)≤x)&&decide (x<(b:Int)))=true then .inr (.inl (i:Int)) else .inl ()) (fun _ => .inr ()) (fun _ i x hx=>by
   have hi:=ZB hx
   have hw:w64 ((i:Int)+1)=((i+1:Nat):Int):=Qn hi (by omega)
   unfold zJ Jq
   rw[if_pos (by omega),if_pos ⟨by omega,by omega⟩,qQA,hx,qQx,hw]
   by_cases h2:(a:Int)≤x
   ·by_cases h3:x<(b:Int)<;>simp[h2,h3]
   ·simp[h2]) (fun _=>by
   unfold zJ
   rw[if_neg (by omega)]) ()
 unfold q15 QG Za
 change Option.bind (Option.bind (Option.bind (zn _ ((0:Nat):Int)) _) _) _=_
 rw[h1,qQx]
 have:∀(d:List Int) (k:Nat),((Sum.elim (fun(a2:Int)=>some a2) (fun(_:Unit)=>some (-(1:Int))) (q69 (ε:=Int⊕Unit) (fun i (_:Unit) (x:Int)=>if(decide ((a:Int)≤x)&&decide (x<(b:Int)))=true then .inr (.inl (i:Int)) else .inl ()) (fun _ => .inr ()) d k ())).bind fun a=>some (decide ((0:Int)≤a)))=some (foF d a b):=by
  intro d
  induction d with
  | nil=>intro k;rfl
  | cons x d ih=>
   intro k
   unfold q69 foF
   rw[List.any_cons]
   cases h:(decide ((a:Int)≤x)&&decide (x<(b:Int)))
   ·simp only[Bool.false_eq_true,if_false,Bool.false_or];exact ih (k+1)
   ·simp
 have h2:=this d 0
 rw[qQC] at h2
 obtain⟨i,h3,h4⟩:=h2
 rw[h3,qQx,h4,qQx]
end
noncomputable section
open Go.RowKit
mutual
def hgN:qb→Nat
 | ⟨_,_,_,_,L⟩=>1+hgL L
def hgL:List qb→Nat
 | []=>0
 | x::L=>max (hgN x) (hgL L)
end
mutual
def dpN (d:Int):qb→Int→Int
 | ⟨_,_,_,_,L⟩,m=>dpL (d+1) L (max m d)
def dpL (d:Int):List qb→Int→Int
 | [],m=>m
 | x::L,m=>dpL d L (dpN d x m)
end
theorem qjM (n:qb):hgN n=1+hgL n.L:=by cases n;rw[hgN]
theorem qug (d:Int) (n:qb) (m:Int):dpN d n m=dpL (d+1) n.L (max m d):=by cases n;rw[dpN]
theorem q6z (k:Nat) (h:k≤100000):k≤maxLen∧k*72≤140737488355328:=⟨by unfold maxLen;omega,by omega⟩
def qtE (y:qb):Prop:=∀(deep:Int) (w:List qb) (b2:Int) (b3:Bool),1≤deep→deep+hgN y≤101→w.length+(ndN y).length≤10000→J7 (y,deep,w,b2,b3)=some (.inr (w++ndN y,dpN deep y b2,b3))
theorem qjV (rF:(qb×Int×List qb×Int×Bool)→Option (Int⊕(List qb×Int×Bool))) (deep:Int) (hd:1≤deep) (L:List qb) (hL:L.length≤10000)
  (step:List qb×Int×Bool×Int→Option ((List qb×Int×Bool×Int)⊕(Int⊕(List qb×Int×Bool))))
  (hst:∀w b2 b3 (i:Nat),step (w,b2,b3,(i:Int))=if(i:Int)<(L.length:Int) then if(0:Int)≤i∧(i:Int)<(L.length:Int) then Option.bind L[Int.toNat i]? fun a2=>Option.bind (rF (a2,w64 (deep+1),w,b2,b3)) fun a3=>Sum.elim (fun a4=>some (Sum.inr (Sum.inl a4))) (fun a5=>some (Sum.inl (a5.1,a5.2.1,a5.2.2,w64 ((i:Int)+1)))) a3 else none else some (.inr (.inr (w,b2,b3))))
  (hP:∀y∈L,∀(w:List qb) (b2:Int) (b3:Bool),deep+1+hgN y≤101→w.length+(ndN y).length≤10000→rF (y,deep+1,w,b2,b3)=some (.inr (w++ndN y,dpN (deep+1) y b2,b3))) :
  ∀(r:List qb) (i:Nat) (w:List qb) (b2:Int) (b3:Bool),r.length+i=L.length→(∀j,r[j]?=L[i+j]?)→deep+1+hgL r≤101→w.length+(ndL r).length≤10000→
  zn step (w,b2,b3,(i:Int))=some (.inr (w++ndL r,dpL (deep+1) r b2,b3)):=by
 intro r
 induction r with
 | nil=>
  intro i w b2 b3 hi _ _ _
  have hi:i=L.length:=by simpa using hi
  subst hi
  refine zg ?_
  rw[hst,if_neg (by omega),ndL,dpL,qQS]
 | cons y r ih=>
  intro i w b2 b3 hi hr hh hw
  rw[hgL] at hh
  rw[ndL,qQE] at hw
  simp only[qQI] at hi
  have hget:L[i]?=some y:=by have:=hr 0;simpa using this.symm
  have hlt:=ZB hget
  have hcall:=hP y (qQy hget) w b2 b3 (by omega) (by omega)
  have hstep:step (w,b2,b3,(i:Int))=some (.inl (w++ndN y,dpN (deep+1) y b2,b3,((i+1:Nat):Int))):=by
   rw[hst,if_pos (by omega),if_pos ⟨by omega,by omega⟩,qQA,hget,qQx,QI (by omega) (by omega),hcall,qQx,Qn hlt (by omega)]
   rfl
  rw[zM hstep,ih (i+1) _ _ _ (by omega) (fun j=>by rw[show i+1+j=i+(j+1) by omega,←hr (j+1)];rfl) (by omega) (by rw[qQE];omega),ndL,dpL,qRd]
theorem qgS (L:List qb):L.length≤(ndL L).length:=by
 induction L with
 | nil=>simp
 | cons x L ih=>rw[ndL,qQE,qQI,q0s,qQI];omega
theorem qwp:∀(m:Nat) (y:qb),(ndN y).length≤m→qtE y:=by
 intro m
 induction m with
 | zero=>intro y h;rw[q0s] at h;simp at h
 | succ m ih=>
  intro y h deep w b2 b3 hd hh hw
  rw[q0s,qQI] at h hw
  rw[qjM] at hh
  have hsub:∀(L:List qb),(ndL L).length≤m→∀z∈L,qtE z:=by
   intro L
   induction L with
   | nil=>intro _ z hz;simp at hz
   | cons x L ihl=>
    intro g z hz
    rw[ndL,qQE] at g
    rcases qQT.1 hz with rfl|hz
    ·exact ih _ (by omega)
    ·exact ihl (by omega) z hz
  have hP:=hsub y.L (by omega)
  have hl:=qgS y.L
  rw[qah,q0p]
  unfold q1h
  have hne:(((w.length:Nat):Int)==(10000:Int))=false:=by simp;omega
  rw[if_neg (by omega),if_neg (by rw[hne];simp),if_pos ⟨(q6z _ (by omega)).1,(q6z _ (by omega)).2⟩,qQx,Sum.elim_inr]
  have h1:=qjV J7 deep hd y.L (by omega) (q0q J7 deep y.L (y.L.length:Int)) (fun w b2 b3 i=>by rfl) (fun z hz w b2 b3 g1 g2=>hP z hz (deep+1) w b2 b3 (by omega) g1 g2) y.L 0 (w++[y]) (max b2 deep) b3 (by simp) (by simp) (by omega) (by rw[qQE,qQP];omega)
  rw[show((0:Nat):Int)=0 from rfl] at h1
  dsimp only
  have h2:(⟨y.Kind,y.N,y.Min,y.Set,y.L⟩:qb)=y:=by cases y;rfl
  rw[h2,h1,qQx,Sum.elim_inr,q0s,qug,qRd]
  rfl
theorem qpA (n:qb) (hh:hgN n≤100) (hn:(ndN n).length≤9999):q2a n=some (ndN n,dpN 1 n 0,true):=by
 rw[qjM] at hh
 rw[q0s,qQI] at hn
 have hl:=qgS n.L
 unfold q2a q2p q55 q2i
 rw[if_neg (by omega),if_pos (by unfold maxLen;omega),qQx,Sum.elim_inr]
 have h1:=qjV J7 1 (by omega) n.L (by omega) (q2d 1 n.L (n.L.length:Int)) (fun w b2 b3 i=>by rfl) (fun z hz w b2 b3 g1 g2=>qwp _ z (qQN _) (1+1) w b2 b3 (by omega) g1 g2) n.L 0 [n] (max 0 1) false (by simp) (by simp) (by omega) (by simp only[qQP];omega)
 rw[show((0:Nat):Int)=0 from rfl] at h1
 dsimp only
 have h2:(⟨n.Kind,n.N,n.Min,n.Set,n.L⟩:qb)=n:=by cases n;rfl
 rw[h2,h1,qQx,Sum.elim_inr,qQx,Sum.elim_inr,qQx,Sum.elim_inr,q0s,qug]
 rfl
def q1U (n:qb):Bool:=n.Kind != 3&&n.Kind != 4
theorem qrR (n:qb):q0V n=q1U n:=by
 unfold q0V q1U
 cases h:(n.Kind != 3)<;>simp
theorem qps (l:List qe) (h:l.length≤1000000):zF l=some ():=by
 unfold zF
 rw[if_pos ⟨by unfold maxLen;omega,by omega⟩]
theorem qoV:∀(m:Nat) (n:qb),(ndN n).length≤m→(ndN n).length≤100000→(∀y∈ndN n,y.Set.length≤1000000)→J4 n=some n:=by
 intro m
 induction m with
 | zero=>intro n h;rw[q0s] at h;simp at h
 | succ m ih=>
  intro n h1 h2 h3
  have hset:=h3 n (by rw[q0s];exact qQM)
  have hsub:∀(L:List qb),(ndL L).length≤m→(ndL L).length≤100000→(∀y∈ndL L,y.Set.length≤1000000)→∀y∈L,J4 y=some y:=by
   intro L
   induction L with
   | nil=>intro _ _ _ y hy;simp at hy
   | cons x L ihl=>
    intro g1 g2 g3 y hy
    rw[ndL,qQE] at g1 g2
    rw[ndL] at g3
    rcases qQT.1 hy with rfl|hy
    ·exact ih _ (by omega) (by omega) fun z hz=>g3 z (qQJ _ hz)
    ·exact ihl (by omega) (by omega) (fun z hz=>g3 z (qQG _ hz)) y hy
  have e0:ndN n=n::ndL n.L:=q0s n
  have hlen:(ndN n).length=(ndL n.L).length+1:=by rw[e0];rfl
  have hP:=hsub n.L (by omega) (by omega) fun y hy=>h3 y (by rw[e0];exact qQF _ hy)
  have hl:=qgS n.L
  have hn:(⟨n.Kind,n.N,n.Min,n.Set,n.L⟩:qb)=n:=by cases n;rfl
  rw[qai,q0n,qps _ hset,qQx]
  unfold Qv
  rw[if_pos ⟨by unfold maxLen;omega,by omega⟩]
  rw[qQx]
  have hL:∀i0:Nat,zn (Jo J4 n.Kind n.N n.Min n.Set 0 0 0 (n.L.length:Int)) (n.L,((0:Nat):Int))=some n.L:=fun _=>by
   refine q2h (fun i=>(n.L,(i:Int))) 0 n.L.length (qQX _) (fun i _ hi=>?_) ?_
   ·obtain⟨y,hy⟩:∃y,n.L[i]?=some y:=⟨_,qQz hi⟩
    unfold Jo
    simp only
    rw[if_pos (by omega),if_pos ⟨by omega,by omega⟩,qQA,hy,qQx,hP y (qQy hy),qQx,if_pos ⟨by omega,by omega⟩,if_pos (by omega),Qn hi (by omega)]
    have:n.L.set i y=n.L:=by
     obtain⟨h1,h2⟩:=qQB.1 hy
     rw[←h2,List.set_getElem_self]
    rw[this]
   ·unfold Jo
    simp only
    rw[if_neg (by omega)]
  have:=hL 0
  rw[show((0:Nat):Int)=0 from rfl] at this
  rw[this,qQx,hn]
theorem qmP (n:qb) (hh:hgN n≤100) (hn:(ndN n).length≤9999) (hs:∀y∈ndN n,y.Set.length≤1000000):q1B n=some ((ndN n).filter q1U):=by
 have hsub:∀(m:Nat) (n y:qb),(ndN n).length≤m→y∈ndN n→(ndN y).length≤(ndN n).length∧∀z∈ndN y,z∈ndN n:=by
  intro m
  induction m with
  | zero=>intro n y h;rw[q0s] at h;simp at h
  | succ m ih=>
   intro n y h hy
   rw[q0s] at hy
   rcases qQT.1 hy with rfl|hy
   ·exact⟨qQN _,fun z hz=>hz⟩
   ·have hL:∀(L:List qb),(ndL L).length≤m→y∈ndL L→(ndN y).length≤(ndL L).length∧∀z∈ndN y,z∈ndL L:=by
     intro L
     induction L with
     | nil=>intro _ h;simp[ndL] at h
     | cons x L ihl=>
      intro g gy
      rw[ndL,qQE] at g
      rw[ndL] at gy ⊢
      rw[qQE]
      rcases qR1.1 gy with gy|gy
      ·obtain⟨a,b⟩:=ih x y (by omega) gy
       exact⟨by omega,fun z hz=>qQJ _ (b z hz)⟩
      ·obtain⟨a,b⟩:=ihl (by omega) gy
       exact⟨by omega,fun z hz=>qQG _ (b z hz)⟩
    have e0:=q0s n
    have:(ndN n).length=(ndL n.L).length+1:=by rw[e0];rfl
    obtain⟨a,b⟩:=hL n.L (by omega) hy
    exact⟨by omega,fun z hz=>by rw[e0];exact qQF _ (b z hz)⟩
 have hc:∀y∈ndN n,q1U y=true→J4 y=some y:=fun y hy _=>by
  obtain⟨a,b⟩:=hsub _ n y (qQN _) hy
  exact qoV _ y (qQN _) (by omega) fun z hz=>hs z (b z hz)
 clear hsub hs
 unfold q1B
 rw[qpA n hh hn,qQx]
 simp only
 generalize ndN n=l at hn hc
 have key:∀(r:List qb) (i:Nat) (b:List qb),r.length+i=l.length→(∀j,r[j]?=l[i+j]?)→b.length≤i→zn (Zm l (l.length:Int)) (b,(i:Int))=some (b++r.filter q1U):=by
  intro r
  induction r with
  | nil=>
   intro i b hi _ _
   have hi:i=l.length:=by simpa using hi
   subst hi
   refine zg ?_
   unfold Zm
   simp
  | cons y r ih=>
   intro i b hi hr hb
   simp only[qQI] at hi
   have hget:l[i]?=some y:=by have:=hr 0;simpa using this.symm
   have hlt:=ZB hget
   have hstep:Zm l (l.length:Int) (b,(i:Int))=some (.inl (if q1U y=true then b++[y] else b,((i+1:Nat):Int))):=by
    unfold Zm
    simp only
    rw[if_pos (by omega),if_pos ⟨by omega,by omega⟩,qQA,hget,qQx,qrR,Qn hlt (by omega)]
    cases h:q1U y
    ·simp
    ·rw[hc y (qQy hget) h,qQx,if_pos rfl,if_pos ⟨(q6z _ (by omega)).1,(q6z _ (by omega)).2⟩]
     simp
   have hb2:(if q1U y=true then b++[y] else b).length≤i+1:=by
    split
    ·rw[qQE,qQP];omega
    ·omega
   rw[zM hstep,ih (i+1) _ (by omega) (fun j=>by rw[show i+1+j=i+(j+1) by omega,←hr (j+1)];rfl) hb2,List.filter_cons]
   cases q1U y<;>simp
 have:=key l 0 [] (by simp) (by simp) (by simp)
 change Option.bind (zn _ ([],((0:Nat):Int))) _=_
 rw[this,qQx,qQR]
end
noncomputable section
open Go.RowKit
def qa3 (b:UInt8):Bool:=(48≤b.toNat&&b.toNat≤57)||(65≤b.toNat&&b.toNat≤90)
theorem qt2 (s:ByteArray) (i:Nat) (h:(s.get! i).toNat<128):Utf8.decode s i=((s.get! i).toNat,1):=by
 unfold Utf8.decode
 simp only[Nat.add_zero]
 rw[if_pos h]
theorem quR (s:ByteArray) (i:Nat) (h:¬ (s.get! i).toNat<128):128≤(Utf8.decode s i).1:=by
 unfold Utf8.decode
 simp only[Nat.add_zero]
 rw[if_neg h]
 have hr:128≤Utf8.runeError:=by decide
 split
 ·split
  ·assumption
  ·exact hr
 ·split
  ·split
   ·rename_i h;simp only[ge_iff_le,qR3,qRx] at h;omega
   ·exact hr
  ·split
   ·split
    ·rename_i h;simp only[ge_iff_le,qR3,qRx] at h;omega
    ·exact hr
   ·exact hr
theorem qd4 (b:UInt8) (h:b.toNat<128):Z2 (b.toNat:Int) = !qa3 b:=by
 unfold Z2 qa3
 by_cases h1:b.toNat<65
 ·rw[if_pos (by omega)]
  by_cases h2:b.toNat<48
  ·rw[if_pos (by omega)]
   have e1:decide (48≤b.toNat)=false:=decide_eq_false (by omega)
   have e2:decide (65≤b.toNat)=false:=decide_eq_false (by omega)
   simp[e1,e2]
  ·rw[if_neg (by omega)]
   have e1:decide (48≤b.toNat)=true:=qRy (by omega)
   have e2:decide (65≤b.toNat)=false:=decide_eq_false (by omega)
   by_cases h3:b.toNat≤57
   ·have e3:decide (b.toNat≤57)=true:=qRy h3
    have e4:decide ((57:Int)<b.toNat)=false:=decide_eq_false (by omega)
    simp[e1,e2,e3,e4]
   ·have e3:decide (b.toNat≤57)=false:=decide_eq_false h3
    have e4:decide ((57:Int)<b.toNat)=true:=qRy (by omega)
    simp[e1,e2,e3,e4]
 ·rw[if_neg (by omega)]
  have e0:decide (b.toNat≤57)=false:=decide_eq_false (by omega)
  have e1:decide (65≤b.toNat)=true:=qRy (by omega)
  by_cases h2:90<b.toNat
  ·rw[if_pos (by omega),if_neg (by omega)]
   have e3:decide (b.toNat≤90)=false:=decide_eq_false (by omega)
   have e4:decide ((57:Int)<b.toNat)=true:=qRy (by omega)
   simp[e0,e1,e3,e4]
  ·rw[if_neg (by omega)]
   have e3:decide (b.toNat≤90)=true:=qRy (by omega)
   simp[e0,e1,e3]
theorem qlv (n:Nat) (h:128≤n):Z2 (n:Int)=true:=by
 unfold Z2
 rw[if_neg (by omega),if_pos (by omega),if_neg (by omega)]
 exact qRy (by omega)
theorem qqy (s:ByteArray) (i:Nat) (h:i<s.size):s.get! i=s.data.toList.getD i 0:=by
 obtain⟨⟨l⟩⟩:=s
 have h':i<l.length:=h
 show(Array.mk l)[i]! = l.getD i 0
 simp[h',List.getD]
theorem qgJ (s:ByteArray):∀(r:List UInt8) (p:Nat),r.length+p=s.size→(∀j,r[j]?=s.data.toList[p+j]?)→∃e,zn (Q2 s true) p=some e∧((∃i:Int,e = .inl i∧0≤i∧r.all qa3=false)∨(e = .inr ()∧r.all qa3=true)):=by
 intro r
 induction r with
 | nil=>
  intro p hp _
  have hp:p=s.size:=by simpa using hp
  subst hp
  refine⟨.inr (),zg ?_,.inr ⟨rfl,rfl⟩⟩
  unfold Q2
  rw[if_neg (by omega)]
 | cons b r ih=>
  intro p hp hr
  simp only[qQI] at hp
  have hb:s.data.toList[p]?=some b:=by have:=hr 0;simpa using this.symm
  have hg:s.get! p=b:=by rw[qqy s p (by omega),List.getD,hb];rfl
  by_cases h:b.toNat<128
  ·have hd:=qt2 s p (by rw[hg];exact h)
   rw[hg] at hd
   cases ho:qa3 b
   ·refine⟨.inl (p:Int),zg ?_,.inl ⟨_,rfl,by omega,by simp[ho]⟩⟩
    unfold Q2
    rw[if_pos (by omega),hd,qd4 b h,ho]
    rfl
   ·obtain⟨e,h1,h2⟩:=ih (p+1) (by omega) (fun j=>by rw[show p+1+j=p+(j+1) by omega,←hr (j+1)];rfl)
    refine⟨e,?_,by rw[List.all_cons,ho,qR4];exact h2⟩
    rw[zM (y:=p+1) (by
     unfold Q2
     rw[if_pos (by omega),hd,qd4 b h,ho]
     rfl)]
    exact h1
  ·have hbig:=quR s p (by rw[hg];exact h)
   have hbad:qa3 b=false:=by
    unfold qa3
    have e1:decide (b.toNat≤57)=false:=decide_eq_false (by omega)
    have e2:decide (b.toNat≤90)=false:=decide_eq_false (by omega)
    simp[e1,e2]
   refine⟨.inl (p:Int),zg ?_,.inl ⟨_,rfl,by omega,by simp[hbad]⟩⟩
   unfold Q2
   rw[if_pos (by omega),qlv _ hbig]
   rfl
def qqX (s:ByteArray):Bool:=decide (s.size≠0)&&decide (s.size≤8)&&s.data.toList.all qa3
theorem qkv (s:ByteArray):(s.toList==ByteArray.toList (ByteArray.mk (List.toArray [])))=decide (s.size=0):=by
 rw[ByteArray.toList_eq,ByteArray.toList_eq]
 obtain⟨⟨l⟩⟩:=s
 show(l==[])=decide (l.length=0)
 cases l<;>simp
theorem qvM (s:ByteArray):q1C s=some (qqX s):=by
 unfold q1C qqX
 rw[qkv]
 by_cases h0:s.size=0
 ·simp[h0]
 ·have e0:decide (s.size=0)=false:=decide_eq_false h0
  have e1:decide (s.size≠0)=true:=qRy h0
  rw[e0,e1,if_pos (by rfl)]
  by_cases h8:s.size≤8
  ·have e2:decide (s.size≤8)=true:=qRy h8
   obtain⟨e,h1,h2⟩:=qgJ s s.data.toList 0 (by simp) (by simp)
   rw[if_pos (by omega),e2]
   unfold JX q01
   rw[h1,qQx]
   rcases h2 with ⟨i,rfl,hi,ha⟩|⟨rfl,ha⟩
   ·rw[Sum.elim_inl,qQx,qQx,ha]
    have:decide (i<0)=false:=decide_eq_false (by omega)
    rw[this];rfl
   ·rw[Sum.elim_inr,qQx,qQx,ha]
    rfl
  ·have e2:decide (s.size≤8)=false:=decide_eq_false h8
   rw[if_neg (by omega),e2]
   rfl
def inF (n a b:Int):Bool:=decide (a≤n)&&decide (n≤b)
theorem q2t (n a b:Int):qX n a b=inF n a b:=by
 unfold qX inF
 by_cases h:a≤n<;>simp[h]
def q0J (c:qe):Bool:=inF c.School 1 8&&qqX c.Code
theorem qeF (c:qe):q0G c=some (q0J c):=by
 unfold q0G q0J
 rw[q2t,qvM]
 cases inF c.School 1 8<;>simp
def qdO (x y:Int):Int:=if x<y then -1 else if y<x then 1 else 0
def qED (x y:ByteArray):Int:=if Op.bytesLess x.toList y.toList=true then -1 else if x.toList==y.toList then 0 else 1
def qxk (a b:qe):Int:=if a.School≠b.School then qdO a.School b.School else qED a.Code b.Code
theorem qzx (x y:Int):q0L [x,y]=some (if x≠0 then x else y):=by
 unfold q0L
 by_cases hx:x=0
 ·by_cases hy:y=0
  ·rw[zM (y:=1) (by unfold Zd;simp[hx];rfl),zM (y:=2) (by unfold Zd;simp[hx,hy];rfl),zg (e := .inr ()) (by unfold Zd;simp)]
   simp[hx,hy]
  ·rw[zM (y:=1) (by unfold Zd;simp[hx];rfl),zg (e := .inl y) (by unfold Zd;simp[hx,hy])]
   simp[hx,hy]
 ·rw[zg (e := .inl x) (by unfold Zd;simp[hx])]
  simp[hx]
theorem q9q (a b:qe):q0g a b=some (qxk a b):=by
 unfold q0g
 rw[qzx,qQx]
 congr 1
 have e1:zL a.School b.School=qdO a.School b.School:=by
  unfold zL zU qdO
  simp
 have e2:QO a.Code b.Code=qED a.Code b.Code:=by
  unfold QO qED
  cases h1:Op.bytesLess a.Code.toList b.Code.toList
  ·cases h2:(a.Code.toList==b.Code.toList)<;>simp
  ·simp
 rw[e1,e2]
 unfold qxk
 by_cases h:a.School=b.School
 ·have:qdO a.School b.School=0:=by unfold qdO;rw[if_neg (by omega),if_neg (by omega)]
  simp[h,this]
  intro h2;exact absurd (by unfold qdO;simp) h2
 ·have:qdO a.School b.School≠0:=by unfold qdO;split<;>(try split)<;>omega
  simp[h,this]
def qgy:List qe→Bool
 | x::y::l=>decide (qxk x y<0)&&qgy (y::l)
 | _=>true
def q2o (n:qb):Int:=
 if inF n.Min (-1000) 1000=false then 3 else if inF n.Set.length 1 12=false then 2 else if n.Set.all q0J=false then 1 else if qgy n.Set=true then 0 else 7
theorem qcG (l:List qe) (hl:l.length≤1000000):zh l=some (!l.all q0J):=by
 have h1:=q39 (ε:=Int⊕Unit) (step:=qO l (l.length:Int)) l (fun(b:Unit) i=>(i:Int)) (fun i b a=>if(!q0J a)=true then .inr (.inl (i:Int)) else .inl ()) (fun _ => .inr ()) (fun b i a ha=>by
   have hi:=ZB ha
   have hw:w64 ((i:Int)+1)=((i+1:Nat):Int):=Qn hi (by omega)
   unfold qO q1i
   rw[if_pos (by omega),if_pos ⟨by omega,by omega⟩,qQA,ha,qQx,hw,qeF,qQx,qQx]
   cases q0J a<;>simp) (fun b=>by
   unfold qO
   rw[if_neg (by omega)]) ()
 have h2:=qbE (fun a => !q0J a) l 0
 unfold zh zQ
 rw[show((0:Nat):Int)=0 from rfl] at h1
 rw[h1,qQx]
 have e:l.any (fun a => !q0J a) = !l.all q0J:=by
  clear h1 h2 hl
  induction l with
  | nil=>rfl
  | cons a l ih=>rw[List.any_cons,List.all_cons,ih];cases q0J a<;>simp
 rw[←e,←h2]
 cases(q69 (ε:=Int⊕Unit) (fun i (_:Unit) (a:qe)=>if(!q0J a)=true then .inr (.inl (i:Int)) else .inl ()) (fun _ => .inr ()) l 0 ())<;>rfl
theorem qkP (n:qb) (hl:n.Set.length≤1000000):∀(r:List qe) (i:Nat),r.length+i=n.Set.length→(∀j,r[j]?=n.Set[i+j]?)→zn (Z4 n n.Set (n.Set.length:Int)) (i:Int)=some (if(match i,n.Set[i-1]? with|_+1,some x=>qgy (x::r)|_,_=>qgy r)=true then .inr () else .inl ()):=by
 intro r
 induction r with
 | nil=>
  intro i hi _
  have hi:i=n.Set.length:=by simpa using hi
  subst hi
  refine zg ?_
  unfold Z4
  rw[if_neg (by omega)]
  split<;>simp[qgy]
 | cons a r ih=>
  intro i hi hr
  simp only[qQI] at hi
  have hget:n.Set[i]?=some a:=by have:=hr 0;simpa using this.symm
  have hlt:=ZB hget
  have hnext:=ih (i+1) (by omega) (fun j=>by rw[show i+1+j=i+(j+1) by omega,←hr (j+1)];rfl)
  simp only[Nat.add_sub_cancel,hget] at hnext
  cases i with
  | zero=>
   rw[zM (y:=((0+1:Nat):Int)) (by
    unfold Z4
    rw[if_pos (by omega),if_pos ⟨by omega,by omega⟩,qQA,hget,qQx,if_neg (by omega),Qn hlt (by omega)])]
   exact hnext
  | succ i=>
   obtain⟨x,hx⟩:∃x,n.Set[i]?=some x:=⟨_,qQz (by omega)⟩
   simp only[Nat.add_sub_cancel,hx]
   have hw:w64 (((i+1:Nat):Int)-1)=(i:Int):=by rw[QI (by omega) (by omega)];omega
   by_cases hc:qxk x a<0
   ·rw[zM (y:=((i+1+1:Nat):Int)) (by
     unfold Z4
     rw[if_pos (by omega),if_pos ⟨by omega,by omega⟩,qQA,hget,qQx,if_pos (by omega),hw,if_pos ⟨by omega,by omega⟩,qQA,hx,qQx,q9q,qQx,if_neg (by omega),Qn hlt (by omega)]),hnext]
    simp[qgy,hc]
   ·rw[zg (e := .inl ()) (by
     unfold Z4
     rw[if_pos (by omega),if_pos ⟨by omega,by omega⟩,qQA,hget,qQx,if_pos (by omega),hw,if_pos ⟨by omega,by omega⟩,qQA,hx,qQx,q9q,qQx,if_pos (by omega)])]
    simp[qgy,hc]
theorem qcW (n:qb) (hl:n.Set.length≤1000000):q0k n=some (q2o n):=by
 unfold q0k q2o
 rw[q2t,q2t,qcG _ hl,qQx]
 have h:=qkP n hl n.Set 0 (by simp) (by simp)
 simp only at h
 rw[show((0:Nat):Int)=0 from rfl] at h
 rw[h,qQx]
 cases inF n.Min (-1000) 1000
 ·simp
 ·cases inF n.Set.length 1 12
  ·simp
  ·cases n.Set.all q0J
   ·simp
   ·cases qgy n.Set<;>simp
def q7G (n:qb):Bool:=n.Min==0&&n.Set.isEmpty && !n.L.isEmpty
def q8t (n:qb):Int:=
 if n.Kind=1 then(if n.N≠0∨n.L≠[] then 13 else q2o n)
 else if n.Kind=2 then(if n.L≠[] then 13 else if inF n.N 1 600=false then 3 else q2o n)
 else if n.Kind=3 then(if q7G n=false∨n.N≠0 then 13 else 0)
 else if n.Kind=4 then(if q7G n=false then 13 else if inF n.N 1 n.L.length=false then 3 else 0)
 else 13
theorem qpw (n:qb):QU n=q7G n:=by
 unfold QU q7G
 cases n.Min==0
 ·simp
 ·cases hS:n.Set<;>cases hL:n.L<;>simp
  all_goals omega
theorem qHF (n:qb) (hl:n.Set.length≤1000000):q16 n=some (if n.N≠0∨n.L≠[] then 13 else q2o n):=by
 unfold q16
 rw[qcW n hl,qQx]
 by_cases h:n.N=0
 ·cases hL:n.L with
  | nil=>simp[h]
  | cons x l=>rw[if_neg (by simp[h]),if_pos (by simp),if_pos (.inr (by simp))]
 ·simp[h]
theorem qJp (n:qb) (hl:n.Set.length≤1000000):q17 n=some (if n.L≠[] then 13 else if inF n.N 1 600=false then 3 else q2o n):=by
 unfold q17
 rw[qcW n hl,qQx,q2t]
 cases hL:n.L with
 | nil=>
  cases hI:inF n.N 1 600<;>simp[hI]
 | cons x l=>rw[if_pos (by simp),if_pos (by simp)]
theorem qGV (n:qb):ZU n=if q7G n=false∨n.N≠0 then 13 else 0:=by
 unfold ZU
 rw[qpw]
 cases q7G n
 ·simp
 ·by_cases h:n.N=0<;>simp[h]
theorem qFP (n:qb):ZW n=if q7G n=false then 13 else if inF n.N 1 n.L.length=false then 3 else 0:=by
 unfold ZW
 rw[qpw,q2t]
 cases q7G n
 ·simp
 ·cases inF n.N 1 n.L.length<;>simp
def qto (l:List qb):Option Int:=l.findSome? fun y=>if q8t y≠0 then some (q8t y) else none
theorem qki (l:List qb) (hl:l.length≤1000000) (hs:∀y∈l,y.Set.length≤1000000):zn (Jc l (l.length:Int)) 0=some (match qto l with|some e => .inl e|none => .inr ()):=by
 have h1:=qfY (ε:=Int⊕Unit) (step:=Jc l (l.length:Int)) l (fun i=>(i:Int)) (fun y=>if q8t y≠0 then some (.inl (q8t y)) else none) (.inr ()) (fun i y hy=>by
   have hi:=ZB hy
   have hw:w64 ((i:Int)+1)=((i+1:Nat):Int):=Qn hi (by omega)
   have hset:=hs y (qQy hy)
   unfold Jc
   rw[if_pos (by omega),if_pos ⟨by omega,by omega⟩,qQA,hy,qQx,hw,qHF y hset,qJp y hset,qGV,qFP,qQx,qQx]
   unfold q8t
   by_cases e1:y.Kind=1
   ·simp only[if_pos e1];generalize (if y.N≠0∨y.L≠[] then 13 else q2o y)=v;by_cases h:v=0<;>simp[h]
   ·by_cases e2:y.Kind=2
    ·simp only[if_neg e1,if_pos e2];generalize (if y.L≠[] then 13 else if inF y.N 1 600=false then 3 else q2o y)=v;by_cases h:v=0<;>simp[h]
    ·by_cases e3:y.Kind=3
     ·simp only[if_neg e1,if_neg e2,if_pos e3];generalize (if q7G y=false∨y.N≠0 then(13:Int) else 0)=v;by_cases h:v=0<;>simp[h]
     ·by_cases e4:y.Kind=4
      ·simp only[if_neg e1,if_neg e2,if_neg e3,if_pos e4];generalize (if q7G y=false then(13:Int) else if inF y.N 1 y.L.length=false then 3 else 0)=v;by_cases h:v=0<;>simp[h]
      ·simp[e1,e2,e3,e4]) (by
   unfold Jc
   rw[if_neg (by omega)])
 rw[show((0:Nat):Int)=0 from rfl] at h1
 rw[h1]
 congr 1
 unfold qto
 clear h1 hl hs
 induction l with
 | nil=>rfl
 | cons y l ih=>
  rw[List.findSome?_cons,List.findSome?_cons]
  by_cases h:q8t y=0<;>simp only[h,ne_eq,not_true_eq_false,not_false_eq_true,if_true,if_false]
  ·exact ih
  ·rfl
def qgo (n:qb):Int:=
 if 24<(ndN n).length then 2 else if 5<dpN 1 n 0 then 2 else if inF ((ndN n).filter q1U).length 1 8=false then 2 else(qto (ndN n)).getD 0
theorem qdN (n:qb) (hh:hgN n≤100) (hn:(ndN n).length≤9999) (hs:∀y∈ndN n,y.Set.length≤1000000):JU n=some (qgo n):=by
 unfold JU qgo
 rw[qpA n hh hn,qQx,qmP n hh hn hs]
 simp only[qQx]
 rw[qki (ndN n) (by omega) hs,q2t,if_neg (by simp)]
 by_cases h1:24<(ndN n).length
 ·rw[if_pos (by omega),if_pos h1]
 ·rw[if_neg (by omega),if_neg h1]
  by_cases h2:5<dpN 1 n 0
  ·rw[if_pos h2,if_pos h2]
  ·rw[if_neg h2,if_neg h2]
   cases inF ((ndN n).filter q1U).length 1 8
   ·simp
   ·simp only[Bool.not_true,Bool.false_eq_true,if_false,qQx]
    cases qto (ndN n)<;>rfl
end
noncomputable section
open Go.RowKit
section
variable {N:Nat} {best:Nat→Int} {M:Int}
theorem qpL (rF:(qb×List qa×Int×qd)→Option (List Bool×List qa×Int×qd)) (hN:N≤65536) (hM:M≤1000000) (hb:Bnd best N M) (w9:List Bool) (b0:List qa) (b3:Int) (b4:qd) (b8:qb) (own:Nat→Bool) (skip:Bool) (t72:List qb) (t73 t74:Int) :
  zn (Z8 rF w9 (QQ N best) b0 b3 b4 b8 (QQ N own) skip t72 t73 t74 ((N:Nat):Int)) (List.replicate N 0,0)=some (QQ N (stF skip own best)):=by
 have h1:=q2h (step:=Z8 rF w9 (QQ N best) b0 b3 b4 b8 (QQ N own) skip t72 t73 t74 ((N:Nat):Int)) (fun i=>(QQ N (fun k=>if k<i then stF skip own best k else 0),(i:Int))) 0 N (qQX _) (e:=QQ N (stF skip own best)) (fun i _ hi=>by
   have hbi:=hb i hi
   have hw:w64 ((i:Int)+1)=((i+1:Nat):Int):=Qn hi (by omega)
   have hg:∀v:Int,v=(if skip=true then best i else -1)→q9X (q9X (fun k=>if k<i then stF skip own best k else 0) i v) i (eaF own best i i i (q9X (fun k=>if k<i then stF skip own best k else 0) i v i))=fun k=>if k<i+1 then stF skip own best k else 0:=fun v hv=>by
    funext k
    rw[qb9,q8D]
    unfold q9X
    by_cases hk:k=i
    ·subst hk
     rw[if_pos rfl,if_pos (by omega)]
     unfold stF
     rw[←hv]
    ·rw[if_neg hk]
     show(if k<i then stF skip own best k else 0)=_
     by_cases h:k<i
     ·rw[if_pos h,if_pos (by omega)]
     ·rw[if_neg h,if_neg (by omega)]
   unfold Z8
   simp only
   rw[if_pos (by omega),zf,if_pos ⟨by omega,by omega⟩,qQA,if_pos (by omega)]
   cases hs:skip
   ·simp only[Bool.false_eq_true,if_false]
    rw[J5]
    unfold zO
    rw[qe2 hN hM hb (own:=own) hi i i (qQN _) (qQN _),qQx,qQx,hw,←hs,hg (-1) (by rw[hs];rfl)]
   ·simp only[if_true]
    rw[zf,if_pos ⟨by omega,by omega⟩,Zy best hi,qQx,if_pos ⟨by omega,by omega⟩,if_pos (by omega),J5,J5,q8D]
    unfold zO
    rw[qe2 hN hM hb (own:=own) hi i i (qQN _) (qQN _),qQx,qQx,hw,←hs,hg (best i) (by rw[hs];rfl)]) (by
   unfold Z8
   simp only
   rw[if_neg (by omega)]
   congr 2
   exact q0e fun k hk=>if_pos hk)
 rw[q3H]
 have e:(fun k:Nat=>if k<0 then stF skip own best k else 0)=fun _=>0:=by funext k;rw[if_neg (by omega)]
 rw[e] at h1
 exact h1
theorem qwg (rF:(qb×List qa×Int×qd)→Option (List Bool×List qa×Int×qd)) (hN:N≤65536) (hN1:1≤N) (w9:List Bool) (b0:List qa) (b3:Int) (b4:qd) (b8:qb) :
  zn (QY rF w9 b0 b3 b4 b8) (List.replicate N 0,1)=some (QQ N b0F):=by
 have h1:=q2h (step:=QY rF w9 b0 b3 b4 b8) (fun i=>(QQ N (fun k=>if 1≤k∧k<i then -1 else 0),(i:Int))) 1 N hN1 (e:=QQ N b0F) (fun i h1 hi=>by
   have hw:w64 ((i:Int)+1)=((i+1:Nat):Int):=Qn hi (by omega)
   unfold QY
   simp only
   rw[zf,if_pos (by omega),if_pos ⟨by omega,by omega⟩,qQA,if_pos (by omega),hw,J5]
   rw[qkH (fun _=>(-1:Int)) 0 h1]) (by
   unfold QY
   simp only
   rw[zf,if_neg (by omega)]
   congr 2
   refine q0e fun k hk=>?_
   unfold b0F
   by_cases h:k=0
   ·rw[if_pos h,if_neg (by omega)]
   ·rw[if_neg h,if_pos (by omega)])
 rw[q3H]
 have e:(fun k:Nat=>if 1≤k∧k<1 then(-1:Int) else 0)=fun _=>0:=by funext k;rw[if_neg (by omega)]
 rw[e] at h1
 exact h1
theorem qox (rF:(qb×List qa×Int×qd)→Option (List Bool×List qa×Int×qd)) (hN:N≤65536) (hN1:1≤N) (b0:List qa) (b3:Int) (b4:qd) (least:Int) :
  zn (Z6 rF (QQ N best) b0 b3 b4 least) (List.replicate N false,1)=some (QQ N (fun k=>decide (k≠0)&&decide (least≤best k))):=by
 have h1:=q2h (step:=Z6 rF (QQ N best) b0 b3 b4 least) (fun i=>(QQ N (fun k=>if 1≤k∧k<i then decide (least≤best k) else false),(i:Int))) 1 N hN1 (e:=QQ N (fun k=>decide (k≠0)&&decide (least≤best k))) (fun i h1 hi=>by
   have hw:w64 ((i:Int)+1)=((i+1:Nat):Int):=Qn hi (by omega)
   unfold Z6
   simp only
   rw[zf,zf,if_pos (by omega),if_pos ⟨by omega,by omega⟩,qQA,Zy best hi,qQx,if_pos ⟨by omega,by omega⟩,if_pos (by omega),hw,J5]
   rw[qkH (fun k=>decide (least≤best k)) false h1]) (by
   unfold Z6
   simp only
   rw[zf,if_neg (by omega)]
   congr 2
   refine q0e fun k hk=>?_
   by_cases h:k=0
   ·subst h;simp
   ·rw[if_pos ⟨by omega,hk⟩];simp[h])
 rw[q3H]
 have e:(fun k:Nat=>if 1≤k∧k<1 then decide (least≤best k) else false)=fun _=>false:=by funext k;rw[if_neg (by omega)]
 rw[e] at h1
 exact h1
theorem qj6 (rF:(qb×List qa×Int×qd)→Option (List Bool×List qa×Int×qd)) (d:List Int) (hd:d=[]) (s:qd) (l:List qa) (hl:l.length≤16) (n:qb) (hn:n.Set.length≤1000000) (nx:Nat) (hnx:nx≤1000000) (step:List Bool×Int→Option ((List Bool×Int)⊕List Bool))
  (hst:step=(if n.Kind=1 then ZM rF l (nx:Int) s n else ZL rF l (nx:Int) s n)) (hN:N≤65536) (hN1:1≤N) :
  zn step (List.replicate N false,1)=some (QQ N (q1q d s l n nx)):=by
 have h1:=q2h (step:=step) (fun i=>(QQ N (fun k=>if 1≤k∧k<i then q1q d s l n nx k else false),(i:Int))) 1 N hN1 (e:=QQ N (q1q d s l n nx)) (fun i h1 hi=>by
   have hw:w64 ((i:Int)+1)=((i+1:Nat):Int):=Qn hi (by omega)
   have hc:QQ N (q9X (fun k=>if 1≤k∧k<i then q1q d s l n nx k else false) i (q1q d s l n nx i))=QQ N (fun k=>if 1≤k∧k<i+1 then q1q d s l n nx k else false):=by
    rw[qkH (q1q d s l n nx) false h1]
   have hz:decide (i≠0)=true:=qRy (by omega)
   have hwg:=qji n (by omega) s l (by omega) i (by omega)
   have hal:alF d nx i=true:=by rw[hd];rfl
   have hv:q1q d s l n nx i=(alF d nx i&&qcC n (wgF n s i l 0 ld0)):=by unfold q1q;rw[hz];simp
   have m1:n.Kind=1→Qg (wgF n s i l 0 ld0) n=qcC n (wgF n s i l 0 ld0):=fun hk=>by
    unfold Qg qcC
    rw[if_pos hk]
    cases(wgF n s i l 0 ld0).fine<;>simp
   have m2:n.Kind≠1→QV (wgF n s i l 0 ld0) n=qcC n (wgF n s i l 0 ld0):=fun hk=>by
    unfold QV qcC
    rw[if_neg hk]
    cases(wgF n s i l 0 ld0).fine
    ·simp
    ·by_cases h:0<(wgF n s i l 0 ld0).many<;>simp[h]
   rw[hst]
   by_cases hk:n.Kind=1
   ·rw[if_pos hk]
    unfold ZM
    simp only
    rw[zf,if_pos (by omega),hwg,qQx]
    rw[if_pos ⟨by omega,by omega⟩,qQA,if_pos (by omega),hw,m1 hk,J5,←hc,hv,hal,qR4]
   ·rw[if_neg hk]
    unfold ZL
    simp only
    rw[zf,if_pos (by omega),hwg,qQx]
    rw[if_pos ⟨by omega,by omega⟩,qQA,if_pos (by omega),hw,m2 hk,J5,←hc,hv,hal,qR4]) (by
   have hend:some (Sum.inr (α:=List Bool×Int) (QQ N (fun k=>if 1≤k∧k<N then q1q d s l n nx k else false)))=some (Sum.inr (QQ N (q1q d s l n nx))):=by
    congr 2
    refine q0e fun k hk=>?_
    by_cases h:k=0
    ·subst h;simp[q1q]
    ·rw[if_pos ⟨by omega,hk⟩]
   rw[hst]
   by_cases hk:n.Kind=1
   ·rw[if_pos hk]
    unfold ZM
    simp only
    rw[zf,if_neg (by omega)]
    exact hend
   ·rw[if_neg hk]
    unfold ZL
    simp only
    rw[zf,if_neg (by omega)]
    exact hend)
 rw[q3H]
 have e:(fun k:Nat=>if 1≤k∧k<1 then q1q d s l n nx k else false)=fun _=>false:=by funext k;rw[if_neg (by omega)]
 rw[e] at h1
 exact h1
end
end
noncomputable section
open Go.RowKit
section
variable {N:Nat} {best:Nat→Int} {M:Int}
theorem qoa (rF:(qb×List Int×List qa×Int×qd)→Option (List Bool×List Int×List qa×Int×qd)) (hN:N≤65536) (hM:M≤1000000) (hb:Bnd best N M) (w7:List Int) (w9:List Bool) (b0:List qa) (b3:Int) (b4:qd) (b8:qb) (own:Nat→Bool) (skip:Bool) (t72:List qb) (t73 t74:Int) :
  zn (Qx rF w7 w9 (QQ N best) b0 b3 b4 b8 (QQ N own) skip t72 t73 t74 ((N:Nat):Int)) (List.replicate N 0,0)=some (QQ N (stF skip own best)):=by
 have h1:=q2h (step:=Qx rF w7 w9 (QQ N best) b0 b3 b4 b8 (QQ N own) skip t72 t73 t74 ((N:Nat):Int)) (fun i=>(QQ N (fun k=>if k<i then stF skip own best k else 0),(i:Int))) 0 N (qQX _) (e:=QQ N (stF skip own best)) (fun i _ hi=>by
   have hbi:=hb i hi
   have hw:w64 ((i:Int)+1)=((i+1:Nat):Int):=Qn hi (by omega)
   have hg:∀v:Int,v=(if skip=true then best i else -1)→q9X (q9X (fun k=>if k<i then stF skip own best k else 0) i v) i (eaF own best i i i (q9X (fun k=>if k<i then stF skip own best k else 0) i v i))=fun k=>if k<i+1 then stF skip own best k else 0:=fun v hv=>by
    funext k
    rw[qb9,q8D]
    unfold q9X
    by_cases hk:k=i
    ·subst hk
     rw[if_pos rfl,if_pos (by omega)]
     unfold stF
     rw[←hv]
    ·rw[if_neg hk]
     show(if k<i then stF skip own best k else 0)=_
     by_cases h:k<i
     ·rw[if_pos h,if_pos (by omega)]
     ·rw[if_neg h,if_neg (by omega)]
   unfold Qx
   simp only
   rw[if_pos (by omega),zf,if_pos ⟨by omega,by omega⟩,qQA,if_pos (by omega)]
   cases hs:skip
   ·simp only[Bool.false_eq_true,if_false]
    rw[J5]
    unfold zO
    rw[qe2 hN hM hb (own:=own) hi i i (qQN _) (qQN _),qQx,qQx,hw,←hs,hg (-1) (by rw[hs];rfl)]
   ·simp only[if_true]
    rw[zf,if_pos ⟨by omega,by omega⟩,Zy best hi,qQx,if_pos ⟨by omega,by omega⟩,if_pos (by omega),J5,J5,q8D]
    unfold zO
    rw[qe2 hN hM hb (own:=own) hi i i (qQN _) (qQN _),qQx,qQx,hw,←hs,hg (best i) (by rw[hs];rfl)]) (by
   unfold Qx
   simp only
   rw[if_neg (by omega)]
   congr 2
   exact q0e fun k hk=>if_pos hk)
 rw[q3H]
 have e:(fun k:Nat=>if k<0 then stF skip own best k else 0)=fun _=>0:=by funext k;rw[if_neg (by omega)]
 rw[e] at h1
 exact h1
theorem qvu (rF:(qb×List Int×List qa×Int×qd)→Option (List Bool×List Int×List qa×Int×qd)) (hN:N≤65536) (hN1:1≤N) (w7:List Int) (w9:List Bool) (b0:List qa) (b3:Int) (b4:qd) (b8:qb) :
  zn (QZ rF w7 w9 b0 b3 b4 b8) (List.replicate N 0,1)=some (QQ N b0F):=by
 have h1:=q2h (step:=QZ rF w7 w9 b0 b3 b4 b8) (fun i=>(QQ N (fun k=>if 1≤k∧k<i then -1 else 0),(i:Int))) 1 N hN1 (e:=QQ N b0F) (fun i h1 hi=>by
   have hw:w64 ((i:Int)+1)=((i+1:Nat):Int):=Qn hi (by omega)
   unfold QZ
   simp only
   rw[zf,if_pos (by omega),if_pos ⟨by omega,by omega⟩,qQA,if_pos (by omega),hw,J5]
   rw[qkH (fun _=>(-1:Int)) 0 h1]) (by
   unfold QZ
   simp only
   rw[zf,if_neg (by omega)]
   congr 2
   refine q0e fun k hk=>?_
   unfold b0F
   by_cases h:k=0
   ·rw[if_pos h,if_neg (by omega)]
   ·rw[if_neg h,if_pos (by omega)])
 rw[q3H]
 have e:(fun k:Nat=>if 1≤k∧k<1 then(-1:Int) else 0)=fun _=>0:=by funext k;rw[if_neg (by omega)]
 rw[e] at h1
 exact h1
theorem qlD (rF:(qb×List Int×List qa×Int×qd)→Option (List Bool×List Int×List qa×Int×qd)) (hN:N≤65536) (hN1:1≤N) (w7:List Int) (b0:List qa) (b3:Int) (b4:qd) (least:Int) :
  zn (QA rF w7 (QQ N best) b0 b3 b4 least) (List.replicate N false,1)=some (QQ N (fun k=>decide (k≠0)&&decide (least≤best k))):=by
 have h1:=q2h (step:=QA rF w7 (QQ N best) b0 b3 b4 least) (fun i=>(QQ N (fun k=>if 1≤k∧k<i then decide (least≤best k) else false),(i:Int))) 1 N hN1 (e:=QQ N (fun k=>decide (k≠0)&&decide (least≤best k))) (fun i h1 hi=>by
   have hw:w64 ((i:Int)+1)=((i+1:Nat):Int):=Qn hi (by omega)
   unfold QA
   simp only
   rw[zf,zf,if_pos (by omega),if_pos ⟨by omega,by omega⟩,qQA,Zy best hi,qQx,if_pos ⟨by omega,by omega⟩,if_pos (by omega),hw,J5]
   rw[qkH (fun k=>decide (least≤best k)) false h1]) (by
   unfold QA
   simp only
   rw[zf,if_neg (by omega)]
   congr 2
   refine q0e fun k hk=>?_
   by_cases h:k=0
   ·subst h;simp
   ·rw[if_pos ⟨by omega,hk⟩];simp[h])
 rw[q3H]
 have e:(fun k:Nat=>if 1≤k∧k<1 then decide (least≤best k) else false)=fun _=>false:=by funext k;rw[if_neg (by omega)]
 rw[e] at h1
 exact h1
theorem qiX (rF:(qb×List Int×List qa×Int×qd)→Option (List Bool×List Int×List qa×Int×qd)) (d:List Int) (hd:d.length≤16) (s:qd) (l:List qa) (hl:l.length≤16) (n:qb) (hn:n.Set.length≤1000000) (nx:Nat) (hnx:nx≤1000000) (step:List Bool×Int→Option ((List Bool×Int)⊕List Bool))
  (hst:step=(if n.Kind=1 then ZK rF d l (nx:Int) s n else Zl rF d l (nx:Int) s n)) (hN:N≤65536) (hN1:1≤N) :
  zn step (List.replicate N false,1)=some (QQ N (q1q d s l n nx)):=by
 have h1:=q2h (step:=step) (fun i=>(QQ N (fun k=>if 1≤k∧k<i then q1q d s l n nx k else false),(i:Int))) 1 N hN1 (e:=QQ N (q1q d s l n nx)) (fun i h1 hi=>by
   have hw:w64 ((i:Int)+1)=((i+1:Nat):Int):=Qn hi (by omega)
   have hc:QQ N (q9X (fun k=>if 1≤k∧k<i then q1q d s l n nx k else false) i (q1q d s l n nx i))=QQ N (fun k=>if 1≤k∧k<i+1 then q1q d s l n nx k else false):=by
    rw[qkH (q1q d s l n nx) false h1]
   have hz:decide (i≠0)=true:=qRy (by omega)
   have hwg:=qji n (by omega) s l (by omega) i (by omega)
   have hal:=qkY d hd nx i (by omega)
   have hv:q1q d s l n nx i=(alF d nx i&&qcC n (wgF n s i l 0 ld0)):=by unfold q1q;rw[hz];simp
   have m1:n.Kind=1→Qg (wgF n s i l 0 ld0) n=qcC n (wgF n s i l 0 ld0):=fun hk=>by
    unfold Qg qcC
    rw[if_pos hk]
    cases(wgF n s i l 0 ld0).fine<;>simp
   have m2:n.Kind≠1→QV (wgF n s i l 0 ld0) n=qcC n (wgF n s i l 0 ld0):=fun hk=>by
    unfold QV qcC
    rw[if_neg hk]
    cases(wgF n s i l 0 ld0).fine
    ·simp
    ·by_cases h:0<(wgF n s i l 0 ld0).many<;>simp[h]
   rw[hst]
   by_cases hk:n.Kind=1
   ·rw[if_pos hk]
    unfold ZK
    simp only
    rw[zf,if_pos (by omega),hal,qQx]
    cases ha:alF d nx i
    ·rw[if_neg (by simp),if_pos ⟨by omega,by omega⟩,qQA,if_pos (by omega),hw,J5,←hc,hv,ha,qRA]
    ·rw[if_pos rfl,hwg,qQx,if_pos ⟨by omega,by omega⟩,qQA,if_pos (by omega),hw,m1 hk,J5,←hc,hv,ha,qR4]
   ·rw[if_neg hk]
    unfold Zl
    simp only
    rw[zf,if_pos (by omega),hal,qQx]
    cases ha:alF d nx i
    ·rw[if_neg (by simp),if_pos ⟨by omega,by omega⟩,qQA,if_pos (by omega),hw,J5,←hc,hv,ha,qRA]
    ·rw[if_pos rfl,hwg,qQx,if_pos ⟨by omega,by omega⟩,qQA,if_pos (by omega),hw,m2 hk,J5,←hc,hv,ha,qR4]) (by
   have hend:some (Sum.inr (α:=List Bool×Int) (QQ N (fun k=>if 1≤k∧k<N then q1q d s l n nx k else false)))=some (Sum.inr (QQ N (q1q d s l n nx))):=by
    congr 2
    refine q0e fun k hk=>?_
    by_cases h:k=0
    ·subst h;simp[q1q]
    ·rw[if_pos ⟨by omega,hk⟩]
   rw[hst]
   by_cases hk:n.Kind=1
   ·rw[if_pos hk]
    unfold ZK
    simp only
    rw[zf,if_neg (by omega)]
    exact hend
   ·rw[if_neg hk]
    unfold Zl
    simp only
    rw[zf,if_neg (by omega)]
    exact hend)
 rw[q3H]
 have e:(fun k:Nat=>if 1≤k∧k<1 then q1q d s l n nx k else false)=fun _=>false:=by funext k;rw[if_neg (by omega)]
 rw[e] at h1
 exact h1
end
end
noncomputable section
open Go.RowKit
theorem qdc (N:Nat) (d:List Int) (s:qd) (l:List qa) (n:qb) (nx:Nat):QQ N (Qp d s l n nx)=if n.Kind=1∨n.Kind=2 then QQ N (q1q d s l n nx) else QQ N (fun k=>decide (k≠0)&&decide ((if n.Kind=3 then(n.L.length:Int) else n.N)≤qas d s l (n.Kind==4) n.L nx b0F k)):=by
 have:Qp d s l n nx=fun k=>Qp d s l n nx k:=rfl
 by_cases h:n.Kind=1∨n.Kind=2
 ·rw[if_pos h];refine q0e fun k _=>?_;rw[qc3,if_pos h]
 ·rw[if_neg h];refine q0e fun k _=>?_;rw[qc3,if_neg h]
theorem qmL (d:List Int) (hd:d=[]) (s:qd) (l:List qa) (hl:l.length≤16) (n:qb) (hLn:n.L.length≤1000000)
  (hP:∀y∈n.L,∀nx:Nat,nx+(ndN y).length≤100000→zX (y,l,(nx:Int),s)=some (QQ (2 ^ l.length) (Qp d s l y nx),l,((nx+lvN y:Nat):Int),s)) (w9:List Bool) :
  ∀(r:List qb) (i nx:Nat) (best:Nat→Int) (M:Int),r.length+i=n.L.length→(∀j,r[j]?=n.L[i+j]?)→nx+(ndL r).length≤100000→Bnd best (2 ^ l.length) M→0≤M→M+r.length≤100000→
  zn (Z3 zX w9 n n.L (n.L.length:Int)) (QQ (2 ^ l.length) best,l,(nx:Int),s,(i:Int))=some ((QQ (2 ^ l.length) (qas d s l (n.Kind==4) r nx best),l,((nx+lvL r:Nat):Int),s)):=by
 intro r
 induction r with
 | nil=>
  intro i nx best M hi _ _ _ _ _
  have hi:i=n.L.length:=by simpa using hi
  subst hi
  refine zg ?_
  unfold Z3
  simp only
  rw[if_neg (by omega),lvL,Nat.add_zero]
  rfl
 | cons y r ih=>
  intro i nx best M hi hr hnx hb hM0 hM
  rw[ndL,qQE] at hnx
  have hlv:=qoD y
  simp only[qQI,Int.natCast_add,Int.natCast_one] at hM hi
  have hget:n.L[i]?=some y:=by have:=hr 0;simpa using this.symm
  have hlt:i<n.L.length:=ZB hget
  have hN:2 ^ l.length≤65536:=qR8 (Nat.pow_le_pow_right (by decide) hl) (by decide)
  have hN1:1≤2 ^ l.length:=Nat.one_le_two_pow
  have hcall:=hP y (qQy hget) nx (by omega)
  have hw:w64 ((i:Int)+1)=((i+1:Nat):Int):=Qn hlt (by omega)
  have hstep:Z3 zX w9 n n.L (n.L.length:Int) (QQ (2 ^ l.length) best,l,(nx:Int),s,(i:Int))=some (.inl (QQ (2 ^ l.length) (stF (n.Kind==4 && !foF d nx (nx+lvN y)) (Qp d s l y nx) best),l,((nx+lvN y:Nat):Int),s,((i+1:Nat):Int))):=by
   unfold Z3
   simp only
   rw[if_pos (by omega),if_pos ⟨by omega,by omega⟩,qQA,hget,qQx,hcall,qQx]
   simp only[zf]
   have hfo:foF d nx (nx+lvN y)=false:=by rw[hd];rfl
   cases hk4:(n.Kind==4)
   ·rw[if_neg (by simp),if_pos ⟨by omega,by omega,by omega⟩,qpL (M:=M) zX hN (by omega) hb,qQx,hw,qRA]
   ·rw[if_pos rfl,if_pos ⟨by omega,by omega,by omega⟩,qpL (M:=M) zX hN (by omega) hb,qQx,hw,hfo]
    rfl
  rw[zM hstep,ih (i+1) _ _ (M+1) (by omega) (fun j=>by rw[show i+1+j=i+(j+1) by omega,←hr (j+1)];rfl) (by omega) (qnG hb (by omega)) (by omega) (by omega)]
  rw[lvL,←qRr]
  rfl
theorem qmn (d:List Int) (hd:d=[]) (s:qd) (l:List qa) (hl:l.length≤16):∀(m:Nat) (n:qb),(ndN n).length≤m→(ndN n).length≤10000→(∀y∈ndN n,y.Set.length≤1000000)→∀nx:Nat,nx+(ndN n).length≤100000→zX (n,l,(nx:Int),s)=some (QQ (2 ^ l.length) (Qp d s l n nx),l,((nx+lvN n:Nat):Int),s):=by
 intro m
 induction m with
 | zero=>intro n h;rw[q0s] at h;simp at h
 | succ m ih=>
  intro n h1 h2 h3 nx hnx
  have hN:2 ^ l.length≤65536:=qR8 (Nat.pow_le_pow_right (by decide) hl) (by decide)
  have hN1:1≤2 ^ l.length:=Nat.one_le_two_pow
  have hlv:=qoD n
  have hset:=h3 n (by rw[q0s];exact qQM)
  have hsub:∀(L:List qb),(ndL L).length≤m→(ndL L).length≤10000→(∀y∈ndL L,y.Set.length≤1000000)→∀y∈L,∀nx:Nat,nx+(ndN y).length≤100000→zX (y,l,(nx:Int),s)=some (QQ (2 ^ l.length) (Qp d s l y nx),l,((nx+lvN y:Nat):Int),s):=by
   intro L
   induction L with
   | nil=>intro _ _ _ y hy;simp at hy
   | cons x L ihl=>
    intro g1 g2 g3 y hy
    rw[ndL,qQE] at g1 g2
    rw[ndL] at g3
    rcases qQT.1 hy with rfl|hy
    ·exact ih _ (by omega) (by omega) fun z hz=>g3 z (qQJ _ hz)
    ·exact ihl (by omega) (by omega) (fun z hz=>g3 z (qQG _ hz)) y hy
  have e0:ndN n=n::ndL n.L:=q0s n
  have hlen:(ndN n).length=(ndL n.L).length+1:=by rw[e0];rfl
  have hP:=hsub n.L (by omega) (by omega) fun y hy=>h3 y (by rw[e0];exact qQF _ hy)
  have hLlen:∀L:List qb,L.length≤(ndL L).length:=fun L=>by
   induction L with
   | nil=>simp
   | cons x L ihL=>rw[ndL,qQE,qQI,q0s,qQI];omega
  have hLl:=hLlen n.L
  have hpow:w64 ((1:Int)*(2:Int) ^ min l.length (IntKind.bits IntKind.i64))=((2 ^ l.length:Nat):Int):=by
   rw[show min l.length (IntKind.bits IntKind.i64)=l.length from Nat.min_eq_left (by show l.length≤64;omega),Int.one_mul,show((2:Int) ^ l.length)=((2 ^ l.length:Nat):Int) by simp]
   exact QI (by omega) (by omega)
  rw[qau,q0r]
  rw[hpow,if_pos (by omega),if_pos ⟨by omega,by omega,by omega⟩,qQA,qeJ,qdc]
  by_cases hlf:n.Kind=1∨n.Kind=2
  ·have e1:qa9 n=true:=by unfold qa9;rcases hlf with h|h<;>simp[h]
   have e2:lvN n=1:=by rw[qbi,if_pos hlf]
   have hw2:w64 ((nx:Int)+1)=((nx+1:Nat):Int):=by rw[QI (by omega) (by omega)];omega
   rw[if_pos e1,if_pos hlf,e2]
   unfold q1Z
   by_cases hk:n.Kind=1
   ·have hlt:=qj6 zX d hd s l hl n hset nx (by omega) _ (if_pos hk).symm hN hN1
    rw[if_pos (by simpa using hk),qQx,Sum.elim_inl,hlt,qQx,hw2]
   ·have hlt:=qj6 zX d hd s l hl n hset nx (by omega) _ (if_neg hk).symm hN hN1
    rw[if_neg (by simpa using hk),qQx,Sum.elim_inr,hlt,qQx,hw2]
  ·have e1:qa9 n=false:=by unfold qa9;have h1:n.Kind≠1:=fun h=>hlf (.inl h);have h2:n.Kind≠2:=fun h=>hlf (.inr h);simp[h1,h2]
   have e2:lvN n=lvL n.L:=by rw[qbi,if_neg hlf]
   have hb0:Bnd b0F (2 ^ l.length) 0:=fun k _=>by unfold b0F;split<;>omega
   have hch:=qmL d hd s l hl n (by omega) hP (List.replicate (2 ^ l.length) false) n.L 0 nx b0F 0 (by simp) (by simp) (by omega) hb0 (by omega) (by omega)
   rw[e1,if_neg (by simp),if_neg hlf,e2,if_pos ⟨by omega,by omega,by omega⟩]
   rw[qwg zX hN hN1,qQx]
   change Option.bind (zn _ (QQ (2 ^ l.length) b0F,l,(nx:Int),s,((0:Nat):Int))) _=_
   rw[hch,qQx]
   simp only
   by_cases hk:n.Kind=3
   ·rw[if_pos (by simpa using hk),qox zX hN hN1,qQx]
    simp only[if_pos hk]
   ·rw[if_neg (by simpa using hk),qox zX hN hN1,qQx]
    simp only[if_neg hk]
theorem qoA (d:List Int) (hd:d.length≤16) (s:qd) (l:List qa) (hl:l.length≤16) (n:qb) (hLn:n.L.length≤1000000)
  (hP:∀y∈n.L,∀nx:Nat,nx+(ndN y).length≤100000→zo (y,d,l,(nx:Int),s)=some (QQ (2 ^ l.length) (Qp d s l y nx),d,l,((nx+lvN y:Nat):Int),s)) (w9:List Bool) :
  ∀(r:List qb) (i nx:Nat) (best:Nat→Int) (M:Int),r.length+i=n.L.length→(∀j,r[j]?=n.L[i+j]?)→nx+(ndL r).length≤100000→Bnd best (2 ^ l.length) M→0≤M→M+r.length≤100000→
  zn (Qz zo w9 n n.L (n.L.length:Int)) (d,QQ (2 ^ l.length) best,l,(nx:Int),s,(i:Int))=some ((d,QQ (2 ^ l.length) (qas d s l (n.Kind==4) r nx best),l,((nx+lvL r:Nat):Int),s)):=by
 intro r
 induction r with
 | nil=>
  intro i nx best M hi _ _ _ _ _
  have hi:i=n.L.length:=by simpa using hi
  subst hi
  refine zg ?_
  unfold Qz
  simp only
  rw[if_neg (by omega),lvL,Nat.add_zero]
  rfl
 | cons y r ih=>
  intro i nx best M hi hr hnx hb hM0 hM
  rw[ndL,qQE] at hnx
  have hlv:=qoD y
  simp only[qQI,Int.natCast_add,Int.natCast_one] at hM hi
  have hget:n.L[i]?=some y:=by have:=hr 0;simpa using this.symm
  have hlt:i<n.L.length:=ZB hget
  have hN:2 ^ l.length≤65536:=qR8 (Nat.pow_le_pow_right (by decide) hl) (by decide)
  have hN1:1≤2 ^ l.length:=Nat.one_le_two_pow
  have hcall:=hP y (qQy hget) nx (by omega)
  have hw:w64 ((i:Int)+1)=((i+1:Nat):Int):=Qn hlt (by omega)
  have hstep:Qz zo w9 n n.L (n.L.length:Int) (d,QQ (2 ^ l.length) best,l,(nx:Int),s,(i:Int))=some (.inl (d,QQ (2 ^ l.length) (stF (n.Kind==4 && !foF d nx (nx+lvN y)) (Qp d s l y nx) best),l,((nx+lvN y:Nat):Int),s,((i+1:Nat):Int))):=by
   unfold Qz
   simp only
   rw[if_pos (by omega),if_pos ⟨by omega,by omega⟩,qQA,hget,qQx,hcall,qQx]
   simp only[zf]
   cases hk4:(n.Kind==4)
   ·rw[if_neg (by simp),if_pos ⟨by omega,by omega,by omega⟩,qoa (M:=M) zo hN (by omega) hb,qQx,hw,qRA]
   ·rw[if_pos rfl,qp0 d hd nx (nx+lvN y),qQx,if_pos ⟨by omega,by omega,by omega⟩,qoa (M:=M) zo hN (by omega) hb,qQx,hw,qR4]
  rw[zM hstep,ih (i+1) _ _ (M+1) (by omega) (fun j=>by rw[show i+1+j=i+(j+1) by omega,←hr (j+1)];rfl) (by omega) (qnG hb (by omega)) (by omega) (by omega)]
  rw[lvL,←qRr]
  rfl
theorem qp4 (d:List Int) (hd:d.length≤16) (s:qd) (l:List qa) (hl:l.length≤16):∀(m:Nat) (n:qb),(ndN n).length≤m→(ndN n).length≤10000→(∀y∈ndN n,y.Set.length≤1000000)→∀nx:Nat,nx+(ndN n).length≤100000→zo (n,d,l,(nx:Int),s)=some (QQ (2 ^ l.length) (Qp d s l n nx),d,l,((nx+lvN n:Nat):Int),s):=by
 intro m
 induction m with
 | zero=>intro n h;rw[q0s] at h;simp at h
 | succ m ih=>
  intro n h1 h2 h3 nx hnx
  have hN:2 ^ l.length≤65536:=qR8 (Nat.pow_le_pow_right (by decide) hl) (by decide)
  have hN1:1≤2 ^ l.length:=Nat.one_le_two_pow
  have hlv:=qoD n
  have hset:=h3 n (by rw[q0s];exact qQM)
  have hsub:∀(L:List qb),(ndL L).length≤m→(ndL L).length≤10000→(∀y∈ndL L,y.Set.length≤1000000)→∀y∈L,∀nx:Nat,nx+(ndN y).length≤100000→zo (y,d,l,(nx:Int),s)=some (QQ (2 ^ l.length) (Qp d s l y nx),d,l,((nx+lvN y:Nat):Int),s):=by
   intro L
   induction L with
   | nil=>intro _ _ _ y hy;simp at hy
   | cons x L ihl=>
    intro g1 g2 g3 y hy
    rw[ndL,qQE] at g1 g2
    rw[ndL] at g3
    rcases qQT.1 hy with rfl|hy
    ·exact ih _ (by omega) (by omega) fun z hz=>g3 z (qQJ _ hz)
    ·exact ihl (by omega) (by omega) (fun z hz=>g3 z (qQG _ hz)) y hy
  have e0:ndN n=n::ndL n.L:=q0s n
  have hlen:(ndN n).length=(ndL n.L).length+1:=by rw[e0];rfl
  have hP:=hsub n.L (by omega) (by omega) fun y hy=>h3 y (by rw[e0];exact qQF _ hy)
  have hLlen:∀L:List qb,L.length≤(ndL L).length:=fun L=>by
   induction L with
   | nil=>simp
   | cons x L ihL=>rw[ndL,qQE,qQI,q0s,qQI];omega
  have hLl:=hLlen n.L
  have hpow:w64 ((1:Int)*(2:Int) ^ min l.length (IntKind.bits IntKind.i64))=((2 ^ l.length:Nat):Int):=by
   rw[show min l.length (IntKind.bits IntKind.i64)=l.length from Nat.min_eq_left (by show l.length≤64;omega),Int.one_mul,show((2:Int) ^ l.length)=((2 ^ l.length:Nat):Int) by simp]
   exact QI (by omega) (by omega)
  rw[q7S,JD]
  rw[hpow,if_pos (by omega),if_pos ⟨by omega,by omega,by omega⟩,qQA,qeJ,qdc]
  by_cases hlf:n.Kind=1∨n.Kind=2
  ·have e1:qa9 n=true:=by unfold qa9;rcases hlf with h|h<;>simp[h]
   have e2:lvN n=1:=by rw[qbi,if_pos hlf]
   have hw2:w64 ((nx:Int)+1)=((nx+1:Nat):Int):=by rw[QI (by omega) (by omega)];omega
   rw[if_pos e1,if_pos hlf,e2]
   unfold q1Z
   by_cases hk:n.Kind=1
   ·have hlt:=qiX zo d hd s l hl n hset nx (by omega) _ (if_pos hk).symm hN hN1
    rw[if_pos (by simpa using hk),qQx,Sum.elim_inl,hlt,qQx,hw2]
   ·have hlt:=qiX zo d hd s l hl n hset nx (by omega) _ (if_neg hk).symm hN hN1
    rw[if_neg (by simpa using hk),qQx,Sum.elim_inr,hlt,qQx,hw2]
  ·have e1:qa9 n=false:=by unfold qa9;have h1:n.Kind≠1:=fun h=>hlf (.inl h);have h2:n.Kind≠2:=fun h=>hlf (.inr h);simp[h1,h2]
   have e2:lvN n=lvL n.L:=by rw[qbi,if_neg hlf]
   have hb0:Bnd b0F (2 ^ l.length) 0:=fun k _=>by unfold b0F;split<;>omega
   have hch:=qoA d hd s l hl n (by omega) hP (List.replicate (2 ^ l.length) false) n.L 0 nx b0F 0 (by simp) (by simp) (by omega) hb0 (by omega) (by omega)
   rw[e1,if_neg (by simp),if_neg hlf,e2,if_pos ⟨by omega,by omega,by omega⟩]
   rw[qvu zo hN hN1,qQx]
   change Option.bind (zn _ (d,QQ (2 ^ l.length) b0F,l,(nx:Int),s,((0:Nat):Int))) _=_
   rw[hch,qQx]
   simp only
   by_cases hk:n.Kind=3
   ·rw[if_pos (by simpa using hk),qlD zo hN hN1,qQx]
    simp only[if_pos hk]
   ·rw[if_neg (by simpa using hk),qlD zo hN hN1,qQx]
    simp only[if_neg hk]
end
end Go.Proofs.YtofbcijbpfjliaaGreat.Vc
