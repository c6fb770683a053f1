/- Part 4 of a proof. -/
import Derived.Test.YtgejdfnidjnjcaaGreatN3
set_option linter.unusedVariables false
set_option linter.unusedSimpArgs false
set_option linter.defProp false
set_option linter.unusedSectionVars false
set_option linter.unnecessarySimpa false
namespace Go.Proofs.YtgejdfnidjnjcaaGreat.Vc
open Go.RowKit
set_option maxRecDepth 20000
set_option maxHeartbeats 8000000
theorem lo6:okL 6 qsC:=zb (qh bd6) (by kernel_rfl) (by kernel_rfl)
def cx6:=JA_ @qsC.eq_1 (JA_ @Tryz.f6.eq_1 @bd6)
theorem qHV:okL 25 qnx:=zb (qh qEO) (by kernel_rfl) (by kernel_rfl)
def qHX:=JA_ @qnx.eq_1 (JA_ @Tryz.f25.eq_1 @qEO)
theorem q4X:ev 25 0 [] []=some (R.tup [R.c (C.d (D.sl 8 3 [D.int Go.IntKind.i64 1,D.str (ByteArray.mk (List.toArray [65,49])),D.int Go.IntKind.i64 5,D.int Go.IntKind.i64 60,D.int Go.IntKind.i64 0,D.sl 1 0 [],D.int Go.IntKind.i64 0,D.sl 1 0 [],D.int Go.IntKind.i64 1,D.str (ByteArray.mk (List.toArray [66,49])),D.int Go.IntKind.i64 6,D.int Go.IntKind.i64 90,D.int Go.IntKind.i64 0,D.sl 1 0 [],D.int Go.IntKind.i64 0,D.sl 1 0 [],D.int Go.IntKind.i64 1,D.str (ByteArray.mk (List.toArray [65,49])),D.int Go.IntKind.i64 5,D.int Go.IntKind.i64 40,D.int Go.IntKind.i64 0,D.sl 1 0 [],D.int Go.IntKind.i64 0,D.sl 1 0 []])),R.agg [C.d (D.int Go.IntKind.i64 1),C.d (D.int Go.IntKind.i64 0),C.d (D.int Go.IntKind.i64 50),C.d (D.sl 2 1 [D.int Go.IntKind.i64 1,D.str (ByteArray.mk (List.toArray [65,49]))]),C.d (D.sl 5 0 [])],R.agg [C.d (D.int Go.IntKind.i64 2),C.d (D.int Go.IntKind.i64 10),C.d (D.int Go.IntKind.i64 0),C.d (D.sl 2 2 [D.int Go.IntKind.i64 1,D.str (ByteArray.mk (List.toArray [65,49])),D.int Go.IntKind.i64 1,D.str (ByteArray.mk (List.toArray [66,49]))]),C.d (D.sl 5 0 [])]],[]):=
 by
  rw[zc qEO qFt.2.2.2 qHV]
  have:=qHX;exact gA
theorem qHo:okL 11 qmK:=zb (qh qC1) (by kernel_rfl) (by kernel_rfl)
def qHs:=JA_ @qmK.eq_1 (JA_ @Tryz.f11.eq_1 @qC1)
noncomputable def q7Z (school:Int):Option qf:=if(school==2)=Bool.true then some (qf.mk 5 1 3) else if(school==3)=Bool.true then some (qf.mk 0 20 10) else some (qf.mk 0 100 50)
noncomputable def qN (school:Int):qf:=if(school==2)=Bool.true then qf.mk 5 1 3 else if(school==3)=Bool.true then qf.mk 0 20 10 else qf.mk 0 100 50
theorem qen (school:Int):q7Z school=some (qN school):=by
 unfold q7Z qN
 simp only[QZ]
theorem q4d:∀(school:Int),ev 11 0 [rI school] []=some (R.agg [dI (qN school).Worst,dI (qN school).Best,dI (qN school).Pass],[]):=
 fun school=>by
  have h:ev 11 0 [rI school] []=(q7Z school).bind (fun(e:qf)=>some (R.agg [dI e.Worst,dI e.Best,dI e.Pass],[])):=by
   rw[zc qC1 qGe.2.2.2 qHo]
   have:=qHs;have:=@q7Z.eq_1;exact gA
  rw[qen] at h
  exact h
theorem qDi:okL 18 qgl:=zb (qh qyT) (by kernel_rfl) (by kernel_rfl)
def qBZ:=JA_ @qgl.eq_1 (JA_ @Tryz.f18.eq_1 @qyT)
theorem qzK:lbO 18 9=qlp:=Q9 (qh qyT) rfl
theorem qvT:okL 18 qlp:=zB qDi (List.mem_of_getElem? (i:=0) (by kernel_rfl))
theorem qt1:lbO 18 14=qhP:=Q9 (qh qyT) rfl
theorem qu5:okL 18 qhP:=zB qDi (List.mem_of_getElem? (i:=1) (by kernel_rfl))
theorem qIN:okL 12 qol:=zb (qh qDG) (by kernel_rfl) (by kernel_rfl)
def qIm:=JA_ @qol.eq_1 (JA_ @Tryz.f12.eq_1 @qDG)
theorem qFO:okL 30 qjQ:=zb (qh qBN) (by kernel_rfl) (by kernel_rfl)
def qFx:=JA_ @qjQ.eq_1 (JA_ @Tryz.f30.eq_1 @qBN)
theorem qzb:lbO 30 6=qn7:=Q9 (qh qBN) rfl
theorem qw0:okL 30 qn7:=zB qFO (List.mem_of_getElem? (i:=0) (by kernel_rfl))
theorem qGX:okL 55 qg9:=zb (qh qzv) (by kernel_rfl) (by kernel_rfl)
def qCI:=JA_ @qg9.eq_1 (JA_ @Tryz.f55.eq_1 @qzv)
theorem qnZ:raO 55 4=qdP:=qxy (qh qzv) rfl
theorem qjj:rbO 55 4=qbI:=qyq (qh qzv) rfl
theorem qiK:okL 55 qdP∧okL 55 qbI:=qwB (key:=0) (q:=(qdP,qbI)) qGX (List.mem_of_getElem? (i:=0) (by kernel_rfl))
theorem qo3:Qd (rbO 55 4)=4:=by rw[qjj];exact qwh
theorem qrI:∀k s,XE2 evo 55 k (raO 55 4) s=XE2 evo 55 k qdP s:=fun _ _=>by rw[qnZ]
theorem qrW:∀k s,XE2 evo 55 k (rbO 55 4) s=XE2 evo 55 k qbI s:=fun _ _=>by rw[qjj]
theorem qK6:okL 78 qo2:=zb (qh qCJ) (by kernel_rfl) (by kernel_rfl)
def qJm:=JA_ @qo2.eq_1 (JA_ @Tryz.f78.eq_1 @qCJ)
noncomputable def q50 (n:qb):Option Unit:=
 some ()
noncomputable def q8I (n:qb):Unit:=
 ()
theorem qck (n:qb):q50 n=some (q8I n):=by
 unfold q50 q8I
 simp only[QZ]
theorem qdB:∀(qi n_N qs:Int) (qx:List qc) (n_L:List qb),ev 78 0 [R.agg [dI qi,dI n_N,dI qs,dL 2 qe qx,dL 5 qg n_L]] []=some (R.c (C.fn 94 [] [dP 0]),[(0,B.blk 30 [dI qi,dI n_N,dI qs,dL 2 qe qx,dL 5 qg n_L])]):=
 fun qi n_N qs qx n_L=>by
  have h:ev 78 0 [R.agg [dI qi,dI n_N,dI qs,dL 2 qe qx,dL 5 qg n_L]] []=(q50 (qb.mk qi n_N qs qx n_L)).bind (fun(e:Unit)=>some (R.c (C.fn 94 [] [dP 0]),[(0,B.blk 30 [dI qi,dI n_N,dI qs,dL 2 qe qx,dL 5 qg n_L])])):=by
   rw[zc qCJ qGY.2.2.2 qK6]
   have:=qJm;have:=@q50.eq_1;exact gA
  rw[qck] at h
  exact h
theorem qJV:okL 94 ql6:=zb (qh qEZ) (by kernel_rfl) (by kernel_rfl)
def qJE:=JA_ @ql6.eq_1 (JA_ @Tryz.f94.eq_1 @qEZ)
theorem qDN:okL 95 qjr:=zb (qh qxT) (by kernel_rfl) (by kernel_rfl)
def qBs:=JA_ @qjr.eq_1 (JA_ @Tryz.f95.eq_1 @qxT)
theorem qrS:lbO 95 4=qiB:=Q9 (qh qxT) rfl
theorem qrp:okL 95 qiB:=zB qDN (List.mem_of_getElem? (i:=0) (by kernel_rfl))
noncomputable def q3F (t9:Int) (t10:Int) (t102:Int) (t103:Int) (t104:List qc) (t105:List qb) (deepest:Int) (ok:Bool):Option (Unit⊕(List qb×Int)):=if 100<t9 then some (Sum.inl ()) else if 1≤Go.maxLen then some (Sum.inr ([qb.mk t10 t102 t103 t104 t105],max deepest t9)) else none
theorem qaS:∀(t9 t10 t102 t103:Int) (t104:List qc) (t105:List qb) (deepest:Int) (ok:Bool),evr 55 (raO 55 4) (rbO 55 4) 4 [R.any,R.any,rP 0,rP 1,rP 2,R.any,R.any,R.any,R.any,rI t9,R.agg [dI t10,dI t102,dI t103,dL 2 qe t104,dL 5 qg t105],R.any,R.any,R.any,R.any,R.any,R.any,R.any,R.any,R.any,R.any,R.any,R.any,R.any,R.any,R.any,R.any] [(0,B.blk 28 [C.nils]),(1,B.blk 3 [dI deepest]),(2,B.blk 4 [dB ok]),(3,B.ob (AO.lp 55 (R.any::R.any::rP 0::rP 1::rP 2::q8U) [9,10] (raO 55 4) (rbO 55 4) Go.LoopState.ready none))]=(q3F t9 t10 t102 t103 t104 t105 deepest ok).bind (Sum.elim (fun(e:Unit)=>some (rB Bool.false,[(0,B.blk 28 [C.nils]),(1,B.blk 3 [dI 0]),(2,B.blk 4 [dB Bool.false]),(3,B.ob (AO.lp 55 (R.any::R.any::rP 0::rP 1::rP 2::q8U) [9,10] (raO 55 4) (rbO 55 4) Go.LoopState.done (some Go.Code.ret)))])) (fun(e:List qb×Int)=>some (rB Bool.true,[(0,B.blk 28 [dO 4 5 e.1.length]),(1,B.blk 3 [dI e.2]),(2,B.blk 4 [dB ok]),(3,B.ob (AO.lp 55 (R.any::R.any::rP 0::rP 1::rP 2::q8U) [9,10] (raO 55 4) (rbO 55 4) Go.LoopState.ready none)),(4,bR 30 5 qg e.1)]))):=
 fun t9 t10 t102 t103 t104 t105 deepest ok=>by
  rw[qm0 qnZ qjj (by decide) qrF qiK.1 qiK.2]
  have:=qCI;have:=@qrI;have:=@qrW;have:=@qdP.eq_1;have:=@qbI.eq_1;have:=@q3F.eq_1;have:=@qo3;exact gA
noncomputable def q2x (t9:Int) (t10:Int) (t102:Int) (t103:Int) (t104:List qc) (t105:List qb) (w4:List qb) (deepest:Int) (ok:Bool):Option (Unit⊕(List qb×Int)):=if 100<t9 then some (Sum.inl ()) else if(((w4.length:Nat):Int)==10000)=Bool.true then some (Sum.inl ()) else if w4.length+1≤Go.maxLen∧(w4.length+1)*72≤140737488355328 then some (Sum.inr (w4++[qb.mk t10 t102 t103 t104 t105],max deepest t9)) else none
theorem q94:∀(t9 t10 t102 t103:Int) (t104:List qc) (t105 w4:List qb) (deepest:Int) (ok:Bool) (Qj:Nat),Qj=w4.length→evr 55 (raO 55 4) (rbO 55 4) 4 [R.any,R.any,rP 0,rP 1,rP 2,R.any,R.any,R.any,R.any,rI t9,R.agg [dI t10,dI t102,dI t103,dL 2 qe t104,dL 5 qg t105],R.any,R.any,R.any,R.any,R.any,R.any,R.any,R.any,R.any,R.any,R.any,R.any,R.any,R.any,R.any,R.any] [(0,B.blk 28 [dO 4 5 Qj]),(1,B.blk 3 [dI deepest]),(2,B.blk 4 [dB ok]),(3,B.ob (AO.lp 55 (R.any::R.any::rP 0::rP 1::rP 2::q8U) [9,10] (raO 55 4) (rbO 55 4) Go.LoopState.ready none)),(4,bR 30 5 qg w4)]=(q2x t9 t10 t102 t103 t104 t105 w4 deepest ok).bind (Sum.elim (fun(e:Unit)=>some (rB Bool.false,[(0,B.blk 28 [C.nils]),(1,B.blk 3 [dI 0]),(2,B.blk 4 [dB Bool.false]),(3,B.ob (AO.lp 55 (R.any::R.any::rP 0::rP 1::rP 2::q8U) [9,10] (raO 55 4) (rbO 55 4) Go.LoopState.done (some Go.Code.ret)))])) (fun(e:List qb×Int)=>some (rB Bool.true,[(0,B.blk 28 [dO 4 5 e.1.length]),(1,B.blk 3 [dI e.2]),(2,B.blk 4 [dB ok]),(3,B.ob (AO.lp 55 (R.any::R.any::rP 0::rP 1::rP 2::q8U) [9,10] (raO 55 4) (rbO 55 4) Go.LoopState.ready none)),(4,bR 30 5 qg e.1)]))):=
 by
 intro t9 t10 t102 t103 t104 t105 w4 deepest ok Qj h0
 subst h0
 rw[qm0 qnZ qjj (by decide) qrF qiK.1 qiK.2]
 have:=qCI;have:=@qrI;have:=@qrW;have:=@qdP.eq_1;have:=@qbI.eq_1;have:=@q2x.eq_1;have:=@qo3;exact gA
noncomputable def Jr (x:(qb×Int×List qb×Int×Bool)):List R×List (Nat×B):=([R.agg [C.d (D.int .i64 x.1.Kind),C.d (D.int .i64 x.1.N),C.d (D.int .i64 x.1.Min),C.d (D.sl 2 x.1.Set.length (x.1.Set.flatMap qe)),C.d (D.sl 5 x.1.L.length (x.1.L.flatMap qg))],R.c (C.d (D.int .i64 x.2.1)),R.c (C.hd .yield 0)],[(0,B.ob (AO.lp 55 [R.any,R.any,R.c (C.ptr 1 0),R.c (C.ptr 2 0),R.c (C.ptr 3 0),R.any,R.any,R.any,R.any,R.any,R.any,R.any,R.any,R.any,R.any,R.any,R.any,R.any,R.any,R.any,R.any,R.any,R.any,R.any,R.any,R.any,R.any] [9,10] (raO 55 4) (rbO 55 4) Go.LoopState.ready none)),(1,B.blk 28 [C.own 4 5 0 x.2.2.1.length]),(2,B.blk 3 [C.d (D.int .i64 x.2.2.2.1)]),(3,B.blk 4 [C.d (D.bool x.2.2.2.2)]),(4,B.row 30 5 ((x.2.2.1.flatMap qg).map C.d))])
noncomputable def JO:(Int⊕(List qb×Int×Bool))→R×List (Nat×B):=Sum.elim (fun(e:Int)=>(R.c (C.d (D.bool Bool.false)),[(0,B.ob (AO.lp 55 [R.any,R.any,R.c (C.ptr 1 0),R.c (C.ptr 2 0),R.c (C.ptr 3 0),R.any,R.any,R.any,R.any,R.any,R.any,R.any,R.any,R.any,R.any,R.any,R.any,R.any,R.any,R.any,R.any,R.any,R.any,R.any,R.any,R.any,R.any] [9,10] (raO 55 4) (rbO 55 4) Go.LoopState.done (some Go.Code.ret))),(1,B.blk 28 [C.nils]),(2,B.blk 3 [C.d (D.int .i64 e)]),(3,B.blk 4 [C.d (D.bool Bool.false)])])) (fun(e:List qb×Int×Bool)=>(R.c (C.d (D.bool Bool.true)),[(0,B.ob (AO.lp 55 [R.any,R.any,R.c (C.ptr 1 0),R.c (C.ptr 2 0),R.c (C.ptr 3 0),R.any,R.any,R.any,R.any,R.any,R.any,R.any,R.any,R.any,R.any,R.any,R.any,R.any,R.any,R.any,R.any,R.any,R.any,R.any,R.any,R.any,R.any] [9,10] (raO 55 4) (rbO 55 4) Go.LoopState.ready none)),(1,B.blk 28 [C.own 4 5 0 e.1.length]),(2,B.blk 3 [C.d (D.int .i64 e.2.1)]),(3,B.blk 4 [C.d (D.bool e.2.2)]),(4,B.row 30 5 ((e.1.flatMap qg).map C.d))]))
noncomputable def q1s (rF:(qb×Int×List qb×Int×Bool)→Option (Int⊕(List qb×Int×Bool))) (deep:Int) (t15:List qb) (t16:Int):(List qb×Int×Bool×Int)→Option ((List qb×Int×Bool×Int)⊕(Int⊕(List qb×Int×Bool)))|(w4,b2,b3,t17)=>if t17<t16 then if 0≤t17∧t17<((t15.length:Nat):Int) then Option.bind t15[Int.toNat t17]? fun(a2:qb)=>Option.bind (rF (a2,(w64 (deep+1),(w4,(b2,b3))))) fun(a3:Sum Int (Prod (List qb) (Prod Int Bool)))=>Sum.elim (fun(a4:Int)=>some (Sum.inr (Sum.inl a4))) (fun(a5:Prod (List qb) (Prod Int Bool))=>some (Sum.inl (a5.1,a5.2.1,a5.2.2,w64 (t17+1)))) a3 else none else some (Sum.inr (Sum.inr (w4,b2,b3)))
theorem q7p (rE:Orc) (rF:(qb×Int×List qb×Int×Bool)→Option (Int⊕(List qb×Int×Bool))) (hF:∀y,rE (.fn 95) 4 (Jr y).1 (Jr y).2=(rF y).bind fun e=>some (JO e)) (hM:∀g k a G,g≠95→rE (.fn g) k a G=ev g k a G) (hR:∀g asg bd k a G,rE (.rd g asg bd) k a G=evr g asg bd k a G):∀(w4:List qb) (b2:Int) (b3:Bool) (deep:Int) (t15:List qb) (t16 t17:Int) (Qj:Nat),Qj=w4.length→XL2 rE 95 4 4 ⟨[(1,rI deep),(2,R.c (C.hd .yield 0)),(15,rL 5 qg t15),(16,rI t16),(17,rI t17)],[(0,B.ob (AO.lp 55 (R.any::R.any::rP 1::rP 2::rP 3::q8U) [9,10] (raO 55 4) (rbO 55 4) Go.LoopState.ready none)),(1,B.blk 28 [dO 4 5 Qj]),(2,B.blk 3 [dI b2]),(3,B.blk 4 [dB b3]),(4,bR 30 5 qg w4)],5,28⟩=(qX (q1s rF deep t15 t16) (w4,b2,b3,t17)).bind (Sum.elim (fun(e:Int)=>some (Go.Exit.ret,⟨[(6,rB Bool.false)],[(0,B.ob (AO.lp 55 (R.any::R.any::rP 1::rP 2::rP 3::q8U) [9,10] (raO 55 4) (rbO 55 4) Go.LoopState.done (some Go.Code.ret))),(1,B.blk 28 [C.nils]),(2,B.blk 3 [dI e]),(3,B.blk 4 [dB Bool.false])],4,28⟩)) (fun(e:List qb×Int×Bool)=>some (Go.Exit.exit 0,⟨[(6,R.any)],[(0,B.ob (AO.lp 55 (R.any::R.any::rP 1::rP 2::rP 3::q8U) [9,10] (raO 55 4) (rbO 55 4) Go.LoopState.ready none)),(1,B.blk 28 [dO 4 5 e.1.length]),(2,B.blk 3 [dI e.2.1]),(3,B.blk 4 [dB e.2.2]),(4,bR 30 5 qg e.1)],5,28⟩))):=
 by
 intro w4 b2 b3 deep t15 t16 t17 Qj h0
 subst h0
 revert t17;revert b3;revert b2;revert w4;exact qAK qrS qrp (fun e=>by rcases e with _|_<;>exact⟨_,rfl,fun h=>by cases h⟩) fun w4 b2 b3 t17=>by
  have hF':∀(qi n_N qs:Int) (qx:List qc) (n_L:List qb) (deep:Int) (w4:List qb) (b2:Int) (b3:Bool) (Qj:Nat),Qj=w4.length→rE (.fn 95) 4 [R.agg [dI qi,dI n_N,dI qs,dL 2 qe qx,dL 5 qg n_L],rI deep,R.c (C.hd .yield 0)] [(0,B.ob (AO.lp 55 (R.any::R.any::rP 1::rP 2::rP 3::q8U) [9,10] (raO 55 4) (rbO 55 4) Go.LoopState.ready none)),(1,B.blk 28 [dO 4 5 Qj]),(2,B.blk 3 [dI b2]),(3,B.blk 4 [dB b3]),(4,bR 30 5 qg w4)]=(rF ((qb.mk qi n_N qs qx n_L),deep,w4,b2,b3)).bind (Sum.elim (fun(e:Int)=>some (rB Bool.false,[(0,B.ob (AO.lp 55 (R.any::R.any::rP 1::rP 2::rP 3::q8U) [9,10] (raO 55 4) (rbO 55 4) Go.LoopState.done (some Go.Code.ret))),(1,B.blk 28 [C.nils]),(2,B.blk 3 [dI e]),(3,B.blk 4 [dB Bool.false])])) (fun(e:List qb×Int×Bool)=>some (rB Bool.true,[(0,B.ob (AO.lp 55 (R.any::R.any::rP 1::rP 2::rP 3::q8U) [9,10] (raO 55 4) (rbO 55 4) Go.LoopState.ready none)),(1,B.blk 28 [dO 4 5 e.1.length]),(2,B.blk 3 [dI e.2.1]),(3,B.blk 4 [dB e.2.2]),(4,bR 30 5 qg e.1)]))):=by intro qi n_N qs qx n_L deep w4 b2 b3 Qj h0;subst h0;exact(hF ((qb.mk qi n_N qs qx n_L),deep,w4,b2,b3)).trans (by congr 1;funext e;rcases e with _|_<;>rfl)
  have:=qBs;have:=@qiB.eq_1;have:=@q1s.eq_1;exact gA
noncomputable def q1u (rF:(qb×Int×List qb×Int×Bool)→Option (Int⊕(List qb×Int×Bool))):(qb×Int×List qb×Int×Bool)→Option (Int⊕(List qb×Int×Bool))|(n,deep,w4,b2,b3)=>Option.bind (q2x deep n.Kind n.N n.Min n.Set n.L w4 b2 b3) fun(a2:Sum Unit (Prod (List qb) Int))=>Sum.elim (fun(a3:Unit)=>some (Sum.inl 0)) (fun(a4:Prod (List qb) Int)=>Option.bind (qX (q1s rF deep n.L ((n.L.length:Nat):Int)) (a4.1,(a4.2,(b3,0)))) fun(a5:Sum Int (Prod (List qb) (Prod Int Bool)))=>Sum.elim (fun(a6:Int)=>some (Sum.inl a6)) (fun(a7:Prod (List qb) (Prod Int Bool))=>some (Sum.inr (a7.1,a7.2.1,a7.2.2))) a5) a2
theorem q6y:q4u 95 4 Jr JO q1u:=by
 intro rE rF hF hM hR x
 obtain⟨n,deep,w4,b2,b3⟩:=x
 show q78 rE 95 4 [R.agg [dI n.Kind,dI n.N,dI n.Min,dL 2 qe n.Set,dL 5 qg n.L],rI deep,R.c (C.hd .yield 0)] [(0,B.ob (AO.lp 55 (R.any::R.any::rP 1::rP 2::rP 3::q8U) [9,10] (raO 55 4) (rbO 55 4) Go.LoopState.ready none)),(1,B.blk 28 [dO 4 5 w4.length]),(2,B.blk 3 [dI b2]),(3,B.blk 4 [dB b3]),(4,bR 30 5 qg w4)]=_
 have hF':∀(qi n_N qs:Int) (qx:List qc) (n_L:List qb) (deep:Int) (w4:List qb) (b2:Int) (b3:Bool) (Qj:Nat),Qj=w4.length→rE (.fn 95) 4 [R.agg [dI qi,dI n_N,dI qs,dL 2 qe qx,dL 5 qg n_L],rI deep,R.c (C.hd .yield 0)] [(0,B.ob (AO.lp 55 (R.any::R.any::rP 1::rP 2::rP 3::q8U) [9,10] (raO 55 4) (rbO 55 4) Go.LoopState.ready none)),(1,B.blk 28 [dO 4 5 Qj]),(2,B.blk 3 [dI b2]),(3,B.blk 4 [dB b3]),(4,bR 30 5 qg w4)]=(rF ((qb.mk qi n_N qs qx n_L),deep,w4,b2,b3)).bind (Sum.elim (fun(e:Int)=>some (rB Bool.false,[(0,B.ob (AO.lp 55 (R.any::R.any::rP 1::rP 2::rP 3::q8U) [9,10] (raO 55 4) (rbO 55 4) Go.LoopState.done (some Go.Code.ret))),(1,B.blk 28 [C.nils]),(2,B.blk 3 [dI e]),(3,B.blk 4 [dB Bool.false])])) (fun(e:List qb×Int×Bool)=>some (rB Bool.true,[(0,B.ob (AO.lp 55 (R.any::R.any::rP 1::rP 2::rP 3::q8U) [9,10] (raO 55 4) (rbO 55 4) Go.LoopState.ready none)),(1,B.blk 28 [dO 4 5 e.1.length]),(2,B.blk 3 [dI e.2.1]),(3,B.blk 4 [dB e.2.2]),(4,bR 30 5 qg e.1)]))):=by intro qi n_N qs qx n_L deep w4 b2 b3 Qj h0;subst h0;exact(hF ((qb.mk qi n_N qs qx n_L),deep,w4,b2,b3)).trans (by congr 1;funext e;rcases e with _|_<;>rfl)
 rw[q1R qxT qDN]
 have:=qBs;have:=@q94;have:=q7p rE rF hF hM hR;have:=@q1u.eq_1;have:=@JO.eq_1;exact gA
theorem q3Z:∀x y,Jr x=Jr y→x=y:=by
 rintro⟨⟨qoU,qoV,qr5,qr6,qr7⟩,a1,a2,a3,a4⟩ ⟨⟨qoW,qoX,qr8,qr9,qra⟩,b1,b2,b3,b4⟩ h
 simp only[Jr,Prod.mk.injEq,List.cons.injEq,R.c.injEq,R.agg.injEq,R.tup.injEq,C.d.injEq,C.own.injEq,C.ptr.injEq,C.eptr.injEq,D.int.injEq,D.bool.injEq,D.str.injEq,D.sl.injEq,B.blk.injEq,B.row.injEq,ZR,q0x,Je,Jm,q01,JX,JY,q1b,JV,q16,q18,ZS,true_and,and_true,List.nil_append] at h
 simp only[h]
theorem q9k:∀x y,JO x=JO y→x=y:=by
 rintro(a0|⟨qHe,qBP,qF6⟩) (b0|⟨qHf,qBQ,qF7⟩) h<;>simp only[Sum.elim_inl,Sum.elim_inr,JO,Prod.mk.injEq,List.cons.injEq,R.c.injEq,R.agg.injEq,R.tup.injEq,C.d.injEq,C.own.injEq,C.ptr.injEq,C.eptr.injEq,D.int.injEq,D.bool.injEq,D.str.injEq,D.sl.injEq,B.blk.injEq,B.row.injEq,ZR,q0x,Je,Jm,q01,JX,JY,q1b,JV,q16,q18,ZS,true_and,and_true,List.nil_append,reduceCtorEq,false_and,and_false] at h<;>simp only[h]
noncomputable def q0d:(qb×Int×List qb×Int×Bool)→Option (Int⊕(List qb×Int×Bool)):=q5W 95 4 Jr JO
theorem qbS (x:(qb×Int×List qb×Int×Bool)):q0d x=q1u q0d x:=q6D qBv.2.2.2 q3Z q9k q6y x
theorem qaV (n:qb) (deep:Int) (w4:List qb) (b2:Int) (b3:Bool):ev 95 4 [R.agg [dI n.Kind,dI n.N,dI n.Min,dL 2 qe n.Set,dL 5 qg n.L],rI deep,R.c (C.hd .yield 0)] [(0,B.ob (AO.lp 55 (R.any::R.any::rP 1::rP 2::rP 3::q8U) [9,10] (raO 55 4) (rbO 55 4) Go.LoopState.ready none)),(1,B.blk 28 [dO 4 5 w4.length]),(2,B.blk 3 [dI b2]),(3,B.blk 4 [dB b3]),(4,bR 30 5 qg w4)]=(q0d (n,deep,w4,b2,b3)).bind (Sum.elim (fun(e:Int)=>some (rB Bool.false,[(0,B.ob (AO.lp 55 (R.any::R.any::rP 1::rP 2::rP 3::q8U) [9,10] (raO 55 4) (rbO 55 4) Go.LoopState.done (some Go.Code.ret))),(1,B.blk 28 [C.nils]),(2,B.blk 3 [dI e]),(3,B.blk 4 [dB Bool.false])])) (fun(e:List qb×Int×Bool)=>some (rB Bool.true,[(0,B.ob (AO.lp 55 (R.any::R.any::rP 1::rP 2::rP 3::q8U) [9,10] (raO 55 4) (rbO 55 4) Go.LoopState.ready none)),(1,B.blk 28 [dO 4 5 e.1.length]),(2,B.blk 3 [dI e.2.1]),(3,B.blk 4 [dB e.2.2]),(4,bR 30 5 qg e.1)]))):=(q56 qBv.2.2.2 q3Z q6y (n,deep,w4,b2,b3)).trans (by congr 1;funext e;rcases e with _|_<;>rfl)
theorem qcd:∀(qi n_N qs:Int) (qx:List qc) (n_L:List qb) (deep:Int) (w4:List qb) (b2:Int) (b3:Bool) (Qj:Nat),Qj=w4.length→ev 95 4 [R.agg [dI qi,dI n_N,dI qs,dL 2 qe qx,dL 5 qg n_L],rI deep,R.c (C.hd .yield 0)] [(0,B.ob (AO.lp 55 (R.any::R.any::rP 1::rP 2::rP 3::q8U) [9,10] (raO 55 4) (rbO 55 4) Go.LoopState.ready none)),(1,B.blk 28 [dO 4 5 Qj]),(2,B.blk 3 [dI b2]),(3,B.blk 4 [dB b3]),(4,bR 30 5 qg w4)]=(q0d ((qb.mk qi n_N qs qx n_L),deep,w4,b2,b3)).bind (Sum.elim (fun(e:Int)=>some (rB Bool.false,[(0,B.ob (AO.lp 55 (R.any::R.any::rP 1::rP 2::rP 3::q8U) [9,10] (raO 55 4) (rbO 55 4) Go.LoopState.done (some Go.Code.ret))),(1,B.blk 28 [C.nils]),(2,B.blk 3 [dI e]),(3,B.blk 4 [dB Bool.false])])) (fun(e:List qb×Int×Bool)=>some (rB Bool.true,[(0,B.ob (AO.lp 55 (R.any::R.any::rP 1::rP 2::rP 3::q8U) [9,10] (raO 55 4) (rbO 55 4) Go.LoopState.ready none)),(1,B.blk 28 [dO 4 5 e.1.length]),(2,B.blk 3 [dI e.2.1]),(3,B.blk 4 [dB e.2.2]),(4,bR 30 5 qg e.1)]))):=
 by
 intro qi n_N qs qx n_L deep w4 b2 b3 Qj h0
 subst h0
 exact qaV (qb.mk qi n_N qs qx n_L) deep w4 b2 b3
noncomputable def q3B (deep:Int) (t15:List qb) (t16:Int):(List qb×Int×Bool×Int)→Option ((List qb×Int×Bool×Int)⊕(Int⊕(List qb×Int×Bool)))|(w4,b2,b3,t17)=>if t17<t16 then if 0≤t17∧t17<((t15.length:Nat):Int) then Option.bind t15[Int.toNat t17]? fun(a:qb)=>Option.bind (q0d (a,(w64 (deep+1),(w4,(b2,b3))))) fun(a2:Sum Int (Prod (List qb) (Prod Int Bool)))=>Sum.elim (fun(a3:Int)=>some (Sum.inr (Sum.inl a3))) (fun(a4:Prod (List qb) (Prod Int Bool))=>some (Sum.inl (a4.1,a4.2.1,a4.2.2,w64 (t17+1)))) a2 else none else some (Sum.inr (Sum.inr (w4,b2,b3)))
theorem qbf:∀(w4:List qb) (b2:Int) (b3:Bool) (deep:Int) (t15:List qb) (t16 t17:Int) (Qj:Nat),Qj=w4.length→XL2 evo 95 4 4 ⟨[(1,rI deep),(2,R.c (C.hd .yield 0)),(15,rL 5 qg t15),(16,rI t16),(17,rI t17)],[(0,B.ob (AO.lp 55 (R.any::R.any::rP 1::rP 2::rP 3::q8U) [9,10] (raO 55 4) (rbO 55 4) Go.LoopState.ready none)),(1,B.blk 28 [dO 4 5 Qj]),(2,B.blk 3 [dI b2]),(3,B.blk 4 [dB b3]),(4,bR 30 5 qg w4)],5,28⟩=(qX (q3B deep t15 t16) (w4,b2,b3,t17)).bind (Sum.elim (fun(e:Int)=>some (Go.Exit.ret,⟨[(6,rB Bool.false)],[(0,B.ob (AO.lp 55 (R.any::R.any::rP 1::rP 2::rP 3::q8U) [9,10] (raO 55 4) (rbO 55 4) Go.LoopState.done (some Go.Code.ret))),(1,B.blk 28 [C.nils]),(2,B.blk 3 [dI e]),(3,B.blk 4 [dB Bool.false])],4,28⟩)) (fun(e:List qb×Int×Bool)=>some (Go.Exit.exit 0,⟨[(6,R.any)],[(0,B.ob (AO.lp 55 (R.any::R.any::rP 1::rP 2::rP 3::q8U) [9,10] (raO 55 4) (rbO 55 4) Go.LoopState.ready none)),(1,B.blk 28 [dO 4 5 e.1.length]),(2,B.blk 3 [dI e.2.1]),(3,B.blk 4 [dB e.2.2]),(4,bR 30 5 qg e.1)],5,28⟩))):=
 by
 intro w4 b2 b3 deep t15 t16 t17 Qj h0
 subst h0
 revert t17;revert b3;revert b2;revert w4;exact qAK qrS qrp (fun e=>by rcases e with _|_<;>exact⟨_,rfl,fun h=>by cases h⟩) fun w4 b2 b3 t17=>by
  have:=qBs;have:=@qiB.eq_1;have:=@qcd;have:=@q3B.eq_1;exact gA
noncomputable def q6f (n:qb) (deep:Int) (b2:Int) (b3:Bool):Option (Int⊕(List qb×Int×Bool)):=Option.bind (q3F deep n.Kind n.N n.Min n.Set n.L b2 b3) fun(a:Sum Unit (Prod (List qb) Int))=>Sum.elim (fun(a2:Unit)=>some (Sum.inl 0)) (fun(a3:Prod (List qb) Int)=>Option.bind (qX (q3B deep n.L ((n.L.length:Nat):Int)) (a3.1,(a3.2,(b3,0)))) fun(a4:Sum Int (Prod (List qb) (Prod Int Bool)))=>Sum.elim (fun(a5:Int)=>some (Sum.inl a5)) (fun(a6:Prod (List qb) (Prod Int Bool))=>some (Sum.inr (a6.1,a6.2.1,a6.2.2))) a4) a
theorem qea:∀(qi n_N qs:Int) (qx:List qc) (n_L:List qb) (deep b2:Int) (b3:Bool),ev 95 4 [R.agg [dI qi,dI n_N,dI qs,dL 2 qe qx,dL 5 qg n_L],rI deep,R.c (C.hd .yield 0)] [(0,B.ob (AO.lp 55 (R.any::R.any::rP 1::rP 2::rP 3::q8U) [9,10] (raO 55 4) (rbO 55 4) Go.LoopState.ready none)),(1,B.blk 28 [C.nils]),(2,B.blk 3 [dI b2]),(3,B.blk 4 [dB b3])]=(q6f (qb.mk qi n_N qs qx n_L) deep b2 b3).bind (Sum.elim (fun(e:Int)=>some (rB Bool.false,[(0,B.ob (AO.lp 55 (R.any::R.any::rP 1::rP 2::rP 3::q8U) [9,10] (raO 55 4) (rbO 55 4) Go.LoopState.done (some Go.Code.ret))),(1,B.blk 28 [C.nils]),(2,B.blk 3 [dI e]),(3,B.blk 4 [dB Bool.false])])) (fun(e:List qb×Int×Bool)=>some (rB Bool.true,[(0,B.ob (AO.lp 55 (R.any::R.any::rP 1::rP 2::rP 3::q8U) [9,10] (raO 55 4) (rbO 55 4) Go.LoopState.ready none)),(1,B.blk 28 [dO 4 5 e.1.length]),(2,B.blk 3 [dI e.2.1]),(3,B.blk 4 [dB e.2.2]),(4,bR 30 5 qg e.1)]))):=
 fun qi n_N qs qx n_L deep b2 b3=>by
  rw[zc qxT qBv.2.2.2 qDN]
  have:=qBs;have:=@qaS;have:=@qbf;have:=@q6f.eq_1;exact gA
noncomputable def q3G (b2:Int) (b3:Bool) (v:qb):Option (Int⊕(List qb×Int×Bool)):=Option.bind (q6f v 1 b2 b3) fun(a:Sum Int (Prod (List qb) (Prod Int Bool)))=>Sum.elim (fun(a2:Int)=>some (Sum.inl a2)) (fun(a3:Prod (List qb) (Prod Int Bool))=>some (Sum.inr (a3.1,a3.2.1,a3.2.2))) a
theorem qb4:∀(b2:Int) (b3:Bool) (qgZ v_N qoI:Int) (qoJ:List qc) (v_L:List qb),ev 94 5 [R.c (C.hd .yield 0),rP 4] [(0,B.ob (AO.lp 55 (R.any::R.any::rP 1::rP 2::rP 3::q8U) [9,10] (raO 55 4) (rbO 55 4) Go.LoopState.ready none)),(1,B.blk 28 [C.nils]),(2,B.blk 3 [dI b2]),(3,B.blk 4 [dB b3]),(4,B.blk 30 [dI qgZ,dI v_N,dI qoI,dL 2 qe qoJ,dL 5 qg v_L])]=(q3G b2 b3 (qb.mk qgZ v_N qoI qoJ v_L)).bind (Sum.elim (fun(e:Int)=>some (R.tup [],[(0,B.ob (AO.lp 55 (R.any::R.any::rP 1::rP 2::rP 3::q8U) [9,10] (raO 55 4) (rbO 55 4) Go.LoopState.done (some Go.Code.ret))),(1,B.blk 28 [C.nils]),(2,B.blk 3 [dI e]),(3,B.blk 4 [dB Bool.false]),(4,B.blk 30 [dI qgZ,dI v_N,dI qoI,dL 2 qe qoJ,dL 5 qg v_L])])) (fun(e:List qb×Int×Bool)=>some (R.tup [],[(0,B.ob (AO.lp 55 (R.any::R.any::rP 1::rP 2::rP 3::q8U) [9,10] (raO 55 4) (rbO 55 4) Go.LoopState.ready none)),(1,B.blk 28 [dO 5 5 e.1.length]),(2,B.blk 3 [dI e.2.1]),(3,B.blk 4 [dB e.2.2]),(4,B.blk 30 [dI qgZ,dI v_N,dI qoI,dL 2 qe qoJ,dL 5 qg v_L]),(5,bR 30 5 qg e.1)]))):=
 fun b2 b3 qgZ v_N qoI qoJ v_L=>by
  rw[zc qEZ qGl.2.2.2 qJV]
  have:=qJE;have:=@qea;have:=@q3G.eq_1;exact gA
noncomputable def q3s (n:qb):Option (List qb×Int×Bool):=Option.bind (q3G 0 Bool.false n) fun(a:Sum Int (Prod (List qb) (Prod Int Bool)))=>Sum.elim (fun(a2:Int)=>some ([],a2,Bool.false)) (fun(a3:Prod (List qb) (Prod Int Bool))=>some (a3.1,a3.2.1,Bool.true)) a
theorem q8J:∀(qi n_N qs:Int) (qx:List qc) (n_L:List qb),ev 55 0 [R.agg [dI qi,dI n_N,dI qs,dL 2 qe qx,dL 5 qg n_L]] []=(q3s (qb.mk qi n_N qs qx n_L)).bind (fun(e:List qb×Int×Bool)=>some (R.tup [rL 5 qg e.1,rI e.2.1,rB e.2.2],[])):=
 fun qi n_N qs qx n_L=>by
  rw[zc qzv qH3.2.2.2 qGX]
  have:=qCI;have:=@qdB;have:=@qb4;have:=@q3s.eq_1;have:=@qo3;exact gA
theorem qGi:okL 45 qiF:=zb (qh qBA) (by kernel_rfl) (by kernel_rfl)
def qGt:=JA_ @qiF.eq_1 (JA_ @Tryz.f45.eq_1 @qBA)
theorem qxR:lbO 45 3=qkT:=Q9 (qh qBA) rfl
theorem qy8:okL 45 qkT:=zB qGi (List.mem_of_getElem? (i:=0) (by kernel_rfl))
theorem qIT:okL 71 qnL:=zb (qh qEz) (by kernel_rfl) (by kernel_rfl)
def qHL:=JA_ @qnL.eq_1 (JA_ @Tryz.f71.eq_1 @qEz)
noncomputable def q6j (n:qb):Option Bool:=if(n.Kind != 3)=Bool.true then some (n.Kind != 4) else some Bool.false
noncomputable def q24 (n:qb):Bool:=if(n.Kind != 3)=Bool.true then n.Kind != 4 else Bool.false
theorem qds (n:qb):q6j n=some (q24 n):=by
 unfold q6j q24
 simp only[QZ]
theorem qem:∀(qi n_N qs:Int) (qx:List qc) (n_L:List qb),ev 71 0 [R.agg [dI qi,dI n_N,dI qs,dL 2 qe qx,dL 5 qg n_L]] []=some (rB (q24 (qb.mk qi n_N qs qx n_L)),[]):=
 fun qi n_N qs qx n_L=>by
  have h:ev 71 0 [R.agg [dI qi,dI n_N,dI qs,dL 2 qe qx,dL 5 qg n_L]] []=(q6j (qb.mk qi n_N qs qx n_L)).bind (fun(e:Bool)=>some (rB e,[])):=by
   rw[zc qEz qGA.2.2.2 qIT]
   have:=qHL;have:=@q6j.eq_1;exact gA
  rw[qds] at h
  exact h
theorem qFs:okL 72 qj4:=zb (qh qBC) (by kernel_rfl) (by kernel_rfl)
def qGD:=JA_ @qj4.eq_1 (JA_ @Tryz.f72.eq_1 @qBC)
theorem qyo:lbO 72 3=qor:=Q9 (qh qBC) rfl
theorem qyk:okL 72 qor:=zB qFs (List.mem_of_getElem? (i:=0) (by kernel_rfl))
noncomputable def Q6 (s:List qc):Option Unit:=if s.length≤Go.maxLen∧s.length*24≤140737488355328 then some () else none
theorem q1J:∀(s:List qc),ev 91 0 [rL 2 qe s] []=(Q6 s).bind (fun(e:Unit)=>some (rL 2 qe s,[])):=
 fun s=>by
  rw[qtd,qH0.2.2.2]
  have:=@Q6.eq_1;exact gA
noncomputable def Z0 (s:List qb):Option Unit:=if s.length≤Go.maxLen∧s.length*72≤140737488355328 then some () else none
theorem q2F:∀(s:List qb),ev 92 0 [rL 5 qg s] []=(Z0 s).bind (fun(e:Unit)=>some (rO 0 5 s.length,[(0,bR 30 5 qg s)])):=
 fun s=>by
  rw[qtd,qGm.2.2.2]
  have:=@Z0.eq_1;exact gA
noncomputable def Jq (x:qb):List R×List (Nat×B):=([R.agg [C.d (D.int .i64 x.Kind),C.d (D.int .i64 x.N),C.d (D.int .i64 x.Min),C.d (D.sl 2 x.Set.length (x.Set.flatMap qe)),C.d (D.sl 5 x.L.length (x.L.flatMap qg))]],[])
noncomputable def JP:qb→R×List (Nat×B):=fun(e:qb)=>(R.agg [C.d (D.int .i64 e.Kind),C.d (D.int .i64 e.N),C.d (D.int .i64 e.Min),C.d (D.sl 2 e.Set.length (e.Set.flatMap qe)),C.d (D.sl 5 e.L.length (e.L.flatMap qg))],[])
noncomputable def q0w (rF:qb→Option qb) (qi:Int) (n_N:Int) (qs:Int) (qx:List qc) (zn:Int) (q1w:Int) (zO:Int) (t15:Int):(List qb×Int)→Option ((List qb×Int)⊕(List qb))|(w1,t16)=>if t16<t15 then if 0≤t16∧t16<((w1.length:Nat):Int) then Option.bind w1[Int.toNat t16]? fun(a2:qb)=>Option.bind (rF a2) fun(a3:qb)=>if 0≤t16∧t16<((w1.length:Nat):Int) then if Int.toNat t16*5+5≤w1.length*5 then some (Sum.inl (List.set w1 (Int.toNat t16) a3,w64 (t16+1))) else none else none else none else some (Sum.inr w1)
theorem q9h (rE:Orc) (rF:qb→Option qb) (hF:∀y,rE (.fn 72) 0 (Jq y).1 (Jq y).2=(rF y).bind fun e=>some (JP e)) (hM:∀g k a G,g≠72→rE (.fn g) k a G=ev g k a G) (hR:∀g asg bd k a G,rE (.rd g asg bd) k a G=evr g asg bd k a G):∀(w1:List qb) (qi n_N qs:Int) (qx:List qc) (zn q1w zO t15 t16:Int) (qQ:Nat),qQ=w1.length→XL2 rE 72 0 3 ⟨[(1,rP 0),(2,rP 2),(14,rO 1 5 qQ),(15,rI t15),(16,rI t16)],[(0,B.blk 30 [dI qi,dI n_N,dI qs,dL 2 qe qx,dO 1 5 qQ]),(1,bR 30 5 qg w1),(2,B.blk 30 [dI zn,dI q1w,dI zO,C.nils,C.nils])],3,29⟩=(qX (q0w rF qi n_N qs qx zn q1w zO t15) (w1,t16)).bind (fun(e:List qb)=>some (Go.Exit.exit 0,⟨[(1,rP 0),(2,rP 2)],[(0,B.blk 30 [dI qi,dI n_N,dI qs,dL 2 qe qx,dO 1 5 e.length]),(1,bR 30 5 qg e),(2,B.blk 30 [dI zn,dI q1w,dI zO,C.nils,C.nils])],3,29⟩)):=
 by
 intro w1 qi n_N qs qx zn q1w zO t15 t16 qQ h0
 subst h0
 revert t16;revert w1;exact q6v qyo qyk (fun e=>by exact⟨_,rfl,fun h=>by cases h⟩) fun w1 t16=>by
  have hF':∀(qi n_N qs:Int) (qx:List qc) (n_L:List qb),rE (.fn 72) 0 [R.agg [dI qi,dI n_N,dI qs,dL 2 qe qx,dL 5 qg n_L]] []=(rF (qb.mk qi n_N qs qx n_L)).bind (fun e=>some (R.agg [dI e.Kind,dI e.N,dI e.Min,dL 2 qe e.Set,dL 5 qg e.L],[])):=fun qi n_N qs qx n_L=>hF (qb.mk qi n_N qs qx n_L)
  have:=qGD;have:=@qor.eq_1;have:=@q0w.eq_1;exact gA
noncomputable def q1n (rF:qb→Option qb):qb→Option qb|n=>Option.bind (Q6 n.Set) fun(a2:Unit)=>Option.bind (Z0 n.L) fun(a3:Unit)=>Option.bind (qX (q0w rF n.Kind n.N n.Min n.Set 0 0 0 ((n.L.length:Nat):Int)) (n.L,0)) fun(a4:List qb)=>some (qb.mk n.Kind n.N n.Min n.Set a4)
theorem q6A:q4u 72 0 Jq JP q1n:=by
 intro rE rF hF hM hR n
 show q78 rE 72 0 [R.agg [dI n.Kind,dI n.N,dI n.Min,dL 2 qe n.Set,dL 5 qg n.L]] []=_
 have hF':∀(qi n_N qs:Int) (qx:List qc) (n_L:List qb),rE (.fn 72) 0 [R.agg [dI qi,dI n_N,dI qs,dL 2 qe qx,dL 5 qg n_L]] []=(rF (qb.mk qi n_N qs qx n_L)).bind (fun e=>some (R.agg [dI e.Kind,dI e.N,dI e.Min,dL 2 qe e.Set,dL 5 qg e.L],[])):=fun qi n_N qs qx n_L=>hF (qb.mk qi n_N qs qx n_L)
 rw[q1R qBC qFs]
 have:=qGD;have:=@q1J;have:=@q2F;have:=q9h rE rF hF hM hR;have:=@q1n.eq_1;have:=@JP.eq_1;exact gA
theorem q40:∀x y,Jq x=Jq y→x=y:=by
 rintro⟨a_0,a_1,a_2,a_3,a_4⟩ ⟨b_0,b_1,b_2,b_3,b_4⟩ h
 simp only[Jq,Prod.mk.injEq,List.cons.injEq,R.c.injEq,R.agg.injEq,R.tup.injEq,C.d.injEq,C.own.injEq,C.ptr.injEq,C.eptr.injEq,D.int.injEq,D.bool.injEq,D.str.injEq,D.sl.injEq,B.blk.injEq,B.row.injEq,ZR,q0x,Je,Jm,q01,JX,JY,q1b,JV,q16,q18,ZS,true_and,and_true,List.nil_append] at h
 simp only[h]
theorem q9b:∀x y,JP x=JP y→x=y:=by
 rintro⟨a_0,a_1,a_2,a_3,a_4⟩ ⟨b_0,b_1,b_2,b_3,b_4⟩ h
 simp only[JP,Prod.mk.injEq,List.cons.injEq,R.c.injEq,R.agg.injEq,R.tup.injEq,C.d.injEq,C.own.injEq,C.ptr.injEq,C.eptr.injEq,D.int.injEq,D.bool.injEq,D.str.injEq,D.sl.injEq,B.blk.injEq,B.row.injEq,ZR,q0x,Je,Jm,q01,JX,JY,q1b,JV,q16,q18,ZS,true_and,and_true,List.nil_append] at h
 simp only[h]
noncomputable def q0c:qb→Option qb:=q5W 72 0 Jq JP
theorem qcb (x:qb):q0c x=q1n q0c x:=q6D qDn.2.2.2 q40 q9b q6A x
theorem qbs (n:qb):ev 72 0 [R.agg [dI n.Kind,dI n.N,dI n.Min,dL 2 qe n.Set,dL 5 qg n.L]] []=(q0c n).bind (fun(e:qb)=>some (R.agg [dI e.Kind,dI e.N,dI e.Min,dL 2 qe e.Set,dL 5 qg e.L],[])):=(q56 qDn.2.2.2 q40 q6A n)
theorem qc5:∀(qi n_N qs:Int) (qx:List qc) (n_L:List qb),ev 72 0 [R.agg [dI qi,dI n_N,dI qs,dL 2 qe qx,dL 5 qg n_L]] []=(q0c (qb.mk qi n_N qs qx n_L)).bind (fun(e:qb)=>some (R.agg [dI e.Kind,dI e.N,dI e.Min,dL 2 qe e.Set,dL 5 qg e.L],[])):=
 fun qi n_N qs qx n_L=>qbs (qb.mk qi n_N qs qx n_L)
noncomputable def Jd (t14:List qb) (t15:Int):(List qb×Int)→Option ((List qb×Int)⊕(List qb))|(leaves,t16)=>if t16<t15 then if 0≤t16∧t16<((t14.length:Nat):Int) then Option.bind t14[Int.toNat t16]? fun(a:qb)=>if q24 a=Bool.true then Option.bind (q0c a) fun(a2:qb)=>if leaves.length+1≤Go.maxLen∧(leaves.length+1)*72≤140737488355328 then some (Sum.inl (leaves++[a2],w64 (t16+1))) else none else some (Sum.inl (leaves,w64 (t16+1))) else none else some (Sum.inr leaves)
theorem q8T:∀(leaves t14:List qb) (t15 t16:Int) (qbu:Nat),qbu=leaves.length→XL2 evo 45 0 3 ⟨[(2,rO 0 5 qbu),(14,rL 5 qg t14),(15,rI t15),(16,rI t16)],[(0,bR 30 5 qg leaves)],1,29⟩=(qX (Jd t14 t15) (leaves,t16)).bind (fun(e:List qb)=>some (Go.Exit.exit 0,⟨[(2,rO 0 5 e.length)],[(0,bR 30 5 qg e)],1,29⟩)):=
 by
 intro leaves t14 t15 t16 qbu h0
 subst h0
 revert t16;revert leaves;exact q6v qxR qy8 (fun e=>by exact⟨_,rfl,fun h=>by cases h⟩) fun leaves t16=>by
  have:=qGt;have:=@qkT.eq_1;have:=@qem;have:=@qc5;have:=@Jd.eq_1;exact gA
theorem q6R:∀  (t14:List qb) (t15 t16:Int),XL2 evo 45 0 3 ⟨[(2,rO 0 5 0),(14,rL 5 qg t14),(15,rI t15),(16,rI t16)],[(0,B.row 30 5 [])],1,29⟩=(qX (Jd t14 t15) ([],t16)).bind (fun(e:List qb)=>some (Go.Exit.exit 0,⟨[(2,rO 0 5 e.length)],[(0,bR 30 5 qg e)],1,29⟩)):=by
 intro t14 t15 t16;have h:=q8T [] t14 t15 t16 _ rfl
 first
  | exact h
  | (simp only[rL,dL,bR,bZ,Nat.reduceAdd] at h;exact h)
noncomputable def q1S (n:qb):Option (List qb):=Option.bind (q3s n) fun(a:Prod (List qb) (Prod Int Bool))=>Option.bind (qX (Jd a.1 ((a.1.length:Nat):Int)) ([],0)) fun(a2:List qb)=>some a2
theorem q6x:∀(qi n_N qs:Int) (qx:List qc) (n_L:List qb),ev 45 0 [R.agg [dI qi,dI n_N,dI qs,dL 2 qe qx,dL 5 qg n_L]] []=(q1S (qb.mk qi n_N qs qx n_L)).bind (fun(e:List qb)=>some (rL 5 qg e,[])):=
 fun qi n_N qs qx n_L=>by
  rw[zc qBA qH6.2.2.2 qGi]
  have:=qGt;have:=@q8J;have:=@q6R;have:=@q1S.eq_1;exact gA
theorem qKk:okL 56 qmL:=zb (qh qEg) (by kernel_rfl) (by kernel_rfl)
def qJr:=JA_ @qmL.eq_1 (JA_ @Tryz.f56.eq_1 @qEg)
noncomputable def q4b (n:Int) (low:Int) (high:Int):Option Bool:=if low≤n then some (decide (n≤high)) else some Bool.false
noncomputable def QH (n:Int) (low:Int) (high:Int):Bool:=if low≤n then decide (n≤high) else Bool.false
theorem qbd (n low high:Int):q4b n low high=some (QH n low high):=by
 unfold q4b QH
 simp only[QZ]
theorem q1a:∀(n low high:Int),ev 56 0 [rI n,rI low,rI high] []=some (rB (QH n low high),[]):=
 fun n low high=>by
  have h:ev 56 0 [rI n,rI low,rI high] []=(q4b n low high).bind (fun(e:Bool)=>some (rB e,[])):=by
   rw[zc qEg qFS.2.2.2 qKk]
   have:=qJr;have:=@q4b.eq_1;exact gA
  rw[qbd] at h
  exact h
theorem qHt:okL 57 qna:=zb (qh qEG) (by kernel_rfl) (by kernel_rfl)
def qJH:=JA_ @qna.eq_1 (JA_ @Tryz.f57.eq_1 @qEG)
theorem qcY:ev 57 0 [] []=some (R.c (C.hd HK.map 0),[(0,B.ob (@AO.mp [(Go.Value.int Go.IntKind.i64 1,(R.agg [C.fn 80 [] []],0)),(Go.Value.int Go.IntKind.i64 2,(R.agg [C.fn 82 [] []],1)),(Go.Value.int Go.IntKind.i64 3,(R.agg [C.fn 83 [] [dP 1]],2)),(Go.Value.int Go.IntKind.i64 4,(R.agg [C.fn 84 [] [dP 1]],3))] 4)),(1,B.blk 83 [C.fn 79 [] []])]):=
 by
  rw[zc qEG qGB.2.2.2 qHt]
  have:=qJH;exact gA
theorem qJK:okL 80 qnh:=zb (qh qDY) (by kernel_rfl) (by kernel_rfl)
def qJy:=JA_ @qnh.eq_1 (JA_ @Tryz.f80.eq_1 @qDY)
theorem qHd:okL 81 qip:=zb (qh qBp) (by kernel_rfl) (by kernel_rfl)
def qFZ:=JA_ @qip.eq_1 (JA_ @Tryz.f81.eq_1 @qBp)
theorem qxb:lbO 81 7=qoi:=Q9 (qh qBp) rfl
theorem qye:okL 81 qoi:=zB qHd (List.mem_of_getElem? (i:=0) (by kernel_rfl))
theorem qKn:okL 96 qlx:=zb (qh qEY) (by kernel_rfl) (by kernel_rfl)
def qHD:=JA_ @qlx.eq_1 (JA_ @Tryz.f96.eq_1 @qEY)
theorem qyr:okL 103 qfb:=zb (qh qqj) (by kernel_rfl) (by kernel_rfl)
def qvU:=JA_ @qfb.eq_1 (JA_ @Tryz.f103.eq_1 @qqj)
theorem qsy:lbO 103 2=qho:=Q9 (qh qqj) rfl
theorem qt0:okL 103 qho:=zB qyr (List.mem_of_getElem? (i:=0) (by kernel_rfl))
theorem qKd:okL 97 ql4:=zb (qh qCp) (by kernel_rfl) (by kernel_rfl)
def qJR:=JA_ @ql4.eq_1 (JA_ @Tryz.f97.eq_1 @qCp)
theorem qID:okL 98 qlT:=zb (qh qD6) (by kernel_rfl) (by kernel_rfl)
def qHB:=JA_ @qlT.eq_1 (JA_ @Tryz.f98.eq_1 @qD6)
theorem qCf:okL 104 qhm:=zb (qh qsE) (by kernel_rfl) (by kernel_rfl)
def qEJ:=JA_ @qhm.eq_1 (JA_ @Tryz.f104.eq_1 @qsE)
theorem qCU:okL 109 qhf:=zb (qh qtS) (by kernel_rfl) (by kernel_rfl)
def qDw:=JA_ @qhf.eq_1 (JA_ @Tryz.f109.eq_1 @qtS)
theorem qzD:okL 112 qfN:=zb (qh qpO) (by kernel_rfl) (by kernel_rfl)
def qAL:=JA_ @qfN.eq_1 (JA_ @Tryz.f112.eq_1 @qpO)
theorem quX:lbO 112 2=qh4:=Q9 (qh qpO) rfl
theorem quZ:okL 112 qh4:=zB qzD (List.mem_of_getElem? (i:=0) (by kernel_rfl))
theorem qDa:okL 108 qi0:=zb (qh qtb) (by kernel_rfl) (by kernel_rfl)
def qDx:=JA_ @qi0.eq_1 (JA_ @Tryz.f108.eq_1 @qtb)
noncomputable def q2Y (c:Int):Option Bool:=if c<65 then if c<48 then some Bool.true else some (decide (57<c)) else if 90<c then if c<48 then some Bool.true else some (decide (57<c)) else some Bool.false
noncomputable def ZI (c:Int):Bool:=if c<65 then if c<48 then Bool.true else decide (57<c) else if 90<c then if c<48 then Bool.true else decide (57<c) else Bool.false
theorem q8X (c:Int):q2Y c=some (ZI c):=by
 unfold q2Y ZI
 simp only[QZ]
theorem q9L:∀(c:Int),ev 108 0 [R.c (C.d (D.int .i32 c))] []=some (rB (ZI c),[]):=
 fun c=>by
  have h:ev 108 0 [R.c (C.d (D.int .i32 c))] []=(q2Y c).bind (fun(e:Bool)=>some (rB e,[])):=by
   rw[zc qtb qz9.2.2.2 qDa]
   have:=qDx;have:=@q2Y.eq_1;exact gA
  rw[q8X] at h
  exact h
noncomputable def Ql (it0_s:ByteArray) (truth:Bool):Nat→Option (Nat⊕(Int⊕Unit))|it0_p=>if it0_p<ByteArray.size it0_s then if(ZI (((@Go.Utf8.decode it0_s it0_p).1:Nat):Int)==truth)=Bool.true then some (Sum.inr (Sum.inl ((it0_p:Nat):Int))) else some (Sum.inl (it0_p+(@Go.Utf8.decode it0_s it0_p).2)) else some (Sum.inr (Sum.inr ()))
theorem q5o:∀(it0_s:ByteArray) (it0_p:Nat) (truth:Bool),XL2 evo 112 0 2 ⟨[(1,R.c (C.fn 108 [] [])),(2,rB truth),(10,R.c (C.hd .iter 0))],[(0,B.ob (AO.si it0_s it0_p))],1,21⟩=(qX (Ql it0_s truth) it0_p).bind (Sum.elim (fun(e:Int)=>some (Go.Exit.ret,⟨[(6,rI e)],[],0,21⟩)) (fun(e:Unit)=>some (Go.Exit.exit 0,⟨[(6,R.any)],[],0,21⟩))):=
 fun it0_s it0_p truth=>by
  revert it0_p;exact qaQ quX quZ (fun e=>by rcases e with _|_<;>exact⟨_,rfl,fun h=>by cases h⟩) fun x=>by
   have:=qAL;have:=@qh4.eq_1;have:=@q9L;have:=@Ql.eq_1;exact gA
noncomputable def q15 (s:ByteArray) (truth:Bool):Option Int:=Option.bind (qX (Ql s truth) 0) fun(a:Sum Int Unit)=>Sum.elim (fun(a2:Int)=>some a2) (fun(a3:Unit)=>some (-1)) a
theorem q6T:∀(s:ByteArray) (truth:Bool),ev 112 0 [rS s,R.c (C.fn 108 [] []),rB truth] []=(q15 s truth).bind (fun(e:Int)=>some (rI e,[])):=
 fun s truth=>by
  rw[zc qpO qx5.2.2.2 qzD]
  have:=qAL;have:=@q5o;have:=@q15.eq_1;exact gA
noncomputable def q11 (s:ByteArray):Option Int:=Option.bind (q15 s Bool.true) fun(e0:Int)=>some e0
theorem q6S:∀(s:ByteArray),ev 109 0 [rS s,R.c (C.fn 108 [] [])] []=(q11 s).bind (fun(e:Int)=>some (rI e,[])):=
 fun s=>by
  rw[zc qtS qyg.2.2.2 qCU]
  have:=qDw;have:=@q6T;have:=@q11.eq_1;exact gA
noncomputable def q2U (s:ByteArray):Option Bool:=if(!(ByteArray.toList s==ByteArray.toList (ByteArray.mk (List.toArray []))))=Bool.true then if((ByteArray.size s:Nat):Int)≤8 then Option.bind (q11 s) fun(a:Int)=>some (decide (a<0)) else some Bool.false else some Bool.false
theorem qbV:∀(s:ByteArray),ev 104 0 [rS s] []=(q2U s).bind (fun(e:Bool)=>some (rB e,[])):=
 fun s=>by
  rw[zc qsE qze.2.2.2 qCf]
  have:=qEJ;have:=@q6S;have:=@q2U.eq_1;exact gA
noncomputable def q3O (c:qc):Option Bool:=if QH c.School 1 8=Bool.true then Option.bind (q2U c.Code) fun(e0:Bool)=>some e0 else some Bool.false
theorem qdq:∀(q0N:Int) (q42:ByteArray),ev 98 0 [R.agg [dI q0N,dS q42]] []=(q3O (qc.mk q0N q42)).bind (fun(e:Bool)=>some (rB e,[])):=
 fun q0N q42=>by
  rw[zc qD6 qGH.2.2.2 qID]
  have:=qHB;have:=@q1a;have:=@qbV;have:=@q3O.eq_1;exact gA
noncomputable def q2z (c:qc):Option Bool:=Option.bind (q3O c) fun(a:Bool)=>some (!a)
theorem q8S:∀(q0N:Int) (q42:ByteArray),ev 97 0 [R.agg [dI q0N,dS q42]] []=(q2z (qc.mk q0N q42)).bind (fun(e:Bool)=>some (rB e,[])):=
 fun q0N q42=>by
  rw[zc qCp qGI.2.2.2 qKd]
  have:=qJR;have:=@qdq;have:=@q2z.eq_1;exact gA
noncomputable def zy (s:List qc) (t7:Int):Int→Option (Int⊕(Int⊕Unit))|t8=>if t8<t7 then if 0≤t8∧t8<((s.length:Nat):Int) then Option.bind s[Int.toNat t8]? fun(a:qc)=>Option.bind (q2z a) fun(a2:Bool)=>if a2=Bool.true then some (Sum.inr (Sum.inl t8)) else some (Sum.inl (w64 (t8+1))) else none else some (Sum.inr (Sum.inr ()))
theorem q0J:∀(s:List qc) (t7 t8:Int),XL2 evo 103 0 2 ⟨[(0,rL 2 qe s),(1,R.c (C.fn 97 [] [])),(7,rI t7),(8,rI t8)],[],0,19⟩=(qX (zy s t7) t8).bind (Sum.elim (fun(e:Int)=>some (Go.Exit.ret,⟨[(4,rI e)],[],0,19⟩)) (fun(e:Unit)=>some (Go.Exit.exit 0,⟨[(4,R.any)],[],0,19⟩))):=
 fun s t7 t8=>by
  revert t8;exact qaQ qsy qt0 (fun e=>by rcases e with _|_<;>exact⟨_,rfl,fun h=>by cases h⟩) fun x=>by
   have:=qvU;have:=@qho.eq_1;have:=@q8S;have:=@zy.eq_1;exact gA
noncomputable def Qc (s:List qc):Option Int:=Option.bind (qX (zy s ((s.length:Nat):Int)) 0) fun(a:Sum Int Unit)=>Sum.elim (fun(a2:Int)=>some a2) (fun(a3:Unit)=>some (-1)) a
theorem q13:∀(s:List qc),ev 103 0 [rL 2 qe s,R.c (C.fn 97 [] [])] []=(Qc s).bind (fun(e:Int)=>some (rI e,[])):=
 fun s=>by
  rw[zc qqj qAE.2.2.2 qyr]
  have:=qvU;have:=@q0J;have:=@Qc.eq_1;exact gA
noncomputable def zG (s:List qc):Option Bool:=Option.bind (Qc s) fun(a:Int)=>some (decide (0≤a))
theorem q0I:∀(s:List qc),ev 96 0 [rL 2 qe s,R.c (C.fn 97 [] [])] []=(zG s).bind (fun(e:Bool)=>some (rB e,[])):=
 fun s=>by
  rw[zc qEY qGu.2.2.2 qKn]
  have:=qHD;have:=@q13;have:=@zG.eq_1;exact gA
theorem qJP:okL 99 qo6:=zb (qh qDE) (by kernel_rfl) (by kernel_rfl)
def qJu:=JA_ @qo6.eq_1 (JA_ @Tryz.f99.eq_1 @qDE)
theorem qCb:okL 106 qhs:=zb (qh qsw) (by kernel_rfl) (by kernel_rfl)
def qDk:=JA_ @qhs.eq_1 (JA_ @Tryz.f106.eq_1 @qsw)
theorem qCH:okL 110 qhy:=zb (qh qsY) (by kernel_rfl) (by kernel_rfl)
def qDF:=JA_ @qhy.eq_1 (JA_ @Tryz.f110.eq_1 @qsY)
noncomputable def q2Q (x:Int):Option Bool:=
 some (x != x)
noncomputable def QM (x:Int):Bool:=
 x != x
theorem q9j (x:Int):q2Q x=some (QM x):=by
 unfold q2Q QM
 simp only[QZ]
theorem q9y:∀(x:Int),ev 110 0 [rI x] []=some (rB (QM x),[]):=
 fun x=>by
  have h:ev 110 0 [rI x] []=(q2Q x).bind (fun(e:Bool)=>some (rB e,[])):=by
   rw[zc qsY qwF.2.2.2 qCH]
   have:=qDF;have:=@q2Q.eq_1;exact gA
  rw[q9j] at h
  exact h
noncomputable def q23 (x:Int) (y:Int):Option Int:=if QM x=Bool.true then if QM y=Bool.true then some 0 else some (-1) else if QM y=Bool.true then some 1 else if x<y then some (-1) else if y<x then some 1 else some 0
noncomputable def Jn (x:Int) (y:Int):Int:=if QM x=Bool.true then if QM y=Bool.true then 0 else(-1) else if QM y=Bool.true then 1 else if x<y then(-1) else if y<x then 1 else 0
theorem q7E (x y:Int):q23 x y=some (Jn x y):=by
 unfold q23 Jn
 simp only[QZ]
theorem q8r:∀(x y:Int),ev 106 0 [rI x,rI y] []=some (rI (Jn x y),[]):=
 fun x y=>by
  have h:ev 106 0 [rI x,rI y] []=(q23 x y).bind (fun(e:Int)=>some (rI e,[])):=by
   rw[zc qsw qxP.2.2.2 qCb]
   have:=qDk;have:=@q9y;have:=@q23.eq_1;exact gA
  rw[q7E] at h
  exact h
theorem qCq:okL 107 qhY:=zb (qh qvk) (by kernel_rfl) (by kernel_rfl)
def qE4:=JA_ @qhY.eq_1 (JA_ @Tryz.f107.eq_1 @qvk)
theorem qDq:okL 111 qhd:=zb (qh qtF) (by kernel_rfl) (by kernel_rfl)
def qCl:=JA_ @qhd.eq_1 (JA_ @Tryz.f111.eq_1 @qtF)
noncomputable def q1o (x:ByteArray):Option Unit:=
 some ()
noncomputable def q3Y (x:ByteArray):Unit:=
 ()
theorem q6O (x:ByteArray):q1o x=some (q3Y x):=by
 unfold q1o q3Y
 simp only[QZ]
theorem q7P:∀(x:ByteArray),ev 111 0 [rS x] []=some (rB Bool.false,[]):=
 fun x=>by
  have h:ev 111 0 [rS x] []=(q1o x).bind (fun(e:Unit)=>some (rB Bool.false,[])):=by
   rw[zc qtF qvV.2.2.2 qDq]
   have:=qCl;have:=@q1o.eq_1;exact gA
  rw[q6O] at h
  exact h
noncomputable def q0L (x:ByteArray) (y:ByteArray):Option Int:=if Go.Op.bytesLess (ByteArray.toList x) (ByteArray.toList y)=Bool.true then some (-1) else if(!(Go.Op.bytesLess (ByteArray.toList x) (ByteArray.toList y)||ByteArray.toList x==ByteArray.toList y))=Bool.true then some 1 else some 0
noncomputable def Zm (x:ByteArray) (y:ByteArray):Int:=if Go.Op.bytesLess (ByteArray.toList x) (ByteArray.toList y)=Bool.true then(-1) else if(!(Go.Op.bytesLess (ByteArray.toList x) (ByteArray.toList y)||ByteArray.toList x==ByteArray.toList y))=Bool.true then 1 else 0
theorem q5C (x y:ByteArray):q0L x y=some (Zm x y):=by
 unfold q0L Zm
 simp only[QZ]
theorem q66:∀(x y:ByteArray),ev 107 0 [rS x,rS y] []=some (rI (Zm x y),[]):=
 fun x y=>by
  have h:ev 107 0 [rS x,rS y] []=(q0L x y).bind (fun(e:Int)=>some (rI e,[])):=by
   rw[zc qvk qAh.2.2.2 qCq]
   have:=qE4;have:=@q7P;have:=@q0L.eq_1;exact gA
  rw[q5C] at h
  exact h
theorem qwz:okL 105 qfJ:=zb (qh qpY) (by kernel_rfl) (by kernel_rfl)
def qyj:=JA_ @qfJ.eq_1 (JA_ @Tryz.f105.eq_1 @qpY)
theorem qsF:lbO 105 3=qhc:=Q9 (qh qpY) rfl
theorem qsc:okL 105 qhc:=zB qwz (List.mem_of_getElem? (i:=0) (by kernel_rfl))
noncomputable def J1 (zero:Int) (t6:List Int) (t7:Int):Int→Option (Int⊕(Int⊕Unit))|t8=>if t8<t7 then if 0≤t8∧t8<((t6.length:Nat):Int) then Option.bind t6[Int.toNat t8]? fun(a:Int)=>if(a != zero)=Bool.true then some (Sum.inr (Sum.inl a)) else some (Sum.inl (w64 (t8+1))) else none else some (Sum.inr (Sum.inr ()))
theorem q9G:∀(zero:Int) (t6:List Int) (t7 t8:Int),XL2 evo 105 0 3 ⟨[(3,rI zero),(6,rL 1 eI t6),(7,rI t7),(8,rI t8)],[],0,18⟩=(qX (J1 zero t6 t7) t8).bind (Sum.elim (fun(e:Int)=>some (Go.Exit.ret,⟨[(2,rI e),(3,rI zero)],[],0,18⟩)) (fun(e:Unit)=>some (Go.Exit.exit 0,⟨[(2,R.any),(3,rI zero)],[],0,18⟩))):=
 fun zero t6 t7 t8=>by
  revert t8;exact qaQ qsF qsc (fun e=>by rcases e with _|_<;>exact⟨_,rfl,fun h=>by cases h⟩) fun x=>by
   have:=qyj;have:=@qhc.eq_1;have:=@J1.eq_1;exact gA
noncomputable def q2I (vals:List Int):Option Int:=Option.bind (qX (J1 0 vals ((vals.length:Nat):Int)) 0) fun(a:Sum Int Unit)=>Sum.elim (fun(a2:Int)=>some a2) (fun(a3:Unit)=>some 0) a
theorem qdh:∀(vals:List Int),ev 105 0 [rL 1 eI vals] []=(q2I vals).bind (fun(e:Int)=>some (rI e,[])):=
 fun vals=>by
  rw[zc qpY qx1.2.2.2 qwz]
  have:=qyj;have:=@q9G;have:=@q2I.eq_1;exact gA
theorem q9I:∀(vals0 vals1:Int) , ev 105 0 [R.c (C.d (D.sl 1 2 [D.int .i64 vals0,D.int .i64 vals1]))] []=(q2I [vals0,vals1]).bind (fun(e:Int)=>some (rI e,[])):=by
 intro vals0 vals1;have h:=qdh [vals0,vals1]
 first
  | exact h
  | (simp only[rL,dL,bR,bZ,Nat.reduceAdd] at h;exact h)
noncomputable def q2l (a:qc) (b:qc):Option Int:=Option.bind (q2I [Jn a.School b.School,Zm a.Code b.Code]) fun(e0:Int)=>some e0
theorem qbh:∀(q0B:Int) (q3P:ByteArray) (q4e:Int) (qar:ByteArray),ev 99 0 [R.agg [dI q0B,dS q3P],R.agg [dI q4e,dS qar]] []=(q2l (qc.mk q0B q3P) (qc.mk q4e qar)).bind (fun(e:Int)=>some (rI e,[])):=
 fun q0B q3P q4e qar=>by
  rw[zc qDE qGW.2.2.2 qJP]
  have:=qJu;have:=@q8r;have:=@q66;have:=@q9I;have:=@q2l.eq_1;exact gA
noncomputable def ZK (n:qb) (t22:List qc) (t23:Int):Int→Option (Int⊕(Unit⊕Unit))|t24=>if t24<t23 then if 0≤t24∧t24<((t22.length:Nat):Int) then Option.bind t22[Int.toNat t24]? fun(a:qc)=>if 0<t24 then if 0≤w64 (t24-1)∧w64 (t24-1)<((n.Set.length:Nat):Int) then Option.bind n.Set[Int.toNat (w64 (t24-1))]? fun(a2:qc)=>Option.bind (q2l a2 a) fun(a3:Int)=>if 0≤a3 then some (Sum.inr (Sum.inl ())) else some (Sum.inl (w64 (t24+1))) else none else some (Sum.inl (w64 (t24+1))) else none else some (Sum.inr (Sum.inr ()))
theorem q8i:∀(qi n_N qs:Int) (qx:List qc) (n_L:List qb) (t22:List qc) (t23 t24:Int),XL2 evo 81 0 7 ⟨[(1,rP 0),(22,rL 2 qe t22),(23,rI t23),(24,rI t24)],[(0,B.blk 30 [dI qi,dI n_N,dI qs,dL 2 qe qx,dL 5 qg n_L])],1,43⟩=(qX (ZK (qb.mk qi n_N qs qx n_L) t22 t23) t24).bind (Sum.elim (fun(e:Unit)=>some (Go.Exit.ret,⟨[(2,rI 7)],[],0,43⟩)) (fun(e:Unit)=>some (Go.Exit.exit 1,⟨[(2,R.any)],[],0,43⟩))):=
 fun qi n_N qs qx n_L t22 t23 t24=>by
  revert t24;exact qaQ qxb qye (fun e=>by rcases e with _|_<;>exact⟨_,rfl,fun h=>by cases h⟩) fun x=>by
   have:=qFZ;have:=@qoi.eq_1;have:=@qbh;have:=@ZK.eq_1;exact gA
noncomputable def q1k (n:qb):Option Int:=if(!(QH n.Min (-1000) 1000))=Bool.true then some 3 else if(!(QH ((n.Set.length:Nat):Int) 1 12))=Bool.true then some 2 else Option.bind (zG n.Set) fun(a:Bool)=>if(!a)=Bool.true then Option.bind (qX (ZK n n.Set ((n.Set.length:Nat):Int)) 0) fun(a2:Sum Unit Unit)=>Sum.elim (fun(a3:Unit)=>some 7) (fun(a4:Unit)=>some 0) a2 else some 1
theorem q5E:∀(qi n_N qs:Int) (qx:List qc) (n_L:List qb),ev 81 0 [R.agg [dI qi,dI n_N,dI qs,dL 2 qe qx,dL 5 qg n_L]] []=(q1k (qb.mk qi n_N qs qx n_L)).bind (fun(e:Int)=>some (rI e,[])):=
 fun qi n_N qs qx n_L=>by
  rw[zc qBp qFF.2.2.2 qHd]
  have:=qFZ;have:=@q1a;have:=@q0I;have:=@q8i;have:=@q1k.eq_1;exact gA
noncomputable def q2n (n:qb):Option Int:=if(n.N != 0)=Bool.true then some 13 else if 0<((n.L.length:Nat):Int) then some 13 else Option.bind (q1k n) fun(e0:Int)=>some e0
theorem qaX:∀(qi n_N qs:Int) (qx:List qc) (n_L:List qb),ev 80 0 [R.agg [dI qi,dI n_N,dI qs,dL 2 qe qx,dL 5 qg n_L]] []=(q2n (qb.mk qi n_N qs qx n_L)).bind (fun(e:Int)=>some (rI e,[])):=
 fun qi n_N qs qx n_L=>by
  rw[zc qDY qFp.2.2.2 qJK]
  have:=qJy;have:=@q5E;have:=@q2n.eq_1;exact gA
theorem qHI:okL 82 qm3:=zb (qh qDU) (by kernel_rfl) (by kernel_rfl)
def qKr:=JA_ @qm3.eq_1 (JA_ @Tryz.f82.eq_1 @qDU)
noncomputable def q2k (n:qb):Option Int:=if 0<((n.L.length:Nat):Int) then some 13 else if(!(QH n.N 1 600))=Bool.true then some 3 else Option.bind (q1k n) fun(e0:Int)=>some e0
theorem qbi:∀(qi n_N qs:Int) (qx:List qc) (n_L:List qb),ev 82 0 [R.agg [dI qi,dI n_N,dI qs,dL 2 qe qx,dL 5 qg n_L]] []=(q2k (qb.mk qi n_N qs qx n_L)).bind (fun(e:Int)=>some (rI e,[])):=
 fun qi n_N qs qx n_L=>by
  rw[zc qDU qFP.2.2.2 qHI]
  have:=qKr;have:=@q1a;have:=@q5E;have:=@q2k.eq_1;exact gA
theorem qIh:okL 83 qmm:=zb (qh qC0) (by kernel_rfl) (by kernel_rfl)
def qHN:=JA_ @qmm.eq_1 (JA_ @Tryz.f83.eq_1 @qC0)
theorem qJ8:okL 79 ql0:=zb (qh qCG) (by kernel_rfl) (by kernel_rfl)
def qJM:=JA_ @ql0.eq_1 (JA_ @Tryz.f79.eq_1 @qCG)
noncomputable def q3z (n:qb):Option Bool:=if(n.Min==0)=Bool.true then if(((n.Set.length:Nat):Int)==0)=Bool.true then some (decide (0<((n.L.length:Nat):Int))) else some Bool.false else some Bool.false
noncomputable def Zv (n:qb):Bool:=if(n.Min==0)=Bool.true then if(((n.Set.length:Nat):Int)==0)=Bool.true then decide (0<((n.L.length:Nat):Int)) else Bool.false else Bool.false
theorem qac (n:qb):q3z n=some (Zv n):=by
 unfold q3z Zv
 simp only[QZ]
theorem q5J:∀(qi n_N qs:Int) (qx:List qc) (n_L:List qb),ev 79 0 [R.agg [dI qi,dI n_N,dI qs,dL 2 qe qx,dL 5 qg n_L]] []=some (rB (Zv (qb.mk qi n_N qs qx n_L)),[]):=
 fun qi n_N qs qx n_L=>by
  have h:ev 79 0 [R.agg [dI qi,dI n_N,dI qs,dL 2 qe qx,dL 5 qg n_L]] []=(q3z (qb.mk qi n_N qs qx n_L)).bind (fun(e:Bool)=>some (rB e,[])):=by
   rw[zc qCG qGw.2.2.2 qJ8]
   have:=qJM;have:=@q3z.eq_1;exact gA
  rw[qac] at h
  exact h
noncomputable def q3w (n:qb):Option Int:=if(!(Zv n))=Bool.true then some 13 else if(n.N != 0)=Bool.true then some 13 else some 0
noncomputable def JT (n:qb):Int:=if(!(Zv n))=Bool.true then 13 else if(n.N != 0)=Bool.true then 13 else 0
theorem qal (n:qb):q3w n=some (JT n):=by
 unfold q3w JT
 simp only[QZ]
theorem qaY:∀(qi n_N qs:Int) (qx:List qc) (n_L:List qb),ev 83 1 [R.agg [dI qi,dI n_N,dI qs,dL 2 qe qx,dL 5 qg n_L],rP 0] [(0,B.blk 83 [C.fn 79 [] []])]=some (rI (JT (qb.mk qi n_N qs qx n_L)),[(0,B.blk 83 [C.fn 79 [] []])]):=
 fun qi n_N qs qx n_L=>by
  have h:ev 83 1 [R.agg [dI qi,dI n_N,dI qs,dL 2 qe qx,dL 5 qg n_L],rP 0] [(0,B.blk 83 [C.fn 79 [] []])]=(q3w (qb.mk qi n_N qs qx n_L)).bind (fun(e:Int)=>some (rI e,[(0,B.blk 83 [C.fn 79 [] []])])):=by
   rw[zc qC0 qFR.2.2.2 qIh]
   have:=qHN;have:=@q5J;have:=@q3w.eq_1;exact gA
  rw[qal] at h
  exact h
theorem qIi:okL 84 qkW:=zb (qh qEi) (by kernel_rfl) (by kernel_rfl)
def qHY:=JA_ @qkW.eq_1 (JA_ @Tryz.f84.eq_1 @qEi)
noncomputable def q3C (n:qb):Option Int:=if(!(Zv n))=Bool.true then some 13 else if(!(QH n.N 1 ((n.L.length:Nat):Int)))=Bool.true then some 3 else some 0
noncomputable def q00 (n:qb):Int:=if(!(Zv n))=Bool.true then 13 else if(!(QH n.N 1 ((n.L.length:Nat):Int)))=Bool.true then 3 else 0
theorem qab (n:qb):q3C n=some (q00 n):=by
 unfold q3C q00
 simp only[QZ]
theorem qbg:∀(qi n_N qs:Int) (qx:List qc) (n_L:List qb),ev 84 1 [R.agg [dI qi,dI n_N,dI qs,dL 2 qe qx,dL 5 qg n_L],rP 0] [(0,B.blk 83 [C.fn 79 [] []])]=some (rI (q00 (qb.mk qi n_N qs qx n_L)),[(0,B.blk 83 [C.fn 79 [] []])]):=
 fun qi n_N qs qx n_L=>by
  have h:ev 84 1 [R.agg [dI qi,dI n_N,dI qs,dL 2 qe qx,dL 5 qg n_L],rP 0] [(0,B.blk 83 [C.fn 79 [] []])]=(q3C (qb.mk qi n_N qs qx n_L)).bind (fun(e:Int)=>some (rI e,[(0,B.blk 83 [C.fn 79 [] []])])):=by
   rw[zc qEi qFn.2.2.2 qIi]
   have:=qHY;have:=@q5J;have:=@q1a;have:=@q3C.eq_1;exact gA
  rw[qab] at h
  exact h
noncomputable def q0m (t37:List qb) (t38:Int):Int→Option (Int⊕(Int⊕Unit))|t39=>if t39<t38 then if 0≤t39∧t39<((t37.length:Nat):Int) then Option.bind t37[Int.toNat t39]? fun(a:qb)=>if a.Kind=1 then Option.bind (q2n a) fun(a2:Int)=>if(a2 != 0)=Bool.true then some (Sum.inr (Sum.inl a2)) else some (Sum.inl (w64 (t39+1))) else if a.Kind=2 then Option.bind (q2k a) fun(a3:Int)=>if(a3 != 0)=Bool.true then some (Sum.inr (Sum.inl a3)) else some (Sum.inl (w64 (t39+1))) else if a.Kind=3 then if(JT a != 0)=Bool.true then some (Sum.inr (Sum.inl (JT a))) else some (Sum.inl (w64 (t39+1))) else if a.Kind=4 then if(q00 a != 0)=Bool.true then some (Sum.inr (Sum.inl (q00 a))) else some (Sum.inl (w64 (t39+1))) else some (Sum.inr (Sum.inl 13)) else none else some (Sum.inr (Sum.inr ()))
theorem qa9:∀(t37:List qb) (t38 t39:Int),XL2 evo 30 0 6 ⟨[(6,R.c (C.hd .map 0)),(37,rL 5 qg t37),(38,rI t38),(39,rI t39)],[(0,B.ob (AO.mp [(Go.Value.int Go.IntKind.i64 1,R.agg [C.fn 80 [] []],0),(Go.Value.int Go.IntKind.i64 2,R.agg [C.fn 82 [] []],1),(Go.Value.int Go.IntKind.i64 3,R.agg [C.fn 83 [] [dP 1]],2),(Go.Value.int Go.IntKind.i64 4,R.agg [C.fn 84 [] [dP 1]],3)] 4)),(1,B.blk 83 [C.fn 79 [] []])],2,60⟩=(qX (q0m t37 t38) t39).bind (Sum.elim (fun(e:Int)=>some (Go.Exit.ret,⟨[(2,rI e)],[],0,60⟩)) (fun(e:Unit)=>some (Go.Exit.exit 0,⟨[(2,R.any)],[],0,60⟩))):=
 fun t37 t38 t39=>by
  revert t39;exact qaQ qzb qw0 (fun e=>by rcases e with _|_<;>exact⟨_,rfl,fun h=>by cases h⟩) fun x=>by
   have:=qFx;have:=@qn7.eq_1;have:=@qaX;have:=@qbi;have:=@qaY;have:=@qbg;have:=@q0m.eq_1;exact gA
noncomputable def q1H (n:qb):Option Int:=Option.bind (q3s n) fun(a:Prod (List qb) (Prod Int Bool))=>if(!a.2.2)=Bool.true then some 2 else if 24<((a.1.length:Nat):Int) then some 2 else if 5<a.2.1 then some 2 else Option.bind (q1S n) fun(a2:List qb)=>if(!(QH ((a2.length:Nat):Int) 1 8))=Bool.true then some 2 else Option.bind (qX (q0m a.1 ((a.1.length:Nat):Int)) 0) fun(a3:Sum Int Unit)=>Sum.elim (fun(a4:Int)=>some a4) (fun(a5:Unit)=>some 0) a3
theorem q7F:∀(qi n_N qs:Int) (qx:List qc) (n_L:List qb),ev 30 0 [R.agg [dI qi,dI n_N,dI qs,dL 2 qe qx,dL 5 qg n_L]] []=(q1H (qb.mk qi n_N qs qx n_L)).bind (fun(e:Int)=>some (rI e,[])):=
 fun qi n_N qs qx n_L=>by
  rw[zc qBN qH1.2.2.2 qFO]
  have:=qFx;have:=@q8J;have:=@q6x;have:=@q1a;have:=@qcY;have:=@qa9;have:=@q1H.eq_1;exact gA
theorem qFX:okL 33 qlh:=zb (qh qBo) (by kernel_rfl) (by kernel_rfl)
def qGP:=JA_ @qlh.eq_1 (JA_ @Tryz.f33.eq_1 @qBo)
theorem qsl:okL 58 qbJ:=zb (qh qqr) (by kernel_rfl) (by kernel_rfl)
def qiy:=JA_ @qbJ.eq_1 (JA_ @Tryz.f58.eq_1 @qqr)
theorem qjy:lbO 58 5=qeG:=Q9 (qh qqr) rfl
theorem qjm:okL 58 qeG:=zB qsl (List.mem_of_getElem? (i:=0) (by kernel_rfl))
theorem qnq:lbO 58 14=qf5:=Q9 (qh qqr) rfl
theorem qld:okL 58 qf5:=zB qsl (List.mem_of_getElem? (i:=1) (by kernel_rfl))
theorem qnt:lbO 58 18=qeX:=Q9 (qh qqr) rfl
theorem qlI:okL 58 qeX:=zB qsl (List.mem_of_getElem? (i:=2) (by kernel_rfl))
theorem qm4:lbO 58 25=qfK:=Q9 (qh qqr) rfl
theorem qnG:okL 58 qfK:=zB qsl (List.mem_of_getElem? (i:=3) (by kernel_rfl))
theorem qme:lbO 58 38=qf9:=Q9 (qh qqr) rfl
theorem qln:okL 58 qf9:=zB qsl (List.mem_of_getElem? (i:=4) (by kernel_rfl))
theorem qHw:okL 36 qog:=zb (qh qCv) (by kernel_rfl) (by kernel_rfl)
def qHg:=JA_ @qog.eq_1 (JA_ @Tryz.f36.eq_1 @qCv)
noncomputable def q8a (n:qb):Option Bool:=if(n.Kind==1)=Bool.true then some Bool.true else some (n.Kind==2)
noncomputable def q0z (n:qb):Bool:=if(n.Kind==1)=Bool.true then Bool.true else n.Kind==2
theorem qek (n:qb):q8a n=some (q0z n):=by
 unfold q8a q0z
 simp only[QZ]
theorem q48:∀(qi n_N qs:Int) (qx:List qc) (n_L:List qb),ev 36 0 [R.agg [dI qi,dI n_N,dI qs,dL 2 qe qx,dL 5 qg n_L]] []=some (rB (q0z (qb.mk qi n_N qs qx n_L)),[]):=
 fun qi n_N qs qx n_L=>by
  have h:ev 36 0 [R.agg [dI qi,dI n_N,dI qs,dL 2 qe qx,dL 5 qg n_L]] []=(q8a (qb.mk qi n_N qs qx n_L)).bind (fun(e:Bool)=>some (rB e,[])):=by
   rw[zc qCv qGQ.2.2.2 qHw]
   have:=qHg;have:=@q8a.eq_1;exact gA
  rw[qek] at h
  exact h
theorem qKp:okL 50 qmU:=zb (qh qCD) (by kernel_rfl) (by kernel_rfl)
def qIo:=JA_ @qmU.eq_1 (JA_ @Tryz.f50.eq_1 @qCD)
noncomputable def q1I (kind:Int):Option (Unit⊕Unit):=if(kind==1)=Bool.true then some (Sum.inl ()) else some (Sum.inr ())
theorem q5k:∀(kind:Int),ev 50 0 [rI kind] []=(q1I kind).bind (Sum.elim (fun(e:Unit)=>some (R.c (C.fn 73 [] []),[])) (fun(e:Unit)=>some (R.c (C.fn 74 [] []),[]))):=
 fun kind=>by
  rw[zc qCD qFr.2.2.2 qKp]
  have:=qIo;have:=@q1I.eq_1;exact gA
theorem qKq:okL 31 qmb:=zb (qh qC3) (by kernel_rfl) (by kernel_rfl)
def qHi:=JA_ @qmb.eq_1 (JA_ @Tryz.f31.eq_1 @qC3)
noncomputable def q4V (x0:Int) (x1:Int):Option Unit:=
 some ()
noncomputable def q8E (x0:Int) (x1:Int):Unit:=
 ()
theorem qcl (x0 x1:Int):q4V x0 x1=some (q8E x0 x1):=by
 unfold q4V q8E
 simp only[QZ]
theorem q7Q:∀(x0 x1:Int),ev 31 0 [rI x0,rI x1] []=some (rB Bool.true,[]):=
 fun x0 x1=>by
  have h:ev 31 0 [rI x0,rI x1] []=(q4V x0 x1).bind (fun(e:Unit)=>some (rB Bool.true,[])):=by
   rw[zc qC3 qHb.2.2.2 qKq]
   have:=qHi;have:=@q4V.eq_1;exact gA
  rw[qcl] at h
  exact h
theorem qEv:okL 48 qju:=zb (qh qxx) (by kernel_rfl) (by kernel_rfl)
def qBy:=JA_ @qju.eq_1 (JA_ @Tryz.f48.eq_1 @qxx)
theorem qrs:lbO 48 3=qiQ:=Q9 (qh qxx) rfl
theorem qrq:okL 48 qiQ:=zB qEv (List.mem_of_getElem? (i:=0) (by kernel_rfl))
theorem qIe:okL 59 qox:=zb (qh qDI) (by kernel_rfl) (by kernel_rfl)
def qK2:=JA_ @qox.eq_1 (JA_ @Tryz.f59.eq_1 @qDI)
noncomputable def q1C (k:Int) (v:Int):Option Bool:=if 0≤k then some (JH Go.BinOp.and Go.IntKind.i64 (Int.fdiv v (2 ^ min (Int.toNat k) (Go.IntKind.bits Go.IntKind.i64))) 1==1) else none
theorem q9E:∀(k v:Int),ev 59 1 [rI k,rP 0] [(0,B.blk 3 [dI v])]=(q1C k v).bind (fun(e:Bool)=>some (rB e,[(0,B.blk 3 [dI v])])):=
 fun k v=>by
  rw[zc qDI qGr.2.2.2 qIe]
  have:=qK2;have:=@q1C.eq_1;exact gA
theorem qI2:okL 15 qnB:=zb (qh qEN) (by kernel_rfl) (by kernel_rfl)
def qIb:=JA_ @qnB.eq_1 (JA_ @Tryz.f15.eq_1 @qEN)
theorem qJs:okL 37 qli:=zb (qh qCV) (by kernel_rfl) (by kernel_rfl)
def qJ3:=JA_ @qli.eq_1 (JA_ @Tryz.f37.eq_1 @qCV)
theorem qFB:okL 67 qiC:=zb (qh qB1) (by kernel_rfl) (by kernel_rfl)
def qHa:=JA_ @qiC.eq_1 (JA_ @Tryz.f67.eq_1 @qB1)
theorem qzE:lbO 67 2=qnv:=Q9 (qh qB1) rfl
theorem qwf:okL 67 qnv:=zB qFB (List.mem_of_getElem? (i:=0) (by kernel_rfl))
noncomputable def zC (v:qc) (s:List qc) (t7:Int):Int→Option (Int⊕(Int⊕Unit))|t8=>if t8<t7 then if 0≤t8∧t8<((s.length:Nat):Int) then Option.bind s[Int.toNat t8]? fun(a:qc)=>if(v.School==a.School)=Bool.true∧(ByteArray.toList v.Code==ByteArray.toList a.Code)=Bool.true then some (Sum.inr (Sum.inl t8)) else some (Sum.inl (w64 (t8+1))) else none else some (Sum.inr (Sum.inr ()))
theorem q19:∀(q35:Int) (q7T:ByteArray) (s:List qc) (t7 t8:Int),XL2 evo 67 0 2 ⟨[(0,rL 2 qe s),(3,rP 0),(7,rI t7),(8,rI t8)],[(0,B.blk 51 [dI q35,dS q7T])],1,19⟩=(qX (zC (qc.mk q35 q7T) s t7) t8).bind (Sum.elim (fun(e:Int)=>some (Go.Exit.ret,⟨[(4,rI e)],[],0,19⟩)) (fun(e:Unit)=>some (Go.Exit.exit 0,⟨[(4,R.any)],[],0,19⟩))):=
 fun q35 q7T s t7 t8=>by
  revert t8;exact qaQ qzE qwf (fun e=>by rcases e with _|_<;>exact⟨_,rfl,fun h=>by cases h⟩) fun x=>by
   have:=qHa;have:=@qnv.eq_1;have:=@zC.eq_1;exact gA
noncomputable def Q5 (s:List qc) (v:qc):Option Int:=Option.bind (qX (zC v s ((s.length:Nat):Int)) 0) fun(a:Sum Int Unit)=>Sum.elim (fun(a2:Int)=>some a2) (fun(a3:Unit)=>some (-1)) a
theorem q1G:∀(s:List qc) (q35:Int) (q7T:ByteArray),ev 67 0 [rL 2 qe s,R.agg [dI q35,dS q7T]] []=(Q5 s (qc.mk q35 q7T)).bind (fun(e:Int)=>some (rI e,[])):=
 fun s q35 q7T=>by
  rw[zc qB1 qFk.2.2.2 qFB]
  have:=qHa;have:=@q19;have:=@Q5.eq_1;exact gA
noncomputable def zT (s:List qc) (v:qc):Option Bool:=Option.bind (Q5 s v) fun(a:Int)=>some (decide (0≤a))
theorem q1e:∀(s:List qc) (q35:Int) (q7T:ByteArray),ev 37 0 [rL 2 qe s,R.agg [dI q35,dS q7T]] []=(zT s (qc.mk q35 q7T)).bind (fun(e:Bool)=>some (rB e,[])):=
 fun s q35 q7T=>by
  rw[zc qCV qFe.2.2.2 qJs]
  have:=qJ3;have:=@q1G;have:=@zT.eq_1;exact gA
theorem qJd:okL 38 qok:=zb (qh qCe) (by kernel_rfl) (by kernel_rfl)
def qIH:=JA_ @qok.eq_1 (JA_ @Tryz.f38.eq_1 @qCe)
theorem qI9:okL 68 qne:=zb (qh qBX) (by kernel_rfl) (by kernel_rfl)
def qHm:=JA_ @qne.eq_1 (JA_ @Tryz.f68.eq_1 @qBX)
theorem qFA:okL 88 qjF:=zb (qh qBw) (by kernel_rfl) (by kernel_rfl)
def qFY:=JA_ @qjF.eq_1 (JA_ @Tryz.f88.eq_1 @qBw)
theorem qA2:lbO 88 2=qlP:=Q9 (qh qBw) rfl
theorem qwZ:okL 88 qlP:=zB qFA (List.mem_of_getElem? (i:=0) (by kernel_rfl))
theorem qJJ:okL 89 qo9:=zb (qh qDX) (by kernel_rfl) (by kernel_rfl)
def qJL:=JA_ @qo9.eq_1 (JA_ @Tryz.f89.eq_1 @qDX)
noncomputable def q0Y (n:Int) (a:Int) (b:Int):Option Int:=
 some (max (min a b) (min n (max a b)))
noncomputable def Qv (n:Int) (a:Int) (b:Int):Int:=
 max (min a b) (min n (max a b))
theorem q6b (n a b:Int):q0Y n a b=some (Qv n a b):=by
 unfold q0Y Qv
 simp only[QZ]
theorem q1m:∀(n a b:Int),ev 89 0 [rI n,rI a,rI b] []=some (rI (Qv n a b),[]):=
 fun n a b=>by
  have h:ev 89 0 [rI n,rI a,rI b] []=(q0Y n a b).bind (fun(e:Int)=>some (rI e,[])):=by
   rw[zc qDX qHc.2.2.2 qJJ]
   have:=qJL;have:=@q0Y.eq_1;exact gA
  rw[q6b] at h
  exact h
noncomputable def JZ (w1:List Int) (s:qf) (t10:Int):Int→Option (Int⊕(Unit⊕Unit))|t11=>if t11<t10 then if 0≤t11∧t11<((w1.length:Nat):Int) then Option.bind w1[Int.toNat t11]? fun(a:Int)=>if(Qv a (-1000) 1000 != a)=Bool.true then some (Sum.inr (Sum.inl ())) else some (Sum.inl (w64 (t11+1))) else none else some (Sum.inr (Sum.inr ()))
theorem q8P:∀(w1:List Int) (qz qO qP t10 t11:Int) (qQ:Nat),qQ=w1.length→XL2 evo 88 0 2 ⟨[(1,rP 0),(9,rO 1 1 qQ),(10,rI t10),(11,rI t11)],[(0,B.blk 32 [dI qz,dI qO,dI qP]),(1,bR 3 1 eI w1)],2,37⟩=(qX (JZ w1 (qf.mk qz qO qP) t10) t11).bind (Sum.elim (fun(e:Unit)=>some (Go.Exit.ret,⟨[(1,rP 0),(2,rI 10)],[(0,B.blk 32 [dI qz,dI qO,dI qP])],1,37⟩)) (fun(e:Unit)=>some (Go.Exit.exit 0,⟨[(1,rP 0),(2,R.any)],[(0,B.blk 32 [dI qz,dI qO,dI qP])],1,37⟩))):=
 by
 intro w1 qz qO qP t10 t11 qQ h0
 subst h0
 revert t11;exact qaQ qA2 qwZ (fun e=>by rcases e with _|_<;>exact⟨_,rfl,fun h=>by cases h⟩) fun x=>by
  have:=qFY;have:=@qlP.eq_1;have:=@q1m;have:=@JZ.eq_1;exact gA
theorem q6P:∀(w10 w11 qz qO qP t10 t11:Int),XL2 evo 88 0 2 ⟨[(1,rP 0),(9,rO 1 1 2),(10,rI t10),(11,rI t11)],[(0,B.blk 32 [dI qz,dI qO,dI qP]),(1,B.row 3 1 [dI w10,dI w11])],2,37⟩=(qX (JZ [w10,w11] (qf.mk qz qO qP) t10) t11).bind (Sum.elim (fun(e:Unit)=>some (Go.Exit.ret,⟨[(1,rP 0),(2,rI 10)],[(0,B.blk 32 [dI qz,dI qO,dI qP])],1,37⟩)) (fun(e:Unit)=>some (Go.Exit.exit 0,⟨[(1,rP 0),(2,R.any)],[(0,B.blk 32 [dI qz,dI qO,dI qP])],1,37⟩))):=by
 intro w10 w11 qz qO qP t10 t11;have h:=q8P [w10,w11] ((qf.mk qz qO qP)).Worst ((qf.mk qz qO qP)).Best ((qf.mk qz qO qP)).Pass t10 t11 _ rfl
 first
  | exact h
  | (simp only[rL,dL,bR,bZ,Nat.reduceAdd] at h;exact h)
noncomputable def q2Z (s:qf):Option Int:=Option.bind (qX (JZ [s.Worst,s.Best] s 2) 0) fun(a:Sum Unit Unit)=>Sum.elim (fun(a2:Unit)=>some 10) (fun(a3:Unit)=>if(s.Worst==s.Best)=Bool.true then some 10 else if(Qv s.Pass s.Worst s.Best != s.Pass)=Bool.true then some 10 else some 0) a
theorem qc0:∀(qz qO qP:Int),ev 88 0 [R.agg [dI qz,dI qO,dI qP]] []=(q2Z (qf.mk qz qO qP)).bind (fun(e:Int)=>some (rI e,[])):=
 fun qz qO qP=>by
  rw[zc qBw qGV.2.2.2 qFA]
  have:=qFY;have:=@q6P;have:=@q1m;have:=@q2Z.eq_1;exact gA
noncomputable def q2N (s:qf) (g:Int):Option Bool:=Option.bind (q2Z s) fun(a:Int)=>if(a==0)=Bool.true then some (Qv g s.Worst s.Best==g) else some Bool.false
theorem qbW:∀(qz qO qP g:Int),ev 68 0 [R.agg [dI qz,dI qO,dI qP],rI g] []=(q2N (qf.mk qz qO qP) g).bind (fun(e:Bool)=>some (rB e,[])):=
 fun qz qO qP g=>by
  rw[zc qBX qGK.2.2.2 qI9]
  have:=qHm;have:=@qc0;have:=@q1m;have:=@q2N.eq_1;exact gA
noncomputable def q1B (s:qf) (g:Int) (min:Int):Option Bool:=Option.bind (q2N s g) fun(a:Bool)=>if a=Bool.true then if(g==min)=Bool.true then some Bool.true else some (decide (min<g)==decide (s.Worst<s.Best)) else some Bool.false
theorem q9K:∀(qz qO qP g min:Int),ev 38 0 [R.agg [dI qz,dI qO,dI qP],rI g,rI min] []=(q1B (qf.mk qz qO qP) g min).bind (fun(e:Bool)=>some (rB e,[])):=
 fun qz qO qP g min=>by
  rw[zc qCe qG4.2.2.2 qJd]
  have:=qIH;have:=@qbW;have:=@q1B.eq_1;exact gA
noncomputable def q0l (n:qb) (s:qf) (a:qa):Option Bool:=if q0z n=Bool.true then Option.bind (zT n.Set a.Course) fun(a2:Bool)=>if a2=Bool.true then Option.bind (q1B s a.Grade n.Min) fun(e0:Bool)=>some e0 else some Bool.false else some Bool.false
theorem q6l:∀(qi n_N qs:Int) (qx:List qc) (n_L:List qb) (qz qO qP zg:Int) (zE:ByteArray) (QV q0e q4f:Int) (q1f:List Int) (ZT:Int) (q6G:List Int),ev 15 0 [R.agg [dI qi,dI n_N,dI qs,dL 2 qe qx,dL 5 qg n_L],R.agg [dI qz,dI qO,dI qP],R.agg [dI zg,dS zE,dI QV,dI q0e,dI q4f,dL 1 eI q1f,dI ZT,dL 1 eI q6G]] []=(q0l (qb.mk qi n_N qs qx n_L) (qf.mk qz qO qP) (qa.mk (qc.mk zg zE) QV q0e q4f q1f ZT q6G)).bind (fun(e:Bool)=>some (rB e,[])):=
 fun qi n_N qs qx n_L qz qO qP zg zE QV q0e q4f q1f ZT q6G=>by
  rw[zc qEN qGE.2.2.2 qI2]
  have:=qIb;have:=@q48;have:=@q1e;have:=@q9K;have:=@q0l.eq_1;exact gA
theorem qcf:∀(qi n_N qs zz:Int) (zU:ByteArray) (zg:Int) (zE:ByteArray) (QV q0e q4f ZT qz qO qP:Int),ev 15 0 [R.agg [dI qi,dI n_N,dI qs,C.d (D.sl 2 1 [D.int .i64 zz,D.str zU]),C.d (D.sl 5 0 [])],R.agg [dI qz,dI qO,dI qP],R.agg [dI zg,dS zE,dI QV,dI q0e,dI q4f,C.d (D.sl 1 0 []),dI ZT,C.d (D.sl 1 0 [])]] []=(q0l (qb.mk qi n_N qs [(qc.mk zz zU)] []) (qf.mk qz qO qP) (qa.mk (qc.mk zg zE) QV q0e q4f [] ZT [])).bind (fun(e:Bool)=>some (rB e,[])):=by
 intro qi n_N qs zz zU zg zE QV q0e q4f ZT qz qO qP;have h:=q6l ((qb.mk qi n_N qs [(qc.mk zz zU)] [])).Kind ((qb.mk qi n_N qs [(qc.mk zz zU)] [])).N ((qb.mk qi n_N qs [(qc.mk zz zU)] [])).Min ((qb.mk qi n_N qs [(qc.mk zz zU)] [])).Set ((qb.mk qi n_N qs [(qc.mk zz zU)] [])).L ((qf.mk qz qO qP)).Worst ((qf.mk qz qO qP)).Best ((qf.mk qz qO qP)).Pass ((qa.mk (qc.mk zg zE) QV q0e q4f [] ZT [])).Course.School ((qa.mk (qc.mk zg zE) QV q0e q4f [] ZT [])).Course.Code ((qa.mk (qc.mk zg zE) QV q0e q4f [] ZT [])).Credits ((qa.mk (qc.mk zg zE) QV q0e q4f [] ZT [])).Grade ((qa.mk (qc.mk zg zE) QV q0e q4f [] ZT [])).Day ((qa.mk (qc.mk zg zE) QV q0e q4f [] ZT [])).Sources ((qa.mk (qc.mk zg zE) QV q0e q4f [] ZT [])).Bundle ((qa.mk (qc.mk zg zE) QV q0e q4f [] ZT [])).Path
 first
  | exact h
  | (simp only[rL,dL,bR,bZ,Nat.reduceAdd] at h;exact h)
noncomputable def q0E (b0:Int) (n:qb) (s:qf) (b3:qJ) (t13:List qa) (t14:Int):(qJ×Int)→Option ((qJ×Int)⊕qJ)|(out,t15)=>if t15<t14 then if 0≤t15∧t15<((t13.length:Nat):Int) then Option.bind t13[Int.toNat t15]? fun(a:qa)=>Option.bind (q1C t15 b0) fun(a2:Bool)=>if a2=Bool.true then if out.fine=Bool.true then Option.bind (q0l n s a) fun(a3:Bool)=>some (Sum.inl (qJ.mk (w64 (out.many+1)) (w64 (out.credits+a.Credits)) a3,w64 (t15+1))) else some (Sum.inl (qJ.mk (w64 (out.many+1)) (w64 (out.credits+a.Credits)) Bool.false,w64 (t15+1))) else some (Sum.inl (out,w64 (t15+1))) else none else some (Sum.inr out)
theorem qb8:∀(b0 qi n_N qs:Int) (qx:List qc) (n_L:List qb) (qz qO qP b3_many b3_credits:Int) (b3_fine:Bool) (out_many out_credits:Int) (out_fine:Bool) (t13:List qa) (t14 t15:Int),XL2 evo 48 1 3 ⟨[(3,R.c (C.fn 59 [] [dP 0])),(4,rP 1),(5,rP 2),(8,rP 3),(9,rP 4),(13,rL 8 qd t13),(14,rI t14),(15,rI t15)],[(0,B.blk 3 [dI b0]),(1,B.blk 30 [dI qi,dI n_N,dI qs,dL 2 qe qx,dL 5 qg n_L]),(2,B.blk 32 [dI qz,dI qO,dI qP]),(3,B.blk 91 [dI b3_many,dI b3_credits,dB b3_fine]),(4,B.blk 91 [dI out_many,dI out_credits,dB out_fine])],5,44⟩=(qX (q0E b0 (qb.mk qi n_N qs qx n_L) (qf.mk qz qO qP) (qJ.mk b3_many b3_credits b3_fine) t13 t14) ((qJ.mk out_many out_credits out_fine),t15)).bind (fun(e:qJ)=>some (Go.Exit.exit 0,⟨[(8,rP 1),(9,rP 2)],[(0,B.blk 3 [dI b0]),(1,B.blk 91 [dI b3_many,dI b3_credits,dB b3_fine]),(2,B.blk 91 [dI e.many,dI e.credits,dB e.fine])],3,44⟩)):=
 fun b0 qi n_N qs qx n_L qz qO qP b3_many b3_credits b3_fine out_many out_credits out_fine t13 t14 t15=>by
  have h:=q3T (E:=evo) (f:=48) (k:=1) (st:=fun x:qJ×Int=>(⟨[(3,R.c (C.fn 59 [] [dP 0])),(4,rP 1),(5,rP 2),(8,rP 3),(9,rP 4),(13,rL 8 qd t13),(14,rI t14),(15,rI x.2)],[(0,B.blk 3 [dI b0]),(1,B.blk 30 [dI qi,dI n_N,dI qs,dL 2 qe qx,dL 5 qg n_L]),(2,B.blk 32 [dI qz,dI qO,dI qP]),(3,B.blk 91 [dI b3_many,dI b3_credits,dB b3_fine]),(4,B.blk 91 [dI x.1.many,dI x.1.credits,dB x.1.fine])],5,44⟩:S)) (ex:=fun(e:qJ)=>(Go.Exit.exit 0,⟨[(8,rP 1),(9,rP 2)],[(0,B.blk 3 [dI b0]),(1,B.blk 91 [dI b3_many,dI b3_credits,dB b3_fine]),(2,B.blk 91 [dI e.many,dI e.credits,dB e.fine])],3,44⟩)) (step:=(q0E b0 (qb.mk qi n_N qs qx n_L) (qf.mk qz qO qP) (qJ.mk b3_many b3_credits b3_fine) t13 t14)) qrs qrq (fun e h=>by cases h) (fun x=>by
   obtain⟨out,t15⟩:=x;have:=qBy;have:=@qiQ.eq_1;have:=@q9E;have:=@q6l;have:=@q0E.eq_1;exact gA) ((qJ.mk out_many out_credits out_fine),t15)
  exact h
noncomputable def q1z (n:qb) (s:qf) (l:List qa) (b0:Int):Option qJ:=Option.bind (qX (q0E b0 n s (qJ.mk 0 0 Bool.false) l ((l.length:Nat):Int)) (qJ.mk 0 0 Bool.true,0)) fun(a:qJ)=>some a
theorem q3x:∀(qi n_N qs:Int) (qx:List qc) (n_L:List qb) (qz qO qP:Int) (l:List qa) (b0:Int),ev 48 1 [R.agg [dI qi,dI n_N,dI qs,dL 2 qe qx,dL 5 qg n_L],R.agg [dI qz,dI qO,dI qP],rL 8 qd l,R.c (C.fn 59 [] [dP 0])] [(0,B.blk 3 [dI b0])]=(q1z (qb.mk qi n_N qs qx n_L) (qf.mk qz qO qP) l b0).bind (fun(e:qJ)=>some (R.agg [dI e.many,dI e.credits,dB e.fine],[(0,B.blk 3 [dI b0])])):=
 fun qi n_N qs qx n_L qz qO qP l b0=>by
  rw[zc qxx qEH.2.2.2 qEv]
  have:=qBy;have:=@qb8;have:=@q1z.eq_1;exact gA
theorem qHM:okL 73 qnl:=zb (qh qEk) (by kernel_rfl) (by kernel_rfl)
def qIt:=JA_ @qnl.eq_1 (JA_ @Tryz.f73.eq_1 @qEk)
noncomputable def q25 (x:qJ) (x1:qb):Option Bool:=if x.fine=Bool.true then some (x.many==1) else some Bool.false
noncomputable def zZ (x:qJ) (x1:qb):Bool:=if x.fine=Bool.true then x.many==1 else Bool.false
theorem q7M (x:qJ) (x1:qb):q25 x x1=some (zZ x x1):=by
 unfold q25 zZ
 simp only[QZ]
theorem q2h:∀(x_many x_credits:Int) (x_fine:Bool) (qI q03 zd:Int) (ze:List qc) (JB:List qb),ev 73 0 [R.agg [dI x_many,dI x_credits,dB x_fine],R.agg [dI qI,dI q03,dI zd,dL 2 qe ze,dL 5 qg JB]] []=some (rB (zZ (qJ.mk x_many x_credits x_fine) (qb.mk qI q03 zd ze JB)),[]):=
 fun x_many x_credits x_fine qI q03 zd ze JB=>by
  have h:ev 73 0 [R.agg [dI x_many,dI x_credits,dB x_fine],R.agg [dI qI,dI q03,dI zd,dL 2 qe ze,dL 5 qg JB]] []=(q25 (qJ.mk x_many x_credits x_fine) (qb.mk qI q03 zd ze JB)).bind (fun(e:Bool)=>some (rB e,[])):=by
   rw[zc qEk qGn.2.2.2 qHM]
   have:=qIt;have:=@q25.eq_1;exact gA
  rw[q7M] at h
  exact h
theorem qHr:okL 74 qn6:=zb (qh qEx) (by kernel_rfl) (by kernel_rfl)
def qJQ:=JA_ @qn6.eq_1 (JA_ @Tryz.f74.eq_1 @qEx)
noncomputable def q3E (x:qJ) (n:qb):Option Bool:=if x.fine=Bool.true then if 0<x.many then some (decide (n.N≤x.credits)) else some Bool.false else some Bool.false
noncomputable def Qr (x:qJ) (n:qb):Bool:=if x.fine=Bool.true then if 0<x.many then decide (n.N≤x.credits) else Bool.false else Bool.false
theorem q9C (x:qJ) (n:qb):q3E x n=some (Qr x n):=by
 unfold q3E Qr
 simp only[QZ]
theorem q3t:∀(x_many x_credits:Int) (x_fine:Bool) (qi n_N qs:Int) (qx:List qc) (n_L:List qb),ev 74 0 [R.agg [dI x_many,dI x_credits,dB x_fine],R.agg [dI qi,dI n_N,dI qs,dL 2 qe qx,dL 5 qg n_L]] []=some (rB (Qr (qJ.mk x_many x_credits x_fine) (qb.mk qi n_N qs qx n_L)),[]):=
 fun x_many x_credits x_fine qi n_N qs qx n_L=>by
  have h:ev 74 0 [R.agg [dI x_many,dI x_credits,dB x_fine],R.agg [dI qi,dI n_N,dI qs,dL 2 qe qx,dL 5 qg n_L]] []=(q3E (qJ.mk x_many x_credits x_fine) (qb.mk qi n_N qs qx n_L)).bind (fun(e:Bool)=>some (rB e,[])):=by
   rw[zc qEx qFT.2.2.2 qHr]
   have:=qJQ;have:=@q3E.eq_1;exact gA
  rw[q9C] at h
  exact h
noncomputable def zD (x:(qb×List qa×Int×qf)):List R×List (Nat×B):=([R.agg [C.d (D.int .i64 x.1.Kind),C.d (D.int .i64 x.1.N),C.d (D.int .i64 x.1.Min),C.d (D.sl 2 x.1.Set.length (x.1.Set.flatMap qe)),C.d (D.sl 5 x.1.L.length (x.1.L.flatMap qg))],R.c (C.ptr 0 0),R.c (C.ptr 1 0),R.c (C.ptr 2 0),R.c (C.ptr 3 0),R.c (C.ptr 4 0),R.c (C.ptr 5 0)],[(0,B.blk 33 [C.d (D.sl 8 x.2.1.length (x.2.1.flatMap qd))]),(1,B.blk 76 [C.fn 31 [] []]),(2,B.blk 3 [C.d (D.int .i64 x.2.2.1)]),(3,B.blk 32 [C.d (D.int .i64 x.2.2.2.Worst),C.d (D.int .i64 x.2.2.2.Best),C.d (D.int .i64 x.2.2.2.Pass)]),(4,B.blk 118 [C.fn 58 [] [C.ptr 0 0,C.ptr 1 0,C.ptr 2 0,C.ptr 3 0,C.ptr 4 0,C.ptr 5 0]]),(5,B.blk 76 [C.fn 32 [] []])])
noncomputable def Qq:(List Bool×List qa×Int×qf)→R×List (Nat×B):=fun(e:List Bool×List qa×Int×qf)=>(R.c (C.d (D.sl 1 e.1.length (e.1.flatMap eB))),[(0,B.blk 33 [C.d (D.sl 8 e.2.1.length (e.2.1.flatMap qd))]),(1,B.blk 76 [C.fn 31 [] []]),(2,B.blk 3 [C.d (D.int .i64 e.2.2.1)]),(3,B.blk 32 [C.d (D.int .i64 e.2.2.2.Worst),C.d (D.int .i64 e.2.2.2.Best),C.d (D.int .i64 e.2.2.2.Pass)]),(4,B.blk 118 [C.fn 58 [] [C.ptr 0 0,C.ptr 1 0,C.ptr 2 0,C.ptr 3 0,C.ptr 4 0,C.ptr 5 0]]),(5,B.blk 76 [C.fn 32 [] []])])
noncomputable def JI (rF:(qb×List qa×Int×qf)→Option (List Bool×List qa×Int×qf)) (b0:List qa) (b2:Int) (b3:qf) (b6:qb):(List Bool×Int)→Option ((List Bool×Int)⊕(List Bool))|(w7,b8)=>if b8<((w7.length:Nat):Int) then Option.bind (q1z b6 b3 b0 b8) fun(a2:qJ)=>if 0≤b8∧b8<((w7.length:Nat):Int) then if Int.toNat b8+1≤w7.length then some (Sum.inl (List.set w7 (Int.toNat b8) (zZ a2 b6),w64 (b8+1))) else none else none else some (Sum.inr w7)
theorem q7f (rE:Orc) (rF:(qb×List qa×Int×qf)→Option (List Bool×List qa×Int×qf)) (hF:∀y,rE (.fn 58) 6 (zD y).1 (zD y).2=(rF y).bind fun e=>some (Qq e)) (hM:∀g k a G,g≠58→rE (.fn g) k a G=ev g k a G) (hR:∀g asg bd k a G,rE (.rd g asg bd) k a G=evr g asg bd k a G):∀(w7:List Bool) (b0:List qa) (b2 QW J4 J5 q04 qcm q1g:Int) (q1h:List qc) (qcn:List qb) (b8:Int) (zM:Nat),zM=w7.length→XL2 rE 58 6 5 ⟨[(1,rP 0),(2,rP 1),(3,rP 2),(4,rP 3),(7,rP 6),(9,rO 7 1 zM),(10,R.c (C.fn 73 [] [])),(11,rP 8)],[(0,B.blk 33 [dL 8 qd b0]),(1,B.blk 76 [C.fn 31 [] []]),(2,B.blk 3 [dI b2]),(3,B.blk 32 [dI QW,dI J4,dI J5]),(4,B.blk 118 [C.fn 58 [] [dP 0,dP 1,dP 2,dP 3,dP 4,dP 5]]),(5,B.blk 76 [C.fn 32 [] []]),(6,B.blk 30 [dI q04,dI qcm,dI q1g,dL 2 qe q1h,dL 5 qg qcn]),(7,bR 4 1 eB w7),(8,B.blk 3 [dI b8])],9,142⟩=(qX (JI rF b0 b2 (qf.mk QW J4 J5) (qb.mk q04 qcm q1g q1h qcn)) (w7,b8)).bind (fun(e:List Bool)=>some (Go.Exit.exit 0,⟨[(3,rP 2),(9,rO 6 1 e.length)],[(0,B.blk 33 [dL 8 qd b0]),(1,B.blk 76 [C.fn 31 [] []]),(2,B.blk 3 [dI b2]),(3,B.blk 32 [dI QW,dI J4,dI J5]),(4,B.blk 118 [C.fn 58 [] [dP 0,dP 1,dP 2,dP 3,dP 4,dP 5]]),(5,B.blk 76 [C.fn 32 [] []]),(6,bR 4 1 eB e)],7,142⟩)):=
 by
 intro w7 b0 b2 QW J4 J5 q04 qcm q1g q1h qcn b8 zM h0
 subst h0
 revert b8;revert w7;exact q6v qjy qjm (fun e=>by exact⟨_,rfl,fun h=>by cases h⟩) fun w7 b8=>by
  have hF':∀(qw Z9 qG:Int) (qK:List qc) (Zf:List qb) (v:List qa) (v2 qL z8 za:Int),rE (.fn 58) 6 [R.agg [dI qw,dI Z9,dI qG,dL 2 qe qK,dL 5 qg Zf],rP 0,rP 1,rP 2,rP 3,rP 4,rP 5] [(0,B.blk 33 [dL 8 qd v]),(1,B.blk 76 [C.fn 31 [] []]),(2,B.blk 3 [dI v2]),(3,B.blk 32 [dI qL,dI z8,dI za]),(4,B.blk 118 [C.fn 58 [] [dP 0,dP 1,dP 2,dP 3,dP 4,dP 5]]),(5,B.blk 76 [C.fn 32 [] []])]=(rF ((qb.mk qw Z9 qG qK Zf),v,v2,(qf.mk qL z8 za))).bind (fun e=>some (rL 1 eB e.1,[(0,B.blk 33 [dL 8 qd e.2.1]),(1,B.blk 76 [C.fn 31 [] []]),(2,B.blk 3 [dI e.2.2.1]),(3,B.blk 32 [dI e.2.2.2.Worst,dI e.2.2.2.Best,dI e.2.2.2.Pass]),(4,B.blk 118 [C.fn 58 [] [dP 0,dP 1,dP 2,dP 3,dP 4,dP 5]]),(5,B.blk 76 [C.fn 32 [] []])])):=fun qw Z9 qG qK Zf v v2 qL z8 za=>hF ((qb.mk qw Z9 qG qK Zf),v,v2,(qf.mk qL z8 za))
  have:=qiy;have:=@qeG.eq_1;have:=@q7Q;have:=@q3x;have:=@q2h;have:=@JI.eq_1;exact gA
noncomputable def JF (rF:(qb×List qa×Int×qf)→Option (List Bool×List qa×Int×qf)) (b0:List qa) (b2:Int) (b3:qf) (b6:qb):(List Bool×Int)→Option ((List Bool×Int)⊕(List Bool))|(w7,b8)=>if b8<((w7.length:Nat):Int) then Option.bind (q1z b6 b3 b0 b8) fun(a2:qJ)=>if 0≤b8∧b8<((w7.length:Nat):Int) then if Int.toNat b8+1≤w7.length then some (Sum.inl (List.set w7 (Int.toNat b8) (Qr a2 b6),w64 (b8+1))) else none else none else some (Sum.inr w7)
theorem q7d (rE:Orc) (rF:(qb×List qa×Int×qf)→Option (List Bool×List qa×Int×qf)) (hF:∀y,rE (.fn 58) 6 (zD y).1 (zD y).2=(rF y).bind fun e=>some (Qq e)) (hM:∀g k a G,g≠58→rE (.fn g) k a G=ev g k a G) (hR:∀g asg bd k a G,rE (.rd g asg bd) k a G=evr g asg bd k a G):∀(w7:List Bool) (b0:List qa) (b2 QW J4 J5 q04 qcm q1g:Int) (q1h:List qc) (qcn:List qb) (b8:Int) (zM:Nat),zM=w7.length→XL2 rE 58 6 5 ⟨[(1,rP 0),(2,rP 1),(3,rP 2),(4,rP 3),(7,rP 6),(9,rO 7 1 zM),(10,R.c (C.fn 74 [] [])),(11,rP 8)],[(0,B.blk 33 [dL 8 qd b0]),(1,B.blk 76 [C.fn 31 [] []]),(2,B.blk 3 [dI b2]),(3,B.blk 32 [dI QW,dI J4,dI J5]),(4,B.blk 118 [C.fn 58 [] [dP 0,dP 1,dP 2,dP 3,dP 4,dP 5]]),(5,B.blk 76 [C.fn 32 [] []]),(6,B.blk 30 [dI q04,dI qcm,dI q1g,dL 2 qe q1h,dL 5 qg qcn]),(7,bR 4 1 eB w7),(8,B.blk 3 [dI b8])],9,142⟩=(qX (JF rF b0 b2 (qf.mk QW J4 J5) (qb.mk q04 qcm q1g q1h qcn)) (w7,b8)).bind (fun(e:List Bool)=>some (Go.Exit.exit 0,⟨[(3,rP 2),(9,rO 6 1 e.length)],[(0,B.blk 33 [dL 8 qd b0]),(1,B.blk 76 [C.fn 31 [] []]),(2,B.blk 3 [dI b2]),(3,B.blk 32 [dI QW,dI J4,dI J5]),(4,B.blk 118 [C.fn 58 [] [dP 0,dP 1,dP 2,dP 3,dP 4,dP 5]]),(5,B.blk 76 [C.fn 32 [] []]),(6,bR 4 1 eB e)],7,142⟩)):=
 by
 intro w7 b0 b2 QW J4 J5 q04 qcm q1g q1h qcn b8 zM h0
 subst h0
 revert b8;revert w7;exact q6v qjy qjm (fun e=>by exact⟨_,rfl,fun h=>by cases h⟩) fun w7 b8=>by
  have hF':∀(qw Z9 qG:Int) (qK:List qc) (Zf:List qb) (v:List qa) (v2 qL z8 za:Int),rE (.fn 58) 6 [R.agg [dI qw,dI Z9,dI qG,dL 2 qe qK,dL 5 qg Zf],rP 0,rP 1,rP 2,rP 3,rP 4,rP 5] [(0,B.blk 33 [dL 8 qd v]),(1,B.blk 76 [C.fn 31 [] []]),(2,B.blk 3 [dI v2]),(3,B.blk 32 [dI qL,dI z8,dI za]),(4,B.blk 118 [C.fn 58 [] [dP 0,dP 1,dP 2,dP 3,dP 4,dP 5]]),(5,B.blk 76 [C.fn 32 [] []])]=(rF ((qb.mk qw Z9 qG qK Zf),v,v2,(qf.mk qL z8 za))).bind (fun e=>some (rL 1 eB e.1,[(0,B.blk 33 [dL 8 qd e.2.1]),(1,B.blk 76 [C.fn 31 [] []]),(2,B.blk 3 [dI e.2.2.1]),(3,B.blk 32 [dI e.2.2.2.Worst,dI e.2.2.2.Best,dI e.2.2.2.Pass]),(4,B.blk 118 [C.fn 58 [] [dP 0,dP 1,dP 2,dP 3,dP 4,dP 5]]),(5,B.blk 76 [C.fn 32 [] []])])):=fun qw Z9 qG qK Zf v v2 qL z8 za=>hF ((qb.mk qw Z9 qG qK Zf),v,v2,(qf.mk qL z8 za))
  have:=qiy;have:=@qeG.eq_1;have:=@q7Q;have:=@q3x;have:=@q3t;have:=@JF.eq_1;exact gA
noncomputable def ZC (rF:(qb×List qa×Int×qf)→Option (List Bool×List qa×Int×qf)) (w7:List Bool) (b0:List qa) (b2:Int) (b3:qf) (b6:qb):(List Int×Int)→Option ((List Int×Int)⊕(List Int))|(w9,t13)=>if t13<((w9.length:Nat):Int) then if 0≤t13∧t13<((w9.length:Nat):Int) then if Int.toNat t13+1≤w9.length then some (Sum.inl (List.set w9 (Int.toNat t13) (-1),w64 (t13+1))) else none else none else some (Sum.inr w9)
theorem q6I (rE:Orc) (rF:(qb×List qa×Int×qf)→Option (List Bool×List qa×Int×qf)) (hF:∀y,rE (.fn 58) 6 (zD y).1 (zD y).2=(rF y).bind fun e=>some (Qq e)) (hM:∀g k a G,g≠58→rE (.fn g) k a G=ev g k a G) (hR:∀g asg bd k a G,rE (.rd g asg bd) k a G=evr g asg bd k a G):∀(w7:List Bool) (w9:List Int) (b0:List qa) (b2 QW J4 J5 q04 qcm q1g:Int) (q1h:List qc) (qcn:List qb) (t13:Int) (zM q0s:Nat),zM=w7.length→q0s=w9.length→XL2 rE 58 6 14 ⟨[(3,rP 2),(5,rP 4),(6,rP 5),(7,rP 6),(9,rO 7 1 zM),(12,rP 8),(13,rI t13)],[(0,B.blk 33 [dL 8 qd b0]),(1,B.blk 76 [C.fn 31 [] []]),(2,B.blk 3 [dI b2]),(3,B.blk 32 [dI QW,dI J4,dI J5]),(4,B.blk 118 [C.fn 58 [] [dP 0,dP 1,dP 2,dP 3,dP 4,dP 5]]),(5,B.blk 76 [C.fn 32 [] []]),(6,B.blk 30 [dI q04,dI qcm,dI q1g,dL 2 qe q1h,dL 5 qg qcn]),(7,bR 4 1 eB w7),(8,B.blk 119 [dO 9 1 q0s]),(9,bR 3 1 eI w9)],10,142⟩=(qX (ZC rF w7 b0 b2 (qf.mk QW J4 J5) (qb.mk q04 qcm q1g q1h qcn)) (w9,t13)).bind (fun(e:List Int)=>some (Go.Exit.exit 2,⟨[(3,rP 2),(5,rP 4),(6,rP 5),(7,rP 6),(9,rO 7 1 w7.length),(12,rP 8)],[(0,B.blk 33 [dL 8 qd b0]),(1,B.blk 76 [C.fn 31 [] []]),(2,B.blk 3 [dI b2]),(3,B.blk 32 [dI QW,dI J4,dI J5]),(4,B.blk 118 [C.fn 58 [] [dP 0,dP 1,dP 2,dP 3,dP 4,dP 5]]),(5,B.blk 76 [C.fn 32 [] []]),(6,B.blk 30 [dI q04,dI qcm,dI q1g,dL 2 qe q1h,dL 5 qg qcn]),(7,bR 4 1 eB w7),(8,B.blk 119 [dO 9 1 e.length]),(9,bR 3 1 eI e)],10,142⟩)):=
 by
 intro w7 w9 b0 b2 QW J4 J5 q04 qcm q1g q1h qcn t13 zM q0s h0 h1
 subst h0 h1
 revert t13;revert w9;exact q6v qnq qld (fun e=>by exact⟨_,rfl,fun h=>by cases h⟩) fun w9 t13=>by
  have hF':∀(qw Z9 qG:Int) (qK:List qc) (Zf:List qb) (v:List qa) (v2 qL z8 za:Int),rE (.fn 58) 6 [R.agg [dI qw,dI Z9,dI qG,dL 2 qe qK,dL 5 qg Zf],rP 0,rP 1,rP 2,rP 3,rP 4,rP 5] [(0,B.blk 33 [dL 8 qd v]),(1,B.blk 76 [C.fn 31 [] []]),(2,B.blk 3 [dI v2]),(3,B.blk 32 [dI qL,dI z8,dI za]),(4,B.blk 118 [C.fn 58 [] [dP 0,dP 1,dP 2,dP 3,dP 4,dP 5]]),(5,B.blk 76 [C.fn 32 [] []])]=(rF ((qb.mk qw Z9 qG qK Zf),v,v2,(qf.mk qL z8 za))).bind (fun e=>some (rL 1 eB e.1,[(0,B.blk 33 [dL 8 qd e.2.1]),(1,B.blk 76 [C.fn 31 [] []]),(2,B.blk 3 [dI e.2.2.1]),(3,B.blk 32 [dI e.2.2.2.Worst,dI e.2.2.2.Best,dI e.2.2.2.Pass]),(4,B.blk 118 [C.fn 58 [] [dP 0,dP 1,dP 2,dP 3,dP 4,dP 5]]),(5,B.blk 76 [C.fn 32 [] []])])):=fun qw Z9 qG qK Zf v v2 qL z8 za=>hF ((qb.mk qw Z9 qG qK Zf),v,v2,(qf.mk qL z8 za))
  have:=qiy;have:=@qf5.eq_1;have:=@ZC.eq_1;exact gA
theorem qJb:okL 32 qop:=zb (qh qEp) (by kernel_rfl) (by kernel_rfl)
def qK8:=JA_ @qop.eq_1 (JA_ @Tryz.f32.eq_1 @qEp)
noncomputable def q4W (x0:Int) (x1:Int):Option Unit:=
 some ()
noncomputable def q8D (x0:Int) (x1:Int):Unit:=
 ()
theorem qbX (x0 x1:Int):q4W x0 x1=some (q8D x0 x1):=by
 unfold q4W q8D
 simp only[QZ]
theorem qdS:∀(x0 x1:Int),ev 32 0 [rI x0,rI x1] []=some (rB Bool.false,[]):=
 fun x0 x1=>by
  have h:ev 32 0 [rI x0,rI x1] []=(q4W x0 x1).bind (fun(e:Unit)=>some (rB Bool.false,[])):=by
   rw[zc qEp qGZ.2.2.2 qJb]
   have:=qK8;have:=@q4W.eq_1;exact gA
  rw[qbX] at h
  exact h
theorem qGU:okL 60 qjw:=zb (qh qBG) (by kernel_rfl) (by kernel_rfl)
def qGq:=JA_ @qjw.eq_1 (JA_ @Tryz.f60.eq_1 @qBG)
theorem qAC:lbO 60 1=qot:=Q9 (qh qBG) rfl
theorem qwD:okL 60 qot:=zB qGU (List.mem_of_getElem? (i:=0) (by kernel_rfl))
theorem qIC:okL 61 qmX:=zb (qh qDg) (by kernel_rfl) (by kernel_rfl)
def qHF:=JA_ @qmX.eq_1 (JA_ @Tryz.f61.eq_1 @qDg)
noncomputable def q1D (sub:Int) (rest:Int) (w4:List Int) (w5:List Int) (v:List Bool) (v2:Int):Option (List Int):=if 0≤sub∧sub<((v.length:Nat):Int) then Option.bind v[Int.toNat sub]? fun(a:Bool)=>if a=Bool.true then if 0≤rest∧rest<((w4.length:Nat):Int) then Option.bind w4[Int.toNat rest]? fun(a2:Int)=>if 0≤a2 then if 0≤v2∧v2<((w5.length:Nat):Int) then Option.bind w5[Int.toNat v2]? fun(a3:Int)=>if 0≤rest∧rest<((w4.length:Nat):Int) then Option.bind w4[Int.toNat rest]? fun(a4:Int)=>if 0≤v2∧v2<((w5.length:Nat):Int) then if Int.toNat v2+1≤w5.length then some (List.set w5 (Int.toNat v2) (max a3 (w64 (a4+1)))) else none else none else none else none else some w5 else none else some w5 else none
theorem qaa:∀(sub rest:Int) (w4 w5:List Int) (v:List Bool) (v2:Int) (Qj q7U:Nat),Qj=w4.length→q7U=w5.length→ev 61 4 [rI sub,rI rest,rP 0,rP 1,rP 2,rP 3] [(0,B.blk 77 [dL 1 eB v]),(1,B.blk 119 [dO 4 1 Qj]),(2,B.blk 119 [dO 5 1 q7U]),(3,B.blk 3 [dI v2]),(4,bR 3 1 eI w4),(5,bR 3 1 eI w5)]=(q1D sub rest w4 w5 v v2).bind (fun(e:List Int)=>some (R.tup [],[(0,B.blk 77 [dL 1 eB v]),(1,B.blk 119 [dO 4 1 w4.length]),(2,B.blk 119 [dO 5 1 e.length]),(3,B.blk 3 [dI v2]),(4,bR 3 1 eI w4),(5,bR 3 1 eI e)])):=
 by
 intro sub rest w4 w5 v v2 Qj q7U h0 h1
 subst h0 h1
 rw[zc qDg qFH.2.2.2 qIC]
 have:=qHF;have:=@q1D.eq_1;exact gA
noncomputable def Qi (w4:List Int) (b0:List Bool) (b3:Int) (set0:Int):(List Int×Int)→Option ((List Int×Int)⊕(List Int))|(w5,sub)=>if 0<sub then Option.bind (q1D sub (JH Go.BinOp.andNot Go.IntKind.i64 set0 sub) w4 w5 b0 b3) fun(a:List Int)=>some (Sum.inl (a,JH Go.BinOp.and Go.IntKind.i64 (w64 (sub-1)) set0)) else some (Sum.inr w5)
theorem q4J:∀(w4 w5:List Int) (b0:List Bool) (b3 set0 sub:Int) (Qj q7U:Nat),Qj=w4.length→q7U=w5.length→XL2 evo 60 4 1 ⟨[(1,rI set0),(2,R.c (C.fn 61 [] [dP 0,dP 1,dP 2,dP 3])),(6,rI sub)],[(0,B.blk 77 [dL 1 eB b0]),(1,B.blk 119 [dO 4 1 Qj]),(2,B.blk 119 [dO 5 1 q7U]),(3,B.blk 3 [dI b3]),(4,bR 3 1 eI w4),(5,bR 3 1 eI w5)],6,20⟩=(qX (Qi w4 b0 b3 set0) (w5,sub)).bind (fun(e:List Int)=>some (Go.Exit.exit 0,⟨[],[(0,B.blk 77 [dL 1 eB b0]),(1,B.blk 119 [dO 4 1 w4.length]),(2,B.blk 119 [dO 5 1 e.length]),(3,B.blk 3 [dI b3]),(4,bR 3 1 eI w4),(5,bR 3 1 eI e)],6,20⟩)):=
 by
 intro w4 w5 b0 b3 set0 sub Qj q7U h0 h1
 subst h0 h1
 revert sub;revert w5;exact q6v qAC qwD (fun e=>by exact⟨_,rfl,fun h=>by cases h⟩) fun w5 sub=>by
  have:=qGq;have:=@qot.eq_1;have:=@qaa;have:=@Qi.eq_1;exact gA
noncomputable def Qb (set0:Int) (t:List Int) (w5:List Int) (b0:List Bool) (b3:Int):Option (List Int):=Option.bind (qX (Qi t b0 b3 set0) (w5,set0)) fun(a:List Int)=>some a
theorem q2V:∀(set0:Int) (t w5:List Int) (b0:List Bool) (b3:Int) (qrb q7U:Nat),qrb=t.length→q7U=w5.length→ev 60 4 [rO 4 1 qrb,rI set0,R.c (C.fn 61 [] [dP 0,dP 1,dP 2,dP 3])] [(0,B.blk 77 [dL 1 eB b0]),(1,B.blk 119 [dO 4 1 qrb]),(2,B.blk 119 [dO 5 1 q7U]),(3,B.blk 3 [dI b3]),(4,bR 3 1 eI t),(5,bR 3 1 eI w5)]=(Qb set0 t w5 b0 b3).bind (fun(e:List Int)=>some (R.tup [],[(0,B.blk 77 [dL 1 eB b0]),(1,B.blk 119 [dO 4 1 t.length]),(2,B.blk 119 [dO 5 1 e.length]),(3,B.blk 3 [dI b3]),(4,bR 3 1 eI t),(5,bR 3 1 eI e)])):=
 by
 intro set0 t w5 b0 b3 qrb q7U h0 h1
 subst h0 h1
 rw[zc qBG qG1.2.2.2 qGU]
 have:=qGq;have:=@q4J;have:=@Qb.eq_1;exact gA
noncomputable def ZL (rF:(qb×List qa×Int×qf)→Option (List Bool×List qa×Int×qf)) (w7:List Bool) (w9:List Int) (b0:List qa) (b2:Int) (b3:qf) (b6:qb) (b10:List Bool) (t18:Bool) (t72:List qb) (t73:Int) (t74:Int) (t96:Int):(List Int×Int)→Option ((List Int×Int)⊕(List Int))|(w12,t97)=>if t97<t96 then if 0≤t97∧t97<((w12.length:Nat):Int) then if Int.toNat t97+1≤w12.length then if t18=Bool.true then if 0≤t97∧t97<((w9.length:Nat):Int) then Option.bind w9[Int.toNat t97]? fun(a2:Int)=>if 0≤t97∧t97<((w12.length:Nat):Int) then if Int.toNat t97+1≤w12.length then Option.bind (Qb t97 w9 (List.set (List.set w12 (Int.toNat t97) (-1)) (Int.toNat t97) a2) b10 t97) fun(a3:List Int)=>some (Sum.inl (a3,w64 (t97+1))) else none else none else none else Option.bind (Qb t97 w9 (List.set w12 (Int.toNat t97) (-1)) b10 t97) fun(a4:List Int)=>some (Sum.inl (a4,w64 (t97+1))) else none else none else some (Sum.inr w12)
theorem q8l (rE:Orc) (rF:(qb×List qa×Int×qf)→Option (List Bool×List qa×Int×qf)) (hF:∀y,rE (.fn 58) 6 (zD y).1 (zD y).2=(rF y).bind fun e=>some (Qq e)) (hM:∀g k a G,g≠58→rE (.fn g) k a G=ev g k a G) (hR:∀g asg bd k a G,rE (.rd g asg bd) k a G=evr g asg bd k a G):∀(w7:List Bool) (w9 w12:List Int) (b0:List qa) (b2 QW J4 J5 q04 qcm q1g:Int) (q1h:List qc) (qcn:List qb) (b10:List Bool) (t18:Bool) (t72:List qb) (t73 t74 t96 t97:Int) (zM q0s qif:Nat),zM=w7.length→q0s=w9.length→qif=w12.length→XL2 rE 58 6 25 ⟨[(3,rP 2),(5,rP 4),(6,rP 5),(7,rP 6),(9,rO 7 1 zM),(12,rP 8),(17,rP 10),(18,rB t18),(19,rP 11),(72,rL 5 qg t72),(73,rI t73),(74,rI t74),(96,rI t96),(97,rI t97)],[(0,B.blk 33 [dL 8 qd b0]),(1,B.blk 76 [C.fn 31 [] []]),(2,B.blk 3 [dI b2]),(3,B.blk 32 [dI QW,dI J4,dI J5]),(4,B.blk 118 [C.fn 58 [] [dP 0,dP 1,dP 2,dP 3,dP 4,dP 5]]),(5,B.blk 76 [C.fn 32 [] []]),(6,B.blk 30 [dI q04,dI qcm,dI q1g,dL 2 qe q1h,dL 5 qg qcn]),(7,bR 4 1 eB w7),(8,B.blk 119 [dO 9 1 q0s]),(9,bR 3 1 eI w9),(10,B.blk 77 [dL 1 eB b10]),(11,B.blk 119 [dO 12 1 qif]),(12,bR 3 1 eI w12)],13,142⟩=(qX (ZL rF w7 w9 b0 b2 (qf.mk QW J4 J5) (qb.mk q04 qcm q1g q1h qcn) b10 t18 t72 t73 t74 t96) (w12,t97)).bind (fun(e:List Int)=>some (Go.Exit.exit 6,⟨[(3,rP 2),(5,rP 4),(6,rP 5),(7,rP 6),(9,rO 7 1 w7.length),(12,rP 8),(19,rP 10),(72,rL 5 qg t72),(73,rI t73),(74,rI t74)],[(0,B.blk 33 [dL 8 qd b0]),(1,B.blk 76 [C.fn 31 [] []]),(2,B.blk 3 [dI b2]),(3,B.blk 32 [dI QW,dI J4,dI J5]),(4,B.blk 118 [C.fn 58 [] [dP 0,dP 1,dP 2,dP 3,dP 4,dP 5]]),(5,B.blk 76 [C.fn 32 [] []]),(6,B.blk 30 [dI q04,dI qcm,dI q1g,dL 2 qe q1h,dL 5 qg qcn]),(7,bR 4 1 eB w7),(8,B.blk 119 [dO 9 1 w9.length]),(9,bR 3 1 eI w9),(10,B.blk 119 [dO 11 1 e.length]),(11,bR 3 1 eI e)],12,142⟩)):=
 by
 intro w7 w9 w12 b0 b2 QW J4 J5 q04 qcm q1g q1h qcn b10 t18 t72 t73 t74 t96 t97 zM q0s qif h0 h1 h2
 subst h0 h1 h2
 revert t97;revert w12;exact q6v qm4 qnG (fun e=>by exact⟨_,rfl,fun h=>by cases h⟩) fun w12 t97=>by
  have hF':∀(qw Z9 qG:Int) (qK:List qc) (Zf:List qb) (v:List qa) (v2 qL z8 za:Int),rE (.fn 58) 6 [R.agg [dI qw,dI Z9,dI qG,dL 2 qe qK,dL 5 qg Zf],rP 0,rP 1,rP 2,rP 3,rP 4,rP 5] [(0,B.blk 33 [dL 8 qd v]),(1,B.blk 76 [C.fn 31 [] []]),(2,B.blk 3 [dI v2]),(3,B.blk 32 [dI qL,dI z8,dI za]),(4,B.blk 118 [C.fn 58 [] [dP 0,dP 1,dP 2,dP 3,dP 4,dP 5]]),(5,B.blk 76 [C.fn 32 [] []])]=(rF ((qb.mk qw Z9 qG qK Zf),v,v2,(qf.mk qL z8 za))).bind (fun e=>some (rL 1 eB e.1,[(0,B.blk 33 [dL 8 qd e.2.1]),(1,B.blk 76 [C.fn 31 [] []]),(2,B.blk 3 [dI e.2.2.1]),(3,B.blk 32 [dI e.2.2.2.Worst,dI e.2.2.2.Best,dI e.2.2.2.Pass]),(4,B.blk 118 [C.fn 58 [] [dP 0,dP 1,dP 2,dP 3,dP 4,dP 5]]),(5,B.blk 76 [C.fn 32 [] []])])):=fun qw Z9 qG qK Zf v v2 qL z8 za=>hF ((qb.mk qw Z9 qG qK Zf),v,v2,(qf.mk qL z8 za))
  have:=qiy;have:=@qfK.eq_1;have:=@q2V;have:=@ZL.eq_1;exact gA
noncomputable def ZG (rF:(qb×List qa×Int×qf)→Option (List Bool×List qa×Int×qf)) (w7:List Bool) (b6:qb) (t72:List qb) (t73:Int):(List Int×List qa×Int×qf×Int)→Option ((List Int×List qa×Int×qf×Int)⊕(List Int×List qa×Int×qf))|(w9,b0,b2,b3,t74)=>if t74<t73 then if 0≤t74∧t74<((t72.length:Nat):Int) then Option.bind t72[Int.toNat t74]? fun(a2:qb)=>Option.bind (rF (a2,(b0,(b2,b3)))) fun(a3:Prod (List Bool) (Prod (List qa) (Prod Int qf)))=>if(b6.Kind==4)=Bool.true then if 0≤((w9.length:Nat):Int)∧8*((w9.length:Nat):Int)≤281474976710656∧((w9.length:Nat):Int)≤9223372036854775807 then Option.bind (qX (ZL rF w7 w9 a3.2.1 a3.2.2.1 a3.2.2.2 b6 a3.1 Bool.true t72 t73 t74 ((w9.length:Nat):Int)) (List.replicate w9.length 0,0)) fun(a4:List Int)=>some (Sum.inl (a4,a3.2.1,a3.2.2.1,a3.2.2.2,w64 (t74+1))) else none else if 0≤((w9.length:Nat):Int)∧8*((w9.length:Nat):Int)≤281474976710656∧((w9.length:Nat):Int)≤9223372036854775807 then Option.bind (qX (ZL rF w7 w9 a3.2.1 a3.2.2.1 a3.2.2.2 b6 a3.1 Bool.false t72 t73 t74 ((w9.length:Nat):Int)) (List.replicate w9.length 0,0)) fun(a5:List Int)=>some (Sum.inl (a5,a3.2.1,a3.2.2.1,a3.2.2.2,w64 (t74+1))) else none else none else some (Sum.inr (w9,b0,b2,b3))
theorem q8s (rE:Orc) (rF:(qb×List qa×Int×qf)→Option (List Bool×List qa×Int×qf)) (hF:∀y,rE (.fn 58) 6 (zD y).1 (zD y).2=(rF y).bind fun e=>some (Qq e)) (hM:∀g k a G,g≠58→rE (.fn g) k a G=ev g k a G) (hR:∀g asg bd k a G,rE (.rd g asg bd) k a G=evr g asg bd k a G):∀(w7:List Bool) (w9:List Int) (b0:List qa) (b2 QW J4 J5 q04 qcm q1g:Int) (q1h:List qc) (qcn t72:List qb) (t73 t74:Int) (zM q0s:Nat),zM=w7.length→q0s=w9.length→XL2 rE 58 6 18 ⟨[(3,rP 2),(5,rP 4),(6,rP 5),(7,rP 6),(9,rO 7 1 zM),(12,rP 8),(72,rL 5 qg t72),(73,rI t73),(74,rI t74)],[(0,B.blk 33 [dL 8 qd b0]),(1,B.blk 76 [C.fn 31 [] []]),(2,B.blk 3 [dI b2]),(3,B.blk 32 [dI QW,dI J4,dI J5]),(4,B.blk 118 [C.fn 58 [] [dP 0,dP 1,dP 2,dP 3,dP 4,dP 5]]),(5,B.blk 76 [C.fn 32 [] []]),(6,B.blk 30 [dI q04,dI qcm,dI q1g,dL 2 qe q1h,dL 5 qg qcn]),(7,bR 4 1 eB w7),(8,B.blk 119 [dO 9 1 q0s]),(9,bR 3 1 eI w9)],10,142⟩=(qX (ZG rF w7 (qb.mk q04 qcm q1g q1h qcn) t72 t73) (w9,b0,b2,(qf.mk QW J4 J5),t74)).bind (fun(e:List Int×List qa×Int×qf)=>some (Go.Exit.exit 4,⟨[(7,rP 6),(9,rO 7 1 w7.length),(12,rP 8)],[(0,B.blk 33 [dL 8 qd e.2.1]),(1,B.blk 76 [C.fn 31 [] []]),(2,B.blk 3 [dI e.2.2.1]),(3,B.blk 32 [dI e.2.2.2.Worst,dI e.2.2.2.Best,dI e.2.2.2.Pass]),(4,B.blk 118 [C.fn 58 [] [dP 0,dP 1,dP 2,dP 3,dP 4,dP 5]]),(5,B.blk 76 [C.fn 32 [] []]),(6,B.blk 30 [dI q04,dI qcm,dI q1g,dL 2 qe q1h,dL 5 qg qcn]),(7,bR 4 1 eB w7),(8,B.blk 119 [dO 9 1 e.1.length]),(9,bR 3 1 eI e.1)],10,142⟩)):=
 by
 intro w7 w9 b0 b2 QW J4 J5 q04 qcm q1g q1h qcn t72 t73 t74 zM q0s h0 h1
 subst h0 h1
 have h:=q3T (E:=rE) (f:=58) (k:=6) (st:=fun x:List Int×List qa×Int×qf×Int=>(⟨[(3,rP 2),(5,rP 4),(6,rP 5),(7,rP 6),(9,rO 7 1 w7.length),(12,rP 8),(72,rL 5 qg t72),(73,rI t73),(74,rI x.2.2.2.2)],[(0,B.blk 33 [dL 8 qd x.2.1]),(1,B.blk 76 [C.fn 31 [] []]),(2,B.blk 3 [dI x.2.2.1]),(3,B.blk 32 [dI x.2.2.2.1.Worst,dI x.2.2.2.1.Best,dI x.2.2.2.1.Pass]),(4,B.blk 118 [C.fn 58 [] [dP 0,dP 1,dP 2,dP 3,dP 4,dP 5]]),(5,B.blk 76 [C.fn 32 [] []]),(6,B.blk 30 [dI q04,dI qcm,dI q1g,dL 2 qe q1h,dL 5 qg qcn]),(7,bR 4 1 eB w7),(8,B.blk 119 [dO 9 1 x.1.length]),(9,bR 3 1 eI x.1)],10,142⟩:S)) (ex:=fun(e:List Int×List qa×Int×qf)=>(Go.Exit.exit 4,⟨[(7,rP 6),(9,rO 7 1 w7.length),(12,rP 8)],[(0,B.blk 33 [dL 8 qd e.2.1]),(1,B.blk 76 [C.fn 31 [] []]),(2,B.blk 3 [dI e.2.2.1]),(3,B.blk 32 [dI e.2.2.2.Worst,dI e.2.2.2.Best,dI e.2.2.2.Pass]),(4,B.blk 118 [C.fn 58 [] [dP 0,dP 1,dP 2,dP 3,dP 4,dP 5]]),(5,B.blk 76 [C.fn 32 [] []]),(6,B.blk 30 [dI q04,dI qcm,dI q1g,dL 2 qe q1h,dL 5 qg qcn]),(7,bR 4 1 eB w7),(8,B.blk 119 [dO 9 1 e.1.length]),(9,bR 3 1 eI e.1)],10,142⟩)) (step:=(ZG rF w7 (qb.mk q04 qcm q1g q1h qcn) t72 t73)) qnt qlI (fun e h=>by cases h) (fun x=>by
  obtain⟨w9,b0,b2,b3,t74⟩:=x;have hF':∀(qw Z9 qG:Int) (qK:List qc) (Zf:List qb) (v:List qa) (v2 qL z8 za:Int),rE (.fn 58) 6 [R.agg [dI qw,dI Z9,dI qG,dL 2 qe qK,dL 5 qg Zf],rP 0,rP 1,rP 2,rP 3,rP 4,rP 5] [(0,B.blk 33 [dL 8 qd v]),(1,B.blk 76 [C.fn 31 [] []]),(2,B.blk 3 [dI v2]),(3,B.blk 32 [dI qL,dI z8,dI za]),(4,B.blk 118 [C.fn 58 [] [dP 0,dP 1,dP 2,dP 3,dP 4,dP 5]]),(5,B.blk 76 [C.fn 32 [] []])]=(rF ((qb.mk qw Z9 qG qK Zf),v,v2,(qf.mk qL z8 za))).bind (fun e=>some (rL 1 eB e.1,[(0,B.blk 33 [dL 8 qd e.2.1]),(1,B.blk 76 [C.fn 31 [] []]),(2,B.blk 3 [dI e.2.2.1]),(3,B.blk 32 [dI e.2.2.2.Worst,dI e.2.2.2.Best,dI e.2.2.2.Pass]),(4,B.blk 118 [C.fn 58 [] [dP 0,dP 1,dP 2,dP 3,dP 4,dP 5]]),(5,B.blk 76 [C.fn 32 [] []])])):=fun qw Z9 qG qK Zf v v2 qL z8 za=>hF ((qb.mk qw Z9 qG qK Zf),v,v2,(qf.mk qL z8 za))
  have:=qiy;have:=@qeX.eq_1;have:=@qdS;have:=q8l rE rF hF hM hR;have:=@ZG.eq_1;exact gA) (w9,b0,b2,(qf.mk QW J4 J5),t74)
 exact h
noncomputable def ZJ (rF:(qb×List qa×Int×qf)→Option (List Bool×List qa×Int×qf)) (w8:List Int) (b0:List qa) (b2:Int) (b3:qf) (t21:Int):(List Bool×Int)→Option ((List Bool×Int)⊕(List Bool))|(w6,t22)=>if t22<((w6.length:Nat):Int) then if 0≤t22∧t22<((w8.length:Nat):Int) then Option.bind w8[Int.toNat t22]? fun(a2:Int)=>if 0≤t22∧t22<((w6.length:Nat):Int) then if Int.toNat t22+1≤w6.length then some (Sum.inl (List.set w6 (Int.toNat t22) (decide (t21≤a2)),w64 (t22+1))) else none else none else none else some (Sum.inr w6)
theorem q8h (rE:Orc) (rF:(qb×List qa×Int×qf)→Option (List Bool×List qa×Int×qf)) (hF:∀y,rE (.fn 58) 6 (zD y).1 (zD y).2=(rF y).bind fun e=>some (Qq e)) (hM:∀g k a G,g≠58→rE (.fn g) k a G=ev g k a G) (hR:∀g asg bd k a G,rE (.rd g asg bd) k a G=evr g asg bd k a G):∀(w6:List Bool) (w8:List Int) (b0:List qa) (b2 QW J4 J5 t21 t22:Int) (qoK qdW:Nat),qoK=w6.length→qdW=w8.length→XL2 rE 58 6 38 ⟨[(9,rO 6 1 qoK),(12,rP 7),(21,rI t21),(22,rI t22)],[(0,B.blk 33 [dL 8 qd b0]),(1,B.blk 76 [C.fn 31 [] []]),(2,B.blk 3 [dI b2]),(3,B.blk 32 [dI QW,dI J4,dI J5]),(4,B.blk 118 [C.fn 58 [] [dP 0,dP 1,dP 2,dP 3,dP 4,dP 5]]),(5,B.blk 76 [C.fn 32 [] []]),(6,bR 4 1 eB w6),(7,B.blk 119 [dO 8 1 qdW]),(8,bR 3 1 eI w8)],9,142⟩=(qX (ZJ rF w8 b0 b2 (qf.mk QW J4 J5) t21) (w6,t22)).bind (fun(e:List Bool)=>some (Go.Exit.exit 8,⟨[(9,rO 6 1 e.length)],[(0,B.blk 33 [dL 8 qd b0]),(1,B.blk 76 [C.fn 31 [] []]),(2,B.blk 3 [dI b2]),(3,B.blk 32 [dI QW,dI J4,dI J5]),(4,B.blk 118 [C.fn 58 [] [dP 0,dP 1,dP 2,dP 3,dP 4,dP 5]]),(5,B.blk 76 [C.fn 32 [] []]),(6,bR 4 1 eB e)],7,142⟩)):=
 by
 intro w6 w8 b0 b2 QW J4 J5 t21 t22 qoK qdW h0 h1
 subst h0 h1
 revert t22;revert w6;exact q6v qme qln (fun e=>by exact⟨_,rfl,fun h=>by cases h⟩) fun w6 t22=>by
  have hF':∀(qw Z9 qG:Int) (qK:List qc) (Zf:List qb) (v:List qa) (v2 qL z8 za:Int),rE (.fn 58) 6 [R.agg [dI qw,dI Z9,dI qG,dL 2 qe qK,dL 5 qg Zf],rP 0,rP 1,rP 2,rP 3,rP 4,rP 5] [(0,B.blk 33 [dL 8 qd v]),(1,B.blk 76 [C.fn 31 [] []]),(2,B.blk 3 [dI v2]),(3,B.blk 32 [dI qL,dI z8,dI za]),(4,B.blk 118 [C.fn 58 [] [dP 0,dP 1,dP 2,dP 3,dP 4,dP 5]]),(5,B.blk 76 [C.fn 32 [] []])]=(rF ((qb.mk qw Z9 qG qK Zf),v,v2,(qf.mk qL z8 za))).bind (fun e=>some (rL 1 eB e.1,[(0,B.blk 33 [dL 8 qd e.2.1]),(1,B.blk 76 [C.fn 31 [] []]),(2,B.blk 3 [dI e.2.2.1]),(3,B.blk 32 [dI e.2.2.2.Worst,dI e.2.2.2.Best,dI e.2.2.2.Pass]),(4,B.blk 118 [C.fn 58 [] [dP 0,dP 1,dP 2,dP 3,dP 4,dP 5]]),(5,B.blk 76 [C.fn 32 [] []])])):=fun qw Z9 qG qK Zf v v2 qL z8 za=>hF ((qb.mk qw Z9 qG qK Zf),v,v2,(qf.mk qL z8 za))
  have:=qiy;have:=@qf9.eq_1;have:=@ZJ.eq_1;exact gA
noncomputable def q1r (rF:(qb×List qa×Int×qf)→Option (List Bool×List qa×Int×qf)):(qb×List qa×Int×qf)→Option (List Bool×List qa×Int×qf)|(x0,v,v2,v3)=>if 0≤((v.length:Nat):Int) then if 0≤w64 (1*2 ^ min v.length (Go.IntKind.bits Go.IntKind.i64))∧1*w64 (1*2 ^ min v.length (Go.IntKind.bits Go.IntKind.i64))≤281474976710656∧w64 (1*2 ^ min v.length (Go.IntKind.bits Go.IntKind.i64))≤9223372036854775807 then if q0z x0=Bool.true then Option.bind (q1I x0.Kind) fun(a2:Sum Unit Unit)=>Sum.elim (fun(a3:Unit)=>Option.bind (qX (JI rF v v2 v3 x0) (List.replicate (Int.toNat (w64 (1*2 ^ min v.length (Go.IntKind.bits Go.IntKind.i64)))) Bool.false,1)) fun(a5:List Bool)=>some (a5,v,w64 (v2+1),v3)) (fun(a4:Unit)=>Option.bind (qX (JF rF v v2 v3 x0) (List.replicate (Int.toNat (w64 (1*2 ^ min v.length (Go.IntKind.bits Go.IntKind.i64)))) Bool.false,1)) fun(a6:List Bool)=>some (a6,v,w64 (v2+1),v3)) a2 else if 0≤((Int.toNat (w64 (1*2 ^ min v.length (Go.IntKind.bits Go.IntKind.i64))):Nat):Int)∧8*((Int.toNat (w64 (1*2 ^ min v.length (Go.IntKind.bits Go.IntKind.i64))):Nat):Int)≤281474976710656∧((Int.toNat (w64 (1*2 ^ min v.length (Go.IntKind.bits Go.IntKind.i64))):Nat):Int)≤9223372036854775807 then Option.bind (qX (ZC rF (List.replicate (Int.toNat (w64 (1*2 ^ min v.length (Go.IntKind.bits Go.IntKind.i64)))) Bool.false) v v2 v3 x0) (List.replicate (Int.toNat (w64 (1*2 ^ min v.length (Go.IntKind.bits Go.IntKind.i64)))) 0,1)) fun(a7:List Int)=>Option.bind (qX (ZG rF (List.replicate (Int.toNat (w64 (1*2 ^ min v.length (Go.IntKind.bits Go.IntKind.i64)))) Bool.false) x0 x0.L ((x0.L.length:Nat):Int)) (a7,(v,(v2,(v3,0))))) fun(a8:Prod (List Int) (Prod (List qa) (Prod Int qf)))=>if(x0.Kind==3)=Bool.true then Option.bind (qX (ZJ rF a8.1 a8.2.1 a8.2.2.1 a8.2.2.2 ((x0.L.length:Nat):Int)) (List.replicate (Int.toNat (w64 (1*2 ^ min v.length (Go.IntKind.bits Go.IntKind.i64)))) Bool.false,1)) fun(a9:List Bool)=>some (a9,a8.2.1,a8.2.2.1,a8.2.2.2) else Option.bind (qX (ZJ rF a8.1 a8.2.1 a8.2.2.1 a8.2.2.2 x0.N) (List.replicate (Int.toNat (w64 (1*2 ^ min v.length (Go.IntKind.bits Go.IntKind.i64)))) Bool.false,1)) fun(a10:List Bool)=>some (a10,a8.2.1,a8.2.2.1,a8.2.2.2) else none else none else none
theorem q6B:q4u 58 6 zD Qq q1r:=by
 intro rE rF hF hM hR x
 obtain⟨x0,v,v2,v3⟩:=x
 show q78 rE 58 6 [R.agg [dI x0.Kind,dI x0.N,dI x0.Min,dL 2 qe x0.Set,dL 5 qg x0.L],rP 0,rP 1,rP 2,rP 3,rP 4,rP 5] [(0,B.blk 33 [dL 8 qd v]),(1,B.blk 76 [C.fn 31 [] []]),(2,B.blk 3 [dI v2]),(3,B.blk 32 [dI v3.Worst,dI v3.Best,dI v3.Pass]),(4,B.blk 118 [C.fn 58 [] [dP 0,dP 1,dP 2,dP 3,dP 4,dP 5]]),(5,B.blk 76 [C.fn 32 [] []])]=_
 have hF':∀(qw Z9 qG:Int) (qK:List qc) (Zf:List qb) (v:List qa) (v2 qL z8 za:Int),rE (.fn 58) 6 [R.agg [dI qw,dI Z9,dI qG,dL 2 qe qK,dL 5 qg Zf],rP 0,rP 1,rP 2,rP 3,rP 4,rP 5] [(0,B.blk 33 [dL 8 qd v]),(1,B.blk 76 [C.fn 31 [] []]),(2,B.blk 3 [dI v2]),(3,B.blk 32 [dI qL,dI z8,dI za]),(4,B.blk 118 [C.fn 58 [] [dP 0,dP 1,dP 2,dP 3,dP 4,dP 5]]),(5,B.blk 76 [C.fn 32 [] []])]=(rF ((qb.mk qw Z9 qG qK Zf),v,v2,(qf.mk qL z8 za))).bind (fun e=>some (rL 1 eB e.1,[(0,B.blk 33 [dL 8 qd e.2.1]),(1,B.blk 76 [C.fn 31 [] []]),(2,B.blk 3 [dI e.2.2.1]),(3,B.blk 32 [dI e.2.2.2.Worst,dI e.2.2.2.Best,dI e.2.2.2.Pass]),(4,B.blk 118 [C.fn 58 [] [dP 0,dP 1,dP 2,dP 3,dP 4,dP 5]]),(5,B.blk 76 [C.fn 32 [] []])])):=fun qw Z9 qG qK Zf v v2 qL z8 za=>hF ((qb.mk qw Z9 qG qK Zf),v,v2,(qf.mk qL z8 za))
 rw[q1R qqr qsl]
 have:=qiy;have:=@q48;have:=@q5k;have:=q7f rE rF hF hM hR;have:=q7d rE rF hF hM hR;have:=q6I rE rF hF hM hR;have:=q8s rE rF hF hM hR;have:=q8h rE rF hF hM hR;have:=@q1r.eq_1;have:=@Qq.eq_1;exact gA
theorem q3X:∀x y,zD x=zD y→x=y:=by
 rintro⟨⟨qoU,qoV,qr5,qr6,qr7⟩,a1,a2,⟨qKs,qKt,qKu⟩⟩ ⟨⟨qoW,qoX,qr8,qr9,qra⟩,b1,b2,⟨qKv,qKw,qKx⟩⟩ h
 simp only[zD,Prod.mk.injEq,List.cons.injEq,R.c.injEq,R.agg.injEq,R.tup.injEq,C.d.injEq,C.own.injEq,C.ptr.injEq,C.eptr.injEq,D.int.injEq,D.bool.injEq,D.str.injEq,D.sl.injEq,B.blk.injEq,B.row.injEq,ZR,q0x,Je,Jm,q01,JX,JY,q1b,JV,q16,q18,ZS,true_and,and_true,List.nil_append] at h
 simp only[h]
theorem q8L:∀x y,Qq x=Qq y→x=y:=by
 rintro⟨a0,a1,a2,⟨qKs,qKt,qKu⟩⟩ ⟨b0,b1,b2,⟨qKv,qKw,qKx⟩⟩ h
 simp only[Qq,Prod.mk.injEq,List.cons.injEq,R.c.injEq,R.agg.injEq,R.tup.injEq,C.d.injEq,C.own.injEq,C.ptr.injEq,C.eptr.injEq,D.int.injEq,D.bool.injEq,D.str.injEq,D.sl.injEq,B.blk.injEq,B.row.injEq,ZR,q0x,Je,Jm,q01,JX,JY,q1b,JV,q16,q18,ZS,true_and,and_true,List.nil_append] at h
 simp only[h]
noncomputable def Qg:(qb×List qa×Int×qf)→Option (List Bool×List qa×Int×qf):=q5W 58 6 zD Qq
theorem qc8 (x:(qb×List qa×Int×qf)):Qg x=q1r Qg x:=q6D qwd.2.2.2 q3X q8L q6B x
theorem qaD (x0:qb) (v:List qa) (v2:Int) (v3:qf):ev 58 6 [R.agg [dI x0.Kind,dI x0.N,dI x0.Min,dL 2 qe x0.Set,dL 5 qg x0.L],rP 0,rP 1,rP 2,rP 3,rP 4,rP 5] [(0,B.blk 33 [dL 8 qd v]),(1,B.blk 76 [C.fn 31 [] []]),(2,B.blk 3 [dI v2]),(3,B.blk 32 [dI v3.Worst,dI v3.Best,dI v3.Pass]),(4,B.blk 118 [C.fn 58 [] [dP 0,dP 1,dP 2,dP 3,dP 4,dP 5]]),(5,B.blk 76 [C.fn 32 [] []])]=(Qg (x0,v,v2,v3)).bind (fun(e:List Bool×List qa×Int×qf)=>some (rL 1 eB e.1,[(0,B.blk 33 [dL 8 qd e.2.1]),(1,B.blk 76 [C.fn 31 [] []]),(2,B.blk 3 [dI e.2.2.1]),(3,B.blk 32 [dI e.2.2.2.Worst,dI e.2.2.2.Best,dI e.2.2.2.Pass]),(4,B.blk 118 [C.fn 58 [] [dP 0,dP 1,dP 2,dP 3,dP 4,dP 5]]),(5,B.blk 76 [C.fn 32 [] []])])):=(q56 qwd.2.2.2 q3X q6B (x0,v,v2,v3))
theorem qbK:∀(qw Z9 qG:Int) (qK:List qc) (Zf:List qb) (v:List qa) (v2 qL z8 za:Int),ev 58 6 [R.agg [dI qw,dI Z9,dI qG,dL 2 qe qK,dL 5 qg Zf],rP 0,rP 1,rP 2,rP 3,rP 4,rP 5] [(0,B.blk 33 [dL 8 qd v]),(1,B.blk 76 [C.fn 31 [] []]),(2,B.blk 3 [dI v2]),(3,B.blk 32 [dI qL,dI z8,dI za]),(4,B.blk 118 [C.fn 58 [] [dP 0,dP 1,dP 2,dP 3,dP 4,dP 5]]),(5,B.blk 76 [C.fn 32 [] []])]=(Qg ((qb.mk qw Z9 qG qK Zf),v,v2,(qf.mk qL z8 za))).bind (fun(e:List Bool×List qa×Int×qf)=>some (rL 1 eB e.1,[(0,B.blk 33 [dL 8 qd e.2.1]),(1,B.blk 76 [C.fn 31 [] []]),(2,B.blk 3 [dI e.2.2.1]),(3,B.blk 32 [dI e.2.2.2.Worst,dI e.2.2.2.Best,dI e.2.2.2.Pass]),(4,B.blk 118 [C.fn 58 [] [dP 0,dP 1,dP 2,dP 3,dP 4,dP 5]]),(5,B.blk 76 [C.fn 32 [] []])])):=
 fun qw Z9 qG qK Zf v v2 qL z8 za=>qaD (qb.mk qw Z9 qG qK Zf) v v2 (qf.mk qL z8 za)
noncomputable def q6m (n:qb) (s:qf) (l:List qa):Option (List Bool):=Option.bind (Qg (n,(l,(0,s)))) fun(a:Prod (List Bool) (Prod (List qa) (Prod Int qf)))=>some a.1
theorem qed:∀(qi n_N qs:Int) (qx:List qc) (n_L:List qb) (qz qO qP:Int) (l:List qa),ev 33 0 [R.agg [dI qi,dI n_N,dI qs,dL 2 qe qx,dL 5 qg n_L],R.agg [dI qz,dI qO,dI qP],rL 8 qd l,R.c (C.fn 31 [] []),R.c (C.fn 32 [] [])] []=(q6m (qb.mk qi n_N qs qx n_L) (qf.mk qz qO qP) l).bind (fun(e:List Bool)=>some (rL 1 eB e,[])):=
 fun qi n_N qs qx n_L qz qO qP l=>by
  rw[zc qBo qE7.2.2.2 qFX]
  have:=qGP;have:=@qbK;have:=@q6m.eq_1;exact gA
noncomputable def q1P (n:qb) (s:qf) (l:List qa):Option (List Bool×Int):=Option.bind (q1H n) fun(a:Int)=>if(a != 0)=Bool.true then some ([],a) else if 10<((l.length:Nat):Int) then some ([],2) else Option.bind (q6m n s l) fun(a2:List Bool)=>some (a2,0)
theorem q9M:∀(qi n_N qs:Int) (qx:List qc) (n_L:List qb) (qz qO qP:Int) (l:List qa),ev 12 0 [R.agg [dI qi,dI n_N,dI qs,dL 2 qe qx,dL 5 qg n_L],R.agg [dI qz,dI qO,dI qP],rL 8 qd l] []=(q1P (qb.mk qi n_N qs qx n_L) (qf.mk qz qO qP) l).bind (fun(e:List Bool×Int)=>some (R.tup [rL 1 eB e.1,rI e.2],[])):=
 fun qi n_N qs qx n_L qz qO qP l=>by
  rw[zc qDG qGy.2.2.2 qIN]
  have:=qIm;have:=@q7F;have:=@qed;have:=@q1P.eq_1;exact gA
theorem qc3:∀(Zz:Int) (Ju:ByteArray) (q29 q4g qas q36 ZA:Int) (Jv:ByteArray) (q2a q4h qat q37 ZB:Int) (Jw:ByteArray) (q2b q4i qau q38 qi n_N qs:Int) (qx:List qc) (n_L:List qb) (qz qO qP:Int),ev 12 0 [R.agg [dI qi,dI n_N,dI qs,dL 2 qe qx,dL 5 qg n_L],R.agg [dI qz,dI qO,dI qP],R.c (C.d (D.sl 8 3 [D.int .i64 Zz,D.str Ju,D.int .i64 q29,D.int .i64 q4g,D.int .i64 qas,D.sl 1 0 [],D.int .i64 q36,D.sl 1 0 [],D.int .i64 ZA,D.str Jv,D.int .i64 q2a,D.int .i64 q4h,D.int .i64 qat,D.sl 1 0 [],D.int .i64 q37,D.sl 1 0 [],D.int .i64 ZB,D.str Jw,D.int .i64 q2b,D.int .i64 q4i,D.int .i64 qau,D.sl 1 0 [],D.int .i64 q38,D.sl 1 0 []]))] []=(q1P (qb.mk qi n_N qs qx n_L) (qf.mk qz qO qP) [(qa.mk (qc.mk Zz Ju) q29 q4g qas [] q36 []),(qa.mk (qc.mk ZA Jv) q2a q4h qat [] q37 []),(qa.mk (qc.mk ZB Jw) q2b q4i qau [] q38 [])]).bind (fun(e:List Bool×Int)=>some (R.tup [rL 1 eB e.1,rI e.2],[])):=by
 intro Zz Ju q29 q4g qas q36 ZA Jv q2a q4h qat q37 ZB Jw q2b q4i qau q38 qi n_N qs qx n_L qz qO qP;have h:=q9M ((qb.mk qi n_N qs qx n_L)).Kind ((qb.mk qi n_N qs qx n_L)).N ((qb.mk qi n_N qs qx n_L)).Min ((qb.mk qi n_N qs qx n_L)).Set ((qb.mk qi n_N qs qx n_L)).L ((qf.mk qz qO qP)).Worst ((qf.mk qz qO qP)).Best ((qf.mk qz qO qP)).Pass [(qa.mk (qc.mk Zz Ju) q29 q4g qas [] q36 []),(qa.mk (qc.mk ZA Jv) q2a q4h qat [] q37 []),(qa.mk (qc.mk ZB Jw) q2b q4i qau [] q38 [])]
 first
  | exact h
  | (simp only[rL,dL,bR,bZ,Nat.reduceAdd] at h;exact h)
theorem qGh:okL 40 qiL:=zb (qh qBh) (by kernel_rfl) (by kernel_rfl)
def qFD:=JA_ @qiL.eq_1 (JA_ @Tryz.f40.eq_1 @qBh)
theorem qzy:lbO 40 2=qms:=Q9 (qh qBh) rfl
theorem qyM:okL 40 qms:=zB qGh (List.mem_of_getElem? (i:=0) (by kernel_rfl))
end Go.Proofs.YtgejdfnidjnjcaaGreat.Vc
namespace Go.Proofs.YtgejdfnidjnjcaaGreat.Vc
open Go.RowKit
set_option maxRecDepth 20000
set_option maxHeartbeats 8000000
noncomputable def q0k (w1:List Int) (leaf:Int) (set0:Int) (t9:Int):Int→Option (Int⊕(Unit⊕Unit))|t10=>if t10<t9 then if 0≤t10∧t10<((w1.length:Nat):Int) then Option.bind w1[Int.toNat t10]? fun(a:Int)=>if 0≤t10 then if(!((JH Go.BinOp.and Go.IntKind.i64 (Int.fdiv set0 (2 ^ min (Int.toNat t10) (Go.IntKind.bits Go.IntKind.i64))) 1==1)==(a==leaf)))=Bool.true then some (Sum.inr (Sum.inl ())) else some (Sum.inl (w64 (t10+1))) else none else none else some (Sum.inr (Sum.inr ()))
theorem q8k:∀(w1:List Int) (leaf set0 t9 t10:Int) (qQ:Nat),qQ=w1.length→XL2 evo 40 1 2 ⟨[(0,rI leaf),(1,rI set0),(8,rO 1 1 qQ),(9,rI t9),(10,rI t10)],[(0,B.blk 22 [dO 1 1 qQ]),(1,bR 3 1 eI w1)],2,25⟩=(qX (q0k w1 leaf set0 t9) t10).bind (Sum.elim (fun(e:Unit)=>some (Go.Exit.ret,⟨[(5,rB Bool.false)],[(0,B.blk 22 [dO 1 1 w1.length]),(1,bR 3 1 eI w1)],2,25⟩)) (fun(e:Unit)=>some (Go.Exit.exit 0,⟨[(5,R.any)],[(0,B.blk 22 [dO 1 1 w1.length]),(1,bR 3 1 eI w1)],2,25⟩))):=
 by
 intro w1 leaf set0 t9 t10 qQ h0
 subst h0
 revert t10;exact qaQ qzy qyM (fun e=>by rcases e with _|_<;>exact⟨_,rfl,fun h=>by cases h⟩) fun x=>by
  have:=qFD;have:=@qms.eq_1;have:=@q0k.eq_1;exact gA
noncomputable def q1l (leaf:Int) (set0:Int) (w1:List Int):Option Bool:=Option.bind (qX (q0k w1 leaf set0 ((w1.length:Nat):Int)) 0) fun(a:Sum Unit Unit)=>Sum.elim (fun(a2:Unit)=>some Bool.false) (fun(a3:Unit)=>some Bool.true) a
theorem q5B:∀(leaf set0:Int) (w1:List Int) (qQ:Nat),qQ=w1.length→ev 40 1 [rI leaf,rI set0,rP 0] [(0,B.blk 22 [dO 1 1 qQ]),(1,bR 3 1 eI w1)]=(q1l leaf set0 w1).bind (fun(e:Bool)=>some (rB e,[(0,B.blk 22 [dO 1 1 w1.length]),(1,bR 3 1 eI w1)])):=
 by
 intro leaf set0 w1 qQ h0
 subst h0
 rw[zc qBh qFc.2.2.2 qGh]
 have:=qFD;have:=@q8k;have:=@q1l.eq_1;exact gA
noncomputable def zt (x:(qb×List Int×List qa×Int×qf)):List R×List (Nat×B):=([R.agg [C.d (D.int .i64 x.1.Kind),C.d (D.int .i64 x.1.N),C.d (D.int .i64 x.1.Min),C.d (D.sl 2 x.1.Set.length (x.1.Set.flatMap qe)),C.d (D.sl 5 x.1.L.length (x.1.L.flatMap qg))],R.c (C.ptr 0 0),R.c (C.ptr 1 0),R.c (C.ptr 3 0),R.c (C.ptr 4 0),R.c (C.ptr 5 0),R.c (C.ptr 6 0)],[(0,B.blk 33 [C.d (D.sl 8 x.2.2.1.length (x.2.2.1.flatMap qd))]),(1,B.blk 76 [C.fn 40 [] [C.ptr 2 0]]),(2,B.blk 22 [C.own 7 1 0 x.2.1.length]),(3,B.blk 3 [C.d (D.int .i64 x.2.2.2.1)]),(4,B.blk 32 [C.d (D.int .i64 x.2.2.2.2.Worst),C.d (D.int .i64 x.2.2.2.2.Best),C.d (D.int .i64 x.2.2.2.2.Pass)]),(5,B.blk 118 [C.fn 58 [] [C.ptr 0 0,C.ptr 1 0,C.ptr 3 0,C.ptr 4 0,C.ptr 5 0,C.ptr 6 0]]),(6,B.blk 76 [C.fn 41 [] [C.ptr 2 0]]),(7,B.row 3 1 ((x.2.1.flatMap eI).map C.d))])
noncomputable def Q7:(List Bool×List Int×List qa×Int×qf)→R×List (Nat×B):=fun(e:List Bool×List Int×List qa×Int×qf)=>(R.c (C.d (D.sl 1 e.1.length (e.1.flatMap eB))),[(0,B.blk 33 [C.d (D.sl 8 e.2.2.1.length (e.2.2.1.flatMap qd))]),(1,B.blk 76 [C.fn 40 [] [C.ptr 2 0]]),(2,B.blk 22 [C.own 7 1 0 e.2.1.length]),(3,B.blk 3 [C.d (D.int .i64 e.2.2.2.1)]),(4,B.blk 32 [C.d (D.int .i64 e.2.2.2.2.Worst),C.d (D.int .i64 e.2.2.2.2.Best),C.d (D.int .i64 e.2.2.2.2.Pass)]),(5,B.blk 118 [C.fn 58 [] [C.ptr 0 0,C.ptr 1 0,C.ptr 3 0,C.ptr 4 0,C.ptr 5 0,C.ptr 6 0]]),(6,B.blk 76 [C.fn 41 [] [C.ptr 2 0]]),(7,B.row 3 1 ((e.2.1.flatMap eI).map C.d))])
noncomputable def JL (rF:(qb×List Int×List qa×Int×qf)→Option (List Bool×List Int×List qa×Int×qf)) (w7:List Int) (b0:List qa) (b3:Int) (b4:qf) (b8:qb):(List Bool×Int)→Option ((List Bool×Int)⊕(List Bool))|(w9,b10)=>if b10<((w9.length:Nat):Int) then Option.bind (q1l b3 b10 w7) fun(a2:Bool)=>if a2=Bool.true then Option.bind (q1z b8 b4 b0 b10) fun(a3:qJ)=>if 0≤b10∧b10<((w9.length:Nat):Int) then if Int.toNat b10+1≤w9.length then some (Sum.inl (List.set w9 (Int.toNat b10) (zZ a3 b8),w64 (b10+1))) else none else none else if 0≤b10∧b10<((w9.length:Nat):Int) then if Int.toNat b10+1≤w9.length then some (Sum.inl (List.set w9 (Int.toNat b10) Bool.false,w64 (b10+1))) else none else none else some (Sum.inr w9)
theorem q7I (rE:Orc) (rF:(qb×List Int×List qa×Int×qf)→Option (List Bool×List Int×List qa×Int×qf)) (hF:∀y,rE (.fn 58) 7 (zt y).1 (zt y).2=(rF y).bind fun e=>some (Q7 e)) (hM:∀g k a G,g≠58→rE (.fn g) k a G=ev g k a G) (hR:∀g asg bd k a G,rE (.rd g asg bd) k a G=evr g asg bd k a G):∀(w7:List Int) (w9:List Bool) (b0:List qa) (b3 QX J6 J7 q05 qco q1i:Int) (q1j:List qc) (qcp:List qb) (b10:Int) (q0s zM:Nat),q0s=w9.length→zM=w7.length→XL2 rE 58 7 5 ⟨[(1,rP 0),(2,rP 1),(3,rP 3),(4,rP 4),(7,rP 8),(9,rO 9 1 q0s),(10,R.c (C.fn 73 [] [])),(11,rP 10)],[(0,B.blk 33 [dL 8 qd b0]),(1,B.blk 76 [C.fn 40 [] [dP 2]]),(2,B.blk 22 [dO 7 1 zM]),(3,B.blk 3 [dI b3]),(4,B.blk 32 [dI QX,dI J6,dI J7]),(5,B.blk 118 [C.fn 58 [] [dP 0,dP 1,dP 3,dP 4,dP 5,dP 6]]),(6,B.blk 76 [C.fn 41 [] [dP 2]]),(7,bR 3 1 eI w7),(8,B.blk 30 [dI q05,dI qco,dI q1i,dL 2 qe q1j,dL 5 qg qcp]),(9,bR 4 1 eB w9),(10,B.blk 3 [dI b10])],11,142⟩=(qX (JL rF w7 b0 b3 (qf.mk QX J6 J7) (qb.mk q05 qco q1i q1j qcp)) (w9,b10)).bind (fun(e:List Bool)=>some (Go.Exit.exit 0,⟨[(3,rP 3),(9,rO 8 1 e.length)],[(0,B.blk 33 [dL 8 qd b0]),(1,B.blk 76 [C.fn 40 [] [dP 2]]),(2,B.blk 22 [dO 7 1 w7.length]),(3,B.blk 3 [dI b3]),(4,B.blk 32 [dI QX,dI J6,dI J7]),(5,B.blk 118 [C.fn 58 [] [dP 0,dP 1,dP 3,dP 4,dP 5,dP 6]]),(6,B.blk 76 [C.fn 41 [] [dP 2]]),(7,bR 3 1 eI w7),(8,bR 4 1 eB e)],9,142⟩)):=
 by
 intro w7 w9 b0 b3 QX J6 J7 q05 qco q1i q1j qcp b10 q0s zM h0 h1
 subst h0 h1
 revert b10;revert w9;exact q6v qjy qjm (fun e=>by exact⟨_,rfl,fun h=>by cases h⟩) fun w9 b10=>by
  have hF':∀(qw Z9 qG:Int) (qK:List qc) (Zf:List qb) (w7:List Int) (v:List qa) (v2 qL z8 za:Int) (zM:Nat),zM=w7.length→rE (.fn 58) 7 [R.agg [dI qw,dI Z9,dI qG,dL 2 qe qK,dL 5 qg Zf],rP 0,rP 1,rP 3,rP 4,rP 5,rP 6] [(0,B.blk 33 [dL 8 qd v]),(1,B.blk 76 [C.fn 40 [] [dP 2]]),(2,B.blk 22 [dO 7 1 zM]),(3,B.blk 3 [dI v2]),(4,B.blk 32 [dI qL,dI z8,dI za]),(5,B.blk 118 [C.fn 58 [] [dP 0,dP 1,dP 3,dP 4,dP 5,dP 6]]),(6,B.blk 76 [C.fn 41 [] [dP 2]]),(7,bR 3 1 eI w7)]=(rF ((qb.mk qw Z9 qG qK Zf),w7,v,v2,(qf.mk qL z8 za))).bind (fun e=>some (rL 1 eB e.1,[(0,B.blk 33 [dL 8 qd e.2.2.1]),(1,B.blk 76 [C.fn 40 [] [dP 2]]),(2,B.blk 22 [dO 7 1 e.2.1.length]),(3,B.blk 3 [dI e.2.2.2.1]),(4,B.blk 32 [dI e.2.2.2.2.Worst,dI e.2.2.2.2.Best,dI e.2.2.2.2.Pass]),(5,B.blk 118 [C.fn 58 [] [dP 0,dP 1,dP 3,dP 4,dP 5,dP 6]]),(6,B.blk 76 [C.fn 41 [] [dP 2]]),(7,bR 3 1 eI e.2.1)])):=by intro qw Z9 qG qK Zf w7 v v2 qL z8 za zM h0;subst h0;exact hF ((qb.mk qw Z9 qG qK Zf),w7,v,v2,(qf.mk qL z8 za))
  have:=qiy;have:=@qeG.eq_1;have:=@q5B;have:=@q3x;have:=@q2h;have:=@JL.eq_1;exact gA
noncomputable def Ja (rF:(qb×List Int×List qa×Int×qf)→Option (List Bool×List Int×List qa×Int×qf)) (w7:List Int) (b0:List qa) (b3:Int) (b4:qf) (b8:qb):(List Bool×Int)→Option ((List Bool×Int)⊕(List Bool))|(w9,b10)=>if b10<((w9.length:Nat):Int) then Option.bind (q1l b3 b10 w7) fun(a2:Bool)=>if a2=Bool.true then Option.bind (q1z b8 b4 b0 b10) fun(a3:qJ)=>if 0≤b10∧b10<((w9.length:Nat):Int) then if Int.toNat b10+1≤w9.length then some (Sum.inl (List.set w9 (Int.toNat b10) (Qr a3 b8),w64 (b10+1))) else none else none else if 0≤b10∧b10<((w9.length:Nat):Int) then if Int.toNat b10+1≤w9.length then some (Sum.inl (List.set w9 (Int.toNat b10) Bool.false,w64 (b10+1))) else none else none else some (Sum.inr w9)
theorem q5Z (rE:Orc) (rF:(qb×List Int×List qa×Int×qf)→Option (List Bool×List Int×List qa×Int×qf)) (hF:∀y,rE (.fn 58) 7 (zt y).1 (zt y).2=(rF y).bind fun e=>some (Q7 e)) (hM:∀g k a G,g≠58→rE (.fn g) k a G=ev g k a G) (hR:∀g asg bd k a G,rE (.rd g asg bd) k a G=evr g asg bd k a G):∀(w7:List Int) (w9:List Bool) (b0:List qa) (b3 QX J6 J7 q05 qco q1i:Int) (q1j:List qc) (qcp:List qb) (b10:Int) (q0s zM:Nat),q0s=w9.length→zM=w7.length→XL2 rE 58 7 5 ⟨[(1,rP 0),(2,rP 1),(3,rP 3),(4,rP 4),(7,rP 8),(9,rO 9 1 q0s),(10,R.c (C.fn 74 [] [])),(11,rP 10)],[(0,B.blk 33 [dL 8 qd b0]),(1,B.blk 76 [C.fn 40 [] [dP 2]]),(2,B.blk 22 [dO 7 1 zM]),(3,B.blk 3 [dI b3]),(4,B.blk 32 [dI QX,dI J6,dI J7]),(5,B.blk 118 [C.fn 58 [] [dP 0,dP 1,dP 3,dP 4,dP 5,dP 6]]),(6,B.blk 76 [C.fn 41 [] [dP 2]]),(7,bR 3 1 eI w7),(8,B.blk 30 [dI q05,dI qco,dI q1i,dL 2 qe q1j,dL 5 qg qcp]),(9,bR 4 1 eB w9),(10,B.blk 3 [dI b10])],11,142⟩=(qX (Ja rF w7 b0 b3 (qf.mk QX J6 J7) (qb.mk q05 qco q1i q1j qcp)) (w9,b10)).bind (fun(e:List Bool)=>some (Go.Exit.exit 0,⟨[(3,rP 3),(9,rO 8 1 e.length)],[(0,B.blk 33 [dL 8 qd b0]),(1,B.blk 76 [C.fn 40 [] [dP 2]]),(2,B.blk 22 [dO 7 1 w7.length]),(3,B.blk 3 [dI b3]),(4,B.blk 32 [dI QX,dI J6,dI J7]),(5,B.blk 118 [C.fn 58 [] [dP 0,dP 1,dP 3,dP 4,dP 5,dP 6]]),(6,B.blk 76 [C.fn 41 [] [dP 2]]),(7,bR 3 1 eI w7),(8,bR 4 1 eB e)],9,142⟩)):=
 by
 intro w7 w9 b0 b3 QX J6 J7 q05 qco q1i q1j qcp b10 q0s zM h0 h1
 subst h0 h1
 revert b10;revert w9;exact q6v qjy qjm (fun e=>by exact⟨_,rfl,fun h=>by cases h⟩) fun w9 b10=>by
  have hF':∀(qw Z9 qG:Int) (qK:List qc) (Zf:List qb) (w7:List Int) (v:List qa) (v2 qL z8 za:Int) (zM:Nat),zM=w7.length→rE (.fn 58) 7 [R.agg [dI qw,dI Z9,dI qG,dL 2 qe qK,dL 5 qg Zf],rP 0,rP 1,rP 3,rP 4,rP 5,rP 6] [(0,B.blk 33 [dL 8 qd v]),(1,B.blk 76 [C.fn 40 [] [dP 2]]),(2,B.blk 22 [dO 7 1 zM]),(3,B.blk 3 [dI v2]),(4,B.blk 32 [dI qL,dI z8,dI za]),(5,B.blk 118 [C.fn 58 [] [dP 0,dP 1,dP 3,dP 4,dP 5,dP 6]]),(6,B.blk 76 [C.fn 41 [] [dP 2]]),(7,bR 3 1 eI w7)]=(rF ((qb.mk qw Z9 qG qK Zf),w7,v,v2,(qf.mk qL z8 za))).bind (fun e=>some (rL 1 eB e.1,[(0,B.blk 33 [dL 8 qd e.2.2.1]),(1,B.blk 76 [C.fn 40 [] [dP 2]]),(2,B.blk 22 [dO 7 1 e.2.1.length]),(3,B.blk 3 [dI e.2.2.2.1]),(4,B.blk 32 [dI e.2.2.2.2.Worst,dI e.2.2.2.2.Best,dI e.2.2.2.2.Pass]),(5,B.blk 118 [C.fn 58 [] [dP 0,dP 1,dP 3,dP 4,dP 5,dP 6]]),(6,B.blk 76 [C.fn 41 [] [dP 2]]),(7,bR 3 1 eI e.2.1)])):=by intro qw Z9 qG qK Zf w7 v v2 qL z8 za zM h0;subst h0;exact hF ((qb.mk qw Z9 qG qK Zf),w7,v,v2,(qf.mk qL z8 za))
  have:=qiy;have:=@qeG.eq_1;have:=@q5B;have:=@q3x;have:=@q3t;have:=@Ja.eq_1;exact gA
noncomputable def ZD (rF:(qb×List Int×List qa×Int×qf)→Option (List Bool×List Int×List qa×Int×qf)) (w7:List Int) (w9:List Bool) (b0:List qa) (b3:Int) (b4:qf) (b8:qb):(List Int×Int)→Option ((List Int×Int)⊕(List Int))|(w11,t13)=>if t13<((w11.length:Nat):Int) then if 0≤t13∧t13<((w11.length:Nat):Int) then if Int.toNat t13+1≤w11.length then some (Sum.inl (List.set w11 (Int.toNat t13) (-1),w64 (t13+1))) else none else none else some (Sum.inr w11)
theorem q72 (rE:Orc) (rF:(qb×List Int×List qa×Int×qf)→Option (List Bool×List Int×List qa×Int×qf)) (hF:∀y,rE (.fn 58) 7 (zt y).1 (zt y).2=(rF y).bind fun e=>some (Q7 e)) (hM:∀g k a G,g≠58→rE (.fn g) k a G=ev g k a G) (hR:∀g asg bd k a G,rE (.rd g asg bd) k a G=evr g asg bd k a G):∀(w7:List Int) (w9:List Bool) (w11:List Int) (b0:List qa) (b3 QX J6 J7 q05 qco q1i:Int) (q1j:List qc) (qcp:List qb) (t13:Int) (q0s zM q4E:Nat),q0s=w9.length→zM=w7.length→q4E=w11.length→XL2 rE 58 7 14 ⟨[(3,rP 3),(5,rP 5),(6,rP 6),(7,rP 8),(9,rO 9 1 q0s),(12,rP 10),(13,rI t13)],[(0,B.blk 33 [dL 8 qd b0]),(1,B.blk 76 [C.fn 40 [] [dP 2]]),(2,B.blk 22 [dO 7 1 zM]),(3,B.blk 3 [dI b3]),(4,B.blk 32 [dI QX,dI J6,dI J7]),(5,B.blk 118 [C.fn 58 [] [dP 0,dP 1,dP 3,dP 4,dP 5,dP 6]]),(6,B.blk 76 [C.fn 41 [] [dP 2]]),(7,bR 3 1 eI w7),(8,B.blk 30 [dI q05,dI qco,dI q1i,dL 2 qe q1j,dL 5 qg qcp]),(9,bR 4 1 eB w9),(10,B.blk 119 [dO 11 1 q4E]),(11,bR 3 1 eI w11)],12,142⟩=(qX (ZD rF w7 w9 b0 b3 (qf.mk QX J6 J7) (qb.mk q05 qco q1i q1j qcp)) (w11,t13)).bind (fun(e:List Int)=>some (Go.Exit.exit 2,⟨[(3,rP 3),(5,rP 5),(6,rP 6),(7,rP 8),(9,rO 9 1 w9.length),(12,rP 10)],[(0,B.blk 33 [dL 8 qd b0]),(1,B.blk 76 [C.fn 40 [] [dP 2]]),(2,B.blk 22 [dO 7 1 w7.length]),(3,B.blk 3 [dI b3]),(4,B.blk 32 [dI QX,dI J6,dI J7]),(5,B.blk 118 [C.fn 58 [] [dP 0,dP 1,dP 3,dP 4,dP 5,dP 6]]),(6,B.blk 76 [C.fn 41 [] [dP 2]]),(7,bR 3 1 eI w7),(8,B.blk 30 [dI q05,dI qco,dI q1i,dL 2 qe q1j,dL 5 qg qcp]),(9,bR 4 1 eB w9),(10,B.blk 119 [dO 11 1 e.length]),(11,bR 3 1 eI e)],12,142⟩)):=
 by
 intro w7 w9 w11 b0 b3 QX J6 J7 q05 qco q1i q1j qcp t13 q0s zM q4E h0 h1 h2
 subst h0 h1 h2
 revert t13;revert w11;exact q6v qnq qld (fun e=>by exact⟨_,rfl,fun h=>by cases h⟩) fun w11 t13=>by
  have hF':∀(qw Z9 qG:Int) (qK:List qc) (Zf:List qb) (w7:List Int) (v:List qa) (v2 qL z8 za:Int) (zM:Nat),zM=w7.length→rE (.fn 58) 7 [R.agg [dI qw,dI Z9,dI qG,dL 2 qe qK,dL 5 qg Zf],rP 0,rP 1,rP 3,rP 4,rP 5,rP 6] [(0,B.blk 33 [dL 8 qd v]),(1,B.blk 76 [C.fn 40 [] [dP 2]]),(2,B.blk 22 [dO 7 1 zM]),(3,B.blk 3 [dI v2]),(4,B.blk 32 [dI qL,dI z8,dI za]),(5,B.blk 118 [C.fn 58 [] [dP 0,dP 1,dP 3,dP 4,dP 5,dP 6]]),(6,B.blk 76 [C.fn 41 [] [dP 2]]),(7,bR 3 1 eI w7)]=(rF ((qb.mk qw Z9 qG qK Zf),w7,v,v2,(qf.mk qL z8 za))).bind (fun e=>some (rL 1 eB e.1,[(0,B.blk 33 [dL 8 qd e.2.2.1]),(1,B.blk 76 [C.fn 40 [] [dP 2]]),(2,B.blk 22 [dO 7 1 e.2.1.length]),(3,B.blk 3 [dI e.2.2.2.1]),(4,B.blk 32 [dI e.2.2.2.2.Worst,dI e.2.2.2.2.Best,dI e.2.2.2.2.Pass]),(5,B.blk 118 [C.fn 58 [] [dP 0,dP 1,dP 3,dP 4,dP 5,dP 6]]),(6,B.blk 76 [C.fn 41 [] [dP 2]]),(7,bR 3 1 eI e.2.1)])):=by intro qw Z9 qG qK Zf w7 v v2 qL z8 za zM h0;subst h0;exact hF ((qb.mk qw Z9 qG qK Zf),w7,v,v2,(qf.mk qL z8 za))
  have:=qiy;have:=@qf5.eq_1;have:=@ZD.eq_1;exact gA
theorem qK0:okL 41 qo5:=zb (qh qEl) (by kernel_rfl) (by kernel_rfl)
def qI5:=JA_ @qo5.eq_1 (JA_ @Tryz.f41.eq_1 @qEl)
theorem qGs:okL 42 qlk:=zb (qh qBf) (by kernel_rfl) (by kernel_rfl)
def qGx:=JA_ @qlk.eq_1 (JA_ @Tryz.f42.eq_1 @qBf)
theorem qDT:okL 70 qjf:=zb (qh qAu) (by kernel_rfl) (by kernel_rfl)
def qBi:=JA_ @qjf.eq_1 (JA_ @Tryz.f70.eq_1 @qAu)
theorem qrh:lbO 70 2=qjM:=Q9 (qh qAu) rfl
theorem qrk:okL 70 qjM:=zB qDT (List.mem_of_getElem? (i:=0) (by kernel_rfl))
theorem qIG:okL 43 qnA:=zb (qh qCm) (by kernel_rfl) (by kernel_rfl)
def qJa:=JA_ @qnA.eq_1 (JA_ @Tryz.f43.eq_1 @qCm)
noncomputable def q2y (x:Int) (v:Int) (v2:Int):Option Bool:=if v≤x then some (decide (x<v2)) else some Bool.false
noncomputable def q0A (x:Int) (v:Int) (v2:Int):Bool:=if v≤x then decide (x<v2) else Bool.false
theorem q8w (x v v2:Int):q2y x v v2=some (q0A x v v2):=by
 unfold q2y q0A
 simp only[QZ]
theorem q99:∀(x v v2:Int),ev 43 2 [rI x,rP 0,rP 1] [(0,B.blk 3 [dI v]),(1,B.blk 3 [dI v2])]=some (rB (q0A x v v2),[(0,B.blk 3 [dI v]),(1,B.blk 3 [dI v2])]):=
 fun x v v2=>by
  have h:ev 43 2 [rI x,rP 0,rP 1] [(0,B.blk 3 [dI v]),(1,B.blk 3 [dI v2])]=(q2y x v v2).bind (fun(e:Bool)=>some (rB e,[(0,B.blk 3 [dI v]),(1,B.blk 3 [dI v2])])):=by
   rw[zc qCm qFo.2.2.2 qIG]
   have:=qJa;have:=@q2y.eq_1;exact gA
  rw[q8w] at h
  exact h
noncomputable def Qe (b0:Int) (b1:Int) (s:List Int) (t7:Int):Int→Option (Int⊕(Int⊕Unit))|t8=>if t8<t7 then if 0≤t8∧t8<((s.length:Nat):Int) then Option.bind s[Int.toNat t8]? fun(a:Int)=>if q0A a b0 b1=Bool.true then some (Sum.inr (Sum.inl t8)) else some (Sum.inl (w64 (t8+1))) else none else some (Sum.inr (Sum.inr ()))
theorem q3j:∀(b0 b1:Int) (s:List Int) (t7 t8:Int),XL2 evo 70 2 2 ⟨[(0,rL 1 eI s),(1,R.c (C.fn 43 [] [dP 0,dP 1])),(7,rI t7),(8,rI t8)],[(0,B.blk 3 [dI b0]),(1,B.blk 3 [dI b1])],2,19⟩=(qX (Qe b0 b1 s t7) t8).bind (Sum.elim (fun(e:Int)=>some (Go.Exit.ret,⟨[(4,rI e)],[(0,B.blk 3 [dI b0]),(1,B.blk 3 [dI b1])],2,19⟩)) (fun(e:Unit)=>some (Go.Exit.exit 0,⟨[(4,R.any)],[(0,B.blk 3 [dI b0]),(1,B.blk 3 [dI b1])],2,19⟩))):=
 fun b0 b1 s t7 t8=>by
  revert t8;exact qaQ qrh qrk (fun e=>by rcases e with _|_<;>exact⟨_,rfl,fun h=>by cases h⟩) fun x=>by
   have:=qBi;have:=@qjM.eq_1;have:=@q99;have:=@Qe.eq_1;exact gA
noncomputable def Jf (s:List Int) (b0:Int) (b1:Int):Option Int:=Option.bind (qX (Qe b0 b1 s ((s.length:Nat):Int)) 0) fun(a:Sum Int Unit)=>Sum.elim (fun(a2:Int)=>some a2) (fun(a3:Unit)=>some (-1)) a
theorem q3U:∀(s:List Int) (b0 b1:Int),ev 70 2 [rL 1 eI s,R.c (C.fn 43 [] [dP 0,dP 1])] [(0,B.blk 3 [dI b0]),(1,B.blk 3 [dI b1])]=(Jf s b0 b1).bind (fun(e:Int)=>some (rI e,[(0,B.blk 3 [dI b0]),(1,B.blk 3 [dI b1])])):=
 fun s b0 b1=>by
  rw[zc qAu qDl.2.2.2 qDT]
  have:=qBi;have:=@q3j;have:=@Jf.eq_1;exact gA
noncomputable def Zw (s:List Int) (b0:Int) (b1:Int):Option Bool:=Option.bind (Jf s b0 b1) fun(a:Int)=>some (decide (0≤a))
theorem q3k:∀(s:List Int) (b0 b1:Int),ev 42 2 [rL 1 eI s,R.c (C.fn 43 [] [dP 0,dP 1])] [(0,B.blk 3 [dI b0]),(1,B.blk 3 [dI b1])]=(Zw s b0 b1).bind (fun(e:Bool)=>some (rB e,[(0,B.blk 3 [dI b0]),(1,B.blk 3 [dI b1])])):=
 fun s b0 b1=>by
  rw[zc qBf qDv.2.2.2 qGs]
  have:=qGx;have:=@q3U;have:=@Zw.eq_1;exact gA
noncomputable def q2p (from0:Int) (to:Int) (w1:List Int):Option Bool:=Option.bind (Zw w1 from0 to) fun(a:Bool)=>some a
theorem qaJ:∀(from0 to:Int) (w1:List Int) (qQ:Nat),qQ=w1.length→ev 41 1 [rI from0,rI to,rP 0] [(0,B.blk 22 [dO 1 1 qQ]),(1,bR 3 1 eI w1)]=(q2p from0 to w1).bind (fun(e:Bool)=>some (rB e,[(0,B.blk 22 [dO 1 1 w1.length]),(1,bR 3 1 eI w1)])):=
 by
 intro from0 to w1 qQ h0
 subst h0
 rw[zc qEl qFL.2.2.2 qK0]
 have:=qI5;have:=@q3k;have:=@q2p.eq_1;exact gA
noncomputable def Z8 (rF:(qb×List Int×List qa×Int×qf)→Option (List Bool×List Int×List qa×Int×qf)) (w7:List Int) (w9:List Bool) (w11:List Int) (b0:List qa) (b3:Int) (b4:qf) (b8:qb) (b12:List Bool) (t18:Bool) (t72:List qb) (t73:Int) (t74:Int) (t96:Int):(List Int×Int)→Option ((List Int×Int)⊕(List Int))|(w14,t97)=>if t97<t96 then if 0≤t97∧t97<((w14.length:Nat):Int) then if Int.toNat t97+1≤w14.length then if t18=Bool.true then if 0≤t97∧t97<((w11.length:Nat):Int) then Option.bind w11[Int.toNat t97]? fun(a2:Int)=>if 0≤t97∧t97<((w14.length:Nat):Int) then if Int.toNat t97+1≤w14.length then Option.bind (Qb t97 w11 (List.set (List.set w14 (Int.toNat t97) (-1)) (Int.toNat t97) a2) b12 t97) fun(a3:List Int)=>some (Sum.inl (a3,w64 (t97+1))) else none else none else none else Option.bind (Qb t97 w11 (List.set w14 (Int.toNat t97) (-1)) b12 t97) fun(a4:List Int)=>some (Sum.inl (a4,w64 (t97+1))) else none else none else some (Sum.inr w14)
theorem q6U (rE:Orc) (rF:(qb×List Int×List qa×Int×qf)→Option (List Bool×List Int×List qa×Int×qf)) (hF:∀y,rE (.fn 58) 7 (zt y).1 (zt y).2=(rF y).bind fun e=>some (Q7 e)) (hM:∀g k a G,g≠58→rE (.fn g) k a G=ev g k a G) (hR:∀g asg bd k a G,rE (.rd g asg bd) k a G=evr g asg bd k a G):∀(w7:List Int) (w9:List Bool) (w11 w14:List Int) (b0:List qa) (b3 QX J6 J7 q05 qco q1i:Int) (q1j:List qc) (qcp:List qb) (b12:List Bool) (t18:Bool) (t72:List qb) (t73 t74 t96 t97:Int) (q0s zM q4E qig:Nat),q0s=w9.length→zM=w7.length→q4E=w11.length→qig=w14.length→XL2 rE 58 7 25 ⟨[(3,rP 3),(5,rP 5),(6,rP 6),(7,rP 8),(9,rO 9 1 q0s),(12,rP 10),(17,rP 12),(18,rB t18),(19,rP 13),(72,rL 5 qg t72),(73,rI t73),(74,rI t74),(96,rI t96),(97,rI t97)],[(0,B.blk 33 [dL 8 qd b0]),(1,B.blk 76 [C.fn 40 [] [dP 2]]),(2,B.blk 22 [dO 7 1 zM]),(3,B.blk 3 [dI b3]),(4,B.blk 32 [dI QX,dI J6,dI J7]),(5,B.blk 118 [C.fn 58 [] [dP 0,dP 1,dP 3,dP 4,dP 5,dP 6]]),(6,B.blk 76 [C.fn 41 [] [dP 2]]),(7,bR 3 1 eI w7),(8,B.blk 30 [dI q05,dI qco,dI q1i,dL 2 qe q1j,dL 5 qg qcp]),(9,bR 4 1 eB w9),(10,B.blk 119 [dO 11 1 q4E]),(11,bR 3 1 eI w11),(12,B.blk 77 [dL 1 eB b12]),(13,B.blk 119 [dO 14 1 qig]),(14,bR 3 1 eI w14)],15,142⟩=(qX (Z8 rF w7 w9 w11 b0 b3 (qf.mk QX J6 J7) (qb.mk q05 qco q1i q1j qcp) b12 t18 t72 t73 t74 t96) (w14,t97)).bind (fun(e:List Int)=>some (Go.Exit.exit 6,⟨[(3,rP 3),(5,rP 5),(6,rP 6),(7,rP 8),(9,rO 9 1 w9.length),(12,rP 10),(19,rP 12),(72,rL 5 qg t72),(73,rI t73),(74,rI t74)],[(0,B.blk 33 [dL 8 qd b0]),(1,B.blk 76 [C.fn 40 [] [dP 2]]),(2,B.blk 22 [dO 7 1 w7.length]),(3,B.blk 3 [dI b3]),(4,B.blk 32 [dI QX,dI J6,dI J7]),(5,B.blk 118 [C.fn 58 [] [dP 0,dP 1,dP 3,dP 4,dP 5,dP 6]]),(6,B.blk 76 [C.fn 41 [] [dP 2]]),(7,bR 3 1 eI w7),(8,B.blk 30 [dI q05,dI qco,dI q1i,dL 2 qe q1j,dL 5 qg qcp]),(9,bR 4 1 eB w9),(10,B.blk 119 [dO 11 1 w11.length]),(11,bR 3 1 eI w11),(12,B.blk 119 [dO 13 1 e.length]),(13,bR 3 1 eI e)],14,142⟩)):=
 by
 intro w7 w9 w11 w14 b0 b3 QX J6 J7 q05 qco q1i q1j qcp b12 t18 t72 t73 t74 t96 t97 q0s zM q4E qig h0 h1 h2 h3
 subst h0 h1 h2 h3
 revert t97;revert w14;exact q6v qm4 qnG (fun e=>by exact⟨_,rfl,fun h=>by cases h⟩) fun w14 t97=>by
  have hF':∀(qw Z9 qG:Int) (qK:List qc) (Zf:List qb) (w7:List Int) (v:List qa) (v2 qL z8 za:Int) (zM:Nat),zM=w7.length→rE (.fn 58) 7 [R.agg [dI qw,dI Z9,dI qG,dL 2 qe qK,dL 5 qg Zf],rP 0,rP 1,rP 3,rP 4,rP 5,rP 6] [(0,B.blk 33 [dL 8 qd v]),(1,B.blk 76 [C.fn 40 [] [dP 2]]),(2,B.blk 22 [dO 7 1 zM]),(3,B.blk 3 [dI v2]),(4,B.blk 32 [dI qL,dI z8,dI za]),(5,B.blk 118 [C.fn 58 [] [dP 0,dP 1,dP 3,dP 4,dP 5,dP 6]]),(6,B.blk 76 [C.fn 41 [] [dP 2]]),(7,bR 3 1 eI w7)]=(rF ((qb.mk qw Z9 qG qK Zf),w7,v,v2,(qf.mk qL z8 za))).bind (fun e=>some (rL 1 eB e.1,[(0,B.blk 33 [dL 8 qd e.2.2.1]),(1,B.blk 76 [C.fn 40 [] [dP 2]]),(2,B.blk 22 [dO 7 1 e.2.1.length]),(3,B.blk 3 [dI e.2.2.2.1]),(4,B.blk 32 [dI e.2.2.2.2.Worst,dI e.2.2.2.2.Best,dI e.2.2.2.2.Pass]),(5,B.blk 118 [C.fn 58 [] [dP 0,dP 1,dP 3,dP 4,dP 5,dP 6]]),(6,B.blk 76 [C.fn 41 [] [dP 2]]),(7,bR 3 1 eI e.2.1)])):=by intro qw Z9 qG qK Zf w7 v v2 qL z8 za zM h0;subst h0;exact hF ((qb.mk qw Z9 qG qK Zf),w7,v,v2,(qf.mk qL z8 za))
  have:=qiy;have:=@qfK.eq_1;have:=@q2V;have:=@Z8.eq_1;exact gA
noncomputable def Z4 (rF:(qb×List Int×List qa×Int×qf)→Option (List Bool×List Int×List qa×Int×qf)) (w9:List Bool) (b8:qb) (t72:List qb) (t73:Int):(List Int×List Int×List qa×Int×qf×Int)→Option ((List Int×List Int×List qa×Int×qf×Int)⊕(List Int×List Int×List qa×Int×qf))|(w7,w11,b0,b3,b4,t74)=>if t74<t73 then if 0≤t74∧t74<((t72.length:Nat):Int) then Option.bind t72[Int.toNat t74]? fun(a2:qb)=>Option.bind (rF (a2,(w7,(b0,(b3,b4))))) fun(a3:Prod (List Bool) (Prod (List Int) (Prod (List qa) (Prod Int qf))))=>if(b8.Kind==4)=Bool.true then Option.bind (q2p b3 a3.2.2.2.1 a3.2.1) fun(a4:Bool)=>if 0≤((w11.length:Nat):Int)∧8*((w11.length:Nat):Int)≤281474976710656∧((w11.length:Nat):Int)≤9223372036854775807 then Option.bind (qX (Z8 rF a3.2.1 w9 w11 a3.2.2.1 a3.2.2.2.1 a3.2.2.2.2 b8 a3.1 (!a4) t72 t73 t74 ((w11.length:Nat):Int)) (List.replicate w11.length 0,0)) fun(a5:List Int)=>some (Sum.inl (a3.2.1,a5,a3.2.2.1,a3.2.2.2.1,a3.2.2.2.2,w64 (t74+1))) else none else if 0≤((w11.length:Nat):Int)∧8*((w11.length:Nat):Int)≤281474976710656∧((w11.length:Nat):Int)≤9223372036854775807 then Option.bind (qX (Z8 rF a3.2.1 w9 w11 a3.2.2.1 a3.2.2.2.1 a3.2.2.2.2 b8 a3.1 Bool.false t72 t73 t74 ((w11.length:Nat):Int)) (List.replicate w11.length 0,0)) fun(a6:List Int)=>some (Sum.inl (a3.2.1,a6,a3.2.2.1,a3.2.2.2.1,a3.2.2.2.2,w64 (t74+1))) else none else none else some (Sum.inr (w7,w11,b0,b3,b4))
theorem q6L (rE:Orc) (rF:(qb×List Int×List qa×Int×qf)→Option (List Bool×List Int×List qa×Int×qf)) (hF:∀y,rE (.fn 58) 7 (zt y).1 (zt y).2=(rF y).bind fun e=>some (Q7 e)) (hM:∀g k a G,g≠58→rE (.fn g) k a G=ev g k a G) (hR:∀g asg bd k a G,rE (.rd g asg bd) k a G=evr g asg bd k a G):∀(w7:List Int) (w9:List Bool) (w11:List Int) (b0:List qa) (b3 QX J6 J7 q05 qco q1i:Int) (q1j:List qc) (qcp t72:List qb) (t73 t74:Int) (q0s zM q4E:Nat),q0s=w9.length→zM=w7.length→q4E=w11.length→XL2 rE 58 7 18 ⟨[(3,rP 3),(5,rP 5),(6,rP 6),(7,rP 8),(9,rO 9 1 q0s),(12,rP 10),(72,rL 5 qg t72),(73,rI t73),(74,rI t74)],[(0,B.blk 33 [dL 8 qd b0]),(1,B.blk 76 [C.fn 40 [] [dP 2]]),(2,B.blk 22 [dO 7 1 zM]),(3,B.blk 3 [dI b3]),(4,B.blk 32 [dI QX,dI J6,dI J7]),(5,B.blk 118 [C.fn 58 [] [dP 0,dP 1,dP 3,dP 4,dP 5,dP 6]]),(6,B.blk 76 [C.fn 41 [] [dP 2]]),(7,bR 3 1 eI w7),(8,B.blk 30 [dI q05,dI qco,dI q1i,dL 2 qe q1j,dL 5 qg qcp]),(9,bR 4 1 eB w9),(10,B.blk 119 [dO 11 1 q4E]),(11,bR 3 1 eI w11)],12,142⟩=(qX (Z4 rF w9 (qb.mk q05 qco q1i q1j qcp) t72 t73) (w7,w11,b0,b3,(qf.mk QX J6 J7),t74)).bind (fun(e:List Int×List Int×List qa×Int×qf)=>some (Go.Exit.exit 4,⟨[(7,rP 8),(9,rO 9 1 w9.length),(12,rP 10)],[(0,B.blk 33 [dL 8 qd e.2.2.1]),(1,B.blk 76 [C.fn 40 [] [dP 2]]),(2,B.blk 22 [dO 7 1 e.1.length]),(3,B.blk 3 [dI e.2.2.2.1]),(4,B.blk 32 [dI e.2.2.2.2.Worst,dI e.2.2.2.2.Best,dI e.2.2.2.2.Pass]),(5,B.blk 118 [C.fn 58 [] [dP 0,dP 1,dP 3,dP 4,dP 5,dP 6]]),(6,B.blk 76 [C.fn 41 [] [dP 2]]),(7,bR 3 1 eI e.1),(8,B.blk 30 [dI q05,dI qco,dI q1i,dL 2 qe q1j,dL 5 qg qcp]),(9,bR 4 1 eB w9),(10,B.blk 119 [dO 11 1 e.2.1.length]),(11,bR 3 1 eI e.2.1)],12,142⟩)):=
 by
 intro w7 w9 w11 b0 b3 QX J6 J7 q05 qco q1i q1j qcp t72 t73 t74 q0s zM q4E h0 h1 h2
 subst h0 h1 h2
 have h:=q3T (E:=rE) (f:=58) (k:=7) (st:=fun x:List Int×List Int×List qa×Int×qf×Int=>(⟨[(3,rP 3),(5,rP 5),(6,rP 6),(7,rP 8),(9,rO 9 1 w9.length),(12,rP 10),(72,rL 5 qg t72),(73,rI t73),(74,rI x.2.2.2.2.2)],[(0,B.blk 33 [dL 8 qd x.2.2.1]),(1,B.blk 76 [C.fn 40 [] [dP 2]]),(2,B.blk 22 [dO 7 1 x.1.length]),(3,B.blk 3 [dI x.2.2.2.1]),(4,B.blk 32 [dI x.2.2.2.2.1.Worst,dI x.2.2.2.2.1.Best,dI x.2.2.2.2.1.Pass]),(5,B.blk 118 [C.fn 58 [] [dP 0,dP 1,dP 3,dP 4,dP 5,dP 6]]),(6,B.blk 76 [C.fn 41 [] [dP 2]]),(7,bR 3 1 eI x.1),(8,B.blk 30 [dI q05,dI qco,dI q1i,dL 2 qe q1j,dL 5 qg qcp]),(9,bR 4 1 eB w9),(10,B.blk 119 [dO 11 1 x.2.1.length]),(11,bR 3 1 eI x.2.1)],12,142⟩:S)) (ex:=fun(e:List Int×List Int×List qa×Int×qf)=>(Go.Exit.exit 4,⟨[(7,rP 8),(9,rO 9 1 w9.length),(12,rP 10)],[(0,B.blk 33 [dL 8 qd e.2.2.1]),(1,B.blk 76 [C.fn 40 [] [dP 2]]),(2,B.blk 22 [dO 7 1 e.1.length]),(3,B.blk 3 [dI e.2.2.2.1]),(4,B.blk 32 [dI e.2.2.2.2.Worst,dI e.2.2.2.2.Best,dI e.2.2.2.2.Pass]),(5,B.blk 118 [C.fn 58 [] [dP 0,dP 1,dP 3,dP 4,dP 5,dP 6]]),(6,B.blk 76 [C.fn 41 [] [dP 2]]),(7,bR 3 1 eI e.1),(8,B.blk 30 [dI q05,dI qco,dI q1i,dL 2 qe q1j,dL 5 qg qcp]),(9,bR 4 1 eB w9),(10,B.blk 119 [dO 11 1 e.2.1.length]),(11,bR 3 1 eI e.2.1)],12,142⟩)) (step:=(Z4 rF w9 (qb.mk q05 qco q1i q1j qcp) t72 t73)) qnt qlI (fun e h=>by cases h) (fun x=>by
  obtain⟨w7,w11,b0,b3,b4,t74⟩:=x;have hF':∀(qw Z9 qG:Int) (qK:List qc) (Zf:List qb) (w7:List Int) (v:List qa) (v2 qL z8 za:Int) (zM:Nat),zM=w7.length→rE (.fn 58) 7 [R.agg [dI qw,dI Z9,dI qG,dL 2 qe qK,dL 5 qg Zf],rP 0,rP 1,rP 3,rP 4,rP 5,rP 6] [(0,B.blk 33 [dL 8 qd v]),(1,B.blk 76 [C.fn 40 [] [dP 2]]),(2,B.blk 22 [dO 7 1 zM]),(3,B.blk 3 [dI v2]),(4,B.blk 32 [dI qL,dI z8,dI za]),(5,B.blk 118 [C.fn 58 [] [dP 0,dP 1,dP 3,dP 4,dP 5,dP 6]]),(6,B.blk 76 [C.fn 41 [] [dP 2]]),(7,bR 3 1 eI w7)]=(rF ((qb.mk qw Z9 qG qK Zf),w7,v,v2,(qf.mk qL z8 za))).bind (fun e=>some (rL 1 eB e.1,[(0,B.blk 33 [dL 8 qd e.2.2.1]),(1,B.blk 76 [C.fn 40 [] [dP 2]]),(2,B.blk 22 [dO 7 1 e.2.1.length]),(3,B.blk 3 [dI e.2.2.2.1]),(4,B.blk 32 [dI e.2.2.2.2.Worst,dI e.2.2.2.2.Best,dI e.2.2.2.2.Pass]),(5,B.blk 118 [C.fn 58 [] [dP 0,dP 1,dP 3,dP 4,dP 5,dP 6]]),(6,B.blk 76 [C.fn 41 [] [dP 2]]),(7,bR 3 1 eI e.2.1)])):=by intro qw Z9 qG qK Zf w7 v v2 qL z8 za zM h0;subst h0;exact hF ((qb.mk qw Z9 qG qK Zf),w7,v,v2,(qf.mk qL z8 za))
  have:=qiy;have:=@qeX.eq_1;have:=@qaJ;have:=q6U rE rF hF hM hR;have:=@Z4.eq_1;exact gA) (w7,w11,b0,b3,(qf.mk QX J6 J7),t74)
 exact h
noncomputable def Z2 (rF:(qb×List Int×List qa×Int×qf)→Option (List Bool×List Int×List qa×Int×qf)) (w7:List Int) (w10:List Int) (b0:List qa) (b3:Int) (b4:qf) (t21:Int):(List Bool×Int)→Option ((List Bool×Int)⊕(List Bool))|(w8,t22)=>if t22<((w8.length:Nat):Int) then if 0≤t22∧t22<((w10.length:Nat):Int) then Option.bind w10[Int.toNat t22]? fun(a2:Int)=>if 0≤t22∧t22<((w8.length:Nat):Int) then if Int.toNat t22+1≤w8.length then some (Sum.inl (List.set w8 (Int.toNat t22) (decide (t21≤a2)),w64 (t22+1))) else none else none else none else some (Sum.inr w8)
theorem q6M (rE:Orc) (rF:(qb×List Int×List qa×Int×qf)→Option (List Bool×List Int×List qa×Int×qf)) (hF:∀y,rE (.fn 58) 7 (zt y).1 (zt y).2=(rF y).bind fun e=>some (Q7 e)) (hM:∀g k a G,g≠58→rE (.fn g) k a G=ev g k a G) (hR:∀g asg bd k a G,rE (.rd g asg bd) k a G=evr g asg bd k a G):∀(w7:List Int) (w8:List Bool) (w10:List Int) (b0:List qa) (b3 QX J6 J7 t21 t22:Int) (qdW zM qih:Nat),qdW=w8.length→zM=w7.length→qih=w10.length→XL2 rE 58 7 38 ⟨[(9,rO 8 1 qdW),(12,rP 9),(21,rI t21),(22,rI t22)],[(0,B.blk 33 [dL 8 qd b0]),(1,B.blk 76 [C.fn 40 [] [dP 2]]),(2,B.blk 22 [dO 7 1 zM]),(3,B.blk 3 [dI b3]),(4,B.blk 32 [dI QX,dI J6,dI J7]),(5,B.blk 118 [C.fn 58 [] [dP 0,dP 1,dP 3,dP 4,dP 5,dP 6]]),(6,B.blk 76 [C.fn 41 [] [dP 2]]),(7,bR 3 1 eI w7),(8,bR 4 1 eB w8),(9,B.blk 119 [dO 10 1 qih]),(10,bR 3 1 eI w10)],11,142⟩=(qX (Z2 rF w7 w10 b0 b3 (qf.mk QX J6 J7) t21) (w8,t22)).bind (fun(e:List Bool)=>some (Go.Exit.exit 8,⟨[(9,rO 8 1 e.length)],[(0,B.blk 33 [dL 8 qd b0]),(1,B.blk 76 [C.fn 40 [] [dP 2]]),(2,B.blk 22 [dO 7 1 w7.length]),(3,B.blk 3 [dI b3]),(4,B.blk 32 [dI QX,dI J6,dI J7]),(5,B.blk 118 [C.fn 58 [] [dP 0,dP 1,dP 3,dP 4,dP 5,dP 6]]),(6,B.blk 76 [C.fn 41 [] [dP 2]]),(7,bR 3 1 eI w7),(8,bR 4 1 eB e)],9,142⟩)):=
 by
 intro w7 w8 w10 b0 b3 QX J6 J7 t21 t22 qdW zM qih h0 h1 h2
 subst h0 h1 h2
 revert t22;revert w8;exact q6v qme qln (fun e=>by exact⟨_,rfl,fun h=>by cases h⟩) fun w8 t22=>by
  have hF':∀(qw Z9 qG:Int) (qK:List qc) (Zf:List qb) (w7:List Int) (v:List qa) (v2 qL z8 za:Int) (zM:Nat),zM=w7.length→rE (.fn 58) 7 [R.agg [dI qw,dI Z9,dI qG,dL 2 qe qK,dL 5 qg Zf],rP 0,rP 1,rP 3,rP 4,rP 5,rP 6] [(0,B.blk 33 [dL 8 qd v]),(1,B.blk 76 [C.fn 40 [] [dP 2]]),(2,B.blk 22 [dO 7 1 zM]),(3,B.blk 3 [dI v2]),(4,B.blk 32 [dI qL,dI z8,dI za]),(5,B.blk 118 [C.fn 58 [] [dP 0,dP 1,dP 3,dP 4,dP 5,dP 6]]),(6,B.blk 76 [C.fn 41 [] [dP 2]]),(7,bR 3 1 eI w7)]=(rF ((qb.mk qw Z9 qG qK Zf),w7,v,v2,(qf.mk qL z8 za))).bind (fun e=>some (rL 1 eB e.1,[(0,B.blk 33 [dL 8 qd e.2.2.1]),(1,B.blk 76 [C.fn 40 [] [dP 2]]),(2,B.blk 22 [dO 7 1 e.2.1.length]),(3,B.blk 3 [dI e.2.2.2.1]),(4,B.blk 32 [dI e.2.2.2.2.Worst,dI e.2.2.2.2.Best,dI e.2.2.2.2.Pass]),(5,B.blk 118 [C.fn 58 [] [dP 0,dP 1,dP 3,dP 4,dP 5,dP 6]]),(6,B.blk 76 [C.fn 41 [] [dP 2]]),(7,bR 3 1 eI e.2.1)])):=by intro qw Z9 qG qK Zf w7 v v2 qL z8 za zM h0;subst h0;exact hF ((qb.mk qw Z9 qG qK Zf),w7,v,v2,(qf.mk qL z8 za))
  have:=qiy;have:=@qf9.eq_1;have:=@Z2.eq_1;exact gA
noncomputable def q0M (rF:(qb×List Int×List qa×Int×qf)→Option (List Bool×List Int×List qa×Int×qf)):(qb×List Int×List qa×Int×qf)→Option (List Bool×List Int×List qa×Int×qf)|(x0,w7,v,v2,v3)=>if 0≤((v.length:Nat):Int) then if 0≤w64 (1*2 ^ min v.length (Go.IntKind.bits Go.IntKind.i64))∧1*w64 (1*2 ^ min v.length (Go.IntKind.bits Go.IntKind.i64))≤281474976710656∧w64 (1*2 ^ min v.length (Go.IntKind.bits Go.IntKind.i64))≤9223372036854775807 then if q0z x0=Bool.true then Option.bind (q1I x0.Kind) fun(a2:Sum Unit Unit)=>Sum.elim (fun(a3:Unit)=>Option.bind (qX (JL rF w7 v v2 v3 x0) (List.replicate (Int.toNat (w64 (1*2 ^ min v.length (Go.IntKind.bits Go.IntKind.i64)))) Bool.false,1)) fun(a5:List Bool)=>some (a5,w7,v,w64 (v2+1),v3)) (fun(a4:Unit)=>Option.bind (qX (Ja rF w7 v v2 v3 x0) (List.replicate (Int.toNat (w64 (1*2 ^ min v.length (Go.IntKind.bits Go.IntKind.i64)))) Bool.false,1)) fun(a6:List Bool)=>some (a6,w7,v,w64 (v2+1),v3)) a2 else if 0≤((Int.toNat (w64 (1*2 ^ min v.length (Go.IntKind.bits Go.IntKind.i64))):Nat):Int)∧8*((Int.toNat (w64 (1*2 ^ min v.length (Go.IntKind.bits Go.IntKind.i64))):Nat):Int)≤281474976710656∧((Int.toNat (w64 (1*2 ^ min v.length (Go.IntKind.bits Go.IntKind.i64))):Nat):Int)≤9223372036854775807 then Option.bind (qX (ZD rF w7 (List.replicate (Int.toNat (w64 (1*2 ^ min v.length (Go.IntKind.bits Go.IntKind.i64)))) Bool.false) v v2 v3 x0) (List.replicate (Int.toNat (w64 (1*2 ^ min v.length (Go.IntKind.bits Go.IntKind.i64)))) 0,1)) fun(a7:List Int)=>Option.bind (qX (Z4 rF (List.replicate (Int.toNat (w64 (1*2 ^ min v.length (Go.IntKind.bits Go.IntKind.i64)))) Bool.false) x0 x0.L ((x0.L.length:Nat):Int)) (w7,(a7,(v,(v2,(v3,0)))))) fun(a8:Prod (List Int) (Prod (List Int) (Prod (List qa) (Prod Int qf))))=>if(x0.Kind==3)=Bool.true then Option.bind (qX (Z2 rF a8.1 a8.2.1 a8.2.2.1 a8.2.2.2.1 a8.2.2.2.2 ((x0.L.length:Nat):Int)) (List.replicate (Int.toNat (w64 (1*2 ^ min v.length (Go.IntKind.bits Go.IntKind.i64)))) Bool.false,1)) fun(a9:List Bool)=>some (a9,a8.1,a8.2.2.1,a8.2.2.2.1,a8.2.2.2.2) else Option.bind (qX (Z2 rF a8.1 a8.2.1 a8.2.2.1 a8.2.2.2.1 a8.2.2.2.2 x0.N) (List.replicate (Int.toNat (w64 (1*2 ^ min v.length (Go.IntKind.bits Go.IntKind.i64)))) Bool.false,1)) fun(a10:List Bool)=>some (a10,a8.1,a8.2.2.1,a8.2.2.2.1,a8.2.2.2.2) else none else none else none
theorem q4S:q4u 58 7 zt Q7 q0M:=by
 intro rE rF hF hM hR x
 obtain⟨x0,w7,v,v2,v3⟩:=x
 show q78 rE 58 7 [R.agg [dI x0.Kind,dI x0.N,dI x0.Min,dL 2 qe x0.Set,dL 5 qg x0.L],rP 0,rP 1,rP 3,rP 4,rP 5,rP 6] [(0,B.blk 33 [dL 8 qd v]),(1,B.blk 76 [C.fn 40 [] [dP 2]]),(2,B.blk 22 [dO 7 1 w7.length]),(3,B.blk 3 [dI v2]),(4,B.blk 32 [dI v3.Worst,dI v3.Best,dI v3.Pass]),(5,B.blk 118 [C.fn 58 [] [dP 0,dP 1,dP 3,dP 4,dP 5,dP 6]]),(6,B.blk 76 [C.fn 41 [] [dP 2]]),(7,bR 3 1 eI w7)]=_
 have hF':∀(qw Z9 qG:Int) (qK:List qc) (Zf:List qb) (w7:List Int) (v:List qa) (v2 qL z8 za:Int) (zM:Nat),zM=w7.length→rE (.fn 58) 7 [R.agg [dI qw,dI Z9,dI qG,dL 2 qe qK,dL 5 qg Zf],rP 0,rP 1,rP 3,rP 4,rP 5,rP 6] [(0,B.blk 33 [dL 8 qd v]),(1,B.blk 76 [C.fn 40 [] [dP 2]]),(2,B.blk 22 [dO 7 1 zM]),(3,B.blk 3 [dI v2]),(4,B.blk 32 [dI qL,dI z8,dI za]),(5,B.blk 118 [C.fn 58 [] [dP 0,dP 1,dP 3,dP 4,dP 5,dP 6]]),(6,B.blk 76 [C.fn 41 [] [dP 2]]),(7,bR 3 1 eI w7)]=(rF ((qb.mk qw Z9 qG qK Zf),w7,v,v2,(qf.mk qL z8 za))).bind (fun e=>some (rL 1 eB e.1,[(0,B.blk 33 [dL 8 qd e.2.2.1]),(1,B.blk 76 [C.fn 40 [] [dP 2]]),(2,B.blk 22 [dO 7 1 e.2.1.length]),(3,B.blk 3 [dI e.2.2.2.1]),(4,B.blk 32 [dI e.2.2.2.2.Worst,dI e.2.2.2.2.Best,dI e.2.2.2.2.Pass]),(5,B.blk 118 [C.fn 58 [] [dP 0,dP 1,dP 3,dP 4,dP 5,dP 6]]),(6,B.blk 76 [C.fn 41 [] [dP 2]]),(7,bR 3 1 eI e.2.1)])):=by intro qw Z9 qG qK Zf w7 v v2 qL z8 za zM h0;subst h0;exact hF ((qb.mk qw Z9 qG qK Zf),w7,v,v2,(qf.mk qL z8 za))
 rw[q1R qqr qsl]
 have:=qiy;have:=@q48;have:=@q5k;have:=q7I rE rF hF hM hR;have:=q5Z rE rF hF hM hR;have:=q72 rE rF hF hM hR;have:=q6L rE rF hF hM hR;have:=q6M rE rF hF hM hR;have:=@q0M.eq_1;have:=@Q7.eq_1;exact gA
theorem q3n:∀x y,zt x=zt y→x=y:=by
 rintro⟨⟨qoU,qoV,qr5,qr6,qr7⟩,a1,a2,a3,⟨qKy,qKz,qKA⟩⟩ ⟨⟨qoW,qoX,qr8,qr9,qra⟩,b1,b2,b3,⟨qKB,qKC,qKD⟩⟩ h
 simp only[zt,Prod.mk.injEq,List.cons.injEq,R.c.injEq,R.agg.injEq,R.tup.injEq,C.d.injEq,C.own.injEq,C.ptr.injEq,C.eptr.injEq,D.int.injEq,D.bool.injEq,D.str.injEq,D.sl.injEq,B.blk.injEq,B.row.injEq,ZR,q0x,Je,Jm,q01,JX,JY,q1b,JV,q16,q18,ZS,true_and,and_true,List.nil_append] at h
 simp only[h]
theorem q7S:∀x y,Q7 x=Q7 y→x=y:=by
 rintro⟨a0,a1,a2,a3,⟨qKy,qKz,qKA⟩⟩ ⟨b0,b1,b2,b3,⟨qKB,qKC,qKD⟩⟩ h
 simp only[Q7,Prod.mk.injEq,List.cons.injEq,R.c.injEq,R.agg.injEq,R.tup.injEq,C.d.injEq,C.own.injEq,C.ptr.injEq,C.eptr.injEq,D.int.injEq,D.bool.injEq,D.str.injEq,D.sl.injEq,B.blk.injEq,B.row.injEq,ZR,q0x,Je,Jm,q01,JX,JY,q1b,JV,q16,q18,ZS,true_and,and_true,List.nil_append] at h
 simp only[h]
noncomputable def zJ:(qb×List Int×List qa×Int×qf)→Option (List Bool×List Int×List qa×Int×qf):=q5W 58 7 zt Q7
theorem q9J (x:(qb×List Int×List qa×Int×qf)):zJ x=q0M zJ x:=q6D qwd.2.2.2 q3n q7S q4S x
theorem q9c (x0:qb) (w7:List Int) (v:List qa) (v2:Int) (v3:qf):ev 58 7 [R.agg [dI x0.Kind,dI x0.N,dI x0.Min,dL 2 qe x0.Set,dL 5 qg x0.L],rP 0,rP 1,rP 3,rP 4,rP 5,rP 6] [(0,B.blk 33 [dL 8 qd v]),(1,B.blk 76 [C.fn 40 [] [dP 2]]),(2,B.blk 22 [dO 7 1 w7.length]),(3,B.blk 3 [dI v2]),(4,B.blk 32 [dI v3.Worst,dI v3.Best,dI v3.Pass]),(5,B.blk 118 [C.fn 58 [] [dP 0,dP 1,dP 3,dP 4,dP 5,dP 6]]),(6,B.blk 76 [C.fn 41 [] [dP 2]]),(7,bR 3 1 eI w7)]=(zJ (x0,w7,v,v2,v3)).bind (fun(e:List Bool×List Int×List qa×Int×qf)=>some (rL 1 eB e.1,[(0,B.blk 33 [dL 8 qd e.2.2.1]),(1,B.blk 76 [C.fn 40 [] [dP 2]]),(2,B.blk 22 [dO 7 1 e.2.1.length]),(3,B.blk 3 [dI e.2.2.2.1]),(4,B.blk 32 [dI e.2.2.2.2.Worst,dI e.2.2.2.2.Best,dI e.2.2.2.2.Pass]),(5,B.blk 118 [C.fn 58 [] [dP 0,dP 1,dP 3,dP 4,dP 5,dP 6]]),(6,B.blk 76 [C.fn 41 [] [dP 2]]),(7,bR 3 1 eI e.2.1)])):=(q56 qwd.2.2.2 q3n q4S (x0,w7,v,v2,v3))
theorem qaj:∀(qw Z9 qG:Int) (qK:List qc) (Zf:List qb) (w7:List Int) (v:List qa) (v2 qL z8 za:Int) (zM:Nat),zM=w7.length→ev 58 7 [R.agg [dI qw,dI Z9,dI qG,dL 2 qe qK,dL 5 qg Zf],rP 0,rP 1,rP 3,rP 4,rP 5,rP 6] [(0,B.blk 33 [dL 8 qd v]),(1,B.blk 76 [C.fn 40 [] [dP 2]]),(2,B.blk 22 [dO 7 1 zM]),(3,B.blk 3 [dI v2]),(4,B.blk 32 [dI qL,dI z8,dI za]),(5,B.blk 118 [C.fn 58 [] [dP 0,dP 1,dP 3,dP 4,dP 5,dP 6]]),(6,B.blk 76 [C.fn 41 [] [dP 2]]),(7,bR 3 1 eI w7)]=(zJ ((qb.mk qw Z9 qG qK Zf),w7,v,v2,(qf.mk qL z8 za))).bind (fun(e:List Bool×List Int×List qa×Int×qf)=>some (rL 1 eB e.1,[(0,B.blk 33 [dL 8 qd e.2.2.1]),(1,B.blk 76 [C.fn 40 [] [dP 2]]),(2,B.blk 22 [dO 7 1 e.2.1.length]),(3,B.blk 3 [dI e.2.2.2.1]),(4,B.blk 32 [dI e.2.2.2.2.Worst,dI e.2.2.2.2.Best,dI e.2.2.2.2.Pass]),(5,B.blk 118 [C.fn 58 [] [dP 0,dP 1,dP 3,dP 4,dP 5,dP 6]]),(6,B.blk 76 [C.fn 41 [] [dP 2]]),(7,bR 3 1 eI e.2.1)])):=
 by
 intro qw Z9 qG qK Zf w7 v v2 qL z8 za zM h0
 subst h0
 exact q9c (qb.mk qw Z9 qG qK Zf) w7 v v2 (qf.mk qL z8 za)
noncomputable def q2T (n:qb) (s:qf) (l:List qa) (w1:List Int):Option (List Bool×List Int):=Option.bind (zJ (n,(w1,(l,(0,s))))) fun(a:Prod (List Bool) (Prod (List Int) (Prod (List qa) (Prod Int qf))))=>some (a.1,a.2.1)
theorem qbN:∀(qi n_N qs:Int) (qx:List qc) (n_L:List qb) (qz qO qP:Int) (l:List qa) (w1:List Int) (qQ:Nat),qQ=w1.length→ev 33 1 [R.agg [dI qi,dI n_N,dI qs,dL 2 qe qx,dL 5 qg n_L],R.agg [dI qz,dI qO,dI qP],rL 8 qd l,R.c (C.fn 40 [] [dP 0]),R.c (C.fn 41 [] [dP 0])] [(0,B.blk 22 [dO 1 1 qQ]),(1,bR 3 1 eI w1)]=(q2T (qb.mk qi n_N qs qx n_L) (qf.mk qz qO qP) l w1).bind (fun(e:List Bool×List Int)=>some (rL 1 eB e.1,[(0,B.blk 22 [dO 1 1 e.2.length]),(1,bR 3 1 eI e.2)])):=
 by
 intro qi n_N qs qx n_L qz qO qP l w1 qQ h0
 subst h0
 rw[zc qBo qE7.2.2.2 qFX]
 have:=qGP;have:=@qaj;have:=@q2T.eq_1;exact gA
noncomputable def q0v (w4:List Int) (b0:qb) (b1:qf) (t2:List qa) (t3:Int) (t16:Int) (t49:Int) (t50:Int):(List Int)→Option ((List Int)⊕(List Int))|w3=>Option.bind (q2T b0 b1 t2 w3) fun(a:Prod (List Bool) (List Int))=>if 0≤t3∧t3<((a.1.length:Nat):Int) then Option.bind a.1[Int.toNat t3]? fun(a2:Bool)=>if(!a2)=Bool.true then if 0≤t16∧t16<((a.2.length:Nat):Int) then Option.bind a.2[Int.toNat t16]? fun(a3:Int)=>if 0≤t16∧t16<((a.2.length:Nat):Int) then if Int.toNat t16+1≤a.2.length then some (Sum.inl (List.set a.2 (Int.toNat t16) (w64 (a3+1)))) else none else none else none else some (Sum.inr a.2) else none
theorem q8Y:∀(w3 w4:List Int) (zo q1x zP:Int) (zQ:List qc) (zq:List qb) (QD ZE ZF:Int) (t2:List qa) (t3 t16 t49 t50:Int) (Qj zw:Nat),Qj=w4.length→zw=w3.length→XL2 evo 18 0 14 ⟨[(2,rL 8 qd t2),(3,rI t3),(4,rP 0),(5,rP 1),(12,rP 2),(13,R.c (C.fn 40 [] [dP 2])),(14,R.c (C.fn 41 [] [dP 2])),(15,rO 4 1 Qj),(16,rI t16),(49,rI t49),(50,rI t50)],[(0,B.blk 30 [dI zo,dI q1x,dI zP,dL 2 qe zQ,dL 5 qg zq]),(1,B.blk 32 [dI QD,dI ZE,dI ZF]),(2,B.blk 22 [dO 3 1 zw]),(3,bR 3 1 eI w3),(4,bR 3 1 eI w4)],5,89⟩=(qX (q0v w4 (qb.mk zo q1x zP zQ zq) (qf.mk QD ZE ZF) t2 t3 t16 t49 t50) w3).bind (fun(e:List Int)=>some (Go.Exit.exit 2,⟨[(2,rL 8 qd t2),(3,rI t3),(4,rP 0),(5,rP 1),(12,rP 2),(13,R.c (C.fn 40 [] [dP 2])),(14,R.c (C.fn 41 [] [dP 2])),(15,rO 4 1 w4.length),(16,rI t16),(49,rI t49),(50,rI t50)],[(0,B.blk 30 [dI zo,dI q1x,dI zP,dL 2 qe zQ,dL 5 qg zq]),(1,B.blk 32 [dI QD,dI ZE,dI ZF]),(2,B.blk 22 [dO 3 1 e.length]),(3,bR 3 1 eI e),(4,bR 3 1 eI w4)],5,89⟩)):=
 by
 intro w3 w4 zo q1x zP zQ zq QD ZE ZF t2 t3 t16 t49 t50 Qj zw h0 h1
 subst h0 h1
 revert w3;exact qaQ qt1 qu5 (fun e=>by exact⟨_,rfl,fun h=>by cases h⟩) fun x=>by
  have:=qBZ;have:=@qhP.eq_1;have:=@qbN;have:=@q0v.eq_1;exact gA
noncomputable def JA (b0:qb) (b1:qf) (t2:List qa) (t3:Int) (t49:Int):(List Int×List Int×Int)→Option ((List Int×List Int×Int)⊕(List Int))|(w3,w4,t50)=>if t50<t49 then if w3.length+1≤Go.maxLen∧(w3.length+1)*8≤140737488355328 then if 0≤t50 then if(JH Go.BinOp.and Go.IntKind.i64 (Int.fdiv t3 (2 ^ min (Int.toNat t50) (Go.IntKind.bits Go.IntKind.i64))) 1==0)=Bool.true then some (Sum.inl (w3++[(-1)],w4,w64 (t50+1))) else if 0≤t50∧t50<((w3.length+1:Nat):Int) then if Int.toNat t50≤w3.length then Option.bind (qX (q0v w4 b0 b1 t2 t3 t50 t49 t50) (List.set (w3++[(-1)]) (Int.toNat t50) 0)) fun(a:List Int)=>if 0≤t50∧t50<((a.length:Nat):Int) then Option.bind a[Int.toNat t50]? fun(a2:Int)=>if w4.length+1≤Go.maxLen∧(w4.length+1)*8≤140737488355328 then some (Sum.inl (a,w4++[a2],w64 (t50+1))) else none else none else none else none else none else none else some (Sum.inr w4)
theorem q9S:∀(w3 w4:List Int) (zo q1x zP:Int) (zQ:List qc) (zq:List qb) (QD ZE ZF:Int) (t2:List qa) (t3 t49 t50:Int) (Qj zw:Nat),Qj=w4.length→zw=w3.length→XL2 evo 18 0 9 ⟨[(2,rL 8 qd t2),(3,rI t3),(4,rP 0),(5,rP 1),(12,rP 2),(13,R.c (C.fn 40 [] [dP 2])),(14,R.c (C.fn 41 [] [dP 2])),(15,rO 4 1 Qj),(49,rI t49),(50,rI t50)],[(0,B.blk 30 [dI zo,dI q1x,dI zP,dL 2 qe zQ,dL 5 qg zq]),(1,B.blk 32 [dI QD,dI ZE,dI ZF]),(2,B.blk 22 [dO 3 1 zw]),(3,bR 3 1 eI w3),(4,bR 3 1 eI w4)],5,89⟩=(qX (JA (qb.mk zo q1x zP zQ zq) (qf.mk QD ZE ZF) t2 t3 t49) (w3,w4,t50)).bind (fun(e:List Int)=>some (Go.Exit.exit 0,⟨[(15,rO 0 1 e.length)],[(0,bR 3 1 eI e)],1,89⟩)):=
 by
 intro w3 w4 zo q1x zP zQ zq QD ZE ZF t2 t3 t49 t50 Qj zw h0 h1
 subst h0 h1
 revert t50;revert w4;revert w3;exact qEu qzK qvT (fun e=>by exact⟨_,rfl,fun h=>by cases h⟩) fun w3 w4 t50=>by
  have:=qBZ;have:=@qlp.eq_1;have:=@q8Y;have:=@JA.eq_1;exact gA
theorem q7h:∀  (zo q1x zP:Int) (zQ:List qc) (zq:List qb) (QD ZE ZF:Int) (t2:List qa) (t3 t49 t50:Int),XL2 evo 18 0 9 ⟨[(2,rL 8 qd t2),(3,rI t3),(4,rP 0),(5,rP 1),(12,rP 2),(13,R.c (C.fn 40 [] [dP 2])),(14,R.c (C.fn 41 [] [dP 2])),(15,rO 4 1 0),(49,rI t49),(50,rI t50)],[(0,B.blk 30 [dI zo,dI q1x,dI zP,dL 2 qe zQ,dL 5 qg zq]),(1,B.blk 32 [dI QD,dI ZE,dI ZF]),(2,B.blk 22 [dO 3 1 0]),(3,B.row 3 1 []),(4,B.row 3 1 [])],5,89⟩=(qX (JA (qb.mk zo q1x zP zQ zq) (qf.mk QD ZE ZF) t2 t3 t49) ([],[],t50)).bind (fun(e:List Int)=>some (Go.Exit.exit 0,⟨[(15,rO 0 1 e.length)],[(0,bR 3 1 eI e)],1,89⟩)):=by
 intro zo q1x zP zQ zq QD ZE ZF t2 t3 t49 t50;have h:=q9S [] [] ((qb.mk zo q1x zP zQ zq)).Kind ((qb.mk zo q1x zP zQ zq)).N ((qb.mk zo q1x zP zQ zq)).Min ((qb.mk zo q1x zP zQ zq)).Set ((qb.mk zo q1x zP zQ zq)).L ((qf.mk QD ZE ZF)).Worst ((qf.mk QD ZE ZF)).Best ((qf.mk QD ZE ZF)).Pass t2 t3 t49 t50 _ _ rfl rfl
 first
  | exact h
  | (simp only[rL,dL,bR,bZ,Nat.reduceAdd] at h;exact h)
noncomputable def Qw (x0:qb) (x1:qf) (x2:List qa) (x3:Int):Option (List Int×Bool):=Option.bind (q1P x0 x1 x2) fun(a:Prod (List Bool) Int)=>if(a.2 != 0)=Bool.true then some ([],Bool.false) else if x3<0 then some ([],Bool.false) else if((a.1.length:Nat):Int)≤x3 then some ([],Bool.false) else if 0≤x3∧x3<((a.1.length:Nat):Int) then Option.bind a.1[Int.toNat x3]? fun(a2:Bool)=>if(!a2)=Bool.true then some ([],Bool.false) else if 0≤((x2.length:Nat):Int)∧8*((x2.length:Nat):Int)≤281474976710656∧((x2.length:Nat):Int)≤9223372036854775807 then Option.bind (qX (JA x0 x1 x2 x3 ((x2.length:Nat):Int)) ([],([],0))) fun(a3:List Int)=>some (a3,Bool.true) else none else none
theorem qcV:∀(qw Z9 qG:Int) (qK:List qc) (Zf:List qb) (q1v q39 q3a:Int) (x2:List qa) (x3:Int),ev 18 0 [R.agg [dI qw,dI Z9,dI qG,dL 2 qe qK,dL 5 qg Zf],R.agg [dI q1v,dI q39,dI q3a],rL 8 qd x2,rI x3] []=(Qw (qb.mk qw Z9 qG qK Zf) (qf.mk q1v q39 q3a) x2 x3).bind (fun(e:List Int×Bool)=>some (R.tup [rL 1 eI e.1,rB e.2],[])):=
 fun qw Z9 qG qK Zf q1v q39 q3a x2 x3=>by
  rw[zc qyT qGd.2.2.2 qDi]
  have:=qBZ;have:=@q9M;have:=@q7h;have:=@Qw.eq_1;exact gA
theorem qao:∀(qw Z9 qG q2J q7V q3Q ZO:Int) (JC:ByteArray) (q2K q7W q3R ZP:Int) (JD:ByteArray) (ZQ:Int) (JE:ByteArray) (q2c:Int) (q3b:ByteArray) (q6n qav qfS q8e q2d:Int) (q3c:ByteArray) (q6o qaw qfT q8f q2e:Int) (q3d:ByteArray) (q6p qax qfU q8g q1v q39 q3a x3:Int),ev 18 0 [R.agg [dI qw,dI Z9,dI qG,C.d (D.sl 2 0 []),C.d (D.sl 5 2 [D.int .i64 q2J,D.int .i64 q7V,D.int .i64 q3Q,D.sl 2 1 [D.int .i64 ZO,D.str JC],D.sl 5 0 [],D.int .i64 q2K,D.int .i64 q7W,D.int .i64 q3R,D.sl 2 2 [D.int .i64 ZP,D.str JD,D.int .i64 ZQ,D.str JE],D.sl 5 0 []])],R.agg [dI q1v,dI q39,dI q3a],R.c (C.d (D.sl 8 3 [D.int .i64 q2c,D.str q3b,D.int .i64 q6n,D.int .i64 qav,D.int .i64 qfS,D.sl 1 0 [],D.int .i64 q8e,D.sl 1 0 [],D.int .i64 q2d,D.str q3c,D.int .i64 q6o,D.int .i64 qaw,D.int .i64 qfT,D.sl 1 0 [],D.int .i64 q8f,D.sl 1 0 [],D.int .i64 q2e,D.str q3d,D.int .i64 q6p,D.int .i64 qax,D.int .i64 qfU,D.sl 1 0 [],D.int .i64 q8g,D.sl 1 0 []])),rI x3] []=(Qw (qb.mk qw Z9 qG [] [(qb.mk q2J q7V q3Q [(qc.mk ZO JC)] []),(qb.mk q2K q7W q3R [(qc.mk ZP JD),(qc.mk ZQ JE)] [])]) (qf.mk q1v q39 q3a) [(qa.mk (qc.mk q2c q3b) q6n qav qfS [] q8e []),(qa.mk (qc.mk q2d q3c) q6o qaw qfT [] q8f []),(qa.mk (qc.mk q2e q3d) q6p qax qfU [] q8g [])] x3).bind (fun(e:List Int×Bool)=>some (R.tup [rL 1 eI e.1,rB e.2],[])):=by
 intro qw Z9 qG q2J q7V q3Q ZO JC q2K q7W q3R ZP JD ZQ JE q2c q3b q6n qav qfS q8e q2d q3c q6o qaw qfT q8f q2e q3d q6p qax qfU q8g q1v q39 q3a x3;have h:=qcV ((qb.mk qw Z9 qG [] [(qb.mk q2J q7V q3Q [(qc.mk ZO JC)] []),(qb.mk q2K q7W q3R [(qc.mk ZP JD),(qc.mk ZQ JE)] [])])).Kind ((qb.mk qw Z9 qG [] [(qb.mk q2J q7V q3Q [(qc.mk ZO JC)] []),(qb.mk q2K q7W q3R [(qc.mk ZP JD),(qc.mk ZQ JE)] [])])).N ((qb.mk qw Z9 qG [] [(qb.mk q2J q7V q3Q [(qc.mk ZO JC)] []),(qb.mk q2K q7W q3R [(qc.mk ZP JD),(qc.mk ZQ JE)] [])])).Min ((qb.mk qw Z9 qG [] [(qb.mk q2J q7V q3Q [(qc.mk ZO JC)] []),(qb.mk q2K q7W q3R [(qc.mk ZP JD),(qc.mk ZQ JE)] [])])).Set ((qb.mk qw Z9 qG [] [(qb.mk q2J q7V q3Q [(qc.mk ZO JC)] []),(qb.mk q2K q7W q3R [(qc.mk ZP JD),(qc.mk ZQ JE)] [])])).L ((qf.mk q1v q39 q3a)).Worst ((qf.mk q1v q39 q3a)).Best ((qf.mk q1v q39 q3a)).Pass [(qa.mk (qc.mk q2c q3b) q6n qav qfS [] q8e []),(qa.mk (qc.mk q2d q3c) q6o qaw qfT [] q8f []),(qa.mk (qc.mk q2e q3d) q6p qax qfU [] q8g [])] x3
 first
  | exact h
  | (simp only[rL,dL,bR,bZ,Nat.reduceAdd] at h;exact h)
theorem qIQ:okL 23 qn2:=zb (qh qEW) (by kernel_rfl) (by kernel_rfl)
def qKl:=JA_ @qn2.eq_1 (JA_ @Tryz.f23.eq_1 @qEW)
theorem qI0:okL 46 qof:=zb (qh qCj) (by kernel_rfl) (by kernel_rfl)
def qKg:=JA_ @qof.eq_1 (JA_ @Tryz.f46.eq_1 @qCj)
noncomputable def q43 (k:Int) (v:Int):Option Bool:=if k<(-1) then some Bool.true else some (decide (v≤k))
noncomputable def QG (k:Int) (v:Int):Bool:=if k<(-1) then Bool.true else decide (v≤k)
theorem qaA (k v:Int):q43 k v=some (QG k v):=by
 unfold q43 QG
 simp only[QZ]
theorem qcg:∀(k v:Int),ev 46 1 [rI k,rP 0] [(0,B.blk 3 [dI v])]=some (rB (QG k v),[(0,B.blk 3 [dI v])]):=
 fun k v=>by
  have h:ev 46 1 [rI k,rP 0] [(0,B.blk 3 [dI v])]=(q43 k v).bind (fun(e:Bool)=>some (rB e,[(0,B.blk 3 [dI v])])):=by
   rw[zc qCj qF9.2.2.2 qI0]
   have:=qKg;have:=@q43.eq_1;exact gA
  rw[qaA] at h
  exact h
noncomputable def zx (b0:Int) (s:List Int) (t7:Int):Int→Option (Int⊕(Int⊕Unit))|t8=>if t8<t7 then if 0≤t8∧t8<((s.length:Nat):Int) then Option.bind s[Int.toNat t8]? fun(a:Int)=>if QG a b0=Bool.true then some (Sum.inr (Sum.inl t8)) else some (Sum.inl (w64 (t8+1))) else none else some (Sum.inr (Sum.inr ()))
theorem q2L:∀(b0:Int) (s:List Int) (t7 t8:Int),XL2 evo 70 1 2 ⟨[(0,rL 1 eI s),(1,R.c (C.fn 46 [] [dP 0])),(7,rI t7),(8,rI t8)],[(0,B.blk 3 [dI b0])],1,19⟩=(qX (zx b0 s t7) t8).bind (Sum.elim (fun(e:Int)=>some (Go.Exit.ret,⟨[(4,rI e)],[(0,B.blk 3 [dI b0])],1,19⟩)) (fun(e:Unit)=>some (Go.Exit.exit 0,⟨[(4,R.any)],[(0,B.blk 3 [dI b0])],1,19⟩))):=
 fun b0 s t7 t8=>by
  revert t8;exact qaQ qrh qrk (fun e=>by rcases e with _|_<;>exact⟨_,rfl,fun h=>by cases h⟩) fun x=>by
   have:=qBi;have:=@qjM.eq_1;have:=@qcg;have:=@zx.eq_1;exact gA
noncomputable def QT (s:List Int) (b0:Int):Option Int:=Option.bind (qX (zx b0 s ((s.length:Nat):Int)) 0) fun(a:Sum Int Unit)=>Sum.elim (fun(a2:Int)=>some a2) (fun(a3:Unit)=>some (-1)) a
theorem q3r:∀(s:List Int) (b0:Int),ev 70 1 [rL 1 eI s,R.c (C.fn 46 [] [dP 0])] [(0,B.blk 3 [dI b0])]=(QT s b0).bind (fun(e:Int)=>some (rI e,[(0,B.blk 3 [dI b0])])):=
 fun s b0=>by
  rw[zc qAu qDl.2.2.2 qDT]
  have:=qBi;have:=@q2L;have:=@QT.eq_1;exact gA
noncomputable def zN (s:List Int) (b0:Int):Option Bool:=Option.bind (QT s b0) fun(a:Int)=>some (decide (0≤a))
theorem q2M:∀(s:List Int) (b0:Int),ev 42 1 [rL 1 eI s,R.c (C.fn 46 [] [dP 0])] [(0,B.blk 3 [dI b0])]=(zN s b0).bind (fun(e:Bool)=>some (rB e,[(0,B.blk 3 [dI b0])])):=
 fun s b0=>by
  rw[zc qBf qDv.2.2.2 qGs]
  have:=qGx;have:=@q3r;have:=@zN.eq_1;exact gA
theorem qFg:okL 47 qj9:=zb (qh qBx) (by kernel_rfl) (by kernel_rfl)
def qGc:=JA_ @qj9.eq_1 (JA_ @Tryz.f47.eq_1 @qBx)
theorem qxm:lbO 47 8=qkU:=Q9 (qh qBx) rfl
theorem qwm:okL 47 qkU:=zB qFg (List.mem_of_getElem? (i:=0) (by kernel_rfl))
theorem qJ2:okL 49 qlf:=zb (qh qC2) (by kernel_rfl) (by kernel_rfl)
def qHK:=JA_ @qlf.eq_1 (JA_ @Tryz.f49.eq_1 @qC2)
noncomputable def q1K (k:Int) (v:List Int) (v2:Int):Option Bool:=if 0≤k∧k<((v.length:Nat):Int) then Option.bind v[Int.toNat k]? fun(a:Int)=>some (a==v2) else none
theorem qa5:∀(k:Int) (v:List Int) (v2:Int),ev 49 2 [rI k,rP 0,rP 1] [(0,B.blk 22 [dL 1 eI v]),(1,B.blk 3 [dI v2])]=(q1K k v v2).bind (fun(e:Bool)=>some (rB e,[(0,B.blk 22 [dL 1 eI v]),(1,B.blk 3 [dI v2])])):=
 fun k v v2=>by
  rw[zc qC2 qG9.2.2.2 qJ2]
  have:=qHK;have:=@q1K.eq_1;exact gA
noncomputable def JQ (b0:List Int) (b1:Int) (n:qb) (s:qf) (b4:qJ) (t13:List qa) (t14:Int):(qJ×Int)→Option ((qJ×Int)⊕qJ)|(out,t15)=>if t15<t14 then if 0≤t15∧t15<((t13.length:Nat):Int) then Option.bind t13[Int.toNat t15]? fun(a:qa)=>Option.bind (q1K t15 b0 b1) fun(a2:Bool)=>if a2=Bool.true then if out.fine=Bool.true then Option.bind (q0l n s a) fun(a3:Bool)=>some (Sum.inl (qJ.mk (w64 (out.many+1)) (w64 (out.credits+a.Credits)) a3,w64 (t15+1))) else some (Sum.inl (qJ.mk (w64 (out.many+1)) (w64 (out.credits+a.Credits)) Bool.false,w64 (t15+1))) else some (Sum.inl (out,w64 (t15+1))) else none else some (Sum.inr out)
theorem q9a:∀(b0:List Int) (b1 qi n_N qs:Int) (qx:List qc) (n_L:List qb) (qz qO qP b4_many b4_credits:Int) (b4_fine:Bool) (out_many out_credits:Int) (out_fine:Bool) (t13:List qa) (t14 t15:Int),XL2 evo 48 2 3 ⟨[(3,R.c (C.fn 49 [] [dP 0,dP 1])),(4,rP 2),(5,rP 3),(8,rP 4),(9,rP 5),(13,rL 8 qd t13),(14,rI t14),(15,rI t15)],[(0,B.blk 22 [dL 1 eI b0]),(1,B.blk 3 [dI b1]),(2,B.blk 30 [dI qi,dI n_N,dI qs,dL 2 qe qx,dL 5 qg n_L]),(3,B.blk 32 [dI qz,dI qO,dI qP]),(4,B.blk 91 [dI b4_many,dI b4_credits,dB b4_fine]),(5,B.blk 91 [dI out_many,dI out_credits,dB out_fine])],6,44⟩=(qX (JQ b0 b1 (qb.mk qi n_N qs qx n_L) (qf.mk qz qO qP) (qJ.mk b4_many b4_credits b4_fine) t13 t14) ((qJ.mk out_many out_credits out_fine),t15)).bind (fun(e:qJ)=>some (Go.Exit.exit 0,⟨[(8,rP 2),(9,rP 3)],[(0,B.blk 22 [dL 1 eI b0]),(1,B.blk 3 [dI b1]),(2,B.blk 91 [dI b4_many,dI b4_credits,dB b4_fine]),(3,B.blk 91 [dI e.many,dI e.credits,dB e.fine])],4,44⟩)):=
 fun b0 b1 qi n_N qs qx n_L qz qO qP b4_many b4_credits b4_fine out_many out_credits out_fine t13 t14 t15=>by
  have h:=q3T (E:=evo) (f:=48) (k:=2) (st:=fun x:qJ×Int=>(⟨[(3,R.c (C.fn 49 [] [dP 0,dP 1])),(4,rP 2),(5,rP 3),(8,rP 4),(9,rP 5),(13,rL 8 qd t13),(14,rI t14),(15,rI x.2)],[(0,B.blk 22 [dL 1 eI b0]),(1,B.blk 3 [dI b1]),(2,B.blk 30 [dI qi,dI n_N,dI qs,dL 2 qe qx,dL 5 qg n_L]),(3,B.blk 32 [dI qz,dI qO,dI qP]),(4,B.blk 91 [dI b4_many,dI b4_credits,dB b4_fine]),(5,B.blk 91 [dI x.1.many,dI x.1.credits,dB x.1.fine])],6,44⟩:S)) (ex:=fun(e:qJ)=>(Go.Exit.exit 0,⟨[(8,rP 2),(9,rP 3)],[(0,B.blk 22 [dL 1 eI b0]),(1,B.blk 3 [dI b1]),(2,B.blk 91 [dI b4_many,dI b4_credits,dB b4_fine]),(3,B.blk 91 [dI e.many,dI e.credits,dB e.fine])],4,44⟩)) (step:=(JQ b0 b1 (qb.mk qi n_N qs qx n_L) (qf.mk qz qO qP) (qJ.mk b4_many b4_credits b4_fine) t13 t14)) qrs qrq (fun e h=>by cases h) (fun x=>by
   obtain⟨out,t15⟩:=x;have:=qBy;have:=@qiQ.eq_1;have:=@qa5;have:=@q6l;have:=@JQ.eq_1;exact gA) ((qJ.mk out_many out_credits out_fine),t15)
  exact h
noncomputable def q2O (n:qb) (s:qf) (l:List qa) (b0:List Int) (b1:Int):Option qJ:=Option.bind (qX (JQ b0 b1 n s (qJ.mk 0 0 Bool.false) l ((l.length:Nat):Int)) (qJ.mk 0 0 Bool.true,0)) fun(a:qJ)=>some a
theorem qbZ:∀(qi n_N qs:Int) (qx:List qc) (n_L:List qb) (qz qO qP:Int) (l:List qa) (b0:List Int) (b1:Int),ev 48 2 [R.agg [dI qi,dI n_N,dI qs,dL 2 qe qx,dL 5 qg n_L],R.agg [dI qz,dI qO,dI qP],rL 8 qd l,R.c (C.fn 49 [] [dP 0,dP 1])] [(0,B.blk 22 [dL 1 eI b0]),(1,B.blk 3 [dI b1])]=(q2O (qb.mk qi n_N qs qx n_L) (qf.mk qz qO qP) l b0 b1).bind (fun(e:qJ)=>some (R.agg [dI e.many,dI e.credits,dB e.fine],[(0,B.blk 22 [dL 1 eI b0]),(1,B.blk 3 [dI b1])])):=
 fun qi n_N qs qx n_L qz qO qP l b0 b1=>by
  rw[zc qxx qEH.2.2.2 qEv]
  have:=qBy;have:=@q9a;have:=@q2O.eq_1;exact gA
noncomputable def Jp (x:(qb×qf×List qa×List Int×Int)):List R×List (Nat×B):=([R.agg [C.d (D.int .i64 x.1.Kind),C.d (D.int .i64 x.1.N),C.d (D.int .i64 x.1.Min),C.d (D.sl 2 x.1.Set.length (x.1.Set.flatMap qe)),C.d (D.sl 5 x.1.L.length (x.1.L.flatMap qg))],R.c (C.ptr 0 0),R.c (C.ptr 1 0),R.c (C.ptr 2 0),R.c (C.ptr 3 0),R.c (C.ptr 4 0)],[(0,B.blk 32 [C.d (D.int .i64 x.2.1.Worst),C.d (D.int .i64 x.2.1.Best),C.d (D.int .i64 x.2.1.Pass)]),(1,B.blk 33 [C.d (D.sl 8 x.2.2.1.length (x.2.2.1.flatMap qd))]),(2,B.blk 22 [C.d (D.sl 1 x.2.2.2.1.length (x.2.2.2.1.flatMap eI))]),(3,B.blk 3 [C.d (D.int .i64 x.2.2.2.2)]),(4,B.blk 89 [C.fn 47 [] [C.ptr 0 0,C.ptr 1 0,C.ptr 2 0,C.ptr 3 0,C.ptr 4 0]])])
noncomputable def JS:(Bool×Bool×qf×List qa×List Int×Int)→R×List (Nat×B):=fun(e:Bool×Bool×qf×List qa×List Int×Int)=>(R.tup [R.c (C.d (D.bool e.1)),R.c (C.d (D.bool e.2.1))],[(0,B.blk 32 [C.d (D.int .i64 e.2.2.1.Worst),C.d (D.int .i64 e.2.2.1.Best),C.d (D.int .i64 e.2.2.1.Pass)]),(1,B.blk 33 [C.d (D.sl 8 e.2.2.2.1.length (e.2.2.2.1.flatMap qd))]),(2,B.blk 22 [C.d (D.sl 1 e.2.2.2.2.1.length (e.2.2.2.2.1.flatMap eI))]),(3,B.blk 3 [C.d (D.int .i64 e.2.2.2.2.2)]),(4,B.blk 89 [C.fn 47 [] [C.ptr 0 0,C.ptr 1 0,C.ptr 2 0,C.ptr 3 0,C.ptr 4 0]])])
noncomputable def JN (rF:(qb×qf×List qa×List Int×Int)→Option (Bool×Bool×qf×List qa×List Int×Int)) (b5:qb) (t35:List qb) (t36:Int):(qf×List qa×List Int×Int×Bool×Int×Bool×Int)→Option ((qf×List qa×List Int×Int×Bool×Int×Bool×Int)⊕(qf×List qa×List Int×Int×Bool×Int×Bool))|(b0,b1,b2,b3,t7,t10,t11,t37)=>if t37<t36 then if 0≤t37∧t37<((t35.length:Nat):Int) then Option.bind t35[Int.toNat t37]? fun(a2:qb)=>Option.bind (rF (a2,(b0,(b1,(b2,b3))))) fun(a3:Prod Bool (Prod Bool (Prod qf (Prod (List qa) (Prod (List Int) Int)))))=>if t7=Bool.true then if t11=Bool.true then if a3.2.1=Bool.true then some (Sum.inl (a3.2.2.1,a3.2.2.2.1,a3.2.2.2.2.1,a3.2.2.2.2.2,a3.1,w64 (t10+1),Bool.true,w64 (t37+1))) else some (Sum.inl (a3.2.2.1,a3.2.2.2.1,a3.2.2.2.2.1,a3.2.2.2.2.2,a3.1,t10,Bool.true,w64 (t37+1))) else if(!a3.2.1)=Bool.true then if(!a3.1)=Bool.true then if a3.2.1=Bool.true then some (Sum.inl (a3.2.2.1,a3.2.2.2.1,a3.2.2.2.2.1,a3.2.2.2.2.2,a3.1,w64 (t10+1),Bool.true,w64 (t37+1))) else some (Sum.inl (a3.2.2.1,a3.2.2.2.1,a3.2.2.2.2.1,a3.2.2.2.2.2,a3.1,t10,Bool.true,w64 (t37+1))) else if a3.2.1=Bool.true then some (Sum.inl (a3.2.2.1,a3.2.2.2.1,a3.2.2.2.2.1,a3.2.2.2.2.2,a3.1,w64 (t10+1),b5.Kind==3,w64 (t37+1))) else some (Sum.inl (a3.2.2.1,a3.2.2.2.1,a3.2.2.2.2.1,a3.2.2.2.2.2,a3.1,t10,b5.Kind==3,w64 (t37+1))) else if a3.2.1=Bool.true then some (Sum.inl (a3.2.2.1,a3.2.2.2.1,a3.2.2.2.2.1,a3.2.2.2.2.2,a3.1,w64 (t10+1),Bool.false,w64 (t37+1))) else some (Sum.inl (a3.2.2.1,a3.2.2.2.1,a3.2.2.2.2.1,a3.2.2.2.2.2,a3.1,t10,Bool.false,w64 (t37+1))) else if t11=Bool.true then if a3.2.1=Bool.true then some (Sum.inl (a3.2.2.1,a3.2.2.2.1,a3.2.2.2.2.1,a3.2.2.2.2.2,Bool.false,w64 (t10+1),Bool.true,w64 (t37+1))) else some (Sum.inl (a3.2.2.1,a3.2.2.2.1,a3.2.2.2.2.1,a3.2.2.2.2.2,Bool.false,t10,Bool.true,w64 (t37+1))) else if(!a3.2.1)=Bool.true then if(!a3.1)=Bool.true then if a3.2.1=Bool.true then some (Sum.inl (a3.2.2.1,a3.2.2.2.1,a3.2.2.2.2.1,a3.2.2.2.2.2,Bool.false,w64 (t10+1),Bool.true,w64 (t37+1))) else some (Sum.inl (a3.2.2.1,a3.2.2.2.1,a3.2.2.2.2.1,a3.2.2.2.2.2,Bool.false,t10,Bool.true,w64 (t37+1))) else if a3.2.1=Bool.true then some (Sum.inl (a3.2.2.1,a3.2.2.2.1,a3.2.2.2.2.1,a3.2.2.2.2.2,Bool.false,w64 (t10+1),b5.Kind==3,w64 (t37+1))) else some (Sum.inl (a3.2.2.1,a3.2.2.2.1,a3.2.2.2.2.1,a3.2.2.2.2.2,Bool.false,t10,b5.Kind==3,w64 (t37+1))) else if a3.2.1=Bool.true then some (Sum.inl (a3.2.2.1,a3.2.2.2.1,a3.2.2.2.2.1,a3.2.2.2.2.2,Bool.false,w64 (t10+1),Bool.false,w64 (t37+1))) else some (Sum.inl (a3.2.2.1,a3.2.2.2.1,a3.2.2.2.2.1,a3.2.2.2.2.2,Bool.false,t10,Bool.false,w64 (t37+1))) else none else some (Sum.inr (b0,b1,b2,b3,t7,t10,t11))
theorem q8R (rE:Orc) (rF:(qb×qf×List qa×List Int×Int)→Option (Bool×Bool×qf×List qa×List Int×Int)) (hF:∀y,rE (.fn 47) 5 (Jp y).1 (Jp y).2=(rF y).bind fun e=>some (JS e)) (hM:∀g k a G,g≠47→rE (.fn g) k a G=ev g k a G) (hR:∀g asg bd k a G,rE (.rd g asg bd) k a G=evr g asg bd k a G):∀(qcM qfV qfW:Int) (b1:List qa) (b2:List Int) (b3 q9p qvF qdX:Int) (qdY:List qc) (qvG:List qb) (t7:Bool) (t10:Int) (t11:Bool) (t35:List qb) (t36 t37:Int),XL2 rE 47 5 8 ⟨[(5,rP 4),(6,rP 5),(7,rB t7),(10,rI t10),(11,rB t11),(35,rL 5 qg t35),(36,rI t36),(37,rI t37)],[(0,B.blk 32 [dI qcM,dI qfV,dI qfW]),(1,B.blk 33 [dL 8 qd b1]),(2,B.blk 22 [dL 1 eI b2]),(3,B.blk 3 [dI b3]),(4,B.blk 89 [C.fn 47 [] [dP 0,dP 1,dP 2,dP 3,dP 4]]),(5,B.blk 30 [dI q9p,dI qvF,dI qdX,dL 2 qe qdY,dL 5 qg qvG])],6,78⟩=(qX (JN rF (qb.mk q9p qvF qdX qdY qvG) t35 t36) ((qf.mk qcM qfV qfW),b1,b2,b3,t7,t10,t11,t37)).bind (fun(e:qf×List qa×List Int×Int×Bool×Int×Bool)=>some (Go.Exit.exit 0,⟨[(6,rP 5),(7,rB e.2.2.2.2.1),(10,rI e.2.2.2.2.2.1),(11,rB e.2.2.2.2.2.2)],[(0,B.blk 32 [dI e.1.Worst,dI e.1.Best,dI e.1.Pass]),(1,B.blk 33 [dL 8 qd e.2.1]),(2,B.blk 22 [dL 1 eI e.2.2.1]),(3,B.blk 3 [dI e.2.2.2.1]),(4,B.blk 89 [C.fn 47 [] [dP 0,dP 1,dP 2,dP 3,dP 4]]),(5,B.blk 30 [dI q9p,dI qvF,dI qdX,dL 2 qe qdY,dL 5 qg qvG])],6,78⟩)):=
 fun qcM qfV qfW b1 b2 b3 q9p qvF qdX qdY qvG t7 t10 t11 t35 t36 t37=>by
  have h:=q3T (E:=rE) (f:=47) (k:=5) (st:=fun x:qf×List qa×List Int×Int×Bool×Int×Bool×Int=>(⟨[(5,rP 4),(6,rP 5),(7,rB x.2.2.2.2.1),(10,rI x.2.2.2.2.2.1),(11,rB x.2.2.2.2.2.2.1),(35,rL 5 qg t35),(36,rI t36),(37,rI x.2.2.2.2.2.2.2)],[(0,B.blk 32 [dI x.1.Worst,dI x.1.Best,dI x.1.Pass]),(1,B.blk 33 [dL 8 qd x.2.1]),(2,B.blk 22 [dL 1 eI x.2.2.1]),(3,B.blk 3 [dI x.2.2.2.1]),(4,B.blk 89 [C.fn 47 [] [dP 0,dP 1,dP 2,dP 3,dP 4]]),(5,B.blk 30 [dI q9p,dI qvF,dI qdX,dL 2 qe qdY,dL 5 qg qvG])],6,78⟩:S)) (ex:=fun(e:qf×List qa×List Int×Int×Bool×Int×Bool)=>(Go.Exit.exit 0,⟨[(6,rP 5),(7,rB e.2.2.2.2.1),(10,rI e.2.2.2.2.2.1),(11,rB e.2.2.2.2.2.2)],[(0,B.blk 32 [dI e.1.Worst,dI e.1.Best,dI e.1.Pass]),(1,B.blk 33 [dL 8 qd e.2.1]),(2,B.blk 22 [dL 1 eI e.2.2.1]),(3,B.blk 3 [dI e.2.2.2.1]),(4,B.blk 89 [C.fn 47 [] [dP 0,dP 1,dP 2,dP 3,dP 4]]),(5,B.blk 30 [dI q9p,dI qvF,dI qdX,dL 2 qe qdY,dL 5 qg qvG])],6,78⟩)) (step:=(JN rF (qb.mk q9p qvF qdX qdY qvG) t35 t36)) qxm qwm (fun e h=>by cases h) (fun x=>by
   obtain⟨b0,b1,b2,b3,t7,t10,t11,t37⟩:=x;have hF':∀(qw Z9 qG:Int) (qK:List qc) (Zf:List qb) (q3e q5b q5c:Int) (v2:List qa) (v3:List Int) (v4:Int),rE (.fn 47) 5 [R.agg [dI qw,dI Z9,dI qG,dL 2 qe qK,dL 5 qg Zf],rP 0,rP 1,rP 2,rP 3,rP 4] [(0,B.blk 32 [dI q3e,dI q5b,dI q5c]),(1,B.blk 33 [dL 8 qd v2]),(2,B.blk 22 [dL 1 eI v3]),(3,B.blk 3 [dI v4]),(4,B.blk 89 [C.fn 47 [] [dP 0,dP 1,dP 2,dP 3,dP 4]])]=(rF ((qb.mk qw Z9 qG qK Zf),(qf.mk q3e q5b q5c),v2,v3,v4)).bind (fun e=>some (R.tup [rB e.1,rB e.2.1],[(0,B.blk 32 [dI e.2.2.1.Worst,dI e.2.2.1.Best,dI e.2.2.1.Pass]),(1,B.blk 33 [dL 8 qd e.2.2.2.1]),(2,B.blk 22 [dL 1 eI e.2.2.2.2.1]),(3,B.blk 3 [dI e.2.2.2.2.2]),(4,B.blk 89 [C.fn 47 [] [dP 0,dP 1,dP 2,dP 3,dP 4]])])):=fun qw Z9 qG qK Zf q3e q5b q5c v2 v3 v4=>hF ((qb.mk qw Z9 qG qK Zf),(qf.mk q3e q5b q5c),v2,v3,v4)
   have:=qGc;have:=@qkU.eq_1;have:=@JN.eq_1;exact gA) ((qf.mk qcM qfV qfW),b1,b2,b3,t7,t10,t11,t37)
  exact h
noncomputable def q1p (rF:(qb×qf×List qa×List Int×Int)→Option (Bool×Bool×qf×List qa×List Int×Int)):(qb×qf×List qa×List Int×Int)→Option (Bool×Bool×qf×List qa×List Int×Int)|(x0,v,v2,v3,v4)=>if q0z x0=Bool.true then Option.bind (q2O x0 v v2 v3 v4) fun(a2:qJ)=>Option.bind (q1I x0.Kind) fun(a3:Sum Unit Unit)=>Sum.elim (fun(a4:Unit)=>some (a2.many==0,zZ a2 x0,v,v2,v3,w64 (v4+1))) (fun(a5:Unit)=>some (a2.many==0,Qr a2 x0,v,v2,v3,w64 (v4+1))) a3 else Option.bind (qX (JN rF x0 x0.L ((x0.L.length:Nat):Int)) (v,(v2,(v3,(v4,(Bool.true,(0,(Bool.false,0)))))))) fun(a6:Prod qf (Prod (List qa) (Prod (List Int) (Prod Int (Prod Bool (Prod Int Bool))))))=>if(!a6.2.2.2.2.2.2)=Bool.true then some (a6.2.2.2.2.1,decide (x0.N≤a6.2.2.2.2.2.1),a6.1,a6.2.1,a6.2.2.1,a6.2.2.2.1) else some (a6.2.2.2.2.1,Bool.false,a6.1,a6.2.1,a6.2.2.1,a6.2.2.2.1)
theorem q6w:q4u 47 5 Jp JS q1p:=by
 intro rE rF hF hM hR x
 obtain⟨x0,v,v2,v3,v4⟩:=x
 show q78 rE 47 5 [R.agg [dI x0.Kind,dI x0.N,dI x0.Min,dL 2 qe x0.Set,dL 5 qg x0.L],rP 0,rP 1,rP 2,rP 3,rP 4] [(0,B.blk 32 [dI v.Worst,dI v.Best,dI v.Pass]),(1,B.blk 33 [dL 8 qd v2]),(2,B.blk 22 [dL 1 eI v3]),(3,B.blk 3 [dI v4]),(4,B.blk 89 [C.fn 47 [] [dP 0,dP 1,dP 2,dP 3,dP 4]])]=_
 have hF':∀(qw Z9 qG:Int) (qK:List qc) (Zf:List qb) (q3e q5b q5c:Int) (v2:List qa) (v3:List Int) (v4:Int),rE (.fn 47) 5 [R.agg [dI qw,dI Z9,dI qG,dL 2 qe qK,dL 5 qg Zf],rP 0,rP 1,rP 2,rP 3,rP 4] [(0,B.blk 32 [dI q3e,dI q5b,dI q5c]),(1,B.blk 33 [dL 8 qd v2]),(2,B.blk 22 [dL 1 eI v3]),(3,B.blk 3 [dI v4]),(4,B.blk 89 [C.fn 47 [] [dP 0,dP 1,dP 2,dP 3,dP 4]])]=(rF ((qb.mk qw Z9 qG qK Zf),(qf.mk q3e q5b q5c),v2,v3,v4)).bind (fun e=>some (R.tup [rB e.1,rB e.2.1],[(0,B.blk 32 [dI e.2.2.1.Worst,dI e.2.2.1.Best,dI e.2.2.1.Pass]),(1,B.blk 33 [dL 8 qd e.2.2.2.1]),(2,B.blk 22 [dL 1 eI e.2.2.2.2.1]),(3,B.blk 3 [dI e.2.2.2.2.2]),(4,B.blk 89 [C.fn 47 [] [dP 0,dP 1,dP 2,dP 3,dP 4]])])):=fun qw Z9 qG qK Zf q3e q5b q5c v2 v3 v4=>hF ((qb.mk qw Z9 qG qK Zf),(qf.mk q3e q5b q5c),v2,v3,v4)
 rw[q1R qBx qFg]
 have:=qGc;have:=@q48;have:=@qbZ;have:=@q5k;have:=@q2h;have:=@q3t;have:=q8R rE rF hF hM hR;have:=@q1p.eq_1;have:=@JS.eq_1;exact gA
theorem q3W:∀x y,Jp x=Jp y→x=y:=by
 rintro⟨⟨qoU,qoV,qr5,qr6,qr7⟩,⟨qHe,qBP,qF6⟩,a2,a3,a4⟩ ⟨⟨qoW,qoX,qr8,qr9,qra⟩,⟨qHf,qBQ,qF7⟩,b2,b3,b4⟩ h
 simp only[Jp,Prod.mk.injEq,List.cons.injEq,R.c.injEq,R.agg.injEq,R.tup.injEq,C.d.injEq,C.own.injEq,C.ptr.injEq,C.eptr.injEq,D.int.injEq,D.bool.injEq,D.str.injEq,D.sl.injEq,B.blk.injEq,B.row.injEq,ZR,q0x,Je,Jm,q01,JX,JY,q1b,JV,q16,q18,ZS,true_and,and_true,List.nil_append] at h
 simp only[h]
theorem q90:∀x y,JS x=JS y→x=y:=by
 rintro⟨a0,a1,⟨qKE,qKF,a2_2⟩,a3,a4,a5⟩ ⟨b0,b1,⟨qKG,qKH,b2_2⟩,b3,b4,b5⟩ h
 simp only[JS,Prod.mk.injEq,List.cons.injEq,R.c.injEq,R.agg.injEq,R.tup.injEq,C.d.injEq,C.own.injEq,C.ptr.injEq,C.eptr.injEq,D.int.injEq,D.bool.injEq,D.str.injEq,D.sl.injEq,B.blk.injEq,B.row.injEq,ZR,q0x,Je,Jm,q01,JX,JY,q1b,JV,q16,q18,ZS,true_and,and_true,List.nil_append] at h
 simp only[h]
noncomputable def q0b:(qb×qf×List qa×List Int×Int)→Option (Bool×Bool×qf×List qa×List Int×Int):=q5W 47 5 Jp JS
theorem qbQ (x:(qb×qf×List qa×List Int×Int)):q0b x=q1p q0b x:=q6D qDf.2.2.2 q3W q90 q6w x
theorem qbc (x0:qb) (v:qf) (v2:List qa) (v3:List Int) (v4:Int):ev 47 5 [R.agg [dI x0.Kind,dI x0.N,dI x0.Min,dL 2 qe x0.Set,dL 5 qg x0.L],rP 0,rP 1,rP 2,rP 3,rP 4] [(0,B.blk 32 [dI v.Worst,dI v.Best,dI v.Pass]),(1,B.blk 33 [dL 8 qd v2]),(2,B.blk 22 [dL 1 eI v3]),(3,B.blk 3 [dI v4]),(4,B.blk 89 [C.fn 47 [] [dP 0,dP 1,dP 2,dP 3,dP 4]])]=(q0b (x0,v,v2,v3,v4)).bind (fun(e:Bool×Bool×qf×List qa×List Int×Int)=>some (R.tup [rB e.1,rB e.2.1],[(0,B.blk 32 [dI e.2.2.1.Worst,dI e.2.2.1.Best,dI e.2.2.1.Pass]),(1,B.blk 33 [dL 8 qd e.2.2.2.1]),(2,B.blk 22 [dL 1 eI e.2.2.2.2.1]),(3,B.blk 3 [dI e.2.2.2.2.2]),(4,B.blk 89 [C.fn 47 [] [dP 0,dP 1,dP 2,dP 3,dP 4]])])):=(q56 qDf.2.2.2 q3W q6w (x0,v,v2,v3,v4))
theorem qcj:∀(qw Z9 qG:Int) (qK:List qc) (Zf:List qb) (q3e q5b q5c:Int) (v2:List qa) (v3:List Int) (v4:Int),ev 47 5 [R.agg [dI qw,dI Z9,dI qG,dL 2 qe qK,dL 5 qg Zf],rP 0,rP 1,rP 2,rP 3,rP 4] [(0,B.blk 32 [dI q3e,dI q5b,dI q5c]),(1,B.blk 33 [dL 8 qd v2]),(2,B.blk 22 [dL 1 eI v3]),(3,B.blk 3 [dI v4]),(4,B.blk 89 [C.fn 47 [] [dP 0,dP 1,dP 2,dP 3,dP 4]])]=(q0b ((qb.mk qw Z9 qG qK Zf),(qf.mk q3e q5b q5c),v2,v3,v4)).bind (fun(e:Bool×Bool×qf×List qa×List Int×Int)=>some (R.tup [rB e.1,rB e.2.1],[(0,B.blk 32 [dI e.2.2.1.Worst,dI e.2.2.1.Best,dI e.2.2.1.Pass]),(1,B.blk 33 [dL 8 qd e.2.2.2.1]),(2,B.blk 22 [dL 1 eI e.2.2.2.2.1]),(3,B.blk 3 [dI e.2.2.2.2.2]),(4,B.blk 89 [C.fn 47 [] [dP 0,dP 1,dP 2,dP 3,dP 4]])])):=
 fun qw Z9 qG qK Zf q3e q5b q5c v2 v3 v4=>qbc (qb.mk qw Z9 qG qK Zf) (qf.mk q3e q5b q5c) v2 v3 v4
noncomputable def J0 (n:qb) (s:qf) (l:List qa) (list:List Int):Option Bool:=Option.bind (q1S n) fun(a:List qb)=>Option.bind (q1H n) fun(a2:Int)=>if(a2 != 0)=Bool.true then some Bool.false else if(((list.length:Nat):Int) != ((l.length:Nat):Int))=Bool.true then some Bool.false else Option.bind (zN list ((a.length:Nat):Int)) fun(a3:Bool)=>if a3=Bool.true then some Bool.false else Option.bind (q0b (n,(s,(l,(list,0))))) fun(a4:Prod Bool (Prod Bool (Prod qf (Prod (List qa) (Prod (List Int) Int)))))=>some a4.2.1
theorem q5d:∀(qi n_N qs:Int) (qx:List qc) (n_L:List qb) (qz qO qP:Int) (l:List qa) (list:List Int),ev 23 0 [R.agg [dI qi,dI n_N,dI qs,dL 2 qe qx,dL 5 qg n_L],R.agg [dI qz,dI qO,dI qP],rL 8 qd l,rL 1 eI list] []=(J0 (qb.mk qi n_N qs qx n_L) (qf.mk qz qO qP) l list).bind (fun(e:Bool)=>some (rB e,[])):=
 fun qi n_N qs qx n_L qz qO qP l list=>by
  rw[zc qEW qGJ.2.2.2 qIQ]
  have:=qKl;have:=@q6x;have:=@q7F;have:=@q2M;have:=@qcj;have:=@J0.eq_1;exact gA
theorem qb1:∀(qi n_N qs Qy q0V Zk qS:Int) (zj:ByteArray) (Qz q0W Zl qT:Int) (zl:ByteArray) (qU:Int) (zm:ByteArray) (Zz:Int) (Ju:ByteArray) (q29 q4g qas q36 ZA:Int) (Jv:ByteArray) (q2a q4h qat q37 ZB:Int) (Jw:ByteArray) (q2b q4i qau q38 list0 list1 list2 qz qO qP:Int),ev 23 0 [R.agg [dI qi,dI n_N,dI qs,C.d (D.sl 2 0 []),C.d (D.sl 5 2 [D.int .i64 Qy,D.int .i64 q0V,D.int .i64 Zk,D.sl 2 1 [D.int .i64 qS,D.str zj],D.sl 5 0 [],D.int .i64 Qz,D.int .i64 q0W,D.int .i64 Zl,D.sl 2 2 [D.int .i64 qT,D.str zl,D.int .i64 qU,D.str zm],D.sl 5 0 []])],R.agg [dI qz,dI qO,dI qP],R.c (C.d (D.sl 8 3 [D.int .i64 Zz,D.str Ju,D.int .i64 q29,D.int .i64 q4g,D.int .i64 qas,D.sl 1 0 [],D.int .i64 q36,D.sl 1 0 [],D.int .i64 ZA,D.str Jv,D.int .i64 q2a,D.int .i64 q4h,D.int .i64 qat,D.sl 1 0 [],D.int .i64 q37,D.sl 1 0 [],D.int .i64 ZB,D.str Jw,D.int .i64 q2b,D.int .i64 q4i,D.int .i64 qau,D.sl 1 0 [],D.int .i64 q38,D.sl 1 0 []])),R.c (C.d (D.sl 1 3 [D.int .i64 list0,D.int .i64 list1,D.int .i64 list2]))] []=(J0 (qb.mk qi n_N qs [] [(qb.mk Qy q0V Zk [(qc.mk qS zj)] []),(qb.mk Qz q0W Zl [(qc.mk qT zl),(qc.mk qU zm)] [])]) (qf.mk qz qO qP) [(qa.mk (qc.mk Zz Ju) q29 q4g qas [] q36 []),(qa.mk (qc.mk ZA Jv) q2a q4h qat [] q37 []),(qa.mk (qc.mk ZB Jw) q2b q4i qau [] q38 [])] [list0,list1,list2]).bind (fun(e:Bool)=>some (rB e,[])):=by
 intro qi n_N qs Qy q0V Zk qS zj Qz q0W Zl qT zl qU zm Zz Ju q29 q4g qas q36 ZA Jv q2a q4h qat q37 ZB Jw q2b q4i qau q38 list0 list1 list2 qz qO qP;have h:=q5d ((qb.mk qi n_N qs [] [(qb.mk Qy q0V Zk [(qc.mk qS zj)] []),(qb.mk Qz q0W Zl [(qc.mk qT zl),(qc.mk qU zm)] [])])).Kind ((qb.mk qi n_N qs [] [(qb.mk Qy q0V Zk [(qc.mk qS zj)] []),(qb.mk Qz q0W Zl [(qc.mk qT zl),(qc.mk qU zm)] [])])).N ((qb.mk qi n_N qs [] [(qb.mk Qy q0V Zk [(qc.mk qS zj)] []),(qb.mk Qz q0W Zl [(qc.mk qT zl),(qc.mk qU zm)] [])])).Min ((qb.mk qi n_N qs [] [(qb.mk Qy q0V Zk [(qc.mk qS zj)] []),(qb.mk Qz q0W Zl [(qc.mk qT zl),(qc.mk qU zm)] [])])).Set ((qb.mk qi n_N qs [] [(qb.mk Qy q0V Zk [(qc.mk qS zj)] []),(qb.mk Qz q0W Zl [(qc.mk qT zl),(qc.mk qU zm)] [])])).L ((qf.mk qz qO qP)).Worst ((qf.mk qz qO qP)).Best ((qf.mk qz qO qP)).Pass [(qa.mk (qc.mk Zz Ju) q29 q4g qas [] q36 []),(qa.mk (qc.mk ZA Jv) q2a q4h qat [] q37 []),(qa.mk (qc.mk ZB Jw) q2b q4i qau [] q38 [])] [list0,list1,list2]
 first
  | exact h
  | (simp only[rL,dL,bR,bZ,Nat.reduceAdd] at h;exact h)
theorem qCX:okL 26 qg0:=zb (qh qxv) (by kernel_rfl) (by kernel_rfl)
def qEt:=JA_ @qg0.eq_1 (JA_ @Tryz.f26.eq_1 @qxv)
theorem qyl:lbO 26 6=qml:=Q9 (qh qxv) rfl
theorem qx9:okL 26 qml:=zB qCX (List.mem_of_getElem? (i:=0) (by kernel_rfl))
theorem qvB:lbO 26 10=qhK:=Q9 (qh qxv) rfl
theorem qtq:okL 26 qhK:=zB qCX (List.mem_of_getElem? (i:=1) (by kernel_rfl))
noncomputable def q02 (want:List Int) (set0:Int) (ok:Bool) (t34:List Bool) (t35:Int) (t36:Int) (t41:List Int) (t42:Int):(Bool×Int)→Option ((Bool×Int)⊕Bool)|(in0,t43)=>if t43<t42 then if 0≤t43∧t43<((t41.length:Nat):Int) then Option.bind t41[Int.toNat t43]? fun(a:Int)=>if in0=Bool.true then some (Sum.inl (Bool.true,w64 (t43+1))) else some (Sum.inl (a==set0,w64 (t43+1))) else none else some (Sum.inr in0)
theorem q8Z:∀(want:List Int) (set0:Int) (ok in0:Bool) (t34:List Bool) (t35 t36:Int) (t41:List Int) (t42 t43:Int),XL2 evo 26 0 10 ⟨[(1,rL 1 eI want),(10,rI set0),(11,rB ok),(12,rB in0),(34,rL 1 eB t34),(35,rI t35),(36,rI t36),(41,rL 1 eI t41),(42,rI t42),(43,rI t43)],[],0,58⟩=(qX (q02 want set0 ok t34 t35 t36 t41 t42) (in0,t43)).bind (fun(e:Bool)=>some (Go.Exit.exit 2,⟨[(1,rL 1 eI want),(11,rB ok),(12,rB e),(34,rL 1 eB t34),(35,rI t35),(36,rI t36)],[],0,58⟩)):=
 fun want set0 ok in0 t34 t35 t36 t41 t42 t43=>by
  revert t43;revert in0;exact q6v qvB qtq (fun e=>by exact⟨_,rfl,fun h=>by cases h⟩) fun in0 t43=>by
   have:=qEt;have:=@qhK.eq_1;have:=@q02.eq_1;exact gA
noncomputable def q0p (want:List Int) (t34:List Bool) (t35:Int):Int→Option (Int⊕(Unit⊕Unit))|t36=>if t36<t35 then if 0≤t36∧t36<((t34.length:Nat):Int) then Option.bind t34[Int.toNat t36]? fun(a:Bool)=>Option.bind (qX (q02 want t36 a t34 t35 t36 want ((want.length:Nat):Int)) (Bool.false,0)) fun(a2:Bool)=>if(!(a==a2))=Bool.true then some (Sum.inr (Sum.inl ())) else some (Sum.inl (w64 (t36+1))) else none else some (Sum.inr (Sum.inr ()))
theorem q9H:∀(want:List Int) (t34:List Bool) (t35 t36:Int),XL2 evo 26 0 6 ⟨[(1,rL 1 eI want),(34,rL 1 eB t34),(35,rI t35),(36,rI t36)],[],0,58⟩=(qX (q0p want t34 t35) t36).bind (Sum.elim (fun(e:Unit)=>some (Go.Exit.ret,⟨[(4,rB Bool.false)],[],0,58⟩)) (fun(e:Unit)=>some (Go.Exit.exit 0,⟨[(4,R.any)],[],0,58⟩))):=
 fun want t34 t35 t36=>by
  revert t36;exact qaQ qyl qx9 (fun e=>by rcases e with _|_<;>exact⟨_,rfl,fun h=>by cases h⟩) fun x=>by
   have:=qEt;have:=@qml.eq_1;have:=@q8Z;have:=@q0p.eq_1;exact gA
noncomputable def QN (n:qb) (want:List Int):Option Bool:=Option.bind (q1P n (qN 1) [qa.mk (qc.mk 1 (ByteArray.mk (List.toArray [65,49]))) 5 60 0 [] 0 [],qa.mk (qc.mk 1 (ByteArray.mk (List.toArray [66,49]))) 6 90 0 [] 0 [],qa.mk (qc.mk 1 (ByteArray.mk (List.toArray [65,49]))) 5 40 0 [] 0 []]) fun(a:Prod (List Bool) Int)=>if(a.2 != 0)=Bool.true then some Bool.false else if(((a.1.length:Nat):Int) != 8)=Bool.true then some Bool.false else Option.bind (qX (q0p want a.1 ((a.1.length:Nat):Int)) 0) fun(a2:Sum Unit Unit)=>Sum.elim (fun(a3:Unit)=>some Bool.false) (fun(a4:Unit)=>some Bool.true) a2
theorem q2R:∀(qi n_N qs:Int) (qx:List qc) (n_L:List qb) (want:List Int),ev 26 0 [R.agg [dI qi,dI n_N,dI qs,dL 2 qe qx,dL 5 qg n_L],rL 1 eI want] []=(QN (qb.mk qi n_N qs qx n_L) want).bind (fun(e:Bool)=>some (rB e,[])):=
 fun qi n_N qs qx n_L want=>by
  rw[zc qxv qGO.2.2.2 qCX]
  have:=qEt;have:=@q4X;have:=@q4d;have:=@qc3;have:=@q9H;have:=@QN.eq_1;exact gA
theorem qae:∀(qi n_N qs zz:Int) (zU:ByteArray) (want0:Int) , ev 26 0 [R.agg [dI qi,dI n_N,dI qs,C.d (D.sl 2 1 [D.int .i64 zz,D.str zU]),C.d (D.sl 5 0 [])],R.c (C.d (D.sl 1 1 [D.int .i64 want0]))] []=(QN (qb.mk qi n_N qs [(qc.mk zz zU)] []) [want0]).bind (fun(e:Bool)=>some (rB e,[])):=by
 intro qi n_N qs zz zU want0;have h:=q2R ((qb.mk qi n_N qs [(qc.mk zz zU)] [])).Kind ((qb.mk qi n_N qs [(qc.mk zz zU)] [])).N ((qb.mk qi n_N qs [(qc.mk zz zU)] [])).Min ((qb.mk qi n_N qs [(qc.mk zz zU)] [])).Set ((qb.mk qi n_N qs [(qc.mk zz zU)] [])).L [want0]
 first
  | exact h
  | (simp only[rL,dL,bR,bZ,Nat.reduceAdd] at h;exact h)
theorem qah:∀(qi n_N qs zz:Int) (zU:ByteArray) (q0C:Int) (q1O:ByteArray) (want0 want1 want2 want3:Int) , ev 26 0 [R.agg [dI qi,dI n_N,dI qs,C.d (D.sl 2 2 [D.int .i64 zz,D.str zU,D.int .i64 q0C,D.str q1O]),C.d (D.sl 5 0 [])],R.c (C.d (D.sl 1 4 [D.int .i64 want0,D.int .i64 want1,D.int .i64 want2,D.int .i64 want3]))] []=(QN (qb.mk qi n_N qs [(qc.mk zz zU),(qc.mk q0C q1O)] []) [want0,want1,want2,want3]).bind (fun(e:Bool)=>some (rB e,[])):=by
 intro qi n_N qs zz zU q0C q1O want0 want1 want2 want3;have h:=q2R ((qb.mk qi n_N qs [(qc.mk zz zU),(qc.mk q0C q1O)] [])).Kind ((qb.mk qi n_N qs [(qc.mk zz zU),(qc.mk q0C q1O)] [])).N ((qb.mk qi n_N qs [(qc.mk zz zU),(qc.mk q0C q1O)] [])).Min ((qb.mk qi n_N qs [(qc.mk zz zU),(qc.mk q0C q1O)] [])).Set ((qb.mk qi n_N qs [(qc.mk zz zU),(qc.mk q0C q1O)] [])).L [want0,want1,want2,want3]
 first
  | exact h
  | (simp only[rL,dL,bR,bZ,Nat.reduceAdd] at h;exact h)
theorem qa0:∀(qi n_N qs Qy q0V Zk qS:Int) (zj:ByteArray) (Qz q0W Zl qT:Int) (zl:ByteArray) (qU:Int) (zm:ByteArray) (want0:Int) , ev 26 0 [R.agg [dI qi,dI n_N,dI qs,C.d (D.sl 2 0 []),C.d (D.sl 5 2 [D.int .i64 Qy,D.int .i64 q0V,D.int .i64 Zk,D.sl 2 1 [D.int .i64 qS,D.str zj],D.sl 5 0 [],D.int .i64 Qz,D.int .i64 q0W,D.int .i64 Zl,D.sl 2 2 [D.int .i64 qT,D.str zl,D.int .i64 qU,D.str zm],D.sl 5 0 []])],R.c (C.d (D.sl 1 1 [D.int .i64 want0]))] []=(QN (qb.mk qi n_N qs [] [(qb.mk Qy q0V Zk [(qc.mk qS zj)] []),(qb.mk Qz q0W Zl [(qc.mk qT zl),(qc.mk qU zm)] [])]) [want0]).bind (fun(e:Bool)=>some (rB e,[])):=by
 intro qi n_N qs Qy q0V Zk qS zj Qz q0W Zl qT zl qU zm want0;have h:=q2R ((qb.mk qi n_N qs [] [(qb.mk Qy q0V Zk [(qc.mk qS zj)] []),(qb.mk Qz q0W Zl [(qc.mk qT zl),(qc.mk qU zm)] [])])).Kind ((qb.mk qi n_N qs [] [(qb.mk Qy q0V Zk [(qc.mk qS zj)] []),(qb.mk Qz q0W Zl [(qc.mk qT zl),(qc.mk qU zm)] [])])).N ((qb.mk qi n_N qs [] [(qb.mk Qy q0V Zk [(qc.mk qS zj)] []),(qb.mk Qz q0W Zl [(qc.mk qT zl),(qc.mk qU zm)] [])])).Min ((qb.mk qi n_N qs [] [(qb.mk Qy q0V Zk [(qc.mk qS zj)] []),(qb.mk Qz q0W Zl [(qc.mk qT zl),(qc.mk qU zm)] [])])).Set ((qb.mk qi n_N qs [] [(qb.mk Qy q0V Zk [(qc.mk qS zj)] []),(qb.mk Qz q0W Zl [(qc.mk qT zl),(qc.mk qU zm)] [])])).L [want0]
 first
  | exact h
  | (simp only[rL,dL,bR,bZ,Nat.reduceAdd] at h;exact h)
theorem qam:∀(qi n_N qs Qy q0V Zk qS:Int) (zj:ByteArray) (Qz q0W Zl qT:Int) (zl:ByteArray) (qU:Int) (zm:ByteArray) (want0 want1 want2 want3 want4:Int) , ev 26 0 [R.agg [dI qi,dI n_N,dI qs,C.d (D.sl 2 0 []),C.d (D.sl 5 2 [D.int .i64 Qy,D.int .i64 q0V,D.int .i64 Zk,D.sl 2 1 [D.int .i64 qS,D.str zj],D.sl 5 0 [],D.int .i64 Qz,D.int .i64 q0W,D.int .i64 Zl,D.sl 2 2 [D.int .i64 qT,D.str zl,D.int .i64 qU,D.str zm],D.sl 5 0 []])],R.c (C.d (D.sl 1 5 [D.int .i64 want0,D.int .i64 want1,D.int .i64 want2,D.int .i64 want3,D.int .i64 want4]))] []=(QN (qb.mk qi n_N qs [] [(qb.mk Qy q0V Zk [(qc.mk qS zj)] []),(qb.mk Qz q0W Zl [(qc.mk qT zl),(qc.mk qU zm)] [])]) [want0,want1,want2,want3,want4]).bind (fun(e:Bool)=>some (rB e,[])):=by
 intro qi n_N qs Qy q0V Zk qS zj Qz q0W Zl qT zl qU zm want0 want1 want2 want3 want4;have h:=q2R ((qb.mk qi n_N qs [] [(qb.mk Qy q0V Zk [(qc.mk qS zj)] []),(qb.mk Qz q0W Zl [(qc.mk qT zl),(qc.mk qU zm)] [])])).Kind ((qb.mk qi n_N qs [] [(qb.mk Qy q0V Zk [(qc.mk qS zj)] []),(qb.mk Qz q0W Zl [(qc.mk qT zl),(qc.mk qU zm)] [])])).N ((qb.mk qi n_N qs [] [(qb.mk Qy q0V Zk [(qc.mk qS zj)] []),(qb.mk Qz q0W Zl [(qc.mk qT zl),(qc.mk qU zm)] [])])).Min ((qb.mk qi n_N qs [] [(qb.mk Qy q0V Zk [(qc.mk qS zj)] []),(qb.mk Qz q0W Zl [(qc.mk qT zl),(qc.mk qU zm)] [])])).Set ((qb.mk qi n_N qs [] [(qb.mk Qy q0V Zk [(qc.mk qS zj)] []),(qb.mk Qz q0W Zl [(qc.mk qT zl),(qc.mk qU zm)] [])])).L [want0,want1,want2,want3,want4]
 first
  | exact h
  | (simp only[rL,dL,bR,bZ,Nat.reduceAdd] at h;exact h)
theorem qG2:okL 20 qjH:=zb (qh qBO) (by kernel_rfl) (by kernel_rfl)
def qFv:=JA_ @qjH.eq_1 (JA_ @Tryz.f20.eq_1 @qBO)
theorem qyt:lbO 20 4=qmx:=Q9 (qh qBO) rfl
theorem qwP:okL 20 qmx:=zB qG2 (List.mem_of_getElem? (i:=0) (by kernel_rfl))
noncomputable def Jl (a:List Int) (b:List Int):Int→Option (Int⊕(Unit⊕Unit))|k=>if k<((a.length:Nat):Int) then if 0≤k∧k<((a.length:Nat):Int) then Option.bind a[Int.toNat k]? fun(a2:Int)=>if 0≤k∧k<((b.length:Nat):Int) then Option.bind b[Int.toNat k]? fun(a3:Int)=>if(a2 != a3)=Bool.true then some (Sum.inr (Sum.inl ())) else some (Sum.inl (w64 (k+1))) else none else none else some (Sum.inr (Sum.inr ()))
theorem q7b:∀(a b:List Int) (k:Int),XL2 evo 20 0 4 ⟨[(0,rL 1 eI a),(1,rL 1 eI b),(5,rI k)],[],0,26⟩=(qX (Jl a b) k).bind (Sum.elim (fun(e:Unit)=>some (Go.Exit.ret,⟨[(4,rB Bool.false)],[],0,26⟩)) (fun(e:Unit)=>some (Go.Exit.exit 0,⟨[(4,R.any)],[],0,26⟩))):=
 fun a b k=>by
  revert k;exact qaQ qyt qwP (fun e=>by rcases e with _|_<;>exact⟨_,rfl,fun h=>by cases h⟩) fun x=>by
   have:=qFv;have:=@qmx.eq_1;have:=@Jl.eq_1;exact gA
noncomputable def Jc (a:List Int) (b:List Int):Option Bool:=if(((a.length:Nat):Int) != ((b.length:Nat):Int))=Bool.true then some Bool.false else Option.bind (qX (Jl a b) 0) fun(a2:Sum Unit Unit)=>Sum.elim (fun(a3:Unit)=>some Bool.false) (fun(a4:Unit)=>some Bool.true) a2
theorem q4x:∀(a b:List Int),ev 20 0 [rL 1 eI a,rL 1 eI b] []=(Jc a b).bind (fun(e:Bool)=>some (rB e,[])):=
 fun a b=>by
  rw[zc qBO qGC.2.2.2 qG2]
  have:=qFv;have:=@q7b;have:=@Jc.eq_1;exact gA
theorem q6J:∀(b0 b1 b2:Int) (a:List Int),ev 20 0 [rL 1 eI a,R.c (C.d (D.sl 1 3 [D.int .i64 b0,D.int .i64 b1,D.int .i64 b2]))] []=(Jc a [b0,b1,b2]).bind (fun(e:Bool)=>some (rB e,[])):=by
 intro b0 b1 b2 a;have h:=q4x a [b0,b1,b2]
 first
  | exact h
  | (simp only[rL,dL,bR,bZ,Nat.reduceAdd] at h;exact h)
theorem q6Z:∀(b0 b1:Int) (a:List Int),ev 20 0 [rL 1 eI a,R.c (C.d (D.sl 1 2 [D.int .i64 b0,D.int .i64 b1]))] []=(Jc a [b0,b1]).bind (fun(e:Bool)=>some (rB e,[])):=by
 intro b0 b1 a;have h:=q4x a [b0,b1]
 first
  | exact h
  | (simp only[rL,dL,bR,bZ,Nat.reduceAdd] at h;exact h)
noncomputable def q2m:Option Bool:=Option.bind (Qw (qb.mk 4 1 0 [] [qb.mk 1 0 50 [qc.mk 1 (ByteArray.mk (List.toArray [65,49]))] [],qb.mk 2 10 0 [qc.mk 1 (ByteArray.mk (List.toArray [65,49])),qc.mk 1 (ByteArray.mk (List.toArray [66,49]))] []]) (qN 1) [qa.mk (qc.mk 1 (ByteArray.mk (List.toArray [65,49]))) 5 60 0 [] 0 [],qa.mk (qc.mk 1 (ByteArray.mk (List.toArray [66,49]))) 6 90 0 [] 0 [],qa.mk (qc.mk 1 (ByteArray.mk (List.toArray [65,49]))) 5 40 0 [] 0 []] 7) fun(a:Prod (List Int) Bool)=>Option.bind (Qw (qb.mk 4 1 0 [] [qb.mk 1 0 50 [qc.mk 1 (ByteArray.mk (List.toArray [65,49]))] [],qb.mk 2 10 0 [qc.mk 1 (ByteArray.mk (List.toArray [65,49])),qc.mk 1 (ByteArray.mk (List.toArray [66,49]))] []]) (qN 1) [qa.mk (qc.mk 1 (ByteArray.mk (List.toArray [65,49]))) 5 60 0 [] 0 [],qa.mk (qc.mk 1 (ByteArray.mk (List.toArray [66,49]))) 6 90 0 [] 0 [],qa.mk (qc.mk 1 (ByteArray.mk (List.toArray [65,49]))) 5 40 0 [] 0 []] 3) fun(a2:Prod (List Int) Bool)=>Option.bind (Qw (qb.mk 3 0 0 [] [qb.mk 1 0 50 [qc.mk 1 (ByteArray.mk (List.toArray [65,49]))] [],qb.mk 2 10 0 [qc.mk 1 (ByteArray.mk (List.toArray [65,49])),qc.mk 1 (ByteArray.mk (List.toArray [66,49]))] []]) (qN 1) [qa.mk (qc.mk 1 (ByteArray.mk (List.toArray [65,49]))) 5 60 0 [] 0 [],qa.mk (qc.mk 1 (ByteArray.mk (List.toArray [66,49]))) 6 90 0 [] 0 [],qa.mk (qc.mk 1 (ByteArray.mk (List.toArray [65,49]))) 5 40 0 [] 0 []] 3) fun(a3:Prod (List Int) Bool)=>Option.bind (q0l (qb.mk 1 0 50 [qc.mk 1 (ByteArray.mk (List.toArray [65,49]))] []) (qN 1) (qa.mk (qc.mk 1 (ByteArray.mk (List.toArray [65,49]))) 5 60 0 [] 0 [])) fun(a4:Bool)=>if a4=Bool.true then Option.bind (q0l (qb.mk 1 0 50 [qc.mk 1 (ByteArray.mk (List.toArray [65,49]))] []) (qN 1) (qa.mk (qc.mk 1 (ByteArray.mk (List.toArray [66,49]))) 6 90 0 [] 0 [])) fun(a5:Bool)=>if(!a5)=Bool.true then Option.bind (q0l (qb.mk 1 0 50 [qc.mk 1 (ByteArray.mk (List.toArray [65,49]))] []) (qN 1) (qa.mk (qc.mk 1 (ByteArray.mk (List.toArray [65,49]))) 5 40 0 [] 0 [])) fun(a6:Bool)=>if(!a6)=Bool.true then Option.bind (J0 (qb.mk 4 1 0 [] [qb.mk 1 0 50 [qc.mk 1 (ByteArray.mk (List.toArray [65,49]))] [],qb.mk 2 10 0 [qc.mk 1 (ByteArray.mk (List.toArray [65,49])),qc.mk 1 (ByteArray.mk (List.toArray [66,49]))] []]) (qN 1) [qa.mk (qc.mk 1 (ByteArray.mk (List.toArray [65,49]))) 5 60 0 [] 0 [],qa.mk (qc.mk 1 (ByteArray.mk (List.toArray [66,49]))) 6 90 0 [] 0 [],qa.mk (qc.mk 1 (ByteArray.mk (List.toArray [65,49]))) 5 40 0 [] 0 []] [(0:Int),(-1),(-1)]) fun(a7:Bool)=>if a7=Bool.true then Option.bind (J0 (qb.mk 4 1 0 [] [qb.mk 1 0 50 [qc.mk 1 (ByteArray.mk (List.toArray [65,49]))] [],qb.mk 2 10 0 [qc.mk 1 (ByteArray.mk (List.toArray [65,49])),qc.mk 1 (ByteArray.mk (List.toArray [66,49]))] []]) (qN 1) [qa.mk (qc.mk 1 (ByteArray.mk (List.toArray [65,49]))) 5 60 0 [] 0 [],qa.mk (qc.mk 1 (ByteArray.mk (List.toArray [66,49]))) 6 90 0 [] 0 [],qa.mk (qc.mk 1 (ByteArray.mk (List.toArray [65,49]))) 5 40 0 [] 0 []] [(0:Int),1,(-1)]) fun(a8:Bool)=>if(!a8)=Bool.true then Option.bind (QN (qb.mk 1 0 50 [qc.mk 1 (ByteArray.mk (List.toArray [65,49]))] []) [(1:Int)]) fun(a9:Bool)=>if a9=Bool.true then Option.bind (QN (qb.mk 2 10 0 [qc.mk 1 (ByteArray.mk (List.toArray [65,49])),qc.mk 1 (ByteArray.mk (List.toArray [66,49]))] []) [(3:Int),5,6,7]) fun(a10:Bool)=>if a10=Bool.true then Option.bind (QN (qb.mk 3 0 0 [] [qb.mk 1 0 50 [qc.mk 1 (ByteArray.mk (List.toArray [65,49]))] [],qb.mk 2 10 0 [qc.mk 1 (ByteArray.mk (List.toArray [65,49])),qc.mk 1 (ByteArray.mk (List.toArray [66,49]))] []]) [(7:Int)]) fun(a11:Bool)=>if a11=Bool.true then Option.bind (QN (qb.mk 4 1 0 [] [qb.mk 1 0 50 [qc.mk 1 (ByteArray.mk (List.toArray [65,49]))] [],qb.mk 2 10 0 [qc.mk 1 (ByteArray.mk (List.toArray [65,49])),qc.mk 1 (ByteArray.mk (List.toArray [66,49]))] []]) [(1:Int),3,5,6,7]) fun(a12:Bool)=>if a12=Bool.true then if a.2=Bool.true then if a2.2=Bool.true then if(!a3.2)=Bool.true then Option.bind (Jc a.1 [(0:Int),1,1]) fun(a13:Bool)=>if a13=Bool.true then Option.bind (Jc a2.1 [(1:Int),1]) fun(e0:Bool)=>some e0 else some Bool.false else some Bool.false else some Bool.false else some Bool.false else some Bool.false else some Bool.false else some Bool.false else some Bool.false else some Bool.false else some Bool.false else some Bool.false else some Bool.false else some Bool.false
theorem qaM:ev 6 0 [] []=(q2m).bind (fun(e:Bool)=>some (rB e,[])):=
 by
  rw[zc bd6 pw6.2.2.2 lo6]
  have:=cx6;have:=@q4X;have:=@q4d;have:=@qao;have:=@qcf;have:=@qb1;have:=@qae;have:=@qah;have:=@qa0;have:=@qam;have:=@q6J;have:=@q6Z;have:=@q2m.eq_1;exact gA
theorem qCO:okL 34 qgE:=zb (qh qAQ) (by kernel_rfl) (by kernel_rfl)
def qDW:=JA_ @qgE.eq_1 (JA_ @Tryz.f34.eq_1 @qAQ)
theorem qyE:lbO 34 6=qkK:=Q9 (qh qAQ) rfl
theorem qxY:okL 34 qkK:=zB qCO (List.mem_of_getElem? (i:=0) (by kernel_rfl))
theorem qsp:lbO 34 15=qi6:=Q9 (qh qAQ) rfl
theorem qu4:okL 34 qi6:=zB qCO (List.mem_of_getElem? (i:=1) (by kernel_rfl))
theorem qD1:okL 62 qjB:=zb (qh qxW) (by kernel_rfl) (by kernel_rfl)
def qBl:=JA_ @qjB.eq_1 (JA_ @Tryz.f62.eq_1 @qxW)
theorem qrT:lbO 62 5=qix:=Q9 (qh qxW) rfl
theorem qrl:okL 62 qix:=zB qD1 (List.mem_of_getElem? (i:=0) (by kernel_rfl))
noncomputable def J2 (x:(qb×Int×List ql)):List R×List (Nat×B):=([R.c (C.own 0 6 0 x.2.2.length),R.agg [C.d (D.int .i64 x.1.Kind),C.d (D.int .i64 x.1.N),C.d (D.int .i64 x.1.Min),C.d (D.sl 2 x.1.Set.length (x.1.Set.flatMap qe)),C.d (D.sl 5 x.1.L.length (x.1.L.flatMap qg))],R.c (C.d (D.int .i64 x.2.1))],[(0,B.row 126 6 ((x.2.2.flatMap qE).map C.d))])
noncomputable def Jo:(Unit⊕(List ql))→R×List (Nat×B):=Sum.elim (fun(e:Unit)=>(R.tup [R.c (C.d (D.sl 6 0 [])),R.c (C.d (D.bool Bool.false))],[])) (fun(e:List ql)=>(R.tup [R.c (C.own 0 6 0 e.length),R.c (C.d (D.bool Bool.true))],[(0,B.row 126 6 ((e.flatMap qE).map C.d))]))
noncomputable def q0Z (rF:(qb×Int×List ql)→Option (Unit⊕(List ql))) (n:qb) (deep:Int):(List ql×Int)→Option ((List ql×Int)⊕(Unit⊕(List ql)))|(out,i)=>if i<((n.L.length:Nat):Int) then if 0≤i∧i<((n.L.length:Nat):Int) then Option.bind n.L[Int.toNat i]? fun(a2:qb)=>Option.bind (rF (a2,(w64 (deep+1),out))) fun(a3:Sum Unit (List ql))=>Sum.elim (fun(a4:Unit)=>some (Sum.inr (Sum.inl ()))) (fun(a5:List ql)=>some (Sum.inl (a5,w64 (i+1)))) a3 else none else some (Sum.inr (Sum.inr out))
theorem q7a (rE:Orc) (rF:(qb×Int×List ql)→Option (Unit⊕(List ql))) (hF:∀y,rE (.fn 62) 0 (J2 y).1 (J2 y).2=(rF y).bind fun e=>some (Jo e)) (hM:∀g k a G,g≠62→rE (.fn g) k a G=ev g k a G) (hR:∀g asg bd k a G,rE (.rd g asg bd) k a G=evr g asg bd k a G):∀(out:List ql) (qi n_N qs:Int) (qx:List qc) (n_L:List qb) (deep i:Int) (QE:Nat),QE=out.length→XL2 rE 62 0 5 ⟨[(0,rO 0 6 QE),(2,rI deep),(4,rP 1),(8,rI i)],[(0,bR 126 6 qE out),(1,B.blk 30 [dI qi,dI n_N,dI qs,dL 2 qe qx,dL 5 qg n_L])],2,47⟩=(qX (q0Z rF (qb.mk qi n_N qs qx n_L) deep) (out,i)).bind (Sum.elim (fun(e:Unit)=>some (Go.Exit.ret,⟨[(0,R.c (C.any)),(6,R.c (C.nils)),(7,rB Bool.false)],[],0,47⟩)) (fun(e:List ql)=>some (Go.Exit.exit 0,⟨[(0,rO 0 6 e.length),(6,R.any),(7,R.any)],[(0,bR 126 6 qE e)],1,47⟩))):=
 by
 intro out qi n_N qs qx n_L deep i QE h0
 subst h0
 revert i;revert out;exact q6v qrT qrl (fun e=>by rcases e with _|_<;>exact⟨_,rfl,fun h=>by cases h⟩) fun out i=>by
  have hF':∀(qi n_N qs:Int) (qx:List qc) (n_L:List qb) (deep:Int) (out:List ql) (QE:Nat),QE=out.length→rE (.fn 62) 0 [rO 0 6 QE,R.agg [dI qi,dI n_N,dI qs,dL 2 qe qx,dL 5 qg n_L],rI deep] [(0,bR 126 6 qE out)]=(rF ((qb.mk qi n_N qs qx n_L),deep,out)).bind (Sum.elim (fun(e:Unit)=>some (R.tup [R.c (C.d (D.sl 6 0 [])),rB Bool.false],[])) (fun(e:List ql)=>some (R.tup [rO 0 6 e.length,rB Bool.true],[(0,bR 126 6 qE e)]))):=by intro qi n_N qs qx n_L deep out QE h0;subst h0;exact(hF ((qb.mk qi n_N qs qx n_L),deep,out)).trans (by congr 1;funext e;rcases e with _|_<;>rfl)
  have:=qBl;have:=@qix.eq_1;have:=@q0Z.eq_1;exact gA
noncomputable def q0X (rF:(qb×Int×List ql)→Option (Unit⊕(List ql))):(qb×Int×List ql)→Option (Unit⊕(List ql))|(n,deep,out)=>if 100<deep then some (Sum.inl ()) else if 10000≤((out.length:Nat):Int) then some (Sum.inl ()) else if out.length+1≤Go.maxLen∧(out.length+1)*80≤140737488355328 then Option.bind (qX (q0Z rF n deep) (out++[ql.mk n deep],0)) fun(a2:Sum Unit (List ql))=>Sum.elim (fun(a3:Unit)=>some (Sum.inl ())) (fun(a4:List ql)=>some (Sum.inr a4)) a2 else none
theorem q5V:q4u 62 0 J2 Jo q0X:=by
 intro rE rF hF hM hR x
 obtain⟨n,deep,out⟩:=x
 show q78 rE 62 0 [rO 0 6 out.length,R.agg [dI n.Kind,dI n.N,dI n.Min,dL 2 qe n.Set,dL 5 qg n.L],rI deep] [(0,bR 126 6 qE out)]=_
 have hF':∀(qi n_N qs:Int) (qx:List qc) (n_L:List qb) (deep:Int) (out:List ql) (QE:Nat),QE=out.length→rE (.fn 62) 0 [rO 0 6 QE,R.agg [dI qi,dI n_N,dI qs,dL 2 qe qx,dL 5 qg n_L],rI deep] [(0,bR 126 6 qE out)]=(rF ((qb.mk qi n_N qs qx n_L),deep,out)).bind (Sum.elim (fun(e:Unit)=>some (R.tup [R.c (C.d (D.sl 6 0 [])),rB Bool.false],[])) (fun(e:List ql)=>some (R.tup [rO 0 6 e.length,rB Bool.true],[(0,bR 126 6 qE e)]))):=by intro qi n_N qs qx n_L deep out QE h0;subst h0;exact(hF ((qb.mk qi n_N qs qx n_L),deep,out)).trans (by congr 1;funext e;rcases e with _|_<;>rfl)
 rw[q1R qxW qD1]
 have:=qBl;have:=q7a rE rF hF hM hR;have:=@q0X.eq_1;have:=@Jo.eq_1;exact gA
theorem q3L:∀x y,J2 x=J2 y→x=y:=by
 rintro⟨⟨qoU,qoV,qr5,qr6,qr7⟩,a1,a2⟩ ⟨⟨qoW,qoX,qr8,qr9,qra⟩,b1,b2⟩ h
 simp only[J2,Prod.mk.injEq,List.cons.injEq,R.c.injEq,R.agg.injEq,R.tup.injEq,C.d.injEq,C.own.injEq,C.ptr.injEq,C.eptr.injEq,D.int.injEq,D.bool.injEq,D.str.injEq,D.sl.injEq,B.blk.injEq,B.row.injEq,ZR,q0x,Je,Jm,q01,JX,JY,q1b,JV,q16,q18,ZS,true_and,and_true,List.nil_append] at h
 simp only[h]
theorem q8o:∀x y,Jo x=Jo y→x=y:=by
 rintro(_|a1) (_|b1) h<;>simp only[Sum.elim_inl,Sum.elim_inr,Jo,Prod.mk.injEq,List.cons.injEq,R.c.injEq,R.agg.injEq,R.tup.injEq,C.d.injEq,C.own.injEq,C.ptr.injEq,C.eptr.injEq,D.int.injEq,D.bool.injEq,D.str.injEq,D.sl.injEq,B.blk.injEq,B.row.injEq,ZR,q0x,Je,Jm,q01,JX,JY,q1b,JV,q16,q18,ZS,true_and,and_true,List.nil_append,reduceCtorEq,false_and,and_false] at h<;>simp only[h]
noncomputable def ZV:(qb×Int×List ql)→Option (Unit⊕(List ql)):=q5W 62 0 J2 Jo
theorem qaI (x:(qb×Int×List ql)):ZV x=q0X ZV x:=q6D qBH.2.2.2 q3L q8o q5V x
theorem q9z (n:qb) (deep:Int) (out:List ql):ev 62 0 [rO 0 6 out.length,R.agg [dI n.Kind,dI n.N,dI n.Min,dL 2 qe n.Set,dL 5 qg n.L],rI deep] [(0,bR 126 6 qE out)]=(ZV (n,deep,out)).bind (Sum.elim (fun(e:Unit)=>some (R.tup [R.c (C.d (D.sl 6 0 [])),rB Bool.false],[])) (fun(e:List ql)=>some (R.tup [rO 0 6 e.length,rB Bool.true],[(0,bR 126 6 qE e)]))):=(q56 qBH.2.2.2 q3L q5V (n,deep,out)).trans (by congr 1;funext e;rcases e with _|_<;>rfl)
theorem qaW:∀(qi n_N qs:Int) (qx:List qc) (n_L:List qb) (deep:Int) (out:List ql) (QE:Nat),QE=out.length→ev 62 0 [rO 0 6 QE,R.agg [dI qi,dI n_N,dI qs,dL 2 qe qx,dL 5 qg n_L],rI deep] [(0,bR 126 6 qE out)]=(ZV ((qb.mk qi n_N qs qx n_L),deep,out)).bind (Sum.elim (fun(e:Unit)=>some (R.tup [R.c (C.d (D.sl 6 0 [])),rB Bool.false],[])) (fun(e:List ql)=>some (R.tup [rO 0 6 e.length,rB Bool.true],[(0,bR 126 6 qE e)]))):=
 by
 intro qi n_N qs qx n_L deep out QE h0
 subst h0
 exact q9z (qb.mk qi n_N qs qx n_L) deep out
noncomputable def q1L (n:qb) (deep:Int):(List ql×Int)→Option ((List ql×Int)⊕(Unit⊕(List ql)))|(out,i)=>if i<((n.L.length:Nat):Int) then if 0≤i∧i<((n.L.length:Nat):Int) then Option.bind n.L[Int.toNat i]? fun(a:qb)=>Option.bind (ZV (a,(w64 (deep+1),out))) fun(a2:Sum Unit (List ql))=>Sum.elim (fun(a3:Unit)=>some (Sum.inr (Sum.inl ()))) (fun(a4:List ql)=>some (Sum.inl (a4,w64 (i+1)))) a2 else none else some (Sum.inr (Sum.inr out))
theorem qa8:∀(out:List ql) (qi n_N qs:Int) (qx:List qc) (n_L:List qb) (deep i:Int) (QE:Nat),QE=out.length→XL2 evo 62 0 5 ⟨[(0,rO 0 6 QE),(2,rI deep),(4,rP 1),(8,rI i)],[(0,bR 126 6 qE out),(1,B.blk 30 [dI qi,dI n_N,dI qs,dL 2 qe qx,dL 5 qg n_L])],2,47⟩=(qX (q1L (qb.mk qi n_N qs qx n_L) deep) (out,i)).bind (Sum.elim (fun(e:Unit)=>some (Go.Exit.ret,⟨[(0,R.c (C.any)),(6,R.c (C.nils)),(7,rB Bool.false)],[],0,47⟩)) (fun(e:List ql)=>some (Go.Exit.exit 0,⟨[(0,rO 0 6 e.length),(6,R.any),(7,R.any)],[(0,bR 126 6 qE e)],1,47⟩))):=
 by
 intro out qi n_N qs qx n_L deep i QE h0
 subst h0
 revert i;revert out;exact q6v qrT qrl (fun e=>by rcases e with _|_<;>exact⟨_,rfl,fun h=>by cases h⟩) fun out i=>by
  have:=qBl;have:=@qix.eq_1;have:=@qaW;have:=@q1L.eq_1;exact gA
theorem q7v:∀(q3H q6q q4j:Int) (q4k:List qc) (q6r:List qb) (qay qi n_N qs:Int) (qx:List qc) (n_L:List qb) (deep i:Int),XL2 evo 62 0 5 ⟨[(0,rO 0 6 1),(2,rI deep),(4,rP 1),(8,rI i)],[(0,B.row 126 6 [dI q3H,dI q6q,dI q4j,dL 2 qe q4k,dL 5 qg q6r,dI qay]),(1,B.blk 30 [dI qi,dI n_N,dI qs,dL 2 qe qx,dL 5 qg n_L])],2,47⟩=(qX (q1L (qb.mk qi n_N qs qx n_L) deep) ([(ql.mk (qb.mk q3H q6q q4j q4k q6r) qay)],i)).bind (Sum.elim (fun(e:Unit)=>some (Go.Exit.ret,⟨[(0,R.c (C.any)),(6,R.c (C.nils)),(7,rB Bool.false)],[],0,47⟩)) (fun(e:List ql)=>some (Go.Exit.exit 0,⟨[(0,rO 0 6 e.length),(6,R.any),(7,R.any)],[(0,bR 126 6 qE e)],1,47⟩))):=by
 intro q3H q6q q4j q4k q6r qay qi n_N qs qx n_L deep i;have h:=qa8 [(ql.mk (qb.mk q3H q6q q4j q4k q6r) qay)] ((qb.mk qi n_N qs qx n_L)).Kind ((qb.mk qi n_N qs qx n_L)).N ((qb.mk qi n_N qs qx n_L)).Min ((qb.mk qi n_N qs qx n_L)).Set ((qb.mk qi n_N qs qx n_L)).L deep i _ rfl
 first
  | exact h
  | (simp only[rL,dL,bR,bZ,Nat.reduceAdd] at h;exact h)
noncomputable def q1N (n:qb) (deep:Int):Option (Unit⊕(List ql)):=if 100<deep then some (Sum.inl ()) else if 1≤Go.maxLen then Option.bind (qX (q1L n deep) ([ql.mk n deep],0)) fun(a:Sum Unit (List ql))=>Sum.elim (fun(a2:Unit)=>some (Sum.inl ())) (fun(a3:List ql)=>some (Sum.inr a3)) a else none
theorem q4n:∀(qi n_N qs:Int) (qx:List qc) (n_L:List qb) (deep:Int),ev 62 0 [R.c (C.nils),R.agg [dI qi,dI n_N,dI qs,dL 2 qe qx,dL 5 qg n_L],rI deep] []=(q1N (qb.mk qi n_N qs qx n_L) deep).bind (Sum.elim (fun(e:Unit)=>some (R.tup [R.c (C.d (D.sl 6 0 [])),rB Bool.false],[])) (fun(e:List ql)=>some (R.tup [rO 0 6 e.length,rB Bool.true],[(0,bR 126 6 qE e)]))):=
 fun qi n_N qs qx n_L deep=>by
  rw[zc qxW qBH.2.2.2 qD1]
  have:=qBl;have:=@q7v;have:=@q1N.eq_1;exact gA
theorem qHU:okL 63 qnH:=zb (qh qEB) (by kernel_rfl) (by kernel_rfl)
def qIW:=JA_ @qnH.eq_1 (JA_ @Tryz.f63.eq_1 @qEB)
noncomputable def q52 (n:qb):Option Bool:=if(n.Kind != 3)=Bool.true then some (n.Kind != 4) else some Bool.false
noncomputable def q0h (n:qb):Bool:=if(n.Kind != 3)=Bool.true then n.Kind != 4 else Bool.false
theorem qc1 (n:qb):q52 n=some (q0h n):=by
 unfold q52 q0h
 simp only[QZ]
theorem q4y:∀(qi n_N qs:Int) (qx:List qc) (n_L:List qb),ev 63 0 [R.agg [dI qi,dI n_N,dI qs,dL 2 qe qx,dL 5 qg n_L]] []=some (rB (q0h (qb.mk qi n_N qs qx n_L)),[]):=
 fun qi n_N qs qx n_L=>by
  have h:ev 63 0 [R.agg [dI qi,dI n_N,dI qs,dL 2 qe qx,dL 5 qg n_L]] []=(q52 (qb.mk qi n_N qs qx n_L)).bind (fun(e:Bool)=>some (rB e,[])):=by
   rw[zc qEB qG8.2.2.2 qHU]
   have:=qIW;have:=@q52.eq_1;exact gA
  rw[qc1] at h
  exact h
noncomputable def Zu (nodes:List ql):(Int×Int)→Option ((Int×Int)⊕(Int⊕Int))|(leaves,i)=>if i<((nodes.length:Nat):Int) then if 0≤i∧i<((nodes.length:Nat):Int) then Option.bind nodes[Int.toNat i]? fun(a:ql)=>if 5<a.Deep then some (Sum.inr (Sum.inl leaves)) else if 0≤i∧i<((nodes.length:Nat):Int) then Option.bind nodes[Int.toNat i]? fun(a2:ql)=>if q0h a2.Need=Bool.true then some (Sum.inl (w64 (leaves+1),w64 (i+1))) else some (Sum.inl (leaves,w64 (i+1))) else none else none else some (Sum.inr (Sum.inr leaves))
theorem q8V:∀(nodes:List ql) (leaves i:Int) (q0t:Nat),q0t=nodes.length→XL2 evo 34 0 6 ⟨[(3,rO 0 6 q0t),(5,rI leaves),(6,rI i)],[(0,bR 126 6 qE nodes)],1,62⟩=(qX (Zu nodes) (leaves,i)).bind (Sum.elim (fun(e:Int)=>some (Go.Exit.ret,⟨[(2,rI 2),(3,rO 0 6 nodes.length),(5,rI e)],[(0,bR 126 6 qE nodes)],1,62⟩)) (fun(e:Int)=>some (Go.Exit.exit 0,⟨[(2,R.any),(3,rO 0 6 nodes.length),(5,rI e)],[(0,bR 126 6 qE nodes)],1,62⟩))):=
 by
 intro nodes leaves i q0t h0
 subst h0
 revert i;revert leaves;exact q6v qyE qxY (fun e=>by rcases e with _|_<;>exact⟨_,rfl,fun h=>by cases h⟩) fun leaves i=>by
  have:=qDW;have:=@qkK.eq_1;have:=@q4y;have:=@Zu.eq_1;exact gA
theorem qEb:okL 64 qgr:=zb (qh qz5) (by kernel_rfl) (by kernel_rfl)
def qCN:=JA_ @qgr.eq_1 (JA_ @Tryz.f64.eq_1 @qz5)
theorem qtB:lbO 64 23=qh1:=Q9 (qh qz5) rfl
theorem qtA:okL 64 qh1:=zB qEb (List.mem_of_getElem? (i:=0) (by kernel_rfl))
theorem qu0:lbO 64 28=qhZ:=Q9 (qh qz5) rfl
theorem qsB:okL 64 qhZ:=zB qEb (List.mem_of_getElem? (i:=1) (by kernel_rfl))
theorem qHO:okL 85 qnY:=zb (qh qEf) (by kernel_rfl) (by kernel_rfl)
def qHx:=JA_ @qnY.eq_1 (JA_ @Tryz.f85.eq_1 @qEf)
noncomputable def q82 (n:Int) (low:Int) (high:Int):Option Bool:=if low≤n then some (decide (n≤high)) else some Bool.false
noncomputable def ZH (n:Int) (low:Int) (high:Int):Bool:=if low≤n then decide (n≤high) else Bool.false
theorem qeg (n low high:Int):q82 n low high=some (ZH n low high):=by
 unfold q82 ZH
 simp only[QZ]
theorem qfE:∀(n low high:Int),ev 85 0 [rI n,rI low,rI high] []=some (rB (ZH n low high),[]):=
 fun n low high=>by
  have h:ev 85 0 [rI n,rI low,rI high] []=(q82 n low high).bind (fun(e:Bool)=>some (rB e,[])):=by
   rw[zc qEf qG0.2.2.2 qHO]
   have:=qHx;have:=@q82.eq_1;exact gA
  rw[qeg] at h
  exact h
theorem qII:okL 86 qmS:=zb (qh qCu) (by kernel_rfl) (by kernel_rfl)
def qHT:=JA_ @qmS.eq_1 (JA_ @Tryz.f86.eq_1 @qCu)
theorem qz4:okL 100 qeY:=zb (qh qqM) (by kernel_rfl) (by kernel_rfl)
def qyA:=JA_ @qeY.eq_1 (JA_ @Tryz.f100.eq_1 @qqM)
theorem qup:lbO 100 2=qi8:=Q9 (qh qqM) rfl
theorem qvq:okL 100 qi8:=zB qz4 (List.mem_of_getElem? (i:=0) (by kernel_rfl))
noncomputable def q0Q (s:ByteArray):Int→Option (Int⊕(Unit⊕Unit))|k=>if k<((ByteArray.size s:Nat):Int) then if 0≤k then Option.bind (Array.toList (ByteArray.data s))[Int.toNat k]? fun(a:UInt8)=>if 65≤((UInt8.toNat a:Nat):Int) then if 0≤k then Option.bind (Array.toList (ByteArray.data s))[Int.toNat k]? fun(a2:UInt8)=>if 0≤k then Option.bind (Array.toList (ByteArray.data s))[Int.toNat k]? fun(a3:UInt8)=>if 48≤((UInt8.toNat a3:Nat):Int) then if 0≤k then Option.bind (Array.toList (ByteArray.data s))[Int.toNat k]? fun(a4:UInt8)=>if(!(decide (((UInt8.toNat a2:Nat):Int)≤90)))=Bool.true then if(!(decide (((UInt8.toNat a4:Nat):Int)≤57)))=Bool.true then some (Sum.inr (Sum.inl ())) else some (Sum.inl (w64 (k+1))) else some (Sum.inl (w64 (k+1))) else none else if(!(decide (((UInt8.toNat a2:Nat):Int)≤90)))=Bool.true then some (Sum.inr (Sum.inl ())) else some (Sum.inl (w64 (k+1))) else none else none else if 0≤k then Option.bind (Array.toList (ByteArray.data s))[Int.toNat k]? fun(a5:UInt8)=>if 48≤((UInt8.toNat a5:Nat):Int) then if 0≤k then Option.bind (Array.toList (ByteArray.data s))[Int.toNat k]? fun(a6:UInt8)=>if(!(decide (((UInt8.toNat a6:Nat):Int)≤57)))=Bool.true then some (Sum.inr (Sum.inl ())) else some (Sum.inl (w64 (k+1))) else none else some (Sum.inr (Sum.inl ())) else none else none else some (Sum.inr (Sum.inr ()))
theorem qa7:∀(s:ByteArray) (k:Int),XL2 evo 100 0 2 ⟨[(0,rS s),(3,rI k)],[],0,46⟩=(qX (q0Q s) k).bind (Sum.elim (fun(e:Unit)=>some (Go.Exit.ret,⟨[(0,rS s),(2,rB Bool.false)],[],0,46⟩)) (fun(e:Unit)=>some (Go.Exit.exit 0,⟨[(0,rS s),(2,R.any)],[],0,46⟩))):=
 fun s k=>by
  revert k;exact qaQ qup qvq (fun e=>by rcases e with _|_<;>exact⟨_,rfl,fun h=>by cases h⟩) fun x=>by
   have:=qyA;have:=@qi8.eq_1;have:=@q0Q.eq_1;exact gA
noncomputable def q3J (s:ByteArray):Option Bool:=Option.bind (qX (q0Q s) 0) fun(a:Sum Unit Unit)=>Sum.elim (fun(a2:Unit)=>some Bool.false) (fun(a3:Unit)=>if 1≤((ByteArray.size s:Nat):Int) then some (decide (((ByteArray.size s:Nat):Int)≤8)) else some Bool.false) a
theorem qdg:∀(s:ByteArray),ev 100 0 [rS s] []=(q3J s).bind (fun(e:Bool)=>some (rB e,[])):=
 fun s=>by
  rw[zc qqM qzX.2.2.2 qz4]
  have:=qyA;have:=@qa7;have:=@q3J.eq_1;exact gA
noncomputable def q2X (c:qc):Option Bool:=Option.bind (q3J c.Code) fun(a:Bool)=>if a=Bool.true then if 1≤c.School then some (decide (c.School≤8)) else some Bool.false else some Bool.false
theorem qce:∀(q0N:Int) (q42:ByteArray),ev 86 0 [R.agg [dI q0N,dS q42]] []=(q2X (qc.mk q0N q42)).bind (fun(e:Bool)=>some (rB e,[])):=
 fun q0N q42=>by
  rw[zc qCu qFE.2.2.2 qII]
  have:=qHT;have:=@qdg;have:=@q2X.eq_1;exact gA
noncomputable def ZY (b0:qb):Int→Option (Int⊕(Unit⊕Unit))|t3=>if t3<((b0.Set.length:Nat):Int) then if 0≤t3∧t3<((b0.Set.length:Nat):Int) then Option.bind b0.Set[Int.toNat t3]? fun(a:qc)=>Option.bind (q2X a) fun(a2:Bool)=>if(!a2)=Bool.true then some (Sum.inr (Sum.inl ())) else some (Sum.inl (w64 (t3+1))) else none else some (Sum.inr (Sum.inr ()))
theorem q9Z:∀(zo q1x zP:Int) (zQ:List qc) (zq:List qb) (t3:Int),XL2 evo 64 0 23 ⟨[(1,rP 0),(3,rI t3)],[(0,B.blk 30 [dI zo,dI q1x,dI zP,dL 2 qe zQ,dL 5 qg zq])],1,116⟩=(qX (ZY (qb.mk zo q1x zP zQ zq)) t3).bind (Sum.elim (fun(e:Unit)=>some (Go.Exit.ret,⟨[(1,rP 0),(2,rI 1)],[(0,B.blk 30 [dI zo,dI q1x,dI zP,dL 2 qe zQ,dL 5 qg zq])],1,116⟩)) (fun(e:Unit)=>some (Go.Exit.exit 1,⟨[(1,rP 0),(2,R.any)],[(0,B.blk 30 [dI zo,dI q1x,dI zP,dL 2 qe zQ,dL 5 qg zq])],1,116⟩))):=
 fun zo q1x zP zQ zq t3=>by
  revert t3;exact qaQ qtB qtA (fun e=>by rcases e with _|_<;>exact⟨_,rfl,fun h=>by cases h⟩) fun x=>by
   have:=qCN;have:=@qh1.eq_1;have:=@qce;have:=@ZY.eq_1;exact gA
theorem qJI:okL 77 qmA:=zb (qh qEC) (by kernel_rfl) (by kernel_rfl)
def qJt:=JA_ @qmA.eq_1 (JA_ @Tryz.f77.eq_1 @qEC)
noncomputable def q2v (a:qc) (b:qc):Option Bool:=if a.School<b.School then some Bool.true else if(a.School==b.School)=Bool.true then some (Go.Op.bytesLess (ByteArray.toList a.Code) (ByteArray.toList b.Code)) else some Bool.false
noncomputable def Q8 (a:qc) (b:qc):Bool:=if a.School<b.School then Bool.true else if(a.School==b.School)=Bool.true then Go.Op.bytesLess (ByteArray.toList a.Code) (ByteArray.toList b.Code) else Bool.false
theorem q8A (a b:qc):q2v a b=some (Q8 a b):=by
 unfold q2v Q8
 simp only[QZ]
theorem q12:∀(q0B:Int) (q3P:ByteArray) (q4e:Int) (qar:ByteArray),ev 77 0 [R.agg [dI q0B,dS q3P],R.agg [dI q4e,dS qar]] []=some (rB (Q8 (qc.mk q0B q3P) (qc.mk q4e qar)),[]):=
 fun q0B q3P q4e qar=>by
  have h:ev 77 0 [R.agg [dI q0B,dS q3P],R.agg [dI q4e,dS qar]] []=(q2v (qc.mk q0B q3P) (qc.mk q4e qar)).bind (fun(e:Bool)=>some (rB e,[])):=by
   rw[zc qEC qGp.2.2.2 qJI]
   have:=qJt;have:=@q2v.eq_1;exact gA
  rw[q8A] at h
  exact h
noncomputable def ZX (b0:qb):Int→Option (Int⊕(Unit⊕Unit))|t4=>if t4<((b0.Set.length:Nat):Int) then if 0≤w64 (t4-1)∧w64 (t4-1)<((b0.Set.length:Nat):Int) then Option.bind b0.Set[Int.toNat (w64 (t4-1))]? fun(a:qc)=>if 0≤t4∧t4<((b0.Set.length:Nat):Int) then Option.bind b0.Set[Int.toNat t4]? fun(a2:qc)=>if(!(Q8 a a2))=Bool.true then some (Sum.inr (Sum.inl ())) else some (Sum.inl (w64 (t4+1))) else none else none else some (Sum.inr (Sum.inr ()))
theorem q9Y:∀(zo q1x zP:Int) (zQ:List qc) (zq:List qb) (t4:Int),XL2 evo 64 0 28 ⟨[(1,rP 0),(4,rI t4)],[(0,B.blk 30 [dI zo,dI q1x,dI zP,dL 2 qe zQ,dL 5 qg zq])],1,116⟩=(qX (ZX (qb.mk zo q1x zP zQ zq)) t4).bind (Sum.elim (fun(e:Unit)=>some (Go.Exit.ret,⟨[(2,rI 7)],[],0,116⟩)) (fun(e:Unit)=>some (Go.Exit.exit 3,⟨[(2,R.any)],[],0,116⟩))):=
 fun zo q1x zP zQ zq t4=>by
  revert t4;exact qaQ qu0 qsB (fun e=>by rcases e with _|_<;>exact⟨_,rfl,fun h=>by cases h⟩) fun x=>by
   have:=qCN;have:=@qhZ.eq_1;have:=@q12;have:=@ZX.eq_1;exact gA
noncomputable def q4v (x0:qb):Option Int:=if(x0.Kind==1)=Bool.true then if(x0.N != 0)=Bool.true then some 13 else if 0<((x0.L.length:Nat):Int) then some 13 else if(!(ZH x0.Min (-1000) 1000))=Bool.true then some 3 else if(((x0.Set.length:Nat):Int)==0)=Bool.true then some 2 else if 12<((x0.Set.length:Nat):Int) then some 2 else Option.bind (qX (ZY x0) 0) fun(a:Sum Unit Unit)=>Sum.elim (fun(a2:Unit)=>some 1) (fun(a3:Unit)=>Option.bind (qX (ZX x0) 1) fun(a4:Sum Unit Unit)=>Sum.elim (fun(a5:Unit)=>some 7) (fun(a6:Unit)=>some 0) a4) a else if(x0.Kind==2)=Bool.true then if 0<((x0.L.length:Nat):Int) then some 13 else if(!(ZH x0.N 1 600))=Bool.true then some 3 else if(!(ZH x0.Min (-1000) 1000))=Bool.true then some 3 else if(((x0.Set.length:Nat):Int)==0)=Bool.true then some 2 else if 12<((x0.Set.length:Nat):Int) then some 2 else Option.bind (qX (ZY x0) 0) fun(a7:Sum Unit Unit)=>Sum.elim (fun(a8:Unit)=>some 1) (fun(a9:Unit)=>Option.bind (qX (ZX x0) 1) fun(a10:Sum Unit Unit)=>Sum.elim (fun(a11:Unit)=>some 7) (fun(a12:Unit)=>some 0) a10) a7 else if(x0.Kind==3)=Bool.true then if(x0.Min != 0)=Bool.true then some 13 else if 0<((x0.Set.length:Nat):Int) then some 13 else if(((x0.L.length:Nat):Int)==0)=Bool.true then some 13 else if(x0.Kind==3)=Bool.true then if(x0.N != 0)=Bool.true then some 13 else if(x0.Kind==4)=Bool.true then if(!(ZH x0.N 1 ((x0.L.length:Nat):Int)))=Bool.true then some 3 else some 0 else some 0 else if(x0.Kind==4)=Bool.true then if(!(ZH x0.N 1 ((x0.L.length:Nat):Int)))=Bool.true then some 3 else some 0 else some 0 else if(x0.Kind==4)=Bool.true then if(x0.Min != 0)=Bool.true then some 13 else if 0<((x0.Set.length:Nat):Int) then some 13 else if(((x0.L.length:Nat):Int)==0)=Bool.true then some 13 else if(x0.Kind==3)=Bool.true then if(x0.N != 0)=Bool.true then some 13 else if(x0.Kind==4)=Bool.true then if(!(ZH x0.N 1 ((x0.L.length:Nat):Int)))=Bool.true then some 3 else some 0 else some 0 else if(x0.Kind==4)=Bool.true then if(!(ZH x0.N 1 ((x0.L.length:Nat):Int)))=Bool.true then some 3 else some 0 else some 0 else some 13
theorem qel:∀(qw Z9 qG:Int) (qK:List qc) (Zf:List qb),ev 64 0 [R.agg [dI qw,dI Z9,dI qG,dL 2 qe qK,dL 5 qg Zf]] []=(q4v (qb.mk qw Z9 qG qK Zf)).bind (fun(e:Int)=>some (rI e,[])):=
 fun qw Z9 qG qK Zf=>by
  rw[zc qz5 qGv.2.2.2 qEb]
  have:=qCN;have:=@qfE;have:=@q9Z;have:=@q9Y;have:=@q4v.eq_1;exact gA
noncomputable def Jk (nodes:List ql):Int→Option (Int⊕(Int⊕Unit))|i=>if i<((nodes.length:Nat):Int) then if 0≤i∧i<((nodes.length:Nat):Int) then Option.bind nodes[Int.toNat i]? fun(a:ql)=>Option.bind (q4v a.Need) fun(a2:Int)=>if(a2 != 0)=Bool.true then some (Sum.inr (Sum.inl a2)) else some (Sum.inl (w64 (i+1))) else none else some (Sum.inr (Sum.inr ()))
theorem q8t:∀(nodes:List ql) (i:Int) (q0t:Nat),q0t=nodes.length→XL2 evo 34 0 15 ⟨[(3,rO 0 6 q0t),(7,rI i)],[(0,bR 126 6 qE nodes)],1,62⟩=(qX (Jk nodes) i).bind (Sum.elim (fun(e:Int)=>some (Go.Exit.ret,⟨[(2,rI e)],[],0,62⟩)) (fun(e:Unit)=>some (Go.Exit.exit 2,⟨[(2,R.any)],[],0,62⟩))):=
 by
 intro nodes i q0t h0
 subst h0
 revert i;exact qaQ qsp qu4 (fun e=>by rcases e with _|_<;>exact⟨_,rfl,fun h=>by cases h⟩) fun x=>by
  have:=qDW;have:=@qi6.eq_1;have:=@qel;have:=@Jk.eq_1;exact gA
noncomputable def q1U (n:qb):Option Int:=Option.bind (q1N n 1) fun(a:Sum Unit (List ql))=>Sum.elim (fun(a2:Unit)=>some 2) (fun(a3:List ql)=>if 24<((a3.length:Nat):Int) then some 2 else Option.bind (qX (Zu a3) (0,0)) fun(a4:Sum Int Int)=>Sum.elim (fun(a5:Int)=>some 2) (fun(a6:Int)=>if(a6==0)=Bool.true then some 2 else if 8<a6 then some 2 else Option.bind (qX (Jk a3) 0) fun(a7:Sum Int Unit)=>Sum.elim (fun(a8:Int)=>some a8) (fun(a9:Unit)=>some 0) a7) a4) a
theorem q6F:∀(qi n_N qs:Int) (qx:List qc) (n_L:List qb),ev 34 0 [R.agg [dI qi,dI n_N,dI qs,dL 2 qe qx,dL 5 qg n_L]] []=(q1U (qb.mk qi n_N qs qx n_L)).bind (fun(e:Int)=>some (rI e,[])):=
 fun qi n_N qs qx n_L=>by
  rw[zc qAQ qG7.2.2.2 qCO]
  have:=qDW;have:=@q4n;have:=@q8V;have:=@q8t;have:=@q1U.eq_1;exact gA
theorem lo9:okL 9 qmQ:=zb (qh bd9) (by kernel_rfl) (by kernel_rfl)
def cx9:=JA_ @qmQ.eq_1 (JA_ @Tryz.f9.eq_1 @bd9)
theorem qDy:lbO 9 3=qtJ:=Q9 (qh bd9) rfl
theorem qE0:okL 9 qtJ:=zB lo9 (List.mem_of_getElem? (i:=0) (by kernel_rfl))
theorem qDH:lbO 9 9=qv9:=Q9 (qh bd9) rfl
theorem qEM:okL 9 qv9:=zB lo9 (List.mem_of_getElem? (i:=1) (by kernel_rfl))
noncomputable def Qs (x:(qb×Int)):List R×List (Nat×B):=([R.agg [C.d (D.int .i64 x.1.Kind),C.d (D.int .i64 x.1.N),C.d (D.int .i64 x.1.Min),C.d (D.sl 2 x.1.Set.length (x.1.Set.flatMap qe)),C.d (D.sl 5 x.1.L.length (x.1.L.flatMap qg))],R.c (C.d (D.int .i64 x.2))],[])
noncomputable def ZU:qb→R×List (Nat×B):=fun(e:qb)=>(R.agg [C.d (D.int .i64 e.Kind),C.d (D.int .i64 e.N),C.d (D.int .i64 e.Min),C.d (D.sl 2 e.Set.length (e.Set.flatMap qe)),C.d (D.sl 5 e.L.length (e.L.flatMap qg))],[])
noncomputable def Za (rF:(qb×Int)→Option qb) (b0:qb) (qv:Int) (QJ:Int) (qC:Int) (zn:Int) (q1w:Int) (zO:Int) (t1:Int):(List qc×Int)→Option ((List qc×Int)⊕(List qc))|(w3,t6)=>if t6<((b0.Set.length:Nat):Int) then if t6<3 then if 0≤t6∧t6<((b0.Set.length:Nat):Int) then Option.bind b0.Set[Int.toNat t6]? fun(a2:qc)=>if 0≤min ((ByteArray.size a2.Code:Nat):Int) 12∧min ((ByteArray.size a2.Code:Nat):Int) 12≤((ByteArray.size a2.Code:Nat):Int) then if w3.length+1≤Go.maxLen∧(w3.length+1)*24≤140737488355328 then some (Sum.inl (w3++[qc.mk a2.School (ByteArray.extract a2.Code 0 (Int.toNat (min ((ByteArray.size a2.Code:Nat):Int) 12)))],w64 (t6+1))) else none else none else none else some (Sum.inr w3) else some (Sum.inr w3)
theorem q9f (rE:Orc) (rF:(qb×Int)→Option qb) (hF:∀y,rE (.fn 9) 0 (Qs y).1 (Qs y).2=(rF y).bind fun e=>some (ZU e)) (hM:∀g k a G,g≠9→rE (.fn g) k a G=ev g k a G) (hR:∀g asg bd k a G,rE (.rd g asg bd) k a G=evr g asg bd k a G):∀(w3:List qc) (zo q1x zP:Int) (zQ:List qc) (zq:List qb) (qv QJ qC zn q1w zO t1 t6:Int) (zw:Nat),zw=w3.length→XL2 rE 9 0 3 ⟨[(1,rI t1),(2,rP 0),(4,rP 1),(5,rP 2),(6,rI t6)],[(0,B.blk 30 [dI zo,dI q1x,dI zP,dL 2 qe zQ,dL 5 qg zq]),(1,B.blk 30 [dI qv,dI QJ,dI qC,C.nils,C.nils]),(2,B.blk 30 [dI zn,dI q1w,dI zO,dO 3 2 zw,C.nils]),(3,bR 51 2 qe w3)],4,75⟩=(qX (Za rF (qb.mk zo q1x zP zQ zq) qv QJ qC zn q1w zO t1) (w3,t6)).bind (fun(e:List qc)=>some (Go.Exit.exit 0,⟨[(1,rI t1),(2,rP 0),(4,rP 1),(5,rP 2)],[(0,B.blk 30 [dI zo,dI q1x,dI zP,dL 2 qe zQ,dL 5 qg zq]),(1,B.blk 30 [dI qv,dI QJ,dI qC,C.nils,C.nils]),(2,B.blk 30 [dI zn,dI q1w,dI zO,dO 3 2 e.length,C.nils]),(3,bR 51 2 qe e)],4,75⟩)):=
 by
 intro w3 zo q1x zP zQ zq qv QJ qC zn q1w zO t1 t6 zw h0
 subst h0
 revert t6;revert w3;exact q6v qDy qE0 (fun e=>by exact⟨_,rfl,fun h=>by cases h⟩) fun w3 t6=>by
  have hF':∀(qw Z9 qG:Int) (qK:List qc) (Zf:List qb) (x1:Int),rE (.fn 9) 0 [R.agg [dI qw,dI Z9,dI qG,dL 2 qe qK,dL 5 qg Zf],rI x1] []=(rF ((qb.mk qw Z9 qG qK Zf),x1)).bind (fun e=>some (R.agg [dI e.Kind,dI e.N,dI e.Min,dL 2 qe e.Set,dL 5 qg e.L],[])):=fun qw Z9 qG qK Zf x1=>hF ((qb.mk qw Z9 qG qK Zf),x1)
  have:=cx9;have:=@qtJ.eq_1;have:=@Za.eq_1;exact gA
theorem q6N:∀(rE:Orc) (rF:(qb×Int)→Option qb) (hF:∀y,rE (.fn 9) 0 (Qs y).1 (Qs y).2=(rF y).bind fun e=>some (ZU e)) (hM:∀g k a G,g≠9→rE (.fn g) k a G=ev g k a G) (hR:∀g asg bd k a G,rE (.rd g asg bd) k a G=evr g asg bd k a G),∀  (zo q1x zP:Int) (zQ:List qc) (zq:List qb) (qv QJ qC zn q1w zO t1 t6:Int),XL2 rE 9 0 3 ⟨[(1,rI t1),(2,rP 0),(4,rP 1),(5,rP 2),(6,rI t6)],[(0,B.blk 30 [dI zo,dI q1x,dI zP,dL 2 qe zQ,dL 5 qg zq]),(1,B.blk 30 [dI qv,dI QJ,dI qC,C.nils,C.nils]),(2,B.blk 30 [dI zn,dI q1w,dI zO,dO 3 2 0,C.nils]),(3,B.row 51 2 [])],4,75⟩=(qX (Za rF (qb.mk zo q1x zP zQ zq) qv QJ qC zn q1w zO t1) ([],t6)).bind (fun(e:List qc)=>some (Go.Exit.exit 0,⟨[(1,rI t1),(2,rP 0),(4,rP 1),(5,rP 2)],[(0,B.blk 30 [dI zo,dI q1x,dI zP,dL 2 qe zQ,dL 5 qg zq]),(1,B.blk 30 [dI qv,dI QJ,dI qC,C.nils,C.nils]),(2,B.blk 30 [dI zn,dI q1w,dI zO,dO 3 2 e.length,C.nils]),(3,bR 51 2 qe e)],4,75⟩)):=by
 intro rE rF hF hM hR zo q1x zP zQ zq qv QJ qC zn q1w zO t1 t6;have h:=q9f rE rF hF hM hR [] ((qb.mk zo q1x zP zQ zq)).Kind ((qb.mk zo q1x zP zQ zq)).N ((qb.mk zo q1x zP zQ zq)).Min ((qb.mk zo q1x zP zQ zq)).Set ((qb.mk zo q1x zP zQ zq)).L qv QJ qC zn q1w zO t1 t6 _ rfl
 first
  | exact h
  | (simp only[rL,dL,bR,bZ,Nat.reduceAdd] at h;exact h)
end Go.Proofs.YtgejdfnidjnjcaaGreat.Vc
