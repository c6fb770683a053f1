/- Part 4 of a proof. -/
import Derived.Test.YtgejdfnidjnjcaaGreatM3
set_option linter.unusedVariables false
set_option linter.unusedSimpArgs false
set_option linter.defProp false
set_option linter.unusedSectionVars false
set_option linter.unnecessarySimpa false
namespace Go.Proofs.YtgejdfnidjnjcaaGreat.Vc
open Go.RowKit
set_option linter.unusedVariables false
set_option linter.unusedSimpArgs false
set_option maxRecDepth 20000
set_option maxHeartbeats 8000000
set_option linter.defProp false
theorem lo6:okL 6 qnK:=qu (qh bd6) (by kernel_rfl) (by kernel_rfl)
def cx6:=JA_ @qnK.eq_1 (JA_ @Tryz.f6.eq_1 @bd6)
theorem qCY:okL 25 qgv:=qu (qh qyl) (by kernel_rfl) (by kernel_rfl)
def qBC:=JA_ @qgv.eq_1 (JA_ @Tryz.f25.eq_1 @qyl)
theorem q1Y:ev 25 0 [] []=some (R.tup [R.c (C.d (D.sl 8 3 [D.int Go.IntKind.i64 1,D.str (ByteArray.mk (List.toArray [65,49])),D.int Go.IntKind.i64 5,D.int Go.IntKind.i64 60,D.int Go.IntKind.i64 0,D.sl 1 0 [],D.int Go.IntKind.i64 0,D.sl 1 0 [],D.int Go.IntKind.i64 1,D.str (ByteArray.mk (List.toArray [66,49])),D.int Go.IntKind.i64 6,D.int Go.IntKind.i64 90,D.int Go.IntKind.i64 0,D.sl 1 0 [],D.int Go.IntKind.i64 0,D.sl 1 0 [],D.int Go.IntKind.i64 1,D.str (ByteArray.mk (List.toArray [65,49])),D.int Go.IntKind.i64 5,D.int Go.IntKind.i64 40,D.int Go.IntKind.i64 0,D.sl 1 0 [],D.int Go.IntKind.i64 0,D.sl 1 0 []])),R.agg [C.d (D.int Go.IntKind.i64 1),C.d (D.int Go.IntKind.i64 0),C.d (D.int Go.IntKind.i64 50),C.d (D.sl 2 1 [D.int Go.IntKind.i64 1,D.str (ByteArray.mk (List.toArray [65,49]))]),C.d (D.sl 5 0 [])],R.agg [C.d (D.int Go.IntKind.i64 2),C.d (D.int Go.IntKind.i64 10),C.d (D.int Go.IntKind.i64 0),C.d (D.sl 2 2 [D.int Go.IntKind.i64 1,D.str (ByteArray.mk (List.toArray [65,49])),D.int Go.IntKind.i64 1,D.str (ByteArray.mk (List.toArray [66,49]))]),C.d (D.sl 5 0 [])]],[]) :=
 by
  rw[qt qyl qB4.2.2.2 qCY]
  have:=qBC;exact gA
theorem qBB:okL 11 qi1:=qu (qh qxc) (by kernel_rfl) (by kernel_rfl)
def qDw:=JA_ @qi1.eq_1 (JA_ @Tryz.f11.eq_1 @qxc)
noncomputable def q4F (school:Int):Option qf:=if(school==2)=Bool.true then some (qf.mk 5 1 3) else if(school==3)=Bool.true then some (qf.mk 0 20 10) else some (qf.mk 0 100 50)
noncomputable def qr (school:Int):qf:=if(school==2)=Bool.true then qf.mk 5 1 3 else if(school==3)=Bool.true then qf.mk 0 20 10 else qf.mk 0 100 50
theorem qaa (school:Int):q4F school=some (qr school):=by
 unfold q4F qr
 simp only[zG]
theorem q1k:∀(school:Int),ev 11 0 [rI school] []=some (R.agg [dI (qr school).Worst,dI (qr school).Best,dI (qr school).Pass],[]) :=
 fun school=>by
  have h:ev 11 0 [rI school] []=(q4F school).bind (fun(e:qf)=>some (R.agg [dI e.Worst,dI e.Best,dI e.Pass],[])):=by
   rw[qt qxc qA4.2.2.2 qBB]
   have:=qDw;have:=@q4F.eq_1;exact gA
  rw[qaa] at h
  exact h
theorem qyO:okL 18 qc7:=qu (qh qrl) (by kernel_rfl) (by kernel_rfl)
def qx7:=JA_ @qc7.eq_1 (JA_ @Tryz.f18.eq_1 @qrl)
theorem quR:lbO 18 9=qj7:=zf (qh qrl) rfl
theorem qrL:okL 18 qj7:=qH qyO (List.mem_of_getElem? (i:=0) (by kernel_rfl))
theorem qpV:lbO 18 14=qdj:=zf (qh qrl) rfl
theorem qpi:okL 18 qdj:=qH qyO (List.mem_of_getElem? (i:=1) (by kernel_rfl))
theorem qBt:okL 12 qjf:=qu (qh qwW) (by kernel_rfl) (by kernel_rfl)
def qDN:=JA_ @qjf.eq_1 (JA_ @Tryz.f12.eq_1 @qwW)
theorem qBb:okL 30 qdX:=qu (qh qw8) (by kernel_rfl) (by kernel_rfl)
def qAP:=JA_ @qdX.eq_1 (JA_ @Tryz.f30.eq_1 @qw8)
theorem qtX:lbO 30 6=qg6:=zf (qh qw8) rfl
theorem qt2:okL 30 qg6:=qH qBb (List.mem_of_getElem? (i:=0) (by kernel_rfl))
theorem qzz:okL 55 qcc:=qu (qh qt1) (by kernel_rfl) (by kernel_rfl)
def qx1:=JA_ @qcc.eq_1 (JA_ @Tryz.f55.eq_1 @qt1)
theorem qgP:raO 55 4=q9F:=qtD (qh qt1) rfl
theorem qeM:rbO 55 4=q7K:=quf (qh qt1) rfl
theorem qeR:okL 55 q9F∧okL 55 q7K:=qv0 (key:=0) (q:=(q9F,q7K)) qzz (List.mem_of_getElem? (i:=0) (by kernel_rfl))
theorem qgk:qZ (rbO 55 4)=4:=by rw[qeM];exact quU
theorem qma:∀k s,XE2 evo 55 k (raO 55 4) s=XE2 evo 55 k q9F s:=fun _ _=>by rw[qgP]
theorem qmy:∀k s,XE2 evo 55 k (rbO 55 4) s=XE2 evo 55 k q7K s:=fun _ _=>by rw[qeM]
theorem qDf:okL 78 qiI:=qu (qh qyI) (by kernel_rfl) (by kernel_rfl)
def qC2:=JA_ @qiI.eq_1 (JA_ @Tryz.f78.eq_1 @qyI)
noncomputable def q24 (n:qb):Option Unit :=
 some ()
noncomputable def q59 (n:qb):Unit :=
 ()
theorem q7T (n:qb):q24 n=some (q59 n):=by
 unfold q24 q59
 simp only[zG]
theorem q95:∀(n_Kind n_N n_Min:Int) (n_Set:List qc) (n_L:List qb),ev 78 0 [R.agg [dI n_Kind,dI n_N,dI n_Min,dL 2 qe n_Set,dL 5 qg n_L]] []=some (R.c (C.fn 94 [] [dP 0]),[(0,B.blk 30 [dI n_Kind,dI n_N,dI n_Min,dL 2 qe n_Set,dL 5 qg n_L])]) :=
 fun n_Kind n_N n_Min n_Set n_L=>by
  have h:ev 78 0 [R.agg [dI n_Kind,dI n_N,dI n_Min,dL 2 qe n_Set,dL 5 qg n_L]] []=(q24 (qb.mk n_Kind n_N n_Min n_Set n_L)).bind (fun(e:Unit)=>some (R.c (C.fn 94 [] [dP 0]),[(0,B.blk 30 [dI n_Kind,dI n_N,dI n_Min,dL 2 qe n_Set,dL 5 qg n_L])])):=by
   rw[qt qyI qAD.2.2.2 qDf]
   have:=qC2;have:=@q24.eq_1;exact gA
  rw[q7T] at h
  exact h
theorem qDL:okL 94 qiX:=qu (qh qyf) (by kernel_rfl) (by kernel_rfl)
def qBp:=JA_ @qiX.eq_1 (JA_ @Tryz.f94.eq_1 @qyf)
theorem qy2:okL 95 qeB:=qu (qh qsG) (by kernel_rfl) (by kernel_rfl)
def qvN:=JA_ @qeB.eq_1 (JA_ @Tryz.f95.eq_1 @qsG)
theorem qm5:lbO 95 4=qeN:=zf (qh qsG) rfl
theorem qmH:okL 95 qeN:=qH qy2 (List.mem_of_getElem? (i:=0) (by kernel_rfl))
noncomputable def q0O (t9:Int) (t10:Int) (t102:Int) (t103:Int) (t104:List qc) (t105:List qb) (deepest:Int) (ok:Bool):Option (Unit⊕(List qb×Int)):=if 100<t9 then some (Sum.inl ()) else if 1≤Go.maxLen then some (Sum.inr ([qb.mk t10 t102 t103 t104 t105],max deepest t9)) else none
theorem q6U:∀(t9 t10 t102 t103:Int) (t104:List qc) (t105:List qb) (deepest:Int) (ok:Bool),evr 55 (raO 55 4) (rbO 55 4) 4 [R.any,R.any,rP 0,rP 1,rP 2,R.any,R.any,R.any,R.any,rI t9,R.agg [dI t10,dI t102,dI t103,dL 2 qe t104,dL 5 qg t105],R.any,R.any,R.any,R.any,R.any,R.any,R.any,R.any,R.any,R.any,R.any,R.any,R.any,R.any,R.any,R.any] [(0,B.blk 28 [C.nils]),(1,B.blk 3 [dI deepest]),(2,B.blk 4 [dB ok]),(3,B.ob (AO.lp 55 (R.any::R.any::rP 0::rP 1::rP 2::q5H) [9,10] (raO 55 4) (rbO 55 4) Go.LoopState.ready none))]=(q0O t9 t10 t102 t103 t104 t105 deepest ok).bind (Sum.elim (fun(e:Unit)=>some (rB Bool.false,[(0,B.blk 28 [C.nils]),(1,B.blk 3 [dI 0]),(2,B.blk 4 [dB Bool.false]),(3,B.ob (AO.lp 55 (R.any::R.any::rP 0::rP 1::rP 2::q5H) [9,10] (raO 55 4) (rbO 55 4) Go.LoopState.done (some Go.Code.ret)))])) (fun(e:List qb×Int)=>some (rB Bool.true,[(0,B.blk 28 [dO 4 5 e.1.length]),(1,B.blk 3 [dI e.2]),(2,B.blk 4 [dB ok]),(3,B.ob (AO.lp 55 (R.any::R.any::rP 0::rP 1::rP 2::q5H) [9,10] (raO 55 4) (rbO 55 4) Go.LoopState.ready none)),(4,bR 30 5 qg e.1)]))) :=
 fun t9 t10 t102 t103 t104 t105 deepest ok=>by
  rw[qgz qgP qeM (by decide) qmC qeR.1 qeR.2]
  have:=qx1;have:=@qma;have:=@qmy;have:=@q9F.eq_1;have:=@q7K.eq_1;have:=@q0O.eq_1;have:=@qgk;exact gA
noncomputable def q08 (t9:Int) (t10:Int) (t102:Int) (t103:Int) (t104:List qc) (t105:List qb) (w4:List qb) (deepest:Int) (ok:Bool):Option (Unit⊕(List qb×Int)):=if 100<t9 then some (Sum.inl ()) else if(((w4.length:Nat):Int)==10000)=Bool.true then some (Sum.inl ()) else if w4.length+1≤Go.maxLen∧(w4.length+1)*72≤140737488355328 then some (Sum.inr (w4++[qb.mk t10 t102 t103 t104 t105],max deepest t9)) else none
theorem q5p:∀(t9 t10 t102 t103:Int) (t104:List qc) (t105 w4:List qb) (deepest:Int) (ok:Bool) (w4_len:Nat),w4_len=w4.length→evr 55 (raO 55 4) (rbO 55 4) 4 [R.any,R.any,rP 0,rP 1,rP 2,R.any,R.any,R.any,R.any,rI t9,R.agg [dI t10,dI t102,dI t103,dL 2 qe t104,dL 5 qg t105],R.any,R.any,R.any,R.any,R.any,R.any,R.any,R.any,R.any,R.any,R.any,R.any,R.any,R.any,R.any,R.any] [(0,B.blk 28 [dO 4 5 w4_len]),(1,B.blk 3 [dI deepest]),(2,B.blk 4 [dB ok]),(3,B.ob (AO.lp 55 (R.any::R.any::rP 0::rP 1::rP 2::q5H) [9,10] (raO 55 4) (rbO 55 4) Go.LoopState.ready none)),(4,bR 30 5 qg w4)]=(q08 t9 t10 t102 t103 t104 t105 w4 deepest ok).bind (Sum.elim (fun(e:Unit)=>some (rB Bool.false,[(0,B.blk 28 [C.nils]),(1,B.blk 3 [dI 0]),(2,B.blk 4 [dB Bool.false]),(3,B.ob (AO.lp 55 (R.any::R.any::rP 0::rP 1::rP 2::q5H) [9,10] (raO 55 4) (rbO 55 4) Go.LoopState.done (some Go.Code.ret)))])) (fun(e:List qb×Int)=>some (rB Bool.true,[(0,B.blk 28 [dO 4 5 e.1.length]),(1,B.blk 3 [dI e.2]),(2,B.blk 4 [dB ok]),(3,B.ob (AO.lp 55 (R.any::R.any::rP 0::rP 1::rP 2::q5H) [9,10] (raO 55 4) (rbO 55 4) Go.LoopState.ready none)),(4,bR 30 5 qg e.1)]))) :=
 by
 intro t9 t10 t102 t103 t104 t105 w4 deepest ok w4_len h0
 subst h0
 rw[qgz qgP qeM (by decide) qmC qeR.1 qeR.2]
 have:=qx1;have:=@qma;have:=@qmy;have:=@q9F.eq_1;have:=@q7K.eq_1;have:=@q08.eq_1;have:=@qgk;exact gA
noncomputable def QG (x:(qb×Int×List qb×Int×Bool)):List R×List (Nat×B):=([R.agg [C.d (D.int .i64 x.1.Kind),C.d (D.int .i64 x.1.N),C.d (D.int .i64 x.1.Min),C.d (D.sl 2 x.1.Set.length (x.1.Set.flatMap qe)),C.d (D.sl 5 x.1.L.length (x.1.L.flatMap qg))],R.c (C.d (D.int .i64 x.2.1)),R.c (C.hd .yield 0)],[(0,B.ob (AO.lp 55 [R.any,R.any,R.c (C.ptr 1 0),R.c (C.ptr 2 0),R.c (C.ptr 3 0),R.any,R.any,R.any,R.any,R.any,R.any,R.any,R.any,R.any,R.any,R.any,R.any,R.any,R.any,R.any,R.any,R.any,R.any,R.any,R.any,R.any,R.any] [9,10] (raO 55 4) (rbO 55 4) Go.LoopState.ready none)),(1,B.blk 28 [C.own 4 5 0 x.2.2.1.length]),(2,B.blk 3 [C.d (D.int .i64 x.2.2.2.1)]),(3,B.blk 4 [C.d (D.bool x.2.2.2.2)]),(4,B.row 30 5 ((x.2.2.1.flatMap qg).map C.d))])
noncomputable def Z4:(Int⊕(List qb×Int×Bool))→R×List (Nat×B):=Sum.elim (fun(e:Int)=>(R.c (C.d (D.bool Bool.false)),[(0,B.ob (AO.lp 55 [R.any,R.any,R.c (C.ptr 1 0),R.c (C.ptr 2 0),R.c (C.ptr 3 0),R.any,R.any,R.any,R.any,R.any,R.any,R.any,R.any,R.any,R.any,R.any,R.any,R.any,R.any,R.any,R.any,R.any,R.any,R.any,R.any,R.any,R.any] [9,10] (raO 55 4) (rbO 55 4) Go.LoopState.done (some Go.Code.ret))),(1,B.blk 28 [C.nils]),(2,B.blk 3 [C.d (D.int .i64 e)]),(3,B.blk 4 [C.d (D.bool Bool.false)])])) (fun(e:List qb×Int×Bool)=>(R.c (C.d (D.bool Bool.true)),[(0,B.ob (AO.lp 55 [R.any,R.any,R.c (C.ptr 1 0),R.c (C.ptr 2 0),R.c (C.ptr 3 0),R.any,R.any,R.any,R.any,R.any,R.any,R.any,R.any,R.any,R.any,R.any,R.any,R.any,R.any,R.any,R.any,R.any,R.any,R.any,R.any,R.any,R.any] [9,10] (raO 55 4) (rbO 55 4) Go.LoopState.ready none)),(1,B.blk 28 [C.own 4 5 0 e.1.length]),(2,B.blk 3 [C.d (D.int .i64 e.2.1)]),(3,B.blk 4 [C.d (D.bool e.2.2)]),(4,B.row 30 5 ((e.1.flatMap qg).map C.d))]))
noncomputable def Jj (rF:(qb×Int×List qb×Int×Bool)→Option (Int⊕(List qb×Int×Bool))) (deep:Int) (t15:List qb) (t16:Int):(List qb×Int×Bool×Int)→Option ((List qb×Int×Bool×Int)⊕(Int⊕(List qb×Int×Bool)))|(w4,b2,b3,t17)=>if t17<t16 then if 0≤t17∧t17<((t15.length:Nat):Int) then Option.bind t15[Int.toNat t17]? fun(a2:qb)=>Option.bind (rF (a2,(w64 (deep+1),(w4,(b2,b3))))) fun(a3:Sum Int (Prod (List qb) (Prod Int Bool)))=>Sum.elim (fun(a4:Int)=>some (Sum.inr (Sum.inl a4))) (fun(a5:Prod (List qb) (Prod Int Bool))=>some (Sum.inl (a5.1,a5.2.1,a5.2.2,w64 (t17+1)))) a3 else none else some (Sum.inr (Sum.inr (w4,b2,b3)))
theorem q3T (rE:Orc) (rF:(qb×Int×List qb×Int×Bool)→Option (Int⊕(List qb×Int×Bool))) (hF:∀y,rE (.fn 95) 4 (QG y).1 (QG y).2=(rF y).bind fun e=>some (Z4 e)) (hM:∀g k a G,g≠95→rE (.fn g) k a G=ev g k a G) (hR:∀g asg bd k a G,rE (.rd g asg bd) k a G=evr g asg bd k a G):∀(w4:List qb) (b2:Int) (b3:Bool) (deep:Int) (t15:List qb) (t16 t17:Int) (w4_len:Nat),w4_len=w4.length→XL2 rE 95 4 4 ⟨[(1,rI deep),(2,R.c (C.hd .yield 0)),(15,rL 5 qg t15),(16,rI t16),(17,rI t17)],[(0,B.ob (AO.lp 55 (R.any::R.any::rP 1::rP 2::rP 3::q5H) [9,10] (raO 55 4) (rbO 55 4) Go.LoopState.ready none)),(1,B.blk 28 [dO 4 5 w4_len]),(2,B.blk 3 [dI b2]),(3,B.blk 4 [dB b3]),(4,bR 30 5 qg w4)],5,28⟩=(qq (Jj rF deep t15 t16) (w4,b2,b3,t17)).bind (Sum.elim (fun(e:Int)=>some (Go.Exit.ret,⟨[(6,rB Bool.false)],[(0,B.ob (AO.lp 55 (R.any::R.any::rP 1::rP 2::rP 3::q5H) [9,10] (raO 55 4) (rbO 55 4) Go.LoopState.done (some Go.Code.ret))),(1,B.blk 28 [C.nils]),(2,B.blk 3 [dI e]),(3,B.blk 4 [dB Bool.false])],4,28⟩)) (fun(e:List qb×Int×Bool)=>some (Go.Exit.exit 0,⟨[(6,R.any)],[(0,B.ob (AO.lp 55 (R.any::R.any::rP 1::rP 2::rP 3::q5H) [9,10] (raO 55 4) (rbO 55 4) Go.LoopState.ready none)),(1,B.blk 28 [dO 4 5 e.1.length]),(2,B.blk 3 [dI e.2.1]),(3,B.blk 4 [dB e.2.2]),(4,bR 30 5 qg e.1)],5,28⟩))) :=
 by
 intro w4 b2 b3 deep t15 t16 t17 w4_len h0
 subst h0
 revert t17;revert b3;revert b2;revert w4;exact qvx qm5 qmH (fun e=>by rcases e with _|_<;>exact⟨_,rfl,fun h=>by cases h⟩) fun w4 b2 b3 t17=>by
  have hF':∀(n_Kind n_N n_Min:Int) (n_Set:List qc) (n_L:List qb) (deep:Int) (w4:List qb) (b2:Int) (b3:Bool) (w4_len:Nat),w4_len=w4.length→rE (.fn 95) 4 [R.agg [dI n_Kind,dI n_N,dI n_Min,dL 2 qe n_Set,dL 5 qg n_L],rI deep,R.c (C.hd .yield 0)] [(0,B.ob (AO.lp 55 (R.any::R.any::rP 1::rP 2::rP 3::q5H) [9,10] (raO 55 4) (rbO 55 4) Go.LoopState.ready none)),(1,B.blk 28 [dO 4 5 w4_len]),(2,B.blk 3 [dI b2]),(3,B.blk 4 [dB b3]),(4,bR 30 5 qg w4)]=(rF ((qb.mk n_Kind n_N n_Min n_Set n_L),deep,w4,b2,b3)).bind (Sum.elim (fun(e:Int)=>some (rB Bool.false,[(0,B.ob (AO.lp 55 (R.any::R.any::rP 1::rP 2::rP 3::q5H) [9,10] (raO 55 4) (rbO 55 4) Go.LoopState.done (some Go.Code.ret))),(1,B.blk 28 [C.nils]),(2,B.blk 3 [dI e]),(3,B.blk 4 [dB Bool.false])])) (fun(e:List qb×Int×Bool)=>some (rB Bool.true,[(0,B.ob (AO.lp 55 (R.any::R.any::rP 1::rP 2::rP 3::q5H) [9,10] (raO 55 4) (rbO 55 4) Go.LoopState.ready none)),(1,B.blk 28 [dO 4 5 e.1.length]),(2,B.blk 3 [dI e.2.1]),(3,B.blk 4 [dB e.2.2]),(4,bR 30 5 qg e.1)]))):=by intro n_Kind n_N n_Min n_Set n_L deep w4 b2 b3 w4_len h0;subst h0;exact(hF ((qb.mk n_Kind n_N n_Min n_Set n_L),deep,w4,b2,b3)).trans (by congr 1;funext e;rcases e with _|_<;>rfl)
  have:=qvN;have:=@qeN.eq_1;have:=@Jj.eq_1;exact gA
noncomputable def Jk (rF:(qb×Int×List qb×Int×Bool)→Option (Int⊕(List qb×Int×Bool))):(qb×Int×List qb×Int×Bool)→Option (Int⊕(List qb×Int×Bool))|(n,deep,w4,b2,b3)=>Option.bind (q08 deep n.Kind n.N n.Min n.Set n.L w4 b2 b3) fun(a2:Sum Unit (Prod (List qb) Int))=>Sum.elim (fun(a3:Unit)=>some (Sum.inl 0)) (fun(a4:Prod (List qb) Int)=>Option.bind (qq (Jj rF deep n.L ((n.L.length:Nat):Int)) (a4.1,(a4.2,(b3,0)))) fun(a5:Sum Int (Prod (List qb) (Prod Int Bool)))=>Sum.elim (fun(a6:Int)=>some (Sum.inl a6)) (fun(a7:Prod (List qb) (Prod Int Bool))=>some (Sum.inr (a7.1,a7.2.1,a7.2.2))) a5) a2
theorem q3h:q1T 95 4 QG Z4 Jk:=by
 intro rE rF hF hM hR x
 obtain⟨n,deep,w4,b2,b3⟩:=x
 show q3L rE 95 4 [R.agg [dI n.Kind,dI n.N,dI n.Min,dL 2 qe n.Set,dL 5 qg n.L],rI deep,R.c (C.hd .yield 0)] [(0,B.ob (AO.lp 55 (R.any::R.any::rP 1::rP 2::rP 3::q5H) [9,10] (raO 55 4) (rbO 55 4) Go.LoopState.ready none)),(1,B.blk 28 [dO 4 5 w4.length]),(2,B.blk 3 [dI b2]),(3,B.blk 4 [dB b3]),(4,bR 30 5 qg w4)]=_
 have hF':∀(n_Kind n_N n_Min:Int) (n_Set:List qc) (n_L:List qb) (deep:Int) (w4:List qb) (b2:Int) (b3:Bool) (w4_len:Nat),w4_len=w4.length→rE (.fn 95) 4 [R.agg [dI n_Kind,dI n_N,dI n_Min,dL 2 qe n_Set,dL 5 qg n_L],rI deep,R.c (C.hd .yield 0)] [(0,B.ob (AO.lp 55 (R.any::R.any::rP 1::rP 2::rP 3::q5H) [9,10] (raO 55 4) (rbO 55 4) Go.LoopState.ready none)),(1,B.blk 28 [dO 4 5 w4_len]),(2,B.blk 3 [dI b2]),(3,B.blk 4 [dB b3]),(4,bR 30 5 qg w4)]=(rF ((qb.mk n_Kind n_N n_Min n_Set n_L),deep,w4,b2,b3)).bind (Sum.elim (fun(e:Int)=>some (rB Bool.false,[(0,B.ob (AO.lp 55 (R.any::R.any::rP 1::rP 2::rP 3::q5H) [9,10] (raO 55 4) (rbO 55 4) Go.LoopState.done (some Go.Code.ret))),(1,B.blk 28 [C.nils]),(2,B.blk 3 [dI e]),(3,B.blk 4 [dB Bool.false])])) (fun(e:List qb×Int×Bool)=>some (rB Bool.true,[(0,B.ob (AO.lp 55 (R.any::R.any::rP 1::rP 2::rP 3::q5H) [9,10] (raO 55 4) (rbO 55 4) Go.LoopState.ready none)),(1,B.blk 28 [dO 4 5 e.1.length]),(2,B.blk 3 [dI e.2.1]),(3,B.blk 4 [dB e.2.2]),(4,bR 30 5 qg e.1)]))):=by intro n_Kind n_N n_Min n_Set n_L deep w4 b2 b3 w4_len h0;subst h0;exact(hF ((qb.mk n_Kind n_N n_Min n_Set n_L),deep,w4,b2,b3)).trans (by congr 1;funext e;rcases e with _|_<;>rfl)
 rw[q04 qsG qy2]
 have:=qvN;have:=@q5p;have:=q3T rE rF hF hM hR;have:=@Jk.eq_1;have:=@Z4.eq_1;exact gA
theorem q1b:∀x y,QG x=QG y→x=y:=by
 rintro⟨⟨a0_0,a0_1,a0_2,a0_3,a0_4⟩,a1,a2,a3,a4⟩ ⟨⟨b0_0,b0_1,b0_2,b0_3,b0_4⟩,b1,b2,b3,b4⟩ h
 simp only[QG,Prod.mk.injEq,List.cons.injEq,R.c.injEq,R.agg.injEq,R.tup.injEq,C.d.injEq,C.own.injEq,C.ptr.injEq,C.eptr.injEq,D.int.injEq,D.bool.injEq,D.str.injEq,D.sl.injEq,B.blk.injEq,B.row.injEq,QB,ZV,QW,Zc,Zy,Zw,Zr,Jq,Zx,Jt,Jz,QA,true_and,and_true,List.nil_append] at h
 simp only[h]
theorem q5n:∀x y,Z4 x=Z4 y→x=y:=by
 rintro(a0|⟨a1_0,a1_1,a1_2⟩) (b0|⟨b1_0,b1_1,b1_2⟩) h<;>simp only[Sum.elim_inl,Sum.elim_inr,Z4,Prod.mk.injEq,List.cons.injEq,R.c.injEq,R.agg.injEq,R.tup.injEq,C.d.injEq,C.own.injEq,C.ptr.injEq,C.eptr.injEq,D.int.injEq,D.bool.injEq,D.str.injEq,D.sl.injEq,B.blk.injEq,B.row.injEq,QB,ZV,QW,Zc,Zy,Zw,Zr,Jq,Zx,Jt,Jz,QA,true_and,and_true,List.nil_append,reduceCtorEq,false_and,and_false] at h<;>simp only[h]
noncomputable def Zj:(qb×Int×List qb×Int×Bool)→Option (Int⊕(List qb×Int×Bool)):=q3b 95 4 QG Z4
theorem q8b (x:(qb×Int×List qb×Int×Bool)):Zj x=Jk Zj x:=q4x qw1.2.2.2 q1b q5n q3h x
theorem q7t (n:qb) (deep:Int) (w4:List qb) (b2:Int) (b3:Bool):ev 95 4 [R.agg [dI n.Kind,dI n.N,dI n.Min,dL 2 qe n.Set,dL 5 qg n.L],rI deep,R.c (C.hd .yield 0)] [(0,B.ob (AO.lp 55 (R.any::R.any::rP 1::rP 2::rP 3::q5H) [9,10] (raO 55 4) (rbO 55 4) Go.LoopState.ready none)),(1,B.blk 28 [dO 4 5 w4.length]),(2,B.blk 3 [dI b2]),(3,B.blk 4 [dB b3]),(4,bR 30 5 qg w4)]=(Zj (n,deep,w4,b2,b3)).bind (Sum.elim (fun(e:Int)=>some (rB Bool.false,[(0,B.ob (AO.lp 55 (R.any::R.any::rP 1::rP 2::rP 3::q5H) [9,10] (raO 55 4) (rbO 55 4) Go.LoopState.done (some Go.Code.ret))),(1,B.blk 28 [C.nils]),(2,B.blk 3 [dI e]),(3,B.blk 4 [dB Bool.false])])) (fun(e:List qb×Int×Bool)=>some (rB Bool.true,[(0,B.ob (AO.lp 55 (R.any::R.any::rP 1::rP 2::rP 3::q5H) [9,10] (raO 55 4) (rbO 55 4) Go.LoopState.ready none)),(1,B.blk 28 [dO 4 5 e.1.length]),(2,B.blk 3 [dI e.2.1]),(3,B.blk 4 [dB e.2.2]),(4,bR 30 5 qg e.1)]))):=(q2M qw1.2.2.2 q1b q3h (n,deep,w4,b2,b3)).trans (by congr 1;funext e;rcases e with _|_<;>rfl)
theorem q7S:∀(n_Kind n_N n_Min:Int) (n_Set:List qc) (n_L:List qb) (deep:Int) (w4:List qb) (b2:Int) (b3:Bool) (w4_len:Nat),w4_len=w4.length→ev 95 4 [R.agg [dI n_Kind,dI n_N,dI n_Min,dL 2 qe n_Set,dL 5 qg n_L],rI deep,R.c (C.hd .yield 0)] [(0,B.ob (AO.lp 55 (R.any::R.any::rP 1::rP 2::rP 3::q5H) [9,10] (raO 55 4) (rbO 55 4) Go.LoopState.ready none)),(1,B.blk 28 [dO 4 5 w4_len]),(2,B.blk 3 [dI b2]),(3,B.blk 4 [dB b3]),(4,bR 30 5 qg w4)]=(Zj ((qb.mk n_Kind n_N n_Min n_Set n_L),deep,w4,b2,b3)).bind (Sum.elim (fun(e:Int)=>some (rB Bool.false,[(0,B.ob (AO.lp 55 (R.any::R.any::rP 1::rP 2::rP 3::q5H) [9,10] (raO 55 4) (rbO 55 4) Go.LoopState.done (some Go.Code.ret))),(1,B.blk 28 [C.nils]),(2,B.blk 3 [dI e]),(3,B.blk 4 [dB Bool.false])])) (fun(e:List qb×Int×Bool)=>some (rB Bool.true,[(0,B.ob (AO.lp 55 (R.any::R.any::rP 1::rP 2::rP 3::q5H) [9,10] (raO 55 4) (rbO 55 4) Go.LoopState.ready none)),(1,B.blk 28 [dO 4 5 e.1.length]),(2,B.blk 3 [dI e.2.1]),(3,B.blk 4 [dB e.2.2]),(4,bR 30 5 qg e.1)]))) :=
 by
 intro n_Kind n_N n_Min n_Set n_L deep w4 b2 b3 w4_len h0
 subst h0
 exact q7t (qb.mk n_Kind n_N n_Min n_Set n_L) deep w4 b2 b3
noncomputable def q0W (deep:Int) (t15:List qb) (t16:Int):(List qb×Int×Bool×Int)→Option ((List qb×Int×Bool×Int)⊕(Int⊕(List qb×Int×Bool)))|(w4,b2,b3,t17)=>if t17<t16 then if 0≤t17∧t17<((t15.length:Nat):Int) then Option.bind t15[Int.toNat t17]? fun(a:qb)=>Option.bind (Zj (a,(w64 (deep+1),(w4,(b2,b3))))) fun(a2:Sum Int (Prod (List qb) (Prod Int Bool)))=>Sum.elim (fun(a3:Int)=>some (Sum.inr (Sum.inl a3))) (fun(a4:Prod (List qb) (Prod Int Bool))=>some (Sum.inl (a4.1,a4.2.1,a4.2.2,w64 (t17+1)))) a2 else none else some (Sum.inr (Sum.inr (w4,b2,b3)))
theorem q6X:∀(w4:List qb) (b2:Int) (b3:Bool) (deep:Int) (t15:List qb) (t16 t17:Int) (w4_len:Nat),w4_len=w4.length→XL2 evo 95 4 4 ⟨[(1,rI deep),(2,R.c (C.hd .yield 0)),(15,rL 5 qg t15),(16,rI t16),(17,rI t17)],[(0,B.ob (AO.lp 55 (R.any::R.any::rP 1::rP 2::rP 3::q5H) [9,10] (raO 55 4) (rbO 55 4) Go.LoopState.ready none)),(1,B.blk 28 [dO 4 5 w4_len]),(2,B.blk 3 [dI b2]),(3,B.blk 4 [dB b3]),(4,bR 30 5 qg w4)],5,28⟩=(qq (q0W deep t15 t16) (w4,b2,b3,t17)).bind (Sum.elim (fun(e:Int)=>some (Go.Exit.ret,⟨[(6,rB Bool.false)],[(0,B.ob (AO.lp 55 (R.any::R.any::rP 1::rP 2::rP 3::q5H) [9,10] (raO 55 4) (rbO 55 4) Go.LoopState.done (some Go.Code.ret))),(1,B.blk 28 [C.nils]),(2,B.blk 3 [dI e]),(3,B.blk 4 [dB Bool.false])],4,28⟩)) (fun(e:List qb×Int×Bool)=>some (Go.Exit.exit 0,⟨[(6,R.any)],[(0,B.ob (AO.lp 55 (R.any::R.any::rP 1::rP 2::rP 3::q5H) [9,10] (raO 55 4) (rbO 55 4) Go.LoopState.ready none)),(1,B.blk 28 [dO 4 5 e.1.length]),(2,B.blk 3 [dI e.2.1]),(3,B.blk 4 [dB e.2.2]),(4,bR 30 5 qg e.1)],5,28⟩))) :=
 by
 intro w4 b2 b3 deep t15 t16 t17 w4_len h0
 subst h0
 revert t17;revert b3;revert b2;revert w4;exact qvx qm5 qmH (fun e=>by rcases e with _|_<;>exact⟨_,rfl,fun h=>by cases h⟩) fun w4 b2 b3 t17=>by
  have:=qvN;have:=@qeN.eq_1;have:=@q7S;have:=@q0W.eq_1;exact gA
noncomputable def q36 (n:qb) (deep:Int) (b2:Int) (b3:Bool):Option (Int⊕(List qb×Int×Bool)):=Option.bind (q0O deep n.Kind n.N n.Min n.Set n.L b2 b3) fun(a:Sum Unit (Prod (List qb) Int))=>Sum.elim (fun(a2:Unit)=>some (Sum.inl 0)) (fun(a3:Prod (List qb) Int)=>Option.bind (qq (q0W deep n.L ((n.L.length:Nat):Int)) (a3.1,(a3.2,(b3,0)))) fun(a4:Sum Int (Prod (List qb) (Prod Int Bool)))=>Sum.elim (fun(a5:Int)=>some (Sum.inl a5)) (fun(a6:Prod (List qb) (Prod Int Bool))=>some (Sum.inr (a6.1,a6.2.1,a6.2.2))) a4) a
theorem q9P:∀(n_Kind n_N n_Min:Int) (n_Set:List qc) (n_L:List qb) (deep b2:Int) (b3:Bool),ev 95 4 [R.agg [dI n_Kind,dI n_N,dI n_Min,dL 2 qe n_Set,dL 5 qg n_L],rI deep,R.c (C.hd .yield 0)] [(0,B.ob (AO.lp 55 (R.any::R.any::rP 1::rP 2::rP 3::q5H) [9,10] (raO 55 4) (rbO 55 4) Go.LoopState.ready none)),(1,B.blk 28 [C.nils]),(2,B.blk 3 [dI b2]),(3,B.blk 4 [dB b3])]=(q36 (qb.mk n_Kind n_N n_Min n_Set n_L) deep b2 b3).bind (Sum.elim (fun(e:Int)=>some (rB Bool.false,[(0,B.ob (AO.lp 55 (R.any::R.any::rP 1::rP 2::rP 3::q5H) [9,10] (raO 55 4) (rbO 55 4) Go.LoopState.done (some Go.Code.ret))),(1,B.blk 28 [C.nils]),(2,B.blk 3 [dI e]),(3,B.blk 4 [dB Bool.false])])) (fun(e:List qb×Int×Bool)=>some (rB Bool.true,[(0,B.ob (AO.lp 55 (R.any::R.any::rP 1::rP 2::rP 3::q5H) [9,10] (raO 55 4) (rbO 55 4) Go.LoopState.ready none)),(1,B.blk 28 [dO 4 5 e.1.length]),(2,B.blk 3 [dI e.2.1]),(3,B.blk 4 [dB e.2.2]),(4,bR 30 5 qg e.1)]))) :=
 fun n_Kind n_N n_Min n_Set n_L deep b2 b3=>by
  rw[qt qsG qw1.2.2.2 qy2]
  have:=qvN;have:=@q6U;have:=@q6X;have:=@q36.eq_1;exact gA
noncomputable def q0U (b2:Int) (b3:Bool) (v:qb):Option (Int⊕(List qb×Int×Bool)):=Option.bind (q36 v 1 b2 b3) fun(a:Sum Int (Prod (List qb) (Prod Int Bool)))=>Sum.elim (fun(a2:Int)=>some (Sum.inl a2)) (fun(a3:Prod (List qb) (Prod Int Bool))=>some (Sum.inr (a3.1,a3.2.1,a3.2.2))) a
theorem q7c:∀(b2:Int) (b3:Bool) (v_Kind v_N v_Min:Int) (v_Set:List qc) (v_L:List qb),ev 94 5 [R.c (C.hd .yield 0),rP 4] [(0,B.ob (AO.lp 55 (R.any::R.any::rP 1::rP 2::rP 3::q5H) [9,10] (raO 55 4) (rbO 55 4) Go.LoopState.ready none)),(1,B.blk 28 [C.nils]),(2,B.blk 3 [dI b2]),(3,B.blk 4 [dB b3]),(4,B.blk 30 [dI v_Kind,dI v_N,dI v_Min,dL 2 qe v_Set,dL 5 qg v_L])]=(q0U b2 b3 (qb.mk v_Kind v_N v_Min v_Set v_L)).bind (Sum.elim (fun(e:Int)=>some (R.tup [],[(0,B.ob (AO.lp 55 (R.any::R.any::rP 1::rP 2::rP 3::q5H) [9,10] (raO 55 4) (rbO 55 4) Go.LoopState.done (some Go.Code.ret))),(1,B.blk 28 [C.nils]),(2,B.blk 3 [dI e]),(3,B.blk 4 [dB Bool.false]),(4,B.blk 30 [dI v_Kind,dI v_N,dI v_Min,dL 2 qe v_Set,dL 5 qg v_L])])) (fun(e:List qb×Int×Bool)=>some (R.tup [],[(0,B.ob (AO.lp 55 (R.any::R.any::rP 1::rP 2::rP 3::q5H) [9,10] (raO 55 4) (rbO 55 4) Go.LoopState.ready none)),(1,B.blk 28 [dO 5 5 e.1.length]),(2,B.blk 3 [dI e.2.1]),(3,B.blk 4 [dB e.2.2]),(4,B.blk 30 [dI v_Kind,dI v_N,dI v_Min,dL 2 qe v_Set,dL 5 qg v_L]),(5,bR 30 5 qg e.1)]))) :=
 fun b2 b3 v_Kind v_N v_Min v_Set v_L=>by
  rw[qt qyf qzD.2.2.2 qDL]
  have:=qBp;have:=@q9P;have:=@q0U.eq_1;exact gA
noncomputable def q0K (n:qb):Option (List qb×Int×Bool):=Option.bind (q0U 0 Bool.false n) fun(a:Sum Int (Prod (List qb) (Prod Int Bool)))=>Sum.elim (fun(a2:Int)=>some ([],a2,Bool.false)) (fun(a3:Prod (List qb) (Prod Int Bool))=>some (a3.1,a3.2.1,Bool.true)) a
theorem q5b:∀(n_Kind n_N n_Min:Int) (n_Set:List qc) (n_L:List qb),ev 55 0 [R.agg [dI n_Kind,dI n_N,dI n_Min,dL 2 qe n_Set,dL 5 qg n_L]] []=(q0K (qb.mk n_Kind n_N n_Min n_Set n_L)).bind (fun(e:List qb×Int×Bool)=>some (R.tup [rL 5 qg e.1,rI e.2.1,rB e.2.2],[])) :=
 fun n_Kind n_N n_Min n_Set n_L=>by
  rw[qt qt1 qA6.2.2.2 qzz]
  have:=qx1;have:=@q95;have:=@q7c;have:=@q0K.eq_1;have:=@qgk;exact gA
theorem qAj:okL 45 qew:=qu (qh qvm) (by kernel_rfl) (by kernel_rfl)
def qzO:=JA_ @qew.eq_1 (JA_ @Tryz.f45.eq_1 @qvm)
theorem qrz:lbO 45 3=qi4:=zf (qh qvm) rfl
theorem qsA:okL 45 qi4:=qH qAj (List.mem_of_getElem? (i:=0) (by kernel_rfl))
theorem qBM:okL 71 qgL:=qu (qh qxH) (by kernel_rfl) (by kernel_rfl)
def qCJ:=JA_ @qgL.eq_1 (JA_ @Tryz.f71.eq_1 @qxH)
noncomputable def q35 (n:qb):Option Bool:=if(n.Kind != 3)=Bool.true then some (n.Kind != 4) else some Bool.false
noncomputable def JH (n:qb):Bool:=if(n.Kind != 3)=Bool.true then n.Kind != 4 else Bool.false
theorem q8U (n:qb):q35 n=some (JH n):=by
 unfold q35 JH
 simp only[zG]
theorem q9W:∀(n_Kind n_N n_Min:Int) (n_Set:List qc) (n_L:List qb),ev 71 0 [R.agg [dI n_Kind,dI n_N,dI n_Min,dL 2 qe n_Set,dL 5 qg n_L]] []=some (rB (JH (qb.mk n_Kind n_N n_Min n_Set n_L)),[]) :=
 fun n_Kind n_N n_Min n_Set n_L=>by
  have h:ev 71 0 [R.agg [dI n_Kind,dI n_N,dI n_Min,dL 2 qe n_Set,dL 5 qg n_L]] []=(q35 (qb.mk n_Kind n_N n_Min n_Set n_L)).bind (fun(e:Bool)=>some (rB e,[])):=by
   rw[qt qxH qAs.2.2.2 qBM]
   have:=qCJ;have:=@q35.eq_1;exact gA
  rw[q8U] at h
  exact h
theorem qAU:okL 72 qe1:=qu (qh qvO) (by kernel_rfl) (by kernel_rfl)
def qzy:=JA_ @qe1.eq_1 (JA_ @Tryz.f72.eq_1 @qvO)
theorem quc:lbO 72 3=qhB:=zf (qh qvO) rfl
theorem quF:okL 72 qhB:=qH qAU (List.mem_of_getElem? (i:=0) (by kernel_rfl))
noncomputable def qR (s:List qc):Option Unit:=if s.length≤Go.maxLen∧s.length*24≤140737488355328 then some () else none
theorem Jw:∀(s:List qc),ev 91 0 [rL 2 qe s] []=(qR s).bind (fun(e:Unit)=>some (rL 2 qe s,[])) :=
 fun s=>by
  rw[qoy,qAT.2.2.2]
  have:=@qR.eq_1;exact gA
noncomputable def zH (s:List qb):Option Unit:=if s.length≤Go.maxLen∧s.length*72≤140737488355328 then some () else none
theorem q0a:∀(s:List qb),ev 92 0 [rL 5 qg s] []=(zH s).bind (fun(e:Unit)=>some (rO 0 5 s.length,[(0,bR 30 5 qg s)])) :=
 fun s=>by
  rw[qoy,qzl.2.2.2]
  have:=@zH.eq_1;exact gA
noncomputable def QO (x:qb):List R×List (Nat×B):=([R.agg [C.d (D.int .i64 x.Kind),C.d (D.int .i64 x.N),C.d (D.int .i64 x.Min),C.d (D.sl 2 x.Set.length (x.Set.flatMap qe)),C.d (D.sl 5 x.L.length (x.L.flatMap qg))]],[])
noncomputable def Ze:qb→R×List (Nat×B):=fun(e:qb)=>(R.agg [C.d (D.int .i64 e.Kind),C.d (D.int .i64 e.N),C.d (D.int .i64 e.Min),C.d (D.sl 2 e.Set.length (e.Set.flatMap qe)),C.d (D.sl 5 e.L.length (e.L.flatMap qg))],[])
noncomputable def ZA (rF:qb→Option qb) (n_Kind:Int) (n_N:Int) (n_Min:Int) (n_Set:List qc) (b2_Kind:Int) (b2_N:Int) (b2_Min:Int) (t15:Int):(List qb×Int)→Option ((List qb×Int)⊕(List qb))|(w1,t16)=>if t16<t15 then if 0≤t16∧t16<((w1.length:Nat):Int) then Option.bind w1[Int.toNat t16]? fun(a2:qb)=>Option.bind (rF a2) fun(a3:qb)=>if 0≤t16∧t16<((w1.length:Nat):Int) then if Int.toNat t16*5+5≤w1.length*5 then some (Sum.inl (List.set w1 (Int.toNat t16) a3,w64 (t16+1))) else none else none else none else some (Sum.inr w1)
theorem q5s (rE:Orc) (rF:qb→Option qb) (hF:∀y,rE (.fn 72) 0 (QO y).1 (QO y).2=(rF y).bind fun e=>some (Ze e)) (hM:∀g k a G,g≠72→rE (.fn g) k a G=ev g k a G) (hR:∀g asg bd k a G,rE (.rd g asg bd) k a G=evr g asg bd k a G):∀(w1:List qb) (n_Kind n_N n_Min:Int) (n_Set:List qc) (b2_Kind b2_N b2_Min t15 t16:Int) (w1_len:Nat),w1_len=w1.length→XL2 rE 72 0 3 ⟨[(1,rP 0),(2,rP 2),(14,rO 1 5 w1_len),(15,rI t15),(16,rI t16)],[(0,B.blk 30 [dI n_Kind,dI n_N,dI n_Min,dL 2 qe n_Set,dO 1 5 w1_len]),(1,bR 30 5 qg w1),(2,B.blk 30 [dI b2_Kind,dI b2_N,dI b2_Min,C.nils,C.nils])],3,29⟩=(qq (ZA rF n_Kind n_N n_Min n_Set b2_Kind b2_N b2_Min t15) (w1,t16)).bind (fun(e:List qb)=>some (Go.Exit.exit 0,⟨[(1,rP 0),(2,rP 2)],[(0,B.blk 30 [dI n_Kind,dI n_N,dI n_Min,dL 2 qe n_Set,dO 1 5 e.length]),(1,bR 30 5 qg e),(2,B.blk 30 [dI b2_Kind,dI b2_N,dI b2_Min,C.nils,C.nils])],3,29⟩)) :=
 by
 intro w1 n_Kind n_N n_Min n_Set b2_Kind b2_N b2_Min t15 t16 w1_len h0
 subst h0
 revert t16;revert w1;exact q3v quc quF (fun e=>by exact⟨_,rfl,fun h=>by cases h⟩) fun w1 t16=>by
  have hF':∀(n_Kind n_N n_Min:Int) (n_Set:List qc) (n_L:List qb),rE (.fn 72) 0 [R.agg [dI n_Kind,dI n_N,dI n_Min,dL 2 qe n_Set,dL 5 qg n_L]] []=(rF (qb.mk n_Kind n_N n_Min n_Set n_L)).bind (fun e=>some (R.agg [dI e.Kind,dI e.N,dI e.Min,dL 2 qe e.Set,dL 5 qg e.L],[])):=fun n_Kind n_N n_Min n_Set n_L=>hF (qb.mk n_Kind n_N n_Min n_Set n_L)
  have:=qzy;have:=@qhB.eq_1;have:=@ZA.eq_1;exact gA
noncomputable def Jl (rF:qb→Option qb):qb→Option qb|n=>Option.bind (qR n.Set) fun(a2:Unit)=>Option.bind (zH n.L) fun(a3:Unit)=>Option.bind (qq (ZA rF n.Kind n.N n.Min n.Set 0 0 0 ((n.L.length:Nat):Int)) (n.L,0)) fun(a4:List qb)=>some (qb.mk n.Kind n.N n.Min n.Set a4)
theorem q3m:q1T 72 0 QO Ze Jl:=by
 intro rE rF hF hM hR n
 show q3L rE 72 0 [R.agg [dI n.Kind,dI n.N,dI n.Min,dL 2 qe n.Set,dL 5 qg n.L]] []=_
 have hF':∀(n_Kind n_N n_Min:Int) (n_Set:List qc) (n_L:List qb),rE (.fn 72) 0 [R.agg [dI n_Kind,dI n_N,dI n_Min,dL 2 qe n_Set,dL 5 qg n_L]] []=(rF (qb.mk n_Kind n_N n_Min n_Set n_L)).bind (fun e=>some (R.agg [dI e.Kind,dI e.N,dI e.Min,dL 2 qe e.Set,dL 5 qg e.L],[])):=fun n_Kind n_N n_Min n_Set n_L=>hF (qb.mk n_Kind n_N n_Min n_Set n_L)
 rw[q04 qvO qAU]
 have:=qzy;have:=@Jw;have:=@q0a;have:=q5s rE rF hF hM hR;have:=@Jl.eq_1;have:=@Ze.eq_1;exact gA
theorem q19:∀x y,QO x=QO y→x=y:=by
 rintro⟨a_0,a_1,a_2,a_3,a_4⟩ ⟨b_0,b_1,b_2,b_3,b_4⟩ h
 simp only[QO,Prod.mk.injEq,List.cons.injEq,R.c.injEq,R.agg.injEq,R.tup.injEq,C.d.injEq,C.own.injEq,C.ptr.injEq,C.eptr.injEq,D.int.injEq,D.bool.injEq,D.str.injEq,D.sl.injEq,B.blk.injEq,B.row.injEq,QB,ZV,QW,Zc,Zy,Zw,Zr,Jq,Zx,Jt,Jz,QA,true_and,and_true,List.nil_append] at h
 simp only[h]
theorem q5j:∀x y,Ze x=Ze y→x=y:=by
 rintro⟨a_0,a_1,a_2,a_3,a_4⟩ ⟨b_0,b_1,b_2,b_3,b_4⟩ h
 simp only[Ze,Prod.mk.injEq,List.cons.injEq,R.c.injEq,R.agg.injEq,R.tup.injEq,C.d.injEq,C.own.injEq,C.ptr.injEq,C.eptr.injEq,D.int.injEq,D.bool.injEq,D.str.injEq,D.sl.injEq,B.blk.injEq,B.row.injEq,QB,ZV,QW,Zc,Zy,Zw,Zr,Jq,Zx,Jt,Jz,QA,true_and,and_true,List.nil_append] at h
 simp only[h]
noncomputable def Zk:qb→Option qb:=q3b 72 0 QO Ze
theorem q84 (x:qb):Zk x=Jl Zk x:=q4x qyA.2.2.2 q19 q5j q3m x
theorem q7q (n:qb):ev 72 0 [R.agg [dI n.Kind,dI n.N,dI n.Min,dL 2 qe n.Set,dL 5 qg n.L]] []=(Zk n).bind (fun(e:qb)=>some (R.agg [dI e.Kind,dI e.N,dI e.Min,dL 2 qe e.Set,dL 5 qg e.L],[])):=(q2M qyA.2.2.2 q19 q3m n)
theorem q7N:∀(n_Kind n_N n_Min:Int) (n_Set:List qc) (n_L:List qb),ev 72 0 [R.agg [dI n_Kind,dI n_N,dI n_Min,dL 2 qe n_Set,dL 5 qg n_L]] []=(Zk (qb.mk n_Kind n_N n_Min n_Set n_L)).bind (fun(e:qb)=>some (R.agg [dI e.Kind,dI e.N,dI e.Min,dL 2 qe e.Set,dL 5 qg e.L],[])) :=
 fun n_Kind n_N n_Min n_Set n_L=>q7q (qb.mk n_Kind n_N n_Min n_Set n_L)
noncomputable def Qy (t14:List qb) (t15:Int):(List qb×Int)→Option ((List qb×Int)⊕(List qb))|(leaves,t16)=>if t16<t15 then if 0≤t16∧t16<((t14.length:Nat):Int) then Option.bind t14[Int.toNat t16]? fun(a:qb)=>if JH a=Bool.true then Option.bind (Zk a) fun(a2:qb)=>if leaves.length+1≤Go.maxLen∧(leaves.length+1)*72≤140737488355328 then some (Sum.inl (leaves++[a2],w64 (t16+1))) else none else some (Sum.inl (leaves,w64 (t16+1))) else none else some (Sum.inr leaves)
theorem q5I:∀(leaves t14:List qb) (t15 t16:Int) (leaves_len:Nat),leaves_len=leaves.length→XL2 evo 45 0 3 ⟨[(2,rO 0 5 leaves_len),(14,rL 5 qg t14),(15,rI t15),(16,rI t16)],[(0,bR 30 5 qg leaves)],1,29⟩=(qq (Qy t14 t15) (leaves,t16)).bind (fun(e:List qb)=>some (Go.Exit.exit 0,⟨[(2,rO 0 5 e.length)],[(0,bR 30 5 qg e)],1,29⟩)) :=
 by
 intro leaves t14 t15 t16 leaves_len h0
 subst h0
 revert t16;revert leaves;exact q3v qrz qsA (fun e=>by exact⟨_,rfl,fun h=>by cases h⟩) fun leaves t16=>by
  have:=qzO;have:=@qi4.eq_1;have:=@q9W;have:=@q7N;have:=@Qy.eq_1;exact gA
theorem q3p:∀  (t14:List qb) (t15 t16:Int),XL2 evo 45 0 3 ⟨[(2,rO 0 5 0),(14,rL 5 qg t14),(15,rI t15),(16,rI t16)],[(0,B.row 30 5 [])],1,29⟩=(qq (Qy t14 t15) ([],t16)).bind (fun(e:List qb)=>some (Go.Exit.exit 0,⟨[(2,rO 0 5 e.length)],[(0,bR 30 5 qg e)],1,29⟩)):=by
 intro t14 t15 t16;have h:=q5I [] t14 t15 t16 _ rfl
 first
  | exact h
  | (simp only[rL,dL,bR,bZ,Nat.reduceAdd] at h;exact h)
noncomputable def JF (n:qb):Option (List qb):=Option.bind (q0K n) fun(a:Prod (List qb) (Prod Int Bool))=>Option.bind (qq (Qy a.1 ((a.1.length:Nat):Int)) ([],0)) fun(a2:List qb)=>some a2
theorem q3n:∀(n_Kind n_N n_Min:Int) (n_Set:List qc) (n_L:List qb),ev 45 0 [R.agg [dI n_Kind,dI n_N,dI n_Min,dL 2 qe n_Set,dL 5 qg n_L]] []=(JF (qb.mk n_Kind n_N n_Min n_Set n_L)).bind (fun(e:List qb)=>some (rL 5 qg e,[])) :=
 fun n_Kind n_N n_Min n_Set n_L=>by
  rw[qt qvm qA8.2.2.2 qAj]
  have:=qzO;have:=@q5b;have:=@q3p;have:=@JF.eq_1;exact gA
theorem qCw:okL 56 qg9:=qu (qh qyG) (by kernel_rfl) (by kernel_rfl)
def qDk:=JA_ @qg9.eq_1 (JA_ @Tryz.f56.eq_1 @qyG)
noncomputable def q1n (n:Int) (low:Int) (high:Int):Option Bool:=if low≤n then some (decide (n≤high)) else some Bool.false
noncomputable def zt (n:Int) (low:Int) (high:Int):Bool:=if low≤n then decide (n≤high) else Bool.false
theorem q6L (n low high:Int):q1n n low high=some (zt n low high):=by
 unfold q1n zt
 simp only[zG]
theorem J7:∀(n low high:Int),ev 56 0 [rI n,rI low,rI high] []=some (rB (zt n low high),[]) :=
 fun n low high=>by
  have h:ev 56 0 [rI n,rI low,rI high] []=(q1n n low high).bind (fun(e:Bool)=>some (rB e,[])):=by
   rw[qt qyG qzs.2.2.2 qCw]
   have:=qDk;have:=@q1n.eq_1;exact gA
  rw[q6L] at h
  exact h
theorem qBl:okL 57 qhu:=qu (qh qx2) (by kernel_rfl) (by kernel_rfl)
def qCf:=JA_ @qhu.eq_1 (JA_ @Tryz.f57.eq_1 @qx2)
theorem q9x:ev 57 0 [] []=some (R.c (C.hd HK.map 0),[(0,B.ob (@AO.mp [(Go.Value.int Go.IntKind.i64 1,(R.agg [C.fn 80 [] []],0)),(Go.Value.int Go.IntKind.i64 2,(R.agg [C.fn 82 [] []],1)),(Go.Value.int Go.IntKind.i64 3,(R.agg [C.fn 83 [] [dP 1]],2)),(Go.Value.int Go.IntKind.i64 4,(R.agg [C.fn 84 [] [dP 1]],3))] 4)),(1,B.blk 83 [C.fn 79 [] []])]) :=
 by
  rw[qt qx2 qzA.2.2.2 qBl]
  have:=qCf;exact gA
theorem qE8:okL 80 qgQ:=qu (qh qyH) (by kernel_rfl) (by kernel_rfl)
def qBr:=JA_ @qgQ.eq_1 (JA_ @Tryz.f80.eq_1 @qyH)
theorem qzH:okL 81 qe4:=qu (qh qvW) (by kernel_rfl) (by kernel_rfl)
def qAB:=JA_ @qe4.eq_1 (JA_ @Tryz.f81.eq_1 @qvW)
theorem qtw:lbO 81 7=qia:=zf (qh qvW) rfl
theorem qtP:okL 81 qia:=qH qzH (List.mem_of_getElem? (i:=0) (by kernel_rfl))
theorem qDb:okL 96 qhH:=qu (qh qxQ) (by kernel_rfl) (by kernel_rfl)
def qBx:=JA_ @qhH.eq_1 (JA_ @Tryz.f96.eq_1 @qxQ)
theorem quE:okL 103 qaX:=qu (qh qlr) (by kernel_rfl) (by kernel_rfl)
def qt3:=JA_ @qaX.eq_1 (JA_ @Tryz.f103.eq_1 @qlr)
theorem qql:lbO 103 2=qdk:=zf (qh qlr) rfl
theorem qpn:okL 103 qdk:=qH quE (List.mem_of_getElem? (i:=0) (by kernel_rfl))
theorem qCb:okL 97 qiQ:=qu (qh qxX) (by kernel_rfl) (by kernel_rfl)
def qCH:=JA_ @qiQ.eq_1 (JA_ @Tryz.f97.eq_1 @qxX)
theorem qE6:okL 98 qgg:=qu (qh qyy) (by kernel_rfl) (by kernel_rfl)
def qCR:=JA_ @qgg.eq_1 (JA_ @Tryz.f98.eq_1 @qyy)
theorem qyZ:okL 104 qd4:=qu (qh qoi) (by kernel_rfl) (by kernel_rfl)
def qwG:=JA_ @qd4.eq_1 (JA_ @Tryz.f104.eq_1 @qoi)
theorem qwh:okL 109 qdb:=qu (qh qnZ) (by kernel_rfl) (by kernel_rfl)
def qyj:=JA_ @qdb.eq_1 (JA_ @Tryz.f109.eq_1 @qnZ)
theorem qtN:okL 112 qb1:=qu (qh qk7) (by kernel_rfl) (by kernel_rfl)
def quP:=JA_ @qb1.eq_1 (JA_ @Tryz.f112.eq_1 @qk7)
theorem qq6:lbO 112 2=qd8:=zf (qh qk7) rfl
theorem qoQ:okL 112 qd8:=qH qtN (List.mem_of_getElem? (i:=0) (by kernel_rfl))
theorem qyh:okL 108 qdl:=qu (qh qpX) (by kernel_rfl) (by kernel_rfl)
def qz3:=JA_ @qdl.eq_1 (JA_ @Tryz.f108.eq_1 @qpX)
noncomputable def q0n (c:Int):Option Bool:=if c<65 then if c<48 then some Bool.true else some (decide (57<c)) else if 90<c then if c<48 then some Bool.true else some (decide (57<c)) else some Bool.false
noncomputable def Qe (c:Int):Bool:=if c<65 then if c<48 then Bool.true else decide (57<c) else if 90<c then if c<48 then Bool.true else decide (57<c) else Bool.false
theorem q5r (c:Int):q0n c=some (Qe c):=by
 unfold q0n Qe
 simp only[zG]
theorem q5S:∀(c:Int),ev 108 0 [R.c (C.d (D.int .i32 c))] []=some (rB (Qe c),[]) :=
 fun c=>by
  have h:ev 108 0 [R.c (C.d (D.int .i32 c))] []=(q0n c).bind (fun(e:Bool)=>some (rB e,[])):=by
   rw[qt qpX qqT.2.2.2 qyh]
   have:=qz3;have:=@q0n.eq_1;exact gA
  rw[q5r] at h
  exact h
noncomputable def ze (it0_s:ByteArray) (truth:Bool):Nat→Option (Nat⊕(Int⊕Unit))|it0_p=>if it0_p<ByteArray.size it0_s then if(Qe (((@Go.Utf8.decode it0_s it0_p).1:Nat):Int)==truth)=Bool.true then some (Sum.inr (Sum.inl ((it0_p:Nat):Int))) else some (Sum.inl (it0_p+(@Go.Utf8.decode it0_s it0_p).2)) else some (Sum.inr (Sum.inr ()))
theorem q2c:∀(it0_s:ByteArray) (it0_p:Nat) (truth:Bool),XL2 evo 112 0 2 ⟨[(1,R.c (C.fn 108 [] [])),(2,rB truth),(10,R.c (C.hd .iter 0))],[(0,B.ob (AO.si it0_s it0_p))],1,21⟩=(qq (ze it0_s truth) it0_p).bind (Sum.elim (fun(e:Int)=>some (Go.Exit.ret,⟨[(6,rI e)],[],0,21⟩)) (fun(e:Unit)=>some (Go.Exit.exit 0,⟨[(6,R.any)],[],0,21⟩))) :=
 fun it0_s it0_p truth=>by
  revert it0_p;exact q89 qq6 qoQ (fun e=>by rcases e with _|_<;>exact⟨_,rfl,fun h=>by cases h⟩) fun x=>by
   have:=quP;have:=@qd8.eq_1;have:=@q5S;have:=@ze.eq_1;exact gA
noncomputable def J2 (s:ByteArray) (truth:Bool):Option Int:=Option.bind (qq (ze s truth) 0) fun(a:Sum Int Unit)=>Sum.elim (fun(a2:Int)=>some a2) (fun(a3:Unit)=>some (-1)) a
theorem q3y:∀(s:ByteArray) (truth:Bool),ev 112 0 [rS s,R.c (C.fn 108 [] []),rB truth] []=(J2 s truth).bind (fun(e:Int)=>some (rI e,[])) :=
 fun s truth=>by
  rw[qt qk7 quO.2.2.2 qtN]
  have:=quP;have:=@q2c;have:=@J2.eq_1;exact gA
noncomputable def ZY (s:ByteArray):Option Int:=Option.bind (J2 s Bool.true) fun(e0:Int)=>some e0
theorem q3A:∀(s:ByteArray),ev 109 0 [rS s,R.c (C.fn 108 [] [])] []=(ZY s).bind (fun(e:Int)=>some (rI e,[])) :=
 fun s=>by
  rw[qt qnZ qri.2.2.2 qwh]
  have:=qyj;have:=@q3y;have:=@ZY.eq_1;exact gA
noncomputable def q0m (s:ByteArray):Option Bool:=if(!(ByteArray.toList s==ByteArray.toList (ByteArray.mk (List.toArray []))))=Bool.true then if((ByteArray.size s:Nat):Int)≤8 then Option.bind (ZY s) fun(a:Int)=>some (decide (a<0)) else some Bool.false else some Bool.false
theorem q8i:∀(s:ByteArray),ev 104 0 [rS s] []=(q0m s).bind (fun(e:Bool)=>some (rB e,[])) :=
 fun s=>by
  rw[qt qoi qs4.2.2.2 qyZ]
  have:=qwG;have:=@q3A;have:=@q0m.eq_1;exact gA
noncomputable def q13 (c:qc):Option Bool:=if zt c.School 1 8=Bool.true then Option.bind (q0m c.Code) fun(e0:Bool)=>some e0 else some Bool.false
theorem q8W:∀(c_School:Int) (c_Code:ByteArray),ev 98 0 [R.agg [dI c_School,dS c_Code]] []=(q13 (qc.mk c_School c_Code)).bind (fun(e:Bool)=>some (rB e,[])) :=
 fun c_School c_Code=>by
  rw[qt qyy qAq.2.2.2 qE6]
  have:=qCR;have:=@J7;have:=@q8i;have:=@q13.eq_1;exact gA
noncomputable def q07 (c:qc):Option Bool:=Option.bind (q13 c) fun(a:Bool)=>some (!a)
theorem q5B:∀(c_School:Int) (c_Code:ByteArray),ev 97 0 [R.agg [dI c_School,dS c_Code]] []=(q07 (qc.mk c_School c_Code)).bind (fun(e:Bool)=>some (rB e,[])) :=
 fun c_School c_Code=>by
  rw[qt qxX qzL.2.2.2 qCb]
  have:=qCH;have:=@q8W;have:=@q07.eq_1;exact gA
noncomputable def qy (s:List qc) (t7:Int):Int→Option (Int⊕(Int⊕Unit))|t8=>if t8<t7 then if 0≤t8∧t8<((s.length:Nat):Int) then Option.bind s[Int.toNat t8]? fun(a:qc)=>Option.bind (q07 a) fun(a2:Bool)=>if a2=Bool.true then some (Sum.inr (Sum.inl t8)) else some (Sum.inl (w64 (t8+1))) else none else some (Sum.inr (Sum.inr ()))
theorem ZL:∀(s:List qc) (t7 t8:Int),XL2 evo 103 0 2 ⟨[(0,rL 2 qe s),(1,R.c (C.fn 97 [] [])),(7,rI t7),(8,rI t8)],[],0,19⟩=(qq (qy s t7) t8).bind (Sum.elim (fun(e:Int)=>some (Go.Exit.ret,⟨[(4,rI e)],[],0,19⟩)) (fun(e:Unit)=>some (Go.Exit.exit 0,⟨[(4,R.any)],[],0,19⟩))) :=
 fun s t7 t8=>by
  revert t8;exact q89 qql qpn (fun e=>by rcases e with _|_<;>exact⟨_,rfl,fun h=>by cases h⟩) fun x=>by
   have:=qt3;have:=@qdk.eq_1;have:=@q5B;have:=@qy.eq_1;exact gA
noncomputable def qY (s:List qc):Option Int:=Option.bind (qq (qy s ((s.length:Nat):Int)) 0) fun(a:Sum Int Unit)=>Sum.elim (fun(a2:Int)=>some a2) (fun(a3:Unit)=>some (-1)) a
theorem J1:∀(s:List qc),ev 103 0 [rL 2 qe s,R.c (C.fn 97 [] [])] []=(qY s).bind (fun(e:Int)=>some (rI e,[])) :=
 fun s=>by
  rw[qt qlr qs6.2.2.2 quE]
  have:=qt3;have:=@ZL;have:=@qY.eq_1;exact gA
noncomputable def qE (s:List qc):Option Bool:=Option.bind (qY s) fun(a:Int)=>some (decide (0≤a))
theorem ZK:∀(s:List qc),ev 96 0 [rL 2 qe s,R.c (C.fn 97 [] [])] []=(qE s).bind (fun(e:Bool)=>some (rB e,[])) :=
 fun s=>by
  rw[qt qxQ qzq.2.2.2 qDb]
  have:=qBx;have:=@J1;have:=@qE.eq_1;exact gA
theorem qEj:okL 99 qjk:=qu (qh qxr) (by kernel_rfl) (by kernel_rfl)
def qCO:=JA_ @qjk.eq_1 (JA_ @Tryz.f99.eq_1 @qxr)
theorem qyu:okL 106 qcR:=qu (qh qq7) (by kernel_rfl) (by kernel_rfl)
def qx5:=JA_ @qcR.eq_1 (JA_ @Tryz.f106.eq_1 @qq7)
theorem qyT:okL 110 qdn:=qu (qh qo3) (by kernel_rfl) (by kernel_rfl)
def qxO:=JA_ @qdn.eq_1 (JA_ @Tryz.f110.eq_1 @qo3)
noncomputable def q0u (x:Int):Option Bool :=
 some (x != x)
noncomputable def zx (x:Int):Bool :=
 x != x
theorem q5J (x:Int):q0u x=some (zx x):=by
 unfold q0u zx
 simp only[zG]
theorem q6o:∀(x:Int),ev 110 0 [rI x] []=some (rB (zx x),[]) :=
 fun x=>by
  have h:ev 110 0 [rI x] []=(q0u x).bind (fun(e:Bool)=>some (rB e,[])):=by
   rw[qt qo3 qtK.2.2.2 qyT]
   have:=qxO;have:=@q0u.eq_1;exact gA
  rw[q5J] at h
  exact h
noncomputable def JG (x:Int) (y:Int):Option Int:=if zx x=Bool.true then if zx y=Bool.true then some 0 else some (-1) else if zx y=Bool.true then some 1 else if x<y then some (-1) else if y<x then some 1 else some 0
noncomputable def QI (x:Int) (y:Int):Int:=if zx x=Bool.true then if zx y=Bool.true then 0 else(-1) else if zx y=Bool.true then 1 else if x<y then(-1) else if y<x then 1 else 0
theorem q4l (x y:Int):JG x y=some (QI x y):=by
 unfold JG QI
 simp only[zG]
theorem q4U:∀(x y:Int),ev 106 0 [rI x,rI y] []=some (rI (QI x y),[]) :=
 fun x y=>by
  have h:ev 106 0 [rI x,rI y] []=(JG x y).bind (fun(e:Int)=>some (rI e,[])):=by
   rw[qt qq7 qsc.2.2.2 qyu]
   have:=qx5;have:=@q6o;have:=@JG.eq_1;exact gA
  rw[q4l] at h
  exact h
theorem qwm:okL 107 qcG:=qu (qh qp2) (by kernel_rfl) (by kernel_rfl)
def qwn:=JA_ @qcG.eq_1 (JA_ @Tryz.f107.eq_1 @qp2)
theorem qwD:okL 111 qdF:=qu (qh qon) (by kernel_rfl) (by kernel_rfl)
def qxf:=JA_ @qdF.eq_1 (JA_ @Tryz.f111.eq_1 @qon)
noncomputable def Ji (x:ByteArray):Option Unit :=
 some ()
noncomputable def q1a (x:ByteArray):Unit :=
 ()
theorem q3w (x:ByteArray):Ji x=some (q1a x):=by
 unfold Ji q1a
 simp only[zG]
theorem q4s:∀(x:ByteArray),ev 111 0 [rS x] []=some (rB Bool.false,[]) :=
 fun x=>by
  have h:ev 111 0 [rS x] []=(Ji x).bind (fun(e:Unit)=>some (rB Bool.false,[])):=by
   rw[qt qon qqX.2.2.2 qwD]
   have:=qxf;have:=@Ji.eq_1;exact gA
  rw[q3w] at h
  exact h
noncomputable def ZO (x:ByteArray) (y:ByteArray):Option Int:=if Go.Op.bytesLess (ByteArray.toList x) (ByteArray.toList y)=Bool.true then some (-1) else if(!(Go.Op.bytesLess (ByteArray.toList x) (ByteArray.toList y)||ByteArray.toList x==ByteArray.toList y))=Bool.true then some 1 else some 0
noncomputable def Q0 (x:ByteArray) (y:ByteArray):Int:=if Go.Op.bytesLess (ByteArray.toList x) (ByteArray.toList y)=Bool.true then(-1) else if(!(Go.Op.bytesLess (ByteArray.toList x) (ByteArray.toList y)||ByteArray.toList x==ByteArray.toList y))=Bool.true then 1 else 0
theorem q2Q (x y:ByteArray):ZO x y=some (Q0 x y):=by
 unfold ZO Q0
 simp only[zG]
theorem q2Y:∀(x y:ByteArray),ev 107 0 [rS x,rS y] []=some (rI (Q0 x y),[]) :=
 fun x y=>by
  have h:ev 107 0 [rS x,rS y] []=(ZO x y).bind (fun(e:Int)=>some (rI e,[])):=by
   rw[qt qp2 qtE.2.2.2 qwm]
   have:=qwn;have:=@q4s;have:=@ZO.eq_1;exact gA
  rw[q2Q] at h
  exact h
theorem qt0:okL 105 qbc:=qu (qh qlp) (by kernel_rfl) (by kernel_rfl)
def qt6:=JA_ @qbc.eq_1 (JA_ @Tryz.f105.eq_1 @qlp)
theorem qq5:lbO 105 3=qcL:=zf (qh qlp) rfl
theorem qnH:okL 105 qcL:=qH qt0 (List.mem_of_getElem? (i:=0) (by kernel_rfl))
noncomputable def Qr (zero:Int) (t6:List Int) (t7:Int):Int→Option (Int⊕(Int⊕Unit))|t8=>if t8<t7 then if 0≤t8∧t8<((t6.length:Nat):Int) then Option.bind t6[Int.toNat t8]? fun(a:Int)=>if(a != zero)=Bool.true then some (Sum.inr (Sum.inl a)) else some (Sum.inl (w64 (t8+1))) else none else some (Sum.inr (Sum.inr ()))
theorem q5Y:∀(zero:Int) (t6:List Int) (t7 t8:Int),XL2 evo 105 0 3 ⟨[(3,rI zero),(6,rL 1 eI t6),(7,rI t7),(8,rI t8)],[],0,18⟩=(qq (Qr zero t6 t7) t8).bind (Sum.elim (fun(e:Int)=>some (Go.Exit.ret,⟨[(2,rI e),(3,rI zero)],[],0,18⟩)) (fun(e:Unit)=>some (Go.Exit.exit 0,⟨[(2,R.any),(3,rI zero)],[],0,18⟩))) :=
 fun zero t6 t7 t8=>by
  revert t8;exact q89 qq5 qnH (fun e=>by rcases e with _|_<;>exact⟨_,rfl,fun h=>by cases h⟩) fun x=>by
   have:=qt6;have:=@qcL.eq_1;have:=@Qr.eq_1;exact gA
noncomputable def q0i (vals:List Int):Option Int:=Option.bind (qq (Qr 0 vals ((vals.length:Nat):Int)) 0) fun(a:Sum Int Unit)=>Sum.elim (fun(a2:Int)=>some a2) (fun(a3:Unit)=>some 0) a
theorem q9v:∀(vals:List Int),ev 105 0 [rL 1 eI vals] []=(q0i vals).bind (fun(e:Int)=>some (rI e,[])) :=
 fun vals=>by
  rw[qt qlp qsC.2.2.2 qt0]
  have:=qt6;have:=@q5Y;have:=@q0i.eq_1;exact gA
theorem q6I:∀(vals0 vals1:Int) , ev 105 0 [R.c (C.d (D.sl 1 2 [D.int .i64 vals0,D.int .i64 vals1]))] []=(q0i [vals0,vals1]).bind (fun(e:Int)=>some (rI e,[])):=by
 intro vals0 vals1;have h:=q9v [vals0,vals1]
 first
  | exact h
  | (simp only[rL,dL,bR,bZ,Nat.reduceAdd] at h;exact h)
noncomputable def JW (a:qc) (b:qc):Option Int:=Option.bind (q0i [QI a.School b.School,Q0 a.Code b.Code]) fun(e0:Int)=>some e0
theorem q70:∀(a_School:Int) (a_Code:ByteArray) (b_School:Int) (b_Code:ByteArray),ev 99 0 [R.agg [dI a_School,dS a_Code],R.agg [dI b_School,dS b_Code]] []=(JW (qc.mk a_School a_Code) (qc.mk b_School b_Code)).bind (fun(e:Int)=>some (rI e,[])) :=
 fun a_School a_Code b_School b_Code=>by
  rw[qt qxr qzn.2.2.2 qEj]
  have:=qCO;have:=@q4U;have:=@q2Y;have:=@q6I;have:=@JW.eq_1;exact gA
noncomputable def Qf (n:qb) (t22:List qc) (t23:Int):Int→Option (Int⊕(Unit⊕Unit))|t24=>if t24<t23 then if 0≤t24∧t24<((t22.length:Nat):Int) then Option.bind t22[Int.toNat t24]? fun(a:qc)=>if 0<t24 then if 0≤w64 (t24-1)∧w64 (t24-1)<((n.Set.length:Nat):Int) then Option.bind n.Set[Int.toNat (w64 (t24-1))]? fun(a2:qc)=>Option.bind (JW a2 a) fun(a3:Int)=>if 0≤a3 then some (Sum.inr (Sum.inl ())) else some (Sum.inl (w64 (t24+1))) else none else some (Sum.inl (w64 (t24+1))) else none else some (Sum.inr (Sum.inr ()))
theorem q4M:∀(n_Kind n_N n_Min:Int) (n_Set:List qc) (n_L:List qb) (t22:List qc) (t23 t24:Int),XL2 evo 81 0 7 ⟨[(1,rP 0),(22,rL 2 qe t22),(23,rI t23),(24,rI t24)],[(0,B.blk 30 [dI n_Kind,dI n_N,dI n_Min,dL 2 qe n_Set,dL 5 qg n_L])],1,43⟩=(qq (Qf (qb.mk n_Kind n_N n_Min n_Set n_L) t22 t23) t24).bind (Sum.elim (fun(e:Unit)=>some (Go.Exit.ret,⟨[(2,rI 7)],[],0,43⟩)) (fun(e:Unit)=>some (Go.Exit.exit 1,⟨[(2,R.any)],[],0,43⟩))) :=
 fun n_Kind n_N n_Min n_Set n_L t22 t23 t24=>by
  revert t24;exact q89 qtw qtP (fun e=>by rcases e with _|_<;>exact⟨_,rfl,fun h=>by cases h⟩) fun x=>by
   have:=qAB;have:=@qia.eq_1;have:=@q70;have:=@Qf.eq_1;exact gA
noncomputable def Jb (n:qb):Option Int:=if(!(zt n.Min (-1000) 1000))=Bool.true then some 3 else if(!(zt ((n.Set.length:Nat):Int) 1 12))=Bool.true then some 2 else Option.bind (qE n.Set) fun(a:Bool)=>if(!a)=Bool.true then Option.bind (qq (Qf n n.Set ((n.Set.length:Nat):Int)) 0) fun(a2:Sum Unit Unit)=>Sum.elim (fun(a3:Unit)=>some 7) (fun(a4:Unit)=>some 0) a2 else some 1
theorem q2P:∀(n_Kind n_N n_Min:Int) (n_Set:List qc) (n_L:List qb),ev 81 0 [R.agg [dI n_Kind,dI n_N,dI n_Min,dL 2 qe n_Set,dL 5 qg n_L]] []=(Jb (qb.mk n_Kind n_N n_Min n_Set n_L)).bind (fun(e:Int)=>some (rI e,[])) :=
 fun n_Kind n_N n_Min n_Set n_L=>by
  rw[qt qvW qAz.2.2.2 qzH]
  have:=qAB;have:=@J7;have:=@ZK;have:=@q4M;have:=@Jb.eq_1;exact gA
noncomputable def q00 (n:qb):Option Int:=if(n.N != 0)=Bool.true then some 13 else if 0<((n.L.length:Nat):Int) then some 13 else Option.bind (Jb n) fun(e0:Int)=>some e0
theorem q7f:∀(n_Kind n_N n_Min:Int) (n_Set:List qc) (n_L:List qb),ev 80 0 [R.agg [dI n_Kind,dI n_N,dI n_Min,dL 2 qe n_Set,dL 5 qg n_L]] []=(q00 (qb.mk n_Kind n_N n_Min n_Set n_L)).bind (fun(e:Int)=>some (rI e,[])) :=
 fun n_Kind n_N n_Min n_Set n_L=>by
  rw[qt qyH qzK.2.2.2 qE8]
  have:=qBr;have:=@q2P;have:=@q00.eq_1;exact gA
theorem qDU:okL 82 qja:=qu (qh qy4) (by kernel_rfl) (by kernel_rfl)
def qDo:=JA_ @qja.eq_1 (JA_ @Tryz.f82.eq_1 @qy4)
noncomputable def JX (n:qb):Option Int:=if 0<((n.L.length:Nat):Int) then some 13 else if(!(zt n.N 1 600))=Bool.true then some 3 else Option.bind (Jb n) fun(e0:Int)=>some e0
theorem q7B:∀(n_Kind n_N n_Min:Int) (n_Set:List qc) (n_L:List qb),ev 82 0 [R.agg [dI n_Kind,dI n_N,dI n_Min,dL 2 qe n_Set,dL 5 qg n_L]] []=(JX (qb.mk n_Kind n_N n_Min n_Set n_L)).bind (fun(e:Int)=>some (rI e,[])) :=
 fun n_Kind n_N n_Min n_Set n_L=>by
  rw[qt qy4 qAi.2.2.2 qDU]
  have:=qDo;have:=@J7;have:=@q2P;have:=@JX.eq_1;exact gA
theorem qBs:okL 83 qgO:=qu (qh qxC) (by kernel_rfl) (by kernel_rfl)
def qCS:=JA_ @qgO.eq_1 (JA_ @Tryz.f83.eq_1 @qxC)
theorem qCK:okL 79 qh1:=qu (qh qwf) (by kernel_rfl) (by kernel_rfl)
def qCd:=JA_ @qh1.eq_1 (JA_ @Tryz.f79.eq_1 @qwf)
noncomputable def q0V (n:qb):Option Bool:=if(n.Min==0)=Bool.true then if(((n.Set.length:Nat):Int)==0)=Bool.true then some (decide (0<((n.L.length:Nat):Int))) else some Bool.false else some Bool.false
noncomputable def Qa (n:qb):Bool:=if(n.Min==0)=Bool.true then if(((n.Set.length:Nat):Int)==0)=Bool.true then decide (0<((n.L.length:Nat):Int)) else Bool.false else Bool.false
theorem q6y (n:qb):q0V n=some (Qa n):=by
 unfold q0V Qa
 simp only[zG]
theorem q2B:∀(n_Kind n_N n_Min:Int) (n_Set:List qc) (n_L:List qb),ev 79 0 [R.agg [dI n_Kind,dI n_N,dI n_Min,dL 2 qe n_Set,dL 5 qg n_L]] []=some (rB (Qa (qb.mk n_Kind n_N n_Min n_Set n_L)),[]) :=
 fun n_Kind n_N n_Min n_Set n_L=>by
  have h:ev 79 0 [R.agg [dI n_Kind,dI n_N,dI n_Min,dL 2 qe n_Set,dL 5 qg n_L]] []=(q0V (qb.mk n_Kind n_N n_Min n_Set n_L)).bind (fun(e:Bool)=>some (rB e,[])):=by
   rw[qt qwf qAx.2.2.2 qCK]
   have:=qCd;have:=@q0V.eq_1;exact gA
  rw[q6y] at h
  exact h
noncomputable def q0P (n:qb):Option Int:=if(!(Qa n))=Bool.true then some 13 else if(n.N != 0)=Bool.true then some 13 else some 0
noncomputable def Zf (n:qb):Int:=if(!(Qa n))=Bool.true then 13 else if(n.N != 0)=Bool.true then 13 else 0
theorem q6q (n:qb):q0P n=some (Zf n):=by
 unfold q0P Zf
 simp only[zG]
theorem q75:∀(n_Kind n_N n_Min:Int) (n_Set:List qc) (n_L:List qb),ev 83 1 [R.agg [dI n_Kind,dI n_N,dI n_Min,dL 2 qe n_Set,dL 5 qg n_L],rP 0] [(0,B.blk 83 [C.fn 79 [] []])]=some (rI (Zf (qb.mk n_Kind n_N n_Min n_Set n_L)),[(0,B.blk 83 [C.fn 79 [] []])]) :=
 fun n_Kind n_N n_Min n_Set n_L=>by
  have h:ev 83 1 [R.agg [dI n_Kind,dI n_N,dI n_Min,dL 2 qe n_Set,dL 5 qg n_L],rP 0] [(0,B.blk 83 [C.fn 79 [] []])]=(q0P (qb.mk n_Kind n_N n_Min n_Set n_L)).bind (fun(e:Int)=>some (rI e,[(0,B.blk 83 [C.fn 79 [] []])])):=by
   rw[qt qxC qAY.2.2.2 qBs]
   have:=qCS;have:=@q2B;have:=@q0P.eq_1;exact gA
  rw[q6q] at h
  exact h
theorem qEb:okL 84 qj2:=qu (qh qxU) (by kernel_rfl) (by kernel_rfl)
def qDs:=JA_ @qj2.eq_1 (JA_ @Tryz.f84.eq_1 @qxU)
noncomputable def q0R (n:qb):Option Int:=if(!(Qa n))=Bool.true then some 13 else if(!(zt n.N 1 ((n.L.length:Nat):Int)))=Bool.true then some 3 else some 0
noncomputable def Z5 (n:qb):Int:=if(!(Qa n))=Bool.true then 13 else if(!(zt n.N 1 ((n.L.length:Nat):Int)))=Bool.true then 3 else 0
theorem q6b (n:qb):q0R n=some (Z5 n):=by
 unfold q0R Z5
 simp only[zG]
theorem q6Q:∀(n_Kind n_N n_Min:Int) (n_Set:List qc) (n_L:List qb),ev 84 1 [R.agg [dI n_Kind,dI n_N,dI n_Min,dL 2 qe n_Set,dL 5 qg n_L],rP 0] [(0,B.blk 83 [C.fn 79 [] []])]=some (rI (Z5 (qb.mk n_Kind n_N n_Min n_Set n_L)),[(0,B.blk 83 [C.fn 79 [] []])]) :=
 fun n_Kind n_N n_Min n_Set n_L=>by
  have h:ev 84 1 [R.agg [dI n_Kind,dI n_N,dI n_Min,dL 2 qe n_Set,dL 5 qg n_L],rP 0] [(0,B.blk 83 [C.fn 79 [] []])]=(q0R (qb.mk n_Kind n_N n_Min n_Set n_L)).bind (fun(e:Int)=>some (rI e,[(0,B.blk 83 [C.fn 79 [] []])])):=by
   rw[qt qxU qA5.2.2.2 qEb]
   have:=qDs;have:=@q2B;have:=@J7;have:=@q0R.eq_1;exact gA
  rw[q6b] at h
  exact h
noncomputable def Zu (t37:List qb) (t38:Int):Int→Option (Int⊕(Int⊕Unit))|t39=>if t39<t38 then if 0≤t39∧t39<((t37.length:Nat):Int) then Option.bind t37[Int.toNat t39]? fun(a:qb)=>if a.Kind=1 then Option.bind (q00 a) fun(a2:Int)=>if(a2 != 0)=Bool.true then some (Sum.inr (Sum.inl a2)) else some (Sum.inl (w64 (t39+1))) else if a.Kind=2 then Option.bind (JX a) fun(a3:Int)=>if(a3 != 0)=Bool.true then some (Sum.inr (Sum.inl a3)) else some (Sum.inl (w64 (t39+1))) else if a.Kind=3 then if(Zf a != 0)=Bool.true then some (Sum.inr (Sum.inl (Zf a))) else some (Sum.inl (w64 (t39+1))) else if a.Kind=4 then if(Z5 a != 0)=Bool.true then some (Sum.inr (Sum.inl (Z5 a))) else some (Sum.inl (w64 (t39+1))) else some (Sum.inr (Sum.inl 13)) else none else some (Sum.inr (Sum.inr ()))
theorem q6a:∀(t37:List qb) (t38 t39:Int),XL2 evo 30 0 6 ⟨[(6,R.c (C.hd .map 0)),(37,rL 5 qg t37),(38,rI t38),(39,rI t39)],[(0,B.ob (AO.mp [(Go.Value.int Go.IntKind.i64 1,R.agg [C.fn 80 [] []],0),(Go.Value.int Go.IntKind.i64 2,R.agg [C.fn 82 [] []],1),(Go.Value.int Go.IntKind.i64 3,R.agg [C.fn 83 [] [dP 1]],2),(Go.Value.int Go.IntKind.i64 4,R.agg [C.fn 84 [] [dP 1]],3)] 4)),(1,B.blk 83 [C.fn 79 [] []])],2,60⟩=(qq (Zu t37 t38) t39).bind (Sum.elim (fun(e:Int)=>some (Go.Exit.ret,⟨[(2,rI e)],[],0,60⟩)) (fun(e:Unit)=>some (Go.Exit.exit 0,⟨[(2,R.any)],[],0,60⟩))) :=
 fun t37 t38 t39=>by
  revert t39;exact q89 qtX qt2 (fun e=>by rcases e with _|_<;>exact⟨_,rfl,fun h=>by cases h⟩) fun x=>by
   have:=qAP;have:=@qg6.eq_1;have:=@q7f;have:=@q7B;have:=@q75;have:=@q6Q;have:=@Zu.eq_1;exact gA
noncomputable def JD (n:qb):Option Int:=Option.bind (q0K n) fun(a:Prod (List qb) (Prod Int Bool))=>if(!a.2.2)=Bool.true then some 2 else if 24<((a.1.length:Nat):Int) then some 2 else if 5<a.2.1 then some 2 else Option.bind (JF n) fun(a2:List qb)=>if(!(zt ((a2.length:Nat):Int) 1 8))=Bool.true then some 2 else Option.bind (qq (Zu a.1 ((a.1.length:Nat):Int)) 0) fun(a3:Sum Int Unit)=>Sum.elim (fun(a4:Int)=>some a4) (fun(a5:Unit)=>some 0) a3
theorem q4f:∀(n_Kind n_N n_Min:Int) (n_Set:List qc) (n_L:List qb),ev 30 0 [R.agg [dI n_Kind,dI n_N,dI n_Min,dL 2 qe n_Set,dL 5 qg n_L]] []=(JD (qb.mk n_Kind n_N n_Min n_Set n_L)).bind (fun(e:Int)=>some (rI e,[])) :=
 fun n_Kind n_N n_Min n_Set n_L=>by
  rw[qt qw8 qzx.2.2.2 qBb]
  have:=qAP;have:=@q5b;have:=@q3n;have:=@J7;have:=@q9x;have:=@q6a;have:=@JD.eq_1;exact gA
theorem qzZ:okL 33 qhx:=qu (qh qvM) (by kernel_rfl) (by kernel_rfl)
def qB5:=JA_ @qhx.eq_1 (JA_ @Tryz.f33.eq_1 @qvM)
theorem qqe:okL 58 q7F:=qu (qh qkD) (by kernel_rfl) (by kernel_rfl)
def qfb:=JA_ @q7F.eq_1 (JA_ @Tryz.f58.eq_1 @qkD)
theorem qer:lbO 58 5=qam:=zf (qh qkD) rfl
theorem qf0:okL 58 qam:=qH qqe (List.mem_of_getElem? (i:=0) (by kernel_rfl))
theorem qhs:lbO 58 14=qbt:=zf (qh qkD) rfl
theorem qgZ:okL 58 qbt:=qH qqe (List.mem_of_getElem? (i:=1) (by kernel_rfl))
theorem qhd:lbO 58 18=qaR:=zf (qh qkD) rfl
theorem qhS:okL 58 qaR:=qH qqe (List.mem_of_getElem? (i:=2) (by kernel_rfl))
theorem qiO:lbO 58 25=qaD:=zf (qh qkD) rfl
theorem qjH:okL 58 qaD:=qH qqe (List.mem_of_getElem? (i:=3) (by kernel_rfl))
theorem qgq:lbO 58 38=qbx:=zf (qh qkD) rfl
theorem qi5:okL 58 qbx:=qH qqe (List.mem_of_getElem? (i:=4) (by kernel_rfl))
theorem qC9:okL 36 qie:=qu (qh qwi) (by kernel_rfl) (by kernel_rfl)
def qCu:=JA_ @qie.eq_1 (JA_ @Tryz.f36.eq_1 @qwi)
noncomputable def q4I (n:qb):Option Bool:=if(n.Kind==1)=Bool.true then some Bool.true else some (n.Kind==2)
noncomputable def ZG (n:qb):Bool:=if(n.Kind==1)=Bool.true then Bool.true else n.Kind==2
theorem qa0 (n:qb):q4I n=some (ZG n):=by
 unfold q4I ZG
 simp only[zG]
theorem q1h:∀(n_Kind n_N n_Min:Int) (n_Set:List qc) (n_L:List qb),ev 36 0 [R.agg [dI n_Kind,dI n_N,dI n_Min,dL 2 qe n_Set,dL 5 qg n_L]] []=some (rB (ZG (qb.mk n_Kind n_N n_Min n_Set n_L)),[]) :=
 fun n_Kind n_N n_Min n_Set n_L=>by
  have h:ev 36 0 [R.agg [dI n_Kind,dI n_N,dI n_Min,dL 2 qe n_Set,dL 5 qg n_L]] []=(q4I (qb.mk n_Kind n_N n_Min n_Set n_L)).bind (fun(e:Bool)=>some (rB e,[])):=by
   rw[qt qwi qAo.2.2.2 qC9]
   have:=qCu;have:=@q4I.eq_1;exact gA
  rw[qa0] at h
  exact h
theorem qCZ:okL 50 qhp:=qu (qh qwb) (by kernel_rfl) (by kernel_rfl)
def qCp:=JA_ @qhp.eq_1 (JA_ @Tryz.f50.eq_1 @qwb)
noncomputable def Jo (kind:Int):Option (Unit⊕Unit):=if(kind==1)=Bool.true then some (Sum.inl ()) else some (Sum.inr ())
theorem q2n:∀(kind:Int),ev 50 0 [rI kind] []=(Jo kind).bind (Sum.elim (fun(e:Unit)=>some (R.c (C.fn 73 [] []),[])) (fun(e:Unit)=>some (R.c (C.fn 74 [] []),[]))) :=
 fun kind=>by
  rw[qt qwb qBa.2.2.2 qCZ]
  have:=qCp;have:=@Jo.eq_1;exact gA
theorem qDa:okL 31 qi6:=qu (qh qyv) (by kernel_rfl) (by kernel_rfl)
def qCF:=JA_ @qi6.eq_1 (JA_ @Tryz.f31.eq_1 @qyv)
noncomputable def q25 (x0:Int) (x1:Int):Option Unit :=
 some ()
noncomputable def q54 (x0:Int) (x1:Int):Unit :=
 ()
theorem q8d (x0 x1:Int):q25 x0 x1=some (q54 x0 x1):=by
 unfold q25 q54
 simp only[zG]
theorem q40:∀(x0 x1:Int),ev 31 0 [rI x0,rI x1] []=some (rB Bool.true,[]) :=
 fun x0 x1=>by
  have h:ev 31 0 [rI x0,rI x1] []=(q25 x0 x1).bind (fun(e:Unit)=>some (rB Bool.true,[])):=by
   rw[qt qyv qAQ.2.2.2 qDa]
   have:=qCF;have:=@q25.eq_1;exact gA
  rw[q8d] at h
  exact h
theorem qz4:okL 48 qeo:=qu (qh qrv) (by kernel_rfl) (by kernel_rfl)
def qvC:=JA_ @qeo.eq_1 (JA_ @Tryz.f48.eq_1 @qrv)
theorem qmY:lbO 48 3=qf4:=zf (qh qrv) rfl
theorem qmZ:okL 48 qf4:=qH qz4 (List.mem_of_getElem? (i:=0) (by kernel_rfl))
theorem qCP:okL 59 qjl:=qu (qh qwv) (by kernel_rfl) (by kernel_rfl)
def qBj:=JA_ @qjl.eq_1 (JA_ @Tryz.f59.eq_1 @qwv)
noncomputable def Ju (k:Int) (v:Int):Option Bool:=if 0≤k then some (QT Go.BinOp.and Go.IntKind.i64 (Int.fdiv v (2 ^ min (Int.toNat k) (Go.IntKind.bits Go.IntKind.i64))) 1==1) else none
theorem q6l:∀(k v:Int),ev 59 1 [rI k,rP 0] [(0,B.blk 3 [dI v])]=(Ju k v).bind (fun(e:Bool)=>some (rB e,[(0,B.blk 3 [dI v])])) :=
 fun k v=>by
  rw[qt qwv qzU.2.2.2 qCP]
  have:=qBj;have:=@Ju.eq_1;exact gA
theorem qBI:okL 15 qg7:=qu (qh qxo) (by kernel_rfl) (by kernel_rfl)
def qCI:=JA_ @qg7.eq_1 (JA_ @Tryz.f15.eq_1 @qxo)
theorem qEh:okL 37 qhc:=qu (qh qyW) (by kernel_rfl) (by kernel_rfl)
def qCg:=JA_ @qhc.eq_1 (JA_ @Tryz.f37.eq_1 @qyW)
theorem qzr:okL 67 qeI:=qu (qh qw2) (by kernel_rfl) (by kernel_rfl)
def qAh:=JA_ @qeI.eq_1 (JA_ @Tryz.f67.eq_1 @qw2)
theorem quy:lbO 67 2=qij:=zf (qh qw2) rfl
theorem qr2:okL 67 qij:=qH qzr (List.mem_of_getElem? (i:=0) (by kernel_rfl))
noncomputable def qA (v:qc) (s:List qc) (t7:Int):Int→Option (Int⊕(Int⊕Unit))|t8=>if t8<t7 then if 0≤t8∧t8<((s.length:Nat):Int) then Option.bind s[Int.toNat t8]? fun(a:qc)=>if(v.School==a.School)=Bool.true∧(ByteArray.toList v.Code==ByteArray.toList a.Code)=Bool.true then some (Sum.inr (Sum.inl t8)) else some (Sum.inl (w64 (t8+1))) else none else some (Sum.inr (Sum.inr ()))
theorem Ja:∀(v_School:Int) (v_Code:ByteArray) (s:List qc) (t7 t8:Int),XL2 evo 67 0 2 ⟨[(0,rL 2 qe s),(3,rP 0),(7,rI t7),(8,rI t8)],[(0,B.blk 51 [dI v_School,dS v_Code])],1,19⟩=(qq (qA (qc.mk v_School v_Code) s t7) t8).bind (Sum.elim (fun(e:Int)=>some (Go.Exit.ret,⟨[(4,rI e)],[],0,19⟩)) (fun(e:Unit)=>some (Go.Exit.exit 0,⟨[(4,R.any)],[],0,19⟩))) :=
 fun v_School v_Code s t7 t8=>by
  revert t8;exact q89 quy qr2 (fun e=>by rcases e with _|_<;>exact⟨_,rfl,fun h=>by cases h⟩) fun x=>by
   have:=qAh;have:=@qij.eq_1;have:=@qA.eq_1;exact gA
noncomputable def qT (s:List qc) (v:qc):Option Int:=Option.bind (qq (qA v s ((s.length:Nat):Int)) 0) fun(a:Sum Int Unit)=>Sum.elim (fun(a2:Int)=>some a2) (fun(a3:Unit)=>some (-1)) a
theorem Jv:∀(s:List qc) (v_School:Int) (v_Code:ByteArray),ev 67 0 [rL 2 qe s,R.agg [dI v_School,dS v_Code]] []=(qT s (qc.mk v_School v_Code)).bind (fun(e:Int)=>some (rI e,[])) :=
 fun s v_School v_Code=>by
  rw[qt qw2 qA0.2.2.2 qzr]
  have:=qAh;have:=@Ja;have:=@qT.eq_1;exact gA
noncomputable def qJ (s:List qc) (v:qc):Option Bool:=Option.bind (qT s v) fun(a:Int)=>some (decide (0≤a))
theorem J8:∀(s:List qc) (v_School:Int) (v_Code:ByteArray),ev 37 0 [rL 2 qe s,R.agg [dI v_School,dS v_Code]] []=(qJ s (qc.mk v_School v_Code)).bind (fun(e:Bool)=>some (rB e,[])) :=
 fun s v_School v_Code=>by
  rw[qt qyW qA3.2.2.2 qEh]
  have:=qCg;have:=@Jv;have:=@qJ.eq_1;exact gA
theorem qDI:okL 38 qgF:=qu (qh qyr) (by kernel_rfl) (by kernel_rfl)
def qCk:=JA_ @qgF.eq_1 (JA_ @Tryz.f38.eq_1 @qyr)
theorem qBD:okL 68 qg4:=qu (qh qwd) (by kernel_rfl) (by kernel_rfl)
def qCz:=JA_ @qg4.eq_1 (JA_ @Tryz.f68.eq_1 @qwd)
theorem qAn:okL 88 qe6:=qu (qh qvo) (by kernel_rfl) (by kernel_rfl)
def qAA:=JA_ @qe6.eq_1 (JA_ @Tryz.f88.eq_1 @qvo)
theorem qqJ:lbO 88 2=qjr:=zf (qh qvo) rfl
theorem qtT:okL 88 qjr:=qH qAn (List.mem_of_getElem? (i:=0) (by kernel_rfl))
theorem qBL:okL 89 qh2:=qu (qh qzf) (by kernel_rfl) (by kernel_rfl)
def qDu:=JA_ @qh2.eq_1 (JA_ @Tryz.f89.eq_1 @qzf)
noncomputable def J3 (n:Int) (a:Int) (b:Int):Option Int :=
 some (max (min a b) (min n (max a b)))
noncomputable def zn (n:Int) (a:Int) (b:Int):Int :=
 max (min a b) (min n (max a b))
theorem q3e (n a b:Int):J3 n a b=some (zn n a b):=by
 unfold J3 zn
 simp only[zG]
theorem Je:∀(n a b:Int),ev 89 0 [rI n,rI a,rI b] []=some (rI (zn n a b),[]) :=
 fun n a b=>by
  have h:ev 89 0 [rI n,rI a,rI b] []=(J3 n a b).bind (fun(e:Int)=>some (rI e,[])):=by
   rw[qt qzf qzG.2.2.2 qBL]
   have:=qDu;have:=@J3.eq_1;exact gA
  rw[q3e] at h
  exact h
noncomputable def Z7 (w1:List Int) (s:qf) (t10:Int):Int→Option (Int⊕(Unit⊕Unit))|t11=>if t11<t10 then if 0≤t11∧t11<((w1.length:Nat):Int) then Option.bind w1[Int.toNat t11]? fun(a:Int)=>if(zn a (-1000) 1000 != a)=Bool.true then some (Sum.inr (Sum.inl ())) else some (Sum.inl (w64 (t11+1))) else none else some (Sum.inr (Sum.inr ()))
theorem q5v:∀(w1:List Int) (s_Worst s_Best s_Pass t10 t11:Int) (w1_len:Nat),w1_len=w1.length→XL2 evo 88 0 2 ⟨[(1,rP 0),(9,rO 1 1 w1_len),(10,rI t10),(11,rI t11)],[(0,B.blk 32 [dI s_Worst,dI s_Best,dI s_Pass]),(1,bR 3 1 eI w1)],2,37⟩=(qq (Z7 w1 (qf.mk s_Worst s_Best s_Pass) t10) t11).bind (Sum.elim (fun(e:Unit)=>some (Go.Exit.ret,⟨[(1,rP 0),(2,rI 10)],[(0,B.blk 32 [dI s_Worst,dI s_Best,dI s_Pass])],1,37⟩)) (fun(e:Unit)=>some (Go.Exit.exit 0,⟨[(1,rP 0),(2,R.any)],[(0,B.blk 32 [dI s_Worst,dI s_Best,dI s_Pass])],1,37⟩))) :=
 by
 intro w1 s_Worst s_Best s_Pass t10 t11 w1_len h0
 subst h0
 revert t11;exact q89 qqJ qtT (fun e=>by rcases e with _|_<;>exact⟨_,rfl,fun h=>by cases h⟩) fun x=>by
  have:=qAA;have:=@qjr.eq_1;have:=@Je;have:=@Z7.eq_1;exact gA
theorem q3C:∀(w10 w11 s_Worst s_Best s_Pass t10 t11:Int),XL2 evo 88 0 2 ⟨[(1,rP 0),(9,rO 1 1 2),(10,rI t10),(11,rI t11)],[(0,B.blk 32 [dI s_Worst,dI s_Best,dI s_Pass]),(1,B.row 3 1 [dI w10,dI w11])],2,37⟩=(qq (Z7 [w10,w11] (qf.mk s_Worst s_Best s_Pass) t10) t11).bind (Sum.elim (fun(e:Unit)=>some (Go.Exit.ret,⟨[(1,rP 0),(2,rI 10)],[(0,B.blk 32 [dI s_Worst,dI s_Best,dI s_Pass])],1,37⟩)) (fun(e:Unit)=>some (Go.Exit.exit 0,⟨[(1,rP 0),(2,R.any)],[(0,B.blk 32 [dI s_Worst,dI s_Best,dI s_Pass])],1,37⟩))):=by
 intro w10 w11 s_Worst s_Best s_Pass t10 t11;have h:=q5v [w10,w11] ((qf.mk s_Worst s_Best s_Pass)).Worst ((qf.mk s_Worst s_Best s_Pass)).Best ((qf.mk s_Worst s_Best s_Pass)).Pass t10 t11 _ rfl
 first
  | exact h
  | (simp only[rL,dL,bR,bZ,Nat.reduceAdd] at h;exact h)
noncomputable def q0q (s:qf):Option Int:=Option.bind (qq (Z7 [s.Worst,s.Best] s 2) 0) fun(a:Sum Unit Unit)=>Sum.elim (fun(a2:Unit)=>some 10) (fun(a3:Unit)=>if(s.Worst==s.Best)=Bool.true then some 10 else if(zn s.Pass s.Worst s.Best != s.Pass)=Bool.true then some 10 else some 0) a
theorem q8q:∀(s_Worst s_Best s_Pass:Int),ev 88 0 [R.agg [dI s_Worst,dI s_Best,dI s_Pass]] []=(q0q (qf.mk s_Worst s_Best s_Pass)).bind (fun(e:Int)=>some (rI e,[])) :=
 fun s_Worst s_Best s_Pass=>by
  rw[qt qvo qzJ.2.2.2 qAn]
  have:=qAA;have:=@q3C;have:=@Je;have:=@q0q.eq_1;exact gA
noncomputable def q0o (s:qf) (g:Int):Option Bool:=Option.bind (q0q s) fun(a:Int)=>if(a==0)=Bool.true then some (zn g s.Worst s.Best==g) else some Bool.false
theorem q7W:∀(s_Worst s_Best s_Pass g:Int),ev 68 0 [R.agg [dI s_Worst,dI s_Best,dI s_Pass],rI g] []=(q0o (qf.mk s_Worst s_Best s_Pass) g).bind (fun(e:Bool)=>some (rB e,[])) :=
 fun s_Worst s_Best s_Pass g=>by
  rw[qt qwd qAw.2.2.2 qBD]
  have:=qCz;have:=@q8q;have:=@Je;have:=@q0o.eq_1;exact gA
noncomputable def JC (s:qf) (g:Int) (min:Int):Option Bool:=Option.bind (q0o s g) fun(a:Bool)=>if a=Bool.true then if(g==min)=Bool.true then some Bool.true else some (decide (min<g)==decide (s.Worst<s.Best)) else some Bool.false
theorem q5Q:∀(s_Worst s_Best s_Pass g min:Int),ev 38 0 [R.agg [dI s_Worst,dI s_Best,dI s_Pass],rI g,rI min] []=(JC (qf.mk s_Worst s_Best s_Pass) g min).bind (fun(e:Bool)=>some (rB e,[])) :=
 fun s_Worst s_Best s_Pass g min=>by
  rw[qt qyr qzP.2.2.2 qDI]
  have:=qCk;have:=@q7W;have:=@JC.eq_1;exact gA
noncomputable def Zn (n:qb) (s:qf) (a:qa):Option Bool:=if ZG n=Bool.true then Option.bind (qJ n.Set a.Course) fun(a2:Bool)=>if a2=Bool.true then Option.bind (JC s a.Grade n.Min) fun(e0:Bool)=>some e0 else some Bool.false else some Bool.false
theorem q3c:∀(n_Kind n_N n_Min:Int) (n_Set:List qc) (n_L:List qb) (s_Worst s_Best s_Pass a_Course_School:Int) (a_Course_Code:ByteArray) (a_Credits a_Grade a_Day:Int) (a_Sources:List Int) (a_Bundle:Int) (a_Path:List Int),ev 15 0 [R.agg [dI n_Kind,dI n_N,dI n_Min,dL 2 qe n_Set,dL 5 qg n_L],R.agg [dI s_Worst,dI s_Best,dI s_Pass],R.agg [dI a_Course_School,dS a_Course_Code,dI a_Credits,dI a_Grade,dI a_Day,dL 1 eI a_Sources,dI a_Bundle,dL 1 eI a_Path]] []=(Zn (qb.mk n_Kind n_N n_Min n_Set n_L) (qf.mk s_Worst s_Best s_Pass) (qa.mk (qc.mk a_Course_School a_Course_Code) a_Credits a_Grade a_Day a_Sources a_Bundle a_Path)).bind (fun(e:Bool)=>some (rB e,[])) :=
 fun n_Kind n_N n_Min n_Set n_L s_Worst s_Best s_Pass a_Course_School a_Course_Code a_Credits a_Grade a_Day a_Sources a_Bundle a_Path=>by
  rw[qt qxo qzF.2.2.2 qBI]
  have:=qCI;have:=@q1h;have:=@J8;have:=@q5Q;have:=@Zn.eq_1;exact gA
theorem q7P:∀(n_Kind n_N n_Min n_Set0_School:Int) (n_Set0_Code:ByteArray) (a_Course_School:Int) (a_Course_Code:ByteArray) (a_Credits a_Grade a_Day a_Bundle s_Worst s_Best s_Pass:Int),ev 15 0 [R.agg [dI n_Kind,dI n_N,dI n_Min,C.d (D.sl 2 1 [D.int .i64 n_Set0_School,D.str n_Set0_Code]),C.d (D.sl 5 0 [])],R.agg [dI s_Worst,dI s_Best,dI s_Pass],R.agg [dI a_Course_School,dS a_Course_Code,dI a_Credits,dI a_Grade,dI a_Day,C.d (D.sl 1 0 []),dI a_Bundle,C.d (D.sl 1 0 [])]] []=(Zn (qb.mk n_Kind n_N n_Min [(qc.mk n_Set0_School n_Set0_Code)] []) (qf.mk s_Worst s_Best s_Pass) (qa.mk (qc.mk a_Course_School a_Course_Code) a_Credits a_Grade a_Day [] a_Bundle [])).bind (fun(e:Bool)=>some (rB e,[])):=by
 intro n_Kind n_N n_Min n_Set0_School n_Set0_Code a_Course_School a_Course_Code a_Credits a_Grade a_Day a_Bundle s_Worst s_Best s_Pass;have h:=q3c ((qb.mk n_Kind n_N n_Min [(qc.mk n_Set0_School n_Set0_Code)] [])).Kind ((qb.mk n_Kind n_N n_Min [(qc.mk n_Set0_School n_Set0_Code)] [])).N ((qb.mk n_Kind n_N n_Min [(qc.mk n_Set0_School n_Set0_Code)] [])).Min ((qb.mk n_Kind n_N n_Min [(qc.mk n_Set0_School n_Set0_Code)] [])).Set ((qb.mk n_Kind n_N n_Min [(qc.mk n_Set0_School n_Set0_Code)] [])).L ((qf.mk s_Worst s_Best s_Pass)).Worst ((qf.mk s_Worst s_Best s_Pass)).Best ((qf.mk s_Worst s_Best s_Pass)).Pass ((qa.mk (qc.mk a_Course_School a_Course_Code) a_Credits a_Grade a_Day [] a_Bundle [])).Course.School ((qa.mk (qc.mk a_Course_School a_Course_Code) a_Credits a_Grade a_Day [] a_Bundle [])).Course.Code ((qa.mk (qc.mk a_Course_School a_Course_Code) a_Credits a_Grade a_Day [] a_Bundle [])).Credits ((qa.mk (qc.mk a_Course_School a_Course_Code) a_Credits a_Grade a_Day [] a_Bundle [])).Grade ((qa.mk (qc.mk a_Course_School a_Course_Code) a_Credits a_Grade a_Day [] a_Bundle [])).Day ((qa.mk (qc.mk a_Course_School a_Course_Code) a_Credits a_Grade a_Day [] a_Bundle [])).Sources ((qa.mk (qc.mk a_Course_School a_Course_Code) a_Credits a_Grade a_Day [] a_Bundle [])).Bundle ((qa.mk (qc.mk a_Course_School a_Course_Code) a_Credits a_Grade a_Day [] a_Bundle [])).Path
 first
  | exact h
  | (simp only[rL,dL,bR,bZ,Nat.reduceAdd] at h;exact h)
noncomputable def ZI (b0:Int) (n:qb) (s:qf) (b3:qn) (t13:List qa) (t14:Int):(qn×Int)→Option ((qn×Int)⊕qn)|(out,t15)=>if t15<t14 then if 0≤t15∧t15<((t13.length:Nat):Int) then Option.bind t13[Int.toNat t15]? fun(a:qa)=>Option.bind (Ju t15 b0) fun(a2:Bool)=>if a2=Bool.true then if out.fine=Bool.true then Option.bind (Zn n s a) fun(a3:Bool)=>some (Sum.inl (qn.mk (w64 (out.many+1)) (w64 (out.credits+a.Credits)) a3,w64 (t15+1))) else some (Sum.inl (qn.mk (w64 (out.many+1)) (w64 (out.credits+a.Credits)) Bool.false,w64 (t15+1))) else some (Sum.inl (out,w64 (t15+1))) else none else some (Sum.inr out)
theorem q7x:∀(b0 n_Kind n_N n_Min:Int) (n_Set:List qc) (n_L:List qb) (s_Worst s_Best s_Pass b3_many b3_credits:Int) (b3_fine:Bool) (out_many out_credits:Int) (out_fine:Bool) (t13:List qa) (t14 t15:Int),XL2 evo 48 1 3 ⟨[(3,R.c (C.fn 59 [] [dP 0])),(4,rP 1),(5,rP 2),(8,rP 3),(9,rP 4),(13,rL 8 qd t13),(14,rI t14),(15,rI t15)],[(0,B.blk 3 [dI b0]),(1,B.blk 30 [dI n_Kind,dI n_N,dI n_Min,dL 2 qe n_Set,dL 5 qg n_L]),(2,B.blk 32 [dI s_Worst,dI s_Best,dI s_Pass]),(3,B.blk 91 [dI b3_many,dI b3_credits,dB b3_fine]),(4,B.blk 91 [dI out_many,dI out_credits,dB out_fine])],5,44⟩=(qq (ZI b0 (qb.mk n_Kind n_N n_Min n_Set n_L) (qf.mk s_Worst s_Best s_Pass) (qn.mk b3_many b3_credits b3_fine) t13 t14) ((qn.mk out_many out_credits out_fine),t15)).bind (fun(e:qn)=>some (Go.Exit.exit 0,⟨[(8,rP 1),(9,rP 2)],[(0,B.blk 3 [dI b0]),(1,B.blk 91 [dI b3_many,dI b3_credits,dB b3_fine]),(2,B.blk 91 [dI e.many,dI e.credits,dB e.fine])],3,44⟩)) :=
 fun b0 n_Kind n_N n_Min n_Set n_L s_Worst s_Best s_Pass b3_many b3_credits b3_fine out_many out_credits out_fine t13 t14 t15=>by
  have h:=q1A (E:=evo) (f:=48) (k:=1) (st:=fun x:qn×Int=>(⟨[(3,R.c (C.fn 59 [] [dP 0])),(4,rP 1),(5,rP 2),(8,rP 3),(9,rP 4),(13,rL 8 qd t13),(14,rI t14),(15,rI x.2)],[(0,B.blk 3 [dI b0]),(1,B.blk 30 [dI n_Kind,dI n_N,dI n_Min,dL 2 qe n_Set,dL 5 qg n_L]),(2,B.blk 32 [dI s_Worst,dI s_Best,dI s_Pass]),(3,B.blk 91 [dI b3_many,dI b3_credits,dB b3_fine]),(4,B.blk 91 [dI x.1.many,dI x.1.credits,dB x.1.fine])],5,44⟩:S)) (ex:=fun(e:qn)=>(Go.Exit.exit 0,⟨[(8,rP 1),(9,rP 2)],[(0,B.blk 3 [dI b0]),(1,B.blk 91 [dI b3_many,dI b3_credits,dB b3_fine]),(2,B.blk 91 [dI e.many,dI e.credits,dB e.fine])],3,44⟩)) (step:=(ZI b0 (qb.mk n_Kind n_N n_Min n_Set n_L) (qf.mk s_Worst s_Best s_Pass) (qn.mk b3_many b3_credits b3_fine) t13 t14)) qmY qmZ (fun e h=>by cases h) (fun x=>by
   obtain⟨out,t15⟩:=x;have:=qvC;have:=@qf4.eq_1;have:=@q6l;have:=@q3c;have:=@ZI.eq_1;exact gA) ((qn.mk out_many out_credits out_fine),t15)
  exact h
noncomputable def JB (n:qb) (s:qf) (l:List qa) (b0:Int):Option qn:=Option.bind (qq (ZI b0 n s (qn.mk 0 0 Bool.false) l ((l.length:Nat):Int)) (qn.mk 0 0 Bool.true,0)) fun(a:qn)=>some a
theorem q0Q:∀(n_Kind n_N n_Min:Int) (n_Set:List qc) (n_L:List qb) (s_Worst s_Best s_Pass:Int) (l:List qa) (b0:Int),ev 48 1 [R.agg [dI n_Kind,dI n_N,dI n_Min,dL 2 qe n_Set,dL 5 qg n_L],R.agg [dI s_Worst,dI s_Best,dI s_Pass],rL 8 qd l,R.c (C.fn 59 [] [dP 0])] [(0,B.blk 3 [dI b0])]=(JB (qb.mk n_Kind n_N n_Min n_Set n_L) (qf.mk s_Worst s_Best s_Pass) l b0).bind (fun(e:qn)=>some (R.agg [dI e.many,dI e.credits,dB e.fine],[(0,B.blk 3 [dI b0])])) :=
 fun n_Kind n_N n_Min n_Set n_L s_Worst s_Best s_Pass l b0=>by
  rw[qt qrv qwR.2.2.2 qz4]
  have:=qvC;have:=@q7x;have:=@JB.eq_1;exact gA
theorem qDi:okL 73 qi8:=qu (qh qyC) (by kernel_rfl) (by kernel_rfl)
def qDG:=JA_ @qi8.eq_1 (JA_ @Tryz.f73.eq_1 @qyC)
noncomputable def JK (x:qn) (x1:qb):Option Bool:=if x.fine=Bool.true then some (x.many==1) else some Bool.false
noncomputable def qO (x:qn) (x1:qb):Bool:=if x.fine=Bool.true then x.many==1 else Bool.false
theorem q4p (x:qn) (x1:qb):JK x x1=some (qO x x1):=by
 unfold JK qO
 simp only[zG]
theorem JS:∀(x_many x_credits:Int) (x_fine:Bool) (x1_Kind x1_N x1_Min:Int) (x1_Set:List qc) (x1_L:List qb),ev 73 0 [R.agg [dI x_many,dI x_credits,dB x_fine],R.agg [dI x1_Kind,dI x1_N,dI x1_Min,dL 2 qe x1_Set,dL 5 qg x1_L]] []=some (rB (qO (qn.mk x_many x_credits x_fine) (qb.mk x1_Kind x1_N x1_Min x1_Set x1_L)),[]) :=
 fun x_many x_credits x_fine x1_Kind x1_N x1_Min x1_Set x1_L=>by
  have h:ev 73 0 [R.agg [dI x_many,dI x_credits,dB x_fine],R.agg [dI x1_Kind,dI x1_N,dI x1_Min,dL 2 qe x1_Set,dL 5 qg x1_L]] []=(JK (qn.mk x_many x_credits x_fine) (qb.mk x1_Kind x1_N x1_Min x1_Set x1_L)).bind (fun(e:Bool)=>some (rB e,[])):=by
   rw[qt qyC qzE.2.2.2 qDi]
   have:=qDG;have:=@JK.eq_1;exact gA
  rw[q4p] at h
  exact h
theorem qCa:okL 74 qjF:=qu (qh qwU) (by kernel_rfl) (by kernel_rfl)
def qC6:=JA_ @qjF.eq_1 (JA_ @Tryz.f74.eq_1 @qwU)
noncomputable def q0T (x:qn) (n:qb):Option Bool:=if x.fine=Bool.true then if 0<x.many then some (decide (n.N≤x.credits)) else some Bool.false else some Bool.false
noncomputable def zg (x:qn) (n:qb):Bool:=if x.fine=Bool.true then if 0<x.many then decide (n.N≤x.credits) else Bool.false else Bool.false
theorem q6g (x:qn) (n:qb):q0T x n=some (zg x n):=by
 unfold q0T zg
 simp only[zG]
theorem q0G:∀(x_many x_credits:Int) (x_fine:Bool) (n_Kind n_N n_Min:Int) (n_Set:List qc) (n_L:List qb),ev 74 0 [R.agg [dI x_many,dI x_credits,dB x_fine],R.agg [dI n_Kind,dI n_N,dI n_Min,dL 2 qe n_Set,dL 5 qg n_L]] []=some (rB (zg (qn.mk x_many x_credits x_fine) (qb.mk n_Kind n_N n_Min n_Set n_L)),[]) :=
 fun x_many x_credits x_fine n_Kind n_N n_Min n_Set n_L=>by
  have h:ev 74 0 [R.agg [dI x_many,dI x_credits,dB x_fine],R.agg [dI n_Kind,dI n_N,dI n_Min,dL 2 qe n_Set,dL 5 qg n_L]] []=(q0T (qn.mk x_many x_credits x_fine) (qb.mk n_Kind n_N n_Min n_Set n_L)).bind (fun(e:Bool)=>some (rB e,[])):=by
   rw[qt qwU qAE.2.2.2 qCa]
   have:=qC6;have:=@q0T.eq_1;exact gA
  rw[q6g] at h
  exact h
noncomputable def qB (x:(qb×List qa×Int×qf)):List R×List (Nat×B):=([R.agg [C.d (D.int .i64 x.1.Kind),C.d (D.int .i64 x.1.N),C.d (D.int .i64 x.1.Min),C.d (D.sl 2 x.1.Set.length (x.1.Set.flatMap qe)),C.d (D.sl 5 x.1.L.length (x.1.L.flatMap qg))],R.c (C.ptr 0 0),R.c (C.ptr 1 0),R.c (C.ptr 2 0),R.c (C.ptr 3 0),R.c (C.ptr 4 0),R.c (C.ptr 5 0)],[(0,B.blk 33 [C.d (D.sl 8 x.2.1.length (x.2.1.flatMap qd))]),(1,B.blk 76 [C.fn 31 [] []]),(2,B.blk 3 [C.d (D.int .i64 x.2.2.1)]),(3,B.blk 32 [C.d (D.int .i64 x.2.2.2.Worst),C.d (D.int .i64 x.2.2.2.Best),C.d (D.int .i64 x.2.2.2.Pass)]),(4,B.blk 118 [C.fn 58 [] [C.ptr 0 0,C.ptr 1 0,C.ptr 2 0,C.ptr 3 0,C.ptr 4 0,C.ptr 5 0]]),(5,B.blk 76 [C.fn 32 [] []])])
noncomputable def zh:(List Bool×List qa×Int×qf)→R×List (Nat×B):=fun(e:List Bool×List qa×Int×qf)=>(R.c (C.d (D.sl 1 e.1.length (e.1.flatMap eB))),[(0,B.blk 33 [C.d (D.sl 8 e.2.1.length (e.2.1.flatMap qd))]),(1,B.blk 76 [C.fn 31 [] []]),(2,B.blk 3 [C.d (D.int .i64 e.2.2.1)]),(3,B.blk 32 [C.d (D.int .i64 e.2.2.2.Worst),C.d (D.int .i64 e.2.2.2.Best),C.d (D.int .i64 e.2.2.2.Pass)]),(4,B.blk 118 [C.fn 58 [] [C.ptr 0 0,C.ptr 1 0,C.ptr 2 0,C.ptr 3 0,C.ptr 4 0,C.ptr 5 0]]),(5,B.blk 76 [C.fn 32 [] []])])
noncomputable def Z2 (rF:(qb×List qa×Int×qf)→Option (List Bool×List qa×Int×qf)) (b0:List qa) (b2:Int) (b3:qf) (b6:qb):(List Bool×Int)→Option ((List Bool×Int)⊕(List Bool))|(w7,b8)=>if b8<((w7.length:Nat):Int) then Option.bind (JB b6 b3 b0 b8) fun(a2:qn)=>if 0≤b8∧b8<((w7.length:Nat):Int) then if Int.toNat b8+1≤w7.length then some (Sum.inl (List.set w7 (Int.toNat b8) (qO a2 b6),w64 (b8+1))) else none else none else some (Sum.inr w7)
theorem q4u (rE:Orc) (rF:(qb×List qa×Int×qf)→Option (List Bool×List qa×Int×qf)) (hF:∀y,rE (.fn 58) 6 (qB y).1 (qB y).2=(rF y).bind fun e=>some (zh e)) (hM:∀g k a G,g≠58→rE (.fn g) k a G=ev g k a G) (hR:∀g asg bd k a G,rE (.rd g asg bd) k a G=evr g asg bd k a G):∀(w7:List Bool) (b0:List qa) (b2 b3_Worst b3_Best b3_Pass b6_Kind b6_N b6_Min:Int) (b6_Set:List qc) (b6_L:List qb) (b8:Int) (w7_len:Nat),w7_len=w7.length→XL2 rE 58 6 5 ⟨[(1,rP 0),(2,rP 1),(3,rP 2),(4,rP 3),(7,rP 6),(9,rO 7 1 w7_len),(10,R.c (C.fn 73 [] [])),(11,rP 8)],[(0,B.blk 33 [dL 8 qd b0]),(1,B.blk 76 [C.fn 31 [] []]),(2,B.blk 3 [dI b2]),(3,B.blk 32 [dI b3_Worst,dI b3_Best,dI b3_Pass]),(4,B.blk 118 [C.fn 58 [] [dP 0,dP 1,dP 2,dP 3,dP 4,dP 5]]),(5,B.blk 76 [C.fn 32 [] []]),(6,B.blk 30 [dI b6_Kind,dI b6_N,dI b6_Min,dL 2 qe b6_Set,dL 5 qg b6_L]),(7,bR 4 1 eB w7),(8,B.blk 3 [dI b8])],9,142⟩=(qq (Z2 rF b0 b2 (qf.mk b3_Worst b3_Best b3_Pass) (qb.mk b6_Kind b6_N b6_Min b6_Set b6_L)) (w7,b8)).bind (fun(e:List Bool)=>some (Go.Exit.exit 0,⟨[(3,rP 2),(9,rO 6 1 e.length)],[(0,B.blk 33 [dL 8 qd b0]),(1,B.blk 76 [C.fn 31 [] []]),(2,B.blk 3 [dI b2]),(3,B.blk 32 [dI b3_Worst,dI b3_Best,dI b3_Pass]),(4,B.blk 118 [C.fn 58 [] [dP 0,dP 1,dP 2,dP 3,dP 4,dP 5]]),(5,B.blk 76 [C.fn 32 [] []]),(6,bR 4 1 eB e)],7,142⟩)) :=
 by
 intro w7 b0 b2 b3_Worst b3_Best b3_Pass b6_Kind b6_N b6_Min b6_Set b6_L b8 w7_len h0
 subst h0
 revert b8;revert w7;exact q3v qer qf0 (fun e=>by exact⟨_,rfl,fun h=>by cases h⟩) fun w7 b8=>by
  have hF':∀(x0_Kind x0_N x0_Min:Int) (x0_Set:List qc) (x0_L:List qb) (v:List qa) (v2 v3_Worst v3_Best v3_Pass:Int),rE (.fn 58) 6 [R.agg [dI x0_Kind,dI x0_N,dI x0_Min,dL 2 qe x0_Set,dL 5 qg x0_L],rP 0,rP 1,rP 2,rP 3,rP 4,rP 5] [(0,B.blk 33 [dL 8 qd v]),(1,B.blk 76 [C.fn 31 [] []]),(2,B.blk 3 [dI v2]),(3,B.blk 32 [dI v3_Worst,dI v3_Best,dI v3_Pass]),(4,B.blk 118 [C.fn 58 [] [dP 0,dP 1,dP 2,dP 3,dP 4,dP 5]]),(5,B.blk 76 [C.fn 32 [] []])]=(rF ((qb.mk x0_Kind x0_N x0_Min x0_Set x0_L),v,v2,(qf.mk v3_Worst v3_Best v3_Pass))).bind (fun e=>some (rL 1 eB e.1,[(0,B.blk 33 [dL 8 qd e.2.1]),(1,B.blk 76 [C.fn 31 [] []]),(2,B.blk 3 [dI e.2.2.1]),(3,B.blk 32 [dI e.2.2.2.Worst,dI e.2.2.2.Best,dI e.2.2.2.Pass]),(4,B.blk 118 [C.fn 58 [] [dP 0,dP 1,dP 2,dP 3,dP 4,dP 5]]),(5,B.blk 76 [C.fn 32 [] []])])):=fun x0_Kind x0_N x0_Min x0_Set x0_L v v2 v3_Worst v3_Best v3_Pass=>hF ((qb.mk x0_Kind x0_N x0_Min x0_Set x0_L),v,v2,(qf.mk v3_Worst v3_Best v3_Pass))
  have:=qfb;have:=@qam.eq_1;have:=@q40;have:=@q0Q;have:=@JS;have:=@Z2.eq_1;exact gA
noncomputable def Z3 (rF:(qb×List qa×Int×qf)→Option (List Bool×List qa×Int×qf)) (b0:List qa) (b2:Int) (b3:qf) (b6:qb):(List Bool×Int)→Option ((List Bool×Int)⊕(List Bool))|(w7,b8)=>if b8<((w7.length:Nat):Int) then Option.bind (JB b6 b3 b0 b8) fun(a2:qn)=>if 0≤b8∧b8<((w7.length:Nat):Int) then if Int.toNat b8+1≤w7.length then some (Sum.inl (List.set w7 (Int.toNat b8) (zg a2 b6),w64 (b8+1))) else none else none else some (Sum.inr w7)
theorem q3N (rE:Orc) (rF:(qb×List qa×Int×qf)→Option (List Bool×List qa×Int×qf)) (hF:∀y,rE (.fn 58) 6 (qB y).1 (qB y).2=(rF y).bind fun e=>some (zh e)) (hM:∀g k a G,g≠58→rE (.fn g) k a G=ev g k a G) (hR:∀g asg bd k a G,rE (.rd g asg bd) k a G=evr g asg bd k a G):∀(w7:List Bool) (b0:List qa) (b2 b3_Worst b3_Best b3_Pass b6_Kind b6_N b6_Min:Int) (b6_Set:List qc) (b6_L:List qb) (b8:Int) (w7_len:Nat),w7_len=w7.length→XL2 rE 58 6 5 ⟨[(1,rP 0),(2,rP 1),(3,rP 2),(4,rP 3),(7,rP 6),(9,rO 7 1 w7_len),(10,R.c (C.fn 74 [] [])),(11,rP 8)],[(0,B.blk 33 [dL 8 qd b0]),(1,B.blk 76 [C.fn 31 [] []]),(2,B.blk 3 [dI b2]),(3,B.blk 32 [dI b3_Worst,dI b3_Best,dI b3_Pass]),(4,B.blk 118 [C.fn 58 [] [dP 0,dP 1,dP 2,dP 3,dP 4,dP 5]]),(5,B.blk 76 [C.fn 32 [] []]),(6,B.blk 30 [dI b6_Kind,dI b6_N,dI b6_Min,dL 2 qe b6_Set,dL 5 qg b6_L]),(7,bR 4 1 eB w7),(8,B.blk 3 [dI b8])],9,142⟩=(qq (Z3 rF b0 b2 (qf.mk b3_Worst b3_Best b3_Pass) (qb.mk b6_Kind b6_N b6_Min b6_Set b6_L)) (w7,b8)).bind (fun(e:List Bool)=>some (Go.Exit.exit 0,⟨[(3,rP 2),(9,rO 6 1 e.length)],[(0,B.blk 33 [dL 8 qd b0]),(1,B.blk 76 [C.fn 31 [] []]),(2,B.blk 3 [dI b2]),(3,B.blk 32 [dI b3_Worst,dI b3_Best,dI b3_Pass]),(4,B.blk 118 [C.fn 58 [] [dP 0,dP 1,dP 2,dP 3,dP 4,dP 5]]),(5,B.blk 76 [C.fn 32 [] []]),(6,bR 4 1 eB e)],7,142⟩)) :=
 by
 intro w7 b0 b2 b3_Worst b3_Best b3_Pass b6_Kind b6_N b6_Min b6_Set b6_L b8 w7_len h0
 subst h0
 revert b8;revert w7;exact q3v qer qf0 (fun e=>by exact⟨_,rfl,fun h=>by cases h⟩) fun w7 b8=>by
  have hF':∀(x0_Kind x0_N x0_Min:Int) (x0_Set:List qc) (x0_L:List qb) (v:List qa) (v2 v3_Worst v3_Best v3_Pass:Int),rE (.fn 58) 6 [R.agg [dI x0_Kind,dI x0_N,dI x0_Min,dL 2 qe x0_Set,dL 5 qg x0_L],rP 0,rP 1,rP 2,rP 3,rP 4,rP 5] [(0,B.blk 33 [dL 8 qd v]),(1,B.blk 76 [C.fn 31 [] []]),(2,B.blk 3 [dI v2]),(3,B.blk 32 [dI v3_Worst,dI v3_Best,dI v3_Pass]),(4,B.blk 118 [C.fn 58 [] [dP 0,dP 1,dP 2,dP 3,dP 4,dP 5]]),(5,B.blk 76 [C.fn 32 [] []])]=(rF ((qb.mk x0_Kind x0_N x0_Min x0_Set x0_L),v,v2,(qf.mk v3_Worst v3_Best v3_Pass))).bind (fun e=>some (rL 1 eB e.1,[(0,B.blk 33 [dL 8 qd e.2.1]),(1,B.blk 76 [C.fn 31 [] []]),(2,B.blk 3 [dI e.2.2.1]),(3,B.blk 32 [dI e.2.2.2.Worst,dI e.2.2.2.Best,dI e.2.2.2.Pass]),(4,B.blk 118 [C.fn 58 [] [dP 0,dP 1,dP 2,dP 3,dP 4,dP 5]]),(5,B.blk 76 [C.fn 32 [] []])])):=fun x0_Kind x0_N x0_Min x0_Set x0_L v v2 v3_Worst v3_Best v3_Pass=>hF ((qb.mk x0_Kind x0_N x0_Min x0_Set x0_L),v,v2,(qf.mk v3_Worst v3_Best v3_Pass))
  have:=qfb;have:=@qam.eq_1;have:=@q40;have:=@q0Q;have:=@q0G;have:=@Z3.eq_1;exact gA
noncomputable def Qb (rF:(qb×List qa×Int×qf)→Option (List Bool×List qa×Int×qf)) (w7:List Bool) (b0:List qa) (b2:Int) (b3:qf) (b6:qb):(List Int×Int)→Option ((List Int×Int)⊕(List Int))|(w9,t13)=>if t13<((w9.length:Nat):Int) then if 0≤t13∧t13<((w9.length:Nat):Int) then if Int.toNat t13+1≤w9.length then some (Sum.inl (List.set w9 (Int.toNat t13) (-1),w64 (t13+1))) else none else none else some (Sum.inr w9)
theorem q3t (rE:Orc) (rF:(qb×List qa×Int×qf)→Option (List Bool×List qa×Int×qf)) (hF:∀y,rE (.fn 58) 6 (qB y).1 (qB y).2=(rF y).bind fun e=>some (zh e)) (hM:∀g k a G,g≠58→rE (.fn g) k a G=ev g k a G) (hR:∀g asg bd k a G,rE (.rd g asg bd) k a G=evr g asg bd k a G):∀(w7:List Bool) (w9:List Int) (b0:List qa) (b2 b3_Worst b3_Best b3_Pass b6_Kind b6_N b6_Min:Int) (b6_Set:List qc) (b6_L:List qb) (t13:Int) (w7_len w9_len:Nat),w7_len=w7.length→w9_len=w9.length→XL2 rE 58 6 14 ⟨[(3,rP 2),(5,rP 4),(6,rP 5),(7,rP 6),(9,rO 7 1 w7_len),(12,rP 8),(13,rI t13)],[(0,B.blk 33 [dL 8 qd b0]),(1,B.blk 76 [C.fn 31 [] []]),(2,B.blk 3 [dI b2]),(3,B.blk 32 [dI b3_Worst,dI b3_Best,dI b3_Pass]),(4,B.blk 118 [C.fn 58 [] [dP 0,dP 1,dP 2,dP 3,dP 4,dP 5]]),(5,B.blk 76 [C.fn 32 [] []]),(6,B.blk 30 [dI b6_Kind,dI b6_N,dI b6_Min,dL 2 qe b6_Set,dL 5 qg b6_L]),(7,bR 4 1 eB w7),(8,B.blk 119 [dO 9 1 w9_len]),(9,bR 3 1 eI w9)],10,142⟩=(qq (Qb rF w7 b0 b2 (qf.mk b3_Worst b3_Best b3_Pass) (qb.mk b6_Kind b6_N b6_Min b6_Set b6_L)) (w9,t13)).bind (fun(e:List Int)=>some (Go.Exit.exit 2,⟨[(3,rP 2),(5,rP 4),(6,rP 5),(7,rP 6),(9,rO 7 1 w7.length),(12,rP 8)],[(0,B.blk 33 [dL 8 qd b0]),(1,B.blk 76 [C.fn 31 [] []]),(2,B.blk 3 [dI b2]),(3,B.blk 32 [dI b3_Worst,dI b3_Best,dI b3_Pass]),(4,B.blk 118 [C.fn 58 [] [dP 0,dP 1,dP 2,dP 3,dP 4,dP 5]]),(5,B.blk 76 [C.fn 32 [] []]),(6,B.blk 30 [dI b6_Kind,dI b6_N,dI b6_Min,dL 2 qe b6_Set,dL 5 qg b6_L]),(7,bR 4 1 eB w7),(8,B.blk 119 [dO 9 1 e.length]),(9,bR 3 1 eI e)],10,142⟩)) :=
 by
 intro w7 w9 b0 b2 b3_Worst b3_Best b3_Pass b6_Kind b6_N b6_Min b6_Set b6_L t13 w7_len w9_len h0 h1
 subst h0 h1
 revert t13;revert w9;exact q3v qhs qgZ (fun e=>by exact⟨_,rfl,fun h=>by cases h⟩) fun w9 t13=>by
  have hF':∀(x0_Kind x0_N x0_Min:Int) (x0_Set:List qc) (x0_L:List qb) (v:List qa) (v2 v3_Worst v3_Best v3_Pass:Int),rE (.fn 58) 6 [R.agg [dI x0_Kind,dI x0_N,dI x0_Min,dL 2 qe x0_Set,dL 5 qg x0_L],rP 0,rP 1,rP 2,rP 3,rP 4,rP 5] [(0,B.blk 33 [dL 8 qd v]),(1,B.blk 76 [C.fn 31 [] []]),(2,B.blk 3 [dI v2]),(3,B.blk 32 [dI v3_Worst,dI v3_Best,dI v3_Pass]),(4,B.blk 118 [C.fn 58 [] [dP 0,dP 1,dP 2,dP 3,dP 4,dP 5]]),(5,B.blk 76 [C.fn 32 [] []])]=(rF ((qb.mk x0_Kind x0_N x0_Min x0_Set x0_L),v,v2,(qf.mk v3_Worst v3_Best v3_Pass))).bind (fun e=>some (rL 1 eB e.1,[(0,B.blk 33 [dL 8 qd e.2.1]),(1,B.blk 76 [C.fn 31 [] []]),(2,B.blk 3 [dI e.2.2.1]),(3,B.blk 32 [dI e.2.2.2.Worst,dI e.2.2.2.Best,dI e.2.2.2.Pass]),(4,B.blk 118 [C.fn 58 [] [dP 0,dP 1,dP 2,dP 3,dP 4,dP 5]]),(5,B.blk 76 [C.fn 32 [] []])])):=fun x0_Kind x0_N x0_Min x0_Set x0_L v v2 v3_Worst v3_Best v3_Pass=>hF ((qb.mk x0_Kind x0_N x0_Min x0_Set x0_L),v,v2,(qf.mk v3_Worst v3_Best v3_Pass))
  have:=qfb;have:=@qbt.eq_1;have:=@Qb.eq_1;exact gA
theorem qBu:okL 32 qgM:=qu (qh qyk) (by kernel_rfl) (by kernel_rfl)
def qDh:=JA_ @qgM.eq_1 (JA_ @Tryz.f32.eq_1 @qyk)
noncomputable def q1P (x0:Int) (x1:Int):Option Unit :=
 some ()
noncomputable def q57 (x0:Int) (x1:Int):Unit :=
 ()
theorem q8k (x0 x1:Int):q1P x0 x1=some (q57 x0 x1):=by
 unfold q1P q57
 simp only[zG]
theorem q9i:∀(x0 x1:Int),ev 32 0 [rI x0,rI x1] []=some (rB Bool.false,[]) :=
 fun x0 x1=>by
  have h:ev 32 0 [rI x0,rI x1] []=(q1P x0 x1).bind (fun(e:Unit)=>some (rB Bool.false,[])):=by
   rw[qt qyk qzh.2.2.2 qBu]
   have:=qDh;have:=@q1P.eq_1;exact gA
  rw[q8k] at h
  exact h
theorem qAd:okL 60 qeg:=qu (qh qvI) (by kernel_rfl) (by kernel_rfl)
def qAK:=JA_ @qeg.eq_1 (JA_ @Tryz.f60.eq_1 @qvI)
theorem qr0:lbO 60 1=qhG:=zf (qh qvI) rfl
theorem qsi:okL 60 qhG:=qH qAd (List.mem_of_getElem? (i:=0) (by kernel_rfl))
theorem qBX:okL 61 qhV:=qu (qh qyq) (by kernel_rfl) (by kernel_rfl)
def qCX:=JA_ @qhV.eq_1 (JA_ @Tryz.f61.eq_1 @qyq)
noncomputable def Jx (sub:Int) (rest:Int) (w4:List Int) (w5:List Int) (v:List Bool) (v2:Int):Option (List Int):=if 0≤sub∧sub<((v.length:Nat):Int) then Option.bind v[Int.toNat sub]? fun(a:Bool)=>if a=Bool.true then if 0≤rest∧rest<((w4.length:Nat):Int) then Option.bind w4[Int.toNat rest]? fun(a2:Int)=>if 0≤a2 then if 0≤v2∧v2<((w5.length:Nat):Int) then Option.bind w5[Int.toNat v2]? fun(a3:Int)=>if 0≤rest∧rest<((w4.length:Nat):Int) then Option.bind w4[Int.toNat rest]? fun(a4:Int)=>if 0≤v2∧v2<((w5.length:Nat):Int) then if Int.toNat v2+1≤w5.length then some (List.set w5 (Int.toNat v2) (max a3 (w64 (a4+1)))) else none else none else none else none else some w5 else none else some w5 else none
theorem q6m:∀(sub rest:Int) (w4 w5:List Int) (v:List Bool) (v2:Int) (w4_len w5_len:Nat),w4_len=w4.length→w5_len=w5.length→ev 61 4 [rI sub,rI rest,rP 0,rP 1,rP 2,rP 3] [(0,B.blk 77 [dL 1 eB v]),(1,B.blk 119 [dO 4 1 w4_len]),(2,B.blk 119 [dO 5 1 w5_len]),(3,B.blk 3 [dI v2]),(4,bR 3 1 eI w4),(5,bR 3 1 eI w5)]=(Jx sub rest w4 w5 v v2).bind (fun(e:List Int)=>some (R.tup [],[(0,B.blk 77 [dL 1 eB v]),(1,B.blk 119 [dO 4 1 w4.length]),(2,B.blk 119 [dO 5 1 e.length]),(3,B.blk 3 [dI v2]),(4,bR 3 1 eI w4),(5,bR 3 1 eI e)])) :=
 by
 intro sub rest w4 w5 v v2 w4_len w5_len h0 h1
 subst h0 h1
 rw[qt qyq qzm.2.2.2 qBX]
 have:=qCX;have:=@Jx.eq_1;exact gA
noncomputable def za (w4:List Int) (b0:List Bool) (b3:Int) (set0:Int):(List Int×Int)→Option ((List Int×Int)⊕(List Int))|(w5,sub)=>if 0<sub then Option.bind (Jx sub (QT Go.BinOp.andNot Go.IntKind.i64 set0 sub) w4 w5 b0 b3) fun(a:List Int)=>some (Sum.inl (a,QT Go.BinOp.and Go.IntKind.i64 (w64 (sub-1)) set0)) else some (Sum.inr w5)
theorem q1G:∀(w4 w5:List Int) (b0:List Bool) (b3 set0 sub:Int) (w4_len w5_len:Nat),w4_len=w4.length→w5_len=w5.length→XL2 evo 60 4 1 ⟨[(1,rI set0),(2,R.c (C.fn 61 [] [dP 0,dP 1,dP 2,dP 3])),(6,rI sub)],[(0,B.blk 77 [dL 1 eB b0]),(1,B.blk 119 [dO 4 1 w4_len]),(2,B.blk 119 [dO 5 1 w5_len]),(3,B.blk 3 [dI b3]),(4,bR 3 1 eI w4),(5,bR 3 1 eI w5)],6,20⟩=(qq (za w4 b0 b3 set0) (w5,sub)).bind (fun(e:List Int)=>some (Go.Exit.exit 0,⟨[],[(0,B.blk 77 [dL 1 eB b0]),(1,B.blk 119 [dO 4 1 w4.length]),(2,B.blk 119 [dO 5 1 e.length]),(3,B.blk 3 [dI b3]),(4,bR 3 1 eI w4),(5,bR 3 1 eI e)],6,20⟩)) :=
 by
 intro w4 w5 b0 b3 set0 sub w4_len w5_len h0 h1
 subst h0 h1
 revert sub;revert w5;exact q3v qr0 qsi (fun e=>by exact⟨_,rfl,fun h=>by cases h⟩) fun w5 sub=>by
  have:=qAK;have:=@qhG.eq_1;have:=@q6m;have:=@za.eq_1;exact gA
noncomputable def qX (set0:Int) (t:List Int) (w5:List Int) (b0:List Bool) (b3:Int):Option (List Int):=Option.bind (qq (za t b0 b3 set0) (w5,set0)) fun(a:List Int)=>some a
theorem q0y:∀(set0:Int) (t w5:List Int) (b0:List Bool) (b3:Int) (t_len w5_len:Nat),t_len=t.length→w5_len=w5.length→ev 60 4 [rO 4 1 t_len,rI set0,R.c (C.fn 61 [] [dP 0,dP 1,dP 2,dP 3])] [(0,B.blk 77 [dL 1 eB b0]),(1,B.blk 119 [dO 4 1 t_len]),(2,B.blk 119 [dO 5 1 w5_len]),(3,B.blk 3 [dI b3]),(4,bR 3 1 eI t),(5,bR 3 1 eI w5)]=(qX set0 t w5 b0 b3).bind (fun(e:List Int)=>some (R.tup [],[(0,B.blk 77 [dL 1 eB b0]),(1,B.blk 119 [dO 4 1 t.length]),(2,B.blk 119 [dO 5 1 e.length]),(3,B.blk 3 [dI b3]),(4,bR 3 1 eI t),(5,bR 3 1 eI e)])) :=
 by
 intro set0 t w5 b0 b3 t_len w5_len h0 h1
 subst h0 h1
 rw[qt qvI qAO.2.2.2 qAd]
 have:=qAK;have:=@q1G;have:=@qX.eq_1;exact gA
noncomputable def Qk (rF:(qb×List qa×Int×qf)→Option (List Bool×List qa×Int×qf)) (w7:List Bool) (w9:List Int) (b0:List qa) (b2:Int) (b3:qf) (b6:qb) (b10:List Bool) (t18:Bool) (t72:List qb) (t73:Int) (t74:Int) (t96:Int):(List Int×Int)→Option ((List Int×Int)⊕(List Int))|(w12,t97)=>if t97<t96 then if 0≤t97∧t97<((w12.length:Nat):Int) then if Int.toNat t97+1≤w12.length then if t18=Bool.true then if 0≤t97∧t97<((w9.length:Nat):Int) then Option.bind w9[Int.toNat t97]? fun(a2:Int)=>if 0≤t97∧t97<((w12.length:Nat):Int) then if Int.toNat t97+1≤w12.length then Option.bind (qX t97 w9 (List.set (List.set w12 (Int.toNat t97) (-1)) (Int.toNat t97) a2) b10 t97) fun(a3:List Int)=>some (Sum.inl (a3,w64 (t97+1))) else none else none else none else Option.bind (qX t97 w9 (List.set w12 (Int.toNat t97) (-1)) b10 t97) fun(a4:List Int)=>some (Sum.inl (a4,w64 (t97+1))) else none else none else some (Sum.inr w12)
theorem q4P (rE:Orc) (rF:(qb×List qa×Int×qf)→Option (List Bool×List qa×Int×qf)) (hF:∀y,rE (.fn 58) 6 (qB y).1 (qB y).2=(rF y).bind fun e=>some (zh e)) (hM:∀g k a G,g≠58→rE (.fn g) k a G=ev g k a G) (hR:∀g asg bd k a G,rE (.rd g asg bd) k a G=evr g asg bd k a G):∀(w7:List Bool) (w9 w12:List Int) (b0:List qa) (b2 b3_Worst b3_Best b3_Pass b6_Kind b6_N b6_Min:Int) (b6_Set:List qc) (b6_L:List qb) (b10:List Bool) (t18:Bool) (t72:List qb) (t73 t74 t96 t97:Int) (w7_len w9_len w12_len:Nat),w7_len=w7.length→w9_len=w9.length→w12_len=w12.length→XL2 rE 58 6 25 ⟨[(3,rP 2),(5,rP 4),(6,rP 5),(7,rP 6),(9,rO 7 1 w7_len),(12,rP 8),(17,rP 10),(18,rB t18),(19,rP 11),(72,rL 5 qg t72),(73,rI t73),(74,rI t74),(96,rI t96),(97,rI t97)],[(0,B.blk 33 [dL 8 qd b0]),(1,B.blk 76 [C.fn 31 [] []]),(2,B.blk 3 [dI b2]),(3,B.blk 32 [dI b3_Worst,dI b3_Best,dI b3_Pass]),(4,B.blk 118 [C.fn 58 [] [dP 0,dP 1,dP 2,dP 3,dP 4,dP 5]]),(5,B.blk 76 [C.fn 32 [] []]),(6,B.blk 30 [dI b6_Kind,dI b6_N,dI b6_Min,dL 2 qe b6_Set,dL 5 qg b6_L]),(7,bR 4 1 eB w7),(8,B.blk 119 [dO 9 1 w9_len]),(9,bR 3 1 eI w9),(10,B.blk 77 [dL 1 eB b10]),(11,B.blk 119 [dO 12 1 w12_len]),(12,bR 3 1 eI w12)],13,142⟩=(qq (Qk rF w7 w9 b0 b2 (qf.mk b3_Worst b3_Best b3_Pass) (qb.mk b6_Kind b6_N b6_Min b6_Set b6_L) b10 t18 t72 t73 t74 t96) (w12,t97)).bind (fun(e:List Int)=>some (Go.Exit.exit 6,⟨[(3,rP 2),(5,rP 4),(6,rP 5),(7,rP 6),(9,rO 7 1 w7.length),(12,rP 8),(19,rP 10),(72,rL 5 qg t72),(73,rI t73),(74,rI t74)],[(0,B.blk 33 [dL 8 qd b0]),(1,B.blk 76 [C.fn 31 [] []]),(2,B.blk 3 [dI b2]),(3,B.blk 32 [dI b3_Worst,dI b3_Best,dI b3_Pass]),(4,B.blk 118 [C.fn 58 [] [dP 0,dP 1,dP 2,dP 3,dP 4,dP 5]]),(5,B.blk 76 [C.fn 32 [] []]),(6,B.blk 30 [dI b6_Kind,dI b6_N,dI b6_Min,dL 2 qe b6_Set,dL 5 qg b6_L]),(7,bR 4 1 eB w7),(8,B.blk 119 [dO 9 1 w9.length]),(9,bR 3 1 eI w9),(10,B.blk 119 [dO 11 1 e.length]),(11,bR 3 1 eI e)],12,142⟩)) :=
 by
 intro w7 w9 w12 b0 b2 b3_Worst b3_Best b3_Pass b6_Kind b6_N b6_Min b6_Set b6_L b10 t18 t72 t73 t74 t96 t97 w7_len w9_len w12_len h0 h1 h2
 subst h0 h1 h2
 revert t97;revert w12;exact q3v qiO qjH (fun e=>by exact⟨_,rfl,fun h=>by cases h⟩) fun w12 t97=>by
  have hF':∀(x0_Kind x0_N x0_Min:Int) (x0_Set:List qc) (x0_L:List qb) (v:List qa) (v2 v3_Worst v3_Best v3_Pass:Int),rE (.fn 58) 6 [R.agg [dI x0_Kind,dI x0_N,dI x0_Min,dL 2 qe x0_Set,dL 5 qg x0_L],rP 0,rP 1,rP 2,rP 3,rP 4,rP 5] [(0,B.blk 33 [dL 8 qd v]),(1,B.blk 76 [C.fn 31 [] []]),(2,B.blk 3 [dI v2]),(3,B.blk 32 [dI v3_Worst,dI v3_Best,dI v3_Pass]),(4,B.blk 118 [C.fn 58 [] [dP 0,dP 1,dP 2,dP 3,dP 4,dP 5]]),(5,B.blk 76 [C.fn 32 [] []])]=(rF ((qb.mk x0_Kind x0_N x0_Min x0_Set x0_L),v,v2,(qf.mk v3_Worst v3_Best v3_Pass))).bind (fun e=>some (rL 1 eB e.1,[(0,B.blk 33 [dL 8 qd e.2.1]),(1,B.blk 76 [C.fn 31 [] []]),(2,B.blk 3 [dI e.2.2.1]),(3,B.blk 32 [dI e.2.2.2.Worst,dI e.2.2.2.Best,dI e.2.2.2.Pass]),(4,B.blk 118 [C.fn 58 [] [dP 0,dP 1,dP 2,dP 3,dP 4,dP 5]]),(5,B.blk 76 [C.fn 32 [] []])])):=fun x0_Kind x0_N x0_Min x0_Set x0_L v v2 v3_Worst v3_Best v3_Pass=>hF ((qb.mk x0_Kind x0_N x0_Min x0_Set x0_L),v,v2,(qf.mk v3_Worst v3_Best v3_Pass))
  have:=qfb;have:=@qaD.eq_1;have:=@q0y;have:=@Qk.eq_1;exact gA
noncomputable def Ql (rF:(qb×List qa×Int×qf)→Option (List Bool×List qa×Int×qf)) (w7:List Bool) (b6:qb) (t72:List qb) (t73:Int):(List Int×List qa×Int×qf×Int)→Option ((List Int×List qa×Int×qf×Int)⊕(List Int×List qa×Int×qf))|(w9,b0,b2,b3,t74)=>if t74<t73 then if 0≤t74∧t74<((t72.length:Nat):Int) then Option.bind t72[Int.toNat t74]? fun(a2:qb)=>Option.bind (rF (a2,(b0,(b2,b3)))) fun(a3:Prod (List Bool) (Prod (List qa) (Prod Int qf)))=>if(b6.Kind==4)=Bool.true then if 0≤((w9.length:Nat):Int)∧8*((w9.length:Nat):Int)≤281474976710656∧((w9.length:Nat):Int)≤9223372036854775807 then Option.bind (qq (Qk rF w7 w9 a3.2.1 a3.2.2.1 a3.2.2.2 b6 a3.1 Bool.true t72 t73 t74 ((w9.length:Nat):Int)) (List.replicate w9.length 0,0)) fun(a4:List Int)=>some (Sum.inl (a4,a3.2.1,a3.2.2.1,a3.2.2.2,w64 (t74+1))) else none else if 0≤((w9.length:Nat):Int)∧8*((w9.length:Nat):Int)≤281474976710656∧((w9.length:Nat):Int)≤9223372036854775807 then Option.bind (qq (Qk rF w7 w9 a3.2.1 a3.2.2.1 a3.2.2.2 b6 a3.1 Bool.false t72 t73 t74 ((w9.length:Nat):Int)) (List.replicate w9.length 0,0)) fun(a5:List Int)=>some (Sum.inl (a5,a3.2.1,a3.2.2.1,a3.2.2.2,w64 (t74+1))) else none else none else some (Sum.inr (w9,b0,b2,b3))
theorem q4N (rE:Orc) (rF:(qb×List qa×Int×qf)→Option (List Bool×List qa×Int×qf)) (hF:∀y,rE (.fn 58) 6 (qB y).1 (qB y).2=(rF y).bind fun e=>some (zh e)) (hM:∀g k a G,g≠58→rE (.fn g) k a G=ev g k a G) (hR:∀g asg bd k a G,rE (.rd g asg bd) k a G=evr g asg bd k a G):∀(w7:List Bool) (w9:List Int) (b0:List qa) (b2 b3_Worst b3_Best b3_Pass b6_Kind b6_N b6_Min:Int) (b6_Set:List qc) (b6_L t72:List qb) (t73 t74:Int) (w7_len w9_len:Nat),w7_len=w7.length→w9_len=w9.length→XL2 rE 58 6 18 ⟨[(3,rP 2),(5,rP 4),(6,rP 5),(7,rP 6),(9,rO 7 1 w7_len),(12,rP 8),(72,rL 5 qg t72),(73,rI t73),(74,rI t74)],[(0,B.blk 33 [dL 8 qd b0]),(1,B.blk 76 [C.fn 31 [] []]),(2,B.blk 3 [dI b2]),(3,B.blk 32 [dI b3_Worst,dI b3_Best,dI b3_Pass]),(4,B.blk 118 [C.fn 58 [] [dP 0,dP 1,dP 2,dP 3,dP 4,dP 5]]),(5,B.blk 76 [C.fn 32 [] []]),(6,B.blk 30 [dI b6_Kind,dI b6_N,dI b6_Min,dL 2 qe b6_Set,dL 5 qg b6_L]),(7,bR 4 1 eB w7),(8,B.blk 119 [dO 9 1 w9_len]),(9,bR 3 1 eI w9)],10,142⟩=(qq (Ql rF w7 (qb.mk b6_Kind b6_N b6_Min b6_Set b6_L) t72 t73) (w9,b0,b2,(qf.mk b3_Worst b3_Best b3_Pass),t74)).bind (fun(e:List Int×List qa×Int×qf)=>some (Go.Exit.exit 4,⟨[(7,rP 6),(9,rO 7 1 w7.length),(12,rP 8)],[(0,B.blk 33 [dL 8 qd e.2.1]),(1,B.blk 76 [C.fn 31 [] []]),(2,B.blk 3 [dI e.2.2.1]),(3,B.blk 32 [dI e.2.2.2.Worst,dI e.2.2.2.Best,dI e.2.2.2.Pass]),(4,B.blk 118 [C.fn 58 [] [dP 0,dP 1,dP 2,dP 3,dP 4,dP 5]]),(5,B.blk 76 [C.fn 32 [] []]),(6,B.blk 30 [dI b6_Kind,dI b6_N,dI b6_Min,dL 2 qe b6_Set,dL 5 qg b6_L]),(7,bR 4 1 eB w7),(8,B.blk 119 [dO 9 1 e.1.length]),(9,bR 3 1 eI e.1)],10,142⟩)) :=
 by
 intro w7 w9 b0 b2 b3_Worst b3_Best b3_Pass b6_Kind b6_N b6_Min b6_Set b6_L t72 t73 t74 w7_len w9_len h0 h1
 subst h0 h1
 have h:=q1A (E:=rE) (f:=58) (k:=6) (st:=fun x:List Int×List qa×Int×qf×Int=>(⟨[(3,rP 2),(5,rP 4),(6,rP 5),(7,rP 6),(9,rO 7 1 w7.length),(12,rP 8),(72,rL 5 qg t72),(73,rI t73),(74,rI x.2.2.2.2)],[(0,B.blk 33 [dL 8 qd x.2.1]),(1,B.blk 76 [C.fn 31 [] []]),(2,B.blk 3 [dI x.2.2.1]),(3,B.blk 32 [dI x.2.2.2.1.Worst,dI x.2.2.2.1.Best,dI x.2.2.2.1.Pass]),(4,B.blk 118 [C.fn 58 [] [dP 0,dP 1,dP 2,dP 3,dP 4,dP 5]]),(5,B.blk 76 [C.fn 32 [] []]),(6,B.blk 30 [dI b6_Kind,dI b6_N,dI b6_Min,dL 2 qe b6_Set,dL 5 qg b6_L]),(7,bR 4 1 eB w7),(8,B.blk 119 [dO 9 1 x.1.length]),(9,bR 3 1 eI x.1)],10,142⟩:S)) (ex:=fun(e:List Int×List qa×Int×qf)=>(Go.Exit.exit 4,⟨[(7,rP 6),(9,rO 7 1 w7.length),(12,rP 8)],[(0,B.blk 33 [dL 8 qd e.2.1]),(1,B.blk 76 [C.fn 31 [] []]),(2,B.blk 3 [dI e.2.2.1]),(3,B.blk 32 [dI e.2.2.2.Worst,dI e.2.2.2.Best,dI e.2.2.2.Pass]),(4,B.blk 118 [C.fn 58 [] [dP 0,dP 1,dP 2,dP 3,dP 4,dP 5]]),(5,B.blk 76 [C.fn 32 [] []]),(6,B.blk 30 [dI b6_Kind,dI b6_N,dI b6_Min,dL 2 qe b6_Set,dL 5 qg b6_L]),(7,bR 4 1 eB w7),(8,B.blk 119 [dO 9 1 e.1.length]),(9,bR 3 1 eI e.1)],10,142⟩)) (step:=(Ql rF w7 (qb.mk b6_Kind b6_N b6_Min b6_Set b6_L) t72 t73)) qhd qhS (fun e h=>by cases h) (fun x=>by
  obtain⟨w9,b0,b2,b3,t74⟩:=x;have hF':∀(x0_Kind x0_N x0_Min:Int) (x0_Set:List qc) (x0_L:List qb) (v:List qa) (v2 v3_Worst v3_Best v3_Pass:Int),rE (.fn 58) 6 [R.agg [dI x0_Kind,dI x0_N,dI x0_Min,dL 2 qe x0_Set,dL 5 qg x0_L],rP 0,rP 1,rP 2,rP 3,rP 4,rP 5] [(0,B.blk 33 [dL 8 qd v]),(1,B.blk 76 [C.fn 31 [] []]),(2,B.blk 3 [dI v2]),(3,B.blk 32 [dI v3_Worst,dI v3_Best,dI v3_Pass]),(4,B.blk 118 [C.fn 58 [] [dP 0,dP 1,dP 2,dP 3,dP 4,dP 5]]),(5,B.blk 76 [C.fn 32 [] []])]=(rF ((qb.mk x0_Kind x0_N x0_Min x0_Set x0_L),v,v2,(qf.mk v3_Worst v3_Best v3_Pass))).bind (fun e=>some (rL 1 eB e.1,[(0,B.blk 33 [dL 8 qd e.2.1]),(1,B.blk 76 [C.fn 31 [] []]),(2,B.blk 3 [dI e.2.2.1]),(3,B.blk 32 [dI e.2.2.2.Worst,dI e.2.2.2.Best,dI e.2.2.2.Pass]),(4,B.blk 118 [C.fn 58 [] [dP 0,dP 1,dP 2,dP 3,dP 4,dP 5]]),(5,B.blk 76 [C.fn 32 [] []])])):=fun x0_Kind x0_N x0_Min x0_Set x0_L v v2 v3_Worst v3_Best v3_Pass=>hF ((qb.mk x0_Kind x0_N x0_Min x0_Set x0_L),v,v2,(qf.mk v3_Worst v3_Best v3_Pass))
  have:=qfb;have:=@qaR.eq_1;have:=@q9i;have:=q4P rE rF hF hM hR;have:=@Ql.eq_1;exact gA) (w9,b0,b2,(qf.mk b3_Worst b3_Best b3_Pass),t74)
 exact h
noncomputable def Qg (rF:(qb×List qa×Int×qf)→Option (List Bool×List qa×Int×qf)) (w8:List Int) (b0:List qa) (b2:Int) (b3:qf) (t21:Int):(List Bool×Int)→Option ((List Bool×Int)⊕(List Bool))|(w6,t22)=>if t22<((w6.length:Nat):Int) then if 0≤t22∧t22<((w8.length:Nat):Int) then Option.bind w8[Int.toNat t22]? fun(a2:Int)=>if 0≤t22∧t22<((w6.length:Nat):Int) then if Int.toNat t22+1≤w6.length then some (Sum.inl (List.set w6 (Int.toNat t22) (decide (t21≤a2)),w64 (t22+1))) else none else none else none else some (Sum.inr w6)
theorem q4V (rE:Orc) (rF:(qb×List qa×Int×qf)→Option (List Bool×List qa×Int×qf)) (hF:∀y,rE (.fn 58) 6 (qB y).1 (qB y).2=(rF y).bind fun e=>some (zh e)) (hM:∀g k a G,g≠58→rE (.fn g) k a G=ev g k a G) (hR:∀g asg bd k a G,rE (.rd g asg bd) k a G=evr g asg bd k a G):∀(w6:List Bool) (w8:List Int) (b0:List qa) (b2 b3_Worst b3_Best b3_Pass t21 t22:Int) (w6_len w8_len:Nat),w6_len=w6.length→w8_len=w8.length→XL2 rE 58 6 38 ⟨[(9,rO 6 1 w6_len),(12,rP 7),(21,rI t21),(22,rI t22)],[(0,B.blk 33 [dL 8 qd b0]),(1,B.blk 76 [C.fn 31 [] []]),(2,B.blk 3 [dI b2]),(3,B.blk 32 [dI b3_Worst,dI b3_Best,dI b3_Pass]),(4,B.blk 118 [C.fn 58 [] [dP 0,dP 1,dP 2,dP 3,dP 4,dP 5]]),(5,B.blk 76 [C.fn 32 [] []]),(6,bR 4 1 eB w6),(7,B.blk 119 [dO 8 1 w8_len]),(8,bR 3 1 eI w8)],9,142⟩=(qq (Qg rF w8 b0 b2 (qf.mk b3_Worst b3_Best b3_Pass) t21) (w6,t22)).bind (fun(e:List Bool)=>some (Go.Exit.exit 8,⟨[(9,rO 6 1 e.length)],[(0,B.blk 33 [dL 8 qd b0]),(1,B.blk 76 [C.fn 31 [] []]),(2,B.blk 3 [dI b2]),(3,B.blk 32 [dI b3_Worst,dI b3_Best,dI b3_Pass]),(4,B.blk 118 [C.fn 58 [] [dP 0,dP 1,dP 2,dP 3,dP 4,dP 5]]),(5,B.blk 76 [C.fn 32 [] []]),(6,bR 4 1 eB e)],7,142⟩)) :=
 by
 intro w6 w8 b0 b2 b3_Worst b3_Best b3_Pass t21 t22 w6_len w8_len h0 h1
 subst h0 h1
 revert t22;revert w6;exact q3v qgq qi5 (fun e=>by exact⟨_,rfl,fun h=>by cases h⟩) fun w6 t22=>by
  have hF':∀(x0_Kind x0_N x0_Min:Int) (x0_Set:List qc) (x0_L:List qb) (v:List qa) (v2 v3_Worst v3_Best v3_Pass:Int),rE (.fn 58) 6 [R.agg [dI x0_Kind,dI x0_N,dI x0_Min,dL 2 qe x0_Set,dL 5 qg x0_L],rP 0,rP 1,rP 2,rP 3,rP 4,rP 5] [(0,B.blk 33 [dL 8 qd v]),(1,B.blk 76 [C.fn 31 [] []]),(2,B.blk 3 [dI v2]),(3,B.blk 32 [dI v3_Worst,dI v3_Best,dI v3_Pass]),(4,B.blk 118 [C.fn 58 [] [dP 0,dP 1,dP 2,dP 3,dP 4,dP 5]]),(5,B.blk 76 [C.fn 32 [] []])]=(rF ((qb.mk x0_Kind x0_N x0_Min x0_Set x0_L),v,v2,(qf.mk v3_Worst v3_Best v3_Pass))).bind (fun e=>some (rL 1 eB e.1,[(0,B.blk 33 [dL 8 qd e.2.1]),(1,B.blk 76 [C.fn 31 [] []]),(2,B.blk 3 [dI e.2.2.1]),(3,B.blk 32 [dI e.2.2.2.Worst,dI e.2.2.2.Best,dI e.2.2.2.Pass]),(4,B.blk 118 [C.fn 58 [] [dP 0,dP 1,dP 2,dP 3,dP 4,dP 5]]),(5,B.blk 76 [C.fn 32 [] []])])):=fun x0_Kind x0_N x0_Min x0_Set x0_L v v2 v3_Worst v3_Best v3_Pass=>hF ((qb.mk x0_Kind x0_N x0_Min x0_Set x0_L),v,v2,(qf.mk v3_Worst v3_Best v3_Pass))
  have:=qfb;have:=@qbx.eq_1;have:=@Qg.eq_1;exact gA
noncomputable def Jn (rF:(qb×List qa×Int×qf)→Option (List Bool×List qa×Int×qf)):(qb×List qa×Int×qf)→Option (List Bool×List qa×Int×qf)|(x0,v,v2,v3)=>if 0≤((v.length:Nat):Int) then if 0≤w64 (1*2 ^ min v.length (Go.IntKind.bits Go.IntKind.i64))∧1*w64 (1*2 ^ min v.length (Go.IntKind.bits Go.IntKind.i64))≤281474976710656∧w64 (1*2 ^ min v.length (Go.IntKind.bits Go.IntKind.i64))≤9223372036854775807 then if ZG x0=Bool.true then Option.bind (Jo x0.Kind) fun(a2:Sum Unit Unit)=>Sum.elim (fun(a3:Unit)=>Option.bind (qq (Z2 rF v v2 v3 x0) (List.replicate (Int.toNat (w64 (1*2 ^ min v.length (Go.IntKind.bits Go.IntKind.i64)))) Bool.false,1)) fun(a5:List Bool)=>some (a5,v,w64 (v2+1),v3)) (fun(a4:Unit)=>Option.bind (qq (Z3 rF v v2 v3 x0) (List.replicate (Int.toNat (w64 (1*2 ^ min v.length (Go.IntKind.bits Go.IntKind.i64)))) Bool.false,1)) fun(a6:List Bool)=>some (a6,v,w64 (v2+1),v3)) a2 else if 0≤((Int.toNat (w64 (1*2 ^ min v.length (Go.IntKind.bits Go.IntKind.i64))):Nat):Int)∧8*((Int.toNat (w64 (1*2 ^ min v.length (Go.IntKind.bits Go.IntKind.i64))):Nat):Int)≤281474976710656∧((Int.toNat (w64 (1*2 ^ min v.length (Go.IntKind.bits Go.IntKind.i64))):Nat):Int)≤9223372036854775807 then Option.bind (qq (Qb rF (List.replicate (Int.toNat (w64 (1*2 ^ min v.length (Go.IntKind.bits Go.IntKind.i64)))) Bool.false) v v2 v3 x0) (List.replicate (Int.toNat (w64 (1*2 ^ min v.length (Go.IntKind.bits Go.IntKind.i64)))) 0,1)) fun(a7:List Int)=>Option.bind (qq (Ql rF (List.replicate (Int.toNat (w64 (1*2 ^ min v.length (Go.IntKind.bits Go.IntKind.i64)))) Bool.false) x0 x0.L ((x0.L.length:Nat):Int)) (a7,(v,(v2,(v3,0))))) fun(a8:Prod (List Int) (Prod (List qa) (Prod Int qf)))=>if(x0.Kind==3)=Bool.true then Option.bind (qq (Qg rF a8.1 a8.2.1 a8.2.2.1 a8.2.2.2 ((x0.L.length:Nat):Int)) (List.replicate (Int.toNat (w64 (1*2 ^ min v.length (Go.IntKind.bits Go.IntKind.i64)))) Bool.false,1)) fun(a9:List Bool)=>some (a9,a8.2.1,a8.2.2.1,a8.2.2.2) else Option.bind (qq (Qg rF a8.1 a8.2.1 a8.2.2.1 a8.2.2.2 x0.N) (List.replicate (Int.toNat (w64 (1*2 ^ min v.length (Go.IntKind.bits Go.IntKind.i64)))) Bool.false,1)) fun(a10:List Bool)=>some (a10,a8.2.1,a8.2.2.1,a8.2.2.2) else none else none else none
theorem q3j:q1T 58 6 qB zh Jn:=by
 intro rE rF hF hM hR x
 obtain⟨x0,v,v2,v3⟩:=x
 show q3L rE 58 6 [R.agg [dI x0.Kind,dI x0.N,dI x0.Min,dL 2 qe x0.Set,dL 5 qg x0.L],rP 0,rP 1,rP 2,rP 3,rP 4,rP 5] [(0,B.blk 33 [dL 8 qd v]),(1,B.blk 76 [C.fn 31 [] []]),(2,B.blk 3 [dI v2]),(3,B.blk 32 [dI v3.Worst,dI v3.Best,dI v3.Pass]),(4,B.blk 118 [C.fn 58 [] [dP 0,dP 1,dP 2,dP 3,dP 4,dP 5]]),(5,B.blk 76 [C.fn 32 [] []])]=_
 have hF':∀(x0_Kind x0_N x0_Min:Int) (x0_Set:List qc) (x0_L:List qb) (v:List qa) (v2 v3_Worst v3_Best v3_Pass:Int),rE (.fn 58) 6 [R.agg [dI x0_Kind,dI x0_N,dI x0_Min,dL 2 qe x0_Set,dL 5 qg x0_L],rP 0,rP 1,rP 2,rP 3,rP 4,rP 5] [(0,B.blk 33 [dL 8 qd v]),(1,B.blk 76 [C.fn 31 [] []]),(2,B.blk 3 [dI v2]),(3,B.blk 32 [dI v3_Worst,dI v3_Best,dI v3_Pass]),(4,B.blk 118 [C.fn 58 [] [dP 0,dP 1,dP 2,dP 3,dP 4,dP 5]]),(5,B.blk 76 [C.fn 32 [] []])]=(rF ((qb.mk x0_Kind x0_N x0_Min x0_Set x0_L),v,v2,(qf.mk v3_Worst v3_Best v3_Pass))).bind (fun e=>some (rL 1 eB e.1,[(0,B.blk 33 [dL 8 qd e.2.1]),(1,B.blk 76 [C.fn 31 [] []]),(2,B.blk 3 [dI e.2.2.1]),(3,B.blk 32 [dI e.2.2.2.Worst,dI e.2.2.2.Best,dI e.2.2.2.Pass]),(4,B.blk 118 [C.fn 58 [] [dP 0,dP 1,dP 2,dP 3,dP 4,dP 5]]),(5,B.blk 76 [C.fn 32 [] []])])):=fun x0_Kind x0_N x0_Min x0_Set x0_L v v2 v3_Worst v3_Best v3_Pass=>hF ((qb.mk x0_Kind x0_N x0_Min x0_Set x0_L),v,v2,(qf.mk v3_Worst v3_Best v3_Pass))
 rw[q04 qkD qqe]
 have:=qfb;have:=@q1h;have:=@q2n;have:=q4u rE rF hF hM hR;have:=q3N rE rF hF hM hR;have:=q3t rE rF hF hM hR;have:=q4N rE rF hF hM hR;have:=q4V rE rF hF hM hR;have:=@Jn.eq_1;have:=@zh.eq_1;exact gA
theorem q1c:∀x y,qB x=qB y→x=y:=by
 rintro⟨⟨a0_0,a0_1,a0_2,a0_3,a0_4⟩,a1,a2,⟨a3_0,a3_1,a3_2⟩⟩ ⟨⟨b0_0,b0_1,b0_2,b0_3,b0_4⟩,b1,b2,⟨b3_0,b3_1,b3_2⟩⟩ h
 simp only[qB,Prod.mk.injEq,List.cons.injEq,R.c.injEq,R.agg.injEq,R.tup.injEq,C.d.injEq,C.own.injEq,C.ptr.injEq,C.eptr.injEq,D.int.injEq,D.bool.injEq,D.str.injEq,D.sl.injEq,B.blk.injEq,B.row.injEq,QB,ZV,QW,Zc,Zy,Zw,Zr,Jq,Zx,Jt,Jz,QA,true_and,and_true,List.nil_append] at h
 simp only[h]
theorem q5E:∀x y,zh x=zh y→x=y:=by
 rintro⟨a0,a1,a2,⟨a3_0,a3_1,a3_2⟩⟩ ⟨b0,b1,b2,⟨b3_0,b3_1,b3_2⟩⟩ h
 simp only[zh,Prod.mk.injEq,List.cons.injEq,R.c.injEq,R.agg.injEq,R.tup.injEq,C.d.injEq,C.own.injEq,C.ptr.injEq,C.eptr.injEq,D.int.injEq,D.bool.injEq,D.str.injEq,D.sl.injEq,B.blk.injEq,B.row.injEq,QB,ZV,QW,Zc,Zy,Zw,Zr,Jq,Zx,Jt,Jz,QA,true_and,and_true,List.nil_append] at h
 simp only[h]
noncomputable def z6:(qb×List qa×Int×qf)→Option (List Bool×List qa×Int×qf):=q3b 58 6 qB zh
theorem q82 (x:(qb×List qa×Int×qf)):z6 x=Jn z6 x:=q4x qqF.2.2.2 q1c q5E q3j x
theorem q7d (x0:qb) (v:List qa) (v2:Int) (v3:qf):ev 58 6 [R.agg [dI x0.Kind,dI x0.N,dI x0.Min,dL 2 qe x0.Set,dL 5 qg x0.L],rP 0,rP 1,rP 2,rP 3,rP 4,rP 5] [(0,B.blk 33 [dL 8 qd v]),(1,B.blk 76 [C.fn 31 [] []]),(2,B.blk 3 [dI v2]),(3,B.blk 32 [dI v3.Worst,dI v3.Best,dI v3.Pass]),(4,B.blk 118 [C.fn 58 [] [dP 0,dP 1,dP 2,dP 3,dP 4,dP 5]]),(5,B.blk 76 [C.fn 32 [] []])]=(z6 (x0,v,v2,v3)).bind (fun(e:List Bool×List qa×Int×qf)=>some (rL 1 eB e.1,[(0,B.blk 33 [dL 8 qd e.2.1]),(1,B.blk 76 [C.fn 31 [] []]),(2,B.blk 3 [dI e.2.2.1]),(3,B.blk 32 [dI e.2.2.2.Worst,dI e.2.2.2.Best,dI e.2.2.2.Pass]),(4,B.blk 118 [C.fn 58 [] [dP 0,dP 1,dP 2,dP 3,dP 4,dP 5]]),(5,B.blk 76 [C.fn 32 [] []])])):=(q2M qqF.2.2.2 q1c q3j (x0,v,v2,v3))
theorem q85:∀(x0_Kind x0_N x0_Min:Int) (x0_Set:List qc) (x0_L:List qb) (v:List qa) (v2 v3_Worst v3_Best v3_Pass:Int),ev 58 6 [R.agg [dI x0_Kind,dI x0_N,dI x0_Min,dL 2 qe x0_Set,dL 5 qg x0_L],rP 0,rP 1,rP 2,rP 3,rP 4,rP 5] [(0,B.blk 33 [dL 8 qd v]),(1,B.blk 76 [C.fn 31 [] []]),(2,B.blk 3 [dI v2]),(3,B.blk 32 [dI v3_Worst,dI v3_Best,dI v3_Pass]),(4,B.blk 118 [C.fn 58 [] [dP 0,dP 1,dP 2,dP 3,dP 4,dP 5]]),(5,B.blk 76 [C.fn 32 [] []])]=(z6 ((qb.mk x0_Kind x0_N x0_Min x0_Set x0_L),v,v2,(qf.mk v3_Worst v3_Best v3_Pass))).bind (fun(e:List Bool×List qa×Int×qf)=>some (rL 1 eB e.1,[(0,B.blk 33 [dL 8 qd e.2.1]),(1,B.blk 76 [C.fn 31 [] []]),(2,B.blk 3 [dI e.2.2.1]),(3,B.blk 32 [dI e.2.2.2.Worst,dI e.2.2.2.Best,dI e.2.2.2.Pass]),(4,B.blk 118 [C.fn 58 [] [dP 0,dP 1,dP 2,dP 3,dP 4,dP 5]]),(5,B.blk 76 [C.fn 32 [] []])])) :=
 fun x0_Kind x0_N x0_Min x0_Set x0_L v v2 v3_Worst v3_Best v3_Pass=>q7d (qb.mk x0_Kind x0_N x0_Min x0_Set x0_L) v v2 (qf.mk v3_Worst v3_Best v3_Pass)
noncomputable def q2S (n:qb) (s:qf) (l:List qa):Option (List Bool):=Option.bind (z6 (n,(l,(0,s)))) fun(a:Prod (List Bool) (Prod (List qa) (Prod Int qf)))=>some a.1
theorem qa9:∀(n_Kind n_N n_Min:Int) (n_Set:List qc) (n_L:List qb) (s_Worst s_Best s_Pass:Int) (l:List qa),ev 33 0 [R.agg [dI n_Kind,dI n_N,dI n_Min,dL 2 qe n_Set,dL 5 qg n_L],R.agg [dI s_Worst,dI s_Best,dI s_Pass],rL 8 qd l,R.c (C.fn 31 [] []),R.c (C.fn 32 [] [])] []=(q2S (qb.mk n_Kind n_N n_Min n_Set n_L) (qf.mk s_Worst s_Best s_Pass) l).bind (fun(e:List Bool)=>some (rL 1 eB e,[])) :=
 fun n_Kind n_N n_Min n_Set n_L s_Worst s_Best s_Pass l=>by
  rw[qt qvM qxz.2.2.2 qzZ]
  have:=qB5;have:=@q85;have:=@q2S.eq_1;exact gA
noncomputable def JP (n:qb) (s:qf) (l:List qa):Option (List Bool×Int):=Option.bind (JD n) fun(a:Int)=>if(a != 0)=Bool.true then some ([],a) else if 10<((l.length:Nat):Int) then some ([],2) else Option.bind (q2S n s l) fun(a2:List Bool)=>some (a2,0)
theorem q5Z:∀(n_Kind n_N n_Min:Int) (n_Set:List qc) (n_L:List qb) (s_Worst s_Best s_Pass:Int) (l:List qa),ev 12 0 [R.agg [dI n_Kind,dI n_N,dI n_Min,dL 2 qe n_Set,dL 5 qg n_L],R.agg [dI s_Worst,dI s_Best,dI s_Pass],rL 8 qd l] []=(JP (qb.mk n_Kind n_N n_Min n_Set n_L) (qf.mk s_Worst s_Best s_Pass) l).bind (fun(e:List Bool×Int)=>some (R.tup [rL 1 eB e.1,rI e.2],[])) :=
 fun n_Kind n_N n_Min n_Set n_L s_Worst s_Best s_Pass l=>by
  rw[qt qwW qB6.2.2.2 qBt]
  have:=qDN;have:=@q4f;have:=@qa9;have:=@JP.eq_1;exact gA
theorem q88:∀(l0_Course_School:Int) (l0_Course_Code:ByteArray) (l0_Credits l0_Grade l0_Day l0_Bundle l1_Course_School:Int) (l1_Course_Code:ByteArray) (l1_Credits l1_Grade l1_Day l1_Bundle l2_Course_School:Int) (l2_Course_Code:ByteArray) (l2_Credits l2_Grade l2_Day l2_Bundle n_Kind n_N n_Min:Int) (n_Set:List qc) (n_L:List qb) (s_Worst s_Best s_Pass:Int),ev 12 0 [R.agg [dI n_Kind,dI n_N,dI n_Min,dL 2 qe n_Set,dL 5 qg n_L],R.agg [dI s_Worst,dI s_Best,dI s_Pass],R.c (C.d (D.sl 8 3 [D.int .i64 l0_Course_School,D.str l0_Course_Code,D.int .i64 l0_Credits,D.int .i64 l0_Grade,D.int .i64 l0_Day,D.sl 1 0 [],D.int .i64 l0_Bundle,D.sl 1 0 [],D.int .i64 l1_Course_School,D.str l1_Course_Code,D.int .i64 l1_Credits,D.int .i64 l1_Grade,D.int .i64 l1_Day,D.sl 1 0 [],D.int .i64 l1_Bundle,D.sl 1 0 [],D.int .i64 l2_Course_School,D.str l2_Course_Code,D.int .i64 l2_Credits,D.int .i64 l2_Grade,D.int .i64 l2_Day,D.sl 1 0 [],D.int .i64 l2_Bundle,D.sl 1 0 []]))] []=(JP (qb.mk n_Kind n_N n_Min n_Set n_L) (qf.mk s_Worst s_Best s_Pass) [(qa.mk (qc.mk l0_Course_School l0_Course_Code) l0_Credits l0_Grade l0_Day [] l0_Bundle []),(qa.mk (qc.mk l1_Course_School l1_Course_Code) l1_Credits l1_Grade l1_Day [] l1_Bundle []),(qa.mk (qc.mk l2_Course_School l2_Course_Code) l2_Credits l2_Grade l2_Day [] l2_Bundle [])]).bind (fun(e:List Bool×Int)=>some (R.tup [rL 1 eB e.1,rI e.2],[])):=by
 intro l0_Course_School l0_Course_Code l0_Credits l0_Grade l0_Day l0_Bundle l1_Course_School l1_Course_Code l1_Credits l1_Grade l1_Day l1_Bundle l2_Course_School l2_Course_Code l2_Credits l2_Grade l2_Day l2_Bundle n_Kind n_N n_Min n_Set n_L s_Worst s_Best s_Pass;have h:=q5Z ((qb.mk n_Kind n_N n_Min n_Set n_L)).Kind ((qb.mk n_Kind n_N n_Min n_Set n_L)).N ((qb.mk n_Kind n_N n_Min n_Set n_L)).Min ((qb.mk n_Kind n_N n_Min n_Set n_L)).Set ((qb.mk n_Kind n_N n_Min n_Set n_L)).L ((qf.mk s_Worst s_Best s_Pass)).Worst ((qf.mk s_Worst s_Best s_Pass)).Best ((qf.mk s_Worst s_Best s_Pass)).Pass [(qa.mk (qc.mk l0_Course_School l0_Course_Code) l0_Credits l0_Grade l0_Day [] l0_Bundle []),(qa.mk (qc.mk l1_Course_School l1_Course_Code) l1_Credits l1_Grade l1_Day [] l1_Bundle []),(qa.mk (qc.mk l2_Course_School l2_Course_Code) l2_Credits l2_Grade l2_Day [] l2_Bundle [])]
 first
  | exact h
  | (simp only[rL,dL,bR,bZ,Nat.reduceAdd] at h;exact h)
theorem qAc:okL 40 qdR:=qu (qh qvq) (by kernel_rfl) (by kernel_rfl)
def qAk:=JA_ @qdR.eq_1 (JA_ @Tryz.f40.eq_1 @qvq)
theorem qtJ:lbO 40 2=qhv:=zf (qh qvq) rfl
theorem qtO:okL 40 qhv:=qH qAc (List.mem_of_getElem? (i:=0) (by kernel_rfl))
end Go.Proofs.YtgejdfnidjnjcaaGreat.Vc
namespace Go.Proofs.YtgejdfnidjnjcaaGreat.Vc
open Go.RowKit
set_option linter.unusedVariables false
set_option linter.unusedSimpArgs false
set_option maxRecDepth 20000
set_option maxHeartbeats 8000000
set_option linter.defProp false
noncomputable def Zo (w1:List Int) (leaf:Int) (set0:Int) (t9:Int):Int→Option (Int⊕(Unit⊕Unit))|t10=>if t10<t9 then if 0≤t10∧t10<((w1.length:Nat):Int) then Option.bind w1[Int.toNat t10]? fun(a:Int)=>if 0≤t10 then if(!((QT Go.BinOp.and Go.IntKind.i64 (Int.fdiv set0 (2 ^ min (Int.toNat t10) (Go.IntKind.bits Go.IntKind.i64))) 1==1)==(a==leaf)))=Bool.true then some (Sum.inr (Sum.inl ())) else some (Sum.inl (w64 (t10+1))) else none else none else some (Sum.inr (Sum.inr ()))
theorem q4O:∀(w1:List Int) (leaf set0 t9 t10:Int) (w1_len:Nat),w1_len=w1.length→XL2 evo 40 1 2 ⟨[(0,rI leaf),(1,rI set0),(8,rO 1 1 w1_len),(9,rI t9),(10,rI t10)],[(0,B.blk 22 [dO 1 1 w1_len]),(1,bR 3 1 eI w1)],2,25⟩=(qq (Zo w1 leaf set0 t9) t10).bind (Sum.elim (fun(e:Unit)=>some (Go.Exit.ret,⟨[(5,rB Bool.false)],[(0,B.blk 22 [dO 1 1 w1.length]),(1,bR 3 1 eI w1)],2,25⟩)) (fun(e:Unit)=>some (Go.Exit.exit 0,⟨[(5,R.any)],[(0,B.blk 22 [dO 1 1 w1.length]),(1,bR 3 1 eI w1)],2,25⟩))) :=
 by
 intro w1 leaf set0 t9 t10 w1_len h0
 subst h0
 revert t10;exact q89 qtJ qtO (fun e=>by rcases e with _|_<;>exact⟨_,rfl,fun h=>by cases h⟩) fun x=>by
  have:=qAk;have:=@qhv.eq_1;have:=@Zo.eq_1;exact gA
noncomputable def Jd (leaf:Int) (set0:Int) (w1:List Int):Option Bool:=Option.bind (qq (Zo w1 leaf set0 ((w1.length:Nat):Int)) 0) fun(a:Sum Unit Unit)=>Sum.elim (fun(a2:Unit)=>some Bool.false) (fun(a3:Unit)=>some Bool.true) a
theorem q2u:∀(leaf set0:Int) (w1:List Int) (w1_len:Nat),w1_len=w1.length→ev 40 1 [rI leaf,rI set0,rP 0] [(0,B.blk 22 [dO 1 1 w1_len]),(1,bR 3 1 eI w1)]=(Jd leaf set0 w1).bind (fun(e:Bool)=>some (rB e,[(0,B.blk 22 [dO 1 1 w1.length]),(1,bR 3 1 eI w1)])) :=
 by
 intro leaf set0 w1 w1_len h0
 subst h0
 rw[qt qvq qBf.2.2.2 qAc]
 have:=qAk;have:=@q4O;have:=@Jd.eq_1;exact gA
noncomputable def qw (x:(qb×List Int×List qa×Int×qf)):List R×List (Nat×B):=([R.agg [C.d (D.int .i64 x.1.Kind),C.d (D.int .i64 x.1.N),C.d (D.int .i64 x.1.Min),C.d (D.sl 2 x.1.Set.length (x.1.Set.flatMap qe)),C.d (D.sl 5 x.1.L.length (x.1.L.flatMap qg))],R.c (C.ptr 0 0),R.c (C.ptr 1 0),R.c (C.ptr 3 0),R.c (C.ptr 4 0),R.c (C.ptr 5 0),R.c (C.ptr 6 0)],[(0,B.blk 33 [C.d (D.sl 8 x.2.2.1.length (x.2.2.1.flatMap qd))]),(1,B.blk 76 [C.fn 40 [] [C.ptr 2 0]]),(2,B.blk 22 [C.own 7 1 0 x.2.1.length]),(3,B.blk 3 [C.d (D.int .i64 x.2.2.2.1)]),(4,B.blk 32 [C.d (D.int .i64 x.2.2.2.2.Worst),C.d (D.int .i64 x.2.2.2.2.Best),C.d (D.int .i64 x.2.2.2.2.Pass)]),(5,B.blk 118 [C.fn 58 [] [C.ptr 0 0,C.ptr 1 0,C.ptr 3 0,C.ptr 4 0,C.ptr 5 0,C.ptr 6 0]]),(6,B.blk 76 [C.fn 41 [] [C.ptr 2 0]]),(7,B.row 3 1 ((x.2.1.flatMap eI).map C.d))])
noncomputable def qV:(List Bool×List Int×List qa×Int×qf)→R×List (Nat×B):=fun(e:List Bool×List Int×List qa×Int×qf)=>(R.c (C.d (D.sl 1 e.1.length (e.1.flatMap eB))),[(0,B.blk 33 [C.d (D.sl 8 e.2.2.1.length (e.2.2.1.flatMap qd))]),(1,B.blk 76 [C.fn 40 [] [C.ptr 2 0]]),(2,B.blk 22 [C.own 7 1 0 e.2.1.length]),(3,B.blk 3 [C.d (D.int .i64 e.2.2.2.1)]),(4,B.blk 32 [C.d (D.int .i64 e.2.2.2.2.Worst),C.d (D.int .i64 e.2.2.2.2.Best),C.d (D.int .i64 e.2.2.2.2.Pass)]),(5,B.blk 118 [C.fn 58 [] [C.ptr 0 0,C.ptr 1 0,C.ptr 3 0,C.ptr 4 0,C.ptr 5 0,C.ptr 6 0]]),(6,B.blk 76 [C.fn 41 [] [C.ptr 2 0]]),(7,B.row 3 1 ((e.2.1.flatMap eI).map C.d))])
noncomputable def Z0 (rF:(qb×List Int×List qa×Int×qf)→Option (List Bool×List Int×List qa×Int×qf)) (w7:List Int) (b0:List qa) (b3:Int) (b4:qf) (b8:qb):(List Bool×Int)→Option ((List Bool×Int)⊕(List Bool))|(w9,b10)=>if b10<((w9.length:Nat):Int) then Option.bind (Jd b3 b10 w7) fun(a2:Bool)=>if a2=Bool.true then Option.bind (JB b8 b4 b0 b10) fun(a3:qn)=>if 0≤b10∧b10<((w9.length:Nat):Int) then if Int.toNat b10+1≤w9.length then some (Sum.inl (List.set w9 (Int.toNat b10) (qO a3 b8),w64 (b10+1))) else none else none else if 0≤b10∧b10<((w9.length:Nat):Int) then if Int.toNat b10+1≤w9.length then some (Sum.inl (List.set w9 (Int.toNat b10) Bool.false,w64 (b10+1))) else none else none else some (Sum.inr w9)
theorem q3M (rE:Orc) (rF:(qb×List Int×List qa×Int×qf)→Option (List Bool×List Int×List qa×Int×qf)) (hF:∀y,rE (.fn 58) 7 (qw y).1 (qw y).2=(rF y).bind fun e=>some (qV e)) (hM:∀g k a G,g≠58→rE (.fn g) k a G=ev g k a G) (hR:∀g asg bd k a G,rE (.rd g asg bd) k a G=evr g asg bd k a G):∀(w7:List Int) (w9:List Bool) (b0:List qa) (b3 b4_Worst b4_Best b4_Pass b8_Kind b8_N b8_Min:Int) (b8_Set:List qc) (b8_L:List qb) (b10:Int) (w9_len w7_len:Nat),w9_len=w9.length→w7_len=w7.length→XL2 rE 58 7 5 ⟨[(1,rP 0),(2,rP 1),(3,rP 3),(4,rP 4),(7,rP 8),(9,rO 9 1 w9_len),(10,R.c (C.fn 73 [] [])),(11,rP 10)],[(0,B.blk 33 [dL 8 qd b0]),(1,B.blk 76 [C.fn 40 [] [dP 2]]),(2,B.blk 22 [dO 7 1 w7_len]),(3,B.blk 3 [dI b3]),(4,B.blk 32 [dI b4_Worst,dI b4_Best,dI b4_Pass]),(5,B.blk 118 [C.fn 58 [] [dP 0,dP 1,dP 3,dP 4,dP 5,dP 6]]),(6,B.blk 76 [C.fn 41 [] [dP 2]]),(7,bR 3 1 eI w7),(8,B.blk 30 [dI b8_Kind,dI b8_N,dI b8_Min,dL 2 qe b8_Set,dL 5 qg b8_L]),(9,bR 4 1 eB w9),(10,B.blk 3 [dI b10])],11,142⟩=(qq (Z0 rF w7 b0 b3 (qf.mk b4_Worst b4_Best b4_Pass) (qb.mk b8_Kind b8_N b8_Min b8_Set b8_L)) (w9,b10)).bind (fun(e:List Bool)=>some (Go.Exit.exit 0,⟨[(3,rP 3),(9,rO 8 1 e.length)],[(0,B.blk 33 [dL 8 qd b0]),(1,B.blk 76 [C.fn 40 [] [dP 2]]),(2,B.blk 22 [dO 7 1 w7.length]),(3,B.blk 3 [dI b3]),(4,B.blk 32 [dI b4_Worst,dI b4_Best,dI b4_Pass]),(5,B.blk 118 [C.fn 58 [] [dP 0,dP 1,dP 3,dP 4,dP 5,dP 6]]),(6,B.blk 76 [C.fn 41 [] [dP 2]]),(7,bR 3 1 eI w7),(8,bR 4 1 eB e)],9,142⟩)) :=
 by
 intro w7 w9 b0 b3 b4_Worst b4_Best b4_Pass b8_Kind b8_N b8_Min b8_Set b8_L b10 w9_len w7_len h0 h1
 subst h0 h1
 revert b10;revert w9;exact q3v qer qf0 (fun e=>by exact⟨_,rfl,fun h=>by cases h⟩) fun w9 b10=>by
  have hF':∀(x0_Kind x0_N x0_Min:Int) (x0_Set:List qc) (x0_L:List qb) (w7:List Int) (v:List qa) (v2 v3_Worst v3_Best v3_Pass:Int) (w7_len:Nat),w7_len=w7.length→rE (.fn 58) 7 [R.agg [dI x0_Kind,dI x0_N,dI x0_Min,dL 2 qe x0_Set,dL 5 qg x0_L],rP 0,rP 1,rP 3,rP 4,rP 5,rP 6] [(0,B.blk 33 [dL 8 qd v]),(1,B.blk 76 [C.fn 40 [] [dP 2]]),(2,B.blk 22 [dO 7 1 w7_len]),(3,B.blk 3 [dI v2]),(4,B.blk 32 [dI v3_Worst,dI v3_Best,dI v3_Pass]),(5,B.blk 118 [C.fn 58 [] [dP 0,dP 1,dP 3,dP 4,dP 5,dP 6]]),(6,B.blk 76 [C.fn 41 [] [dP 2]]),(7,bR 3 1 eI w7)]=(rF ((qb.mk x0_Kind x0_N x0_Min x0_Set x0_L),w7,v,v2,(qf.mk v3_Worst v3_Best v3_Pass))).bind (fun e=>some (rL 1 eB e.1,[(0,B.blk 33 [dL 8 qd e.2.2.1]),(1,B.blk 76 [C.fn 40 [] [dP 2]]),(2,B.blk 22 [dO 7 1 e.2.1.length]),(3,B.blk 3 [dI e.2.2.2.1]),(4,B.blk 32 [dI e.2.2.2.2.Worst,dI e.2.2.2.2.Best,dI e.2.2.2.2.Pass]),(5,B.blk 118 [C.fn 58 [] [dP 0,dP 1,dP 3,dP 4,dP 5,dP 6]]),(6,B.blk 76 [C.fn 41 [] [dP 2]]),(7,bR 3 1 eI e.2.1)])):=by intro x0_Kind x0_N x0_Min x0_Set x0_L w7 v v2 v3_Worst v3_Best v3_Pass w7_len h0;subst h0;exact hF ((qb.mk x0_Kind x0_N x0_Min x0_Set x0_L),w7,v,v2,(qf.mk v3_Worst v3_Best v3_Pass))
  have:=qfb;have:=@qam.eq_1;have:=@q2u;have:=@q0Q;have:=@JS;have:=@Z0.eq_1;exact gA
noncomputable def Qu (rF:(qb×List Int×List qa×Int×qf)→Option (List Bool×List Int×List qa×Int×qf)) (w7:List Int) (b0:List qa) (b3:Int) (b4:qf) (b8:qb):(List Bool×Int)→Option ((List Bool×Int)⊕(List Bool))|(w9,b10)=>if b10<((w9.length:Nat):Int) then Option.bind (Jd b3 b10 w7) fun(a2:Bool)=>if a2=Bool.true then Option.bind (JB b8 b4 b0 b10) fun(a3:qn)=>if 0≤b10∧b10<((w9.length:Nat):Int) then if Int.toNat b10+1≤w9.length then some (Sum.inl (List.set w9 (Int.toNat b10) (zg a3 b8),w64 (b10+1))) else none else none else if 0≤b10∧b10<((w9.length:Nat):Int) then if Int.toNat b10+1≤w9.length then some (Sum.inl (List.set w9 (Int.toNat b10) Bool.false,w64 (b10+1))) else none else none else some (Sum.inr w9)
theorem q3a (rE:Orc) (rF:(qb×List Int×List qa×Int×qf)→Option (List Bool×List Int×List qa×Int×qf)) (hF:∀y,rE (.fn 58) 7 (qw y).1 (qw y).2=(rF y).bind fun e=>some (qV e)) (hM:∀g k a G,g≠58→rE (.fn g) k a G=ev g k a G) (hR:∀g asg bd k a G,rE (.rd g asg bd) k a G=evr g asg bd k a G):∀(w7:List Int) (w9:List Bool) (b0:List qa) (b3 b4_Worst b4_Best b4_Pass b8_Kind b8_N b8_Min:Int) (b8_Set:List qc) (b8_L:List qb) (b10:Int) (w9_len w7_len:Nat),w9_len=w9.length→w7_len=w7.length→XL2 rE 58 7 5 ⟨[(1,rP 0),(2,rP 1),(3,rP 3),(4,rP 4),(7,rP 8),(9,rO 9 1 w9_len),(10,R.c (C.fn 74 [] [])),(11,rP 10)],[(0,B.blk 33 [dL 8 qd b0]),(1,B.blk 76 [C.fn 40 [] [dP 2]]),(2,B.blk 22 [dO 7 1 w7_len]),(3,B.blk 3 [dI b3]),(4,B.blk 32 [dI b4_Worst,dI b4_Best,dI b4_Pass]),(5,B.blk 118 [C.fn 58 [] [dP 0,dP 1,dP 3,dP 4,dP 5,dP 6]]),(6,B.blk 76 [C.fn 41 [] [dP 2]]),(7,bR 3 1 eI w7),(8,B.blk 30 [dI b8_Kind,dI b8_N,dI b8_Min,dL 2 qe b8_Set,dL 5 qg b8_L]),(9,bR 4 1 eB w9),(10,B.blk 3 [dI b10])],11,142⟩=(qq (Qu rF w7 b0 b3 (qf.mk b4_Worst b4_Best b4_Pass) (qb.mk b8_Kind b8_N b8_Min b8_Set b8_L)) (w9,b10)).bind (fun(e:List Bool)=>some (Go.Exit.exit 0,⟨[(3,rP 3),(9,rO 8 1 e.length)],[(0,B.blk 33 [dL 8 qd b0]),(1,B.blk 76 [C.fn 40 [] [dP 2]]),(2,B.blk 22 [dO 7 1 w7.length]),(3,B.blk 3 [dI b3]),(4,B.blk 32 [dI b4_Worst,dI b4_Best,dI b4_Pass]),(5,B.blk 118 [C.fn 58 [] [dP 0,dP 1,dP 3,dP 4,dP 5,dP 6]]),(6,B.blk 76 [C.fn 41 [] [dP 2]]),(7,bR 3 1 eI w7),(8,bR 4 1 eB e)],9,142⟩)) :=
 by
 intro w7 w9 b0 b3 b4_Worst b4_Best b4_Pass b8_Kind b8_N b8_Min b8_Set b8_L b10 w9_len w7_len h0 h1
 subst h0 h1
 revert b10;revert w9;exact q3v qer qf0 (fun e=>by exact⟨_,rfl,fun h=>by cases h⟩) fun w9 b10=>by
  have hF':∀(x0_Kind x0_N x0_Min:Int) (x0_Set:List qc) (x0_L:List qb) (w7:List Int) (v:List qa) (v2 v3_Worst v3_Best v3_Pass:Int) (w7_len:Nat),w7_len=w7.length→rE (.fn 58) 7 [R.agg [dI x0_Kind,dI x0_N,dI x0_Min,dL 2 qe x0_Set,dL 5 qg x0_L],rP 0,rP 1,rP 3,rP 4,rP 5,rP 6] [(0,B.blk 33 [dL 8 qd v]),(1,B.blk 76 [C.fn 40 [] [dP 2]]),(2,B.blk 22 [dO 7 1 w7_len]),(3,B.blk 3 [dI v2]),(4,B.blk 32 [dI v3_Worst,dI v3_Best,dI v3_Pass]),(5,B.blk 118 [C.fn 58 [] [dP 0,dP 1,dP 3,dP 4,dP 5,dP 6]]),(6,B.blk 76 [C.fn 41 [] [dP 2]]),(7,bR 3 1 eI w7)]=(rF ((qb.mk x0_Kind x0_N x0_Min x0_Set x0_L),w7,v,v2,(qf.mk v3_Worst v3_Best v3_Pass))).bind (fun e=>some (rL 1 eB e.1,[(0,B.blk 33 [dL 8 qd e.2.2.1]),(1,B.blk 76 [C.fn 40 [] [dP 2]]),(2,B.blk 22 [dO 7 1 e.2.1.length]),(3,B.blk 3 [dI e.2.2.2.1]),(4,B.blk 32 [dI e.2.2.2.2.Worst,dI e.2.2.2.2.Best,dI e.2.2.2.2.Pass]),(5,B.blk 118 [C.fn 58 [] [dP 0,dP 1,dP 3,dP 4,dP 5,dP 6]]),(6,B.blk 76 [C.fn 41 [] [dP 2]]),(7,bR 3 1 eI e.2.1)])):=by intro x0_Kind x0_N x0_Min x0_Set x0_L w7 v v2 v3_Worst v3_Best v3_Pass w7_len h0;subst h0;exact hF ((qb.mk x0_Kind x0_N x0_Min x0_Set x0_L),w7,v,v2,(qf.mk v3_Worst v3_Best v3_Pass))
  have:=qfb;have:=@qam.eq_1;have:=@q2u;have:=@q0Q;have:=@q0G;have:=@Qu.eq_1;exact gA
noncomputable def Qc (rF:(qb×List Int×List qa×Int×qf)→Option (List Bool×List Int×List qa×Int×qf)) (w7:List Int) (w9:List Bool) (b0:List qa) (b3:Int) (b4:qf) (b8:qb):(List Int×Int)→Option ((List Int×Int)⊕(List Int))|(w11,t13)=>if t13<((w11.length:Nat):Int) then if 0≤t13∧t13<((w11.length:Nat):Int) then if Int.toNat t13+1≤w11.length then some (Sum.inl (List.set w11 (Int.toNat t13) (-1),w64 (t13+1))) else none else none else some (Sum.inr w11)
theorem q3B (rE:Orc) (rF:(qb×List Int×List qa×Int×qf)→Option (List Bool×List Int×List qa×Int×qf)) (hF:∀y,rE (.fn 58) 7 (qw y).1 (qw y).2=(rF y).bind fun e=>some (qV e)) (hM:∀g k a G,g≠58→rE (.fn g) k a G=ev g k a G) (hR:∀g asg bd k a G,rE (.rd g asg bd) k a G=evr g asg bd k a G):∀(w7:List Int) (w9:List Bool) (w11:List Int) (b0:List qa) (b3 b4_Worst b4_Best b4_Pass b8_Kind b8_N b8_Min:Int) (b8_Set:List qc) (b8_L:List qb) (t13:Int) (w9_len w7_len w11_len:Nat),w9_len=w9.length→w7_len=w7.length→w11_len=w11.length→XL2 rE 58 7 14 ⟨[(3,rP 3),(5,rP 5),(6,rP 6),(7,rP 8),(9,rO 9 1 w9_len),(12,rP 10),(13,rI t13)],[(0,B.blk 33 [dL 8 qd b0]),(1,B.blk 76 [C.fn 40 [] [dP 2]]),(2,B.blk 22 [dO 7 1 w7_len]),(3,B.blk 3 [dI b3]),(4,B.blk 32 [dI b4_Worst,dI b4_Best,dI b4_Pass]),(5,B.blk 118 [C.fn 58 [] [dP 0,dP 1,dP 3,dP 4,dP 5,dP 6]]),(6,B.blk 76 [C.fn 41 [] [dP 2]]),(7,bR 3 1 eI w7),(8,B.blk 30 [dI b8_Kind,dI b8_N,dI b8_Min,dL 2 qe b8_Set,dL 5 qg b8_L]),(9,bR 4 1 eB w9),(10,B.blk 119 [dO 11 1 w11_len]),(11,bR 3 1 eI w11)],12,142⟩=(qq (Qc rF w7 w9 b0 b3 (qf.mk b4_Worst b4_Best b4_Pass) (qb.mk b8_Kind b8_N b8_Min b8_Set b8_L)) (w11,t13)).bind (fun(e:List Int)=>some (Go.Exit.exit 2,⟨[(3,rP 3),(5,rP 5),(6,rP 6),(7,rP 8),(9,rO 9 1 w9.length),(12,rP 10)],[(0,B.blk 33 [dL 8 qd b0]),(1,B.blk 76 [C.fn 40 [] [dP 2]]),(2,B.blk 22 [dO 7 1 w7.length]),(3,B.blk 3 [dI b3]),(4,B.blk 32 [dI b4_Worst,dI b4_Best,dI b4_Pass]),(5,B.blk 118 [C.fn 58 [] [dP 0,dP 1,dP 3,dP 4,dP 5,dP 6]]),(6,B.blk 76 [C.fn 41 [] [dP 2]]),(7,bR 3 1 eI w7),(8,B.blk 30 [dI b8_Kind,dI b8_N,dI b8_Min,dL 2 qe b8_Set,dL 5 qg b8_L]),(9,bR 4 1 eB w9),(10,B.blk 119 [dO 11 1 e.length]),(11,bR 3 1 eI e)],12,142⟩)) :=
 by
 intro w7 w9 w11 b0 b3 b4_Worst b4_Best b4_Pass b8_Kind b8_N b8_Min b8_Set b8_L t13 w9_len w7_len w11_len h0 h1 h2
 subst h0 h1 h2
 revert t13;revert w11;exact q3v qhs qgZ (fun e=>by exact⟨_,rfl,fun h=>by cases h⟩) fun w11 t13=>by
  have hF':∀(x0_Kind x0_N x0_Min:Int) (x0_Set:List qc) (x0_L:List qb) (w7:List Int) (v:List qa) (v2 v3_Worst v3_Best v3_Pass:Int) (w7_len:Nat),w7_len=w7.length→rE (.fn 58) 7 [R.agg [dI x0_Kind,dI x0_N,dI x0_Min,dL 2 qe x0_Set,dL 5 qg x0_L],rP 0,rP 1,rP 3,rP 4,rP 5,rP 6] [(0,B.blk 33 [dL 8 qd v]),(1,B.blk 76 [C.fn 40 [] [dP 2]]),(2,B.blk 22 [dO 7 1 w7_len]),(3,B.blk 3 [dI v2]),(4,B.blk 32 [dI v3_Worst,dI v3_Best,dI v3_Pass]),(5,B.blk 118 [C.fn 58 [] [dP 0,dP 1,dP 3,dP 4,dP 5,dP 6]]),(6,B.blk 76 [C.fn 41 [] [dP 2]]),(7,bR 3 1 eI w7)]=(rF ((qb.mk x0_Kind x0_N x0_Min x0_Set x0_L),w7,v,v2,(qf.mk v3_Worst v3_Best v3_Pass))).bind (fun e=>some (rL 1 eB e.1,[(0,B.blk 33 [dL 8 qd e.2.2.1]),(1,B.blk 76 [C.fn 40 [] [dP 2]]),(2,B.blk 22 [dO 7 1 e.2.1.length]),(3,B.blk 3 [dI e.2.2.2.1]),(4,B.blk 32 [dI e.2.2.2.2.Worst,dI e.2.2.2.2.Best,dI e.2.2.2.2.Pass]),(5,B.blk 118 [C.fn 58 [] [dP 0,dP 1,dP 3,dP 4,dP 5,dP 6]]),(6,B.blk 76 [C.fn 41 [] [dP 2]]),(7,bR 3 1 eI e.2.1)])):=by intro x0_Kind x0_N x0_Min x0_Set x0_L w7 v v2 v3_Worst v3_Best v3_Pass w7_len h0;subst h0;exact hF ((qb.mk x0_Kind x0_N x0_Min x0_Set x0_L),w7,v,v2,(qf.mk v3_Worst v3_Best v3_Pass))
  have:=qfb;have:=@qbt.eq_1;have:=@Qc.eq_1;exact gA
theorem qCe:okL 41 qip:=qu (qh qz6) (by kernel_rfl) (by kernel_rfl)
def qDE:=JA_ @qip.eq_1 (JA_ @Tryz.f41.eq_1 @qz6)
theorem qAM:okL 42 qgC:=qu (qh qvA) (by kernel_rfl) (by kernel_rfl)
def qAS:=JA_ @qgC.eq_1 (JA_ @Tryz.f42.eq_1 @qvA)
theorem qyV:okL 70 qet:=qu (qh quT) (by kernel_rfl) (by kernel_rfl)
def qw3:=JA_ @qet.eq_1 (JA_ @Tryz.f70.eq_1 @quT)
theorem qmd:lbO 70 2=qeC:=zf (qh quT) rfl
theorem qmW:okL 70 qeC:=qH qyV (List.mem_of_getElem? (i:=0) (by kernel_rfl))
theorem qBR:okL 43 qiD:=qu (qh qwl) (by kernel_rfl) (by kernel_rfl)
def qEe:=JA_ @qiD.eq_1 (JA_ @Tryz.f43.eq_1 @qwl)
noncomputable def q09 (x:Int) (v:Int) (v2:Int):Option Bool:=if v≤x then some (decide (x<v2)) else some Bool.false
noncomputable def ZD (x:Int) (v:Int) (v2:Int):Bool:=if v≤x then decide (x<v2) else Bool.false
theorem q4S (x v v2:Int):q09 x v v2=some (ZD x v v2):=by
 unfold q09 ZD
 simp only[zG]
theorem q5q:∀(x v v2:Int),ev 43 2 [rI x,rP 0,rP 1] [(0,B.blk 3 [dI v]),(1,B.blk 3 [dI v2])]=some (rB (ZD x v v2),[(0,B.blk 3 [dI v]),(1,B.blk 3 [dI v2])]) :=
 fun x v v2=>by
  have h:ev 43 2 [rI x,rP 0,rP 1] [(0,B.blk 3 [dI v]),(1,B.blk 3 [dI v2])]=(q09 x v v2).bind (fun(e:Bool)=>some (rB e,[(0,B.blk 3 [dI v]),(1,B.blk 3 [dI v2])])):=by
   rw[qt qwl qzk.2.2.2 qBR]
   have:=qEe;have:=@q09.eq_1;exact gA
  rw[q4S] at h
  exact h
noncomputable def z5 (b0:Int) (b1:Int) (s:List Int) (t7:Int):Int→Option (Int⊕(Int⊕Unit))|t8=>if t8<t7 then if 0≤t8∧t8<((s.length:Nat):Int) then Option.bind s[Int.toNat t8]? fun(a:Int)=>if ZD a b0 b1=Bool.true then some (Sum.inr (Sum.inl t8)) else some (Sum.inl (w64 (t8+1))) else none else some (Sum.inr (Sum.inr ()))
theorem q0C:∀(b0 b1:Int) (s:List Int) (t7 t8:Int),XL2 evo 70 2 2 ⟨[(0,rL 1 eI s),(1,R.c (C.fn 43 [] [dP 0,dP 1])),(7,rI t7),(8,rI t8)],[(0,B.blk 3 [dI b0]),(1,B.blk 3 [dI b1])],2,19⟩=(qq (z5 b0 b1 s t7) t8).bind (Sum.elim (fun(e:Int)=>some (Go.Exit.ret,⟨[(4,rI e)],[(0,B.blk 3 [dI b0]),(1,B.blk 3 [dI b1])],2,19⟩)) (fun(e:Unit)=>some (Go.Exit.exit 0,⟨[(4,R.any)],[(0,B.blk 3 [dI b0]),(1,B.blk 3 [dI b1])],2,19⟩))) :=
 fun b0 b1 s t7 t8=>by
  revert t8;exact q89 qmd qmW (fun e=>by rcases e with _|_<;>exact⟨_,rfl,fun h=>by cases h⟩) fun x=>by
   have:=qw3;have:=@qeC.eq_1;have:=@q5q;have:=@z5.eq_1;exact gA
noncomputable def Qz (s:List Int) (b0:Int) (b1:Int):Option Int:=Option.bind (qq (z5 b0 b1 s ((s.length:Nat):Int)) 0) fun(a:Sum Int Unit)=>Sum.elim (fun(a2:Int)=>some a2) (fun(a3:Unit)=>some (-1)) a
theorem q18:∀(s:List Int) (b0 b1:Int),ev 70 2 [rL 1 eI s,R.c (C.fn 43 [] [dP 0,dP 1])] [(0,B.blk 3 [dI b0]),(1,B.blk 3 [dI b1])]=(Qz s b0 b1).bind (fun(e:Int)=>some (rI e,[(0,B.blk 3 [dI b0]),(1,B.blk 3 [dI b1])])) :=
 fun s b0 b1=>by
  rw[qt quT qyp.2.2.2 qyV]
  have:=qw3;have:=@q0C;have:=@Qz.eq_1;exact gA
noncomputable def Q9 (s:List Int) (b0:Int) (b1:Int):Option Bool:=Option.bind (Qz s b0 b1) fun(a:Int)=>some (decide (0≤a))
theorem q0B:∀(s:List Int) (b0 b1:Int),ev 42 2 [rL 1 eI s,R.c (C.fn 43 [] [dP 0,dP 1])] [(0,B.blk 3 [dI b0]),(1,B.blk 3 [dI b1])]=(Q9 s b0 b1).bind (fun(e:Bool)=>some (rB e,[(0,B.blk 3 [dI b0]),(1,B.blk 3 [dI b1])])) :=
 fun s b0 b1=>by
  rw[qt qvA qwM.2.2.2 qAM]
  have:=qAS;have:=@q18;have:=@Q9.eq_1;exact gA
noncomputable def q02 (from0:Int) (to:Int) (w1:List Int):Option Bool:=Option.bind (Q9 w1 from0 to) fun(a:Bool)=>some a
theorem q6Z:∀(from0 to:Int) (w1:List Int) (w1_len:Nat),w1_len=w1.length→ev 41 1 [rI from0,rI to,rP 0] [(0,B.blk 22 [dO 1 1 w1_len]),(1,bR 3 1 eI w1)]=(q02 from0 to w1).bind (fun(e:Bool)=>some (rB e,[(0,B.blk 22 [dO 1 1 w1.length]),(1,bR 3 1 eI w1)])) :=
 by
 intro from0 to w1 w1_len h0
 subst h0
 rw[qt qz6 qAe.2.2.2 qCe]
 have:=qDE;have:=@q0B;have:=@q02.eq_1;exact gA
noncomputable def zL (rF:(qb×List Int×List qa×Int×qf)→Option (List Bool×List Int×List qa×Int×qf)) (w7:List Int) (w9:List Bool) (w11:List Int) (b0:List qa) (b3:Int) (b4:qf) (b8:qb) (b12:List Bool) (t18:Bool) (t72:List qb) (t73:Int) (t74:Int) (t96:Int):(List Int×Int)→Option ((List Int×Int)⊕(List Int))|(w14,t97)=>if t97<t96 then if 0≤t97∧t97<((w14.length:Nat):Int) then if Int.toNat t97+1≤w14.length then if t18=Bool.true then if 0≤t97∧t97<((w11.length:Nat):Int) then Option.bind w11[Int.toNat t97]? fun(a2:Int)=>if 0≤t97∧t97<((w14.length:Nat):Int) then if Int.toNat t97+1≤w14.length then Option.bind (qX t97 w11 (List.set (List.set w14 (Int.toNat t97) (-1)) (Int.toNat t97) a2) b12 t97) fun(a3:List Int)=>some (Sum.inl (a3,w64 (t97+1))) else none else none else none else Option.bind (qX t97 w11 (List.set w14 (Int.toNat t97) (-1)) b12 t97) fun(a4:List Int)=>some (Sum.inl (a4,w64 (t97+1))) else none else none else some (Sum.inr w14)
theorem q3q (rE:Orc) (rF:(qb×List Int×List qa×Int×qf)→Option (List Bool×List Int×List qa×Int×qf)) (hF:∀y,rE (.fn 58) 7 (qw y).1 (qw y).2=(rF y).bind fun e=>some (qV e)) (hM:∀g k a G,g≠58→rE (.fn g) k a G=ev g k a G) (hR:∀g asg bd k a G,rE (.rd g asg bd) k a G=evr g asg bd k a G):∀(w7:List Int) (w9:List Bool) (w11 w14:List Int) (b0:List qa) (b3 b4_Worst b4_Best b4_Pass b8_Kind b8_N b8_Min:Int) (b8_Set:List qc) (b8_L:List qb) (b12:List Bool) (t18:Bool) (t72:List qb) (t73 t74 t96 t97:Int) (w9_len w7_len w11_len w14_len:Nat),w9_len=w9.length→w7_len=w7.length→w11_len=w11.length→w14_len=w14.length→XL2 rE 58 7 25 ⟨[(3,rP 3),(5,rP 5),(6,rP 6),(7,rP 8),(9,rO 9 1 w9_len),(12,rP 10),(17,rP 12),(18,rB t18),(19,rP 13),(72,rL 5 qg t72),(73,rI t73),(74,rI t74),(96,rI t96),(97,rI t97)],[(0,B.blk 33 [dL 8 qd b0]),(1,B.blk 76 [C.fn 40 [] [dP 2]]),(2,B.blk 22 [dO 7 1 w7_len]),(3,B.blk 3 [dI b3]),(4,B.blk 32 [dI b4_Worst,dI b4_Best,dI b4_Pass]),(5,B.blk 118 [C.fn 58 [] [dP 0,dP 1,dP 3,dP 4,dP 5,dP 6]]),(6,B.blk 76 [C.fn 41 [] [dP 2]]),(7,bR 3 1 eI w7),(8,B.blk 30 [dI b8_Kind,dI b8_N,dI b8_Min,dL 2 qe b8_Set,dL 5 qg b8_L]),(9,bR 4 1 eB w9),(10,B.blk 119 [dO 11 1 w11_len]),(11,bR 3 1 eI w11),(12,B.blk 77 [dL 1 eB b12]),(13,B.blk 119 [dO 14 1 w14_len]),(14,bR 3 1 eI w14)],15,142⟩=(qq (zL rF w7 w9 w11 b0 b3 (qf.mk b4_Worst b4_Best b4_Pass) (qb.mk b8_Kind b8_N b8_Min b8_Set b8_L) b12 t18 t72 t73 t74 t96) (w14,t97)).bind (fun(e:List Int)=>some (Go.Exit.exit 6,⟨[(3,rP 3),(5,rP 5),(6,rP 6),(7,rP 8),(9,rO 9 1 w9.length),(12,rP 10),(19,rP 12),(72,rL 5 qg t72),(73,rI t73),(74,rI t74)],[(0,B.blk 33 [dL 8 qd b0]),(1,B.blk 76 [C.fn 40 [] [dP 2]]),(2,B.blk 22 [dO 7 1 w7.length]),(3,B.blk 3 [dI b3]),(4,B.blk 32 [dI b4_Worst,dI b4_Best,dI b4_Pass]),(5,B.blk 118 [C.fn 58 [] [dP 0,dP 1,dP 3,dP 4,dP 5,dP 6]]),(6,B.blk 76 [C.fn 41 [] [dP 2]]),(7,bR 3 1 eI w7),(8,B.blk 30 [dI b8_Kind,dI b8_N,dI b8_Min,dL 2 qe b8_Set,dL 5 qg b8_L]),(9,bR 4 1 eB w9),(10,B.blk 119 [dO 11 1 w11.length]),(11,bR 3 1 eI w11),(12,B.blk 119 [dO 13 1 e.length]),(13,bR 3 1 eI e)],14,142⟩)) :=
 by
 intro w7 w9 w11 w14 b0 b3 b4_Worst b4_Best b4_Pass b8_Kind b8_N b8_Min b8_Set b8_L b12 t18 t72 t73 t74 t96 t97 w9_len w7_len w11_len w14_len h0 h1 h2 h3
 subst h0 h1 h2 h3
 revert t97;revert w14;exact q3v qiO qjH (fun e=>by exact⟨_,rfl,fun h=>by cases h⟩) fun w14 t97=>by
  have hF':∀(x0_Kind x0_N x0_Min:Int) (x0_Set:List qc) (x0_L:List qb) (w7:List Int) (v:List qa) (v2 v3_Worst v3_Best v3_Pass:Int) (w7_len:Nat),w7_len=w7.length→rE (.fn 58) 7 [R.agg [dI x0_Kind,dI x0_N,dI x0_Min,dL 2 qe x0_Set,dL 5 qg x0_L],rP 0,rP 1,rP 3,rP 4,rP 5,rP 6] [(0,B.blk 33 [dL 8 qd v]),(1,B.blk 76 [C.fn 40 [] [dP 2]]),(2,B.blk 22 [dO 7 1 w7_len]),(3,B.blk 3 [dI v2]),(4,B.blk 32 [dI v3_Worst,dI v3_Best,dI v3_Pass]),(5,B.blk 118 [C.fn 58 [] [dP 0,dP 1,dP 3,dP 4,dP 5,dP 6]]),(6,B.blk 76 [C.fn 41 [] [dP 2]]),(7,bR 3 1 eI w7)]=(rF ((qb.mk x0_Kind x0_N x0_Min x0_Set x0_L),w7,v,v2,(qf.mk v3_Worst v3_Best v3_Pass))).bind (fun e=>some (rL 1 eB e.1,[(0,B.blk 33 [dL 8 qd e.2.2.1]),(1,B.blk 76 [C.fn 40 [] [dP 2]]),(2,B.blk 22 [dO 7 1 e.2.1.length]),(3,B.blk 3 [dI e.2.2.2.1]),(4,B.blk 32 [dI e.2.2.2.2.Worst,dI e.2.2.2.2.Best,dI e.2.2.2.2.Pass]),(5,B.blk 118 [C.fn 58 [] [dP 0,dP 1,dP 3,dP 4,dP 5,dP 6]]),(6,B.blk 76 [C.fn 41 [] [dP 2]]),(7,bR 3 1 eI e.2.1)])):=by intro x0_Kind x0_N x0_Min x0_Set x0_L w7 v v2 v3_Worst v3_Best v3_Pass w7_len h0;subst h0;exact hF ((qb.mk x0_Kind x0_N x0_Min x0_Set x0_L),w7,v,v2,(qf.mk v3_Worst v3_Best v3_Pass))
  have:=qfb;have:=@qaD.eq_1;have:=@q0y;have:=@zL.eq_1;exact gA
noncomputable def zM (rF:(qb×List Int×List qa×Int×qf)→Option (List Bool×List Int×List qa×Int×qf)) (w9:List Bool) (b8:qb) (t72:List qb) (t73:Int):(List Int×List Int×List qa×Int×qf×Int)→Option ((List Int×List Int×List qa×Int×qf×Int)⊕(List Int×List Int×List qa×Int×qf))|(w7,w11,b0,b3,b4,t74)=>if t74<t73 then if 0≤t74∧t74<((t72.length:Nat):Int) then Option.bind t72[Int.toNat t74]? fun(a2:qb)=>Option.bind (rF (a2,(w7,(b0,(b3,b4))))) fun(a3:Prod (List Bool) (Prod (List Int) (Prod (List qa) (Prod Int qf))))=>if(b8.Kind==4)=Bool.true then Option.bind (q02 b3 a3.2.2.2.1 a3.2.1) fun(a4:Bool)=>if 0≤((w11.length:Nat):Int)∧8*((w11.length:Nat):Int)≤281474976710656∧((w11.length:Nat):Int)≤9223372036854775807 then Option.bind (qq (zL rF a3.2.1 w9 w11 a3.2.2.1 a3.2.2.2.1 a3.2.2.2.2 b8 a3.1 (!a4) t72 t73 t74 ((w11.length:Nat):Int)) (List.replicate w11.length 0,0)) fun(a5:List Int)=>some (Sum.inl (a3.2.1,a5,a3.2.2.1,a3.2.2.2.1,a3.2.2.2.2,w64 (t74+1))) else none else if 0≤((w11.length:Nat):Int)∧8*((w11.length:Nat):Int)≤281474976710656∧((w11.length:Nat):Int)≤9223372036854775807 then Option.bind (qq (zL rF a3.2.1 w9 w11 a3.2.2.1 a3.2.2.2.1 a3.2.2.2.2 b8 a3.1 Bool.false t72 t73 t74 ((w11.length:Nat):Int)) (List.replicate w11.length 0,0)) fun(a6:List Int)=>some (Sum.inl (a3.2.1,a6,a3.2.2.1,a3.2.2.2.1,a3.2.2.2.2,w64 (t74+1))) else none else none else some (Sum.inr (w7,w11,b0,b3,b4))
theorem q3D (rE:Orc) (rF:(qb×List Int×List qa×Int×qf)→Option (List Bool×List Int×List qa×Int×qf)) (hF:∀y,rE (.fn 58) 7 (qw y).1 (qw y).2=(rF y).bind fun e=>some (qV e)) (hM:∀g k a G,g≠58→rE (.fn g) k a G=ev g k a G) (hR:∀g asg bd k a G,rE (.rd g asg bd) k a G=evr g asg bd k a G):∀(w7:List Int) (w9:List Bool) (w11:List Int) (b0:List qa) (b3 b4_Worst b4_Best b4_Pass b8_Kind b8_N b8_Min:Int) (b8_Set:List qc) (b8_L t72:List qb) (t73 t74:Int) (w9_len w7_len w11_len:Nat),w9_len=w9.length→w7_len=w7.length→w11_len=w11.length→XL2 rE 58 7 18 ⟨[(3,rP 3),(5,rP 5),(6,rP 6),(7,rP 8),(9,rO 9 1 w9_len),(12,rP 10),(72,rL 5 qg t72),(73,rI t73),(74,rI t74)],[(0,B.blk 33 [dL 8 qd b0]),(1,B.blk 76 [C.fn 40 [] [dP 2]]),(2,B.blk 22 [dO 7 1 w7_len]),(3,B.blk 3 [dI b3]),(4,B.blk 32 [dI b4_Worst,dI b4_Best,dI b4_Pass]),(5,B.blk 118 [C.fn 58 [] [dP 0,dP 1,dP 3,dP 4,dP 5,dP 6]]),(6,B.blk 76 [C.fn 41 [] [dP 2]]),(7,bR 3 1 eI w7),(8,B.blk 30 [dI b8_Kind,dI b8_N,dI b8_Min,dL 2 qe b8_Set,dL 5 qg b8_L]),(9,bR 4 1 eB w9),(10,B.blk 119 [dO 11 1 w11_len]),(11,bR 3 1 eI w11)],12,142⟩=(qq (zM rF w9 (qb.mk b8_Kind b8_N b8_Min b8_Set b8_L) t72 t73) (w7,w11,b0,b3,(qf.mk b4_Worst b4_Best b4_Pass),t74)).bind (fun(e:List Int×List Int×List qa×Int×qf)=>some (Go.Exit.exit 4,⟨[(7,rP 8),(9,rO 9 1 w9.length),(12,rP 10)],[(0,B.blk 33 [dL 8 qd e.2.2.1]),(1,B.blk 76 [C.fn 40 [] [dP 2]]),(2,B.blk 22 [dO 7 1 e.1.length]),(3,B.blk 3 [dI e.2.2.2.1]),(4,B.blk 32 [dI e.2.2.2.2.Worst,dI e.2.2.2.2.Best,dI e.2.2.2.2.Pass]),(5,B.blk 118 [C.fn 58 [] [dP 0,dP 1,dP 3,dP 4,dP 5,dP 6]]),(6,B.blk 76 [C.fn 41 [] [dP 2]]),(7,bR 3 1 eI e.1),(8,B.blk 30 [dI b8_Kind,dI b8_N,dI b8_Min,dL 2 qe b8_Set,dL 5 qg b8_L]),(9,bR 4 1 eB w9),(10,B.blk 119 [dO 11 1 e.2.1.length]),(11,bR 3 1 eI e.2.1)],12,142⟩)) :=
 by
 intro w7 w9 w11 b0 b3 b4_Worst b4_Best b4_Pass b8_Kind b8_N b8_Min b8_Set b8_L t72 t73 t74 w9_len w7_len w11_len h0 h1 h2
 subst h0 h1 h2
 have h:=q1A (E:=rE) (f:=58) (k:=7) (st:=fun x:List Int×List Int×List qa×Int×qf×Int=>(⟨[(3,rP 3),(5,rP 5),(6,rP 6),(7,rP 8),(9,rO 9 1 w9.length),(12,rP 10),(72,rL 5 qg t72),(73,rI t73),(74,rI x.2.2.2.2.2)],[(0,B.blk 33 [dL 8 qd x.2.2.1]),(1,B.blk 76 [C.fn 40 [] [dP 2]]),(2,B.blk 22 [dO 7 1 x.1.length]),(3,B.blk 3 [dI x.2.2.2.1]),(4,B.blk 32 [dI x.2.2.2.2.1.Worst,dI x.2.2.2.2.1.Best,dI x.2.2.2.2.1.Pass]),(5,B.blk 118 [C.fn 58 [] [dP 0,dP 1,dP 3,dP 4,dP 5,dP 6]]),(6,B.blk 76 [C.fn 41 [] [dP 2]]),(7,bR 3 1 eI x.1),(8,B.blk 30 [dI b8_Kind,dI b8_N,dI b8_Min,dL 2 qe b8_Set,dL 5 qg b8_L]),(9,bR 4 1 eB w9),(10,B.blk 119 [dO 11 1 x.2.1.length]),(11,bR 3 1 eI x.2.1)],12,142⟩:S)) (ex:=fun(e:List Int×List Int×List qa×Int×qf)=>(Go.Exit.exit 4,⟨[(7,rP 8),(9,rO 9 1 w9.length),(12,rP 10)],[(0,B.blk 33 [dL 8 qd e.2.2.1]),(1,B.blk 76 [C.fn 40 [] [dP 2]]),(2,B.blk 22 [dO 7 1 e.1.length]),(3,B.blk 3 [dI e.2.2.2.1]),(4,B.blk 32 [dI e.2.2.2.2.Worst,dI e.2.2.2.2.Best,dI e.2.2.2.2.Pass]),(5,B.blk 118 [C.fn 58 [] [dP 0,dP 1,dP 3,dP 4,dP 5,dP 6]]),(6,B.blk 76 [C.fn 41 [] [dP 2]]),(7,bR 3 1 eI e.1),(8,B.blk 30 [dI b8_Kind,dI b8_N,dI b8_Min,dL 2 qe b8_Set,dL 5 qg b8_L]),(9,bR 4 1 eB w9),(10,B.blk 119 [dO 11 1 e.2.1.length]),(11,bR 3 1 eI e.2.1)],12,142⟩)) (step:=(zM rF w9 (qb.mk b8_Kind b8_N b8_Min b8_Set b8_L) t72 t73)) qhd qhS (fun e h=>by cases h) (fun x=>by
  obtain⟨w7,w11,b0,b3,b4,t74⟩:=x;have hF':∀(x0_Kind x0_N x0_Min:Int) (x0_Set:List qc) (x0_L:List qb) (w7:List Int) (v:List qa) (v2 v3_Worst v3_Best v3_Pass:Int) (w7_len:Nat),w7_len=w7.length→rE (.fn 58) 7 [R.agg [dI x0_Kind,dI x0_N,dI x0_Min,dL 2 qe x0_Set,dL 5 qg x0_L],rP 0,rP 1,rP 3,rP 4,rP 5,rP 6] [(0,B.blk 33 [dL 8 qd v]),(1,B.blk 76 [C.fn 40 [] [dP 2]]),(2,B.blk 22 [dO 7 1 w7_len]),(3,B.blk 3 [dI v2]),(4,B.blk 32 [dI v3_Worst,dI v3_Best,dI v3_Pass]),(5,B.blk 118 [C.fn 58 [] [dP 0,dP 1,dP 3,dP 4,dP 5,dP 6]]),(6,B.blk 76 [C.fn 41 [] [dP 2]]),(7,bR 3 1 eI w7)]=(rF ((qb.mk x0_Kind x0_N x0_Min x0_Set x0_L),w7,v,v2,(qf.mk v3_Worst v3_Best v3_Pass))).bind (fun e=>some (rL 1 eB e.1,[(0,B.blk 33 [dL 8 qd e.2.2.1]),(1,B.blk 76 [C.fn 40 [] [dP 2]]),(2,B.blk 22 [dO 7 1 e.2.1.length]),(3,B.blk 3 [dI e.2.2.2.1]),(4,B.blk 32 [dI e.2.2.2.2.Worst,dI e.2.2.2.2.Best,dI e.2.2.2.2.Pass]),(5,B.blk 118 [C.fn 58 [] [dP 0,dP 1,dP 3,dP 4,dP 5,dP 6]]),(6,B.blk 76 [C.fn 41 [] [dP 2]]),(7,bR 3 1 eI e.2.1)])):=by intro x0_Kind x0_N x0_Min x0_Set x0_L w7 v v2 v3_Worst v3_Best v3_Pass w7_len h0;subst h0;exact hF ((qb.mk x0_Kind x0_N x0_Min x0_Set x0_L),w7,v,v2,(qf.mk v3_Worst v3_Best v3_Pass))
  have:=qfb;have:=@qaR.eq_1;have:=@q6Z;have:=q3q rE rF hF hM hR;have:=@zM.eq_1;exact gA) (w7,w11,b0,b3,(qf.mk b4_Worst b4_Best b4_Pass),t74)
 exact h
noncomputable def zO (rF:(qb×List Int×List qa×Int×qf)→Option (List Bool×List Int×List qa×Int×qf)) (w7:List Int) (w10:List Int) (b0:List qa) (b3:Int) (b4:qf) (t21:Int):(List Bool×Int)→Option ((List Bool×Int)⊕(List Bool))|(w8,t22)=>if t22<((w8.length:Nat):Int) then if 0≤t22∧t22<((w10.length:Nat):Int) then Option.bind w10[Int.toNat t22]? fun(a2:Int)=>if 0≤t22∧t22<((w8.length:Nat):Int) then if Int.toNat t22+1≤w8.length then some (Sum.inl (List.set w8 (Int.toNat t22) (decide (t21≤a2)),w64 (t22+1))) else none else none else none else some (Sum.inr w8)
theorem q3o (rE:Orc) (rF:(qb×List Int×List qa×Int×qf)→Option (List Bool×List Int×List qa×Int×qf)) (hF:∀y,rE (.fn 58) 7 (qw y).1 (qw y).2=(rF y).bind fun e=>some (qV e)) (hM:∀g k a G,g≠58→rE (.fn g) k a G=ev g k a G) (hR:∀g asg bd k a G,rE (.rd g asg bd) k a G=evr g asg bd k a G):∀(w7:List Int) (w8:List Bool) (w10:List Int) (b0:List qa) (b3 b4_Worst b4_Best b4_Pass t21 t22:Int) (w8_len w7_len w10_len:Nat),w8_len=w8.length→w7_len=w7.length→w10_len=w10.length→XL2 rE 58 7 38 ⟨[(9,rO 8 1 w8_len),(12,rP 9),(21,rI t21),(22,rI t22)],[(0,B.blk 33 [dL 8 qd b0]),(1,B.blk 76 [C.fn 40 [] [dP 2]]),(2,B.blk 22 [dO 7 1 w7_len]),(3,B.blk 3 [dI b3]),(4,B.blk 32 [dI b4_Worst,dI b4_Best,dI b4_Pass]),(5,B.blk 118 [C.fn 58 [] [dP 0,dP 1,dP 3,dP 4,dP 5,dP 6]]),(6,B.blk 76 [C.fn 41 [] [dP 2]]),(7,bR 3 1 eI w7),(8,bR 4 1 eB w8),(9,B.blk 119 [dO 10 1 w10_len]),(10,bR 3 1 eI w10)],11,142⟩=(qq (zO rF w7 w10 b0 b3 (qf.mk b4_Worst b4_Best b4_Pass) t21) (w8,t22)).bind (fun(e:List Bool)=>some (Go.Exit.exit 8,⟨[(9,rO 8 1 e.length)],[(0,B.blk 33 [dL 8 qd b0]),(1,B.blk 76 [C.fn 40 [] [dP 2]]),(2,B.blk 22 [dO 7 1 w7.length]),(3,B.blk 3 [dI b3]),(4,B.blk 32 [dI b4_Worst,dI b4_Best,dI b4_Pass]),(5,B.blk 118 [C.fn 58 [] [dP 0,dP 1,dP 3,dP 4,dP 5,dP 6]]),(6,B.blk 76 [C.fn 41 [] [dP 2]]),(7,bR 3 1 eI w7),(8,bR 4 1 eB e)],9,142⟩)) :=
 by
 intro w7 w8 w10 b0 b3 b4_Worst b4_Best b4_Pass t21 t22 w8_len w7_len w10_len h0 h1 h2
 subst h0 h1 h2
 revert t22;revert w8;exact q3v qgq qi5 (fun e=>by exact⟨_,rfl,fun h=>by cases h⟩) fun w8 t22=>by
  have hF':∀(x0_Kind x0_N x0_Min:Int) (x0_Set:List qc) (x0_L:List qb) (w7:List Int) (v:List qa) (v2 v3_Worst v3_Best v3_Pass:Int) (w7_len:Nat),w7_len=w7.length→rE (.fn 58) 7 [R.agg [dI x0_Kind,dI x0_N,dI x0_Min,dL 2 qe x0_Set,dL 5 qg x0_L],rP 0,rP 1,rP 3,rP 4,rP 5,rP 6] [(0,B.blk 33 [dL 8 qd v]),(1,B.blk 76 [C.fn 40 [] [dP 2]]),(2,B.blk 22 [dO 7 1 w7_len]),(3,B.blk 3 [dI v2]),(4,B.blk 32 [dI v3_Worst,dI v3_Best,dI v3_Pass]),(5,B.blk 118 [C.fn 58 [] [dP 0,dP 1,dP 3,dP 4,dP 5,dP 6]]),(6,B.blk 76 [C.fn 41 [] [dP 2]]),(7,bR 3 1 eI w7)]=(rF ((qb.mk x0_Kind x0_N x0_Min x0_Set x0_L),w7,v,v2,(qf.mk v3_Worst v3_Best v3_Pass))).bind (fun e=>some (rL 1 eB e.1,[(0,B.blk 33 [dL 8 qd e.2.2.1]),(1,B.blk 76 [C.fn 40 [] [dP 2]]),(2,B.blk 22 [dO 7 1 e.2.1.length]),(3,B.blk 3 [dI e.2.2.2.1]),(4,B.blk 32 [dI e.2.2.2.2.Worst,dI e.2.2.2.2.Best,dI e.2.2.2.2.Pass]),(5,B.blk 118 [C.fn 58 [] [dP 0,dP 1,dP 3,dP 4,dP 5,dP 6]]),(6,B.blk 76 [C.fn 41 [] [dP 2]]),(7,bR 3 1 eI e.2.1)])):=by intro x0_Kind x0_N x0_Min x0_Set x0_L w7 v v2 v3_Worst v3_Best v3_Pass w7_len h0;subst h0;exact hF ((qb.mk x0_Kind x0_N x0_Min x0_Set x0_L),w7,v,v2,(qf.mk v3_Worst v3_Best v3_Pass))
  have:=qfb;have:=@qbx.eq_1;have:=@zO.eq_1;exact gA
noncomputable def ZN (rF:(qb×List Int×List qa×Int×qf)→Option (List Bool×List Int×List qa×Int×qf)):(qb×List Int×List qa×Int×qf)→Option (List Bool×List Int×List qa×Int×qf)|(x0,w7,v,v2,v3)=>if 0≤((v.length:Nat):Int) then if 0≤w64 (1*2 ^ min v.length (Go.IntKind.bits Go.IntKind.i64))∧1*w64 (1*2 ^ min v.length (Go.IntKind.bits Go.IntKind.i64))≤281474976710656∧w64 (1*2 ^ min v.length (Go.IntKind.bits Go.IntKind.i64))≤9223372036854775807 then if ZG x0=Bool.true then Option.bind (Jo x0.Kind) fun(a2:Sum Unit Unit)=>Sum.elim (fun(a3:Unit)=>Option.bind (qq (Z0 rF w7 v v2 v3 x0) (List.replicate (Int.toNat (w64 (1*2 ^ min v.length (Go.IntKind.bits Go.IntKind.i64)))) Bool.false,1)) fun(a5:List Bool)=>some (a5,w7,v,w64 (v2+1),v3)) (fun(a4:Unit)=>Option.bind (qq (Qu rF w7 v v2 v3 x0) (List.replicate (Int.toNat (w64 (1*2 ^ min v.length (Go.IntKind.bits Go.IntKind.i64)))) Bool.false,1)) fun(a6:List Bool)=>some (a6,w7,v,w64 (v2+1),v3)) a2 else if 0≤((Int.toNat (w64 (1*2 ^ min v.length (Go.IntKind.bits Go.IntKind.i64))):Nat):Int)∧8*((Int.toNat (w64 (1*2 ^ min v.length (Go.IntKind.bits Go.IntKind.i64))):Nat):Int)≤281474976710656∧((Int.toNat (w64 (1*2 ^ min v.length (Go.IntKind.bits Go.IntKind.i64))):Nat):Int)≤9223372036854775807 then Option.bind (qq (Qc rF w7 (List.replicate (Int.toNat (w64 (1*2 ^ min v.length (Go.IntKind.bits Go.IntKind.i64)))) Bool.false) v v2 v3 x0) (List.replicate (Int.toNat (w64 (1*2 ^ min v.length (Go.IntKind.bits Go.IntKind.i64)))) 0,1)) fun(a7:List Int)=>Option.bind (qq (zM rF (List.replicate (Int.toNat (w64 (1*2 ^ min v.length (Go.IntKind.bits Go.IntKind.i64)))) Bool.false) x0 x0.L ((x0.L.length:Nat):Int)) (w7,(a7,(v,(v2,(v3,0)))))) fun(a8:Prod (List Int) (Prod (List Int) (Prod (List qa) (Prod Int qf))))=>if(x0.Kind==3)=Bool.true then Option.bind (qq (zO rF a8.1 a8.2.1 a8.2.2.1 a8.2.2.2.1 a8.2.2.2.2 ((x0.L.length:Nat):Int)) (List.replicate (Int.toNat (w64 (1*2 ^ min v.length (Go.IntKind.bits Go.IntKind.i64)))) Bool.false,1)) fun(a9:List Bool)=>some (a9,a8.1,a8.2.2.1,a8.2.2.2.1,a8.2.2.2.2) else Option.bind (qq (zO rF a8.1 a8.2.1 a8.2.2.1 a8.2.2.2.1 a8.2.2.2.2 x0.N) (List.replicate (Int.toNat (w64 (1*2 ^ min v.length (Go.IntKind.bits Go.IntKind.i64)))) Bool.false,1)) fun(a10:List Bool)=>some (a10,a8.1,a8.2.2.1,a8.2.2.2.1,a8.2.2.2.2) else none else none else none
theorem q1W:q1T 58 7 qw qV ZN:=by
 intro rE rF hF hM hR x
 obtain⟨x0,w7,v,v2,v3⟩:=x
 show q3L rE 58 7 [R.agg [dI x0.Kind,dI x0.N,dI x0.Min,dL 2 qe x0.Set,dL 5 qg x0.L],rP 0,rP 1,rP 3,rP 4,rP 5,rP 6] [(0,B.blk 33 [dL 8 qd v]),(1,B.blk 76 [C.fn 40 [] [dP 2]]),(2,B.blk 22 [dO 7 1 w7.length]),(3,B.blk 3 [dI v2]),(4,B.blk 32 [dI v3.Worst,dI v3.Best,dI v3.Pass]),(5,B.blk 118 [C.fn 58 [] [dP 0,dP 1,dP 3,dP 4,dP 5,dP 6]]),(6,B.blk 76 [C.fn 41 [] [dP 2]]),(7,bR 3 1 eI w7)]=_
 have hF':∀(x0_Kind x0_N x0_Min:Int) (x0_Set:List qc) (x0_L:List qb) (w7:List Int) (v:List qa) (v2 v3_Worst v3_Best v3_Pass:Int) (w7_len:Nat),w7_len=w7.length→rE (.fn 58) 7 [R.agg [dI x0_Kind,dI x0_N,dI x0_Min,dL 2 qe x0_Set,dL 5 qg x0_L],rP 0,rP 1,rP 3,rP 4,rP 5,rP 6] [(0,B.blk 33 [dL 8 qd v]),(1,B.blk 76 [C.fn 40 [] [dP 2]]),(2,B.blk 22 [dO 7 1 w7_len]),(3,B.blk 3 [dI v2]),(4,B.blk 32 [dI v3_Worst,dI v3_Best,dI v3_Pass]),(5,B.blk 118 [C.fn 58 [] [dP 0,dP 1,dP 3,dP 4,dP 5,dP 6]]),(6,B.blk 76 [C.fn 41 [] [dP 2]]),(7,bR 3 1 eI w7)]=(rF ((qb.mk x0_Kind x0_N x0_Min x0_Set x0_L),w7,v,v2,(qf.mk v3_Worst v3_Best v3_Pass))).bind (fun e=>some (rL 1 eB e.1,[(0,B.blk 33 [dL 8 qd e.2.2.1]),(1,B.blk 76 [C.fn 40 [] [dP 2]]),(2,B.blk 22 [dO 7 1 e.2.1.length]),(3,B.blk 3 [dI e.2.2.2.1]),(4,B.blk 32 [dI e.2.2.2.2.Worst,dI e.2.2.2.2.Best,dI e.2.2.2.2.Pass]),(5,B.blk 118 [C.fn 58 [] [dP 0,dP 1,dP 3,dP 4,dP 5,dP 6]]),(6,B.blk 76 [C.fn 41 [] [dP 2]]),(7,bR 3 1 eI e.2.1)])):=by intro x0_Kind x0_N x0_Min x0_Set x0_L w7 v v2 v3_Worst v3_Best v3_Pass w7_len h0;subst h0;exact hF ((qb.mk x0_Kind x0_N x0_Min x0_Set x0_L),w7,v,v2,(qf.mk v3_Worst v3_Best v3_Pass))
 rw[q04 qkD qqe]
 have:=qfb;have:=@q1h;have:=@q2n;have:=q3M rE rF hF hM hR;have:=q3a rE rF hF hM hR;have:=q3B rE rF hF hM hR;have:=q3D rE rF hF hM hR;have:=q3o rE rF hF hM hR;have:=@ZN.eq_1;have:=@qV.eq_1;exact gA
theorem q0E:∀x y,qw x=qw y→x=y:=by
 rintro⟨⟨a0_0,a0_1,a0_2,a0_3,a0_4⟩,a1,a2,a3,⟨a4_0,a4_1,a4_2⟩⟩ ⟨⟨b0_0,b0_1,b0_2,b0_3,b0_4⟩,b1,b2,b3,⟨b4_0,b4_1,b4_2⟩⟩ h
 simp only[qw,Prod.mk.injEq,List.cons.injEq,R.c.injEq,R.agg.injEq,R.tup.injEq,C.d.injEq,C.own.injEq,C.ptr.injEq,C.eptr.injEq,D.int.injEq,D.bool.injEq,D.str.injEq,D.sl.injEq,B.blk.injEq,B.row.injEq,QB,ZV,QW,Zc,Zy,Zw,Zr,Jq,Zx,Jt,Jz,QA,true_and,and_true,List.nil_append] at h
 simp only[h]
theorem q4c:∀x y,qV x=qV y→x=y:=by
 rintro⟨a0,a1,a2,a3,⟨a4_0,a4_1,a4_2⟩⟩ ⟨b0,b1,b2,b3,⟨b4_0,b4_1,b4_2⟩⟩ h
 simp only[qV,Prod.mk.injEq,List.cons.injEq,R.c.injEq,R.agg.injEq,R.tup.injEq,C.d.injEq,C.own.injEq,C.ptr.injEq,C.eptr.injEq,D.int.injEq,D.bool.injEq,D.str.injEq,D.sl.injEq,B.blk.injEq,B.row.injEq,QB,ZV,QW,Zc,Zy,Zw,Zr,Jq,Zx,Jt,Jz,QA,true_and,and_true,List.nil_append] at h
 simp only[h]
noncomputable def qG:(qb×List Int×List qa×Int×qf)→Option (List Bool×List Int×List qa×Int×qf):=q3b 58 7 qw qV
theorem q6s (x:(qb×List Int×List qa×Int×qf)):qG x=ZN qG x:=q4x qqF.2.2.2 q0E q4c q1W x
theorem q5L (x0:qb) (w7:List Int) (v:List qa) (v2:Int) (v3:qf):ev 58 7 [R.agg [dI x0.Kind,dI x0.N,dI x0.Min,dL 2 qe x0.Set,dL 5 qg x0.L],rP 0,rP 1,rP 3,rP 4,rP 5,rP 6] [(0,B.blk 33 [dL 8 qd v]),(1,B.blk 76 [C.fn 40 [] [dP 2]]),(2,B.blk 22 [dO 7 1 w7.length]),(3,B.blk 3 [dI v2]),(4,B.blk 32 [dI v3.Worst,dI v3.Best,dI v3.Pass]),(5,B.blk 118 [C.fn 58 [] [dP 0,dP 1,dP 3,dP 4,dP 5,dP 6]]),(6,B.blk 76 [C.fn 41 [] [dP 2]]),(7,bR 3 1 eI w7)]=(qG (x0,w7,v,v2,v3)).bind (fun(e:List Bool×List Int×List qa×Int×qf)=>some (rL 1 eB e.1,[(0,B.blk 33 [dL 8 qd e.2.2.1]),(1,B.blk 76 [C.fn 40 [] [dP 2]]),(2,B.blk 22 [dO 7 1 e.2.1.length]),(3,B.blk 3 [dI e.2.2.2.1]),(4,B.blk 32 [dI e.2.2.2.2.Worst,dI e.2.2.2.2.Best,dI e.2.2.2.2.Pass]),(5,B.blk 118 [C.fn 58 [] [dP 0,dP 1,dP 3,dP 4,dP 5,dP 6]]),(6,B.blk 76 [C.fn 41 [] [dP 2]]),(7,bR 3 1 eI e.2.1)])):=(q2M qqF.2.2.2 q0E q1W (x0,w7,v,v2,v3))
theorem q5R:∀(x0_Kind x0_N x0_Min:Int) (x0_Set:List qc) (x0_L:List qb) (w7:List Int) (v:List qa) (v2 v3_Worst v3_Best v3_Pass:Int) (w7_len:Nat),w7_len=w7.length→ev 58 7 [R.agg [dI x0_Kind,dI x0_N,dI x0_Min,dL 2 qe x0_Set,dL 5 qg x0_L],rP 0,rP 1,rP 3,rP 4,rP 5,rP 6] [(0,B.blk 33 [dL 8 qd v]),(1,B.blk 76 [C.fn 40 [] [dP 2]]),(2,B.blk 22 [dO 7 1 w7_len]),(3,B.blk 3 [dI v2]),(4,B.blk 32 [dI v3_Worst,dI v3_Best,dI v3_Pass]),(5,B.blk 118 [C.fn 58 [] [dP 0,dP 1,dP 3,dP 4,dP 5,dP 6]]),(6,B.blk 76 [C.fn 41 [] [dP 2]]),(7,bR 3 1 eI w7)]=(qG ((qb.mk x0_Kind x0_N x0_Min x0_Set x0_L),w7,v,v2,(qf.mk v3_Worst v3_Best v3_Pass))).bind (fun(e:List Bool×List Int×List qa×Int×qf)=>some (rL 1 eB e.1,[(0,B.blk 33 [dL 8 qd e.2.2.1]),(1,B.blk 76 [C.fn 40 [] [dP 2]]),(2,B.blk 22 [dO 7 1 e.2.1.length]),(3,B.blk 3 [dI e.2.2.2.1]),(4,B.blk 32 [dI e.2.2.2.2.Worst,dI e.2.2.2.2.Best,dI e.2.2.2.2.Pass]),(5,B.blk 118 [C.fn 58 [] [dP 0,dP 1,dP 3,dP 4,dP 5,dP 6]]),(6,B.blk 76 [C.fn 41 [] [dP 2]]),(7,bR 3 1 eI e.2.1)])) :=
 by
 intro x0_Kind x0_N x0_Min x0_Set x0_L w7 v v2 v3_Worst v3_Best v3_Pass w7_len h0
 subst h0
 exact q5L (qb.mk x0_Kind x0_N x0_Min x0_Set x0_L) w7 v v2 (qf.mk v3_Worst v3_Best v3_Pass)
noncomputable def q0p (n:qb) (s:qf) (l:List qa) (w1:List Int):Option (List Bool×List Int):=Option.bind (qG (n,(w1,(l,(0,s))))) fun(a:Prod (List Bool) (Prod (List Int) (Prod (List qa) (Prod Int qf))))=>some (a.1,a.2.1)
theorem q8o:∀(n_Kind n_N n_Min:Int) (n_Set:List qc) (n_L:List qb) (s_Worst s_Best s_Pass:Int) (l:List qa) (w1:List Int) (w1_len:Nat),w1_len=w1.length→ev 33 1 [R.agg [dI n_Kind,dI n_N,dI n_Min,dL 2 qe n_Set,dL 5 qg n_L],R.agg [dI s_Worst,dI s_Best,dI s_Pass],rL 8 qd l,R.c (C.fn 40 [] [dP 0]),R.c (C.fn 41 [] [dP 0])] [(0,B.blk 22 [dO 1 1 w1_len]),(1,bR 3 1 eI w1)]=(q0p (qb.mk n_Kind n_N n_Min n_Set n_L) (qf.mk s_Worst s_Best s_Pass) l w1).bind (fun(e:List Bool×List Int)=>some (rL 1 eB e.1,[(0,B.blk 22 [dO 1 1 e.2.length]),(1,bR 3 1 eI e.2)])) :=
 by
 intro n_Kind n_N n_Min n_Set n_L s_Worst s_Best s_Pass l w1 w1_len h0
 subst h0
 rw[qt qvM qxz.2.2.2 qzZ]
 have:=qB5;have:=@q5R;have:=@q0p.eq_1;exact gA
noncomputable def ZB (w4:List Int) (b0:qb) (b1:qf) (t2:List qa) (t3:Int) (t16:Int) (t49:Int) (t50:Int):(List Int)→Option ((List Int)⊕(List Int))|w3=>Option.bind (q0p b0 b1 t2 w3) fun(a:Prod (List Bool) (List Int))=>if 0≤t3∧t3<((a.1.length:Nat):Int) then Option.bind a.1[Int.toNat t3]? fun(a2:Bool)=>if(!a2)=Bool.true then if 0≤t16∧t16<((a.2.length:Nat):Int) then Option.bind a.2[Int.toNat t16]? fun(a3:Int)=>if 0≤t16∧t16<((a.2.length:Nat):Int) then if Int.toNat t16+1≤a.2.length then some (Sum.inl (List.set a.2 (Int.toNat t16) (w64 (a3+1)))) else none else none else none else some (Sum.inr a.2) else none
theorem q5f:∀(w3 w4:List Int) (b0_Kind b0_N b0_Min:Int) (b0_Set:List qc) (b0_L:List qb) (b1_Worst b1_Best b1_Pass:Int) (t2:List qa) (t3 t16 t49 t50:Int) (w4_len w3_len:Nat),w4_len=w4.length→w3_len=w3.length→XL2 evo 18 0 14 ⟨[(2,rL 8 qd t2),(3,rI t3),(4,rP 0),(5,rP 1),(12,rP 2),(13,R.c (C.fn 40 [] [dP 2])),(14,R.c (C.fn 41 [] [dP 2])),(15,rO 4 1 w4_len),(16,rI t16),(49,rI t49),(50,rI t50)],[(0,B.blk 30 [dI b0_Kind,dI b0_N,dI b0_Min,dL 2 qe b0_Set,dL 5 qg b0_L]),(1,B.blk 32 [dI b1_Worst,dI b1_Best,dI b1_Pass]),(2,B.blk 22 [dO 3 1 w3_len]),(3,bR 3 1 eI w3),(4,bR 3 1 eI w4)],5,89⟩=(qq (ZB w4 (qb.mk b0_Kind b0_N b0_Min b0_Set b0_L) (qf.mk b1_Worst b1_Best b1_Pass) t2 t3 t16 t49 t50) w3).bind (fun(e:List Int)=>some (Go.Exit.exit 2,⟨[(2,rL 8 qd t2),(3,rI t3),(4,rP 0),(5,rP 1),(12,rP 2),(13,R.c (C.fn 40 [] [dP 2])),(14,R.c (C.fn 41 [] [dP 2])),(15,rO 4 1 w4.length),(16,rI t16),(49,rI t49),(50,rI t50)],[(0,B.blk 30 [dI b0_Kind,dI b0_N,dI b0_Min,dL 2 qe b0_Set,dL 5 qg b0_L]),(1,B.blk 32 [dI b1_Worst,dI b1_Best,dI b1_Pass]),(2,B.blk 22 [dO 3 1 e.length]),(3,bR 3 1 eI e),(4,bR 3 1 eI w4)],5,89⟩)) :=
 by
 intro w3 w4 b0_Kind b0_N b0_Min b0_Set b0_L b1_Worst b1_Best b1_Pass t2 t3 t16 t49 t50 w4_len w3_len h0 h1
 subst h0 h1
 revert w3;exact q89 qpV qpi (fun e=>by exact⟨_,rfl,fun h=>by cases h⟩) fun x=>by
  have:=qx7;have:=@qdj.eq_1;have:=@q8o;have:=@ZB.eq_1;exact gA
noncomputable def QU (b0:qb) (b1:qf) (t2:List qa) (t3:Int) (t49:Int):(List Int×List Int×Int)→Option ((List Int×List Int×Int)⊕(List Int))|(w3,w4,t50)=>if t50<t49 then if w3.length+1≤Go.maxLen∧(w3.length+1)*8≤140737488355328 then if 0≤t50 then if(QT Go.BinOp.and Go.IntKind.i64 (Int.fdiv t3 (2 ^ min (Int.toNat t50) (Go.IntKind.bits Go.IntKind.i64))) 1==0)=Bool.true then some (Sum.inl (w3++[(-1)],w4,w64 (t50+1))) else if 0≤t50∧t50<((w3.length+1:Nat):Int) then if Int.toNat t50≤w3.length then Option.bind (qq (ZB w4 b0 b1 t2 t3 t50 t49 t50) (List.set (w3++[(-1)]) (Int.toNat t50) 0)) fun(a:List Int)=>if 0≤t50∧t50<((a.length:Nat):Int) then Option.bind a[Int.toNat t50]? fun(a2:Int)=>if w4.length+1≤Go.maxLen∧(w4.length+1)*8≤140737488355328 then some (Sum.inl (a,w4++[a2],w64 (t50+1))) else none else none else none else none else none else none else some (Sum.inr w4)
theorem q61:∀(w3 w4:List Int) (b0_Kind b0_N b0_Min:Int) (b0_Set:List qc) (b0_L:List qb) (b1_Worst b1_Best b1_Pass:Int) (t2:List qa) (t3 t49 t50:Int) (w4_len w3_len:Nat),w4_len=w4.length→w3_len=w3.length→XL2 evo 18 0 9 ⟨[(2,rL 8 qd t2),(3,rI t3),(4,rP 0),(5,rP 1),(12,rP 2),(13,R.c (C.fn 40 [] [dP 2])),(14,R.c (C.fn 41 [] [dP 2])),(15,rO 4 1 w4_len),(49,rI t49),(50,rI t50)],[(0,B.blk 30 [dI b0_Kind,dI b0_N,dI b0_Min,dL 2 qe b0_Set,dL 5 qg b0_L]),(1,B.blk 32 [dI b1_Worst,dI b1_Best,dI b1_Pass]),(2,B.blk 22 [dO 3 1 w3_len]),(3,bR 3 1 eI w3),(4,bR 3 1 eI w4)],5,89⟩=(qq (QU (qb.mk b0_Kind b0_N b0_Min b0_Set b0_L) (qf.mk b1_Worst b1_Best b1_Pass) t2 t3 t49) (w3,w4,t50)).bind (fun(e:List Int)=>some (Go.Exit.exit 0,⟨[(15,rO 0 1 e.length)],[(0,bR 3 1 eI e)],1,89⟩)) :=
 by
 intro w3 w4 b0_Kind b0_N b0_Min b0_Set b0_L b1_Worst b1_Best b1_Pass t2 t3 t49 t50 w4_len w3_len h0 h1
 subst h0 h1
 revert t50;revert w4;revert w3;exact qzR quR qrL (fun e=>by exact⟨_,rfl,fun h=>by cases h⟩) fun w3 w4 t50=>by
  have:=qx7;have:=@qj7.eq_1;have:=@q5f;have:=@QU.eq_1;exact gA
theorem q3W:∀  (b0_Kind b0_N b0_Min:Int) (b0_Set:List qc) (b0_L:List qb) (b1_Worst b1_Best b1_Pass:Int) (t2:List qa) (t3 t49 t50:Int),XL2 evo 18 0 9 ⟨[(2,rL 8 qd t2),(3,rI t3),(4,rP 0),(5,rP 1),(12,rP 2),(13,R.c (C.fn 40 [] [dP 2])),(14,R.c (C.fn 41 [] [dP 2])),(15,rO 4 1 0),(49,rI t49),(50,rI t50)],[(0,B.blk 30 [dI b0_Kind,dI b0_N,dI b0_Min,dL 2 qe b0_Set,dL 5 qg b0_L]),(1,B.blk 32 [dI b1_Worst,dI b1_Best,dI b1_Pass]),(2,B.blk 22 [dO 3 1 0]),(3,B.row 3 1 []),(4,B.row 3 1 [])],5,89⟩=(qq (QU (qb.mk b0_Kind b0_N b0_Min b0_Set b0_L) (qf.mk b1_Worst b1_Best b1_Pass) t2 t3 t49) ([],[],t50)).bind (fun(e:List Int)=>some (Go.Exit.exit 0,⟨[(15,rO 0 1 e.length)],[(0,bR 3 1 eI e)],1,89⟩)):=by
 intro b0_Kind b0_N b0_Min b0_Set b0_L b1_Worst b1_Best b1_Pass t2 t3 t49 t50;have h:=q61 [] [] ((qb.mk b0_Kind b0_N b0_Min b0_Set b0_L)).Kind ((qb.mk b0_Kind b0_N b0_Min b0_Set b0_L)).N ((qb.mk b0_Kind b0_N b0_Min b0_Set b0_L)).Min ((qb.mk b0_Kind b0_N b0_Min b0_Set b0_L)).Set ((qb.mk b0_Kind b0_N b0_Min b0_Set b0_L)).L ((qf.mk b1_Worst b1_Best b1_Pass)).Worst ((qf.mk b1_Worst b1_Best b1_Pass)).Best ((qf.mk b1_Worst b1_Best b1_Pass)).Pass t2 t3 t49 t50 _ _ rfl rfl
 first
  | exact h
  | (simp only[rL,dL,bR,bZ,Nat.reduceAdd] at h;exact h)
noncomputable def zb (x0:qb) (x1:qf) (x2:List qa) (x3:Int):Option (List Int×Bool):=Option.bind (JP x0 x1 x2) fun(a:Prod (List Bool) Int)=>if(a.2 != 0)=Bool.true then some ([],Bool.false) else if x3<0 then some ([],Bool.false) else if((a.1.length:Nat):Int)≤x3 then some ([],Bool.false) else if 0≤x3∧x3<((a.1.length:Nat):Int) then Option.bind a.1[Int.toNat x3]? fun(a2:Bool)=>if(!a2)=Bool.true then some ([],Bool.false) else if 0≤((x2.length:Nat):Int)∧8*((x2.length:Nat):Int)≤281474976710656∧((x2.length:Nat):Int)≤9223372036854775807 then Option.bind (qq (QU x0 x1 x2 x3 ((x2.length:Nat):Int)) ([],([],0))) fun(a3:List Int)=>some (a3,Bool.true) else none else none
theorem q1F:∀(x0_Kind x0_N x0_Min:Int) (x0_Set:List qc) (x0_L:List qb) (x1_Worst x1_Best x1_Pass:Int) (x2:List qa) (x3:Int),ev 18 0 [R.agg [dI x0_Kind,dI x0_N,dI x0_Min,dL 2 qe x0_Set,dL 5 qg x0_L],R.agg [dI x1_Worst,dI x1_Best,dI x1_Pass],rL 8 qd x2,rI x3] []=(zb (qb.mk x0_Kind x0_N x0_Min x0_Set x0_L) (qf.mk x1_Worst x1_Best x1_Pass) x2 x3).bind (fun(e:List Int×Bool)=>some (R.tup [rL 1 eI e.1,rB e.2],[])) :=
 fun x0_Kind x0_N x0_Min x0_Set x0_L x1_Worst x1_Best x1_Pass x2 x3=>by
  rw[qt qrl qAg.2.2.2 qyO]
  have:=qx7;have:=@q5Z;have:=@q3W;have:=@zb.eq_1;exact gA
theorem q6d:∀(x0_Kind x0_N x0_Min x0_L0_Kind x0_L0_N x0_L0_Min x0_L0_Set0_School:Int) (x0_L0_Set0_Code:ByteArray) (x0_L1_Kind x0_L1_N x0_L1_Min x0_L1_Set0_School:Int) (x0_L1_Set0_Code:ByteArray) (x0_L1_Set1_School:Int) (x0_L1_Set1_Code:ByteArray) (x20_Course_School:Int) (x20_Course_Code:ByteArray) (x20_Credits x20_Grade x20_Day x20_Bundle x21_Course_School:Int) (x21_Course_Code:ByteArray) (x21_Credits x21_Grade x21_Day x21_Bundle x22_Course_School:Int) (x22_Course_Code:ByteArray) (x22_Credits x22_Grade x22_Day x22_Bundle x1_Worst x1_Best x1_Pass x3:Int),ev 18 0 [R.agg [dI x0_Kind,dI x0_N,dI x0_Min,C.d (D.sl 2 0 []),C.d (D.sl 5 2 [D.int .i64 x0_L0_Kind,D.int .i64 x0_L0_N,D.int .i64 x0_L0_Min,D.sl 2 1 [D.int .i64 x0_L0_Set0_School,D.str x0_L0_Set0_Code],D.sl 5 0 [],D.int .i64 x0_L1_Kind,D.int .i64 x0_L1_N,D.int .i64 x0_L1_Min,D.sl 2 2 [D.int .i64 x0_L1_Set0_School,D.str x0_L1_Set0_Code,D.int .i64 x0_L1_Set1_School,D.str x0_L1_Set1_Code],D.sl 5 0 []])],R.agg [dI x1_Worst,dI x1_Best,dI x1_Pass],R.c (C.d (D.sl 8 3 [D.int .i64 x20_Course_School,D.str x20_Course_Code,D.int .i64 x20_Credits,D.int .i64 x20_Grade,D.int .i64 x20_Day,D.sl 1 0 [],D.int .i64 x20_Bundle,D.sl 1 0 [],D.int .i64 x21_Course_School,D.str x21_Course_Code,D.int .i64 x21_Credits,D.int .i64 x21_Grade,D.int .i64 x21_Day,D.sl 1 0 [],D.int .i64 x21_Bundle,D.sl 1 0 [],D.int .i64 x22_Course_School,D.str x22_Course_Code,D.int .i64 x22_Credits,D.int .i64 x22_Grade,D.int .i64 x22_Day,D.sl 1 0 [],D.int .i64 x22_Bundle,D.sl 1 0 []])),rI x3] []=(zb (qb.mk x0_Kind x0_N x0_Min [] [(qb.mk x0_L0_Kind x0_L0_N x0_L0_Min [(qc.mk x0_L0_Set0_School x0_L0_Set0_Code)] []),(qb.mk x0_L1_Kind x0_L1_N x0_L1_Min [(qc.mk x0_L1_Set0_School x0_L1_Set0_Code),(qc.mk x0_L1_Set1_School x0_L1_Set1_Code)] [])]) (qf.mk x1_Worst x1_Best x1_Pass) [(qa.mk (qc.mk x20_Course_School x20_Course_Code) x20_Credits x20_Grade x20_Day [] x20_Bundle []),(qa.mk (qc.mk x21_Course_School x21_Course_Code) x21_Credits x21_Grade x21_Day [] x21_Bundle []),(qa.mk (qc.mk x22_Course_School x22_Course_Code) x22_Credits x22_Grade x22_Day [] x22_Bundle [])] x3).bind (fun(e:List Int×Bool)=>some (R.tup [rL 1 eI e.1,rB e.2],[])):=by
 intro x0_Kind x0_N x0_Min x0_L0_Kind x0_L0_N x0_L0_Min x0_L0_Set0_School x0_L0_Set0_Code x0_L1_Kind x0_L1_N x0_L1_Min x0_L1_Set0_School x0_L1_Set0_Code x0_L1_Set1_School x0_L1_Set1_Code x20_Course_School x20_Course_Code x20_Credits x20_Grade x20_Day x20_Bundle x21_Course_School x21_Course_Code x21_Credits x21_Grade x21_Day x21_Bundle x22_Course_School x22_Course_Code x22_Credits x22_Grade x22_Day x22_Bundle x1_Worst x1_Best x1_Pass x3;have h:=q1F ((qb.mk x0_Kind x0_N x0_Min [] [(qb.mk x0_L0_Kind x0_L0_N x0_L0_Min [(qc.mk x0_L0_Set0_School x0_L0_Set0_Code)] []),(qb.mk x0_L1_Kind x0_L1_N x0_L1_Min [(qc.mk x0_L1_Set0_School x0_L1_Set0_Code),(qc.mk x0_L1_Set1_School x0_L1_Set1_Code)] [])])).Kind ((qb.mk x0_Kind x0_N x0_Min [] [(qb.mk x0_L0_Kind x0_L0_N x0_L0_Min [(qc.mk x0_L0_Set0_School x0_L0_Set0_Code)] []),(qb.mk x0_L1_Kind x0_L1_N x0_L1_Min [(qc.mk x0_L1_Set0_School x0_L1_Set0_Code),(qc.mk x0_L1_Set1_School x0_L1_Set1_Code)] [])])).N ((qb.mk x0_Kind x0_N x0_Min [] [(qb.mk x0_L0_Kind x0_L0_N x0_L0_Min [(qc.mk x0_L0_Set0_School x0_L0_Set0_Code)] []),(qb.mk x0_L1_Kind x0_L1_N x0_L1_Min [(qc.mk x0_L1_Set0_School x0_L1_Set0_Code),(qc.mk x0_L1_Set1_School x0_L1_Set1_Code)] [])])).Min ((qb.mk x0_Kind x0_N x0_Min [] [(qb.mk x0_L0_Kind x0_L0_N x0_L0_Min [(qc.mk x0_L0_Set0_School x0_L0_Set0_Code)] []),(qb.mk x0_L1_Kind x0_L1_N x0_L1_Min [(qc.mk x0_L1_Set0_School x0_L1_Set0_Code),(qc.mk x0_L1_Set1_School x0_L1_Set1_Code)] [])])).Set ((qb.mk x0_Kind x0_N x0_Min [] [(qb.mk x0_L0_Kind x0_L0_N x0_L0_Min [(qc.mk x0_L0_Set0_School x0_L0_Set0_Code)] []),(qb.mk x0_L1_Kind x0_L1_N x0_L1_Min [(qc.mk x0_L1_Set0_School x0_L1_Set0_Code),(qc.mk x0_L1_Set1_School x0_L1_Set1_Code)] [])])).L ((qf.mk x1_Worst x1_Best x1_Pass)).Worst ((qf.mk x1_Worst x1_Best x1_Pass)).Best ((qf.mk x1_Worst x1_Best x1_Pass)).Pass [(qa.mk (qc.mk x20_Course_School x20_Course_Code) x20_Credits x20_Grade x20_Day [] x20_Bundle []),(qa.mk (qc.mk x21_Course_School x21_Course_Code) x21_Credits x21_Grade x21_Day [] x21_Bundle []),(qa.mk (qc.mk x22_Course_School x22_Course_Code) x22_Credits x22_Grade x22_Day [] x22_Bundle [])] x3
 first
  | exact h
  | (simp only[rL,dL,bR,bZ,Nat.reduceAdd] at h;exact h)
theorem qCi:okL 23 qhZ:=qu (qh qzc) (by kernel_rfl) (by kernel_rfl)
def qC5:=JA_ @qhZ.eq_1 (JA_ @Tryz.f23.eq_1 @qzc)
theorem qDS:okL 46 qjd:=qu (qh qym) (by kernel_rfl) (by kernel_rfl)
def qD5:=JA_ @qjd.eq_1 (JA_ @Tryz.f46.eq_1 @qym)
noncomputable def q1j (k:Int) (v:Int):Option Bool:=if k<(-1) then some Bool.true else some (decide (v≤k))
noncomputable def ZU (k:Int) (v:Int):Bool:=if k<(-1) then Bool.true else decide (v≤k)
theorem q6O (k v:Int):q1j k v=some (ZU k v):=by
 unfold q1j ZU
 simp only[zG]
theorem q8j:∀(k v:Int),ev 46 1 [rI k,rP 0] [(0,B.blk 3 [dI v])]=some (rB (ZU k v),[(0,B.blk 3 [dI v])]) :=
 fun k v=>by
  have h:ev 46 1 [rI k,rP 0] [(0,B.blk 3 [dI v])]=(q1j k v).bind (fun(e:Bool)=>some (rB e,[(0,B.blk 3 [dI v])])):=by
   rw[qt qym qzQ.2.2.2 qDS]
   have:=qD5;have:=@q1j.eq_1;exact gA
  rw[q6O] at h
  exact h
noncomputable def qU (b0:Int) (s:List Int) (t7:Int):Int→Option (Int⊕(Int⊕Unit))|t8=>if t8<t7 then if 0≤t8∧t8<((s.length:Nat):Int) then Option.bind s[Int.toNat t8]? fun(a:Int)=>if ZU a b0=Bool.true then some (Sum.inr (Sum.inl t8)) else some (Sum.inl (w64 (t8+1))) else none else some (Sum.inr (Sum.inr ()))
theorem q0k:∀(b0:Int) (s:List Int) (t7 t8:Int),XL2 evo 70 1 2 ⟨[(0,rL 1 eI s),(1,R.c (C.fn 46 [] [dP 0])),(7,rI t7),(8,rI t8)],[(0,B.blk 3 [dI b0])],1,19⟩=(qq (qU b0 s t7) t8).bind (Sum.elim (fun(e:Int)=>some (Go.Exit.ret,⟨[(4,rI e)],[(0,B.blk 3 [dI b0])],1,19⟩)) (fun(e:Unit)=>some (Go.Exit.exit 0,⟨[(4,R.any)],[(0,B.blk 3 [dI b0])],1,19⟩))) :=
 fun b0 s t7 t8=>by
  revert t8;exact q89 qmd qmW (fun e=>by rcases e with _|_<;>exact⟨_,rfl,fun h=>by cases h⟩) fun x=>by
   have:=qw3;have:=@qeC.eq_1;have:=@q8j;have:=@qU.eq_1;exact gA
noncomputable def Qm (s:List Int) (b0:Int):Option Int:=Option.bind (qq (qU b0 s ((s.length:Nat):Int)) 0) fun(a:Sum Int Unit)=>Sum.elim (fun(a2:Int)=>some a2) (fun(a3:Unit)=>some (-1)) a
theorem q0I:∀(s:List Int) (b0:Int),ev 70 1 [rL 1 eI s,R.c (C.fn 46 [] [dP 0])] [(0,B.blk 3 [dI b0])]=(Qm s b0).bind (fun(e:Int)=>some (rI e,[(0,B.blk 3 [dI b0])])) :=
 fun s b0=>by
  rw[qt quT qyp.2.2.2 qyV]
  have:=qw3;have:=@q0k;have:=@Qm.eq_1;exact gA
noncomputable def zj (s:List Int) (b0:Int):Option Bool:=Option.bind (Qm s b0) fun(a:Int)=>some (decide (0≤a))
theorem q0j:∀(s:List Int) (b0:Int),ev 42 1 [rL 1 eI s,R.c (C.fn 46 [] [dP 0])] [(0,B.blk 3 [dI b0])]=(zj s b0).bind (fun(e:Bool)=>some (rB e,[(0,B.blk 3 [dI b0])])) :=
 fun s b0=>by
  rw[qt qvA qwM.2.2.2 qAM]
  have:=qAS;have:=@q0I;have:=@zj.eq_1;exact gA
theorem qBd:okL 47 qeJ:=qu (qh qvp) (by kernel_rfl) (by kernel_rfl)
def qBe:=JA_ @qeJ.eq_1 (JA_ @Tryz.f47.eq_1 @qvp)
theorem qrr:lbO 47 8=qim:=zf (qh qvp) rfl
theorem qvk:okL 47 qim:=qH qBd (List.mem_of_getElem? (i:=0) (by kernel_rfl))
theorem qD7:okL 49 qiF:=qu (qh qxj) (by kernel_rfl) (by kernel_rfl)
def qBn:=JA_ @qiF.eq_1 (JA_ @Tryz.f49.eq_1 @qxj)
noncomputable def JE (k:Int) (v:List Int) (v2:Int):Option Bool:=if 0≤k∧k<((v.length:Nat):Int) then Option.bind v[Int.toNat k]? fun(a:Int)=>some (a==v2) else none
theorem q6r:∀(k:Int) (v:List Int) (v2:Int),ev 49 2 [rI k,rP 0,rP 1] [(0,B.blk 22 [dL 1 eI v]),(1,B.blk 3 [dI v2])]=(JE k v v2).bind (fun(e:Bool)=>some (rB e,[(0,B.blk 22 [dL 1 eI v]),(1,B.blk 3 [dI v2])])) :=
 fun k v v2=>by
  rw[qt qxj qzj.2.2.2 qD7]
  have:=qBn;have:=@JE.eq_1;exact gA
noncomputable def Z6 (b0:List Int) (b1:Int) (n:qb) (s:qf) (b4:qn) (t13:List qa) (t14:Int):(qn×Int)→Option ((qn×Int)⊕qn)|(out,t15)=>if t15<t14 then if 0≤t15∧t15<((t13.length:Nat):Int) then Option.bind t13[Int.toNat t15]? fun(a:qa)=>Option.bind (JE t15 b0 b1) fun(a2:Bool)=>if a2=Bool.true then if out.fine=Bool.true then Option.bind (Zn n s a) fun(a3:Bool)=>some (Sum.inl (qn.mk (w64 (out.many+1)) (w64 (out.credits+a.Credits)) a3,w64 (t15+1))) else some (Sum.inl (qn.mk (w64 (out.many+1)) (w64 (out.credits+a.Credits)) Bool.false,w64 (t15+1))) else some (Sum.inl (out,w64 (t15+1))) else none else some (Sum.inr out)
theorem q5h:∀(b0:List Int) (b1 n_Kind n_N n_Min:Int) (n_Set:List qc) (n_L:List qb) (s_Worst s_Best s_Pass b4_many b4_credits:Int) (b4_fine:Bool) (out_many out_credits:Int) (out_fine:Bool) (t13:List qa) (t14 t15:Int),XL2 evo 48 2 3 ⟨[(3,R.c (C.fn 49 [] [dP 0,dP 1])),(4,rP 2),(5,rP 3),(8,rP 4),(9,rP 5),(13,rL 8 qd t13),(14,rI t14),(15,rI t15)],[(0,B.blk 22 [dL 1 eI b0]),(1,B.blk 3 [dI b1]),(2,B.blk 30 [dI n_Kind,dI n_N,dI n_Min,dL 2 qe n_Set,dL 5 qg n_L]),(3,B.blk 32 [dI s_Worst,dI s_Best,dI s_Pass]),(4,B.blk 91 [dI b4_many,dI b4_credits,dB b4_fine]),(5,B.blk 91 [dI out_many,dI out_credits,dB out_fine])],6,44⟩=(qq (Z6 b0 b1 (qb.mk n_Kind n_N n_Min n_Set n_L) (qf.mk s_Worst s_Best s_Pass) (qn.mk b4_many b4_credits b4_fine) t13 t14) ((qn.mk out_many out_credits out_fine),t15)).bind (fun(e:qn)=>some (Go.Exit.exit 0,⟨[(8,rP 2),(9,rP 3)],[(0,B.blk 22 [dL 1 eI b0]),(1,B.blk 3 [dI b1]),(2,B.blk 91 [dI b4_many,dI b4_credits,dB b4_fine]),(3,B.blk 91 [dI e.many,dI e.credits,dB e.fine])],4,44⟩)) :=
 fun b0 b1 n_Kind n_N n_Min n_Set n_L s_Worst s_Best s_Pass b4_many b4_credits b4_fine out_many out_credits out_fine t13 t14 t15=>by
  have h:=q1A (E:=evo) (f:=48) (k:=2) (st:=fun x:qn×Int=>(⟨[(3,R.c (C.fn 49 [] [dP 0,dP 1])),(4,rP 2),(5,rP 3),(8,rP 4),(9,rP 5),(13,rL 8 qd t13),(14,rI t14),(15,rI x.2)],[(0,B.blk 22 [dL 1 eI b0]),(1,B.blk 3 [dI b1]),(2,B.blk 30 [dI n_Kind,dI n_N,dI n_Min,dL 2 qe n_Set,dL 5 qg n_L]),(3,B.blk 32 [dI s_Worst,dI s_Best,dI s_Pass]),(4,B.blk 91 [dI b4_many,dI b4_credits,dB b4_fine]),(5,B.blk 91 [dI x.1.many,dI x.1.credits,dB x.1.fine])],6,44⟩:S)) (ex:=fun(e:qn)=>(Go.Exit.exit 0,⟨[(8,rP 2),(9,rP 3)],[(0,B.blk 22 [dL 1 eI b0]),(1,B.blk 3 [dI b1]),(2,B.blk 91 [dI b4_many,dI b4_credits,dB b4_fine]),(3,B.blk 91 [dI e.many,dI e.credits,dB e.fine])],4,44⟩)) (step:=(Z6 b0 b1 (qb.mk n_Kind n_N n_Min n_Set n_L) (qf.mk s_Worst s_Best s_Pass) (qn.mk b4_many b4_credits b4_fine) t13 t14)) qmY qmZ (fun e h=>by cases h) (fun x=>by
   obtain⟨out,t15⟩:=x;have:=qvC;have:=@qf4.eq_1;have:=@q6r;have:=@q3c;have:=@Z6.eq_1;exact gA) ((qn.mk out_many out_credits out_fine),t15)
  exact h
noncomputable def q0x (n:qb) (s:qf) (l:List qa) (b0:List Int) (b1:Int):Option qn:=Option.bind (qq (Z6 b0 b1 n s (qn.mk 0 0 Bool.false) l ((l.length:Nat):Int)) (qn.mk 0 0 Bool.true,0)) fun(a:qn)=>some a
theorem q8e:∀(n_Kind n_N n_Min:Int) (n_Set:List qc) (n_L:List qb) (s_Worst s_Best s_Pass:Int) (l:List qa) (b0:List Int) (b1:Int),ev 48 2 [R.agg [dI n_Kind,dI n_N,dI n_Min,dL 2 qe n_Set,dL 5 qg n_L],R.agg [dI s_Worst,dI s_Best,dI s_Pass],rL 8 qd l,R.c (C.fn 49 [] [dP 0,dP 1])] [(0,B.blk 22 [dL 1 eI b0]),(1,B.blk 3 [dI b1])]=(q0x (qb.mk n_Kind n_N n_Min n_Set n_L) (qf.mk s_Worst s_Best s_Pass) l b0 b1).bind (fun(e:qn)=>some (R.agg [dI e.many,dI e.credits,dB e.fine],[(0,B.blk 22 [dL 1 eI b0]),(1,B.blk 3 [dI b1])])) :=
 fun n_Kind n_N n_Min n_Set n_L s_Worst s_Best s_Pass l b0 b1=>by
  rw[qt qrv qwR.2.2.2 qz4]
  have:=qvC;have:=@q5h;have:=@q0x.eq_1;exact gA
noncomputable def QF (x:(qb×qf×List qa×List Int×Int)):List R×List (Nat×B):=([R.agg [C.d (D.int .i64 x.1.Kind),C.d (D.int .i64 x.1.N),C.d (D.int .i64 x.1.Min),C.d (D.sl 2 x.1.Set.length (x.1.Set.flatMap qe)),C.d (D.sl 5 x.1.L.length (x.1.L.flatMap qg))],R.c (C.ptr 0 0),R.c (C.ptr 1 0),R.c (C.ptr 2 0),R.c (C.ptr 3 0),R.c (C.ptr 4 0)],[(0,B.blk 32 [C.d (D.int .i64 x.2.1.Worst),C.d (D.int .i64 x.2.1.Best),C.d (D.int .i64 x.2.1.Pass)]),(1,B.blk 33 [C.d (D.sl 8 x.2.2.1.length (x.2.2.1.flatMap qd))]),(2,B.blk 22 [C.d (D.sl 1 x.2.2.2.1.length (x.2.2.2.1.flatMap eI))]),(3,B.blk 3 [C.d (D.int .i64 x.2.2.2.2)]),(4,B.blk 89 [C.fn 47 [] [C.ptr 0 0,C.ptr 1 0,C.ptr 2 0,C.ptr 3 0,C.ptr 4 0]])])
noncomputable def Za:(Bool×Bool×qf×List qa×List Int×Int)→R×List (Nat×B):=fun(e:Bool×Bool×qf×List qa×List Int×Int)=>(R.tup [R.c (C.d (D.bool e.1)),R.c (C.d (D.bool e.2.1))],[(0,B.blk 32 [C.d (D.int .i64 e.2.2.1.Worst),C.d (D.int .i64 e.2.2.1.Best),C.d (D.int .i64 e.2.2.1.Pass)]),(1,B.blk 33 [C.d (D.sl 8 e.2.2.2.1.length (e.2.2.2.1.flatMap qd))]),(2,B.blk 22 [C.d (D.sl 1 e.2.2.2.2.1.length (e.2.2.2.2.1.flatMap eI))]),(3,B.blk 3 [C.d (D.int .i64 e.2.2.2.2.2)]),(4,B.blk 89 [C.fn 47 [] [C.ptr 0 0,C.ptr 1 0,C.ptr 2 0,C.ptr 3 0,C.ptr 4 0]])])
noncomputable def Zb (rF:(qb×qf×List qa×List Int×Int)→Option (Bool×Bool×qf×List qa×List Int×Int)) (b5:qb) (t35:List qb) (t36:Int):(qf×List qa×List Int×Int×Bool×Int×Bool×Int)→Option ((qf×List qa×List Int×Int×Bool×Int×Bool×Int)⊕(qf×List qa×List Int×Int×Bool×Int×Bool))|(b0,b1,b2,b3,t7,t10,t11,t37)=>if t37<t36 then if 0≤t37∧t37<((t35.length:Nat):Int) then Option.bind t35[Int.toNat t37]? fun(a2:qb)=>Option.bind (rF (a2,(b0,(b1,(b2,b3))))) fun(a3:Prod Bool (Prod Bool (Prod qf (Prod (List qa) (Prod (List Int) Int)))))=>if t7=Bool.true then if t11=Bool.true then if a3.2.1=Bool.true then some (Sum.inl (a3.2.2.1,a3.2.2.2.1,a3.2.2.2.2.1,a3.2.2.2.2.2,a3.1,w64 (t10+1),Bool.true,w64 (t37+1))) else some (Sum.inl (a3.2.2.1,a3.2.2.2.1,a3.2.2.2.2.1,a3.2.2.2.2.2,a3.1,t10,Bool.true,w64 (t37+1))) else if(!a3.2.1)=Bool.true then if(!a3.1)=Bool.true then if a3.2.1=Bool.true then some (Sum.inl (a3.2.2.1,a3.2.2.2.1,a3.2.2.2.2.1,a3.2.2.2.2.2,a3.1,w64 (t10+1),Bool.true,w64 (t37+1))) else some (Sum.inl (a3.2.2.1,a3.2.2.2.1,a3.2.2.2.2.1,a3.2.2.2.2.2,a3.1,t10,Bool.true,w64 (t37+1))) else if a3.2.1=Bool.true then some (Sum.inl (a3.2.2.1,a3.2.2.2.1,a3.2.2.2.2.1,a3.2.2.2.2.2,a3.1,w64 (t10+1),b5.Kind==3,w64 (t37+1))) else some (Sum.inl (a3.2.2.1,a3.2.2.2.1,a3.2.2.2.2.1,a3.2.2.2.2.2,a3.1,t10,b5.Kind==3,w64 (t37+1))) else if a3.2.1=Bool.true then some (Sum.inl (a3.2.2.1,a3.2.2.2.1,a3.2.2.2.2.1,a3.2.2.2.2.2,a3.1,w64 (t10+1),Bool.false,w64 (t37+1))) else some (Sum.inl (a3.2.2.1,a3.2.2.2.1,a3.2.2.2.2.1,a3.2.2.2.2.2,a3.1,t10,Bool.false,w64 (t37+1))) else if t11=Bool.true then if a3.2.1=Bool.true then some (Sum.inl (a3.2.2.1,a3.2.2.2.1,a3.2.2.2.2.1,a3.2.2.2.2.2,Bool.false,w64 (t10+1),Bool.true,w64 (t37+1))) else some (Sum.inl (a3.2.2.1,a3.2.2.2.1,a3.2.2.2.2.1,a3.2.2.2.2.2,Bool.false,t10,Bool.true,w64 (t37+1))) else if(!a3.2.1)=Bool.true then if(!a3.1)=Bool.true then if a3.2.1=Bool.true then some (Sum.inl (a3.2.2.1,a3.2.2.2.1,a3.2.2.2.2.1,a3.2.2.2.2.2,Bool.false,w64 (t10+1),Bool.true,w64 (t37+1))) else some (Sum.inl (a3.2.2.1,a3.2.2.2.1,a3.2.2.2.2.1,a3.2.2.2.2.2,Bool.false,t10,Bool.true,w64 (t37+1))) else if a3.2.1=Bool.true then some (Sum.inl (a3.2.2.1,a3.2.2.2.1,a3.2.2.2.2.1,a3.2.2.2.2.2,Bool.false,w64 (t10+1),b5.Kind==3,w64 (t37+1))) else some (Sum.inl (a3.2.2.1,a3.2.2.2.1,a3.2.2.2.2.1,a3.2.2.2.2.2,Bool.false,t10,b5.Kind==3,w64 (t37+1))) else if a3.2.1=Bool.true then some (Sum.inl (a3.2.2.1,a3.2.2.2.1,a3.2.2.2.2.1,a3.2.2.2.2.2,Bool.false,w64 (t10+1),Bool.false,w64 (t37+1))) else some (Sum.inl (a3.2.2.1,a3.2.2.2.1,a3.2.2.2.2.1,a3.2.2.2.2.2,Bool.false,t10,Bool.false,w64 (t37+1))) else none else some (Sum.inr (b0,b1,b2,b3,t7,t10,t11))
theorem q5D (rE:Orc) (rF:(qb×qf×List qa×List Int×Int)→Option (Bool×Bool×qf×List qa×List Int×Int)) (hF:∀y,rE (.fn 47) 5 (QF y).1 (QF y).2=(rF y).bind fun e=>some (Za e)) (hM:∀g k a G,g≠47→rE (.fn g) k a G=ev g k a G) (hR:∀g asg bd k a G,rE (.rd g asg bd) k a G=evr g asg bd k a G):∀(b0_Worst b0_Best b0_Pass:Int) (b1:List qa) (b2:List Int) (b3 b5_Kind b5_N b5_Min:Int) (b5_Set:List qc) (b5_L:List qb) (t7:Bool) (t10:Int) (t11:Bool) (t35:List qb) (t36 t37:Int),XL2 rE 47 5 8 ⟨[(5,rP 4),(6,rP 5),(7,rB t7),(10,rI t10),(11,rB t11),(35,rL 5 qg t35),(36,rI t36),(37,rI t37)],[(0,B.blk 32 [dI b0_Worst,dI b0_Best,dI b0_Pass]),(1,B.blk 33 [dL 8 qd b1]),(2,B.blk 22 [dL 1 eI b2]),(3,B.blk 3 [dI b3]),(4,B.blk 89 [C.fn 47 [] [dP 0,dP 1,dP 2,dP 3,dP 4]]),(5,B.blk 30 [dI b5_Kind,dI b5_N,dI b5_Min,dL 2 qe b5_Set,dL 5 qg b5_L])],6,78⟩=(qq (Zb rF (qb.mk b5_Kind b5_N b5_Min b5_Set b5_L) t35 t36) ((qf.mk b0_Worst b0_Best b0_Pass),b1,b2,b3,t7,t10,t11,t37)).bind (fun(e:qf×List qa×List Int×Int×Bool×Int×Bool)=>some (Go.Exit.exit 0,⟨[(6,rP 5),(7,rB e.2.2.2.2.1),(10,rI e.2.2.2.2.2.1),(11,rB e.2.2.2.2.2.2)],[(0,B.blk 32 [dI e.1.Worst,dI e.1.Best,dI e.1.Pass]),(1,B.blk 33 [dL 8 qd e.2.1]),(2,B.blk 22 [dL 1 eI e.2.2.1]),(3,B.blk 3 [dI e.2.2.2.1]),(4,B.blk 89 [C.fn 47 [] [dP 0,dP 1,dP 2,dP 3,dP 4]]),(5,B.blk 30 [dI b5_Kind,dI b5_N,dI b5_Min,dL 2 qe b5_Set,dL 5 qg b5_L])],6,78⟩)) :=
 fun b0_Worst b0_Best b0_Pass b1 b2 b3 b5_Kind b5_N b5_Min b5_Set b5_L t7 t10 t11 t35 t36 t37=>by
  have h:=q1A (E:=rE) (f:=47) (k:=5) (st:=fun x:qf×List qa×List Int×Int×Bool×Int×Bool×Int=>(⟨[(5,rP 4),(6,rP 5),(7,rB x.2.2.2.2.1),(10,rI x.2.2.2.2.2.1),(11,rB x.2.2.2.2.2.2.1),(35,rL 5 qg t35),(36,rI t36),(37,rI x.2.2.2.2.2.2.2)],[(0,B.blk 32 [dI x.1.Worst,dI x.1.Best,dI x.1.Pass]),(1,B.blk 33 [dL 8 qd x.2.1]),(2,B.blk 22 [dL 1 eI x.2.2.1]),(3,B.blk 3 [dI x.2.2.2.1]),(4,B.blk 89 [C.fn 47 [] [dP 0,dP 1,dP 2,dP 3,dP 4]]),(5,B.blk 30 [dI b5_Kind,dI b5_N,dI b5_Min,dL 2 qe b5_Set,dL 5 qg b5_L])],6,78⟩:S)) (ex:=fun(e:qf×List qa×List Int×Int×Bool×Int×Bool)=>(Go.Exit.exit 0,⟨[(6,rP 5),(7,rB e.2.2.2.2.1),(10,rI e.2.2.2.2.2.1),(11,rB e.2.2.2.2.2.2)],[(0,B.blk 32 [dI e.1.Worst,dI e.1.Best,dI e.1.Pass]),(1,B.blk 33 [dL 8 qd e.2.1]),(2,B.blk 22 [dL 1 eI e.2.2.1]),(3,B.blk 3 [dI e.2.2.2.1]),(4,B.blk 89 [C.fn 47 [] [dP 0,dP 1,dP 2,dP 3,dP 4]]),(5,B.blk 30 [dI b5_Kind,dI b5_N,dI b5_Min,dL 2 qe b5_Set,dL 5 qg b5_L])],6,78⟩)) (step:=(Zb rF (qb.mk b5_Kind b5_N b5_Min b5_Set b5_L) t35 t36)) qrr qvk (fun e h=>by cases h) (fun x=>by
   obtain⟨b0,b1,b2,b3,t7,t10,t11,t37⟩:=x;have hF':∀(x0_Kind x0_N x0_Min:Int) (x0_Set:List qc) (x0_L:List qb) (v_Worst v_Best v_Pass:Int) (v2:List qa) (v3:List Int) (v4:Int),rE (.fn 47) 5 [R.agg [dI x0_Kind,dI x0_N,dI x0_Min,dL 2 qe x0_Set,dL 5 qg x0_L],rP 0,rP 1,rP 2,rP 3,rP 4] [(0,B.blk 32 [dI v_Worst,dI v_Best,dI v_Pass]),(1,B.blk 33 [dL 8 qd v2]),(2,B.blk 22 [dL 1 eI v3]),(3,B.blk 3 [dI v4]),(4,B.blk 89 [C.fn 47 [] [dP 0,dP 1,dP 2,dP 3,dP 4]])]=(rF ((qb.mk x0_Kind x0_N x0_Min x0_Set x0_L),(qf.mk v_Worst v_Best v_Pass),v2,v3,v4)).bind (fun e=>some (R.tup [rB e.1,rB e.2.1],[(0,B.blk 32 [dI e.2.2.1.Worst,dI e.2.2.1.Best,dI e.2.2.1.Pass]),(1,B.blk 33 [dL 8 qd e.2.2.2.1]),(2,B.blk 22 [dL 1 eI e.2.2.2.2.1]),(3,B.blk 3 [dI e.2.2.2.2.2]),(4,B.blk 89 [C.fn 47 [] [dP 0,dP 1,dP 2,dP 3,dP 4]])])):=fun x0_Kind x0_N x0_Min x0_Set x0_L v_Worst v_Best v_Pass v2 v3 v4=>hF ((qb.mk x0_Kind x0_N x0_Min x0_Set x0_L),(qf.mk v_Worst v_Best v_Pass),v2,v3,v4)
   have:=qBe;have:=@qim.eq_1;have:=@Zb.eq_1;exact gA) ((qf.mk b0_Worst b0_Best b0_Pass),b1,b2,b3,t7,t10,t11,t37)
  exact h
noncomputable def Jf (rF:(qb×qf×List qa×List Int×Int)→Option (Bool×Bool×qf×List qa×List Int×Int)):(qb×qf×List qa×List Int×Int)→Option (Bool×Bool×qf×List qa×List Int×Int)|(x0,v,v2,v3,v4)=>if ZG x0=Bool.true then Option.bind (q0x x0 v v2 v3 v4) fun(a2:qn)=>Option.bind (Jo x0.Kind) fun(a3:Sum Unit Unit)=>Sum.elim (fun(a4:Unit)=>some (a2.many==0,qO a2 x0,v,v2,v3,w64 (v4+1))) (fun(a5:Unit)=>some (a2.many==0,zg a2 x0,v,v2,v3,w64 (v4+1))) a3 else Option.bind (qq (Zb rF x0 x0.L ((x0.L.length:Nat):Int)) (v,(v2,(v3,(v4,(Bool.true,(0,(Bool.false,0)))))))) fun(a6:Prod qf (Prod (List qa) (Prod (List Int) (Prod Int (Prod Bool (Prod Int Bool))))))=>if(!a6.2.2.2.2.2.2)=Bool.true then some (a6.2.2.2.2.1,decide (x0.N≤a6.2.2.2.2.2.1),a6.1,a6.2.1,a6.2.2.1,a6.2.2.2.1) else some (a6.2.2.2.2.1,Bool.false,a6.1,a6.2.1,a6.2.2.1,a6.2.2.2.1)
theorem q3l:q1T 47 5 QF Za Jf:=by
 intro rE rF hF hM hR x
 obtain⟨x0,v,v2,v3,v4⟩:=x
 show q3L rE 47 5 [R.agg [dI x0.Kind,dI x0.N,dI x0.Min,dL 2 qe x0.Set,dL 5 qg x0.L],rP 0,rP 1,rP 2,rP 3,rP 4] [(0,B.blk 32 [dI v.Worst,dI v.Best,dI v.Pass]),(1,B.blk 33 [dL 8 qd v2]),(2,B.blk 22 [dL 1 eI v3]),(3,B.blk 3 [dI v4]),(4,B.blk 89 [C.fn 47 [] [dP 0,dP 1,dP 2,dP 3,dP 4]])]=_
 have hF':∀(x0_Kind x0_N x0_Min:Int) (x0_Set:List qc) (x0_L:List qb) (v_Worst v_Best v_Pass:Int) (v2:List qa) (v3:List Int) (v4:Int),rE (.fn 47) 5 [R.agg [dI x0_Kind,dI x0_N,dI x0_Min,dL 2 qe x0_Set,dL 5 qg x0_L],rP 0,rP 1,rP 2,rP 3,rP 4] [(0,B.blk 32 [dI v_Worst,dI v_Best,dI v_Pass]),(1,B.blk 33 [dL 8 qd v2]),(2,B.blk 22 [dL 1 eI v3]),(3,B.blk 3 [dI v4]),(4,B.blk 89 [C.fn 47 [] [dP 0,dP 1,dP 2,dP 3,dP 4]])]=(rF ((qb.mk x0_Kind x0_N x0_Min x0_Set x0_L),(qf.mk v_Worst v_Best v_Pass),v2,v3,v4)).bind (fun e=>some (R.tup [rB e.1,rB e.2.1],[(0,B.blk 32 [dI e.2.2.1.Worst,dI e.2.2.1.Best,dI e.2.2.1.Pass]),(1,B.blk 33 [dL 8 qd e.2.2.2.1]),(2,B.blk 22 [dL 1 eI e.2.2.2.2.1]),(3,B.blk 3 [dI e.2.2.2.2.2]),(4,B.blk 89 [C.fn 47 [] [dP 0,dP 1,dP 2,dP 3,dP 4]])])):=fun x0_Kind x0_N x0_Min x0_Set x0_L v_Worst v_Best v_Pass v2 v3 v4=>hF ((qb.mk x0_Kind x0_N x0_Min x0_Set x0_L),(qf.mk v_Worst v_Best v_Pass),v2,v3,v4)
 rw[q04 qvp qBd]
 have:=qBe;have:=@q1h;have:=@q8e;have:=@q2n;have:=@JS;have:=@q0G;have:=q5D rE rF hF hM hR;have:=@Jf.eq_1;have:=@Za.eq_1;exact gA
theorem q1d:∀x y,QF x=QF y→x=y:=by
 rintro⟨⟨a0_0,a0_1,a0_2,a0_3,a0_4⟩,⟨a1_0,a1_1,a1_2⟩,a2,a3,a4⟩ ⟨⟨b0_0,b0_1,b0_2,b0_3,b0_4⟩,⟨b1_0,b1_1,b1_2⟩,b2,b3,b4⟩ h
 simp only[QF,Prod.mk.injEq,List.cons.injEq,R.c.injEq,R.agg.injEq,R.tup.injEq,C.d.injEq,C.own.injEq,C.ptr.injEq,C.eptr.injEq,D.int.injEq,D.bool.injEq,D.str.injEq,D.sl.injEq,B.blk.injEq,B.row.injEq,QB,ZV,QW,Zc,Zy,Zw,Zr,Jq,Zx,Jt,Jz,QA,true_and,and_true,List.nil_append] at h
 simp only[h]
theorem q5G:∀x y,Za x=Za y→x=y:=by
 rintro⟨a0,a1,⟨a2_0,a2_1,a2_2⟩,a3,a4,a5⟩ ⟨b0,b1,⟨b2_0,b2_1,b2_2⟩,b3,b4,b5⟩ h
 simp only[Za,Prod.mk.injEq,List.cons.injEq,R.c.injEq,R.agg.injEq,R.tup.injEq,C.d.injEq,C.own.injEq,C.ptr.injEq,C.eptr.injEq,D.int.injEq,D.bool.injEq,D.str.injEq,D.sl.injEq,B.blk.injEq,B.row.injEq,QB,ZV,QW,Zc,Zy,Zw,Zr,Jq,Zx,Jt,Jz,QA,true_and,and_true,List.nil_append] at h
 simp only[h]
noncomputable def ZE:(qb×qf×List qa×List Int×Int)→Option (Bool×Bool×qf×List qa×List Int×Int):=q3b 47 5 QF Za
theorem q7R (x:(qb×qf×List qa×List Int×Int)):ZE x=Jf ZE x:=q4x qwX.2.2.2 q1d q5G q3l x
theorem q6T (x0:qb) (v:qf) (v2:List qa) (v3:List Int) (v4:Int):ev 47 5 [R.agg [dI x0.Kind,dI x0.N,dI x0.Min,dL 2 qe x0.Set,dL 5 qg x0.L],rP 0,rP 1,rP 2,rP 3,rP 4] [(0,B.blk 32 [dI v.Worst,dI v.Best,dI v.Pass]),(1,B.blk 33 [dL 8 qd v2]),(2,B.blk 22 [dL 1 eI v3]),(3,B.blk 3 [dI v4]),(4,B.blk 89 [C.fn 47 [] [dP 0,dP 1,dP 2,dP 3,dP 4]])]=(ZE (x0,v,v2,v3,v4)).bind (fun(e:Bool×Bool×qf×List qa×List Int×Int)=>some (R.tup [rB e.1,rB e.2.1],[(0,B.blk 32 [dI e.2.2.1.Worst,dI e.2.2.1.Best,dI e.2.2.1.Pass]),(1,B.blk 33 [dL 8 qd e.2.2.2.1]),(2,B.blk 22 [dL 1 eI e.2.2.2.2.1]),(3,B.blk 3 [dI e.2.2.2.2.2]),(4,B.blk 89 [C.fn 47 [] [dP 0,dP 1,dP 2,dP 3,dP 4]])])):=(q2M qwX.2.2.2 q1d q3l (x0,v,v2,v3,v4))
theorem q7Y:∀(x0_Kind x0_N x0_Min:Int) (x0_Set:List qc) (x0_L:List qb) (v_Worst v_Best v_Pass:Int) (v2:List qa) (v3:List Int) (v4:Int),ev 47 5 [R.agg [dI x0_Kind,dI x0_N,dI x0_Min,dL 2 qe x0_Set,dL 5 qg x0_L],rP 0,rP 1,rP 2,rP 3,rP 4] [(0,B.blk 32 [dI v_Worst,dI v_Best,dI v_Pass]),(1,B.blk 33 [dL 8 qd v2]),(2,B.blk 22 [dL 1 eI v3]),(3,B.blk 3 [dI v4]),(4,B.blk 89 [C.fn 47 [] [dP 0,dP 1,dP 2,dP 3,dP 4]])]=(ZE ((qb.mk x0_Kind x0_N x0_Min x0_Set x0_L),(qf.mk v_Worst v_Best v_Pass),v2,v3,v4)).bind (fun(e:Bool×Bool×qf×List qa×List Int×Int)=>some (R.tup [rB e.1,rB e.2.1],[(0,B.blk 32 [dI e.2.2.1.Worst,dI e.2.2.1.Best,dI e.2.2.1.Pass]),(1,B.blk 33 [dL 8 qd e.2.2.2.1]),(2,B.blk 22 [dL 1 eI e.2.2.2.2.1]),(3,B.blk 3 [dI e.2.2.2.2.2]),(4,B.blk 89 [C.fn 47 [] [dP 0,dP 1,dP 2,dP 3,dP 4]])])) :=
 fun x0_Kind x0_N x0_Min x0_Set x0_L v_Worst v_Best v_Pass v2 v3 v4=>q6T (qb.mk x0_Kind x0_N x0_Min x0_Set x0_L) (qf.mk v_Worst v_Best v_Pass) v2 v3 v4
noncomputable def ZX (n:qb) (s:qf) (l:List qa) (list:List Int):Option Bool:=Option.bind (JF n) fun(a:List qb)=>Option.bind (JD n) fun(a2:Int)=>if(a2 != 0)=Bool.true then some Bool.false else if(((list.length:Nat):Int) != ((l.length:Nat):Int))=Bool.true then some Bool.false else Option.bind (zj list ((a.length:Nat):Int)) fun(a3:Bool)=>if a3=Bool.true then some Bool.false else Option.bind (ZE (n,(s,(l,(list,0))))) fun(a4:Prod Bool (Prod Bool (Prod qf (Prod (List qa) (Prod (List Int) Int)))))=>some a4.2.1
theorem q9X:∀(n_Kind n_N n_Min:Int) (n_Set:List qc) (n_L:List qb) (s_Worst s_Best s_Pass:Int) (l:List qa) (list:List Int),ev 23 0 [R.agg [dI n_Kind,dI n_N,dI n_Min,dL 2 qe n_Set,dL 5 qg n_L],R.agg [dI s_Worst,dI s_Best,dI s_Pass],rL 8 qd l,rL 1 eI list] []=(ZX (qb.mk n_Kind n_N n_Min n_Set n_L) (qf.mk s_Worst s_Best s_Pass) l list).bind (fun(e:Bool)=>some (rB e,[])) :=
 fun n_Kind n_N n_Min n_Set n_L s_Worst s_Best s_Pass l list=>by
  rw[qt qzc qAr.2.2.2 qCi]
  have:=qC5;have:=@q3n;have:=@q4f;have:=@q0j;have:=@q7Y;have:=@ZX.eq_1;exact gA
theorem q7g:∀(n_Kind n_N n_Min n_L0_Kind n_L0_N n_L0_Min n_L0_Set0_School:Int) (n_L0_Set0_Code:ByteArray) (n_L1_Kind n_L1_N n_L1_Min n_L1_Set0_School:Int) (n_L1_Set0_Code:ByteArray) (n_L1_Set1_School:Int) (n_L1_Set1_Code:ByteArray) (l0_Course_School:Int) (l0_Course_Code:ByteArray) (l0_Credits l0_Grade l0_Day l0_Bundle l1_Course_School:Int) (l1_Course_Code:ByteArray) (l1_Credits l1_Grade l1_Day l1_Bundle l2_Course_School:Int) (l2_Course_Code:ByteArray) (l2_Credits l2_Grade l2_Day l2_Bundle list0 list1 list2 s_Worst s_Best s_Pass:Int),ev 23 0 [R.agg [dI n_Kind,dI n_N,dI n_Min,C.d (D.sl 2 0 []),C.d (D.sl 5 2 [D.int .i64 n_L0_Kind,D.int .i64 n_L0_N,D.int .i64 n_L0_Min,D.sl 2 1 [D.int .i64 n_L0_Set0_School,D.str n_L0_Set0_Code],D.sl 5 0 [],D.int .i64 n_L1_Kind,D.int .i64 n_L1_N,D.int .i64 n_L1_Min,D.sl 2 2 [D.int .i64 n_L1_Set0_School,D.str n_L1_Set0_Code,D.int .i64 n_L1_Set1_School,D.str n_L1_Set1_Code],D.sl 5 0 []])],R.agg [dI s_Worst,dI s_Best,dI s_Pass],R.c (C.d (D.sl 8 3 [D.int .i64 l0_Course_School,D.str l0_Course_Code,D.int .i64 l0_Credits,D.int .i64 l0_Grade,D.int .i64 l0_Day,D.sl 1 0 [],D.int .i64 l0_Bundle,D.sl 1 0 [],D.int .i64 l1_Course_School,D.str l1_Course_Code,D.int .i64 l1_Credits,D.int .i64 l1_Grade,D.int .i64 l1_Day,D.sl 1 0 [],D.int .i64 l1_Bundle,D.sl 1 0 [],D.int .i64 l2_Course_School,D.str l2_Course_Code,D.int .i64 l2_Credits,D.int .i64 l2_Grade,D.int .i64 l2_Day,D.sl 1 0 [],D.int .i64 l2_Bundle,D.sl 1 0 []])),R.c (C.d (D.sl 1 3 [D.int .i64 list0,D.int .i64 list1,D.int .i64 list2]))] []=(ZX (qb.mk n_Kind n_N n_Min [] [(qb.mk n_L0_Kind n_L0_N n_L0_Min [(qc.mk n_L0_Set0_School n_L0_Set0_Code)] []),(qb.mk n_L1_Kind n_L1_N n_L1_Min [(qc.mk n_L1_Set0_School n_L1_Set0_Code),(qc.mk n_L1_Set1_School n_L1_Set1_Code)] [])]) (qf.mk s_Worst s_Best s_Pass) [(qa.mk (qc.mk l0_Course_School l0_Course_Code) l0_Credits l0_Grade l0_Day [] l0_Bundle []),(qa.mk (qc.mk l1_Course_School l1_Course_Code) l1_Credits l1_Grade l1_Day [] l1_Bundle []),(qa.mk (qc.mk l2_Course_School l2_Course_Code) l2_Credits l2_Grade l2_Day [] l2_Bundle [])] [list0,list1,list2]).bind (fun(e:Bool)=>some (rB e,[])):=by
 intro n_Kind n_N n_Min n_L0_Kind n_L0_N n_L0_Min n_L0_Set0_School n_L0_Set0_Code n_L1_Kind n_L1_N n_L1_Min n_L1_Set0_School n_L1_Set0_Code n_L1_Set1_School n_L1_Set1_Code l0_Course_School l0_Course_Code l0_Credits l0_Grade l0_Day l0_Bundle l1_Course_School l1_Course_Code l1_Credits l1_Grade l1_Day l1_Bundle l2_Course_School l2_Course_Code l2_Credits l2_Grade l2_Day l2_Bundle list0 list1 list2 s_Worst s_Best s_Pass;have h:=q9X ((qb.mk n_Kind n_N n_Min [] [(qb.mk n_L0_Kind n_L0_N n_L0_Min [(qc.mk n_L0_Set0_School n_L0_Set0_Code)] []),(qb.mk n_L1_Kind n_L1_N n_L1_Min [(qc.mk n_L1_Set0_School n_L1_Set0_Code),(qc.mk n_L1_Set1_School n_L1_Set1_Code)] [])])).Kind ((qb.mk n_Kind n_N n_Min [] [(qb.mk n_L0_Kind n_L0_N n_L0_Min [(qc.mk n_L0_Set0_School n_L0_Set0_Code)] []),(qb.mk n_L1_Kind n_L1_N n_L1_Min [(qc.mk n_L1_Set0_School n_L1_Set0_Code),(qc.mk n_L1_Set1_School n_L1_Set1_Code)] [])])).N ((qb.mk n_Kind n_N n_Min [] [(qb.mk n_L0_Kind n_L0_N n_L0_Min [(qc.mk n_L0_Set0_School n_L0_Set0_Code)] []),(qb.mk n_L1_Kind n_L1_N n_L1_Min [(qc.mk n_L1_Set0_School n_L1_Set0_Code),(qc.mk n_L1_Set1_School n_L1_Set1_Code)] [])])).Min ((qb.mk n_Kind n_N n_Min [] [(qb.mk n_L0_Kind n_L0_N n_L0_Min [(qc.mk n_L0_Set0_School n_L0_Set0_Code)] []),(qb.mk n_L1_Kind n_L1_N n_L1_Min [(qc.mk n_L1_Set0_School n_L1_Set0_Code),(qc.mk n_L1_Set1_School n_L1_Set1_Code)] [])])).Set ((qb.mk n_Kind n_N n_Min [] [(qb.mk n_L0_Kind n_L0_N n_L0_Min [(qc.mk n_L0_Set0_School n_L0_Set0_Code)] []),(qb.mk n_L1_Kind n_L1_N n_L1_Min [(qc.mk n_L1_Set0_School n_L1_Set0_Code),(qc.mk n_L1_Set1_School n_L1_Set1_Code)] [])])).L ((qf.mk s_Worst s_Best s_Pass)).Worst ((qf.mk s_Worst s_Best s_Pass)).Best ((qf.mk s_Worst s_Best s_Pass)).Pass [(qa.mk (qc.mk l0_Course_School l0_Course_Code) l0_Credits l0_Grade l0_Day [] l0_Bundle []),(qa.mk (qc.mk l1_Course_School l1_Course_Code) l1_Credits l1_Grade l1_Day [] l1_Bundle []),(qa.mk (qc.mk l2_Course_School l2_Course_Code) l2_Credits l2_Grade l2_Day [] l2_Bundle [])] [list0,list1,list2]
 first
  | exact h
  | (simp only[rL,dL,bR,bZ,Nat.reduceAdd] at h;exact h)
theorem qz1:okL 26 qcs:=qu (qh qv6) (by kernel_rfl) (by kernel_rfl)
def qxu:=JA_ @qcs.eq_1 (JA_ @Tryz.f26.eq_1 @qv6)
theorem qtU:lbO 26 6=qhM:=zf (qh qv6) rfl
theorem qrb:okL 26 qhM:=qH qz1 (List.mem_of_getElem? (i:=0) (by kernel_rfl))
theorem qpY:lbO 26 10=qdA:=zf (qh qv6) rfl
theorem qnB:okL 26 qdA:=qH qz1 (List.mem_of_getElem? (i:=1) (by kernel_rfl))
noncomputable def Z8 (want:List Int) (set0:Int) (ok:Bool) (t34:List Bool) (t35:Int) (t36:Int) (t41:List Int) (t42:Int):(Bool×Int)→Option ((Bool×Int)⊕Bool)|(in0,t43)=>if t43<t42 then if 0≤t43∧t43<((t41.length:Nat):Int) then Option.bind t41[Int.toNat t43]? fun(a:Int)=>if in0=Bool.true then some (Sum.inl (Bool.true,w64 (t43+1))) else some (Sum.inl (a==set0,w64 (t43+1))) else none else some (Sum.inr in0)
theorem q5k:∀(want:List Int) (set0:Int) (ok in0:Bool) (t34:List Bool) (t35 t36:Int) (t41:List Int) (t42 t43:Int),XL2 evo 26 0 10 ⟨[(1,rL 1 eI want),(10,rI set0),(11,rB ok),(12,rB in0),(34,rL 1 eB t34),(35,rI t35),(36,rI t36),(41,rL 1 eI t41),(42,rI t42),(43,rI t43)],[],0,58⟩=(qq (Z8 want set0 ok t34 t35 t36 t41 t42) (in0,t43)).bind (fun(e:Bool)=>some (Go.Exit.exit 2,⟨[(1,rL 1 eI want),(11,rB ok),(12,rB e),(34,rL 1 eB t34),(35,rI t35),(36,rI t36)],[],0,58⟩)) :=
 fun want set0 ok in0 t34 t35 t36 t41 t42 t43=>by
  revert t43;revert in0;exact q3v qpY qnB (fun e=>by exact⟨_,rfl,fun h=>by cases h⟩) fun in0 t43=>by
   have:=qxu;have:=@qdA.eq_1;have:=@Z8.eq_1;exact gA
noncomputable def Zv (want:List Int) (t34:List Bool) (t35:Int):Int→Option (Int⊕(Unit⊕Unit))|t36=>if t36<t35 then if 0≤t36∧t36<((t34.length:Nat):Int) then Option.bind t34[Int.toNat t36]? fun(a:Bool)=>Option.bind (qq (Z8 want t36 a t34 t35 t36 want ((want.length:Nat):Int)) (Bool.false,0)) fun(a2:Bool)=>if(!(a==a2))=Bool.true then some (Sum.inr (Sum.inl ())) else some (Sum.inl (w64 (t36+1))) else none else some (Sum.inr (Sum.inr ()))
theorem q6p:∀(want:List Int) (t34:List Bool) (t35 t36:Int),XL2 evo 26 0 6 ⟨[(1,rL 1 eI want),(34,rL 1 eB t34),(35,rI t35),(36,rI t36)],[],0,58⟩=(qq (Zv want t34 t35) t36).bind (Sum.elim (fun(e:Unit)=>some (Go.Exit.ret,⟨[(4,rB Bool.false)],[],0,58⟩)) (fun(e:Unit)=>some (Go.Exit.exit 0,⟨[(4,R.any)],[],0,58⟩))) :=
 fun want t34 t35 t36=>by
  revert t36;exact q89 qtU qrb (fun e=>by rcases e with _|_<;>exact⟨_,rfl,fun h=>by cases h⟩) fun x=>by
   have:=qxu;have:=@qhM.eq_1;have:=@q5k;have:=@Zv.eq_1;exact gA
noncomputable def zz (n:qb) (want:List Int):Option Bool:=Option.bind (JP n (qr 1) [qa.mk (qc.mk 1 (ByteArray.mk (List.toArray [65,49]))) 5 60 0 [] 0 [],qa.mk (qc.mk 1 (ByteArray.mk (List.toArray [66,49]))) 6 90 0 [] 0 [],qa.mk (qc.mk 1 (ByteArray.mk (List.toArray [65,49]))) 5 40 0 [] 0 []]) fun(a:Prod (List Bool) Int)=>if(a.2 != 0)=Bool.true then some Bool.false else if(((a.1.length:Nat):Int) != 8)=Bool.true then some Bool.false else Option.bind (qq (Zv want a.1 ((a.1.length:Nat):Int)) 0) fun(a2:Sum Unit Unit)=>Sum.elim (fun(a3:Unit)=>some Bool.false) (fun(a4:Unit)=>some Bool.true) a2
theorem q0A:∀(n_Kind n_N n_Min:Int) (n_Set:List qc) (n_L:List qb) (want:List Int),ev 26 0 [R.agg [dI n_Kind,dI n_N,dI n_Min,dL 2 qe n_Set,dL 5 qg n_L],rL 1 eI want] []=(zz (qb.mk n_Kind n_N n_Min n_Set n_L) want).bind (fun(e:Bool)=>some (rB e,[])) :=
 fun n_Kind n_N n_Min n_Set n_L want=>by
  rw[qt qv6 qAL.2.2.2 qz1]
  have:=qxu;have:=@q1Y;have:=@q1k;have:=@q88;have:=@q6p;have:=@zz.eq_1;exact gA
theorem q6c:∀(n_Kind n_N n_Min n_Set0_School:Int) (n_Set0_Code:ByteArray) (want0:Int) , ev 26 0 [R.agg [dI n_Kind,dI n_N,dI n_Min,C.d (D.sl 2 1 [D.int .i64 n_Set0_School,D.str n_Set0_Code]),C.d (D.sl 5 0 [])],R.c (C.d (D.sl 1 1 [D.int .i64 want0]))] []=(zz (qb.mk n_Kind n_N n_Min [(qc.mk n_Set0_School n_Set0_Code)] []) [want0]).bind (fun(e:Bool)=>some (rB e,[])):=by
 intro n_Kind n_N n_Min n_Set0_School n_Set0_Code want0;have h:=q0A ((qb.mk n_Kind n_N n_Min [(qc.mk n_Set0_School n_Set0_Code)] [])).Kind ((qb.mk n_Kind n_N n_Min [(qc.mk n_Set0_School n_Set0_Code)] [])).N ((qb.mk n_Kind n_N n_Min [(qc.mk n_Set0_School n_Set0_Code)] [])).Min ((qb.mk n_Kind n_N n_Min [(qc.mk n_Set0_School n_Set0_Code)] [])).Set ((qb.mk n_Kind n_N n_Min [(qc.mk n_Set0_School n_Set0_Code)] [])).L [want0]
 first
  | exact h
  | (simp only[rL,dL,bR,bZ,Nat.reduceAdd] at h;exact h)
theorem q5O:∀(n_Kind n_N n_Min n_Set0_School:Int) (n_Set0_Code:ByteArray) (n_Set1_School:Int) (n_Set1_Code:ByteArray) (want0 want1 want2 want3:Int) , ev 26 0 [R.agg [dI n_Kind,dI n_N,dI n_Min,C.d (D.sl 2 2 [D.int .i64 n_Set0_School,D.str n_Set0_Code,D.int .i64 n_Set1_School,D.str n_Set1_Code]),C.d (D.sl 5 0 [])],R.c (C.d (D.sl 1 4 [D.int .i64 want0,D.int .i64 want1,D.int .i64 want2,D.int .i64 want3]))] []=(zz (qb.mk n_Kind n_N n_Min [(qc.mk n_Set0_School n_Set0_Code),(qc.mk n_Set1_School n_Set1_Code)] []) [want0,want1,want2,want3]).bind (fun(e:Bool)=>some (rB e,[])):=by
 intro n_Kind n_N n_Min n_Set0_School n_Set0_Code n_Set1_School n_Set1_Code want0 want1 want2 want3;have h:=q0A ((qb.mk n_Kind n_N n_Min [(qc.mk n_Set0_School n_Set0_Code),(qc.mk n_Set1_School n_Set1_Code)] [])).Kind ((qb.mk n_Kind n_N n_Min [(qc.mk n_Set0_School n_Set0_Code),(qc.mk n_Set1_School n_Set1_Code)] [])).N ((qb.mk n_Kind n_N n_Min [(qc.mk n_Set0_School n_Set0_Code),(qc.mk n_Set1_School n_Set1_Code)] [])).Min ((qb.mk n_Kind n_N n_Min [(qc.mk n_Set0_School n_Set0_Code),(qc.mk n_Set1_School n_Set1_Code)] [])).Set ((qb.mk n_Kind n_N n_Min [(qc.mk n_Set0_School n_Set0_Code),(qc.mk n_Set1_School n_Set1_Code)] [])).L [want0,want1,want2,want3]
 first
  | exact h
  | (simp only[rL,dL,bR,bZ,Nat.reduceAdd] at h;exact h)
theorem q6e:∀(n_Kind n_N n_Min n_L0_Kind n_L0_N n_L0_Min n_L0_Set0_School:Int) (n_L0_Set0_Code:ByteArray) (n_L1_Kind n_L1_N n_L1_Min n_L1_Set0_School:Int) (n_L1_Set0_Code:ByteArray) (n_L1_Set1_School:Int) (n_L1_Set1_Code:ByteArray) (want0:Int) , ev 26 0 [R.agg [dI n_Kind,dI n_N,dI n_Min,C.d (D.sl 2 0 []),C.d (D.sl 5 2 [D.int .i64 n_L0_Kind,D.int .i64 n_L0_N,D.int .i64 n_L0_Min,D.sl 2 1 [D.int .i64 n_L0_Set0_School,D.str n_L0_Set0_Code],D.sl 5 0 [],D.int .i64 n_L1_Kind,D.int .i64 n_L1_N,D.int .i64 n_L1_Min,D.sl 2 2 [D.int .i64 n_L1_Set0_School,D.str n_L1_Set0_Code,D.int .i64 n_L1_Set1_School,D.str n_L1_Set1_Code],D.sl 5 0 []])],R.c (C.d (D.sl 1 1 [D.int .i64 want0]))] []=(zz (qb.mk n_Kind n_N n_Min [] [(qb.mk n_L0_Kind n_L0_N n_L0_Min [(qc.mk n_L0_Set0_School n_L0_Set0_Code)] []),(qb.mk n_L1_Kind n_L1_N n_L1_Min [(qc.mk n_L1_Set0_School n_L1_Set0_Code),(qc.mk n_L1_Set1_School n_L1_Set1_Code)] [])]) [want0]).bind (fun(e:Bool)=>some (rB e,[])):=by
 intro n_Kind n_N n_Min n_L0_Kind n_L0_N n_L0_Min n_L0_Set0_School n_L0_Set0_Code n_L1_Kind n_L1_N n_L1_Min n_L1_Set0_School n_L1_Set0_Code n_L1_Set1_School n_L1_Set1_Code want0;have h:=q0A ((qb.mk n_Kind n_N n_Min [] [(qb.mk n_L0_Kind n_L0_N n_L0_Min [(qc.mk n_L0_Set0_School n_L0_Set0_Code)] []),(qb.mk n_L1_Kind n_L1_N n_L1_Min [(qc.mk n_L1_Set0_School n_L1_Set0_Code),(qc.mk n_L1_Set1_School n_L1_Set1_Code)] [])])).Kind ((qb.mk n_Kind n_N n_Min [] [(qb.mk n_L0_Kind n_L0_N n_L0_Min [(qc.mk n_L0_Set0_School n_L0_Set0_Code)] []),(qb.mk n_L1_Kind n_L1_N n_L1_Min [(qc.mk n_L1_Set0_School n_L1_Set0_Code),(qc.mk n_L1_Set1_School n_L1_Set1_Code)] [])])).N ((qb.mk n_Kind n_N n_Min [] [(qb.mk n_L0_Kind n_L0_N n_L0_Min [(qc.mk n_L0_Set0_School n_L0_Set0_Code)] []),(qb.mk n_L1_Kind n_L1_N n_L1_Min [(qc.mk n_L1_Set0_School n_L1_Set0_Code),(qc.mk n_L1_Set1_School n_L1_Set1_Code)] [])])).Min ((qb.mk n_Kind n_N n_Min [] [(qb.mk n_L0_Kind n_L0_N n_L0_Min [(qc.mk n_L0_Set0_School n_L0_Set0_Code)] []),(qb.mk n_L1_Kind n_L1_N n_L1_Min [(qc.mk n_L1_Set0_School n_L1_Set0_Code),(qc.mk n_L1_Set1_School n_L1_Set1_Code)] [])])).Set ((qb.mk n_Kind n_N n_Min [] [(qb.mk n_L0_Kind n_L0_N n_L0_Min [(qc.mk n_L0_Set0_School n_L0_Set0_Code)] []),(qb.mk n_L1_Kind n_L1_N n_L1_Min [(qc.mk n_L1_Set0_School n_L1_Set0_Code),(qc.mk n_L1_Set1_School n_L1_Set1_Code)] [])])).L [want0]
 first
  | exact h
  | (simp only[rL,dL,bR,bZ,Nat.reduceAdd] at h;exact h)
theorem q6w:∀(n_Kind n_N n_Min n_L0_Kind n_L0_N n_L0_Min n_L0_Set0_School:Int) (n_L0_Set0_Code:ByteArray) (n_L1_Kind n_L1_N n_L1_Min n_L1_Set0_School:Int) (n_L1_Set0_Code:ByteArray) (n_L1_Set1_School:Int) (n_L1_Set1_Code:ByteArray) (want0 want1 want2 want3 want4:Int) , ev 26 0 [R.agg [dI n_Kind,dI n_N,dI n_Min,C.d (D.sl 2 0 []),C.d (D.sl 5 2 [D.int .i64 n_L0_Kind,D.int .i64 n_L0_N,D.int .i64 n_L0_Min,D.sl 2 1 [D.int .i64 n_L0_Set0_School,D.str n_L0_Set0_Code],D.sl 5 0 [],D.int .i64 n_L1_Kind,D.int .i64 n_L1_N,D.int .i64 n_L1_Min,D.sl 2 2 [D.int .i64 n_L1_Set0_School,D.str n_L1_Set0_Code,D.int .i64 n_L1_Set1_School,D.str n_L1_Set1_Code],D.sl 5 0 []])],R.c (C.d (D.sl 1 5 [D.int .i64 want0,D.int .i64 want1,D.int .i64 want2,D.int .i64 want3,D.int .i64 want4]))] []=(zz (qb.mk n_Kind n_N n_Min [] [(qb.mk n_L0_Kind n_L0_N n_L0_Min [(qc.mk n_L0_Set0_School n_L0_Set0_Code)] []),(qb.mk n_L1_Kind n_L1_N n_L1_Min [(qc.mk n_L1_Set0_School n_L1_Set0_Code),(qc.mk n_L1_Set1_School n_L1_Set1_Code)] [])]) [want0,want1,want2,want3,want4]).bind (fun(e:Bool)=>some (rB e,[])):=by
 intro n_Kind n_N n_Min n_L0_Kind n_L0_N n_L0_Min n_L0_Set0_School n_L0_Set0_Code n_L1_Kind n_L1_N n_L1_Min n_L1_Set0_School n_L1_Set0_Code n_L1_Set1_School n_L1_Set1_Code want0 want1 want2 want3 want4;have h:=q0A ((qb.mk n_Kind n_N n_Min [] [(qb.mk n_L0_Kind n_L0_N n_L0_Min [(qc.mk n_L0_Set0_School n_L0_Set0_Code)] []),(qb.mk n_L1_Kind n_L1_N n_L1_Min [(qc.mk n_L1_Set0_School n_L1_Set0_Code),(qc.mk n_L1_Set1_School n_L1_Set1_Code)] [])])).Kind ((qb.mk n_Kind n_N n_Min [] [(qb.mk n_L0_Kind n_L0_N n_L0_Min [(qc.mk n_L0_Set0_School n_L0_Set0_Code)] []),(qb.mk n_L1_Kind n_L1_N n_L1_Min [(qc.mk n_L1_Set0_School n_L1_Set0_Code),(qc.mk n_L1_Set1_School n_L1_Set1_Code)] [])])).N ((qb.mk n_Kind n_N n_Min [] [(qb.mk n_L0_Kind n_L0_N n_L0_Min [(qc.mk n_L0_Set0_School n_L0_Set0_Code)] []),(qb.mk n_L1_Kind n_L1_N n_L1_Min [(qc.mk n_L1_Set0_School n_L1_Set0_Code),(qc.mk n_L1_Set1_School n_L1_Set1_Code)] [])])).Min ((qb.mk n_Kind n_N n_Min [] [(qb.mk n_L0_Kind n_L0_N n_L0_Min [(qc.mk n_L0_Set0_School n_L0_Set0_Code)] []),(qb.mk n_L1_Kind n_L1_N n_L1_Min [(qc.mk n_L1_Set0_School n_L1_Set0_Code),(qc.mk n_L1_Set1_School n_L1_Set1_Code)] [])])).Set ((qb.mk n_Kind n_N n_Min [] [(qb.mk n_L0_Kind n_L0_N n_L0_Min [(qc.mk n_L0_Set0_School n_L0_Set0_Code)] []),(qb.mk n_L1_Kind n_L1_N n_L1_Min [(qc.mk n_L1_Set0_School n_L1_Set0_Code),(qc.mk n_L1_Set1_School n_L1_Set1_Code)] [])])).L [want0,want1,want2,want3,want4]
 first
  | exact h
  | (simp only[rL,dL,bR,bZ,Nat.reduceAdd] at h;exact h)
theorem qzg:okL 20 qf2:=qu (qh qw6) (by kernel_rfl) (by kernel_rfl)
def qzu:=JA_ @qf2.eq_1 (JA_ @Tryz.f20.eq_1 @qw6)
theorem qux:lbO 20 4=qjn:=zf (qh qw6) rfl
theorem qui:okL 20 qjn:=qH qzg (List.mem_of_getElem? (i:=0) (by kernel_rfl))
noncomputable def QN (a:List Int) (b:List Int):Int→Option (Int⊕(Unit⊕Unit))|k=>if k<((a.length:Nat):Int) then if 0≤k∧k<((a.length:Nat):Int) then Option.bind a[Int.toNat k]? fun(a2:Int)=>if 0≤k∧k<((b.length:Nat):Int) then Option.bind b[Int.toNat k]? fun(a3:Int)=>if(a2 != a3)=Bool.true then some (Sum.inr (Sum.inl ())) else some (Sum.inl (w64 (k+1))) else none else none else some (Sum.inr (Sum.inr ()))
theorem q3u:∀(a b:List Int) (k:Int),XL2 evo 20 0 4 ⟨[(0,rL 1 eI a),(1,rL 1 eI b),(5,rI k)],[],0,26⟩=(qq (QN a b) k).bind (Sum.elim (fun(e:Unit)=>some (Go.Exit.ret,⟨[(4,rB Bool.false)],[],0,26⟩)) (fun(e:Unit)=>some (Go.Exit.exit 0,⟨[(4,R.any)],[],0,26⟩))) :=
 fun a b k=>by
  revert k;exact q89 qux qui (fun e=>by rcases e with _|_<;>exact⟨_,rfl,fun h=>by cases h⟩) fun x=>by
   have:=qzu;have:=@qjn.eq_1;have:=@QN.eq_1;exact gA
noncomputable def zQ (a:List Int) (b:List Int):Option Bool:=if(((a.length:Nat):Int) != ((b.length:Nat):Int))=Bool.true then some Bool.false else Option.bind (qq (QN a b) 0) fun(a2:Sum Unit Unit)=>Sum.elim (fun(a3:Unit)=>some Bool.false) (fun(a4:Unit)=>some Bool.true) a2
theorem J4:∀(a b:List Int),ev 20 0 [rL 1 eI a,rL 1 eI b] []=(zQ a b).bind (fun(e:Bool)=>some (rB e,[])) :=
 fun a b=>by
  rw[qt qw6 qA2.2.2.2 qzg]
  have:=qzu;have:=@q3u;have:=@zQ.eq_1;exact gA
theorem q3z:∀(b0 b1 b2:Int) (a:List Int),ev 20 0 [rL 1 eI a,R.c (C.d (D.sl 1 3 [D.int .i64 b0,D.int .i64 b1,D.int .i64 b2]))] []=(zQ a [b0,b1,b2]).bind (fun(e:Bool)=>some (rB e,[])):=by
 intro b0 b1 b2 a;have h:=J4 a [b0,b1,b2]
 first
  | exact h
  | (simp only[rL,dL,bR,bZ,Nat.reduceAdd] at h;exact h)
theorem q3J:∀(b0 b1:Int) (a:List Int),ev 20 0 [rL 1 eI a,R.c (C.d (D.sl 1 2 [D.int .i64 b0,D.int .i64 b1]))] []=(zQ a [b0,b1]).bind (fun(e:Bool)=>some (rB e,[])):=by
 intro b0 b1 a;have h:=J4 a [b0,b1]
 first
  | exact h
  | (simp only[rL,dL,bR,bZ,Nat.reduceAdd] at h;exact h)
noncomputable def q01:Option Bool:=Option.bind (zb (qb.mk 4 1 0 [] [qb.mk 1 0 50 [qc.mk 1 (ByteArray.mk (List.toArray [65,49]))] [],qb.mk 2 10 0 [qc.mk 1 (ByteArray.mk (List.toArray [65,49])),qc.mk 1 (ByteArray.mk (List.toArray [66,49]))] []]) (qr 1) [qa.mk (qc.mk 1 (ByteArray.mk (List.toArray [65,49]))) 5 60 0 [] 0 [],qa.mk (qc.mk 1 (ByteArray.mk (List.toArray [66,49]))) 6 90 0 [] 0 [],qa.mk (qc.mk 1 (ByteArray.mk (List.toArray [65,49]))) 5 40 0 [] 0 []] 7) fun(a:Prod (List Int) Bool)=>Option.bind (zb (qb.mk 4 1 0 [] [qb.mk 1 0 50 [qc.mk 1 (ByteArray.mk (List.toArray [65,49]))] [],qb.mk 2 10 0 [qc.mk 1 (ByteArray.mk (List.toArray [65,49])),qc.mk 1 (ByteArray.mk (List.toArray [66,49]))] []]) (qr 1) [qa.mk (qc.mk 1 (ByteArray.mk (List.toArray [65,49]))) 5 60 0 [] 0 [],qa.mk (qc.mk 1 (ByteArray.mk (List.toArray [66,49]))) 6 90 0 [] 0 [],qa.mk (qc.mk 1 (ByteArray.mk (List.toArray [65,49]))) 5 40 0 [] 0 []] 3) fun(a2:Prod (List Int) Bool)=>Option.bind (zb (qb.mk 3 0 0 [] [qb.mk 1 0 50 [qc.mk 1 (ByteArray.mk (List.toArray [65,49]))] [],qb.mk 2 10 0 [qc.mk 1 (ByteArray.mk (List.toArray [65,49])),qc.mk 1 (ByteArray.mk (List.toArray [66,49]))] []]) (qr 1) [qa.mk (qc.mk 1 (ByteArray.mk (List.toArray [65,49]))) 5 60 0 [] 0 [],qa.mk (qc.mk 1 (ByteArray.mk (List.toArray [66,49]))) 6 90 0 [] 0 [],qa.mk (qc.mk 1 (ByteArray.mk (List.toArray [65,49]))) 5 40 0 [] 0 []] 3) fun(a3:Prod (List Int) Bool)=>Option.bind (Zn (qb.mk 1 0 50 [qc.mk 1 (ByteArray.mk (List.toArray [65,49]))] []) (qr 1) (qa.mk (qc.mk 1 (ByteArray.mk (List.toArray [65,49]))) 5 60 0 [] 0 [])) fun(a4:Bool)=>if a4=Bool.true then Option.bind (Zn (qb.mk 1 0 50 [qc.mk 1 (ByteArray.mk (List.toArray [65,49]))] []) (qr 1) (qa.mk (qc.mk 1 (ByteArray.mk (List.toArray [66,49]))) 6 90 0 [] 0 [])) fun(a5:Bool)=>if(!a5)=Bool.true then Option.bind (Zn (qb.mk 1 0 50 [qc.mk 1 (ByteArray.mk (List.toArray [65,49]))] []) (qr 1) (qa.mk (qc.mk 1 (ByteArray.mk (List.toArray [65,49]))) 5 40 0 [] 0 [])) fun(a6:Bool)=>if(!a6)=Bool.true then Option.bind (ZX (qb.mk 4 1 0 [] [qb.mk 1 0 50 [qc.mk 1 (ByteArray.mk (List.toArray [65,49]))] [],qb.mk 2 10 0 [qc.mk 1 (ByteArray.mk (List.toArray [65,49])),qc.mk 1 (ByteArray.mk (List.toArray [66,49]))] []]) (qr 1) [qa.mk (qc.mk 1 (ByteArray.mk (List.toArray [65,49]))) 5 60 0 [] 0 [],qa.mk (qc.mk 1 (ByteArray.mk (List.toArray [66,49]))) 6 90 0 [] 0 [],qa.mk (qc.mk 1 (ByteArray.mk (List.toArray [65,49]))) 5 40 0 [] 0 []] [(0:Int),(-1),(-1)]) fun(a7:Bool)=>if a7=Bool.true then Option.bind (ZX (qb.mk 4 1 0 [] [qb.mk 1 0 50 [qc.mk 1 (ByteArray.mk (List.toArray [65,49]))] [],qb.mk 2 10 0 [qc.mk 1 (ByteArray.mk (List.toArray [65,49])),qc.mk 1 (ByteArray.mk (List.toArray [66,49]))] []]) (qr 1) [qa.mk (qc.mk 1 (ByteArray.mk (List.toArray [65,49]))) 5 60 0 [] 0 [],qa.mk (qc.mk 1 (ByteArray.mk (List.toArray [66,49]))) 6 90 0 [] 0 [],qa.mk (qc.mk 1 (ByteArray.mk (List.toArray [65,49]))) 5 40 0 [] 0 []] [(0:Int),1,(-1)]) fun(a8:Bool)=>if(!a8)=Bool.true then Option.bind (zz (qb.mk 1 0 50 [qc.mk 1 (ByteArray.mk (List.toArray [65,49]))] []) [(1:Int)]) fun(a9:Bool)=>if a9=Bool.true then Option.bind (zz (qb.mk 2 10 0 [qc.mk 1 (ByteArray.mk (List.toArray [65,49])),qc.mk 1 (ByteArray.mk (List.toArray [66,49]))] []) [(3:Int),5,6,7]) fun(a10:Bool)=>if a10=Bool.true then Option.bind (zz (qb.mk 3 0 0 [] [qb.mk 1 0 50 [qc.mk 1 (ByteArray.mk (List.toArray [65,49]))] [],qb.mk 2 10 0 [qc.mk 1 (ByteArray.mk (List.toArray [65,49])),qc.mk 1 (ByteArray.mk (List.toArray [66,49]))] []]) [(7:Int)]) fun(a11:Bool)=>if a11=Bool.true then Option.bind (zz (qb.mk 4 1 0 [] [qb.mk 1 0 50 [qc.mk 1 (ByteArray.mk (List.toArray [65,49]))] [],qb.mk 2 10 0 [qc.mk 1 (ByteArray.mk (List.toArray [65,49])),qc.mk 1 (ByteArray.mk (List.toArray [66,49]))] []]) [(1:Int),3,5,6,7]) fun(a12:Bool)=>if a12=Bool.true then if a.2=Bool.true then if a2.2=Bool.true then if(!a3.2)=Bool.true then Option.bind (zQ a.1 [(0:Int),1,1]) fun(a13:Bool)=>if a13=Bool.true then Option.bind (zQ a2.1 [(1:Int),1]) fun(e0:Bool)=>some e0 else some Bool.false else some Bool.false else some Bool.false else some Bool.false else some Bool.false else some Bool.false else some Bool.false else some Bool.false else some Bool.false else some Bool.false else some Bool.false else some Bool.false else some Bool.false
theorem q6K:ev 6 0 [] []=(q01).bind (fun(e:Bool)=>some (rB e,[])) :=
 by
  rw[qt bd6 pw6.2.2.2 lo6]
  have:=cx6;have:=@q1Y;have:=@q1k;have:=@q6d;have:=@q7P;have:=@q7g;have:=@q6c;have:=@q5O;have:=@q6e;have:=@q6w;have:=@q3z;have:=@q3J;have:=@q01.eq_1;exact gA
theorem qyM:okL 34 qbD:=qu (qh qsU) (by kernel_rfl) (by kernel_rfl)
def qwx:=JA_ @qbD.eq_1 (JA_ @Tryz.f34.eq_1 @qsU)
theorem qsu:lbO 34 6=qiu:=zf (qh qsU) rfl
theorem qtn:okL 34 qiu:=qH qyM (List.mem_of_getElem? (i:=0) (by kernel_rfl))
theorem qnk:lbO 34 15=qcX:=zf (qh qsU) rfl
theorem qpZ:okL 34 qcX:=qH qyM (List.mem_of_getElem? (i:=1) (by kernel_rfl))
theorem qxq:okL 62 qes:=qu (qh qqI) (by kernel_rfl) (by kernel_rfl)
def qw7:=JA_ @qes.eq_1 (JA_ @Tryz.f62.eq_1 @qqI)
theorem qmw:lbO 62 5=qe2:=zf (qh qqI) rfl
theorem qmi:okL 62 qe2:=qH qxq (List.mem_of_getElem? (i:=0) (by kernel_rfl))
noncomputable def Qs (x:(qb×Int×List qj)):List R×List (Nat×B):=([R.c (C.own 0 6 0 x.2.2.length),R.agg [C.d (D.int .i64 x.1.Kind),C.d (D.int .i64 x.1.N),C.d (D.int .i64 x.1.Min),C.d (D.sl 2 x.1.Set.length (x.1.Set.flatMap qe)),C.d (D.sl 5 x.1.L.length (x.1.L.flatMap qg))],R.c (C.d (D.int .i64 x.2.1))],[(0,B.row 126 6 ((x.2.2.flatMap qk).map C.d))])
noncomputable def QJ:(Unit⊕(List qj))→R×List (Nat×B):=Sum.elim (fun(e:Unit)=>(R.tup [R.c (C.d (D.sl 6 0 [])),R.c (C.d (D.bool Bool.false))],[])) (fun(e:List qj)=>(R.tup [R.c (C.own 0 6 0 e.length),R.c (C.d (D.bool Bool.true))],[(0,B.row 126 6 ((e.flatMap qk).map C.d))]))
noncomputable def J5 (rF:(qb×Int×List qj)→Option (Unit⊕(List qj))) (n:qb) (deep:Int):(List qj×Int)→Option ((List qj×Int)⊕(Unit⊕(List qj)))|(out,i)=>if i<((n.L.length:Nat):Int) then if 0≤i∧i<((n.L.length:Nat):Int) then Option.bind n.L[Int.toNat i]? fun(a2:qb)=>Option.bind (rF (a2,(w64 (deep+1),out))) fun(a3:Sum Unit (List qj))=>Sum.elim (fun(a4:Unit)=>some (Sum.inr (Sum.inl ()))) (fun(a5:List qj)=>some (Sum.inl (a5,w64 (i+1)))) a3 else none else some (Sum.inr (Sum.inr out))
theorem q3G (rE:Orc) (rF:(qb×Int×List qj)→Option (Unit⊕(List qj))) (hF:∀y,rE (.fn 62) 0 (Qs y).1 (Qs y).2=(rF y).bind fun e=>some (QJ e)) (hM:∀g k a G,g≠62→rE (.fn g) k a G=ev g k a G) (hR:∀g asg bd k a G,rE (.rd g asg bd) k a G=evr g asg bd k a G):∀(out:List qj) (n_Kind n_N n_Min:Int) (n_Set:List qc) (n_L:List qb) (deep i:Int) (out_len:Nat),out_len=out.length→XL2 rE 62 0 5 ⟨[(0,rO 0 6 out_len),(2,rI deep),(4,rP 1),(8,rI i)],[(0,bR 126 6 qk out),(1,B.blk 30 [dI n_Kind,dI n_N,dI n_Min,dL 2 qe n_Set,dL 5 qg n_L])],2,47⟩=(qq (J5 rF (qb.mk n_Kind n_N n_Min n_Set n_L) deep) (out,i)).bind (Sum.elim (fun(e:Unit)=>some (Go.Exit.ret,⟨[(0,R.c (C.any)),(6,R.c (C.nils)),(7,rB Bool.false)],[],0,47⟩)) (fun(e:List qj)=>some (Go.Exit.exit 0,⟨[(0,rO 0 6 e.length),(6,R.any),(7,R.any)],[(0,bR 126 6 qk e)],1,47⟩))) :=
 by
 intro out n_Kind n_N n_Min n_Set n_L deep i out_len h0
 subst h0
 revert i;revert out;exact q3v qmw qmi (fun e=>by rcases e with _|_<;>exact⟨_,rfl,fun h=>by cases h⟩) fun out i=>by
  have hF':∀(n_Kind n_N n_Min:Int) (n_Set:List qc) (n_L:List qb) (deep:Int) (out:List qj) (out_len:Nat),out_len=out.length→rE (.fn 62) 0 [rO 0 6 out_len,R.agg [dI n_Kind,dI n_N,dI n_Min,dL 2 qe n_Set,dL 5 qg n_L],rI deep] [(0,bR 126 6 qk out)]=(rF ((qb.mk n_Kind n_N n_Min n_Set n_L),deep,out)).bind (Sum.elim (fun(e:Unit)=>some (R.tup [R.c (C.d (D.sl 6 0 [])),rB Bool.false],[])) (fun(e:List qj)=>some (R.tup [rO 0 6 e.length,rB Bool.true],[(0,bR 126 6 qk e)]))):=by intro n_Kind n_N n_Min n_Set n_L deep out out_len h0;subst h0;exact(hF ((qb.mk n_Kind n_N n_Min n_Set n_L),deep,out)).trans (by congr 1;funext e;rcases e with _|_<;>rfl)
  have:=qw7;have:=@qe2.eq_1;have:=@J5.eq_1;exact gA
noncomputable def J0 (rF:(qb×Int×List qj)→Option (Unit⊕(List qj))):(qb×Int×List qj)→Option (Unit⊕(List qj))|(n,deep,out)=>if 100<deep then some (Sum.inl ()) else if 10000≤((out.length:Nat):Int) then some (Sum.inl ()) else if out.length+1≤Go.maxLen∧(out.length+1)*80≤140737488355328 then Option.bind (qq (J5 rF n deep) (out++[qj.mk n deep],0)) fun(a2:Sum Unit (List qj))=>Sum.elim (fun(a3:Unit)=>some (Sum.inl ())) (fun(a4:List qj)=>some (Sum.inr a4)) a2 else none
theorem q2D:q1T 62 0 Qs QJ J0:=by
 intro rE rF hF hM hR x
 obtain⟨n,deep,out⟩:=x
 show q3L rE 62 0 [rO 0 6 out.length,R.agg [dI n.Kind,dI n.N,dI n.Min,dL 2 qe n.Set,dL 5 qg n.L],rI deep] [(0,bR 126 6 qk out)]=_
 have hF':∀(n_Kind n_N n_Min:Int) (n_Set:List qc) (n_L:List qb) (deep:Int) (out:List qj) (out_len:Nat),out_len=out.length→rE (.fn 62) 0 [rO 0 6 out_len,R.agg [dI n_Kind,dI n_N,dI n_Min,dL 2 qe n_Set,dL 5 qg n_L],rI deep] [(0,bR 126 6 qk out)]=(rF ((qb.mk n_Kind n_N n_Min n_Set n_L),deep,out)).bind (Sum.elim (fun(e:Unit)=>some (R.tup [R.c (C.d (D.sl 6 0 [])),rB Bool.false],[])) (fun(e:List qj)=>some (R.tup [rO 0 6 e.length,rB Bool.true],[(0,bR 126 6 qk e)]))):=by intro n_Kind n_N n_Min n_Set n_L deep out out_len h0;subst h0;exact(hF ((qb.mk n_Kind n_N n_Min n_Set n_L),deep,out)).trans (by congr 1;funext e;rcases e with _|_<;>rfl)
 rw[q04 qqI qxq]
 have:=qw7;have:=q3G rE rF hF hM hR;have:=@J0.eq_1;have:=@QJ.eq_1;exact gA
theorem q0Z:∀x y,Qs x=Qs y→x=y:=by
 rintro⟨⟨a0_0,a0_1,a0_2,a0_3,a0_4⟩,a1,a2⟩ ⟨⟨b0_0,b0_1,b0_2,b0_3,b0_4⟩,b1,b2⟩ h
 simp only[Qs,Prod.mk.injEq,List.cons.injEq,R.c.injEq,R.agg.injEq,R.tup.injEq,C.d.injEq,C.own.injEq,C.ptr.injEq,C.eptr.injEq,D.int.injEq,D.bool.injEq,D.str.injEq,D.sl.injEq,B.blk.injEq,B.row.injEq,QB,ZV,QW,Zc,Zy,Zw,Zr,Jq,Zx,Jt,Jz,QA,true_and,and_true,List.nil_append] at h
 simp only[h]
theorem q4T:∀x y,QJ x=QJ y→x=y:=by
 rintro(_|a1) (_|b1) h<;>simp only[Sum.elim_inl,Sum.elim_inr,QJ,Prod.mk.injEq,List.cons.injEq,R.c.injEq,R.agg.injEq,R.tup.injEq,C.d.injEq,C.own.injEq,C.ptr.injEq,C.eptr.injEq,D.int.injEq,D.bool.injEq,D.str.injEq,D.sl.injEq,B.blk.injEq,B.row.injEq,QB,ZV,QW,Zc,Zy,Zw,Zr,Jq,Zx,Jt,Jz,QA,true_and,and_true,List.nil_append,reduceCtorEq,false_and,and_false] at h<;>simp only[h]
noncomputable def Qn:(qb×Int×List qj)→Option (Unit⊕(List qj)):=q3b 62 0 Qs QJ
theorem q7A (x:(qb×Int×List qj)):Qn x=J0 Qn x:=q4x qvu.2.2.2 q0Z q4T q2D x
theorem q6G (n:qb) (deep:Int) (out:List qj):ev 62 0 [rO 0 6 out.length,R.agg [dI n.Kind,dI n.N,dI n.Min,dL 2 qe n.Set,dL 5 qg n.L],rI deep] [(0,bR 126 6 qk out)]=(Qn (n,deep,out)).bind (Sum.elim (fun(e:Unit)=>some (R.tup [R.c (C.d (D.sl 6 0 [])),rB Bool.false],[])) (fun(e:List qj)=>some (R.tup [rO 0 6 e.length,rB Bool.true],[(0,bR 126 6 qk e)]))):=(q2M qvu.2.2.2 q0Z q2D (n,deep,out)).trans (by congr 1;funext e;rcases e with _|_<;>rfl)
theorem q7l:∀(n_Kind n_N n_Min:Int) (n_Set:List qc) (n_L:List qb) (deep:Int) (out:List qj) (out_len:Nat),out_len=out.length→ev 62 0 [rO 0 6 out_len,R.agg [dI n_Kind,dI n_N,dI n_Min,dL 2 qe n_Set,dL 5 qg n_L],rI deep] [(0,bR 126 6 qk out)]=(Qn ((qb.mk n_Kind n_N n_Min n_Set n_L),deep,out)).bind (Sum.elim (fun(e:Unit)=>some (R.tup [R.c (C.d (D.sl 6 0 [])),rB Bool.false],[])) (fun(e:List qj)=>some (R.tup [rO 0 6 e.length,rB Bool.true],[(0,bR 126 6 qk e)]))) :=
 by
 intro n_Kind n_N n_Min n_Set n_L deep out out_len h0
 subst h0
 exact q6G (qb.mk n_Kind n_N n_Min n_Set n_L) deep out
noncomputable def JA (n:qb) (deep:Int):(List qj×Int)→Option ((List qj×Int)⊕(Unit⊕(List qj)))|(out,i)=>if i<((n.L.length:Nat):Int) then if 0≤i∧i<((n.L.length:Nat):Int) then Option.bind n.L[Int.toNat i]? fun(a:qb)=>Option.bind (Qn (a,(w64 (deep+1),out))) fun(a2:Sum Unit (List qj))=>Sum.elim (fun(a3:Unit)=>some (Sum.inr (Sum.inl ()))) (fun(a4:List qj)=>some (Sum.inl (a4,w64 (i+1)))) a2 else none else some (Sum.inr (Sum.inr out))
theorem q63:∀(out:List qj) (n_Kind n_N n_Min:Int) (n_Set:List qc) (n_L:List qb) (deep i:Int) (out_len:Nat),out_len=out.length→XL2 evo 62 0 5 ⟨[(0,rO 0 6 out_len),(2,rI deep),(4,rP 1),(8,rI i)],[(0,bR 126 6 qk out),(1,B.blk 30 [dI n_Kind,dI n_N,dI n_Min,dL 2 qe n_Set,dL 5 qg n_L])],2,47⟩=(qq (JA (qb.mk n_Kind n_N n_Min n_Set n_L) deep) (out,i)).bind (Sum.elim (fun(e:Unit)=>some (Go.Exit.ret,⟨[(0,R.c (C.any)),(6,R.c (C.nils)),(7,rB Bool.false)],[],0,47⟩)) (fun(e:List qj)=>some (Go.Exit.exit 0,⟨[(0,rO 0 6 e.length),(6,R.any),(7,R.any)],[(0,bR 126 6 qk e)],1,47⟩))) :=
 by
 intro out n_Kind n_N n_Min n_Set n_L deep i out_len h0
 subst h0
 revert i;revert out;exact q3v qmw qmi (fun e=>by rcases e with _|_<;>exact⟨_,rfl,fun h=>by cases h⟩) fun out i=>by
  have:=qw7;have:=@qe2.eq_1;have:=@q7l;have:=@JA.eq_1;exact gA
theorem q44:∀(out0_Need_Kind out0_Need_N out0_Need_Min:Int) (out0_Need_Set:List qc) (out0_Need_L:List qb) (out0_Deep n_Kind n_N n_Min:Int) (n_Set:List qc) (n_L:List qb) (deep i:Int),XL2 evo 62 0 5 ⟨[(0,rO 0 6 1),(2,rI deep),(4,rP 1),(8,rI i)],[(0,B.row 126 6 [dI out0_Need_Kind,dI out0_Need_N,dI out0_Need_Min,dL 2 qe out0_Need_Set,dL 5 qg out0_Need_L,dI out0_Deep]),(1,B.blk 30 [dI n_Kind,dI n_N,dI n_Min,dL 2 qe n_Set,dL 5 qg n_L])],2,47⟩=(qq (JA (qb.mk n_Kind n_N n_Min n_Set n_L) deep) ([(qj.mk (qb.mk out0_Need_Kind out0_Need_N out0_Need_Min out0_Need_Set out0_Need_L) out0_Deep)],i)).bind (Sum.elim (fun(e:Unit)=>some (Go.Exit.ret,⟨[(0,R.c (C.any)),(6,R.c (C.nils)),(7,rB Bool.false)],[],0,47⟩)) (fun(e:List qj)=>some (Go.Exit.exit 0,⟨[(0,rO 0 6 e.length),(6,R.any),(7,R.any)],[(0,bR 126 6 qk e)],1,47⟩))):=by
 intro out0_Need_Kind out0_Need_N out0_Need_Min out0_Need_Set out0_Need_L out0_Deep n_Kind n_N n_Min n_Set n_L deep i;have h:=q63 [(qj.mk (qb.mk out0_Need_Kind out0_Need_N out0_Need_Min out0_Need_Set out0_Need_L) out0_Deep)] ((qb.mk n_Kind n_N n_Min n_Set n_L)).Kind ((qb.mk n_Kind n_N n_Min n_Set n_L)).N ((qb.mk n_Kind n_N n_Min n_Set n_L)).Min ((qb.mk n_Kind n_N n_Min n_Set n_L)).Set ((qb.mk n_Kind n_N n_Min n_Set n_L)).L deep i _ rfl
 first
  | exact h
  | (simp only[rL,dL,bR,bZ,Nat.reduceAdd] at h;exact h)
noncomputable def Jy (n:qb) (deep:Int):Option (Unit⊕(List qj)):=if 100<deep then some (Sum.inl ()) else if 1≤Go.maxLen then Option.bind (qq (JA n deep) ([qj.mk n deep],0)) fun(a:Sum Unit (List qj))=>Sum.elim (fun(a2:Unit)=>some (Sum.inl ())) (fun(a3:List qj)=>some (Sum.inr a3)) a else none
theorem q1B:∀(n_Kind n_N n_Min:Int) (n_Set:List qc) (n_L:List qb) (deep:Int),ev 62 0 [R.c (C.nils),R.agg [dI n_Kind,dI n_N,dI n_Min,dL 2 qe n_Set,dL 5 qg n_L],rI deep] []=(Jy (qb.mk n_Kind n_N n_Min n_Set n_L) deep).bind (Sum.elim (fun(e:Unit)=>some (R.tup [R.c (C.d (D.sl 6 0 [])),rB Bool.false],[])) (fun(e:List qj)=>some (R.tup [rO 0 6 e.length,rB Bool.true],[(0,bR 126 6 qk e)]))) :=
 fun n_Kind n_N n_Min n_Set n_L deep=>by
  rw[qt qqI qvu.2.2.2 qxq]
  have:=qw7;have:=@q44;have:=@Jy.eq_1;exact gA
theorem qD1:okL 63 qhO:=qu (qh qyw) (by kernel_rfl) (by kernel_rfl)
def qCc:=JA_ @qhO.eq_1 (JA_ @Tryz.f63.eq_1 @qyw)
noncomputable def q2a (n:qb):Option Bool:=if(n.Kind != 3)=Bool.true then some (n.Kind != 4) else some Bool.false
noncomputable def Zm (n:qb):Bool:=if(n.Kind != 3)=Bool.true then n.Kind != 4 else Bool.false
theorem q8c (n:qb):q2a n=some (Zm n):=by
 unfold q2a Zm
 simp only[zG]
theorem q1C:∀(n_Kind n_N n_Min:Int) (n_Set:List qc) (n_L:List qb),ev 63 0 [R.agg [dI n_Kind,dI n_N,dI n_Min,dL 2 qe n_Set,dL 5 qg n_L]] []=some (rB (Zm (qb.mk n_Kind n_N n_Min n_Set n_L)),[]) :=
 fun n_Kind n_N n_Min n_Set n_L=>by
  have h:ev 63 0 [R.agg [dI n_Kind,dI n_N,dI n_Min,dL 2 qe n_Set,dL 5 qg n_L]] []=(q2a (qb.mk n_Kind n_N n_Min n_Set n_L)).bind (fun(e:Bool)=>some (rB e,[])):=by
   rw[qt qyw qzt.2.2.2 qD1]
   have:=qCc;have:=@q2a.eq_1;exact gA
  rw[q8c] at h
  exact h
noncomputable def Q8 (nodes:List qj):(Int×Int)→Option ((Int×Int)⊕(Int⊕Int))|(leaves,i)=>if i<((nodes.length:Nat):Int) then if 0≤i∧i<((nodes.length:Nat):Int) then Option.bind nodes[Int.toNat i]? fun(a:qj)=>if 5<a.Deep then some (Sum.inr (Sum.inl leaves)) else if 0≤i∧i<((nodes.length:Nat):Int) then Option.bind nodes[Int.toNat i]? fun(a2:qj)=>if Zm a2.Need=Bool.true then some (Sum.inl (w64 (leaves+1),w64 (i+1))) else some (Sum.inl (leaves,w64 (i+1))) else none else none else some (Sum.inr (Sum.inr leaves))
theorem q5g:∀(nodes:List qj) (leaves i:Int) (nodes_len:Nat),nodes_len=nodes.length→XL2 evo 34 0 6 ⟨[(3,rO 0 6 nodes_len),(5,rI leaves),(6,rI i)],[(0,bR 126 6 qk nodes)],1,62⟩=(qq (Q8 nodes) (leaves,i)).bind (Sum.elim (fun(e:Int)=>some (Go.Exit.ret,⟨[(2,rI 2),(3,rO 0 6 nodes.length),(5,rI e)],[(0,bR 126 6 qk nodes)],1,62⟩)) (fun(e:Int)=>some (Go.Exit.exit 0,⟨[(2,R.any),(3,rO 0 6 nodes.length),(5,rI e)],[(0,bR 126 6 qk nodes)],1,62⟩))) :=
 by
 intro nodes leaves i nodes_len h0
 subst h0
 revert i;revert leaves;exact q3v qsu qtn (fun e=>by rcases e with _|_<;>exact⟨_,rfl,fun h=>by cases h⟩) fun leaves i=>by
  have:=qwx;have:=@qiu.eq_1;have:=@q1C;have:=@Q8.eq_1;exact gA
theorem qyB:okL 64 qbB:=qu (qh qsT) (by kernel_rfl) (by kernel_rfl)
def qx4:=JA_ @qbB.eq_1 (JA_ @Tryz.f64.eq_1 @qsT)
theorem qpd:lbO 64 23=qdy:=zf (qh qsT) rfl
theorem qoY:okL 64 qdy:=qH qyB (List.mem_of_getElem? (i:=0) (by kernel_rfl))
theorem qpf:lbO 64 28=qda:=zf (qh qsT) rfl
theorem qnD:okL 64 qda:=qH qyB (List.mem_of_getElem? (i:=1) (by kernel_rfl))
theorem qDz:okL 85 qhk:=qu (qh qxi) (by kernel_rfl) (by kernel_rfl)
def qC7:=JA_ @qhk.eq_1 (JA_ @Tryz.f85.eq_1 @qxi)
noncomputable def q4C (n:Int) (low:Int) (high:Int):Option Bool:=if low≤n then some (decide (n≤high)) else some Bool.false
noncomputable def Qh (n:Int) (low:Int) (high:Int):Bool:=if low≤n then decide (n≤high) else Bool.false
theorem q9T (n low high:Int):q4C n low high=some (Qh n low high):=by
 unfold q4C Qh
 simp only[zG]
theorem qbg:∀(n low high:Int),ev 85 0 [rI n,rI low,rI high] []=some (rB (Qh n low high),[]) :=
 fun n low high=>by
  have h:ev 85 0 [rI n,rI low,rI high] []=(q4C n low high).bind (fun(e:Bool)=>some (rB e,[])):=by
   rw[qt qxi qzw.2.2.2 qDz]
   have:=qC7;have:=@q4C.eq_1;exact gA
  rw[q9T] at h
  exact h
theorem qBN:okL 86 qjh:=qu (qh qyF) (by kernel_rfl) (by kernel_rfl)
def qDP:=JA_ @qjh.eq_1 (JA_ @Tryz.f86.eq_1 @qyF)
theorem qqB:okL 100 qb4:=qu (qh qlx) (by kernel_rfl) (by kernel_rfl)
def qrX:=JA_ @qb4.eq_1 (JA_ @Tryz.f100.eq_1 @qlx)
theorem qoE:lbO 100 2=qcP:=zf (qh qlx) rfl
theorem qn8:okL 100 qcP:=qH qqB (List.mem_of_getElem? (i:=0) (by kernel_rfl))
noncomputable def ZT (s:ByteArray):Int→Option (Int⊕(Unit⊕Unit))|k=>if k<((ByteArray.size s:Nat):Int) then if 0≤k then Option.bind (Array.toList (ByteArray.data s))[Int.toNat k]? fun(a:UInt8)=>if 65≤((UInt8.toNat a:Nat):Int) then if 0≤k then Option.bind (Array.toList (ByteArray.data s))[Int.toNat k]? fun(a2:UInt8)=>if 0≤k then Option.bind (Array.toList (ByteArray.data s))[Int.toNat k]? fun(a3:UInt8)=>if 48≤((UInt8.toNat a3:Nat):Int) then if 0≤k then Option.bind (Array.toList (ByteArray.data s))[Int.toNat k]? fun(a4:UInt8)=>if(!(decide (((UInt8.toNat a2:Nat):Int)≤90)))=Bool.true then if(!(decide (((UInt8.toNat a4:Nat):Int)≤57)))=Bool.true then some (Sum.inr (Sum.inl ())) else some (Sum.inl (w64 (k+1))) else some (Sum.inl (w64 (k+1))) else none else if(!(decide (((UInt8.toNat a2:Nat):Int)≤90)))=Bool.true then some (Sum.inr (Sum.inl ())) else some (Sum.inl (w64 (k+1))) else none else none else if 0≤k then Option.bind (Array.toList (ByteArray.data s))[Int.toNat k]? fun(a5:UInt8)=>if 48≤((UInt8.toNat a5:Nat):Int) then if 0≤k then Option.bind (Array.toList (ByteArray.data s))[Int.toNat k]? fun(a6:UInt8)=>if(!(decide (((UInt8.toNat a6:Nat):Int)≤57)))=Bool.true then some (Sum.inr (Sum.inl ())) else some (Sum.inl (w64 (k+1))) else none else some (Sum.inr (Sum.inl ())) else none else none else some (Sum.inr (Sum.inr ()))
theorem q5V:∀(s:ByteArray) (k:Int),XL2 evo 100 0 2 ⟨[(0,rS s),(3,rI k)],[],0,46⟩=(qq (ZT s) k).bind (Sum.elim (fun(e:Unit)=>some (Go.Exit.ret,⟨[(0,rS s),(2,rB Bool.false)],[],0,46⟩)) (fun(e:Unit)=>some (Go.Exit.exit 0,⟨[(0,rS s),(2,R.any)],[],0,46⟩))) :=
 fun s k=>by
  revert k;exact q89 qoE qn8 (fun e=>by rcases e with _|_<;>exact⟨_,rfl,fun h=>by cases h⟩) fun x=>by
   have:=qrX;have:=@qcP.eq_1;have:=@ZT.eq_1;exact gA
noncomputable def q14 (s:ByteArray):Option Bool:=Option.bind (qq (ZT s) 0) fun(a:Sum Unit Unit)=>Sum.elim (fun(a2:Unit)=>some Bool.false) (fun(a3:Unit)=>if 1≤((ByteArray.size s:Nat):Int) then some (decide (((ByteArray.size s:Nat):Int)≤8)) else some Bool.false) a
theorem q9t:∀(s:ByteArray),ev 100 0 [rS s] []=(q14 s).bind (fun(e:Bool)=>some (rB e,[])) :=
 fun s=>by
  rw[qt qlx quC.2.2.2 qqB]
  have:=qrX;have:=@q5V;have:=@q14.eq_1;exact gA
noncomputable def q0s (c:qc):Option Bool:=Option.bind (q14 c.Code) fun(a:Bool)=>if a=Bool.true then if 1≤c.School then some (decide (c.School≤8)) else some Bool.false else some Bool.false
theorem q8f:∀(c_School:Int) (c_Code:ByteArray),ev 86 0 [R.agg [dI c_School,dS c_Code]] []=(q0s (qc.mk c_School c_Code)).bind (fun(e:Bool)=>some (rB e,[])) :=
 fun c_School c_Code=>by
  rw[qt qyF qB1.2.2.2 qBN]
  have:=qDP;have:=@q9t;have:=@q0s.eq_1;exact gA
noncomputable def Qt (b0:qb):Int→Option (Int⊕(Unit⊕Unit))|t3=>if t3<((b0.Set.length:Nat):Int) then if 0≤t3∧t3<((b0.Set.length:Nat):Int) then Option.bind b0.Set[Int.toNat t3]? fun(a:qc)=>Option.bind (q0s a) fun(a2:Bool)=>if(!a2)=Bool.true then some (Sum.inr (Sum.inl ())) else some (Sum.inl (w64 (t3+1))) else none else some (Sum.inr (Sum.inr ()))
theorem q5P:∀(b0_Kind b0_N b0_Min:Int) (b0_Set:List qc) (b0_L:List qb) (t3:Int),XL2 evo 64 0 23 ⟨[(1,rP 0),(3,rI t3)],[(0,B.blk 30 [dI b0_Kind,dI b0_N,dI b0_Min,dL 2 qe b0_Set,dL 5 qg b0_L])],1,116⟩=(qq (Qt (qb.mk b0_Kind b0_N b0_Min b0_Set b0_L)) t3).bind (Sum.elim (fun(e:Unit)=>some (Go.Exit.ret,⟨[(1,rP 0),(2,rI 1)],[(0,B.blk 30 [dI b0_Kind,dI b0_N,dI b0_Min,dL 2 qe b0_Set,dL 5 qg b0_L])],1,116⟩)) (fun(e:Unit)=>some (Go.Exit.exit 1,⟨[(1,rP 0),(2,R.any)],[(0,B.blk 30 [dI b0_Kind,dI b0_N,dI b0_Min,dL 2 qe b0_Set,dL 5 qg b0_L])],1,116⟩))) :=
 fun b0_Kind b0_N b0_Min b0_Set b0_L t3=>by
  revert t3;exact q89 qpd qoY (fun e=>by rcases e with _|_<;>exact⟨_,rfl,fun h=>by cases h⟩) fun x=>by
   have:=qx4;have:=@qdy.eq_1;have:=@q8f;have:=@Qt.eq_1;exact gA
theorem qCm:okL 77 qg8:=qu (qh qxa) (by kernel_rfl) (by kernel_rfl)
def qCW:=JA_ @qg8.eq_1 (JA_ @Tryz.f77.eq_1 @qxa)
noncomputable def q05 (a:qc) (b:qc):Option Bool:=if a.School<b.School then some Bool.true else if(a.School==b.School)=Bool.true then some (Go.Op.bytesLess (ByteArray.toList a.Code) (ByteArray.toList b.Code)) else some Bool.false
noncomputable def qW (a:qc) (b:qc):Bool:=if a.School<b.School then Bool.true else if(a.School==b.School)=Bool.true then Go.Op.bytesLess (ByteArray.toList a.Code) (ByteArray.toList b.Code) else Bool.false
theorem q4L (a b:qc):q05 a b=some (qW a b):=by
 unfold q05 qW
 simp only[zG]
theorem ZZ:∀(a_School:Int) (a_Code:ByteArray) (b_School:Int) (b_Code:ByteArray),ev 77 0 [R.agg [dI a_School,dS a_Code],R.agg [dI b_School,dS b_Code]] []=some (rB (qW (qc.mk a_School a_Code) (qc.mk b_School b_Code)),[]) :=
 fun a_School a_Code b_School b_Code=>by
  have h:ev 77 0 [R.agg [dI a_School,dS a_Code],R.agg [dI b_School,dS b_Code]] []=(q05 (qc.mk a_School a_Code) (qc.mk b_School b_Code)).bind (fun(e:Bool)=>some (rB e,[])):=by
   rw[qt qxa qAZ.2.2.2 qCm]
   have:=qCW;have:=@q05.eq_1;exact gA
  rw[q4L] at h
  exact h
noncomputable def Qq (b0:qb):Int→Option (Int⊕(Unit⊕Unit))|t4=>if t4<((b0.Set.length:Nat):Int) then if 0≤w64 (t4-1)∧w64 (t4-1)<((b0.Set.length:Nat):Int) then Option.bind b0.Set[Int.toNat (w64 (t4-1))]? fun(a:qc)=>if 0≤t4∧t4<((b0.Set.length:Nat):Int) then Option.bind b0.Set[Int.toNat t4]? fun(a2:qc)=>if(!(qW a a2))=Bool.true then some (Sum.inr (Sum.inl ())) else some (Sum.inl (w64 (t4+1))) else none else none else some (Sum.inr (Sum.inr ()))
theorem q6B:∀(b0_Kind b0_N b0_Min:Int) (b0_Set:List qc) (b0_L:List qb) (t4:Int),XL2 evo 64 0 28 ⟨[(1,rP 0),(4,rI t4)],[(0,B.blk 30 [dI b0_Kind,dI b0_N,dI b0_Min,dL 2 qe b0_Set,dL 5 qg b0_L])],1,116⟩=(qq (Qq (qb.mk b0_Kind b0_N b0_Min b0_Set b0_L)) t4).bind (Sum.elim (fun(e:Unit)=>some (Go.Exit.ret,⟨[(2,rI 7)],[],0,116⟩)) (fun(e:Unit)=>some (Go.Exit.exit 3,⟨[(2,R.any)],[],0,116⟩))) :=
 fun b0_Kind b0_N b0_Min b0_Set b0_L t4=>by
  revert t4;exact q89 qpf qnD (fun e=>by rcases e with _|_<;>exact⟨_,rfl,fun h=>by cases h⟩) fun x=>by
   have:=qx4;have:=@qda.eq_1;have:=@ZZ;have:=@Qq.eq_1;exact gA
noncomputable def q1r (x0:qb):Option Int:=if(x0.Kind==1)=Bool.true then if(x0.N != 0)=Bool.true then some 13 else if 0<((x0.L.length:Nat):Int) then some 13 else if(!(Qh x0.Min (-1000) 1000))=Bool.true then some 3 else if(((x0.Set.length:Nat):Int)==0)=Bool.true then some 2 else if 12<((x0.Set.length:Nat):Int) then some 2 else Option.bind (qq (Qt x0) 0) fun(a:Sum Unit Unit)=>Sum.elim (fun(a2:Unit)=>some 1) (fun(a3:Unit)=>Option.bind (qq (Qq x0) 1) fun(a4:Sum Unit Unit)=>Sum.elim (fun(a5:Unit)=>some 7) (fun(a6:Unit)=>some 0) a4) a else if(x0.Kind==2)=Bool.true then if 0<((x0.L.length:Nat):Int) then some 13 else if(!(Qh x0.N 1 600))=Bool.true then some 3 else if(!(Qh x0.Min (-1000) 1000))=Bool.true then some 3 else if(((x0.Set.length:Nat):Int)==0)=Bool.true then some 2 else if 12<((x0.Set.length:Nat):Int) then some 2 else Option.bind (qq (Qt x0) 0) fun(a7:Sum Unit Unit)=>Sum.elim (fun(a8:Unit)=>some 1) (fun(a9:Unit)=>Option.bind (qq (Qq x0) 1) fun(a10:Sum Unit Unit)=>Sum.elim (fun(a11:Unit)=>some 7) (fun(a12:Unit)=>some 0) a10) a7 else if(x0.Kind==3)=Bool.true then if(x0.Min != 0)=Bool.true then some 13 else if 0<((x0.Set.length:Nat):Int) then some 13 else if(((x0.L.length:Nat):Int)==0)=Bool.true then some 13 else if(x0.Kind==3)=Bool.true then if(x0.N != 0)=Bool.true then some 13 else if(x0.Kind==4)=Bool.true then if(!(Qh x0.N 1 ((x0.L.length:Nat):Int)))=Bool.true then some 3 else some 0 else some 0 else if(x0.Kind==4)=Bool.true then if(!(Qh x0.N 1 ((x0.L.length:Nat):Int)))=Bool.true then some 3 else some 0 else some 0 else if(x0.Kind==4)=Bool.true then if(x0.Min != 0)=Bool.true then some 13 else if 0<((x0.Set.length:Nat):Int) then some 13 else if(((x0.L.length:Nat):Int)==0)=Bool.true then some 13 else if(x0.Kind==3)=Bool.true then if(x0.N != 0)=Bool.true then some 13 else if(x0.Kind==4)=Bool.true then if(!(Qh x0.N 1 ((x0.L.length:Nat):Int)))=Bool.true then some 3 else some 0 else some 0 else if(x0.Kind==4)=Bool.true then if(!(Qh x0.N 1 ((x0.L.length:Nat):Int)))=Bool.true then some 3 else some 0 else some 0 else some 13
theorem qa3:∀(x0_Kind x0_N x0_Min:Int) (x0_Set:List qc) (x0_L:List qb),ev 64 0 [R.agg [dI x0_Kind,dI x0_N,dI x0_Min,dL 2 qe x0_Set,dL 5 qg x0_L]] []=(q1r (qb.mk x0_Kind x0_N x0_Min x0_Set x0_L)).bind (fun(e:Int)=>some (rI e,[])) :=
 fun x0_Kind x0_N x0_Min x0_Set x0_L=>by
  rw[qt qsT qBc.2.2.2 qyB]
  have:=qx4;have:=@qbg;have:=@q5P;have:=@q6B;have:=@q1r.eq_1;exact gA
noncomputable def QH (nodes:List qj):Int→Option (Int⊕(Int⊕Unit))|i=>if i<((nodes.length:Nat):Int) then if 0≤i∧i<((nodes.length:Nat):Int) then Option.bind nodes[Int.toNat i]? fun(a:qj)=>Option.bind (q1r a.Need) fun(a2:Int)=>if(a2 != 0)=Bool.true then some (Sum.inr (Sum.inl a2)) else some (Sum.inl (w64 (i+1))) else none else some (Sum.inr (Sum.inr ()))
theorem q4R:∀(nodes:List qj) (i:Int) (nodes_len:Nat),nodes_len=nodes.length→XL2 evo 34 0 15 ⟨[(3,rO 0 6 nodes_len),(7,rI i)],[(0,bR 126 6 qk nodes)],1,62⟩=(qq (QH nodes) i).bind (Sum.elim (fun(e:Int)=>some (Go.Exit.ret,⟨[(2,rI e)],[],0,62⟩)) (fun(e:Unit)=>some (Go.Exit.exit 2,⟨[(2,R.any)],[],0,62⟩))) :=
 by
 intro nodes i nodes_len h0
 subst h0
 revert i;exact q89 qnk qpZ (fun e=>by rcases e with _|_<;>exact⟨_,rfl,fun h=>by cases h⟩) fun x=>by
  have:=qwx;have:=@qcX.eq_1;have:=@qa3;have:=@QH.eq_1;exact gA
noncomputable def q0t (n:qb):Option Int:=Option.bind (Jy n 1) fun(a:Sum Unit (List qj))=>Sum.elim (fun(a2:Unit)=>some 2) (fun(a3:List qj)=>if 24<((a3.length:Nat):Int) then some 2 else Option.bind (qq (Q8 a3) (0,0)) fun(a4:Sum Int Int)=>Sum.elim (fun(a5:Int)=>some 2) (fun(a6:Int)=>if(a6==0)=Bool.true then some 2 else if 8<a6 then some 2 else Option.bind (qq (QH a3) 0) fun(a7:Sum Int Unit)=>Sum.elim (fun(a8:Int)=>some a8) (fun(a9:Unit)=>some 0) a7) a4) a
theorem q7Q:∀(n_Kind n_N n_Min:Int) (n_Set:List qc) (n_L:List qb),ev 34 0 [R.agg [dI n_Kind,dI n_N,dI n_Min,dL 2 qe n_Set,dL 5 qg n_L]] []=(q0t (qb.mk n_Kind n_N n_Min n_Set n_L)).bind (fun(e:Int)=>some (rI e,[])) :=
 fun n_Kind n_N n_Min n_Set n_L=>by
  rw[qt qsU qAu.2.2.2 qyM]
  have:=qwx;have:=@q1B;have:=@q5g;have:=@q4R;have:=@q0t.eq_1;exact gA
theorem lo9:okL 9 qi0:=qu (qh bd9) (by kernel_rfl) (by kernel_rfl)
def cx9:=JA_ @qi0.eq_1 (JA_ @Tryz.f9.eq_1 @bd9)
theorem qwk:lbO 9 3=qnm:=zf (qh bd9) rfl
theorem qz0:okL 9 qnm:=qH lo9 (List.mem_of_getElem? (i:=0) (by kernel_rfl))
theorem qwp:lbO 9 9=qof:=zf (qh bd9) rfl
theorem qyN:okL 9 qof:=qH lo9 (List.mem_of_getElem? (i:=1) (by kernel_rfl))
noncomputable def zi (x:(qb×Int)):List R×List (Nat×B):=([R.agg [C.d (D.int .i64 x.1.Kind),C.d (D.int .i64 x.1.N),C.d (D.int .i64 x.1.Min),C.d (D.sl 2 x.1.Set.length (x.1.Set.flatMap qe)),C.d (D.sl 5 x.1.L.length (x.1.L.flatMap qg))],R.c (C.d (D.int .i64 x.2))],[])
noncomputable def Qo:qb→R×List (Nat×B):=fun(e:qb)=>(R.agg [C.d (D.int .i64 e.Kind),C.d (D.int .i64 e.N),C.d (D.int .i64 e.Min),C.d (D.sl 2 e.Set.length (e.Set.flatMap qe)),C.d (D.sl 5 e.L.length (e.L.flatMap qg))],[])
noncomputable def zS (rF:(qb×Int)→Option qb) (b0:qb) (b1_Kind:Int) (b1_N:Int) (b1_Min:Int) (b2_Kind:Int) (b2_N:Int) (b2_Min:Int) (t1:Int):(List qc×Int)→Option ((List qc×Int)⊕(List qc))|(w3,t6)=>if t6<((b0.Set.length:Nat):Int) then if t6<3 then if 0≤t6∧t6<((b0.Set.length:Nat):Int) then Option.bind b0.Set[Int.toNat t6]? fun(a2:qc)=>if 0≤min ((ByteArray.size a2.Code:Nat):Int) 12∧min ((ByteArray.size a2.Code:Nat):Int) 12≤((ByteArray.size a2.Code:Nat):Int) then if w3.length+1≤Go.maxLen∧(w3.length+1)*24≤140737488355328 then some (Sum.inl (w3++[qc.mk a2.School (ByteArray.extract a2.Code 0 (Int.toNat (min ((ByteArray.size a2.Code:Nat):Int) 12)))],w64 (t6+1))) else none else none else none else some (Sum.inr w3) else some (Sum.inr w3)
theorem q5K (rE:Orc) (rF:(qb×Int)→Option qb) (hF:∀y,rE (.fn 9) 0 (zi y).1 (zi y).2=(rF y).bind fun e=>some (Qo e)) (hM:∀g k a G,g≠9→rE (.fn g) k a G=ev g k a G) (hR:∀g asg bd k a G,rE (.rd g asg bd) k a G=evr g asg bd k a G):∀(w3:List qc) (b0_Kind b0_N b0_Min:Int) (b0_Set:List qc) (b0_L:List qb) (b1_Kind b1_N b1_Min b2_Kind b2_N b2_Min t1 t6:Int) (w3_len:Nat),w3_len=w3.length→XL2 rE 9 0 3 ⟨[(1,rI t1),(2,rP 0),(4,rP 1),(5,rP 2),(6,rI t6)],[(0,B.blk 30 [dI b0_Kind,dI b0_N,dI b0_Min,dL 2 qe b0_Set,dL 5 qg b0_L]),(1,B.blk 30 [dI b1_Kind,dI b1_N,dI b1_Min,C.nils,C.nils]),(2,B.blk 30 [dI b2_Kind,dI b2_N,dI b2_Min,dO 3 2 w3_len,C.nils]),(3,bR 51 2 qe w3)],4,75⟩=(qq (zS rF (qb.mk b0_Kind b0_N b0_Min b0_Set b0_L) b1_Kind b1_N b1_Min b2_Kind b2_N b2_Min t1) (w3,t6)).bind (fun(e:List qc)=>some (Go.Exit.exit 0,⟨[(1,rI t1),(2,rP 0),(4,rP 1),(5,rP 2)],[(0,B.blk 30 [dI b0_Kind,dI b0_N,dI b0_Min,dL 2 qe b0_Set,dL 5 qg b0_L]),(1,B.blk 30 [dI b1_Kind,dI b1_N,dI b1_Min,C.nils,C.nils]),(2,B.blk 30 [dI b2_Kind,dI b2_N,dI b2_Min,dO 3 2 e.length,C.nils]),(3,bR 51 2 qe e)],4,75⟩)) :=
 by
 intro w3 b0_Kind b0_N b0_Min b0_Set b0_L b1_Kind b1_N b1_Min b2_Kind b2_N b2_Min t1 t6 w3_len h0
 subst h0
 revert t6;revert w3;exact q3v qwk qz0 (fun e=>by exact⟨_,rfl,fun h=>by cases h⟩) fun w3 t6=>by
  have hF':∀(x0_Kind x0_N x0_Min:Int) (x0_Set:List qc) (x0_L:List qb) (x1:Int),rE (.fn 9) 0 [R.agg [dI x0_Kind,dI x0_N,dI x0_Min,dL 2 qe x0_Set,dL 5 qg x0_L],rI x1] []=(rF ((qb.mk x0_Kind x0_N x0_Min x0_Set x0_L),x1)).bind (fun e=>some (R.agg [dI e.Kind,dI e.N,dI e.Min,dL 2 qe e.Set,dL 5 qg e.L],[])):=fun x0_Kind x0_N x0_Min x0_Set x0_L x1=>hF ((qb.mk x0_Kind x0_N x0_Min x0_Set x0_L),x1)
  have:=cx9;have:=@qnm.eq_1;have:=@zS.eq_1;exact gA
theorem q3E:∀(rE:Orc) (rF:(qb×Int)→Option qb) (hF:∀y,rE (.fn 9) 0 (zi y).1 (zi y).2=(rF y).bind fun e=>some (Qo e)) (hM:∀g k a G,g≠9→rE (.fn g) k a G=ev g k a G) (hR:∀g asg bd k a G,rE (.rd g asg bd) k a G=evr g asg bd k a G),∀  (b0_Kind b0_N b0_Min:Int) (b0_Set:List qc) (b0_L:List qb) (b1_Kind b1_N b1_Min b2_Kind b2_N b2_Min t1 t6:Int),XL2 rE 9 0 3 ⟨[(1,rI t1),(2,rP 0),(4,rP 1),(5,rP 2),(6,rI t6)],[(0,B.blk 30 [dI b0_Kind,dI b0_N,dI b0_Min,dL 2 qe b0_Set,dL 5 qg b0_L]),(1,B.blk 30 [dI b1_Kind,dI b1_N,dI b1_Min,C.nils,C.nils]),(2,B.blk 30 [dI b2_Kind,dI b2_N,dI b2_Min,dO 3 2 0,C.nils]),(3,B.row 51 2 [])],4,75⟩=(qq (zS rF (qb.mk b0_Kind b0_N b0_Min b0_Set b0_L) b1_Kind b1_N b1_Min b2_Kind b2_N b2_Min t1) ([],t6)).bind (fun(e:List qc)=>some (Go.Exit.exit 0,⟨[(1,rI t1),(2,rP 0),(4,rP 1),(5,rP 2)],[(0,B.blk 30 [dI b0_Kind,dI b0_N,dI b0_Min,dL 2 qe b0_Set,dL 5 qg b0_L]),(1,B.blk 30 [dI b1_Kind,dI b1_N,dI b1_Min,C.nils,C.nils]),(2,B.blk 30 [dI b2_Kind,dI b2_N,dI b2_Min,dO 3 2 e.length,C.nils]),(3,bR 51 2 qe e)],4,75⟩)):=by
 intro rE rF hF hM hR b0_Kind b0_N b0_Min b0_Set b0_L b1_Kind b1_N b1_Min b2_Kind b2_N b2_Min t1 t6;have h:=q5K rE rF hF hM hR [] ((qb.mk b0_Kind b0_N b0_Min b0_Set b0_L)).Kind ((qb.mk b0_Kind b0_N b0_Min b0_Set b0_L)).N ((qb.mk b0_Kind b0_N b0_Min b0_Set b0_L)).Min ((qb.mk b0_Kind b0_N b0_Min b0_Set b0_L)).Set ((qb.mk b0_Kind b0_N b0_Min b0_Set b0_L)).L b1_Kind b1_N b1_Min b2_Kind b2_N b2_Min t1 t6 _ rfl
 first
  | exact h
  | (simp only[rL,dL,bR,bZ,Nat.reduceAdd] at h;exact h)
end Go.Proofs.YtgejdfnidjnjcaaGreat.Vc
