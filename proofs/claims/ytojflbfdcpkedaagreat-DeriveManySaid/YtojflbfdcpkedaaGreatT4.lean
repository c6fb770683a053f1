/- Part 4 of a proof. -/
import Derived.Test.YtojflbfdcpkedaaGreatT3
set_option linter.unusedVariables false
set_option linter.unusedSimpArgs false
set_option linter.defProp false
set_option linter.unusedSectionVars false
set_option linter.unnecessarySimpa false
namespace Go.Proofs.YtojflbfdcpkedaaGreat.Vc
noncomputable section
open Go.RowKit
set_option maxRecDepth 20000
set_option maxHeartbeats 8000000
theorem qCY:okL 15 qcP:=qV (qn qw3) (by kernel_rfl) (by kernel_rfl)
def qCO:=JA_ @qcP.eq_1 (JA_ @Tryz.f15.eq_1 @qw3)
theorem qyL:lbO 15 6=qnS:=QO (qn qw3) rfl
theorem qyj:okL 15 qnS:=Q6 qCY (qLe (i:=0) (by kernel_rfl))
theorem qnF:raO 15 19=q9f:=qrr (qn qw3) rfl
theorem qhe:rbO 15 19=q7E:=qrq (qn qw3) rfl
theorem qkX:okL 15 q9f∧okL 15 q7E:=qrh (key:=0) (q:=(q9f,q7E)) qCY (qLe (i:=0) (by kernel_rfl))
theorem qgH:zX (rbO 15 19)=19:=by rw[qhe];exact qvw
theorem qtm:∀k s,XE2 evo 15 k (raO 15 19) s=XE2 evo 15 k q9f s:=fun _ _=>by rw[qnF]
theorem qtx:∀k s,XE2 evo 15 k (rbO 15 19) s=XE2 evo 15 k q7E s:=fun _ _=>by rw[qhe]
theorem qI7:okL 33 qnm:=qV (qn qEO) (by kernel_rfl) (by kernel_rfl)
def qJh:=JA_ @qnm.eq_1 (JA_ @Tryz.f33.eq_1 @qEO)
theorem qG4:okL 56 qhP:=qV (qn qBI) (by kernel_rfl) (by kernel_rfl)
def qGF:=JA_ @qhP.eq_1 (JA_ @Tryz.f56.eq_1 @qBI)
theorem qui:lbO 56 13=qgd:=QO (qn qBI) rfl
theorem qvk:okL 56 qgd:=Q6 qG4 (qLe (i:=0) (by kernel_rfl))
theorem qHB:okL 97 qnL:=qV (qn qDB) (by kernel_rfl) (by kernel_rfl)
def qIE:=JA_ @qnL.eq_1 (JA_ @Tryz.f97.eq_1 @qDB)
def q3e (n:Int) (low:Int) (high:Int):Option Bool:=if low≤n then some (decide (n≤high)) else some Bool.false
def zu (n:Int) (low:Int) (high:Int):Bool:=if low≤n then decide (n≤high) else Bool.false
theorem q9G (n low high:Int):q3e n low high=some (zu n low high):=by
 unfold q3e zu
 simp only[Zc]
theorem ZZ:∀(n low high:Int),ev 97 0 [rI n,rI low,rI high] []=some (rB (zu n low high),[]):=
 fun n low high=>by
  have h:ev 97 0 [rI n,rI low,rI high] []=(q3e n low high).bind (fun(e:Bool)=>some (rB e,[])):=by
   rw[qQ qDB qGS.2.2.2 qHB]
   have:=qIE;have:=@q3e.eq_1;exact gA
  rw[q9G] at h
  exact h
theorem qGH:okL 98 qiW:=qV (qn qBz) (by kernel_rfl) (by kernel_rfl)
def qH6:=JA_ @qiW.eq_1 (JA_ @Tryz.f98.eq_1 @qBz)
theorem qB2:lbO 98 2=qnN:=QO (qn qBz) rfl
theorem qy7:okL 98 qnN:=Q6 qGH (qLe (i:=0) (by kernel_rfl))
def JW (s:ByteArray) (t6:List Int) (t7:Int):Int→Option (Int⊕(Unit⊕Unit))|t8=>if t8<t7 then if 0≤t8∧t8<((t6.length:Nat):Int) then Option.bind t6[Int.toNat t8]? fun(a:Int)=>if a<32 then some (Sum.inr (Sum.inl ())) else if 126<a then some (Sum.inr (Sum.inl ())) else if(a==34)=Bool.true then some (Sum.inr (Sum.inl ())) else some (Sum.inl (w64 (t8+1))) else none else some (Sum.inr (Sum.inr ()))
theorem q8K:∀(s:ByteArray) (t6:List Int) (t7 t8:Int),XL2 evo 98 0 2 ⟨[(0,rS s),(6,rL 1 eU8 t6),(7,rI t7),(8,rI t8)],[],0,26⟩=(zG (JW s t6 t7) t8).bind (Sum.elim (fun(e:Unit)=>some (Exit.ret,⟨[(0,rS s),(2,rB Bool.false)],[],0,26⟩)) (fun(e:Unit)=>some (Exit.exit 0,⟨[(0,rS s),(2,R.any)],[],0,26⟩))):=
 fun s t6 t7 t8=>by
  revert t8;exact qbd qB2 qy7 (fun e=>by rcases e with _|_<;>exact⟨_,rfl,fun h=>by cases h⟩) fun x=>by
   have:=qH6;have:=@qnN.eq_1;have:=@JW.eq_1;exact gA
def q0V (s:ByteArray):Option Bool:=if ByteArray.size s≤4611686018427387903 then Option.bind (zG (JW s (qfA s) (((qfA s).length:Nat):Int)) 0) fun(a:Sum Unit Unit)=>Sum.elim (fun(a2:Unit)=>some Bool.false) (fun(a3:Unit)=>some (zu ((ByteArray.size s:Nat):Int) 1 40)) a else none
theorem qbP:∀(s:ByteArray),ev 98 0 [rS s] []=(q0V s).bind (fun(e:Bool)=>some (rB e,[])):=
 fun s=>by
  rw[qQ qBz qGA.2.2.2 qGH]
  have:=qH6;have:=@q8K;have:=@ZZ;have:=@q0V.eq_1;exact gA
theorem qGh:okL 58 qiD:=qV (qn qBH) (by kernel_rfl) (by kernel_rfl)
def qH3:=JA_ @qiD.eq_1 (JA_ @Tryz.f58.eq_1 @qBH)
theorem qwO:lbO 58 6=qmp:=QO (qn qBH) rfl
theorem qze:okL 58 qmp:=Q6 qGh (qLe (i:=0) (by kernel_rfl))
theorem qB7:okL 102 qb4:=qV (qn qnW) (by kernel_rfl) (by kernel_rfl)
def qur:=JA_ @qb4.eq_1 (JA_ @Tryz.f102.eq_1 @qnW)
theorem qgc:raO 102 4=q7J:=qrr (qn qnW) rfl
theorem qe0:rbO 102 4=q62:=qrq (qn qnW) rfl
theorem qeg:okL 102 q7J∧okL 102 q62:=qrh (key:=0) (q:=(q7J,q62)) qB7 (qLe (i:=0) (by kernel_rfl))
theorem qgQ:zX (rbO 102 4)=4:=by rw[qe0];exact qsU
theorem qlB:∀k s,XE2 evo 102 k (raO 102 4) s=XE2 evo 102 k q7J s:=fun _ _=>by rw[qgc]
theorem qkl:∀k s,XE2 evo 102 k (rbO 102 4) s=XE2 evo 102 k q62 s:=fun _ _=>by rw[qe0]
theorem qCB:okL 139 qfT:=qV (qn qss) (by kernel_rfl) (by kernel_rfl)
def qDW:=JA_ @qfT.eq_1 (JA_ @Tryz.f139.eq_1 @qss)
def q3N (n:qb):Option Unit:=
 some ()
def q77 (n:qb):Unit:=
 ()
theorem qaa (n:qb):q3N n=some (q77 n):=by
 unfold q3N q77
 simp only[Zc]
theorem qbo:∀(qC n_N qY:Int) (qZ:List qd) (n_L:List qb),ev 139 0 [R.agg [dI qC,dI n_N,dI qY,dL 2 qe qZ,dL 5 qh n_L]] []=some (R.c (C.fn 168 [] [dP 0]),[(0,B.blk 36 [dI qC,dI n_N,dI qY,dL 2 qe qZ,dL 5 qh n_L])]):=
 fun qC n_N qY qZ n_L=>by
  have h:ev 139 0 [R.agg [dI qC,dI n_N,dI qY,dL 2 qe qZ,dL 5 qh n_L]] []=(q3N (qb.mk qC n_N qY qZ n_L)).bind (fun(e:Unit)=>some (R.c (C.fn 168 [] [dP 0]),[(0,B.blk 36 [dI qC,dI n_N,dI qY,dL 2 qe qZ,dL 5 qh n_L])])):=by
   rw[qQ qss qz7.2.2.2 qCB]
   have:=qDW;have:=@q3N.eq_1;exact gA
  rw[qaa] at h
  exact h
theorem qD1:okL 168 qhl:=qV (qn qvE) (by kernel_rfl) (by kernel_rfl)
def qEp:=JA_ @qhl.eq_1 (JA_ @Tryz.f168.eq_1 @qvE)
theorem qtF:okL 169 qdE:=qV (qn qkA) (by kernel_rfl) (by kernel_rfl)
def qoG:=JA_ @qdE.eq_1 (JA_ @Tryz.f169.eq_1 @qkA)
theorem qmR:lbO 169 4=qdQ:=QO (qn qkA) rfl
theorem qmH:okL 169 qdQ:=Q6 qtF (qLe (i:=0) (by kernel_rfl))
def q2t (t9:Int) (t10:Int) (t102:Int) (t103:Int) (t104:List qd) (t105:List qb) (deepest:Int) (ok:Bool):Option (Unit⊕(List qb×Int)):=if 100<t9 then some (Sum.inl ()) else if 1≤maxLen then some (Sum.inr ([qb.mk t10 t102 t103 t104 t105],max deepest t9)) else none
theorem q9w:∀(t9 t10 t102 t103:Int) (t104:List qd) (t105:List qb) (deepest:Int) (ok:Bool),evr 102 (raO 102 4) (rbO 102 4) 4 [R.any,R.any,rP 0,rP 1,rP 2,R.any,R.any,R.any,R.any,rI t9,R.agg [dI t10,dI t102,dI t103,dL 2 qe t104,dL 5 qh t105],R.any,R.any,R.any,R.any,R.any,R.any,R.any,R.any,R.any,R.any,R.any,R.any,R.any,R.any,R.any,R.any] [(0,B.blk 34 [C.nils]),(1,B.blk 3 [dI deepest]),(2,B.blk 4 [dB ok]),(3,B.ob (AO.lp 102 (R.any::R.any::rP 0::rP 1::rP 2::q7k) [9,10] (raO 102 4) (rbO 102 4) LoopState.ready none))]=(q2t t9 t10 t102 t103 t104 t105 deepest ok).bind (Sum.elim (fun(e:Unit)=>some (rB Bool.false,[(0,B.blk 34 [C.nils]),(1,B.blk 3 [dI 0]),(2,B.blk 4 [dB Bool.false]),(3,B.ob (AO.lp 102 (R.any::R.any::rP 0::rP 1::rP 2::q7k) [9,10] (raO 102 4) (rbO 102 4) LoopState.done (some Code.ret)))])) (fun(e:List qb×Int)=>some (rB Bool.true,[(0,B.blk 34 [dO 4 5 e.1.length]),(1,B.blk 3 [dI e.2]),(2,B.blk 4 [dB ok]),(3,B.ob (AO.lp 102 (R.any::R.any::rP 0::rP 1::rP 2::q7k) [9,10] (raO 102 4) (rbO 102 4) LoopState.ready none)),(4,bR 36 5 qh e.1)]))):=
 fun t9 t10 t102 t103 t104 t105 deepest ok=>by
  rw[qh3 qgc qe0 (by decide) qlW qeg.1 qeg.2]
  have:=qur;have:=@qlB;have:=@qkl;have:=@q7J.eq_1;have:=@q62.eq_1;have:=@q2t.eq_1;have:=@qgQ;exact gA
def q1w (t9:Int) (t10:Int) (t102:Int) (t103:Int) (t104:List qd) (t105:List qb) (w4:List qb) (deepest:Int) (ok:Bool):Option (Unit⊕(List qb×Int)):=if 100<t9 then some (Sum.inl ()) else if(((w4.length:Nat):Int)==10000)=Bool.true then some (Sum.inl ()) else if w4.length+1≤maxLen∧(w4.length+1)*72≤140737488355328 then some (Sum.inr (w4++[qb.mk t10 t102 t103 t104 t105],max deepest t9)) else none
theorem q7x:∀(t9 t10 t102 t103:Int) (t104:List qd) (t105 w4:List qb) (deepest:Int) (ok:Bool) (Zr:Nat),Zr=w4.length→evr 102 (raO 102 4) (rbO 102 4) 4 [R.any,R.any,rP 0,rP 1,rP 2,R.any,R.any,R.any,R.any,rI t9,R.agg [dI t10,dI t102,dI t103,dL 2 qe t104,dL 5 qh t105],R.any,R.any,R.any,R.any,R.any,R.any,R.any,R.any,R.any,R.any,R.any,R.any,R.any,R.any,R.any,R.any] [(0,B.blk 34 [dO 4 5 Zr]),(1,B.blk 3 [dI deepest]),(2,B.blk 4 [dB ok]),(3,B.ob (AO.lp 102 (R.any::R.any::rP 0::rP 1::rP 2::q7k) [9,10] (raO 102 4) (rbO 102 4) LoopState.ready none)),(4,bR 36 5 qh w4)]=(q1w t9 t10 t102 t103 t104 t105 w4 deepest ok).bind (Sum.elim (fun(e:Unit)=>some (rB Bool.false,[(0,B.blk 34 [C.nils]),(1,B.blk 3 [dI 0]),(2,B.blk 4 [dB Bool.false]),(3,B.ob (AO.lp 102 (R.any::R.any::rP 0::rP 1::rP 2::q7k) [9,10] (raO 102 4) (rbO 102 4) LoopState.done (some Code.ret)))])) (fun(e:List qb×Int)=>some (rB Bool.true,[(0,B.blk 34 [dO 4 5 e.1.length]),(1,B.blk 3 [dI e.2]),(2,B.blk 4 [dB ok]),(3,B.ob (AO.lp 102 (R.any::R.any::rP 0::rP 1::rP 2::q7k) [9,10] (raO 102 4) (rbO 102 4) LoopState.ready none)),(4,bR 36 5 qh e.1)]))):=
 by
 intro t9 t10 t102 t103 t104 t105 w4 deepest ok Zr h0
 subst h0
 rw[qh3 qgc qe0 (by decide) qlW qeg.1 qeg.2]
 have:=qur;have:=@qlB;have:=@qkl;have:=@q7J.eq_1;have:=@q62.eq_1;have:=@q1w.eq_1;have:=@qgQ;exact gA
def ZK (x:(qb×Int×List qb×Int×Bool)):List R×List (Nat×B):=([R.agg [C.d (D.int .i64 x.1.Kind),C.d (D.int .i64 x.1.N),C.d (D.int .i64 x.1.Min),C.d (D.sl 2 x.1.Set.length (x.1.Set.flatMap qe)),C.d (D.sl 5 x.1.L.length (x.1.L.flatMap qh))],R.c (C.d (D.int .i64 x.2.1)),R.c (C.hd .yield 0)],[(0,B.ob (AO.lp 102 [R.any,R.any,R.c (C.ptr 1 0),R.c (C.ptr 2 0),R.c (C.ptr 3 0),R.any,R.any,R.any,R.any,R.any,R.any,R.any,R.any,R.any,R.any,R.any,R.any,R.any,R.any,R.any,R.any,R.any,R.any,R.any,R.any,R.any,R.any] [9,10] (raO 102 4) (rbO 102 4) LoopState.ready none)),(1,B.blk 34 [C.own 4 5 0 x.2.2.1.length]),(2,B.blk 3 [C.d (D.int .i64 x.2.2.2.1)]),(3,B.blk 4 [C.d (D.bool x.2.2.2.2)]),(4,B.row 36 5 ((x.2.2.1.flatMap qh).map C.d))])
def J0:(Int⊕(List qb×Int×Bool))→R×List (Nat×B):=Sum.elim (fun(e:Int)=>(R.c (C.d (D.bool Bool.false)),[(0,B.ob (AO.lp 102 [R.any,R.any,R.c (C.ptr 1 0),R.c (C.ptr 2 0),R.c (C.ptr 3 0),R.any,R.any,R.any,R.any,R.any,R.any,R.any,R.any,R.any,R.any,R.any,R.any,R.any,R.any,R.any,R.any,R.any,R.any,R.any,R.any,R.any,R.any] [9,10] (raO 102 4) (rbO 102 4) LoopState.done (some Code.ret))),(1,B.blk 34 [C.nils]),(2,B.blk 3 [C.d (D.int .i64 e)]),(3,B.blk 4 [C.d (D.bool Bool.false)])])) (fun(e:List qb×Int×Bool)=>(R.c (C.d (D.bool Bool.true)),[(0,B.ob (AO.lp 102 [R.any,R.any,R.c (C.ptr 1 0),R.c (C.ptr 2 0),R.c (C.ptr 3 0),R.any,R.any,R.any,R.any,R.any,R.any,R.any,R.any,R.any,R.any,R.any,R.any,R.any,R.any,R.any,R.any,R.any,R.any,R.any,R.any,R.any,R.any] [9,10] (raO 102 4) (rbO 102 4) LoopState.ready none)),(1,B.blk 34 [C.own 4 5 0 e.1.length]),(2,B.blk 3 [C.d (D.int .i64 e.2.1)]),(3,B.blk 4 [C.d (D.bool e.2.2)]),(4,B.row 36 5 ((e.1.flatMap qh).map C.d))]))
def q0w (rF:(qb×Int×List qb×Int×Bool)→Option (Int⊕(List qb×Int×Bool))) (deep:Int) (t15:List qb) (t16:Int):(List qb×Int×Bool×Int)→Option ((List qb×Int×Bool×Int)⊕(Int⊕(List qb×Int×Bool)))|(w4,b2,b3,t17)=>if t17<t16 then if 0≤t17∧t17<((t15.length:Nat):Int) then Option.bind t15[Int.toNat t17]? fun(a2:qb)=>Option.bind (rF (a2,(w64 (deep+1),(w4,(b2,b3))))) fun(a3:Sum Int (Prod (List qb) (Prod Int Bool)))=>Sum.elim (fun(a4:Int)=>some (Sum.inr (Sum.inl a4))) (fun(a5:Prod (List qb) (Prod Int Bool))=>some (Sum.inl (a5.1,a5.2.1,a5.2.2,w64 (t17+1)))) a3 else none else some (Sum.inr (Sum.inr (w4,b2,b3)))
theorem q5T (rE:Orc) (rF:(qb×Int×List qb×Int×Bool)→Option (Int⊕(List qb×Int×Bool))) (hF:∀y,rE (.fn 169) 4 (ZK y).1 (ZK y).2=(rF y).bind fun e=>some (J0 e)) (hM:∀g k a G,g≠169→rE (.fn g) k a G=ev g k a G) (hR:∀g asg bd k a G,rE (.rd g asg bd) k a G=evr g asg bd k a G):∀(w4:List qb) (b2:Int) (b3:Bool) (deep:Int) (t15:List qb) (t16 t17:Int) (Zr:Nat),Zr=w4.length→XL2 rE 169 4 4 ⟨[(1,rI deep),(2,R.c (C.hd .yield 0)),(15,rL 5 qh t15),(16,rI t16),(17,rI t17)],[(0,B.ob (AO.lp 102 (R.any::R.any::rP 1::rP 2::rP 3::q7k) [9,10] (raO 102 4) (rbO 102 4) LoopState.ready none)),(1,B.blk 34 [dO 4 5 Zr]),(2,B.blk 3 [dI b2]),(3,B.blk 4 [dB b3]),(4,bR 36 5 qh w4)],5,28⟩=(zG (q0w rF deep t15 t16) (w4,b2,b3,t17)).bind (Sum.elim (fun(e:Int)=>some (Exit.ret,⟨[(6,rB Bool.false)],[(0,B.ob (AO.lp 102 (R.any::R.any::rP 1::rP 2::rP 3::q7k) [9,10] (raO 102 4) (rbO 102 4) LoopState.done (some Code.ret))),(1,B.blk 34 [C.nils]),(2,B.blk 3 [dI e]),(3,B.blk 4 [dB Bool.false])],4,28⟩)) (fun(e:List qb×Int×Bool)=>some (Exit.exit 0,⟨[(6,R.any)],[(0,B.ob (AO.lp 102 (R.any::R.any::rP 1::rP 2::rP 3::q7k) [9,10] (raO 102 4) (rbO 102 4) LoopState.ready none)),(1,B.blk 34 [dO 4 5 e.1.length]),(2,B.blk 3 [dI e.2.1]),(3,B.blk 4 [dB e.2.2]),(4,bR 36 5 qh e.1)],5,28⟩))):=
 by
 intro w4 b2 b3 deep t15 t16 t17 Zr h0
 subst h0
 revert t17;revert b3;revert b2;revert w4;exact qFB qmR qmH (fun e=>by rcases e with _|_<;>exact⟨_,rfl,fun h=>by cases h⟩) fun w4 b2 b3 t17=>by
  have hF':∀(qC n_N qY:Int) (qZ:List qd) (n_L:List qb) (deep:Int) (w4:List qb) (b2:Int) (b3:Bool) (Zr:Nat),Zr=w4.length→rE (.fn 169) 4 [R.agg [dI qC,dI n_N,dI qY,dL 2 qe qZ,dL 5 qh n_L],rI deep,R.c (C.hd .yield 0)] [(0,B.ob (AO.lp 102 (R.any::R.any::rP 1::rP 2::rP 3::q7k) [9,10] (raO 102 4) (rbO 102 4) LoopState.ready none)),(1,B.blk 34 [dO 4 5 Zr]),(2,B.blk 3 [dI b2]),(3,B.blk 4 [dB b3]),(4,bR 36 5 qh w4)]=(rF ((qb.mk qC n_N qY qZ n_L),deep,w4,b2,b3)).bind (Sum.elim (fun(e:Int)=>some (rB Bool.false,[(0,B.ob (AO.lp 102 (R.any::R.any::rP 1::rP 2::rP 3::q7k) [9,10] (raO 102 4) (rbO 102 4) LoopState.done (some Code.ret))),(1,B.blk 34 [C.nils]),(2,B.blk 3 [dI e]),(3,B.blk 4 [dB Bool.false])])) (fun(e:List qb×Int×Bool)=>some (rB Bool.true,[(0,B.ob (AO.lp 102 (R.any::R.any::rP 1::rP 2::rP 3::q7k) [9,10] (raO 102 4) (rbO 102 4) LoopState.ready none)),(1,B.blk 34 [dO 4 5 e.1.length]),(2,B.blk 3 [dI e.2.1]),(3,B.blk 4 [dB e.2.2]),(4,bR 36 5 qh e.1)]))):=by intro qC n_N qY qZ n_L deep w4 b2 b3 Zr h0;subst h0;exact(hF ((qb.mk qC n_N qY qZ n_L),deep,w4,b2,b3)).trans (by congr 1;funext e;rcases e with _|_<;>rfl)
  have:=qoG;have:=@qdQ.eq_1;have:=@q0w.eq_1;exact gA
def q0v (rF:(qb×Int×List qb×Int×Bool)→Option (Int⊕(List qb×Int×Bool))):(qb×Int×List qb×Int×Bool)→Option (Int⊕(List qb×Int×Bool))|(n,deep,w4,b2,b3)=>Option.bind (q1w deep n.Kind n.N n.Min n.Set n.L w4 b2 b3) fun(a2:Sum Unit (Prod (List qb) Int))=>Sum.elim (fun(a3:Unit)=>some (Sum.inl 0)) (fun(a4:Prod (List qb) Int)=>Option.bind (zG (q0w rF deep n.L ((n.L.length:Nat):Int)) (a4.1,(a4.2,(b3,0)))) fun(a5:Sum Int (Prod (List qb) (Prod Int Bool)))=>Sum.elim (fun(a6:Int)=>some (Sum.inl a6)) (fun(a7:Prod (List qb) (Prod Int Bool))=>some (Sum.inr (a7.1,a7.2.1,a7.2.2))) a5) a2
theorem q5i:q7W 169 4 ZK J0 q0v:=by
 intro rE rF hF hM hR x
 obtain⟨n,deep,w4,b2,b3⟩:=x
 show qa7 rE 169 4 [R.agg [dI n.Kind,dI n.N,dI n.Min,dL 2 qe n.Set,dL 5 qh n.L],rI deep,R.c (C.hd .yield 0)] [(0,B.ob (AO.lp 102 (R.any::R.any::rP 1::rP 2::rP 3::q7k) [9,10] (raO 102 4) (rbO 102 4) LoopState.ready none)),(1,B.blk 34 [dO 4 5 w4.length]),(2,B.blk 3 [dI b2]),(3,B.blk 4 [dB b3]),(4,bR 36 5 qh w4)]=_
 have hF':∀(qC n_N qY:Int) (qZ:List qd) (n_L:List qb) (deep:Int) (w4:List qb) (b2:Int) (b3:Bool) (Zr:Nat),Zr=w4.length→rE (.fn 169) 4 [R.agg [dI qC,dI n_N,dI qY,dL 2 qe qZ,dL 5 qh n_L],rI deep,R.c (C.hd .yield 0)] [(0,B.ob (AO.lp 102 (R.any::R.any::rP 1::rP 2::rP 3::q7k) [9,10] (raO 102 4) (rbO 102 4) LoopState.ready none)),(1,B.blk 34 [dO 4 5 Zr]),(2,B.blk 3 [dI b2]),(3,B.blk 4 [dB b3]),(4,bR 36 5 qh w4)]=(rF ((qb.mk qC n_N qY qZ n_L),deep,w4,b2,b3)).bind (Sum.elim (fun(e:Int)=>some (rB Bool.false,[(0,B.ob (AO.lp 102 (R.any::R.any::rP 1::rP 2::rP 3::q7k) [9,10] (raO 102 4) (rbO 102 4) LoopState.done (some Code.ret))),(1,B.blk 34 [C.nils]),(2,B.blk 3 [dI e]),(3,B.blk 4 [dB Bool.false])])) (fun(e:List qb×Int×Bool)=>some (rB Bool.true,[(0,B.ob (AO.lp 102 (R.any::R.any::rP 1::rP 2::rP 3::q7k) [9,10] (raO 102 4) (rbO 102 4) LoopState.ready none)),(1,B.blk 34 [dO 4 5 e.1.length]),(2,B.blk 3 [dI e.2.1]),(3,B.blk 4 [dB e.2.2]),(4,bR 36 5 qh e.1)]))):=by intro qC n_N qY qZ n_L deep w4 b2 b3 Zr h0;subst h0;exact(hF ((qb.mk qC n_N qY qZ n_L),deep,w4,b2,b3)).trans (by congr 1;funext e;rcases e with _|_<;>rfl)
 rw[q4T qkA qtF]
 have:=qoG;have:=@q7x;have:=q5T rE rF hF hM hR;have:=@q0v.eq_1;have:=@J0.eq_1;exact gA
theorem q2Z:∀x y,ZK x=ZK y→x=y:=by
 rintro⟨⟨qC1,qC2,qC3,qC4,qC5⟩,a1,a2,a3,a4⟩ ⟨⟨qC6,qC7,qC8,qC9,qCa⟩,b1,b2,b3,b4⟩ h
 simp only[ZK,Prod.mk.injEq,List.cons.injEq,R.c.injEq,R.agg.injEq,R.tup.injEq,C.d.injEq,C.own.injEq,C.ptr.injEq,C.eptr.injEq,D.int.injEq,D.bool.injEq,D.str.injEq,D.sl.injEq,B.blk.injEq,B.row.injEq,q1z,q2Y,q1P,q1Y,q2e,q2c,q4x,q4I,q4p,q1A,true_and,and_true,qLx] at h
 simp only[h]
theorem q7I:∀x y,J0 x=J0 y→x=y:=by
 rintro(a0|⟨qHe,qHf,qKE⟩) (b0|⟨qHg,qHh,qKF⟩) h<;>simp only[Sum.elim_inl,Sum.elim_inr,J0,Prod.mk.injEq,List.cons.injEq,R.c.injEq,R.agg.injEq,R.tup.injEq,C.d.injEq,C.own.injEq,C.ptr.injEq,C.eptr.injEq,D.int.injEq,D.bool.injEq,D.str.injEq,D.sl.injEq,B.blk.injEq,B.row.injEq,q1z,q2Y,q1P,q1Y,q2e,q2c,q4x,q4I,q4p,q1A,true_and,and_true,qLx,reduceCtorEq,false_and,and_false] at h<;>simp only[h]
def Je:(qb×Int×List qb×Int×Bool)→Option (Int⊕(List qb×Int×Bool)):=q7N 169 4 ZK J0
theorem qai (x:(qb×Int×List qb×Int×Bool)):Je x=q0v Je x:=qcH qoc.2.2.2 q2Z q7I q5i x
theorem q8Z (n:qb) (deep:Int) (w4:List qb) (b2:Int) (b3:Bool):ev 169 4 [R.agg [dI n.Kind,dI n.N,dI n.Min,dL 2 qe n.Set,dL 5 qh n.L],rI deep,R.c (C.hd .yield 0)] [(0,B.ob (AO.lp 102 (R.any::R.any::rP 1::rP 2::rP 3::q7k) [9,10] (raO 102 4) (rbO 102 4) LoopState.ready none)),(1,B.blk 34 [dO 4 5 w4.length]),(2,B.blk 3 [dI b2]),(3,B.blk 4 [dB b3]),(4,bR 36 5 qh w4)]=(Je (n,deep,w4,b2,b3)).bind (Sum.elim (fun(e:Int)=>some (rB Bool.false,[(0,B.ob (AO.lp 102 (R.any::R.any::rP 1::rP 2::rP 3::q7k) [9,10] (raO 102 4) (rbO 102 4) LoopState.done (some Code.ret))),(1,B.blk 34 [C.nils]),(2,B.blk 3 [dI e]),(3,B.blk 4 [dB Bool.false])])) (fun(e:List qb×Int×Bool)=>some (rB Bool.true,[(0,B.ob (AO.lp 102 (R.any::R.any::rP 1::rP 2::rP 3::q7k) [9,10] (raO 102 4) (rbO 102 4) LoopState.ready none)),(1,B.blk 34 [dO 4 5 e.1.length]),(2,B.blk 3 [dI e.2.1]),(3,B.blk 4 [dB e.2.2]),(4,bR 36 5 qh e.1)]))):=(q9N qoc.2.2.2 q2Z q5i (n,deep,w4,b2,b3)).trans (by congr 1;funext e;rcases e with _|_<;>rfl)
theorem qan:∀(qC n_N qY:Int) (qZ:List qd) (n_L:List qb) (deep:Int) (w4:List qb) (b2:Int) (b3:Bool) (Zr:Nat),Zr=w4.length→ev 169 4 [R.agg [dI qC,dI n_N,dI qY,dL 2 qe qZ,dL 5 qh n_L],rI deep,R.c (C.hd .yield 0)] [(0,B.ob (AO.lp 102 (R.any::R.any::rP 1::rP 2::rP 3::q7k) [9,10] (raO 102 4) (rbO 102 4) LoopState.ready none)),(1,B.blk 34 [dO 4 5 Zr]),(2,B.blk 3 [dI b2]),(3,B.blk 4 [dB b3]),(4,bR 36 5 qh w4)]=(Je ((qb.mk qC n_N qY qZ n_L),deep,w4,b2,b3)).bind (Sum.elim (fun(e:Int)=>some (rB Bool.false,[(0,B.ob (AO.lp 102 (R.any::R.any::rP 1::rP 2::rP 3::q7k) [9,10] (raO 102 4) (rbO 102 4) LoopState.done (some Code.ret))),(1,B.blk 34 [C.nils]),(2,B.blk 3 [dI e]),(3,B.blk 4 [dB Bool.false])])) (fun(e:List qb×Int×Bool)=>some (rB Bool.true,[(0,B.ob (AO.lp 102 (R.any::R.any::rP 1::rP 2::rP 3::q7k) [9,10] (raO 102 4) (rbO 102 4) LoopState.ready none)),(1,B.blk 34 [dO 4 5 e.1.length]),(2,B.blk 3 [dI e.2.1]),(3,B.blk 4 [dB e.2.2]),(4,bR 36 5 qh e.1)]))):=
 by
 intro qC n_N qY qZ n_L deep w4 b2 b3 Zr h0
 subst h0
 exact q8Z (qb.mk qC n_N qY qZ n_L) deep w4 b2 b3
def q2s (deep:Int) (t15:List qb) (t16:Int):(List qb×Int×Bool×Int)→Option ((List qb×Int×Bool×Int)⊕(Int⊕(List qb×Int×Bool)))|(w4,b2,b3,t17)=>if t17<t16 then if 0≤t17∧t17<((t15.length:Nat):Int) then Option.bind t15[Int.toNat t17]? fun(a:qb)=>Option.bind (Je (a,(w64 (deep+1),(w4,(b2,b3))))) fun(a2:Sum Int (Prod (List qb) (Prod Int Bool)))=>Sum.elim (fun(a3:Int)=>some (Sum.inr (Sum.inl a3))) (fun(a4:Prod (List qb) (Prod Int Bool))=>some (Sum.inl (a4.1,a4.2.1,a4.2.2,w64 (t17+1)))) a2 else none else some (Sum.inr (Sum.inr (w4,b2,b3)))
theorem q9b:∀(w4:List qb) (b2:Int) (b3:Bool) (deep:Int) (t15:List qb) (t16 t17:Int) (Zr:Nat),Zr=w4.length→XL2 evo 169 4 4 ⟨[(1,rI deep),(2,R.c (C.hd .yield 0)),(15,rL 5 qh t15),(16,rI t16),(17,rI t17)],[(0,B.ob (AO.lp 102 (R.any::R.any::rP 1::rP 2::rP 3::q7k) [9,10] (raO 102 4) (rbO 102 4) LoopState.ready none)),(1,B.blk 34 [dO 4 5 Zr]),(2,B.blk 3 [dI b2]),(3,B.blk 4 [dB b3]),(4,bR 36 5 qh w4)],5,28⟩=(zG (q2s deep t15 t16) (w4,b2,b3,t17)).bind (Sum.elim (fun(e:Int)=>some (Exit.ret,⟨[(6,rB Bool.false)],[(0,B.ob (AO.lp 102 (R.any::R.any::rP 1::rP 2::rP 3::q7k) [9,10] (raO 102 4) (rbO 102 4) LoopState.done (some Code.ret))),(1,B.blk 34 [C.nils]),(2,B.blk 3 [dI e]),(3,B.blk 4 [dB Bool.false])],4,28⟩)) (fun(e:List qb×Int×Bool)=>some (Exit.exit 0,⟨[(6,R.any)],[(0,B.ob (AO.lp 102 (R.any::R.any::rP 1::rP 2::rP 3::q7k) [9,10] (raO 102 4) (rbO 102 4) LoopState.ready none)),(1,B.blk 34 [dO 4 5 e.1.length]),(2,B.blk 3 [dI e.2.1]),(3,B.blk 4 [dB e.2.2]),(4,bR 36 5 qh e.1)],5,28⟩))):=
 by
 intro w4 b2 b3 deep t15 t16 t17 Zr h0
 subst h0
 revert t17;revert b3;revert b2;revert w4;exact qFB qmR qmH (fun e=>by rcases e with _|_<;>exact⟨_,rfl,fun h=>by cases h⟩) fun w4 b2 b3 t17=>by
  have:=qoG;have:=@qdQ.eq_1;have:=@qan;have:=@q2s.eq_1;exact gA
def q54 (n:qb) (deep:Int) (b2:Int) (b3:Bool):Option (Int⊕(List qb×Int×Bool)):=Option.bind (q2t deep n.Kind n.N n.Min n.Set n.L b2 b3) fun(a:Sum Unit (Prod (List qb) Int))=>Sum.elim (fun(a2:Unit)=>some (Sum.inl 0)) (fun(a3:Prod (List qb) Int)=>Option.bind (zG (q2s deep n.L ((n.L.length:Nat):Int)) (a3.1,(a3.2,(b3,0)))) fun(a4:Sum Int (Prod (List qb) (Prod Int Bool)))=>Sum.elim (fun(a5:Int)=>some (Sum.inl a5)) (fun(a6:Prod (List qb) (Prod Int Bool))=>some (Sum.inr (a6.1,a6.2.1,a6.2.2))) a4) a
theorem qcc:∀(qC n_N qY:Int) (qZ:List qd) (n_L:List qb) (deep b2:Int) (b3:Bool),ev 169 4 [R.agg [dI qC,dI n_N,dI qY,dL 2 qe qZ,dL 5 qh n_L],rI deep,R.c (C.hd .yield 0)] [(0,B.ob (AO.lp 102 (R.any::R.any::rP 1::rP 2::rP 3::q7k) [9,10] (raO 102 4) (rbO 102 4) LoopState.ready none)),(1,B.blk 34 [C.nils]),(2,B.blk 3 [dI b2]),(3,B.blk 4 [dB b3])]=(q54 (qb.mk qC n_N qY qZ n_L) deep b2 b3).bind (Sum.elim (fun(e:Int)=>some (rB Bool.false,[(0,B.ob (AO.lp 102 (R.any::R.any::rP 1::rP 2::rP 3::q7k) [9,10] (raO 102 4) (rbO 102 4) LoopState.done (some Code.ret))),(1,B.blk 34 [C.nils]),(2,B.blk 3 [dI e]),(3,B.blk 4 [dB Bool.false])])) (fun(e:List qb×Int×Bool)=>some (rB Bool.true,[(0,B.ob (AO.lp 102 (R.any::R.any::rP 1::rP 2::rP 3::q7k) [9,10] (raO 102 4) (rbO 102 4) LoopState.ready none)),(1,B.blk 34 [dO 4 5 e.1.length]),(2,B.blk 3 [dI e.2.1]),(3,B.blk 4 [dB e.2.2]),(4,bR 36 5 qh e.1)]))):=
 fun qC n_N qY qZ n_L deep b2 b3=>by
  rw[qQ qkA qoc.2.2.2 qtF]
  have:=qoG;have:=@q9w;have:=@q9b;have:=@q54.eq_1;exact gA
def q2z (b2:Int) (b3:Bool) (v:qb):Option (Int⊕(List qb×Int×Bool)):=Option.bind (q54 v 1 b2 b3) fun(a:Sum Int (Prod (List qb) (Prod Int Bool)))=>Sum.elim (fun(a2:Int)=>some (Sum.inl a2)) (fun(a3:Prod (List qb) (Prod Int Bool))=>some (Sum.inr (a3.1,a3.2.1,a3.2.2))) a
theorem q96:∀(b2:Int) (b3:Bool) (qft v_N qnX:Int) (qnY:List qd) (v_L:List qb),ev 168 5 [R.c (C.hd .yield 0),rP 4] [(0,B.ob (AO.lp 102 (R.any::R.any::rP 1::rP 2::rP 3::q7k) [9,10] (raO 102 4) (rbO 102 4) LoopState.ready none)),(1,B.blk 34 [C.nils]),(2,B.blk 3 [dI b2]),(3,B.blk 4 [dB b3]),(4,B.blk 36 [dI qft,dI v_N,dI qnX,dL 2 qe qnY,dL 5 qh v_L])]=(q2z b2 b3 (qb.mk qft v_N qnX qnY v_L)).bind (Sum.elim (fun(e:Int)=>some (R.tup [],[(0,B.ob (AO.lp 102 (R.any::R.any::rP 1::rP 2::rP 3::q7k) [9,10] (raO 102 4) (rbO 102 4) LoopState.done (some Code.ret))),(1,B.blk 34 [C.nils]),(2,B.blk 3 [dI e]),(3,B.blk 4 [dB Bool.false]),(4,B.blk 36 [dI qft,dI v_N,dI qnX,dL 2 qe qnY,dL 5 qh v_L])])) (fun(e:List qb×Int×Bool)=>some (R.tup [],[(0,B.ob (AO.lp 102 (R.any::R.any::rP 1::rP 2::rP 3::q7k) [9,10] (raO 102 4) (rbO 102 4) LoopState.ready none)),(1,B.blk 34 [dO 5 5 e.1.length]),(2,B.blk 3 [dI e.2.1]),(3,B.blk 4 [dB e.2.2]),(4,B.blk 36 [dI qft,dI v_N,dI qnX,dL 2 qe qnY,dL 5 qh v_L]),(5,bR 36 5 qh e.1)]))):=
 fun b2 b3 qft v_N qnX qnY v_L=>by
  rw[qQ qvE qyf.2.2.2 qD1]
  have:=qEp;have:=@qcc;have:=@q2z.eq_1;exact gA
def q2i (n:qb):Option (List qb×Int×Bool):=Option.bind (q2z 0 Bool.false n) fun(a:Sum Int (Prod (List qb) (Prod Int Bool)))=>Sum.elim (fun(a2:Int)=>some ([],a2,Bool.false)) (fun(a3:Prod (List qb) (Prod Int Bool))=>some (a3.1,a3.2.1,Bool.true)) a
theorem q74:∀(qC n_N qY:Int) (qZ:List qd) (n_L:List qb),ev 102 0 [R.agg [dI qC,dI n_N,dI qY,dL 2 qe qZ,dL 5 qh n_L]] []=(q2i (qb.mk qC n_N qY qZ n_L)).bind (fun(e:List qb×Int×Bool)=>some (R.tup [rL 5 qh e.1,rI e.2.1,rB e.2.2],[])):=
 fun qC n_N qY qZ n_L=>by
  rw[qQ qnW qyW.2.2.2 qB7]
  have:=qur;have:=@qbo;have:=@q96;have:=@q2i.eq_1;have:=@qgQ;exact gA
theorem qFE:okL 82 qi9:=qV (qn qBV) (by kernel_rfl) (by kernel_rfl)
def qG5:=JA_ @qi9.eq_1 (JA_ @Tryz.f82.eq_1 @qBV)
theorem qwP:lbO 82 3=qnd:=QO (qn qBV) rfl
theorem qzv:okL 82 qnd:=Q6 qFE (qLe (i:=0) (by kernel_rfl))
theorem qDF:okL 129 qgv:=qV (qn qt0) (by kernel_rfl) (by kernel_rfl)
def qCJ:=JA_ @qgv.eq_1 (JA_ @Tryz.f129.eq_1 @qt0)
def q4Y (n:qb):Option Bool:=if(n.Kind != 3)=Bool.true then some (n.Kind != 4) else some Bool.false
def q1b (n:qb):Bool:=if(n.Kind != 3)=Bool.true then n.Kind != 4 else Bool.false
theorem qb1 (n:qb):q4Y n=some (q1b n):=by
 unfold q4Y q1b
 simp only[Zc]
theorem qcp:∀(qC n_N qY:Int) (qZ:List qd) (n_L:List qb),ev 129 0 [R.agg [dI qC,dI n_N,dI qY,dL 2 qe qZ,dL 5 qh n_L]] []=some (rB (q1b (qb.mk qC n_N qY qZ n_L)),[]):=
 fun qC n_N qY qZ n_L=>by
  have h:ev 129 0 [R.agg [dI qC,dI n_N,dI qY,dL 2 qe qZ,dL 5 qh n_L]] []=(q4Y (qb.mk qC n_N qY qZ n_L)).bind (fun(e:Bool)=>some (rB e,[])):=by
   rw[qQ qt0 qy1.2.2.2 qDF]
   have:=qCJ;have:=@q4Y.eq_1;exact gA
  rw[qb1] at h
  exact h
theorem qx3:okL 130 qea:=qV (qn qoT) (by kernel_rfl) (by kernel_rfl)
def qxB:=JA_ @qea.eq_1 (JA_ @Tryz.f130.eq_1 @qoT)
theorem qvM:lbO 130 3=qfV:=QO (qn qoT) rfl
theorem qt6:okL 130 qfV:=Q6 qx3 (qLe (i:=0) (by kernel_rfl))
def Q0 (s:List qd):Option Unit:=if s.length≤maxLen∧s.length*24≤140737488355328 then some () else none
theorem q0K:∀(s:List qd),ev 161 0 [rL 2 qe s] []=(Q0 s).bind (fun(e:Unit)=>some (rL 2 qe s,[])):=
 fun s=>by
  rw[qtG,qwW.2.2.2]
  have:=@Q0.eq_1;exact gA
def QN (s:List qb):Option Unit:=if s.length≤maxLen∧s.length*72≤140737488355328 then some () else none
theorem q1D:∀(s:List qb),ev 162 0 [rL 5 qh s] []=(QN s).bind (fun(e:Unit)=>some (rO 0 5 s.length,[(0,bR 36 5 qh s)])):=
 fun s=>by
  rw[qtG,qBh.2.2.2]
  have:=@QN.eq_1;exact gA
def ZJ (x:qb):List R×List (Nat×B):=([R.agg [C.d (D.int .i64 x.Kind),C.d (D.int .i64 x.N),C.d (D.int .i64 x.Min),C.d (D.sl 2 x.Set.length (x.Set.flatMap qe)),C.d (D.sl 5 x.L.length (x.L.flatMap qh))]],[])
def ZY:qb→R×List (Nat×B):=fun(e:qb)=>(R.agg [C.d (D.int .i64 e.Kind),C.d (D.int .i64 e.N),C.d (D.int .i64 e.Min),C.d (D.sl 2 e.Set.length (e.Set.flatMap qe)),C.d (D.sl 5 e.L.length (e.L.flatMap qh))],[])
def JA (rF:qb→Option qb) (qC:Int) (n_N:Int) (qY:Int) (qZ:List qd) (q01:Int) (qd4:Int) (q1J:Int) (t15:Int):(List qb×Int)→Option ((List qb×Int)⊕(List qb))|(w1,t16)=>if t16<t15 then if 0≤t16∧t16<((w1.length:Nat):Int) then Option.bind w1[Int.toNat t16]? fun(a2:qb)=>Option.bind (rF a2) fun(a3:qb)=>if 0≤t16∧t16<((w1.length:Nat):Int) then if Int.toNat t16*5+5≤w1.length*5 then some (Sum.inl (List.set w1 (Int.toNat t16) a3,w64 (t16+1))) else none else none else none else some (Sum.inr w1)
theorem q7G (rE:Orc) (rF:qb→Option qb) (hF:∀y,rE (.fn 130) 0 (ZJ y).1 (ZJ y).2=(rF y).bind fun e=>some (ZY e)) (hM:∀g k a G,g≠130→rE (.fn g) k a G=ev g k a G) (hR:∀g asg bd k a G,rE (.rd g asg bd) k a G=evr g asg bd k a G):∀(w1:List qb) (qC n_N qY:Int) (qZ:List qd) (q01 qd4 q1J t15 t16:Int) (JI:Nat),JI=w1.length→XL2 rE 130 0 3 ⟨[(1,rP 0),(2,rP 2),(14,rO 1 5 JI),(15,rI t15),(16,rI t16)],[(0,B.blk 36 [dI qC,dI n_N,dI qY,dL 2 qe qZ,dO 1 5 JI]),(1,bR 36 5 qh w1),(2,B.blk 36 [dI q01,dI qd4,dI q1J,C.nils,C.nils])],3,29⟩=(zG (JA rF qC n_N qY qZ q01 qd4 q1J t15) (w1,t16)).bind (fun(e:List qb)=>some (Exit.exit 0,⟨[(1,rP 0),(2,rP 2)],[(0,B.blk 36 [dI qC,dI n_N,dI qY,dL 2 qe qZ,dO 1 5 e.length]),(1,bR 36 5 qh e),(2,B.blk 36 [dI q01,dI qd4,dI q1J,C.nils,C.nils])],3,29⟩)):=
 by
 intro w1 qC n_N qY qZ q01 qd4 q1J t15 t16 JI h0
 subst h0
 revert t16;revert w1;exact qcb qvM qt6 (fun e=>by exact⟨_,rfl,fun h=>by cases h⟩) fun w1 t16=>by
  have hF':∀(qC n_N qY:Int) (qZ:List qd) (n_L:List qb),rE (.fn 130) 0 [R.agg [dI qC,dI n_N,dI qY,dL 2 qe qZ,dL 5 qh n_L]] []=(rF (qb.mk qC n_N qY qZ n_L)).bind (fun e=>some (R.agg [dI e.Kind,dI e.N,dI e.Min,dL 2 qe e.Set,dL 5 qh e.L],[])):=fun qC n_N qY qZ n_L=>hF (qb.mk qC n_N qY qZ n_L)
  have:=qxB;have:=@qfV.eq_1;have:=@JA.eq_1;exact gA
def q0z (rF:qb→Option qb):qb→Option qb|n=>Option.bind (Q0 n.Set) fun(a2:Unit)=>Option.bind (QN n.L) fun(a3:Unit)=>Option.bind (zG (JA rF n.Kind n.N n.Min n.Set 0 0 0 ((n.L.length:Nat):Int)) (n.L,0)) fun(a4:List qb)=>some (qb.mk n.Kind n.N n.Min n.Set a4)
theorem q5n:q7W 130 0 ZJ ZY q0z:=by
 intro rE rF hF hM hR n
 show qa7 rE 130 0 [R.agg [dI n.Kind,dI n.N,dI n.Min,dL 2 qe n.Set,dL 5 qh n.L]] []=_
 have hF':∀(qC n_N qY:Int) (qZ:List qd) (n_L:List qb),rE (.fn 130) 0 [R.agg [dI qC,dI n_N,dI qY,dL 2 qe qZ,dL 5 qh n_L]] []=(rF (qb.mk qC n_N qY qZ n_L)).bind (fun e=>some (R.agg [dI e.Kind,dI e.N,dI e.Min,dL 2 qe e.Set,dL 5 qh e.L],[])):=fun qC n_N qY qZ n_L=>hF (qb.mk qC n_N qY qZ n_L)
 rw[q4T qoT qx3]
 have:=qxB;have:=@q0K;have:=@q1D;have:=q7G rE rF hF hM hR;have:=@q0z.eq_1;have:=@ZY.eq_1;exact gA
theorem q31:∀x y,ZJ x=ZJ y→x=y:=by
 rintro⟨a_0,a_1,a_2,a_3,a_4⟩ ⟨b_0,b_1,b_2,b_3,b_4⟩ h
 simp only[ZJ,Prod.mk.injEq,List.cons.injEq,R.c.injEq,R.agg.injEq,R.tup.injEq,C.d.injEq,C.own.injEq,C.ptr.injEq,C.eptr.injEq,D.int.injEq,D.bool.injEq,D.str.injEq,D.sl.injEq,B.blk.injEq,B.row.injEq,q1z,q2Y,q1P,q1Y,q2e,q2c,q4x,q4I,q4p,q1A,true_and,and_true,qLx] at h
 simp only[h]
theorem q7w:∀x y,ZY x=ZY y→x=y:=by
 rintro⟨a_0,a_1,a_2,a_3,a_4⟩ ⟨b_0,b_1,b_2,b_3,b_4⟩ h
 simp only[ZY,Prod.mk.injEq,List.cons.injEq,R.c.injEq,R.agg.injEq,R.tup.injEq,C.d.injEq,C.own.injEq,C.ptr.injEq,C.eptr.injEq,D.int.injEq,D.bool.injEq,D.str.injEq,D.sl.injEq,B.blk.injEq,B.row.injEq,q1z,q2Y,q1P,q1Y,q2e,q2c,q4x,q4I,q4p,q1A,true_and,and_true,qLx] at h
 simp only[h]
def Jd:qb→Option qb:=q7N 130 0 ZJ ZY
theorem qah (x:qb):Jd x=q0z Jd x:=qcH qvH.2.2.2 q31 q7w q5n x
theorem q9u (n:qb):ev 130 0 [R.agg [dI n.Kind,dI n.N,dI n.Min,dL 2 qe n.Set,dL 5 qh n.L]] []=(Jd n).bind (fun(e:qb)=>some (R.agg [dI e.Kind,dI e.N,dI e.Min,dL 2 qe e.Set,dL 5 qh e.L],[])):=(q9N qvH.2.2.2 q31 q5n n)
theorem qag:∀(qC n_N qY:Int) (qZ:List qd) (n_L:List qb),ev 130 0 [R.agg [dI qC,dI n_N,dI qY,dL 2 qe qZ,dL 5 qh n_L]] []=(Jd (qb.mk qC n_N qY qZ n_L)).bind (fun(e:qb)=>some (R.agg [dI e.Kind,dI e.N,dI e.Min,dL 2 qe e.Set,dL 5 qh e.L],[])):=
 fun qC n_N qY qZ n_L=>q9u (qb.mk qC n_N qY qZ n_L)
def ZA (t14:List qb) (t15:Int):(List qb×Int)→Option ((List qb×Int)⊕(List qb))|(leaves,t16)=>if t16<t15 then if 0≤t16∧t16<((t14.length:Nat):Int) then Option.bind t14[Int.toNat t16]? fun(a:qb)=>if q1b a=Bool.true then Option.bind (Jd a) fun(a2:qb)=>if leaves.length+1≤maxLen∧(leaves.length+1)*72≤140737488355328 then some (Sum.inl (leaves++[a2],w64 (t16+1))) else none else some (Sum.inl (leaves,w64 (t16+1))) else none else some (Sum.inr leaves)
theorem q7u:∀(leaves t14:List qb) (t15 t16:Int) (q9K:Nat),q9K=leaves.length→XL2 evo 82 0 3 ⟨[(2,rO 0 5 q9K),(14,rL 5 qh t14),(15,rI t15),(16,rI t16)],[(0,bR 36 5 qh leaves)],1,29⟩=(zG (ZA t14 t15) (leaves,t16)).bind (fun(e:List qb)=>some (Exit.exit 0,⟨[(2,rO 0 5 e.length)],[(0,bR 36 5 qh e)],1,29⟩)):=
 by
 intro leaves t14 t15 t16 q9K h0
 subst h0
 revert t16;revert leaves;exact qcb qwP qzv (fun e=>by exact⟨_,rfl,fun h=>by cases h⟩) fun leaves t16=>by
  have:=qG5;have:=@qnd.eq_1;have:=@qcp;have:=@qag;have:=@ZA.eq_1;exact gA
theorem q5w:∀  (t14:List qb) (t15 t16:Int),XL2 evo 82 0 3 ⟨[(2,rO 0 5 0),(14,rL 5 qh t14),(15,rI t15),(16,rI t16)],[(0,B.row 36 5 [])],1,29⟩=(zG (ZA t14 t15) ([],t16)).bind (fun(e:List qb)=>some (Exit.exit 0,⟨[(2,rO 0 5 e.length)],[(0,bR 36 5 qh e)],1,29⟩)):=by
 intro t14 t15 t16;have h:=q7u [] t14 t15 t16 _ rfl
 first
  | exact h
  | (simp only[rL,dL,bR,bZ,Nat.reduceAdd] at h;exact h)
def q14 (n:qb):Option (List qb):=Option.bind (q2i n) fun(a:Prod (List qb) (Prod Int Bool))=>Option.bind (zG (ZA a.1 ((a.1.length:Nat):Int)) ([],0)) fun(a2:List qb)=>some a2
theorem q5g:∀(qC n_N qY:Int) (qZ:List qd) (n_L:List qb),ev 82 0 [R.agg [dI qC,dI n_N,dI qY,dL 2 qe qZ,dL 5 qh n_L]] []=(q14 (qb.mk qC n_N qY qZ n_L)).bind (fun(e:List qb)=>some (rL 5 qh e,[])):=
 fun qC n_N qY qZ n_L=>by
  rw[qQ qBV qGa.2.2.2 qFE]
  have:=qG5;have:=@q74;have:=@q5w;have:=@q14.eq_1;exact gA
theorem qEq:okL 103 qhu:=qV (qn qto) (by kernel_rfl) (by kernel_rfl)
def qCW:=JA_ @qhu.eq_1 (JA_ @Tryz.f103.eq_1 @qto)
theorem qbu:ev 103 0 [] []=some (R.c (C.hd HK.map 0),[(0,B.ob (@AO.mp [(Value.int IntKind.i64 1,(R.agg [C.fn 141 [] []],0)),(Value.int IntKind.i64 2,(R.agg [C.fn 143 [] []],1)),(Value.int IntKind.i64 3,(R.agg [C.fn 144 [] [dP 1]],2)),(Value.int IntKind.i64 4,(R.agg [C.fn 145 [] [dP 1]],3))] 4)),(1,B.blk 136 [C.fn 140 [] []])]):=
 by
  rw[qQ qto qwx.2.2.2 qEq]
  have:=qCW;exact gA
theorem qEt:okL 141 qgt:=qV (qn qsH) (by kernel_rfl) (by kernel_rfl)
def qCo:=JA_ @qgt.eq_1 (JA_ @Tryz.f141.eq_1 @qsH)
theorem qxX:okL 142 qdk:=qV (qn qoF) (by kernel_rfl) (by kernel_rfl)
def qyx:=JA_ @qdk.eq_1 (JA_ @Tryz.f142.eq_1 @qoF)
theorem quw:lbO 142 7=qh9:=QO (qn qoF) rfl
theorem qt1:okL 142 qh9:=Q6 qxX (qLe (i:=0) (by kernel_rfl))
theorem qDk:okL 170 qhp:=qV (qn qun) (by kernel_rfl) (by kernel_rfl)
def qCg:=JA_ @qhp.eq_1 (JA_ @Tryz.f170.eq_1 @qun)
theorem qzT:okL 182 qdL:=qV (qn qor) (by kernel_rfl) (by kernel_rfl)
def qzy:=JA_ @qdL.eq_1 (JA_ @Tryz.f182.eq_1 @qor)
theorem qrF:lbO 182 2=qgi:=QO (qn qor) rfl
theorem qug:okL 182 qgi:=Q6 qzT (qLe (i:=0) (by kernel_rfl))
theorem qEs:okL 171 qgN:=qV (qn qvd) (by kernel_rfl) (by kernel_rfl)
def qEX:=JA_ @qgN.eq_1 (JA_ @Tryz.f171.eq_1 @qvd)
theorem qJ9:okL 99 qlM:=qV (qn qEv) (by kernel_rfl) (by kernel_rfl)
def qJF:=JA_ @qlM.eq_1 (JA_ @Tryz.f99.eq_1 @qEv)
theorem qDZ:okL 137 qhn:=qV (qn qsM) (by kernel_rfl) (by kernel_rfl)
def qFe:=JA_ @qhn.eq_1 (JA_ @Tryz.f137.eq_1 @qsM)
theorem qEQ:okL 166 qg0:=qV (qn qtV) (by kernel_rfl) (by kernel_rfl)
def qEm:=JA_ @qg0.eq_1 (JA_ @Tryz.f166.eq_1 @qtV)
theorem qAh:okL 181 qdp:=qV (qn qq7) (by kernel_rfl) (by kernel_rfl)
def qy9:=JA_ @qdp.eq_1 (JA_ @Tryz.f181.eq_1 @qq7)
theorem qtB:lbO 181 2=qht:=QO (qn qq7) rfl
theorem qtd:okL 181 qht:=Q6 qAh (qLe (i:=0) (by kernel_rfl))
theorem qDX:okL 165 qfJ:=qV (qn qtw) (by kernel_rfl) (by kernel_rfl)
def qEK:=JA_ @qfJ.eq_1 (JA_ @Tryz.f165.eq_1 @qtw)
def q1O (c:Int):Option Bool:=if c<65 then if c<48 then some Bool.true else some (decide (57<c)) else if 90<c then if c<48 then some Bool.true else some (decide (57<c)) else some Bool.false
def Zg (c:Int):Bool:=if c<65 then if c<48 then Bool.true else decide (57<c) else if 90<c then if c<48 then Bool.true else decide (57<c) else Bool.false
theorem q7n (c:Int):q1O c=some (Zg c):=by
 unfold q1O Zg
 simp only[Zc]
theorem q8F:∀(c:Int),ev 165 0 [R.c (C.d (D.int .i32 c))] []=some (rB (Zg c),[]):=
 fun c=>by
  have h:ev 165 0 [R.c (C.d (D.int .i32 c))] []=(q1O c).bind (fun(e:Bool)=>some (rB e,[])):=by
   rw[qQ qtw qx0.2.2.2 qDX]
   have:=qEK;have:=@q1O.eq_1;exact gA
  rw[q7n] at h
  exact h
def Qo (it0_s:ByteArray) (truth:Bool):Nat→Option (Nat⊕(Int⊕Unit))|it0_p=>if it0_p<ByteArray.size it0_s then if(Zg (((@Go.Utf8.decode it0_s it0_p).1:Nat):Int)==truth)=Bool.true then some (Sum.inr (Sum.inl ((it0_p:Nat):Int))) else some (Sum.inl (it0_p+(@Go.Utf8.decode it0_s it0_p).2)) else some (Sum.inr (Sum.inr ()))
theorem q43:∀(it0_s:ByteArray) (it0_p:Nat) (truth:Bool),XL2 evo 181 0 2 ⟨[(1,R.c (C.fn 165 [] [])),(2,rB truth),(10,R.c (C.hd .iter 0))],[(0,B.ob (AO.si it0_s it0_p))],1,21⟩=(zG (Qo it0_s truth) it0_p).bind (Sum.elim (fun(e:Int)=>some (Exit.ret,⟨[(6,rI e)],[],0,21⟩)) (fun(e:Unit)=>some (Exit.exit 0,⟨[(6,R.any)],[],0,21⟩))):=
 fun it0_s it0_p truth=>by
  revert it0_p;exact qbd qtB qtd (fun e=>by rcases e with _|_<;>exact⟨_,rfl,fun h=>by cases h⟩) fun x=>by
   have:=qy9;have:=@qht.eq_1;have:=@q8F;have:=@Qo.eq_1;exact gA
def q05 (s:ByteArray) (truth:Bool):Option Int:=Option.bind (zG (Qo s truth) 0) fun(a:Sum Int Unit)=>Sum.elim (fun(a2:Int)=>some a2) (fun(a3:Unit)=>some (-1)) a
theorem q5H:∀(s:ByteArray) (truth:Bool),ev 181 0 [rS s,R.c (C.fn 165 [] []),rB truth] []=(q05 s truth).bind (fun(e:Int)=>some (rI e,[])):=
 fun s truth=>by
  rw[qQ qq7 qxm.2.2.2 qAh]
  have:=qy9;have:=@q43;have:=@q05.eq_1;exact gA
def q08 (s:ByteArray):Option Int:=Option.bind (q05 s Bool.true) fun(e0:Int)=>some e0
theorem q5F:∀(s:ByteArray),ev 166 0 [rS s,R.c (C.fn 165 [] [])] []=(q08 s).bind (fun(e:Int)=>some (rI e,[])):=
 fun s=>by
  rw[qQ qtV qyQ.2.2.2 qEQ]
  have:=qEm;have:=@q5H;have:=@q08.eq_1;exact gA
def q1T (s:ByteArray):Option Bool:=if(!(ByteArray.toList s==ByteArray.toList (ByteArray.mk (List.toArray []))))=Bool.true then if((ByteArray.size s:Nat):Int)≤8 then Option.bind (q08 s) fun(a:Int)=>some (decide (a<0)) else some Bool.false else some Bool.false
theorem qas:∀(s:ByteArray),ev 137 0 [rS s] []=(q1T s).bind (fun(e:Bool)=>some (rB e,[])):=
 fun s=>by
  rw[qQ qsM qyn.2.2.2 qDZ]
  have:=qFe;have:=@q5F;have:=@q1T.eq_1;exact gA
def q0I (c:qd):Option Bool:=if zu c.School 1 8=Bool.true then Option.bind (q1T c.Code) fun(e0:Bool)=>some e0 else some Bool.false
theorem q5X:∀(q1B:Int) (q5r:ByteArray),ev 99 0 [R.agg [dI q1B,dS q5r]] []=(q0I (qd.mk q1B q5r)).bind (fun(e:Bool)=>some (rB e,[])):=
 fun q1B q5r=>by
  rw[qQ qEv qFF.2.2.2 qJ9]
  have:=qJF;have:=@ZZ;have:=@qas;have:=@q0I.eq_1;exact gA
def q1x (c:qd):Option Bool:=Option.bind (q0I c) fun(a:Bool)=>some (!a)
theorem q7t:∀(q1B:Int) (q5r:ByteArray),ev 171 0 [R.agg [dI q1B,dS q5r]] []=(q1x (qd.mk q1B q5r)).bind (fun(e:Bool)=>some (rB e,[])):=
 fun q1B q5r=>by
  rw[qQ qvd qAB.2.2.2 qEs]
  have:=qEX;have:=@q5X;have:=@q1x.eq_1;exact gA
def zl (s:List qd) (t7:Int):Int→Option (Int⊕(Int⊕Unit))|t8=>if t8<t7 then if 0≤t8∧t8<((s.length:Nat):Int) then Option.bind s[Int.toNat t8]? fun(a:qd)=>Option.bind (q1x a) fun(a2:Bool)=>if a2=Bool.true then some (Sum.inr (Sum.inl t8)) else some (Sum.inl (w64 (t8+1))) else none else some (Sum.inr (Sum.inr ()))
theorem JR:∀(s:List qd) (t7 t8:Int),XL2 evo 182 0 2 ⟨[(0,rL 2 qe s),(1,R.c (C.fn 171 [] [])),(7,rI t7),(8,rI t8)],[],0,19⟩=(zG (zl s t7) t8).bind (Sum.elim (fun(e:Int)=>some (Exit.ret,⟨[(4,rI e)],[],0,19⟩)) (fun(e:Unit)=>some (Exit.exit 0,⟨[(4,R.any)],[],0,19⟩))):=
 fun s t7 t8=>by
  revert t8;exact qbd qrF qug (fun e=>by rcases e with _|_<;>exact⟨_,rfl,fun h=>by cases h⟩) fun x=>by
   have:=qzy;have:=@qgi.eq_1;have:=@q7t;have:=@zl.eq_1;exact gA
def Qe (s:List qd):Option Int:=Option.bind (zG (zl s ((s.length:Nat):Int)) 0) fun(a:Sum Int Unit)=>Sum.elim (fun(a2:Int)=>some a2) (fun(a3:Unit)=>some (-1)) a
theorem q04:∀(s:List qd),ev 182 0 [rL 2 qe s,R.c (C.fn 171 [] [])] []=(Qe s).bind (fun(e:Int)=>some (rI e,[])):=
 fun s=>by
  rw[qQ qor qyq.2.2.2 qzT]
  have:=qzy;have:=@JR;have:=@Qe.eq_1;exact gA
def zF (s:List qd):Option Bool:=Option.bind (Qe s) fun(a:Int)=>some (decide (0≤a))
theorem JQ:∀(s:List qd),ev 170 0 [rL 2 qe s,R.c (C.fn 171 [] [])] []=(zF s).bind (fun(e:Bool)=>some (rB e,[])):=
 fun s=>by
  rw[qQ qun qBf.2.2.2 qDk]
  have:=qCg;have:=@q04;have:=@zF.eq_1;exact gA
theorem qFo:okL 100 qgy:=qV (qn qvv) (by kernel_rfl) (by kernel_rfl)
def qCe:=JA_ @qgy.eq_1 (JA_ @Tryz.f100.eq_1 @qvv)
theorem qK1:okL 66 qnQ:=qV (qn qEA) (by kernel_rfl) (by kernel_rfl)
def qHv:=JA_ @qnQ.eq_1 (JA_ @Tryz.f66.eq_1 @qEA)
theorem qFk:okL 110 qgV:=qV (qn qv7) (by kernel_rfl) (by kernel_rfl)
def qEw:=JA_ @qgV.eq_1 (JA_ @Tryz.f110.eq_1 @qv7)
def q1X (x:Int):Option Bool:=
 some (x != x)
def Qg (x:Int):Bool:=
 x != x
theorem q7A (x:Int):q1X x=some (Qg x):=by
 unfold q1X Qg
 simp only[Zc]
theorem q8s:∀(x:Int),ev 110 0 [rI x] []=some (rB (Qg x),[]):=
 fun x=>by
  have h:ev 110 0 [rI x] []=(q1X x).bind (fun(e:Bool)=>some (rB e,[])):=by
   rw[qQ qv7 qx8.2.2.2 qFk]
   have:=qEw;have:=@q1X.eq_1;exact gA
  rw[q7A] at h
  exact h
def q15 (x:Int) (y:Int):Option Int:=if Qg x=Bool.true then if Qg y=Bool.true then some 0 else some (-1) else if Qg y=Bool.true then some 1 else if x<y then some (-1) else if y<x then some 1 else some 0
def Q7 (x:Int) (y:Int):Int:=if Qg x=Bool.true then if Qg y=Bool.true then 0 else(-1) else if Qg y=Bool.true then 1 else if x<y then(-1) else if y<x then 1 else 0
theorem q6i (x y:Int):q15 x y=some (Q7 x y):=by
 unfold q15 Q7
 simp only[Zc]
theorem q1f:∀(x y:Int),ev 66 0 [rI x,rI y] []=some (rI (Q7 x y),[]):=
 fun x y=>by
  have h:ev 66 0 [rI x,rI y] []=(q15 x y).bind (fun(e:Int)=>some (rI e,[])):=by
   rw[qQ qEA qFU.2.2.2 qK1]
   have:=qHv;have:=@q8s;have:=@q15.eq_1;exact gA
  rw[q6i] at h
  exact h
theorem qFt:okL 138 qg3:=qV (qn quY) (by kernel_rfl) (by kernel_rfl)
def qCA:=JA_ @qg3.eq_1 (JA_ @Tryz.f138.eq_1 @quY)
theorem qCM:okL 167 qgj:=qV (qn qu0) (by kernel_rfl) (by kernel_rfl)
def qCh:=JA_ @qgj.eq_1 (JA_ @Tryz.f167.eq_1 @qu0)
def q0A (x:ByteArray):Option Unit:=
 some ()
def q2V (x:ByteArray):Unit:=
 ()
theorem q5I (x:ByteArray):q0A x=some (q2V x):=by
 unfold q0A q2V
 simp only[Zc]
theorem q68:∀(x:ByteArray),ev 167 0 [rS x] []=some (rB Bool.false,[]):=
 fun x=>by
  have h:ev 167 0 [rS x] []=(q0A x).bind (fun(e:Unit)=>some (rB Bool.false,[])):=by
   rw[qQ qu0 qAH.2.2.2 qCM]
   have:=qCh;have:=@q0A.eq_1;exact gA
  rw[q5I] at h
  exact h
def JT (x:ByteArray) (y:ByteArray):Option Int:=if Op.bytesLess (ByteArray.toList x) (ByteArray.toList y)=Bool.true then some (-1) else if(!(Op.bytesLess (ByteArray.toList x) (ByteArray.toList y)||ByteArray.toList x==ByteArray.toList y))=Bool.true then some 1 else some 0
def Z5 (x:ByteArray) (y:ByteArray):Int:=if Op.bytesLess (ByteArray.toList x) (ByteArray.toList y)=Bool.true then(-1) else if(!(Op.bytesLess (ByteArray.toList x) (ByteArray.toList y)||ByteArray.toList x==ByteArray.toList y))=Bool.true then 1 else 0
theorem q4F (x y:ByteArray):JT x y=some (Z5 x y):=by
 unfold JT Z5
 simp only[Zc]
theorem q52:∀(x y:ByteArray),ev 138 0 [rS x,rS y] []=some (rI (Z5 x y),[]):=
 fun x y=>by
  have h:ev 138 0 [rS x,rS y] []=(JT x y).bind (fun(e:Int)=>some (rI e,[])):=by
   rw[qQ quY qAD.2.2.2 qFt]
   have:=qCA;have:=@q68;have:=@JT.eq_1;exact gA
  rw[q4F] at h
  exact h
theorem qH5:okL 65 qi7:=qV (qn qBw) (by kernel_rfl) (by kernel_rfl)
def qFH:=JA_ @qi7.eq_1 (JA_ @Tryz.f65.eq_1 @qBw)
theorem qxd:lbO 65 3=qmU:=QO (qn qBw) rfl
theorem qzf:okL 65 qmU:=Q6 qH5 (qLe (i:=0) (by kernel_rfl))
def Zq (zero:Int) (t6:List Int) (t7:Int):Int→Option (Int⊕(Int⊕Unit))|t8=>if t8<t7 then if 0≤t8∧t8<((t6.length:Nat):Int) then Option.bind t6[Int.toNat t8]? fun(a:Int)=>if(a != zero)=Bool.true then some (Sum.inr (Sum.inl a)) else some (Sum.inl (w64 (t8+1))) else none else some (Sum.inr (Sum.inr ()))
theorem q7Y:∀(zero:Int) (t6:List Int) (t7 t8:Int),XL2 evo 65 0 3 ⟨[(3,rI zero),(6,rL 1 eI t6),(7,rI t7),(8,rI t8)],[],0,18⟩=(zG (Zq zero t6 t7) t8).bind (Sum.elim (fun(e:Int)=>some (Exit.ret,⟨[(2,rI e),(3,rI zero)],[],0,18⟩)) (fun(e:Unit)=>some (Exit.exit 0,⟨[(2,R.any),(3,rI zero)],[],0,18⟩))):=
 fun zero t6 t7 t8=>by
  revert t8;exact qbd qxd qzf (fun e=>by rcases e with _|_<;>exact⟨_,rfl,fun h=>by cases h⟩) fun x=>by
   have:=qFH;have:=@qmU.eq_1;have:=@Zq.eq_1;exact gA
def q0J (vals:List Int):Option Int:=Option.bind (zG (Zq 0 vals ((vals.length:Nat):Int)) 0) fun(a:Sum Int Unit)=>Sum.elim (fun(a2:Int)=>some a2) (fun(a3:Unit)=>some 0) a
theorem qbE:∀(vals:List Int),ev 65 0 [rL 1 eI vals] []=(q0J vals).bind (fun(e:Int)=>some (rI e,[])):=
 fun vals=>by
  rw[qQ qBw qFL.2.2.2 qH5]
  have:=qFH;have:=@q7Y;have:=@q0J.eq_1;exact gA
theorem q3O:∀(vals0 vals1:Int) , ev 65 0 [R.c (C.d (D.sl 1 2 [D.int .i64 vals0,D.int .i64 vals1]))] []=(q0J [vals0,vals1]).bind (fun(e:Int)=>some (rI e,[])):=by
 intro vals0 vals1;have h:=qbE [vals0,vals1]
 first
  | exact h
  | (simp only[rL,dL,bR,bZ,Nat.reduceAdd] at h;exact h)
def q0o (a:qd) (b:qd):Option Int:=Option.bind (q0J [Q7 a.School b.School,Z5 a.Code b.Code]) fun(e0:Int)=>some e0
theorem q4q:∀(JH:Int) (q2P:ByteArray) (q3h:Int) (q8P:ByteArray),ev 100 0 [R.agg [dI JH,dS q2P],R.agg [dI q3h,dS q8P]] []=(q0o (qd.mk JH q2P) (qd.mk q3h q8P)).bind (fun(e:Int)=>some (rI e,[])):=
 fun JH q2P q3h q8P=>by
  rw[qQ qvv qxI.2.2.2 qFo]
  have:=qCe;have:=@q1f;have:=@q52;have:=@q3O;have:=@q0o.eq_1;exact gA
def Zi (n:qb) (t22:List qd) (t23:Int):Int→Option (Int⊕(Unit⊕Unit))|t24=>if t24<t23 then if 0≤t24∧t24<((t22.length:Nat):Int) then Option.bind t22[Int.toNat t24]? fun(a:qd)=>if 0<t24 then if 0≤w64 (t24-1)∧w64 (t24-1)<((n.Set.length:Nat):Int) then Option.bind n.Set[Int.toNat (w64 (t24-1))]? fun(a2:qd)=>Option.bind (q0o a2 a) fun(a3:Int)=>if 0≤a3 then some (Sum.inr (Sum.inl ())) else some (Sum.inl (w64 (t24+1))) else none else some (Sum.inl (w64 (t24+1))) else none else some (Sum.inr (Sum.inr ()))
theorem q6T:∀(qC n_N qY:Int) (qZ:List qd) (n_L:List qb) (t22:List qd) (t23 t24:Int),XL2 evo 142 0 7 ⟨[(1,rP 0),(22,rL 2 qe t22),(23,rI t23),(24,rI t24)],[(0,B.blk 36 [dI qC,dI n_N,dI qY,dL 2 qe qZ,dL 5 qh n_L])],1,43⟩=(zG (Zi (qb.mk qC n_N qY qZ n_L) t22 t23) t24).bind (Sum.elim (fun(e:Unit)=>some (Exit.ret,⟨[(2,rI 7)],[],0,43⟩)) (fun(e:Unit)=>some (Exit.exit 1,⟨[(2,R.any)],[],0,43⟩))):=
 fun qC n_N qY qZ n_L t22 t23 t24=>by
  revert t24;exact qbd quw qt1 (fun e=>by rcases e with _|_<;>exact⟨_,rfl,fun h=>by cases h⟩) fun x=>by
   have:=qyx;have:=@qh9.eq_1;have:=@q4q;have:=@Zi.eq_1;exact gA
def q0p (n:qb):Option Int:=if(!(zu n.Min (-1000) 1000))=Bool.true then some 3 else if(!(zu ((n.Set.length:Nat):Int) 1 12))=Bool.true then some 2 else Option.bind (zF n.Set) fun(a:Bool)=>if(!a)=Bool.true then Option.bind (zG (Zi n n.Set ((n.Set.length:Nat):Int)) 0) fun(a2:Sum Unit Unit)=>Sum.elim (fun(a3:Unit)=>some 7) (fun(a4:Unit)=>some 0) a2 else some 1
theorem q4n:∀(qC n_N qY:Int) (qZ:List qd) (n_L:List qb),ev 142 0 [R.agg [dI qC,dI n_N,dI qY,dL 2 qe qZ,dL 5 qh n_L]] []=(q0p (qb.mk qC n_N qY qZ n_L)).bind (fun(e:Int)=>some (rI e,[])):=
 fun qC n_N qY qZ n_L=>by
  rw[qQ qoF qzD.2.2.2 qxX]
  have:=qyx;have:=@ZZ;have:=@JQ;have:=@q6T;have:=@q0p.eq_1;exact gA
def q1l (n:qb):Option Int:=if(n.N != 0)=Bool.true then some 13 else if 0<((n.L.length:Nat):Int) then some 13 else Option.bind (q0p n) fun(e0:Int)=>some e0
theorem q9k:∀(qC n_N qY:Int) (qZ:List qd) (n_L:List qb),ev 141 0 [R.agg [dI qC,dI n_N,dI qY,dL 2 qe qZ,dL 5 qh n_L]] []=(q1l (qb.mk qC n_N qY qZ n_L)).bind (fun(e:Int)=>some (rI e,[])):=
 fun qC n_N qY qZ n_L=>by
  rw[qQ qsH qwp.2.2.2 qEt]
  have:=qCo;have:=@q4n;have:=@q1l.eq_1;exact gA
theorem qCl:okL 143 qgl:=qV (qn quN) (by kernel_rfl) (by kernel_rfl)
def qFa:=JA_ @qgl.eq_1 (JA_ @Tryz.f143.eq_1 @quN)
def q1n (n:qb):Option Int:=if 0<((n.L.length:Nat):Int) then some 13 else if(!(zu n.N 1 600))=Bool.true then some 3 else Option.bind (q0p n) fun(e0:Int)=>some e0
theorem q9B:∀(qC n_N qY:Int) (qZ:List qd) (n_L:List qb),ev 143 0 [R.agg [dI qC,dI n_N,dI qY,dL 2 qe qZ,dL 5 qh n_L]] []=(q1n (qb.mk qC n_N qY qZ n_L)).bind (fun(e:Int)=>some (rI e,[])):=
 fun qC n_N qY qZ n_L=>by
  rw[qQ quN qwN.2.2.2 qCl]
  have:=qFa;have:=@ZZ;have:=@q4n;have:=@q1n.eq_1;exact gA
theorem qDN:okL 144 qgo:=qV (qn qtL) (by kernel_rfl) (by kernel_rfl)
def qEC:=JA_ @qgo.eq_1 (JA_ @Tryz.f144.eq_1 @qtL)
theorem qCn:okL 140 qgm:=qV (qn qvA) (by kernel_rfl) (by kernel_rfl)
def qCT:=JA_ @qgm.eq_1 (JA_ @Tryz.f140.eq_1 @qvA)
def q2w (n:qb):Option Bool:=if(n.Min==0)=Bool.true then if(((n.Set.length:Nat):Int)==0)=Bool.true then some (decide (0<((n.L.length:Nat):Int))) else some Bool.false else some Bool.false
def Za (n:qb):Bool:=if(n.Min==0)=Bool.true then if(((n.Set.length:Nat):Int)==0)=Bool.true then decide (0<((n.L.length:Nat):Int)) else Bool.false else Bool.false
theorem q8I (n:qb):q2w n=some (Za n):=by
 unfold q2w Za
 simp only[Zc]
theorem q4l:∀(qC n_N qY:Int) (qZ:List qd) (n_L:List qb),ev 140 0 [R.agg [dI qC,dI n_N,dI qY,dL 2 qe qZ,dL 5 qh n_L]] []=some (rB (Za (qb.mk qC n_N qY qZ n_L)),[]):=
 fun qC n_N qY qZ n_L=>by
  have h:ev 140 0 [R.agg [dI qC,dI n_N,dI qY,dL 2 qe qZ,dL 5 qh n_L]] []=(q2w (qb.mk qC n_N qY qZ n_L)).bind (fun(e:Bool)=>some (rB e,[])):=by
   rw[qQ qvA qxQ.2.2.2 qCn]
   have:=qCT;have:=@q2w.eq_1;exact gA
  rw[q8I] at h
  exact h
def q2r (n:qb):Option Int:=if(!(Za n))=Bool.true then some 13 else if(n.N != 0)=Bool.true then some 13 else some 0
def J3 (n:qb):Int:=if(!(Za n))=Bool.true then 13 else if(n.N != 0)=Bool.true then 13 else 0
theorem q7T (n:qb):q2r n=some (J3 n):=by
 unfold q2r J3
 simp only[Zc]
theorem q9v:∀(qC n_N qY:Int) (qZ:List qd) (n_L:List qb),ev 144 1 [R.agg [dI qC,dI n_N,dI qY,dL 2 qe qZ,dL 5 qh n_L],rP 0] [(0,B.blk 136 [C.fn 140 [] []])]=some (rI (J3 (qb.mk qC n_N qY qZ n_L)),[(0,B.blk 136 [C.fn 140 [] []])]):=
 fun qC n_N qY qZ n_L=>by
  have h:ev 144 1 [R.agg [dI qC,dI n_N,dI qY,dL 2 qe qZ,dL 5 qh n_L],rP 0] [(0,B.blk 136 [C.fn 140 [] []])]=(q2r (qb.mk qC n_N qY qZ n_L)).bind (fun(e:Int)=>some (rI e,[(0,B.blk 136 [C.fn 140 [] []])])):=by
   rw[qQ qtL qz5.2.2.2 qDN]
   have:=qEC;have:=@q4l;have:=@q2r.eq_1;exact gA
  rw[q7T] at h
  exact h
theorem qEu:okL 145 qgK:=qV (qn qrK) (by kernel_rfl) (by kernel_rfl)
def qCD:=JA_ @qgK.eq_1 (JA_ @Tryz.f145.eq_1 @qrK)
def q2B (n:qb):Option Int:=if(!(Za n))=Bool.true then some 13 else if(!(zu n.N 1 ((n.L.length:Nat):Int)))=Bool.true then some 3 else some 0
def J2 (n:qb):Int:=if(!(Za n))=Bool.true then 13 else if(!(zu n.N 1 ((n.L.length:Nat):Int)))=Bool.true then 3 else 0
theorem q82 (n:qb):q2B n=some (J2 n):=by
 unfold q2B J2
 simp only[Zc]
theorem q9l:∀(qC n_N qY:Int) (qZ:List qd) (n_L:List qb),ev 145 1 [R.agg [dI qC,dI n_N,dI qY,dL 2 qe qZ,dL 5 qh n_L],rP 0] [(0,B.blk 136 [C.fn 140 [] []])]=some (rI (J2 (qb.mk qC n_N qY qZ n_L)),[(0,B.blk 136 [C.fn 140 [] []])]):=
 fun qC n_N qY qZ n_L=>by
  have h:ev 145 1 [R.agg [dI qC,dI n_N,dI qY,dL 2 qe qZ,dL 5 qh n_L],rP 0] [(0,B.blk 136 [C.fn 140 [] []])]=(q2B (qb.mk qC n_N qY qZ n_L)).bind (fun(e:Int)=>some (rI e,[(0,B.blk 136 [C.fn 140 [] []])])):=by
   rw[qQ qrK qz2.2.2.2 qEu]
   have:=qCD;have:=@q4l;have:=@ZZ;have:=@q2B.eq_1;exact gA
  rw[q82] at h
  exact h
def Jp (t37:List qb) (t38:Int):Int→Option (Int⊕(Int⊕Unit))|t39=>if t39<t38 then if 0≤t39∧t39<((t37.length:Nat):Int) then Option.bind t37[Int.toNat t39]? fun(a:qb)=>if a.Kind=1 then Option.bind (q1l a) fun(a2:Int)=>if(a2 != 0)=Bool.true then some (Sum.inr (Sum.inl a2)) else some (Sum.inl (w64 (t39+1))) else if a.Kind=2 then Option.bind (q1n a) fun(a3:Int)=>if(a3 != 0)=Bool.true then some (Sum.inr (Sum.inl a3)) else some (Sum.inl (w64 (t39+1))) else if a.Kind=3 then if(J3 a != 0)=Bool.true then some (Sum.inr (Sum.inl (J3 a))) else some (Sum.inl (w64 (t39+1))) else if a.Kind=4 then if(J2 a != 0)=Bool.true then some (Sum.inr (Sum.inl (J2 a))) else some (Sum.inl (w64 (t39+1))) else some (Sum.inr (Sum.inl 13)) else none else some (Sum.inr (Sum.inr ()))
theorem q8j:∀(t37:List qb) (t38 t39:Int),XL2 evo 58 0 6 ⟨[(6,R.c (C.hd .map 0)),(37,rL 5 qh t37),(38,rI t38),(39,rI t39)],[(0,B.ob (AO.mp [(Value.int IntKind.i64 1,R.agg [C.fn 141 [] []],0),(Value.int IntKind.i64 2,R.agg [C.fn 143 [] []],1),(Value.int IntKind.i64 3,R.agg [C.fn 144 [] [dP 1]],2),(Value.int IntKind.i64 4,R.agg [C.fn 145 [] [dP 1]],3)] 4)),(1,B.blk 136 [C.fn 140 [] []])],2,60⟩=(zG (Jp t37 t38) t39).bind (Sum.elim (fun(e:Int)=>some (Exit.ret,⟨[(2,rI e)],[],0,60⟩)) (fun(e:Unit)=>some (Exit.exit 0,⟨[(2,R.any)],[],0,60⟩))):=
 fun t37 t38 t39=>by
  revert t39;exact qbd qwO qze (fun e=>by rcases e with _|_<;>exact⟨_,rfl,fun h=>by cases h⟩) fun x=>by
   have:=qH3;have:=@qmp.eq_1;have:=@q9k;have:=@q9B;have:=@q9v;have:=@q9l;have:=@Jp.eq_1;exact gA
def Jj (n:qb):Option Int:=Option.bind (q2i n) fun(a:Prod (List qb) (Prod Int Bool))=>if(!a.2.2)=Bool.true then some 2 else if 24<((a.1.length:Nat):Int) then some 2 else if 5<a.2.1 then some 2 else Option.bind (q14 n) fun(a2:List qb)=>if(!(zu ((a2.length:Nat):Int) 1 8))=Bool.true then some 2 else Option.bind (zG (Jp a.1 ((a.1.length:Nat):Int)) 0) fun(a3:Sum Int Unit)=>Sum.elim (fun(a4:Int)=>some a4) (fun(a5:Unit)=>some 0) a3
theorem q3x:∀(qC n_N qY:Int) (qZ:List qd) (n_L:List qb),ev 58 0 [R.agg [dI qC,dI n_N,dI qY,dL 2 qe qZ,dL 5 qh n_L]] []=(Jj (qb.mk qC n_N qY qZ n_L)).bind (fun(e:Int)=>some (rI e,[])):=
 fun qC n_N qY qZ n_L=>by
  rw[qQ qBH qH2.2.2.2 qGh]
  have:=qH3;have:=@q74;have:=@q5g;have:=@ZZ;have:=@qbu;have:=@q8j;have:=@Jj.eq_1;exact gA
theorem qJU:okL 70 qkJ:=qV (qn qEZ) (by kernel_rfl) (by kernel_rfl)
def qID:=JA_ @qkJ.eq_1 (JA_ @Tryz.f70.eq_1 @qEZ)
theorem qzo:okL 114 qe3:=qV (qn qoO) (by kernel_rfl) (by kernel_rfl)
def qAf:=JA_ @qe3.eq_1 (JA_ @Tryz.f114.eq_1 @qoO)
theorem quj:lbO 114 2=qho:=QO (qn qoO) rfl
theorem qsW:okL 114 qho:=Q6 qzo (qLe (i:=0) (by kernel_rfl))
theorem qHa:okL 57 qhD:=qV (qn qBs) (by kernel_rfl) (by kernel_rfl)
def qGJ:=JA_ @qhD.eq_1 (JA_ @Tryz.f57.eq_1 @qBs)
theorem qxU:lbO 57 2=qmV:=QO (qn qBs) rfl
theorem qxi:okL 57 qmV:=Q6 qHa (qLe (i:=0) (by kernel_rfl))
theorem qCZ:okL 101 qh8:=qV (qn qt4) (by kernel_rfl) (by kernel_rfl)
def qEk:=JA_ @qh8.eq_1 (JA_ @Tryz.f101.eq_1 @qt4)
def q07 (n:Int) (a:Int) (b:Int):Option Int:=
 some (max (min a b) (min n (max a b)))
def Qv (n:Int) (a:Int) (b:Int):Int:=
 max (min a b) (min n (max a b))
theorem q4V (n a b:Int):q07 n a b=some (Qv n a b):=by
 unfold q07 Qv
 simp only[Zc]
theorem q0q:∀(n a b:Int),ev 101 0 [rI n,rI a,rI b] []=some (rI (Qv n a b),[]):=
 fun n a b=>by
  have h:ev 101 0 [rI n,rI a,rI b] []=(q07 n a b).bind (fun(e:Int)=>some (rI e,[])):=by
   rw[qQ qt4 qzF.2.2.2 qCZ]
   have:=qEk;have:=@q07.eq_1;exact gA
  rw[q4V] at h
  exact h
def ZX (w1:List Int) (s:qg) (t10:Int):Int→Option (Int⊕(Unit⊕Unit))|t11=>if t11<t10 then if 0≤t11∧t11<((w1.length:Nat):Int) then Option.bind w1[Int.toNat t11]? fun(a:Int)=>if(Qv a (-1000) 1000 != a)=Bool.true then some (Sum.inr (Sum.inl ())) else some (Sum.inl (w64 (t11+1))) else none else some (Sum.inr (Sum.inr ()))
theorem q7v:∀(w1:List Int) (zj zU zV t10 t11:Int) (JI:Nat),JI=w1.length→XL2 evo 57 0 2 ⟨[(1,rP 0),(9,rO 1 1 JI),(10,rI t10),(11,rI t11)],[(0,B.blk 28 [dI zj,dI zU,dI zV]),(1,bR 3 1 eI w1)],2,37⟩=(zG (ZX w1 (qg.mk zj zU zV) t10) t11).bind (Sum.elim (fun(e:Unit)=>some (Exit.ret,⟨[(1,rP 0),(2,rI 10)],[(0,B.blk 28 [dI zj,dI zU,dI zV])],1,37⟩)) (fun(e:Unit)=>some (Exit.exit 0,⟨[(1,rP 0),(2,R.any)],[(0,B.blk 28 [dI zj,dI zU,dI zV])],1,37⟩))):=
 by
 intro w1 zj zU zV t10 t11 JI h0
 subst h0
 revert t11;exact qbd qxU qxi (fun e=>by rcases e with _|_<;>exact⟨_,rfl,fun h=>by cases h⟩) fun x=>by
  have:=qGJ;have:=@qmV.eq_1;have:=@q0q;have:=@ZX.eq_1;exact gA
theorem q5x:∀(w10 w11 zj zU zV t10 t11:Int),XL2 evo 57 0 2 ⟨[(1,rP 0),(9,rO 1 1 2),(10,rI t10),(11,rI t11)],[(0,B.blk 28 [dI zj,dI zU,dI zV]),(1,B.row 3 1 [dI w10,dI w11])],2,37⟩=(zG (ZX [w10,w11] (qg.mk zj zU zV) t10) t11).bind (Sum.elim (fun(e:Unit)=>some (Exit.ret,⟨[(1,rP 0),(2,rI 10)],[(0,B.blk 28 [dI zj,dI zU,dI zV])],1,37⟩)) (fun(e:Unit)=>some (Exit.exit 0,⟨[(1,rP 0),(2,R.any)],[(0,B.blk 28 [dI zj,dI zU,dI zV])],1,37⟩))):=by
 intro w10 w11 zj zU zV t10 t11;have h:=q7v [w10,w11] ((qg.mk zj zU zV)).Worst ((qg.mk zj zU zV)).Best ((qg.mk zj zU zV)).Pass t10 t11 _ rfl
 first
  | exact h
  | (simp only[rL,dL,bR,bZ,Nat.reduceAdd] at h;exact h)
def q18 (s:qg):Option Int:=Option.bind (zG (ZX [s.Worst,s.Best] s 2) 0) fun(a:Sum Unit Unit)=>Sum.elim (fun(a2:Unit)=>some 10) (fun(a3:Unit)=>if(s.Worst==s.Best)=Bool.true then some 10 else if(Qv s.Pass s.Worst s.Best != s.Pass)=Bool.true then some 10 else some 0) a
theorem q5j:∀(zj zU zV:Int),ev 57 0 [R.agg [dI zj,dI zU,dI zV]] []=(q18 (qg.mk zj zU zV)).bind (fun(e:Int)=>some (rI e,[])):=
 fun zj zU zV=>by
  rw[qQ qBs qFz.2.2.2 qHa]
  have:=qGJ;have:=@q5x;have:=@q0q;have:=@q18.eq_1;exact gA
theorem qJj:okL 18 qnK:=qV (qn qEd) (by kernel_rfl) (by kernel_rfl)
def qJr:=JA_ @qnK.eq_1 (JA_ @Tryz.f18.eq_1 @qEd)
theorem qJs:okL 46 qmi:=qV (qn qE6) (by kernel_rfl) (by kernel_rfl)
def qJR:=JA_ @qmi.eq_1 (JA_ @Tryz.f46.eq_1 @qE6)
theorem qJc:okL 80 qm5:=qV (qn qFp) (by kernel_rfl) (by kernel_rfl)
def qHy:=JA_ @qm5.eq_1 (JA_ @Tryz.f80.eq_1 @qFp)
def q06 (n:Int) (by0:Int):Option Int:=if by0=0 then none else if by0=0 then none else if by0=0 then none else some (w64 (Int.tdiv (w64 (n-Int.tmod (w64 (Int.tmod n by0+by0)) by0)) by0))
theorem qab:∀(n by0:Int),ev 80 0 [rI n,rI by0] []=(q06 n by0).bind (fun(e:Int)=>some (rI e,[])):=
 fun n by0=>by
  rw[qQ qFp qGY.2.2.2 qJc]
  have:=qHy;have:=@q06.eq_1;exact gA
def q0G (day:Int):Option Int:=if day<(-4611686018427387904) then Option.bind (q06 (w64 (day+100)) 100) fun(a:Int)=>some (w64 (a-1)) else Option.bind (q06 day 100) fun(e0:Int)=>some e0
theorem qcn:∀(day:Int),ev 46 0 [rI day] []=(q0G day).bind (fun(e:Int)=>some (rI e,[])):=
 fun day=>by
  rw[qQ qE6 qGB.2.2.2 qJs]
  have:=qJR;have:=@qab;have:=@q0G.eq_1;exact gA
def Zl (p:qc) (a:qa) (day:Int):Option Bool:=if 0<p.Age then Option.bind (q0G day) fun(a2:Int)=>Option.bind (q0G a.Day) fun(a3:Int)=>some (decide (p.Age<w64 (a2-a3))) else some Bool.false
theorem q3D:∀(qA Jt qy zc:Int) (zd:ByteArray) (qs qB qu:Int) (qx:List qd) (qF:List qb) (qJ Q9 Qa:Int) (qH:List (JK qd)) (Q8:Int) (QB:ByteArray) (Js q1G q7L:Int) (Jb:List Int) (q0c:Int) (q35:List Int) (day:Int),ev 18 0 [R.agg [dI qA,dI Jt,dI qy,dI zc,dS zd,dI qs,dI qB,dI qu,dL 2 qe qx,dL 5 qh qF,dI qJ,dI Q9,dI Qa,dL 4 (eA2 qe) qH],R.agg [dI Q8,dS QB,dI Js,dI q1G,dI q7L,dL 1 eI Jb,dI q0c,dL 1 eI q35],rI day] []=(Zl (qc.mk qA Jt qy zc zd (qb.mk qs qB qu qx qF) qJ Q9 Qa qH) (qa.mk (qd.mk Q8 QB) Js q1G q7L Jb q0c q35) day).bind (fun(e:Bool)=>some (rB e,[])):=
 fun qA Jt qy zc zd qs qB qu qx qF qJ Q9 Qa qH Q8 QB Js q1G q7L Jb q0c q35 day=>by
  rw[qQ qEd qGs.2.2.2 qJj]
  have:=qJr;have:=@qcn;have:=@Zl.eq_1;exact gA
def Z3 (b0:qc) (b1:qg) (b2:Int) (b4:Int) (t2:List qa) (t28:List qa) (t29:Int):(List Int×Int)→Option ((List Int×Int)⊕(List Int))|(w6,t30)=>if t30<t29 then if 0≤t30∧t30<((t28.length:Nat):Int) then Option.bind t28[Int.toNat t30]? fun(a:qa)=>Option.bind (Zl b0 a b2) fun(a2:Bool)=>if(!a2)=Bool.true then if w6.length+1≤maxLen∧(w6.length+1)*8≤140737488355328 then some (Sum.inl (w6++[t30],w64 (t30+1))) else none else some (Sum.inl (w6,w64 (t30+1))) else none else some (Sum.inr w6)
theorem q5Y:∀(w6:List Int) (qo za ql qv:Int) (qw:ByteArray) (qi qp qj:Int) (qk:List qd) (qr:List qb) (qt qD qE:Int) (qm:List (JK qd)) (qO zp zq b2 b4:Int) (t2 t28:List qa) (t29 t30:Int) (qbX:Nat),qbX=w6.length→XL2 evo 15 0 6 ⟨[(2,rL 8 qf t2),(4,rP 0),(5,rP 1),(7,rP 2),(8,rP 3),(9,rP 4),(11,rP 5),(28,rL 8 qf t28),(29,rI t29),(30,rI t30)],[(0,B.blk 39 [dI qo,dI za,dI ql,dI qv,dS qw,dI qi,dI qp,dI qj,dL 2 qe qk,dL 5 qh qr,dI qt,dI qD,dI qE,dL 4 (eA2 qe) qm]),(1,B.blk 28 [dI qO,dI zp,dI zq]),(2,B.blk 3 [dI b2]),(3,B.blk 48 [C.nils,C.nils]),(4,B.blk 49 [dI b4]),(5,B.blk 22 [dO 6 1 qbX]),(6,bR 3 1 eI w6)],7,93⟩=(zG (Z3 (qc.mk qo za ql qv qw (qb.mk qi qp qj qk qr) qt qD qE qm) (qg.mk qO zp zq) b2 b4 t2 t28 t29) (w6,t30)).bind (fun(e:List Int)=>some (Exit.exit 0,⟨[(2,rL 8 qf t2),(4,rP 0),(5,rP 1),(7,rP 2),(8,rP 3),(9,rP 4),(11,rP 5)],[(0,B.blk 39 [dI qo,dI za,dI ql,dI qv,dS qw,dI qi,dI qp,dI qj,dL 2 qe qk,dL 5 qh qr,dI qt,dI qD,dI qE,dL 4 (eA2 qe) qm]),(1,B.blk 28 [dI qO,dI zp,dI zq]),(2,B.blk 3 [dI b2]),(3,B.blk 48 [C.nils,C.nils]),(4,B.blk 49 [dI b4]),(5,B.blk 22 [dO 6 1 e.length]),(6,bR 3 1 eI e)],7,93⟩)):=
 by
 intro w6 qo za ql qv qw qi qp qj qk qr qt qD qE qm qO zp zq b2 b4 t2 t28 t29 t30 qbX h0
 subst h0
 revert t30;revert w6;exact qcb qyL qyj (fun e=>by exact⟨_,rfl,fun h=>by cases h⟩) fun w6 t30=>by
  have:=qCO;have:=@qnS.eq_1;have:=@q3D;have:=@Z3.eq_1;have:=@qgH;exact gA
theorem q4h:∀  (qo za ql qv:Int) (qw:ByteArray) (qi qp qj:Int) (qk:List qd) (qr:List qb) (qt qD qE:Int) (qm:List (JK qd)) (qO zp zq b2 b4:Int) (t2 t28:List qa) (t29 t30:Int),XL2 evo 15 0 6 ⟨[(2,rL 8 qf t2),(4,rP 0),(5,rP 1),(7,rP 2),(8,rP 3),(9,rP 4),(11,rP 5),(28,rL 8 qf t28),(29,rI t29),(30,rI t30)],[(0,B.blk 39 [dI qo,dI za,dI ql,dI qv,dS qw,dI qi,dI qp,dI qj,dL 2 qe qk,dL 5 qh qr,dI qt,dI qD,dI qE,dL 4 (eA2 qe) qm]),(1,B.blk 28 [dI qO,dI zp,dI zq]),(2,B.blk 3 [dI b2]),(3,B.blk 48 [C.nils,C.nils]),(4,B.blk 49 [dI b4]),(5,B.blk 22 [dO 6 1 0]),(6,B.row 3 1 [])],7,93⟩=(zG (Z3 (qc.mk qo za ql qv qw (qb.mk qi qp qj qk qr) qt qD qE qm) (qg.mk qO zp zq) b2 b4 t2 t28 t29) ([],t30)).bind (fun(e:List Int)=>some (Exit.exit 0,⟨[(2,rL 8 qf t2),(4,rP 0),(5,rP 1),(7,rP 2),(8,rP 3),(9,rP 4),(11,rP 5)],[(0,B.blk 39 [dI qo,dI za,dI ql,dI qv,dS qw,dI qi,dI qp,dI qj,dL 2 qe qk,dL 5 qh qr,dI qt,dI qD,dI qE,dL 4 (eA2 qe) qm]),(1,B.blk 28 [dI qO,dI zp,dI zq]),(2,B.blk 3 [dI b2]),(3,B.blk 48 [C.nils,C.nils]),(4,B.blk 49 [dI b4]),(5,B.blk 22 [dO 6 1 e.length]),(6,bR 3 1 eI e)],7,93⟩)):=by
 intro qo za ql qv qw qi qp qj qk qr qt qD qE qm qO zp zq b2 b4 t2 t28 t29 t30;have h:=q5Y [] ((qc.mk qo za ql qv qw (qb.mk qi qp qj qk qr) qt qD qE qm)).School ((qc.mk qo za ql qv qw (qb.mk qi qp qj qk qr) qt qD qE qm)).Id ((qc.mk qo za ql qv qw (qb.mk qi qp qj qk qr) qt qD qE qm)).Version ((qc.mk qo za ql qv qw (qb.mk qi qp qj qk qr) qt qD qE qm)).From ((qc.mk qo za ql qv qw (qb.mk qi qp qj qk qr) qt qD qE qm)).Name ((qc.mk qo za ql qv qw (qb.mk qi qp qj qk qr) qt qD qE qm)).Need.Kind ((qc.mk qo za ql qv qw (qb.mk qi qp qj qk qr) qt qD qE qm)).Need.N ((qc.mk qo za ql qv qw (qb.mk qi qp qj qk qr) qt qD qE qm)).Need.Min ((qc.mk qo za ql qv qw (qb.mk qi qp qj qk qr) qt qD qE qm)).Need.Set ((qc.mk qo za ql qv qw (qb.mk qi qp qj qk qr) qt qD qE qm)).Need.L ((qc.mk qo za ql qv qw (qb.mk qi qp qj qk qr) qt qD qE qm)).Total ((qc.mk qo za ql qv qw (qb.mk qi qp qj qk qr) qt qD qE qm)).Own ((qc.mk qo za ql qv qw (qb.mk qi qp qj qk qr) qt qD qE qm)).Age ((qc.mk qo za ql qv qw (qb.mk qi qp qj qk qr) qt qD qE qm)).Exclude ((qg.mk qO zp zq)).Worst ((qg.mk qO zp zq)).Best ((qg.mk qO zp zq)).Pass b2 b4 t2 t28 t29 t30 _ rfl
 first
  | exact h
  | (simp only[rL,dL,bR,bZ,Nat.reduceAdd] at h;exact h)
theorem qFW:okL 34 qiu:=qV (qn qBQ) (by kernel_rfl) (by kernel_rfl)
def qGM:=JA_ @qiu.eq_1 (JA_ @Tryz.f34.eq_1 @qBQ)
theorem qxG:lbO 34 2=qm1:=QO (qn qBQ) rfl
theorem qyF:okL 34 qm1:=Q6 qFW (qLe (i:=0) (by kernel_rfl))
def zn (l:List qa) (t7:List Int) (t8:Int):(List qa×Int)→Option ((List qa×Int)⊕(List qa))|(out,t9)=>if t9<t8 then if 0≤t9∧t9<((t7.length:Nat):Int) then Option.bind t7[Int.toNat t9]? fun(a:Int)=>if 0≤a∧a<((l.length:Nat):Int) then Option.bind l[Int.toNat a]? fun(a2:qa)=>if out.length+1≤maxLen∧(out.length+1)*104≤140737488355328 then some (Sum.inl (out++[a2],w64 (t9+1))) else none else none else none else some (Sum.inr out)
theorem q1e:∀(out l:List qa) (t7:List Int) (t8 t9:Int) (q1H:Nat),q1H=out.length→XL2 evo 34 0 2 ⟨[(0,rL 8 qf l),(4,rO 0 8 q1H),(7,rL 1 eI t7),(8,rI t8),(9,rI t9)],[(0,bR 57 8 qf out)],1,22⟩=(zG (zn l t7 t8) (out,t9)).bind (fun(e:List qa)=>some (Exit.exit 0,⟨[(4,rO 0 8 e.length)],[(0,bR 57 8 qf e)],1,22⟩)):=
 by
 intro out l t7 t8 t9 q1H h0
 subst h0
 revert t9;revert out;exact qcb qxG qyF (fun e=>by exact⟨_,rfl,fun h=>by cases h⟩) fun out t9=>by
  have:=qGM;have:=@qm1.eq_1;have:=@zn.eq_1;exact gA
theorem q0D:∀  (l:List qa) (t7:List Int) (t8 t9:Int),XL2 evo 34 0 2 ⟨[(0,rL 8 qf l),(4,rO 0 8 0),(7,rL 1 eI t7),(8,rI t8),(9,rI t9)],[(0,B.row 57 8 [])],1,22⟩=(zG (zn l t7 t8) ([],t9)).bind (fun(e:List qa)=>some (Exit.exit 0,⟨[(4,rO 0 8 e.length)],[(0,bR 57 8 qf e)],1,22⟩)):=by
 intro l t7 t8 t9;have h:=q1e [] l t7 t8 t9 _ rfl
 first
  | exact h
  | (simp only[rL,dL,bR,bZ,Nat.reduceAdd] at h;exact h)
def zM (l:List qa) (at0:List Int):Option (List qa):=Option.bind (zG (zn l at0 ((at0.length:Nat):Int)) ([],0)) fun(a:List qa)=>some a
theorem Jw:∀(l:List qa) (at0:List Int),ev 34 0 [rL 8 qf l,rL 1 eI at0] []=(zM l at0).bind (fun(e:List qa)=>some (rL 8 qf e,[])):=
 fun l at0=>by
  rw[qQ qBQ qGw.2.2.2 qFW]
  have:=qGM;have:=@q0D;have:=@zM.eq_1;exact gA
theorem qJT:okL 35 qlC:=qV (qn qE8) (by kernel_rfl) (by kernel_rfl)
def qJo:=JA_ @qlC.eq_1 (JA_ @Tryz.f35.eq_1 @qE8)
theorem qGK:okL 61 qlt:=qV (qn qBY) (by kernel_rfl) (by kernel_rfl)
def qHc:=JA_ @qlt.eq_1 (JA_ @Tryz.f61.eq_1 @qBY)
theorem qfW:okL 104 q5R:=qV (qn qdh) (by kernel_rfl) (by kernel_rfl)
def q7Z:=JA_ @q5R.eq_1 (JA_ @Tryz.f104.eq_1 @qdh)
theorem qdt:lbO 104 5=q9J:=QO (qn qdh) rfl
theorem qdq:okL 104 q9J:=Q6 qfW (qLe (i:=0) (by kernel_rfl))
theorem qiA:lbO 104 14=qaE:=QO (qn qdh) rfl
theorem qin:okL 104 qaE:=Q6 qfW (qLe (i:=1) (by kernel_rfl))
theorem qhX:lbO 104 18=qaP:=QO (qn qdh) rfl
theorem qim:okL 104 qaP:=Q6 qfW (qLe (i:=2) (by kernel_rfl))
theorem qiZ:lbO 104 25=qaN:=QO (qn qdh) rfl
theorem qj4:okL 104 qaN:=Q6 qfW (qLe (i:=3) (by kernel_rfl))
theorem qiO:lbO 104 38=qaK:=QO (qn qdh) rfl
theorem qih:okL 104 qaK:=Q6 qfW (qLe (i:=4) (by kernel_rfl))
theorem qJ8:okL 86 qn0:=qV (qn qE3) (by kernel_rfl) (by kernel_rfl)
def qIc:=JA_ @qn0.eq_1 (JA_ @Tryz.f86.eq_1 @qE3)
def q6J (n:qb):Option Bool:=if(n.Kind==1)=Bool.true then some Bool.true else some (n.Kind==2)
def JF (n:qb):Bool:=if(n.Kind==1)=Bool.true then Bool.true else n.Kind==2
theorem qcr (n:qb):q6J n=some (JF n):=by
 unfold q6J JF
 simp only[Zc]
theorem q3g:∀(qC n_N qY:Int) (qZ:List qd) (n_L:List qb),ev 86 0 [R.agg [dI qC,dI n_N,dI qY,dL 2 qe qZ,dL 5 qh n_L]] []=some (rB (JF (qb.mk qC n_N qY qZ n_L)),[]):=
 fun qC n_N qY qZ n_L=>by
  have h:ev 86 0 [R.agg [dI qC,dI n_N,dI qY,dL 2 qe qZ,dL 5 qh n_L]] []=(q6J (qb.mk qC n_N qY qZ n_L)).bind (fun(e:Bool)=>some (rB e,[])):=by
   rw[qQ qE3 qHd.2.2.2 qJ8]
   have:=qIc;have:=@q6J.eq_1;exact gA
  rw[qcr] at h
  exact h
theorem qJD:okL 89 qml:=qV (qn qFj) (by kernel_rfl) (by kernel_rfl)
def qIV:=JA_ @qml.eq_1 (JA_ @Tryz.f89.eq_1 @qFj)
def q0P (kind:Int):Option (Unit⊕Unit):=if(kind==1)=Bool.true then some (Sum.inl ()) else some (Sum.inr ())
theorem q40:∀(kind:Int),ev 89 0 [rI kind] []=(q0P kind).bind (Sum.elim (fun(e:Unit)=>some (R.c (C.fn 133 [] []),[])) (fun(e:Unit)=>some (R.c (C.fn 134 [] []),[]))):=
 fun kind=>by
  rw[qQ qFj qGx.2.2.2 qJD]
  have:=qIV;have:=@q0P.eq_1;exact gA
theorem qJL:okL 59 qn6:=qV (qn qDy) (by kernel_rfl) (by kernel_rfl)
def qHU:=JA_ @qn6.eq_1 (JA_ @Tryz.f59.eq_1 @qDy)
def q3Q (x0:Int) (x1:Int):Option Unit:=
 some ()
def q78 (x0:Int) (x1:Int):Unit:=
 ()
theorem qaj (x0 x1:Int):q3Q x0 x1=some (q78 x0 x1):=by
 unfold q3Q q78
 simp only[Zc]
theorem q64:∀(x0 x1:Int),ev 59 0 [rI x0,rI x1] []=some (rB Bool.true,[]):=
 fun x0 x1=>by
  have h:ev 59 0 [rI x0,rI x1] []=(q3Q x0 x1).bind (fun(e:Unit)=>some (rB Bool.true,[])):=by
   rw[qQ qDy qGu.2.2.2 qJL]
   have:=qHU;have:=@q3Q.eq_1;exact gA
  rw[qaj] at h
  exact h
theorem qFd:okL 87 qiy:=qV (qn qAI) (by kernel_rfl) (by kernel_rfl)
def qBr:=JA_ @qiy.eq_1 (JA_ @Tryz.f87.eq_1 @qAI)
theorem qra:lbO 87 3=qiM:=QO (qn qAI) rfl
theorem qrs:okL 87 qiM:=Q6 qFd (qLe (i:=0) (by kernel_rfl))
theorem qD5:okL 105 qgr:=qV (qn qvh) (by kernel_rfl) (by kernel_rfl)
def qDx:=JA_ @qgr.eq_1 (JA_ @Tryz.f105.eq_1 @qvh)
def q0Q (k:Int) (v:Int):Option Bool:=if 0≤k then some (ZG Go.BinOp.and IntKind.i64 (Int.fdiv v (2 ^ min (Int.toNat k) (IntKind.bits IntKind.i64))) 1==1) else none
theorem q8J:∀(k v:Int),ev 105 1 [rI k,rP 0] [(0,B.blk 3 [dI v])]=(q0Q k v).bind (fun(e:Bool)=>some (rB e,[(0,B.blk 3 [dI v])])):=
 fun k v=>by
  rw[qQ qvh qwz.2.2.2 qD5]
  have:=qDx;have:=@q0Q.eq_1;exact gA
theorem qEG:okL 132 qge:=qV (qn qvp) (by kernel_rfl) (by kernel_rfl)
def qDK:=JA_ @qge.eq_1 (JA_ @Tryz.f132.eq_1 @qvp)
theorem qDt:okL 163 qgC:=qV (qn qrI) (by kernel_rfl) (by kernel_rfl)
def qDS:=JA_ @qgC.eq_1 (JA_ @Tryz.f163.eq_1 @qrI)
theorem qzW:okL 179 qdd:=qV (qn qp6) (by kernel_rfl) (by kernel_rfl)
def qzj:=JA_ @qdd.eq_1 (JA_ @Tryz.f179.eq_1 @qp6)
theorem qsh:lbO 179 2=qgR:=QO (qn qp6) rfl
theorem qu1:okL 179 qgR:=Q6 qzW (qLe (i:=0) (by kernel_rfl))
def zx (v:qd) (s:List qd) (t7:Int):Int→Option (Int⊕(Int⊕Unit))|t8=>if t8<t7 then if 0≤t8∧t8<((s.length:Nat):Int) then Option.bind s[Int.toNat t8]? fun(a:qd)=>if(v.School==a.School)=Bool.true∧(ByteArray.toList v.Code==ByteArray.toList a.Code)=Bool.true then some (Sum.inr (Sum.inl t8)) else some (Sum.inl (w64 (t8+1))) else none else some (Sum.inr (Sum.inr ()))
theorem q0f:∀(JJ:Int) (q6w:ByteArray) (s:List qd) (t7 t8:Int),XL2 evo 179 0 2 ⟨[(0,rL 2 qe s),(3,rP 0),(7,rI t7),(8,rI t8)],[(0,B.blk 55 [dI JJ,dS q6w])],1,19⟩=(zG (zx (qd.mk JJ q6w) s t7) t8).bind (Sum.elim (fun(e:Int)=>some (Exit.ret,⟨[(4,rI e)],[],0,19⟩)) (fun(e:Unit)=>some (Exit.exit 0,⟨[(4,R.any)],[],0,19⟩))):=
 fun JJ q6w s t7 t8=>by
  revert t8;exact qbd qsh qu1 (fun e=>by rcases e with _|_<;>exact⟨_,rfl,fun h=>by cases h⟩) fun x=>by
   have:=qzj;have:=@qgR.eq_1;have:=@zx.eq_1;exact gA
def Q1 (s:List qd) (v:qd):Option Int:=Option.bind (zG (zx v s ((s.length:Nat):Int)) 0) fun(a:Sum Int Unit)=>Sum.elim (fun(a2:Int)=>some a2) (fun(a3:Unit)=>some (-1)) a
theorem q0T:∀(s:List qd) (JJ:Int) (q6w:ByteArray),ev 179 0 [rL 2 qe s,R.agg [dI JJ,dS q6w]] []=(Q1 s (qd.mk JJ q6w)).bind (fun(e:Int)=>some (rI e,[])):=
 fun s JJ q6w=>by
  rw[qQ qp6 qxT.2.2.2 qzW]
  have:=qzj;have:=@q0f;have:=@Q1.eq_1;exact gA
def zO (s:List qd) (v:qd):Option Bool:=Option.bind (Q1 s v) fun(a:Int)=>some (decide (0≤a))
theorem q0d:∀(s:List qd) (JJ:Int) (q6w:ByteArray),ev 163 0 [rL 2 qe s,R.agg [dI JJ,dS q6w]] []=(zO s (qd.mk JJ q6w)).bind (fun(e:Bool)=>some (rB e,[])):=
 fun s JJ q6w=>by
  rw[qQ qrI qwl.2.2.2 qDt]
  have:=qDS;have:=@q0T;have:=@zO.eq_1;exact gA
theorem qDG:okL 164 qg9:=qV (qn qvq) (by kernel_rfl) (by kernel_rfl)
def qCw:=JA_ @qg9.eq_1 (JA_ @Tryz.f164.eq_1 @qvq)
theorem qEy:okL 180 qgz:=qV (qn qv9) (by kernel_rfl) (by kernel_rfl)
def qEE:=JA_ @qgz.eq_1 (JA_ @Tryz.f180.eq_1 @qv9)
def q1Q (s:qg) (g:Int):Option Bool:=Option.bind (q18 s) fun(a:Int)=>if(a==0)=Bool.true then some (Qv g s.Worst s.Best==g) else some Bool.false
theorem qal:∀(zj zU zV g:Int),ev 180 0 [R.agg [dI zj,dI zU,dI zV],rI g] []=(q1Q (qg.mk zj zU zV) g).bind (fun(e:Bool)=>some (rB e,[])):=
 fun zj zU zV g=>by
  rw[qQ qv9 qAW.2.2.2 qEy]
  have:=qEE;have:=@q5j;have:=@q0q;have:=@q1Q.eq_1;exact gA
def q0S (s:qg) (g:Int) (min:Int):Option Bool:=Option.bind (q1Q s g) fun(a:Bool)=>if a=Bool.true then if(g==min)=Bool.true then some Bool.true else some (decide (min<g)==decide (s.Worst<s.Best)) else some Bool.false
theorem q81:∀(zj zU zV g min:Int),ev 164 0 [R.agg [dI zj,dI zU,dI zV],rI g,rI min] []=(q0S (qg.mk zj zU zV) g min).bind (fun(e:Bool)=>some (rB e,[])):=
 fun zj zU zV g min=>by
  rw[qQ qvq qy0.2.2.2 qDG]
  have:=qCw;have:=@qal;have:=@q0S.eq_1;exact gA
def q3j (n:qb) (s:qg) (a:qa):Option Bool:=if JF n=Bool.true then Option.bind (zO n.Set a.Course) fun(a2:Bool)=>if a2=Bool.true then Option.bind (q0S s a.Grade n.Min) fun(e0:Bool)=>some e0 else some Bool.false else some Bool.false
theorem q8a:∀(qC n_N qY:Int) (qZ:List qd) (n_L:List qb) (zj zU zV Q8:Int) (QB:ByteArray) (Js q1G q7L:Int) (Jb:List Int) (q0c:Int) (q35:List Int),ev 132 0 [R.agg [dI qC,dI n_N,dI qY,dL 2 qe qZ,dL 5 qh n_L],R.agg [dI zj,dI zU,dI zV],R.agg [dI Q8,dS QB,dI Js,dI q1G,dI q7L,dL 1 eI Jb,dI q0c,dL 1 eI q35]] []=(q3j (qb.mk qC n_N qY qZ n_L) (qg.mk zj zU zV) (qa.mk (qd.mk Q8 QB) Js q1G q7L Jb q0c q35)).bind (fun(e:Bool)=>some (rB e,[])):=
 fun qC n_N qY qZ n_L zj zU zV Q8 QB Js q1G q7L Jb q0c q35=>by
  rw[qQ qvp qAJ.2.2.2 qEG]
  have:=qDK;have:=@q3g;have:=@q0d;have:=@q81;have:=@q3j.eq_1;exact gA
def JN (b0:Int) (n:qb) (s:qg) (b3:qK) (t13:List qa) (t14:Int):(qK×Int)→Option ((qK×Int)⊕qK)|(out,t15)=>if t15<t14 then if 0≤t15∧t15<((t13.length:Nat):Int) then Option.bind t13[Int.toNat t15]? fun(a:qa)=>Option.bind (q0Q t15 b0) fun(a2:Bool)=>if a2=Bool.true then if out.fine=Bool.true then Option.bind (q3j n s a) fun(a3:Bool)=>some (Sum.inl (qK.mk (w64 (out.many+1)) (w64 (out.credits+a.Credits)) a3,w64 (t15+1))) else some (Sum.inl (qK.mk (w64 (out.many+1)) (w64 (out.credits+a.Credits)) Bool.false,w64 (t15+1))) else some (Sum.inl (out,w64 (t15+1))) else none else some (Sum.inr out)
theorem q9I:∀(b0 qC n_N qY:Int) (qZ:List qd) (n_L:List qb) (zj zU zV b3_many b3_credits:Int) (b3_fine:Bool) (out_many out_credits:Int) (out_fine:Bool) (t13:List qa) (t14 t15:Int),XL2 evo 87 1 3 ⟨[(3,R.c (C.fn 105 [] [dP 0])),(4,rP 1),(5,rP 2),(8,rP 3),(9,rP 4),(13,rL 8 qf t13),(14,rI t14),(15,rI t15)],[(0,B.blk 3 [dI b0]),(1,B.blk 36 [dI qC,dI n_N,dI qY,dL 2 qe qZ,dL 5 qh n_L]),(2,B.blk 28 [dI zj,dI zU,dI zV]),(3,B.blk 138 [dI b3_many,dI b3_credits,dB b3_fine]),(4,B.blk 138 [dI out_many,dI out_credits,dB out_fine])],5,44⟩=(zG (JN b0 (qb.mk qC n_N qY qZ n_L) (qg.mk zj zU zV) (qK.mk b3_many b3_credits b3_fine) t13 t14) ((qK.mk out_many out_credits out_fine),t15)).bind (fun(e:qK)=>some (Exit.exit 0,⟨[(8,rP 1),(9,rP 2)],[(0,B.blk 3 [dI b0]),(1,B.blk 138 [dI b3_many,dI b3_credits,dB b3_fine]),(2,B.blk 138 [dI e.many,dI e.credits,dB e.fine])],3,44⟩)):=
 fun b0 qC n_N qY qZ n_L zj zU zV b3_many b3_credits b3_fine out_many out_credits out_fine t13 t14 t15=>by
  have h:=q6p (E:=evo) (f:=87) (k:=1) (st:=fun x:qK×Int=>(⟨[(3,R.c (C.fn 105 [] [dP 0])),(4,rP 1),(5,rP 2),(8,rP 3),(9,rP 4),(13,rL 8 qf t13),(14,rI t14),(15,rI x.2)],[(0,B.blk 3 [dI b0]),(1,B.blk 36 [dI qC,dI n_N,dI qY,dL 2 qe qZ,dL 5 qh n_L]),(2,B.blk 28 [dI zj,dI zU,dI zV]),(3,B.blk 138 [dI b3_many,dI b3_credits,dB b3_fine]),(4,B.blk 138 [dI x.1.many,dI x.1.credits,dB x.1.fine])],5,44⟩:S)) (ex:=fun(e:qK)=>(Exit.exit 0,⟨[(8,rP 1),(9,rP 2)],[(0,B.blk 3 [dI b0]),(1,B.blk 138 [dI b3_many,dI b3_credits,dB b3_fine]),(2,B.blk 138 [dI e.many,dI e.credits,dB e.fine])],3,44⟩)) (step:=(JN b0 (qb.mk qC n_N qY qZ n_L) (qg.mk zj zU zV) (qK.mk b3_many b3_credits b3_fine) t13 t14)) qra qrs (fun e h=>by cases h) (fun x=>by
   obtain⟨out,t15⟩:=x;have:=qBr;have:=@qiM.eq_1;have:=@q8J;have:=@q8a;have:=@JN.eq_1;exact gA) ((qK.mk out_many out_credits out_fine),t15)
  exact h
def q0H (n:qb) (s:qg) (l:List qa) (b0:Int):Option qK:=Option.bind (zG (JN b0 n s (qK.mk 0 0 Bool.false) l ((l.length:Nat):Int)) (qK.mk 0 0 Bool.true,0)) fun(a:qK)=>some a
theorem q2x:∀(qC n_N qY:Int) (qZ:List qd) (n_L:List qb) (zj zU zV:Int) (l:List qa) (b0:Int),ev 87 1 [R.agg [dI qC,dI n_N,dI qY,dL 2 qe qZ,dL 5 qh n_L],R.agg [dI zj,dI zU,dI zV],rL 8 qf l,R.c (C.fn 105 [] [dP 0])] [(0,B.blk 3 [dI b0])]=(q0H (qb.mk qC n_N qY qZ n_L) (qg.mk zj zU zV) l b0).bind (fun(e:qK)=>some (R.agg [dI e.many,dI e.credits,dB e.fine],[(0,B.blk 3 [dI b0])])):=
 fun qC n_N qY qZ n_L zj zU zV l b0=>by
  rw[qQ qAI qDp.2.2.2 qFd]
  have:=qBr;have:=@q9I;have:=@q0H.eq_1;exact gA
theorem qED:okL 133 qfG:=qV (qn quM) (by kernel_rfl) (by kernel_rfl)
def qDC:=JA_ @qfG.eq_1 (JA_ @Tryz.f133.eq_1 @quM)
def q13 (x:qK) (x1:qb):Option Bool:=if x.fine=Bool.true then some (x.many==1) else some Bool.false
def zW (x:qK) (x1:qb):Bool:=if x.fine=Bool.true then x.many==1 else Bool.false
theorem q6v (x:qK) (x1:qb):q13 x x1=some (zW x x1):=by
 unfold q13 zW
 simp only[Zc]
theorem q1h:∀(x_many x_credits:Int) (x_fine:Bool) (qbY qBi qfu:Int) (qfv:List qd) (qBj:List qb),ev 133 0 [R.agg [dI x_many,dI x_credits,dB x_fine],R.agg [dI qbY,dI qBi,dI qfu,dL 2 qe qfv,dL 5 qh qBj]] []=some (rB (zW (qK.mk x_many x_credits x_fine) (qb.mk qbY qBi qfu qfv qBj)),[]):=
 fun x_many x_credits x_fine qbY qBi qfu qfv qBj=>by
  have h:ev 133 0 [R.agg [dI x_many,dI x_credits,dB x_fine],R.agg [dI qbY,dI qBi,dI qfu,dL 2 qe qfv,dL 5 qh qBj]] []=(q13 (qK.mk x_many x_credits x_fine) (qb.mk qbY qBi qfu qfv qBj)).bind (fun(e:Bool)=>some (rB e,[])):=by
   rw[qQ quM qwK.2.2.2 qED]
   have:=qDC;have:=@q13.eq_1;exact gA
  rw[q6v] at h
  exact h
theorem qE5:okL 134 qg7:=qV (qn qvG) (by kernel_rfl) (by kernel_rfl)
def qE9:=JA_ @qg7.eq_1 (JA_ @Tryz.f134.eq_1 @qvG)
def q2v (x:qK) (n:qb):Option Bool:=if x.fine=Bool.true then if 0<x.many then some (decide (n.N≤x.credits)) else some Bool.false else some Bool.false
def Qq (x:qK) (n:qb):Bool:=if x.fine=Bool.true then if 0<x.many then decide (n.N≤x.credits) else Bool.false else Bool.false
theorem q8m (x:qK) (n:qb):q2v x n=some (Qq x n):=by
 unfold q2v Qq
 simp only[Zc]
theorem q2d:∀(x_many x_credits:Int) (x_fine:Bool) (qC n_N qY:Int) (qZ:List qd) (n_L:List qb),ev 134 0 [R.agg [dI x_many,dI x_credits,dB x_fine],R.agg [dI qC,dI n_N,dI qY,dL 2 qe qZ,dL 5 qh n_L]] []=some (rB (Qq (qK.mk x_many x_credits x_fine) (qb.mk qC n_N qY qZ n_L)),[]):=
 fun x_many x_credits x_fine qC n_N qY qZ n_L=>by
  have h:ev 134 0 [R.agg [dI x_many,dI x_credits,dB x_fine],R.agg [dI qC,dI n_N,dI qY,dL 2 qe qZ,dL 5 qh n_L]] []=(q2v (qK.mk x_many x_credits x_fine) (qb.mk qC n_N qY qZ n_L)).bind (fun(e:Bool)=>some (rB e,[])):=by
   rw[qQ qvG qwM.2.2.2 qE5]
   have:=qE9;have:=@q2v.eq_1;exact gA
  rw[q8m] at h
  exact h
def zw (x:(qb×List qa×Int×qg)):List R×List (Nat×B):=([R.agg [C.d (D.int .i64 x.1.Kind),C.d (D.int .i64 x.1.N),C.d (D.int .i64 x.1.Min),C.d (D.sl 2 x.1.Set.length (x.1.Set.flatMap qe)),C.d (D.sl 5 x.1.L.length (x.1.L.flatMap qh))],R.c (C.ptr 0 0),R.c (C.ptr 1 0),R.c (C.ptr 2 0),R.c (C.ptr 3 0),R.c (C.ptr 4 0),R.c (C.ptr 5 0)],[(0,B.blk 26 [C.d (D.sl 8 x.2.1.length (x.2.1.flatMap qf))]),(1,B.blk 114 [C.fn 59 [] []]),(2,B.blk 3 [C.d (D.int .i64 x.2.2.1)]),(3,B.blk 28 [C.d (D.int .i64 x.2.2.2.Worst),C.d (D.int .i64 x.2.2.2.Best),C.d (D.int .i64 x.2.2.2.Pass)]),(4,B.blk 163 [C.fn 104 [] [C.ptr 0 0,C.ptr 1 0,C.ptr 2 0,C.ptr 3 0,C.ptr 4 0,C.ptr 5 0]]),(5,B.blk 114 [C.fn 60 [] []])])
def Qp:(List Bool×List qa×Int×qg)→R×List (Nat×B):=fun(e:List Bool×List qa×Int×qg)=>(R.c (C.d (D.sl 1 e.1.length (e.1.flatMap eB))),[(0,B.blk 26 [C.d (D.sl 8 e.2.1.length (e.2.1.flatMap qf))]),(1,B.blk 114 [C.fn 59 [] []]),(2,B.blk 3 [C.d (D.int .i64 e.2.2.1)]),(3,B.blk 28 [C.d (D.int .i64 e.2.2.2.Worst),C.d (D.int .i64 e.2.2.2.Best),C.d (D.int .i64 e.2.2.2.Pass)]),(4,B.blk 163 [C.fn 104 [] [C.ptr 0 0,C.ptr 1 0,C.ptr 2 0,C.ptr 3 0,C.ptr 4 0,C.ptr 5 0]]),(5,B.blk 114 [C.fn 60 [] []])])
end
noncomputable section
open Go.RowKit
set_option maxRecDepth 20000
set_option maxHeartbeats 8000000
abbrev qJX:List R:=R.any::R.any::R.any::R.any::qIu
abbrev qHH:List R:=R.any::R.any::R.any::R.any::qJX
abbrev qJA:List R:=R.any::R.any::R.any::R.any::qHH
abbrev qHu:List R:=R.any::R.any::R.any::R.any::qJA
abbrev qIA:List R:=R.any::R.any::R.any::R.any::qHu
abbrev qJg:List R:=R.any::R.any::R.any::R.any::qIA
abbrev qIR:List R:=R.any::R.any::R.any::R.any::qJg
abbrev qHN:List R:=R.any::R.any::R.any::R.any::qIR
abbrev qJW:List R:=R.any::R.any::R.any::R.any::qHN
abbrev qjY:List R:=R.any::R.any::R.any::R.any::qJW
def ZW (rF:(qb×List qa×Int×qg)→Option (List Bool×List qa×Int×qg)) (b0:List qa) (b2:Int) (b3:qg) (b6:qb):(List Bool×Int)→Option ((List Bool×Int)⊕(List Bool))|(w7,b8)=>if b8<((w7.length:Nat):Int) then Option.bind (q0H b6 b3 b0 b8) fun(a2:qK)=>if 0≤b8∧b8<((w7.length:Nat):Int) then if Int.toNat b8+1≤w7.length then some (Sum.inl (List.set w7 (Int.toNat b8) (zW a2 b6),w64 (b8+1))) else none else none else some (Sum.inr w7)
theorem q6f (rE:Orc) (rF:(qb×List qa×Int×qg)→Option (List Bool×List qa×Int×qg)) (hF:∀y,rE (.fn 104) 6 (zw y).1 (zw y).2=(rF y).bind fun e=>some (Qp e)) (hM:∀g k a G,g≠104→rE (.fn g) k a G=ev g k a G) (hR:∀g asg bd k a G,rE (.rd g asg bd) k a G=evr g asg bd k a G):∀(w7:List Bool) (b0:List qa) (b2 QK Zs Zt J8 qat q0h:Int) (q0i:List qd) (qau:List qb) (b8:Int) (zI:Nat),zI=w7.length→XL2 rE 104 6 5 ⟨[(1,rP 0),(2,rP 1),(3,rP 2),(4,rP 3),(7,rP 6),(9,rO 7 1 zI),(10,R.c (C.fn 133 [] [])),(11,rP 8)],[(0,B.blk 26 [dL 8 qf b0]),(1,B.blk 114 [C.fn 59 [] []]),(2,B.blk 3 [dI b2]),(3,B.blk 28 [dI QK,dI Zs,dI Zt]),(4,B.blk 163 [C.fn 104 [] [dP 0,dP 1,dP 2,dP 3,dP 4,dP 5]]),(5,B.blk 114 [C.fn 60 [] []]),(6,B.blk 36 [dI J8,dI qat,dI q0h,dL 2 qe q0i,dL 5 qh qau]),(7,bR 4 1 eB w7),(8,B.blk 3 [dI b8])],9,142⟩=(zG (ZW rF b0 b2 (qg.mk QK Zs Zt) (qb.mk J8 qat q0h q0i qau)) (w7,b8)).bind (fun(e:List Bool)=>some (Exit.exit 0,⟨[(3,rP 2),(9,rO 6 1 e.length)],[(0,B.blk 26 [dL 8 qf b0]),(1,B.blk 114 [C.fn 59 [] []]),(2,B.blk 3 [dI b2]),(3,B.blk 28 [dI QK,dI Zs,dI Zt]),(4,B.blk 163 [C.fn 104 [] [dP 0,dP 1,dP 2,dP 3,dP 4,dP 5]]),(5,B.blk 114 [C.fn 60 [] []]),(6,bR 4 1 eB e)],7,142⟩)):=
 by
 intro w7 b0 b2 QK Zs Zt J8 qat q0h q0i qau b8 zI h0
 subst h0
 revert b8;revert w7;exact qcb qdt qdq (fun e=>by exact⟨_,rfl,fun h=>by cases h⟩) fun w7 b8=>by
  have hF':∀(qI Jk z7:Int) (z8:List qd) (Jl:List qb) (v:List qa) (v2 qG qT qU:Int),rE (.fn 104) 6 [R.agg [dI qI,dI Jk,dI z7,dL 2 qe z8,dL 5 qh Jl],rP 0,rP 1,rP 2,rP 3,rP 4,rP 5] [(0,B.blk 26 [dL 8 qf v]),(1,B.blk 114 [C.fn 59 [] []]),(2,B.blk 3 [dI v2]),(3,B.blk 28 [dI qG,dI qT,dI qU]),(4,B.blk 163 [C.fn 104 [] [dP 0,dP 1,dP 2,dP 3,dP 4,dP 5]]),(5,B.blk 114 [C.fn 60 [] []])]=(rF ((qb.mk qI Jk z7 z8 Jl),v,v2,(qg.mk qG qT qU))).bind (fun e=>some (rL 1 eB e.1,[(0,B.blk 26 [dL 8 qf e.2.1]),(1,B.blk 114 [C.fn 59 [] []]),(2,B.blk 3 [dI e.2.2.1]),(3,B.blk 28 [dI e.2.2.2.Worst,dI e.2.2.2.Best,dI e.2.2.2.Pass]),(4,B.blk 163 [C.fn 104 [] [dP 0,dP 1,dP 2,dP 3,dP 4,dP 5]]),(5,B.blk 114 [C.fn 60 [] []])])):=fun qI Jk z7 z8 Jl v v2 qG qT qU=>hF ((qb.mk qI Jk z7 z8 Jl),v,v2,(qg.mk qG qT qU))
  have:=q7Z;have:=@q9J.eq_1;have:=@q64;have:=@q2x;have:=@q1h;have:=@ZW.eq_1;exact gA
def ZV (rF:(qb×List qa×Int×qg)→Option (List Bool×List qa×Int×qg)) (b0:List qa) (b2:Int) (b3:qg) (b6:qb):(List Bool×Int)→Option ((List Bool×Int)⊕(List Bool))|(w7,b8)=>if b8<((w7.length:Nat):Int) then Option.bind (q0H b6 b3 b0 b8) fun(a2:qK)=>if 0≤b8∧b8<((w7.length:Nat):Int) then if Int.toNat b8+1≤w7.length then some (Sum.inl (List.set w7 (Int.toNat b8) (Qq a2 b6),w64 (b8+1))) else none else none else some (Sum.inr w7)
theorem q6l (rE:Orc) (rF:(qb×List qa×Int×qg)→Option (List Bool×List qa×Int×qg)) (hF:∀y,rE (.fn 104) 6 (zw y).1 (zw y).2=(rF y).bind fun e=>some (Qp e)) (hM:∀g k a G,g≠104→rE (.fn g) k a G=ev g k a G) (hR:∀g asg bd k a G,rE (.rd g asg bd) k a G=evr g asg bd k a G):∀(w7:List Bool) (b0:List qa) (b2 QK Zs Zt J8 qat q0h:Int) (q0i:List qd) (qau:List qb) (b8:Int) (zI:Nat),zI=w7.length→XL2 rE 104 6 5 ⟨[(1,rP 0),(2,rP 1),(3,rP 2),(4,rP 3),(7,rP 6),(9,rO 7 1 zI),(10,R.c (C.fn 134 [] [])),(11,rP 8)],[(0,B.blk 26 [dL 8 qf b0]),(1,B.blk 114 [C.fn 59 [] []]),(2,B.blk 3 [dI b2]),(3,B.blk 28 [dI QK,dI Zs,dI Zt]),(4,B.blk 163 [C.fn 104 [] [dP 0,dP 1,dP 2,dP 3,dP 4,dP 5]]),(5,B.blk 114 [C.fn 60 [] []]),(6,B.blk 36 [dI J8,dI qat,dI q0h,dL 2 qe q0i,dL 5 qh qau]),(7,bR 4 1 eB w7),(8,B.blk 3 [dI b8])],9,142⟩=(zG (ZV rF b0 b2 (qg.mk QK Zs Zt) (qb.mk J8 qat q0h q0i qau)) (w7,b8)).bind (fun(e:List Bool)=>some (Exit.exit 0,⟨[(3,rP 2),(9,rO 6 1 e.length)],[(0,B.blk 26 [dL 8 qf b0]),(1,B.blk 114 [C.fn 59 [] []]),(2,B.blk 3 [dI b2]),(3,B.blk 28 [dI QK,dI Zs,dI Zt]),(4,B.blk 163 [C.fn 104 [] [dP 0,dP 1,dP 2,dP 3,dP 4,dP 5]]),(5,B.blk 114 [C.fn 60 [] []]),(6,bR 4 1 eB e)],7,142⟩)):=
 by
 intro w7 b0 b2 QK Zs Zt J8 qat q0h q0i qau b8 zI h0
 subst h0
 revert b8;revert w7;exact qcb qdt qdq (fun e=>by exact⟨_,rfl,fun h=>by cases h⟩) fun w7 b8=>by
  have hF':∀(qI Jk z7:Int) (z8:List qd) (Jl:List qb) (v:List qa) (v2 qG qT qU:Int),rE (.fn 104) 6 [R.agg [dI qI,dI Jk,dI z7,dL 2 qe z8,dL 5 qh Jl],rP 0,rP 1,rP 2,rP 3,rP 4,rP 5] [(0,B.blk 26 [dL 8 qf v]),(1,B.blk 114 [C.fn 59 [] []]),(2,B.blk 3 [dI v2]),(3,B.blk 28 [dI qG,dI qT,dI qU]),(4,B.blk 163 [C.fn 104 [] [dP 0,dP 1,dP 2,dP 3,dP 4,dP 5]]),(5,B.blk 114 [C.fn 60 [] []])]=(rF ((qb.mk qI Jk z7 z8 Jl),v,v2,(qg.mk qG qT qU))).bind (fun e=>some (rL 1 eB e.1,[(0,B.blk 26 [dL 8 qf e.2.1]),(1,B.blk 114 [C.fn 59 [] []]),(2,B.blk 3 [dI e.2.2.1]),(3,B.blk 28 [dI e.2.2.2.Worst,dI e.2.2.2.Best,dI e.2.2.2.Pass]),(4,B.blk 163 [C.fn 104 [] [dP 0,dP 1,dP 2,dP 3,dP 4,dP 5]]),(5,B.blk 114 [C.fn 60 [] []])])):=fun qI Jk z7 z8 Jl v v2 qG qT qU=>hF ((qb.mk qI Jk z7 z8 Jl),v,v2,(qg.mk qG qT qU))
  have:=q7Z;have:=@q9J.eq_1;have:=@q64;have:=@q2x;have:=@q2d;have:=@ZV.eq_1;exact gA
def Zf (rF:(qb×List qa×Int×qg)→Option (List Bool×List qa×Int×qg)) (w7:List Bool) (b0:List qa) (b2:Int) (b3:qg) (b6:qb):(List Int×Int)→Option ((List Int×Int)⊕(List Int))|(w9,t13)=>if t13<((w9.length:Nat):Int) then if 0≤t13∧t13<((w9.length:Nat):Int) then if Int.toNat t13+1≤w9.length then some (Sum.inl (List.set w9 (Int.toNat t13) (-1),w64 (t13+1))) else none else none else some (Sum.inr w9)
theorem q5z (rE:Orc) (rF:(qb×List qa×Int×qg)→Option (List Bool×List qa×Int×qg)) (hF:∀y,rE (.fn 104) 6 (zw y).1 (zw y).2=(rF y).bind fun e=>some (Qp e)) (hM:∀g k a G,g≠104→rE (.fn g) k a G=ev g k a G) (hR:∀g asg bd k a G,rE (.rd g asg bd) k a G=evr g asg bd k a G):∀(w7:List Bool) (w9:List Int) (b0:List qa) (b2 QK Zs Zt J8 qat q0h:Int) (q0i:List qd) (qau:List qb) (t13:Int) (zI Ju:Nat),zI=w7.length→Ju=w9.length→XL2 rE 104 6 14 ⟨[(3,rP 2),(5,rP 4),(6,rP 5),(7,rP 6),(9,rO 7 1 zI),(12,rP 8),(13,rI t13)],[(0,B.blk 26 [dL 8 qf b0]),(1,B.blk 114 [C.fn 59 [] []]),(2,B.blk 3 [dI b2]),(3,B.blk 28 [dI QK,dI Zs,dI Zt]),(4,B.blk 163 [C.fn 104 [] [dP 0,dP 1,dP 2,dP 3,dP 4,dP 5]]),(5,B.blk 114 [C.fn 60 [] []]),(6,B.blk 36 [dI J8,dI qat,dI q0h,dL 2 qe q0i,dL 5 qh qau]),(7,bR 4 1 eB w7),(8,B.blk 164 [dO 9 1 Ju]),(9,bR 3 1 eI w9)],10,142⟩=(zG (Zf rF w7 b0 b2 (qg.mk QK Zs Zt) (qb.mk J8 qat q0h q0i qau)) (w9,t13)).bind (fun(e:List Int)=>some (Exit.exit 2,⟨[(3,rP 2),(5,rP 4),(6,rP 5),(7,rP 6),(9,rO 7 1 w7.length),(12,rP 8)],[(0,B.blk 26 [dL 8 qf b0]),(1,B.blk 114 [C.fn 59 [] []]),(2,B.blk 3 [dI b2]),(3,B.blk 28 [dI QK,dI Zs,dI Zt]),(4,B.blk 163 [C.fn 104 [] [dP 0,dP 1,dP 2,dP 3,dP 4,dP 5]]),(5,B.blk 114 [C.fn 60 [] []]),(6,B.blk 36 [dI J8,dI qat,dI q0h,dL 2 qe q0i,dL 5 qh qau]),(7,bR 4 1 eB w7),(8,B.blk 164 [dO 9 1 e.length]),(9,bR 3 1 eI e)],10,142⟩)):=
 by
 intro w7 w9 b0 b2 QK Zs Zt J8 qat q0h q0i qau t13 zI Ju h0 h1
 subst h0 h1
 revert t13;revert w9;exact qcb qiA qin (fun e=>by exact⟨_,rfl,fun h=>by cases h⟩) fun w9 t13=>by
  have hF':∀(qI Jk z7:Int) (z8:List qd) (Jl:List qb) (v:List qa) (v2 qG qT qU:Int),rE (.fn 104) 6 [R.agg [dI qI,dI Jk,dI z7,dL 2 qe z8,dL 5 qh Jl],rP 0,rP 1,rP 2,rP 3,rP 4,rP 5] [(0,B.blk 26 [dL 8 qf v]),(1,B.blk 114 [C.fn 59 [] []]),(2,B.blk 3 [dI v2]),(3,B.blk 28 [dI qG,dI qT,dI qU]),(4,B.blk 163 [C.fn 104 [] [dP 0,dP 1,dP 2,dP 3,dP 4,dP 5]]),(5,B.blk 114 [C.fn 60 [] []])]=(rF ((qb.mk qI Jk z7 z8 Jl),v,v2,(qg.mk qG qT qU))).bind (fun e=>some (rL 1 eB e.1,[(0,B.blk 26 [dL 8 qf e.2.1]),(1,B.blk 114 [C.fn 59 [] []]),(2,B.blk 3 [dI e.2.2.1]),(3,B.blk 28 [dI e.2.2.2.Worst,dI e.2.2.2.Best,dI e.2.2.2.Pass]),(4,B.blk 163 [C.fn 104 [] [dP 0,dP 1,dP 2,dP 3,dP 4,dP 5]]),(5,B.blk 114 [C.fn 60 [] []])])):=fun qI Jk z7 z8 Jl v v2 qG qT qU=>hF ((qb.mk qI Jk z7 z8 Jl),v,v2,(qg.mk qG qT qU))
  have:=q7Z;have:=@qaE.eq_1;have:=@Zf.eq_1;exact gA
theorem qKl:okL 60 qkq:=qV (qn qF0) (by kernel_rfl) (by kernel_rfl)
def qJn:=JA_ @qkq.eq_1 (JA_ @Tryz.f60.eq_1 @qF0)
def q3T (x0:Int) (x1:Int):Option Unit:=
 some ()
def q79 (x0:Int) (x1:Int):Unit:=
 ()
theorem qa6 (x0 x1:Int):q3T x0 x1=some (q79 x0 x1):=by
 unfold q3T q79
 simp only[Zc]
theorem qbB:∀(x0 x1:Int),ev 60 0 [rI x0,rI x1] []=some (rB Bool.false,[]):=
 fun x0 x1=>by
  have h:ev 60 0 [rI x0,rI x1] []=(q3T x0 x1).bind (fun(e:Unit)=>some (rB Bool.false,[])):=by
   rw[qQ qF0 qFM.2.2.2 qKl]
   have:=qJn;have:=@q3T.eq_1;exact gA
  rw[qa6] at h
  exact h
theorem qyY:okL 106 qdR:=qV (qn qpM) (by kernel_rfl) (by kernel_rfl)
def qxn:=JA_ @qdR.eq_1 (JA_ @Tryz.f106.eq_1 @qpM)
theorem qsQ:lbO 106 1=qfR:=QO (qn qpM) rfl
theorem qsY:okL 106 qfR:=Q6 qyY (qLe (i:=0) (by kernel_rfl))
theorem qD7:okL 107 qgA:=qV (qn qtf) (by kernel_rfl) (by kernel_rfl)
def qD0:=JA_ @qgA.eq_1 (JA_ @Tryz.f107.eq_1 @qtf)
def q0F (sub:Int) (rest:Int) (w4:List Int) (w5:List Int) (v:List Bool) (v2:Int):Option (List Int):=if 0≤sub∧sub<((v.length:Nat):Int) then Option.bind v[Int.toNat sub]? fun(a:Bool)=>if a=Bool.true then if 0≤rest∧rest<((w4.length:Nat):Int) then Option.bind w4[Int.toNat rest]? fun(a2:Int)=>if 0≤a2 then if 0≤v2∧v2<((w5.length:Nat):Int) then Option.bind w5[Int.toNat v2]? fun(a3:Int)=>if 0≤rest∧rest<((w4.length:Nat):Int) then Option.bind w4[Int.toNat rest]? fun(a4:Int)=>if 0≤v2∧v2<((w5.length:Nat):Int) then if Int.toNat v2+1≤w5.length then some (List.set w5 (Int.toNat v2) (max a3 (w64 (a4+1)))) else none else none else none else none else some w5 else none else some w5 else none
theorem q8L:∀(sub rest:Int) (w4 w5:List Int) (v:List Bool) (v2:Int) (Zr q6x:Nat),Zr=w4.length→q6x=w5.length→ev 107 4 [rI sub,rI rest,rP 0,rP 1,rP 2,rP 3] [(0,B.blk 115 [dL 1 eB v]),(1,B.blk 164 [dO 4 1 Zr]),(2,B.blk 164 [dO 5 1 q6x]),(3,B.blk 3 [dI v2]),(4,bR 3 1 eI w4),(5,bR 3 1 eI w5)]=(q0F sub rest w4 w5 v v2).bind (fun(e:List Int)=>some (R.tup [],[(0,B.blk 115 [dL 1 eB v]),(1,B.blk 164 [dO 4 1 w4.length]),(2,B.blk 164 [dO 5 1 e.length]),(3,B.blk 3 [dI v2]),(4,bR 3 1 eI w4),(5,bR 3 1 eI e)])):=
 by
 intro sub rest w4 w5 v v2 Zr q6x h0 h1
 subst h0 h1
 rw[qQ qtf qwc.2.2.2 qD7]
 have:=qD0;have:=@q0F.eq_1;exact gA
def Qi (w4:List Int) (b0:List Bool) (b3:Int) (set0:Int):(List Int×Int)→Option ((List Int×Int)⊕(List Int))|(w5,sub)=>if 0<sub then Option.bind (q0F sub (ZG Go.BinOp.andNot IntKind.i64 set0 sub) w4 w5 b0 b3) fun(a:List Int)=>some (Sum.inl (a,ZG Go.BinOp.and IntKind.i64 (w64 (sub-1)) set0)) else some (Sum.inr w5)
theorem q3J:∀(w4 w5:List Int) (b0:List Bool) (b3 set0 sub:Int) (Zr q6x:Nat),Zr=w4.length→q6x=w5.length→XL2 evo 106 4 1 ⟨[(1,rI set0),(2,R.c (C.fn 107 [] [dP 0,dP 1,dP 2,dP 3])),(6,rI sub)],[(0,B.blk 115 [dL 1 eB b0]),(1,B.blk 164 [dO 4 1 Zr]),(2,B.blk 164 [dO 5 1 q6x]),(3,B.blk 3 [dI b3]),(4,bR 3 1 eI w4),(5,bR 3 1 eI w5)],6,20⟩=(zG (Qi w4 b0 b3 set0) (w5,sub)).bind (fun(e:List Int)=>some (Exit.exit 0,⟨[],[(0,B.blk 115 [dL 1 eB b0]),(1,B.blk 164 [dO 4 1 w4.length]),(2,B.blk 164 [dO 5 1 e.length]),(3,B.blk 3 [dI b3]),(4,bR 3 1 eI w4),(5,bR 3 1 eI e)],6,20⟩)):=
 by
 intro w4 w5 b0 b3 set0 sub Zr q6x h0 h1
 subst h0 h1
 revert sub;revert w5;exact qcb qsQ qsY (fun e=>by exact⟨_,rfl,fun h=>by cases h⟩) fun w5 sub=>by
  have:=qxn;have:=@qfR.eq_1;have:=@q8L;have:=@Qi.eq_1;exact gA
def Qc (set0:Int) (t:List Int) (w5:List Int) (b0:List Bool) (b3:Int):Option (List Int):=Option.bind (zG (Qi t b0 b3 set0) (w5,set0)) fun(a:List Int)=>some a
theorem q1W:∀(set0:Int) (t w5:List Int) (b0:List Bool) (b3:Int) (qqU q6x:Nat),qqU=t.length→q6x=w5.length→ev 106 4 [rO 4 1 qqU,rI set0,R.c (C.fn 107 [] [dP 0,dP 1,dP 2,dP 3])] [(0,B.blk 115 [dL 1 eB b0]),(1,B.blk 164 [dO 4 1 qqU]),(2,B.blk 164 [dO 5 1 q6x]),(3,B.blk 3 [dI b3]),(4,bR 3 1 eI t),(5,bR 3 1 eI w5)]=(Qc set0 t w5 b0 b3).bind (fun(e:List Int)=>some (R.tup [],[(0,B.blk 115 [dL 1 eB b0]),(1,B.blk 164 [dO 4 1 t.length]),(2,B.blk 164 [dO 5 1 e.length]),(3,B.blk 3 [dI b3]),(4,bR 3 1 eI t),(5,bR 3 1 eI e)])):=
 by
 intro set0 t w5 b0 b3 qqU q6x h0 h1
 subst h0 h1
 rw[qQ qpM qxa.2.2.2 qyY]
 have:=qxn;have:=@q3J;have:=@Qc.eq_1;exact gA
def Zh (rF:(qb×List qa×Int×qg)→Option (List Bool×List qa×Int×qg)) (w7:List Bool) (w9:List Int) (b0:List qa) (b2:Int) (b3:qg) (b6:qb) (b10:List Bool) (t18:Bool) (t72:List qb) (t73:Int) (t74:Int) (t96:Int):(List Int×Int)→Option ((List Int×Int)⊕(List Int))|(w12,t97)=>if t97<t96 then if 0≤t97∧t97<((w12.length:Nat):Int) then if Int.toNat t97+1≤w12.length then if t18=Bool.true then if 0≤t97∧t97<((w9.length:Nat):Int) then Option.bind w9[Int.toNat t97]? fun(a2:Int)=>if 0≤t97∧t97<((w12.length:Nat):Int) then if Int.toNat t97+1≤w12.length then Option.bind (Qc t97 w9 (List.set (List.set w12 (Int.toNat t97) (-1)) (Int.toNat t97) a2) b10 t97) fun(a3:List Int)=>some (Sum.inl (a3,w64 (t97+1))) else none else none else none else Option.bind (Qc t97 w9 (List.set w12 (Int.toNat t97) (-1)) b10 t97) fun(a4:List Int)=>some (Sum.inl (a4,w64 (t97+1))) else none else none else some (Sum.inr w12)
theorem q6V (rE:Orc) (rF:(qb×List qa×Int×qg)→Option (List Bool×List qa×Int×qg)) (hF:∀y,rE (.fn 104) 6 (zw y).1 (zw y).2=(rF y).bind fun e=>some (Qp e)) (hM:∀g k a G,g≠104→rE (.fn g) k a G=ev g k a G) (hR:∀g asg bd k a G,rE (.rd g asg bd) k a G=evr g asg bd k a G):∀(w7:List Bool) (w9 w12:List Int) (b0:List qa) (b2 QK Zs Zt J8 qat q0h:Int) (q0i:List qd) (qau:List qb) (b10:List Bool) (t18:Bool) (t72:List qb) (t73 t74 t96 t97:Int) (zI Ju qhw:Nat),zI=w7.length→Ju=w9.length→qhw=w12.length→XL2 rE 104 6 25 ⟨[(3,rP 2),(5,rP 4),(6,rP 5),(7,rP 6),(9,rO 7 1 zI),(12,rP 8),(17,rP 10),(18,rB t18),(19,rP 11),(72,rL 5 qh t72),(73,rI t73),(74,rI t74),(96,rI t96),(97,rI t97)],[(0,B.blk 26 [dL 8 qf b0]),(1,B.blk 114 [C.fn 59 [] []]),(2,B.blk 3 [dI b2]),(3,B.blk 28 [dI QK,dI Zs,dI Zt]),(4,B.blk 163 [C.fn 104 [] [dP 0,dP 1,dP 2,dP 3,dP 4,dP 5]]),(5,B.blk 114 [C.fn 60 [] []]),(6,B.blk 36 [dI J8,dI qat,dI q0h,dL 2 qe q0i,dL 5 qh qau]),(7,bR 4 1 eB w7),(8,B.blk 164 [dO 9 1 Ju]),(9,bR 3 1 eI w9),(10,B.blk 115 [dL 1 eB b10]),(11,B.blk 164 [dO 12 1 qhw]),(12,bR 3 1 eI w12)],13,142⟩=(zG (Zh rF w7 w9 b0 b2 (qg.mk QK Zs Zt) (qb.mk J8 qat q0h q0i qau) b10 t18 t72 t73 t74 t96) (w12,t97)).bind (fun(e:List Int)=>some (Exit.exit 6,⟨[(3,rP 2),(5,rP 4),(6,rP 5),(7,rP 6),(9,rO 7 1 w7.length),(12,rP 8),(19,rP 10),(72,rL 5 qh t72),(73,rI t73),(74,rI t74)],[(0,B.blk 26 [dL 8 qf b0]),(1,B.blk 114 [C.fn 59 [] []]),(2,B.blk 3 [dI b2]),(3,B.blk 28 [dI QK,dI Zs,dI Zt]),(4,B.blk 163 [C.fn 104 [] [dP 0,dP 1,dP 2,dP 3,dP 4,dP 5]]),(5,B.blk 114 [C.fn 60 [] []]),(6,B.blk 36 [dI J8,dI qat,dI q0h,dL 2 qe q0i,dL 5 qh qau]),(7,bR 4 1 eB w7),(8,B.blk 164 [dO 9 1 w9.length]),(9,bR 3 1 eI w9),(10,B.blk 164 [dO 11 1 e.length]),(11,bR 3 1 eI e)],12,142⟩)):=
 by
 intro w7 w9 w12 b0 b2 QK Zs Zt J8 qat q0h q0i qau b10 t18 t72 t73 t74 t96 t97 zI Ju qhw h0 h1 h2
 subst h0 h1 h2
 revert t97;revert w12;exact qcb qiZ qj4 (fun e=>by exact⟨_,rfl,fun h=>by cases h⟩) fun w12 t97=>by
  have hF':∀(qI Jk z7:Int) (z8:List qd) (Jl:List qb) (v:List qa) (v2 qG qT qU:Int),rE (.fn 104) 6 [R.agg [dI qI,dI Jk,dI z7,dL 2 qe z8,dL 5 qh Jl],rP 0,rP 1,rP 2,rP 3,rP 4,rP 5] [(0,B.blk 26 [dL 8 qf v]),(1,B.blk 114 [C.fn 59 [] []]),(2,B.blk 3 [dI v2]),(3,B.blk 28 [dI qG,dI qT,dI qU]),(4,B.blk 163 [C.fn 104 [] [dP 0,dP 1,dP 2,dP 3,dP 4,dP 5]]),(5,B.blk 114 [C.fn 60 [] []])]=(rF ((qb.mk qI Jk z7 z8 Jl),v,v2,(qg.mk qG qT qU))).bind (fun e=>some (rL 1 eB e.1,[(0,B.blk 26 [dL 8 qf e.2.1]),(1,B.blk 114 [C.fn 59 [] []]),(2,B.blk 3 [dI e.2.2.1]),(3,B.blk 28 [dI e.2.2.2.Worst,dI e.2.2.2.Best,dI e.2.2.2.Pass]),(4,B.blk 163 [C.fn 104 [] [dP 0,dP 1,dP 2,dP 3,dP 4,dP 5]]),(5,B.blk 114 [C.fn 60 [] []])])):=fun qI Jk z7 z8 Jl v v2 qG qT qU=>hF ((qb.mk qI Jk z7 z8 Jl),v,v2,(qg.mk qG qT qU))
  have:=q7Z;have:=@qaN.eq_1;have:=@q1W;have:=@Zh.eq_1;exact gA
def Zk (rF:(qb×List qa×Int×qg)→Option (List Bool×List qa×Int×qg)) (w7:List Bool) (b6:qb) (t72:List qb) (t73:Int):(List Int×List qa×Int×qg×Int)→Option ((List Int×List qa×Int×qg×Int)⊕(List Int×List qa×Int×qg))|(w9,b0,b2,b3,t74)=>if t74<t73 then if 0≤t74∧t74<((t72.length:Nat):Int) then Option.bind t72[Int.toNat t74]? fun(a2:qb)=>Option.bind (rF (a2,(b0,(b2,b3)))) fun(a3:Prod (List Bool) (Prod (List qa) (Prod Int qg)))=>if(b6.Kind==4)=Bool.true then if 0≤((w9.length:Nat):Int)∧8*((w9.length:Nat):Int)≤281474976710656∧((w9.length:Nat):Int)≤9223372036854775807 then Option.bind (zG (Zh rF w7 w9 a3.2.1 a3.2.2.1 a3.2.2.2 b6 a3.1 Bool.true t72 t73 t74 ((w9.length:Nat):Int)) (List.replicate w9.length 0,0)) fun(a4:List Int)=>some (Sum.inl (a4,a3.2.1,a3.2.2.1,a3.2.2.2,w64 (t74+1))) else none else if 0≤((w9.length:Nat):Int)∧8*((w9.length:Nat):Int)≤281474976710656∧((w9.length:Nat):Int)≤9223372036854775807 then Option.bind (zG (Zh rF w7 w9 a3.2.1 a3.2.2.1 a3.2.2.2 b6 a3.1 Bool.false t72 t73 t74 ((w9.length:Nat):Int)) (List.replicate w9.length 0,0)) fun(a5:List Int)=>some (Sum.inl (a5,a3.2.1,a3.2.2.1,a3.2.2.2,w64 (t74+1))) else none else none else some (Sum.inr (w9,b0,b2,b3))
theorem q6S (rE:Orc) (rF:(qb×List qa×Int×qg)→Option (List Bool×List qa×Int×qg)) (hF:∀y,rE (.fn 104) 6 (zw y).1 (zw y).2=(rF y).bind fun e=>some (Qp e)) (hM:∀g k a G,g≠104→rE (.fn g) k a G=ev g k a G) (hR:∀g asg bd k a G,rE (.rd g asg bd) k a G=evr g asg bd k a G):∀(w7:List Bool) (w9:List Int) (b0:List qa) (b2 QK Zs Zt J8 qat q0h:Int) (q0i:List qd) (qau t72:List qb) (t73 t74:Int) (zI Ju:Nat),zI=w7.length→Ju=w9.length→XL2 rE 104 6 18 ⟨[(3,rP 2),(5,rP 4),(6,rP 5),(7,rP 6),(9,rO 7 1 zI),(12,rP 8),(72,rL 5 qh t72),(73,rI t73),(74,rI t74)],[(0,B.blk 26 [dL 8 qf b0]),(1,B.blk 114 [C.fn 59 [] []]),(2,B.blk 3 [dI b2]),(3,B.blk 28 [dI QK,dI Zs,dI Zt]),(4,B.blk 163 [C.fn 104 [] [dP 0,dP 1,dP 2,dP 3,dP 4,dP 5]]),(5,B.blk 114 [C.fn 60 [] []]),(6,B.blk 36 [dI J8,dI qat,dI q0h,dL 2 qe q0i,dL 5 qh qau]),(7,bR 4 1 eB w7),(8,B.blk 164 [dO 9 1 Ju]),(9,bR 3 1 eI w9)],10,142⟩=(zG (Zk rF w7 (qb.mk J8 qat q0h q0i qau) t72 t73) (w9,b0,b2,(qg.mk QK Zs Zt),t74)).bind (fun(e:List Int×List qa×Int×qg)=>some (Exit.exit 4,⟨[(7,rP 6),(9,rO 7 1 w7.length),(12,rP 8)],[(0,B.blk 26 [dL 8 qf e.2.1]),(1,B.blk 114 [C.fn 59 [] []]),(2,B.blk 3 [dI e.2.2.1]),(3,B.blk 28 [dI e.2.2.2.Worst,dI e.2.2.2.Best,dI e.2.2.2.Pass]),(4,B.blk 163 [C.fn 104 [] [dP 0,dP 1,dP 2,dP 3,dP 4,dP 5]]),(5,B.blk 114 [C.fn 60 [] []]),(6,B.blk 36 [dI J8,dI qat,dI q0h,dL 2 qe q0i,dL 5 qh qau]),(7,bR 4 1 eB w7),(8,B.blk 164 [dO 9 1 e.1.length]),(9,bR 3 1 eI e.1)],10,142⟩)):=
 by
 intro w7 w9 b0 b2 QK Zs Zt J8 qat q0h q0i qau t72 t73 t74 zI Ju h0 h1
 subst h0 h1
 have h:=q6p (E:=rE) (f:=104) (k:=6) (st:=fun x:List Int×List qa×Int×qg×Int=>(⟨[(3,rP 2),(5,rP 4),(6,rP 5),(7,rP 6),(9,rO 7 1 w7.length),(12,rP 8),(72,rL 5 qh t72),(73,rI t73),(74,rI x.2.2.2.2)],[(0,B.blk 26 [dL 8 qf x.2.1]),(1,B.blk 114 [C.fn 59 [] []]),(2,B.blk 3 [dI x.2.2.1]),(3,B.blk 28 [dI x.2.2.2.1.Worst,dI x.2.2.2.1.Best,dI x.2.2.2.1.Pass]),(4,B.blk 163 [C.fn 104 [] [dP 0,dP 1,dP 2,dP 3,dP 4,dP 5]]),(5,B.blk 114 [C.fn 60 [] []]),(6,B.blk 36 [dI J8,dI qat,dI q0h,dL 2 qe q0i,dL 5 qh qau]),(7,bR 4 1 eB w7),(8,B.blk 164 [dO 9 1 x.1.length]),(9,bR 3 1 eI x.1)],10,142⟩:S)) (ex:=fun(e:List Int×List qa×Int×qg)=>(Exit.exit 4,⟨[(7,rP 6),(9,rO 7 1 w7.length),(12,rP 8)],[(0,B.blk 26 [dL 8 qf e.2.1]),(1,B.blk 114 [C.fn 59 [] []]),(2,B.blk 3 [dI e.2.2.1]),(3,B.blk 28 [dI e.2.2.2.Worst,dI e.2.2.2.Best,dI e.2.2.2.Pass]),(4,B.blk 163 [C.fn 104 [] [dP 0,dP 1,dP 2,dP 3,dP 4,dP 5]]),(5,B.blk 114 [C.fn 60 [] []]),(6,B.blk 36 [dI J8,dI qat,dI q0h,dL 2 qe q0i,dL 5 qh qau]),(7,bR 4 1 eB w7),(8,B.blk 164 [dO 9 1 e.1.length]),(9,bR 3 1 eI e.1)],10,142⟩)) (step:=(Zk rF w7 (qb.mk J8 qat q0h q0i qau) t72 t73)) qhX qim (fun e h=>by cases h) (fun x=>by
  obtain⟨w9,b0,b2,b3,t74⟩:=x;have hF':∀(qI Jk z7:Int) (z8:List qd) (Jl:List qb) (v:List qa) (v2 qG qT qU:Int),rE (.fn 104) 6 [R.agg [dI qI,dI Jk,dI z7,dL 2 qe z8,dL 5 qh Jl],rP 0,rP 1,rP 2,rP 3,rP 4,rP 5] [(0,B.blk 26 [dL 8 qf v]),(1,B.blk 114 [C.fn 59 [] []]),(2,B.blk 3 [dI v2]),(3,B.blk 28 [dI qG,dI qT,dI qU]),(4,B.blk 163 [C.fn 104 [] [dP 0,dP 1,dP 2,dP 3,dP 4,dP 5]]),(5,B.blk 114 [C.fn 60 [] []])]=(rF ((qb.mk qI Jk z7 z8 Jl),v,v2,(qg.mk qG qT qU))).bind (fun e=>some (rL 1 eB e.1,[(0,B.blk 26 [dL 8 qf e.2.1]),(1,B.blk 114 [C.fn 59 [] []]),(2,B.blk 3 [dI e.2.2.1]),(3,B.blk 28 [dI e.2.2.2.Worst,dI e.2.2.2.Best,dI e.2.2.2.Pass]),(4,B.blk 163 [C.fn 104 [] [dP 0,dP 1,dP 2,dP 3,dP 4,dP 5]]),(5,B.blk 114 [C.fn 60 [] []])])):=fun qI Jk z7 z8 Jl v v2 qG qT qU=>hF ((qb.mk qI Jk z7 z8 Jl),v,v2,(qg.mk qG qT qU))
  have:=q7Z;have:=@qaP.eq_1;have:=@qbB;have:=q6V rE rF hF hM hR;have:=@Zk.eq_1;exact gA) (w9,b0,b2,(qg.mk QK Zs Zt),t74)
 exact h
def Zj (rF:(qb×List qa×Int×qg)→Option (List Bool×List qa×Int×qg)) (w8:List Int) (b0:List qa) (b2:Int) (b3:qg) (t21:Int):(List Bool×Int)→Option ((List Bool×Int)⊕(List Bool))|(w6,t22)=>if t22<((w6.length:Nat):Int) then if 0≤t22∧t22<((w8.length:Nat):Int) then Option.bind w8[Int.toNat t22]? fun(a2:Int)=>if 0≤t22∧t22<((w6.length:Nat):Int) then if Int.toNat t22+1≤w6.length then some (Sum.inl (List.set w6 (Int.toNat t22) (decide (t21≤a2)),w64 (t22+1))) else none else none else none else some (Sum.inr w6)
theorem q72 (rE:Orc) (rF:(qb×List qa×Int×qg)→Option (List Bool×List qa×Int×qg)) (hF:∀y,rE (.fn 104) 6 (zw y).1 (zw y).2=(rF y).bind fun e=>some (Qp e)) (hM:∀g k a G,g≠104→rE (.fn g) k a G=ev g k a G) (hR:∀g asg bd k a G,rE (.rd g asg bd) k a G=evr g asg bd k a G):∀(w6:List Bool) (w8:List Int) (b0:List qa) (b2 QK Zs Zt t21 t22:Int) (qbX qbZ:Nat),qbX=w6.length→qbZ=w8.length→XL2 rE 104 6 38 ⟨[(9,rO 6 1 qbX),(12,rP 7),(21,rI t21),(22,rI t22)],[(0,B.blk 26 [dL 8 qf b0]),(1,B.blk 114 [C.fn 59 [] []]),(2,B.blk 3 [dI b2]),(3,B.blk 28 [dI QK,dI Zs,dI Zt]),(4,B.blk 163 [C.fn 104 [] [dP 0,dP 1,dP 2,dP 3,dP 4,dP 5]]),(5,B.blk 114 [C.fn 60 [] []]),(6,bR 4 1 eB w6),(7,B.blk 164 [dO 8 1 qbZ]),(8,bR 3 1 eI w8)],9,142⟩=(zG (Zj rF w8 b0 b2 (qg.mk QK Zs Zt) t21) (w6,t22)).bind (fun(e:List Bool)=>some (Exit.exit 8,⟨[(9,rO 6 1 e.length)],[(0,B.blk 26 [dL 8 qf b0]),(1,B.blk 114 [C.fn 59 [] []]),(2,B.blk 3 [dI b2]),(3,B.blk 28 [dI QK,dI Zs,dI Zt]),(4,B.blk 163 [C.fn 104 [] [dP 0,dP 1,dP 2,dP 3,dP 4,dP 5]]),(5,B.blk 114 [C.fn 60 [] []]),(6,bR 4 1 eB e)],7,142⟩)):=
 by
 intro w6 w8 b0 b2 QK Zs Zt t21 t22 qbX qbZ h0 h1
 subst h0 h1
 revert t22;revert w6;exact qcb qiO qih (fun e=>by exact⟨_,rfl,fun h=>by cases h⟩) fun w6 t22=>by
  have hF':∀(qI Jk z7:Int) (z8:List qd) (Jl:List qb) (v:List qa) (v2 qG qT qU:Int),rE (.fn 104) 6 [R.agg [dI qI,dI Jk,dI z7,dL 2 qe z8,dL 5 qh Jl],rP 0,rP 1,rP 2,rP 3,rP 4,rP 5] [(0,B.blk 26 [dL 8 qf v]),(1,B.blk 114 [C.fn 59 [] []]),(2,B.blk 3 [dI v2]),(3,B.blk 28 [dI qG,dI qT,dI qU]),(4,B.blk 163 [C.fn 104 [] [dP 0,dP 1,dP 2,dP 3,dP 4,dP 5]]),(5,B.blk 114 [C.fn 60 [] []])]=(rF ((qb.mk qI Jk z7 z8 Jl),v,v2,(qg.mk qG qT qU))).bind (fun e=>some (rL 1 eB e.1,[(0,B.blk 26 [dL 8 qf e.2.1]),(1,B.blk 114 [C.fn 59 [] []]),(2,B.blk 3 [dI e.2.2.1]),(3,B.blk 28 [dI e.2.2.2.Worst,dI e.2.2.2.Best,dI e.2.2.2.Pass]),(4,B.blk 163 [C.fn 104 [] [dP 0,dP 1,dP 2,dP 3,dP 4,dP 5]]),(5,B.blk 114 [C.fn 60 [] []])])):=fun qI Jk z7 z8 Jl v v2 qG qT qU=>hF ((qb.mk qI Jk z7 z8 Jl),v,v2,(qg.mk qG qT qU))
  have:=q7Z;have:=@qaK.eq_1;have:=@Zj.eq_1;exact gA
def q0t (rF:(qb×List qa×Int×qg)→Option (List Bool×List qa×Int×qg)):(qb×List qa×Int×qg)→Option (List Bool×List qa×Int×qg)|(x0,v,v2,v3)=>if 0≤((v.length:Nat):Int) then if 0≤w64 (1*2 ^ min v.length (IntKind.bits IntKind.i64))∧1*w64 (1*2 ^ min v.length (IntKind.bits IntKind.i64))≤281474976710656∧w64 (1*2 ^ min v.length (IntKind.bits IntKind.i64))≤9223372036854775807 then if JF x0=Bool.true then Option.bind (q0P x0.Kind) fun(a2:Sum Unit Unit)=>Sum.elim (fun(a3:Unit)=>Option.bind (zG (ZW rF v v2 v3 x0) (List.replicate (Int.toNat (w64 (1*2 ^ min v.length (IntKind.bits IntKind.i64)))) Bool.false,1)) fun(a5:List Bool)=>some (a5,v,w64 (v2+1),v3)) (fun(a4:Unit)=>Option.bind (zG (ZV rF v v2 v3 x0) (List.replicate (Int.toNat (w64 (1*2 ^ min v.length (IntKind.bits IntKind.i64)))) Bool.false,1)) fun(a6:List Bool)=>some (a6,v,w64 (v2+1),v3)) a2 else if 0≤((Int.toNat (w64 (1*2 ^ min v.length (IntKind.bits IntKind.i64))):Nat):Int)∧8*((Int.toNat (w64 (1*2 ^ min v.length (IntKind.bits IntKind.i64))):Nat):Int)≤281474976710656∧((Int.toNat (w64 (1*2 ^ min v.length (IntKind.bits IntKind.i64))):Nat):Int)≤9223372036854775807 then Option.bind (zG (Zf rF (List.replicate (Int.toNat (w64 (1*2 ^ min v.length (IntKind.bits IntKind.i64)))) Bool.false) v v2 v3 x0) (List.replicate (Int.toNat (w64 (1*2 ^ min v.length (IntKind.bits IntKind.i64)))) 0,1)) fun(a7:List Int)=>Option.bind (zG (Zk rF (List.replicate (Int.toNat (w64 (1*2 ^ min v.length (IntKind.bits IntKind.i64)))) Bool.false) x0 x0.L ((x0.L.length:Nat):Int)) (a7,(v,(v2,(v3,0))))) fun(a8:Prod (List Int) (Prod (List qa) (Prod Int qg)))=>if(x0.Kind==3)=Bool.true then Option.bind (zG (Zj rF a8.1 a8.2.1 a8.2.2.1 a8.2.2.2 ((x0.L.length:Nat):Int)) (List.replicate (Int.toNat (w64 (1*2 ^ min v.length (IntKind.bits IntKind.i64)))) Bool.false,1)) fun(a9:List Bool)=>some (a9,a8.2.1,a8.2.2.1,a8.2.2.2) else Option.bind (zG (Zj rF a8.1 a8.2.1 a8.2.2.1 a8.2.2.2 x0.N) (List.replicate (Int.toNat (w64 (1*2 ^ min v.length (IntKind.bits IntKind.i64)))) Bool.false,1)) fun(a10:List Bool)=>some (a10,a8.2.1,a8.2.2.1,a8.2.2.2) else none else none else none
theorem q5o:q7W 104 6 zw Qp q0t:=by
 intro rE rF hF hM hR x
 obtain⟨x0,v,v2,v3⟩:=x
 show qa7 rE 104 6 [R.agg [dI x0.Kind,dI x0.N,dI x0.Min,dL 2 qe x0.Set,dL 5 qh x0.L],rP 0,rP 1,rP 2,rP 3,rP 4,rP 5] [(0,B.blk 26 [dL 8 qf v]),(1,B.blk 114 [C.fn 59 [] []]),(2,B.blk 3 [dI v2]),(3,B.blk 28 [dI v3.Worst,dI v3.Best,dI v3.Pass]),(4,B.blk 163 [C.fn 104 [] [dP 0,dP 1,dP 2,dP 3,dP 4,dP 5]]),(5,B.blk 114 [C.fn 60 [] []])]=_
 have hF':∀(qI Jk z7:Int) (z8:List qd) (Jl:List qb) (v:List qa) (v2 qG qT qU:Int),rE (.fn 104) 6 [R.agg [dI qI,dI Jk,dI z7,dL 2 qe z8,dL 5 qh Jl],rP 0,rP 1,rP 2,rP 3,rP 4,rP 5] [(0,B.blk 26 [dL 8 qf v]),(1,B.blk 114 [C.fn 59 [] []]),(2,B.blk 3 [dI v2]),(3,B.blk 28 [dI qG,dI qT,dI qU]),(4,B.blk 163 [C.fn 104 [] [dP 0,dP 1,dP 2,dP 3,dP 4,dP 5]]),(5,B.blk 114 [C.fn 60 [] []])]=(rF ((qb.mk qI Jk z7 z8 Jl),v,v2,(qg.mk qG qT qU))).bind (fun e=>some (rL 1 eB e.1,[(0,B.blk 26 [dL 8 qf e.2.1]),(1,B.blk 114 [C.fn 59 [] []]),(2,B.blk 3 [dI e.2.2.1]),(3,B.blk 28 [dI e.2.2.2.Worst,dI e.2.2.2.Best,dI e.2.2.2.Pass]),(4,B.blk 163 [C.fn 104 [] [dP 0,dP 1,dP 2,dP 3,dP 4,dP 5]]),(5,B.blk 114 [C.fn 60 [] []])])):=fun qI Jk z7 z8 Jl v v2 qG qT qU=>hF ((qb.mk qI Jk z7 z8 Jl),v,v2,(qg.mk qG qT qU))
 rw[q4T qdh qfW]
 have:=q7Z;have:=@q3g;have:=@q40;have:=q6f rE rF hF hM hR;have:=q6l rE rF hF hM hR;have:=q5z rE rF hF hM hR;have:=q6S rE rF hF hM hR;have:=q72 rE rF hF hM hR;have:=@q0t.eq_1;have:=@Qp.eq_1;exact gA
theorem q2W:∀x y,zw x=zw y→x=y:=by
 rintro⟨⟨qC1,qC2,qC3,qC4,qC5⟩,a1,a2,⟨qKG,qKH,qKI⟩⟩ ⟨⟨qC6,qC7,qC8,qC9,qCa⟩,b1,b2,⟨qKJ,qKK,qKL⟩⟩ h
 simp only[zw,Prod.mk.injEq,List.cons.injEq,R.c.injEq,R.agg.injEq,R.tup.injEq,C.d.injEq,C.own.injEq,C.ptr.injEq,C.eptr.injEq,D.int.injEq,D.bool.injEq,D.str.injEq,D.sl.injEq,B.blk.injEq,B.row.injEq,q1z,q2Y,q1P,q1Y,q2e,q2c,q4x,q4I,q4p,q1A,true_and,and_true,qLx] at h
 simp only[h]
theorem q7z:∀x y,Qp x=Qp y→x=y:=by
 rintro⟨a0,a1,a2,⟨qKG,qKH,qKI⟩⟩ ⟨b0,b1,b2,⟨qKJ,qKK,qKL⟩⟩ h
 simp only[Qp,Prod.mk.injEq,List.cons.injEq,R.c.injEq,R.agg.injEq,R.tup.injEq,C.d.injEq,C.own.injEq,C.ptr.injEq,C.eptr.injEq,D.int.injEq,D.bool.injEq,D.str.injEq,D.sl.injEq,B.blk.injEq,B.row.injEq,q1z,q2Y,q1P,q1Y,q2e,q2c,q4x,q4I,q4p,q1A,true_and,and_true,qLx] at h
 simp only[h]
def Qj:(qb×List qa×Int×qg)→Option (List Bool×List qa×Int×qg):=q7N 104 6 zw Qp
theorem qap (x:(qb×List qa×Int×qg)):Qj x=q0t Qj x:=qcH qnI.2.2.2 q2W q7z q5o x
theorem q95 (x0:qb) (v:List qa) (v2:Int) (v3:qg):ev 104 6 [R.agg [dI x0.Kind,dI x0.N,dI x0.Min,dL 2 qe x0.Set,dL 5 qh x0.L],rP 0,rP 1,rP 2,rP 3,rP 4,rP 5] [(0,B.blk 26 [dL 8 qf v]),(1,B.blk 114 [C.fn 59 [] []]),(2,B.blk 3 [dI v2]),(3,B.blk 28 [dI v3.Worst,dI v3.Best,dI v3.Pass]),(4,B.blk 163 [C.fn 104 [] [dP 0,dP 1,dP 2,dP 3,dP 4,dP 5]]),(5,B.blk 114 [C.fn 60 [] []])]=(Qj (x0,v,v2,v3)).bind (fun(e:List Bool×List qa×Int×qg)=>some (rL 1 eB e.1,[(0,B.blk 26 [dL 8 qf e.2.1]),(1,B.blk 114 [C.fn 59 [] []]),(2,B.blk 3 [dI e.2.2.1]),(3,B.blk 28 [dI e.2.2.2.Worst,dI e.2.2.2.Best,dI e.2.2.2.Pass]),(4,B.blk 163 [C.fn 104 [] [dP 0,dP 1,dP 2,dP 3,dP 4,dP 5]]),(5,B.blk 114 [C.fn 60 [] []])])):=(q9N qnI.2.2.2 q2W q5o (x0,v,v2,v3))
theorem qa5:∀(qI Jk z7:Int) (z8:List qd) (Jl:List qb) (v:List qa) (v2 qG qT qU:Int),ev 104 6 [R.agg [dI qI,dI Jk,dI z7,dL 2 qe z8,dL 5 qh Jl],rP 0,rP 1,rP 2,rP 3,rP 4,rP 5] [(0,B.blk 26 [dL 8 qf v]),(1,B.blk 114 [C.fn 59 [] []]),(2,B.blk 3 [dI v2]),(3,B.blk 28 [dI qG,dI qT,dI qU]),(4,B.blk 163 [C.fn 104 [] [dP 0,dP 1,dP 2,dP 3,dP 4,dP 5]]),(5,B.blk 114 [C.fn 60 [] []])]=(Qj ((qb.mk qI Jk z7 z8 Jl),v,v2,(qg.mk qG qT qU))).bind (fun(e:List Bool×List qa×Int×qg)=>some (rL 1 eB e.1,[(0,B.blk 26 [dL 8 qf e.2.1]),(1,B.blk 114 [C.fn 59 [] []]),(2,B.blk 3 [dI e.2.2.1]),(3,B.blk 28 [dI e.2.2.2.Worst,dI e.2.2.2.Best,dI e.2.2.2.Pass]),(4,B.blk 163 [C.fn 104 [] [dP 0,dP 1,dP 2,dP 3,dP 4,dP 5]]),(5,B.blk 114 [C.fn 60 [] []])])):=
 fun qI Jk z7 z8 Jl v v2 qG qT qU=>q95 (qb.mk qI Jk z7 z8 Jl) v v2 (qg.mk qG qT qU)
def q4S (n:qb) (s:qg) (l:List qa):Option (List Bool):=Option.bind (Qj (n,(l,(0,s)))) fun(a:Prod (List Bool) (Prod (List qa) (Prod Int qg)))=>some a.1
theorem qce:∀(qC n_N qY:Int) (qZ:List qd) (n_L:List qb) (zj zU zV:Int) (l:List qa),ev 61 0 [R.agg [dI qC,dI n_N,dI qY,dL 2 qe qZ,dL 5 qh n_L],R.agg [dI zj,dI zU,dI zV],rL 8 qf l,R.c (C.fn 59 [] []),R.c (C.fn 60 [] [])] []=(q4S (qb.mk qC n_N qY qZ n_L) (qg.mk zj zU zV) l).bind (fun(e:List Bool)=>some (rL 1 eB e,[])):=
 fun qC n_N qY qZ n_L zj zU zV l=>by
  rw[qQ qBY qFn.2.2.2 qGK]
  have:=qHc;have:=@qa5;have:=@q4S.eq_1;exact gA
def q2n (n:qb) (s:qg) (l:List qa):Option (List Bool×Int):=Option.bind (Jj n) fun(a:Int)=>if(a != 0)=Bool.true then some ([],a) else if 10<((l.length:Nat):Int) then some ([],2) else Option.bind (q4S n s l) fun(a2:List Bool)=>some (a2,0)
theorem q8k:∀(qC n_N qY:Int) (qZ:List qd) (n_L:List qb) (zj zU zV:Int) (l:List qa),ev 35 0 [R.agg [dI qC,dI n_N,dI qY,dL 2 qe qZ,dL 5 qh n_L],R.agg [dI zj,dI zU,dI zV],rL 8 qf l] []=(q2n (qb.mk qC n_N qY qZ n_L) (qg.mk zj zU zV) l).bind (fun(e:List Bool×Int)=>some (R.tup [rL 1 eB e.1,rI e.2],[])):=
 fun qC n_N qY qZ n_L zj zU zV l=>by
  rw[qQ qE8 qGQ.2.2.2 qJT]
  have:=qJo;have:=@q3x;have:=@qce;have:=@q2n.eq_1;exact gA
theorem qJJ:okL 36 qk4:=qV (qn qEJ) (by kernel_rfl) (by kernel_rfl)
def qHD:=JA_ @qk4.eq_1 (JA_ @Tryz.f36.eq_1 @qEJ)
def q2A (n:Int):Option Unit:=
 some ()
def q5f (n:Int):Unit:=
 ()
theorem q8e (n:Int):q2A n=some (q5f n):=by
 unfold q2A q5f
 simp only[Zc]
theorem q90:∀(n:Int),ev 36 0 [rI n] []=some (R.c (C.fn 62 [] [dP 0]),[(0,B.blk 3 [dI n])]):=
 fun n=>by
  have h:ev 36 0 [rI n] []=(q2A n).bind (fun(e:Unit)=>some (R.c (C.fn 62 [] [dP 0]),[(0,B.blk 3 [dI n])])):=by
   rw[qQ qEJ qFO.2.2.2 qJJ]
   have:=qHD;have:=@q2A.eq_1;exact gA
  rw[q8e] at h
  exact h
theorem qEU:okL 62 qeL:=qV (qn qz8) (by kernel_rfl) (by kernel_rfl)
def qDe:=JA_ @qeL.eq_1 (JA_ @Tryz.f62.eq_1 @qz8)
theorem qwG:lbO 62 2=qlp:=QO (qn qz8) rfl
theorem qwj:okL 62 qlp:=Q6 qEU (qLe (i:=0) (by kernel_rfl))
theorem qyB:lbO 62 8=qkU:=QO (qn qz8) rfl
theorem qAx:okL 62 qkU:=Q6 qEU (qLe (i:=1) (by kernel_rfl))
def QR (b1:qc) (b2:qg) (b3:Int) (b5:Int) (b6:List Int) (b7:List qa) (b8:List Bool) (b9:Int) (t8:Int):(List Int×Int)→Option ((List Int×Int)⊕(List Int))|(all,t9)=>if t9<t8 then if all.length+1≤maxLen∧(all.length+1)*8≤140737488355328 then some (Sum.inl (all++[t9],w64 (t9+1))) else none else some (Sum.inr all)
theorem q5v:∀(all:List Int) (zQ q0X zy QU:Int) (QV:ByteArray) (qR zS zf:Int) (zg:List qd) (zT:List qb) (Qk ZT ZU:Int) (zz:List (JK qd)) (Zo Jh Ji b3 b5:Int) (b6:List Int) (b7:List qa) (b8:List Bool) (b9 t8 t9:Int) (qhx:Nat),qhx=all.length→XL2 evo 62 10 2 ⟨[(0,R.c (C.hd .yield 0)),(3,rO 10 1 qhx),(8,rI t8),(9,rI t9)],[(0,B.ob (AO.lp 15 (R.any::R.any::R.any::R.any::rP 1::rP 2::R.any::rP 3::rP 4::rP 5::R.any::rP 6::R.any::R.any::rP 7::rP 8::qjY) [67] (raO 15 19) (rbO 15 19) LoopState.ready none)),(1,B.blk 39 [dI zQ,dI q0X,dI zy,dI QU,dS QV,dI qR,dI zS,dI zf,dL 2 qe zg,dL 5 qh zT,dI Qk,dI ZT,dI ZU,dL 4 (eA2 qe) zz]),(2,B.blk 28 [dI Zo,dI Jh,dI Ji]),(3,B.blk 3 [dI b3]),(4,B.blk 48 [C.nils,C.nils]),(5,B.blk 49 [dI b5]),(6,B.blk 22 [dL 1 eI b6]),(7,B.blk 26 [dL 8 qf b7]),(8,B.blk 88 [dL 1 eB b8]),(9,B.blk 3 [dI b9]),(10,bR 3 1 eI all)],11,30⟩=(zG (QR (qc.mk zQ q0X zy QU QV (qb.mk qR zS zf zg zT) Qk ZT ZU zz) (qg.mk Zo Jh Ji) b3 b5 b6 b7 b8 b9 t8) (all,t9)).bind (fun(e:List Int)=>some (Exit.exit 0,⟨[(0,R.c (C.hd .yield 0)),(3,rO 10 1 e.length)],[(0,B.ob (AO.lp 15 (R.any::R.any::R.any::R.any::rP 1::rP 2::R.any::rP 3::rP 4::rP 5::R.any::rP 6::R.any::R.any::rP 7::rP 8::qjY) [67] (raO 15 19) (rbO 15 19) LoopState.ready none)),(1,B.blk 39 [dI zQ,dI q0X,dI zy,dI QU,dS QV,dI qR,dI zS,dI zf,dL 2 qe zg,dL 5 qh zT,dI Qk,dI ZT,dI ZU,dL 4 (eA2 qe) zz]),(2,B.blk 28 [dI Zo,dI Jh,dI Ji]),(3,B.blk 3 [dI b3]),(4,B.blk 48 [C.nils,C.nils]),(5,B.blk 49 [dI b5]),(6,B.blk 22 [dL 1 eI b6]),(7,B.blk 26 [dL 8 qf b7]),(8,B.blk 88 [dL 1 eB b8]),(9,B.blk 3 [dI b9]),(10,bR 3 1 eI e)],11,30⟩)):=
 by
 intro all zQ q0X zy QU QV qR zS zf zg zT Qk ZT ZU zz Zo Jh Ji b3 b5 b6 b7 b8 b9 t8 t9 qhx h0
 subst h0
 revert t9;revert all;exact qcb qwG qwj (fun e=>by exact⟨_,rfl,fun h=>by cases h⟩) fun all t9=>by
  have:=qDe;have:=@qlp.eq_1;have:=@QR.eq_1;exact gA
theorem q45:∀  (zQ q0X zy QU:Int) (QV:ByteArray) (qR zS zf:Int) (zg:List qd) (zT:List qb) (Qk ZT ZU:Int) (zz:List (JK qd)) (Zo Jh Ji b3 b5:Int) (b6:List Int) (b7:List qa) (b8:List Bool) (b9 t8 t9:Int),XL2 evo 62 10 2 ⟨[(0,R.c (C.hd .yield 0)),(3,rO 10 1 0),(8,rI t8),(9,rI t9)],[(0,B.ob (AO.lp 15 (R.any::R.any::R.any::R.any::rP 1::rP 2::R.any::rP 3::rP 4::rP 5::R.any::rP 6::R.any::R.any::rP 7::rP 8::qjY) [67] (raO 15 19) (rbO 15 19) LoopState.ready none)),(1,B.blk 39 [dI zQ,dI q0X,dI zy,dI QU,dS QV,dI qR,dI zS,dI zf,dL 2 qe zg,dL 5 qh zT,dI Qk,dI ZT,dI ZU,dL 4 (eA2 qe) zz]),(2,B.blk 28 [dI Zo,dI Jh,dI Ji]),(3,B.blk 3 [dI b3]),(4,B.blk 48 [C.nils,C.nils]),(5,B.blk 49 [dI b5]),(6,B.blk 22 [dL 1 eI b6]),(7,B.blk 26 [dL 8 qf b7]),(8,B.blk 88 [dL 1 eB b8]),(9,B.blk 3 [dI b9]),(10,B.row 3 1 [])],11,30⟩=(zG (QR (qc.mk zQ q0X zy QU QV (qb.mk qR zS zf zg zT) Qk ZT ZU zz) (qg.mk Zo Jh Ji) b3 b5 b6 b7 b8 b9 t8) ([],t9)).bind (fun(e:List Int)=>some (Exit.exit 0,⟨[(0,R.c (C.hd .yield 0)),(3,rO 10 1 e.length)],[(0,B.ob (AO.lp 15 (R.any::R.any::R.any::R.any::rP 1::rP 2::R.any::rP 3::rP 4::rP 5::R.any::rP 6::R.any::R.any::rP 7::rP 8::qjY) [67] (raO 15 19) (rbO 15 19) LoopState.ready none)),(1,B.blk 39 [dI zQ,dI q0X,dI zy,dI QU,dS QV,dI qR,dI zS,dI zf,dL 2 qe zg,dL 5 qh zT,dI Qk,dI ZT,dI ZU,dL 4 (eA2 qe) zz]),(2,B.blk 28 [dI Zo,dI Jh,dI Ji]),(3,B.blk 3 [dI b3]),(4,B.blk 48 [C.nils,C.nils]),(5,B.blk 49 [dI b5]),(6,B.blk 22 [dL 1 eI b6]),(7,B.blk 26 [dL 8 qf b7]),(8,B.blk 88 [dL 1 eB b8]),(9,B.blk 3 [dI b9]),(10,bR 3 1 eI e)],11,30⟩)):=by
 intro zQ q0X zy QU QV qR zS zf zg zT Qk ZT ZU zz Zo Jh Ji b3 b5 b6 b7 b8 b9 t8 t9;have h:=q5v [] ((qc.mk zQ q0X zy QU QV (qb.mk qR zS zf zg zT) Qk ZT ZU zz)).School ((qc.mk zQ q0X zy QU QV (qb.mk qR zS zf zg zT) Qk ZT ZU zz)).Id ((qc.mk zQ q0X zy QU QV (qb.mk qR zS zf zg zT) Qk ZT ZU zz)).Version ((qc.mk zQ q0X zy QU QV (qb.mk qR zS zf zg zT) Qk ZT ZU zz)).From ((qc.mk zQ q0X zy QU QV (qb.mk qR zS zf zg zT) Qk ZT ZU zz)).Name ((qc.mk zQ q0X zy QU QV (qb.mk qR zS zf zg zT) Qk ZT ZU zz)).Need.Kind ((qc.mk zQ q0X zy QU QV (qb.mk qR zS zf zg zT) Qk ZT ZU zz)).Need.N ((qc.mk zQ q0X zy QU QV (qb.mk qR zS zf zg zT) Qk ZT ZU zz)).Need.Min ((qc.mk zQ q0X zy QU QV (qb.mk qR zS zf zg zT) Qk ZT ZU zz)).Need.Set ((qc.mk zQ q0X zy QU QV (qb.mk qR zS zf zg zT) Qk ZT ZU zz)).Need.L ((qc.mk zQ q0X zy QU QV (qb.mk qR zS zf zg zT) Qk ZT ZU zz)).Total ((qc.mk zQ q0X zy QU QV (qb.mk qR zS zf zg zT) Qk ZT ZU zz)).Own ((qc.mk zQ q0X zy QU QV (qb.mk qR zS zf zg zT) Qk ZT ZU zz)).Age ((qc.mk zQ q0X zy QU QV (qb.mk qR zS zf zg zT) Qk ZT ZU zz)).Exclude ((qg.mk Zo Jh Ji)).Worst ((qg.mk Zo Jh Ji)).Best ((qg.mk Zo Jh Ji)).Pass b3 b5 b6 b7 b8 b9 t8 t9 _ rfl
 first
  | exact h
  | (simp only[rL,dL,bR,bZ,Nat.reduceAdd] at h;exact h)
theorem qIG:okL 64 qmD:=qV (qn qCG) (by kernel_rfl) (by kernel_rfl)
def qHr:=JA_ @qmD.eq_1 (JA_ @Tryz.f64.eq_1 @qCG)
theorem qHm:okL 67 qla:=qV (qn qCC) (by kernel_rfl) (by kernel_rfl)
def qI5:=JA_ @qla.eq_1 (JA_ @Tryz.f67.eq_1 @qCC)
theorem qDD:okL 112 qgI:=qV (qn qtq) (by kernel_rfl) (by kernel_rfl)
def qCP:=JA_ @qgI.eq_1 (JA_ @Tryz.f112.eq_1 @qtq)
def Jg (x:Int):Option Int:=
 some (let y1:=ZG Go.BinOp.and IntKind.u64 (Int.fdiv x (2 ^ min 1 (IntKind.bits IntKind.u64))) 6148914691236517205+ZG Go.BinOp.and IntKind.u64 x 6148914691236517205;let y2:=Int.fdiv (IntKind.wrap IntKind.u64 y1) (2 ^ min 2 (IntKind.bits IntKind.u64));let y3:=ZG Go.BinOp.and IntKind.u64 y2 3689348814741910323+ZG Go.BinOp.and IntKind.u64 (IntKind.wrap IntKind.u64 y1) 3689348814741910323;let y4:=Int.fdiv (IntKind.wrap IntKind.u64 y3) (2 ^ min 4 (IntKind.bits IntKind.u64))+IntKind.wrap IntKind.u64 y3;let y5:=ZG Go.BinOp.and IntKind.u64 (IntKind.wrap IntKind.u64 y4) 1085102592571150095;let y6:=ZG Go.BinOp.and IntKind.u64 (IntKind.wrap IntKind.u64 y4) 1085102592571150095+Int.fdiv y5 (2 ^ min 8 (IntKind.bits IntKind.u64));let y7:=IntKind.wrap IntKind.u64 y6+Int.fdiv (IntKind.wrap IntKind.u64 y6) (2 ^ min 16 (IntKind.bits IntKind.u64));ZG Go.BinOp.and IntKind.i64 (w64 (IntKind.wrap IntKind.u64 (IntKind.wrap IntKind.u64 y7+Int.fdiv (IntKind.wrap IntKind.u64 y7) (2 ^ min 32 (IntKind.bits IntKind.u64))))) 127)
def Z8 (x:Int):Int:=
 let y1:=ZG Go.BinOp.and IntKind.u64 (Int.fdiv x (2 ^ min 1 (IntKind.bits IntKind.u64))) 6148914691236517205+ZG Go.BinOp.and IntKind.u64 x 6148914691236517205;let y2:=Int.fdiv (IntKind.wrap IntKind.u64 y1) (2 ^ min 2 (IntKind.bits IntKind.u64));let y3:=ZG Go.BinOp.and IntKind.u64 y2 3689348814741910323+ZG Go.BinOp.and IntKind.u64 (IntKind.wrap IntKind.u64 y1) 3689348814741910323;let y4:=Int.fdiv (IntKind.wrap IntKind.u64 y3) (2 ^ min 4 (IntKind.bits IntKind.u64))+IntKind.wrap IntKind.u64 y3;let y5:=ZG Go.BinOp.and IntKind.u64 (IntKind.wrap IntKind.u64 y4) 1085102592571150095;let y6:=ZG Go.BinOp.and IntKind.u64 (IntKind.wrap IntKind.u64 y4) 1085102592571150095+Int.fdiv y5 (2 ^ min 8 (IntKind.bits IntKind.u64));let y7:=IntKind.wrap IntKind.u64 y6+Int.fdiv (IntKind.wrap IntKind.u64 y6) (2 ^ min 16 (IntKind.bits IntKind.u64));ZG Go.BinOp.and IntKind.i64 (w64 (IntKind.wrap IntKind.u64 (IntKind.wrap IntKind.u64 y7+Int.fdiv (IntKind.wrap IntKind.u64 y7) (2 ^ min 32 (IntKind.bits IntKind.u64))))) 127
theorem q3w (x:Int):Jg x=some (Z8 x):=by
 unfold Jg Z8
 simp only[Zc]
theorem q3K:∀(x:Int),ev 112 0 [R.c (C.d (D.int .u64 x))] []=some (rI (Z8 x),[]):=
 fun x=>by
  have h:ev 112 0 [R.c (C.d (D.int .u64 x))] []=(Jg x).bind (fun(e:Int)=>some (rI e,[])):=by
   rw[qQ qtq qB5.2.2.2 qDD]
   have:=qCP;have:=@Jg.eq_1;exact gA
  rw[q3w] at h
  exact h
def JC (x:Int):Option Int:=
 some (Z8 x)
def QA (x:Int):Int:=
 Z8 x
theorem q44 (x:Int):JC x=some (QA x):=by
 unfold JC QA
 simp only[Zc]
theorem q4o:∀(x:Int),ev 67 0 [R.c (C.d (D.int .u64 x))] []=some (rI (QA x),[]):=
 fun x=>by
  have h:ev 67 0 [R.c (C.d (D.int .u64 x))] []=(JC x).bind (fun(e:Int)=>some (rI e,[])):=by
   rw[qQ qCC qHb.2.2.2 qHm]
   have:=qI5;have:=@q3K;have:=@JC.eq_1;exact gA
  rw[q44] at h
  exact h
theorem qFI:okL 37 qio:=qV (qn qBl) (by kernel_rfl) (by kernel_rfl)
def qFQ:=JA_ @qio.eq_1 (JA_ @Tryz.f37.eq_1 @qBl)
theorem qx7:lbO 37 2=qlI:=QO (qn qBl) rfl
theorem qwn:okL 37 qlI:=Q6 qFI (qLe (i:=0) (by kernel_rfl))
def Qz (mask:Int):(List Int×Int)→Option ((List Int×Int)⊕(List Int))|(l,k)=>if 0≤k then if 0<Int.fdiv mask (2 ^ min (Int.toNat k) (IntKind.bits IntKind.i64)) then if 0≤k then if(ZG Go.BinOp.and IntKind.i64 (Int.fdiv mask (2 ^ min (Int.toNat k) (IntKind.bits IntKind.i64))) 1==1)=Bool.true then if l.length+1≤maxLen∧(l.length+1)*8≤140737488355328 then some (Sum.inl (l++[k],w64 (k+1))) else none else some (Sum.inl (l,w64 (k+1))) else none else some (Sum.inr l) else none
theorem q5G:∀(l:List Int) (mask k:Int) (qhy:Nat),qhy=l.length→XL2 evo 37 0 2 ⟨[(0,rI mask),(2,rO 0 1 qhy),(3,rI k)],[(0,bR 3 1 eI l)],1,20⟩=(zG (Qz mask) (l,k)).bind (fun(e:List Int)=>some (Exit.exit 0,⟨[(2,rO 0 1 e.length)],[(0,bR 3 1 eI e)],1,20⟩)):=
 by
 intro l mask k qhy h0
 subst h0
 revert k;revert l;exact qcb qx7 qwn (fun e=>by exact⟨_,rfl,fun h=>by cases h⟩) fun l k=>by
  have:=qFQ;have:=@qlI.eq_1;have:=@Qz.eq_1;exact gA
theorem q4a:∀  (mask k:Int),XL2 evo 37 0 2 ⟨[(0,rI mask),(2,rO 0 1 0),(3,rI k)],[(0,B.row 3 1 [])],1,20⟩=(zG (Qz mask) ([],k)).bind (fun(e:List Int)=>some (Exit.exit 0,⟨[(2,rO 0 1 e.length)],[(0,bR 3 1 eI e)],1,20⟩)):=by
 intro mask k;have h:=q5G [] mask k _ rfl
 first
  | exact h
  | (simp only[rL,dL,bR,bZ,Nat.reduceAdd] at h;exact h)
def ZD (mask:Int):Option (List Int):=Option.bind (zG (Qz mask) ([],0)) fun(a:List Int)=>some a
theorem q1F:∀(mask:Int),ev 37 0 [rI mask] []=(ZD mask).bind (fun(e:List Int)=>some (rL 1 eI e,[])):=
 fun mask=>by
  rw[qQ qBl qGZ.2.2.2 qFI]
  have:=qFQ;have:=@q4a;have:=@ZD.eq_1;exact gA
theorem qGG:okL 68 qie:=qV (qn qBt) (by kernel_rfl) (by kernel_rfl)
def qFK:=JA_ @qie.eq_1 (JA_ @Tryz.f68.eq_1 @qBt)
theorem qwX:lbO 68 2=qnc:=QO (qn qBt) rfl
theorem qzA:okL 68 qnc:=Q6 qGG (qLe (i:=0) (by kernel_rfl))
def zP (s1:List Int) (s2:List Int) (t9:List Int) (t10:Int):Int→Option (Int⊕(Int⊕Unit))|t11=>if t11<t10 then if 0≤t11∧t11<((t9.length:Nat):Int) then Option.bind t9[Int.toNat t11]? fun(a:Int)=>if((s2.length:Nat):Int)≤t11 then some (Sum.inr (Sum.inl 1)) else if 0≤t11∧t11<((s2.length:Nat):Int) then Option.bind s2[Int.toNat t11]? fun(a2:Int)=>if(Q7 a a2 != 0)=Bool.true then some (Sum.inr (Sum.inl (Q7 a a2))) else some (Sum.inl (w64 (t11+1))) else none else none else some (Sum.inr (Sum.inr ()))
theorem q2G:∀(s1 s2 t9:List Int) (t10 t11:Int),XL2 evo 68 0 2 ⟨[(0,rL 1 eI s1),(1,rL 1 eI s2),(9,rL 1 eI t9),(10,rI t10),(11,rI t11)],[],0,36⟩=(zG (zP s1 s2 t9 t10) t11).bind (Sum.elim (fun(e:Int)=>some (Exit.ret,⟨[(0,rL 1 eI s1),(1,rL 1 eI s2),(4,rI e)],[],0,36⟩)) (fun(e:Unit)=>some (Exit.exit 0,⟨[(0,rL 1 eI s1),(1,rL 1 eI s2),(4,R.any)],[],0,36⟩))):=
 fun s1 s2 t9 t10 t11=>by
  revert t11;exact qbd qwX qzA (fun e=>by rcases e with _|_<;>exact⟨_,rfl,fun h=>by cases h⟩) fun x=>by
   have:=qFK;have:=@qnc.eq_1;have:=@q1f;have:=@zP.eq_1;exact gA
def QM (s1:List Int) (s2:List Int):Option Int:=Option.bind (zG (zP s1 s2 s1 ((s1.length:Nat):Int)) 0) fun(a:Sum Int Unit)=>Sum.elim (fun(a2:Int)=>some a2) (fun(a3:Unit)=>if((s1.length:Nat):Int)<((s2.length:Nat):Int) then some (-1) else some 0) a
theorem q0W:∀(s1 s2:List Int),ev 68 0 [rL 1 eI s1,rL 1 eI s2] []=(QM s1 s2).bind (fun(e:Int)=>some (rI e,[])):=
 fun s1 s2=>by
  rw[qQ qBt qFD.2.2.2 qGG]
  have:=qFK;have:=@q2G;have:=@QM.eq_1;exact gA
def Qu (a:Int) (b:Int):Option Int:=Option.bind (ZD a) fun(a2:List Int)=>Option.bind (ZD b) fun(a3:List Int)=>Option.bind (QM a2 a3) fun(a4:Int)=>Option.bind (q0J [Q7 (QA (IntKind.wrap IntKind.u64 a)) (QA (IntKind.wrap IntKind.u64 b)),a4]) fun(e0:Int)=>some e0
theorem q6o:∀(a b:Int),ev 64 0 [rI a,rI b] []=(Qu a b).bind (fun(e:Int)=>some (rI e,[])):=
 fun a b=>by
  rw[qQ qCG qGi.2.2.2 qIG]
  have:=qHr;have:=@q4o;have:=@q1f;have:=@q1F;have:=@q0W;have:=@q3O;have:=@Qu.eq_1;exact gA
theorem qDa:okL 38 qfb:=qV (qn qAZ) (by kernel_rfl) (by kernel_rfl)
def qEL:=JA_ @qfb.eq_1 (JA_ @Tryz.f38.eq_1 @qAZ)
theorem qz0:lbO 38 3=qnP:=QO (qn qAZ) rfl
theorem qAn:okL 38 qnP:=Q6 qDa (qLe (i:=0) (by kernel_rfl))
theorem qy5:lbO 38 8=ql4:=QO (qn qAZ) rfl
theorem qA2:okL 38 ql4:=Q6 qDa (qLe (i:=1) (by kernel_rfl))
theorem qHW:okL 69 qkw:=qV (qn qDT) (by kernel_rfl) (by kernel_rfl)
def qKn:=JA_ @qkw.eq_1 (JA_ @Tryz.f69.eq_1 @qDT)
theorem qFX:okL 91 qi0:=qV (qn qBG) (by kernel_rfl) (by kernel_rfl)
def qGC:=JA_ @qi0.eq_1 (JA_ @Tryz.f91.eq_1 @qBG)
theorem qzH:lbO 91 4=qkz:=QO (qn qBG) rfl
theorem qAd:okL 91 qkz:=Q6 qFX (qLe (i:=0) (by kernel_rfl))
def Qm (s1:List Int) (s2:List Int) (t12:Int):Int→Option (Int⊕(Unit⊕Unit))|t13=>if t13<t12 then if 0≤t13∧t13<((s1.length:Nat):Int) then Option.bind s1[Int.toNat t13]? fun(a:Int)=>if 0≤t13∧t13<((s2.length:Nat):Int) then Option.bind s2[Int.toNat t13]? fun(a2:Int)=>if(a != a2)=Bool.true then some (Sum.inr (Sum.inl ())) else some (Sum.inl (w64 (t13+1))) else none else none else some (Sum.inr (Sum.inr ()))
theorem q3b:∀(s1 s2:List Int) (t12 t13:Int),XL2 evo 91 0 4 ⟨[(0,rL 1 eI s1),(1,rL 1 eI s2),(12,rI t12),(13,rI t13)],[],0,26⟩=(zG (Qm s1 s2 t12) t13).bind (Sum.elim (fun(e:Unit)=>some (Exit.ret,⟨[(4,rB Bool.false)],[],0,26⟩)) (fun(e:Unit)=>some (Exit.exit 0,⟨[(4,R.any)],[],0,26⟩))):=
 fun s1 s2 t12 t13=>by
  revert t13;exact qbd qzH qAd (fun e=>by rcases e with _|_<;>exact⟨_,rfl,fun h=>by cases h⟩) fun x=>by
   have:=qGC;have:=@qkz.eq_1;have:=@Qm.eq_1;exact gA
def Z4 (s1:List Int) (s2:List Int):Option Bool:=if(((s1.length:Nat):Int) != ((s2.length:Nat):Int))=Bool.true then some Bool.false else Option.bind (zG (Qm s1 s2 ((s1.length:Nat):Int)) 0) fun(a:Sum Unit Unit)=>Sum.elim (fun(a2:Unit)=>some Bool.false) (fun(a3:Unit)=>some Bool.true) a
theorem q1i:∀(s1 s2:List Int),ev 91 0 [rL 1 eI s1,rL 1 eI s2] []=(Z4 s1 s2).bind (fun(e:Bool)=>some (rB e,[])):=
 fun s1 s2=>by
  rw[qQ qBG qG8.2.2.2 qFX]
  have:=qGC;have:=@q3b;have:=@Z4.eq_1;exact gA
theorem qET:okL 113 qfP:=qV (qn qt3) (by kernel_rfl) (by kernel_rfl)
def qCS:=JA_ @qfP.eq_1 (JA_ @Tryz.f113.eq_1 @qt3)
theorem qF5:okL 83 qmh:=qV (qn qBe) (by kernel_rfl) (by kernel_rfl)
def qEl:=JA_ @qmh.eq_1 (JA_ @Tryz.f83.eq_1 @qBe)
theorem qoN:okL 131 qdM:=qV (qn qjC) (by kernel_rfl) (by kernel_rfl)
def qjl:=JA_ @qdM.eq_1 (JA_ @Tryz.f131.eq_1 @qjC)
theorem qhs:lbO 131 2=qbi:=QO (qn qjC) rfl
theorem qhh:okL 131 qbi:=Q6 qoN (qLe (i:=0) (by kernel_rfl))
theorem qE4:okL 156 qgX:=qV (qn quG) (by kernel_rfl) (by kernel_rfl)
def qEW:=JA_ @qgX.eq_1 (JA_ @Tryz.f156.eq_1 @quG)
theorem qEP:okL 157 qg1:=qV (qn qrW) (by kernel_rfl) (by kernel_rfl)
def qDi:=JA_ @qg1.eq_1 (JA_ @Tryz.f157.eq_1 @qrW)
theorem qxw:okL 177 qdI:=qV (qn qof) (by kernel_rfl) (by kernel_rfl)
def qxY:=JA_ @qdI.eq_1 (JA_ @Tryz.f177.eq_1 @qof)
theorem qsT:lbO 177 2=qg4:=QO (qn qof) rfl
theorem qvu:okL 177 qg4:=Q6 qxw (qLe (i:=0) (by kernel_rfl))
def QE (s:List Int) (v:Int) (t7:Int):Int→Option (Int⊕(Int⊕Unit))|t8=>if t8<t7 then if 0≤t8∧t8<((s.length:Nat):Int) then Option.bind s[Int.toNat t8]? fun(a:Int)=>if(v==a)=Bool.true then some (Sum.inr (Sum.inl t8)) else some (Sum.inl (w64 (t8+1))) else none else some (Sum.inr (Sum.inr ()))
theorem q3a:∀(s:List Int) (v t7 t8:Int),XL2 evo 177 0 2 ⟨[(0,rL 1 eI s),(1,rI v),(7,rI t7),(8,rI t8)],[],0,19⟩=(zG (QE s v t7) t8).bind (Sum.elim (fun(e:Int)=>some (Exit.ret,⟨[(4,rI e)],[],0,19⟩)) (fun(e:Unit)=>some (Exit.exit 0,⟨[(4,R.any)],[],0,19⟩))):=
 fun s v t7 t8=>by
  revert t8;exact qbd qsT qvu (fun e=>by rcases e with _|_<;>exact⟨_,rfl,fun h=>by cases h⟩) fun x=>by
   have:=qxY;have:=@qg4.eq_1;have:=@QE.eq_1;exact gA
def Jv (s:List Int) (v:Int):Option Int:=Option.bind (zG (QE s v ((s.length:Nat):Int)) 0) fun(a:Sum Int Unit)=>Sum.elim (fun(a2:Int)=>some a2) (fun(a3:Unit)=>some (-1)) a
theorem q4b:∀(s:List Int) (v:Int),ev 177 0 [rL 1 eI s,rI v] []=(Jv s v).bind (fun(e:Int)=>some (rI e,[])):=
 fun s v=>by
  rw[qQ qof qwC.2.2.2 qxw]
  have:=qxY;have:=@q3a;have:=@Jv.eq_1;exact gA
def Z7 (s:List Int) (v:Int):Option Bool:=Option.bind (Jv s v) fun(a:Int)=>some (decide (0≤a))
theorem q3c:∀(s:List Int) (v:Int),ev 157 0 [rL 1 eI s,rI v] []=(Z7 s v).bind (fun(e:Bool)=>some (rB e,[])):=
 fun s v=>by
  rw[qQ qrW qzN.2.2.2 qEP]
  have:=qDi;have:=@q4b;have:=@Z7.eq_1;exact gA
def q0s (x:Int) (v:List Int):Option Bool:=Option.bind (Z7 v x) fun(a:Bool)=>some a
theorem q5U:∀(x:Int) (v:List Int),ev 156 1 [rI x,rP 0] [(0,B.blk 22 [dL 1 eI v])]=(q0s x v).bind (fun(e:Bool)=>some (rB e,[(0,B.blk 22 [dL 1 eI v])])):=
 fun x v=>by
  rw[qQ quG qwb.2.2.2 qE4]
  have:=qEW;have:=@q3c;have:=@q0s.eq_1;exact gA
def Qh (b0:List Int) (s:List Int) (t7:Int):Int→Option (Int⊕(Int⊕Unit))|t8=>if t8<t7 then if 0≤t8∧t8<((s.length:Nat):Int) then Option.bind s[Int.toNat t8]? fun(a:Int)=>Option.bind (q0s a b0) fun(a2:Bool)=>if a2=Bool.true then some (Sum.inr (Sum.inl t8)) else some (Sum.inl (w64 (t8+1))) else none else some (Sum.inr (Sum.inr ()))
theorem q29:∀(b0 s:List Int) (t7 t8:Int),XL2 evo 131 1 2 ⟨[(0,rL 1 eI s),(1,R.c (C.fn 156 [] [dP 0])),(7,rI t7),(8,rI t8)],[(0,B.blk 22 [dL 1 eI b0])],1,19⟩=(zG (Qh b0 s t7) t8).bind (Sum.elim (fun(e:Int)=>some (Exit.ret,⟨[(4,rI e)],[(0,B.blk 22 [dL 1 eI b0])],1,19⟩)) (fun(e:Unit)=>some (Exit.exit 0,⟨[(4,R.any)],[(0,B.blk 22 [dL 1 eI b0])],1,19⟩))):=
 fun b0 s t7 t8=>by
  revert t8;exact qbd qhs qhh (fun e=>by rcases e with _|_<;>exact⟨_,rfl,fun h=>by cases h⟩) fun x=>by
   have:=qjl;have:=@qbi.eq_1;have:=@q5U;have:=@Qh.eq_1;exact gA
def ZE (s:List Int) (b0:List Int):Option Int:=Option.bind (zG (Qh b0 s ((s.length:Nat):Int)) 0) fun(a:Sum Int Unit)=>Sum.elim (fun(a2:Int)=>some a2) (fun(a3:Unit)=>some (-1)) a
theorem q2U:∀(s b0:List Int),ev 131 1 [rL 1 eI s,R.c (C.fn 156 [] [dP 0])] [(0,B.blk 22 [dL 1 eI b0])]=(ZE s b0).bind (fun(e:Int)=>some (rI e,[(0,B.blk 22 [dL 1 eI b0])])):=
 fun s b0=>by
  rw[qQ qjC qq9.2.2.2 qoN]
  have:=qjl;have:=@q29;have:=@ZE.eq_1;exact gA
def Zd (s:List Int) (b0:List Int):Option Bool:=Option.bind (ZE s b0) fun(a:Int)=>some (decide (0≤a))
theorem q27:∀(s b0:List Int),ev 83 1 [rL 1 eI s,R.c (C.fn 156 [] [dP 0])] [(0,B.blk 22 [dL 1 eI b0])]=(Zd s b0).bind (fun(e:Bool)=>some (rB e,[(0,B.blk 22 [dL 1 eI b0])])):=
 fun s b0=>by
  rw[qQ qBe qBq.2.2.2 qF5]
  have:=qEl;have:=@q2U;have:=@Zd.eq_1;exact gA
def Jr (a:List Int) (b:List Int):Option Bool:=Option.bind (Zd a b) fun(a2:Bool)=>some a2
theorem q7O:∀(a b:List Int),ev 113 0 [rL 1 eI a,rL 1 eI b] []=(Jr a b).bind (fun(e:Bool)=>some (rB e,[])):=
 fun a b=>by
  rw[qQ qt3 qxA.2.2.2 qET]
  have:=qCS;have:=@q27;have:=@Jr.eq_1;exact gA
def q2O (a:qa) (b:qa):Option Bool:=if(a.Course.School==b.Course.School)=Bool.true∧(ByteArray.toList a.Course.Code==ByteArray.toList b.Course.Code)=Bool.true then some Bool.false else if 0<a.Bundle then if(a.Bundle==b.Bundle)=Bool.true then Option.bind (Z4 a.Path b.Path) fun(a2:Bool)=>if a2=Bool.true then some Bool.true else Option.bind (Jr a.Sources b.Sources) fun(a3:Bool)=>some (!a3) else Option.bind (Jr a.Sources b.Sources) fun(a4:Bool)=>some (!a4) else Option.bind (Jr a.Sources b.Sources) fun(a5:Bool)=>some (!a5)
theorem qbN:∀(Q8:Int) (QB:ByteArray) (Js q1G q7L:Int) (Jb:List Int) (q0c:Int) (q35:List Int) (q3F:Int) (q5e:ByteArray) (qc0 qhz qvZ:Int) (qc1:List Int) (qei:Int) (qnZ:List Int),ev 69 0 [R.agg [dI Q8,dS QB,dI Js,dI q1G,dI q7L,dL 1 eI Jb,dI q0c,dL 1 eI q35],R.agg [dI q3F,dS q5e,dI qc0,dI qhz,dI qvZ,dL 1 eI qc1,dI qei,dL 1 eI qnZ]] []=(q2O (qa.mk (qd.mk Q8 QB) Js q1G q7L Jb q0c q35) (qa.mk (qd.mk q3F q5e) qc0 qhz qvZ qc1 qei qnZ)).bind (fun(e:Bool)=>some (rB e,[])):=
 fun Q8 QB Js q1G q7L Jb q0c q35 q3F q5e qc0 qhz qvZ qc1 qei qnZ=>by
  rw[qQ qDT qFA.2.2.2 qHW]
  have:=qKn;have:=@q1i;have:=@q7O;have:=@q2O.eq_1;exact gA
theorem qG7:okL 71 qir:=qV (qn qBZ) (by kernel_rfl) (by kernel_rfl)
def qGW:=JA_ @qir.eq_1 (JA_ @Tryz.f71.eq_1 @qBZ)
theorem qAR:lbO 71 3=qlb:=QO (qn qBZ) rfl
theorem qA5:okL 71 qlb:=Q6 qG7 (qLe (i:=0) (by kernel_rfl))
def Jm (t6:List qa) (t7:Int):(Int×Int)→Option ((Int×Int)⊕Int)|(n,t8)=>if t8<t7 then if 0≤t8∧t8<((t6.length:Nat):Int) then Option.bind t6[Int.toNat t8]? fun(a:qa)=>some (Sum.inl (w64 (n+a.Credits),w64 (t8+1))) else none else some (Sum.inr n)
theorem q6X:∀(n:Int) (t6:List qa) (t7 t8:Int),XL2 evo 71 0 3 ⟨[(3,rI n),(6,rL 8 qf t6),(7,rI t7),(8,rI t8)],[],0,18⟩=(zG (Jm t6 t7) (n,t8)).bind (fun(e:Int)=>some (Exit.exit 0,⟨[(3,rI e)],[],0,18⟩)):=
 fun n t6 t7 t8=>by
  revert t8;revert n;exact qcb qAR qA5 (fun e=>by exact⟨_,rfl,fun h=>by cases h⟩) fun n t8=>by
   have:=qGW;have:=@qlb.eq_1;have:=@Jm.eq_1;exact gA
def q1j (l:List qa):Option Int:=Option.bind (zG (Jm l ((l.length:Nat):Int)) (0,0)) fun(a:Int)=>some a
theorem q93:∀(l:List qa),ev 71 0 [rL 8 qf l] []=(q1j l).bind (fun(e:Int)=>some (rI e,[])):=
 fun l=>by
  rw[qQ qBZ qH9.2.2.2 qG7]
  have:=qGW;have:=@q6X;have:=@q1j.eq_1;exact gA
theorem qEr:okL 39 qfg:=qV (qn qyd) (by kernel_rfl) (by kernel_rfl)
def qCf:=JA_ @qfg.eq_1 (JA_ @Tryz.f39.eq_1 @qyd)
theorem qAP:lbO 39 2=qmM:=QO (qn qyd) rfl
theorem qAs:okL 39 qmM:=Q6 qEr (qLe (i:=0) (by kernel_rfl))
theorem qzM:lbO 39 9=qnj:=QO (qn qyd) rfl
theorem qyM:okL 39 qnj:=Q6 qEr (qLe (i:=1) (by kernel_rfl))
theorem qCI:okL 72 qeX:=qV (qn qxM) (by kernel_rfl) (by kernel_rfl)
def qCp:=JA_ @qeX.eq_1 (JA_ @Tryz.f72.eq_1 @qxM)
theorem qyT:lbO 72 9=qka:=QO (qn qxM) rfl
theorem qAe:okL 72 qka:=Q6 qCI (qLe (i:=0) (by kernel_rfl))
theorem qvL:lbO 72 14=qga:=QO (qn qxM) rfl
theorem quH:okL 72 qga:=Q6 qCI (qLe (i:=1) (by kernel_rfl))
theorem qzt:okL 115 qdz:=qV (qn qqN) (by kernel_rfl) (by kernel_rfl)
def qAt:=JA_ @qdz.eq_1 (JA_ @Tryz.f115.eq_1 @qqN)
theorem qsx:lbO 115 2=qhg:=QO (qn qqN) rfl
theorem quQ:okL 115 qhg:=Q6 qzt (qLe (i:=0) (by kernel_rfl))
def Jo (w1:List Int) (leaf:Int) (set0:Int) (t9:Int):Int→Option (Int⊕(Unit⊕Unit))|t10=>if t10<t9 then if 0≤t10∧t10<((w1.length:Nat):Int) then Option.bind w1[Int.toNat t10]? fun(a:Int)=>if 0≤t10 then if(!((ZG Go.BinOp.and IntKind.i64 (Int.fdiv set0 (2 ^ min (Int.toNat t10) (IntKind.bits IntKind.i64))) 1==1)==(a==leaf)))=Bool.true then some (Sum.inr (Sum.inl ())) else some (Sum.inl (w64 (t10+1))) else none else none else some (Sum.inr (Sum.inr ()))
theorem q6Q:∀(w1:List Int) (leaf set0 t9 t10:Int) (JI:Nat),JI=w1.length→XL2 evo 115 1 2 ⟨[(0,rI leaf),(1,rI set0),(8,rO 1 1 JI),(9,rI t9),(10,rI t10)],[(0,B.blk 22 [dO 1 1 JI]),(1,bR 3 1 eI w1)],2,25⟩=(zG (Jo w1 leaf set0 t9) t10).bind (Sum.elim (fun(e:Unit)=>some (Exit.ret,⟨[(5,rB Bool.false)],[(0,B.blk 22 [dO 1 1 w1.length]),(1,bR 3 1 eI w1)],2,25⟩)) (fun(e:Unit)=>some (Exit.exit 0,⟨[(5,R.any)],[(0,B.blk 22 [dO 1 1 w1.length]),(1,bR 3 1 eI w1)],2,25⟩))):=
 by
 intro w1 leaf set0 t9 t10 JI h0
 subst h0
 revert t10;exact qbd qsx quQ (fun e=>by rcases e with _|_<;>exact⟨_,rfl,fun h=>by cases h⟩) fun x=>by
  have:=qAt;have:=@qhg.eq_1;have:=@Jo.eq_1;exact gA
def q0n (leaf:Int) (set0:Int) (w1:List Int):Option Bool:=Option.bind (zG (Jo w1 leaf set0 ((w1.length:Nat):Int)) 0) fun(a:Sum Unit Unit)=>Sum.elim (fun(a2:Unit)=>some Bool.false) (fun(a3:Unit)=>some Bool.true) a
theorem q4H:∀(leaf set0:Int) (w1:List Int) (JI:Nat),JI=w1.length→ev 115 1 [rI leaf,rI set0,rP 0] [(0,B.blk 22 [dO 1 1 JI]),(1,bR 3 1 eI w1)]=(q0n leaf set0 w1).bind (fun(e:Bool)=>some (rB e,[(0,B.blk 22 [dO 1 1 w1.length]),(1,bR 3 1 eI w1)])):=
 by
 intro leaf set0 w1 JI h0
 subst h0
 rw[qQ qqN qAj.2.2.2 qzt]
 have:=qAt;have:=@q6Q;have:=@q0n.eq_1;exact gA
theorem qFl:okL 116 qgL:=qV (qn qsy) (by kernel_rfl) (by kernel_rfl)
def qFb:=JA_ @qgL.eq_1 (JA_ @Tryz.f116.eq_1 @qsy)
theorem qEN:okL 117 qfE:=qV (qn qvi) (by kernel_rfl) (by kernel_rfl)
def qFh:=JA_ @qfE.eq_1 (JA_ @Tryz.f117.eq_1 @qvi)
def q1u (x:Int) (v:Int) (v2:Int):Option Bool:=if v≤x then some (decide (x<v2)) else some Bool.false
def JG (x:Int) (v:Int) (v2:Int):Bool:=if v≤x then decide (x<v2) else Bool.false
theorem q6Z (x v v2:Int):q1u x v v2=some (JG x v v2):=by
 unfold q1u JG
 simp only[Zc]
theorem q7i:∀(x v v2:Int),ev 117 2 [rI x,rP 0,rP 1] [(0,B.blk 3 [dI v]),(1,B.blk 3 [dI v2])]=some (rB (JG x v v2),[(0,B.blk 3 [dI v]),(1,B.blk 3 [dI v2])]):=
 fun x v v2=>by
  have h:ev 117 2 [rI x,rP 0,rP 1] [(0,B.blk 3 [dI v]),(1,B.blk 3 [dI v2])]=(q1u x v v2).bind (fun(e:Bool)=>some (rB e,[(0,B.blk 3 [dI v]),(1,B.blk 3 [dI v2])])):=by
   rw[qQ qvi qzm.2.2.2 qEN]
   have:=qFh;have:=@q1u.eq_1;exact gA
  rw[q6Z] at h
  exact h
def Q2 (b0:Int) (b1:Int) (s:List Int) (t7:Int):Int→Option (Int⊕(Int⊕Unit))|t8=>if t8<t7 then if 0≤t8∧t8<((s.length:Nat):Int) then Option.bind s[Int.toNat t8]? fun(a:Int)=>if JG a b0 b1=Bool.true then some (Sum.inr (Sum.inl t8)) else some (Sum.inl (w64 (t8+1))) else none else some (Sum.inr (Sum.inr ()))
theorem q1N:∀(b0 b1:Int) (s:List Int) (t7 t8:Int),XL2 evo 131 2 2 ⟨[(0,rL 1 eI s),(1,R.c (C.fn 117 [] [dP 0,dP 1])),(7,rI t7),(8,rI t8)],[(0,B.blk 3 [dI b0]),(1,B.blk 3 [dI b1])],2,19⟩=(zG (Q2 b0 b1 s t7) t8).bind (Sum.elim (fun(e:Int)=>some (Exit.ret,⟨[(4,rI e)],[(0,B.blk 3 [dI b0]),(1,B.blk 3 [dI b1])],2,19⟩)) (fun(e:Unit)=>some (Exit.exit 0,⟨[(4,R.any)],[(0,B.blk 3 [dI b0]),(1,B.blk 3 [dI b1])],2,19⟩))):=
 fun b0 b1 s t7 t8=>by
  revert t8;exact qbd qhs qhh (fun e=>by rcases e with _|_<;>exact⟨_,rfl,fun h=>by cases h⟩) fun x=>by
   have:=qjl;have:=@qbi.eq_1;have:=@q7i;have:=@Q2.eq_1;exact gA
def Zm (s:List Int) (b0:Int) (b1:Int):Option Int:=Option.bind (zG (Q2 b0 b1 s ((s.length:Nat):Int)) 0) fun(a:Sum Int Unit)=>Sum.elim (fun(a2:Int)=>some a2) (fun(a3:Unit)=>some (-1)) a
theorem q2o:∀(s:List Int) (b0 b1:Int),ev 131 2 [rL 1 eI s,R.c (C.fn 117 [] [dP 0,dP 1])] [(0,B.blk 3 [dI b0]),(1,B.blk 3 [dI b1])]=(Zm s b0 b1).bind (fun(e:Int)=>some (rI e,[(0,B.blk 3 [dI b0]),(1,B.blk 3 [dI b1])])):=
 fun s b0 b1=>by
  rw[qQ qjC qq9.2.2.2 qoN]
  have:=qjl;have:=@q1N;have:=@Zm.eq_1;exact gA
def QY (s:List Int) (b0:Int) (b1:Int):Option Bool:=Option.bind (Zm s b0 b1) fun(a:Int)=>some (decide (0≤a))
theorem q1M:∀(s:List Int) (b0 b1:Int),ev 83 2 [rL 1 eI s,R.c (C.fn 117 [] [dP 0,dP 1])] [(0,B.blk 3 [dI b0]),(1,B.blk 3 [dI b1])]=(QY s b0 b1).bind (fun(e:Bool)=>some (rB e,[(0,B.blk 3 [dI b0]),(1,B.blk 3 [dI b1])])):=
 fun s b0 b1=>by
  rw[qQ qBe qBq.2.2.2 qF5]
  have:=qEl;have:=@q2o;have:=@QY.eq_1;exact gA
def q1p (from0:Int) (to:Int) (w1:List Int):Option Bool:=Option.bind (QY w1 from0 to) fun(a:Bool)=>some a
theorem q9o:∀(from0 to:Int) (w1:List Int) (JI:Nat),JI=w1.length→ev 116 1 [rI from0,rI to,rP 0] [(0,B.blk 22 [dO 1 1 JI]),(1,bR 3 1 eI w1)]=(q1p from0 to w1).bind (fun(e:Bool)=>some (rB e,[(0,B.blk 22 [dO 1 1 w1.length]),(1,bR 3 1 eI w1)])):=
 by
 intro from0 to w1 JI h0
 subst h0
 rw[qQ qsy qy8.2.2.2 qFl]
 have:=qFb;have:=@q1M;have:=@q1p.eq_1;exact gA
def zm (v:JK qd) (s:List (JK qd)) (t7:Int):Int→Option (Int⊕(Int⊕Unit))|t8=>if t8<t7 then if 0≤t8∧t8<((s.length:Nat):Int) then Option.bind s[Int.toNat t8]? fun(a:@JK qd)=>if((v.a0.School==a.a0.School)=Bool.true∧(ByteArray.toList v.a0.Code==ByteArray.toList a.a0.Code)=Bool.true)∧(v.a1.School==a.a1.School)=Bool.true∧(ByteArray.toList v.a1.Code==ByteArray.toList a.a1.Code)=Bool.true then some (Sum.inr (Sum.inl t8)) else some (Sum.inl (w64 (t8+1))) else none else some (Sum.inr (Sum.inr ()))
theorem JP:∀(q02:Int) (q1Z:ByteArray) (q03:Int) (q20:ByteArray) (s:List (JK qd)) (t7 t8:Int),XL2 evo 114 0 2 ⟨[(0,rL 4 (eA2 qe) s),(3,rP 0),(7,rI t7),(8,rI t8)],[(0,B.blk 70 [dI q02,dS q1Z,dI q03,dS q20])],1,19⟩=(zG (zm (JK.mk (qd.mk q02 q1Z) (qd.mk q03 q20)) s t7) t8).bind (Sum.elim (fun(e:Int)=>some (Exit.ret,⟨[(4,rI e)],[],0,19⟩)) (fun(e:Unit)=>some (Exit.exit 0,⟨[(4,R.any)],[],0,19⟩))):=
 fun q02 q1Z q03 q20 s t7 t8=>by
  revert t8;exact qbd quj qsW (fun e=>by rcases e with _|_<;>exact⟨_,rfl,fun h=>by cases h⟩) fun x=>by
   have:=qAf;have:=@qho.eq_1;have:=@zm.eq_1;exact gA
def Qf (s:List (JK qd)) (v:JK qd):Option Int:=Option.bind (zG (zm v s ((s.length:Nat):Int)) 0) fun(a:Sum Int Unit)=>Sum.elim (fun(a2:Int)=>some a2) (fun(a3:Unit)=>some (-1)) a
theorem q0a:∀(s:List (JK qd)) (q02:Int) (q1Z:ByteArray) (q03:Int) (q20:ByteArray),ev 114 0 [rL 4 (eA2 qe) s,R.agg [dI q02,dS q1Z,dI q03,dS q20]] []=(Qf s (JK.mk (qd.mk q02 q1Z) (qd.mk q03 q20))).bind (fun(e:Int)=>some (rI e,[])):=
 fun s q02 q1Z q03 q20=>by
  rw[qQ qoO qAL.2.2.2 qzo]
  have:=qAf;have:=@JP;have:=@Qf.eq_1;exact gA
def qS (s:List (JK qd)) (v:JK qd):Option Bool:=Option.bind (Qf s v) fun(a:Int)=>some (decide (0≤a))
theorem Ze:∀(s:List (JK qd)) (q02:Int) (q1Z:ByteArray) (q03:Int) (q20:ByteArray),ev 70 0 [rL 4 (eA2 qe) s,R.agg [dI q02,dS q1Z,dI q03,dS q20]] []=(qS s (JK.mk (qd.mk q02 q1Z) (qd.mk q03 q20))).bind (fun(e:Bool)=>some (rB e,[])):=
 fun s q02 q1Z q03 q20=>by
  rw[qQ qEZ qFZ.2.2.2 qJU]
  have:=qID;have:=@q0a;have:=@qS.eq_1;exact gA
def QS (b0:qc) (t62:List (JK qd)) (t63:Int):Int→Option (Int⊕(Int⊕Unit))|t64=>if t64<t63 then if 0≤t64∧t64<((t62.length:Nat):Int) then Option.bind t62[Int.toNat t64]? fun(a:@JK qd)=>Option.bind (q0I a.a0) fun(a2:Bool)=>if(!a2)=Bool.true then some (Sum.inr (Sum.inl 1)) else Option.bind (q0I a.a1) fun(a3:Bool)=>if(!a3)=Bool.true then some (Sum.inr (Sum.inl 1)) else Option.bind (q0o a.a0 a.a1) fun(a4:Int)=>if 0≤a4 then some (Sum.inr (Sum.inl 7)) else if 0≤t64∧t64≤((b0.Exclude.length:Nat):Int) then Option.bind (qS (List.take (Int.toNat t64-0) b0.Exclude) a) fun(a5:Bool)=>if a5=Bool.true then some (Sum.inr (Sum.inl 6)) else some (Sum.inl (w64 (t64+1))) else none else none else some (Sum.inr (Sum.inr ()))
theorem q5s:∀(qo za ql qv:Int) (qw:ByteArray) (qi qp qj:Int) (qk:List qd) (qr:List qb) (qt qD qE:Int) (qm t62:List (JK qd)) (t63 t64:Int),XL2 evo 56 0 13 ⟨[(1,rP 0),(62,rL 4 (eA2 qe) t62),(63,rI t63),(64,rI t64)],[(0,B.blk 39 [dI qo,dI za,dI ql,dI qv,dS qw,dI qi,dI qp,dI qj,dL 2 qe qk,dL 5 qh qr,dI qt,dI qD,dI qE,dL 4 (eA2 qe) qm])],1,95⟩=(zG (QS (qc.mk qo za ql qv qw (qb.mk qi qp qj qk qr) qt qD qE qm) t62 t63) t64).bind (Sum.elim (fun(e:Int)=>some (Exit.ret,⟨[(2,rI e)],[],0,95⟩)) (fun(e:Unit)=>some (Exit.exit 1,⟨[(2,R.any)],[],0,95⟩))):=
 fun qo za ql qv qw qi qp qj qk qr qt qD qE qm t62 t63 t64=>by
  revert t64;exact qbd qui qvk (fun e=>by rcases e with _|_<;>exact⟨_,rfl,fun h=>by cases h⟩) fun x=>by
   have:=qGF;have:=@qgd.eq_1;have:=@q5X;have:=@q4q;have:=@Ze;have:=@QS.eq_1;exact gA
def JY (x0:qc):Option Int:=if(!(zu x0.School 1 8))=Bool.true then some 1 else if(!(zu x0.Id 1 999999))=Bool.true then some 3 else if(!(zu x0.Version 1 20))=Bool.true then some 3 else if(!(zu x0.From 0 100000))=Bool.true then some 3 else if(!(zu x0.Total 0 600))=Bool.true then some 3 else if(!(zu x0.Own 0 600))=Bool.true then some 3 else if(!(zu x0.Age 0 100))=Bool.true then some 3 else Option.bind (q0V x0.Name) fun(a:Bool)=>if(!a)=Bool.true then some 1 else Option.bind (Jj x0.Need) fun(a2:Int)=>if(a2 != 0)=Bool.true then some a2 else if 8<((x0.Exclude.length:Nat):Int) then some 2 else Option.bind (zG (QS x0 x0.Exclude ((x0.Exclude.length:Nat):Int)) 0) fun(a3:Sum Int Unit)=>Sum.elim (fun(e0:Int)=>some e0) (fun(a4:Unit)=>some 0) a3
theorem q8u:∀(zJ q0r zr QF:Int) (QG:ByteArray) (qM zK qW:Int) (qX:List qd) (zL:List qb) (Qb ZH ZI:Int) (zt:List (JK qd)),ev 56 0 [R.agg [dI zJ,dI q0r,dI zr,dI QF,dS QG,dI qM,dI zK,dI qW,dL 2 qe qX,dL 5 qh zL,dI Qb,dI ZH,dI ZI,dL 4 (eA2 qe) zt]] []=(JY (qc.mk zJ q0r zr QF QG (qb.mk qM zK qW qX zL) Qb ZH ZI zt)).bind (fun(e:Int)=>some (rI e,[])):=
 fun zJ q0r zr QF QG qM zK qW qX zL Qb ZH ZI zt=>by
  rw[qQ qBI qGP.2.2.2 qG4]
  have:=qGF;have:=@ZZ;have:=@qbP;have:=@q3x;have:=@q5s;have:=@JY.eq_1;exact gA
def QD (p:qc) (s:qg):Option Int:=Option.bind (JY p) fun(a:Int)=>if(a != 0)=Bool.true then some a else Option.bind (q18 s) fun(e0:Int)=>some e0
theorem q4D:∀(qA Jt qy zc:Int) (zd:ByteArray) (qs qB qu:Int) (qx:List qd) (qF:List qb) (qJ Q9 Qa:Int) (qH:List (JK qd)) (zj zU zV:Int),ev 33 0 [R.agg [dI qA,dI Jt,dI qy,dI zc,dS zd,dI qs,dI qB,dI qu,dL 2 qe qx,dL 5 qh qF,dI qJ,dI Q9,dI Qa,dL 4 (eA2 qe) qH],R.agg [dI zj,dI zU,dI zV]] []=(QD (qc.mk qA Jt qy zc zd (qb.mk qs qB qu qx qF) qJ Q9 Qa qH) (qg.mk zj zU zV)).bind (fun(e:Int)=>some (rI e,[])):=
 fun qA Jt qy zc zd qs qB qu qx qF qJ Q9 Qa qH zj zU zV=>by
  rw[qQ qEO qGm.2.2.2 qI7]
  have:=qJh;have:=@q8u;have:=@q5j;have:=@QD.eq_1;exact gA
end
noncomputable section
open Go.RowKit
set_option maxRecDepth 20000
set_option maxHeartbeats 8000000
def Zw (b0:qc) (b1:qa) (t1:List qa) (t2:Int) (t7:Int) (t12:List qa) (t13:Int) (t14:Int) (t25:List qa) (t26:Int):Int→Option (Int⊕(Unit⊕Unit))|t27=>if t27<t26 then if 0≤t27∧t27<((t25.length:Nat):Int) then Option.bind t25[Int.toNat t27]? fun(a:qa)=>Option.bind (q2O b1 a) fun(a2:Bool)=>if(!a2)=Bool.true then some (Sum.inr (Sum.inl ())) else Option.bind (qS b0.Exclude (JK.mk b1.Course a.Course)) fun(a3:Bool)=>if a3=Bool.true then some (Sum.inr (Sum.inl ())) else Option.bind (qS b0.Exclude (JK.mk a.Course b1.Course)) fun(a4:Bool)=>if a4=Bool.true then some (Sum.inr (Sum.inl ())) else some (Sum.inl (w64 (t27+1))) else none else some (Sum.inr (Sum.inr ()))
theorem q5b:∀(qo za ql qv:Int) (qw:ByteArray) (qi qp qj:Int) (qk:List qd) (qr:List qb) (qt qD qE:Int) (qm:List (JK qd)) (q0j:Int) (q1q:ByteArray) (q4M q8Q qfw:Int) (q4N:List Int) (q6y:Int) (qc2:List Int) (t1:List qa) (t2 t7:Int) (t12:List qa) (t13 t14:Int) (t25:List qa) (t26 t27:Int),XL2 evo 38 0 8 ⟨[(1,rL 8 qf t1),(2,rI t2),(3,rP 0),(7,rI t7),(9,rP 1),(12,rL 8 qf t12),(13,rI t13),(14,rI t14),(25,rL 8 qf t25),(26,rI t26),(27,rI t27)],[(0,B.blk 39 [dI qo,dI za,dI ql,dI qv,dS qw,dI qi,dI qp,dI qj,dL 2 qe qk,dL 5 qh qr,dI qt,dI qD,dI qE,dL 4 (eA2 qe) qm]),(1,B.blk 57 [dI q0j,dS q1q,dI q4M,dI q8Q,dI qfw,dL 1 eI q4N,dI q6y,dL 1 eI qc2])],2,83⟩=(zG (Zw (qc.mk qo za ql qv qw (qb.mk qi qp qj qk qr) qt qD qE qm) (qa.mk (qd.mk q0j q1q) q4M q8Q qfw q4N q6y qc2) t1 t2 t7 t12 t13 t14 t25 t26) t27).bind (Sum.elim (fun(e:Unit)=>some (Exit.ret,⟨[(1,rL 8 qf t1),(2,rI t2),(3,rP 0),(6,rB Bool.false),(7,rI t7),(9,rP 1),(12,rL 8 qf t12),(13,rI t13),(14,rI t14)],[(0,B.blk 39 [dI qo,dI za,dI ql,dI qv,dS qw,dI qi,dI qp,dI qj,dL 2 qe qk,dL 5 qh qr,dI qt,dI qD,dI qE,dL 4 (eA2 qe) qm]),(1,B.blk 57 [dI q0j,dS q1q,dI q4M,dI q8Q,dI qfw,dL 1 eI q4N,dI q6y,dL 1 eI qc2])],2,83⟩)) (fun(e:Unit)=>some (Exit.exit 2,⟨[(1,rL 8 qf t1),(2,rI t2),(3,rP 0),(6,R.any),(7,rI t7),(9,rP 1),(12,rL 8 qf t12),(13,rI t13),(14,rI t14)],[(0,B.blk 39 [dI qo,dI za,dI ql,dI qv,dS qw,dI qi,dI qp,dI qj,dL 2 qe qk,dL 5 qh qr,dI qt,dI qD,dI qE,dL 4 (eA2 qe) qm]),(1,B.blk 57 [dI q0j,dS q1q,dI q4M,dI q8Q,dI qfw,dL 1 eI q4N,dI q6y,dL 1 eI qc2])],2,83⟩))):=
 fun qo za ql qv qw qi qp qj qk qr qt qD qE qm q0j q1q q4M q8Q qfw q4N q6y qc2 t1 t2 t7 t12 t13 t14 t25 t26 t27=>by
  revert t27;exact qbd qy5 qA2 (fun e=>by rcases e with _|_<;>exact⟨_,rfl,fun h=>by cases h⟩) fun x=>by
   have:=qEL;have:=@ql4.eq_1;have:=@qbN;have:=@Ze;have:=@Zw.eq_1;exact gA
def Z1 (b0:qc) (t1:List qa) (t2:Int) (t12:List qa) (t13:Int):(Int×Int)→Option ((Int×Int)⊕(Int⊕Int))|(t7,t14)=>if t14<t13 then if 0≤t14∧t14<((t12.length:Nat):Int) then Option.bind t12[Int.toNat t14]? fun(a:qa)=>Option.bind (Zl b0 a t2) fun(a2:Bool)=>if a2=Bool.true then some (Sum.inr (Sum.inl t7)) else if 0≤t14∧t14≤((t1.length:Nat):Int) then Option.bind (zG (Zw b0 a t1 t2 t7 t12 t13 t14 (List.take (Int.toNat t14-0) t1) (((List.take (Int.toNat t14-0) t1).length:Nat):Int)) 0) fun(a3:Sum Unit Unit)=>Sum.elim (fun(a4:Unit)=>some (Sum.inr (Sum.inl t7))) (fun(a5:Unit)=>if(a.Course.School==b0.School)=Bool.true then if(a.Bundle==0)=Bool.true then some (Sum.inl (w64 (t7+a.Credits),w64 (t14+1))) else some (Sum.inl (t7,w64 (t14+1))) else some (Sum.inl (t7,w64 (t14+1)))) a3 else none else none else some (Sum.inr (Sum.inr t7))
theorem q4Q:∀(qo za ql qv:Int) (qw:ByteArray) (qi qp qj:Int) (qk:List qd) (qr:List qb) (qt qD qE:Int) (qm:List (JK qd)) (t1:List qa) (t2 t7:Int) (t12:List qa) (t13 t14:Int),XL2 evo 38 0 3 ⟨[(1,rL 8 qf t1),(2,rI t2),(3,rP 0),(7,rI t7),(12,rL 8 qf t12),(13,rI t13),(14,rI t14)],[(0,B.blk 39 [dI qo,dI za,dI ql,dI qv,dS qw,dI qi,dI qp,dI qj,dL 2 qe qk,dL 5 qh qr,dI qt,dI qD,dI qE,dL 4 (eA2 qe) qm])],1,83⟩=(zG (Z1 (qc.mk qo za ql qv qw (qb.mk qi qp qj qk qr) qt qD qE qm) t1 t2 t12 t13) (t7,t14)).bind (Sum.elim (fun(e:Int)=>some (Exit.ret,⟨[(1,rL 8 qf t1),(3,rP 0),(6,rB Bool.false),(7,rI e)],[(0,B.blk 39 [dI qo,dI za,dI ql,dI qv,dS qw,dI qi,dI qp,dI qj,dL 2 qe qk,dL 5 qh qr,dI qt,dI qD,dI qE,dL 4 (eA2 qe) qm])],1,83⟩)) (fun(e:Int)=>some (Exit.exit 0,⟨[(1,rL 8 qf t1),(3,rP 0),(6,R.any),(7,rI e)],[(0,B.blk 39 [dI qo,dI za,dI ql,dI qv,dS qw,dI qi,dI qp,dI qj,dL 2 qe qk,dL 5 qh qr,dI qt,dI qD,dI qE,dL 4 (eA2 qe) qm])],1,83⟩))):=
 fun qo za ql qv qw qi qp qj qk qr qt qD qE qm t1 t2 t7 t12 t13 t14=>by
  revert t14;revert t7;exact qcb qz0 qAn (fun e=>by rcases e with _|_<;>exact⟨_,rfl,fun h=>by cases h⟩) fun t7 t14=>by
   have:=qEL;have:=@qnP.eq_1;have:=@q3D;have:=@q5b;have:=@Z1.eq_1;exact gA
def Jn (x0:qc) (x1:List qa) (x2:Int):Option Bool:=Option.bind (zG (Z1 x0 x1 x2 x1 ((x1.length:Nat):Int)) (0,0)) fun(a:Sum Int Int)=>Sum.elim (fun(a2:Int)=>some Bool.false) (fun(a3:Int)=>Option.bind (q1j x1) fun(a4:Int)=>if x0.Total≤a4 then some (decide (x0.Own≤a3)) else some Bool.false) a
theorem q2X:∀(zJ q0r zr QF:Int) (QG:ByteArray) (qM zK qW:Int) (qX:List qd) (zL:List qb) (Qb ZH ZI:Int) (zt:List (JK qd)) (x1:List qa) (x2:Int),ev 38 0 [R.agg [dI zJ,dI q0r,dI zr,dI QF,dS QG,dI qM,dI zK,dI qW,dL 2 qe qX,dL 5 qh zL,dI Qb,dI ZH,dI ZI,dL 4 (eA2 qe) zt],rL 8 qf x1,rI x2] []=(Jn (qc.mk zJ q0r zr QF QG (qb.mk qM zK qW qX zL) Qb ZH ZI zt) x1 x2).bind (fun(e:Bool)=>some (rB e,[])):=
 fun zJ q0r zr QF QG qM zK qW qX zL Qb ZH ZI zt x1 x2=>by
  rw[qQ qAZ qFR.2.2.2 qDa]
  have:=qEL;have:=@q4Q;have:=@q93;have:=@Jn.eq_1;exact gA
def zb (x:(qb×List Int×List qa×Int×qg)):List R×List (Nat×B):=([R.agg [C.d (D.int .i64 x.1.Kind),C.d (D.int .i64 x.1.N),C.d (D.int .i64 x.1.Min),C.d (D.sl 2 x.1.Set.length (x.1.Set.flatMap qe)),C.d (D.sl 5 x.1.L.length (x.1.L.flatMap qh))],R.c (C.ptr 0 0),R.c (C.ptr 1 0),R.c (C.ptr 3 0),R.c (C.ptr 4 0),R.c (C.ptr 5 0),R.c (C.ptr 6 0)],[(0,B.blk 26 [C.d (D.sl 8 x.2.2.1.length (x.2.2.1.flatMap qf))]),(1,B.blk 114 [C.fn 115 [] [C.ptr 2 0]]),(2,B.blk 22 [C.own 7 1 0 x.2.1.length]),(3,B.blk 3 [C.d (D.int .i64 x.2.2.2.1)]),(4,B.blk 28 [C.d (D.int .i64 x.2.2.2.2.Worst),C.d (D.int .i64 x.2.2.2.2.Best),C.d (D.int .i64 x.2.2.2.2.Pass)]),(5,B.blk 163 [C.fn 104 [] [C.ptr 0 0,C.ptr 1 0,C.ptr 3 0,C.ptr 4 0,C.ptr 5 0,C.ptr 6 0]]),(6,B.blk 114 [C.fn 116 [] [C.ptr 2 0]]),(7,B.row 3 1 ((x.2.1.flatMap eI).map C.d))])
def Q5:(List Bool×List Int×List qa×Int×qg)→R×List (Nat×B):=fun(e:List Bool×List Int×List qa×Int×qg)=>(R.c (C.d (D.sl 1 e.1.length (e.1.flatMap eB))),[(0,B.blk 26 [C.d (D.sl 8 e.2.2.1.length (e.2.2.1.flatMap qf))]),(1,B.blk 114 [C.fn 115 [] [C.ptr 2 0]]),(2,B.blk 22 [C.own 7 1 0 e.2.1.length]),(3,B.blk 3 [C.d (D.int .i64 e.2.2.2.1)]),(4,B.blk 28 [C.d (D.int .i64 e.2.2.2.2.Worst),C.d (D.int .i64 e.2.2.2.2.Best),C.d (D.int .i64 e.2.2.2.2.Pass)]),(5,B.blk 163 [C.fn 104 [] [C.ptr 0 0,C.ptr 1 0,C.ptr 3 0,C.ptr 4 0,C.ptr 5 0,C.ptr 6 0]]),(6,B.blk 114 [C.fn 116 [] [C.ptr 2 0]]),(7,B.row 3 1 ((e.2.1.flatMap eI).map C.d))])
def Zy (rF:(qb×List Int×List qa×Int×qg)→Option (List Bool×List Int×List qa×Int×qg)) (w7:List Int) (b0:List qa) (b3:Int) (b4:qg) (b8:qb):(List Bool×Int)→Option ((List Bool×Int)⊕(List Bool))|(w9,b10)=>if b10<((w9.length:Nat):Int) then Option.bind (q0n b3 b10 w7) fun(a2:Bool)=>if a2=Bool.true then Option.bind (q0H b8 b4 b0 b10) fun(a3:qK)=>if 0≤b10∧b10<((w9.length:Nat):Int) then if Int.toNat b10+1≤w9.length then some (Sum.inl (List.set w9 (Int.toNat b10) (zW a3 b8),w64 (b10+1))) else none else none else if 0≤b10∧b10<((w9.length:Nat):Int) then if Int.toNat b10+1≤w9.length then some (Sum.inl (List.set w9 (Int.toNat b10) Bool.false,w64 (b10+1))) else none else none else some (Sum.inr w9)
theorem q51 (rE:Orc) (rF:(qb×List Int×List qa×Int×qg)→Option (List Bool×List Int×List qa×Int×qg)) (hF:∀y,rE (.fn 104) 7 (zb y).1 (zb y).2=(rF y).bind fun e=>some (Q5 e)) (hM:∀g k a G,g≠104→rE (.fn g) k a G=ev g k a G) (hR:∀g asg bd k a G,rE (.rd g asg bd) k a G=evr g asg bd k a G):∀(w7:List Int) (w9:List Bool) (b0:List qa) (b3 QL Zu Zv J9 qav q0k:Int) (q0l:List qd) (qaw:List qb) (b10:Int) (Ju zI:Nat),Ju=w9.length→zI=w7.length→XL2 rE 104 7 5 ⟨[(1,rP 0),(2,rP 1),(3,rP 3),(4,rP 4),(7,rP 8),(9,rO 9 1 Ju),(10,R.c (C.fn 133 [] [])),(11,rP 10)],[(0,B.blk 26 [dL 8 qf b0]),(1,B.blk 114 [C.fn 115 [] [dP 2]]),(2,B.blk 22 [dO 7 1 zI]),(3,B.blk 3 [dI b3]),(4,B.blk 28 [dI QL,dI Zu,dI Zv]),(5,B.blk 163 [C.fn 104 [] [dP 0,dP 1,dP 3,dP 4,dP 5,dP 6]]),(6,B.blk 114 [C.fn 116 [] [dP 2]]),(7,bR 3 1 eI w7),(8,B.blk 36 [dI J9,dI qav,dI q0k,dL 2 qe q0l,dL 5 qh qaw]),(9,bR 4 1 eB w9),(10,B.blk 3 [dI b10])],11,142⟩=(zG (Zy rF w7 b0 b3 (qg.mk QL Zu Zv) (qb.mk J9 qav q0k q0l qaw)) (w9,b10)).bind (fun(e:List Bool)=>some (Exit.exit 0,⟨[(3,rP 3),(9,rO 8 1 e.length)],[(0,B.blk 26 [dL 8 qf b0]),(1,B.blk 114 [C.fn 115 [] [dP 2]]),(2,B.blk 22 [dO 7 1 w7.length]),(3,B.blk 3 [dI b3]),(4,B.blk 28 [dI QL,dI Zu,dI Zv]),(5,B.blk 163 [C.fn 104 [] [dP 0,dP 1,dP 3,dP 4,dP 5,dP 6]]),(6,B.blk 114 [C.fn 116 [] [dP 2]]),(7,bR 3 1 eI w7),(8,bR 4 1 eB e)],9,142⟩)):=
 by
 intro w7 w9 b0 b3 QL Zu Zv J9 qav q0k q0l qaw b10 Ju zI h0 h1
 subst h0 h1
 revert b10;revert w9;exact qcb qdt qdq (fun e=>by exact⟨_,rfl,fun h=>by cases h⟩) fun w9 b10=>by
  have hF':∀(qI Jk z7:Int) (z8:List qd) (Jl:List qb) (w7:List Int) (v:List qa) (v2 qG qT qU:Int) (zI:Nat),zI=w7.length→rE (.fn 104) 7 [R.agg [dI qI,dI Jk,dI z7,dL 2 qe z8,dL 5 qh Jl],rP 0,rP 1,rP 3,rP 4,rP 5,rP 6] [(0,B.blk 26 [dL 8 qf v]),(1,B.blk 114 [C.fn 115 [] [dP 2]]),(2,B.blk 22 [dO 7 1 zI]),(3,B.blk 3 [dI v2]),(4,B.blk 28 [dI qG,dI qT,dI qU]),(5,B.blk 163 [C.fn 104 [] [dP 0,dP 1,dP 3,dP 4,dP 5,dP 6]]),(6,B.blk 114 [C.fn 116 [] [dP 2]]),(7,bR 3 1 eI w7)]=(rF ((qb.mk qI Jk z7 z8 Jl),w7,v,v2,(qg.mk qG qT qU))).bind (fun e=>some (rL 1 eB e.1,[(0,B.blk 26 [dL 8 qf e.2.2.1]),(1,B.blk 114 [C.fn 115 [] [dP 2]]),(2,B.blk 22 [dO 7 1 e.2.1.length]),(3,B.blk 3 [dI e.2.2.2.1]),(4,B.blk 28 [dI e.2.2.2.2.Worst,dI e.2.2.2.2.Best,dI e.2.2.2.2.Pass]),(5,B.blk 163 [C.fn 104 [] [dP 0,dP 1,dP 3,dP 4,dP 5,dP 6]]),(6,B.blk 114 [C.fn 116 [] [dP 2]]),(7,bR 3 1 eI e.2.1)])):=by intro qI Jk z7 z8 Jl w7 v v2 qG qT qU zI h0;subst h0;exact hF ((qb.mk qI Jk z7 z8 Jl),w7,v,v2,(qg.mk qG qT qU))
  have:=q7Z;have:=@q9J.eq_1;have:=@q4H;have:=@q2x;have:=@q1h;have:=@Zy.eq_1;exact gA
def Zx (rF:(qb×List Int×List qa×Int×qg)→Option (List Bool×List Int×List qa×Int×qg)) (w7:List Int) (b0:List qa) (b3:Int) (b4:qg) (b8:qb):(List Bool×Int)→Option ((List Bool×Int)⊕(List Bool))|(w9,b10)=>if b10<((w9.length:Nat):Int) then Option.bind (q0n b3 b10 w7) fun(a2:Bool)=>if a2=Bool.true then Option.bind (q0H b8 b4 b0 b10) fun(a3:qK)=>if 0≤b10∧b10<((w9.length:Nat):Int) then if Int.toNat b10+1≤w9.length then some (Sum.inl (List.set w9 (Int.toNat b10) (Qq a3 b8),w64 (b10+1))) else none else none else if 0≤b10∧b10<((w9.length:Nat):Int) then if Int.toNat b10+1≤w9.length then some (Sum.inl (List.set w9 (Int.toNat b10) Bool.false,w64 (b10+1))) else none else none else some (Sum.inr w9)
theorem q58 (rE:Orc) (rF:(qb×List Int×List qa×Int×qg)→Option (List Bool×List Int×List qa×Int×qg)) (hF:∀y,rE (.fn 104) 7 (zb y).1 (zb y).2=(rF y).bind fun e=>some (Q5 e)) (hM:∀g k a G,g≠104→rE (.fn g) k a G=ev g k a G) (hR:∀g asg bd k a G,rE (.rd g asg bd) k a G=evr g asg bd k a G):∀(w7:List Int) (w9:List Bool) (b0:List qa) (b3 QL Zu Zv J9 qav q0k:Int) (q0l:List qd) (qaw:List qb) (b10:Int) (Ju zI:Nat),Ju=w9.length→zI=w7.length→XL2 rE 104 7 5 ⟨[(1,rP 0),(2,rP 1),(3,rP 3),(4,rP 4),(7,rP 8),(9,rO 9 1 Ju),(10,R.c (C.fn 134 [] [])),(11,rP 10)],[(0,B.blk 26 [dL 8 qf b0]),(1,B.blk 114 [C.fn 115 [] [dP 2]]),(2,B.blk 22 [dO 7 1 zI]),(3,B.blk 3 [dI b3]),(4,B.blk 28 [dI QL,dI Zu,dI Zv]),(5,B.blk 163 [C.fn 104 [] [dP 0,dP 1,dP 3,dP 4,dP 5,dP 6]]),(6,B.blk 114 [C.fn 116 [] [dP 2]]),(7,bR 3 1 eI w7),(8,B.blk 36 [dI J9,dI qav,dI q0k,dL 2 qe q0l,dL 5 qh qaw]),(9,bR 4 1 eB w9),(10,B.blk 3 [dI b10])],11,142⟩=(zG (Zx rF w7 b0 b3 (qg.mk QL Zu Zv) (qb.mk J9 qav q0k q0l qaw)) (w9,b10)).bind (fun(e:List Bool)=>some (Exit.exit 0,⟨[(3,rP 3),(9,rO 8 1 e.length)],[(0,B.blk 26 [dL 8 qf b0]),(1,B.blk 114 [C.fn 115 [] [dP 2]]),(2,B.blk 22 [dO 7 1 w7.length]),(3,B.blk 3 [dI b3]),(4,B.blk 28 [dI QL,dI Zu,dI Zv]),(5,B.blk 163 [C.fn 104 [] [dP 0,dP 1,dP 3,dP 4,dP 5,dP 6]]),(6,B.blk 114 [C.fn 116 [] [dP 2]]),(7,bR 3 1 eI w7),(8,bR 4 1 eB e)],9,142⟩)):=
 by
 intro w7 w9 b0 b3 QL Zu Zv J9 qav q0k q0l qaw b10 Ju zI h0 h1
 subst h0 h1
 revert b10;revert w9;exact qcb qdt qdq (fun e=>by exact⟨_,rfl,fun h=>by cases h⟩) fun w9 b10=>by
  have hF':∀(qI Jk z7:Int) (z8:List qd) (Jl:List qb) (w7:List Int) (v:List qa) (v2 qG qT qU:Int) (zI:Nat),zI=w7.length→rE (.fn 104) 7 [R.agg [dI qI,dI Jk,dI z7,dL 2 qe z8,dL 5 qh Jl],rP 0,rP 1,rP 3,rP 4,rP 5,rP 6] [(0,B.blk 26 [dL 8 qf v]),(1,B.blk 114 [C.fn 115 [] [dP 2]]),(2,B.blk 22 [dO 7 1 zI]),(3,B.blk 3 [dI v2]),(4,B.blk 28 [dI qG,dI qT,dI qU]),(5,B.blk 163 [C.fn 104 [] [dP 0,dP 1,dP 3,dP 4,dP 5,dP 6]]),(6,B.blk 114 [C.fn 116 [] [dP 2]]),(7,bR 3 1 eI w7)]=(rF ((qb.mk qI Jk z7 z8 Jl),w7,v,v2,(qg.mk qG qT qU))).bind (fun e=>some (rL 1 eB e.1,[(0,B.blk 26 [dL 8 qf e.2.2.1]),(1,B.blk 114 [C.fn 115 [] [dP 2]]),(2,B.blk 22 [dO 7 1 e.2.1.length]),(3,B.blk 3 [dI e.2.2.2.1]),(4,B.blk 28 [dI e.2.2.2.2.Worst,dI e.2.2.2.2.Best,dI e.2.2.2.2.Pass]),(5,B.blk 163 [C.fn 104 [] [dP 0,dP 1,dP 3,dP 4,dP 5,dP 6]]),(6,B.blk 114 [C.fn 116 [] [dP 2]]),(7,bR 3 1 eI e.2.1)])):=by intro qI Jk z7 z8 Jl w7 v v2 qG qT qU zI h0;subst h0;exact hF ((qb.mk qI Jk z7 z8 Jl),w7,v,v2,(qg.mk qG qT qU))
  have:=q7Z;have:=@q9J.eq_1;have:=@q4H;have:=@q2x;have:=@q2d;have:=@Zx.eq_1;exact gA
def QT (rF:(qb×List Int×List qa×Int×qg)→Option (List Bool×List Int×List qa×Int×qg)) (w7:List Int) (w9:List Bool) (b0:List qa) (b3:Int) (b4:qg) (b8:qb):(List Int×Int)→Option ((List Int×Int)⊕(List Int))|(w11,t13)=>if t13<((w11.length:Nat):Int) then if 0≤t13∧t13<((w11.length:Nat):Int) then if Int.toNat t13+1≤w11.length then some (Sum.inl (List.set w11 (Int.toNat t13) (-1),w64 (t13+1))) else none else none else some (Sum.inr w11)
theorem q4i (rE:Orc) (rF:(qb×List Int×List qa×Int×qg)→Option (List Bool×List Int×List qa×Int×qg)) (hF:∀y,rE (.fn 104) 7 (zb y).1 (zb y).2=(rF y).bind fun e=>some (Q5 e)) (hM:∀g k a G,g≠104→rE (.fn g) k a G=ev g k a G) (hR:∀g asg bd k a G,rE (.rd g asg bd) k a G=evr g asg bd k a G):∀(w7:List Int) (w9:List Bool) (w11:List Int) (b0:List qa) (b3 QL Zu Zv J9 qav q0k:Int) (q0l:List qd) (qaw:List qb) (t13:Int) (Ju zI q3G:Nat),Ju=w9.length→zI=w7.length→q3G=w11.length→XL2 rE 104 7 14 ⟨[(3,rP 3),(5,rP 5),(6,rP 6),(7,rP 8),(9,rO 9 1 Ju),(12,rP 10),(13,rI t13)],[(0,B.blk 26 [dL 8 qf b0]),(1,B.blk 114 [C.fn 115 [] [dP 2]]),(2,B.blk 22 [dO 7 1 zI]),(3,B.blk 3 [dI b3]),(4,B.blk 28 [dI QL,dI Zu,dI Zv]),(5,B.blk 163 [C.fn 104 [] [dP 0,dP 1,dP 3,dP 4,dP 5,dP 6]]),(6,B.blk 114 [C.fn 116 [] [dP 2]]),(7,bR 3 1 eI w7),(8,B.blk 36 [dI J9,dI qav,dI q0k,dL 2 qe q0l,dL 5 qh qaw]),(9,bR 4 1 eB w9),(10,B.blk 164 [dO 11 1 q3G]),(11,bR 3 1 eI w11)],12,142⟩=(zG (QT rF w7 w9 b0 b3 (qg.mk QL Zu Zv) (qb.mk J9 qav q0k q0l qaw)) (w11,t13)).bind (fun(e:List Int)=>some (Exit.exit 2,⟨[(3,rP 3),(5,rP 5),(6,rP 6),(7,rP 8),(9,rO 9 1 w9.length),(12,rP 10)],[(0,B.blk 26 [dL 8 qf b0]),(1,B.blk 114 [C.fn 115 [] [dP 2]]),(2,B.blk 22 [dO 7 1 w7.length]),(3,B.blk 3 [dI b3]),(4,B.blk 28 [dI QL,dI Zu,dI Zv]),(5,B.blk 163 [C.fn 104 [] [dP 0,dP 1,dP 3,dP 4,dP 5,dP 6]]),(6,B.blk 114 [C.fn 116 [] [dP 2]]),(7,bR 3 1 eI w7),(8,B.blk 36 [dI J9,dI qav,dI q0k,dL 2 qe q0l,dL 5 qh qaw]),(9,bR 4 1 eB w9),(10,B.blk 164 [dO 11 1 e.length]),(11,bR 3 1 eI e)],12,142⟩)):=
 by
 intro w7 w9 w11 b0 b3 QL Zu Zv J9 qav q0k q0l qaw t13 Ju zI q3G h0 h1 h2
 subst h0 h1 h2
 revert t13;revert w11;exact qcb qiA qin (fun e=>by exact⟨_,rfl,fun h=>by cases h⟩) fun w11 t13=>by
  have hF':∀(qI Jk z7:Int) (z8:List qd) (Jl:List qb) (w7:List Int) (v:List qa) (v2 qG qT qU:Int) (zI:Nat),zI=w7.length→rE (.fn 104) 7 [R.agg [dI qI,dI Jk,dI z7,dL 2 qe z8,dL 5 qh Jl],rP 0,rP 1,rP 3,rP 4,rP 5,rP 6] [(0,B.blk 26 [dL 8 qf v]),(1,B.blk 114 [C.fn 115 [] [dP 2]]),(2,B.blk 22 [dO 7 1 zI]),(3,B.blk 3 [dI v2]),(4,B.blk 28 [dI qG,dI qT,dI qU]),(5,B.blk 163 [C.fn 104 [] [dP 0,dP 1,dP 3,dP 4,dP 5,dP 6]]),(6,B.blk 114 [C.fn 116 [] [dP 2]]),(7,bR 3 1 eI w7)]=(rF ((qb.mk qI Jk z7 z8 Jl),w7,v,v2,(qg.mk qG qT qU))).bind (fun e=>some (rL 1 eB e.1,[(0,B.blk 26 [dL 8 qf e.2.2.1]),(1,B.blk 114 [C.fn 115 [] [dP 2]]),(2,B.blk 22 [dO 7 1 e.2.1.length]),(3,B.blk 3 [dI e.2.2.2.1]),(4,B.blk 28 [dI e.2.2.2.2.Worst,dI e.2.2.2.2.Best,dI e.2.2.2.2.Pass]),(5,B.blk 163 [C.fn 104 [] [dP 0,dP 1,dP 3,dP 4,dP 5,dP 6]]),(6,B.blk 114 [C.fn 116 [] [dP 2]]),(7,bR 3 1 eI e.2.1)])):=by intro qI Jk z7 z8 Jl w7 v v2 qG qT qU zI h0;subst h0;exact hF ((qb.mk qI Jk z7 z8 Jl),w7,v,v2,(qg.mk qG qT qU))
  have:=q7Z;have:=@qaE.eq_1;have:=@QT.eq_1;exact gA
def Qw (rF:(qb×List Int×List qa×Int×qg)→Option (List Bool×List Int×List qa×Int×qg)) (w7:List Int) (w9:List Bool) (w11:List Int) (b0:List qa) (b3:Int) (b4:qg) (b8:qb) (b12:List Bool) (t18:Bool) (t72:List qb) (t73:Int) (t74:Int) (t96:Int):(List Int×Int)→Option ((List Int×Int)⊕(List Int))|(w14,t97)=>if t97<t96 then if 0≤t97∧t97<((w14.length:Nat):Int) then if Int.toNat t97+1≤w14.length then if t18=Bool.true then if 0≤t97∧t97<((w11.length:Nat):Int) then Option.bind w11[Int.toNat t97]? fun(a2:Int)=>if 0≤t97∧t97<((w14.length:Nat):Int) then if Int.toNat t97+1≤w14.length then Option.bind (Qc t97 w11 (List.set (List.set w14 (Int.toNat t97) (-1)) (Int.toNat t97) a2) b12 t97) fun(a3:List Int)=>some (Sum.inl (a3,w64 (t97+1))) else none else none else none else Option.bind (Qc t97 w11 (List.set w14 (Int.toNat t97) (-1)) b12 t97) fun(a4:List Int)=>some (Sum.inl (a4,w64 (t97+1))) else none else none else some (Sum.inr w14)
theorem q4G (rE:Orc) (rF:(qb×List Int×List qa×Int×qg)→Option (List Bool×List Int×List qa×Int×qg)) (hF:∀y,rE (.fn 104) 7 (zb y).1 (zb y).2=(rF y).bind fun e=>some (Q5 e)) (hM:∀g k a G,g≠104→rE (.fn g) k a G=ev g k a G) (hR:∀g asg bd k a G,rE (.rd g asg bd) k a G=evr g asg bd k a G):∀(w7:List Int) (w9:List Bool) (w11 w14:List Int) (b0:List qa) (b3 QL Zu Zv J9 qav q0k:Int) (q0l:List qd) (qaw:List qb) (b12:List Bool) (t18:Bool) (t72:List qb) (t73 t74 t96 t97:Int) (Ju zI q3G qhA:Nat),Ju=w9.length→zI=w7.length→q3G=w11.length→qhA=w14.length→XL2 rE 104 7 25 ⟨[(3,rP 3),(5,rP 5),(6,rP 6),(7,rP 8),(9,rO 9 1 Ju),(12,rP 10),(17,rP 12),(18,rB t18),(19,rP 13),(72,rL 5 qh t72),(73,rI t73),(74,rI t74),(96,rI t96),(97,rI t97)],[(0,B.blk 26 [dL 8 qf b0]),(1,B.blk 114 [C.fn 115 [] [dP 2]]),(2,B.blk 22 [dO 7 1 zI]),(3,B.blk 3 [dI b3]),(4,B.blk 28 [dI QL,dI Zu,dI Zv]),(5,B.blk 163 [C.fn 104 [] [dP 0,dP 1,dP 3,dP 4,dP 5,dP 6]]),(6,B.blk 114 [C.fn 116 [] [dP 2]]),(7,bR 3 1 eI w7),(8,B.blk 36 [dI J9,dI qav,dI q0k,dL 2 qe q0l,dL 5 qh qaw]),(9,bR 4 1 eB w9),(10,B.blk 164 [dO 11 1 q3G]),(11,bR 3 1 eI w11),(12,B.blk 115 [dL 1 eB b12]),(13,B.blk 164 [dO 14 1 qhA]),(14,bR 3 1 eI w14)],15,142⟩=(zG (Qw rF w7 w9 w11 b0 b3 (qg.mk QL Zu Zv) (qb.mk J9 qav q0k q0l qaw) b12 t18 t72 t73 t74 t96) (w14,t97)).bind (fun(e:List Int)=>some (Exit.exit 6,⟨[(3,rP 3),(5,rP 5),(6,rP 6),(7,rP 8),(9,rO 9 1 w9.length),(12,rP 10),(19,rP 12),(72,rL 5 qh t72),(73,rI t73),(74,rI t74)],[(0,B.blk 26 [dL 8 qf b0]),(1,B.blk 114 [C.fn 115 [] [dP 2]]),(2,B.blk 22 [dO 7 1 w7.length]),(3,B.blk 3 [dI b3]),(4,B.blk 28 [dI QL,dI Zu,dI Zv]),(5,B.blk 163 [C.fn 104 [] [dP 0,dP 1,dP 3,dP 4,dP 5,dP 6]]),(6,B.blk 114 [C.fn 116 [] [dP 2]]),(7,bR 3 1 eI w7),(8,B.blk 36 [dI J9,dI qav,dI q0k,dL 2 qe q0l,dL 5 qh qaw]),(9,bR 4 1 eB w9),(10,B.blk 164 [dO 11 1 w11.length]),(11,bR 3 1 eI w11),(12,B.blk 164 [dO 13 1 e.length]),(13,bR 3 1 eI e)],14,142⟩)):=
 by
 intro w7 w9 w11 w14 b0 b3 QL Zu Zv J9 qav q0k q0l qaw b12 t18 t72 t73 t74 t96 t97 Ju zI q3G qhA h0 h1 h2 h3
 subst h0 h1 h2 h3
 revert t97;revert w14;exact qcb qiZ qj4 (fun e=>by exact⟨_,rfl,fun h=>by cases h⟩) fun w14 t97=>by
  have hF':∀(qI Jk z7:Int) (z8:List qd) (Jl:List qb) (w7:List Int) (v:List qa) (v2 qG qT qU:Int) (zI:Nat),zI=w7.length→rE (.fn 104) 7 [R.agg [dI qI,dI Jk,dI z7,dL 2 qe z8,dL 5 qh Jl],rP 0,rP 1,rP 3,rP 4,rP 5,rP 6] [(0,B.blk 26 [dL 8 qf v]),(1,B.blk 114 [C.fn 115 [] [dP 2]]),(2,B.blk 22 [dO 7 1 zI]),(3,B.blk 3 [dI v2]),(4,B.blk 28 [dI qG,dI qT,dI qU]),(5,B.blk 163 [C.fn 104 [] [dP 0,dP 1,dP 3,dP 4,dP 5,dP 6]]),(6,B.blk 114 [C.fn 116 [] [dP 2]]),(7,bR 3 1 eI w7)]=(rF ((qb.mk qI Jk z7 z8 Jl),w7,v,v2,(qg.mk qG qT qU))).bind (fun e=>some (rL 1 eB e.1,[(0,B.blk 26 [dL 8 qf e.2.2.1]),(1,B.blk 114 [C.fn 115 [] [dP 2]]),(2,B.blk 22 [dO 7 1 e.2.1.length]),(3,B.blk 3 [dI e.2.2.2.1]),(4,B.blk 28 [dI e.2.2.2.2.Worst,dI e.2.2.2.2.Best,dI e.2.2.2.2.Pass]),(5,B.blk 163 [C.fn 104 [] [dP 0,dP 1,dP 3,dP 4,dP 5,dP 6]]),(6,B.blk 114 [C.fn 116 [] [dP 2]]),(7,bR 3 1 eI e.2.1)])):=by intro qI Jk z7 z8 Jl w7 v v2 qG qT qU zI h0;subst h0;exact hF ((qb.mk qI Jk z7 z8 Jl),w7,v,v2,(qg.mk qG qT qU))
  have:=q7Z;have:=@qaN.eq_1;have:=@q1W;have:=@Qw.eq_1;exact gA
def QQ (rF:(qb×List Int×List qa×Int×qg)→Option (List Bool×List Int×List qa×Int×qg)) (w9:List Bool) (b8:qb) (t72:List qb) (t73:Int):(List Int×List Int×List qa×Int×qg×Int)→Option ((List Int×List Int×List qa×Int×qg×Int)⊕(List Int×List Int×List qa×Int×qg))|(w7,w11,b0,b3,b4,t74)=>if t74<t73 then if 0≤t74∧t74<((t72.length:Nat):Int) then Option.bind t72[Int.toNat t74]? fun(a2:qb)=>Option.bind (rF (a2,(w7,(b0,(b3,b4))))) fun(a3:Prod (List Bool) (Prod (List Int) (Prod (List qa) (Prod Int qg))))=>if(b8.Kind==4)=Bool.true then Option.bind (q1p b3 a3.2.2.2.1 a3.2.1) fun(a4:Bool)=>if 0≤((w11.length:Nat):Int)∧8*((w11.length:Nat):Int)≤281474976710656∧((w11.length:Nat):Int)≤9223372036854775807 then Option.bind (zG (Qw rF a3.2.1 w9 w11 a3.2.2.1 a3.2.2.2.1 a3.2.2.2.2 b8 a3.1 (!a4) t72 t73 t74 ((w11.length:Nat):Int)) (List.replicate w11.length 0,0)) fun(a5:List Int)=>some (Sum.inl (a3.2.1,a5,a3.2.2.1,a3.2.2.2.1,a3.2.2.2.2,w64 (t74+1))) else none else if 0≤((w11.length:Nat):Int)∧8*((w11.length:Nat):Int)≤281474976710656∧((w11.length:Nat):Int)≤9223372036854775807 then Option.bind (zG (Qw rF a3.2.1 w9 w11 a3.2.2.1 a3.2.2.2.1 a3.2.2.2.2 b8 a3.1 Bool.false t72 t73 t74 ((w11.length:Nat):Int)) (List.replicate w11.length 0,0)) fun(a6:List Int)=>some (Sum.inl (a3.2.1,a6,a3.2.2.1,a3.2.2.2.1,a3.2.2.2.2,w64 (t74+1))) else none else none else some (Sum.inr (w7,w11,b0,b3,b4))
theorem q5D (rE:Orc) (rF:(qb×List Int×List qa×Int×qg)→Option (List Bool×List Int×List qa×Int×qg)) (hF:∀y,rE (.fn 104) 7 (zb y).1 (zb y).2=(rF y).bind fun e=>some (Q5 e)) (hM:∀g k a G,g≠104→rE (.fn g) k a G=ev g k a G) (hR:∀g asg bd k a G,rE (.rd g asg bd) k a G=evr g asg bd k a G):∀(w7:List Int) (w9:List Bool) (w11:List Int) (b0:List qa) (b3 QL Zu Zv J9 qav q0k:Int) (q0l:List qd) (qaw t72:List qb) (t73 t74:Int) (Ju zI q3G:Nat),Ju=w9.length→zI=w7.length→q3G=w11.length→XL2 rE 104 7 18 ⟨[(3,rP 3),(5,rP 5),(6,rP 6),(7,rP 8),(9,rO 9 1 Ju),(12,rP 10),(72,rL 5 qh t72),(73,rI t73),(74,rI t74)],[(0,B.blk 26 [dL 8 qf b0]),(1,B.blk 114 [C.fn 115 [] [dP 2]]),(2,B.blk 22 [dO 7 1 zI]),(3,B.blk 3 [dI b3]),(4,B.blk 28 [dI QL,dI Zu,dI Zv]),(5,B.blk 163 [C.fn 104 [] [dP 0,dP 1,dP 3,dP 4,dP 5,dP 6]]),(6,B.blk 114 [C.fn 116 [] [dP 2]]),(7,bR 3 1 eI w7),(8,B.blk 36 [dI J9,dI qav,dI q0k,dL 2 qe q0l,dL 5 qh qaw]),(9,bR 4 1 eB w9),(10,B.blk 164 [dO 11 1 q3G]),(11,bR 3 1 eI w11)],12,142⟩=(zG (QQ rF w9 (qb.mk J9 qav q0k q0l qaw) t72 t73) (w7,w11,b0,b3,(qg.mk QL Zu Zv),t74)).bind (fun(e:List Int×List Int×List qa×Int×qg)=>some (Exit.exit 4,⟨[(7,rP 8),(9,rO 9 1 w9.length),(12,rP 10)],[(0,B.blk 26 [dL 8 qf e.2.2.1]),(1,B.blk 114 [C.fn 115 [] [dP 2]]),(2,B.blk 22 [dO 7 1 e.1.length]),(3,B.blk 3 [dI e.2.2.2.1]),(4,B.blk 28 [dI e.2.2.2.2.Worst,dI e.2.2.2.2.Best,dI e.2.2.2.2.Pass]),(5,B.blk 163 [C.fn 104 [] [dP 0,dP 1,dP 3,dP 4,dP 5,dP 6]]),(6,B.blk 114 [C.fn 116 [] [dP 2]]),(7,bR 3 1 eI e.1),(8,B.blk 36 [dI J9,dI qav,dI q0k,dL 2 qe q0l,dL 5 qh qaw]),(9,bR 4 1 eB w9),(10,B.blk 164 [dO 11 1 e.2.1.length]),(11,bR 3 1 eI e.2.1)],12,142⟩)):=
 by
 intro w7 w9 w11 b0 b3 QL Zu Zv J9 qav q0k q0l qaw t72 t73 t74 Ju zI q3G h0 h1 h2
 subst h0 h1 h2
 have h:=q6p (E:=rE) (f:=104) (k:=7) (st:=fun x:List Int×List Int×List qa×Int×qg×Int=>(⟨[(3,rP 3),(5,rP 5),(6,rP 6),(7,rP 8),(9,rO 9 1 w9.length),(12,rP 10),(72,rL 5 qh t72),(73,rI t73),(74,rI x.2.2.2.2.2)],[(0,B.blk 26 [dL 8 qf x.2.2.1]),(1,B.blk 114 [C.fn 115 [] [dP 2]]),(2,B.blk 22 [dO 7 1 x.1.length]),(3,B.blk 3 [dI x.2.2.2.1]),(4,B.blk 28 [dI x.2.2.2.2.1.Worst,dI x.2.2.2.2.1.Best,dI x.2.2.2.2.1.Pass]),(5,B.blk 163 [C.fn 104 [] [dP 0,dP 1,dP 3,dP 4,dP 5,dP 6]]),(6,B.blk 114 [C.fn 116 [] [dP 2]]),(7,bR 3 1 eI x.1),(8,B.blk 36 [dI J9,dI qav,dI q0k,dL 2 qe q0l,dL 5 qh qaw]),(9,bR 4 1 eB w9),(10,B.blk 164 [dO 11 1 x.2.1.length]),(11,bR 3 1 eI x.2.1)],12,142⟩:S)) (ex:=fun(e:List Int×List Int×List qa×Int×qg)=>(Exit.exit 4,⟨[(7,rP 8),(9,rO 9 1 w9.length),(12,rP 10)],[(0,B.blk 26 [dL 8 qf e.2.2.1]),(1,B.blk 114 [C.fn 115 [] [dP 2]]),(2,B.blk 22 [dO 7 1 e.1.length]),(3,B.blk 3 [dI e.2.2.2.1]),(4,B.blk 28 [dI e.2.2.2.2.Worst,dI e.2.2.2.2.Best,dI e.2.2.2.2.Pass]),(5,B.blk 163 [C.fn 104 [] [dP 0,dP 1,dP 3,dP 4,dP 5,dP 6]]),(6,B.blk 114 [C.fn 116 [] [dP 2]]),(7,bR 3 1 eI e.1),(8,B.blk 36 [dI J9,dI qav,dI q0k,dL 2 qe q0l,dL 5 qh qaw]),(9,bR 4 1 eB w9),(10,B.blk 164 [dO 11 1 e.2.1.length]),(11,bR 3 1 eI e.2.1)],12,142⟩)) (step:=(QQ rF w9 (qb.mk J9 qav q0k q0l qaw) t72 t73)) qhX qim (fun e h=>by cases h) (fun x=>by
  obtain⟨w7,w11,b0,b3,b4,t74⟩:=x;have hF':∀(qI Jk z7:Int) (z8:List qd) (Jl:List qb) (w7:List Int) (v:List qa) (v2 qG qT qU:Int) (zI:Nat),zI=w7.length→rE (.fn 104) 7 [R.agg [dI qI,dI Jk,dI z7,dL 2 qe z8,dL 5 qh Jl],rP 0,rP 1,rP 3,rP 4,rP 5,rP 6] [(0,B.blk 26 [dL 8 qf v]),(1,B.blk 114 [C.fn 115 [] [dP 2]]),(2,B.blk 22 [dO 7 1 zI]),(3,B.blk 3 [dI v2]),(4,B.blk 28 [dI qG,dI qT,dI qU]),(5,B.blk 163 [C.fn 104 [] [dP 0,dP 1,dP 3,dP 4,dP 5,dP 6]]),(6,B.blk 114 [C.fn 116 [] [dP 2]]),(7,bR 3 1 eI w7)]=(rF ((qb.mk qI Jk z7 z8 Jl),w7,v,v2,(qg.mk qG qT qU))).bind (fun e=>some (rL 1 eB e.1,[(0,B.blk 26 [dL 8 qf e.2.2.1]),(1,B.blk 114 [C.fn 115 [] [dP 2]]),(2,B.blk 22 [dO 7 1 e.2.1.length]),(3,B.blk 3 [dI e.2.2.2.1]),(4,B.blk 28 [dI e.2.2.2.2.Worst,dI e.2.2.2.2.Best,dI e.2.2.2.2.Pass]),(5,B.blk 163 [C.fn 104 [] [dP 0,dP 1,dP 3,dP 4,dP 5,dP 6]]),(6,B.blk 114 [C.fn 116 [] [dP 2]]),(7,bR 3 1 eI e.2.1)])):=by intro qI Jk z7 z8 Jl w7 v v2 qG qT qU zI h0;subst h0;exact hF ((qb.mk qI Jk z7 z8 Jl),w7,v,v2,(qg.mk qG qT qU))
  have:=q7Z;have:=@qaP.eq_1;have:=@q9o;have:=q4G rE rF hF hM hR;have:=@QQ.eq_1;exact gA) (w7,w11,b0,b3,(qg.mk QL Zu Zv),t74)
 exact h
def QP (rF:(qb×List Int×List qa×Int×qg)→Option (List Bool×List Int×List qa×Int×qg)) (w7:List Int) (w10:List Int) (b0:List qa) (b3:Int) (b4:qg) (t21:Int):(List Bool×Int)→Option ((List Bool×Int)⊕(List Bool))|(w8,t22)=>if t22<((w8.length:Nat):Int) then if 0≤t22∧t22<((w10.length:Nat):Int) then Option.bind w10[Int.toNat t22]? fun(a2:Int)=>if 0≤t22∧t22<((w8.length:Nat):Int) then if Int.toNat t22+1≤w8.length then some (Sum.inl (List.set w8 (Int.toNat t22) (decide (t21≤a2)),w64 (t22+1))) else none else none else none else some (Sum.inr w8)
theorem q5u (rE:Orc) (rF:(qb×List Int×List qa×Int×qg)→Option (List Bool×List Int×List qa×Int×qg)) (hF:∀y,rE (.fn 104) 7 (zb y).1 (zb y).2=(rF y).bind fun e=>some (Q5 e)) (hM:∀g k a G,g≠104→rE (.fn g) k a G=ev g k a G) (hR:∀g asg bd k a G,rE (.rd g asg bd) k a G=evr g asg bd k a G):∀(w7:List Int) (w8:List Bool) (w10:List Int) (b0:List qa) (b3 QL Zu Zv t21 t22:Int) (qbZ zI qhB:Nat),qbZ=w8.length→zI=w7.length→qhB=w10.length→XL2 rE 104 7 38 ⟨[(9,rO 8 1 qbZ),(12,rP 9),(21,rI t21),(22,rI t22)],[(0,B.blk 26 [dL 8 qf b0]),(1,B.blk 114 [C.fn 115 [] [dP 2]]),(2,B.blk 22 [dO 7 1 zI]),(3,B.blk 3 [dI b3]),(4,B.blk 28 [dI QL,dI Zu,dI Zv]),(5,B.blk 163 [C.fn 104 [] [dP 0,dP 1,dP 3,dP 4,dP 5,dP 6]]),(6,B.blk 114 [C.fn 116 [] [dP 2]]),(7,bR 3 1 eI w7),(8,bR 4 1 eB w8),(9,B.blk 164 [dO 10 1 qhB]),(10,bR 3 1 eI w10)],11,142⟩=(zG (QP rF w7 w10 b0 b3 (qg.mk QL Zu Zv) t21) (w8,t22)).bind (fun(e:List Bool)=>some (Exit.exit 8,⟨[(9,rO 8 1 e.length)],[(0,B.blk 26 [dL 8 qf b0]),(1,B.blk 114 [C.fn 115 [] [dP 2]]),(2,B.blk 22 [dO 7 1 w7.length]),(3,B.blk 3 [dI b3]),(4,B.blk 28 [dI QL,dI Zu,dI Zv]),(5,B.blk 163 [C.fn 104 [] [dP 0,dP 1,dP 3,dP 4,dP 5,dP 6]]),(6,B.blk 114 [C.fn 116 [] [dP 2]]),(7,bR 3 1 eI w7),(8,bR 4 1 eB e)],9,142⟩)):=
 by
 intro w7 w8 w10 b0 b3 QL Zu Zv t21 t22 qbZ zI qhB h0 h1 h2
 subst h0 h1 h2
 revert t22;revert w8;exact qcb qiO qih (fun e=>by exact⟨_,rfl,fun h=>by cases h⟩) fun w8 t22=>by
  have hF':∀(qI Jk z7:Int) (z8:List qd) (Jl:List qb) (w7:List Int) (v:List qa) (v2 qG qT qU:Int) (zI:Nat),zI=w7.length→rE (.fn 104) 7 [R.agg [dI qI,dI Jk,dI z7,dL 2 qe z8,dL 5 qh Jl],rP 0,rP 1,rP 3,rP 4,rP 5,rP 6] [(0,B.blk 26 [dL 8 qf v]),(1,B.blk 114 [C.fn 115 [] [dP 2]]),(2,B.blk 22 [dO 7 1 zI]),(3,B.blk 3 [dI v2]),(4,B.blk 28 [dI qG,dI qT,dI qU]),(5,B.blk 163 [C.fn 104 [] [dP 0,dP 1,dP 3,dP 4,dP 5,dP 6]]),(6,B.blk 114 [C.fn 116 [] [dP 2]]),(7,bR 3 1 eI w7)]=(rF ((qb.mk qI Jk z7 z8 Jl),w7,v,v2,(qg.mk qG qT qU))).bind (fun e=>some (rL 1 eB e.1,[(0,B.blk 26 [dL 8 qf e.2.2.1]),(1,B.blk 114 [C.fn 115 [] [dP 2]]),(2,B.blk 22 [dO 7 1 e.2.1.length]),(3,B.blk 3 [dI e.2.2.2.1]),(4,B.blk 28 [dI e.2.2.2.2.Worst,dI e.2.2.2.2.Best,dI e.2.2.2.2.Pass]),(5,B.blk 163 [C.fn 104 [] [dP 0,dP 1,dP 3,dP 4,dP 5,dP 6]]),(6,B.blk 114 [C.fn 116 [] [dP 2]]),(7,bR 3 1 eI e.2.1)])):=by intro qI Jk z7 z8 Jl w7 v v2 qG qT qU zI h0;subst h0;exact hF ((qb.mk qI Jk z7 z8 Jl),w7,v,v2,(qg.mk qG qT qU))
  have:=q7Z;have:=@qaK.eq_1;have:=@QP.eq_1;exact gA
def JU (rF:(qb×List Int×List qa×Int×qg)→Option (List Bool×List Int×List qa×Int×qg)):(qb×List Int×List qa×Int×qg)→Option (List Bool×List Int×List qa×Int×qg)|(x0,w7,v,v2,v3)=>if 0≤((v.length:Nat):Int) then if 0≤w64 (1*2 ^ min v.length (IntKind.bits IntKind.i64))∧1*w64 (1*2 ^ min v.length (IntKind.bits IntKind.i64))≤281474976710656∧w64 (1*2 ^ min v.length (IntKind.bits IntKind.i64))≤9223372036854775807 then if JF x0=Bool.true then Option.bind (q0P x0.Kind) fun(a2:Sum Unit Unit)=>Sum.elim (fun(a3:Unit)=>Option.bind (zG (Zy rF w7 v v2 v3 x0) (List.replicate (Int.toNat (w64 (1*2 ^ min v.length (IntKind.bits IntKind.i64)))) Bool.false,1)) fun(a5:List Bool)=>some (a5,w7,v,w64 (v2+1),v3)) (fun(a4:Unit)=>Option.bind (zG (Zx rF w7 v v2 v3 x0) (List.replicate (Int.toNat (w64 (1*2 ^ min v.length (IntKind.bits IntKind.i64)))) Bool.false,1)) fun(a6:List Bool)=>some (a6,w7,v,w64 (v2+1),v3)) a2 else if 0≤((Int.toNat (w64 (1*2 ^ min v.length (IntKind.bits IntKind.i64))):Nat):Int)∧8*((Int.toNat (w64 (1*2 ^ min v.length (IntKind.bits IntKind.i64))):Nat):Int)≤281474976710656∧((Int.toNat (w64 (1*2 ^ min v.length (IntKind.bits IntKind.i64))):Nat):Int)≤9223372036854775807 then Option.bind (zG (QT rF w7 (List.replicate (Int.toNat (w64 (1*2 ^ min v.length (IntKind.bits IntKind.i64)))) Bool.false) v v2 v3 x0) (List.replicate (Int.toNat (w64 (1*2 ^ min v.length (IntKind.bits IntKind.i64)))) 0,1)) fun(a7:List Int)=>Option.bind (zG (QQ rF (List.replicate (Int.toNat (w64 (1*2 ^ min v.length (IntKind.bits IntKind.i64)))) Bool.false) x0 x0.L ((x0.L.length:Nat):Int)) (w7,(a7,(v,(v2,(v3,0)))))) fun(a8:Prod (List Int) (Prod (List Int) (Prod (List qa) (Prod Int qg))))=>if(x0.Kind==3)=Bool.true then Option.bind (zG (QP rF a8.1 a8.2.1 a8.2.2.1 a8.2.2.2.1 a8.2.2.2.2 ((x0.L.length:Nat):Int)) (List.replicate (Int.toNat (w64 (1*2 ^ min v.length (IntKind.bits IntKind.i64)))) Bool.false,1)) fun(a9:List Bool)=>some (a9,a8.1,a8.2.2.1,a8.2.2.2.1,a8.2.2.2.2) else Option.bind (zG (QP rF a8.1 a8.2.1 a8.2.2.1 a8.2.2.2.1 a8.2.2.2.2 x0.N) (List.replicate (Int.toNat (w64 (1*2 ^ min v.length (IntKind.bits IntKind.i64)))) Bool.false,1)) fun(a10:List Bool)=>some (a10,a8.1,a8.2.2.1,a8.2.2.2.1,a8.2.2.2.2) else none else none else none
theorem q3U:q7W 104 7 zb Q5 JU:=by
 intro rE rF hF hM hR x
 obtain⟨x0,w7,v,v2,v3⟩:=x
 show qa7 rE 104 7 [R.agg [dI x0.Kind,dI x0.N,dI x0.Min,dL 2 qe x0.Set,dL 5 qh x0.L],rP 0,rP 1,rP 3,rP 4,rP 5,rP 6] [(0,B.blk 26 [dL 8 qf v]),(1,B.blk 114 [C.fn 115 [] [dP 2]]),(2,B.blk 22 [dO 7 1 w7.length]),(3,B.blk 3 [dI v2]),(4,B.blk 28 [dI v3.Worst,dI v3.Best,dI v3.Pass]),(5,B.blk 163 [C.fn 104 [] [dP 0,dP 1,dP 3,dP 4,dP 5,dP 6]]),(6,B.blk 114 [C.fn 116 [] [dP 2]]),(7,bR 3 1 eI w7)]=_
 have hF':∀(qI Jk z7:Int) (z8:List qd) (Jl:List qb) (w7:List Int) (v:List qa) (v2 qG qT qU:Int) (zI:Nat),zI=w7.length→rE (.fn 104) 7 [R.agg [dI qI,dI Jk,dI z7,dL 2 qe z8,dL 5 qh Jl],rP 0,rP 1,rP 3,rP 4,rP 5,rP 6] [(0,B.blk 26 [dL 8 qf v]),(1,B.blk 114 [C.fn 115 [] [dP 2]]),(2,B.blk 22 [dO 7 1 zI]),(3,B.blk 3 [dI v2]),(4,B.blk 28 [dI qG,dI qT,dI qU]),(5,B.blk 163 [C.fn 104 [] [dP 0,dP 1,dP 3,dP 4,dP 5,dP 6]]),(6,B.blk 114 [C.fn 116 [] [dP 2]]),(7,bR 3 1 eI w7)]=(rF ((qb.mk qI Jk z7 z8 Jl),w7,v,v2,(qg.mk qG qT qU))).bind (fun e=>some (rL 1 eB e.1,[(0,B.blk 26 [dL 8 qf e.2.2.1]),(1,B.blk 114 [C.fn 115 [] [dP 2]]),(2,B.blk 22 [dO 7 1 e.2.1.length]),(3,B.blk 3 [dI e.2.2.2.1]),(4,B.blk 28 [dI e.2.2.2.2.Worst,dI e.2.2.2.2.Best,dI e.2.2.2.2.Pass]),(5,B.blk 163 [C.fn 104 [] [dP 0,dP 1,dP 3,dP 4,dP 5,dP 6]]),(6,B.blk 114 [C.fn 116 [] [dP 2]]),(7,bR 3 1 eI e.2.1)])):=by intro qI Jk z7 z8 Jl w7 v v2 qG qT qU zI h0;subst h0;exact hF ((qb.mk qI Jk z7 z8 Jl),w7,v,v2,(qg.mk qG qT qU))
 rw[q4T qdh qfW]
 have:=q7Z;have:=@q3g;have:=@q40;have:=q51 rE rF hF hM hR;have:=q58 rE rF hF hM hR;have:=q4i rE rF hF hM hR;have:=q5D rE rF hF hM hR;have:=q5u rE rF hF hM hR;have:=@JU.eq_1;have:=@Q5.eq_1;exact gA
theorem q2b:∀x y,zb x=zb y→x=y:=by
 rintro⟨⟨qC1,qC2,qC3,qC4,qC5⟩,a1,a2,a3,⟨qKM,qKN,qKO⟩⟩ ⟨⟨qC6,qC7,qC8,qC9,qCa⟩,b1,b2,b3,⟨qKP,qKQ,qKR⟩⟩ h
 simp only[zb,Prod.mk.injEq,List.cons.injEq,R.c.injEq,R.agg.injEq,R.tup.injEq,C.d.injEq,C.own.injEq,C.ptr.injEq,C.eptr.injEq,D.int.injEq,D.bool.injEq,D.str.injEq,D.sl.injEq,B.blk.injEq,B.row.injEq,q1z,q2Y,q1P,q1Y,q2e,q2c,q4x,q4I,q4p,q1A,true_and,and_true,qLx] at h
 simp only[h]
theorem q6b:∀x y,Q5 x=Q5 y→x=y:=by
 rintro⟨a0,a1,a2,a3,⟨qKM,qKN,qKO⟩⟩ ⟨b0,b1,b2,b3,⟨qKP,qKQ,qKR⟩⟩ h
 simp only[Q5,Prod.mk.injEq,List.cons.injEq,R.c.injEq,R.agg.injEq,R.tup.injEq,C.d.injEq,C.own.injEq,C.ptr.injEq,C.eptr.injEq,D.int.injEq,D.bool.injEq,D.str.injEq,D.sl.injEq,B.blk.injEq,B.row.injEq,q1z,q2Y,q1P,q1Y,q2e,q2c,q4x,q4I,q4p,q1A,true_and,and_true,qLx] at h
 simp only[h]
def zH:(qb×List Int×List qa×Int×qg)→Option (List Bool×List Int×List qa×Int×qg):=q7N 104 7 zb Q5
theorem q8x (x:(qb×List Int×List qa×Int×qg)):zH x=JU zH x:=qcH qnI.2.2.2 q2b q6b q3U x
theorem q7h (x0:qb) (w7:List Int) (v:List qa) (v2:Int) (v3:qg):ev 104 7 [R.agg [dI x0.Kind,dI x0.N,dI x0.Min,dL 2 qe x0.Set,dL 5 qh x0.L],rP 0,rP 1,rP 3,rP 4,rP 5,rP 6] [(0,B.blk 26 [dL 8 qf v]),(1,B.blk 114 [C.fn 115 [] [dP 2]]),(2,B.blk 22 [dO 7 1 w7.length]),(3,B.blk 3 [dI v2]),(4,B.blk 28 [dI v3.Worst,dI v3.Best,dI v3.Pass]),(5,B.blk 163 [C.fn 104 [] [dP 0,dP 1,dP 3,dP 4,dP 5,dP 6]]),(6,B.blk 114 [C.fn 116 [] [dP 2]]),(7,bR 3 1 eI w7)]=(zH (x0,w7,v,v2,v3)).bind (fun(e:List Bool×List Int×List qa×Int×qg)=>some (rL 1 eB e.1,[(0,B.blk 26 [dL 8 qf e.2.2.1]),(1,B.blk 114 [C.fn 115 [] [dP 2]]),(2,B.blk 22 [dO 7 1 e.2.1.length]),(3,B.blk 3 [dI e.2.2.2.1]),(4,B.blk 28 [dI e.2.2.2.2.Worst,dI e.2.2.2.2.Best,dI e.2.2.2.2.Pass]),(5,B.blk 163 [C.fn 104 [] [dP 0,dP 1,dP 3,dP 4,dP 5,dP 6]]),(6,B.blk 114 [C.fn 116 [] [dP 2]]),(7,bR 3 1 eI e.2.1)])):=(q9N qnI.2.2.2 q2b q3U (x0,w7,v,v2,v3))
theorem q8B:∀(qI Jk z7:Int) (z8:List qd) (Jl:List qb) (w7:List Int) (v:List qa) (v2 qG qT qU:Int) (zI:Nat),zI=w7.length→ev 104 7 [R.agg [dI qI,dI Jk,dI z7,dL 2 qe z8,dL 5 qh Jl],rP 0,rP 1,rP 3,rP 4,rP 5,rP 6] [(0,B.blk 26 [dL 8 qf v]),(1,B.blk 114 [C.fn 115 [] [dP 2]]),(2,B.blk 22 [dO 7 1 zI]),(3,B.blk 3 [dI v2]),(4,B.blk 28 [dI qG,dI qT,dI qU]),(5,B.blk 163 [C.fn 104 [] [dP 0,dP 1,dP 3,dP 4,dP 5,dP 6]]),(6,B.blk 114 [C.fn 116 [] [dP 2]]),(7,bR 3 1 eI w7)]=(zH ((qb.mk qI Jk z7 z8 Jl),w7,v,v2,(qg.mk qG qT qU))).bind (fun(e:List Bool×List Int×List qa×Int×qg)=>some (rL 1 eB e.1,[(0,B.blk 26 [dL 8 qf e.2.2.1]),(1,B.blk 114 [C.fn 115 [] [dP 2]]),(2,B.blk 22 [dO 7 1 e.2.1.length]),(3,B.blk 3 [dI e.2.2.2.1]),(4,B.blk 28 [dI e.2.2.2.2.Worst,dI e.2.2.2.2.Best,dI e.2.2.2.2.Pass]),(5,B.blk 163 [C.fn 104 [] [dP 0,dP 1,dP 3,dP 4,dP 5,dP 6]]),(6,B.blk 114 [C.fn 116 [] [dP 2]]),(7,bR 3 1 eI e.2.1)])):=
 by
 intro qI Jk z7 z8 Jl w7 v v2 qG qT qU zI h0
 subst h0
 exact q7h (qb.mk qI Jk z7 z8 Jl) w7 v v2 (qg.mk qG qT qU)
def q1S (n:qb) (s:qg) (l:List qa) (w1:List Int):Option (List Bool×List Int):=Option.bind (zH (n,(w1,(l,(0,s))))) fun(a:Prod (List Bool) (Prod (List Int) (Prod (List qa) (Prod Int qg))))=>some (a.1,a.2.1)
theorem qar:∀(qC n_N qY:Int) (qZ:List qd) (n_L:List qb) (zj zU zV:Int) (l:List qa) (w1:List Int) (JI:Nat),JI=w1.length→ev 61 1 [R.agg [dI qC,dI n_N,dI qY,dL 2 qe qZ,dL 5 qh n_L],R.agg [dI zj,dI zU,dI zV],rL 8 qf l,R.c (C.fn 115 [] [dP 0]),R.c (C.fn 116 [] [dP 0])] [(0,B.blk 22 [dO 1 1 JI]),(1,bR 3 1 eI w1)]=(q1S (qb.mk qC n_N qY qZ n_L) (qg.mk zj zU zV) l w1).bind (fun(e:List Bool×List Int)=>some (rL 1 eB e.1,[(0,B.blk 22 [dO 1 1 e.2.length]),(1,bR 3 1 eI e.2)])):=
 by
 intro qC n_N qY qZ n_L zj zU zV l w1 JI h0
 subst h0
 rw[qQ qBY qFn.2.2.2 qGK]
 have:=qHc;have:=@q8B;have:=@q1S.eq_1;exact gA
def Jz (w4:List Int) (b0:qb) (b1:qg) (t2:List qa) (t3:Int) (t16:Int) (t49:Int) (t50:Int):(List Int)→Option ((List Int)⊕(List Int))|w3=>Option.bind (q1S b0 b1 t2 w3) fun(a:Prod (List Bool) (List Int))=>if 0≤t3∧t3<((a.1.length:Nat):Int) then Option.bind a.1[Int.toNat t3]? fun(a2:Bool)=>if(!a2)=Bool.true then if 0≤t16∧t16<((a.2.length:Nat):Int) then Option.bind a.2[Int.toNat t16]? fun(a3:Int)=>if 0≤t16∧t16<((a.2.length:Nat):Int) then if Int.toNat t16+1≤a.2.length then some (Sum.inl (List.set a.2 (Int.toNat t16) (w64 (a3+1)))) else none else none else none else some (Sum.inr a.2) else none
theorem q7q:∀(w3 w4:List Int) (q0Y qfx q2Q:Int) (q2R:List qd) (q8Y:List qb) (qO zp zq:Int) (t2:List qa) (t3 t16 t49 t50:Int) (Zr q23:Nat),Zr=w4.length→q23=w3.length→XL2 evo 72 0 14 ⟨[(2,rL 8 qf t2),(3,rI t3),(4,rP 0),(5,rP 1),(12,rP 2),(13,R.c (C.fn 115 [] [dP 2])),(14,R.c (C.fn 116 [] [dP 2])),(15,rO 4 1 Zr),(16,rI t16),(49,rI t49),(50,rI t50)],[(0,B.blk 36 [dI q0Y,dI qfx,dI q2Q,dL 2 qe q2R,dL 5 qh q8Y]),(1,B.blk 28 [dI qO,dI zp,dI zq]),(2,B.blk 22 [dO 3 1 q23]),(3,bR 3 1 eI w3),(4,bR 3 1 eI w4)],5,89⟩=(zG (Jz w4 (qb.mk q0Y qfx q2Q q2R q8Y) (qg.mk qO zp zq) t2 t3 t16 t49 t50) w3).bind (fun(e:List Int)=>some (Exit.exit 2,⟨[(2,rL 8 qf t2),(3,rI t3),(4,rP 0),(5,rP 1),(12,rP 2),(13,R.c (C.fn 115 [] [dP 2])),(14,R.c (C.fn 116 [] [dP 2])),(15,rO 4 1 w4.length),(16,rI t16),(49,rI t49),(50,rI t50)],[(0,B.blk 36 [dI q0Y,dI qfx,dI q2Q,dL 2 qe q2R,dL 5 qh q8Y]),(1,B.blk 28 [dI qO,dI zp,dI zq]),(2,B.blk 22 [dO 3 1 e.length]),(3,bR 3 1 eI e),(4,bR 3 1 eI w4)],5,89⟩)):=
 by
 intro w3 w4 q0Y qfx q2Q q2R q8Y qO zp zq t2 t3 t16 t49 t50 Zr q23 h0 h1
 subst h0 h1
 revert w3;exact qbd qvL quH (fun e=>by exact⟨_,rfl,fun h=>by cases h⟩) fun x=>by
  have:=qCp;have:=@qga.eq_1;have:=@qar;have:=@Jz.eq_1;exact gA
def ZQ (b0:qb) (b1:qg) (t2:List qa) (t3:Int) (t49:Int):(List Int×List Int×Int)→Option ((List Int×List Int×Int)⊕(List Int))|(w3,w4,t50)=>if t50<t49 then if w3.length+1≤maxLen∧(w3.length+1)*8≤140737488355328 then if 0≤t50 then if(ZG Go.BinOp.and IntKind.i64 (Int.fdiv t3 (2 ^ min (Int.toNat t50) (IntKind.bits IntKind.i64))) 1==0)=Bool.true then some (Sum.inl (w3++[(-1)],w4,w64 (t50+1))) else if 0≤t50∧t50<((w3.length+1:Nat):Int) then if Int.toNat t50≤w3.length then Option.bind (zG (Jz w4 b0 b1 t2 t3 t50 t49 t50) (List.set (w3++[(-1)]) (Int.toNat t50) 0)) fun(a:List Int)=>if 0≤t50∧t50<((a.length:Nat):Int) then Option.bind a[Int.toNat t50]? fun(a2:Int)=>if w4.length+1≤maxLen∧(w4.length+1)*8≤140737488355328 then some (Sum.inl (a,w4++[a2],w64 (t50+1))) else none else none else none else none else none else none else some (Sum.inr w4)
theorem q8l:∀(w3 w4:List Int) (q0Y qfx q2Q:Int) (q2R:List qd) (q8Y:List qb) (qO zp zq:Int) (t2:List qa) (t3 t49 t50:Int) (Zr q23:Nat),Zr=w4.length→q23=w3.length→XL2 evo 72 0 9 ⟨[(2,rL 8 qf t2),(3,rI t3),(4,rP 0),(5,rP 1),(12,rP 2),(13,R.c (C.fn 115 [] [dP 2])),(14,R.c (C.fn 116 [] [dP 2])),(15,rO 4 1 Zr),(49,rI t49),(50,rI t50)],[(0,B.blk 36 [dI q0Y,dI qfx,dI q2Q,dL 2 qe q2R,dL 5 qh q8Y]),(1,B.blk 28 [dI qO,dI zp,dI zq]),(2,B.blk 22 [dO 3 1 q23]),(3,bR 3 1 eI w3),(4,bR 3 1 eI w4)],5,89⟩=(zG (ZQ (qb.mk q0Y qfx q2Q q2R q8Y) (qg.mk qO zp zq) t2 t3 t49) (w3,w4,t50)).bind (fun(e:List Int)=>some (Exit.exit 0,⟨[(15,rO 0 1 e.length)],[(0,bR 3 1 eI e)],1,89⟩)):=
 by
 intro w3 w4 q0Y qfx q2Q q2R q8Y qO zp zq t2 t3 t49 t50 Zr q23 h0 h1
 subst h0 h1
 revert t50;revert w4;revert w3;exact qBX qyT qAe (fun e=>by exact⟨_,rfl,fun h=>by cases h⟩) fun w3 w4 t50=>by
  have:=qCp;have:=@qka.eq_1;have:=@q7q;have:=@ZQ.eq_1;exact gA
theorem q6g:∀  (q0Y qfx q2Q:Int) (q2R:List qd) (q8Y:List qb) (qO zp zq:Int) (t2:List qa) (t3 t49 t50:Int),XL2 evo 72 0 9 ⟨[(2,rL 8 qf t2),(3,rI t3),(4,rP 0),(5,rP 1),(12,rP 2),(13,R.c (C.fn 115 [] [dP 2])),(14,R.c (C.fn 116 [] [dP 2])),(15,rO 4 1 0),(49,rI t49),(50,rI t50)],[(0,B.blk 36 [dI q0Y,dI qfx,dI q2Q,dL 2 qe q2R,dL 5 qh q8Y]),(1,B.blk 28 [dI qO,dI zp,dI zq]),(2,B.blk 22 [dO 3 1 0]),(3,B.row 3 1 []),(4,B.row 3 1 [])],5,89⟩=(zG (ZQ (qb.mk q0Y qfx q2Q q2R q8Y) (qg.mk qO zp zq) t2 t3 t49) ([],[],t50)).bind (fun(e:List Int)=>some (Exit.exit 0,⟨[(15,rO 0 1 e.length)],[(0,bR 3 1 eI e)],1,89⟩)):=by
 intro q0Y qfx q2Q q2R q8Y qO zp zq t2 t3 t49 t50;have h:=q8l [] [] ((qb.mk q0Y qfx q2Q q2R q8Y)).Kind ((qb.mk q0Y qfx q2Q q2R q8Y)).N ((qb.mk q0Y qfx q2Q q2R q8Y)).Min ((qb.mk q0Y qfx q2Q q2R q8Y)).Set ((qb.mk q0Y qfx q2Q q2R q8Y)).L ((qg.mk qO zp zq)).Worst ((qg.mk qO zp zq)).Best ((qg.mk qO zp zq)).Pass t2 t3 t49 t50 _ _ rfl rfl
 first
  | exact h
  | (simp only[rL,dL,bR,bZ,Nat.reduceAdd] at h;exact h)
def q0L (x0:qb) (x1:qg) (x2:List qa) (x3:Int):Option (List Int×Bool):=Option.bind (q2n x0 x1 x2) fun(a:Prod (List Bool) Int)=>if(a.2 != 0)=Bool.true then some ([],Bool.false) else if x3<0 then some ([],Bool.false) else if((a.1.length:Nat):Int)≤x3 then some ([],Bool.false) else if 0≤x3∧x3<((a.1.length:Nat):Int) then Option.bind a.1[Int.toNat x3]? fun(a2:Bool)=>if(!a2)=Bool.true then some ([],Bool.false) else if 0≤((x2.length:Nat):Int)∧8*((x2.length:Nat):Int)≤281474976710656∧((x2.length:Nat):Int)≤9223372036854775807 then Option.bind (zG (ZQ x0 x1 x2 x3 ((x2.length:Nat):Int)) ([],([],0))) fun(a3:List Int)=>some (a3,Bool.true) else none else none
theorem qba:∀(qI Jk z7:Int) (z8:List qd) (Jl:List qb) (ZF Jx Jy:Int) (x2:List qa) (x3:Int),ev 72 0 [R.agg [dI qI,dI Jk,dI z7,dL 2 qe z8,dL 5 qh Jl],R.agg [dI ZF,dI Jx,dI Jy],rL 8 qf x2,rI x3] []=(q0L (qb.mk qI Jk z7 z8 Jl) (qg.mk ZF Jx Jy) x2 x3).bind (fun(e:List Int×Bool)=>some (R.tup [rL 1 eI e.1,rB e.2],[])):=
 fun qI Jk z7 z8 Jl ZF Jx Jy x2 x3=>by
  rw[qQ qxM qGr.2.2.2 qCI]
  have:=qCp;have:=@q8k;have:=@q6g;have:=@q0L.eq_1;exact gA
def Qt (w2:List Int) (b0:qc) (b1:qg) (t2:List qa) (t3:List Bool) (t4:Int) (t11:Bool) (t12:Int) (t46:List Int) (t47:Int):(List Int×List Int×Int)→Option ((List Int×List Int×Int)⊕(List Int))|(w3,t13,t48)=>if t48<t47 then if 0≤t48∧t48<((t46.length:Nat):Int) then Option.bind t46[Int.toNat t48]? fun(a:Int)=>if 0≤a then if(ZG Go.BinOp.and IntKind.i64 (Int.fdiv t12 (2 ^ min (Int.toNat a) (IntKind.bits IntKind.i64))) 1==0)=Bool.true then if w3.length+1≤maxLen∧(w3.length+1)*8≤140737488355328 then some (Sum.inl (w3++[(-1)],t13,w64 (t48+1))) else none else if 0<((t13.length:Nat):Int) then Option.bind t13[0]? fun(a2:Int)=>if w3.length+1≤maxLen∧(w3.length+1)*8≤140737488355328 then if 1≤((t13.length:Nat):Int) then some (Sum.inl (w3++[a2],List.take (t13.length-1) (List.drop 1 t13),w64 (t48+1))) else none else none else none else none else none else some (Sum.inr w3)
theorem q6a:∀(w2 w3:List Int) (qo za ql qv:Int) (qw:ByteArray) (qi qp qj:Int) (qk:List qd) (qr:List qb) (qt qD qE:Int) (qm:List (JK qd)) (qO zp zq:Int) (t2:List qa) (t3:List Bool) (t4:Int) (t11:Bool) (t12:Int) (t13 t46:List Int) (t47 t48:Int) (q3H q23:Nat),q3H=w2.length→q23=w3.length→XL2 evo 39 0 9 ⟨[(2,rL 8 qf t2),(3,rL 1 eB t3),(4,rI t4),(5,rP 0),(6,rP 1),(10,rO 2 1 q3H),(11,rB t11),(12,rI t12),(13,rL 1 eI t13),(15,rO 3 1 q23),(46,rL 1 eI t46),(47,rI t47),(48,rI t48)],[(0,B.blk 39 [dI qo,dI za,dI ql,dI qv,dS qw,dI qi,dI qp,dI qj,dL 2 qe qk,dL 5 qh qr,dI qt,dI qD,dI qE,dL 4 (eA2 qe) qm]),(1,B.blk 28 [dI qO,dI zp,dI zq]),(2,bR 3 1 eI w2),(3,bR 3 1 eI w3)],4,80⟩=(zG (Qt w2 (qc.mk qo za ql qv qw (qb.mk qi qp qj qk qr) qt qD qE qm) (qg.mk qO zp zq) t2 t3 t4 t11 t12 t46 t47) (w3,t13,t48)).bind (fun(e:List Int)=>some (Exit.exit 2,⟨[(2,rL 8 qf t2),(3,rL 1 eB t3),(4,rI t4),(5,rP 0),(6,rP 1),(10,rO 2 1 w2.length),(11,rB t11),(12,rI t12),(15,rO 3 1 e.length)],[(0,B.blk 39 [dI qo,dI za,dI ql,dI qv,dS qw,dI qi,dI qp,dI qj,dL 2 qe qk,dL 5 qh qr,dI qt,dI qD,dI qE,dL 4 (eA2 qe) qm]),(1,B.blk 28 [dI qO,dI zp,dI zq]),(2,bR 3 1 eI w2),(3,bR 3 1 eI e)],4,80⟩)):=
 by
 intro w2 w3 qo za ql qv qw qi qp qj qk qr qt qD qE qm qO zp zq t2 t3 t4 t11 t12 t13 t46 t47 t48 q3H q23 h0 h1
 subst h0 h1
 revert t48;revert t13;revert w3;exact qBX qzM qyM (fun e=>by exact⟨_,rfl,fun h=>by cases h⟩) fun w3 t13 t48=>by
  have:=qCf;have:=@qnj.eq_1;have:=@Qt.eq_1;exact gA
theorem q4K:∀  (w2:List Int) (qo za ql qv:Int) (qw:ByteArray) (qi qp qj:Int) (qk:List qd) (qr:List qb) (qt qD qE:Int) (qm:List (JK qd)) (qO zp zq:Int) (t2:List qa) (t3:List Bool) (t4:Int) (t11:Bool) (t12:Int) (t13 t46:List Int) (t47 t48:Int) (q3H:Nat),q3H=w2.length→XL2 evo 39 0 9 ⟨[(2,rL 8 qf t2),(3,rL 1 eB t3),(4,rI t4),(5,rP 0),(6,rP 1),(10,rO 2 1 q3H),(11,rB t11),(12,rI t12),(13,rL 1 eI t13),(15,rO 3 1 0),(46,rL 1 eI t46),(47,rI t47),(48,rI t48)],[(0,B.blk 39 [dI qo,dI za,dI ql,dI qv,dS qw,dI qi,dI qp,dI qj,dL 2 qe qk,dL 5 qh qr,dI qt,dI qD,dI qE,dL 4 (eA2 qe) qm]),(1,B.blk 28 [dI qO,dI zp,dI zq]),(2,bR 3 1 eI w2),(3,B.row 3 1 [])],4,80⟩=(zG (Qt w2 (qc.mk qo za ql qv qw (qb.mk qi qp qj qk qr) qt qD qE qm) (qg.mk qO zp zq) t2 t3 t4 t11 t12 t46 t47) ([],t13,t48)).bind (fun(e:List Int)=>some (Exit.exit 2,⟨[(2,rL 8 qf t2),(3,rL 1 eB t3),(4,rI t4),(5,rP 0),(6,rP 1),(10,rO 2 1 w2.length),(11,rB t11),(12,rI t12),(15,rO 3 1 e.length)],[(0,B.blk 39 [dI qo,dI za,dI ql,dI qv,dS qw,dI qi,dI qp,dI qj,dL 2 qe qk,dL 5 qh qr,dI qt,dI qD,dI qE,dL 4 (eA2 qe) qm]),(1,B.blk 28 [dI qO,dI zp,dI zq]),(2,bR 3 1 eI w2),(3,bR 3 1 eI e)],4,80⟩)):=by
 intro w2 qo za ql qv qw qi qp qj qk qr qt qD qE qm qO zp zq t2 t3 t4 t11 t12 t13 t46 t47 t48 q3H h0;subst h0;have h:=q6a w2 [] ((qc.mk qo za ql qv qw (qb.mk qi qp qj qk qr) qt qD qE qm)).School ((qc.mk qo za ql qv qw (qb.mk qi qp qj qk qr) qt qD qE qm)).Id ((qc.mk qo za ql qv qw (qb.mk qi qp qj qk qr) qt qD qE qm)).Version ((qc.mk qo za ql qv qw (qb.mk qi qp qj qk qr) qt qD qE qm)).From ((qc.mk qo za ql qv qw (qb.mk qi qp qj qk qr) qt qD qE qm)).Name ((qc.mk qo za ql qv qw (qb.mk qi qp qj qk qr) qt qD qE qm)).Need.Kind ((qc.mk qo za ql qv qw (qb.mk qi qp qj qk qr) qt qD qE qm)).Need.N ((qc.mk qo za ql qv qw (qb.mk qi qp qj qk qr) qt qD qE qm)).Need.Min ((qc.mk qo za ql qv qw (qb.mk qi qp qj qk qr) qt qD qE qm)).Need.Set ((qc.mk qo za ql qv qw (qb.mk qi qp qj qk qr) qt qD qE qm)).Need.L ((qc.mk qo za ql qv qw (qb.mk qi qp qj qk qr) qt qD qE qm)).Total ((qc.mk qo za ql qv qw (qb.mk qi qp qj qk qr) qt qD qE qm)).Own ((qc.mk qo za ql qv qw (qb.mk qi qp qj qk qr) qt qD qE qm)).Age ((qc.mk qo za ql qv qw (qb.mk qi qp qj qk qr) qt qD qE qm)).Exclude ((qg.mk qO zp zq)).Worst ((qg.mk qO zp zq)).Best ((qg.mk qO zp zq)).Pass t2 t3 t4 t11 t12 t13 t46 t47 t48 _ _ rfl rfl
 first
  | exact h
  | (simp only[rL,dL,bR,bZ,Nat.reduceAdd] at h;exact h)
def Z2 (b0:qc) (b1:qg) (t2:List qa) (t3:List Bool) (t4:Int):(List Int×Bool×Int)→Option ((List Int×Bool×Int)⊕(List Int×Bool))|(w2,t11,t12)=>if 0≤t12 then if(ZG Go.BinOp.andNot IntKind.i64 t12 t4 != 0)=Bool.true then some (Sum.inl (w2,t11,w64 (t12-1))) else if 0≤t12∧t12<((t3.length:Nat):Int) then Option.bind t3[Int.toNat t12]? fun(a:Bool)=>if(!a)=Bool.true then some (Sum.inl (w2,t11,w64 (t12-1))) else Option.bind (q0L b0.Need b1 t2 t12) fun(a2:Prod (List Int) Bool)=>if(!a2.2)=Bool.true then some (Sum.inl (w2,t11,w64 (t12-1))) else Option.bind (ZD t4) fun(a3:List Int)=>Option.bind (zG (Qt w2 b0 b1 t2 t3 t4 t11 t12 a3 ((a3.length:Nat):Int)) ([],(a2.1,0))) fun(a4:List Int)=>if(!t11)=Bool.true then some (Sum.inl (a4,Bool.true,w64 (t12-1))) else Option.bind (QM a4 w2) fun(a5:Int)=>if a5<0 then some (Sum.inl (a4,Bool.true,w64 (t12-1))) else some (Sum.inl (w2,t11,w64 (t12-1))) else none else some (Sum.inr (w2,t11))
theorem q5Z:∀(w2:List Int) (qo za ql qv:Int) (qw:ByteArray) (qi qp qj:Int) (qk:List qd) (qr:List qb) (qt qD qE:Int) (qm:List (JK qd)) (qO zp zq:Int) (t2:List qa) (t3:List Bool) (t4:Int) (t11:Bool) (t12:Int) (q3H:Nat),q3H=w2.length→XL2 evo 39 0 2 ⟨[(2,rL 8 qf t2),(3,rL 1 eB t3),(4,rI t4),(5,rP 0),(6,rP 1),(10,rO 2 1 q3H),(11,rB t11),(12,rI t12)],[(0,B.blk 39 [dI qo,dI za,dI ql,dI qv,dS qw,dI qi,dI qp,dI qj,dL 2 qe qk,dL 5 qh qr,dI qt,dI qD,dI qE,dL 4 (eA2 qe) qm]),(1,B.blk 28 [dI qO,dI zp,dI zq]),(2,bR 3 1 eI w2)],3,80⟩=(zG (Z2 (qc.mk qo za ql qv qw (qb.mk qi qp qj qk qr) qt qD qE qm) (qg.mk qO zp zq) t2 t3 t4) (w2,t11,t12)).bind (fun(e:List Int×Bool)=>some (Exit.exit 0,⟨[(10,rO 0 1 e.1.length),(11,rB e.2)],[(0,bR 3 1 eI e.1)],1,80⟩)):=
 by
 intro w2 qo za ql qv qw qi qp qj qk qr qt qD qE qm qO zp zq t2 t3 t4 t11 t12 q3H h0
 subst h0
 revert t12;revert t11;revert w2;exact qBX qAP qAs (fun e=>by exact⟨_,rfl,fun h=>by cases h⟩) fun w2 t11 t12=>by
  have:=qCf;have:=@qmM.eq_1;have:=@qba;have:=@q1F;have:=@q4K;have:=@q0W;have:=@Z2.eq_1;exact gA
theorem q4f:∀  (qo za ql qv:Int) (qw:ByteArray) (qi qp qj:Int) (qk:List qd) (qr:List qb) (qt qD qE:Int) (qm:List (JK qd)) (qO zp zq:Int) (t2:List qa) (t3:List Bool) (t4:Int) (t11:Bool) (t12:Int),XL2 evo 39 0 2 ⟨[(2,rL 8 qf t2),(3,rL 1 eB t3),(4,rI t4),(5,rP 0),(6,rP 1),(10,rO 2 1 0),(11,rB t11),(12,rI t12)],[(0,B.blk 39 [dI qo,dI za,dI ql,dI qv,dS qw,dI qi,dI qp,dI qj,dL 2 qe qk,dL 5 qh qr,dI qt,dI qD,dI qE,dL 4 (eA2 qe) qm]),(1,B.blk 28 [dI qO,dI zp,dI zq]),(2,B.row 3 1 [])],3,80⟩=(zG (Z2 (qc.mk qo za ql qv qw (qb.mk qi qp qj qk qr) qt qD qE qm) (qg.mk qO zp zq) t2 t3 t4) ([],t11,t12)).bind (fun(e:List Int×Bool)=>some (Exit.exit 0,⟨[(10,rO 0 1 e.1.length),(11,rB e.2)],[(0,bR 3 1 eI e.1)],1,80⟩)):=by
 intro qo za ql qv qw qi qp qj qk qr qt qD qE qm qO zp zq t2 t3 t4 t11 t12;have h:=q5Z [] ((qc.mk qo za ql qv qw (qb.mk qi qp qj qk qr) qt qD qE qm)).School ((qc.mk qo za ql qv qw (qb.mk qi qp qj qk qr) qt qD qE qm)).Id ((qc.mk qo za ql qv qw (qb.mk qi qp qj qk qr) qt qD qE qm)).Version ((qc.mk qo za ql qv qw (qb.mk qi qp qj qk qr) qt qD qE qm)).From ((qc.mk qo za ql qv qw (qb.mk qi qp qj qk qr) qt qD qE qm)).Name ((qc.mk qo za ql qv qw (qb.mk qi qp qj qk qr) qt qD qE qm)).Need.Kind ((qc.mk qo za ql qv qw (qb.mk qi qp qj qk qr) qt qD qE qm)).Need.N ((qc.mk qo za ql qv qw (qb.mk qi qp qj qk qr) qt qD qE qm)).Need.Min ((qc.mk qo za ql qv qw (qb.mk qi qp qj qk qr) qt qD qE qm)).Need.Set ((qc.mk qo za ql qv qw (qb.mk qi qp qj qk qr) qt qD qE qm)).Need.L ((qc.mk qo za ql qv qw (qb.mk qi qp qj qk qr) qt qD qE qm)).Total ((qc.mk qo za ql qv qw (qb.mk qi qp qj qk qr) qt qD qE qm)).Own ((qc.mk qo za ql qv qw (qb.mk qi qp qj qk qr) qt qD qE qm)).Age ((qc.mk qo za ql qv qw (qb.mk qi qp qj qk qr) qt qD qE qm)).Exclude ((qg.mk qO zp zq)).Worst ((qg.mk qO zp zq)).Best ((qg.mk qO zp zq)).Pass t2 t3 t4 t11 t12 _ rfl
 first
  | exact h
  | (simp only[rL,dL,bR,bZ,Nat.reduceAdd] at h;exact h)
def q0E (x0:qc) (x1:qg) (x2:List qa) (x3:List Bool) (x4:Int):Option (List Int×Bool):=Option.bind (zG (Z2 x0 x1 x2 x3 x4) ([],(Bool.false,x4))) fun(a:Prod (List Int) Bool)=>some (a.1,a.2)
theorem q8N:∀(zJ q0r zr QF:Int) (QG:ByteArray) (qM zK qW:Int) (qX:List qd) (zL:List qb) (Qb ZH ZI:Int) (zt:List (JK qd)) (ZF Jx Jy:Int) (x2:List qa) (x3:List Bool) (x4:Int),ev 39 0 [R.agg [dI zJ,dI q0r,dI zr,dI QF,dS QG,dI qM,dI zK,dI qW,dL 2 qe qX,dL 5 qh zL,dI Qb,dI ZH,dI ZI,dL 4 (eA2 qe) zt],R.agg [dI ZF,dI Jx,dI Jy],rL 8 qf x2,rL 1 eB x3,rI x4] []=(q0E (qc.mk zJ q0r zr QF QG (qb.mk qM zK qW qX zL) Qb ZH ZI zt) (qg.mk ZF Jx Jy) x2 x3 x4).bind (fun(e:List Int×Bool)=>some (R.tup [rL 1 eI e.1,rB e.2],[])):=
 fun zJ q0r zr QF QG qM zK qW qX zL Qb ZH ZI zt ZF Jx Jy x2 x3 x4=>by
  rw[qQ qyd qGf.2.2.2 qEr]
  have:=qCf;have:=@q4f;have:=@q0E.eq_1;exact gA
theorem qH0:okL 40 qit:=qV (qn qBv) (by kernel_rfl) (by kernel_rfl)
def qFS:=JA_ @qit.eq_1 (JA_ @Tryz.f40.eq_1 @qBv)
theorem qyi:lbO 40 2=qm8:=QO (qn qBv) rfl
theorem qy2:okL 40 qm8:=Q6 qH0 (qLe (i:=0) (by kernel_rfl))
def Qn (l:List Int) (t7:List Int) (t8:Int):(List Int×Int)→Option ((List Int×Int)⊕(List Int))|(out,t9)=>if t9<t8 then if 0≤t9∧t9<((t7.length:Nat):Int) then Option.bind t7[Int.toNat t9]? fun(a:Int)=>if 0≤a∧a<((l.length:Nat):Int) then Option.bind l[Int.toNat a]? fun(a2:Int)=>if out.length+1≤maxLen∧(out.length+1)*8≤140737488355328 then some (Sum.inl (out++[a2],w64 (t9+1))) else none else none else none else some (Sum.inr out)
theorem q47:∀(out l t7:List Int) (t8 t9:Int) (q1H:Nat),q1H=out.length→XL2 evo 40 0 2 ⟨[(0,rL 1 eI l),(4,rO 0 1 q1H),(7,rL 1 eI t7),(8,rI t8),(9,rI t9)],[(0,bR 3 1 eI out)],1,22⟩=(zG (Qn l t7 t8) (out,t9)).bind (fun(e:List Int)=>some (Exit.exit 0,⟨[(4,rO 0 1 e.length)],[(0,bR 3 1 eI e)],1,22⟩)):=
 by
 intro out l t7 t8 t9 q1H h0
 subst h0
 revert t9;revert out;exact qcb qyi qy2 (fun e=>by exact⟨_,rfl,fun h=>by cases h⟩) fun out t9=>by
  have:=qFS;have:=@qm8.eq_1;have:=@Qn.eq_1;exact gA
theorem q3d:∀  (l t7:List Int) (t8 t9:Int),XL2 evo 40 0 2 ⟨[(0,rL 1 eI l),(4,rO 0 1 0),(7,rL 1 eI t7),(8,rI t8),(9,rI t9)],[(0,B.row 3 1 [])],1,22⟩=(zG (Qn l t7 t8) ([],t9)).bind (fun(e:List Int)=>some (Exit.exit 0,⟨[(4,rO 0 1 e.length)],[(0,bR 3 1 eI e)],1,22⟩)):=by
 intro l t7 t8 t9;have h:=q47 [] l t7 t8 t9 _ rfl
 first
  | exact h
  | (simp only[rL,dL,bR,bZ,Nat.reduceAdd] at h;exact h)
def ZL (l:List Int) (at0:List Int):Option (List Int):=Option.bind (zG (Qn l at0 ((at0.length:Nat):Int)) ([],0)) fun(a:List Int)=>some a
theorem q5E:∀(l at0:List Int),ev 40 0 [rL 1 eI l,rL 1 eI at0] []=(ZL l at0).bind (fun(e:List Int)=>some (rL 1 eI e,[])):=
 fun l at0=>by
  rw[qQ qBv qGv.2.2.2 qH0]
  have:=qFS;have:=@q3d;have:=@ZL.eq_1;exact gA
def Jq (t67:Int) (v:qc) (v2:qg) (v3:Int) (v4:Int) (v5:List Int) (v6:List qa) (v7:List Bool):Option (Unit⊕qP):=Option.bind (ZD t67) fun(a:List Int)=>Option.bind (zM v6 a) fun(a2:List qa)=>Option.bind (Jn v a2 v3) fun(a3:Bool)=>if(!a3)=Bool.true then some (Sum.inl ()) else Option.bind (q0E v v2 v6 v7 t67) fun(a4:Prod (List Int) Bool)=>if a4.2=Bool.true then Option.bind (ZL v5 a) fun(a5:List Int)=>some (Sum.inr (qP.mk a5 a4.1)) else some (Sum.inl ())
theorem q5C:∀(t67 JJ qBk q6z qfy:Int) (qfz:ByteArray) (q3I q8R q4O:Int) (q4P:List qd) (q8S:List qb) (qc3 qo0 qo1:Int) (q6A:List (JK qd)) (q8T qc4 qc5 v3 v4:Int) (v5:List Int) (v6:List qa) (v7:List Bool),evr 15 (raO 15 19) (rbO 15 19) 9 (R.any::R.any::R.any::R.any::rP 0::rP 1::R.any::rP 2::rP 3::rP 4::R.any::rP 5::R.any::R.any::rP 6::rP 7::R.any::R.any::R.any::R.any::R.any::R.any::R.any::R.any::R.any::R.any::R.any::R.any::R.any::R.any::R.any::R.any::R.any::R.any::R.any::R.any::R.any::R.any::R.any::R.any::R.any::R.any::R.any::R.any::R.any::R.any::R.any::R.any::R.any::R.any::R.any::R.any::R.any::R.any::R.any::R.any::R.any::R.any::R.any::R.any::R.any::R.any::R.any::R.any::R.any::R.any::R.any::rI t67::qGV) [(0,B.blk 39 [dI JJ,dI qBk,dI q6z,dI qfy,dS qfz,dI q3I,dI q8R,dI q4O,dL 2 qe q4P,dL 5 qh q8S,dI qc3,dI qo0,dI qo1,dL 4 (eA2 qe) q6A]),(1,B.blk 28 [dI q8T,dI qc4,dI qc5]),(2,B.blk 3 [dI v3]),(3,B.blk 48 [C.nils,C.nils]),(4,B.blk 49 [dI v4]),(5,B.blk 22 [dL 1 eI v5]),(6,B.blk 26 [dL 8 qf v6]),(7,B.blk 88 [dL 1 eB v7]),(8,B.ob (AO.lp 15 (R.any::R.any::R.any::R.any::rP 0::rP 1::R.any::rP 2::rP 3::rP 4::R.any::rP 5::R.any::R.any::rP 6::rP 7::qjY) [67] (raO 15 19) (rbO 15 19) LoopState.ready none))]=(Jq t67 (qc.mk JJ qBk q6z qfy qfz (qb.mk q3I q8R q4O q4P q8S) qc3 qo0 qo1 q6A) (qg.mk q8T qc4 qc5) v3 v4 v5 v6 v7).bind (Sum.elim (fun(e:Unit)=>some (rB Bool.true,[(0,B.blk 39 [dI JJ,dI qBk,dI q6z,dI qfy,dS qfz,dI q3I,dI q8R,dI q4O,dL 2 qe q4P,dL 5 qh q8S,dI qc3,dI qo0,dI qo1,dL 4 (eA2 qe) q6A]),(1,B.blk 28 [dI q8T,dI qc4,dI qc5]),(2,B.blk 3 [dI v3]),(3,B.blk 48 [C.nils,C.nils]),(4,B.blk 49 [dI v4]),(5,B.blk 22 [dL 1 eI v5]),(6,B.blk 26 [dL 8 qf v6]),(7,B.blk 88 [dL 1 eB v7]),(8,B.ob (AO.lp 15 (R.any::R.any::R.any::R.any::rP 0::rP 1::R.any::rP 2::rP 3::rP 4::R.any::rP 5::R.any::R.any::rP 6::rP 7::qjY) [67] (raO 15 19) (rbO 15 19) LoopState.ready none))])) (fun(e:qP)=>some (rB Bool.false,[(0,B.blk 39 [dI JJ,dI qBk,dI q6z,dI qfy,dS qfz,dI q3I,dI q8R,dI q4O,dL 2 qe q4P,dL 5 qh q8S,dI qc3,dI qo0,dI qo1,dL 4 (eA2 qe) q6A]),(1,B.blk 28 [dI q8T,dI qc4,dI qc5]),(2,B.blk 3 [dI v3]),(3,B.blk 48 [dL 1 eI e.Taken,dL 1 eI e.Leaf]),(4,B.blk 49 [dI 0]),(5,B.blk 22 [dL 1 eI v5]),(6,B.blk 26 [dL 8 qf v6]),(7,B.blk 88 [dL 1 eB v7]),(8,B.ob (AO.lp 15 (R.any::R.any::R.any::R.any::rP 0::rP 1::R.any::rP 2::rP 3::rP 4::R.any::rP 5::R.any::R.any::rP 6::rP 7::qjY) [67] (raO 15 19) (rbO 15 19) LoopState.done (some Code.ret)))]))):=
 fun t67 JJ qBk q6z qfy qfz q3I q8R q4O q4P q8S qc3 qo0 qo1 q6A q8T qc4 qc5 v3 v4 v5 v6 v7=>by
  rw[qh3 qnF qhe (by decide) quC qkX.1 qkX.2]
  have:=qCO;have:=@qtm;have:=@qtx;have:=@q9f.eq_1;have:=@q7E.eq_1;have:=@q1F;have:=@Jw;have:=@q2X;have:=@q8N;have:=@q5E;have:=@Jq.eq_1;have:=@qgH;exact gA
def Qx (b1:qc) (b2:qg) (b3:Int) (b5:Int) (b6:List Int) (b7:List qa) (b8:List Bool) (b9:Int) (t19:List Int) (t20:Int):Int→Option (Int⊕(qP⊕Unit))|t21=>if t21<t20 then if 0≤t21∧t21<((t19.length:Nat):Int) then Option.bind t19[Int.toNat t21]? fun(a:Int)=>Option.bind (Jq a b1 b2 b3 b5 b6 b7 b8) fun(a2:Sum Unit qP)=>Sum.elim (fun(a3:Unit)=>some (Sum.inl (w64 (t21+1)))) (fun(a4:qP)=>some (Sum.inr (Sum.inl a4))) a2 else none else some (Sum.inr (Sum.inr ()))
theorem q5B:∀(zQ q0X zy QU:Int) (QV:ByteArray) (qR zS zf:Int) (zg:List qd) (zT:List qb) (Qk ZT ZU:Int) (zz:List (JK qd)) (Zo Jh Ji b3 b5:Int) (b6:List Int) (b7:List qa) (b8:List Bool) (b9:Int) (t19:List Int) (t20 t21:Int),XL2 evo 62 10 8 ⟨[(0,R.c (C.hd .yield 0)),(19,rL 1 eI t19),(20,rI t20),(21,rI t21)],[(0,B.ob (AO.lp 15 (R.any::R.any::R.any::R.any::rP 1::rP 2::R.any::rP 3::rP 4::rP 5::R.any::rP 6::R.any::R.any::rP 7::rP 8::qjY) [67] (raO 15 19) (rbO 15 19) LoopState.ready none)),(1,B.blk 39 [dI zQ,dI q0X,dI zy,dI QU,dS QV,dI qR,dI zS,dI zf,dL 2 qe zg,dL 5 qh zT,dI Qk,dI ZT,dI ZU,dL 4 (eA2 qe) zz]),(2,B.blk 28 [dI Zo,dI Jh,dI Ji]),(3,B.blk 3 [dI b3]),(4,B.blk 48 [C.nils,C.nils]),(5,B.blk 49 [dI b5]),(6,B.blk 22 [dL 1 eI b6]),(7,B.blk 26 [dL 8 qf b7]),(8,B.blk 88 [dL 1 eB b8]),(9,B.blk 3 [dI b9])],10,30⟩=(zG (Qx (qc.mk zQ q0X zy QU QV (qb.mk qR zS zf zg zT) Qk ZT ZU zz) (qg.mk Zo Jh Ji) b3 b5 b6 b7 b8 b9 t19 t20) t21).bind (Sum.elim (fun(e:qP)=>some (Exit.ret,⟨[],[(0,B.ob (AO.lp 15 (R.any::R.any::R.any::R.any::rP 1::rP 2::R.any::rP 3::rP 4::rP 5::R.any::rP 6::R.any::R.any::rP 7::rP 8::qjY) [67] (raO 15 19) (rbO 15 19) LoopState.done (some Code.ret))),(1,B.blk 39 [dI zQ,dI q0X,dI zy,dI QU,dS QV,dI qR,dI zS,dI zf,dL 2 qe zg,dL 5 qh zT,dI Qk,dI ZT,dI ZU,dL 4 (eA2 qe) zz]),(2,B.blk 28 [dI Zo,dI Jh,dI Ji]),(3,B.blk 3 [dI b3]),(4,B.blk 48 [dL 1 eI e.Taken,dL 1 eI e.Leaf]),(5,B.blk 49 [dI 0]),(6,B.blk 22 [dL 1 eI b6]),(7,B.blk 26 [dL 8 qf b7]),(8,B.blk 88 [dL 1 eB b8]),(9,B.blk 3 [dI b9])],10,30⟩)) (fun(e:Unit)=>some (Exit.exit 2,⟨[],[(0,B.ob (AO.lp 15 (R.any::R.any::R.any::R.any::rP 1::rP 2::R.any::rP 3::rP 4::rP 5::R.any::rP 6::R.any::R.any::rP 7::rP 8::qjY) [67] (raO 15 19) (rbO 15 19) LoopState.ready none)),(1,B.blk 39 [dI zQ,dI q0X,dI zy,dI QU,dS QV,dI qR,dI zS,dI zf,dL 2 qe zg,dL 5 qh zT,dI Qk,dI ZT,dI ZU,dL 4 (eA2 qe) zz]),(2,B.blk 28 [dI Zo,dI Jh,dI Ji]),(3,B.blk 3 [dI b3]),(4,B.blk 48 [C.nils,C.nils]),(5,B.blk 49 [dI b5]),(6,B.blk 22 [dL 1 eI b6]),(7,B.blk 26 [dL 8 qf b7]),(8,B.blk 88 [dL 1 eB b8]),(9,B.blk 3 [dI b9])],10,30⟩))):=
 fun zQ q0X zy QU QV qR zS zf zg zT Qk ZT ZU zz Zo Jh Ji b3 b5 b6 b7 b8 b9 t19 t20 t21=>by
  revert t21;exact qbd qyB qAx (fun e=>by rcases e with _|_<;>exact⟨_,rfl,fun h=>by cases h⟩) fun x=>by
   have:=qDe;have:=@qkU.eq_1;have:=@q5C;have:=@Qx.eq_1;exact gA
def q0e (b1:qc) (b2:qg) (b3:Int) (b5:Int) (b6:List Int) (b7:List qa) (b8:List Bool) (v:Int):Option (qP⊕Unit):=if 0≤v then Option.bind (zG (QR b1 b2 b3 b5 b6 b7 b8 v (w64 (1*2 ^ min (Int.toNat v) (IntKind.bits IntKind.i64)))) ([],0)) fun(a:List Int)=>if 0<a.length∧a.length<4611686018427387904∧okB Qu a=Bool.true then Option.bind (zG (Qx b1 b2 b3 b5 b6 b7 b8 v (q0C Qu a) (((q0C Qu a).length:Nat):Int)) 0) fun(a2:Sum qP Unit)=>Sum.elim (fun(a3:qP)=>some (Sum.inl a3)) (fun(a4:Unit)=>some (Sum.inr ())) a2 else none else none
theorem q7l:∀(zQ q0X zy QU:Int) (QV:ByteArray) (qR zS zf:Int) (zg:List qd) (zT:List qb) (Qk ZT ZU:Int) (zz:List (JK qd)) (Zo Jh Ji b3 b5:Int) (b6:List Int) (b7:List qa) (b8:List Bool) (v:Int),ev 62 10 [R.c (C.hd .yield 0),rP 9] [(0,B.ob (AO.lp 15 (R.any::R.any::R.any::R.any::rP 1::rP 2::R.any::rP 3::rP 4::rP 5::R.any::rP 6::R.any::R.any::rP 7::rP 8::qjY) [67] (raO 15 19) (rbO 15 19) LoopState.ready none)),(1,B.blk 39 [dI zQ,dI q0X,dI zy,dI QU,dS QV,dI qR,dI zS,dI zf,dL 2 qe zg,dL 5 qh zT,dI Qk,dI ZT,dI ZU,dL 4 (eA2 qe) zz]),(2,B.blk 28 [dI Zo,dI Jh,dI Ji]),(3,B.blk 3 [dI b3]),(4,B.blk 48 [C.nils,C.nils]),(5,B.blk 49 [dI b5]),(6,B.blk 22 [dL 1 eI b6]),(7,B.blk 26 [dL 8 qf b7]),(8,B.blk 88 [dL 1 eB b8]),(9,B.blk 3 [dI v])]=(q0e (qc.mk zQ q0X zy QU QV (qb.mk qR zS zf zg zT) Qk ZT ZU zz) (qg.mk Zo Jh Ji) b3 b5 b6 b7 b8 v).bind (Sum.elim (fun(e:qP)=>some (R.tup [],[(0,B.ob (AO.lp 15 (R.any::R.any::R.any::R.any::rP 1::rP 2::R.any::rP 3::rP 4::rP 5::R.any::rP 6::R.any::R.any::rP 7::rP 8::qjY) [67] (raO 15 19) (rbO 15 19) LoopState.done (some Code.ret))),(1,B.blk 39 [dI zQ,dI q0X,dI zy,dI QU,dS QV,dI qR,dI zS,dI zf,dL 2 qe zg,dL 5 qh zT,dI Qk,dI ZT,dI ZU,dL 4 (eA2 qe) zz]),(2,B.blk 28 [dI Zo,dI Jh,dI Ji]),(3,B.blk 3 [dI b3]),(4,B.blk 48 [dL 1 eI e.Taken,dL 1 eI e.Leaf]),(5,B.blk 49 [dI 0]),(6,B.blk 22 [dL 1 eI b6]),(7,B.blk 26 [dL 8 qf b7]),(8,B.blk 88 [dL 1 eB b8]),(9,B.blk 3 [dI v])])) (fun(e:Unit)=>some (R.tup [],[(0,B.ob (AO.lp 15 (R.any::R.any::R.any::R.any::rP 1::rP 2::R.any::rP 3::rP 4::rP 5::R.any::rP 6::R.any::R.any::rP 7::rP 8::qjY) [67] (raO 15 19) (rbO 15 19) LoopState.ready none)),(1,B.blk 39 [dI zQ,dI q0X,dI zy,dI QU,dS QV,dI qR,dI zS,dI zf,dL 2 qe zg,dL 5 qh zT,dI Qk,dI ZT,dI ZU,dL 4 (eA2 qe) zz]),(2,B.blk 28 [dI Zo,dI Jh,dI Ji]),(3,B.blk 3 [dI b3]),(4,B.blk 48 [C.nils,C.nils]),(5,B.blk 49 [dI b5]),(6,B.blk 22 [dL 1 eI b6]),(7,B.blk 26 [dL 8 qf b7]),(8,B.blk 88 [dL 1 eB b8]),(9,B.blk 3 [dI v])]))):=
 fun zQ q0X zy QU QV qR zS zf zg zT Qk ZT ZU zz Zo Jh Ji b3 b5 b6 b7 b8 v=>by
  rw[qQ qz8 qGy.2.2.2 qEU]
  have:=qDe;have:=@q45;have:=qDo q6o;have:=@q5B;have:=@q0e.eq_1;exact gA
def Qs (x0:qc) (x1:qg) (x2:List qa) (x3:Int):Option (qP×Int):=Option.bind (QD x0 x1) fun(a:Int)=>if(a != 0)=Bool.true then some (qP.mk [] [],a) else Option.bind (zG (Z3 x0 x1 x3 0 x2 x2 ((x2.length:Nat):Int)) ([],0)) fun(a2:List Int)=>if 10<((a2.length:Nat):Int) then some (qP.mk [] [],2) else Option.bind (zM x2 a2) fun(a3:List qa)=>Option.bind (q2n x0.Need x1 a3) fun(a4:Prod (List Bool) Int)=>if(a4.2 != 0)=Bool.true then some (qP.mk [] [],a4.2) else Option.bind (q0e x0 x1 x3 0 a2 a3 a4.1 ((a3.length:Nat):Int)) fun(a5:Sum qP Unit)=>Sum.elim (fun(a6:qP)=>some (a6,0)) (fun(a7:Unit)=>some (qP.mk [] [],31)) a5
theorem q3L:∀(zJ q0r zr QF:Int) (QG:ByteArray) (qM zK qW:Int) (qX:List qd) (zL:List qb) (Qb ZH ZI:Int) (zt:List (JK qd)) (ZF Jx Jy:Int) (x2:List qa) (x3:Int),ev 15 0 [R.agg [dI zJ,dI q0r,dI zr,dI QF,dS QG,dI qM,dI zK,dI qW,dL 2 qe qX,dL 5 qh zL,dI Qb,dI ZH,dI ZI,dL 4 (eA2 qe) zt],R.agg [dI ZF,dI Jx,dI Jy],rL 8 qf x2,rI x3] []=(Qs (qc.mk zJ q0r zr QF QG (qb.mk qM zK qW qX zL) Qb ZH ZI zt) (qg.mk ZF Jx Jy) x2 x3).bind (fun(e:qP×Int)=>some (R.tup [R.agg [dL 1 eI e.1.Taken,dL 1 eI e.1.Leaf],rI e.2],[])):=
 fun zJ q0r zr QF QG qM zK qW qX zL Qb ZH ZI zt ZF Jx Jy x2 x3=>by
  rw[qQ qw3 qG3.2.2.2 qCY]
  have:=qCO;have:=@q4D;have:=@q4h;have:=@Jw;have:=@q8k;have:=@q90;have:=@q7l;have:=@Qs.eq_1;have:=@qgH;exact gA
theorem qJy:okL 93 qmw:=qV (qn qDE) (by kernel_rfl) (by kernel_rfl)
def qI8:=JA_ @qmw.eq_1 (JA_ @Tryz.f93.eq_1 @qDE)
def q1y (a:qd) (b:qd):Option Bool:=if a.School<b.School then some Bool.true else if(a.School==b.School)=Bool.true then some (Op.bytesLess (ByteArray.toList a.Code) (ByteArray.toList b.Code)) else some Bool.false
def QJ (a:qd) (b:qd):Bool:=if a.School<b.School then Bool.true else if(a.School==b.School)=Bool.true then Op.bytesLess (ByteArray.toList a.Code) (ByteArray.toList b.Code) else Bool.false
theorem q6R (a b:qd):q1y a b=some (QJ a b):=by
 unfold q1y QJ
 simp only[Zc]
theorem q3u:∀(JH:Int) (q2P:ByteArray) (q3h:Int) (q8P:ByteArray),ev 93 0 [R.agg [dI JH,dS q2P],R.agg [dI q3h,dS q8P]] []=some (rB (QJ (qd.mk JH q2P) (qd.mk q3h q8P)),[]):=
 fun JH q2P q3h q8P=>by
  have h:ev 93 0 [R.agg [dI JH,dS q2P],R.agg [dI q3h,dS q8P]] []=(q1y (qd.mk JH q2P) (qd.mk q3h q8P)).bind (fun(e:Bool)=>some (rB e,[])):=by
   rw[qQ qDE qGE.2.2.2 qJy]
   have:=qI8;have:=@q1y.eq_1;exact gA
  rw[q6R] at h
  exact h
theorem qIU:okL 26 qkN:=qV (qn qDv) (by kernel_rfl) (by kernel_rfl)
def qId:=JA_ @qkN.eq_1 (JA_ @Tryz.f26.eq_1 @qDv)
theorem qIy:okL 51 qmr:=qV (qn qDO) (by kernel_rfl) (by kernel_rfl)
def qHJ:=JA_ @qmr.eq_1 (JA_ @Tryz.f51.eq_1 @qDO)
theorem qIx:okL 52 qk9:=qV (qn qCV) (by kernel_rfl) (by kernel_rfl)
def qKo:=JA_ @qk9.eq_1 (JA_ @Tryz.f52.eq_1 @qCV)
def qz (most:Int) (d:qq):Option (Int×qq):=if((d.L.length:Nat):Int)≤d.At then some (0,d) else if 0≤d.At∧d.At<((d.L.length:Nat):Int) then Option.bind d.L[Int.toNat d.At]? fun(a:Int)=>if most=0 then none else if most=0 then none else some (Int.tmod (w64 (Int.tmod a most+most)) most,qq.mk d.L (w64 (d.At+1))) else none
theorem JV:∀(most:Int) (d_L:List Int) (q9L:Int),ev 52 1 [rP 0,rI most] [(0,B.blk 106 [dL 1 eI d_L,dI q9L])]=(qz most (qq.mk d_L q9L)).bind (fun(e:Int×qq)=>some (rI e.1,[(0,B.blk 106 [dL 1 eI e.2.L,dI e.2.At])])):=
 fun most d_L q9L=>by
  rw[qQ qCV qGU.2.2.2 qIx]
  have:=qKo;have:=@qz.eq_1;exact gA
theorem qJI:okL 92 qkc:=qV (qn qDn) (by kernel_rfl) (by kernel_rfl)
def qHM:=JA_ @qkc.eq_1 (JA_ @Tryz.f92.eq_1 @qDn)
theorem qIe:okL 53 qll:=qV (qn qEM) (by kernel_rfl) (by kernel_rfl)
def qIg:=JA_ @qll.eq_1 (JA_ @Tryz.f53.eq_1 @qEM)
def q38:Option (List ByteArray):=
 some [ByteArray.mk (List.toArray [65,49]),ByteArray.mk (List.toArray [66,49]),ByteArray.mk (List.toArray [66,50]),ByteArray.mk (List.toArray [67,49]),ByteArray.mk (List.toArray [68,49]),ByteArray.mk (List.toArray [69,57])]
def zY:List ByteArray:=
 [ByteArray.mk (List.toArray [65,49]),ByteArray.mk (List.toArray [66,49]),ByteArray.mk (List.toArray [66,50]),ByteArray.mk (List.toArray [67,49]),ByteArray.mk (List.toArray [68,49]),ByteArray.mk (List.toArray [69,57])]
theorem q9A:q38=some (zY):=by
 unfold q38 zY
 simp only[Zc]
theorem qaq:ev 53 0 [] []=some (R.c (C.d (D.sl 1 (zY).length ((zY).flatMap eS))),[]):=
 by
  have h:ev 53 0 [] []=(q38).bind (fun(e:List ByteArray)=>some (rL 1 eS e,[])):=by
   rw[qQ qEM qFP.2.2.2 qIe]
   have:=qIg;have:=@q38.eq_1;exact gA
  rw[q9A] at h
  exact h
def JM (d:qq):Option (qd×qq):=Option.bind (qz 6 d) fun(a:Prod Int qq)=>if 0≤a.1∧a.1<6 then Option.bind [(1:Int),1,1,2,2,3][Int.toNat a.1]? fun(a2:Int)=>Option.bind (qz ((zY.length:Nat):Int) a.2) fun(a3:Prod Int qq)=>if 0≤a3.1∧a3.1<((zY.length:Nat):Int) then Option.bind zY[Int.toNat a3.1]? fun(a4:ByteArray)=>some (qd.mk a2 a4,a3.2) else none else none
theorem q4r:∀(d_L:List Int) (q9L:Int),ev 92 1 [rP 0] [(0,B.blk 106 [dL 1 eI d_L,dI q9L])]=(JM (qq.mk d_L q9L)).bind (fun(e:qd×qq)=>some (R.agg [dI e.1.School,dS e.1.Code],[(0,B.blk 106 [dL 1 eI e.2.L,dI e.2.At])])):=
 fun d_L q9L=>by
  rw[qQ qDn qGq.2.2.2 qJI]
  have:=qHM;have:=@JV;have:=@qaq;have:=@JM.eq_1;exact gA
theorem qFN:okL 94 qhK:=qV (qn qBL) (by kernel_rfl) (by kernel_rfl)
def qGc:=JA_ @qhK.eq_1 (JA_ @Tryz.f94.eq_1 @qBL)
theorem qya:lbO 94 9=ql8:=QO (qn qBL) rfl
theorem qAw:okL 94 ql8:=Q6 qFN (qLe (i:=0) (by kernel_rfl))
theorem qt7:okL 136 qb5:=qV (qn qlZ) (by kernel_rfl) (by kernel_rfl)
def qut:=JA_ @qb5.eq_1 (JA_ @Tryz.f136.eq_1 @qlZ)
theorem qsB:lbO 136 4=qfD:=QO (qn qlZ) rfl
theorem qub:okL 136 qfD:=Q6 qt7 (qLe (i:=0) (by kernel_rfl))
theorem qtW:lbO 136 8=qgJ:=QO (qn qlZ) rfl
theorem quX:okL 136 qgJ:=Q6 qt7 (qLe (i:=1) (by kernel_rfl))
def JL (out:List qd) (d:qq) (c:qd) (many:Int) (k:Int):Int→Option (Int⊕Int)|at0=>if at0<((out.length:Nat):Int) then if 0≤at0∧at0<((out.length:Nat):Int) then Option.bind out[Int.toNat at0]? fun(a:qd)=>if QJ a c=Bool.true then some (Sum.inl (w64 (at0+1))) else some (Sum.inr at0) else none else some (Sum.inr at0)
theorem q9F:∀(out:List qd) (d_L:List Int) (q9L q1B:Int) (q5r:ByteArray) (many k at0:Int) (q1H:Nat),q1H=out.length→XL2 evo 136 1 8 ⟨[(0,rP 0),(3,rI many),(4,rO 1 2 q1H),(5,rI k),(6,rP 2),(7,rI at0)],[(0,B.blk 106 [dL 1 eI d_L,dI q9L]),(1,bR 55 2 qe out),(2,B.blk 55 [dI q1B,dS q5r])],3,61⟩=(zG (JL out (qq.mk d_L q9L) (qd.mk q1B q5r) many k) at0).bind (fun(e:Int)=>some (Exit.exit 2,⟨[(0,rP 0),(3,rI many),(4,rO 1 2 out.length),(5,rI k),(6,rP 2),(7,rI e)],[(0,B.blk 106 [dL 1 eI d_L,dI q9L]),(1,bR 55 2 qe out),(2,B.blk 55 [dI q1B,dS q5r])],3,61⟩)):=
 by
 intro out d_L q9L q1B q5r many k at0 q1H h0
 subst h0
 revert at0;exact qbd qtW quX (fun e=>by exact⟨_,rfl,fun h=>by cases h⟩) fun x=>by
  have:=qut;have:=@qgJ.eq_1;have:=@q3u;have:=@JL.eq_1;exact gA
end
noncomputable section
open Go.RowKit
set_option maxRecDepth 20000
set_option maxHeartbeats 8000000
def ZN (many:Int):(List qd×qq×Int)→Option ((List qd×qq×Int)⊕(List qd×qq))|(out,d,k)=>if k<many then Option.bind (JM d) fun(a:Prod qd qq)=>Option.bind (zG (JL out a.2 a.1 many k) 0) fun(a2:Int)=>if a2<((out.length:Nat):Int) then if 0≤a2∧a2<((out.length:Nat):Int) then Option.bind out[Int.toNat a2]? fun(a3:qd)=>if(a3.School==a.1.School)=Bool.true∧(ByteArray.toList a3.Code==ByteArray.toList a.1.Code)=Bool.true then some (Sum.inl (out,a.2,w64 (k+1))) else if out.length+1≤maxLen∧(out.length+1)*24≤140737488355328 then if 0≤w64 (a2+1)∧w64 (a2+1)≤((out.length+1:Nat):Int) then if w64 (a2+1)=0∨w64 (a2+1)<((out.length+1:Nat):Int) then if 0≤a2∧a2≤((out.length+1:Nat):Int) then if a2=0∨a2<((out.length+1:Nat):Int) then if(List.take (out.length+1-Int.toNat a2) (List.drop (Int.toNat a2) (out++[qd.mk 0 (ByteArray.mk (List.toArray []))]))).length*2=(out.length+1-Int.toNat a2)*2∧Int.toNat (w64 (a2+1))*2+(out.length+1-Int.toNat (w64 (a2+1)))*2≤(out.length+1)*2 then if 0≤a2∧a2<((out.length+1:Nat):Int) then if Int.toNat a2*2+2≤(out.length+1)*2 then some (Sum.inl (List.set (spl (out++[qd.mk 0 (ByteArray.mk (List.toArray []))]) (Int.toNat (w64 (a2+1))) (List.take (min (out.length+1-Int.toNat a2) (out.length+1-Int.toNat (w64 (a2+1)))) (List.take (out.length+1-Int.toNat a2) (List.drop (Int.toNat a2) (out++[qd.mk 0 (ByteArray.mk (List.toArray []))]))))) (Int.toNat a2) a.1,a.2,w64 (k+1))) else none else none else none else if Int.toNat (w64 (a2+1))*2+(out.length+1-Int.toNat (w64 (a2+1)))*2≤(out.length+1)*2 then if 0≤a2∧a2<((out.length+1:Nat):Int) then if Int.toNat a2*2+2≤(out.length+1)*2 then some (Sum.inl (List.set (out++[qd.mk 0 (ByteArray.mk (List.toArray []))]) (Int.toNat a2) a.1,a.2,w64 (k+1))) else none else none else none else none else if 0≤a2∧a2≤((out.length+1:Nat):Int) then if a2=0∨a2<((out.length+1:Nat):Int) then if(List.take (out.length+1-Int.toNat a2) (List.drop (Int.toNat a2) (out++[qd.mk 0 (ByteArray.mk (List.toArray []))]))).length*2=(out.length+1-Int.toNat a2)*2 then if 0≤a2∧a2<((out.length+1:Nat):Int) then if Int.toNat a2*2+2≤(out.length+1)*2 then some (Sum.inl (List.set (out++[qd.mk 0 (ByteArray.mk (List.toArray []))]) (Int.toNat a2) a.1,a.2,w64 (k+1))) else none else none else none else if 0≤a2∧a2<((out.length+1:Nat):Int) then if Int.toNat a2*2+2≤(out.length+1)*2 then some (Sum.inl (List.set (out++[qd.mk 0 (ByteArray.mk (List.toArray []))]) (Int.toNat a2) a.1,a.2,w64 (k+1))) else none else none else none else none else none else none else if out.length+1≤maxLen∧(out.length+1)*24≤140737488355328 then if 0≤w64 (a2+1)∧w64 (a2+1)≤((out.length+1:Nat):Int) then if w64 (a2+1)=0∨w64 (a2+1)<((out.length+1:Nat):Int) then if 0≤a2∧a2≤((out.length+1:Nat):Int) then if a2=0∨a2<((out.length+1:Nat):Int) then if(List.take (out.length+1-Int.toNat a2) (List.drop (Int.toNat a2) (out++[qd.mk 0 (ByteArray.mk (List.toArray []))]))).length*2=(out.length+1-Int.toNat a2)*2∧Int.toNat (w64 (a2+1))*2+(out.length+1-Int.toNat (w64 (a2+1)))*2≤(out.length+1)*2 then if 0≤a2∧a2<((out.length+1:Nat):Int) then if Int.toNat a2*2+2≤(out.length+1)*2 then some (Sum.inl (List.set (spl (out++[qd.mk 0 (ByteArray.mk (List.toArray []))]) (Int.toNat (w64 (a2+1))) (List.take (min (out.length+1-Int.toNat a2) (out.length+1-Int.toNat (w64 (a2+1)))) (List.take (out.length+1-Int.toNat a2) (List.drop (Int.toNat a2) (out++[qd.mk 0 (ByteArray.mk (List.toArray []))]))))) (Int.toNat a2) a.1,a.2,w64 (k+1))) else none else none else none else if Int.toNat (w64 (a2+1))*2+(out.length+1-Int.toNat (w64 (a2+1)))*2≤(out.length+1)*2 then if 0≤a2∧a2<((out.length+1:Nat):Int) then if Int.toNat a2*2+2≤(out.length+1)*2 then some (Sum.inl (List.set (out++[qd.mk 0 (ByteArray.mk (List.toArray []))]) (Int.toNat a2) a.1,a.2,w64 (k+1))) else none else none else none else none else if 0≤a2∧a2≤((out.length+1:Nat):Int) then if a2=0∨a2<((out.length+1:Nat):Int) then if(List.take (out.length+1-Int.toNat a2) (List.drop (Int.toNat a2) (out++[qd.mk 0 (ByteArray.mk (List.toArray []))]))).length*2=(out.length+1-Int.toNat a2)*2 then if 0≤a2∧a2<((out.length+1:Nat):Int) then if Int.toNat a2*2+2≤(out.length+1)*2 then some (Sum.inl (List.set (out++[qd.mk 0 (ByteArray.mk (List.toArray []))]) (Int.toNat a2) a.1,a.2,w64 (k+1))) else none else none else none else if 0≤a2∧a2<((out.length+1:Nat):Int) then if Int.toNat a2*2+2≤(out.length+1)*2 then some (Sum.inl (List.set (out++[qd.mk 0 (ByteArray.mk (List.toArray []))]) (Int.toNat a2) a.1,a.2,w64 (k+1))) else none else none else none else none else none else some (Sum.inr (out,d))
theorem q9t:∀(out:List qd) (d_L:List Int) (q9L many k:Int) (q1H:Nat),q1H=out.length→XL2 evo 136 1 4 ⟨[(0,rP 0),(3,rI many),(4,rO 1 2 q1H),(5,rI k)],[(0,B.blk 106 [dL 1 eI d_L,dI q9L]),(1,bR 55 2 qe out)],2,61⟩=(zG (ZN many) (out,(qq.mk d_L q9L),k)).bind (fun(e:List qd×qq)=>some (Exit.exit 0,⟨[(4,rO 1 2 e.1.length)],[(0,B.blk 106 [dL 1 eI e.2.L,dI e.2.At]),(1,bR 55 2 qe e.1)],2,61⟩)):=
 by
 intro out d_L q9L many k q1H h0
 subst h0
 have h:=q6p (E:=evo) (f:=136) (k:=1) (st:=fun x:List qd×qq×Int=>(⟨[(0,rP 0),(3,rI many),(4,rO 1 2 x.1.length),(5,rI x.2.2)],[(0,B.blk 106 [dL 1 eI x.2.1.L,dI x.2.1.At]),(1,bR 55 2 qe x.1)],2,61⟩:S)) (ex:=fun(e:List qd×qq)=>(Exit.exit 0,⟨[(4,rO 1 2 e.1.length)],[(0,B.blk 106 [dL 1 eI e.2.L,dI e.2.At]),(1,bR 55 2 qe e.1)],2,61⟩)) (step:=(ZN many)) qsB qub (fun e h=>by cases h) (fun x=>by
  obtain⟨out,d,k⟩:=x;have:=qut;have:=@qfD.eq_1;have:=@q4r;have:=@q9F;have:=@ZN.eq_1;exact gA) (out,(qq.mk d_L q9L),k)
 exact h
theorem q71:∀  (d_L:List Int) (q9L many k:Int),XL2 evo 136 1 4 ⟨[(0,rP 0),(3,rI many),(4,rO 1 2 0),(5,rI k)],[(0,B.blk 106 [dL 1 eI d_L,dI q9L]),(1,B.row 55 2 [])],2,61⟩=(zG (ZN many) ([],(qq.mk d_L q9L),k)).bind (fun(e:List qd×qq)=>some (Exit.exit 0,⟨[(4,rO 1 2 e.1.length)],[(0,B.blk 106 [dL 1 eI e.2.L,dI e.2.At]),(1,bR 55 2 qe e.1)],2,61⟩)):=by
 intro d_L q9L many k;have h:=q9t [] ((qq.mk d_L q9L)).L ((qq.mk d_L q9L)).At many k _ rfl
 first
  | exact h
  | (simp only[rL,dL,bR,bZ,Nat.reduceAdd] at h;exact h)
def J4 (d:qq):Option (List qd×qq):=Option.bind (qz 3 d) fun(a:Prod Int qq)=>Option.bind (zG (ZN (w64 (1+a.1))) ([],(a.2,0))) fun(a2:Prod (List qd) qq)=>some (a2.1,a2.2)
theorem qci:∀(d_L:List Int) (q9L:Int),ev 136 1 [rP 0] [(0,B.blk 106 [dL 1 eI d_L,dI q9L])]=(J4 (qq.mk d_L q9L)).bind (fun(e:List qd×qq)=>some (rL 2 qe e.1,[(0,B.blk 106 [dL 1 eI e.2.L,dI e.2.At])])):=
 fun d_L q9L=>by
  rw[qQ qlZ qxr.2.2.2 qt7]
  have:=qut;have:=@JV;have:=@q71;have:=@J4.eq_1;exact gA
def Zb (x:(Int×Int×qq)):List R×List (Nat×B):=([R.c (C.ptr 0 0),R.c (C.d (D.int .i64 x.1)),R.c (C.d (D.int .i64 x.2.1))],[(0,B.blk 106 [C.d (D.sl 1 x.2.2.L.length (x.2.2.L.flatMap eI)),C.d (D.int .i64 x.2.2.At)])])
def ZS:(qb×qq)→R×List (Nat×B):=fun(e:qb×qq)=>(R.agg [C.d (D.int .i64 e.1.Kind),C.d (D.int .i64 e.1.N),C.d (D.int .i64 e.1.Min),C.d (D.sl 2 e.1.Set.length (e.1.Set.flatMap qe)),C.d (D.sl 5 e.1.L.length (e.1.L.flatMap qh))],[(0,B.blk 106 [C.d (D.sl 1 e.2.L.length (e.2.L.flatMap eI)),C.d (D.int .i64 e.2.At)])])
def Z6 (rF:(Int×Int×qq)→Option (qb×qq)) (q24:Int) (qj7:Int) (q3W:Int) (q01:Int) (qd4:Int) (q1J:Int) (t1:Int) (t2:Int) (t7:Int) (t8:Int):(List qb×qq×Int)→Option ((List qb×qq×Int)⊕(List qb×qq))|(w3,b0,t10)=>if t10<t8 then if t8=0 then none else Option.bind (rF (w64 (t1-1),(w64 (Int.tdiv t2 t8),b0))) fun(a2:Prod qb qq)=>if w3.length+1≤maxLen∧(w3.length+1)*72≤140737488355328 then some (Sum.inl (w3++[a2.1],a2.2,w64 (t10+1))) else none else some (Sum.inr (w3,b0))
theorem q8A (rE:Orc) (rF:(Int×Int×qq)→Option (qb×qq)) (hF:∀y,rE (.fn 94) 1 (Zb y).1 (Zb y).2=(rF y).bind fun e=>some (ZS e)) (hM:∀g k a G,g≠94→rE (.fn g) k a G=ev g k a G) (hR:∀g asg bd k a G,rE (.rd g asg bd) k a G=evr g asg bd k a G):∀(w3:List qb) (q8Y:List Int) (qcv q24 qj7 q3W q01 qd4 q1J t1 t2 t7 t8 t10:Int) (q23:Nat),q23=w3.length→XL2 rE 94 1 9 ⟨[(0,rP 0),(1,rI t1),(2,rI t2),(6,rP 1),(7,rI t7),(8,rI t8),(9,rP 2),(10,rI t10)],[(0,B.blk 106 [dL 1 eI q8Y,dI qcv]),(1,B.blk 36 [dI q24,dI qj7,dI q3W,C.nils,C.nils]),(2,B.blk 36 [dI q01,dI qd4,dI q1J,C.nils,dO 3 5 q23]),(3,bR 36 5 qh w3)],4,77⟩=(zG (Z6 rF q24 qj7 q3W q01 qd4 q1J t1 t2 t7 t8) (w3,(qq.mk q8Y qcv),t10)).bind (fun(e:List qb×qq)=>some (Exit.exit 0,⟨[(0,rP 0),(6,rP 1),(7,rI t7),(8,rI t8),(9,rP 2)],[(0,B.blk 106 [dL 1 eI e.2.L,dI e.2.At]),(1,B.blk 36 [dI q24,dI qj7,dI q3W,C.nils,C.nils]),(2,B.blk 36 [dI q01,dI qd4,dI q1J,C.nils,dO 3 5 e.1.length]),(3,bR 36 5 qh e.1)],4,77⟩)):=
 by
 intro w3 q8Y qcv q24 qj7 q3W q01 qd4 q1J t1 t2 t7 t8 t10 q23 h0
 subst h0
 have h:=q6p (E:=rE) (f:=94) (k:=1) (st:=fun x:List qb×qq×Int=>(⟨[(0,rP 0),(1,rI t1),(2,rI t2),(6,rP 1),(7,rI t7),(8,rI t8),(9,rP 2),(10,rI x.2.2)],[(0,B.blk 106 [dL 1 eI x.2.1.L,dI x.2.1.At]),(1,B.blk 36 [dI q24,dI qj7,dI q3W,C.nils,C.nils]),(2,B.blk 36 [dI q01,dI qd4,dI q1J,C.nils,dO 3 5 x.1.length]),(3,bR 36 5 qh x.1)],4,77⟩:S)) (ex:=fun(e:List qb×qq)=>(Exit.exit 0,⟨[(0,rP 0),(6,rP 1),(7,rI t7),(8,rI t8),(9,rP 2)],[(0,B.blk 106 [dL 1 eI e.2.L,dI e.2.At]),(1,B.blk 36 [dI q24,dI qj7,dI q3W,C.nils,C.nils]),(2,B.blk 36 [dI q01,dI qd4,dI q1J,C.nils,dO 3 5 e.1.length]),(3,bR 36 5 qh e.1)],4,77⟩)) (step:=(Z6 rF q24 qj7 q3W q01 qd4 q1J t1 t2 t7 t8)) qya qAw (fun e h=>by cases h) (fun x=>by
  obtain⟨w3,b0,t10⟩:=x;have hF':∀(x1 x2:Int) (v_L:List Int) (qj8:Int),rE (.fn 94) 1 [rP 0,rI x1,rI x2] [(0,B.blk 106 [dL 1 eI v_L,dI qj8])]=(rF (x1,x2,(qq.mk v_L qj8))).bind (fun e=>some (R.agg [dI e.1.Kind,dI e.1.N,dI e.1.Min,dL 2 qe e.1.Set,dL 5 qh e.1.L],[(0,B.blk 106 [dL 1 eI e.2.L,dI e.2.At])])):=fun x1 x2 v_L qj8=>hF (x1,x2,(qq.mk v_L qj8))
  have:=qGc;have:=@ql8.eq_1;have:=@Z6.eq_1;exact gA) (w3,(qq.mk q8Y qcv),t10)
 exact h
theorem q6c:∀(rE:Orc) (rF:(Int×Int×qq)→Option (qb×qq)) (hF:∀y,rE (.fn 94) 1 (Zb y).1 (Zb y).2=(rF y).bind fun e=>some (ZS e)) (hM:∀g k a G,g≠94→rE (.fn g) k a G=ev g k a G) (hR:∀g asg bd k a G,rE (.rd g asg bd) k a G=evr g asg bd k a G),∀  (q8Y:List Int) (qcv q24 qj7 q3W q01 qd4 q1J t1 t2 t7 t8 t10:Int),XL2 rE 94 1 9 ⟨[(0,rP 0),(1,rI t1),(2,rI t2),(6,rP 1),(7,rI t7),(8,rI t8),(9,rP 2),(10,rI t10)],[(0,B.blk 106 [dL 1 eI q8Y,dI qcv]),(1,B.blk 36 [dI q24,dI qj7,dI q3W,C.nils,C.nils]),(2,B.blk 36 [dI q01,dI qd4,dI q1J,C.nils,dO 3 5 0]),(3,B.row 36 5 [])],4,77⟩=(zG (Z6 rF q24 qj7 q3W q01 qd4 q1J t1 t2 t7 t8) ([],(qq.mk q8Y qcv),t10)).bind (fun(e:List qb×qq)=>some (Exit.exit 0,⟨[(0,rP 0),(6,rP 1),(7,rI t7),(8,rI t8),(9,rP 2)],[(0,B.blk 106 [dL 1 eI e.2.L,dI e.2.At]),(1,B.blk 36 [dI q24,dI qj7,dI q3W,C.nils,C.nils]),(2,B.blk 36 [dI q01,dI qd4,dI q1J,C.nils,dO 3 5 e.1.length]),(3,bR 36 5 qh e.1)],4,77⟩)):=by
 intro rE rF hF hM hR q8Y qcv q24 qj7 q3W q01 qd4 q1J t1 t2 t7 t8 t10;have h:=q8A rE rF hF hM hR [] ((qq.mk q8Y qcv)).L ((qq.mk q8Y qcv)).At q24 qj7 q3W q01 qd4 q1J t1 t2 t7 t8 t10 _ rfl
 first
  | exact h
  | (simp only[rL,dL,bR,bZ,Nat.reduceAdd] at h;exact h)
def q16 (rF:(Int×Int×qq)→Option (qb×qq)):(Int×Int×qq)→Option (qb×qq)|(x1,x2,v)=>Option.bind (qz 6 v) fun(a2:Prod Int qq)=>if x1≤0 then Option.bind (qz 3 a2.2) fun(a3:Prod Int qq)=>if(a3.1==0)=Bool.true then Option.bind (qz 12 a3.2) fun(a4:Prod Int qq)=>Option.bind (qz 3 a4.2) fun(a5:Prod Int qq)=>if 0≤a5.1∧a5.1<3 then Option.bind [(0:Int),50,60][Int.toNat a5.1]? fun(a6:Int)=>Option.bind (J4 a5.2) fun(a7:Prod (List qd) qq)=>some (qb.mk 2 (w64 (1+a4.1)) a6 a7.1 [],a7.2) else none else Option.bind (qz 4 a3.2) fun(a8:Prod Int qq)=>if 0≤a8.1∧a8.1<4 then Option.bind [(0:Int),50,60,80][Int.toNat a8.1]? fun(a9:Int)=>Option.bind (J4 a8.2) fun(a10:Prod (List qd) qq)=>some (qb.mk 1 0 a9 a10.1 [],a10.2) else none else if x2<2 then Option.bind (qz 3 a2.2) fun(a11:Prod Int qq)=>if(a11.1==0)=Bool.true then Option.bind (qz 12 a11.2) fun(a12:Prod Int qq)=>Option.bind (qz 3 a12.2) fun(a13:Prod Int qq)=>if 0≤a13.1∧a13.1<3 then Option.bind [(0:Int),50,60][Int.toNat a13.1]? fun(a14:Int)=>Option.bind (J4 a13.2) fun(a15:Prod (List qd) qq)=>some (qb.mk 2 (w64 (1+a12.1)) a14 a15.1 [],a15.2) else none else Option.bind (qz 4 a11.2) fun(a16:Prod Int qq)=>if 0≤a16.1∧a16.1<4 then Option.bind [(0:Int),50,60,80][Int.toNat a16.1]? fun(a17:Int)=>Option.bind (J4 a16.2) fun(a18:Prod (List qd) qq)=>some (qb.mk 1 0 a17 a18.1 [],a18.2) else none else if a2.1<2 then Option.bind (qz 3 a2.2) fun(a19:Prod Int qq)=>if(a19.1==0)=Bool.true then Option.bind (qz 12 a19.2) fun(a20:Prod Int qq)=>Option.bind (qz 3 a20.2) fun(a21:Prod Int qq)=>if 0≤a21.1∧a21.1<3 then Option.bind [(0:Int),50,60][Int.toNat a21.1]? fun(a22:Int)=>Option.bind (J4 a21.2) fun(a23:Prod (List qd) qq)=>some (qb.mk 2 (w64 (1+a20.1)) a22 a23.1 [],a23.2) else none else Option.bind (qz 4 a19.2) fun(a24:Prod Int qq)=>if 0≤a24.1∧a24.1<4 then Option.bind [(0:Int),50,60,80][Int.toNat a24.1]? fun(a25:Int)=>Option.bind (J4 a24.2) fun(a26:Prod (List qd) qq)=>some (qb.mk 1 0 a25 a26.1 [],a26.2) else none else Option.bind (qz (min 3 x2) a2.2) fun(a27:Prod Int qq)=>Option.bind (zG (Z6 rF 0 0 0 3 0 0 x1 x2 a2.1 (w64 (1+a27.1))) ([],(a27.2,0))) fun(a28:Prod (List qb) qq)=>if 3<a2.1 then Option.bind (qz (w64 (1+a27.1)) a28.2) fun(a29:Prod Int qq)=>some (qb.mk 4 (w64 (1+a29.1)) 0 [] a28.1,a29.2) else some (qb.mk 3 0 0 [] a28.1,a28.2)
theorem q5Q:q7W 94 1 Zb ZS q16:=by
 intro rE rF hF hM hR x
 obtain⟨x1,x2,v⟩:=x
 show qa7 rE 94 1 [rP 0,rI x1,rI x2] [(0,B.blk 106 [dL 1 eI v.L,dI v.At])]=_
 have hF':∀(x1 x2:Int) (v_L:List Int) (qj8:Int),rE (.fn 94) 1 [rP 0,rI x1,rI x2] [(0,B.blk 106 [dL 1 eI v_L,dI qj8])]=(rF (x1,x2,(qq.mk v_L qj8))).bind (fun e=>some (R.agg [dI e.1.Kind,dI e.1.N,dI e.1.Min,dL 2 qe e.1.Set,dL 5 qh e.1.L],[(0,B.blk 106 [dL 1 eI e.2.L,dI e.2.At])])):=fun x1 x2 v_L qj8=>hF (x1,x2,(qq.mk v_L qj8))
 rw[q4T qBL qFN]
 have:=qGc;have:=@JV;have:=@qci;have:=q6c rE rF hF hM hR;have:=@q16.eq_1;have:=@ZS.eq_1;exact gA
theorem q3t:∀x y,Zb x=Zb y→x=y:=by
 rintro⟨a0,a1,⟨qKS,qKT⟩⟩ ⟨b0,b1,⟨qKU,qKV⟩⟩ h
 simp only[Zb,Prod.mk.injEq,List.cons.injEq,R.c.injEq,R.agg.injEq,R.tup.injEq,C.d.injEq,C.own.injEq,C.ptr.injEq,C.eptr.injEq,D.int.injEq,D.bool.injEq,D.str.injEq,D.sl.injEq,B.blk.injEq,B.row.injEq,q1z,q2Y,q1P,q1Y,q2e,q2c,q4x,q4I,q4p,q1A,true_and,and_true,qLx] at h
 simp only[h]
theorem q7U:∀x y,ZS x=ZS y→x=y:=by
 rintro⟨⟨qC1,qC2,qC3,qC4,qC5⟩,⟨qHe,qHf⟩⟩ ⟨⟨qC6,qC7,qC8,qC9,qCa⟩,⟨qHg,qHh⟩⟩ h
 simp only[ZS,Prod.mk.injEq,List.cons.injEq,R.c.injEq,R.agg.injEq,R.tup.injEq,C.d.injEq,C.own.injEq,C.ptr.injEq,C.eptr.injEq,D.int.injEq,D.bool.injEq,D.str.injEq,D.sl.injEq,B.blk.injEq,B.row.injEq,q1z,q2Y,q1P,q1Y,q2e,q2c,q4x,q4I,q4p,q1A,true_and,and_true,qLx] at h
 simp only[h]
def ZB:(Int×Int×qq)→Option (qb×qq):=q7N 94 1 Zb ZS
theorem q69 (x:(Int×Int×qq)):ZB x=q16 ZB x:=qcH qCU.2.2.2 q3t q7U q5Q x
theorem qak (x1 x2:Int) (v:qq):ev 94 1 [rP 0,rI x1,rI x2] [(0,B.blk 106 [dL 1 eI v.L,dI v.At])]=(ZB (x1,x2,v)).bind (fun(e:qb×qq)=>some (R.agg [dI e.1.Kind,dI e.1.N,dI e.1.Min,dL 2 qe e.1.Set,dL 5 qh e.1.L],[(0,B.blk 106 [dL 1 eI e.2.L,dI e.2.At])])):=(q9N qCU.2.2.2 q3t q5Q (x1,x2,v))
theorem qbh:∀(x1 x2:Int) (v_L:List Int) (qj8:Int),ev 94 1 [rP 0,rI x1,rI x2] [(0,B.blk 106 [dL 1 eI v_L,dI qj8])]=(ZB (x1,x2,(qq.mk v_L qj8))).bind (fun(e:qb×qq)=>some (R.agg [dI e.1.Kind,dI e.1.N,dI e.1.Min,dL 2 qe e.1.Set,dL 5 qh e.1.L],[(0,B.blk 106 [dL 1 eI e.2.L,dI e.2.At])])):=
 fun x1 x2 v_L qj8=>qak x1 x2 (qq.mk v_L qj8)
def q0U (l:List Int):Option qc:=Option.bind (qz 3 (qq.mk l 0)) fun(a:Prod Int qq)=>Option.bind (qz 3 a.2) fun(a2:Prod Int qq)=>Option.bind (qz 5 a2.2) fun(a3:Prod Int qq)=>Option.bind (qz 3 a3.2) fun(a4:Prod Int qq)=>if 0≤a4.1∧a4.1<3 then Option.bind [ByteArray.mk (List.toArray [77,117,115,105,99]),ByteArray.mk (List.toArray [76,97,119]),ByteArray.mk (List.toArray [79,108,100,32,109,97,112,115])][Int.toNat a4.1]? fun(a5:ByteArray)=>Option.bind (qz 20 a4.2) fun(a6:Prod Int qq)=>Option.bind (qz 3 a6.2) fun(a7:Prod Int qq)=>Option.bind (qz 6 a7.2) fun(a8:Prod Int qq)=>Option.bind (qz 5 a8.2) fun(a9:Prod Int qq)=>if 0≤a9.1∧a9.1<5 then Option.bind [(0:Int),0,0,2,5][Int.toNat a9.1]? fun(a10:Int)=>Option.bind (qz 3 a9.2) fun(a11:Prod Int qq)=>if(a11.1==0)=Bool.true then Option.bind (JM a11.2) fun(a12:Prod qd qq)=>Option.bind (JM a12.2) fun(a13:Prod qd qq)=>if QJ a12.1 a13.1=Bool.true then Option.bind (ZB (3,(6,a13.2))) fun(a14:Prod qb qq)=>some (qc.mk 1 (w64 (1+a.1)) (w64 (1+a2.1)) (w64 (100*a3.1)) a5 a14.1 a6.1 (w64 (a7.1*a8.1)) a10 [JK.mk a12.1 a13.1]) else Option.bind (ZB (3,(6,a13.2))) fun(a15:Prod qb qq)=>some (qc.mk 1 (w64 (1+a.1)) (w64 (1+a2.1)) (w64 (100*a3.1)) a5 a15.1 a6.1 (w64 (a7.1*a8.1)) a10 []) else Option.bind (ZB (3,(6,a11.2))) fun(a16:Prod qb qq)=>some (qc.mk 1 (w64 (1+a.1)) (w64 (1+a2.1)) (w64 (100*a3.1)) a5 a16.1 a6.1 (w64 (a7.1*a8.1)) a10 []) else none else none
theorem q7Q:∀(l:List Int),ev 51 0 [rL 1 eI l] []=(q0U l).bind (fun(e:qc)=>some (R.agg [dI e.School,dI e.Id,dI e.Version,dI e.From,dS e.Name,dI e.Need.Kind,dI e.Need.N,dI e.Need.Min,dL 2 qe e.Need.Set,dL 5 qh e.Need.L,dI e.Total,dI e.Own,dI e.Age,dL 4 (eA2 qe) e.Exclude],[])):=
 fun l=>by
  rw[qQ qDO qGd.2.2.2 qIy]
  have:=qHJ;have:=@JV;have:=@q4r;have:=@qbh;have:=@q3u;have:=@q0U.eq_1;exact gA
def q2M (l:List Int):Option qc:=Option.bind (q0U l) fun(a:qc)=>some (qc.mk a.School a.Id a.Version a.From a.Name a.Need (Int.tmod a.Total 12) (Int.tmod a.Own 4) a.Age a.Exclude)
theorem qaY:∀(l:List Int),ev 26 0 [rL 1 eI l] []=(q2M l).bind (fun(e:qc)=>some (R.agg [dI e.School,dI e.Id,dI e.Version,dI e.From,dS e.Name,dI e.Need.Kind,dI e.Need.N,dI e.Need.Min,dL 2 qe e.Need.Set,dL 5 qh e.Need.L,dI e.Total,dI e.Own,dI e.Age,dL 4 (eA2 qe) e.Exclude],[])):=
 fun l=>by
  rw[qQ qDv qGg.2.2.2 qIU]
  have:=qId;have:=@q7Q;have:=@q2M.eq_1;exact gA
end

end Go.Proofs.YtojflbfdcpkedaaGreat.Vc
