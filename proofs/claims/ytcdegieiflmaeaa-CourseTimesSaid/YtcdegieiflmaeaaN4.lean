/- Part 4 of a proof. -/
import Derived.Test.YtcdegieiflmaeaaN3
import Derived.KernelRfl
import Derived.Test.YtcdegieiflmaeaaRows
import Derived.ChangeSlices
import Derived.OpenShut
import Derived.Carry
import Derived.ChangeSame
import Derived.ChangeMaps5
import Derived.WideShapes
import Derived.ProofKit
import Derived.Deep.DeepHandedRow
import Derived.Lib.LaidTab
import Derived.Stop.LaidErr
set_option linter.unusedVariables false
set_option linter.unusedSimpArgs false
set_option linter.defProp false
set_option linter.unusedSectionVars false
set_option linter.unnecessarySimpa false
namespace Go.Proofs.Ytcdegieiflmaeaa.Vc
open Go.RowKit
set_option maxRecDepth 20000
set_option maxHeartbeats 8000000
theorem qfz:okL 12 q30:=zi (qg qcX) (by kernel_rfl) (by kernel_rfl)
def qcY:=JA_ @q30.eq_1 (JA_ @Try.f12.eq_1 @qcX)
theorem qds:lbO 12 4=q8O:=Zz (qg qcX) rfl
theorem qeU:okL 12 q8O:=QG qfz (List.mem_of_getElem? (i:=0) (by kernel_rfl))
theorem qc9:lbO 12 18=q3A:=Zz (qg qcX) rfl
theorem qcd:okL 12 q3A:=QG qfz (List.mem_of_getElem? (i:=1) (by kernel_rfl))
theorem qcl:lbO 12 23=q3K:=Zz (qg qcX) rfl
theorem qcg:okL 12 q3K:=QG qfz (List.mem_of_getElem? (i:=2) (by kernel_rfl))
theorem qiF:okL 14 q77:=zi (qg qgO) (by kernel_rfl) (by kernel_rfl)
def qjb:=JA_ @q77.eq_1 (JA_ @Try.f14.eq_1 @qgO)
theorem qiY:okL 46 q7Q:=zi (qg qga) (by kernel_rfl) (by kernel_rfl)
def qjh:=JA_ @q7Q.eq_1 (JA_ @Try.f46.eq_1 @qga)
theorem qi2:okL 66 q5X:=zi (qg qfw) (by kernel_rfl) (by kernel_rfl)
def qiz:=JA_ @q5X.eq_1 (JA_ @Try.f66.eq_1 @qfw)
theorem qeW:lbO 66 2=q7w:=Zz (qg qfw) rfl
theorem qdR:okL 66 q7w:=QG qi2 (List.mem_of_getElem? (i:=0) (by kernel_rfl))
theorem qjB:okL 45 q7r:=zi (qg qgI) (by kernel_rfl) (by kernel_rfl)
def qjk:=JA_ @q7r.eq_1 (JA_ @Try.f45.eq_1 @qgI)
noncomputable def Z0 (c:Int):Option Bool:=if c<65 then if c<48 then some Bool.true else some (decide (57<c)) else if 90<c then if c<48 then some Bool.true else some (decide (57<c)) else some Bool.false
noncomputable def Qv (c:Int):Bool:=if c<65 then if c<48 then Bool.true else decide (57<c) else if 90<c then if c<48 then Bool.true else decide (57<c) else Bool.false
theorem q0x (c:Int):Z0 c=some (Qv c):=by
 unfold Z0 Qv
 simp only[q0W]
theorem q14:∀(c:Int),ev 45 0 [R.c (C.d (D.int .i32 c))] []=some (rB (Qv c),[]):=
 fun c=>by
  have h:ev 45 0 [R.c (C.d (D.int .i32 c))] []=(Z0 c).bind (fun(e:Bool)=>some (rB e,[])):=by
   rw[z8 qgI qhO.2.2.2 qjB]
   have:=qjk;have:=@Z0.eq_1;exact gA
  rw[q0x] at h
  exact h
noncomputable def zJ (it0_s:ByteArray) (truth:Bool):Nat→Option (Nat⊕(Int⊕Unit))|it0_p=>if it0_p<ByteArray.size it0_s then if(Qv (((@Go.Utf8.decode it0_s it0_p).1:Nat):Int)==truth)=Bool.true then some (Sum.inr (Sum.inl ((it0_p:Nat):Int))) else some (Sum.inl (it0_p+(@Go.Utf8.decode it0_s it0_p).2)) else some (Sum.inr (Sum.inr ()))
theorem J0:∀(it0_s:ByteArray) (it0_p:Nat) (truth:Bool),XL2 evo 66 0 2 ⟨[(1,R.c (C.fn 45 [] [])),(2,rB truth),(10,R.c (C.hd .iter 0))],[(0,B.ob (AO.si it0_s it0_p))],1,21⟩=(Z9 (zJ it0_s truth) it0_p).bind (Sum.elim (fun(e:Int)=>some (Go.Exit.ret,⟨[(6,rI e)],[],0,21⟩)) (fun(e:Unit)=>some (Go.Exit.exit 0,⟨[(6,R.any)],[],0,21⟩))):=
 fun it0_s it0_p truth=>by
  revert it0_p;exact q6o qeW qdR (fun e=>by rcases e with _|_<;>exact⟨_,rfl,fun h=>by cases h⟩) fun x=>by
   have:=qiz;have:=@q7w.eq_1;have:=@q14;have:=@zJ.eq_1;exact gA
noncomputable def zI (s:ByteArray) (truth:Bool):Option Int:=Option.bind (Z9 (zJ s truth) 0) fun(a:Sum Int Unit)=>Sum.elim (fun(a2:Int)=>some a2) (fun(a3:Unit)=>some (-1)) a
theorem Jy:∀(s:ByteArray) (truth:Bool),ev 66 0 [rS s,R.c (C.fn 45 [] []),rB truth] []=(zI s truth).bind (fun(e:Int)=>some (rI e,[])):=
 fun s truth=>by
  rw[z8 qfw qhC.2.2.2 qi2]
  have:=qiz;have:=@J0;have:=@zI.eq_1;exact gA
noncomputable def QN (fu:Nat) (s:ByteArray) (truth:Bool):Option Int:=Option.bind (itT (zJ s truth) fu 0) fun(a:Sum Int Unit)=>Sum.elim (fun(a2:Int)=>some a2) (fun(a3:Unit)=>some (-1)) a
theorem JC (fu:Nat) (s:ByteArray) (truth:Bool):qf (QN fu s truth) (zI s truth):=by
 unfold QN zI
 repeat (first
  | with_reducible exact qf.refl _
  | with_reducible exact qf.none _
  | with_reducible refine qf.bind ?_ (fun _=>?_)
  | with_reducible refine qf.ite ?_ ?_
  | with_reducible refine qf.sum (fun _=>?_) (fun _=>?_)
  | with_reducible refine qf.lim (fun _=>?_))
noncomputable def zG (s:ByteArray):Option Int:=Option.bind (zI s Bool.true) fun(e0:Int)=>some e0
theorem Jv:∀(s:ByteArray),ev 46 0 [rS s,R.c (C.fn 45 [] [])] []=(zG s).bind (fun(e:Int)=>some (rI e,[])):=
 fun s=>by
  rw[z8 qga qim.2.2.2 qiY]
  have:=qjh;have:=@Jy;have:=@zG.eq_1;exact gA
noncomputable def QO (fu:Nat) (s:ByteArray):Option Int:=Option.bind (QN fu s Bool.true) fun(e0:Int)=>some e0
theorem JB (fu:Nat) (s:ByteArray):qf (QO fu s) (zG s):=by
 unfold QO zG
 repeat (first
  | with_reducible exact qf.refl _
  | with_reducible exact qf.none _
  | with_reducible apply JC
  | with_reducible refine qf.bind ?_ (fun _=>?_)
  | with_reducible refine qf.ite ?_ ?_
  | with_reducible refine qf.sum (fun _=>?_) (fun _=>?_)
  | with_reducible refine qf.lim (fun _=>?_))
noncomputable def zQ (s:ByteArray):Option Bool:=if(!(ByteArray.toList s==ByteArray.toList (ByteArray.mk (List.toArray []))))=Bool.true then if((ByteArray.size s:Nat):Int)≤8 then Option.bind (zG s) fun(a:Int)=>some (decide (a<0)) else some Bool.false else some Bool.false
theorem Js:∀(s:ByteArray),ev 14 0 [rS s] []=(zQ s).bind (fun(e:Bool)=>some (rB e,[])):=
 fun s=>by
  rw[z8 qgO qhU.2.2.2 qiF]
  have:=qjb;have:=@Jv;have:=@zQ.eq_1;exact gA
noncomputable def Qt (fu:Nat) (s:ByteArray):Option Bool:=if(!(ByteArray.toList s==ByteArray.toList (ByteArray.mk (List.toArray []))))=Bool.true then if((ByteArray.size s:Nat):Int)≤8 then Option.bind (QO fu s) fun(a:Int)=>some (decide (a<0)) else some Bool.false else some Bool.false
theorem Jt (fu:Nat) (s:ByteArray):qf (Qt fu s) (zQ s):=by
 unfold Qt zQ
 repeat (first
  | with_reducible exact qf.refl _
  | with_reducible exact qf.none _
  | with_reducible apply JB
  | with_reducible refine qf.bind ?_ (fun _=>?_)
  | with_reducible refine qf.ite ?_ ?_
  | with_reducible refine qf.sum (fun _=>?_) (fun _=>?_)
  | with_reducible refine qf.lim (fun _=>?_))
theorem qjw:okL 38 q7Y:=zi (qg qgB) (by kernel_rfl) (by kernel_rfl)
def qiL:=JA_ @q7Y.eq_1 (JA_ @Try.f38.eq_1 @qgB)
theorem qio:okL 55 q7q:=zi (qg qfL) (by kernel_rfl) (by kernel_rfl)
def qie:=JA_ @q7q.eq_1 (JA_ @Try.f55.eq_1 @qfL)
theorem qgS:okL 70 q60:=zi (qg qeE) (by kernel_rfl) (by kernel_rfl)
def qfD:=JA_ @q60.eq_1 (JA_ @Try.f70.eq_1 @qeE)
theorem qaL:lbO 70 2=q5n:=Zz (qg qeE) rfl
theorem qbe:okL 70 q5n:=QG qgS (List.mem_of_getElem? (i:=0) (by kernel_rfl))
theorem qiH:okL 58 q7m:=zi (qg qgK) (by kernel_rfl) (by kernel_rfl)
def qjy:=JA_ @q7m.eq_1 (JA_ @Try.f58.eq_1 @qgK)
noncomputable def Qz (n:Int):Option Bool:=if n<1 then some Bool.true else some (decide (40<n))
noncomputable def Q5 (n:Int):Bool:=if n<1 then Bool.true else decide (40<n)
theorem JI (n:Int):Qz n=some (Q5 n):=by
 unfold Qz Q5
 simp only[q0W]
theorem q0b:∀(n:Int),ev 58 0 [rI n] []=some (rB (Q5 n),[]):=
 fun n=>by
  have h:ev 58 0 [rI n] []=(Qz n).bind (fun(e:Bool)=>some (rB e,[])):=by
   rw[z8 qgK qik.2.2.2 qiH]
   have:=qjy;have:=@Qz.eq_1;exact gA
  rw[JI] at h
  exact h
noncomputable def zb (s:List Int) (t7:Int):Int→Option (Int⊕(Int⊕Unit))|t8=>if t8<t7 then if 0≤t8∧t8<((s.length:Nat):Int) then Option.bind s[Int.toNat t8]? fun(a:Int)=>if Q5 a=Bool.true then some (Sum.inr (Sum.inl t8)) else some (Sum.inl (w64 (t8+1))) else none else some (Sum.inr (Sum.inr ()))
theorem Za:∀(s:List Int) (t7 t8:Int),XL2 evo 70 0 2 ⟨[(0,rL 1 eI s),(1,R.c (C.fn 58 [] [])),(7,rI t7),(8,rI t8)],[],0,19⟩=(Z9 (zb s t7) t8).bind (Sum.elim (fun(e:Int)=>some (Go.Exit.ret,⟨[(4,rI e)],[],0,19⟩)) (fun(e:Unit)=>some (Go.Exit.exit 0,⟨[(4,R.any)],[],0,19⟩))):=
 fun s t7 t8=>by
  revert t8;exact q6o qaL qbe (fun e=>by rcases e with _|_<;>exact⟨_,rfl,fun h=>by cases h⟩) fun x=>by
   have:=qfD;have:=@q5n.eq_1;have:=@q0b;have:=@zb.eq_1;exact gA
noncomputable def qW (s:List Int):Option Int:=Option.bind (Z9 (zb s ((s.length:Nat):Int)) 0) fun(a:Sum Int Unit)=>Sum.elim (fun(a2:Int)=>some a2) (fun(a3:Unit)=>some (-1)) a
theorem Zx:∀(s:List Int),ev 70 0 [rL 1 eI s,R.c (C.fn 58 [] [])] []=(qW s).bind (fun(e:Int)=>some (rI e,[])):=
 fun s=>by
  rw[z8 qeE qfX.2.2.2 qgS]
  have:=qfD;have:=@Za;have:=@qW.eq_1;exact gA
noncomputable def zN (fu:Nat) (s:List Int):Option Int:=Option.bind (itT (zb s ((s.length:Nat):Int)) fu 0) fun(a:Sum Int Unit)=>Sum.elim (fun(a2:Int)=>some a2) (fun(a3:Unit)=>some (-1)) a
theorem Zw (fu:Nat) (s:List Int):qf (zN fu s) (qW s):=by
 unfold zN qW
 repeat (first
  | with_reducible exact qf.refl _
  | with_reducible exact qf.none _
  | with_reducible refine qf.bind ?_ (fun _=>?_)
  | with_reducible refine qf.ite ?_ ?_
  | with_reducible refine qf.sum (fun _=>?_) (fun _=>?_)
  | with_reducible refine qf.lim (fun _=>?_))
noncomputable def qG (s:List Int):Option Bool:=Option.bind (qW s) fun(a:Int)=>some (decide (0≤a))
theorem Z8:∀(s:List Int),ev 55 0 [rL 1 eI s,R.c (C.fn 58 [] [])] []=(qG s).bind (fun(e:Bool)=>some (rB e,[])):=
 fun s=>by
  rw[z8 qfL qgf.2.2.2 qio]
  have:=qie;have:=@Zx;have:=@qG.eq_1;exact gA
noncomputable def zy (fu:Nat) (s:List Int):Option Bool:=Option.bind (zN fu s) fun(a:Int)=>some (decide (0≤a))
theorem Z6 (fu:Nat) (s:List Int):qf (zy fu s) (qG s):=by
 unfold zy qG
 repeat (first
  | with_reducible exact qf.refl _
  | with_reducible exact qf.none _
  | with_reducible apply Zw
  | with_reducible refine qf.bind ?_ (fun _=>?_)
  | with_reducible refine qf.ite ?_ ?_
  | with_reducible refine qf.sum (fun _=>?_) (fun _=>?_)
  | with_reducible refine qf.lim (fun _=>?_))
theorem qhy:okL 59 q5A:=zi (qg qfK) (by kernel_rfl) (by kernel_rfl)
def qhD:=JA_ @q5A.eq_1 (JA_ @Try.f59.eq_1 @qfK)
theorem qeZ:lbO 59 2=q8C:=Zz (qg qfK) rfl
theorem qeo:okL 59 q8C:=QG qhy (List.mem_of_getElem? (i:=0) (by kernel_rfl))
noncomputable def zn (l:List Int):Int→Option (Int⊕(Unit⊕Unit))|k=>if k<((l.length:Nat):Int) then if 0≤w64 (k-1)∧w64 (k-1)<((l.length:Nat):Int) then Option.bind l[Int.toNat (w64 (k-1))]? fun(a:Int)=>if 0≤k∧k<((l.length:Nat):Int) then Option.bind l[Int.toNat k]? fun(a2:Int)=>if a2≤a then some (Sum.inr (Sum.inl ())) else some (Sum.inl (w64 (k+1))) else none else none else some (Sum.inr (Sum.inr ()))
theorem Zs:∀(l:List Int) (k:Int),XL2 evo 59 0 2 ⟨[(0,rL 1 eI l),(3,rI k)],[],0,20⟩=(Z9 (zn l) k).bind (Sum.elim (fun(e:Unit)=>some (Go.Exit.ret,⟨[(2,rB Bool.false)],[],0,20⟩)) (fun(e:Unit)=>some (Go.Exit.exit 0,⟨[(2,R.any)],[],0,20⟩))):=
 fun l k=>by
  revert k;exact q6o qeZ qeo (fun e=>by rcases e with _|_<;>exact⟨_,rfl,fun h=>by cases h⟩) fun x=>by
   have:=qhD;have:=@q8C.eq_1;have:=@zn.eq_1;exact gA
noncomputable def zh (l:List Int):Option Bool:=Option.bind (Z9 (zn l) 1) fun(a:Sum Unit Unit)=>Sum.elim (fun(a2:Unit)=>some Bool.false) (fun(a3:Unit)=>some Bool.true) a
theorem ZL:∀(l:List Int),ev 59 0 [rL 1 eI l] []=(zh l).bind (fun(e:Bool)=>some (rB e,[])):=
 fun l=>by
  rw[z8 qfK qhV.2.2.2 qhy]
  have:=qhD;have:=@Zs;have:=@zh.eq_1;exact gA
noncomputable def Q2 (fu:Nat) (l:List Int):Option Bool:=Option.bind (itT (zn l) fu 1) fun(a:Sum Unit Unit)=>Sum.elim (fun(a2:Unit)=>some Bool.false) (fun(a3:Unit)=>some Bool.true) a
theorem ZK (fu:Nat) (l:List Int):qf (Q2 fu l) (zh l):=by
 unfold Q2 zh
 repeat (first
  | with_reducible exact qf.refl _
  | with_reducible exact qf.none _
  | with_reducible refine qf.bind ?_ (fun _=>?_)
  | with_reducible refine qf.ite ?_ ?_
  | with_reducible refine qf.sum (fun _=>?_) (fun _=>?_)
  | with_reducible refine qf.lim (fun _=>?_))
theorem qhX:okL 60 q5Q:=zi (qg qfx) (by kernel_rfl) (by kernel_rfl)
def qiq:=JA_ @q5Q.eq_1 (JA_ @Try.f60.eq_1 @qfx)
theorem qdU:lbO 60 2=q8p:=Zz (qg qfx) rfl
theorem qdL:okL 60 q8p:=QG qhX (List.mem_of_getElem? (i:=0) (by kernel_rfl))
noncomputable def zc (l:List ByteArray):Int→Option (Int⊕(Unit⊕Unit))|k=>if k<((l.length:Nat):Int) then if 0≤w64 (k-1)∧w64 (k-1)<((l.length:Nat):Int) then Option.bind l[Int.toNat (w64 (k-1))]? fun(a:ByteArray)=>if 0≤k∧k<((l.length:Nat):Int) then Option.bind l[Int.toNat k]? fun(a2:ByteArray)=>if(!(Go.Op.bytesLess (ByteArray.toList a) (ByteArray.toList a2)))=Bool.true then some (Sum.inr (Sum.inl ())) else some (Sum.inl (w64 (k+1))) else none else none else some (Sum.inr (Sum.inr ()))
theorem Z7:∀(l:List ByteArray) (k:Int),XL2 evo 60 0 2 ⟨[(0,rL 1 eS l),(3,rI k)],[],0,20⟩=(Z9 (zc l) k).bind (Sum.elim (fun(e:Unit)=>some (Go.Exit.ret,⟨[(2,rB Bool.false)],[],0,20⟩)) (fun(e:Unit)=>some (Go.Exit.exit 0,⟨[(2,R.any)],[],0,20⟩))):=
 fun l k=>by
  revert k;exact q6o qdU qdL (fun e=>by rcases e with _|_<;>exact⟨_,rfl,fun h=>by cases h⟩) fun x=>by
   have:=qiq;have:=@q8p.eq_1;have:=@zc.eq_1;exact gA
noncomputable def qV (l:List ByteArray):Option Bool:=Option.bind (Z9 (zc l) 1) fun(a:Sum Unit Unit)=>Sum.elim (fun(a2:Unit)=>some Bool.false) (fun(a3:Unit)=>some Bool.true) a
theorem Zr:∀(l:List ByteArray),ev 60 0 [rL 1 eS l] []=(qV l).bind (fun(e:Bool)=>some (rB e,[])):=
 fun l=>by
  rw[z8 qfx qiy.2.2.2 qhX]
  have:=qiq;have:=@Z7;have:=@qV.eq_1;exact gA
noncomputable def zO (fu:Nat) (l:List ByteArray):Option Bool:=Option.bind (itT (zc l) fu 1) fun(a:Sum Unit Unit)=>Sum.elim (fun(a2:Unit)=>some Bool.false) (fun(a3:Unit)=>some Bool.true) a
theorem Zt (fu:Nat) (l:List ByteArray):qf (zO fu l) (qV l):=by
 unfold zO qV
 repeat (first
  | with_reducible exact qf.refl _
  | with_reducible exact qf.none _
  | with_reducible refine qf.bind ?_ (fun _=>?_)
  | with_reducible refine qf.ite ?_ ?_
  | with_reducible refine qf.sum (fun _=>?_) (fun _=>?_)
  | with_reducible refine qf.lim (fun _=>?_))
noncomputable def zu (o:qa):Option Int:=if o.Credits<1 then some 3 else if 60<o.Credits then some 3 else if o.Places<0 then some 3 else if 200<o.Places then some 3 else Option.bind (qG o.Slots) fun(a:Bool)=>if a=Bool.true then some 3 else Option.bind (zh o.Slots) fun(a2:Bool)=>if(!a2)=Bool.true then some 7 else if 5<((o.Needs.length:Nat):Int) then some 2 else Option.bind (qV o.Needs) fun(a3:Bool)=>if(!a3)=Bool.true then some 7 else some 0
theorem q0P:∀(o_Code:ByteArray) (o_Credits o_Places:Int) (o_Slots:List Int) (o_Needs:List ByteArray),ev 38 0 [R.agg [dS o_Code,dI o_Credits,dI o_Places,dL 1 eI o_Slots,dL 1 eS o_Needs]] []=(zu (qa.mk o_Code o_Credits o_Places o_Slots o_Needs)).bind (fun(e:Int)=>some (rI e,[])):=
 fun o_Code o_Credits o_Places o_Slots o_Needs=>by
  rw[z8 qgB qhI.2.2.2 qjw]
  have:=qiL;have:=@Z8;have:=@ZL;have:=@Zr;have:=@zu.eq_1;exact gA
noncomputable def zX (fu:Nat) (o:qa):Option Int:=if o.Credits<1 then some 3 else if 60<o.Credits then some 3 else if o.Places<0 then some 3 else if 200<o.Places then some 3 else Option.bind (zy fu o.Slots) fun(a:Bool)=>if a=Bool.true then some 3 else Option.bind (Q2 fu o.Slots) fun(a2:Bool)=>if(!a2)=Bool.true then some 7 else if 5<((o.Needs.length:Nat):Int) then some 2 else Option.bind (zO fu o.Needs) fun(a3:Bool)=>if(!a3)=Bool.true then some 7 else some 0
theorem q0Y (fu:Nat) (o:qa):qf (zX fu o) (zu o):=by
 unfold zX zu
 repeat (first
  | with_reducible exact qf.refl _
  | with_reducible exact qf.none _
  | with_reducible apply Z6
  | with_reducible apply ZK
  | with_reducible apply Zt
  | with_reducible refine qf.bind ?_ (fun _=>?_)
  | with_reducible refine qf.ite ?_ ?_
  | with_reducible refine qf.sum (fun _=>?_) (fun _=>?_)
  | with_reducible refine qf.lim (fun _=>?_))
noncomputable def zY (t0:List qa) (t13:List qa) (t14:Int):Int→Option (Int⊕(Int⊕Unit))|t15=>if t15<t14 then if 0≤t15∧t15<((t13.length:Nat):Int) then Option.bind t13[Int.toNat t15]? fun(a:qa)=>Option.bind (zQ a.Code) fun(a2:Bool)=>if(!a2)=Bool.true then some (Sum.inr (Sum.inl 12)) else if 0<t15 then if 0≤w64 (t15-1)∧w64 (t15-1)<((t0.length:Nat):Int) then Option.bind t0[Int.toNat (w64 (t15-1))]? fun(a3:qa)=>if(ByteArray.toList a3.Code==ByteArray.toList a.Code)=Bool.true then some (Sum.inr (Sum.inl 6)) else if 0<t15 then if 0≤w64 (t15-1)∧w64 (t15-1)<((t0.length:Nat):Int) then Option.bind t0[Int.toNat (w64 (t15-1))]? fun(a4:qa)=>if(!(Go.Op.bytesLess (ByteArray.toList a4.Code) (ByteArray.toList a.Code)||ByteArray.toList a4.Code==ByteArray.toList a.Code))=Bool.true then some (Sum.inr (Sum.inl 7)) else Option.bind (zu a) fun(a5:Int)=>if(a5 != 0)=Bool.true then some (Sum.inr (Sum.inl a5)) else some (Sum.inl (w64 (t15+1))) else none else Option.bind (zu a) fun(a6:Int)=>if(a6 != 0)=Bool.true then some (Sum.inr (Sum.inl a6)) else some (Sum.inl (w64 (t15+1))) else none else if 0<t15 then if 0≤w64 (t15-1)∧w64 (t15-1)<((t0.length:Nat):Int) then Option.bind t0[Int.toNat (w64 (t15-1))]? fun(a7:qa)=>if(!(Go.Op.bytesLess (ByteArray.toList a7.Code) (ByteArray.toList a.Code)||ByteArray.toList a7.Code==ByteArray.toList a.Code))=Bool.true then some (Sum.inr (Sum.inl 7)) else Option.bind (zu a) fun(a8:Int)=>if(a8 != 0)=Bool.true then some (Sum.inr (Sum.inl a8)) else some (Sum.inl (w64 (t15+1))) else none else Option.bind (zu a) fun(a9:Int)=>if(a9 != 0)=Bool.true then some (Sum.inr (Sum.inl a9)) else some (Sum.inl (w64 (t15+1))) else none else some (Sum.inr (Sum.inr ()))
theorem q0e:∀(t0 t13:List qa) (t14 t15:Int),XL2 evo 12 0 4 ⟨[(0,rL 5 qh t0),(13,rL 5 qh t13),(14,rI t14),(15,rI t15)],[],0,81⟩=(Z9 (zY t0 t13 t14) t15).bind (Sum.elim (fun(e:Int)=>some (Go.Exit.ret,⟨[(0,rL 5 qh t0),(2,rI e)],[],0,81⟩)) (fun(e:Unit)=>some (Go.Exit.exit 0,⟨[(0,rL 5 qh t0),(2,R.any)],[],0,81⟩))):=
 fun t0 t13 t14 t15=>by
  revert t15;exact q6o qds qeU (fun e=>by rcases e with _|_<;>exact⟨_,rfl,fun h=>by cases h⟩) fun x=>by
   have:=qcY;have:=@q8O.eq_1;have:=@Js;have:=@q0P;have:=@zY.eq_1;exact gA
noncomputable def Zd (fu:Nat) (t0:List qa) (t13:List qa) (t14:Int):Int→Option (Int⊕(Int⊕Unit))|t15=>if t15<t14 then if 0≤t15∧t15<((t13.length:Nat):Int) then Option.bind t13[Int.toNat t15]? fun(a:qa)=>Option.bind (Qt fu a.Code) fun(a2:Bool)=>if(!a2)=Bool.true then some (Sum.inr (Sum.inl 12)) else if 0<t15 then if 0≤w64 (t15-1)∧w64 (t15-1)<((t0.length:Nat):Int) then Option.bind t0[Int.toNat (w64 (t15-1))]? fun(a3:qa)=>if(ByteArray.toList a3.Code==ByteArray.toList a.Code)=Bool.true then some (Sum.inr (Sum.inl 6)) else if 0<t15 then if 0≤w64 (t15-1)∧w64 (t15-1)<((t0.length:Nat):Int) then Option.bind t0[Int.toNat (w64 (t15-1))]? fun(a4:qa)=>if(!(Go.Op.bytesLess (ByteArray.toList a4.Code) (ByteArray.toList a.Code)||ByteArray.toList a4.Code==ByteArray.toList a.Code))=Bool.true then some (Sum.inr (Sum.inl 7)) else Option.bind (zX fu a) fun(a5:Int)=>if(a5 != 0)=Bool.true then some (Sum.inr (Sum.inl a5)) else some (Sum.inl (w64 (t15+1))) else none else Option.bind (zX fu a) fun(a6:Int)=>if(a6 != 0)=Bool.true then some (Sum.inr (Sum.inl a6)) else some (Sum.inl (w64 (t15+1))) else none else if 0<t15 then if 0≤w64 (t15-1)∧w64 (t15-1)<((t0.length:Nat):Int) then Option.bind t0[Int.toNat (w64 (t15-1))]? fun(a7:qa)=>if(!(Go.Op.bytesLess (ByteArray.toList a7.Code) (ByteArray.toList a.Code)||ByteArray.toList a7.Code==ByteArray.toList a.Code))=Bool.true then some (Sum.inr (Sum.inl 7)) else Option.bind (zX fu a) fun(a8:Int)=>if(a8 != 0)=Bool.true then some (Sum.inr (Sum.inl a8)) else some (Sum.inl (w64 (t15+1))) else none else Option.bind (zX fu a) fun(a9:Int)=>if(a9 != 0)=Bool.true then some (Sum.inr (Sum.inl a9)) else some (Sum.inl (w64 (t15+1))) else none else some (Sum.inr (Sum.inr ()))
theorem q09 (fu:Nat) (t0 t13:List qa) (t14:Int):∀x,qf (Zd fu t0 t13 t14 x) (zY t0 t13 t14 x):=by
 rintro t15
 unfold Zd zY
 try dsimp only
 repeat (first
  | with_reducible exact qf.refl _
  | with_reducible exact qf.none _
  | with_reducible apply Jt
  | with_reducible apply q0Y
  | with_reducible refine qf.bind ?_ (fun _=>?_)
  | with_reducible refine qf.ite ?_ ?_
  | with_reducible refine qf.sum (fun _=>?_) (fun _=>?_)
  | with_reducible refine qf.lim (fun _=>?_))
theorem qhF:okL 39 q5i:=zi (qg qfG) (by kernel_rfl) (by kernel_rfl)
def qhB:=JA_ @q5i.eq_1 (JA_ @Try.f39.eq_1 @qfG)
theorem qeH:lbO 39 3=q7U:=Zz (qg qfG) rfl
theorem qeK:okL 39 q7U:=QG qhF (List.mem_of_getElem? (i:=0) (by kernel_rfl))
noncomputable def QB (t9:List qa) (t10:Int):((List (ByteArray×(List ByteArray)))×Int)→Option (((List (ByteArray×(List ByteArray)))×Int)⊕((List (ByteArray×(List ByteArray)))))|(m0,t11)=>if t11<t10 then if 0≤t11∧t11<((t9.length:Nat):Int) then Option.bind t9[Int.toNat t11]? fun(a:qa)=>if(!(q2L m0 a.Code))=Bool.true then some (Sum.inl (q3t m0 a.Code a.Needs,w64 (t11+1))) else some (Sum.inl (m0,w64 (t11+1))) else none else some (Sum.inr m0)
theorem q0r:∀(m0:List (ByteArray×(List ByteArray))) (t9:List qa) (t10 t11:Int),XL2 evo 39 0 3 ⟨[(3,R.c (C.hd .map 0)),(9,rL 5 qh t9),(10,rI t10),(11,rI t11)],[(0,B.ob (mpB zw z6 m0))],1,31⟩=(Z9 (QB t9 t10) (m0,t11)).bind (fun(e:(List (ByteArray×(List ByteArray))))=>some (Go.Exit.exit 0,⟨[(3,R.c (C.hd .map 0))],[(0,B.ob (mpB zw z6 e))],1,31⟩)):=
 fun m0 t9 t10 t11=>by
  revert t11;revert m0;exact qgY qeH qeK (fun e=>by exact⟨_,rfl,fun h=>by cases h⟩) fun m0 t11=>by
   have:=qhB;have:=@q7U.eq_1;have:=@QB.eq_1;exact gA
noncomputable def Qd (l:List qa):Option ((List (ByteArray×(List ByteArray)))):=Option.bind (Z9 (QB l ((l.length:Nat):Int)) ([],0)) fun(a:List (Prod ByteArray (List ByteArray)))=>some a
theorem Jd:∀(l:List qa),ev 39 0 [rL 5 qh l] []=(Qd l).bind (fun(e:(List (ByteArray×(List ByteArray))))=>some (R.c (C.hd .map 0),[(0,B.ob (mpB zw z6 e))])):=
 fun l=>by
  rw[z8 qfG qhN.2.2.2 qhF]
  have:=qhB;have:=@q0r;have:=@Qd.eq_1;exact gA
noncomputable def Zo (fu:Nat) (l:List qa):Option ((List (ByteArray×(List ByteArray)))):=Option.bind (itT (QB l ((l.length:Nat):Int)) fu ([],0)) fun(a:List (Prod ByteArray (List ByteArray)))=>some a
theorem Jb (fu:Nat) (l:List qa):qf (Zo fu l) (Qd l):=by
 unfold Zo Qd
 repeat (first
  | with_reducible exact qf.refl _
  | with_reducible exact qf.none _
  | with_reducible refine qf.bind ?_ (fun _=>?_)
  | with_reducible refine qf.ite ?_ ?_
  | with_reducible refine qf.sum (fun _=>?_) (fun _=>?_)
  | with_reducible refine qf.lim (fun _=>?_))
theorem qhv:okL 40 q76:=zi (qg qfr) (by kernel_rfl) (by kernel_rfl)
def qhA:=JA_ @q76.eq_1 (JA_ @Try.f40.eq_1 @qfr)
theorem qgg:okL 61 q5B:=zi (qg qf7) (by kernel_rfl) (by kernel_rfl)
def qfR:=JA_ @q5B.eq_1 (JA_ @Try.f61.eq_1 @qf7)
theorem qaZ:lbO 61 2=q5O:=Zz (qg qf7) rfl
theorem qb8:okL 61 q5O:=QG qgg (List.mem_of_getElem? (i:=0) (by kernel_rfl))
theorem qj6:okL 41 q75:=zi (qg qg6) (by kernel_rfl) (by kernel_rfl)
def qiJ:=JA_ @q75.eq_1 (JA_ @Try.f41.eq_1 @qg6)
noncomputable def QM (c:ByteArray) (m1:List (ByteArray×(List ByteArray))):Option Bool:=
 some (!(q2L m1 c))
noncomputable def Qj (c:ByteArray) (m1:List (ByteArray×(List ByteArray))):Bool:=
 (!(q2L m1 c))
theorem q06 (c:ByteArray) (m1:List (ByteArray×(List ByteArray))):QM c m1=some (Qj c m1):=by
 unfold QM Qj
 simp only[q0W]
theorem q0B:∀(c:ByteArray) (m1:List (ByteArray×(List ByteArray))),ev 41 2 [rS c,rP 0] [(0,B.blk 65 [C.hd .map 1]),(1,B.ob (mpB zw z6 m1))]=some (rB (Qj c m1),[(0,B.blk 65 [C.hd .map 1]),(1,B.ob (mpB zw z6 m1))]):=
 fun c m1=>by
  have h:ev 41 2 [rS c,rP 0] [(0,B.blk 65 [C.hd .map 1]),(1,B.ob (mpB zw z6 m1))]=(QM c m1).bind (fun(e:Bool)=>some (rB e,[(0,B.blk 65 [C.hd .map 1]),(1,B.ob (mpB zw z6 m1))])):=by
   rw[z8 qg6 qhu.2.2.2 qj6]
   have:=qiJ;have:=@QM.eq_1;exact gA
  rw[q06] at h
  exact h
noncomputable def qE (m1:List (ByteArray×(List ByteArray))) (s:List ByteArray) (t7:Int):Int→Option (Int⊕(Int⊕Unit))|t8=>if t8<t7 then if 0≤t8∧t8<((s.length:Nat):Int) then Option.bind s[Int.toNat t8]? fun(a:ByteArray)=>if Qj a m1=Bool.true then some (Sum.inr (Sum.inl t8)) else some (Sum.inl (w64 (t8+1))) else none else some (Sum.inr (Sum.inr ()))
theorem Qw:∀(m1:List (ByteArray×(List ByteArray))) (s:List ByteArray) (t7 t8:Int),XL2 evo 61 2 2 ⟨[(0,rL 1 eS s),(1,R.c (C.fn 41 [] [dP 0])),(7,rI t7),(8,rI t8)],[(0,B.blk 65 [C.hd .map 1]),(1,B.ob (mpB zw z6 m1))],2,19⟩=(Z9 (qE m1 s t7) t8).bind (Sum.elim (fun(e:Int)=>some (Go.Exit.ret,⟨[(4,rI e)],[(0,B.blk 65 [C.hd .map 1]),(1,B.ob (mpB zw z6 m1))],2,19⟩)) (fun(e:Unit)=>some (Go.Exit.exit 0,⟨[(4,R.any)],[(0,B.blk 65 [C.hd .map 1]),(1,B.ob (mpB zw z6 m1))],2,19⟩))):=
 fun m1 s t7 t8=>by
  revert t8;exact q6o qaZ qb8 (fun e=>by rcases e with _|_<;>exact⟨_,rfl,fun h=>by cases h⟩) fun x=>by
   have:=qfR;have:=@q5O.eq_1;have:=@q0B;have:=@qE.eq_1;exact gA
noncomputable def qC (s:List ByteArray) (m1:List (ByteArray×(List ByteArray))):Option Int:=Option.bind (Z9 (qE m1 s ((s.length:Nat):Int)) 0) fun(a:Sum Int Unit)=>Sum.elim (fun(a2:Int)=>some a2) (fun(a3:Unit)=>some (-1)) a
theorem QQ:∀(s:List ByteArray) (m1:List (ByteArray×(List ByteArray))),ev 61 2 [rL 1 eS s,R.c (C.fn 41 [] [dP 0])] [(0,B.blk 65 [C.hd .map 1]),(1,B.ob (mpB zw z6 m1))]=(qC s m1).bind (fun(e:Int)=>some (rI e,[(0,B.blk 65 [C.hd .map 1]),(1,B.ob (mpB zw z6 m1))])):=
 fun s m1=>by
  rw[z8 qf7 qgC.2.2.2 qgg]
  have:=qfR;have:=@Qw;have:=@qC.eq_1;exact gA
noncomputable def zm (fu:Nat) (s:List ByteArray) (m1:List (ByteArray×(List ByteArray))):Option Int:=Option.bind (itT (qE m1 s ((s.length:Nat):Int)) fu 0) fun(a:Sum Int Unit)=>Sum.elim (fun(a2:Int)=>some a2) (fun(a3:Unit)=>some (-1)) a
theorem QP (fu:Nat) (s:List ByteArray) (m1:List (ByteArray×(List ByteArray))):qf (zm fu s m1) (qC s m1):=by
 unfold zm qC
 repeat (first
  | with_reducible exact qf.refl _
  | with_reducible exact qf.none _
  | with_reducible refine qf.bind ?_ (fun _=>?_)
  | with_reducible refine qf.ite ?_ ?_
  | with_reducible refine qf.sum (fun _=>?_) (fun _=>?_)
  | with_reducible refine qf.lim (fun _=>?_))
noncomputable def qn (s:List ByteArray) (m1:List (ByteArray×(List ByteArray))):Option Bool:=Option.bind (qC s m1) fun(a:Int)=>some (decide (0≤a))
theorem Qr:∀(s:List ByteArray) (m1:List (ByteArray×(List ByteArray))),ev 40 2 [rL 1 eS s,R.c (C.fn 41 [] [dP 0])] [(0,B.blk 65 [C.hd .map 1]),(1,B.ob (mpB zw z6 m1))]=(qn s m1).bind (fun(e:Bool)=>some (rB e,[(0,B.blk 65 [C.hd .map 1]),(1,B.ob (mpB zw z6 m1))])):=
 fun s m1=>by
  rw[z8 qfr qgo.2.2.2 qhv]
  have:=qhA;have:=@QQ;have:=@qn.eq_1;exact gA
noncomputable def zd (fu:Nat) (s:List ByteArray) (m1:List (ByteArray×(List ByteArray))):Option Bool:=Option.bind (zm fu s m1) fun(a:Int)=>some (decide (0≤a))
theorem Qy (fu:Nat) (s:List ByteArray) (m1:List (ByteArray×(List ByteArray))):qf (zd fu s m1) (qn s m1):=by
 unfold zd qn
 repeat (first
  | with_reducible exact qf.refl _
  | with_reducible exact qf.none _
  | with_reducible apply QP
  | with_reducible refine qf.bind ?_ (fun _=>?_)
  | with_reducible refine qf.ite ?_ ?_
  | with_reducible refine qf.sum (fun _=>?_) (fun _=>?_)
  | with_reducible refine qf.lim (fun _=>?_))
noncomputable def Ql (m1:List (ByteArray×(List ByteArray))):Option Bool:=anyO (fun(a:ByteArray) (v:List ByteArray)=>Option.bind (qn v m1) fun(a2:Bool)=>if a2=Bool.true then some true else some false) m1
theorem JO:∀(m1:List (ByteArray×(List ByteArray))),XM2 evo 12 0 18 (@Go.Operand.tmp 62) ⟨[(6,rP 0),(62,R.c (C.hd .iter 2))],[(0,B.blk 65 [C.hd .map 1]),(1,B.ob (mpB zw z6 m1)),(2,B.ob (AO.mi (R.c (C.hd HK.map 1)) m1.length []))],3,81⟩=(Ql m1).bind (fun e=>if e=true then some (Go.Exit.ret,⟨[(2,rI 5),(6,rP 0)],[(0,B.blk 65 [C.hd .map 1]),(1,B.ob (mpB zw z6 m1))],2,81⟩) else some (Go.Exit.exit 3,⟨[(2,R.any),(6,rP 0)],[(0,B.blk 65 [C.hd .map 1]),(1,B.ob (mpB zw z6 m1))],2,81⟩)):=
 fun m1=>by
  have h:=q50 (E:=evo) (f:=12) (k:=0) (key:=18) (it:=@Go.Operand.tmp 62) qc9 qcd (kE:=zw) (vE:=z6) (M:=m1) (st:=fun b=>(⟨[(6,rP 0),(62,R.c (C.hd .iter 2))],[(0,B.blk 65 [C.hd .map 1]),(1,B.ob (mpB zw z6 m1)),(2,b)],3,81⟩:S)) (id:=2) (mid:=1) (x:=(Go.Exit.ret,⟨[(2,rI 5),(6,rP 0)],[(0,B.blk 65 [C.hd .map 1]),(1,B.ob (mpB zw z6 m1))],2,81⟩)) (z:=(Go.Exit.exit 3,⟨[(2,R.any),(6,rP 0)],[(0,B.blk 65 [C.hd .map 1]),(1,B.ob (mpB zw z6 m1))],2,81⟩)) (g:=fun a v=>Option.bind (qn v m1) fun(a2:Bool) =>     if a2=Bool.true then some true     else some false) (fun _=>rfl) (fun _=>rfl) (fun _=>rfl) (fun _=>rfl) (by decide) (fun _ _=>rfl) (by intro h;cases h) (by intro h;cases h) (fun a v j l hE=>by
   simp only[q8U,qb5,q6H,z6] at hE
   have:=qcY;have:=@q3A.eq_1;have:=@z6;have:=@hE;have:=@Qr;exact gA) (fun l=>by
   have:=qcY;have:=@q3A.eq_1;have:=@z6;exact gA)
  exact h
noncomputable def Z2 (fu:Nat) (m1:List (ByteArray×(List ByteArray))):Option Bool:=anyO (fun(a:ByteArray) (v:List ByteArray)=>Option.bind (zd fu v m1) fun(a2:Bool)=>if a2=Bool.true then some true else some false) m1
theorem JS (fu:Nat) (m1:List (ByteArray×(List ByteArray))):qf (Z2 fu m1) (Ql m1):=by
 unfold Z2 Ql
 refine qf.anyO (fun _ _=>?_) _
 repeat (first
  | with_reducible exact qf.refl _
  | with_reducible exact qf.none _
  | with_reducible apply Qy
  | with_reducible refine qf.bind ?_ (fun _=>?_)
  | with_reducible refine qf.ite ?_ ?_
  | with_reducible refine qf.sum (fun _=>?_) (fun _=>?_)
  | with_reducible refine qf.lim (fun _=>?_))
theorem qje:okL 43 q7z:=zi (qg qhf) (by kernel_rfl) (by kernel_rfl)
def qjx:=JA_ @q7z.eq_1 (JA_ @Try.f43.eq_1 @qhf)
theorem qhS:okL 63 q5U:=zi (qg qfn) (by kernel_rfl) (by kernel_rfl)
def qhP:=JA_ @q5U.eq_1 (JA_ @Try.f63.eq_1 @qfn)
theorem qeu:lbO 63 1=q8m:=Zz (qg qfn) rfl
theorem qf3:okL 63 q8m:=QG qhS (List.mem_of_getElem? (i:=0) (by kernel_rfl))
noncomputable def qQ (x:(ByteArray×(List (ByteArray×(List ByteArray)))×(List (ByteArray×Bool)))):List R×List (Nat×B):=([R.c (C.d (D.str x.1)),R.c (C.ptr 0 0),R.c (C.ptr 2 0),R.c (C.ptr 4 0)],[(0,B.blk 65 [C.hd .map 1]),(1,B.ob (mpB zw z6 x.2.1)),(2,B.blk 46 [C.hd .map 3]),(3,B.ob (mpB zw Q6 x.2.2)),(4,B.blk 81 [C.fn 63 [] [C.ptr 0 0,C.ptr 2 0,C.ptr 4 0]])])
noncomputable def qX:((List (ByteArray×(List ByteArray)))×(List (ByteArray×Bool)))→R×List (Nat×B):=fun(e:(List (ByteArray×(List ByteArray)))×(List (ByteArray×Bool)))=>(R.tup [],[(0,B.blk 65 [C.hd .map 1]),(1,B.ob (mpB zw z6 e.1)),(2,B.blk 46 [C.hd .map 3]),(3,B.ob (mpB zw Q6 e.2)),(4,B.blk 81 [C.fn 63 [] [C.ptr 0 0,C.ptr 2 0,C.ptr 4 0]])])
noncomputable def qK (rF:(ByteArray×(List (ByteArray×(List ByteArray)))×(List (ByteArray×Bool)))→Option ((List (ByteArray×(List ByteArray)))×(List (ByteArray×Bool)))) (t9:List ByteArray) (t10:Int):((List (ByteArray×(List ByteArray)))×(List (ByteArray×Bool))×Int)→Option (((List (ByteArray×(List ByteArray)))×(List (ByteArray×Bool))×Int)⊕((List (ByteArray×(List ByteArray)))×(List (ByteArray×Bool))))|(m1,m3,t11)=>if t11<t10 then if 0≤t11∧t11<((t9.length:Nat):Int) then Option.bind t9[Int.toNat t11]? fun(a2:ByteArray)=>if(!(q41 Bool.false m3 a2))=Bool.true then Option.bind (rF (a2,(m1,q3t m3 a2 Bool.true))) fun(a3:Prod (List (Prod ByteArray (List ByteArray))) (List (Prod ByteArray Bool)))=>some (Sum.inl (a3.1,a3.2,w64 (t11+1))) else some (Sum.inl (m1,m3,w64 (t11+1))) else none else some (Sum.inr (m1,m3))
theorem Jh (rE:Orc) (rF:(ByteArray×(List (ByteArray×(List ByteArray)))×(List (ByteArray×Bool)))→Option ((List (ByteArray×(List ByteArray)))×(List (ByteArray×Bool)))) (hF:∀y,rE (.fn 63) 5 (qQ y).1 (qQ y).2=(rF y).bind fun e=>some (qX e)) (hM:∀g k a G,g≠63→rE (.fn g) k a G=ev g k a G) (hR:∀g asg bd k a G,rE (.rd g asg bd) k a G=evr g asg bd k a G):∀(m1:List (ByteArray×(List ByteArray))) (m3:List (ByteArray×Bool)) (t9:List ByteArray) (t10 t11:Int),XL2 rE 63 5 1 ⟨[(2,rP 2),(3,rP 4),(9,rL 1 eS t9),(10,rI t10),(11,rI t11)],[(0,B.blk 65 [C.hd .map 1]),(1,B.ob (mpB zw z6 m1)),(2,B.blk 46 [C.hd .map 3]),(3,B.ob (mpB zw Q6 m3)),(4,B.blk 81 [C.fn 63 [] [dP 0,dP 2,dP 4]])],5,25⟩=(Z9 (qK rF t9 t10) (m1,m3,t11)).bind (fun(e:(List (ByteArray×(List ByteArray)))×(List (ByteArray×Bool)))=>some (Go.Exit.exit 0,⟨[],[(0,B.blk 65 [C.hd .map 1]),(1,B.ob (mpB zw z6 e.1)),(2,B.blk 46 [C.hd .map 3]),(3,B.ob (mpB zw Q6 e.2)),(4,B.blk 81 [C.fn 63 [] [dP 0,dP 2,dP 4]])],5,25⟩)):=
 fun m1 m3 t9 t10 t11=>by
  revert t11;revert m3;revert m1;exact qjr qeu qf3 (fun e=>by exact⟨_,rfl,fun h=>by cases h⟩) fun m1 m3 t11=>by
   have hF':∀(c:ByteArray) (m1:List (ByteArray×(List ByteArray))) (m3:List (ByteArray×Bool)),rE (.fn 63) 5 [rS c,rP 0,rP 2,rP 4] [(0,B.blk 65 [C.hd .map 1]),(1,B.ob (mpB zw z6 m1)),(2,B.blk 46 [C.hd .map 3]),(3,B.ob (mpB zw Q6 m3)),(4,B.blk 81 [C.fn 63 [] [dP 0,dP 2,dP 4]])]=(rF (c,m1,m3)).bind (fun e=>some (R.tup [],[(0,B.blk 65 [C.hd .map 1]),(1,B.ob (mpB zw z6 e.1)),(2,B.blk 46 [C.hd .map 3]),(3,B.ob (mpB zw Q6 e.2)),(4,B.blk 81 [C.fn 63 [] [dP 0,dP 2,dP 4]])])):=fun c m1 m3=>hF (c,m1,m3)
   have:=qhP;have:=@q8m.eq_1;have:=@qK.eq_1;exact gA
noncomputable def QI (fu:Nat) (rF:(ByteArray×(List (ByteArray×(List ByteArray)))×(List (ByteArray×Bool)))→Option ((List (ByteArray×(List ByteArray)))×(List (ByteArray×Bool)))) (t9:List ByteArray) (t10:Int):((List (ByteArray×(List ByteArray)))×(List (ByteArray×Bool))×Int)→Option (((List (ByteArray×(List ByteArray)))×(List (ByteArray×Bool))×Int)⊕((List (ByteArray×(List ByteArray)))×(List (ByteArray×Bool))))|(m1,m3,t11)=>if t11<t10 then if 0≤t11∧t11<((t9.length:Nat):Int) then Option.bind t9[Int.toNat t11]? fun(a2:ByteArray)=>if(!(q41 Bool.false m3 a2))=Bool.true then Option.bind (rF (a2,(m1,q3t m3 a2 Bool.true))) fun(a3:Prod (List (Prod ByteArray (List ByteArray))) (List (Prod ByteArray Bool)))=>some (Sum.inl (a3.1,a3.2,w64 (t11+1))) else some (Sum.inl (m1,m3,w64 (t11+1))) else none else some (Sum.inr (m1,m3))
theorem Jm (fu:Nat) (rF rF2:(ByteArray×(List (ByteArray×(List ByteArray)))×(List (ByteArray×Bool)))→Option ((List (ByteArray×(List ByteArray)))×(List (ByteArray×Bool)))) (hF:∀y,qf (rF y) (rF2 y)) (t9:List ByteArray) (t10:Int):∀x,qf (QI fu rF t9 t10 x) (qK rF2 t9 t10 x):=by
 rintro⟨m1,m3,t11⟩
 unfold QI qK
 try dsimp only
 repeat (first
  | with_reducible exact qf.refl _
  | with_reducible exact qf.none _
  | exact hF _
  | with_reducible refine qf.bind ?_ (fun _=>?_)
  | with_reducible refine qf.ite ?_ ?_
  | with_reducible refine qf.sum (fun _=>?_) (fun _=>?_)
  | with_reducible refine qf.lim (fun _=>?_))
noncomputable def zo (rF:(ByteArray×(List (ByteArray×(List ByteArray)))×(List (ByteArray×Bool)))→Option ((List (ByteArray×(List ByteArray)))×(List (ByteArray×Bool)))):(ByteArray×(List (ByteArray×(List ByteArray)))×(List (ByteArray×Bool)))→Option ((List (ByteArray×(List ByteArray)))×(List (ByteArray×Bool)))|(c,m1,m3)=>Option.bind (Z9 (qK rF (q41 [] m1 c) (((q41 [] m1 c).length:Nat):Int)) (m1,(m3,0))) fun(a2:Prod (List (Prod ByteArray (List ByteArray))) (List (Prod ByteArray Bool)))=>some (a2.1,a2.2)
theorem QF:q3T 63 5 qQ qX zo:=by
 intro rE rF hF hM hR x
 obtain⟨c,m1,m3⟩:=x
 show q4x rE 63 5 [rS c,rP 0,rP 2,rP 4] [(0,B.blk 65 [C.hd .map 1]),(1,B.ob (mpB zw z6 m1)),(2,B.blk 46 [C.hd .map 3]),(3,B.ob (mpB zw Q6 m3)),(4,B.blk 81 [C.fn 63 [] [dP 0,dP 2,dP 4]])]=_
 have hF':∀(c:ByteArray) (m1:List (ByteArray×(List ByteArray))) (m3:List (ByteArray×Bool)),rE (.fn 63) 5 [rS c,rP 0,rP 2,rP 4] [(0,B.blk 65 [C.hd .map 1]),(1,B.ob (mpB zw z6 m1)),(2,B.blk 46 [C.hd .map 3]),(3,B.ob (mpB zw Q6 m3)),(4,B.blk 81 [C.fn 63 [] [dP 0,dP 2,dP 4]])]=(rF (c,m1,m3)).bind (fun e=>some (R.tup [],[(0,B.blk 65 [C.hd .map 1]),(1,B.ob (mpB zw z6 e.1)),(2,B.blk 46 [C.hd .map 3]),(3,B.ob (mpB zw Q6 e.2)),(4,B.blk 81 [C.fn 63 [] [dP 0,dP 2,dP 4]])])):=fun c m1 m3=>hF (c,m1,m3)
 rw[q5S qfn qhS]
 have:=qhP;have:=Jh rE rF hF hM hR;have:=@zo.eq_1;have:=@qX.eq_1;exact gA
theorem zW:∀x y,qQ x=qQ y→x=y:=by
 rintro⟨a0,a1,a2⟩ ⟨b0,b1,b2⟩ h
 simp only[qQ,Prod.mk.injEq,List.cons.injEq,R.c.injEq,R.agg.injEq,R.tup.injEq,C.d.injEq,C.own.injEq,C.ptr.injEq,C.eptr.injEq,D.int.injEq,D.bool.injEq,D.str.injEq,D.sl.injEq,B.blk.injEq,B.row.injEq,q5T,q5x,q61,q4a,q4h,q3m,q3q,q5W,true_and,and_true,List.nil_append] at h
 simp only[h]
theorem QY:∀x y,qX x=qX y→x=y:=by
 rintro⟨a0,a1⟩ ⟨b0,b1⟩ h
 simp only[qX,Prod.mk.injEq,List.cons.injEq,R.c.injEq,R.agg.injEq,R.tup.injEq,C.d.injEq,C.own.injEq,C.ptr.injEq,C.eptr.injEq,D.int.injEq,D.bool.injEq,D.str.injEq,D.sl.injEq,B.blk.injEq,B.row.injEq,q5T,q5x,q61,q4a,q4h,q3m,q3q,q5W,true_and,and_true,List.nil_append] at h
 simp only[h]
noncomputable def zq:(ByteArray×(List (ByteArray×(List ByteArray)))×(List (ByteArray×Bool)))→Option ((List (ByteArray×(List ByteArray)))×(List (ByteArray×Bool))):=q2H 63 5 qQ qX
theorem q0j (x:(ByteArray×(List (ByteArray×(List ByteArray)))×(List (ByteArray×Bool)))):zq x=zo zq x:=qdB qfy.2.2.2 zW QY QF x
theorem JW (c:ByteArray) (m1:List (ByteArray×(List ByteArray))) (m3:List (ByteArray×Bool)):ev 63 5 [rS c,rP 0,rP 2,rP 4] [(0,B.blk 65 [C.hd .map 1]),(1,B.ob (mpB zw z6 m1)),(2,B.blk 46 [C.hd .map 3]),(3,B.ob (mpB zw Q6 m3)),(4,B.blk 81 [C.fn 63 [] [dP 0,dP 2,dP 4]])]=(zq (c,m1,m3)).bind (fun(e:(List (ByteArray×(List ByteArray)))×(List (ByteArray×Bool)))=>some (R.tup [],[(0,B.blk 65 [C.hd .map 1]),(1,B.ob (mpB zw z6 e.1)),(2,B.blk 46 [C.hd .map 3]),(3,B.ob (mpB zw Q6 e.2)),(4,B.blk 81 [C.fn 63 [] [dP 0,dP 2,dP 4]])])):=(q5E qfy.2.2.2 zW QF (c,m1,m3))
theorem q0a:∀(c:ByteArray) (m1:List (ByteArray×(List ByteArray))) (m3:List (ByteArray×Bool)),ev 63 5 [rS c,rP 0,rP 2,rP 4] [(0,B.blk 65 [C.hd .map 1]),(1,B.ob (mpB zw z6 m1)),(2,B.blk 46 [C.hd .map 3]),(3,B.ob (mpB zw Q6 m3)),(4,B.blk 81 [C.fn 63 [] [dP 0,dP 2,dP 4]])]=(zq (c,m1,m3)).bind (fun(e:(List (ByteArray×(List ByteArray)))×(List (ByteArray×Bool)))=>some (R.tup [],[(0,B.blk 65 [C.hd .map 1]),(1,B.ob (mpB zw z6 e.1)),(2,B.blk 46 [C.hd .map 3]),(3,B.ob (mpB zw Q6 e.2)),(4,B.blk 81 [C.fn 63 [] [dP 0,dP 2,dP 4]])])):=
 fun c m1 m3=>JW c m1 m3
noncomputable def Qg (fu:Nat) (rF:(ByteArray×(List (ByteArray×(List ByteArray)))×(List (ByteArray×Bool)))→Option ((List (ByteArray×(List ByteArray)))×(List (ByteArray×Bool)))):(ByteArray×(List (ByteArray×(List ByteArray)))×(List (ByteArray×Bool)))→Option ((List (ByteArray×(List ByteArray)))×(List (ByteArray×Bool)))|(c,m1,m3)=>Option.bind (itT (QI fu rF (q41 [] m1 c) (((q41 [] m1 c).length:Nat):Int)) fu (m1,(m3,0))) fun(a2:Prod (List (Prod ByteArray (List ByteArray))) (List (Prod ByteArray Bool)))=>some (a2.1,a2.2)
theorem J1 (fu:Nat) (rF rF2:(ByteArray×(List (ByteArray×(List ByteArray)))×(List (ByteArray×Bool)))→Option ((List (ByteArray×(List ByteArray)))×(List (ByteArray×Bool)))) (hF:∀y,qf (rF y) (rF2 y)):∀x,qf (Qg fu rF x) (zo rF2 x):=by
 rintro⟨c,m1,m3⟩
 unfold Qg zo
 try dsimp only
 repeat (first
  | with_reducible exact qf.refl _
  | with_reducible exact qf.none _
  | exact hF _
  | (with_reducible refine Jm _ _ _ hF ..)
  | with_reducible refine qf.bind ?_ (fun _=>?_)
  | with_reducible refine qf.ite ?_ ?_
  | with_reducible refine qf.sum (fun _=>?_) (fun _=>?_)
  | with_reducible refine qf.lim (fun _=>?_))
noncomputable def Jc (fu:Nat) (x:(ByteArray×(List (ByteArray×(List ByteArray)))×(List (ByteArray×Bool)))):Option ((List (ByteArray×(List ByteArray)))×(List (ByteArray×Bool))):=itR (Qg fu) fu x
theorem q0c (fu:Nat) (x:(ByteArray×(List (ByteArray×(List ByteArray)))×(List (ByteArray×Bool)))):qf (Jc fu x) (zq x):=qf.rec q0j (J1 fu) fu x
theorem qjm:okL 65 q7R:=zi (qg qgp) (by kernel_rfl) (by kernel_rfl)
def qiV:=JA_ @q7R.eq_1 (JA_ @Try.f65.eq_1 @qgp)
noncomputable def qx (m0:List (ByteArray×Bool)):Option Unit:=
 some ()
noncomputable def zp (m0:List (ByteArray×Bool)):Unit:=
 ()
theorem Q1 (m0:List (ByteArray×Bool)):qx m0=some (zp m0):=by
 unfold qx zp
 simp only[q0W]
theorem Qa:∀(m0:List (ByteArray×Bool)),ev 65 1 [R.c (C.hd .map 0)] [(0,B.ob (mpB zw Q6 m0))]=some (R.c (C.fn 74 [] [dP 1]),[(0,B.ob (mpB zw Q6 m0)),(1,B.blk 46 [C.hd .map 0])]):=
 fun m0=>by
  have h:ev 65 1 [R.c (C.hd .map 0)] [(0,B.ob (mpB zw Q6 m0))]=(qx m0).bind (fun(e:Unit)=>some (R.c (C.fn 74 [] [dP 1]),[(0,B.ob (mpB zw Q6 m0)),(1,B.blk 46 [C.hd .map 0])])):=by
   rw[z8 qgp qhL.2.2.2 qjm]
   have:=qiV;have:=@qx.eq_1;exact gA
  rw[Q1] at h
  exact h
noncomputable def zK (m1:List (ByteArray×Bool)):Option (List ByteArray):=if @qfQ (List.map (@Prod.fst ByteArray Bool) m1)=Bool.true then some (@q0L (List.map (@Prod.fst ByteArray Bool) m1)) else none
theorem J3:∀(m1:List (ByteArray×Bool)),ev 64 2 [R.c (C.fn 74 [] [dP 0])] [(0,B.blk 46 [C.hd .map 1]),(1,B.ob (mpB zw Q6 m1))]=(zK m1).bind (fun(e:List ByteArray)=>some (rL 1 eS e,[(0,B.blk 46 [C.hd .map 1]),(1,B.ob (mpB zw Q6 m1))])):=
 fun m1=>by
  rw[q6l,qif.2.2.2]
  have:=@zK.eq_1;exact gA
theorem Jx (x:(ByteArray×(List (ByteArray×(List ByteArray)))×(List (ByteArray×Bool)))) (e:(List (ByteArray×(List ByteArray)))×(List (ByteArray×Bool))) (h:zq x=some e):e.1=x.2.1:=
 q9b qfy.2.2.2 zW QY QF (Q:=fun x e=>e.1=x.2.1) (fun F hF y e he=>by
  obtain⟨c,m1,m3⟩:=y
  obtain⟨a,h1,h2⟩:=Option.bind_eq_some_iff.1 (show Option.bind (Z9 (qK F (q41 [] m1 c) (((q41 [] m1 c).length:Nat):Int)) (m1,(m3,0))) (fun a2=>some (a2.1,a2.2))=some e from he)
  injection h2 with h2
  have h3:=q9P (I:=fun x:(List (ByteArray×(List ByteArray)))×(List (ByteArray×Bool))×Int=>x.1=m1) (J:=fun e:(List (ByteArray×(List ByteArray)))×(List (ByteArray×Bool))=>e.1=m1) (fun x y hx hs=>by
   obtain⟨b,m,t⟩:=x
   obtain rfl:b=m1:=hx
   unfold qK at hs
   dsimp only at hs
   split at hs
   ·split at hs
    ·obtain⟨d,-,hs⟩:=Option.bind_eq_some_iff.1 hs
     split at hs
     ·obtain⟨r,hr,hs⟩:=Option.bind_eq_some_iff.1 hs
      injection hs with hs;injection hs with hs
      rw[←hs];exact hF _ _ hr
     ·injection hs with hs;injection hs with hs
      rw[←hs]
    ·cases hs
   ·cases hs) (fun x e hx hs=>by
   obtain⟨b,m,t⟩:=x
   obtain rfl:b=m1:=hx
   unfold qK at hs
   dsimp only at hs
   split at hs
   ·split at hs
    ·obtain⟨d,-,hs⟩:=Option.bind_eq_some_iff.1 hs
     split at hs
     ·obtain⟨r,hr,hs⟩:=Option.bind_eq_some_iff.1 hs
      cases hs
     ·cases hs
    ·cases hs
   ·injection hs with hs;injection hs with hs
    rw[←hs]) rfl h1
  rw[←h2];exact h3) x e h
noncomputable def qP (code:ByteArray) (m0:List (ByteArray×(List ByteArray))):Option (List ByteArray×(List (ByteArray×(List ByteArray)))):=Option.bind (zq (code,(m0,[]))) fun(a:Prod (List (Prod ByteArray (List ByteArray))) (List (Prod ByteArray Bool)))=>Option.bind (zK a.2) fun(a2:List ByteArray)=>some (a2,a.1)
theorem ZN:∀(code:ByteArray) (m0:List (ByteArray×(List ByteArray))),ev 43 1 [R.c (C.hd .map 0),rS code] [(0,B.ob (mpB zw z6 m0))]=(qP code m0).bind (fun(e:List ByteArray×(List (ByteArray×(List ByteArray))))=>some (rL 1 eS e.1,[(0,B.ob (mpB zw z6 e.2))])):=
 fun code m0=>by
  rw[z8 qhf qht.2.2.2 qje]
  have:=qjx;have:=@q0a;have:=@Qa;have:=@J3;have:=@qP.eq_1;exact gA
theorem q0p (code:ByteArray) (m0:List (ByteArray×(List ByteArray))) (r:List ByteArray×(List (ByteArray×(List ByteArray)))) (h:qP code m0=some r):r.2=m0:=by
 unfold qP at h
 obtain⟨a,h1,h⟩:=Option.bind_eq_some_iff.1 h
 obtain⟨b,h2,h⟩:=Option.bind_eq_some_iff.1 h
 injection h with h
 rw[←h];exact Jx _ _ h1
theorem q18:∀(code:ByteArray) (m0:List (ByteArray×(List ByteArray))),ev 43 1 [R.c (C.hd .map 0),rS code] [(0,B.ob (mpB zw z6 m0))]=(qP code m0).bind (fun(e:List ByteArray×(List (ByteArray×(List ByteArray))))=>some (rL 1 eS e.1,[(0,B.ob (mpB zw z6 m0))])):=fun code m0=>by
 rw[ZN]
 cases h:qP code m0 with
 | none=>rfl
 | some r=>rw[Option.bind_some,Option.bind_some,q0p _ _ _ h]
noncomputable def Z3 (fu:Nat) (code:ByteArray) (m0:List (ByteArray×(List ByteArray))):Option (List ByteArray×(List (ByteArray×(List ByteArray)))):=Option.bind (Jc fu (code,(m0,[]))) fun(a:Prod (List (Prod ByteArray (List ByteArray))) (List (Prod ByteArray Bool)))=>Option.bind (zK a.2) fun(a2:List ByteArray)=>some (a2,a.1)
theorem ZO (fu:Nat) (code:ByteArray) (m0:List (ByteArray×(List ByteArray))):qf (Z3 fu code m0) (qP code m0):=by
 unfold Z3 qP
 repeat (first
  | with_reducible exact qf.refl _
  | with_reducible exact qf.none _
  | with_reducible apply q0c
  | with_reducible refine qf.bind ?_ (fun _=>?_)
  | with_reducible refine qf.ite ?_ ?_
  | with_reducible refine qf.sum (fun _=>?_) (fun _=>?_)
  | with_reducible refine qf.lim (fun _=>?_))
theorem qjv:okL 42 q8K:=zi (qg qg8) (by kernel_rfl) (by kernel_rfl)
def qjf:=JA_ @q8K.eq_1 (JA_ @Try.f42.eq_1 @qg8)
theorem qih:okL 62 q58:=zi (qg qfH) (by kernel_rfl) (by kernel_rfl)
def qi5:=JA_ @q58.eq_1 (JA_ @Try.f62.eq_1 @qfH)
theorem qdc:lbO 62 2=q8q:=Zz (qg qfH) rfl
theorem qe9:okL 62 q8q:=QG qih (List.mem_of_getElem? (i:=0) (by kernel_rfl))
noncomputable def qT (s:List ByteArray) (v:ByteArray) (t7:Int):Int→Option (Int⊕(Int⊕Unit))|t8=>if t8<t7 then if 0≤t8∧t8<((s.length:Nat):Int) then Option.bind s[Int.toNat t8]? fun(a:ByteArray)=>if(ByteArray.toList v==ByteArray.toList a)=Bool.true then some (Sum.inr (Sum.inl t8)) else some (Sum.inl (w64 (t8+1))) else none else some (Sum.inr (Sum.inr ()))
theorem QT:∀(s:List ByteArray) (v:ByteArray) (t7 t8:Int),XL2 evo 62 0 2 ⟨[(0,rL 1 eS s),(1,rS v),(7,rI t7),(8,rI t8)],[],0,19⟩=(Z9 (qT s v t7) t8).bind (Sum.elim (fun(e:Int)=>some (Go.Exit.ret,⟨[(4,rI e)],[],0,19⟩)) (fun(e:Unit)=>some (Go.Exit.exit 0,⟨[(4,R.any)],[],0,19⟩))):=
 fun s v t7 t8=>by
  revert t8;exact q6o qdc qe9 (fun e=>by rcases e with _|_<;>exact⟨_,rfl,fun h=>by cases h⟩) fun x=>by
   have:=qi5;have:=@q8q.eq_1;have:=@qT.eq_1;exact gA
noncomputable def qM (s:List ByteArray) (v:ByteArray):Option Int:=Option.bind (Z9 (qT s v ((s.length:Nat):Int)) 0) fun(a:Sum Int Unit)=>Sum.elim (fun(a2:Int)=>some a2) (fun(a3:Unit)=>some (-1)) a
theorem Zg:∀(s:List ByteArray) (v:ByteArray),ev 62 0 [rL 1 eS s,rS v] []=(qM s v).bind (fun(e:Int)=>some (rI e,[])):=
 fun s v=>by
  rw[z8 qfH qhE.2.2.2 qih]
  have:=qi5;have:=@QT;have:=@qM.eq_1;exact gA
noncomputable def zB (fu:Nat) (s:List ByteArray) (v:ByteArray):Option Int:=Option.bind (itT (qT s v ((s.length:Nat):Int)) fu 0) fun(a:Sum Int Unit)=>Sum.elim (fun(a2:Int)=>some a2) (fun(a3:Unit)=>some (-1)) a
theorem Zk (fu:Nat) (s:List ByteArray) (v:ByteArray):qf (zB fu s v) (qM s v):=by
 unfold zB qM
 repeat (first
  | with_reducible exact qf.refl _
  | with_reducible exact qf.none _
  | with_reducible refine qf.bind ?_ (fun _=>?_)
  | with_reducible refine qf.ite ?_ ?_
  | with_reducible refine qf.sum (fun _=>?_) (fun _=>?_)
  | with_reducible refine qf.lim (fun _=>?_))
noncomputable def qm (s:List ByteArray) (v:ByteArray):Option Bool:=Option.bind (qM s v) fun(a:Int)=>some (decide (0≤a))
theorem zL:∀(s:List ByteArray) (v:ByteArray),ev 42 0 [rL 1 eS s,rS v] []=(qm s v).bind (fun(e:Bool)=>some (rB e,[])):=
 fun s v=>by
  rw[z8 qg8 qhY.2.2.2 qjv]
  have:=qjf;have:=@Zg;have:=@qm.eq_1;exact gA
noncomputable def qR (fu:Nat) (s:List ByteArray) (v:ByteArray):Option Bool:=Option.bind (zB fu s v) fun(a:Int)=>some (decide (0≤a))
theorem zM (fu:Nat) (s:List ByteArray) (v:ByteArray):qf (qR fu s v) (qm s v):=by
 unfold qR qm
 repeat (first
  | with_reducible exact qf.refl _
  | with_reducible exact qf.none _
  | with_reducible apply Zk
  | with_reducible refine qf.bind ?_ (fun _=>?_)
  | with_reducible refine qf.ite ?_ ?_
  | with_reducible refine qf.sum (fun _=>?_) (fun _=>?_)
  | with_reducible refine qf.lim (fun _=>?_))
noncomputable def Qk (m1:List (ByteArray×(List ByteArray))):Option Bool:=anyO (fun(a:ByteArray) (v:List ByteArray)=>Option.bind (qP a m1) fun(a2:Prod (List ByteArray) (List (Prod ByteArray (List ByteArray))))=>Option.bind (qm a2.1 a) fun(a3:Bool)=>if a3=Bool.true then some true else some false) m1
theorem JN:∀(m1:List (ByteArray×(List ByteArray))),XM2 evo 12 0 23 (@Go.Operand.tmp 71) ⟨[(6,rP 0),(71,R.c (C.hd .iter 2))],[(0,B.blk 65 [C.hd .map 1]),(1,B.ob (mpB zw z6 m1)),(2,B.ob (AO.mi (R.c (C.hd HK.map 1)) m1.length []))],3,81⟩=(Qk m1).bind (fun e=>if e=true then some (Go.Exit.ret,⟨[(2,rI 14)],[],0,81⟩) else some (Go.Exit.exit 5,⟨[(2,R.any)],[],0,81⟩)):=
 fun m1=>by
  have h:=q50 (E:=evo) (f:=12) (k:=0) (key:=23) (it:=@Go.Operand.tmp 71) qcl qcg (kE:=zw) (vE:=z6) (M:=m1) (st:=fun b=>(⟨[(6,rP 0),(71,R.c (C.hd .iter 2))],[(0,B.blk 65 [C.hd .map 1]),(1,B.ob (mpB zw z6 m1)),(2,b)],3,81⟩:S)) (id:=2) (mid:=1) (x:=(Go.Exit.ret,⟨[(2,rI 14)],[],0,81⟩)) (z:=(Go.Exit.exit 5,⟨[(2,R.any)],[],0,81⟩)) (g:=fun a v=>Option.bind (qP a m1) fun(a2:Prod (List ByteArray) (List (Prod ByteArray (List ByteArray)))) =>     Option.bind (qm a2.1 a) fun(a3:Bool) =>     if a3=Bool.true then some true     else some false) (fun _=>rfl) (fun _=>rfl) (fun _=>rfl) (fun _=>rfl) (by decide) (fun _ _=>rfl) (by intro h;cases h) (by intro h;cases h) (fun a v j l hE=>by
   simp only[q8U,qb5,q6H,z6] at hE
   have:=qcY;have:=@q3K.eq_1;have:=@z6;have:=@hE;have:=@q18;have:=@zL;exact gA) (fun l=>by
   have:=qcY;have:=@q3K.eq_1;have:=@z6;exact gA)
  exact h
noncomputable def QX (fu:Nat) (m1:List (ByteArray×(List ByteArray))):Option Bool:=anyO (fun(a:ByteArray) (v:List ByteArray)=>Option.bind (Z3 fu a m1) fun(a2:Prod (List ByteArray) (List (Prod ByteArray (List ByteArray))))=>Option.bind (qR fu a2.1 a) fun(a3:Bool)=>if a3=Bool.true then some true else some false) m1
theorem JG (fu:Nat) (m1:List (ByteArray×(List ByteArray))):qf (QX fu m1) (Qk m1):=by
 unfold QX Qk
 refine qf.anyO (fun _ _=>?_) _
 repeat (first
  | with_reducible exact qf.refl _
  | with_reducible exact qf.none _
  | with_reducible apply ZO
  | with_reducible apply zM
  | with_reducible refine qf.bind ?_ (fun _=>?_)
  | with_reducible refine qf.ite ?_ ?_
  | with_reducible refine qf.sum (fun _=>?_) (fun _=>?_)
  | with_reducible refine qf.lim (fun _=>?_))
noncomputable def qJ (x0:List qa):Option Int:=if 60<((x0.length:Nat):Int) then some 2 else Option.bind (Z9 (zY x0 x0 ((x0.length:Nat):Int)) 0) fun(a:Sum Int Unit)=>Sum.elim (fun(a2:Int)=>some a2) (fun(a3:Unit)=>Option.bind (Qd x0) fun(a4:List (Prod ByteArray (List ByteArray)))=>Option.bind (Ql a4) fun(a5:Bool)=>if a5=Bool.true then some 5 else Option.bind (Qk a4) fun(a6:Bool)=>if a6=Bool.true then some 14 else some 0) a
theorem Qs:∀(x0:List qa),ev 12 0 [rL 5 qh x0] []=(qJ x0).bind (fun(e:Int)=>some (rI e,[])):=
 fun x0=>by
  rw[z8 qcX qiu.2.2.2 qfz]
  have:=qcY;have:=@q0e;have:=@Jd;have:=@JO;have:=@JN;have:=@qJ.eq_1;exact gA
theorem q0k:∀(x00_Code:ByteArray) (x00_Credits x00_Places x00_Slots0 x00_Slots1:Int) (x01_Code:ByteArray) (x01_Credits x01_Places x01_Slots0:Int) (x01_Needs0 x02_Code:ByteArray) (x02_Credits x02_Places:Int) (x03_Code:ByteArray) (x03_Credits x03_Places x03_Slots0:Int) (x03_Needs0 x03_Needs1:ByteArray) , ev 12 0 [R.c (C.d (D.sl 5 4 [D.str x00_Code,D.int .i64 x00_Credits,D.int .i64 x00_Places,D.sl 1 2 [D.int .i64 x00_Slots0,D.int .i64 x00_Slots1],D.sl 1 0 [],D.str x01_Code,D.int .i64 x01_Credits,D.int .i64 x01_Places,D.sl 1 1 [D.int .i64 x01_Slots0],D.sl 1 1 [D.str x01_Needs0],D.str x02_Code,D.int .i64 x02_Credits,D.int .i64 x02_Places,D.sl 1 0 [],D.sl 1 0 [],D.str x03_Code,D.int .i64 x03_Credits,D.int .i64 x03_Places,D.sl 1 1 [D.int .i64 x03_Slots0],D.sl 1 2 [D.str x03_Needs0,D.str x03_Needs1]]))] []=(qJ [(qa.mk x00_Code x00_Credits x00_Places [x00_Slots0,x00_Slots1] []),(qa.mk x01_Code x01_Credits x01_Places [x01_Slots0] [x01_Needs0]),(qa.mk x02_Code x02_Credits x02_Places [] []),(qa.mk x03_Code x03_Credits x03_Places [x03_Slots0] [x03_Needs0,x03_Needs1])]).bind (fun(e:Int)=>some (rI e,[])):=by
 intro x00_Code x00_Credits x00_Places x00_Slots0 x00_Slots1 x01_Code x01_Credits x01_Places x01_Slots0 x01_Needs0 x02_Code x02_Credits x02_Places x03_Code x03_Credits x03_Places x03_Slots0 x03_Needs0 x03_Needs1;have h:=Qs [(qa.mk x00_Code x00_Credits x00_Places [x00_Slots0,x00_Slots1] []),(qa.mk x01_Code x01_Credits x01_Places [x01_Slots0] [x01_Needs0]),(qa.mk x02_Code x02_Credits x02_Places [] []),(qa.mk x03_Code x03_Credits x03_Places [x03_Slots0] [x03_Needs0,x03_Needs1])]
 first
  | exact h
  | (simp only[rL,dL,bR,bZ,Nat.reduceAdd] at h;exact h)
theorem q07:∀(x00_Code:ByteArray) (x00_Credits x00_Places x00_Slots0 x00_Slots1:Int) (x00_Needs0 x01_Code:ByteArray) (x01_Credits x01_Places x01_Slots0:Int) (x01_Needs0 x02_Code:ByteArray) (x02_Credits x02_Places:Int) (x03_Code:ByteArray) (x03_Credits x03_Places x03_Slots0:Int) (x03_Needs0 x03_Needs1:ByteArray) , ev 12 0 [R.c (C.d (D.sl 5 4 [D.str x00_Code,D.int .i64 x00_Credits,D.int .i64 x00_Places,D.sl 1 2 [D.int .i64 x00_Slots0,D.int .i64 x00_Slots1],D.sl 1 1 [D.str x00_Needs0],D.str x01_Code,D.int .i64 x01_Credits,D.int .i64 x01_Places,D.sl 1 1 [D.int .i64 x01_Slots0],D.sl 1 1 [D.str x01_Needs0],D.str x02_Code,D.int .i64 x02_Credits,D.int .i64 x02_Places,D.sl 1 0 [],D.sl 1 0 [],D.str x03_Code,D.int .i64 x03_Credits,D.int .i64 x03_Places,D.sl 1 1 [D.int .i64 x03_Slots0],D.sl 1 2 [D.str x03_Needs0,D.str x03_Needs1]]))] []=(qJ [(qa.mk x00_Code x00_Credits x00_Places [x00_Slots0,x00_Slots1] [x00_Needs0]),(qa.mk x01_Code x01_Credits x01_Places [x01_Slots0] [x01_Needs0]),(qa.mk x02_Code x02_Credits x02_Places [] []),(qa.mk x03_Code x03_Credits x03_Places [x03_Slots0] [x03_Needs0,x03_Needs1])]).bind (fun(e:Int)=>some (rI e,[])):=by
 intro x00_Code x00_Credits x00_Places x00_Slots0 x00_Slots1 x00_Needs0 x01_Code x01_Credits x01_Places x01_Slots0 x01_Needs0 x02_Code x02_Credits x02_Places x03_Code x03_Credits x03_Places x03_Slots0 x03_Needs0 x03_Needs1;have h:=Qs [(qa.mk x00_Code x00_Credits x00_Places [x00_Slots0,x00_Slots1] [x00_Needs0]),(qa.mk x01_Code x01_Credits x01_Places [x01_Slots0] [x01_Needs0]),(qa.mk x02_Code x02_Credits x02_Places [] []),(qa.mk x03_Code x03_Credits x03_Places [x03_Slots0] [x03_Needs0,x03_Needs1])]
 first
  | exact h
  | (simp only[rL,dL,bR,bZ,Nat.reduceAdd] at h;exact h)
theorem q0g:∀(x00_Code:ByteArray) (x00_Credits x00_Places x00_Slots0 x00_Slots1:Int) (x01_Code:ByteArray) (x01_Credits x01_Places x01_Slots0:Int) (x01_Needs0 x02_Code:ByteArray) (x02_Credits x02_Places:Int) (x02_Needs0 x03_Code:ByteArray) (x03_Credits x03_Places x03_Slots0:Int) (x03_Needs0 x03_Needs1:ByteArray) , ev 12 0 [R.c (C.d (D.sl 5 4 [D.str x00_Code,D.int .i64 x00_Credits,D.int .i64 x00_Places,D.sl 1 2 [D.int .i64 x00_Slots0,D.int .i64 x00_Slots1],D.sl 1 0 [],D.str x01_Code,D.int .i64 x01_Credits,D.int .i64 x01_Places,D.sl 1 1 [D.int .i64 x01_Slots0],D.sl 1 1 [D.str x01_Needs0],D.str x02_Code,D.int .i64 x02_Credits,D.int .i64 x02_Places,D.sl 1 0 [],D.sl 1 1 [D.str x02_Needs0],D.str x03_Code,D.int .i64 x03_Credits,D.int .i64 x03_Places,D.sl 1 1 [D.int .i64 x03_Slots0],D.sl 1 2 [D.str x03_Needs0,D.str x03_Needs1]]))] []=(qJ [(qa.mk x00_Code x00_Credits x00_Places [x00_Slots0,x00_Slots1] []),(qa.mk x01_Code x01_Credits x01_Places [x01_Slots0] [x01_Needs0]),(qa.mk x02_Code x02_Credits x02_Places [] [x02_Needs0]),(qa.mk x03_Code x03_Credits x03_Places [x03_Slots0] [x03_Needs0,x03_Needs1])]).bind (fun(e:Int)=>some (rI e,[])):=by
 intro x00_Code x00_Credits x00_Places x00_Slots0 x00_Slots1 x01_Code x01_Credits x01_Places x01_Slots0 x01_Needs0 x02_Code x02_Credits x02_Places x02_Needs0 x03_Code x03_Credits x03_Places x03_Slots0 x03_Needs0 x03_Needs1;have h:=Qs [(qa.mk x00_Code x00_Credits x00_Places [x00_Slots0,x00_Slots1] []),(qa.mk x01_Code x01_Credits x01_Places [x01_Slots0] [x01_Needs0]),(qa.mk x02_Code x02_Credits x02_Places [] [x02_Needs0]),(qa.mk x03_Code x03_Credits x03_Places [x03_Slots0] [x03_Needs0,x03_Needs1])]
 first
  | exact h
  | (simp only[rL,dL,bR,bZ,Nat.reduceAdd] at h;exact h)
noncomputable def zD (fu:Nat) (x0:List qa):Option Int:=if 60<((x0.length:Nat):Int) then some 2 else Option.bind (itT (Zd fu x0 x0 ((x0.length:Nat):Int)) fu 0) fun(a:Sum Int Unit)=>Sum.elim (fun(a2:Int)=>some a2) (fun(a3:Unit)=>Option.bind (Zo fu x0) fun(a4:List (Prod ByteArray (List ByteArray)))=>Option.bind (Z2 fu a4) fun(a5:Bool)=>if a5=Bool.true then some 5 else Option.bind (QX fu a4) fun(a6:Bool)=>if a6=Bool.true then some 14 else some 0) a
theorem J8 (fu:Nat) (x0:List qa):qf (zD fu x0) (qJ x0):=by
 unfold zD qJ
 repeat (first
  | with_reducible exact qf.refl _
  | with_reducible exact qf.none _
  | with_reducible apply q09
  | with_reducible apply Jb
  | with_reducible apply JS
  | with_reducible apply JG
  | with_reducible refine qf.bind ?_ (fun _=>?_)
  | with_reducible refine qf.ite ?_ ?_
  | with_reducible refine qf.sum (fun _=>?_) (fun _=>?_)
  | with_reducible refine qf.lim (fun _=>?_))
theorem qiD:okL 33 q8g:=zi (qg qg2) (by kernel_rfl) (by kernel_rfl)
def qiK:=JA_ @q8g.eq_1 (JA_ @Try.f33.eq_1 @qg2)
theorem q13:ev 33 0 [] []=some (rO 0 5 4,[(0,B.row 35 5 [dS (ByteArray.mk (List.toArray [65,49])),C.d (D.int Go.IntKind.i64 5),C.d (D.int Go.IntKind.i64 30),C.d (D.sl 1 2 [D.int Go.IntKind.i64 1,D.int Go.IntKind.i64 2]),C.d (D.sl 1 0 []),dS (ByteArray.mk (List.toArray [66,49])),C.d (D.int Go.IntKind.i64 6),C.d (D.int Go.IntKind.i64 10),C.d (D.sl 1 1 [D.int Go.IntKind.i64 2]),C.d (D.sl 1 1 [D.str (ByteArray.mk (List.toArray [65,49]))]),dS (ByteArray.mk (List.toArray [66,50])),C.d (D.int Go.IntKind.i64 3),C.d (D.int Go.IntKind.i64 0),C.d (D.sl 1 0 []),C.d (D.sl 1 0 []),dS (ByteArray.mk (List.toArray [67,49])),C.d (D.int Go.IntKind.i64 10),C.d (D.int Go.IntKind.i64 200),C.d (D.sl 1 1 [D.int Go.IntKind.i64 40]),C.d (D.sl 1 2 [D.str (ByteArray.mk (List.toArray [66,49])),D.str (ByteArray.mk (List.toArray [66,50]))])])]):=
 by
  rw[z8 qg2 qi7.2.2.2 qiD]
  have:=qiK;exact gA
theorem qiN:okL 23 q6X:=zi (qg qhk) (by kernel_rfl) (by kernel_rfl)
def qiO:=JA_ @q6X.eq_1 (JA_ @Try.f23.eq_1 @qhk)
noncomputable def qk (l:List qa) (code:ByteArray):Option (List ByteArray):=Option.bind (Qd l) fun(a:List (Prod ByteArray (List ByteArray)))=>Option.bind (qP code a) fun(a2:Prod (List ByteArray) (List (Prod ByteArray (List ByteArray))))=>some a2.1
theorem q1w:∀(l:List qa) (code:ByteArray),ev 23 0 [rL 5 qh l,rS code] []=(qk l code).bind (fun(e:List ByteArray)=>some (rL 1 eS e,[])):=
 fun l code=>by
  rw[z8 qhk qhK.2.2.2 qiN]
  have:=qiO;have:=@Jd;have:=@ZN;have:=@qk.eq_1;exact gA
theorem q0i:∀(l0_Code:ByteArray) (l0_Credits l0_Places l0_Slots0 l0_Slots1:Int) (l1_Code:ByteArray) (l1_Credits l1_Places l1_Slots0:Int) (l1_Needs0 l2_Code:ByteArray) (l2_Credits l2_Places:Int) (l3_Code:ByteArray) (l3_Credits l3_Places l3_Slots0:Int) (l3_Needs0 l3_Needs1 code:ByteArray),ev 23 0 [R.c (C.d (D.sl 5 4 [D.str l0_Code,D.int .i64 l0_Credits,D.int .i64 l0_Places,D.sl 1 2 [D.int .i64 l0_Slots0,D.int .i64 l0_Slots1],D.sl 1 0 [],D.str l1_Code,D.int .i64 l1_Credits,D.int .i64 l1_Places,D.sl 1 1 [D.int .i64 l1_Slots0],D.sl 1 1 [D.str l1_Needs0],D.str l2_Code,D.int .i64 l2_Credits,D.int .i64 l2_Places,D.sl 1 0 [],D.sl 1 0 [],D.str l3_Code,D.int .i64 l3_Credits,D.int .i64 l3_Places,D.sl 1 1 [D.int .i64 l3_Slots0],D.sl 1 2 [D.str l3_Needs0,D.str l3_Needs1]])),rS code] []=(qk [(qa.mk l0_Code l0_Credits l0_Places [l0_Slots0,l0_Slots1] []),(qa.mk l1_Code l1_Credits l1_Places [l1_Slots0] [l1_Needs0]),(qa.mk l2_Code l2_Credits l2_Places [] []),(qa.mk l3_Code l3_Credits l3_Places [l3_Slots0] [l3_Needs0,l3_Needs1])] code).bind (fun(e:List ByteArray)=>some (rL 1 eS e,[])):=by
 intro l0_Code l0_Credits l0_Places l0_Slots0 l0_Slots1 l1_Code l1_Credits l1_Places l1_Slots0 l1_Needs0 l2_Code l2_Credits l2_Places l3_Code l3_Credits l3_Places l3_Slots0 l3_Needs0 l3_Needs1 code;have h:=q1w [(qa.mk l0_Code l0_Credits l0_Places [l0_Slots0,l0_Slots1] []),(qa.mk l1_Code l1_Credits l1_Places [l1_Slots0] [l1_Needs0]),(qa.mk l2_Code l2_Credits l2_Places [] []),(qa.mk l3_Code l3_Credits l3_Places [l3_Slots0] [l3_Needs0,l3_Needs1])] code
 first
  | exact h
  | (simp only[rL,dL,bR,bZ,Nat.reduceAdd] at h;exact h)
noncomputable def qt (fu:Nat) (l:List qa) (code:ByteArray):Option (List ByteArray):=Option.bind (Zo fu l) fun(a:List (Prod ByteArray (List ByteArray)))=>Option.bind (Z3 fu code a) fun(a2:Prod (List ByteArray) (List (Prod ByteArray (List ByteArray))))=>some a2.1
theorem q1g (fu:Nat) (l:List qa) (code:ByteArray):qf (qt fu l code) (qk l code):=by
 unfold qt qk
 repeat (first
  | with_reducible exact qf.refl _
  | with_reducible exact qf.none _
  | with_reducible apply Jb
  | with_reducible apply ZO
  | with_reducible refine qf.bind ?_ (fun _=>?_)
  | with_reducible refine qf.ite ?_ ?_
  | with_reducible refine qf.sum (fun _=>?_) (fun _=>?_)
  | with_reducible refine qf.lim (fun _=>?_))
theorem qis:okL 16 q5y:=zi (qg qfN) (by kernel_rfl) (by kernel_rfl)
def qhz:=JA_ @q5y.eq_1 (JA_ @Try.f16.eq_1 @qfN)
theorem qe4:lbO 16 4=q6O:=Zz (qg qfN) rfl
theorem qd4:okL 16 q6O:=QG qis (List.mem_of_getElem? (i:=0) (by kernel_rfl))
noncomputable def zV (a:List ByteArray) (b:List ByteArray):Int→Option (Int⊕(Unit⊕Unit))|k=>if k<((a.length:Nat):Int) then if 0≤k∧k<((a.length:Nat):Int) then Option.bind a[Int.toNat k]? fun(a2:ByteArray)=>if 0≤k∧k<((b.length:Nat):Int) then Option.bind b[Int.toNat k]? fun(a3:ByteArray)=>if(!(ByteArray.toList a2==ByteArray.toList a3))=Bool.true then some (Sum.inr (Sum.inl ())) else some (Sum.inl (w64 (k+1))) else none else none else some (Sum.inr (Sum.inr ()))
theorem Jp:∀(a b:List ByteArray) (k:Int),XL2 evo 16 0 4 ⟨[(0,rL 1 eS a),(1,rL 1 eS b),(5,rI k)],[],0,26⟩=(Z9 (zV a b) k).bind (Sum.elim (fun(e:Unit)=>some (Go.Exit.ret,⟨[(4,rB Bool.false)],[],0,26⟩)) (fun(e:Unit)=>some (Go.Exit.exit 0,⟨[(4,R.any)],[],0,26⟩))):=
 fun a b k=>by
  revert k;exact q6o qe4 qd4 (fun e=>by rcases e with _|_<;>exact⟨_,rfl,fun h=>by cases h⟩) fun x=>by
   have:=qhz;have:=@q6O.eq_1;have:=@zV.eq_1;exact gA
noncomputable def qj (a:List ByteArray) (b:List ByteArray):Option Bool:=if(((a.length:Nat):Int) != ((b.length:Nat):Int))=Bool.true then some Bool.false else Option.bind (Z9 (zV a b) 0) fun(a2:Sum Unit Unit)=>Sum.elim (fun(a3:Unit)=>some Bool.false) (fun(a4:Unit)=>some Bool.true) a2
theorem Zy:∀(a b:List ByteArray),ev 16 0 [rL 1 eS a,rL 1 eS b] []=(qj a b).bind (fun(e:Bool)=>some (rB e,[])):=
 fun a b=>by
  rw[z8 qfN qhZ.2.2.2 qis]
  have:=qhz;have:=@Jp;have:=@qj.eq_1;exact gA
theorem Jj:∀(b0 b1 b2:ByteArray) (a:List ByteArray),ev 16 0 [rL 1 eS a,R.c (C.d (D.sl 1 3 [D.str b0,D.str b1,D.str b2]))] []=(qj a [b0,b1,b2]).bind (fun(e:Bool)=>some (rB e,[])):=by
 intro b0 b1 b2 a;have h:=Zy a [b0,b1,b2]
 first
  | exact h
  | (simp only[rL,dL,bR,bZ,Nat.reduceAdd] at h;exact h)
theorem Ji:∀(b0 b1 b2 b3:ByteArray) (a:List ByteArray),ev 16 0 [rL 1 eS a,R.c (C.d (D.sl 1 4 [D.str b0,D.str b1,D.str b2,D.str b3]))] []=(qj a [b0,b1,b2,b3]).bind (fun(e:Bool)=>some (rB e,[])):=by
 intro b0 b1 b2 b3 a;have h:=Zy a [b0,b1,b2,b3]
 first
  | exact h
  | (simp only[rL,dL,bR,bZ,Nat.reduceAdd] at h;exact h)
noncomputable def qw (fu:Nat) (a:List ByteArray) (b:List ByteArray):Option Bool:=if(((a.length:Nat):Int) != ((b.length:Nat):Int))=Bool.true then some Bool.false else Option.bind (itT (zV a b) fu 0) fun(a2:Sum Unit Unit)=>Sum.elim (fun(a3:Unit)=>some Bool.false) (fun(a4:Unit)=>some Bool.true) a2
theorem q0l (fu:Nat) (a b:List ByteArray):qf (qw fu a b) (qj a b):=by
 unfold qw qj
 repeat (first
  | with_reducible exact qf.refl _
  | with_reducible exact qf.none _
  | with_reducible refine qf.bind ?_ (fun _=>?_)
  | with_reducible refine qf.ite ?_ ?_
  | with_reducible refine qf.sum (fun _=>?_) (fun _=>?_)
  | with_reducible refine qf.lim (fun _=>?_))
theorem qi9:okL 17 q5s:=zi (qg qfO) (by kernel_rfl) (by kernel_rfl)
def qi8:=JA_ @q5s.eq_1 (JA_ @Try.f17.eq_1 @qfO)
theorem qen:lbO 17 5=q7s:=Zz (qg qfO) rfl
theorem qdK:okL 17 q7s:=QG qi9 (List.mem_of_getElem? (i:=0) (by kernel_rfl))
noncomputable def qI (s:List qa):Option Unit:=if s.length≤Go.maxLen∧s.length*80≤140737488355328 then some () else none
theorem QH:∀(s:List qa),ev 47 0 [rL 5 qh s] []=(qI s).bind (fun(e:Unit)=>some (rO 0 5 s.length,[(0,bR 35 5 qh s)])):=
 fun s=>by
  rw[q6l,qi4.2.2.2]
  have:=@qI.eq_1;exact gA
theorem qhe:okL 48 q5w:=zi (qg qdm) (by kernel_rfl) (by kernel_rfl)
def qfJ:=JA_ @q5w.eq_1 (JA_ @Try.f48.eq_1 @qdm)
theorem qb0:lbO 48 2=q5P:=Zz (qg qdm) rfl
theorem qb1:okL 48 q5P:=QG qhe (List.mem_of_getElem? (i:=0) (by kernel_rfl))
theorem qjq:okL 49 q6S:=zi (qg qg5) (by kernel_rfl) (by kernel_rfl)
def qiM:=JA_ @q6S.eq_1 (JA_ @Try.f49.eq_1 @qg5)
theorem qj2:okL 50 q6Z:=zi (qg qho) (by kernel_rfl) (by kernel_rfl)
def qj7:=JA_ @q6Z.eq_1 (JA_ @Try.f50.eq_1 @qho)
theorem qiU:okL 67 q8P:=zi (qg qhs) (by kernel_rfl) (by kernel_rfl)
def qj8:=JA_ @q8P.eq_1 (JA_ @Try.f67.eq_1 @qhs)
noncomputable def QK (c:ByteArray) (v:List ByteArray):Option Bool:=Option.bind (qm v c) fun(a:Bool)=>some (!a)
theorem q1q:∀(c:ByteArray) (v:List ByteArray),ev 67 1 [rS c,rP 0] [(0,B.blk 33 [dL 1 eS v])]=(QK c v).bind (fun(e:Bool)=>some (rB e,[(0,B.blk 33 [dL 1 eS v])])):=
 fun c v=>by
  rw[z8 qhs qi3.2.2.2 qiU]
  have:=qj8;have:=@zL;have:=@QK.eq_1;exact gA
noncomputable def ZY (fu:Nat) (c:ByteArray) (v:List ByteArray):Option Bool:=Option.bind (qR fu v c) fun(a:Bool)=>some (!a)
theorem q1p (fu:Nat) (c:ByteArray) (v:List ByteArray):qf (ZY fu c v) (QK c v):=by
 unfold ZY QK
 repeat (first
  | with_reducible exact qf.refl _
  | with_reducible exact qf.none _
  | with_reducible apply zM
  | with_reducible refine qf.bind ?_ (fun _=>?_)
  | with_reducible refine qf.ite ?_ ?_
  | with_reducible refine qf.sum (fun _=>?_) (fun _=>?_)
  | with_reducible refine qf.lim (fun _=>?_))
noncomputable def qq (b0:List ByteArray) (s:List ByteArray) (t7:Int):Int→Option (Int⊕(Int⊕Unit))|t8=>if t8<t7 then if 0≤t8∧t8<((s.length:Nat):Int) then Option.bind s[Int.toNat t8]? fun(a:ByteArray)=>Option.bind (QK a b0) fun(a2:Bool)=>if a2=Bool.true then some (Sum.inr (Sum.inl t8)) else some (Sum.inl (w64 (t8+1))) else none else some (Sum.inr (Sum.inr ()))
theorem Qn:∀(b0 s:List ByteArray) (t7 t8:Int),XL2 evo 61 1 2 ⟨[(0,rL 1 eS s),(1,R.c (C.fn 67 [] [dP 0])),(7,rI t7),(8,rI t8)],[(0,B.blk 33 [dL 1 eS b0])],1,19⟩=(Z9 (qq b0 s t7) t8).bind (Sum.elim (fun(e:Int)=>some (Go.Exit.ret,⟨[(4,rI e)],[(0,B.blk 33 [dL 1 eS b0])],1,19⟩)) (fun(e:Unit)=>some (Go.Exit.exit 0,⟨[(4,R.any)],[(0,B.blk 33 [dL 1 eS b0])],1,19⟩))):=
 fun b0 s t7 t8=>by
  revert t8;exact q6o qaZ qb8 (fun e=>by rcases e with _|_<;>exact⟨_,rfl,fun h=>by cases h⟩) fun x=>by
   have:=qfR;have:=@q5O.eq_1;have:=@q1q;have:=@qq.eq_1;exact gA
noncomputable def qZ (fu:Nat) (b0:List ByteArray) (s:List ByteArray) (t7:Int):Int→Option (Int⊕(Int⊕Unit))|t8=>if t8<t7 then if 0≤t8∧t8<((s.length:Nat):Int) then Option.bind s[Int.toNat t8]? fun(a:ByteArray)=>Option.bind (ZY fu a b0) fun(a2:Bool)=>if a2=Bool.true then some (Sum.inr (Sum.inl t8)) else some (Sum.inl (w64 (t8+1))) else none else some (Sum.inr (Sum.inr ()))
theorem Qm (fu:Nat) (b0 s:List ByteArray) (t7:Int):∀x,qf (qZ fu b0 s t7 x) (qq b0 s t7 x):=by
 rintro t8
 unfold qZ qq
 try dsimp only
 repeat (first
  | with_reducible exact qf.refl _
  | with_reducible exact qf.none _
  | with_reducible apply q1p
  | with_reducible refine qf.bind ?_ (fun _=>?_)
  | with_reducible refine qf.ite ?_ ?_
  | with_reducible refine qf.sum (fun _=>?_) (fun _=>?_)
  | with_reducible refine qf.lim (fun _=>?_))
noncomputable def qv (s:List ByteArray) (b0:List ByteArray):Option Int:=Option.bind (Z9 (qq b0 s ((s.length:Nat):Int)) 0) fun(a:Sum Int Unit)=>Sum.elim (fun(a2:Int)=>some a2) (fun(a3:Unit)=>some (-1)) a
theorem QJ:∀(s b0:List ByteArray),ev 61 1 [rL 1 eS s,R.c (C.fn 67 [] [dP 0])] [(0,B.blk 33 [dL 1 eS b0])]=(qv s b0).bind (fun(e:Int)=>some (rI e,[(0,B.blk 33 [dL 1 eS b0])])):=
 fun s b0=>by
  rw[z8 qf7 qgC.2.2.2 qgg]
  have:=qfR;have:=@Qn;have:=@qv.eq_1;exact gA
noncomputable def zf (fu:Nat) (s:List ByteArray) (b0:List ByteArray):Option Int:=Option.bind (itT (qZ fu b0 s ((s.length:Nat):Int)) fu 0) fun(a:Sum Int Unit)=>Sum.elim (fun(a2:Int)=>some a2) (fun(a3:Unit)=>some (-1)) a
theorem QD (fu:Nat) (s b0:List ByteArray):qf (zf fu s b0) (qv s b0):=by
 unfold zf qv
 repeat (first
  | with_reducible exact qf.refl _
  | with_reducible exact qf.none _
  | with_reducible apply Qm
  | with_reducible refine qf.bind ?_ (fun _=>?_)
  | with_reducible refine qf.ite ?_ ?_
  | with_reducible refine qf.sum (fun _=>?_) (fun _=>?_)
  | with_reducible refine qf.lim (fun _=>?_))
noncomputable def qr (s:List ByteArray) (b0:List ByteArray):Option Bool:=Option.bind (qv s b0) fun(a:Int)=>some (decide (0≤a))
theorem Qo:∀(s b0:List ByteArray),ev 40 1 [rL 1 eS s,R.c (C.fn 67 [] [dP 0])] [(0,B.blk 33 [dL 1 eS b0])]=(qr s b0).bind (fun(e:Bool)=>some (rB e,[(0,B.blk 33 [dL 1 eS b0])])):=
 fun s b0=>by
  rw[z8 qfr qgo.2.2.2 qhv]
  have:=qhA;have:=@QJ;have:=@qr.eq_1;exact gA
noncomputable def qY (fu:Nat) (s:List ByteArray) (b0:List ByteArray):Option Bool:=Option.bind (zf fu s b0) fun(a:Int)=>some (decide (0≤a))
theorem Qp (fu:Nat) (s b0:List ByteArray):qf (qY fu s b0) (qr s b0):=by
 unfold qY qr
 repeat (first
  | with_reducible exact qf.refl _
  | with_reducible exact qf.none _
  | with_reducible apply QD
  | with_reducible refine qf.bind ?_ (fun _=>?_)
  | with_reducible refine qf.ite ?_ ?_
  | with_reducible refine qf.sum (fun _=>?_) (fun _=>?_)
  | with_reducible refine qf.lim (fun _=>?_))
noncomputable def QR (l:List ByteArray) (in0:List ByteArray):Option Bool:=Option.bind (qr l in0) fun(a:Bool)=>some (!a)
theorem JJ:∀(l in0:List ByteArray),ev 50 0 [rL 1 eS l,rL 1 eS in0] []=(QR l in0).bind (fun(e:Bool)=>some (rB e,[])):=
 fun l in0=>by
  rw[z8 qho qip.2.2.2 qj2]
  have:=qj7;have:=@Qo;have:=@QR.eq_1;exact gA
noncomputable def ZR (fu:Nat) (l:List ByteArray) (in0:List ByteArray):Option Bool:=Option.bind (qY fu l in0) fun(a:Bool)=>some (!a)
theorem JL (fu:Nat) (l in0:List ByteArray):qf (ZR fu l in0) (QR l in0):=by
 unfold ZR QR
 repeat (first
  | with_reducible exact qf.refl _
  | with_reducible exact qf.none _
  | with_reducible apply Qp
  | with_reducible refine qf.bind ?_ (fun _=>?_)
  | with_reducible refine qf.ite ?_ ?_
  | with_reducible refine qf.sum (fun _=>?_) (fun _=>?_)
  | with_reducible refine qf.lim (fun _=>?_))
noncomputable def Qb (o:qa) (w1:List ByteArray):Option Bool:=Option.bind (QR o.Needs w1) fun(a:Bool)=>some a
theorem q0D:∀(o_Code:ByteArray) (o_Credits o_Places:Int) (o_Slots:List Int) (o_Needs w1:List ByteArray) (w1_len:Nat),w1_len=w1.length→ev 49 1 [R.agg [dS o_Code,dI o_Credits,dI o_Places,dL 1 eI o_Slots,dL 1 eS o_Needs],rP 0] [(0,B.blk 33 [dO 1 1 w1_len]),(1,bR 9 1 eS w1)]=(Qb (qa.mk o_Code o_Credits o_Places o_Slots o_Needs) w1).bind (fun(e:Bool)=>some (rB e,[(0,B.blk 33 [dO 1 1 w1.length]),(1,bR 9 1 eS w1)])):=
 by
 intro o_Code o_Credits o_Places o_Slots o_Needs w1 w1_len h0
 subst h0
 rw[z8 qg5 qib.2.2.2 qjq]
 have:=qiM;have:=@JJ;have:=@Qb.eq_1;exact gA
noncomputable def Zu (fu:Nat) (o:qa) (w1:List ByteArray):Option Bool:=Option.bind (ZR fu o.Needs w1) fun(a:Bool)=>some a
theorem q0C (fu:Nat) (o:qa) (w1:List ByteArray):qf (Zu fu o w1) (Qb o w1):=by
 unfold Zu Qb
 repeat (first
  | with_reducible exact qf.refl _
  | with_reducible exact qf.none _
  | with_reducible apply JL
  | with_reducible refine qf.bind ?_ (fun _=>?_)
  | with_reducible refine qf.ite ?_ ?_
  | with_reducible refine qf.sum (fun _=>?_) (fun _=>?_)
  | with_reducible refine qf.lim (fun _=>?_))
noncomputable def ql (w1:List ByteArray) (s:List qa) (t7:Int):Int→Option (Int⊕(Int⊕Unit))|t8=>if t8<t7 then if 0≤t8∧t8<((s.length:Nat):Int) then Option.bind s[Int.toNat t8]? fun(a:qa)=>Option.bind (Qb a w1) fun(a2:Bool)=>if a2=Bool.true then some (Sum.inr (Sum.inl t8)) else some (Sum.inl (w64 (t8+1))) else none else some (Sum.inr (Sum.inr ()))
theorem Q0:∀(w1:List ByteArray) (s:List qa) (t7 t8:Int) (w1_len:Nat),w1_len=w1.length→XL2 evo 48 1 2 ⟨[(0,rL 5 qh s),(1,R.c (C.fn 49 [] [dP 0])),(7,rI t7),(8,rI t8)],[(0,B.blk 33 [dO 1 1 w1_len]),(1,bR 9 1 eS w1)],2,19⟩=(Z9 (ql w1 s t7) t8).bind (Sum.elim (fun(e:Int)=>some (Go.Exit.ret,⟨[(4,rI e)],[(0,B.blk 33 [dO 1 1 w1.length]),(1,bR 9 1 eS w1)],2,19⟩)) (fun(e:Unit)=>some (Go.Exit.exit 0,⟨[(4,R.any)],[(0,B.blk 33 [dO 1 1 w1.length]),(1,bR 9 1 eS w1)],2,19⟩))):=
 by
 intro w1 s t7 t8 w1_len h0
 subst h0
 revert t8;exact q6o qb0 qb1 (fun e=>by rcases e with _|_<;>exact⟨_,rfl,fun h=>by cases h⟩) fun x=>by
  have:=qfJ;have:=@q5P.eq_1;have:=@q0D;have:=@ql.eq_1;exact gA
noncomputable def qL (fu:Nat) (w1:List ByteArray) (s:List qa) (t7:Int):Int→Option (Int⊕(Int⊕Unit))|t8=>if t8<t7 then if 0≤t8∧t8<((s.length:Nat):Int) then Option.bind s[Int.toNat t8]? fun(a:qa)=>Option.bind (Zu fu a w1) fun(a2:Bool)=>if a2=Bool.true then some (Sum.inr (Sum.inl t8)) else some (Sum.inl (w64 (t8+1))) else none else some (Sum.inr (Sum.inr ()))
theorem zZ (fu:Nat) (w1:List ByteArray) (s:List qa) (t7:Int):∀x,qf (qL fu w1 s t7 x) (ql w1 s t7 x):=by
 rintro t8
 unfold qL ql
 try dsimp only
 repeat (first
  | with_reducible exact qf.refl _
  | with_reducible exact qf.none _
  | with_reducible apply q0C
  | with_reducible refine qf.bind ?_ (fun _=>?_)
  | with_reducible refine qf.ite ?_ ?_
  | with_reducible refine qf.sum (fun _=>?_) (fun _=>?_)
  | with_reducible refine qf.lim (fun _=>?_))
noncomputable def qp (s:List qa) (w1:List ByteArray):Option Int:=Option.bind (Z9 (ql w1 s ((s.length:Nat):Int)) 0) fun(a:Sum Int Unit)=>Sum.elim (fun(a2:Int)=>some a2) (fun(a3:Unit)=>some (-1)) a
theorem Qf:∀(s:List qa) (w1:List ByteArray) (w1_len:Nat),w1_len=w1.length→ev 48 1 [rL 5 qh s,R.c (C.fn 49 [] [dP 0])] [(0,B.blk 33 [dO 1 1 w1_len]),(1,bR 9 1 eS w1)]=(qp s w1).bind (fun(e:Int)=>some (rI e,[(0,B.blk 33 [dO 1 1 w1.length]),(1,bR 9 1 eS w1)])):=
 by
 intro s w1 w1_len h0
 subst h0
 rw[z8 qdm qgw.2.2.2 qhe]
 have:=qfJ;have:=@Q0;have:=@qp.eq_1;exact gA
noncomputable def qS (fu:Nat) (s:List qa) (w1:List ByteArray):Option Int:=Option.bind (itT (qL fu w1 s ((s.length:Nat):Int)) fu 0) fun(a:Sum Int Unit)=>Sum.elim (fun(a2:Int)=>some a2) (fun(a3:Unit)=>some (-1)) a
theorem Qe (fu:Nat) (s:List qa) (w1:List ByteArray):qf (qS fu s w1) (qp s w1):=by
 unfold qS qp
 repeat (first
  | with_reducible exact qf.refl _
  | with_reducible exact qf.none _
  | with_reducible apply zZ
  | with_reducible refine qf.bind ?_ (fun _=>?_)
  | with_reducible refine qf.ite ?_ ?_
  | with_reducible refine qf.sum (fun _=>?_) (fun _=>?_)
  | with_reducible refine qf.lim (fun _=>?_))
noncomputable def qF (i:Int) (j:Int) (s:List qa):Option (List qa):=if 0≤i∧j=i+1∧i<((s.length:Nat):Int) then some (@List.eraseIdx qa s (Int.toNat i)) else none
theorem Qx:∀(i j:Int) (s:List qa) (s_len:Nat),s_len=s.length→ev 51 0 [rO 0 5 s_len,rI i,rI j] [(0,bR 35 5 qh s)]=(qF i j s).bind (fun(e:List qa)=>some (rO 0 5 e.length,[(0,bR 35 5 qh e)])):=
 by
 intro i j s s_len h0
 subst h0
 rw[q6l,qhM.2.2.2]
 have:=@qF.eq_1;exact gA
noncomputable def zF:(List ByteArray×List qa)→Option ((List ByteArray×List qa)⊕(List ByteArray))|(w1,left)=>if 0<((left.length:Nat):Int) then Option.bind (qp left w1) fun(a:Int)=>if List.all (List.map C.d (List.flatMap eS w1)) C.scl=Bool.true then if 0≤a∧a<((left.length:Nat):Int) then Option.bind left[Int.toNat a]? fun(a2:qa)=>if w1.length+1≤Go.maxLen∧(w1.length+1)*16≤140737488355328 then Option.bind (qF a (w64 (a+1)) left) fun(a3:List qa)=>some (Sum.inl (w1++[a2.Code],a3)) else none else none else none else some (Sum.inr w1)
theorem q0m:∀(w1:List ByteArray) (left:List qa) (left_len w1_len:Nat),left_len=left.length→w1_len=w1.length→XL2 evo 17 0 5 ⟨[(3,rP 0),(4,rO 2 5 left_len)],[(0,B.blk 33 [dO 1 1 w1_len]),(1,bR 9 1 eS w1),(2,bR 35 5 qh left)],3,31⟩=(Z9 zF (w1,left)).bind (fun(e:List ByteArray)=>some (Go.Exit.exit 0,⟨[(3,rP 0)],[(0,B.blk 33 [dO 1 1 e.length]),(1,bR 9 1 eS e)],2,31⟩)):=
 by
 intro w1 left left_len w1_len h0 h1
 subst h0 h1
 revert left;revert w1;exact qgY qen qdK (fun e=>by exact⟨_,rfl,fun h=>by cases h⟩) fun w1 left=>by
  have:=qi8;have:=@q7s.eq_1;have:=@Qf;have:=@Qx;have:=@zF.eq_1;exact gA
theorem Jk:∀  (left:List qa) (left_len:Nat),left_len=left.length→XL2 evo 17 0 5 ⟨[(3,rP 0),(4,rO 2 5 left_len)],[(0,B.blk 33 [dO 1 1 0]),(1,B.row 9 1 []),(2,bR 35 5 qh left)],3,31⟩=(Z9 zF ([],left)).bind (fun(e:List ByteArray)=>some (Go.Exit.exit 0,⟨[(3,rP 0)],[(0,B.blk 33 [dO 1 1 e.length]),(1,bR 9 1 eS e)],2,31⟩)):=by
 intro left left_len h0;subst h0;have h:=q0m [] left _ _ rfl rfl
 first
  | exact h
  | (simp only[rL,dL,bR,bZ,Nat.reduceAdd] at h;exact h)
noncomputable def Zi (fu:Nat):(List ByteArray×List qa)→Option ((List ByteArray×List qa)⊕(List ByteArray))|(w1,left)=>if 0<((left.length:Nat):Int) then Option.bind (qS fu left w1) fun(a:Int)=>if List.all (List.map C.d (List.flatMap eS w1)) C.scl=Bool.true then if 0≤a∧a<((left.length:Nat):Int) then Option.bind left[Int.toNat a]? fun(a2:qa)=>if w1.length+1≤Go.maxLen∧(w1.length+1)*16≤140737488355328 then Option.bind (qF a (w64 (a+1)) left) fun(a3:List qa)=>some (Sum.inl (w1++[a2.Code],a3)) else none else none else none else some (Sum.inr w1)
theorem q0o (fu:Nat):∀x,qf (Zi fu  x) (zF  x):=by
 rintro⟨w1,left⟩
 unfold Zi zF
 try dsimp only
 repeat (first
  | with_reducible exact qf.refl _
  | with_reducible exact qf.none _
  | with_reducible apply Qe
  | with_reducible refine qf.bind ?_ (fun _=>?_)
  | with_reducible refine qf.ite ?_ ?_
  | with_reducible refine qf.sum (fun _=>?_) (fun _=>?_)
  | with_reducible refine qf.lim (fun _=>?_))
noncomputable def zg (l:List qa):Option (List ByteArray):=Option.bind (qJ l) fun(a:Int)=>if(a != 0)=Bool.true then some [] else Option.bind (qI l) fun(a2:Unit)=>Option.bind (Z9 zF ([],l)) fun(a3:List ByteArray)=>some a3
theorem q1r:∀(l:List qa),ev 17 0 [rL 5 qh l] []=(zg l).bind (fun(e:List ByteArray)=>some (rL 1 eS e,[])):=
 fun l=>by
  rw[z8 qfO qii.2.2.2 qi9]
  have:=qi8;have:=@Qs;have:=@QH;have:=@Jk;have:=@zg.eq_1;exact gA
theorem q0f:∀(l0_Code:ByteArray) (l0_Credits l0_Places l0_Slots0 l0_Slots1:Int) (l1_Code:ByteArray) (l1_Credits l1_Places l1_Slots0:Int) (l1_Needs0 l2_Code:ByteArray) (l2_Credits l2_Places:Int) (l3_Code:ByteArray) (l3_Credits l3_Places l3_Slots0:Int) (l3_Needs0 l3_Needs1:ByteArray) , ev 17 0 [R.c (C.d (D.sl 5 4 [D.str l0_Code,D.int .i64 l0_Credits,D.int .i64 l0_Places,D.sl 1 2 [D.int .i64 l0_Slots0,D.int .i64 l0_Slots1],D.sl 1 0 [],D.str l1_Code,D.int .i64 l1_Credits,D.int .i64 l1_Places,D.sl 1 1 [D.int .i64 l1_Slots0],D.sl 1 1 [D.str l1_Needs0],D.str l2_Code,D.int .i64 l2_Credits,D.int .i64 l2_Places,D.sl 1 0 [],D.sl 1 0 [],D.str l3_Code,D.int .i64 l3_Credits,D.int .i64 l3_Places,D.sl 1 1 [D.int .i64 l3_Slots0],D.sl 1 2 [D.str l3_Needs0,D.str l3_Needs1]]))] []=(zg [(qa.mk l0_Code l0_Credits l0_Places [l0_Slots0,l0_Slots1] []),(qa.mk l1_Code l1_Credits l1_Places [l1_Slots0] [l1_Needs0]),(qa.mk l2_Code l2_Credits l2_Places [] []),(qa.mk l3_Code l3_Credits l3_Places [l3_Slots0] [l3_Needs0,l3_Needs1])]).bind (fun(e:List ByteArray)=>some (rL 1 eS e,[])):=by
 intro l0_Code l0_Credits l0_Places l0_Slots0 l0_Slots1 l1_Code l1_Credits l1_Places l1_Slots0 l1_Needs0 l2_Code l2_Credits l2_Places l3_Code l3_Credits l3_Places l3_Slots0 l3_Needs0 l3_Needs1;have h:=q1r [(qa.mk l0_Code l0_Credits l0_Places [l0_Slots0,l0_Slots1] []),(qa.mk l1_Code l1_Credits l1_Places [l1_Slots0] [l1_Needs0]),(qa.mk l2_Code l2_Credits l2_Places [] []),(qa.mk l3_Code l3_Credits l3_Places [l3_Slots0] [l3_Needs0,l3_Needs1])]
 first
  | exact h
  | (simp only[rL,dL,bR,bZ,Nat.reduceAdd] at h;exact h)
noncomputable def zS (fu:Nat) (l:List qa):Option (List ByteArray):=Option.bind (zD fu l) fun(a:Int)=>if(a != 0)=Bool.true then some [] else Option.bind (qI l) fun(a2:Unit)=>Option.bind (itT (Zi fu) fu ([],l)) fun(a3:List ByteArray)=>some a3
theorem q1l (fu:Nat) (l:List qa):qf (zS fu l) (zg l):=by
 unfold zS zg
 repeat (first
  | with_reducible exact qf.refl _
  | with_reducible exact qf.none _
  | with_reducible apply J8
  | with_reducible apply q0o
  | with_reducible refine qf.bind ?_ (fun _=>?_)
  | with_reducible refine qf.ite ?_ ?_
  | with_reducible refine qf.sum (fun _=>?_) (fun _=>?_)
  | with_reducible refine qf.lim (fun _=>?_))
theorem qjT:okL 25 q8z:=zi (qg qfY) (by kernel_rfl) (by kernel_rfl)
def qiI:=JA_ @q8z.eq_1 (JA_ @Try.f25.eq_1 @qfY)
theorem qjK:okL 20 q7b:=zi (qg qgR) (by kernel_rfl) (by kernel_rfl)
def qiR:=JA_ @q7b.eq_1 (JA_ @Try.f20.eq_1 @qgR)
theorem qjM:okL 52 q87:=zi (qg qgc) (by kernel_rfl) (by kernel_rfl)
def qiB:=JA_ @q87.eq_1 (JA_ @Try.f52.eq_1 @qgc)
noncomputable def Z1 (o:qa) (v:ByteArray):Option Bool:=
 some (ByteArray.toList o.Code==ByteArray.toList v)
noncomputable def QC (o:qa) (v:ByteArray):Bool:=
 ByteArray.toList o.Code==ByteArray.toList v
theorem q0H (o:qa) (v:ByteArray):Z1 o v=some (QC o v):=by
 unfold Z1 QC
 simp only[q0W]
theorem q0Z:∀(o_Code:ByteArray) (o_Credits o_Places:Int) (o_Slots:List Int) (o_Needs:List ByteArray) (v:ByteArray),ev 52 1 [R.agg [dS o_Code,dI o_Credits,dI o_Places,dL 1 eI o_Slots,dL 1 eS o_Needs],rP 0] [(0,B.blk 9 [dS v])]=some (rB (QC (qa.mk o_Code o_Credits o_Places o_Slots o_Needs) v),[(0,B.blk 9 [dS v])]):=
 fun o_Code o_Credits o_Places o_Slots o_Needs v=>by
  have h:ev 52 1 [R.agg [dS o_Code,dI o_Credits,dI o_Places,dL 1 eI o_Slots,dL 1 eS o_Needs],rP 0] [(0,B.blk 9 [dS v])]=(Z1 (qa.mk o_Code o_Credits o_Places o_Slots o_Needs) v).bind (fun(e:Bool)=>some (rB e,[(0,B.blk 9 [dS v])])):=by
   rw[z8 qgc qiv.2.2.2 qjM]
   have:=qiB;have:=@Z1.eq_1;exact gA
  rw[q0H] at h
  exact h
noncomputable def qs (b0:ByteArray) (s:List qa) (t7:Int):Int→Option (Int⊕(Int⊕Unit))|t8=>if t8<t7 then if 0≤t8∧t8<((s.length:Nat):Int) then Option.bind s[Int.toNat t8]? fun(a:qa)=>if QC a b0=Bool.true then some (Sum.inr (Sum.inl t8)) else some (Sum.inl (w64 (t8+1))) else none else some (Sum.inr (Sum.inr ()))
theorem zU:∀(b0:ByteArray) (s:List qa) (t7 t8:Int),XL2 evo 48 1 2 ⟨[(0,rL 5 qh s),(1,R.c (C.fn 52 [] [dP 0])),(7,rI t7),(8,rI t8)],[(0,B.blk 9 [dS b0])],1,19⟩=(Z9 (qs b0 s t7) t8).bind (Sum.elim (fun(e:Int)=>some (Go.Exit.ret,⟨[(4,rI e)],[(0,B.blk 9 [dS b0])],1,19⟩)) (fun(e:Unit)=>some (Go.Exit.exit 0,⟨[(4,R.any)],[(0,B.blk 9 [dS b0])],1,19⟩))):=
 fun b0 s t7 t8=>by
  revert t8;exact q6o qb0 qb1 (fun e=>by rcases e with _|_<;>exact⟨_,rfl,fun h=>by cases h⟩) fun x=>by
   have:=qfJ;have:=@q5P.eq_1;have:=@q0Z;have:=@qs.eq_1;exact gA
noncomputable def qo (s:List qa) (b0:ByteArray):Option Int:=Option.bind (Z9 (qs b0 s ((s.length:Nat):Int)) 0) fun(a:Sum Int Unit)=>Sum.elim (fun(a2:Int)=>some a2) (fun(a3:Unit)=>some (-1)) a
theorem Q8:∀(s:List qa) (b0:ByteArray),ev 48 1 [rL 5 qh s,R.c (C.fn 52 [] [dP 0])] [(0,B.blk 9 [dS b0])]=(qo s b0).bind (fun(e:Int)=>some (rI e,[(0,B.blk 9 [dS b0])])):=
 fun s b0=>by
  rw[z8 qdm qgw.2.2.2 qhe]
  have:=qfJ;have:=@zU;have:=@qo.eq_1;exact gA
noncomputable def qO (fu:Nat) (s:List qa) (b0:ByteArray):Option Int:=Option.bind (itT (qs b0 s ((s.length:Nat):Int)) fu 0) fun(a:Sum Int Unit)=>Sum.elim (fun(a2:Int)=>some a2) (fun(a3:Unit)=>some (-1)) a
theorem Q4 (fu:Nat) (s:List qa) (b0:ByteArray):qf (qO fu s b0) (qo s b0):=by
 unfold qO qo
 repeat (first
  | with_reducible exact qf.refl _
  | with_reducible exact qf.none _
  | with_reducible refine qf.bind ?_ (fun _=>?_)
  | with_reducible refine qf.ite ?_ ?_
  | with_reducible refine qf.sum (fun _=>?_) (fun _=>?_)
  | with_reducible refine qf.lim (fun _=>?_))
theorem qiP:okL 53 q6I:=zi (qg qh3) (by kernel_rfl) (by kernel_rfl)
def qiX:=JA_ @q6I.eq_1 (JA_ @Try.f53.eq_1 @qh3)
noncomputable def Qi (s:List Int):Option Unit:=if s.length≤Go.maxLen∧s.length*8≤140737488355328 then some () else none
theorem ZX:∀(s:List Int),ev 68 0 [rL 1 eI s] []=(Qi s).bind (fun(e:Unit)=>some (rL 1 eI s,[])):=
 fun s=>by
  rw[q6l,qij.2.2.2]
  have:=@Qi.eq_1;exact gA
noncomputable def zC (s:List ByteArray):Option Unit:=if s.length≤Go.maxLen∧s.length*16≤140737488355328 then some () else none
theorem Zc:∀(s:List ByteArray),ev 69 0 [rL 1 eS s] []=(zC s).bind (fun(e:Unit)=>some (rL 1 eS s,[])):=
 fun s=>by
  rw[q6l,qit.2.2.2]
  have:=@zC.eq_1;exact gA
noncomputable def Zn (o:qa):Option Unit:=Option.bind (Qi o.Slots) fun(a:Unit)=>Option.bind (zC o.Needs) fun(a2:Unit)=>some ()
theorem q1i:∀(o_Code:ByteArray) (o_Credits o_Places:Int) (o_Slots:List Int) (o_Needs:List ByteArray),ev 53 0 [R.agg [dS o_Code,dI o_Credits,dI o_Places,dL 1 eI o_Slots,dL 1 eS o_Needs]] []=(Zn (qa.mk o_Code o_Credits o_Places o_Slots o_Needs)).bind (fun(e:Unit)=>some (R.agg [dS o_Code,dI o_Credits,dI o_Places,dL 1 eI o_Slots,dL 1 eS o_Needs],[])):=
 fun o_Code o_Credits o_Places o_Slots o_Needs=>by
  rw[z8 qh3 qix.2.2.2 qiP]
  have:=qiX;have:=@ZX;have:=@Zc;have:=@Zn.eq_1;exact gA
noncomputable def QZ (l:List qa) (code:ByteArray):Option (qa×Bool):=Option.bind (qo l code) fun(a:Int)=>if a<0 then some (qa.mk (ByteArray.mk (List.toArray [])) 0 0 [] [],Bool.false) else if 0≤a∧a<((l.length:Nat):Int) then Option.bind l[Int.toNat a]? fun(a2:qa)=>Option.bind (Zn a2) fun(a3:Unit)=>some (a2,Bool.true) else none
theorem q1P:∀(l:List qa) (code:ByteArray),ev 20 0 [rL 5 qh l,rS code] []=(QZ l code).bind (fun(e:qa×Bool)=>some (R.tup [R.agg [dS e.1.Code,dI e.1.Credits,dI e.1.Places,dL 1 eI e.1.Slots,dL 1 eS e.1.Needs],rB e.2],[])):=
 fun l code=>by
  rw[z8 qgR qhx.2.2.2 qjK]
  have:=qiR;have:=@Q8;have:=@q1i;have:=@QZ.eq_1;exact gA
noncomputable def Jn (fu:Nat) (l:List qa) (code:ByteArray):Option (qa×Bool):=Option.bind (qO fu l code) fun(a:Int)=>if a<0 then some (qa.mk (ByteArray.mk (List.toArray [])) 0 0 [] [],Bool.false) else if 0≤a∧a<((l.length:Nat):Int) then Option.bind l[Int.toNat a]? fun(a2:qa)=>Option.bind (Zn a2) fun(a3:Unit)=>some (a2,Bool.true) else none
theorem q1I (fu:Nat) (l:List qa) (code:ByteArray):qf (Jn fu l code) (QZ l code):=by
 unfold Jn QZ
 repeat (first
  | with_reducible exact qf.refl _
  | with_reducible exact qf.none _
  | with_reducible apply Q4
  | with_reducible refine qf.bind ?_ (fun _=>?_)
  | with_reducible refine qf.ite ?_ ?_
  | with_reducible refine qf.sum (fun _=>?_) (fun _=>?_)
  | with_reducible refine qf.lim (fun _=>?_))
noncomputable def qc (l:List qa) (code:ByteArray) (has:List ByteArray):Option Bool:=Option.bind (QZ l code) fun(a:Prod qa Bool)=>if a.2=Bool.true then Option.bind (QR a.1.Needs has) fun(e0:Bool)=>some e0 else some Bool.false
theorem ZH:∀(l:List qa) (code:ByteArray) (has:List ByteArray),ev 25 0 [rL 5 qh l,rS code,rL 1 eS has] []=(qc l code has).bind (fun(e:Bool)=>some (rB e,[])):=
 fun l code has=>by
  rw[z8 qfY qin.2.2.2 qjT]
  have:=qiI;have:=@q1P;have:=@JJ;have:=@qc.eq_1;exact gA
theorem q1d:∀(l0_Code:ByteArray) (l0_Credits l0_Places l0_Slots0 l0_Slots1:Int) (l1_Code:ByteArray) (l1_Credits l1_Places l1_Slots0:Int) (l1_Needs0 l2_Code:ByteArray) (l2_Credits l2_Places:Int) (l3_Code:ByteArray) (l3_Credits l3_Places l3_Slots0:Int) (l3_Needs0 l3_Needs1 has0 code:ByteArray),ev 25 0 [R.c (C.d (D.sl 5 4 [D.str l0_Code,D.int .i64 l0_Credits,D.int .i64 l0_Places,D.sl 1 2 [D.int .i64 l0_Slots0,D.int .i64 l0_Slots1],D.sl 1 0 [],D.str l1_Code,D.int .i64 l1_Credits,D.int .i64 l1_Places,D.sl 1 1 [D.int .i64 l1_Slots0],D.sl 1 1 [D.str l1_Needs0],D.str l2_Code,D.int .i64 l2_Credits,D.int .i64 l2_Places,D.sl 1 0 [],D.sl 1 0 [],D.str l3_Code,D.int .i64 l3_Credits,D.int .i64 l3_Places,D.sl 1 1 [D.int .i64 l3_Slots0],D.sl 1 2 [D.str l3_Needs0,D.str l3_Needs1]])),rS code,R.c (C.d (D.sl 1 1 [D.str has0]))] []=(qc [(qa.mk l0_Code l0_Credits l0_Places [l0_Slots0,l0_Slots1] []),(qa.mk l1_Code l1_Credits l1_Places [l1_Slots0] [l1_Needs0]),(qa.mk l2_Code l2_Credits l2_Places [] []),(qa.mk l3_Code l3_Credits l3_Places [l3_Slots0] [l3_Needs0,l3_Needs1])] code [has0]).bind (fun(e:Bool)=>some (rB e,[])):=by
 intro l0_Code l0_Credits l0_Places l0_Slots0 l0_Slots1 l1_Code l1_Credits l1_Places l1_Slots0 l1_Needs0 l2_Code l2_Credits l2_Places l3_Code l3_Credits l3_Places l3_Slots0 l3_Needs0 l3_Needs1 has0 code;have h:=ZH [(qa.mk l0_Code l0_Credits l0_Places [l0_Slots0,l0_Slots1] []),(qa.mk l1_Code l1_Credits l1_Places [l1_Slots0] [l1_Needs0]),(qa.mk l2_Code l2_Credits l2_Places [] []),(qa.mk l3_Code l3_Credits l3_Places [l3_Slots0] [l3_Needs0,l3_Needs1])] code [has0]
 first
  | exact h
  | (simp only[rL,dL,bR,bZ,Nat.reduceAdd] at h;exact h)
theorem q0Q:∀(l0_Code:ByteArray) (l0_Credits l0_Places l0_Slots0 l0_Slots1:Int) (l1_Code:ByteArray) (l1_Credits l1_Places l1_Slots0:Int) (l1_Needs0 l2_Code:ByteArray) (l2_Credits l2_Places:Int) (l3_Code:ByteArray) (l3_Credits l3_Places l3_Slots0:Int) (l3_Needs0 l3_Needs1 has0 has1 code:ByteArray),ev 25 0 [R.c (C.d (D.sl 5 4 [D.str l0_Code,D.int .i64 l0_Credits,D.int .i64 l0_Places,D.sl 1 2 [D.int .i64 l0_Slots0,D.int .i64 l0_Slots1],D.sl 1 0 [],D.str l1_Code,D.int .i64 l1_Credits,D.int .i64 l1_Places,D.sl 1 1 [D.int .i64 l1_Slots0],D.sl 1 1 [D.str l1_Needs0],D.str l2_Code,D.int .i64 l2_Credits,D.int .i64 l2_Places,D.sl 1 0 [],D.sl 1 0 [],D.str l3_Code,D.int .i64 l3_Credits,D.int .i64 l3_Places,D.sl 1 1 [D.int .i64 l3_Slots0],D.sl 1 2 [D.str l3_Needs0,D.str l3_Needs1]])),rS code,R.c (C.d (D.sl 1 2 [D.str has0,D.str has1]))] []=(qc [(qa.mk l0_Code l0_Credits l0_Places [l0_Slots0,l0_Slots1] []),(qa.mk l1_Code l1_Credits l1_Places [l1_Slots0] [l1_Needs0]),(qa.mk l2_Code l2_Credits l2_Places [] []),(qa.mk l3_Code l3_Credits l3_Places [l3_Slots0] [l3_Needs0,l3_Needs1])] code [has0,has1]).bind (fun(e:Bool)=>some (rB e,[])):=by
 intro l0_Code l0_Credits l0_Places l0_Slots0 l0_Slots1 l1_Code l1_Credits l1_Places l1_Slots0 l1_Needs0 l2_Code l2_Credits l2_Places l3_Code l3_Credits l3_Places l3_Slots0 l3_Needs0 l3_Needs1 has0 has1 code;have h:=ZH [(qa.mk l0_Code l0_Credits l0_Places [l0_Slots0,l0_Slots1] []),(qa.mk l1_Code l1_Credits l1_Places [l1_Slots0] [l1_Needs0]),(qa.mk l2_Code l2_Credits l2_Places [] []),(qa.mk l3_Code l3_Credits l3_Places [l3_Slots0] [l3_Needs0,l3_Needs1])] code [has0,has1]
 first
  | exact h
  | (simp only[rL,dL,bR,bZ,Nat.reduceAdd] at h;exact h)
theorem q0R:∀(l0_Code:ByteArray) (l0_Credits l0_Places l0_Slots0 l0_Slots1:Int) (l1_Code:ByteArray) (l1_Credits l1_Places l1_Slots0:Int) (l1_Needs0 l2_Code:ByteArray) (l2_Credits l2_Places:Int) (l3_Code:ByteArray) (l3_Credits l3_Places l3_Slots0:Int) (l3_Needs0 l3_Needs1 code:ByteArray),ev 25 0 [R.c (C.d (D.sl 5 4 [D.str l0_Code,D.int .i64 l0_Credits,D.int .i64 l0_Places,D.sl 1 2 [D.int .i64 l0_Slots0,D.int .i64 l0_Slots1],D.sl 1 0 [],D.str l1_Code,D.int .i64 l1_Credits,D.int .i64 l1_Places,D.sl 1 1 [D.int .i64 l1_Slots0],D.sl 1 1 [D.str l1_Needs0],D.str l2_Code,D.int .i64 l2_Credits,D.int .i64 l2_Places,D.sl 1 0 [],D.sl 1 0 [],D.str l3_Code,D.int .i64 l3_Credits,D.int .i64 l3_Places,D.sl 1 1 [D.int .i64 l3_Slots0],D.sl 1 2 [D.str l3_Needs0,D.str l3_Needs1]])),rS code,R.c (C.d (D.sl 1 0 []))] []=(qc [(qa.mk l0_Code l0_Credits l0_Places [l0_Slots0,l0_Slots1] []),(qa.mk l1_Code l1_Credits l1_Places [l1_Slots0] [l1_Needs0]),(qa.mk l2_Code l2_Credits l2_Places [] []),(qa.mk l3_Code l3_Credits l3_Places [l3_Slots0] [l3_Needs0,l3_Needs1])] code []).bind (fun(e:Bool)=>some (rB e,[])):=by
 intro l0_Code l0_Credits l0_Places l0_Slots0 l0_Slots1 l1_Code l1_Credits l1_Places l1_Slots0 l1_Needs0 l2_Code l2_Credits l2_Places l3_Code l3_Credits l3_Places l3_Slots0 l3_Needs0 l3_Needs1 code;have h:=ZH [(qa.mk l0_Code l0_Credits l0_Places [l0_Slots0,l0_Slots1] []),(qa.mk l1_Code l1_Credits l1_Places [l1_Slots0] [l1_Needs0]),(qa.mk l2_Code l2_Credits l2_Places [] []),(qa.mk l3_Code l3_Credits l3_Places [l3_Slots0] [l3_Needs0,l3_Needs1])] code []
 first
  | exact h
  | (simp only[rL,dL,bR,bZ,Nat.reduceAdd] at h;exact h)
noncomputable def qd (fu:Nat) (l:List qa) (code:ByteArray) (has:List ByteArray):Option Bool:=Option.bind (Jn fu l code) fun(a:Prod qa Bool)=>if a.2=Bool.true then Option.bind (ZR fu a.1.Needs has) fun(e0:Bool)=>some e0 else some Bool.false
theorem q29 (fu:Nat) (l:List qa) (code:ByteArray) (has:List ByteArray):qf (qd fu l code has) (qc l code has):=by
 unfold qd qc
 repeat (first
  | with_reducible exact qf.refl _
  | with_reducible exact qf.none _
  | with_reducible apply q1I
  | with_reducible apply JL
  | with_reducible refine qf.bind ?_ (fun _=>?_)
  | with_reducible refine qf.ite ?_ ?_
  | with_reducible refine qf.sum (fun _=>?_) (fun _=>?_)
  | with_reducible refine qf.lim (fun _=>?_))
theorem qjS:okL 27 q7H:=zi (qg qgE) (by kernel_rfl) (by kernel_rfl)
def qjL:=JA_ @q7H.eq_1 (JA_ @Try.f27.eq_1 @qgE)
theorem qj3:okL 56 q8e:=zi (qg qgl) (by kernel_rfl) (by kernel_rfl)
def qjQ:=JA_ @q8e.eq_1 (JA_ @Try.f56.eq_1 @qgl)
theorem qiW:okL 57 q88:=zi (qg qgA) (by kernel_rfl) (by kernel_rfl)
def qjD:=JA_ @q88.eq_1 (JA_ @Try.f57.eq_1 @qgA)
theorem qhQ:okL 71 q5j:=zi (qg qfA) (by kernel_rfl) (by kernel_rfl)
def qic:=JA_ @q5j.eq_1 (JA_ @Try.f71.eq_1 @qfA)
theorem qde:lbO 71 2=q8X:=Zz (qg qfA) rfl
theorem qe3:okL 71 q8X:=QG qhQ (List.mem_of_getElem? (i:=0) (by kernel_rfl))
noncomputable def qz (s:List Int) (v:Int) (t7:Int):Int→Option (Int⊕(Int⊕Unit))|t8=>if t8<t7 then if 0≤t8∧t8<((s.length:Nat):Int) then Option.bind s[Int.toNat t8]? fun(a:Int)=>if(v==a)=Bool.true then some (Sum.inr (Sum.inl t8)) else some (Sum.inl (w64 (t8+1))) else none else some (Sum.inr (Sum.inr ()))
theorem ZB:∀(s:List Int) (v t7 t8:Int),XL2 evo 71 0 2 ⟨[(0,rL 1 eI s),(1,rI v),(7,rI t7),(8,rI t8)],[],0,19⟩=(Z9 (qz s v t7) t8).bind (Sum.elim (fun(e:Int)=>some (Go.Exit.ret,⟨[(4,rI e)],[],0,19⟩)) (fun(e:Unit)=>some (Go.Exit.exit 0,⟨[(4,R.any)],[],0,19⟩))):=
 fun s v t7 t8=>by
  revert t8;exact q6o qde qe3 (fun e=>by rcases e with _|_<;>exact⟨_,rfl,fun h=>by cases h⟩) fun x=>by
   have:=qic;have:=@q8X.eq_1;have:=@qz.eq_1;exact gA
noncomputable def z7 (s:List Int) (v:Int):Option Int:=Option.bind (Z9 (qz s v ((s.length:Nat):Int)) 0) fun(a:Sum Int Unit)=>Sum.elim (fun(a2:Int)=>some a2) (fun(a3:Unit)=>some (-1)) a
theorem J2:∀(s:List Int) (v:Int),ev 71 0 [rL 1 eI s,rI v] []=(z7 s v).bind (fun(e:Int)=>some (rI e,[])):=
 fun s v=>by
  rw[z8 qfA qi0.2.2.2 qhQ]
  have:=qic;have:=@ZB;have:=@z7.eq_1;exact gA
noncomputable def Qh (fu:Nat) (s:List Int) (v:Int):Option Int:=Option.bind (itT (qz s v ((s.length:Nat):Int)) fu 0) fun(a:Sum Int Unit)=>Sum.elim (fun(a2:Int)=>some a2) (fun(a3:Unit)=>some (-1)) a
theorem ZU (fu:Nat) (s:List Int) (v:Int):qf (Qh fu s v) (z7 s v):=by
 unfold Qh z7
 repeat (first
  | with_reducible exact qf.refl _
  | with_reducible exact qf.none _
  | with_reducible refine qf.bind ?_ (fun _=>?_)
  | with_reducible refine qf.ite ?_ ?_
  | with_reducible refine qf.sum (fun _=>?_) (fun _=>?_)
  | with_reducible refine qf.lim (fun _=>?_))
noncomputable def qA (s:List Int) (v:Int):Option Bool:=Option.bind (z7 s v) fun(a:Int)=>some (decide (0≤a))
theorem ZC:∀(s:List Int) (v:Int),ev 57 0 [rL 1 eI s,rI v] []=(qA s v).bind (fun(e:Bool)=>some (rB e,[])):=
 fun s v=>by
  rw[z8 qgA qil.2.2.2 qiW]
  have:=qjD;have:=@J2;have:=@qA.eq_1;exact gA
noncomputable def zT (fu:Nat) (s:List Int) (v:Int):Option Bool:=Option.bind (Qh fu s v) fun(a:Int)=>some (decide (0≤a))
theorem ZA (fu:Nat) (s:List Int) (v:Int):qf (zT fu s v) (qA s v):=by
 unfold zT qA
 repeat (first
  | with_reducible exact qf.refl _
  | with_reducible exact qf.none _
  | with_reducible apply ZU
  | with_reducible refine qf.bind ?_ (fun _=>?_)
  | with_reducible refine qf.ite ?_ ?_
  | with_reducible refine qf.sum (fun _=>?_) (fun _=>?_)
  | with_reducible refine qf.lim (fun _=>?_))
noncomputable def zx (n:Int) (v:qa):Option Bool:=Option.bind (qA v.Slots n) fun(a:Bool)=>some a
theorem q0A:∀(n:Int) (v_Code:ByteArray) (v_Credits v_Places:Int) (v_Slots:List Int) (v_Needs:List ByteArray),ev 56 1 [rI n,rP 0] [(0,B.blk 35 [dS v_Code,dI v_Credits,dI v_Places,dL 1 eI v_Slots,dL 1 eS v_Needs])]=(zx n (qa.mk v_Code v_Credits v_Places v_Slots v_Needs)).bind (fun(e:Bool)=>some (rB e,[(0,B.blk 35 [dS v_Code,dI v_Credits,dI v_Places,dL 1 eI v_Slots,dL 1 eS v_Needs])])):=
 fun n v_Code v_Credits v_Places v_Slots v_Needs=>by
  rw[z8 qgl qhG.2.2.2 qj3]
  have:=qjQ;have:=@ZC;have:=@zx.eq_1;exact gA
noncomputable def Zv (fu:Nat) (n:Int) (v:qa):Option Bool:=Option.bind (zT fu v.Slots n) fun(a:Bool)=>some a
theorem q0J (fu:Nat) (n:Int) (v:qa):qf (Zv fu n v) (zx n v):=by
 unfold Zv zx
 repeat (first
  | with_reducible exact qf.refl _
  | with_reducible exact qf.none _
  | with_reducible apply ZA
  | with_reducible refine qf.bind ?_ (fun _=>?_)
  | with_reducible refine qf.ite ?_ ?_
  | with_reducible refine qf.sum (fun _=>?_) (fun _=>?_)
  | with_reducible refine qf.lim (fun _=>?_))
end Go.Proofs.Ytcdegieiflmaeaa.Vc
namespace Go.Proofs.Ytcdegieiflmaeaa.Vc
open Go.RowKit
set_option maxRecDepth 20000
set_option maxHeartbeats 8000000
noncomputable def qi (b0:qa) (s:List Int) (t7:Int):Int→Option (Int⊕(Int⊕Unit))|t8=>if t8<t7 then if 0≤t8∧t8<((s.length:Nat):Int) then Option.bind s[Int.toNat t8]? fun(a:Int)=>Option.bind (zx a b0) fun(a2:Bool)=>if a2=Bool.true then some (Sum.inr (Sum.inl t8)) else some (Sum.inl (w64 (t8+1))) else none else some (Sum.inr (Sum.inr ()))
theorem QU:∀(b0_Code:ByteArray) (b0_Credits b0_Places:Int) (b0_Slots:List Int) (b0_Needs:List ByteArray) (s:List Int) (t7 t8:Int),XL2 evo 70 1 2 ⟨[(0,rL 1 eI s),(1,R.c (C.fn 56 [] [dP 0])),(7,rI t7),(8,rI t8)],[(0,B.blk 35 [dS b0_Code,dI b0_Credits,dI b0_Places,dL 1 eI b0_Slots,dL 1 eS b0_Needs])],1,19⟩=(Z9 (qi (qa.mk b0_Code b0_Credits b0_Places b0_Slots b0_Needs) s t7) t8).bind (Sum.elim (fun(e:Int)=>some (Go.Exit.ret,⟨[(4,rI e)],[(0,B.blk 35 [dS b0_Code,dI b0_Credits,dI b0_Places,dL 1 eI b0_Slots,dL 1 eS b0_Needs])],1,19⟩)) (fun(e:Unit)=>some (Go.Exit.exit 0,⟨[(4,R.any)],[(0,B.blk 35 [dS b0_Code,dI b0_Credits,dI b0_Places,dL 1 eI b0_Slots,dL 1 eS b0_Needs])],1,19⟩))):=
 fun b0_Code b0_Credits b0_Places b0_Slots b0_Needs s t7 t8=>by
  revert t8;exact q6o qaL qbe (fun e=>by rcases e with _|_<;>exact⟨_,rfl,fun h=>by cases h⟩) fun x=>by
   have:=qfD;have:=@q5n.eq_1;have:=@q0A;have:=@qi.eq_1;exact gA
noncomputable def zt (fu:Nat) (b0:qa) (s:List Int) (t7:Int):Int→Option (Int⊕(Int⊕Unit))|t8=>if t8<t7 then if 0≤t8∧t8<((s.length:Nat):Int) then Option.bind s[Int.toNat t8]? fun(a:Int)=>Option.bind (Zv fu a b0) fun(a2:Bool)=>if a2=Bool.true then some (Sum.inr (Sum.inl t8)) else some (Sum.inl (w64 (t8+1))) else none else some (Sum.inr (Sum.inr ()))
theorem QV (fu:Nat) (b0:qa) (s:List Int) (t7:Int):∀x,qf (zt fu b0 s t7 x) (qi b0 s t7 x):=by
 rintro t8
 unfold zt qi
 try dsimp only
 repeat (first
  | with_reducible exact qf.refl _
  | with_reducible exact qf.none _
  | with_reducible apply q0J
  | with_reducible refine qf.bind ?_ (fun _=>?_)
  | with_reducible refine qf.ite ?_ ?_
  | with_reducible refine qf.sum (fun _=>?_) (fun _=>?_)
  | with_reducible refine qf.lim (fun _=>?_))
noncomputable def qB (s:List Int) (b0:qa):Option Int:=Option.bind (Z9 (qi b0 s ((s.length:Nat):Int)) 0) fun(a:Sum Int Unit)=>Sum.elim (fun(a2:Int)=>some a2) (fun(a3:Unit)=>some (-1)) a
theorem Zh:∀(s:List Int) (b0_Code:ByteArray) (b0_Credits b0_Places:Int) (b0_Slots:List Int) (b0_Needs:List ByteArray),ev 70 1 [rL 1 eI s,R.c (C.fn 56 [] [dP 0])] [(0,B.blk 35 [dS b0_Code,dI b0_Credits,dI b0_Places,dL 1 eI b0_Slots,dL 1 eS b0_Needs])]=(qB s (qa.mk b0_Code b0_Credits b0_Places b0_Slots b0_Needs)).bind (fun(e:Int)=>some (rI e,[(0,B.blk 35 [dS b0_Code,dI b0_Credits,dI b0_Places,dL 1 eI b0_Slots,dL 1 eS b0_Needs])])):=
 fun s b0_Code b0_Credits b0_Places b0_Slots b0_Needs=>by
  rw[z8 qeE qfX.2.2.2 qgS]
  have:=qfD;have:=@QU;have:=@qB.eq_1;exact gA
noncomputable def zA (fu:Nat) (s:List Int) (b0:qa):Option Int:=Option.bind (itT (zt fu b0 s ((s.length:Nat):Int)) fu 0) fun(a:Sum Int Unit)=>Sum.elim (fun(a2:Int)=>some a2) (fun(a3:Unit)=>some (-1)) a
theorem Ze (fu:Nat) (s:List Int) (b0:qa):qf (zA fu s b0) (qB s b0):=by
 unfold zA qB
 repeat (first
  | with_reducible exact qf.refl _
  | with_reducible exact qf.none _
  | with_reducible apply QV
  | with_reducible refine qf.bind ?_ (fun _=>?_)
  | with_reducible refine qf.ite ?_ ?_
  | with_reducible refine qf.sum (fun _=>?_) (fun _=>?_)
  | with_reducible refine qf.lim (fun _=>?_))
noncomputable def qu (s:List Int) (b0:qa):Option Bool:=Option.bind (qB s b0) fun(a:Int)=>some (decide (0≤a))
theorem QW:∀(s:List Int) (b0_Code:ByteArray) (b0_Credits b0_Places:Int) (b0_Slots:List Int) (b0_Needs:List ByteArray),ev 55 1 [rL 1 eI s,R.c (C.fn 56 [] [dP 0])] [(0,B.blk 35 [dS b0_Code,dI b0_Credits,dI b0_Places,dL 1 eI b0_Slots,dL 1 eS b0_Needs])]=(qu s (qa.mk b0_Code b0_Credits b0_Places b0_Slots b0_Needs)).bind (fun(e:Bool)=>some (rB e,[(0,B.blk 35 [dS b0_Code,dI b0_Credits,dI b0_Places,dL 1 eI b0_Slots,dL 1 eS b0_Needs])])):=
 fun s b0_Code b0_Credits b0_Places b0_Slots b0_Needs=>by
  rw[z8 qfL qgf.2.2.2 qio]
  have:=qie;have:=@Zh;have:=@qu.eq_1;exact gA
noncomputable def zr (fu:Nat) (s:List Int) (b0:qa):Option Bool:=Option.bind (zA fu s b0) fun(a:Int)=>some (decide (0≤a))
theorem QS (fu:Nat) (s:List Int) (b0:qa):qf (zr fu s b0) (qu s b0):=by
 unfold zr qu
 repeat (first
  | with_reducible exact qf.refl _
  | with_reducible exact qf.none _
  | with_reducible apply Ze
  | with_reducible refine qf.bind ?_ (fun _=>?_)
  | with_reducible refine qf.ite ?_ ?_
  | with_reducible refine qf.sum (fun _=>?_) (fun _=>?_)
  | with_reducible refine qf.lim (fun _=>?_))
noncomputable def qb (a:qa) (b:qa):Option Bool:=Option.bind (qu a.Slots b) fun(a2:Bool)=>some a2
theorem zE:∀(a_Code:ByteArray) (a_Credits a_Places:Int) (a_Slots:List Int) (a_Needs:List ByteArray) (b_Code:ByteArray) (b_Credits b_Places:Int) (b_Slots:List Int) (b_Needs:List ByteArray),ev 27 0 [R.agg [dS a_Code,dI a_Credits,dI a_Places,dL 1 eI a_Slots,dL 1 eS a_Needs],R.agg [dS b_Code,dI b_Credits,dI b_Places,dL 1 eI b_Slots,dL 1 eS b_Needs]] []=(qb (qa.mk a_Code a_Credits a_Places a_Slots a_Needs) (qa.mk b_Code b_Credits b_Places b_Slots b_Needs)).bind (fun(e:Bool)=>some (rB e,[])):=
 fun a_Code a_Credits a_Places a_Slots a_Needs b_Code b_Credits b_Places b_Slots b_Needs=>by
  rw[z8 qgE qhw.2.2.2 qjS]
  have:=qjL;have:=@QW;have:=@qb.eq_1;exact gA
theorem q0n:∀(a_Code:ByteArray) (a_Credits a_Places a_Slots0 a_Slots1:Int) (b_Code:ByteArray) (b_Credits b_Places b_Slots0:Int) (b_Needs0:ByteArray) , ev 27 0 [R.agg [dS a_Code,dI a_Credits,dI a_Places,C.d (D.sl 1 2 [D.int .i64 a_Slots0,D.int .i64 a_Slots1]),C.d (D.sl 1 0 [])],R.agg [dS b_Code,dI b_Credits,dI b_Places,C.d (D.sl 1 1 [D.int .i64 b_Slots0]),C.d (D.sl 1 1 [D.str b_Needs0])]] []=(qb (qa.mk a_Code a_Credits a_Places [a_Slots0,a_Slots1] []) (qa.mk b_Code b_Credits b_Places [b_Slots0] [b_Needs0])).bind (fun(e:Bool)=>some (rB e,[])):=by
 intro a_Code a_Credits a_Places a_Slots0 a_Slots1 b_Code b_Credits b_Places b_Slots0 b_Needs0;have h:=zE ((qa.mk a_Code a_Credits a_Places [a_Slots0,a_Slots1] [])).Code ((qa.mk a_Code a_Credits a_Places [a_Slots0,a_Slots1] [])).Credits ((qa.mk a_Code a_Credits a_Places [a_Slots0,a_Slots1] [])).Places ((qa.mk a_Code a_Credits a_Places [a_Slots0,a_Slots1] [])).Slots ((qa.mk a_Code a_Credits a_Places [a_Slots0,a_Slots1] [])).Needs ((qa.mk b_Code b_Credits b_Places [b_Slots0] [b_Needs0])).Code ((qa.mk b_Code b_Credits b_Places [b_Slots0] [b_Needs0])).Credits ((qa.mk b_Code b_Credits b_Places [b_Slots0] [b_Needs0])).Places ((qa.mk b_Code b_Credits b_Places [b_Slots0] [b_Needs0])).Slots ((qa.mk b_Code b_Credits b_Places [b_Slots0] [b_Needs0])).Needs
 first
  | exact h
  | (simp only[rL,dL,bR,bZ,Nat.reduceAdd] at h;exact h)
theorem q0q:∀(a_Code:ByteArray) (a_Credits a_Places a_Slots0:Int) (a_Needs0 b_Code:ByteArray) (b_Credits b_Places:Int) , ev 27 0 [R.agg [dS a_Code,dI a_Credits,dI a_Places,C.d (D.sl 1 1 [D.int .i64 a_Slots0]),C.d (D.sl 1 1 [D.str a_Needs0])],R.agg [dS b_Code,dI b_Credits,dI b_Places,C.d (D.sl 1 0 []),C.d (D.sl 1 0 [])]] []=(qb (qa.mk a_Code a_Credits a_Places [a_Slots0] [a_Needs0]) (qa.mk b_Code b_Credits b_Places [] [])).bind (fun(e:Bool)=>some (rB e,[])):=by
 intro a_Code a_Credits a_Places a_Slots0 a_Needs0 b_Code b_Credits b_Places;have h:=zE ((qa.mk a_Code a_Credits a_Places [a_Slots0] [a_Needs0])).Code ((qa.mk a_Code a_Credits a_Places [a_Slots0] [a_Needs0])).Credits ((qa.mk a_Code a_Credits a_Places [a_Slots0] [a_Needs0])).Places ((qa.mk a_Code a_Credits a_Places [a_Slots0] [a_Needs0])).Slots ((qa.mk a_Code a_Credits a_Places [a_Slots0] [a_Needs0])).Needs ((qa.mk b_Code b_Credits b_Places [] [])).Code ((qa.mk b_Code b_Credits b_Places [] [])).Credits ((qa.mk b_Code b_Credits b_Places [] [])).Places ((qa.mk b_Code b_Credits b_Places [] [])).Slots ((qa.mk b_Code b_Credits b_Places [] [])).Needs
 first
  | exact h
  | (simp only[rL,dL,bR,bZ,Nat.reduceAdd] at h;exact h)
noncomputable def qe (fu:Nat) (a:qa) (b:qa):Option Bool:=Option.bind (zr fu a.Slots b) fun(a2:Bool)=>some a2
theorem q1m (fu:Nat) (a b:qa):qf (qe fu a b) (qb a b):=by
 unfold qe qb
 repeat (first
  | with_reducible exact qf.refl _
  | with_reducible exact qf.none _
  | with_reducible apply QS
  | with_reducible refine qf.bind ?_ (fun _=>?_)
  | with_reducible refine qf.ite ?_ ?_
  | with_reducible refine qf.sum (fun _=>?_) (fun _=>?_)
  | with_reducible refine qf.lim (fun _=>?_))
end Go.Proofs.Ytcdegieiflmaeaa.Vc

namespace Go.Proofs.Ytcdegieiflmaeaa.Vc
open Go.RowKit
theorem q7O {α:Type} (l:List α) (q:α→Bool) (step:Int→Option (Int⊕(Int⊕Unit)))
  (h:∀(i:Nat) a,l[i]?=some a→step (i:Int)=some (if q a=true then .inr (.inl (i:Int)) else .inl ((i+1:Nat):Int)))
  (hn:step ((l.length:Nat):Int)=some (.inr (.inr ()))) :
  ∃r:Int⊕Unit,Z9 step 0=some r∧((∃(i:Nat) (a:α),r = .inl (i:Int)∧l[i]?=some a∧q a=true∧∀j b,j<i→l[j]?=some b→q b=false)∨(r = .inr ()∧∀a∈l,q a=false)):=by
 have key:∀(n i:Nat),n+i=l.length→(∀j b,j<i→l[j]?=some b→q b=false)→∃r:Int⊕Unit,Z9 step (i:Int)=some r∧((∃(i:Nat) (a:α),r = .inl (i:Int)∧l[i]?=some a∧q a=true∧∀j b,j<i→l[j]?=some b→q b=false)∨(r = .inr ()∧∀a∈l,q a=false)):=by
  intro n
  induction n with
  | zero=>
   intro i hi hlo
   obtain rfl:i=l.length:=by omega
   refine⟨.inr (),q1Z hn,.inr ⟨rfl,fun a ha=>?_⟩⟩
   obtain⟨j,hj,rfl⟩:=List.mem_iff_getElem.1 ha
   exact hlo j _ hj (List.getElem?_eq_getElem hj)
  | succ n ih=>
   intro i hi hlo
   have hlt:i<l.length:=by omega
   have ha:=List.getElem?_eq_getElem hlt
   have hs:=h i _ ha
   cases hq:q l[i] with
   | true=>
    rw[hq,if_pos rfl] at hs
    exact⟨_,q1Z hs,.inl ⟨i,_,rfl,ha,hq,hlo⟩⟩
   | false=>
    rw[hq,if_neg (by decide)] at hs
    rw[q63 hs]
    refine ih (i+1) (by omega) fun j b hj hb=>?_
    by_cases e:j<i
    ·exact hlo j b e hb
    ·obtain rfl:j=i:=by omega
     rw[ha] at hb;injection hb with hb;subst hb;exact hq
 exact key l.length 0 (by omega) (fun j b hj _=>by omega)
theorem q7k {α:Type} {l:List α} {q:α→Bool} {r:Int⊕Unit} (h:(∃(i:Nat) (a:α),r = .inl (i:Int)∧l[i]?=some a∧q a=true∧∀j b,j<i→l[j]?=some b→q b=false)∨(r = .inr ()∧∀a∈l,q a=false)) :
  ∃n:Int,Sum.elim (fun(a2:Int)=>some a2) (fun(a3:Unit)=>some (-(1:Int))) r=some n∧decide ((0:Int)≤n)=l.any q:=by
 rcases h with ⟨i,a,rfl,h1,h2,_⟩|⟨rfl,h1⟩
 ·refine⟨_,rfl,?_⟩
  rw[decide_eq_true (by omega)]
  exact(List.any_eq_true.2 ⟨a,List.mem_of_getElem? h1,h2⟩).symm
 ·refine⟨_,rfl,?_⟩
  rw[decide_eq_false (by decide)]
  symm;rw[List.any_eq_false];intro a ha;rw[h1 a ha];decide
theorem q6M {l:List Int} (hl:l.length≤1000000) (v:Int):qA l v=some (l.any fun a=>v==a):=by
 obtain⟨r,h1,h2⟩:=q7O l (fun a=>v==a) (qz l v ((l.length:Nat):Int))
  (fun i a ha=>by
   have:=qb4 ha
   unfold qz
   rw[if_pos (by omega),if_pos (by omega),Int.toNat_natCast,ha,Option.bind_some]
   cases(v==a) with
   | true=>rfl
   | false=>rw[if_neg (by decide),if_neg (by decide),q3f this (by omega)])
  (by unfold qz;rw[if_neg (by omega)])
 obtain⟨n,h3,h4⟩:=q7k h2
 unfold qA z7
 rw[h1,Option.bind_some,h3,Option.bind_some,h4]
theorem q9h {a b:qa} (ha:a.Slots.length≤1000000) (hb:b.Slots.length≤1000000):qb a b=some (a.Slots.any fun x=>b.Slots.any fun y=>x==y):=by
 have hc:∀n,zx n b=some (b.Slots.any fun y=>n==y):=fun n=>by
  unfold zx
  rw[q6M hb];rfl
 obtain⟨r,h1,h2⟩:=q7O a.Slots (fun x=>b.Slots.any fun y=>x==y) (qi b a.Slots ((a.Slots.length:Nat):Int))
  (fun i x hx=>by
   have:=qb4 hx
   unfold qi
   rw[if_pos (by omega),if_pos (by omega),Int.toNat_natCast,hx,Option.bind_some,hc,Option.bind_some]
   cases(b.Slots.any fun y=>x==y) with
   | true=>rfl
   | false=>rw[if_neg (by decide),if_neg (by decide),q3f this (by omega)])
  (by unfold qi;rw[if_neg (by omega)])
 obtain⟨n,h3,h4⟩:=q7k h2
 unfold qb qu qB
 rw[h1,Option.bind_some,h3,Option.bind_some,h4];rfl
end Go.Proofs.Ytcdegieiflmaeaa.Vc
namespace Go.Proofs.Ytcdegieiflmaeaa.Vc
open Go.RowKit
set_option maxRecDepth 20000
set_option maxHeartbeats 80000000
theorem lo8:okL 8 qcM:=zi (qg bd8) (by kernel_rfl) (by kernel_rfl)
def cx8:=JA_ @qcM.eq_1 (JA_ @Try.f8.eq_1 @bd8)
noncomputable def Qc:Option Bool:=Option.bind (qJ [qa.mk (ByteArray.mk (List.toArray [65,49])) 5 30 [(1:Int),2] [],qa.mk (ByteArray.mk (List.toArray [66,49])) 6 10 [(2:Int)] [ByteArray.mk (List.toArray [65,49])],qa.mk (ByteArray.mk (List.toArray [66,50])) 3 0 [] [],qa.mk (ByteArray.mk (List.toArray [67,49])) 10 200 [(40:Int)] [ByteArray.mk (List.toArray [66,49]),ByteArray.mk (List.toArray [66,50])]]) fun(a:Int)=>if(a==0)=Bool.true then Option.bind (qJ [qa.mk (ByteArray.mk (List.toArray [65,49])) 5 30 [(1:Int),2] [],qa.mk (ByteArray.mk (List.toArray [66,50])) 6 10 [(2:Int)] [ByteArray.mk (List.toArray [65,49])],qa.mk (ByteArray.mk (List.toArray [66,50])) 3 0 [] [],qa.mk (ByteArray.mk (List.toArray [67,49])) 10 200 [(40:Int)] [ByteArray.mk (List.toArray [66,49]),ByteArray.mk (List.toArray [66,50])]]) fun(a2:Int)=>if(a2==6)=Bool.true then Option.bind (qJ [qa.mk (ByteArray.mk (List.toArray [65,49])) 5 30 [(1:Int),2] [ByteArray.mk (List.toArray [67,49])],qa.mk (ByteArray.mk (List.toArray [66,49])) 6 10 [(2:Int)] [ByteArray.mk (List.toArray [65,49])],qa.mk (ByteArray.mk (List.toArray [66,50])) 3 0 [] [],qa.mk (ByteArray.mk (List.toArray [67,49])) 10 200 [(40:Int)] [ByteArray.mk (List.toArray [66,49]),ByteArray.mk (List.toArray [66,50])]]) fun(a3:Int)=>if(a3==14)=Bool.true then Option.bind (qJ [qa.mk (ByteArray.mk (List.toArray [65,49])) 5 30 [(1:Int),2] [],qa.mk (ByteArray.mk (List.toArray [66,49])) 6 10 [(2:Int)] [ByteArray.mk (List.toArray [65,49])],qa.mk (ByteArray.mk (List.toArray [66,50])) 3 0 [] [ByteArray.mk (List.toArray [88])],qa.mk (ByteArray.mk (List.toArray [67,49])) 10 200 [(40:Int)] [ByteArray.mk (List.toArray [66,49]),ByteArray.mk (List.toArray [66,50])]]) fun(a4:Int)=>if(a4==5)=Bool.true then Option.bind (qJ [qa.mk (ByteArray.mk (List.toArray [65,49])) 5 30 [(1:Int),2] [],qa.mk (ByteArray.mk (List.toArray [66,49])) 6 10 [(2:Int)] [ByteArray.mk (List.toArray [65,49])],qa.mk (ByteArray.mk (List.toArray [66,50])) 3 0 [] [],qa.mk (ByteArray.mk (List.toArray [67,49])) 61 200 [(40:Int)] [ByteArray.mk (List.toArray [66,49]),ByteArray.mk (List.toArray [66,50])]]) fun(a5:Int)=>Option.bind (qk [qa.mk (ByteArray.mk (List.toArray [65,49])) 5 30 [(1:Int),2] [],qa.mk (ByteArray.mk (List.toArray [66,49])) 6 10 [(2:Int)] [ByteArray.mk (List.toArray [65,49])],qa.mk (ByteArray.mk (List.toArray [66,50])) 3 0 [] [],qa.mk (ByteArray.mk (List.toArray [67,49])) 10 200 [(40:Int)] [ByteArray.mk (List.toArray [66,49]),ByteArray.mk (List.toArray [66,50])]] (ByteArray.mk (List.toArray [67,49]))) fun(a6:List ByteArray)=>Option.bind (qj a6 [ByteArray.mk (List.toArray [65,49]),ByteArray.mk (List.toArray [66,49]),ByteArray.mk (List.toArray [66,50])]) fun(a7:Bool)=>if a7=Bool.true then Option.bind (qk [qa.mk (ByteArray.mk (List.toArray [65,49])) 5 30 [(1:Int),2] [],qa.mk (ByteArray.mk (List.toArray [66,49])) 6 10 [(2:Int)] [ByteArray.mk (List.toArray [65,49])],qa.mk (ByteArray.mk (List.toArray [66,50])) 3 0 [] [],qa.mk (ByteArray.mk (List.toArray [67,49])) 10 200 [(40:Int)] [ByteArray.mk (List.toArray [66,49]),ByteArray.mk (List.toArray [66,50])]] (ByteArray.mk (List.toArray [65,49]))) fun(a8:List ByteArray)=>Option.bind (qk [qa.mk (ByteArray.mk (List.toArray [65,49])) 5 30 [(1:Int),2] [],qa.mk (ByteArray.mk (List.toArray [66,49])) 6 10 [(2:Int)] [ByteArray.mk (List.toArray [65,49])],qa.mk (ByteArray.mk (List.toArray [66,50])) 3 0 [] [],qa.mk (ByteArray.mk (List.toArray [67,49])) 10 200 [(40:Int)] [ByteArray.mk (List.toArray [66,49]),ByteArray.mk (List.toArray [66,50])]] (ByteArray.mk (List.toArray [88]))) fun(a9:List ByteArray)=>if(w64 (((a8.length:Nat):Int)+((a9.length:Nat):Int))==0)=Bool.true then Option.bind (zg [qa.mk (ByteArray.mk (List.toArray [65,49])) 5 30 [(1:Int),2] [],qa.mk (ByteArray.mk (List.toArray [66,49])) 6 10 [(2:Int)] [ByteArray.mk (List.toArray [65,49])],qa.mk (ByteArray.mk (List.toArray [66,50])) 3 0 [] [],qa.mk (ByteArray.mk (List.toArray [67,49])) 10 200 [(40:Int)] [ByteArray.mk (List.toArray [66,49]),ByteArray.mk (List.toArray [66,50])]]) fun(a10:List ByteArray)=>Option.bind (qj a10 [ByteArray.mk (List.toArray [65,49]),ByteArray.mk (List.toArray [66,49]),ByteArray.mk (List.toArray [66,50]),ByteArray.mk (List.toArray [67,49])]) fun(a11:Bool)=>Option.bind (qc [qa.mk (ByteArray.mk (List.toArray [65,49])) 5 30 [(1:Int),2] [],qa.mk (ByteArray.mk (List.toArray [66,49])) 6 10 [(2:Int)] [ByteArray.mk (List.toArray [65,49])],qa.mk (ByteArray.mk (List.toArray [66,50])) 3 0 [] [],qa.mk (ByteArray.mk (List.toArray [67,49])) 10 200 [(40:Int)] [ByteArray.mk (List.toArray [66,49]),ByteArray.mk (List.toArray [66,50])]] (ByteArray.mk (List.toArray [66,49])) [ByteArray.mk (List.toArray [65,49])]) fun(a12:Bool)=>if a12=Bool.true then Option.bind (qc [qa.mk (ByteArray.mk (List.toArray [65,49])) 5 30 [(1:Int),2] [],qa.mk (ByteArray.mk (List.toArray [66,49])) 6 10 [(2:Int)] [ByteArray.mk (List.toArray [65,49])],qa.mk (ByteArray.mk (List.toArray [66,50])) 3 0 [] [],qa.mk (ByteArray.mk (List.toArray [67,49])) 10 200 [(40:Int)] [ByteArray.mk (List.toArray [66,49]),ByteArray.mk (List.toArray [66,50])]] (ByteArray.mk (List.toArray [67,49])) [ByteArray.mk (List.toArray [65,49]),ByteArray.mk (List.toArray [66,49])]) fun(a13:Bool)=>if(!a13)=Bool.true then Option.bind (qc [qa.mk (ByteArray.mk (List.toArray [65,49])) 5 30 [(1:Int),2] [],qa.mk (ByteArray.mk (List.toArray [66,49])) 6 10 [(2:Int)] [ByteArray.mk (List.toArray [65,49])],qa.mk (ByteArray.mk (List.toArray [66,50])) 3 0 [] [],qa.mk (ByteArray.mk (List.toArray [67,49])) 10 200 [(40:Int)] [ByteArray.mk (List.toArray [66,49]),ByteArray.mk (List.toArray [66,50])]] (ByteArray.mk (List.toArray [88])) []) fun(a14:Bool)=>if(!a14)=Bool.true then Option.bind (qb (qa.mk (ByteArray.mk (List.toArray [65,49])) 5 30 [(1:Int),2] []) (qa.mk (ByteArray.mk (List.toArray [66,49])) 6 10 [(2:Int)] [ByteArray.mk (List.toArray [65,49])])) fun(a15:Bool)=>if a15=Bool.true then Option.bind (qb (qa.mk (ByteArray.mk (List.toArray [66,49])) 6 10 [(2:Int)] [ByteArray.mk (List.toArray [65,49])]) (qa.mk (ByteArray.mk (List.toArray [66,50])) 3 0 [] [])) fun(a16:Bool)=>if(a5==3)=Bool.true then if a11=Bool.true then if(!a16)=Bool.true then Option.bind (zQ (ByteArray.mk (List.toArray [65,49]))) fun(a17:Bool)=>if a17=Bool.true then Option.bind (zQ (ByteArray.mk (List.toArray [97,49]))) fun(a18:Bool)=>if(!a18)=Bool.true then Option.bind (zQ (ByteArray.mk (List.toArray []))) fun(a19:Bool)=>some (!a19) else some Bool.false else some Bool.false else some Bool.false else some Bool.false else some Bool.false else some Bool.false else some Bool.false else some Bool.false else some Bool.false else Option.bind (qc [qa.mk (ByteArray.mk (List.toArray [65,49])) 5 30 [(1:Int),2] [],qa.mk (ByteArray.mk (List.toArray [66,49])) 6 10 [(2:Int)] [ByteArray.mk (List.toArray [65,49])],qa.mk (ByteArray.mk (List.toArray [66,50])) 3 0 [] [],qa.mk (ByteArray.mk (List.toArray [67,49])) 10 200 [(40:Int)] [ByteArray.mk (List.toArray [66,49]),ByteArray.mk (List.toArray [66,50])]] (ByteArray.mk (List.toArray [66,49])) [ByteArray.mk (List.toArray [65,49])]) fun(a20:Bool)=>if a20=Bool.true then Option.bind (qc [qa.mk (ByteArray.mk (List.toArray [65,49])) 5 30 [(1:Int),2] [],qa.mk (ByteArray.mk (List.toArray [66,49])) 6 10 [(2:Int)] [ByteArray.mk (List.toArray [65,49])],qa.mk (ByteArray.mk (List.toArray [66,50])) 3 0 [] [],qa.mk (ByteArray.mk (List.toArray [67,49])) 10 200 [(40:Int)] [ByteArray.mk (List.toArray [66,49]),ByteArray.mk (List.toArray [66,50])]] (ByteArray.mk (List.toArray [67,49])) [ByteArray.mk (List.toArray [65,49]),ByteArray.mk (List.toArray [66,49])]) fun(a21:Bool)=>if(!a21)=Bool.true then Option.bind (qc [qa.mk (ByteArray.mk (List.toArray [65,49])) 5 30 [(1:Int),2] [],qa.mk (ByteArray.mk (List.toArray [66,49])) 6 10 [(2:Int)] [ByteArray.mk (List.toArray [65,49])],qa.mk (ByteArray.mk (List.toArray [66,50])) 3 0 [] [],qa.mk (ByteArray.mk (List.toArray [67,49])) 10 200 [(40:Int)] [ByteArray.mk (List.toArray [66,49]),ByteArray.mk (List.toArray [66,50])]] (ByteArray.mk (List.toArray [88])) []) fun(a22:Bool)=>if(!a22)=Bool.true then Option.bind (qb (qa.mk (ByteArray.mk (List.toArray [65,49])) 5 30 [(1:Int),2] []) (qa.mk (ByteArray.mk (List.toArray [66,49])) 6 10 [(2:Int)] [ByteArray.mk (List.toArray [65,49])])) fun(a23:Bool)=>if a23=Bool.true then Option.bind (qb (qa.mk (ByteArray.mk (List.toArray [66,49])) 6 10 [(2:Int)] [ByteArray.mk (List.toArray [65,49])]) (qa.mk (ByteArray.mk (List.toArray [66,50])) 3 0 [] [])) fun(a24:Bool)=>some Bool.false else some Bool.false else some Bool.false else some Bool.false else some Bool.false else Option.bind (qc [qa.mk (ByteArray.mk (List.toArray [65,49])) 5 30 [(1:Int),2] [],qa.mk (ByteArray.mk (List.toArray [66,49])) 6 10 [(2:Int)] [ByteArray.mk (List.toArray [65,49])],qa.mk (ByteArray.mk (List.toArray [66,50])) 3 0 [] [],qa.mk (ByteArray.mk (List.toArray [67,49])) 10 200 [(40:Int)] [ByteArray.mk (List.toArray [66,49]),ByteArray.mk (List.toArray [66,50])]] (ByteArray.mk (List.toArray [66,49])) [ByteArray.mk (List.toArray [65,49])]) fun(a25:Bool)=>if a25=Bool.true then Option.bind (qc [qa.mk (ByteArray.mk (List.toArray [65,49])) 5 30 [(1:Int),2] [],qa.mk (ByteArray.mk (List.toArray [66,49])) 6 10 [(2:Int)] [ByteArray.mk (List.toArray [65,49])],qa.mk (ByteArray.mk (List.toArray [66,50])) 3 0 [] [],qa.mk (ByteArray.mk (List.toArray [67,49])) 10 200 [(40:Int)] [ByteArray.mk (List.toArray [66,49]),ByteArray.mk (List.toArray [66,50])]] (ByteArray.mk (List.toArray [67,49])) [ByteArray.mk (List.toArray [65,49]),ByteArray.mk (List.toArray [66,49])]) fun(a26:Bool)=>if(!a26)=Bool.true then Option.bind (qc [qa.mk (ByteArray.mk (List.toArray [65,49])) 5 30 [(1:Int),2] [],qa.mk (ByteArray.mk (List.toArray [66,49])) 6 10 [(2:Int)] [ByteArray.mk (List.toArray [65,49])],qa.mk (ByteArray.mk (List.toArray [66,50])) 3 0 [] [],qa.mk (ByteArray.mk (List.toArray [67,49])) 10 200 [(40:Int)] [ByteArray.mk (List.toArray [66,49]),ByteArray.mk (List.toArray [66,50])]] (ByteArray.mk (List.toArray [88])) []) fun(a27:Bool)=>if(!a27)=Bool.true then Option.bind (qb (qa.mk (ByteArray.mk (List.toArray [65,49])) 5 30 [(1:Int),2] []) (qa.mk (ByteArray.mk (List.toArray [66,49])) 6 10 [(2:Int)] [ByteArray.mk (List.toArray [65,49])])) fun(a28:Bool)=>if a28=Bool.true then Option.bind (qb (qa.mk (ByteArray.mk (List.toArray [66,49])) 6 10 [(2:Int)] [ByteArray.mk (List.toArray [65,49])]) (qa.mk (ByteArray.mk (List.toArray [66,50])) 3 0 [] [])) fun(a29:Bool)=>some Bool.false else some Bool.false else some Bool.false else some Bool.false else some Bool.false else Option.bind (qk [qa.mk (ByteArray.mk (List.toArray [65,49])) 5 30 [(1:Int),2] [],qa.mk (ByteArray.mk (List.toArray [66,49])) 6 10 [(2:Int)] [ByteArray.mk (List.toArray [65,49])],qa.mk (ByteArray.mk (List.toArray [66,50])) 3 0 [] [],qa.mk (ByteArray.mk (List.toArray [67,49])) 10 200 [(40:Int)] [ByteArray.mk (List.toArray [66,49]),ByteArray.mk (List.toArray [66,50])]] (ByteArray.mk (List.toArray [67,49]))) fun(a30:List ByteArray)=>Option.bind (qj a30 [ByteArray.mk (List.toArray [65,49]),ByteArray.mk (List.toArray [66,49]),ByteArray.mk (List.toArray [66,50])]) fun(a31:Bool)=>if a31=Bool.true then Option.bind (qk [qa.mk (ByteArray.mk (List.toArray [65,49])) 5 30 [(1:Int),2] [],qa.mk (ByteArray.mk (List.toArray [66,49])) 6 10 [(2:Int)] [ByteArray.mk (List.toArray [65,49])],qa.mk (ByteArray.mk (List.toArray [66,50])) 3 0 [] [],qa.mk (ByteArray.mk (List.toArray [67,49])) 10 200 [(40:Int)] [ByteArray.mk (List.toArray [66,49]),ByteArray.mk (List.toArray [66,50])]] (ByteArray.mk (List.toArray [65,49]))) fun(a32:List ByteArray)=>Option.bind (qk [qa.mk (ByteArray.mk (List.toArray [65,49])) 5 30 [(1:Int),2] [],qa.mk (ByteArray.mk (List.toArray [66,49])) 6 10 [(2:Int)] [ByteArray.mk (List.toArray [65,49])],qa.mk (ByteArray.mk (List.toArray [66,50])) 3 0 [] [],qa.mk (ByteArray.mk (List.toArray [67,49])) 10 200 [(40:Int)] [ByteArray.mk (List.toArray [66,49]),ByteArray.mk (List.toArray [66,50])]] (ByteArray.mk (List.toArray [88]))) fun(a33:List ByteArray)=>if(w64 (((a32.length:Nat):Int)+((a33.length:Nat):Int))==0)=Bool.true then Option.bind (zg [qa.mk (ByteArray.mk (List.toArray [65,49])) 5 30 [(1:Int),2] [],qa.mk (ByteArray.mk (List.toArray [66,49])) 6 10 [(2:Int)] [ByteArray.mk (List.toArray [65,49])],qa.mk (ByteArray.mk (List.toArray [66,50])) 3 0 [] [],qa.mk (ByteArray.mk (List.toArray [67,49])) 10 200 [(40:Int)] [ByteArray.mk (List.toArray [66,49]),ByteArray.mk (List.toArray [66,50])]]) fun(a34:List ByteArray)=>Option.bind (qj a34 [ByteArray.mk (List.toArray [65,49]),ByteArray.mk (List.toArray [66,49]),ByteArray.mk (List.toArray [66,50]),ByteArray.mk (List.toArray [67,49])]) fun(a35:Bool)=>Option.bind (qc [qa.mk (ByteArray.mk (List.toArray [65,49])) 5 30 [(1:Int),2] [],qa.mk (ByteArray.mk (List.toArray [66,49])) 6 10 [(2:Int)] [ByteArray.mk (List.toArray [65,49])],qa.mk (ByteArray.mk (List.toArray [66,50])) 3 0 [] [],qa.mk (ByteArray.mk (List.toArray [67,49])) 10 200 [(40:Int)] [ByteArray.mk (List.toArray [66,49]),ByteArray.mk (List.toArray [66,50])]] (ByteArray.mk (List.toArray [66,49])) [ByteArray.mk (List.toArray [65,49])]) fun(a36:Bool)=>if a36=Bool.true then Option.bind (qc [qa.mk (ByteArray.mk (List.toArray [65,49])) 5 30 [(1:Int),2] [],qa.mk (ByteArray.mk (List.toArray [66,49])) 6 10 [(2:Int)] [ByteArray.mk (List.toArray [65,49])],qa.mk (ByteArray.mk (List.toArray [66,50])) 3 0 [] [],qa.mk (ByteArray.mk (List.toArray [67,49])) 10 200 [(40:Int)] [ByteArray.mk (List.toArray [66,49]),ByteArray.mk (List.toArray [66,50])]] (ByteArray.mk (List.toArray [67,49])) [ByteArray.mk (List.toArray [65,49]),ByteArray.mk (List.toArray [66,49])]) fun(a37:Bool)=>if(!a37)=Bool.true then Option.bind (qc [qa.mk (ByteArray.mk (List.toArray [65,49])) 5 30 [(1:Int),2] [],qa.mk (ByteArray.mk (List.toArray [66,49])) 6 10 [(2:Int)] [ByteArray.mk (List.toArray [65,49])],qa.mk (ByteArray.mk (List.toArray [66,50])) 3 0 [] [],qa.mk (ByteArray.mk (List.toArray [67,49])) 10 200 [(40:Int)] [ByteArray.mk (List.toArray [66,49]),ByteArray.mk (List.toArray [66,50])]] (ByteArray.mk (List.toArray [88])) []) fun(a38:Bool)=>if(!a38)=Bool.true then Option.bind (qb (qa.mk (ByteArray.mk (List.toArray [65,49])) 5 30 [(1:Int),2] []) (qa.mk (ByteArray.mk (List.toArray [66,49])) 6 10 [(2:Int)] [ByteArray.mk (List.toArray [65,49])])) fun(a39:Bool)=>if a39=Bool.true then Option.bind (qb (qa.mk (ByteArray.mk (List.toArray [66,49])) 6 10 [(2:Int)] [ByteArray.mk (List.toArray [65,49])]) (qa.mk (ByteArray.mk (List.toArray [66,50])) 3 0 [] [])) fun(a40:Bool)=>some Bool.false else some Bool.false else some Bool.false else some Bool.false else some Bool.false else Option.bind (qc [qa.mk (ByteArray.mk (List.toArray [65,49])) 5 30 [(1:Int),2] [],qa.mk (ByteArray.mk (List.toArray [66,49])) 6 10 [(2:Int)] [ByteArray.mk (List.toArray [65,49])],qa.mk (ByteArray.mk (List.toArray [66,50])) 3 0 [] [],qa.mk (ByteArray.mk (List.toArray [67,49])) 10 200 [(40:Int)] [ByteArray.mk (List.toArray [66,49]),ByteArray.mk (List.toArray [66,50])]] (ByteArray.mk (List.toArray [66,49])) [ByteArray.mk (List.toArray [65,49])]) fun(a41:Bool)=>if a41=Bool.true then Option.bind (qc [qa.mk (ByteArray.mk (List.toArray [65,49])) 5 30 [(1:Int),2] [],qa.mk (ByteArray.mk (List.toArray [66,49])) 6 10 [(2:Int)] [ByteArray.mk (List.toArray [65,49])],qa.mk (ByteArray.mk (List.toArray [66,50])) 3 0 [] [],qa.mk (ByteArray.mk (List.toArray [67,49])) 10 200 [(40:Int)] [ByteArray.mk (List.toArray [66,49]),ByteArray.mk (List.toArray [66,50])]] (ByteArray.mk (List.toArray [67,49])) [ByteArray.mk (List.toArray [65,49]),ByteArray.mk (List.toArray [66,49])]) fun(a42:Bool)=>if(!a42)=Bool.true then Option.bind (qc [qa.mk (ByteArray.mk (List.toArray [65,49])) 5 30 [(1:Int),2] [],qa.mk (ByteArray.mk (List.toArray [66,49])) 6 10 [(2:Int)] [ByteArray.mk (List.toArray [65,49])],qa.mk (ByteArray.mk (List.toArray [66,50])) 3 0 [] [],qa.mk (ByteArray.mk (List.toArray [67,49])) 10 200 [(40:Int)] [ByteArray.mk (List.toArray [66,49]),ByteArray.mk (List.toArray [66,50])]] (ByteArray.mk (List.toArray [88])) []) fun(a43:Bool)=>if(!a43)=Bool.true then Option.bind (qb (qa.mk (ByteArray.mk (List.toArray [65,49])) 5 30 [(1:Int),2] []) (qa.mk (ByteArray.mk (List.toArray [66,49])) 6 10 [(2:Int)] [ByteArray.mk (List.toArray [65,49])])) fun(a44:Bool)=>if a44=Bool.true then Option.bind (qb (qa.mk (ByteArray.mk (List.toArray [66,49])) 6 10 [(2:Int)] [ByteArray.mk (List.toArray [65,49])]) (qa.mk (ByteArray.mk (List.toArray [66,50])) 3 0 [] [])) fun(a45:Bool)=>some Bool.false else some Bool.false else some Bool.false else some Bool.false else some Bool.false else Option.bind (qc [qa.mk (ByteArray.mk (List.toArray [65,49])) 5 30 [(1:Int),2] [],qa.mk (ByteArray.mk (List.toArray [66,49])) 6 10 [(2:Int)] [ByteArray.mk (List.toArray [65,49])],qa.mk (ByteArray.mk (List.toArray [66,50])) 3 0 [] [],qa.mk (ByteArray.mk (List.toArray [67,49])) 10 200 [(40:Int)] [ByteArray.mk (List.toArray [66,49]),ByteArray.mk (List.toArray [66,50])]] (ByteArray.mk (List.toArray [66,49])) [ByteArray.mk (List.toArray [65,49])]) fun(a46:Bool)=>if a46=Bool.true then Option.bind (qc [qa.mk (ByteArray.mk (List.toArray [65,49])) 5 30 [(1:Int),2] [],qa.mk (ByteArray.mk (List.toArray [66,49])) 6 10 [(2:Int)] [ByteArray.mk (List.toArray [65,49])],qa.mk (ByteArray.mk (List.toArray [66,50])) 3 0 [] [],qa.mk (ByteArray.mk (List.toArray [67,49])) 10 200 [(40:Int)] [ByteArray.mk (List.toArray [66,49]),ByteArray.mk (List.toArray [66,50])]] (ByteArray.mk (List.toArray [67,49])) [ByteArray.mk (List.toArray [65,49]),ByteArray.mk (List.toArray [66,49])]) fun(a47:Bool)=>if(!a47)=Bool.true then Option.bind (qc [qa.mk (ByteArray.mk (List.toArray [65,49])) 5 30 [(1:Int),2] [],qa.mk (ByteArray.mk (List.toArray [66,49])) 6 10 [(2:Int)] [ByteArray.mk (List.toArray [65,49])],qa.mk (ByteArray.mk (List.toArray [66,50])) 3 0 [] [],qa.mk (ByteArray.mk (List.toArray [67,49])) 10 200 [(40:Int)] [ByteArray.mk (List.toArray [66,49]),ByteArray.mk (List.toArray [66,50])]] (ByteArray.mk (List.toArray [88])) []) fun(a48:Bool)=>if(!a48)=Bool.true then Option.bind (qb (qa.mk (ByteArray.mk (List.toArray [65,49])) 5 30 [(1:Int),2] []) (qa.mk (ByteArray.mk (List.toArray [66,49])) 6 10 [(2:Int)] [ByteArray.mk (List.toArray [65,49])])) fun(a49:Bool)=>if a49=Bool.true then Option.bind (qb (qa.mk (ByteArray.mk (List.toArray [66,49])) 6 10 [(2:Int)] [ByteArray.mk (List.toArray [65,49])]) (qa.mk (ByteArray.mk (List.toArray [66,50])) 3 0 [] [])) fun(a50:Bool)=>some Bool.false else some Bool.false else some Bool.false else some Bool.false else some Bool.false else Option.bind (qk [qa.mk (ByteArray.mk (List.toArray [65,49])) 5 30 [(1:Int),2] [],qa.mk (ByteArray.mk (List.toArray [66,49])) 6 10 [(2:Int)] [ByteArray.mk (List.toArray [65,49])],qa.mk (ByteArray.mk (List.toArray [66,50])) 3 0 [] [],qa.mk (ByteArray.mk (List.toArray [67,49])) 10 200 [(40:Int)] [ByteArray.mk (List.toArray [66,49]),ByteArray.mk (List.toArray [66,50])]] (ByteArray.mk (List.toArray [67,49]))) fun(a51:List ByteArray)=>Option.bind (qj a51 [ByteArray.mk (List.toArray [65,49]),ByteArray.mk (List.toArray [66,49]),ByteArray.mk (List.toArray [66,50])]) fun(a52:Bool)=>if a52=Bool.true then Option.bind (qk [qa.mk (ByteArray.mk (List.toArray [65,49])) 5 30 [(1:Int),2] [],qa.mk (ByteArray.mk (List.toArray [66,49])) 6 10 [(2:Int)] [ByteArray.mk (List.toArray [65,49])],qa.mk (ByteArray.mk (List.toArray [66,50])) 3 0 [] [],qa.mk (ByteArray.mk (List.toArray [67,49])) 10 200 [(40:Int)] [ByteArray.mk (List.toArray [66,49]),ByteArray.mk (List.toArray [66,50])]] (ByteArray.mk (List.toArray [65,49]))) fun(a53:List ByteArray)=>Option.bind (qk [qa.mk (ByteArray.mk (List.toArray [65,49])) 5 30 [(1:Int),2] [],qa.mk (ByteArray.mk (List.toArray [66,49])) 6 10 [(2:Int)] [ByteArray.mk (List.toArray [65,49])],qa.mk (ByteArray.mk (List.toArray [66,50])) 3 0 [] [],qa.mk (ByteArray.mk (List.toArray [67,49])) 10 200 [(40:Int)] [ByteArray.mk (List.toArray [66,49]),ByteArray.mk (List.toArray [66,50])]] (ByteArray.mk (List.toArray [88]))) fun(a54:List ByteArray)=>if(w64 (((a53.length:Nat):Int)+((a54.length:Nat):Int))==0)=Bool.true then Option.bind (zg [qa.mk (ByteArray.mk (List.toArray [65,49])) 5 30 [(1:Int),2] [],qa.mk (ByteArray.mk (List.toArray [66,49])) 6 10 [(2:Int)] [ByteArray.mk (List.toArray [65,49])],qa.mk (ByteArray.mk (List.toArray [66,50])) 3 0 [] [],qa.mk (ByteArray.mk (List.toArray [67,49])) 10 200 [(40:Int)] [ByteArray.mk (List.toArray [66,49]),ByteArray.mk (List.toArray [66,50])]]) fun(a55:List ByteArray)=>Option.bind (qj a55 [ByteArray.mk (List.toArray [65,49]),ByteArray.mk (List.toArray [66,49]),ByteArray.mk (List.toArray [66,50]),ByteArray.mk (List.toArray [67,49])]) fun(a56:Bool)=>Option.bind (qc [qa.mk (ByteArray.mk (List.toArray [65,49])) 5 30 [(1:Int),2] [],qa.mk (ByteArray.mk (List.toArray [66,49])) 6 10 [(2:Int)] [ByteArray.mk (List.toArray [65,49])],qa.mk (ByteArray.mk (List.toArray [66,50])) 3 0 [] [],qa.mk (ByteArray.mk (List.toArray [67,49])) 10 200 [(40:Int)] [ByteArray.mk (List.toArray [66,49]),ByteArray.mk (List.toArray [66,50])]] (ByteArray.mk (List.toArray [66,49])) [ByteArray.mk (List.toArray [65,49])]) fun(a57:Bool)=>if a57=Bool.true then Option.bind (qc [qa.mk (ByteArray.mk (List.toArray [65,49])) 5 30 [(1:Int),2] [],qa.mk (ByteArray.mk (List.toArray [66,49])) 6 10 [(2:Int)] [ByteArray.mk (List.toArray [65,49])],qa.mk (ByteArray.mk (List.toArray [66,50])) 3 0 [] [],qa.mk (ByteArray.mk (List.toArray [67,49])) 10 200 [(40:Int)] [ByteArray.mk (List.toArray [66,49]),ByteArray.mk (List.toArray [66,50])]] (ByteArray.mk (List.toArray [67,49])) [ByteArray.mk (List.toArray [65,49]),ByteArray.mk (List.toArray [66,49])]) fun(a58:Bool)=>if(!a58)=Bool.true then Option.bind (qc [qa.mk (ByteArray.mk (List.toArray [65,49])) 5 30 [(1:Int),2] [],qa.mk (ByteArray.mk (List.toArray [66,49])) 6 10 [(2:Int)] [ByteArray.mk (List.toArray [65,49])],qa.mk (ByteArray.mk (List.toArray [66,50])) 3 0 [] [],qa.mk (ByteArray.mk (List.toArray [67,49])) 10 200 [(40:Int)] [ByteArray.mk (List.toArray [66,49]),ByteArray.mk (List.toArray [66,50])]] (ByteArray.mk (List.toArray [88])) []) fun(a59:Bool)=>if(!a59)=Bool.true then Option.bind (qb (qa.mk (ByteArray.mk (List.toArray [65,49])) 5 30 [(1:Int),2] []) (qa.mk (ByteArray.mk (List.toArray [66,49])) 6 10 [(2:Int)] [ByteArray.mk (List.toArray [65,49])])) fun(a60:Bool)=>if a60=Bool.true then Option.bind (qb (qa.mk (ByteArray.mk (List.toArray [66,49])) 6 10 [(2:Int)] [ByteArray.mk (List.toArray [65,49])]) (qa.mk (ByteArray.mk (List.toArray [66,50])) 3 0 [] [])) fun(a61:Bool)=>some Bool.false else some Bool.false else some Bool.false else some Bool.false else some Bool.false else Option.bind (qc [qa.mk (ByteArray.mk (List.toArray [65,49])) 5 30 [(1:Int),2] [],qa.mk (ByteArray.mk (List.toArray [66,49])) 6 10 [(2:Int)] [ByteArray.mk (List.toArray [65,49])],qa.mk (ByteArray.mk (List.toArray [66,50])) 3 0 [] [],qa.mk (ByteArray.mk (List.toArray [67,49])) 10 200 [(40:Int)] [ByteArray.mk (List.toArray [66,49]),ByteArray.mk (List.toArray [66,50])]] (ByteArray.mk (List.toArray [66,49])) [ByteArray.mk (List.toArray [65,49])]) fun(a62:Bool)=>if a62=Bool.true then Option.bind (qc [qa.mk (ByteArray.mk (List.toArray [65,49])) 5 30 [(1:Int),2] [],qa.mk (ByteArray.mk (List.toArray [66,49])) 6 10 [(2:Int)] [ByteArray.mk (List.toArray [65,49])],qa.mk (ByteArray.mk (List.toArray [66,50])) 3 0 [] [],qa.mk (ByteArray.mk (List.toArray [67,49])) 10 200 [(40:Int)] [ByteArray.mk (List.toArray [66,49]),ByteArray.mk (List.toArray [66,50])]] (ByteArray.mk (List.toArray [67,49])) [ByteArray.mk (List.toArray [65,49]),ByteArray.mk (List.toArray [66,49])]) fun(a63:Bool)=>if(!a63)=Bool.true then Option.bind (qc [qa.mk (ByteArray.mk (List.toArray [65,49])) 5 30 [(1:Int),2] [],qa.mk (ByteArray.mk (List.toArray [66,49])) 6 10 [(2:Int)] [ByteArray.mk (List.toArray [65,49])],qa.mk (ByteArray.mk (List.toArray [66,50])) 3 0 [] [],qa.mk (ByteArray.mk (List.toArray [67,49])) 10 200 [(40:Int)] [ByteArray.mk (List.toArray [66,49]),ByteArray.mk (List.toArray [66,50])]] (ByteArray.mk (List.toArray [88])) []) fun(a64:Bool)=>if(!a64)=Bool.true then Option.bind (qb (qa.mk (ByteArray.mk (List.toArray [65,49])) 5 30 [(1:Int),2] []) (qa.mk (ByteArray.mk (List.toArray [66,49])) 6 10 [(2:Int)] [ByteArray.mk (List.toArray [65,49])])) fun(a65:Bool)=>if a65=Bool.true then Option.bind (qb (qa.mk (ByteArray.mk (List.toArray [66,49])) 6 10 [(2:Int)] [ByteArray.mk (List.toArray [65,49])]) (qa.mk (ByteArray.mk (List.toArray [66,50])) 3 0 [] [])) fun(a66:Bool)=>some Bool.false else some Bool.false else some Bool.false else some Bool.false else some Bool.false else Option.bind (qc [qa.mk (ByteArray.mk (List.toArray [65,49])) 5 30 [(1:Int),2] [],qa.mk (ByteArray.mk (List.toArray [66,49])) 6 10 [(2:Int)] [ByteArray.mk (List.toArray [65,49])],qa.mk (ByteArray.mk (List.toArray [66,50])) 3 0 [] [],qa.mk (ByteArray.mk (List.toArray [67,49])) 10 200 [(40:Int)] [ByteArray.mk (List.toArray [66,49]),ByteArray.mk (List.toArray [66,50])]] (ByteArray.mk (List.toArray [66,49])) [ByteArray.mk (List.toArray [65,49])]) fun(a67:Bool)=>if a67=Bool.true then Option.bind (qc [qa.mk (ByteArray.mk (List.toArray [65,49])) 5 30 [(1:Int),2] [],qa.mk (ByteArray.mk (List.toArray [66,49])) 6 10 [(2:Int)] [ByteArray.mk (List.toArray [65,49])],qa.mk (ByteArray.mk (List.toArray [66,50])) 3 0 [] [],qa.mk (ByteArray.mk (List.toArray [67,49])) 10 200 [(40:Int)] [ByteArray.mk (List.toArray [66,49]),ByteArray.mk (List.toArray [66,50])]] (ByteArray.mk (List.toArray [67,49])) [ByteArray.mk (List.toArray [65,49]),ByteArray.mk (List.toArray [66,49])]) fun(a68:Bool)=>if(!a68)=Bool.true then Option.bind (qc [qa.mk (ByteArray.mk (List.toArray [65,49])) 5 30 [(1:Int),2] [],qa.mk (ByteArray.mk (List.toArray [66,49])) 6 10 [(2:Int)] [ByteArray.mk (List.toArray [65,49])],qa.mk (ByteArray.mk (List.toArray [66,50])) 3 0 [] [],qa.mk (ByteArray.mk (List.toArray [67,49])) 10 200 [(40:Int)] [ByteArray.mk (List.toArray [66,49]),ByteArray.mk (List.toArray [66,50])]] (ByteArray.mk (List.toArray [88])) []) fun(a69:Bool)=>if(!a69)=Bool.true then Option.bind (qb (qa.mk (ByteArray.mk (List.toArray [65,49])) 5 30 [(1:Int),2] []) (qa.mk (ByteArray.mk (List.toArray [66,49])) 6 10 [(2:Int)] [ByteArray.mk (List.toArray [65,49])])) fun(a70:Bool)=>if a70=Bool.true then Option.bind (qb (qa.mk (ByteArray.mk (List.toArray [66,49])) 6 10 [(2:Int)] [ByteArray.mk (List.toArray [65,49])]) (qa.mk (ByteArray.mk (List.toArray [66,50])) 3 0 [] [])) fun(a71:Bool)=>some Bool.false else some Bool.false else some Bool.false else some Bool.false else some Bool.false else Option.bind (qk [qa.mk (ByteArray.mk (List.toArray [65,49])) 5 30 [(1:Int),2] [],qa.mk (ByteArray.mk (List.toArray [66,49])) 6 10 [(2:Int)] [ByteArray.mk (List.toArray [65,49])],qa.mk (ByteArray.mk (List.toArray [66,50])) 3 0 [] [],qa.mk (ByteArray.mk (List.toArray [67,49])) 10 200 [(40:Int)] [ByteArray.mk (List.toArray [66,49]),ByteArray.mk (List.toArray [66,50])]] (ByteArray.mk (List.toArray [67,49]))) fun(a72:List ByteArray)=>Option.bind (qj a72 [ByteArray.mk (List.toArray [65,49]),ByteArray.mk (List.toArray [66,49]),ByteArray.mk (List.toArray [66,50])]) fun(a73:Bool)=>if a73=Bool.true then Option.bind (qk [qa.mk (ByteArray.mk (List.toArray [65,49])) 5 30 [(1:Int),2] [],qa.mk (ByteArray.mk (List.toArray [66,49])) 6 10 [(2:Int)] [ByteArray.mk (List.toArray [65,49])],qa.mk (ByteArray.mk (List.toArray [66,50])) 3 0 [] [],qa.mk (ByteArray.mk (List.toArray [67,49])) 10 200 [(40:Int)] [ByteArray.mk (List.toArray [66,49]),ByteArray.mk (List.toArray [66,50])]] (ByteArray.mk (List.toArray [65,49]))) fun(a74:List ByteArray)=>Option.bind (qk [qa.mk (ByteArray.mk (List.toArray [65,49])) 5 30 [(1:Int),2] [],qa.mk (ByteArray.mk (List.toArray [66,49])) 6 10 [(2:Int)] [ByteArray.mk (List.toArray [65,49])],qa.mk (ByteArray.mk (List.toArray [66,50])) 3 0 [] [],qa.mk (ByteArray.mk (List.toArray [67,49])) 10 200 [(40:Int)] [ByteArray.mk (List.toArray [66,49]),ByteArray.mk (List.toArray [66,50])]] (ByteArray.mk (List.toArray [88]))) fun(a75:List ByteArray)=>if(w64 (((a74.length:Nat):Int)+((a75.length:Nat):Int))==0)=Bool.true then Option.bind (zg [qa.mk (ByteArray.mk (List.toArray [65,49])) 5 30 [(1:Int),2] [],qa.mk (ByteArray.mk (List.toArray [66,49])) 6 10 [(2:Int)] [ByteArray.mk (List.toArray [65,49])],qa.mk (ByteArray.mk (List.toArray [66,50])) 3 0 [] [],qa.mk (ByteArray.mk (List.toArray [67,49])) 10 200 [(40:Int)] [ByteArray.mk (List.toArray [66,49]),ByteArray.mk (List.toArray [66,50])]]) fun(a76:List ByteArray)=>Option.bind (qj a76 [ByteArray.mk (List.toArray [65,49]),ByteArray.mk (List.toArray [66,49]),ByteArray.mk (List.toArray [66,50]),ByteArray.mk (List.toArray [67,49])]) fun(a77:Bool)=>Option.bind (qc [qa.mk (ByteArray.mk (List.toArray [65,49])) 5 30 [(1:Int),2] [],qa.mk (ByteArray.mk (List.toArray [66,49])) 6 10 [(2:Int)] [ByteArray.mk (List.toArray [65,49])],qa.mk (ByteArray.mk (List.toArray [66,50])) 3 0 [] [],qa.mk (ByteArray.mk (List.toArray [67,49])) 10 200 [(40:Int)] [ByteArray.mk (List.toArray [66,49]),ByteArray.mk (List.toArray [66,50])]] (ByteArray.mk (List.toArray [66,49])) [ByteArray.mk (List.toArray [65,49])]) fun(a78:Bool)=>if a78=Bool.true then Option.bind (qc [qa.mk (ByteArray.mk (List.toArray [65,49])) 5 30 [(1:Int),2] [],qa.mk (ByteArray.mk (List.toArray [66,49])) 6 10 [(2:Int)] [ByteArray.mk (List.toArray [65,49])],qa.mk (ByteArray.mk (List.toArray [66,50])) 3 0 [] [],qa.mk (ByteArray.mk (List.toArray [67,49])) 10 200 [(40:Int)] [ByteArray.mk (List.toArray [66,49]),ByteArray.mk (List.toArray [66,50])]] (ByteArray.mk (List.toArray [67,49])) [ByteArray.mk (List.toArray [65,49]),ByteArray.mk (List.toArray [66,49])]) fun(a79:Bool)=>if(!a79)=Bool.true then Option.bind (qc [qa.mk (ByteArray.mk (List.toArray [65,49])) 5 30 [(1:Int),2] [],qa.mk (ByteArray.mk (List.toArray [66,49])) 6 10 [(2:Int)] [ByteArray.mk (List.toArray [65,49])],qa.mk (ByteArray.mk (List.toArray [66,50])) 3 0 [] [],qa.mk (ByteArray.mk (List.toArray [67,49])) 10 200 [(40:Int)] [ByteArray.mk (List.toArray [66,49]),ByteArray.mk (List.toArray [66,50])]] (ByteArray.mk (List.toArray [88])) []) fun(a80:Bool)=>if(!a80)=Bool.true then Option.bind (qb (qa.mk (ByteArray.mk (List.toArray [65,49])) 5 30 [(1:Int),2] []) (qa.mk (ByteArray.mk (List.toArray [66,49])) 6 10 [(2:Int)] [ByteArray.mk (List.toArray [65,49])])) fun(a81:Bool)=>if a81=Bool.true then Option.bind (qb (qa.mk (ByteArray.mk (List.toArray [66,49])) 6 10 [(2:Int)] [ByteArray.mk (List.toArray [65,49])]) (qa.mk (ByteArray.mk (List.toArray [66,50])) 3 0 [] [])) fun(a82:Bool)=>some Bool.false else some Bool.false else some Bool.false else some Bool.false else some Bool.false else Option.bind (qc [qa.mk (ByteArray.mk (List.toArray [65,49])) 5 30 [(1:Int),2] [],qa.mk (ByteArray.mk (List.toArray [66,49])) 6 10 [(2:Int)] [ByteArray.mk (List.toArray [65,49])],qa.mk (ByteArray.mk (List.toArray [66,50])) 3 0 [] [],qa.mk (ByteArray.mk (List.toArray [67,49])) 10 200 [(40:Int)] [ByteArray.mk (List.toArray [66,49]),ByteArray.mk (List.toArray [66,50])]] (ByteArray.mk (List.toArray [66,49])) [ByteArray.mk (List.toArray [65,49])]) fun(a83:Bool)=>if a83=Bool.true then Option.bind (qc [qa.mk (ByteArray.mk (List.toArray [65,49])) 5 30 [(1:Int),2] [],qa.mk (ByteArray.mk (List.toArray [66,49])) 6 10 [(2:Int)] [ByteArray.mk (List.toArray [65,49])],qa.mk (ByteArray.mk (List.toArray [66,50])) 3 0 [] [],qa.mk (ByteArray.mk (List.toArray [67,49])) 10 200 [(40:Int)] [ByteArray.mk (List.toArray [66,49]),ByteArray.mk (List.toArray [66,50])]] (ByteArray.mk (List.toArray [67,49])) [ByteArray.mk (List.toArray [65,49]),ByteArray.mk (List.toArray [66,49])]) fun(a84:Bool)=>if(!a84)=Bool.true then Option.bind (qc [qa.mk (ByteArray.mk (List.toArray [65,49])) 5 30 [(1:Int),2] [],qa.mk (ByteArray.mk (List.toArray [66,49])) 6 10 [(2:Int)] [ByteArray.mk (List.toArray [65,49])],qa.mk (ByteArray.mk (List.toArray [66,50])) 3 0 [] [],qa.mk (ByteArray.mk (List.toArray [67,49])) 10 200 [(40:Int)] [ByteArray.mk (List.toArray [66,49]),ByteArray.mk (List.toArray [66,50])]] (ByteArray.mk (List.toArray [88])) []) fun(a85:Bool)=>if(!a85)=Bool.true then Option.bind (qb (qa.mk (ByteArray.mk (List.toArray [65,49])) 5 30 [(1:Int),2] []) (qa.mk (ByteArray.mk (List.toArray [66,49])) 6 10 [(2:Int)] [ByteArray.mk (List.toArray [65,49])])) fun(a86:Bool)=>if a86=Bool.true then Option.bind (qb (qa.mk (ByteArray.mk (List.toArray [66,49])) 6 10 [(2:Int)] [ByteArray.mk (List.toArray [65,49])]) (qa.mk (ByteArray.mk (List.toArray [66,50])) 3 0 [] [])) fun(a87:Bool)=>some Bool.false else some Bool.false else some Bool.false else some Bool.false else some Bool.false else Option.bind (qc [qa.mk (ByteArray.mk (List.toArray [65,49])) 5 30 [(1:Int),2] [],qa.mk (ByteArray.mk (List.toArray [66,49])) 6 10 [(2:Int)] [ByteArray.mk (List.toArray [65,49])],qa.mk (ByteArray.mk (List.toArray [66,50])) 3 0 [] [],qa.mk (ByteArray.mk (List.toArray [67,49])) 10 200 [(40:Int)] [ByteArray.mk (List.toArray [66,49]),ByteArray.mk (List.toArray [66,50])]] (ByteArray.mk (List.toArray [66,49])) [ByteArray.mk (List.toArray [65,49])]) fun(a88:Bool)=>if a88=Bool.true then Option.bind (qc [qa.mk (ByteArray.mk (List.toArray [65,49])) 5 30 [(1:Int),2] [],qa.mk (ByteArray.mk (List.toArray [66,49])) 6 10 [(2:Int)] [ByteArray.mk (List.toArray [65,49])],qa.mk (ByteArray.mk (List.toArray [66,50])) 3 0 [] [],qa.mk (ByteArray.mk (List.toArray [67,49])) 10 200 [(40:Int)] [ByteArray.mk (List.toArray [66,49]),ByteArray.mk (List.toArray [66,50])]] (ByteArray.mk (List.toArray [67,49])) [ByteArray.mk (List.toArray [65,49]),ByteArray.mk (List.toArray [66,49])]) fun(a89:Bool)=>if(!a89)=Bool.true then Option.bind (qc [qa.mk (ByteArray.mk (List.toArray [65,49])) 5 30 [(1:Int),2] [],qa.mk (ByteArray.mk (List.toArray [66,49])) 6 10 [(2:Int)] [ByteArray.mk (List.toArray [65,49])],qa.mk (ByteArray.mk (List.toArray [66,50])) 3 0 [] [],qa.mk (ByteArray.mk (List.toArray [67,49])) 10 200 [(40:Int)] [ByteArray.mk (List.toArray [66,49]),ByteArray.mk (List.toArray [66,50])]] (ByteArray.mk (List.toArray [88])) []) fun(a90:Bool)=>if(!a90)=Bool.true then Option.bind (qb (qa.mk (ByteArray.mk (List.toArray [65,49])) 5 30 [(1:Int),2] []) (qa.mk (ByteArray.mk (List.toArray [66,49])) 6 10 [(2:Int)] [ByteArray.mk (List.toArray [65,49])])) fun(a91:Bool)=>if a91=Bool.true then Option.bind (qb (qa.mk (ByteArray.mk (List.toArray [66,49])) 6 10 [(2:Int)] [ByteArray.mk (List.toArray [65,49])]) (qa.mk (ByteArray.mk (List.toArray [66,50])) 3 0 [] [])) fun(a92:Bool)=>some Bool.false else some Bool.false else some Bool.false else some Bool.false else some Bool.false else Option.bind (qk [qa.mk (ByteArray.mk (List.toArray [65,49])) 5 30 [(1:Int),2] [],qa.mk (ByteArray.mk (List.toArray [66,49])) 6 10 [(2:Int)] [ByteArray.mk (List.toArray [65,49])],qa.mk (ByteArray.mk (List.toArray [66,50])) 3 0 [] [],qa.mk (ByteArray.mk (List.toArray [67,49])) 10 200 [(40:Int)] [ByteArray.mk (List.toArray [66,49]),ByteArray.mk (List.toArray [66,50])]] (ByteArray.mk (List.toArray [67,49]))) fun(a93:List ByteArray)=>Option.bind (qj a93 [ByteArray.mk (List.toArray [65,49]),ByteArray.mk (List.toArray [66,49]),ByteArray.mk (List.toArray [66,50])]) fun(a94:Bool)=>if a94=Bool.true then Option.bind (qk [qa.mk (ByteArray.mk (List.toArray [65,49])) 5 30 [(1:Int),2] [],qa.mk (ByteArray.mk (List.toArray [66,49])) 6 10 [(2:Int)] [ByteArray.mk (List.toArray [65,49])],qa.mk (ByteArray.mk (List.toArray [66,50])) 3 0 [] [],qa.mk (ByteArray.mk (List.toArray [67,49])) 10 200 [(40:Int)] [ByteArray.mk (List.toArray [66,49]),ByteArray.mk (List.toArray [66,50])]] (ByteArray.mk (List.toArray [65,49]))) fun(a95:List ByteArray)=>Option.bind (qk [qa.mk (ByteArray.mk (List.toArray [65,49])) 5 30 [(1:Int),2] [],qa.mk (ByteArray.mk (List.toArray [66,49])) 6 10 [(2:Int)] [ByteArray.mk (List.toArray [65,49])],qa.mk (ByteArray.mk (List.toArray [66,50])) 3 0 [] [],qa.mk (ByteArray.mk (List.toArray [67,49])) 10 200 [(40:Int)] [ByteArray.mk (List.toArray [66,49]),ByteArray.mk (List.toArray [66,50])]] (ByteArray.mk (List.toArray [88]))) fun(a96:List ByteArray)=>if(w64 (((a95.length:Nat):Int)+((a96.length:Nat):Int))==0)=Bool.true then Option.bind (zg [qa.mk (ByteArray.mk (List.toArray [65,49])) 5 30 [(1:Int),2] [],qa.mk (ByteArray.mk (List.toArray [66,49])) 6 10 [(2:Int)] [ByteArray.mk (List.toArray [65,49])],qa.mk (ByteArray.mk (List.toArray [66,50])) 3 0 [] [],qa.mk (ByteArray.mk (List.toArray [67,49])) 10 200 [(40:Int)] [ByteArray.mk (List.toArray [66,49]),ByteArray.mk (List.toArray [66,50])]]) fun(a97:List ByteArray)=>Option.bind (qj a97 [ByteArray.mk (List.toArray [65,49]),ByteArray.mk (List.toArray [66,49]),ByteArray.mk (List.toArray [66,50]),ByteArray.mk (List.toArray [67,49])]) fun(a98:Bool)=>Option.bind (qc [qa.mk (ByteArray.mk (List.toArray [65,49])) 5 30 [(1:Int),2] [],qa.mk (ByteArray.mk (List.toArray [66,49])) 6 10 [(2:Int)] [ByteArray.mk (List.toArray [65,49])],qa.mk (ByteArray.mk (List.toArray [66,50])) 3 0 [] [],qa.mk (ByteArray.mk (List.toArray [67,49])) 10 200 [(40:Int)] [ByteArray.mk (List.toArray [66,49]),ByteArray.mk (List.toArray [66,50])]] (ByteArray.mk (List.toArray [66,49])) [ByteArray.mk (List.toArray [65,49])]) fun(a99:Bool)=>if a99=Bool.true then Option.bind (qc [qa.mk (ByteArray.mk (List.toArray [65,49])) 5 30 [(1:Int),2] [],qa.mk (ByteArray.mk (List.toArray [66,49])) 6 10 [(2:Int)] [ByteArray.mk (List.toArray [65,49])],qa.mk (ByteArray.mk (List.toArray [66,50])) 3 0 [] [],qa.mk (ByteArray.mk (List.toArray [67,49])) 10 200 [(40:Int)] [ByteArray.mk (List.toArray [66,49]),ByteArray.mk (List.toArray [66,50])]] (ByteArray.mk (List.toArray [67,49])) [ByteArray.mk (List.toArray [65,49]),ByteArray.mk (List.toArray [66,49])]) fun(a100:Bool)=>if(!a100)=Bool.true then Option.bind (qc [qa.mk (ByteArray.mk (List.toArray [65,49])) 5 30 [(1:Int),2] [],qa.mk (ByteArray.mk (List.toArray [66,49])) 6 10 [(2:Int)] [ByteArray.mk (List.toArray [65,49])],qa.mk (ByteArray.mk (List.toArray [66,50])) 3 0 [] [],qa.mk (ByteArray.mk (List.toArray [67,49])) 10 200 [(40:Int)] [ByteArray.mk (List.toArray [66,49]),ByteArray.mk (List.toArray [66,50])]] (ByteArray.mk (List.toArray [88])) []) fun(a101:Bool)=>if(!a101)=Bool.true then Option.bind (qb (qa.mk (ByteArray.mk (List.toArray [65,49])) 5 30 [(1:Int),2] []) (qa.mk (ByteArray.mk (List.toArray [66,49])) 6 10 [(2:Int)] [ByteArray.mk (List.toArray [65,49])])) fun(a102:Bool)=>if a102=Bool.true then Option.bind (qb (qa.mk (ByteArray.mk (List.toArray [66,49])) 6 10 [(2:Int)] [ByteArray.mk (List.toArray [65,49])]) (qa.mk (ByteArray.mk (List.toArray [66,50])) 3 0 [] [])) fun(a103:Bool)=>some Bool.false else some Bool.false else some Bool.false else some Bool.false else some Bool.false else Option.bind (qc [qa.mk (ByteArray.mk (List.toArray [65,49])) 5 30 [(1:Int),2] [],qa.mk (ByteArray.mk (List.toArray [66,49])) 6 10 [(2:Int)] [ByteArray.mk (List.toArray [65,49])],qa.mk (ByteArray.mk (List.toArray [66,50])) 3 0 [] [],qa.mk (ByteArray.mk (List.toArray [67,49])) 10 200 [(40:Int)] [ByteArray.mk (List.toArray [66,49]),ByteArray.mk (List.toArray [66,50])]] (ByteArray.mk (List.toArray [66,49])) [ByteArray.mk (List.toArray [65,49])]) fun(a104:Bool)=>if a104=Bool.true then Option.bind (qc [qa.mk (ByteArray.mk (List.toArray [65,49])) 5 30 [(1:Int),2] [],qa.mk (ByteArray.mk (List.toArray [66,49])) 6 10 [(2:Int)] [ByteArray.mk (List.toArray [65,49])],qa.mk (ByteArray.mk (List.toArray [66,50])) 3 0 [] [],qa.mk (ByteArray.mk (List.toArray [67,49])) 10 200 [(40:Int)] [ByteArray.mk (List.toArray [66,49]),ByteArray.mk (List.toArray [66,50])]] (ByteArray.mk (List.toArray [67,49])) [ByteArray.mk (List.toArray [65,49]),ByteArray.mk (List.toArray [66,49])]) fun(a105:Bool)=>if(!a105)=Bool.true then Option.bind (qc [qa.mk (ByteArray.mk (List.toArray [65,49])) 5 30 [(1:Int),2] [],qa.mk (ByteArray.mk (List.toArray [66,49])) 6 10 [(2:Int)] [ByteArray.mk (List.toArray [65,49])],qa.mk (ByteArray.mk (List.toArray [66,50])) 3 0 [] [],qa.mk (ByteArray.mk (List.toArray [67,49])) 10 200 [(40:Int)] [ByteArray.mk (List.toArray [66,49]),ByteArray.mk (List.toArray [66,50])]] (ByteArray.mk (List.toArray [88])) []) fun(a106:Bool)=>if(!a106)=Bool.true then Option.bind (qb (qa.mk (ByteArray.mk (List.toArray [65,49])) 5 30 [(1:Int),2] []) (qa.mk (ByteArray.mk (List.toArray [66,49])) 6 10 [(2:Int)] [ByteArray.mk (List.toArray [65,49])])) fun(a107:Bool)=>if a107=Bool.true then Option.bind (qb (qa.mk (ByteArray.mk (List.toArray [66,49])) 6 10 [(2:Int)] [ByteArray.mk (List.toArray [65,49])]) (qa.mk (ByteArray.mk (List.toArray [66,50])) 3 0 [] [])) fun(a108:Bool)=>some Bool.false else some Bool.false else some Bool.false else some Bool.false else some Bool.false else Option.bind (qc [qa.mk (ByteArray.mk (List.toArray [65,49])) 5 30 [(1:Int),2] [],qa.mk (ByteArray.mk (List.toArray [66,49])) 6 10 [(2:Int)] [ByteArray.mk (List.toArray [65,49])],qa.mk (ByteArray.mk (List.toArray [66,50])) 3 0 [] [],qa.mk (ByteArray.mk (List.toArray [67,49])) 10 200 [(40:Int)] [ByteArray.mk (List.toArray [66,49]),ByteArray.mk (List.toArray [66,50])]] (ByteArray.mk (List.toArray [66,49])) [ByteArray.mk (List.toArray [65,49])]) fun(a109:Bool)=>if a109=Bool.true then Option.bind (qc [qa.mk (ByteArray.mk (List.toArray [65,49])) 5 30 [(1:Int),2] [],qa.mk (ByteArray.mk (List.toArray [66,49])) 6 10 [(2:Int)] [ByteArray.mk (List.toArray [65,49])],qa.mk (ByteArray.mk (List.toArray [66,50])) 3 0 [] [],qa.mk (ByteArray.mk (List.toArray [67,49])) 10 200 [(40:Int)] [ByteArray.mk (List.toArray [66,49]),ByteArray.mk (List.toArray [66,50])]] (ByteArray.mk (List.toArray [67,49])) [ByteArray.mk (List.toArray [65,49]),ByteArray.mk (List.toArray [66,49])]) fun(a110:Bool)=>if(!a110)=Bool.true then Option.bind (qc [qa.mk (ByteArray.mk (List.toArray [65,49])) 5 30 [(1:Int),2] [],qa.mk (ByteArray.mk (List.toArray [66,49])) 6 10 [(2:Int)] [ByteArray.mk (List.toArray [65,49])],qa.mk (ByteArray.mk (List.toArray [66,50])) 3 0 [] [],qa.mk (ByteArray.mk (List.toArray [67,49])) 10 200 [(40:Int)] [ByteArray.mk (List.toArray [66,49]),ByteArray.mk (List.toArray [66,50])]] (ByteArray.mk (List.toArray [88])) []) fun(a111:Bool)=>if(!a111)=Bool.true then Option.bind (qb (qa.mk (ByteArray.mk (List.toArray [65,49])) 5 30 [(1:Int),2] []) (qa.mk (ByteArray.mk (List.toArray [66,49])) 6 10 [(2:Int)] [ByteArray.mk (List.toArray [65,49])])) fun(a112:Bool)=>if a112=Bool.true then Option.bind (qb (qa.mk (ByteArray.mk (List.toArray [66,49])) 6 10 [(2:Int)] [ByteArray.mk (List.toArray [65,49])]) (qa.mk (ByteArray.mk (List.toArray [66,50])) 3 0 [] [])) fun(a113:Bool)=>some Bool.false else some Bool.false else some Bool.false else some Bool.false else some Bool.false
theorem q1n:ev 8 0 [] []=(Qc).bind (fun(e:Bool)=>some (rB e,[])):=
 by
  rw[z8 bd8 pw8.2.2.2 lo8]
  have:=cx8;have:=@q13;have:=@q0k;have:=@q07;have:=@q0i;have:=@q0g;have:=@Jj;have:=@q0f;have:=@q1d;have:=@Ji;have:=@q0Q;have:=@q0R;have:=@q0n;have:=@q0q;have:=@Js;have:=@Qc.eq_1;exact gA
noncomputable def ZZ (fu:Nat):Option Bool:=Option.bind (zD fu [qa.mk (ByteArray.mk (List.toArray [65,49])) 5 30 [(1:Int),2] [],qa.mk (ByteArray.mk (List.toArray [66,49])) 6 10 [(2:Int)] [ByteArray.mk (List.toArray [65,49])],qa.mk (ByteArray.mk (List.toArray [66,50])) 3 0 [] [],qa.mk (ByteArray.mk (List.toArray [67,49])) 10 200 [(40:Int)] [ByteArray.mk (List.toArray [66,49]),ByteArray.mk (List.toArray [66,50])]]) fun(a:Int)=>if(a==0)=Bool.true then Option.bind (zD fu [qa.mk (ByteArray.mk (List.toArray [65,49])) 5 30 [(1:Int),2] [],qa.mk (ByteArray.mk (List.toArray [66,50])) 6 10 [(2:Int)] [ByteArray.mk (List.toArray [65,49])],qa.mk (ByteArray.mk (List.toArray [66,50])) 3 0 [] [],qa.mk (ByteArray.mk (List.toArray [67,49])) 10 200 [(40:Int)] [ByteArray.mk (List.toArray [66,49]),ByteArray.mk (List.toArray [66,50])]]) fun(a2:Int)=>if(a2==6)=Bool.true then Option.bind (zD fu [qa.mk (ByteArray.mk (List.toArray [65,49])) 5 30 [(1:Int),2] [ByteArray.mk (List.toArray [67,49])],qa.mk (ByteArray.mk (List.toArray [66,49])) 6 10 [(2:Int)] [ByteArray.mk (List.toArray [65,49])],qa.mk (ByteArray.mk (List.toArray [66,50])) 3 0 [] [],qa.mk (ByteArray.mk (List.toArray [67,49])) 10 200 [(40:Int)] [ByteArray.mk (List.toArray [66,49]),ByteArray.mk (List.toArray [66,50])]]) fun(a3:Int)=>if(a3==14)=Bool.true then Option.bind (zD fu [qa.mk (ByteArray.mk (List.toArray [65,49])) 5 30 [(1:Int),2] [],qa.mk (ByteArray.mk (List.toArray [66,49])) 6 10 [(2:Int)] [ByteArray.mk (List.toArray [65,49])],qa.mk (ByteArray.mk (List.toArray [66,50])) 3 0 [] [ByteArray.mk (List.toArray [88])],qa.mk (ByteArray.mk (List.toArray [67,49])) 10 200 [(40:Int)] [ByteArray.mk (List.toArray [66,49]),ByteArray.mk (List.toArray [66,50])]]) fun(a4:Int)=>if(a4==5)=Bool.true then Option.bind (zD fu [qa.mk (ByteArray.mk (List.toArray [65,49])) 5 30 [(1:Int),2] [],qa.mk (ByteArray.mk (List.toArray [66,49])) 6 10 [(2:Int)] [ByteArray.mk (List.toArray [65,49])],qa.mk (ByteArray.mk (List.toArray [66,50])) 3 0 [] [],qa.mk (ByteArray.mk (List.toArray [67,49])) 61 200 [(40:Int)] [ByteArray.mk (List.toArray [66,49]),ByteArray.mk (List.toArray [66,50])]]) fun(a5:Int)=>Option.bind (qt fu [qa.mk (ByteArray.mk (List.toArray [65,49])) 5 30 [(1:Int),2] [],qa.mk (ByteArray.mk (List.toArray [66,49])) 6 10 [(2:Int)] [ByteArray.mk (List.toArray [65,49])],qa.mk (ByteArray.mk (List.toArray [66,50])) 3 0 [] [],qa.mk (ByteArray.mk (List.toArray [67,49])) 10 200 [(40:Int)] [ByteArray.mk (List.toArray [66,49]),ByteArray.mk (List.toArray [66,50])]] (ByteArray.mk (List.toArray [67,49]))) fun(a6:List ByteArray)=>Option.bind (qw fu a6 [ByteArray.mk (List.toArray [65,49]),ByteArray.mk (List.toArray [66,49]),ByteArray.mk (List.toArray [66,50])]) fun(a7:Bool)=>if a7=Bool.true then Option.bind (qt fu [qa.mk (ByteArray.mk (List.toArray [65,49])) 5 30 [(1:Int),2] [],qa.mk (ByteArray.mk (List.toArray [66,49])) 6 10 [(2:Int)] [ByteArray.mk (List.toArray [65,49])],qa.mk (ByteArray.mk (List.toArray [66,50])) 3 0 [] [],qa.mk (ByteArray.mk (List.toArray [67,49])) 10 200 [(40:Int)] [ByteArray.mk (List.toArray [66,49]),ByteArray.mk (List.toArray [66,50])]] (ByteArray.mk (List.toArray [65,49]))) fun(a8:List ByteArray)=>Option.bind (qt fu [qa.mk (ByteArray.mk (List.toArray [65,49])) 5 30 [(1:Int),2] [],qa.mk (ByteArray.mk (List.toArray [66,49])) 6 10 [(2:Int)] [ByteArray.mk (List.toArray [65,49])],qa.mk (ByteArray.mk (List.toArray [66,50])) 3 0 [] [],qa.mk (ByteArray.mk (List.toArray [67,49])) 10 200 [(40:Int)] [ByteArray.mk (List.toArray [66,49]),ByteArray.mk (List.toArray [66,50])]] (ByteArray.mk (List.toArray [88]))) fun(a9:List ByteArray)=>if(w64 (((a8.length:Nat):Int)+((a9.length:Nat):Int))==0)=Bool.true then Option.bind (zS fu [qa.mk (ByteArray.mk (List.toArray [65,49])) 5 30 [(1:Int),2] [],qa.mk (ByteArray.mk (List.toArray [66,49])) 6 10 [(2:Int)] [ByteArray.mk (List.toArray [65,49])],qa.mk (ByteArray.mk (List.toArray [66,50])) 3 0 [] [],qa.mk (ByteArray.mk (List.toArray [67,49])) 10 200 [(40:Int)] [ByteArray.mk (List.toArray [66,49]),ByteArray.mk (List.toArray [66,50])]]) fun(a10:List ByteArray)=>Option.bind (qw fu a10 [ByteArray.mk (List.toArray [65,49]),ByteArray.mk (List.toArray [66,49]),ByteArray.mk (List.toArray [66,50]),ByteArray.mk (List.toArray [67,49])]) fun(a11:Bool)=>Option.bind (qd fu [qa.mk (ByteArray.mk (List.toArray [65,49])) 5 30 [(1:Int),2] [],qa.mk (ByteArray.mk (List.toArray [66,49])) 6 10 [(2:Int)] [ByteArray.mk (List.toArray [65,49])],qa.mk (ByteArray.mk (List.toArray [66,50])) 3 0 [] [],qa.mk (ByteArray.mk (List.toArray [67,49])) 10 200 [(40:Int)] [ByteArray.mk (List.toArray [66,49]),ByteArray.mk (List.toArray [66,50])]] (ByteArray.mk (List.toArray [66,49])) [ByteArray.mk (List.toArray [65,49])]) fun(a12:Bool)=>if a12=Bool.true then Option.bind (qd fu [qa.mk (ByteArray.mk (List.toArray [65,49])) 5 30 [(1:Int),2] [],qa.mk (ByteArray.mk (List.toArray [66,49])) 6 10 [(2:Int)] [ByteArray.mk (List.toArray [65,49])],qa.mk (ByteArray.mk (List.toArray [66,50])) 3 0 [] [],qa.mk (ByteArray.mk (List.toArray [67,49])) 10 200 [(40:Int)] [ByteArray.mk (List.toArray [66,49]),ByteArray.mk (List.toArray [66,50])]] (ByteArray.mk (List.toArray [67,49])) [ByteArray.mk (List.toArray [65,49]),ByteArray.mk (List.toArray [66,49])]) fun(a13:Bool)=>if(!a13)=Bool.true then Option.bind (qd fu [qa.mk (ByteArray.mk (List.toArray [65,49])) 5 30 [(1:Int),2] [],qa.mk (ByteArray.mk (List.toArray [66,49])) 6 10 [(2:Int)] [ByteArray.mk (List.toArray [65,49])],qa.mk (ByteArray.mk (List.toArray [66,50])) 3 0 [] [],qa.mk (ByteArray.mk (List.toArray [67,49])) 10 200 [(40:Int)] [ByteArray.mk (List.toArray [66,49]),ByteArray.mk (List.toArray [66,50])]] (ByteArray.mk (List.toArray [88])) []) fun(a14:Bool)=>if(!a14)=Bool.true then Option.bind (qe fu (qa.mk (ByteArray.mk (List.toArray [65,49])) 5 30 [(1:Int),2] []) (qa.mk (ByteArray.mk (List.toArray [66,49])) 6 10 [(2:Int)] [ByteArray.mk (List.toArray [65,49])])) fun(a15:Bool)=>if a15=Bool.true then Option.bind (qe fu (qa.mk (ByteArray.mk (List.toArray [66,49])) 6 10 [(2:Int)] [ByteArray.mk (List.toArray [65,49])]) (qa.mk (ByteArray.mk (List.toArray [66,50])) 3 0 [] [])) fun(a16:Bool)=>if(a5==3)=Bool.true then if a11=Bool.true then if(!a16)=Bool.true then Option.bind (Qt fu (ByteArray.mk (List.toArray [65,49]))) fun(a17:Bool)=>if a17=Bool.true then Option.bind (Qt fu (ByteArray.mk (List.toArray [97,49]))) fun(a18:Bool)=>if(!a18)=Bool.true then Option.bind (Qt fu (ByteArray.mk (List.toArray []))) fun(a19:Bool)=>some (!a19) else some Bool.false else some Bool.false else some Bool.false else some Bool.false else some Bool.false else some Bool.false else some Bool.false else some Bool.false else some Bool.false else Option.bind (qd fu [qa.mk (ByteArray.mk (List.toArray [65,49])) 5 30 [(1:Int),2] [],qa.mk (ByteArray.mk (List.toArray [66,49])) 6 10 [(2:Int)] [ByteArray.mk (List.toArray [65,49])],qa.mk (ByteArray.mk (List.toArray [66,50])) 3 0 [] [],qa.mk (ByteArray.mk (List.toArray [67,49])) 10 200 [(40:Int)] [ByteArray.mk (List.toArray [66,49]),ByteArray.mk (List.toArray [66,50])]] (ByteArray.mk (List.toArray [66,49])) [ByteArray.mk (List.toArray [65,49])]) fun(a20:Bool)=>if a20=Bool.true then Option.bind (qd fu [qa.mk (ByteArray.mk (List.toArray [65,49])) 5 30 [(1:Int),2] [],qa.mk (ByteArray.mk (List.toArray [66,49])) 6 10 [(2:Int)] [ByteArray.mk (List.toArray [65,49])],qa.mk (ByteArray.mk (List.toArray [66,50])) 3 0 [] [],qa.mk (ByteArray.mk (List.toArray [67,49])) 10 200 [(40:Int)] [ByteArray.mk (List.toArray [66,49]),ByteArray.mk (List.toArray [66,50])]] (ByteArray.mk (List.toArray [67,49])) [ByteArray.mk (List.toArray [65,49]),ByteArray.mk (List.toArray [66,49])]) fun(a21:Bool)=>if(!a21)=Bool.true then Option.bind (qd fu [qa.mk (ByteArray.mk (List.toArray [65,49])) 5 30 [(1:Int),2] [],qa.mk (ByteArray.mk (List.toArray [66,49])) 6 10 [(2:Int)] [ByteArray.mk (List.toArray [65,49])],qa.mk (ByteArray.mk (List.toArray [66,50])) 3 0 [] [],qa.mk (ByteArray.mk (List.toArray [67,49])) 10 200 [(40:Int)] [ByteArray.mk (List.toArray [66,49]),ByteArray.mk (List.toArray [66,50])]] (ByteArray.mk (List.toArray [88])) []) fun(a22:Bool)=>if(!a22)=Bool.true then Option.bind (qe fu (qa.mk (ByteArray.mk (List.toArray [65,49])) 5 30 [(1:Int),2] []) (qa.mk (ByteArray.mk (List.toArray [66,49])) 6 10 [(2:Int)] [ByteArray.mk (List.toArray [65,49])])) fun(a23:Bool)=>if a23=Bool.true then Option.bind (qe fu (qa.mk (ByteArray.mk (List.toArray [66,49])) 6 10 [(2:Int)] [ByteArray.mk (List.toArray [65,49])]) (qa.mk (ByteArray.mk (List.toArray [66,50])) 3 0 [] [])) fun(a24:Bool)=>some Bool.false else some Bool.false else some Bool.false else some Bool.false else some Bool.false else Option.bind (qd fu [qa.mk (ByteArray.mk (List.toArray [65,49])) 5 30 [(1:Int),2] [],qa.mk (ByteArray.mk (List.toArray [66,49])) 6 10 [(2:Int)] [ByteArray.mk (List.toArray [65,49])],qa.mk (ByteArray.mk (List.toArray [66,50])) 3 0 [] [],qa.mk (ByteArray.mk (List.toArray [67,49])) 10 200 [(40:Int)] [ByteArray.mk (List.toArray [66,49]),ByteArray.mk (List.toArray [66,50])]] (ByteArray.mk (List.toArray [66,49])) [ByteArray.mk (List.toArray [65,49])]) fun(a25:Bool)=>if a25=Bool.true then Option.bind (qd fu [qa.mk (ByteArray.mk (List.toArray [65,49])) 5 30 [(1:Int),2] [],qa.mk (ByteArray.mk (List.toArray [66,49])) 6 10 [(2:Int)] [ByteArray.mk (List.toArray [65,49])],qa.mk (ByteArray.mk (List.toArray [66,50])) 3 0 [] [],qa.mk (ByteArray.mk (List.toArray [67,49])) 10 200 [(40:Int)] [ByteArray.mk (List.toArray [66,49]),ByteArray.mk (List.toArray [66,50])]] (ByteArray.mk (List.toArray [67,49])) [ByteArray.mk (List.toArray [65,49]),ByteArray.mk (List.toArray [66,49])]) fun(a26:Bool)=>if(!a26)=Bool.true then Option.bind (qd fu [qa.mk (ByteArray.mk (List.toArray [65,49])) 5 30 [(1:Int),2] [],qa.mk (ByteArray.mk (List.toArray [66,49])) 6 10 [(2:Int)] [ByteArray.mk (List.toArray [65,49])],qa.mk (ByteArray.mk (List.toArray [66,50])) 3 0 [] [],qa.mk (ByteArray.mk (List.toArray [67,49])) 10 200 [(40:Int)] [ByteArray.mk (List.toArray [66,49]),ByteArray.mk (List.toArray [66,50])]] (ByteArray.mk (List.toArray [88])) []) fun(a27:Bool)=>if(!a27)=Bool.true then Option.bind (qe fu (qa.mk (ByteArray.mk (List.toArray [65,49])) 5 30 [(1:Int),2] []) (qa.mk (ByteArray.mk (List.toArray [66,49])) 6 10 [(2:Int)] [ByteArray.mk (List.toArray [65,49])])) fun(a28:Bool)=>if a28=Bool.true then Option.bind (qe fu (qa.mk (ByteArray.mk (List.toArray [66,49])) 6 10 [(2:Int)] [ByteArray.mk (List.toArray [65,49])]) (qa.mk (ByteArray.mk (List.toArray [66,50])) 3 0 [] [])) fun(a29:Bool)=>some Bool.false else some Bool.false else some Bool.false else some Bool.false else some Bool.false else Option.bind (qt fu [qa.mk (ByteArray.mk (List.toArray [65,49])) 5 30 [(1:Int),2] [],qa.mk (ByteArray.mk (List.toArray [66,49])) 6 10 [(2:Int)] [ByteArray.mk (List.toArray [65,49])],qa.mk (ByteArray.mk (List.toArray [66,50])) 3 0 [] [],qa.mk (ByteArray.mk (List.toArray [67,49])) 10 200 [(40:Int)] [ByteArray.mk (List.toArray [66,49]),ByteArray.mk (List.toArray [66,50])]] (ByteArray.mk (List.toArray [67,49]))) fun(a30:List ByteArray)=>Option.bind (qw fu a30 [ByteArray.mk (List.toArray [65,49]),ByteArray.mk (List.toArray [66,49]),ByteArray.mk (List.toArray [66,50])]) fun(a31:Bool)=>if a31=Bool.true then Option.bind (qt fu [qa.mk (ByteArray.mk (List.toArray [65,49])) 5 30 [(1:Int),2] [],qa.mk (ByteArray.mk (List.toArray [66,49])) 6 10 [(2:Int)] [ByteArray.mk (List.toArray [65,49])],qa.mk (ByteArray.mk (List.toArray [66,50])) 3 0 [] [],qa.mk (ByteArray.mk (List.toArray [67,49])) 10 200 [(40:Int)] [ByteArray.mk (List.toArray [66,49]),ByteArray.mk (List.toArray [66,50])]] (ByteArray.mk (List.toArray [65,49]))) fun(a32:List ByteArray)=>Option.bind (qt fu [qa.mk (ByteArray.mk (List.toArray [65,49])) 5 30 [(1:Int),2] [],qa.mk (ByteArray.mk (List.toArray [66,49])) 6 10 [(2:Int)] [ByteArray.mk (List.toArray [65,49])],qa.mk (ByteArray.mk (List.toArray [66,50])) 3 0 [] [],qa.mk (ByteArray.mk (List.toArray [67,49])) 10 200 [(40:Int)] [ByteArray.mk (List.toArray [66,49]),ByteArray.mk (List.toArray [66,50])]] (ByteArray.mk (List.toArray [88]))) fun(a33:List ByteArray)=>if(w64 (((a32.length:Nat):Int)+((a33.length:Nat):Int))==0)=Bool.true then Option.bind (zS fu [qa.mk (ByteArray.mk (List.toArray [65,49])) 5 30 [(1:Int),2] [],qa.mk (ByteArray.mk (List.toArray [66,49])) 6 10 [(2:Int)] [ByteArray.mk (List.toArray [65,49])],qa.mk (ByteArray.mk (List.toArray [66,50])) 3 0 [] [],qa.mk (ByteArray.mk (List.toArray [67,49])) 10 200 [(40:Int)] [ByteArray.mk (List.toArray [66,49]),ByteArray.mk (List.toArray [66,50])]]) fun(a34:List ByteArray)=>Option.bind (qw fu a34 [ByteArray.mk (List.toArray [65,49]),ByteArray.mk (List.toArray [66,49]),ByteArray.mk (List.toArray [66,50]),ByteArray.mk (List.toArray [67,49])]) fun(a35:Bool)=>Option.bind (qd fu [qa.mk (ByteArray.mk (List.toArray [65,49])) 5 30 [(1:Int),2] [],qa.mk (ByteArray.mk (List.toArray [66,49])) 6 10 [(2:Int)] [ByteArray.mk (List.toArray [65,49])],qa.mk (ByteArray.mk (List.toArray [66,50])) 3 0 [] [],qa.mk (ByteArray.mk (List.toArray [67,49])) 10 200 [(40:Int)] [ByteArray.mk (List.toArray [66,49]),ByteArray.mk (List.toArray [66,50])]] (ByteArray.mk (List.toArray [66,49])) [ByteArray.mk (List.toArray [65,49])]) fun(a36:Bool)=>if a36=Bool.true then Option.bind (qd fu [qa.mk (ByteArray.mk (List.toArray [65,49])) 5 30 [(1:Int),2] [],qa.mk (ByteArray.mk (List.toArray [66,49])) 6 10 [(2:Int)] [ByteArray.mk (List.toArray [65,49])],qa.mk (ByteArray.mk (List.toArray [66,50])) 3 0 [] [],qa.mk (ByteArray.mk (List.toArray [67,49])) 10 200 [(40:Int)] [ByteArray.mk (List.toArray [66,49]),ByteArray.mk (List.toArray [66,50])]] (ByteArray.mk (List.toArray [67,49])) [ByteArray.mk (List.toArray [65,49]),ByteArray.mk (List.toArray [66,49])]) fun(a37:Bool)=>if(!a37)=Bool.true then Option.bind (qd fu [qa.mk (ByteArray.mk (List.toArray [65,49])) 5 30 [(1:Int),2] [],qa.mk (ByteArray.mk (List.toArray [66,49])) 6 10 [(2:Int)] [ByteArray.mk (List.toArray [65,49])],qa.mk (ByteArray.mk (List.toArray [66,50])) 3 0 [] [],qa.mk (ByteArray.mk (List.toArray [67,49])) 10 200 [(40:Int)] [ByteArray.mk (List.toArray [66,49]),ByteArray.mk (List.toArray [66,50])]] (ByteArray.mk (List.toArray [88])) []) fun(a38:Bool)=>if(!a38)=Bool.true then Option.bind (qe fu (qa.mk (ByteArray.mk (List.toArray [65,49])) 5 30 [(1:Int),2] []) (qa.mk (ByteArray.mk (List.toArray [66,49])) 6 10 [(2:Int)] [ByteArray.mk (List.toArray [65,49])])) fun(a39:Bool)=>if a39=Bool.true then Option.bind (qe fu (qa.mk (ByteArray.mk (List.toArray [66,49])) 6 10 [(2:Int)] [ByteArray.mk (List.toArray [65,49])]) (qa.mk (ByteArray.mk (List.toArray [66,50])) 3 0 [] [])) fun(a40:Bool)=>some Bool.false else some Bool.false else some Bool.false else some Bool.false else some Bool.false else Option.bind (qd fu [qa.mk (ByteArray.mk (List.toArray [65,49])) 5 30 [(1:Int),2] [],qa.mk (ByteArray.mk (List.toArray [66,49])) 6 10 [(2:Int)] [ByteArray.mk (List.toArray [65,49])],qa.mk (ByteArray.mk (List.toArray [66,50])) 3 0 [] [],qa.mk (ByteArray.mk (List.toArray [67,49])) 10 200 [(40:Int)] [ByteArray.mk (List.toArray [66,49]),ByteArray.mk (List.toArray [66,50])]] (ByteArray.mk (List.toArray [66,49])) [ByteArray.mk (List.toArray [65,49])]) fun(a41:Bool)=>if a41=Bool.true then Option.bind (qd fu [qa.mk (ByteArray.mk (List.toArray [65,49])) 5 30 [(1:Int),2] [],qa.mk (ByteArray.mk (List.toArray [66,49])) 6 10 [(2:Int)] [ByteArray.mk (List.toArray [65,49])],qa.mk (ByteArray.mk (List.toArray [66,50])) 3 0 [] [],qa.mk (ByteArray.mk (List.toArray [67,49])) 10 200 [(40:Int)] [ByteArray.mk (List.toArray [66,49]),ByteArray.mk (List.toArray [66,50])]] (ByteArray.mk (List.toArray [67,49])) [ByteArray.mk (List.toArray [65,49]),ByteArray.mk (List.toArray [66,49])]) fun(a42:Bool)=>if(!a42)=Bool.true then Option.bind (qd fu [qa.mk (ByteArray.mk (List.toArray [65,49])) 5 30 [(1:Int),2] [],qa.mk (ByteArray.mk (List.toArray [66,49])) 6 10 [(2:Int)] [ByteArray.mk (List.toArray [65,49])],qa.mk (ByteArray.mk (List.toArray [66,50])) 3 0 [] [],qa.mk (ByteArray.mk (List.toArray [67,49])) 10 200 [(40:Int)] [ByteArray.mk (List.toArray [66,49]),ByteArray.mk (List.toArray [66,50])]] (ByteArray.mk (List.toArray [88])) []) fun(a43:Bool)=>if(!a43)=Bool.true then Option.bind (qe fu (qa.mk (ByteArray.mk (List.toArray [65,49])) 5 30 [(1:Int),2] []) (qa.mk (ByteArray.mk (List.toArray [66,49])) 6 10 [(2:Int)] [ByteArray.mk (List.toArray [65,49])])) fun(a44:Bool)=>if a44=Bool.true then Option.bind (qe fu (qa.mk (ByteArray.mk (List.toArray [66,49])) 6 10 [(2:Int)] [ByteArray.mk (List.toArray [65,49])]) (qa.mk (ByteArray.mk (List.toArray [66,50])) 3 0 [] [])) fun(a45:Bool)=>some Bool.false else some Bool.false else some Bool.false else some Bool.false else some Bool.false else Option.bind (qd fu [qa.mk (ByteArray.mk (List.toArray [65,49])) 5 30 [(1:Int),2] [],qa.mk (ByteArray.mk (List.toArray [66,49])) 6 10 [(2:Int)] [ByteArray.mk (List.toArray [65,49])],qa.mk (ByteArray.mk (List.toArray [66,50])) 3 0 [] [],qa.mk (ByteArray.mk (List.toArray [67,49])) 10 200 [(40:Int)] [ByteArray.mk (List.toArray [66,49]),ByteArray.mk (List.toArray [66,50])]] (ByteArray.mk (List.toArray [66,49])) [ByteArray.mk (List.toArray [65,49])]) fun(a46:Bool)=>if a46=Bool.true then Option.bind (qd fu [qa.mk (ByteArray.mk (List.toArray [65,49])) 5 30 [(1:Int),2] [],qa.mk (ByteArray.mk (List.toArray [66,49])) 6 10 [(2:Int)] [ByteArray.mk (List.toArray [65,49])],qa.mk (ByteArray.mk (List.toArray [66,50])) 3 0 [] [],qa.mk (ByteArray.mk (List.toArray [67,49])) 10 200 [(40:Int)] [ByteArray.mk (List.toArray [66,49]),ByteArray.mk (List.toArray [66,50])]] (ByteArray.mk (List.toArray [67,49])) [ByteArray.mk (List.toArray [65,49]),ByteArray.mk (List.toArray [66,49])]) fun(a47:Bool)=>if(!a47)=Bool.true then Option.bind (qd fu [qa.mk (ByteArray.mk (List.toArray [65,49])) 5 30 [(1:Int),2] [],qa.mk (ByteArray.mk (List.toArray [66,49])) 6 10 [(2:Int)] [ByteArray.mk (List.toArray [65,49])],qa.mk (ByteArray.mk (List.toArray [66,50])) 3 0 [] [],qa.mk (ByteArray.mk (List.toArray [67,49])) 10 200 [(40:Int)] [ByteArray.mk (List.toArray [66,49]),ByteArray.mk (List.toArray [66,50])]] (ByteArray.mk (List.toArray [88])) []) fun(a48:Bool)=>if(!a48)=Bool.true then Option.bind (qe fu (qa.mk (ByteArray.mk (List.toArray [65,49])) 5 30 [(1:Int),2] []) (qa.mk (ByteArray.mk (List.toArray [66,49])) 6 10 [(2:Int)] [ByteArray.mk (List.toArray [65,49])])) fun(a49:Bool)=>if a49=Bool.true then Option.bind (qe fu (qa.mk (ByteArray.mk (List.toArray [66,49])) 6 10 [(2:Int)] [ByteArray.mk (List.toArray [65,49])]) (qa.mk (ByteArray.mk (List.toArray [66,50])) 3 0 [] [])) fun(a50:Bool)=>some Bool.false else some Bool.false else some Bool.false else some Bool.false else some Bool.false else Option.bind (qt fu [qa.mk (ByteArray.mk (List.toArray [65,49])) 5 30 [(1:Int),2] [],qa.mk (ByteArray.mk (List.toArray [66,49])) 6 10 [(2:Int)] [ByteArray.mk (List.toArray [65,49])],qa.mk (ByteArray.mk (List.toArray [66,50])) 3 0 [] [],qa.mk (ByteArray.mk (List.toArray [67,49])) 10 200 [(40:Int)] [ByteArray.mk (List.toArray [66,49]),ByteArray.mk (List.toArray [66,50])]] (ByteArray.mk (List.toArray [67,49]))) fun(a51:List ByteArray)=>Option.bind (qw fu a51 [ByteArray.mk (List.toArray [65,49]),ByteArray.mk (List.toArray [66,49]),ByteArray.mk (List.toArray [66,50])]) fun(a52:Bool)=>if a52=Bool.true then Option.bind (qt fu [qa.mk (ByteArray.mk (List.toArray [65,49])) 5 30 [(1:Int),2] [],qa.mk (ByteArray.mk (List.toArray [66,49])) 6 10 [(2:Int)] [ByteArray.mk (List.toArray [65,49])],qa.mk (ByteArray.mk (List.toArray [66,50])) 3 0 [] [],qa.mk (ByteArray.mk (List.toArray [67,49])) 10 200 [(40:Int)] [ByteArray.mk (List.toArray [66,49]),ByteArray.mk (List.toArray [66,50])]] (ByteArray.mk (List.toArray [65,49]))) fun(a53:List ByteArray)=>Option.bind (qt fu [qa.mk (ByteArray.mk (List.toArray [65,49])) 5 30 [(1:Int),2] [],qa.mk (ByteArray.mk (List.toArray [66,49])) 6 10 [(2:Int)] [ByteArray.mk (List.toArray [65,49])],qa.mk (ByteArray.mk (List.toArray [66,50])) 3 0 [] [],qa.mk (ByteArray.mk (List.toArray [67,49])) 10 200 [(40:Int)] [ByteArray.mk (List.toArray [66,49]),ByteArray.mk (List.toArray [66,50])]] (ByteArray.mk (List.toArray [88]))) fun(a54:List ByteArray)=>if(w64 (((a53.length:Nat):Int)+((a54.length:Nat):Int))==0)=Bool.true then Option.bind (zS fu [qa.mk (ByteArray.mk (List.toArray [65,49])) 5 30 [(1:Int),2] [],qa.mk (ByteArray.mk (List.toArray [66,49])) 6 10 [(2:Int)] [ByteArray.mk (List.toArray [65,49])],qa.mk (ByteArray.mk (List.toArray [66,50])) 3 0 [] [],qa.mk (ByteArray.mk (List.toArray [67,49])) 10 200 [(40:Int)] [ByteArray.mk (List.toArray [66,49]),ByteArray.mk (List.toArray [66,50])]]) fun(a55:List ByteArray)=>Option.bind (qw fu a55 [ByteArray.mk (List.toArray [65,49]),ByteArray.mk (List.toArray [66,49]),ByteArray.mk (List.toArray [66,50]),ByteArray.mk (List.toArray [67,49])]) fun(a56:Bool)=>Option.bind (qd fu [qa.mk (ByteArray.mk (List.toArray [65,49])) 5 30 [(1:Int),2] [],qa.mk (ByteArray.mk (List.toArray [66,49])) 6 10 [(2:Int)] [ByteArray.mk (List.toArray [65,49])],qa.mk (ByteArray.mk (List.toArray [66,50])) 3 0 [] [],qa.mk (ByteArray.mk (List.toArray [67,49])) 10 200 [(40:Int)] [ByteArray.mk (List.toArray [66,49]),ByteArray.mk (List.toArray [66,50])]] (ByteArray.mk (List.toArray [66,49])) [ByteArray.mk (List.toArray [65,49])]) fun(a57:Bool)=>if a57=Bool.true then Option.bind (qd fu [qa.mk (ByteArray.mk (List.toArray [65,49])) 5 30 [(1:Int),2] [],qa.mk (ByteArray.mk (List.toArray [66,49])) 6 10 [(2:Int)] [ByteArray.mk (List.toArray [65,49])],qa.mk (ByteArray.mk (List.toArray [66,50])) 3 0 [] [],qa.mk (ByteArray.mk (List.toArray [67,49])) 10 200 [(40:Int)] [ByteArray.mk (List.toArray [66,49]),ByteArray.mk (List.toArray [66,50])]] (ByteArray.mk (List.toArray [67,49])) [ByteArray.mk (List.toArray [65,49]),ByteArray.mk (List.toArray [66,49])]) fun(a58:Bool)=>if(!a58)=Bool.true then Option.bind (qd fu [qa.mk (ByteArray.mk (List.toArray [65,49])) 5 30 [(1:Int),2] [],qa.mk (ByteArray.mk (List.toArray [66,49])) 6 10 [(2:Int)] [ByteArray.mk (List.toArray [65,49])],qa.mk (ByteArray.mk (List.toArray [66,50])) 3 0 [] [],qa.mk (ByteArray.mk (List.toArray [67,49])) 10 200 [(40:Int)] [ByteArray.mk (List.toArray [66,49]),ByteArray.mk (List.toArray [66,50])]] (ByteArray.mk (List.toArray [88])) []) fun(a59:Bool)=>if(!a59)=Bool.true then Option.bind (qe fu (qa.mk (ByteArray.mk (List.toArray [65,49])) 5 30 [(1:Int),2] []) (qa.mk (ByteArray.mk (List.toArray [66,49])) 6 10 [(2:Int)] [ByteArray.mk (List.toArray [65,49])])) fun(a60:Bool)=>if a60=Bool.true then Option.bind (qe fu (qa.mk (ByteArray.mk (List.toArray [66,49])) 6 10 [(2:Int)] [ByteArray.mk (List.toArray [65,49])]) (qa.mk (ByteArray.mk (List.toArray [66,50])) 3 0 [] [])) fun(a61:Bool)=>some Bool.false else some Bool.false else some Bool.false else some Bool.false else some Bool.false else Option.bind (qd fu [qa.mk (ByteArray.mk (List.toArray [65,49])) 5 30 [(1:Int),2] [],qa.mk (ByteArray.mk (List.toArray [66,49])) 6 10 [(2:Int)] [ByteArray.mk (List.toArray [65,49])],qa.mk (ByteArray.mk (List.toArray [66,50])) 3 0 [] [],qa.mk (ByteArray.mk (List.toArray [67,49])) 10 200 [(40:Int)] [ByteArray.mk (List.toArray [66,49]),ByteArray.mk (List.toArray [66,50])]] (ByteArray.mk (List.toArray [66,49])) [ByteArray.mk (List.toArray [65,49])]) fun(a62:Bool)=>if a62=Bool.true then Option.bind (qd fu [qa.mk (ByteArray.mk (List.toArray [65,49])) 5 30 [(1:Int),2] [],qa.mk (ByteArray.mk (List.toArray [66,49])) 6 10 [(2:Int)] [ByteArray.mk (List.toArray [65,49])],qa.mk (ByteArray.mk (List.toArray [66,50])) 3 0 [] [],qa.mk (ByteArray.mk (List.toArray [67,49])) 10 200 [(40:Int)] [ByteArray.mk (List.toArray [66,49]),ByteArray.mk (List.toArray [66,50])]] (ByteArray.mk (List.toArray [67,49])) [ByteArray.mk (List.toArray [65,49]),ByteArray.mk (List.toArray [66,49])]) fun(a63:Bool)=>if(!a63)=Bool.true then Option.bind (qd fu [qa.mk (ByteArray.mk (List.toArray [65,49])) 5 30 [(1:Int),2] [],qa.mk (ByteArray.mk (List.toArray [66,49])) 6 10 [(2:Int)] [ByteArray.mk (List.toArray [65,49])],qa.mk (ByteArray.mk (List.toArray [66,50])) 3 0 [] [],qa.mk (ByteArray.mk (List.toArray [67,49])) 10 200 [(40:Int)] [ByteArray.mk (List.toArray [66,49]),ByteArray.mk (List.toArray [66,50])]] (ByteArray.mk (List.toArray [88])) []) fun(a64:Bool)=>if(!a64)=Bool.true then Option.bind (qe fu (qa.mk (ByteArray.mk (List.toArray [65,49])) 5 30 [(1:Int),2] []) (qa.mk (ByteArray.mk (List.toArray [66,49])) 6 10 [(2:Int)] [ByteArray.mk (List.toArray [65,49])])) fun(a65:Bool)=>if a65=Bool.true then Option.bind (qe fu (qa.mk (ByteArray.mk (List.toArray [66,49])) 6 10 [(2:Int)] [ByteArray.mk (List.toArray [65,49])]) (qa.mk (ByteArray.mk (List.toArray [66,50])) 3 0 [] [])) fun(a66:Bool)=>some Bool.false else some Bool.false else some Bool.false else some Bool.false else some Bool.false else Option.bind (qd fu [qa.mk (ByteArray.mk (List.toArray [65,49])) 5 30 [(1:Int),2] [],qa.mk (ByteArray.mk (List.toArray [66,49])) 6 10 [(2:Int)] [ByteArray.mk (List.toArray [65,49])],qa.mk (ByteArray.mk (List.toArray [66,50])) 3 0 [] [],qa.mk (ByteArray.mk (List.toArray [67,49])) 10 200 [(40:Int)] [ByteArray.mk (List.toArray [66,49]),ByteArray.mk (List.toArray [66,50])]] (ByteArray.mk (List.toArray [66,49])) [ByteArray.mk (List.toArray [65,49])]) fun(a67:Bool)=>if a67=Bool.true then Option.bind (qd fu [qa.mk (ByteArray.mk (List.toArray [65,49])) 5 30 [(1:Int),2] [],qa.mk (ByteArray.mk (List.toArray [66,49])) 6 10 [(2:Int)] [ByteArray.mk (List.toArray [65,49])],qa.mk (ByteArray.mk (List.toArray [66,50])) 3 0 [] [],qa.mk (ByteArray.mk (List.toArray [67,49])) 10 200 [(40:Int)] [ByteArray.mk (List.toArray [66,49]),ByteArray.mk (List.toArray [66,50])]] (ByteArray.mk (List.toArray [67,49])) [ByteArray.mk (List.toArray [65,49]),ByteArray.mk (List.toArray [66,49])]) fun(a68:Bool)=>if(!a68)=Bool.true then Option.bind (qd fu [qa.mk (ByteArray.mk (List.toArray [65,49])) 5 30 [(1:Int),2] [],qa.mk (ByteArray.mk (List.toArray [66,49])) 6 10 [(2:Int)] [ByteArray.mk (List.toArray [65,49])],qa.mk (ByteArray.mk (List.toArray [66,50])) 3 0 [] [],qa.mk (ByteArray.mk (List.toArray [67,49])) 10 200 [(40:Int)] [ByteArray.mk (List.toArray [66,49]),ByteArray.mk (List.toArray [66,50])]] (ByteArray.mk (List.toArray [88])) []) fun(a69:Bool)=>if(!a69)=Bool.true then Option.bind (qe fu (qa.mk (ByteArray.mk (List.toArray [65,49])) 5 30 [(1:Int),2] []) (qa.mk (ByteArray.mk (List.toArray [66,49])) 6 10 [(2:Int)] [ByteArray.mk (List.toArray [65,49])])) fun(a70:Bool)=>if a70=Bool.true then Option.bind (qe fu (qa.mk (ByteArray.mk (List.toArray [66,49])) 6 10 [(2:Int)] [ByteArray.mk (List.toArray [65,49])]) (qa.mk (ByteArray.mk (List.toArray [66,50])) 3 0 [] [])) fun(a71:Bool)=>some Bool.false else some Bool.false else some Bool.false else some Bool.false else some Bool.false else Option.bind (qt fu [qa.mk (ByteArray.mk (List.toArray [65,49])) 5 30 [(1:Int),2] [],qa.mk (ByteArray.mk (List.toArray [66,49])) 6 10 [(2:Int)] [ByteArray.mk (List.toArray [65,49])],qa.mk (ByteArray.mk (List.toArray [66,50])) 3 0 [] [],qa.mk (ByteArray.mk (List.toArray [67,49])) 10 200 [(40:Int)] [ByteArray.mk (List.toArray [66,49]),ByteArray.mk (List.toArray [66,50])]] (ByteArray.mk (List.toArray [67,49]))) fun(a72:List ByteArray)=>Option.bind (qw fu a72 [ByteArray.mk (List.toArray [65,49]),ByteArray.mk (List.toArray [66,49]),ByteArray.mk (List.toArray [66,50])]) fun(a73:Bool)=>if a73=Bool.true then Option.bind (qt fu [qa.mk (ByteArray.mk (List.toArray [65,49])) 5 30 [(1:Int),2] [],qa.mk (ByteArray.mk (List.toArray [66,49])) 6 10 [(2:Int)] [ByteArray.mk (List.toArray [65,49])],qa.mk (ByteArray.mk (List.toArray [66,50])) 3 0 [] [],qa.mk (ByteArray.mk (List.toArray [67,49])) 10 200 [(40:Int)] [ByteArray.mk (List.toArray [66,49]),ByteArray.mk (List.toArray [66,50])]] (ByteArray.mk (List.toArray [65,49]))) fun(a74:List ByteArray)=>Option.bind (qt fu [qa.mk (ByteArray.mk (List.toArray [65,49])) 5 30 [(1:Int),2] [],qa.mk (ByteArray.mk (List.toArray [66,49])) 6 10 [(2:Int)] [ByteArray.mk (List.toArray [65,49])],qa.mk (ByteArray.mk (List.toArray [66,50])) 3 0 [] [],qa.mk (ByteArray.mk (List.toArray [67,49])) 10 200 [(40:Int)] [ByteArray.mk (List.toArray [66,49]),ByteArray.mk (List.toArray [66,50])]] (ByteArray.mk (List.toArray [88]))) fun(a75:List ByteArray)=>if(w64 (((a74.length:Nat):Int)+((a75.length:Nat):Int))==0)=Bool.true then Option.bind (zS fu [qa.mk (ByteArray.mk (List.toArray [65,49])) 5 30 [(1:Int),2] [],qa.mk (ByteArray.mk (List.toArray [66,49])) 6 10 [(2:Int)] [ByteArray.mk (List.toArray [65,49])],qa.mk (ByteArray.mk (List.toArray [66,50])) 3 0 [] [],qa.mk (ByteArray.mk (List.toArray [67,49])) 10 200 [(40:Int)] [ByteArray.mk (List.toArray [66,49]),ByteArray.mk (List.toArray [66,50])]]) fun(a76:List ByteArray)=>Option.bind (qw fu a76 [ByteArray.mk (List.toArray [65,49]),ByteArray.mk (List.toArray [66,49]),ByteArray.mk (List.toArray [66,50]),ByteArray.mk (List.toArray [67,49])]) fun(a77:Bool)=>Option.bind (qd fu [qa.mk (ByteArray.mk (List.toArray [65,49])) 5 30 [(1:Int),2] [],qa.mk (ByteArray.mk (List.toArray [66,49])) 6 10 [(2:Int)] [ByteArray.mk (List.toArray [65,49])],qa.mk (ByteArray.mk (List.toArray [66,50])) 3 0 [] [],qa.mk (ByteArray.mk (List.toArray [67,49])) 10 200 [(40:Int)] [ByteArray.mk (List.toArray [66,49]),ByteArray.mk (List.toArray [66,50])]] (ByteArray.mk (List.toArray [66,49])) [ByteArray.mk (List.toArray [65,49])]) fun(a78:Bool)=>if a78=Bool.true then Option.bind (qd fu [qa.mk (ByteArray.mk (List.toArray [65,49])) 5 30 [(1:Int),2] [],qa.mk (ByteArray.mk (List.toArray [66,49])) 6 10 [(2:Int)] [ByteArray.mk (List.toArray [65,49])],qa.mk (ByteArray.mk (List.toArray [66,50])) 3 0 [] [],qa.mk (ByteArray.mk (List.toArray [67,49])) 10 200 [(40:Int)] [ByteArray.mk (List.toArray [66,49]),ByteArray.mk (List.toArray [66,50])]] (ByteArray.mk (List.toArray [67,49])) [ByteArray.mk (List.toArray [65,49]),ByteArray.mk (List.toArray [66,49])]) fun(a79:Bool)=>if(!a79)=Bool.true then Option.bind (qd fu [qa.mk (ByteArray.mk (List.toArray [65,49])) 5 30 [(1:Int),2] [],qa.mk (ByteArray.mk (List.toArray [66,49])) 6 10 [(2:Int)] [ByteArray.mk (List.toArray [65,49])],qa.mk (ByteArray.mk (List.toArray [66,50])) 3 0 [] [],qa.mk (ByteArray.mk (List.toArray [67,49])) 10 200 [(40:Int)] [ByteArray.mk (List.toArray [66,49]),ByteArray.mk (List.toArray [66,50])]] (ByteArray.mk (List.toArray [88])) []) fun(a80:Bool)=>if(!a80)=Bool.true then Option.bind (qe fu (qa.mk (ByteArray.mk (List.toArray [65,49])) 5 30 [(1:Int),2] []) (qa.mk (ByteArray.mk (List.toArray [66,49])) 6 10 [(2:Int)] [ByteArray.mk (List.toArray [65,49])])) fun(a81:Bool)=>if a81=Bool.true then Option.bind (qe fu (qa.mk (ByteArray.mk (List.toArray [66,49])) 6 10 [(2:Int)] [ByteArray.mk (List.toArray [65,49])]) (qa.mk (ByteArray.mk (List.toArray [66,50])) 3 0 [] [])) fun(a82:Bool)=>some Bool.false else some Bool.false else some Bool.false else some Bool.false else some Bool.false else Option.bind (qd fu [qa.mk (ByteArray.mk (List.toArray [65,49])) 5 30 [(1:Int),2] [],qa.mk (ByteArray.mk (List.toArray [66,49])) 6 10 [(2:Int)] [ByteArray.mk (List.toArray [65,49])],qa.mk (ByteArray.mk (List.toArray [66,50])) 3 0 [] [],qa.mk (ByteArray.mk (List.toArray [67,49])) 10 200 [(40:Int)] [ByteArray.mk (List.toArray [66,49]),ByteArray.mk (List.toArray [66,50])]] (ByteArray.mk (List.toArray [66,49])) [ByteArray.mk (List.toArray [65,49])]) fun(a83:Bool)=>if a83=Bool.true then Option.bind (qd fu [qa.mk (ByteArray.mk (List.toArray [65,49])) 5 30 [(1:Int),2] [],qa.mk (ByteArray.mk (List.toArray [66,49])) 6 10 [(2:Int)] [ByteArray.mk (List.toArray [65,49])],qa.mk (ByteArray.mk (List.toArray [66,50])) 3 0 [] [],qa.mk (ByteArray.mk (List.toArray [67,49])) 10 200 [(40:Int)] [ByteArray.mk (List.toArray [66,49]),ByteArray.mk (List.toArray [66,50])]] (ByteArray.mk (List.toArray [67,49])) [ByteArray.mk (List.toArray [65,49]),ByteArray.mk (List.toArray [66,49])]) fun(a84:Bool)=>if(!a84)=Bool.true then Option.bind (qd fu [qa.mk (ByteArray.mk (List.toArray [65,49])) 5 30 [(1:Int),2] [],qa.mk (ByteArray.mk (List.toArray [66,49])) 6 10 [(2:Int)] [ByteArray.mk (List.toArray [65,49])],qa.mk (ByteArray.mk (List.toArray [66,50])) 3 0 [] [],qa.mk (ByteArray.mk (List.toArray [67,49])) 10 200 [(40:Int)] [ByteArray.mk (List.toArray [66,49]),ByteArray.mk (List.toArray [66,50])]] (ByteArray.mk (List.toArray [88])) []) fun(a85:Bool)=>if(!a85)=Bool.true then Option.bind (qe fu (qa.mk (ByteArray.mk (List.toArray [65,49])) 5 30 [(1:Int),2] []) (qa.mk (ByteArray.mk (List.toArray [66,49])) 6 10 [(2:Int)] [ByteArray.mk (List.toArray [65,49])])) fun(a86:Bool)=>if a86=Bool.true then Option.bind (qe fu (qa.mk (ByteArray.mk (List.toArray [66,49])) 6 10 [(2:Int)] [ByteArray.mk (List.toArray [65,49])]) (qa.mk (ByteArray.mk (List.toArray [66,50])) 3 0 [] [])) fun(a87:Bool)=>some Bool.false else some Bool.false else some Bool.false else some Bool.false else some Bool.false else Option.bind (qd fu [qa.mk (ByteArray.mk (List.toArray [65,49])) 5 30 [(1:Int),2] [],qa.mk (ByteArray.mk (List.toArray [66,49])) 6 10 [(2:Int)] [ByteArray.mk (List.toArray [65,49])],qa.mk (ByteArray.mk (List.toArray [66,50])) 3 0 [] [],qa.mk (ByteArray.mk (List.toArray [67,49])) 10 200 [(40:Int)] [ByteArray.mk (List.toArray [66,49]),ByteArray.mk (List.toArray [66,50])]] (ByteArray.mk (List.toArray [66,49])) [ByteArray.mk (List.toArray [65,49])]) fun(a88:Bool)=>if a88=Bool.true then Option.bind (qd fu [qa.mk (ByteArray.mk (List.toArray [65,49])) 5 30 [(1:Int),2] [],qa.mk (ByteArray.mk (List.toArray [66,49])) 6 10 [(2:Int)] [ByteArray.mk (List.toArray [65,49])],qa.mk (ByteArray.mk (List.toArray [66,50])) 3 0 [] [],qa.mk (ByteArray.mk (List.toArray [67,49])) 10 200 [(40:Int)] [ByteArray.mk (List.toArray [66,49]),ByteArray.mk (List.toArray [66,50])]] (ByteArray.mk (List.toArray [67,49])) [ByteArray.mk (List.toArray [65,49]),ByteArray.mk (List.toArray [66,49])]) fun(a89:Bool)=>if(!a89)=Bool.true then Option.bind (qd fu [qa.mk (ByteArray.mk (List.toArray [65,49])) 5 30 [(1:Int),2] [],qa.mk (ByteArray.mk (List.toArray [66,49])) 6 10 [(2:Int)] [ByteArray.mk (List.toArray [65,49])],qa.mk (ByteArray.mk (List.toArray [66,50])) 3 0 [] [],qa.mk (ByteArray.mk (List.toArray [67,49])) 10 200 [(40:Int)] [ByteArray.mk (List.toArray [66,49]),ByteArray.mk (List.toArray [66,50])]] (ByteArray.mk (List.toArray [88])) []) fun(a90:Bool)=>if(!a90)=Bool.true then Option.bind (qe fu (qa.mk (ByteArray.mk (List.toArray [65,49])) 5 30 [(1:Int),2] []) (qa.mk (ByteArray.mk (List.toArray [66,49])) 6 10 [(2:Int)] [ByteArray.mk (List.toArray [65,49])])) fun(a91:Bool)=>if a91=Bool.true then Option.bind (qe fu (qa.mk (ByteArray.mk (List.toArray [66,49])) 6 10 [(2:Int)] [ByteArray.mk (List.toArray [65,49])]) (qa.mk (ByteArray.mk (List.toArray [66,50])) 3 0 [] [])) fun(a92:Bool)=>some Bool.false else some Bool.false else some Bool.false else some Bool.false else some Bool.false else Option.bind (qt fu [qa.mk (ByteArray.mk (List.toArray [65,49])) 5 30 [(1:Int),2] [],qa.mk (ByteArray.mk (List.toArray [66,49])) 6 10 [(2:Int)] [ByteArray.mk (List.toArray [65,49])],qa.mk (ByteArray.mk (List.toArray [66,50])) 3 0 [] [],qa.mk (ByteArray.mk (List.toArray [67,49])) 10 200 [(40:Int)] [ByteArray.mk (List.toArray [66,49]),ByteArray.mk (List.toArray [66,50])]] (ByteArray.mk (List.toArray [67,49]))) fun(a93:List ByteArray)=>Option.bind (qw fu a93 [ByteArray.mk (List.toArray [65,49]),ByteArray.mk (List.toArray [66,49]),ByteArray.mk (List.toArray [66,50])]) fun(a94:Bool)=>if a94=Bool.true then Option.bind (qt fu [qa.mk (ByteArray.mk (List.toArray [65,49])) 5 30 [(1:Int),2] [],qa.mk (ByteArray.mk (List.toArray [66,49])) 6 10 [(2:Int)] [ByteArray.mk (List.toArray [65,49])],qa.mk (ByteArray.mk (List.toArray [66,50])) 3 0 [] [],qa.mk (ByteArray.mk (List.toArray [67,49])) 10 200 [(40:Int)] [ByteArray.mk (List.toArray [66,49]),ByteArray.mk (List.toArray [66,50])]] (ByteArray.mk (List.toArray [65,49]))) fun(a95:List ByteArray)=>Option.bind (qt fu [qa.mk (ByteArray.mk (List.toArray [65,49])) 5 30 [(1:Int),2] [],qa.mk (ByteArray.mk (List.toArray [66,49])) 6 10 [(2:Int)] [ByteArray.mk (List.toArray [65,49])],qa.mk (ByteArray.mk (List.toArray [66,50])) 3 0 [] [],qa.mk (ByteArray.mk (List.toArray [67,49])) 10 200 [(40:Int)] [ByteArray.mk (List.toArray [66,49]),ByteArray.mk (List.toArray [66,50])]] (ByteArray.mk (List.toArray [88]))) fun(a96:List ByteArray)=>if(w64 (((a95.length:Nat):Int)+((a96.length:Nat):Int))==0)=Bool.true then Option.bind (zS fu [qa.mk (ByteArray.mk (List.toArray [65,49])) 5 30 [(1:Int),2] [],qa.mk (ByteArray.mk (List.toArray [66,49])) 6 10 [(2:Int)] [ByteArray.mk (List.toArray [65,49])],qa.mk (ByteArray.mk (List.toArray [66,50])) 3 0 [] [],qa.mk (ByteArray.mk (List.toArray [67,49])) 10 200 [(40:Int)] [ByteArray.mk (List.toArray [66,49]),ByteArray.mk (List.toArray [66,50])]]) fun(a97:List ByteArray)=>Option.bind (qw fu a97 [ByteArray.mk (List.toArray [65,49]),ByteArray.mk (List.toArray [66,49]),ByteArray.mk (List.toArray [66,50]),ByteArray.mk (List.toArray [67,49])]) fun(a98:Bool)=>Option.bind (qd fu [qa.mk (ByteArray.mk (List.toArray [65,49])) 5 30 [(1:Int),2] [],qa.mk (ByteArray.mk (List.toArray [66,49])) 6 10 [(2:Int)] [ByteArray.mk (List.toArray [65,49])],qa.mk (ByteArray.mk (List.toArray [66,50])) 3 0 [] [],qa.mk (ByteArray.mk (List.toArray [67,49])) 10 200 [(40:Int)] [ByteArray.mk (List.toArray [66,49]),ByteArray.mk (List.toArray [66,50])]] (ByteArray.mk (List.toArray [66,49])) [ByteArray.mk (List.toArray [65,49])]) fun(a99:Bool)=>if a99=Bool.true then Option.bind (qd fu [qa.mk (ByteArray.mk (List.toArray [65,49])) 5 30 [(1:Int),2] [],qa.mk (ByteArray.mk (List.toArray [66,49])) 6 10 [(2:Int)] [ByteArray.mk (List.toArray [65,49])],qa.mk (ByteArray.mk (List.toArray [66,50])) 3 0 [] [],qa.mk (ByteArray.mk (List.toArray [67,49])) 10 200 [(40:Int)] [ByteArray.mk (List.toArray [66,49]),ByteArray.mk (List.toArray [66,50])]] (ByteArray.mk (List.toArray [67,49])) [ByteArray.mk (List.toArray [65,49]),ByteArray.mk (List.toArray [66,49])]) fun(a100:Bool)=>if(!a100)=Bool.true then Option.bind (qd fu [qa.mk (ByteArray.mk (List.toArray [65,49])) 5 30 [(1:Int),2] [],qa.mk (ByteArray.mk (List.toArray [66,49])) 6 10 [(2:Int)] [ByteArray.mk (List.toArray [65,49])],qa.mk (ByteArray.mk (List.toArray [66,50])) 3 0 [] [],qa.mk (ByteArray.mk (List.toArray [67,49])) 10 200 [(40:Int)] [ByteArray.mk (List.toArray [66,49]),ByteArray.mk (List.toArray [66,50])]] (ByteArray.mk (List.toArray [88])) []) fun(a101:Bool)=>if(!a101)=Bool.true then Option.bind (qe fu (qa.mk (ByteArray.mk (List.toArray [65,49])) 5 30 [(1:Int),2] []) (qa.mk (ByteArray.mk (List.toArray [66,49])) 6 10 [(2:Int)] [ByteArray.mk (List.toArray [65,49])])) fun(a102:Bool)=>if a102=Bool.true then Option.bind (qe fu (qa.mk (ByteArray.mk (List.toArray [66,49])) 6 10 [(2:Int)] [ByteArray.mk (List.toArray [65,49])]) (qa.mk (ByteArray.mk (List.toArray [66,50])) 3 0 [] [])) fun(a103:Bool)=>some Bool.false else some Bool.false else some Bool.false else some Bool.false else some Bool.false else Option.bind (qd fu [qa.mk (ByteArray.mk (List.toArray [65,49])) 5 30 [(1:Int),2] [],qa.mk (ByteArray.mk (List.toArray [66,49])) 6 10 [(2:Int)] [ByteArray.mk (List.toArray [65,49])],qa.mk (ByteArray.mk (List.toArray [66,50])) 3 0 [] [],qa.mk (ByteArray.mk (List.toArray [67,49])) 10 200 [(40:Int)] [ByteArray.mk (List.toArray [66,49]),ByteArray.mk (List.toArray [66,50])]] (ByteArray.mk (List.toArray [66,49])) [ByteArray.mk (List.toArray [65,49])]) fun(a104:Bool)=>if a104=Bool.true then Option.bind (qd fu [qa.mk (ByteArray.mk (List.toArray [65,49])) 5 30 [(1:Int),2] [],qa.mk (ByteArray.mk (List.toArray [66,49])) 6 10 [(2:Int)] [ByteArray.mk (List.toArray [65,49])],qa.mk (ByteArray.mk (List.toArray [66,50])) 3 0 [] [],qa.mk (ByteArray.mk (List.toArray [67,49])) 10 200 [(40:Int)] [ByteArray.mk (List.toArray [66,49]),ByteArray.mk (List.toArray [66,50])]] (ByteArray.mk (List.toArray [67,49])) [ByteArray.mk (List.toArray [65,49]),ByteArray.mk (List.toArray [66,49])]) fun(a105:Bool)=>if(!a105)=Bool.true then Option.bind (qd fu [qa.mk (ByteArray.mk (List.toArray [65,49])) 5 30 [(1:Int),2] [],qa.mk (ByteArray.mk (List.toArray [66,49])) 6 10 [(2:Int)] [ByteArray.mk (List.toArray [65,49])],qa.mk (ByteArray.mk (List.toArray [66,50])) 3 0 [] [],qa.mk (ByteArray.mk (List.toArray [67,49])) 10 200 [(40:Int)] [ByteArray.mk (List.toArray [66,49]),ByteArray.mk (List.toArray [66,50])]] (ByteArray.mk (List.toArray [88])) []) fun(a106:Bool)=>if(!a106)=Bool.true then Option.bind (qe fu (qa.mk (ByteArray.mk (List.toArray [65,49])) 5 30 [(1:Int),2] []) (qa.mk (ByteArray.mk (List.toArray [66,49])) 6 10 [(2:Int)] [ByteArray.mk (List.toArray [65,49])])) fun(a107:Bool)=>if a107=Bool.true then Option.bind (qe fu (qa.mk (ByteArray.mk (List.toArray [66,49])) 6 10 [(2:Int)] [ByteArray.mk (List.toArray [65,49])]) (qa.mk (ByteArray.mk (List.toArray [66,50])) 3 0 [] [])) fun(a108:Bool)=>some Bool.false else some Bool.false else some Bool.false else some Bool.false else some Bool.false else Option.bind (qd fu [qa.mk (ByteArray.mk (List.toArray [65,49])) 5 30 [(1:Int),2] [],qa.mk (ByteArray.mk (List.toArray [66,49])) 6 10 [(2:Int)] [ByteArray.mk (List.toArray [65,49])],qa.mk (ByteArray.mk (List.toArray [66,50])) 3 0 [] [],qa.mk (ByteArray.mk (List.toArray [67,49])) 10 200 [(40:Int)] [ByteArray.mk (List.toArray [66,49]),ByteArray.mk (List.toArray [66,50])]] (ByteArray.mk (List.toArray [66,49])) [ByteArray.mk (List.toArray [65,49])]) fun(a109:Bool)=>if a109=Bool.true then Option.bind (qd fu [qa.mk (ByteArray.mk (List.toArray [65,49])) 5 30 [(1:Int),2] [],qa.mk (ByteArray.mk (List.toArray [66,49])) 6 10 [(2:Int)] [ByteArray.mk (List.toArray [65,49])],qa.mk (ByteArray.mk (List.toArray [66,50])) 3 0 [] [],qa.mk (ByteArray.mk (List.toArray [67,49])) 10 200 [(40:Int)] [ByteArray.mk (List.toArray [66,49]),ByteArray.mk (List.toArray [66,50])]] (ByteArray.mk (List.toArray [67,49])) [ByteArray.mk (List.toArray [65,49]),ByteArray.mk (List.toArray [66,49])]) fun(a110:Bool)=>if(!a110)=Bool.true then Option.bind (qd fu [qa.mk (ByteArray.mk (List.toArray [65,49])) 5 30 [(1:Int),2] [],qa.mk (ByteArray.mk (List.toArray [66,49])) 6 10 [(2:Int)] [ByteArray.mk (List.toArray [65,49])],qa.mk (ByteArray.mk (List.toArray [66,50])) 3 0 [] [],qa.mk (ByteArray.mk (List.toArray [67,49])) 10 200 [(40:Int)] [ByteArray.mk (List.toArray [66,49]),ByteArray.mk (List.toArray [66,50])]] (ByteArray.mk (List.toArray [88])) []) fun(a111:Bool)=>if(!a111)=Bool.true then Option.bind (qe fu (qa.mk (ByteArray.mk (List.toArray [65,49])) 5 30 [(1:Int),2] []) (qa.mk (ByteArray.mk (List.toArray [66,49])) 6 10 [(2:Int)] [ByteArray.mk (List.toArray [65,49])])) fun(a112:Bool)=>if a112=Bool.true then Option.bind (qe fu (qa.mk (ByteArray.mk (List.toArray [66,49])) 6 10 [(2:Int)] [ByteArray.mk (List.toArray [65,49])]) (qa.mk (ByteArray.mk (List.toArray [66,50])) 3 0 [] [])) fun(a113:Bool)=>some Bool.false else some Bool.false else some Bool.false else some Bool.false else some Bool.false
theorem q1j (fu:Nat):qf (ZZ fu ) (Qc ):=by
 unfold ZZ Qc
 repeat (first
  | with_reducible exact qf.refl _
  | with_reducible exact qf.none _
  | with_reducible apply J8
  | with_reducible apply q1g
  | with_reducible apply q0l
  | with_reducible apply q1l
  | with_reducible apply q29
  | with_reducible apply q1m
  | with_reducible apply Jt
  | with_reducible refine qf.bind ?_ (fun _=>?_)
  | with_reducible refine qf.ite ?_ ?_
  | with_reducible refine qf.sum (fun _=>?_) (fun _=>?_)
  | with_reducible refine qf.lim (fun _=>?_))
end Go.Proofs.Ytcdegieiflmaeaa.Vc

namespace Go.Proofs.Ytcdegieiflmaeaa.Vc
open Go.RowKit
set_option maxRecDepth 20000
set_option maxHeartbeats 8000000
theorem q0d:∀(b_Code:ByteArray) (b_Credits b_Places:Int) (a_Code:ByteArray) (a_Credits a_Places:Int) (a_Slots:List Int) (a_Needs:List ByteArray),ev 27 0 [R.agg [dS a_Code,dI a_Credits,dI a_Places,dL 1 eI a_Slots,dL 1 eS a_Needs],R.agg [dS b_Code,dI b_Credits,dI b_Places,C.d (D.sl 1 0 []),C.d (D.sl 1 0 [])]] []=(qb (qa.mk a_Code a_Credits a_Places a_Slots a_Needs) (qa.mk b_Code b_Credits b_Places [] [])).bind (fun(e:Bool)=>some (rB e,[])):=by
 intro b_Code b_Credits b_Places a_Code a_Credits a_Places a_Slots a_Needs;have h:=zE ((qa.mk a_Code a_Credits a_Places a_Slots a_Needs)).Code ((qa.mk a_Code a_Credits a_Places a_Slots a_Needs)).Credits ((qa.mk a_Code a_Credits a_Places a_Slots a_Needs)).Places ((qa.mk a_Code a_Credits a_Places a_Slots a_Needs)).Slots ((qa.mk a_Code a_Credits a_Places a_Slots a_Needs)).Needs ((qa.mk b_Code b_Credits b_Places [] [])).Code ((qa.mk b_Code b_Credits b_Places [] [])).Credits ((qa.mk b_Code b_Credits b_Places [] [])).Places ((qa.mk b_Code b_Credits b_Places [] [])).Slots ((qa.mk b_Code b_Credits b_Places [] [])).Needs
 first
  | exact h
  | (simp only[rL,dL,bR,bZ,Nat.reduceAdd] at h;exact h)
theorem q08:∀(a_Code:ByteArray) (a_Credits a_Places:Int) (a_Slots:List Int) (a_Needs:List ByteArray) (b_Code:ByteArray) (b_Credits b_Places b_Slots0:Int) (a_Slots_len:Nat),a_Slots_len=a_Slots.length→ev 27 0 [R.agg [dS a_Code,dI a_Credits,dI a_Places,C.d (D.sl 1 a_Slots_len (a_Slots.flatMap eI)),dL 1 eS a_Needs],R.agg [dS b_Code,dI b_Credits,dI b_Places,C.d (D.sl 1 1 [D.int .i64 b_Slots0]),C.d (D.sl 1 0 [])]] []=(qb (qa.mk a_Code a_Credits a_Places a_Slots a_Needs) (qa.mk b_Code b_Credits b_Places [b_Slots0] [])).bind (fun(e:Bool)=>some (rB e,[])):=by
 intro a_Code a_Credits a_Places a_Slots a_Needs b_Code b_Credits b_Places b_Slots0 a_Slots_len h0;subst h0;have h:=zE ((qa.mk a_Code a_Credits a_Places a_Slots a_Needs)).Code ((qa.mk a_Code a_Credits a_Places a_Slots a_Needs)).Credits ((qa.mk a_Code a_Credits a_Places a_Slots a_Needs)).Places ((qa.mk a_Code a_Credits a_Places a_Slots a_Needs)).Slots ((qa.mk a_Code a_Credits a_Places a_Slots a_Needs)).Needs ((qa.mk b_Code b_Credits b_Places [b_Slots0] [])).Code ((qa.mk b_Code b_Credits b_Places [b_Slots0] [])).Credits ((qa.mk b_Code b_Credits b_Places [b_Slots0] [])).Places ((qa.mk b_Code b_Credits b_Places [b_Slots0] [])).Slots ((qa.mk b_Code b_Credits b_Places [b_Slots0] [])).Needs
 first
  | exact h
  | (simp only[rL,dL,bR,bZ,Nat.reduceAdd] at h;exact h)
theorem q0h:∀(a_Code:ByteArray) (a_Credits a_Places:Int) (a_Slots:List Int) (a_Needs:List ByteArray) (b_Code:ByteArray) (b_Credits b_Places:Int) (b_Slots:List Int) (b_Needs:List ByteArray) (a_Slots_len:Nat),a_Slots_len=a_Slots.length→ev 27 0 [R.agg [dS a_Code,dI a_Credits,dI a_Places,C.d (D.sl 1 a_Slots_len (a_Slots.flatMap eI)),dL 1 eS a_Needs],R.agg [dS b_Code,dI b_Credits,dI b_Places,dL 1 eI b_Slots,dL 1 eS b_Needs]] []=(qb (qa.mk a_Code a_Credits a_Places a_Slots a_Needs) (qa.mk b_Code b_Credits b_Places b_Slots b_Needs)).bind (fun(e:Bool)=>some (rB e,[])):=by
 intro a_Code a_Credits a_Places a_Slots a_Needs b_Code b_Credits b_Places b_Slots b_Needs a_Slots_len h0;subst h0;have h:=zE ((qa.mk a_Code a_Credits a_Places a_Slots a_Needs)).Code ((qa.mk a_Code a_Credits a_Places a_Slots a_Needs)).Credits ((qa.mk a_Code a_Credits a_Places a_Slots a_Needs)).Places ((qa.mk a_Code a_Credits a_Places a_Slots a_Needs)).Slots ((qa.mk a_Code a_Credits a_Places a_Slots a_Needs)).Needs ((qa.mk b_Code b_Credits b_Places b_Slots b_Needs)).Code ((qa.mk b_Code b_Credits b_Places b_Slots b_Needs)).Credits ((qa.mk b_Code b_Credits b_Places b_Slots b_Needs)).Places ((qa.mk b_Code b_Credits b_Places b_Slots b_Needs)).Slots ((qa.mk b_Code b_Credits b_Places b_Slots b_Needs)).Needs
 first
  | exact h
  | (simp only[rL,dL,bR,bZ,Nat.reduceAdd] at h;exact h)
theorem lo7:okL 7 qcr:=zi (qg bd7) (by kernel_rfl) (by kernel_rfl)
def cx7:=JA_ @qcr.eq_1 (JA_ @Try.f7.eq_1 @bd7)
theorem qiw:okL 32 q5D:=zi (qg qfI) (by kernel_rfl) (by kernel_rfl)
def qhR:=JA_ @q5D.eq_1 (JA_ @Try.f32.eq_1 @qfI)
theorem qdO:lbO 32 3=q8G:=Zz (qg qfI) rfl
theorem qeR:okL 32 q8G:=QG qiw (List.mem_of_getElem? (i:=0) (by kernel_rfl))
noncomputable def za (b0_Code:ByteArray) (b0_Credits:Int) (b0_Places:Int) (o_Code:ByteArray) (o_Credits:Int) (o_Places:Int) (l:List Int):(List Int×Int)→Option ((List Int×Int)⊕(List Int))|(w2,k)=>if k<((l.length:Nat):Int) then if k<6 then if 0≤k∧k<((l.length:Nat):Int) then Option.bind l[Int.toNat k]? fun(a:Int)=>if w2.length+1≤Go.maxLen∧(w2.length+1)*8≤140737488355328 then some (Sum.inl (w2++[w64 (w64 (Int.tmod a 8)+1)],w64 (k+1))) else none else none else some (Sum.inr w2) else some (Sum.inr w2)
theorem q0z:∀(w2:List Int) (b0_Code:ByteArray) (b0_Credits b0_Places:Int) (o_Code:ByteArray) (o_Credits o_Places:Int) (l:List Int) (k:Int) (w2_len:Nat),w2_len=w2.length→XL2 evo 32 0 3 ⟨[(0,rL 1 eU8 l),(2,rP 0),(3,rP 1),(4,rI k)],[(0,B.blk 35 [dS b0_Code,dI b0_Credits,dI b0_Places,C.nils,C.nils]),(1,B.blk 35 [dS o_Code,dI o_Credits,dI o_Places,dO 2 1 w2_len,C.nils]),(2,bR 3 1 eI w2)],3,28⟩=(Z9 (za b0_Code b0_Credits b0_Places o_Code o_Credits o_Places l) (w2,k)).bind (fun(e:List Int)=>some (Go.Exit.exit 0,⟨[(2,rP 0),(3,rP 1)],[(0,B.blk 35 [dS b0_Code,dI b0_Credits,dI b0_Places,C.nils,C.nils]),(1,B.blk 35 [dS o_Code,dI o_Credits,dI o_Places,dO 2 1 e.length,C.nils]),(2,bR 3 1 eI e)],3,28⟩)):=
 by
 intro w2 b0_Code b0_Credits b0_Places o_Code o_Credits o_Places l k w2_len h0
 subst h0
 revert k;revert w2;exact qgY qdO qeR (fun e=>by exact⟨_,rfl,fun h=>by cases h⟩) fun w2 k=>by
  have:=qhR;have:=@q8G.eq_1;have:=@za.eq_1;exact gA
theorem Jz:∀  (b0_Code:ByteArray) (b0_Credits b0_Places:Int) (o_Code:ByteArray) (o_Credits o_Places:Int) (l:List Int) (k:Int),XL2 evo 32 0 3 ⟨[(0,rL 1 eU8 l),(2,rP 0),(3,rP 1),(4,rI k)],[(0,B.blk 35 [dS b0_Code,dI b0_Credits,dI b0_Places,C.nils,C.nils]),(1,B.blk 35 [dS o_Code,dI o_Credits,dI o_Places,dO 2 1 0,C.nils]),(2,B.row 3 1 [])],3,28⟩=(Z9 (za b0_Code b0_Credits b0_Places o_Code o_Credits o_Places l) ([],k)).bind (fun(e:List Int)=>some (Go.Exit.exit 0,⟨[(2,rP 0),(3,rP 1)],[(0,B.blk 35 [dS b0_Code,dI b0_Credits,dI b0_Places,C.nils,C.nils]),(1,B.blk 35 [dS o_Code,dI o_Credits,dI o_Places,dO 2 1 e.length,C.nils]),(2,bR 3 1 eI e)],3,28⟩)):=by
 intro b0_Code b0_Credits b0_Places o_Code o_Credits o_Places l k;have h:=q0z [] b0_Code b0_Credits b0_Places o_Code o_Credits o_Places l k _ rfl
 first
  | exact h
  | (simp only[rL,dL,bR,bZ,Nat.reduceAdd] at h;exact h)
noncomputable def Qu (l:List Int):Option qa:=Option.bind (Z9 (za (ByteArray.mk (List.toArray [])) 0 0 (ByteArray.mk (List.toArray [])) 0 0 l) ([],0)) fun(a:List Int)=>some (qa.mk (ByteArray.mk (List.toArray [])) 0 0 a [])
theorem q1M:∀(l:List Int),ev 32 0 [rL 1 eU8 l] []=(Qu l).bind (fun(e:qa)=>some (R.agg [dS e.Code,dI e.Credits,dI e.Places,dL 1 eI e.Slots,dL 1 eS e.Needs],[])):=
 fun l=>by
  rw[z8 qfI qig.2.2.2 qiw]
  have:=qhR;have:=@Jz;have:=@Qu.eq_1;exact gA
noncomputable def zH (x0:List Int) (x1:List Int) (x2:Int):Option Bool:=Option.bind Qc fun(a:Bool)=>Option.bind (Qu x0) fun(a2:qa)=>Option.bind (Qu x1) fun(a3:qa)=>if a2.Slots.length≤Go.maxLen∧a2.Slots.length*8≤140737488355328 then if a2.Slots.length+1≤Go.maxLen∧(a2.Slots.length+1)*8≤140737488355328 then Option.bind (qb a2 a3) fun(a4:Bool)=>if a=Bool.true then Option.bind (qb a3 a2) fun(a5:Bool)=>if(a4==a5)=Bool.true then Option.bind (qb a2 a2) fun(a6:Bool)=>if(a6==decide (0<((a2.Slots.length:Nat):Int)))=Bool.true then Option.bind (qb a2 (qa.mk (ByteArray.mk (List.toArray [])) 0 0 [] [])) fun(a7:Bool)=>if(!a7)=Bool.true then if(!a4)=Bool.true then Option.bind (qb (qa.mk a2.Code a2.Credits a2.Places (a2.Slots++[w64 (w64 (Int.tmod x2 8)+1)]) a2.Needs) (qa.mk (ByteArray.mk (List.toArray [])) 0 0 [w64 (w64 (Int.tmod x2 8)+1)] [])) fun(e0:Bool)=>some e0 else Option.bind (qb (qa.mk a2.Code a2.Credits a2.Places (a2.Slots++[w64 (w64 (Int.tmod x2 8)+1)]) a2.Needs) a3) fun(a8:Bool)=>if a8=Bool.true then Option.bind (qb (qa.mk a2.Code a2.Credits a2.Places (a2.Slots++[w64 (w64 (Int.tmod x2 8)+1)]) a2.Needs) (qa.mk (ByteArray.mk (List.toArray [])) 0 0 [w64 (w64 (Int.tmod x2 8)+1)] [])) fun(e02:Bool)=>some e02 else some Bool.false else some Bool.false else some Bool.false else some Bool.false else some Bool.false else none else none
theorem JD:∀(x0 x1:List Int) (x2:Int),ev 7 0 [rL 1 eU8 x0,rL 1 eU8 x1,R.c (C.d (D.int .u8 x2))] []=(zH x0 x1 x2).bind (fun(e:Bool)=>some (rB e,[])):=
 fun x0 x1 x2=>by
  rw[z8 bd7 pw7.2.2.2 lo7]
  have:=cx7;have:=@q1n;have:=@q1M;have:=@zE;have:=@q0d;have:=@q08;have:=@q0h;have:=@zH.eq_1;exact gA
end Go.Proofs.Ytcdegieiflmaeaa.Vc

namespace Go.Proofs.Ytcdegieiflmaeaa.Vc
open Go.RowKit
theorem q5k (l:List Int) (hl:l.length≤maxLen):∃w:List Int,w.length≤6∧Qu l=some ⟨ByteArray.mk (List.toArray []),0,0,w,[]⟩:=by
 have key:∀(n i:Nat) (w:List Int),n+i=6→w.length=i→i≤l.length→∃w':List Int,w'.length≤6∧Z9 (za (ByteArray.mk (List.toArray [])) (0:Int) (0:Int) (ByteArray.mk (List.toArray [])) (0:Int) (0:Int) l) (w,(i:Int))=some w':=by
  intro n
  induction n with
  | zero=>
   intro i w hi hw hil
   refine⟨w,by omega,q1Z ?_⟩
   unfold za
   by_cases h:(i:Int)<((l.length:Nat):Int)
   ·simp only[if_pos h];rw[if_neg (by omega)]
   ·simp only[if_neg h]
  | succ n ih=>
   intro i w hi hw hil
   by_cases h:(i:Int)<((l.length:Nat):Int)
   ·have hlt:i<l.length:=by omega
    have hs:za (ByteArray.mk (List.toArray [])) (0:Int) (0:Int) (ByteArray.mk (List.toArray [])) (0:Int) (0:Int) l (w,(i:Int))=some (.inl (w++[w64 (w64 (Int.tmod l[i] 8)+1)],((i+1:Nat):Int))):=by
     unfold za
     simp only[if_pos h]
     rw[if_pos (by omega),if_pos (by omega),Int.toNat_natCast,List.getElem?_eq_getElem hlt,Option.bind_some,if_pos (by unfold maxLen;omega),q3f hlt (by unfold maxLen at hl;omega)]
    rw[q63 hs]
    exact ih (i+1) _ (by omega) (by simp;omega) (by omega)
   ·refine⟨w,by omega,q1Z ?_⟩
    unfold za
    simp only[if_neg h]
 obtain⟨w,h1,h2⟩:=key 6 0 [] (by omega) rfl (by omega)
 refine⟨w,h1,?_⟩
 unfold Qu
 rw[show((0:Int))=((0:Nat):Int) from rfl] at *
 rw[h2];rfl
def com (X Y:List Int):Bool:=X.any fun x=>Y.any fun y=>x==y
theorem q0M {X Y:List Int}:com X Y=true↔∃x,x∈X∧x∈Y:=by
 unfold com
 rw[List.any_eq_true]
 constructor
 ·rintro⟨x,hx,h⟩
  obtain⟨y,hy,e⟩:=List.any_eq_true.1 h
  obtain rfl:x=y:=by simpa using e
  exact⟨x,hx,hy⟩
 ·rintro⟨x,hx,hy⟩
  exact⟨x,hx,List.any_eq_true.2 ⟨x,hy,by simp⟩⟩
theorem qbF (X Y:List Int):com X Y=com Y X:=by
 rw[Bool.eq_iff_iff,q0M,q0M]
 exact⟨fun⟨x,h1,h2⟩=>⟨x,h2,h1⟩,fun⟨x,h1,h2⟩=>⟨x,h2,h1⟩⟩
theorem q9r (X:List Int):com X X=decide ((0:Int)<((X.length:Nat):Int)):=by
 rw[Bool.eq_iff_iff,q0M,decide_eq_true_eq]
 cases X with
 | nil=>simp
 | cons x X=>exact⟨fun _=>by simp only[List.length_cons];omega,fun _=>⟨x,List.mem_cons_self,List.mem_cons_self⟩⟩
theorem qbl (X:List Int):com X []=false:=by
 cases h:com X [] with
 | false=>rfl
 | true=>obtain⟨x,-,h2⟩:=q0M.1 h;cases h2
theorem qak {X Y:List Int} {m:Int} (h:com X Y=true):com (X++[m]) Y=true:=by
 obtain⟨x,h1,h2⟩:=q0M.1 h
 exact q0M.2 ⟨x,List.mem_append_left _ h1,h2⟩
theorem q9E (X:List Int) (m:Int):com (X++[m]) [m]=true:=q0M.2 ⟨m,List.mem_append_right _ (List.mem_singleton.2 rfl),List.mem_singleton.2 rfl⟩
theorem Ja {a b:qa} (ha:a.Slots.length≤1000000) (hb:b.Slots.length≤1000000):qb a b=some (com a.Slots b.Slots):=q9h ha hb
end Go.Proofs.Ytcdegieiflmaeaa.Vc
namespace Go.Proofs.Ytcdegieiflmaeaa.Vc
open Go.RowKit
set_option maxRecDepth 100000 in
theorem q4s:Qc=some true:=by
 have h:ZZ 40=some true:=by kernel_rfl
 exact q1j 40 _ h
end Go.Proofs.Ytcdegieiflmaeaa.Vc
namespace Go.Proofs.Ytcdegieiflmaeaa.Vc
open Go.RowKit
set_option maxRecDepth 100000
theorem q6G {X:Type} {E:X→List D} {W:X→Prop} {sz:Nat} (hz:0<sz):∀(m:Nat) (es:List D),es.length=m*sz→(∀i,i<m→∃x,(es.drop (i*sz)).take sz=E x∧W x)→∃l:List X,es=l.flatMap E∧l.length=m∧∀x∈l,W x
 | 0,es,hl,_=>⟨[],by rw[Nat.zero_mul] at hl;exact List.eq_nil_of_length_eq_zero hl,rfl,by simp⟩
 | m+1,es,hl,h=>by
  obtain⟨x,hx,wx⟩:=h 0 (by omega)
  obtain⟨l,g1,g2,g3⟩:=q6G hz m (es.drop sz) (by rw[List.length_drop,hl,Nat.add_mul];omega) fun i hi=>by
   obtain⟨y,hy,wy⟩:=h (i+1) (by omega)
   refine⟨y,?_,wy⟩
   rw[List.drop_drop,show sz+i*sz=(i+1)*sz by rw[Nat.add_mul,Nat.one_mul,Nat.add_comm]];exact hy
  refine⟨x::l,?_,by simp[g2],fun y hy=>?_⟩
  ·rw[Nat.zero_mul,List.drop_zero] at hx
   rw[List.flatMap_cons,←g1,←hx,List.take_append_drop]
  ·rcases List.mem_cons.1 hy with rfl|hy
   ·exact wx
   ·exact g3 y hy
abbrev qfZ:List TypeId:=[52,5,22,3]
theorem q80:qir Try.prog qfZ=true:=by kernel_rfl
theorem ty5:∀(n:Nat) (ds:List D),q1J Try.prog n 5 ds→∃v:Int,ds=[D.int .u8 v]∧(Lit.int .u8 v).wf=true:=by
 intro n ds h
 cases n with
 | zero=>exact h.elim
 | succ n=>
  unfold q1J at h
  rw[Try.underlying5] at h
  obtain⟨z,h1,h2⟩:=h
  exact⟨z,h1,h2⟩
theorem cz5:Try.prog.cellsOf 5=1:=by kernel_rfl
theorem ty52:∀(n:Nat) (ds:List D),q1J Try.prog n 52 ds→∃v:List Int,ds=[D.sl 1 v.length (v.flatMap eU8)]∧(v.length≤maxLen∧∀y∈v,(Lit.int .u8 y).wf=true):=by
 intro n ds h
 cases n with
 | zero=>exact h.elim
 | succ n=>
  unfold q1J at h
  rw[Try.underlying52] at h
  obtain⟨m,es,h1,h2,h3,h4⟩:=h
  rw[cz5] at h1 h3 h4
  obtain⟨l,g1,g2,g3⟩:=q6G (E:=eU8) (W:=fun y=>(Lit.int .u8 y).wf=true) (sz:=1) (by decide) m es h3 fun i hi=>by
   obtain⟨v,q1,q2⟩:=ty5 n _ (h4 i hi)
   exact⟨v,q1.trans (rfl),q2⟩
  refine⟨l,?_,by omega,g3⟩
  rw[h1,g1,g2]
end Go.Proofs.Ytcdegieiflmaeaa.Vc
namespace Go.Proofs.Ytcdegieiflmaeaa.Vc
open Go.RowKit
theorem q1K (x0 x1:List Int) (x2:Int) (h0:x0.length≤maxLen) (h1:x1.length≤maxLen):zH x0 x1 x2=some true:=by
 obtain⟨X,hX,ho0⟩:=q5k x0 h0
 obtain⟨Y,hY,ho1⟩:=q5k x1 h1
 unfold zH
 generalize hm:w64 (w64 (Int.tmod x2 (8:Int))+(1:Int))=m
 rw[q4s,Option.bind_some,ho0,Option.bind_some,ho1,Option.bind_some]
 dsimp only
 rw[if_pos (by unfold maxLen;omega),if_pos (by unfold maxLen;omega),Ja (by dsimp only;omega) (by dsimp only;omega),Option.bind_some,if_pos rfl,
  Ja (by dsimp only;omega) (by dsimp only;omega),Option.bind_some]
 dsimp only
 rw[qbF Y X,if_pos (by simp),Ja (by dsimp only;omega) (by dsimp only;omega),Option.bind_some]
 dsimp only
 rw[q9r X,if_pos (by simp),Ja (by dsimp only;omega) (by decide),Option.bind_some]
 dsimp only
 rw[qbl,if_pos (by decide)]
 have hlast:qb (qa.mk (ByteArray.mk (List.toArray [])) 0 0 (X++[m]) []) (qa.mk (ByteArray.mk (List.toArray [])) 0 0 [m] [])=some true:=by
  rw[Ja (by simp;omega) (by simp),q9E]
 rw[hlast]
 cases hc:com X Y with
 | false=>rfl
 | true=>
  rw[if_neg (by decide),Ja (by simp;omega) (by dsimp only;omega),Option.bind_some]
  dsimp only
  rw[qak hc,if_pos rfl];rfl
theorem q2s (x0:List Int) (w0:x0.length≤maxLen∧∀y∈x0,(Lit.int .u8 y).wf=true) (x1:List Int) (w1:x1.length≤maxLen∧∀y∈x1,(Lit.int .u8 y).wf=true) (x2:Int) (_w2:(Lit.int .u8 x2).wf=true):zH x0 x1 x2=some true:=
 q1K x0 x1 x2 w0.1 w1.1
end Go.Proofs.Ytcdegieiflmaeaa.Vc
namespace Go.Proofs.Ytcdegieiflmaeaa
open Go.ChangeShapes Go.WideShapes Go.ChangeAt Go.RowKit Go.ChangeMaps
theorem own:ownKnob Try.prog.godebug=none:=by kernel_rfl
theorem qcS:laidOutB Try.prog=true:=by kernel_rfl
section
variable {H:Type} {enc:TypeId×Value→H} {P:Program} {W W':World}
theorem q3Z (hl:laidOutB P=true) (hb:Below W.heap.size W W'):∀{ts:List TypeId} {vs:List Value} {ds:List (DataW H)} {ps:List MemPlace},(∀t∈ts,P.readableRec t=true∧t<P.types.size)→
  DataW.TrodAll enc P W 0 (fun _=>true) true ts vs ds ps→(∀p∈ps,p.block<W.heap.size)→DataW.TrodAll enc P W' 0 (fun b=>decide (b<W.heap.size)) true ts vs ds ps
 | [],_,_,_,_,h,_=>by
  obtain⟨rfl,rfl,rfl⟩:=trodAll_nil h
  exact trodAll_mk0
 | t::ts,_,_,_,ht,h,hlt=>by
  obtain⟨v,vs,d,ds,p,q,rfl,rfl,rfl,h1,h2⟩:=trodAll_cons h
  exact trodAll_cons_mk (Below.trod hl (ht t List.mem_cons_self).1 (ht t List.mem_cons_self).2 h1 hb (fun x hx=>hlt x (List.mem_append_left _ hx)))
   (q3Z hl hb (fun u hu=>ht u (List.mem_cons_of_mem _ hu)) h2 (fun x hx=>hlt x (List.mem_append_right _ hx)))
theorem q9F {f:Func} {s:ChangeSpec} {apart fresh handsOn:Bool} {args:Array Value} {ds gs:List (DataW H)} {before:List MemPlace} {tb:TypeId} (hl:laidOutB P=true)
  (hts:∀t∈f.params.toList,P.readableRec t=true∧t<P.types.size) (hr:f.resultTypes=#[tb]) (htb:P.underlying tb=some .bool) (hv:s.vars=[])
  (h1:(s.fn H (ds++gs)).results=[.lit (.bool true)]) (h2:(s.fn H (ds++gs)).args=ds) (h3:(s.fn H (ds++gs)).vars=[])
  (hW:DataW.Whole enc P f.params.toList s.vars apart W args.toList ds gs before) (hb:Below W.heap.size W W') :
  s.post enc P f apart fresh handsOn false W args (.bool true) W':=by
 have hlt:∀p∈before,p.block<W.heap.size:=fun p hp=>hW.lt p hp
 have hW2:=hW
 obtain⟨pa,pv,hA,hV,hp,-,-⟩:=hW2
 rw[hv] at hV
 obtain⟨rfl,rfl⟩:=trodVars_none hV
 rw[List.append_nil] at hp
 subst hp
 refine⟨ds,[],before,[],before,[],hW,?_,?_,?_,?_,fun h=>by cases h⟩
 ·rw[h1,hr]
  exact trodAll_mk1 (shut_bool htb true)
 ·rw[h2]
  exact q3Z hl hb hts hA hlt
 ·rw[h3,hv]
  exact hV
 ·exact World.keptBut_mono (fun p hp=>⟨hp,.inr (.inl hp)⟩) (hb.frame (·∈before))
end
end Go.Proofs.Ytcdegieiflmaeaa
