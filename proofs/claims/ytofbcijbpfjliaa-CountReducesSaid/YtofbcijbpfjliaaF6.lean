/- Part 6 of a proof. -/
import Derived.Test.YtofbcijbpfjliaaF5
import Derived.Test.YtofbcijbpfjliaaRows
import Derived.ChangeSlices
import Derived.OpenShut
import Derived.Carry
import Derived.ChangeSame
import Derived.ChangeMaps5
import Derived.WideShapes
import Derived.ProofKit
import Derived.Deep.DeepHandedRow
import Derived.Lib.LaidTab
import Derived.Stop.LaidErr
set_option linter.unusedVariables false
set_option linter.unusedSimpArgs false
set_option linter.defProp false
set_option linter.unusedSectionVars false
set_option linter.unnecessarySimpa false
namespace Go.Proofs.Ytofbcijbpfjliaa.Vc
noncomputable section
open Go.RowKit
set_option maxRecDepth 100000
theorem q0m {α:Type} (ds:List α) (o s:Nat):ds.drop o=(ds.drop o).take s++ds.drop (o+s):=by
 rw[←qyu];exact(qyv s _).symm
theorem q8L {X:Type} {E:X→List D} {W:X→Prop} {sz:Nat} (hz:0<sz):∀(m:Nat) (es:List D),es.length=m*sz→(∀i,i<m→∃x,(es.drop (i*sz)).take sz=E x∧W x)→∃l:List X,es=l.flatMap E∧l.length=m∧∀x∈l,W x
 | 0,es,hl,_=>⟨[],by rw[Nat.zero_mul] at hl;exact qy0 hl,rfl,by simp⟩
 | m+1,es,hl,h=>by
  obtain⟨x,hx,wx⟩:=h 0 (by omega)
  obtain⟨l,g1,g2,g3⟩:=q8L hz m (es.drop sz) (by rw[qyt,hl,Nat.add_mul];omega) fun i hi=>by
   obtain⟨y,hy,wy⟩:=h (i+1) (by omega)
   refine⟨y,?_,wy⟩
   rw[qyu,show sz+i*sz=(i+1)*sz by rw[Nat.add_mul,Nat.one_mul,Nat.add_comm]];exact hy
  refine⟨x::l,?_,by simp[g2],fun y hy=>?_⟩
  ·rw[Nat.zero_mul,List.drop_zero] at hx
   rw[qyL,←g1,←hx,qyv]
  ·rcases qy3.1 hy with rfl|hy
   ·exact wx
   ·exact g3 y hy
abbrev qta:List TypeId:=[28,22,25,3,24,23,26,5,30]
theorem qh8:qv1 Try.prog qta=true:=by kernel_rfl
theorem ty3:∀(n:Nat) (ds:List D),QO Try.prog n 3 ds→∃v:Int,ds=[D.int .i64 v]∧(Lit.int .i64 v).wf=true:=by
 intro n ds h
 cases n with
 | zero=>exact h.elim
 | succ n=>
  unfold QO at h
  rw[Try.underlying3] at h
  obtain⟨z,h1,h2⟩:=h
  exact⟨z,h1,h2⟩
theorem cz3:Try.prog.cellsOf 3=1:=by kernel_rfl
theorem quB:∀(n:Nat) (ds:List D),QO Try.prog n 25 ds→∃v:List Int,ds=[D.sl 1 v.length (v.flatMap eI)]∧(v.length≤maxLen∧∀y∈v,(Lit.int .i64 y).wf=true):=by
 intro n ds h
 cases n with
 | zero=>exact h.elim
 | succ n=>
  unfold QO at h
  rw[Try.underlying25] at h
  obtain⟨m,es,h1,h2,h3,h4⟩:=h
  rw[cz3] at h1 h3 h4
  obtain⟨l,g1,g2,g3⟩:=q8L (E:=eI) (W:=fun y=>(Lit.int .i64 y).wf=true) (sz:=1) (by decide) m es h3 fun i hi=>by
   obtain⟨v,q1,q2⟩:=ty3 n _ (h4 i hi)
   exact⟨v,q1.trans (rfl),q2⟩
  refine⟨l,?_,by omega,g3⟩
  rw[h1,g1,g2]
theorem qv6:Try.prog.cellsOf 25=1:=by kernel_rfl
theorem qxs:∀(n:Nat) (ds:List D),QO Try.prog n 22 ds→∃v:List (List Int),ds=[D.sl 1 v.length (v.flatMap (eL 1 eI))]∧(v.length≤maxLen∧∀y∈v,(y.length≤maxLen∧∀yy∈y,(Lit.int .i64 yy).wf=true)):=by
 intro n ds h
 cases n with
 | zero=>exact h.elim
 | succ n=>
  unfold QO at h
  rw[Try.underlying22] at h
  obtain⟨m,es,h1,h2,h3,h4⟩:=h
  rw[qv6] at h1 h3 h4
  obtain⟨l,g1,g2,g3⟩:=q8L (E:=(eL 1 eI)) (W:=fun y=>(y.length≤maxLen∧∀yy∈y,(Lit.int .i64 yy).wf=true)) (sz:=1) (by decide) m es h3 fun i hi=>by
   obtain⟨v,q1,q2⟩:=quB n _ (h4 i hi)
   exact⟨v,q1.trans (rfl),q2⟩
  refine⟨l,?_,by omega,g3⟩
  rw[h1,g1,g2]
theorem qpM:Try.prog.cellsOf 23=3:=by kernel_rfl
theorem quK:∀(n:Nat) (ds:List D),QO Try.prog n 23 ds→∃v:qhC Int,ds=[D.int .i64 v.a0,D.int .i64 v.a1,D.int .i64 v.a2]∧((Lit.int .i64 v.a0).wf=true∧(Lit.int .i64 v.a1).wf=true∧(Lit.int .i64 v.a2).wf=true):=by
 intro n ds h
 cases n with
 | zero=>exact h.elim
 | succ n=>
  unfold QO at h
  rw[Try.underlying23] at h
  obtain⟨hl,hf⟩:=h
  rw[qpM] at hl
  have h0:QO Try.prog n 3 ((ds.drop 0).take (Try.prog.cellsOf 3)):=by
   have:=hf 0 (by decide)
   rwa [cz3] at this ⊢
  rw[cz3] at h0
  obtain⟨v0,e0,w0⟩:=ty3 _ _ h0
  have c0:=q0m ds 0 1
  rw[e0] at c0
  have h1:QO Try.prog n 3 ((ds.drop 1).take (Try.prog.cellsOf 3)):=by
   have:=hf 1 (by decide)
   rwa [cz3] at this ⊢
  rw[cz3] at h1
  obtain⟨v1,e1,w1⟩:=ty3 _ _ h1
  have c1:=q0m ds 1 1
  rw[e1] at c1
  have h2:QO Try.prog n 3 ((ds.drop 2).take (Try.prog.cellsOf 3)):=by
   have:=hf 2 (by decide)
   rwa [cz3] at this ⊢
  rw[cz3] at h2
  obtain⟨v2,e2,w2⟩:=ty3 _ _ h2
  have c2:=q0m ds 2 1
  rw[e2] at c2
  have cl:ds.drop 3=[]:=qyn (by omega)
  refine⟨⟨v0,v1,v2⟩,?_,⟨w0,w1,w2⟩⟩
  have c:ds.drop 0=_:=c0
  simp only[Nat.reduceAdd] at c0 c1 c2 c
  rw[c1,c2,cl] at c
  exact c
theorem qtx:Try.prog.cellsOf 24=6:=by kernel_rfl
theorem qvR:∀(n:Nat) (ds:List D),QO Try.prog n 24 ds→∃v:Qy (qhC Int),ds=[D.int .i64 v.a0.a0,D.int .i64 v.a0.a1,D.int .i64 v.a0.a2,D.int .i64 v.a1.a0,D.int .i64 v.a1.a1,D.int .i64 v.a1.a2]∧(((Lit.int .i64 v.a0.a0).wf=true∧(Lit.int .i64 v.a0.a1).wf=true∧(Lit.int .i64 v.a0.a2).wf=true)∧((Lit.int .i64 v.a1.a0).wf=true∧(Lit.int .i64 v.a1.a1).wf=true∧(Lit.int .i64 v.a1.a2).wf=true)):=by
 intro n ds h
 cases n with
 | zero=>exact h.elim
 | succ n=>
  unfold QO at h
  rw[Try.underlying24] at h
  obtain⟨hl,hf⟩:=h
  rw[qtx] at hl
  have h0:QO Try.prog n 23 ((ds.drop 0).take (Try.prog.cellsOf 23)):=by
   have:=hf 0 (by decide)
   rwa [qpM] at this ⊢
  rw[qpM] at h0
  obtain⟨v0,e0,w0⟩:=quK _ _ h0
  have c0:=q0m ds 0 3
  rw[e0] at c0
  have h1:QO Try.prog n 23 ((ds.drop 3).take (Try.prog.cellsOf 23)):=by
   have:=hf 1 (by decide)
   rwa [qpM] at this ⊢
  rw[qpM] at h1
  obtain⟨v1,e1,w1⟩:=quK _ _ h1
  have c1:=q0m ds 3 3
  rw[e1] at c1
  have cl:ds.drop 6=[]:=qyn (by omega)
  refine⟨⟨v0,v1⟩,?_,⟨w0,w1⟩⟩
  have c:ds.drop 0=_:=c0
  simp only[Nat.reduceAdd] at c0 c1 c
  rw[c1,cl] at c
  exact c
theorem qvD:∀(n:Nat) (ds:List D),QO Try.prog n 26 ds→∃v:Int,ds=[D.int .u16 v]∧(Lit.int .u16 v).wf=true:=by
 intro n ds h
 cases n with
 | zero=>exact h.elim
 | succ n=>
  unfold QO at h
  rw[Try.underlying26] at h
  obtain⟨z,h1,h2⟩:=h
  exact⟨z,h1,h2⟩
theorem qwB:Try.prog.cellsOf 22=1:=by kernel_rfl
theorem qxy:Try.prog.cellsOf 26=1:=by kernel_rfl
theorem qwX:Try.prog.cellsOf 28=9:=by kernel_rfl
def q1b (x:QE):Prop:=(x.Has.length≤maxLen∧∀y∈x.Has,(y.length≤maxLen∧∀yy∈y,(Lit.int .i64 yy).wf=true))∧(((Lit.int .i64 x.Odd.a0.a0).wf=true∧(Lit.int .i64 x.Odd.a0.a1).wf=true∧(Lit.int .i64 x.Odd.a0.a2).wf=true)∧((Lit.int .i64 x.Odd.a1.a0).wf=true∧(Lit.int .i64 x.Odd.a1.a1).wf=true∧(Lit.int .i64 x.Odd.a1.a2).wf=true))∧(x.Programme.length≤maxLen∧∀y∈x.Programme,(Lit.int .i64 y).wf=true)∧(Lit.int .u16 x.Day).wf=true
theorem ty28:∀(n:Nat) (ds:List D),QO Try.prog n 28 ds→∃v:QE,ds=[D.sl 1 v.Has.length (v.Has.flatMap (eL 1 eI)),D.int .i64 v.Odd.a0.a0,D.int .i64 v.Odd.a0.a1,D.int .i64 v.Odd.a0.a2,D.int .i64 v.Odd.a1.a0,D.int .i64 v.Odd.a1.a1,D.int .i64 v.Odd.a1.a2,D.sl 1 v.Programme.length (v.Programme.flatMap eI),D.int .u16 v.Day]∧q1b v:=by
 intro n ds h
 cases n with
 | zero=>exact h.elim
 | succ n=>
  unfold QO at h
  rw[Try.underlying28] at h
  obtain⟨hl,hf⟩:=h
  rw[qwX] at hl
  have h0:QO Try.prog n 22 ((ds.drop 0).take (Try.prog.cellsOf 22)):=hf _ (qxI (i:=0) rfl)
  rw[qwB] at h0
  obtain⟨v0,e0,w0⟩:=qxs _ _ h0
  have c0:=q0m ds 0 1
  rw[e0] at c0
  have h1:QO Try.prog n 24 ((ds.drop 1).take (Try.prog.cellsOf 24)):=hf _ (qxI (i:=1) rfl)
  rw[qtx] at h1
  obtain⟨v1,e1,w1⟩:=qvR _ _ h1
  have c1:=q0m ds 1 6
  rw[e1] at c1
  have h2:QO Try.prog n 25 ((ds.drop 7).take (Try.prog.cellsOf 25)):=hf _ (qxI (i:=2) rfl)
  rw[qv6] at h2
  obtain⟨v2,e2,w2⟩:=quB _ _ h2
  have c2:=q0m ds 7 1
  rw[e2] at c2
  have h3:QO Try.prog n 26 ((ds.drop 8).take (Try.prog.cellsOf 26)):=hf _ (qxI (i:=3) rfl)
  rw[qxy] at h3
  obtain⟨v3,e3,w3⟩:=qvD _ _ h3
  have c3:=q0m ds 8 1
  rw[e3] at c3
  have cl:ds.drop 9=[]:=qyn (by omega)
  refine⟨⟨v0,v1,v2,v3⟩,?_,⟨w0,w1,w2,w3⟩⟩
  have c:ds.drop 0=_:=c0
  simp only[Nat.reduceAdd] at c0 c1 c2 c3 c
  rw[c1,c2,c3,cl] at c
  exact c
theorem qvS:Try.prog.cellsOf 30=3:=by kernel_rfl
def q4O (x:qe):Prop:=(Lit.int .i64 x.Worst).wf=true∧(Lit.int .i64 x.Best).wf=true∧(Lit.int .i64 x.Pass).wf=true
theorem ty30:∀(n:Nat) (ds:List D),QO Try.prog n 30 ds→∃v:qe,ds=[D.int .i64 v.Worst,D.int .i64 v.Best,D.int .i64 v.Pass]∧q4O v:=by
 intro n ds h
 cases n with
 | zero=>exact h.elim
 | succ n=>
  unfold QO at h
  rw[Try.underlying30] at h
  obtain⟨hl,hf⟩:=h
  rw[qvS] at hl
  have h0:QO Try.prog n 3 ((ds.drop 0).take (Try.prog.cellsOf 3)):=hf _ (qxI (i:=0) rfl)
  rw[cz3] at h0
  obtain⟨v0,e0,w0⟩:=ty3 _ _ h0
  have c0:=q0m ds 0 1
  rw[e0] at c0
  have h1:QO Try.prog n 3 ((ds.drop 1).take (Try.prog.cellsOf 3)):=hf _ (qxI (i:=1) rfl)
  rw[cz3] at h1
  obtain⟨v1,e1,w1⟩:=ty3 _ _ h1
  have c1:=q0m ds 1 1
  rw[e1] at c1
  have h2:QO Try.prog n 3 ((ds.drop 2).take (Try.prog.cellsOf 3)):=hf _ (qxI (i:=2) rfl)
  rw[cz3] at h2
  obtain⟨v2,e2,w2⟩:=ty3 _ _ h2
  have c2:=q0m ds 2 1
  rw[e2] at c2
  have cl:ds.drop 3=[]:=qyn (by omega)
  refine⟨⟨v0,v1,v2⟩,?_,⟨w0,w1,w2⟩⟩
  have c:ds.drop 0=_:=c0
  simp only[Nat.reduceAdd] at c0 c1 c2 c
  rw[c1,c2,cl] at c
  exact c
end
noncomputable section
open Go.RowKit
theorem qmX {c:QE} (w:q1b c):(∀q∈c.Has,q.length≤9223372036854775807)∧c.Has.length≤9223372036854775807∧c.Programme.length≤9223372036854775807:=by
 have hm:maxLen≤9223372036854775807:=by unfold maxLen;omega
 obtain⟨⟨h1,h2⟩,-,⟨h3,-⟩,-⟩:=w
 exact⟨fun q hq=>qyi (h2 q hq).1 hm,qyi h1 hm,qyi h3 hm⟩
end
noncomputable section
open Go.RowKit
theorem q8c {a:qa} (h:z8 a):ZL a a=some true:=by
 have h1:=h.1;have h2:=h.2
 unfold ZL
 rw[q44 _ _ (by omega),qxH,q44 _ _ (by omega),qxH,qyH rfl,qyH rfl,if_pos rfl,if_pos rfl,if_pos ⟨by simp,by simp⟩,if_pos (by simp),if_pos (by simp),if_pos (by simp)]
 simp
theorem q3q (l:List qa) (hl:l.length≤1000) (hf:∀a∈l,z8 a):Qt l l=some true:=by
 have h:=q2t (step:=zX l l) l (fun _=>true) (Sum.inl ()) (Sum.inr ()) (fun i a ha=>by
  have hi:=Qb ha
  unfold zX
  rw[if_pos (by omega),if_pos ⟨by omega,by omega⟩,qxK,ha,qxH,if_pos ⟨by omega,by omega⟩,qxH,q8c (hf a (qxI ha)),qxH,if_neg (by decide),Qe hi (by omega)];rfl) (by
  unfold zX
  rw[if_neg (by omega)])
 unfold Qt
 rw[if_neg (by simp),h,qxH,if_pos (by simp)]
 rfl
structure qeO (l:List qa):Prop where
 len:l.length≤100
 fit:∀a∈l,z8 a
 day:∀a∈l,0≤a.Day∧a.Day≤100000
theorem qeO.app {l m:List qa} (h:qeO l) (h2:qeO m) (hl:(l++m).length≤100):qeO (l++m):=⟨hl,fun a ha=>(qyb.1 ha).elim (h.fit a) (h2.fit a),fun a ha=>(qyb.1 ha).elim (h.day a) (h2.day a)⟩
theorem q7C (w2:List qe) (w3:List (List qa)) (hw:∀x∈w3,qeO x) (h2:w3.length=2) (p:qd) (s:qe) (t5:Bool) (t6:List qa) (day:Int) (h0:0≤day) (h1:day≤100000) (t9:List qa) (t38 t39:Int):qz (qA w2 w3 p s t5 t6 day t9 t38 t39 2) (0:Int)=some (.inr ()):=by
 have h:=q2t (step:=qA w2 w3 p s t5 t6 day t9 t38 t39 2) w3 (fun _=>true) (Sum.inl ()) (Sum.inr ()) (fun i x hx=>by
  have hi:=Qb hx
  have hx':=hw x (qxI hx)
  have hxl:=hx'.len
  unfold qA
  rw[if_pos (by omega),if_pos ⟨by omega,by omega⟩,qxK,hx,qxH,qcj x p s day (by omega) hx'.fit,qxH,qaV x p s day h0 h1 (by omega) hx'.fit hx'.day,qxH,if_neg (by simp)]
  have hs:Qt (if 10<(q2C p s x day).length then(([]:List qa),(2:Int)) else(q2C p s x day,0)).1 (if 10<(q2C p s x day).length then(([]:List qa),(2:Int)) else(q2C p s x day,0)).1=some true:=by
   split
   ·exact q3q [] (by simp) (by simp)
   ·exact q3q _ (qyi (Qk p s x day) (by omega)) fun a ha=>hx'.fit a (qfu ha).1
  rw[hs,qxH,if_neg (by decide),Qe hi (by omega)];rfl) (by
  unfold qA
  rw[if_neg (by omega)])
 rw[h,if_pos (by simp)]
theorem q7H (w2:List qe) (p:qd) (s:qe) (t5:Bool) (l:List qa) (hl:qeO l) (day:Int) (t9:List qa) (t38 t39:Int):qz (qE w2 p s t5 l day t9 t38 t39 l ((l.length:Nat):Int)) (0:Int)=some (.inr ()):=by
 have hll:=hl.len
 have inner:∀a∈l,∀t79,qz (qP w2 p s a t5 l day t9 t38 t39 l ((l.length:Nat):Int) t79 l ((l.length:Nat):Int)) (0:Int)=some (.inr ()):=fun a ham t79=>by
  have h:=q2t (step:=qP w2 p s a t5 l day t9 t38 t39 l ((l.length:Nat):Int) t79 l ((l.length:Nat):Int)) l (fun _=>true) (Sum.inl ()) (Sum.inr ()) (fun i b hb=>by
   have hi:=Qb hb
   unfold qP
   rw[if_pos (by omega),if_pos ⟨by omega,by omega⟩,qxK,hb,qxH,q73 s (hl.fit a ham),qxH,q5G s (hl.fit a ham),qxH,if_neg (by simp),Qe hi (by omega)];rfl) (by
   unfold qP
   rw[if_neg (by omega)])
  rw[h,if_pos (by simp)]
 have h:=q2t (step:=qE w2 p s t5 l day t9 t38 t39 l ((l.length:Nat):Int)) l (fun _=>true) (Sum.inl ()) (Sum.inr ()) (fun i a ha=>by
  have hi:=Qb ha
  unfold qE
  rw[if_pos (by omega),if_pos ⟨by omega,by omega⟩,qxK,ha,qxH,inner a (qxI ha),qxH,Qe hi (by omega)];rfl) (by
  unfold qE
  rw[if_neg (by omega)])
 rw[h,if_pos (by simp)]
theorem q59 (w2:List qe) (h3:w2.length=3) (p:qd) (l:List qa) (hl:qeO l) (h2l:qeO (l++l)) (day:Int) (h0:0≤day) (h1:day≤100000) (t5:Bool):∀(j i:Nat),j+i=3→qz (qK w2 p t5 l day (l++l) 3) (i:Int)=some (.inr ())
 | 0,i,hi=>by
  refine qY ?_
  unfold qK
  rw[if_neg (by omega)]
 | j+1,i,hi=>by
  have hs:w2[i]?=some w2[i]:=qxJ (by omega)
  have e:qK w2 p t5 l day (l++l) 3 (i:Int)=some (.inl ((i+1:Nat):Int)):=by
   unfold qK
   rw[if_pos (by omega),if_pos ⟨by omega,by omega⟩,qxK,hs,qxH,q7C w2 [l,l++l] (by simp[hl,h2l]) rfl p _ t5 l day h0 h1,qxH,Sum.elim_inr,q7H w2 p _ t5 l hl,qxH,Sum.elim_inr,Qe (n:=3) (by omega) (by omega)]
  rw[zZ e]
  exact q59 w2 h3 p l hl h2l day h0 h1 t5 j (i+1) (by omega)
theorem q2J (c:QE) (x:qe) (hq:∀q∈c.Has,q.length≤9223372036854775807) (ht:c.Has.length≤9223372036854775807) (hp:c.Programme.length≤9223372036854775807) (hd:0≤c.Day∧c.Day≤65535):Q5 c x=some true:=by
 have hML:100000≤maxLen:=by unfold maxLen;omega
 obtain⟨l,p,d,e,l8,hs,hde⟩:=qai c hq ht hp
 have hl:qeO l:=⟨by omega,fun a ha=>(hs a ha).fit (by omega),fun a ha=>by have:=(hs a ha).day;omega⟩
 have h2l:qeO (l++l):=hl.app hl (by rw[qxO];omega)
 have hd0:0≤d:=by rw[hde,zH (by omega) (by omega)];exact Int.tmod_nonneg _ hd.1
 have hd1:d<800:=by rw[hde];exact Int.tmod_lt_of_pos _ (by omega)
 have h3:=q59 [qe.mk 0 100 50,qe.mk 100 0 60,x] rfl p l hl h2l d hd0 (by omega) true 2 1 (by omega)
 unfold Q5
 rw[q8v,qxH,e,qxH]
 dsimp only
 rw[if_pos ⟨by omega,by omega⟩,if_pos ⟨by omega,by omega⟩]
 unfold zg
 rw[if_pos (by decide),if_pos ⟨by decide,by simp⟩]
 show Option.bind (Option.bind (some (qe.mk 0 100 50)) _) _=_
 rw[qxH,q7C _ [l,l++l] (by simp[hl,h2l]) rfl p _ true l d hd0 (by omega),qxH,Sum.elim_inr,q7H _ p _ true l hl,qxH,Sum.elim_inr,zH (by omega) (by omega)]
 change Option.bind (Option.bind (qz _ ((1:Nat):Int)) _) _=_
 rw[h3];rfl
theorem qoP {x:Int} (h:(Lit.int .u16 x).wf=true):0≤x∧x≤65535:=by
 unfold Lit.wf at h
 rw[qyd,qyG,qyG] at h
 exact h
theorem q58 (c:QE) (w:q1b c) (x:qe) (_:q4O x):Q5 c x=some true:=by
 obtain⟨h1,h2,h3⟩:=qmX w
 have hd:=qoP w.2.2.2
 exact q2J c x h1 h2 h3 hd
end
end Go.Proofs.Ytofbcijbpfjliaa.Vc
namespace Go.Proofs.Ytofbcijbpfjliaa
open Go.Proofs.Ytofbcijbpfjliaa.Vc (qxP qxQ qxT qxW qy2)
open Go.ChangeShapes Go.WideShapes Go.ChangeAt Go.RowKit Go.ChangeMaps
theorem own:ownKnob Try.prog.godebug=none:=by kernel_rfl
theorem qjM:laidOutB Try.prog=true:=by kernel_rfl
section
variable {H:Type} {enc:TypeId×Value→H} {P:Program} {W W':World}
theorem q6W (hl:laidOutB P=true) (hb:Below W.heap.size W W'):∀{ts:List TypeId} {vs:List Value} {ds:List (DataW H)} {ps:List MemPlace},(∀t∈ts,P.readableRec t=true∧t<P.types.size)→
  DataW.TrodAll enc P W 0 (fun _=>true) true ts vs ds ps→(∀p∈ps,p.block<W.heap.size)→DataW.TrodAll enc P W' 0 (fun b=>decide (b<W.heap.size)) true ts vs ds ps
 | [],_,_,_,_,h,_=>by
  obtain⟨rfl,rfl,rfl⟩:=trodAll_nil h
  exact trodAll_mk0
 | t::ts,_,_,_,ht,h,hlt=>by
  obtain⟨v,vs,d,ds,p,q,rfl,rfl,rfl,h1,h2⟩:=trodAll_cons h
  exact trodAll_cons_mk (Below.trod hl (ht t qxW).1 (ht t qxW).2 h1 hb (fun x hx=>hlt x (qxT _ hx)))
   (q6W hl hb (fun u hu=>ht u (qxP _ hu)) h2 (fun x hx=>hlt x (qxQ _ hx)))
theorem qg3 {f:Func} {s:ChangeSpec} {apart fresh handsOn:Bool} {args:Array Value} {ds gs:List (DataW H)} {before:List MemPlace} {tb:TypeId} (hl:laidOutB P=true)
  (hts:∀t∈f.params.toList,P.readableRec t=true∧t<P.types.size) (hr:f.resultTypes=#[tb]) (htb:P.underlying tb=some .bool) (hv:s.vars=[])
  (h1:(s.fn H (ds++gs)).results=[.lit (.bool true)]) (h2:(s.fn H (ds++gs)).args=ds) (h3:(s.fn H (ds++gs)).vars=[])
  (hW:DataW.Whole enc P f.params.toList s.vars apart W args.toList ds gs before) (hb:Below W.heap.size W W') :
  s.post enc P f apart fresh handsOn false W args (.bool true) W':=by
 have hlt:∀p∈before,p.block<W.heap.size:=fun p hp=>hW.lt p hp
 have hW2:=hW
 obtain⟨pa,pv,hA,hV,hp,-,-⟩:=hW2
 rw[hv] at hV
 obtain⟨rfl,rfl⟩:=trodVars_none hV
 rw[qy2] at hp
 subst hp
 refine⟨ds,[],before,[],before,[],hW,?_,?_,?_,?_,fun h=>by cases h⟩
 ·rw[h1,hr]
  exact trodAll_mk1 (shut_bool htb true)
 ·rw[h2]
  exact q6W hl hb hts hA hlt
 ·rw[h3,hv]
  exact hV
 ·exact World.keptBut_mono (fun p hp=>⟨hp,.inr (.inl hp)⟩) (hb.frame (·∈before))
end
end Go.Proofs.Ytofbcijbpfjliaa
namespace Go.Proofs.Ytofbcijbpfjliaa.Vc
end Go.Proofs.Ytofbcijbpfjliaa.Vc
