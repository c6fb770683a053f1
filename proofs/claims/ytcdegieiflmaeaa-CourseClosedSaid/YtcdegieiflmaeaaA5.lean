/- Part 5 of a proof. -/
import Derived.Test.YtcdegieiflmaeaaA4
import Derived.KernelRfl
import Derived.Test.YtcdegieiflmaeaaRows
import Derived.ChangeSlices
import Derived.OpenShut
import Derived.Carry
import Derived.ChangeSame
import Derived.ChangeMaps5
import Derived.WideShapes
import Derived.ProofKit
import Derived.Deep.DeepHandedRow
import Derived.Lib.LaidTab
import Derived.Stop.LaidErr
set_option linter.unusedVariables false
set_option linter.unusedSimpArgs false
set_option linter.defProp false
set_option linter.unusedSectionVars false
set_option linter.unnecessarySimpa false
namespace Go.Proofs.Ytcdegieiflmaeaa.Vc
noncomputable section
open Go.RowKit
structure OSm (o:qa):Prop where
 sl:o.Slots.length≤1000
 nd:o.Needs.length≤1000
 cd:o.Code.size≤1000
 dn:∀d∈o.Needs,d.size≤1000
structure Sml (L:List qa):Prop where
 ln:L.length≤1000
 el:∀o∈L,OSm o
theorem Sml.ll {L:List qa} (h:Sml L):∀o∈L,o.Slots.length≤1000000∧o.Needs.length≤1000000:=fun o ho=>⟨by have:=(h.el o ho).sl;omega,by have:=(h.el o ho).nd;omega⟩
theorem Sml.of {L:List qa} (h:Sml L):∀o∈L,qn9 o:=fun o ho=>⟨(h.ll o ho).1,(h.ll o ho).2⟩
theorem Sml.mx {L:List qa} (h:Sml L):∀o∈L,∀d∈o.Needs,d.size≤maxLen:=fun o ho d hd=>by have:=(h.el o ho).dn d hd;unfold maxLen;omega
theorem Sml.cc {L:List qa} (h:Sml L):∀o∈L,zo o.Code=some (q7n o.Code):=fun o _=>qhW o.Code
theorem Sml.uni {L:List qa} (h:Sml L):(uni (ix L)).length≤1000000:=by
 have hN:∀q∈ix L,q.2.length≤1000:=fun q hq=>by
  rcases q2R L [] hq with h1|⟨o,ho,e⟩
  ·cases h1
  ·rw[e];exact(h.el o ho).nd
 have hil:(ix L).length≤L.length:=by have:=q5x L [];simpa using this
 have hul:=q5S hN
 have:(ix L).length*1000≤1000*1000:=Nat.mul_le_mul_right 1000 (by have:=h.ln;omega)
 omega
theorem q3D {L:List qa} (h:∀o∈L,OSm o) (c:ByteArray):(q6f L c).length≤1000:=by
 have h1:=q0d c L
 rw[←h1]
 rcases qeg (L:=L) (c:=c) with e|e
 ·exact(h _ e).nd
 ·rw[e];exact qtu _
theorem Rc.uni {m:List (ByteArray×List ByteArray)} {c x:ByteArray} (h:Rc m c x):x∈uni m:=by
 cases h with
 | one h=>exact JW h
 | tail _ h=>exact JW h
theorem q8x {l:List ByteArray} (h:l.Pairwise blt):l.Nodup:=by
 rw[List.nodup_iff_pairwise_ne]
 exact h.imp fun {a b} hab=>qjR hab
theorem BI.len {L:List qa} (hS:Sml L) {c:ByteArray} {out more r:List ByteArray} (h:BI (ix L) c out more r):out.length≤1000000:=by
 have h1:=q2M (q8x h.pw) (t:=uni (ix L)) fun x hx=>(h.ro x hx).uni
 have:=hS.uni;omega
theorem nl7 {L:List qa} (hS:Sml L) {c:ByteArray} {next:List ByteArray} (hnx:next.length≤1000000000):∀(n k:Nat) (more out:List ByteArray),n+k=next.length→BI (ix L) c out more (next.drop k)→more.length≤1000*out.length→
  ∃more' out',zE (zP L next) (more,(out,(k:Int)))=some (more',out')∧BI (ix L) c out' more' []∧more'.length≤1000*out'.length∧(mo (ix L) out'<mo (ix L) out∨(more'=more∧out'=out))
 | 0,k,more,out,hk,hB,hm=>by
  rw[qtK (by omega)] at hB
  refine⟨more,out,zg ?_,hB,hm,.inr ⟨rfl,rfl⟩⟩
  unfold zP
  dsimp only
  rw[if_neg (by omega)]
 | n+1,k,more,out,hk,hB,hm=>by
  have h1:k<next.length:=by omega
  have ho:=hB.len hS
  have hll:=hS.ll
  have hL:L.length≤1000000:=by have:=hS.ln;omega
  rw[List.drop_eq_getElem_cons h1] at hB
  have hs:∀{y},(if inB out next[k]=true then some (Sum.inl (more,(out,((k+1:Nat):Int)))) else some (Sum.inl (more++q6f L next[k],(q9y out next[k],((k+1:Nat):Int)))):Option ((List ByteArray×List ByteArray×Int)⊕(List ByteArray×List ByteArray)))=y→zP L next (more,(out,(k:Int)))=y:=fun {y} hy=>by
   rw[←hy]
   have q0:(0:Int)≤(k:Int)∧(k:Int)<((next.length:Nat):Int):=⟨by omega,by omega⟩
   have hf:=q3D hS.el next[k]
   unfold zP
   dsimp only
   rw[if_pos (show(k:Int)<((next.length:Nat):Int) by omega),if_pos q0,qt7,qt6 h1,qt4,q7z (by omega),qt4,Q6 h1 (by omega)]
   cases hi:inB out next[k] with
   | true=>rw[if_neg (by decide),if_pos rfl]
   | false=>
    have hni:next[k] ∉ out:=fun e=>by rw[q0g.2 e] at hi;cases hi
    rw[if_pos (by decide),if_pos q0,qt4,q5F hB.pw (by omega),qt4,if_pos q0,qt4,q6I hL hll,qt4,q0d,if_pos (by unfold maxLen;omega),if_neg (by decide)]
    unfold q5Q
    rw[hi,if_neg (by decide)]
  by_cases hi:inB out next[k]=true
  ·have h2:=hs rfl
   rw[if_pos hi] at h2
   rw[zS h2]
   exact nl7 hS hnx n (k+1) more out (by omega) (hB.old (q0g.1 hi)) hm
  ·have h2:=hs rfl
   rw[if_neg hi] at h2
   have hni:next[k] ∉ out:=fun e=>hi (q0g.2 e)
   have hB2:=hB.new hni
   rw[q85] at hB2
   rw[zS h2]
   have hf:=q3D hS.el next[k]
   have hpl:(q9y out next[k]).length=out.length+1:=by
    unfold q9y
    have:=qac next[k] out
    rw[qtb,qtf,qtx,qtP];omega
   obtain⟨more',out',g1,g2,g3,g4⟩:=nl7 hS hnx n (k+1) (more++q6f L next[k]) (q9y out next[k]) (by omega) hB2 (by rw[qtb,hpl];omega)
   have hlt:=qpF hni (hB.rr _ qtj).uni
   refine⟨more',out',g1,g2,g3,.inl ?_⟩
   rcases g4 with g4|⟨-,g4⟩
   ·omega
   ·rw[g4];exact hlt
theorem qaf (L:List qa) (next:List ByteArray):JH next L=zP L next:=by
 funext x
 rfl
theorem nl4 {L:List qa} (hS:Sml L) {c:ByteArray}:∀(n:Nat) (next out:List ByteArray),2*mo (ix L) out+next.length.min 1≤n→BI (ix L) c out [] next→next.length≤1000000000→
  ∃out',zE (zM L) (next,out)=some out'∧BI (ix L) c out' [] []
 | n,[],out,_,hB,_=>⟨out,zg (by unfold zM;rfl),hB⟩
 | 0,x::next,out,hn,_,_=>by
  have:(x::next).length.min 1=1:=Nat.min_eq_right (by rw[qtf];omega)
  omega
 | n+1,x::next,out,hn,hB,hl=>by
  have h1:(x::next).length.min 1=1:=Nat.min_eq_right (by rw[qtf];omega)
  obtain⟨more',out',g1,g2,g3,g4⟩:=nl7 hS hl (x::next).length 0 [] out (by omega) (by rw[List.drop_zero];exact hB) (qtu _)
  have ho:=g2.len hS
  rw[zS (y:=(more',out')) (by
   unfold zM
   dsimp only
   have g1':zE (zP L (x::next)) ([],(out,0))=_:=g1
   rw[if_pos (by rw[qtf];omega),qaf,g1',qt4])]
  have hm:more'.length.min 1≤1:=Nat.min_le_right _ _
  refine nl4 hS n more' out' ?_ g2.turn (by omega)
  rcases g4 with g4|⟨e1,e2⟩
  ·omega
  ·rw[e1,e2]
   have:([]:List ByteArray).length.min 1=0:=rfl
   omega
theorem q56 {L:List qa} (hS:Sml L) (c:ByteArray):∃r,q0q L c=some r∧qp L c=some r∧r.Pairwise blt∧(∀x,x∈r↔Rc (ix L) c x)∧r.length≤1000000:=by
 have hL:L.length≤1000000:=by have:=hS.ln;omega
 have hf:=q3D hS.el c
 have hB:=BI.start (ix L) c
 rw[q85] at hB
 obtain⟨out,g1,g2⟩:=nl4 hS (2*mo (ix L) []+1) (q6f L c) [] (Nat.add_le_add_left (Nat.min_le_right _ _) _) hB (by omega)
 obtain⟨g3,g4⟩:=g2.done
 obtain⟨l,h1,h2,h3,h4⟩:=qbS hS.ln (fun o ho=>(hS.el o ho).nd) hS.mx c
 have he:out=Jv l:=q6Y g3 (qeR h2) fun x=>(g4 x).trans ((h3 x).symm.trans (Z8 l).mem_iff.symm)
 refine⟨out,?_,by rw[he];exact h1,g3,g4,g2.len hS⟩
 unfold q0q JF
 rw[q6I hL hS.ll,qt4,q0d]
 cases hn:q6f L c with
 | nil=>
  rw[hn] at g1
  have h5:zE (zM L) ([],[])=some []:=zg (by unfold zM;rfl)
  rw[h5] at g1
  rw[if_neg (by decide),qt4]
  exact g1
 | cons x next=>
  rw[hn] at g1 hB hf
  obtain⟨more',out',k1,k2,k3,k4⟩:=nl7 hS (next:=x::next) (by omega) (x::next).length 0 [] [] (by omega) (by rw[List.drop_zero];exact hB) (qtu _)
  have k1':zE (zP L (x::next)) ([],([],0))=_:=k1
  rw[zS (y:=(more',out')) (by
   unfold zM
   dsimp only
   rw[if_pos (by rw[qtf];omega),qaf,k1',qt4])] at g1
  rw[if_pos (by rw[qtf];omega),k1',qt4,g1];rfl
open Classical in
theorem qeb {L:List qa} (hS:Sml L):qG L=some (qj0 L):=qde (by have:=hS.ln;omega) hS.of hS.cc hS.mx
end
noncomputable section
open Go.RowKit
theorem q0T {c:ByteArray} (h:c∈qf):c.size≤1000:=by
 have:∀c∈qf,c.size≤1000:=by unfold qf;decide
 exact this c h
theorem qaW {M:List qa} (hM:q4Q M):Sml M:=by
 refine⟨by have:=hM.1;omega,fun o ho=>?_⟩
 obtain⟨i,hi⟩:=List.mem_iff_getElem?.1 ho
 have h:=hM.2.1 i o hi
 refine⟨by have:=h.2.2.2.2.2.1.1;omega,by have:=h.2.2.2.2.2.2.1;omega,q0T h.1,fun d hd=>?_⟩
 obtain⟨j,p,-,hj,rfl⟩:=h.2.2.2.2.2.2.2.2 d hd
 exact q0T (hM.2.1 j p hj).1
end
noncomputable section
open Go.RowKit
theorem qlp {m:List (ByteArray×List ByteArray)} {c x:ByteArray}:Rc m c x↔∃d∈Z5 [] m c,x=d∨Rc m d x:=by
 constructor
 ·intro h
  induction h with
  | one h=>exact⟨_,h,.inl rfl⟩
  | tail _ h ih=>
   obtain⟨d,h1,h2⟩:=ih
   rcases h2 with rfl|h2
   ·exact⟨_,h1,.inr (.one h)⟩
   ·exact⟨d,h1,.inr (.tail h2 h)⟩
 ·rintro⟨d,h1,rfl|h2⟩
  ·exact .one h1
  ·exact .head h1 h2
def Jn (L:List qa) (hS:Sml L) (c:ByteArray):List ByteArray:=Classical.choose (q56 hS c)
theorem q2j {L:List qa} (hS:Sml L) (c:ByteArray):q0q L c=some (Jn L hS c)∧qp L c=some (Jn L hS c)∧(Jn L hS c).Pairwise blt∧(∀x,x∈Jn L hS c↔Rc (ix L) c x)∧(Jn L hS c).length≤1000000:=Classical.choose_spec (q56 hS c)
def q4j (w:List ByteArray) (l:List ByteArray):List ByteArray:=l.foldl q5Q w
theorem q2J:∀(l:List ByteArray) {w:List ByteArray},w.Pairwise blt→(q4j w l).Pairwise blt
 | [],_,h=>h
 | a::l,_,h=>q2J l (q4y h a)
theorem q3g {x:ByteArray}:∀{l w:List ByteArray},x∈q4j w l↔x∈l∨x∈w:=by
 intro l
 induction l with
 | nil=>intro w;exact⟨.inr,fun h=>h.elim (fun e=>(by cases e)) id⟩
 | cons a l ih=>
  intro w
  show x∈q4j (q5Q w a) l↔_
  rw[ih,q2q,qtq]
  constructor
  ·rintro(h|h|h)
   ·exact .inl (.inr h)
   ·exact .inl (.inl h)
   ·exact .inr h
  ·rintro((h|h)|h)
   ·exact .inr (.inl h)
   ·exact .inl h
   ·exact .inr (.inr h)
def q5D (L:List qa) (hS:Sml L):List ByteArray→List ByteArray→List ByteArray
 | [],w=>w
 | c::l,w=>q5D L hS l (q4j (q5Q w c) (Jn L hS c))
theorem qct {L:List qa} (hS:Sml L):∀(l w:List ByteArray),w.Pairwise blt→(q5D L hS l w).Pairwise blt
 | [],w,h=>h
 | c::l,w,h=>qct hS l _ (q2J _ (q4y h c))
theorem q7N {L:List qa} (hS:Sml L) {x:ByteArray}:∀{l w:List ByteArray},x∈q5D L hS l w↔(∃d∈l,x=d∨Rc (ix L) d x)∨x∈w
 | [],w=>⟨.inr,fun h=>h.elim (fun⟨d,h,_⟩=>(by cases h)) id⟩
 | c::l,w=>by
  rw[q5D,q7N hS,q3g,q2q,(q2j hS c).2.2.2.1]
  constructor
  ·rintro(⟨d,h1,h2⟩|h|h|h)
   ·exact .inl ⟨d,qtc _ h1,h2⟩
   ·exact .inl ⟨c,qtj,.inr h⟩
   ·exact .inl ⟨c,qtj,.inl h⟩
   ·exact .inr h
  ·rintro(⟨d,h1,h2⟩|h)
   ·rcases qtq.1 h1 with rfl|h1
    ·exact .inr (h2.elim (fun e => .inr (.inl e)) .inl)
    ·exact .inl ⟨d,h1,h2⟩
   ·exact .inr (.inr (.inr h))
theorem qib {L:List qa} (hS:Sml L) (c:ByteArray):q5D L hS (q6f L c) []=Jn L hS c:=by
 obtain⟨-,-,h3,h4,-⟩:=q2j hS c
 refine q6Y (qct hS _ _ .nil) h3 fun x=>?_
 rw[q7N hS,h4,qlp,q85]
 exact⟨fun h=>h.elim id fun e=>(by cases e),.inl⟩
theorem qbF {L:List qa} (hS:Sml L) {w:List ByteArray} (h1:w.Pairwise blt) (h2:∀x∈w,x∈uni (ix L)):w.length≤1000000:=by
 have:=q2M (q8x h1) h2
 have:=hS.uni;omega
theorem qie {L:List qa} {c d:ByteArray} (h:d∈q6f L c):d∈uni (ix L):=JW (c:=c) (by rw[q85];exact h)
end
noncomputable section
open Go.RowKit
structure OSb (b:Nat) (o:qa):Prop where
 sl:o.Slots.length≤b
 nd:o.Needs.length≤b
 cd:o.Code.size≤1000
 dn:∀d∈o.Needs,d.size≤1000
theorem OSb.sm {b:Nat} {o:qa} (h:OSb b o) (hb:b≤1000):OSm o:=⟨qtF h.sl hb,qtF h.nd hb,h.cd,h.dn⟩
theorem OSb.up {b c:Nat} {o:qa} (h:OSb b o) (hb:b≤c):OSb c o:=⟨qtF h.sl hb,qtF h.nd hb,h.cd,h.dn⟩
theorem q9B {α:Type} {f:α→α} {x:α} {l:List α} {i:Nat} (h:x∈l.modify i f):x∈l∨∃y∈l,x=f y:=by
 obtain⟨j,hj⟩:=List.mem_iff_getElem?.1 h
 rw[List.getElem?_modify] at hj
 cases hl:l[j]? with
 | none=>rw[hl] at hj;cases hj
 | some y=>
  rw[hl] at hj
  injection hj with hj
  split at hj
  ·exact .inr ⟨y,qt5 hl,hj.symm⟩
  ·exact .inl (by rw[←hj];exact qt5 hl)
def OdP (n b:Nat) (r:List qa):Prop:=r.length≤max n 61∧∀o∈r,OSb (b+1) o
theorem q0s {b:Nat} {L:List qa} (h:∀o∈L,OSb b o) {f:qa→qa} (hf:∀o∈L,OSb (b+1) (f o)) (i:Nat):OdP L.length b (L.modify i f):=by
 refine⟨by rw[List.length_modify];omega,fun o ho=>?_⟩
 rcases q9B ho with h1|⟨y,h1,rfl⟩
 ·exact(h o h1).up (by omega)
 ·exact hf y h1
theorem q4r {α:Type} {l:List α} {i:Int} (h0:0≤i) (h1:i<(l.length:Nat)):∃a,l[i.toNat]?=some a∧a∈l:=
 ⟨l[i.toNat]'(by omega),qt6 (by omega),qtU _⟩
theorem q9N {a n:Int} (h0:0≤a) (hn:0<n):0≤Int.tmod a n∧Int.tmod a n<n:=⟨Int.tmod_nonneg _ h0,Int.tmod_lt_of_pos _ hn⟩
theorem od3 (L:List qa) (q:q6Q Int) (hL:L.length≤1000) (hs:∀o∈L,o.Slots.length≤1000000∧o.Needs.length≤1000000):zE (Qf q L) ([],0)=some L:=by
 have h:=qe6 (step:=Qf q L) (e:=L) (fun k=>(L.take k,(k:Int))) 0 L.length (qtu _) (fun k _ hk=>by
  unfold Qf
  dsimp only
  rw[if_pos (by omega),if_pos (by omega),qt7,qt6 hk,qt4,q6j (hs _ (qtU hk)),qt4,if_pos (by rw[qtx];unfold maxLen;omega),Q6 hk (by omega),List.take_add_one,qt6 hk]
  rfl) (by
  unfold Qf
  dsimp only
  rw[if_neg (by omega),List.take_length])
 exact h
theorem q4K (l:List Int):(strOf l).size=l.length:=by
 show((l.map fun n=>UInt8.ofNat n.toNat).toArray).size=_
 simp
theorem qrW (t:Int) (h0:0≤t):∀(n:Nat) (w:List qa),61≤w.length+n→w.length≤1000→∃r,zE (Qi t) w=some r∧r.length≤max w.length 61∧∀o∈r,o∈w∨OSb 6 o:=by
 have ht:=q9N (n:=2) h0 (by omega)
 have hw:w64 (60+Int.tmod t 2)=60+Int.tmod t 2:=J9 (by omega) (by omega)
 intro n
 induction n with
 | zero=>
  intro w h1 h2
  refine⟨w,zg ?_,by omega,fun o ho => .inl ho⟩
  unfold Qi
  rw[hw,if_neg (by omega)]
 | succ n ih=>
  intro w h1 h2
  by_cases h3:((w.length:Nat):Int)<w64 (60+Int.tmod t 2)
  ·have h3':=h3
   rw[hw] at h3'
   refine Exists.elim (ih (w++[qa.mk (ByteArray.mk (List.toArray [89])++strOf [IntKind.wrap IntKind.u8 (w64 ((65:Int)+w64 (Int.tdiv ((w.length:Nat):Int) (10:Int)))),IntKind.wrap IntKind.u8 (w64 ((48:Int)+Int.tmod ((w.length:Nat):Int) (10:Int)))]) (1:Int) (0:Int) [] []]) (by rw[qtb,qtm];omega) (by rw[qtb,qtm];omega)) fun r hr=>?_
   obtain⟨g1,g2,g3⟩:=hr
   rw[qtb,qtm] at g2
   refine⟨r,?_,by omega,fun o ho=>?_⟩
   ·rw[←g1]
    refine zS ?_
    unfold Qi
    rw[if_pos h3,if_pos (by rw[q4K];show 1+2≤_;omega),if_pos (by unfold maxLen;omega)]
   ·rcases g3 o ho with g|g
    ·rcases qty.1 g with g|g
     ·exact .inl g
     ·rw[qtT] at g
      subst g
      refine .inr ⟨qtu _,qtu _,?_,fun d hd=>by cases hd⟩
      show(ByteArray.mk (List.toArray [89])++strOf _).size≤1000
      rw[ByteArray.size_append,q4K]
      show 1+2≤1000
      omega
    ·exact .inr g
  ·refine⟨w,zg ?_,by omega,fun o ho => .inl ho⟩
   unfold Qi
   rw[if_neg h3]
theorem qrU {c:ByteArray} (h:c∈[ByteArray.mk (List.toArray []),ByteArray.mk (List.toArray [97]),ByteArray.mk (List.toArray [65,66,67,68,69,70,71,72,73]),ByteArray.mk (List.toArray [65,49]),ByteArray.mk (List.toArray [66,50]),ByteArray.mk (List.toArray [90]),ByteArray.mk (List.toArray [65,66,67,68,69,70,71,72]),ByteArray.mk (List.toArray [65,32,49])]):c.size≤1000:=by
 have:∀c∈[ByteArray.mk (List.toArray []),ByteArray.mk (List.toArray [97]),ByteArray.mk (List.toArray [65,66,67,68,69,70,71,72,73]),ByteArray.mk (List.toArray [65,49]),ByteArray.mk (List.toArray [66,50]),ByteArray.mk (List.toArray [90]),ByteArray.mk (List.toArray [65,66,67,68,69,70,71,72]),ByteArray.mk (List.toArray [65,32,49])],c.size≤1000:=by decide
 exact this c h
theorem qsZ {c:ByteArray} (h:c∈[ByteArray.mk (List.toArray [65,49]),ByteArray.mk (List.toArray [66,49]),ByteArray.mk (List.toArray [66,50]),ByteArray.mk (List.toArray [67,49]),ByteArray.mk (List.toArray [68,49]),ByteArray.mk (List.toArray [69,57])]):c.size≤1000:=q0T h
theorem qdP (x:Bool):((if(!x)=true then true else false)||x)=true:=by cases x<;>rfl
theorem qfy {L:List qa} {b:Nat} (hb:6≤b) (hb2:b≤100) (hL:L.length≤100) (hS:∀o∈L,OSb b o) (q:q6Q Int):∃r,Zr L q=some r∧OdP L.length b r:=by
 have hs:∀o∈L,o.Slots.length≤1000000∧o.Needs.length≤1000000:=fun o ho=>⟨by have:=(hS o ho).sl;omega,by have:=(hS o ho).nd;omega⟩
 unfold Zr
 rw[od3 L q (by omega) hs,qt4]
 by_cases h0:L.length=0
 ·rw[if_pos (by rw[h0];rfl)]
  exact⟨L,rfl,by omega,fun o ho=>(hS o ho).up (by omega)⟩
 rw[if_neg (by rw[beq_iff_eq];omega)]
 obtain⟨a2,e2,l2,u2⟩:=q8e q.a1 72 (by omega) (by omega)
 obtain⟨a3,e3,l3,u3⟩:=q8e q.a2 ((L.length:Nat):Int) (by omega) (by omega)
 obtain⟨a4,e4,l4,u4⟩:=q8e q.a0 11 (by omega) (by omega)
 rw[e2,qt4,e3,qt4,if_pos ⟨l3,u3⟩,e4,qt4]
 obtain⟨o3,g3,m3⟩:=q4r (l:=L) l3 u3
 have hi:a3.toNat<L.length:=by omega
 by_cases c0:a4=0
 ·have t:=q9N (n:=8) l2 (by omega)
  obtain⟨c,g,m⟩:=q4r (l:=[ByteArray.mk (List.toArray []),ByteArray.mk (List.toArray [97]),ByteArray.mk (List.toArray [65,66,67,68,69,70,71,72,73]),ByteArray.mk (List.toArray [65,49]),ByteArray.mk (List.toArray [66,50]),ByteArray.mk (List.toArray [90]),ByteArray.mk (List.toArray [65,66,67,68,69,70,71,72]),ByteArray.mk (List.toArray [65,32,49])]) t.1 t.2
  rw[if_pos (by rw[c0];rfl),if_pos t,g,qt4,if_pos (by omega)]
  refine⟨_,rfl,?_⟩
  refine q0s hS ?_ _
  exact fun o ho=>⟨by have:=(hS o ho).sl;show o.Slots.length≤_;omega,by have:=(hS o ho).nd;show o.Needs.length≤_;omega,qrU m,(hS o ho).dn⟩
 rw[if_neg (by rw[beq_iff_eq];exact c0)]
 by_cases c1:a4=1
 ·rw[if_pos (by rw[c1];rfl),if_pos (by omega)]
  refine⟨_,rfl,?_⟩
  refine q0s hS ?_ _
  exact fun o ho=>⟨by have:=(hS o ho).sl;show o.Slots.length≤_;omega,by have:=(hS o ho).nd;show o.Needs.length≤_;omega,(hS o ho).cd,(hS o ho).dn⟩
 rw[if_neg (by rw[beq_iff_eq];exact c1)]
 by_cases c2:a4=2
 ·have t:=q9N (n:=4) l2 (by omega)
  obtain⟨c,g,m⟩:=q4r (l:=[(-(1:Int)),(0:Int),(200:Int),(201:Int)]) t.1 t.2
  rw[if_pos (by rw[c2];rfl),if_pos t,g,qt4,if_pos (by omega)]
  refine⟨_,rfl,?_⟩
  refine q0s hS ?_ _
  exact fun o ho=>⟨by have:=(hS o ho).sl;show o.Slots.length≤_;omega,by have:=(hS o ho).nd;show o.Needs.length≤_;omega,(hS o ho).cd,(hS o ho).dn⟩
 rw[if_neg (by rw[beq_iff_eq];exact c2)]
 have b1:=(hS o3 m3).sl
 have b2:=(hS o3 m3).nd
 have b3:=(hS o3 m3).dn
 by_cases c3:a4=3
 ·rw[if_pos (by rw[c3];rfl),g3,qt4,if_pos (by unfold maxLen;omega),if_pos (by omega)]
  refine⟨_,rfl,?_⟩
  refine q0s hS ?_ _
  exact fun o ho=>⟨by show(o3.Slots++[_]).length≤_;rw[qtb,qtm];omega,by have:=(hS o ho).nd;show o.Needs.length≤_;omega,(hS o ho).cd,(hS o ho).dn⟩
 rw[if_neg (by rw[beq_iff_eq];exact c3)]
 by_cases c4:a4=4
 ·rw[if_pos (by rw[c4];rfl),g3,qt4,if_pos (by unfold maxLen;omega),if_pos (by omega)]
  refine⟨_,rfl,?_⟩
  refine q0s hS ?_ _
  exact fun o ho=>⟨by show(o3.Slots++[_]).length≤_;rw[qtb,qtm];omega,by have:=(hS o ho).nd;show o.Needs.length≤_;omega,(hS o ho).cd,(hS o ho).dn⟩
 rw[if_neg (by rw[beq_iff_eq];exact c4)]
 have t6:=q9N (n:=6) l2 (by omega)
 have t6':0≤Int.tmod a2 6∧Int.tmod a2 6<((qf.length:Nat):Int):=t6
 obtain⟨c,gc,mc⟩:=q4r (l:=qf) t6'.1 t6'.2
 by_cases c5:a4=5
 ·rw[if_pos (by rw[c5];rfl),g3,qt4,qt4,if_pos t6',gc,qt4,if_pos (by unfold maxLen;omega),if_pos (qdP _),if_pos (by omega)]
  refine⟨_,rfl,?_⟩
  refine q0s hS ?_ _
  exact fun o ho=>⟨by have:=(hS o ho).sl;show o.Slots.length≤_;omega,by show(o3.Needs++[_]).length≤_;rw[qtb,qtm];omega,(hS o ho).cd,fun d hd=>by
   rcases qty.1 hd with e|e
   ·exact b3 d e
   ·rw[qtT] at e;rw[e];exact q0T mc⟩
 rw[if_neg (by rw[beq_iff_eq];exact c5)]
 by_cases c6:a4=6
 ·rw[if_pos (by rw[c6];rfl),if_pos t6',gc,qt4,if_pos (by omega)]
  refine⟨_,rfl,?_⟩
  refine q0s hS ?_ _
  exact fun o ho=>⟨by have:=(hS o ho).sl;show o.Slots.length≤_;omega,by show 1≤b+1;omega,(hS o ho).cd,fun d hd=>by rw[qtT.1 hd];exact q0T mc⟩
 rw[if_neg (by rw[beq_iff_eq];exact c6)]
 by_cases c7:a4=7
 ·rw[if_pos (by rw[c7];rfl),g3,qt4,if_pos (by unfold maxLen;omega),if_pos (by omega)]
  refine⟨_,rfl,?_⟩
  refine q0s hS ?_ _
  exact fun o ho=>⟨by have:=(hS o ho).sl;show o.Slots.length≤_;omega,by show(o3.Needs++[_]).length≤_;rw[qtb,qtm];omega,(hS o ho).cd,fun d hd=>by
   rcases qty.1 hd with e|e
   ·exact b3 d e
   ·rw[qtT] at e;rw[e];decide⟩
 rw[if_neg (by rw[beq_iff_eq];exact c7)]
 by_cases c8:a4=8
 ·have t7:=q9N (n:=7) l2 (by omega)
  rw[if_pos (by rw[c8];rfl),if_pos (by omega),if_pos (by omega)]
  refine⟨_,rfl,?_⟩
  refine q0s hS ?_ _
  exact fun o ho=>⟨by have:=(hS o ho).sl;show o.Slots.length≤_;omega,by show(List.take _ _).length≤_;rw[qtx];show min _ 6≤_;omega,(hS o ho).cd,fun d hd=>qsZ (List.mem_of_mem_take hd)⟩
 rw[if_neg (by rw[beq_iff_eq];exact c8)]
 by_cases c9:a4=9
 ·have t:=q9N (n:=((L.length:Nat):Int)) l2 (by omega)
  obtain⟨o4,g4,m4⟩:=q4r (l:=L) t.1 t.2
  rw[if_pos (by rw[c9];rfl),if_neg (by omega),if_pos t,g4,qt4,g3,qt4,if_pos (by omega),if_pos t,if_pos (by omega)]
  refine⟨_,rfl,by rw[qtO,qtO];omega,fun o ho=>?_⟩
  rcases List.mem_or_eq_of_mem_set ho with e|e
  ·rcases List.mem_or_eq_of_mem_set e with e|e
   ·exact(hS o e).up (by omega)
   ·rw[e];exact(hS _ m4).up (by omega)
  ·rw[e];exact(hS _ m3).up (by omega)
 rw[if_neg (by rw[beq_iff_eq];exact c9)]
 have c10:a4=10:=by omega
 obtain⟨r,r1,r2,r3⟩:=qrW a2 l2 61 L (by omega) (by omega)
 rw[if_pos (by rw[c10];rfl),r1,qt4]
 refine⟨r,rfl,r2,fun o ho=>?_⟩
 rcases r3 o ho with e|e
 ·exact(hS o e).up (by omega)
 ·exact e.up (by omega)
theorem qjG {M:List qa} (hM:q4Q M):∀o∈M,OSb 6 o:=fun o ho=>by
 have h:=(qaW hM).el o ho
 obtain⟨i,hi⟩:=List.mem_iff_getElem?.1 ho
 have h2:=hM.2.1 i o hi
 exact⟨h2.2.2.2.2.2.1.1,by have:=h2.2.2.2.2.2.2.1;omega,h.cd,h.dn⟩
theorem qhF (x0:List Int) (h:x0.length≤maxLen) (p q:q6Q Int):∃M one two,Zx x0=some M∧q4Q M∧Zr M p=some one∧Zr one q=some two∧Sml one∧Sml two∧one.length≤61∧two.length≤61:=by
 obtain⟨M,h1,hM⟩:=qiC x0 h
 have h6:=hM.1
 obtain⟨one,h2,h3,h4⟩:=qfy (qtk 6) (by omega) (by omega) (qjG hM) p
 have h3':one.length≤61:=by omega
 obtain⟨two,h5,h7,h8⟩:=qfy (b:=7) (by omega) (by omega) (by omega) h4 q
 have h7':two.length≤61:=by omega
 exact⟨M,one,two,h1,hM,h2,h5,⟨by omega,fun o ho=>(h4 o ho).sm (by omega)⟩,⟨by omega,fun o ho=>(h8 o ho).sm (by omega)⟩,h3',h7'⟩
end
noncomputable section
open Go.RowKit
set_option maxRecDepth 20000
set_option maxHeartbeats 8000000
theorem lo8:okL 8 qhz:=zl (qd bd8) (by kernel_rfl) (by kernel_rfl)
def cx8:=JA_ @qhz.eq_1 (JA_ @Try.f8.eq_1 @bd8)
def QQ:Option Bool:=Option.bind (qG [qa.mk (ByteArray.mk (List.toArray [65,49])) 5 30 [(1:Int),2] [],qa.mk (ByteArray.mk (List.toArray [66,49])) 6 10 [(2:Int)] [ByteArray.mk (List.toArray [65,49])],qa.mk (ByteArray.mk (List.toArray [66,50])) 3 0 [] [],qa.mk (ByteArray.mk (List.toArray [67,49])) 10 200 [(40:Int)] [ByteArray.mk (List.toArray [66,49]),ByteArray.mk (List.toArray [66,50])]]) fun(a:Int)=>if(a==0)=Bool.true then Option.bind (qG [qa.mk (ByteArray.mk (List.toArray [65,49])) 5 30 [(1:Int),2] [],qa.mk (ByteArray.mk (List.toArray [66,50])) 6 10 [(2:Int)] [ByteArray.mk (List.toArray [65,49])],qa.mk (ByteArray.mk (List.toArray [66,50])) 3 0 [] [],qa.mk (ByteArray.mk (List.toArray [67,49])) 10 200 [(40:Int)] [ByteArray.mk (List.toArray [66,49]),ByteArray.mk (List.toArray [66,50])]]) fun(a2:Int)=>if(a2==6)=Bool.true then Option.bind (qG [qa.mk (ByteArray.mk (List.toArray [65,49])) 5 30 [(1:Int),2] [ByteArray.mk (List.toArray [67,49])],qa.mk (ByteArray.mk (List.toArray [66,49])) 6 10 [(2:Int)] [ByteArray.mk (List.toArray [65,49])],qa.mk (ByteArray.mk (List.toArray [66,50])) 3 0 [] [],qa.mk (ByteArray.mk (List.toArray [67,49])) 10 200 [(40:Int)] [ByteArray.mk (List.toArray [66,49]),ByteArray.mk (List.toArray [66,50])]]) fun(a3:Int)=>if(a3==14)=Bool.true then Option.bind (qG [qa.mk (ByteArray.mk (List.toArray [65,49])) 5 30 [(1:Int),2] [],qa.mk (ByteArray.mk (List.toArray [66,49])) 6 10 [(2:Int)] [ByteArray.mk (List.toArray [65,49])],qa.mk (ByteArray.mk (List.toArray [66,50])) 3 0 [] [ByteArray.mk (List.toArray [88])],qa.mk (ByteArray.mk (List.toArray [67,49])) 10 200 [(40:Int)] [ByteArray.mk (List.toArray [66,49]),ByteArray.mk (List.toArray [66,50])]]) fun(a4:Int)=>if(a4==5)=Bool.true then Option.bind (qG [qa.mk (ByteArray.mk (List.toArray [65,49])) 5 30 [(1:Int),2] [],qa.mk (ByteArray.mk (List.toArray [66,49])) 6 10 [(2:Int)] [ByteArray.mk (List.toArray [65,49])],qa.mk (ByteArray.mk (List.toArray [66,50])) 3 0 [] [],qa.mk (ByteArray.mk (List.toArray [67,49])) 61 200 [(40:Int)] [ByteArray.mk (List.toArray [66,49]),ByteArray.mk (List.toArray [66,50])]]) fun(a5:Int)=>Option.bind (qp [qa.mk (ByteArray.mk (List.toArray [65,49])) 5 30 [(1:Int),2] [],qa.mk (ByteArray.mk (List.toArray [66,49])) 6 10 [(2:Int)] [ByteArray.mk (List.toArray [65,49])],qa.mk (ByteArray.mk (List.toArray [66,50])) 3 0 [] [],qa.mk (ByteArray.mk (List.toArray [67,49])) 10 200 [(40:Int)] [ByteArray.mk (List.toArray [66,49]),ByteArray.mk (List.toArray [66,50])]] (ByteArray.mk (List.toArray [67,49]))) fun(a6:List ByteArray)=>Option.bind (qi a6 [ByteArray.mk (List.toArray [65,49]),ByteArray.mk (List.toArray [66,49]),ByteArray.mk (List.toArray [66,50])]) fun(a7:Bool)=>if a7=Bool.true then Option.bind (qp [qa.mk (ByteArray.mk (List.toArray [65,49])) 5 30 [(1:Int),2] [],qa.mk (ByteArray.mk (List.toArray [66,49])) 6 10 [(2:Int)] [ByteArray.mk (List.toArray [65,49])],qa.mk (ByteArray.mk (List.toArray [66,50])) 3 0 [] [],qa.mk (ByteArray.mk (List.toArray [67,49])) 10 200 [(40:Int)] [ByteArray.mk (List.toArray [66,49]),ByteArray.mk (List.toArray [66,50])]] (ByteArray.mk (List.toArray [65,49]))) fun(a8:List ByteArray)=>Option.bind (qp [qa.mk (ByteArray.mk (List.toArray [65,49])) 5 30 [(1:Int),2] [],qa.mk (ByteArray.mk (List.toArray [66,49])) 6 10 [(2:Int)] [ByteArray.mk (List.toArray [65,49])],qa.mk (ByteArray.mk (List.toArray [66,50])) 3 0 [] [],qa.mk (ByteArray.mk (List.toArray [67,49])) 10 200 [(40:Int)] [ByteArray.mk (List.toArray [66,49]),ByteArray.mk (List.toArray [66,50])]] (ByteArray.mk (List.toArray [88]))) fun(a9:List ByteArray)=>if(w64 (((a8.length:Nat):Int)+((a9.length:Nat):Int))==0)=Bool.true then Option.bind (zL [qa.mk (ByteArray.mk (List.toArray [65,49])) 5 30 [(1:Int),2] [],qa.mk (ByteArray.mk (List.toArray [66,49])) 6 10 [(2:Int)] [ByteArray.mk (List.toArray [65,49])],qa.mk (ByteArray.mk (List.toArray [66,50])) 3 0 [] [],qa.mk (ByteArray.mk (List.toArray [67,49])) 10 200 [(40:Int)] [ByteArray.mk (List.toArray [66,49]),ByteArray.mk (List.toArray [66,50])]]) fun(a10:List ByteArray)=>Option.bind (qi a10 [ByteArray.mk (List.toArray [65,49]),ByteArray.mk (List.toArray [66,49]),ByteArray.mk (List.toArray [66,50]),ByteArray.mk (List.toArray [67,49])]) fun(a11:Bool)=>Option.bind (qc [qa.mk (ByteArray.mk (List.toArray [65,49])) 5 30 [(1:Int),2] [],qa.mk (ByteArray.mk (List.toArray [66,49])) 6 10 [(2:Int)] [ByteArray.mk (List.toArray [65,49])],qa.mk (ByteArray.mk (List.toArray [66,50])) 3 0 [] [],qa.mk (ByteArray.mk (List.toArray [67,49])) 10 200 [(40:Int)] [ByteArray.mk (List.toArray [66,49]),ByteArray.mk (List.toArray [66,50])]] (ByteArray.mk (List.toArray [66,49])) [ByteArray.mk (List.toArray [65,49])]) fun(a12:Bool)=>if a12=Bool.true then Option.bind (qc [qa.mk (ByteArray.mk (List.toArray [65,49])) 5 30 [(1:Int),2] [],qa.mk (ByteArray.mk (List.toArray [66,49])) 6 10 [(2:Int)] [ByteArray.mk (List.toArray [65,49])],qa.mk (ByteArray.mk (List.toArray [66,50])) 3 0 [] [],qa.mk (ByteArray.mk (List.toArray [67,49])) 10 200 [(40:Int)] [ByteArray.mk (List.toArray [66,49]),ByteArray.mk (List.toArray [66,50])]] (ByteArray.mk (List.toArray [67,49])) [ByteArray.mk (List.toArray [65,49]),ByteArray.mk (List.toArray [66,49])]) fun(a13:Bool)=>if(!a13)=Bool.true then Option.bind (qc [qa.mk (ByteArray.mk (List.toArray [65,49])) 5 30 [(1:Int),2] [],qa.mk (ByteArray.mk (List.toArray [66,49])) 6 10 [(2:Int)] [ByteArray.mk (List.toArray [65,49])],qa.mk (ByteArray.mk (List.toArray [66,50])) 3 0 [] [],qa.mk (ByteArray.mk (List.toArray [67,49])) 10 200 [(40:Int)] [ByteArray.mk (List.toArray [66,49]),ByteArray.mk (List.toArray [66,50])]] (ByteArray.mk (List.toArray [88])) []) fun(a14:Bool)=>if(!a14)=Bool.true then Option.bind (qg (qa.mk (ByteArray.mk (List.toArray [65,49])) 5 30 [(1:Int),2] []) (qa.mk (ByteArray.mk (List.toArray [66,49])) 6 10 [(2:Int)] [ByteArray.mk (List.toArray [65,49])])) fun(a15:Bool)=>if a15=Bool.true then Option.bind (qg (qa.mk (ByteArray.mk (List.toArray [66,49])) 6 10 [(2:Int)] [ByteArray.mk (List.toArray [65,49])]) (qa.mk (ByteArray.mk (List.toArray [66,50])) 3 0 [] [])) fun(a16:Bool)=>if(a5==3)=Bool.true then if a11=Bool.true then if(!a16)=Bool.true then Option.bind (zo (ByteArray.mk (List.toArray [65,49]))) fun(a17:Bool)=>if a17=Bool.true then Option.bind (zo (ByteArray.mk (List.toArray [97,49]))) fun(a18:Bool)=>if(!a18)=Bool.true then Option.bind (zo (ByteArray.mk (List.toArray []))) fun(a19:Bool)=>some (!a19) else some Bool.false else some Bool.false else some Bool.false else some Bool.false else some Bool.false else some Bool.false else some Bool.false else some Bool.false else some Bool.false else Option.bind (qc [qa.mk (ByteArray.mk (List.toArray [65,49])) 5 30 [(1:Int),2] [],qa.mk (ByteArray.mk (List.toArray [66,49])) 6 10 [(2:Int)] [ByteArray.mk (List.toArray [65,49])],qa.mk (ByteArray.mk (List.toArray [66,50])) 3 0 [] [],qa.mk (ByteArray.mk (List.toArray [67,49])) 10 200 [(40:Int)] [ByteArray.mk (List.toArray [66,49]),ByteArray.mk (List.toArray [66,50])]] (ByteArray.mk (List.toArray [66,49])) [ByteArray.mk (List.toArray [65,49])]) fun(a20:Bool)=>if a20=Bool.true then Option.bind (qc [qa.mk (ByteArray.mk (List.toArray [65,49])) 5 30 [(1:Int),2] [],qa.mk (ByteArray.mk (List.toArray [66,49])) 6 10 [(2:Int)] [ByteArray.mk (List.toArray [65,49])],qa.mk (ByteArray.mk (List.toArray [66,50])) 3 0 [] [],qa.mk (ByteArray.mk (List.toArray [67,49])) 10 200 [(40:Int)] [ByteArray.mk (List.toArray [66,49]),ByteArray.mk (List.toArray [66,50])]] (ByteArray.mk (List.toArray [67,49])) [ByteArray.mk (List.toArray [65,49]),ByteArray.mk (List.toArray [66,49])]) fun(a21:Bool)=>if(!a21)=Bool.true then Option.bind (qc [qa.mk (ByteArray.mk (List.toArray [65,49])) 5 30 [(1:Int),2] [],qa.mk (ByteArray.mk (List.toArray [66,49])) 6 10 [(2:Int)] [ByteArray.mk (List.toArray [65,49])],qa.mk (ByteArray.mk (List.toArray [66,50])) 3 0 [] [],qa.mk (ByteArray.mk (List.toArray [67,49])) 10 200 [(40:Int)] [ByteArray.mk (List.toArray [66,49]),ByteArray.mk (List.toArray [66,50])]] (ByteArray.mk (List.toArray [88])) []) fun(a22:Bool)=>if(!a22)=Bool.true then Option.bind (qg (qa.mk (ByteArray.mk (List.toArray [65,49])) 5 30 [(1:Int),2] []) (qa.mk (ByteArray.mk (List.toArray [66,49])) 6 10 [(2:Int)] [ByteArray.mk (List.toArray [65,49])])) fun(a23:Bool)=>if a23=Bool.true then Option.bind (qg (qa.mk (ByteArray.mk (List.toArray [66,49])) 6 10 [(2:Int)] [ByteArray.mk (List.toArray [65,49])]) (qa.mk (ByteArray.mk (List.toArray [66,50])) 3 0 [] [])) fun(a24:Bool)=>some Bool.false else some Bool.false else some Bool.false else some Bool.false else some Bool.false else Option.bind (qc [qa.mk (ByteArray.mk (List.toArray [65,49])) 5 30 [(1:Int),2] [],qa.mk (ByteArray.mk (List.toArray [66,49])) 6 10 [(2:Int)] [ByteArray.mk (List.toArray [65,49])],qa.mk (ByteArray.mk (List.toArray [66,50])) 3 0 [] [],qa.mk (ByteArray.mk (List.toArray [67,49])) 10 200 [(40:Int)] [ByteArray.mk (List.toArray [66,49]),ByteArray.mk (List.toArray [66,50])]] (ByteArray.mk (List.toArray [66,49])) [ByteArray.mk (List.toArray [65,49])]) fun(a25:Bool)=>if a25=Bool.true then Option.bind (qc [qa.mk (ByteArray.mk (List.toArray [65,49])) 5 30 [(1:Int),2] [],qa.mk (ByteArray.mk (List.toArray [66,49])) 6 10 [(2:Int)] [ByteArray.mk (List.toArray [65,49])],qa.mk (ByteArray.mk (List.toArray [66,50])) 3 0 [] [],qa.mk (ByteArray.mk (List.toArray [67,49])) 10 200 [(40:Int)] [ByteArray.mk (List.toArray [66,49]),ByteArray.mk (List.toArray [66,50])]] (ByteArray.mk (List.toArray [67,49])) [ByteArray.mk (List.toArray [65,49]),ByteArray.mk (List.toArray [66,49])]) fun(a26:Bool)=>if(!a26)=Bool.true then Option.bind (qc [qa.mk (ByteArray.mk (List.toArray [65,49])) 5 30 [(1:Int),2] [],qa.mk (ByteArray.mk (List.toArray [66,49])) 6 10 [(2:Int)] [ByteArray.mk (List.toArray [65,49])],qa.mk (ByteArray.mk (List.toArray [66,50])) 3 0 [] [],qa.mk (ByteArray.mk (List.toArray [67,49])) 10 200 [(40:Int)] [ByteArray.mk (List.toArray [66,49]),ByteArray.mk (List.toArray [66,50])]] (ByteArray.mk (List.toArray [88])) []) fun(a27:Bool)=>if(!a27)=Bool.true then Option.bind (qg (qa.mk (ByteArray.mk (List.toArray [65,49])) 5 30 [(1:Int),2] []) (qa.mk (ByteArray.mk (List.toArray [66,49])) 6 10 [(2:Int)] [ByteArray.mk (List.toArray [65,49])])) fun(a28:Bool)=>if a28=Bool.true then Option.bind (qg (qa.mk (ByteArray.mk (List.toArray [66,49])) 6 10 [(2:Int)] [ByteArray.mk (List.toArray [65,49])]) (qa.mk (ByteArray.mk (List.toArray [66,50])) 3 0 [] [])) fun(a29:Bool)=>some Bool.false else some Bool.false else some Bool.false else some Bool.false else some Bool.false else Option.bind (qp [qa.mk (ByteArray.mk (List.toArray [65,49])) 5 30 [(1:Int),2] [],qa.mk (ByteArray.mk (List.toArray [66,49])) 6 10 [(2:Int)] [ByteArray.mk (List.toArray [65,49])],qa.mk (ByteArray.mk (List.toArray [66,50])) 3 0 [] [],qa.mk (ByteArray.mk (List.toArray [67,49])) 10 200 [(40:Int)] [ByteArray.mk (List.toArray [66,49]),ByteArray.mk (List.toArray [66,50])]] (ByteArray.mk (List.toArray [67,49]))) fun(a30:List ByteArray)=>Option.bind (qi a30 [ByteArray.mk (List.toArray [65,49]),ByteArray.mk (List.toArray [66,49]),ByteArray.mk (List.toArray [66,50])]) fun(a31:Bool)=>if a31=Bool.true then Option.bind (qp [qa.mk (ByteArray.mk (List.toArray [65,49])) 5 30 [(1:Int),2] [],qa.mk (ByteArray.mk (List.toArray [66,49])) 6 10 [(2:Int)] [ByteArray.mk (List.toArray [65,49])],qa.mk (ByteArray.mk (List.toArray [66,50])) 3 0 [] [],qa.mk (ByteArray.mk (List.toArray [67,49])) 10 200 [(40:Int)] [ByteArray.mk (List.toArray [66,49]),ByteArray.mk (List.toArray [66,50])]] (ByteArray.mk (List.toArray [65,49]))) fun(a32:List ByteArray)=>Option.bind (qp [qa.mk (ByteArray.mk (List.toArray [65,49])) 5 30 [(1:Int),2] [],qa.mk (ByteArray.mk (List.toArray [66,49])) 6 10 [(2:Int)] [ByteArray.mk (List.toArray [65,49])],qa.mk (ByteArray.mk (List.toArray [66,50])) 3 0 [] [],qa.mk (ByteArray.mk (List.toArray [67,49])) 10 200 [(40:Int)] [ByteArray.mk (List.toArray [66,49]),ByteArray.mk (List.toArray [66,50])]] (ByteArray.mk (List.toArray [88]))) fun(a33:List ByteArray)=>if(w64 (((a32.length:Nat):Int)+((a33.length:Nat):Int))==0)=Bool.true then Option.bind (zL [qa.mk (ByteArray.mk (List.toArray [65,49])) 5 30 [(1:Int),2] [],qa.mk (ByteArray.mk (List.toArray [66,49])) 6 10 [(2:Int)] [ByteArray.mk (List.toArray [65,49])],qa.mk (ByteArray.mk (List.toArray [66,50])) 3 0 [] [],qa.mk (ByteArray.mk (List.toArray [67,49])) 10 200 [(40:Int)] [ByteArray.mk (List.toArray [66,49]),ByteArray.mk (List.toArray [66,50])]]) fun(a34:List ByteArray)=>Option.bind (qi a34 [ByteArray.mk (List.toArray [65,49]),ByteArray.mk (List.toArray [66,49]),ByteArray.mk (List.toArray [66,50]),ByteArray.mk (List.toArray [67,49])]) fun(a35:Bool)=>Option.bind (qc [qa.mk (ByteArray.mk (List.toArray [65,49])) 5 30 [(1:Int),2] [],qa.mk (ByteArray.mk (List.toArray [66,49])) 6 10 [(2:Int)] [ByteArray.mk (List.toArray [65,49])],qa.mk (ByteArray.mk (List.toArray [66,50])) 3 0 [] [],qa.mk (ByteArray.mk (List.toArray [67,49])) 10 200 [(40:Int)] [ByteArray.mk (List.toArray [66,49]),ByteArray.mk (List.toArray [66,50])]] (ByteArray.mk (List.toArray [66,49])) [ByteArray.mk (List.toArray [65,49])]) fun(a36:Bool)=>if a36=Bool.true then Option.bind (qc [qa.mk (ByteArray.mk (List.toArray [65,49])) 5 30 [(1:Int),2] [],qa.mk (ByteArray.mk (List.toArray [66,49])) 6 10 [(2:Int)] [ByteArray.mk (List.toArray [65,49])],qa.mk (ByteArray.mk (List.toArray [66,50])) 3 0 [] [],qa.mk (ByteArray.mk (List.toArray [67,49])) 10 200 [(40:Int)] [ByteArray.mk (List.toArray [66,49]),ByteArray.mk (List.toArray [66,50])]] (ByteArray.mk (List.toArray [67,49])) [ByteArray.mk (List.toArray [65,49]),ByteArray.mk (List.toArray [66,49])]) fun(a37:Bool)=>if(!a37)=Bool.true then Option.bind (qc [qa.mk (ByteArray.mk (List.toArray [65,49])) 5 30 [(1:Int),2] [],qa.mk (ByteArray.mk (List.toArray [66,49])) 6 10 [(2:Int)] [ByteArray.mk (List.toArray [65,49])],qa.mk (ByteArray.mk (List.toArray [66,50])) 3 0 [] [],qa.mk (ByteArray.mk (List.toArray [67,49])) 10 200 [(40:Int)] [ByteArray.mk (List.toArray [66,49]),ByteArray.mk (List.toArray [66,50])]] (ByteArray.mk (List.toArray [88])) []) fun(a38:Bool)=>if(!a38)=Bool.true then Option.bind (qg (qa.mk (ByteArray.mk (List.toArray [65,49])) 5 30 [(1:Int),2] []) (qa.mk (ByteArray.mk (List.toArray [66,49])) 6 10 [(2:Int)] [ByteArray.mk (List.toArray [65,49])])) fun(a39:Bool)=>if a39=Bool.true then Option.bind (qg (qa.mk (ByteArray.mk (List.toArray [66,49])) 6 10 [(2:Int)] [ByteArray.mk (List.toArray [65,49])]) (qa.mk (ByteArray.mk (List.toArray [66,50])) 3 0 [] [])) fun(a40:Bool)=>some Bool.false else some Bool.false else some Bool.false else some Bool.false else some Bool.false else Option.bind (qc [qa.mk (ByteArray.mk (List.toArray [65,49])) 5 30 [(1:Int),2] [],qa.mk (ByteArray.mk (List.toArray [66,49])) 6 10 [(2:Int)] [ByteArray.mk (List.toArray [65,49])],qa.mk (ByteArray.mk (List.toArray [66,50])) 3 0 [] [],qa.mk (ByteArray.mk (List.toArray [67,49])) 10 200 [(40:Int)] [ByteArray.mk (List.toArray [66,49]),ByteArray.mk (List.toArray [66,50])]] (ByteArray.mk (List.toArray [66,49])) [ByteArray.mk (List.toArray [65,49])]) fun(a41:Bool)=>if a41=Bool.true then Option.bind (qc [qa.mk (ByteArray.mk (List.toArray [65,49])) 5 30 [(1:Int),2] [],qa.mk (ByteArray.mk (List.toArray [66,49])) 6 10 [(2:Int)] [ByteArray.mk (List.toArray [65,49])],qa.mk (ByteArray.mk (List.toArray [66,50])) 3 0 [] [],qa.mk (ByteArray.mk (List.toArray [67,49])) 10 200 [(40:Int)] [ByteArray.mk (List.toArray [66,49]),ByteArray.mk (List.toArray [66,50])]] (ByteArray.mk (List.toArray [67,49])) [ByteArray.mk (List.toArray [65,49]),ByteArray.mk (List.toArray [66,49])]) fun(a42:Bool)=>if(!a42)=Bool.true then Option.bind (qc [qa.mk (ByteArray.mk (List.toArray [65,49])) 5 30 [(1:Int),2] [],qa.mk (ByteArray.mk (List.toArray [66,49])) 6 10 [(2:Int)] [ByteArray.mk (List.toArray [65,49])],qa.mk (ByteArray.mk (List.toArray [66,50])) 3 0 [] [],qa.mk (ByteArray.mk (List.toArray [67,49])) 10 200 [(40:Int)] [ByteArray.mk (List.toArray [66,49]),ByteArray.mk (List.toArray [66,50])]] (ByteArray.mk (List.toArray [88])) []) fun(a43:Bool)=>if(!a43)=Bool.true then Option.bind (qg (qa.mk (ByteArray.mk (List.toArray [65,49])) 5 30 [(1:Int),2] []) (qa.mk (ByteArray.mk (List.toArray [66,49])) 6 10 [(2:Int)] [ByteArray.mk (List.toArray [65,49])])) fun(a44:Bool)=>if a44=Bool.true then Option.bind (qg (qa.mk (ByteArray.mk (List.toArray [66,49])) 6 10 [(2:Int)] [ByteArray.mk (List.toArray [65,49])]) (qa.mk (ByteArray.mk (List.toArray [66,50])) 3 0 [] [])) fun(a45:Bool)=>some Bool.false else some Bool.false else some Bool.false else some Bool.false else some Bool.false else Option.bind (qc [qa.mk (ByteArray.mk (List.toArray [65,49])) 5 30 [(1:Int),2] [],qa.mk (ByteArray.mk (List.toArray [66,49])) 6 10 [(2:Int)] [ByteArray.mk (List.toArray [65,49])],qa.mk (ByteArray.mk (List.toArray [66,50])) 3 0 [] [],qa.mk (ByteArray.mk (List.toArray [67,49])) 10 200 [(40:Int)] [ByteArray.mk (List.toArray [66,49]),ByteArray.mk (List.toArray [66,50])]] (ByteArray.mk (List.toArray [66,49])) [ByteArray.mk (List.toArray [65,49])]) fun(a46:Bool)=>if a46=Bool.true then Option.bind (qc [qa.mk (ByteArray.mk (List.toArray [65,49])) 5 30 [(1:Int),2] [],qa.mk (ByteArray.mk (List.toArray [66,49])) 6 10 [(2:Int)] [ByteArray.mk (List.toArray [65,49])],qa.mk (ByteArray.mk (List.toArray [66,50])) 3 0 [] [],qa.mk (ByteArray.mk (List.toArray [67,49])) 10 200 [(40:Int)] [ByteArray.mk (List.toArray [66,49]),ByteArray.mk (List.toArray [66,50])]] (ByteArray.mk (List.toArray [67,49])) [ByteArray.mk (List.toArray [65,49]),ByteArray.mk (List.toArray [66,49])]) fun(a47:Bool)=>if(!a47)=Bool.true then Option.bind (qc [qa.mk (ByteArray.mk (List.toArray [65,49])) 5 30 [(1:Int),2] [],qa.mk (ByteArray.mk (List.toArray [66,49])) 6 10 [(2:Int)] [ByteArray.mk (List.toArray [65,49])],qa.mk (ByteArray.mk (List.toArray [66,50])) 3 0 [] [],qa.mk (ByteArray.mk (List.toArray [67,49])) 10 200 [(40:Int)] [ByteArray.mk (List.toArray [66,49]),ByteArray.mk (List.toArray [66,50])]] (ByteArray.mk (List.toArray [88])) []) fun(a48:Bool)=>if(!a48)=Bool.true then Option.bind (qg (qa.mk (ByteArray.mk (List.toArray [65,49])) 5 30 [(1:Int),2] []) (qa.mk (ByteArray.mk (List.toArray [66,49])) 6 10 [(2:Int)] [ByteArray.mk (List.toArray [65,49])])) fun(a49:Bool)=>if a49=Bool.true then Option.bind (qg (qa.mk (ByteArray.mk (List.toArray [66,49])) 6 10 [(2:Int)] [ByteArray.mk (List.toArray [65,49])]) (qa.mk (ByteArray.mk (List.toArray [66,50])) 3 0 [] [])) fun(a50:Bool)=>some Bool.false else some Bool.false else some Bool.false else some Bool.false else some Bool.false else Option.bind (qp [qa.mk (ByteArray.mk (List.toArray [65,49])) 5 30 [(1:Int),2] [],qa.mk (ByteArray.mk (List.toArray [66,49])) 6 10 [(2:Int)] [ByteArray.mk (List.toArray [65,49])],qa.mk (ByteArray.mk (List.toArray [66,50])) 3 0 [] [],qa.mk (ByteArray.mk (List.toArray [67,49])) 10 200 [(40:Int)] [ByteArray.mk (List.toArray [66,49]),ByteArray.mk (List.toArray [66,50])]] (ByteArray.mk (List.toArray [67,49]))) fun(a51:List ByteArray)=>Option.bind (qi a51 [ByteArray.mk (List.toArray [65,49]),ByteArray.mk (List.toArray [66,49]),ByteArray.mk (List.toArray [66,50])]) fun(a52:Bool)=>if a52=Bool.true then Option.bind (qp [qa.mk (ByteArray.mk (List.toArray [65,49])) 5 30 [(1:Int),2] [],qa.mk (ByteArray.mk (List.toArray [66,49])) 6 10 [(2:Int)] [ByteArray.mk (List.toArray [65,49])],qa.mk (ByteArray.mk (List.toArray [66,50])) 3 0 [] [],qa.mk (ByteArray.mk (List.toArray [67,49])) 10 200 [(40:Int)] [ByteArray.mk (List.toArray [66,49]),ByteArray.mk (List.toArray [66,50])]] (ByteArray.mk (List.toArray [65,49]))) fun(a53:List ByteArray)=>Option.bind (qp [qa.mk (ByteArray.mk (List.toArray [65,49])) 5 30 [(1:Int),2] [],qa.mk (ByteArray.mk (List.toArray [66,49])) 6 10 [(2:Int)] [ByteArray.mk (List.toArray [65,49])],qa.mk (ByteArray.mk (List.toArray [66,50])) 3 0 [] [],qa.mk (ByteArray.mk (List.toArray [67,49])) 10 200 [(40:Int)] [ByteArray.mk (List.toArray [66,49]),ByteArray.mk (List.toArray [66,50])]] (ByteArray.mk (List.toArray [88]))) fun(a54:List ByteArray)=>if(w64 (((a53.length:Nat):Int)+((a54.length:Nat):Int))==0)=Bool.true then Option.bind (zL [qa.mk (ByteArray.mk (List.toArray [65,49])) 5 30 [(1:Int),2] [],qa.mk (ByteArray.mk (List.toArray [66,49])) 6 10 [(2:Int)] [ByteArray.mk (List.toArray [65,49])],qa.mk (ByteArray.mk (List.toArray [66,50])) 3 0 [] [],qa.mk (ByteArray.mk (List.toArray [67,49])) 10 200 [(40:Int)] [ByteArray.mk (List.toArray [66,49]),ByteArray.mk (List.toArray [66,50])]]) fun(a55:List ByteArray)=>Option.bind (qi a55 [ByteArray.mk (List.toArray [65,49]),ByteArray.mk (List.toArray [66,49]),ByteArray.mk (List.toArray [66,50]),ByteArray.mk (List.toArray [67,49])]) fun(a56:Bool)=>Option.bind (qc [qa.mk (ByteArray.mk (List.toArray [65,49])) 5 30 [(1:Int),2] [],qa.mk (ByteArray.mk (List.toArray [66,49])) 6 10 [(2:Int)] [ByteArray.mk (List.toArray [65,49])],qa.mk (ByteArray.mk (List.toArray [66,50])) 3 0 [] [],qa.mk (ByteArray.mk (List.toArray [67,49])) 10 200 [(40:Int)] [ByteArray.mk (List.toArray [66,49]),ByteArray.mk (List.toArray [66,50])]] (ByteArray.mk (List.toArray [66,49])) [ByteArray.mk (List.toArray [65,49])]) fun(a57:Bool)=>if a57=Bool.true then Option.bind (qc [qa.mk (ByteArray.mk (List.toArray [65,49])) 5 30 [(1:Int),2] [],qa.mk (ByteArray.mk (List.toArray [66,49])) 6 10 [(2:Int)] [ByteArray.mk (List.toArray [65,49])],qa.mk (ByteArray.mk (List.toArray [66,50])) 3 0 [] [],qa.mk (ByteArray.mk (List.toArray [67,49])) 10 200 [(40:Int)] [ByteArray.mk (List.toArray [66,49]),ByteArray.mk (List.toArray [66,50])]] (ByteArray.mk (List.toArray [67,49])) [ByteArray.mk (List.toArray [65,49]),ByteArray.mk (List.toArray [66,49])]) fun(a58:Bool)=>if(!a58)=Bool.true then Option.bind (qc [qa.mk (ByteArray.mk (List.toArray [65,49])) 5 30 [(1:Int),2] [],qa.mk (ByteArray.mk (List.toArray [66,49])) 6 10 [(2:Int)] [ByteArray.mk (List.toArray [65,49])],qa.mk (ByteArray.mk (List.toArray [66,50])) 3 0 [] [],qa.mk (ByteArray.mk (List.toArray [67,49])) 10 200 [(40:Int)] [ByteArray.mk (List.toArray [66,49]),ByteArray.mk (List.toArray [66,50])]] (ByteArray.mk (List.toArray [88])) []) fun(a59:Bool)=>if(!a59)=Bool.true then Option.bind (qg (qa.mk (ByteArray.mk (List.toArray [65,49])) 5 30 [(1:Int),2] []) (qa.mk (ByteArray.mk (List.toArray [66,49])) 6 10 [(2:Int)] [ByteArray.mk (List.toArray [65,49])])) fun(a60:Bool)=>if a60=Bool.true then Option.bind (qg (qa.mk (ByteArray.mk (List.toArray [66,49])) 6 10 [(2:Int)] [ByteArray.mk (List.toArray [65,49])]) (qa.mk (ByteArray.mk (List.toArray [66,50])) 3 0 [] [])) fun(a61:Bool)=>some Bool.false else some Bool.false else some Bool.false else some Bool.false else some Bool.false else Option.bind (qc [qa.mk (ByteArray.mk (List.toArray [65,49])) 5 30 [(1:Int),2] [],qa.mk (ByteArray.mk (List.toArray [66,49])) 6 10 [(2:Int)] [ByteArray.mk (List.toArray [65,49])],qa.mk (ByteArray.mk (List.toArray [66,50])) 3 0 [] [],qa.mk (ByteArray.mk (List.toArray [67,49])) 10 200 [(40:Int)] [ByteArray.mk (List.toArray [66,49]),ByteArray.mk (List.toArray [66,50])]] (ByteArray.mk (List.toArray [66,49])) [ByteArray.mk (List.toArray [65,49])]) fun(a62:Bool)=>if a62=Bool.true then Option.bind (qc [qa.mk (ByteArray.mk (List.toArray [65,49])) 5 30 [(1:Int),2] [],qa.mk (ByteArray.mk (List.toArray [66,49])) 6 10 [(2:Int)] [ByteArray.mk (List.toArray [65,49])],qa.mk (ByteArray.mk (List.toArray [66,50])) 3 0 [] [],qa.mk (ByteArray.mk (List.toArray [67,49])) 10 200 [(40:Int)] [ByteArray.mk (List.toArray [66,49]),ByteArray.mk (List.toArray [66,50])]] (ByteArray.mk (List.toArray [67,49])) [ByteArray.mk (List.toArray [65,49]),ByteArray.mk (List.toArray [66,49])]) fun(a63:Bool)=>if(!a63)=Bool.true then Option.bind (qc [qa.mk (ByteArray.mk (List.toArray [65,49])) 5 30 [(1:Int),2] [],qa.mk (ByteArray.mk (List.toArray [66,49])) 6 10 [(2:Int)] [ByteArray.mk (List.toArray [65,49])],qa.mk (ByteArray.mk (List.toArray [66,50])) 3 0 [] [],qa.mk (ByteArray.mk (List.toArray [67,49])) 10 200 [(40:Int)] [ByteArray.mk (List.toArray [66,49]),ByteArray.mk (List.toArray [66,50])]] (ByteArray.mk (List.toArray [88])) []) fun(a64:Bool)=>if(!a64)=Bool.true then Option.bind (qg (qa.mk (ByteArray.mk (List.toArray [65,49])) 5 30 [(1:Int),2] []) (qa.mk (ByteArray.mk (List.toArray [66,49])) 6 10 [(2:Int)] [ByteArray.mk (List.toArray [65,49])])) fun(a65:Bool)=>if a65=Bool.true then Option.bind (qg (qa.mk (ByteArray.mk (List.toArray [66,49])) 6 10 [(2:Int)] [ByteArray.mk (List.toArray [65,49])]) (qa.mk (ByteArray.mk (List.toArray [66,50])) 3 0 [] [])) fun(a66:Bool)=>some Bool.false else some Bool.false else some Bool.false else some Bool.false else some Bool.false else Option.bind (qc [qa.mk (ByteArray.mk (List.toArray [65,49])) 5 30 [(1:Int),2] [],qa.mk (ByteArray.mk (List.toArray [66,49])) 6 10 [(2:Int)] [ByteArray.mk (List.toArray [65,49])],qa.mk (ByteArray.mk (List.toArray [66,50])) 3 0 [] [],qa.mk (ByteArray.mk (List.toArray [67,49])) 10 200 [(40:Int)] [ByteArray.mk (List.toArray [66,49]),ByteArray.mk (List.toArray [66,50])]] (ByteArray.mk (List.toArray [66,49])) [ByteArray.mk (List.toArray [65,49])]) fun(a67:Bool)=>if a67=Bool.true then Option.bind (qc [qa.mk (ByteArray.mk (List.toArray [65,49])) 5 30 [(1:Int),2] [],qa.mk (ByteArray.mk (List.toArray [66,49])) 6 10 [(2:Int)] [ByteArray.mk (List.toArray [65,49])],qa.mk (ByteArray.mk (List.toArray [66,50])) 3 0 [] [],qa.mk (ByteArray.mk (List.toArray [67,49])) 10 200 [(40:Int)] [ByteArray.mk (List.toArray [66,49]),ByteArray.mk (List.toArray [66,50])]] (ByteArray.mk (List.toArray [67,49])) [ByteArray.mk (List.toArray [65,49]),ByteArray.mk (List.toArray [66,49])]) fun(a68:Bool)=>if(!a68)=Bool.true then Option.bind (qc [qa.mk (ByteArray.mk (List.toArray [65,49])) 5 30 [(1:Int),2] [],qa.mk (ByteArray.mk (List.toArray [66,49])) 6 10 [(2:Int)] [ByteArray.mk (List.toArray [65,49])],qa.mk (ByteArray.mk (List.toArray [66,50])) 3 0 [] [],qa.mk (ByteArray.mk (List.toArray [67,49])) 10 200 [(40:Int)] [ByteArray.mk (List.toArray [66,49]),ByteArray.mk (List.toArray [66,50])]] (ByteArray.mk (List.toArray [88])) []) fun(a69:Bool)=>if(!a69)=Bool.true then Option.bind (qg (qa.mk (ByteArray.mk (List.toArray [65,49])) 5 30 [(1:Int),2] []) (qa.mk (ByteArray.mk (List.toArray [66,49])) 6 10 [(2:Int)] [ByteArray.mk (List.toArray [65,49])])) fun(a70:Bool)=>if a70=Bool.true then Option.bind (qg (qa.mk (ByteArray.mk (List.toArray [66,49])) 6 10 [(2:Int)] [ByteArray.mk (List.toArray [65,49])]) (qa.mk (ByteArray.mk (List.toArray [66,50])) 3 0 [] [])) fun(a71:Bool)=>some Bool.false else some Bool.false else some Bool.false else some Bool.false else some Bool.false else Option.bind (qp [qa.mk (ByteArray.mk (List.toArray [65,49])) 5 30 [(1:Int),2] [],qa.mk (ByteArray.mk (List.toArray [66,49])) 6 10 [(2:Int)] [ByteArray.mk (List.toArray [65,49])],qa.mk (ByteArray.mk (List.toArray [66,50])) 3 0 [] [],qa.mk (ByteArray.mk (List.toArray [67,49])) 10 200 [(40:Int)] [ByteArray.mk (List.toArray [66,49]),ByteArray.mk (List.toArray [66,50])]] (ByteArray.mk (List.toArray [67,49]))) fun(a72:List ByteArray)=>Option.bind (qi a72 [ByteArray.mk (List.toArray [65,49]),ByteArray.mk (List.toArray [66,49]),ByteArray.mk (List.toArray [66,50])]) fun(a73:Bool)=>if a73=Bool.true then Option.bind (qp [qa.mk (ByteArray.mk (List.toArray [65,49])) 5 30 [(1:Int),2] [],qa.mk (ByteArray.mk (List.toArray [66,49])) 6 10 [(2:Int)] [ByteArray.mk (List.toArray [65,49])],qa.mk (ByteArray.mk (List.toArray [66,50])) 3 0 [] [],qa.mk (ByteArray.mk (List.toArray [67,49])) 10 200 [(40:Int)] [ByteArray.mk (List.toArray [66,49]),ByteArray.mk (List.toArray [66,50])]] (ByteArray.mk (List.toArray [65,49]))) fun(a74:List ByteArray)=>Option.bind (qp [qa.mk (ByteArray.mk (List.toArray [65,49])) 5 30 [(1:Int),2] [],qa.mk (ByteArray.mk (List.toArray [66,49])) 6 10 [(2:Int)] [ByteArray.mk (List.toArray [65,49])],qa.mk (ByteArray.mk (List.toArray [66,50])) 3 0 [] [],qa.mk (ByteArray.mk (List.toArray [67,49])) 10 200 [(40:Int)] [ByteArray.mk (List.toArray [66,49]),ByteArray.mk (List.toArray [66,50])]] (ByteArray.mk (List.toArray [88]))) fun(a75:List ByteArray)=>if(w64 (((a74.length:Nat):Int)+((a75.length:Nat):Int))==0)=Bool.true then Option.bind (zL [qa.mk (ByteArray.mk (List.toArray [65,49])) 5 30 [(1:Int),2] [],qa.mk (ByteArray.mk (List.toArray [66,49])) 6 10 [(2:Int)] [ByteArray.mk (List.toArray [65,49])],qa.mk (ByteArray.mk (List.toArray [66,50])) 3 0 [] [],qa.mk (ByteArray.mk (List.toArray [67,49])) 10 200 [(40:Int)] [ByteArray.mk (List.toArray [66,49]),ByteArray.mk (List.toArray [66,50])]]) fun(a76:List ByteArray)=>Option.bind (qi a76 [ByteArray.mk (List.toArray [65,49]),ByteArray.mk (List.toArray [66,49]),ByteArray.mk (List.toArray [66,50]),ByteArray.mk (List.toArray [67,49])]) fun(a77:Bool)=>Option.bind (qc [qa.mk (ByteArray.mk (List.toArray [65,49])) 5 30 [(1:Int),2] [],qa.mk (ByteArray.mk (List.toArray [66,49])) 6 10 [(2:Int)] [ByteArray.mk (List.toArray [65,49])],qa.mk (ByteArray.mk (List.toArray [66,50])) 3 0 [] [],qa.mk (ByteArray.mk (List.toArray [67,49])) 10 200 [(40:Int)] [ByteArray.mk (List.toArray [66,49]),ByteArray.mk (List.toArray [66,50])]] (ByteArray.mk (List.toArray [66,49])) [ByteArray.mk (List.toArray [65,49])]) fun(a78:Bool)=>if a78=Bool.true then Option.bind (qc [qa.mk (ByteArray.mk (List.toArray [65,49])) 5 30 [(1:Int),2] [],qa.mk (ByteArray.mk (List.toArray [66,49])) 6 10 [(2:Int)] [ByteArray.mk (List.toArray [65,49])],qa.mk (ByteArray.mk (List.toArray [66,50])) 3 0 [] [],qa.mk (ByteArray.mk (List.toArray [67,49])) 10 200 [(40:Int)] [ByteArray.mk (List.toArray [66,49]),ByteArray.mk (List.toArray [66,50])]] (ByteArray.mk (List.toArray [67,49])) [ByteArray.mk (List.toArray [65,49]),ByteArray.mk (List.toArray [66,49])]) fun(a79:Bool)=>if(!a79)=Bool.true then Option.bind (qc [qa.mk (ByteArray.mk (List.toArray [65,49])) 5 30 [(1:Int),2] [],qa.mk (ByteArray.mk (List.toArray [66,49])) 6 10 [(2:Int)] [ByteArray.mk (List.toArray [65,49])],qa.mk (ByteArray.mk (List.toArray [66,50])) 3 0 [] [],qa.mk (ByteArray.mk (List.toArray [67,49])) 10 200 [(40:Int)] [ByteArray.mk (List.toArray [66,49]),ByteArray.mk (List.toArray [66,50])]] (ByteArray.mk (List.toArray [88])) []) fun(a80:Bool)=>if(!a80)=Bool.true then Option.bind (qg (qa.mk (ByteArray.mk (List.toArray [65,49])) 5 30 [(1:Int),2] []) (qa.mk (ByteArray.mk (List.toArray [66,49])) 6 10 [(2:Int)] [ByteArray.mk (List.toArray [65,49])])) fun(a81:Bool)=>if a81=Bool.true then Option.bind (qg (qa.mk (ByteArray.mk (List.toArray [66,49])) 6 10 [(2:Int)] [ByteArray.mk (List.toArray [65,49])]) (qa.mk (ByteArray.mk (List.toArray [66,50])) 3 0 [] [])) fun(a82:Bool)=>some Bool.false else some Bool.false else some Bool.false else some Bool.false else some Bool.false else Option.bind (qc [qa.mk (ByteArray.mk (List.toArray [65,49])) 5 30 [(1:Int),2] [],qa.mk (ByteArray.mk (List.toArray [66,49])) 6 10 [(2:Int)] [ByteArray.mk (List.toArray [65,49])],qa.mk (ByteArray.mk (List.toArray [66,50])) 3 0 [] [],qa.mk (ByteArray.mk (List.toArray [67,49])) 10 200 [(40:Int)] [ByteArray.mk (List.toArray [66,49]),ByteArray.mk (List.toArray [66,50])]] (ByteArray.mk (List.toArray [66,49])) [ByteArray.mk (List.toArray [65,49])]) fun(a83:Bool)=>if a83=Bool.true then Option.bind (qc [qa.mk (ByteArray.mk (List.toArray [65,49])) 5 30 [(1:Int),2] [],qa.mk (ByteArray.mk (List.toArray [66,49])) 6 10 [(2:Int)] [ByteArray.mk (List.toArray [65,49])],qa.mk (ByteArray.mk (List.toArray [66,50])) 3 0 [] [],qa.mk (ByteArray.mk (List.toArray [67,49])) 10 200 [(40:Int)] [ByteArray.mk (List.toArray [66,49]),ByteArray.mk (List.toArray [66,50])]] (ByteArray.mk (List.toArray [67,49])) [ByteArray.mk (List.toArray [65,49]),ByteArray.mk (List.toArray [66,49])]) fun(a84:Bool)=>if(!a84)=Bool.true then Option.bind (qc [qa.mk (ByteArray.mk (List.toArray [65,49])) 5 30 [(1:Int),2] [],qa.mk (ByteArray.mk (List.toArray [66,49])) 6 10 [(2:Int)] [ByteArray.mk (List.toArray [65,49])],qa.mk (ByteArray.mk (List.toArray [66,50])) 3 0 [] [],qa.mk (ByteArray.mk (List.toArray [67,49])) 10 200 [(40:Int)] [ByteArray.mk (List.toArray [66,49]),ByteArray.mk (List.toArray [66,50])]] (ByteArray.mk (List.toArray [88])) []) fun(a85:Bool)=>if(!a85)=Bool.true then Option.bind (qg (qa.mk (ByteArray.mk (List.toArray [65,49])) 5 30 [(1:Int),2] []) (qa.mk (ByteArray.mk (List.toArray [66,49])) 6 10 [(2:Int)] [ByteArray.mk (List.toArray [65,49])])) fun(a86:Bool)=>if a86=Bool.true then Option.bind (qg (qa.mk (ByteArray.mk (List.toArray [66,49])) 6 10 [(2:Int)] [ByteArray.mk (List.toArray [65,49])]) (qa.mk (ByteArray.mk (List.toArray [66,50])) 3 0 [] [])) fun(a87:Bool)=>some Bool.false else some Bool.false else some Bool.false else some Bool.false else some Bool.false else Option.bind (qc [qa.mk (ByteArray.mk (List.toArray [65,49])) 5 30 [(1:Int),2] [],qa.mk (ByteArray.mk (List.toArray [66,49])) 6 10 [(2:Int)] [ByteArray.mk (List.toArray [65,49])],qa.mk (ByteArray.mk (List.toArray [66,50])) 3 0 [] [],qa.mk (ByteArray.mk (List.toArray [67,49])) 10 200 [(40:Int)] [ByteArray.mk (List.toArray [66,49]),ByteArray.mk (List.toArray [66,50])]] (ByteArray.mk (List.toArray [66,49])) [ByteArray.mk (List.toArray [65,49])]) fun(a88:Bool)=>if a88=Bool.true then Option.bind (qc [qa.mk (ByteArray.mk (List.toArray [65,49])) 5 30 [(1:Int),2] [],qa.mk (ByteArray.mk (List.toArray [66,49])) 6 10 [(2:Int)] [ByteArray.mk (List.toArray [65,49])],qa.mk (ByteArray.mk (List.toArray [66,50])) 3 0 [] [],qa.mk (ByteArray.mk (List.toArray [67,49])) 10 200 [(40:Int)] [ByteArray.mk (List.toArray [66,49]),ByteArray.mk (List.toArray [66,50])]] (ByteArray.mk (List.toArray [67,49])) [ByteArray.mk (List.toArray [65,49]),ByteArray.mk (List.toArray [66,49])]) fun(a89:Bool)=>if(!a89)=Bool.true then Option.bind (qc [qa.mk (ByteArray.mk (List.toArray [65,49])) 5 30 [(1:Int),2] [],qa.mk (ByteArray.mk (List.toArray [66,49])) 6 10 [(2:Int)] [ByteArray.mk (List.toArray [65,49])],qa.mk (ByteArray.mk (List.toArray [66,50])) 3 0 [] [],qa.mk (ByteArray.mk (List.toArray [67,49])) 10 200 [(40:Int)] [ByteArray.mk (List.toArray [66,49]),ByteArray.mk (List.toArray [66,50])]] (ByteArray.mk (List.toArray [88])) []) fun(a90:Bool)=>if(!a90)=Bool.true then Option.bind (qg (qa.mk (ByteArray.mk (List.toArray [65,49])) 5 30 [(1:Int),2] []) (qa.mk (ByteArray.mk (List.toArray [66,49])) 6 10 [(2:Int)] [ByteArray.mk (List.toArray [65,49])])) fun(a91:Bool)=>if a91=Bool.true then Option.bind (qg (qa.mk (ByteArray.mk (List.toArray [66,49])) 6 10 [(2:Int)] [ByteArray.mk (List.toArray [65,49])]) (qa.mk (ByteArray.mk (List.toArray [66,50])) 3 0 [] [])) fun(a92:Bool)=>some Bool.false else some Bool.false else some Bool.false else some Bool.false else some Bool.false else Option.bind (qp [qa.mk (ByteArray.mk (List.toArray [65,49])) 5 30 [(1:Int),2] [],qa.mk (ByteArray.mk (List.toArray [66,49])) 6 10 [(2:Int)] [ByteArray.mk (List.toArray [65,49])],qa.mk (ByteArray.mk (List.toArray [66,50])) 3 0 [] [],qa.mk (ByteArray.mk (List.toArray [67,49])) 10 200 [(40:Int)] [ByteArray.mk (List.toArray [66,49]),ByteArray.mk (List.toArray [66,50])]] (ByteArray.mk (List.toArray [67,49]))) fun(a93:List ByteArray)=>Option.bind (qi a93 [ByteArray.mk (List.toArray [65,49]),ByteArray.mk (List.toArray [66,49]),ByteArray.mk (List.toArray [66,50])]) fun(a94:Bool)=>if a94=Bool.true then Option.bind (qp [qa.mk (ByteArray.mk (List.toArray [65,49])) 5 30 [(1:Int),2] [],qa.mk (ByteArray.mk (List.toArray [66,49])) 6 10 [(2:Int)] [ByteArray.mk (List.toArray [65,49])],qa.mk (ByteArray.mk (List.toArray [66,50])) 3 0 [] [],qa.mk (ByteArray.mk (List.toArray [67,49])) 10 200 [(40:Int)] [ByteArray.mk (List.toArray [66,49]),ByteArray.mk (List.toArray [66,50])]] (ByteArray.mk (List.toArray [65,49]))) fun(a95:List ByteArray)=>Option.bind (qp [qa.mk (ByteArray.mk (List.toArray [65,49])) 5 30 [(1:Int),2] [],qa.mk (ByteArray.mk (List.toArray [66,49])) 6 10 [(2:Int)] [ByteArray.mk (List.toArray [65,49])],qa.mk (ByteArray.mk (List.toArray [66,50])) 3 0 [] [],qa.mk (ByteArray.mk (List.toArray [67,49])) 10 200 [(40:Int)] [ByteArray.mk (List.toArray [66,49]),ByteArray.mk (List.toArray [66,50])]] (ByteArray.mk (List.toArray [88]))) fun(a96:List ByteArray)=>if(w64 (((a95.length:Nat):Int)+((a96.length:Nat):Int))==0)=Bool.true then Option.bind (zL [qa.mk (ByteArray.mk (List.toArray [65,49])) 5 30 [(1:Int),2] [],qa.mk (ByteArray.mk (List.toArray [66,49])) 6 10 [(2:Int)] [ByteArray.mk (List.toArray [65,49])],qa.mk (ByteArray.mk (List.toArray [66,50])) 3 0 [] [],qa.mk (ByteArray.mk (List.toArray [67,49])) 10 200 [(40:Int)] [ByteArray.mk (List.toArray [66,49]),ByteArray.mk (List.toArray [66,50])]]) fun(a97:List ByteArray)=>Option.bind (qi a97 [ByteArray.mk (List.toArray [65,49]),ByteArray.mk (List.toArray [66,49]),ByteArray.mk (List.toArray [66,50]),ByteArray.mk (List.toArray [67,49])]) fun(a98:Bool)=>Option.bind (qc [qa.mk (ByteArray.mk (List.toArray [65,49])) 5 30 [(1:Int),2] [],qa.mk (ByteArray.mk (List.toArray [66,49])) 6 10 [(2:Int)] [ByteArray.mk (List.toArray [65,49])],qa.mk (ByteArray.mk (List.toArray [66,50])) 3 0 [] [],qa.mk (ByteArray.mk (List.toArray [67,49])) 10 200 [(40:Int)] [ByteArray.mk (List.toArray [66,49]),ByteArray.mk (List.toArray [66,50])]] (ByteArray.mk (List.toArray [66,49])) [ByteArray.mk (List.toArray [65,49])]) fun(a99:Bool)=>if a99=Bool.true then Option.bind (qc [qa.mk (ByteArray.mk (List.toArray [65,49])) 5 30 [(1:Int),2] [],qa.mk (ByteArray.mk (List.toArray [66,49])) 6 10 [(2:Int)] [ByteArray.mk (List.toArray [65,49])],qa.mk (ByteArray.mk (List.toArray [66,50])) 3 0 [] [],qa.mk (ByteArray.mk (List.toArray [67,49])) 10 200 [(40:Int)] [ByteArray.mk (List.toArray [66,49]),ByteArray.mk (List.toArray [66,50])]] (ByteArray.mk (List.toArray [67,49])) [ByteArray.mk (List.toArray [65,49]),ByteArray.mk (List.toArray [66,49])]) fun(a100:Bool)=>if(!a100)=Bool.true then Option.bind (qc [qa.mk (ByteArray.mk (List.toArray [65,49])) 5 30 [(1:Int),2] [],qa.mk (ByteArray.mk (List.toArray [66,49])) 6 10 [(2:Int)] [ByteArray.mk (List.toArray [65,49])],qa.mk (ByteArray.mk (List.toArray [66,50])) 3 0 [] [],qa.mk (ByteArray.mk (List.toArray [67,49])) 10 200 [(40:Int)] [ByteArray.mk (List.toArray [66,49]),ByteArray.mk (List.toArray [66,50])]] (ByteArray.mk (List.toArray [88])) []) fun(a101:Bool)=>if(!a101)=Bool.true then Option.bind (qg (qa.mk (ByteArray.mk (List.toArray [65,49])) 5 30 [(1:Int),2] []) (qa.mk (ByteArray.mk (List.toArray [66,49])) 6 10 [(2:Int)] [ByteArray.mk (List.toArray [65,49])])) fun(a102:Bool)=>if a102=Bool.true then Option.bind (qg (qa.mk (ByteArray.mk (List.toArray [66,49])) 6 10 [(2:Int)] [ByteArray.mk (List.toArray [65,49])]) (qa.mk (ByteArray.mk (List.toArray [66,50])) 3 0 [] [])) fun(a103:Bool)=>some Bool.false else some Bool.false else some Bool.false else some Bool.false else some Bool.false else Option.bind (qc [qa.mk (ByteArray.mk (List.toArray [65,49])) 5 30 [(1:Int),2] [],qa.mk (ByteArray.mk (List.toArray [66,49])) 6 10 [(2:Int)] [ByteArray.mk (List.toArray [65,49])],qa.mk (ByteArray.mk (List.toArray [66,50])) 3 0 [] [],qa.mk (ByteArray.mk (List.toArray [67,49])) 10 200 [(40:Int)] [ByteArray.mk (List.toArray [66,49]),ByteArray.mk (List.toArray [66,50])]] (ByteArray.mk (List.toArray [66,49])) [ByteArray.mk (List.toArray [65,49])]) fun(a104:Bool)=>if a104=Bool.true then Option.bind (qc [qa.mk (ByteArray.mk (List.toArray [65,49])) 5 30 [(1:Int),2] [],qa.mk (ByteArray.mk (List.toArray [66,49])) 6 10 [(2:Int)] [ByteArray.mk (List.toArray [65,49])],qa.mk (ByteArray.mk (List.toArray [66,50])) 3 0 [] [],qa.mk (ByteArray.mk (List.toArray [67,49])) 10 200 [(40:Int)] [ByteArray.mk (List.toArray [66,49]),ByteArray.mk (List.toArray [66,50])]] (ByteArray.mk (List.toArray [67,49])) [ByteArray.mk (List.toArray [65,49]),ByteArray.mk (List.toArray [66,49])]) fun(a105:Bool)=>if(!a105)=Bool.true then Option.bind (qc [qa.mk (ByteArray.mk (List.toArray [65,49])) 5 30 [(1:Int),2] [],qa.mk (ByteArray.mk (List.toArray [66,49])) 6 10 [(2:Int)] [ByteArray.mk (List.toArray [65,49])],qa.mk (ByteArray.mk (List.toArray [66,50])) 3 0 [] [],qa.mk (ByteArray.mk (List.toArray [67,49])) 10 200 [(40:Int)] [ByteArray.mk (List.toArray [66,49]),ByteArray.mk (List.toArray [66,50])]] (ByteArray.mk (List.toArray [88])) []) fun(a106:Bool)=>if(!a106)=Bool.true then Option.bind (qg (qa.mk (ByteArray.mk (List.toArray [65,49])) 5 30 [(1:Int),2] []) (qa.mk (ByteArray.mk (List.toArray [66,49])) 6 10 [(2:Int)] [ByteArray.mk (List.toArray [65,49])])) fun(a107:Bool)=>if a107=Bool.true then Option.bind (qg (qa.mk (ByteArray.mk (List.toArray [66,49])) 6 10 [(2:Int)] [ByteArray.mk (List.toArray [65,49])]) (qa.mk (ByteArray.mk (List.toArray [66,50])) 3 0 [] [])) fun(a108:Bool)=>some Bool.false else some Bool.false else some Bool.false else some Bool.false else some Bool.false else Option.bind (qc [qa.mk (ByteArray.mk (List.toArray [65,49])) 5 30 [(1:Int),2] [],qa.mk (ByteArray.mk (List.toArray [66,49])) 6 10 [(2:Int)] [ByteArray.mk (List.toArray [65,49])],qa.mk (ByteArray.mk (List.toArray [66,50])) 3 0 [] [],qa.mk (ByteArray.mk (List.toArray [67,49])) 10 200 [(40:Int)] [ByteArray.mk (List.toArray [66,49]),ByteArray.mk (List.toArray [66,50])]] (ByteArray.mk (List.toArray [66,49])) [ByteArray.mk (List.toArray [65,49])]) fun(a109:Bool)=>if a109=Bool.true then Option.bind (qc [qa.mk (ByteArray.mk (List.toArray [65,49])) 5 30 [(1:Int),2] [],qa.mk (ByteArray.mk (List.toArray [66,49])) 6 10 [(2:Int)] [ByteArray.mk (List.toArray [65,49])],qa.mk (ByteArray.mk (List.toArray [66,50])) 3 0 [] [],qa.mk (ByteArray.mk (List.toArray [67,49])) 10 200 [(40:Int)] [ByteArray.mk (List.toArray [66,49]),ByteArray.mk (List.toArray [66,50])]] (ByteArray.mk (List.toArray [67,49])) [ByteArray.mk (List.toArray [65,49]),ByteArray.mk (List.toArray [66,49])]) fun(a110:Bool)=>if(!a110)=Bool.true then Option.bind (qc [qa.mk (ByteArray.mk (List.toArray [65,49])) 5 30 [(1:Int),2] [],qa.mk (ByteArray.mk (List.toArray [66,49])) 6 10 [(2:Int)] [ByteArray.mk (List.toArray [65,49])],qa.mk (ByteArray.mk (List.toArray [66,50])) 3 0 [] [],qa.mk (ByteArray.mk (List.toArray [67,49])) 10 200 [(40:Int)] [ByteArray.mk (List.toArray [66,49]),ByteArray.mk (List.toArray [66,50])]] (ByteArray.mk (List.toArray [88])) []) fun(a111:Bool)=>if(!a111)=Bool.true then Option.bind (qg (qa.mk (ByteArray.mk (List.toArray [65,49])) 5 30 [(1:Int),2] []) (qa.mk (ByteArray.mk (List.toArray [66,49])) 6 10 [(2:Int)] [ByteArray.mk (List.toArray [65,49])])) fun(a112:Bool)=>if a112=Bool.true then Option.bind (qg (qa.mk (ByteArray.mk (List.toArray [66,49])) 6 10 [(2:Int)] [ByteArray.mk (List.toArray [65,49])]) (qa.mk (ByteArray.mk (List.toArray [66,50])) 3 0 [] [])) fun(a113:Bool)=>some Bool.false else some Bool.false else some Bool.false else some Bool.false else some Bool.false
theorem q2W:ev 8 0 [] []=(QQ).bind (fun(e:Bool)=>some (rB e,[])):=
 by
  rw[z8 bd8 pw8.2.2.2 lo8]
  have:=cx8;have:=@q2k;have:=@q1G;have:=@q1I;have:=@q1z;have:=@q1D;have:=@q0p;have:=@q1v;have:=@q2n;have:=@q0n;have:=@q2E;have:=@q2u;have:=@q1E;have:=@q1K;have:=@q0C;have:=@QQ.eq_1;exact gA
def JQ (fu:Nat):Option Bool:=Option.bind (Qe fu [qa.mk (ByteArray.mk (List.toArray [65,49])) 5 30 [(1:Int),2] [],qa.mk (ByteArray.mk (List.toArray [66,49])) 6 10 [(2:Int)] [ByteArray.mk (List.toArray [65,49])],qa.mk (ByteArray.mk (List.toArray [66,50])) 3 0 [] [],qa.mk (ByteArray.mk (List.toArray [67,49])) 10 200 [(40:Int)] [ByteArray.mk (List.toArray [66,49]),ByteArray.mk (List.toArray [66,50])]]) fun(a:Int)=>if(a==0)=Bool.true then Option.bind (Qe fu [qa.mk (ByteArray.mk (List.toArray [65,49])) 5 30 [(1:Int),2] [],qa.mk (ByteArray.mk (List.toArray [66,50])) 6 10 [(2:Int)] [ByteArray.mk (List.toArray [65,49])],qa.mk (ByteArray.mk (List.toArray [66,50])) 3 0 [] [],qa.mk (ByteArray.mk (List.toArray [67,49])) 10 200 [(40:Int)] [ByteArray.mk (List.toArray [66,49]),ByteArray.mk (List.toArray [66,50])]]) fun(a2:Int)=>if(a2==6)=Bool.true then Option.bind (Qe fu [qa.mk (ByteArray.mk (List.toArray [65,49])) 5 30 [(1:Int),2] [ByteArray.mk (List.toArray [67,49])],qa.mk (ByteArray.mk (List.toArray [66,49])) 6 10 [(2:Int)] [ByteArray.mk (List.toArray [65,49])],qa.mk (ByteArray.mk (List.toArray [66,50])) 3 0 [] [],qa.mk (ByteArray.mk (List.toArray [67,49])) 10 200 [(40:Int)] [ByteArray.mk (List.toArray [66,49]),ByteArray.mk (List.toArray [66,50])]]) fun(a3:Int)=>if(a3==14)=Bool.true then Option.bind (Qe fu [qa.mk (ByteArray.mk (List.toArray [65,49])) 5 30 [(1:Int),2] [],qa.mk (ByteArray.mk (List.toArray [66,49])) 6 10 [(2:Int)] [ByteArray.mk (List.toArray [65,49])],qa.mk (ByteArray.mk (List.toArray [66,50])) 3 0 [] [ByteArray.mk (List.toArray [88])],qa.mk (ByteArray.mk (List.toArray [67,49])) 10 200 [(40:Int)] [ByteArray.mk (List.toArray [66,49]),ByteArray.mk (List.toArray [66,50])]]) fun(a4:Int)=>if(a4==5)=Bool.true then Option.bind (Qe fu [qa.mk (ByteArray.mk (List.toArray [65,49])) 5 30 [(1:Int),2] [],qa.mk (ByteArray.mk (List.toArray [66,49])) 6 10 [(2:Int)] [ByteArray.mk (List.toArray [65,49])],qa.mk (ByteArray.mk (List.toArray [66,50])) 3 0 [] [],qa.mk (ByteArray.mk (List.toArray [67,49])) 61 200 [(40:Int)] [ByteArray.mk (List.toArray [66,49]),ByteArray.mk (List.toArray [66,50])]]) fun(a5:Int)=>Option.bind (qF fu [qa.mk (ByteArray.mk (List.toArray [65,49])) 5 30 [(1:Int),2] [],qa.mk (ByteArray.mk (List.toArray [66,49])) 6 10 [(2:Int)] [ByteArray.mk (List.toArray [65,49])],qa.mk (ByteArray.mk (List.toArray [66,50])) 3 0 [] [],qa.mk (ByteArray.mk (List.toArray [67,49])) 10 200 [(40:Int)] [ByteArray.mk (List.toArray [66,49]),ByteArray.mk (List.toArray [66,50])]] (ByteArray.mk (List.toArray [67,49]))) fun(a6:List ByteArray)=>Option.bind (qN fu a6 [ByteArray.mk (List.toArray [65,49]),ByteArray.mk (List.toArray [66,49]),ByteArray.mk (List.toArray [66,50])]) fun(a7:Bool)=>if a7=Bool.true then Option.bind (qF fu [qa.mk (ByteArray.mk (List.toArray [65,49])) 5 30 [(1:Int),2] [],qa.mk (ByteArray.mk (List.toArray [66,49])) 6 10 [(2:Int)] [ByteArray.mk (List.toArray [65,49])],qa.mk (ByteArray.mk (List.toArray [66,50])) 3 0 [] [],qa.mk (ByteArray.mk (List.toArray [67,49])) 10 200 [(40:Int)] [ByteArray.mk (List.toArray [66,49]),ByteArray.mk (List.toArray [66,50])]] (ByteArray.mk (List.toArray [65,49]))) fun(a8:List ByteArray)=>Option.bind (qF fu [qa.mk (ByteArray.mk (List.toArray [65,49])) 5 30 [(1:Int),2] [],qa.mk (ByteArray.mk (List.toArray [66,49])) 6 10 [(2:Int)] [ByteArray.mk (List.toArray [65,49])],qa.mk (ByteArray.mk (List.toArray [66,50])) 3 0 [] [],qa.mk (ByteArray.mk (List.toArray [67,49])) 10 200 [(40:Int)] [ByteArray.mk (List.toArray [66,49]),ByteArray.mk (List.toArray [66,50])]] (ByteArray.mk (List.toArray [88]))) fun(a9:List ByteArray)=>if(w64 (((a8.length:Nat):Int)+((a9.length:Nat):Int))==0)=Bool.true then Option.bind (Qs fu [qa.mk (ByteArray.mk (List.toArray [65,49])) 5 30 [(1:Int),2] [],qa.mk (ByteArray.mk (List.toArray [66,49])) 6 10 [(2:Int)] [ByteArray.mk (List.toArray [65,49])],qa.mk (ByteArray.mk (List.toArray [66,50])) 3 0 [] [],qa.mk (ByteArray.mk (List.toArray [67,49])) 10 200 [(40:Int)] [ByteArray.mk (List.toArray [66,49]),ByteArray.mk (List.toArray [66,50])]]) fun(a10:List ByteArray)=>Option.bind (qN fu a10 [ByteArray.mk (List.toArray [65,49]),ByteArray.mk (List.toArray [66,49]),ByteArray.mk (List.toArray [66,50]),ByteArray.mk (List.toArray [67,49])]) fun(a11:Bool)=>Option.bind (qe fu [qa.mk (ByteArray.mk (List.toArray [65,49])) 5 30 [(1:Int),2] [],qa.mk (ByteArray.mk (List.toArray [66,49])) 6 10 [(2:Int)] [ByteArray.mk (List.toArray [65,49])],qa.mk (ByteArray.mk (List.toArray [66,50])) 3 0 [] [],qa.mk (ByteArray.mk (List.toArray [67,49])) 10 200 [(40:Int)] [ByteArray.mk (List.toArray [66,49]),ByteArray.mk (List.toArray [66,50])]] (ByteArray.mk (List.toArray [66,49])) [ByteArray.mk (List.toArray [65,49])]) fun(a12:Bool)=>if a12=Bool.true then Option.bind (qe fu [qa.mk (ByteArray.mk (List.toArray [65,49])) 5 30 [(1:Int),2] [],qa.mk (ByteArray.mk (List.toArray [66,49])) 6 10 [(2:Int)] [ByteArray.mk (List.toArray [65,49])],qa.mk (ByteArray.mk (List.toArray [66,50])) 3 0 [] [],qa.mk (ByteArray.mk (List.toArray [67,49])) 10 200 [(40:Int)] [ByteArray.mk (List.toArray [66,49]),ByteArray.mk (List.toArray [66,50])]] (ByteArray.mk (List.toArray [67,49])) [ByteArray.mk (List.toArray [65,49]),ByteArray.mk (List.toArray [66,49])]) fun(a13:Bool)=>if(!a13)=Bool.true then Option.bind (qe fu [qa.mk (ByteArray.mk (List.toArray [65,49])) 5 30 [(1:Int),2] [],qa.mk (ByteArray.mk (List.toArray [66,49])) 6 10 [(2:Int)] [ByteArray.mk (List.toArray [65,49])],qa.mk (ByteArray.mk (List.toArray [66,50])) 3 0 [] [],qa.mk (ByteArray.mk (List.toArray [67,49])) 10 200 [(40:Int)] [ByteArray.mk (List.toArray [66,49]),ByteArray.mk (List.toArray [66,50])]] (ByteArray.mk (List.toArray [88])) []) fun(a14:Bool)=>if(!a14)=Bool.true then Option.bind (qj fu (qa.mk (ByteArray.mk (List.toArray [65,49])) 5 30 [(1:Int),2] []) (qa.mk (ByteArray.mk (List.toArray [66,49])) 6 10 [(2:Int)] [ByteArray.mk (List.toArray [65,49])])) fun(a15:Bool)=>if a15=Bool.true then Option.bind (qj fu (qa.mk (ByteArray.mk (List.toArray [66,49])) 6 10 [(2:Int)] [ByteArray.mk (List.toArray [65,49])]) (qa.mk (ByteArray.mk (List.toArray [66,50])) 3 0 [] [])) fun(a16:Bool)=>if(a5==3)=Bool.true then if a11=Bool.true then if(!a16)=Bool.true then Option.bind (Zd fu (ByteArray.mk (List.toArray [65,49]))) fun(a17:Bool)=>if a17=Bool.true then Option.bind (Zd fu (ByteArray.mk (List.toArray [97,49]))) fun(a18:Bool)=>if(!a18)=Bool.true then Option.bind (Zd fu (ByteArray.mk (List.toArray []))) fun(a19:Bool)=>some (!a19) else some Bool.false else some Bool.false else some Bool.false else some Bool.false else some Bool.false else some Bool.false else some Bool.false else some Bool.false else some Bool.false else Option.bind (qe fu [qa.mk (ByteArray.mk (List.toArray [65,49])) 5 30 [(1:Int),2] [],qa.mk (ByteArray.mk (List.toArray [66,49])) 6 10 [(2:Int)] [ByteArray.mk (List.toArray [65,49])],qa.mk (ByteArray.mk (List.toArray [66,50])) 3 0 [] [],qa.mk (ByteArray.mk (List.toArray [67,49])) 10 200 [(40:Int)] [ByteArray.mk (List.toArray [66,49]),ByteArray.mk (List.toArray [66,50])]] (ByteArray.mk (List.toArray [66,49])) [ByteArray.mk (List.toArray [65,49])]) fun(a20:Bool)=>if a20=Bool.true then Option.bind (qe fu [qa.mk (ByteArray.mk (List.toArray [65,49])) 5 30 [(1:Int),2] [],qa.mk (ByteArray.mk (List.toArray [66,49])) 6 10 [(2:Int)] [ByteArray.mk (List.toArray [65,49])],qa.mk (ByteArray.mk (List.toArray [66,50])) 3 0 [] [],qa.mk (ByteArray.mk (List.toArray [67,49])) 10 200 [(40:Int)] [ByteArray.mk (List.toArray [66,49]),ByteArray.mk (List.toArray [66,50])]] (ByteArray.mk (List.toArray [67,49])) [ByteArray.mk (List.toArray [65,49]),ByteArray.mk (List.toArray [66,49])]) fun(a21:Bool)=>if(!a21)=Bool.true then Option.bind (qe fu [qa.mk (ByteArray.mk (List.toArray [65,49])) 5 30 [(1:Int),2] [],qa.mk (ByteArray.mk (List.toArray [66,49])) 6 10 [(2:Int)] [ByteArray.mk (List.toArray [65,49])],qa.mk (ByteArray.mk (List.toArray [66,50])) 3 0 [] [],qa.mk (ByteArray.mk (List.toArray [67,49])) 10 200 [(40:Int)] [ByteArray.mk (List.toArray [66,49]),ByteArray.mk (List.toArray [66,50])]] (ByteArray.mk (List.toArray [88])) []) fun(a22:Bool)=>if(!a22)=Bool.true then Option.bind (qj fu (qa.mk (ByteArray.mk (List.toArray [65,49])) 5 30 [(1:Int),2] []) (qa.mk (ByteArray.mk (List.toArray [66,49])) 6 10 [(2:Int)] [ByteArray.mk (List.toArray [65,49])])) fun(a23:Bool)=>if a23=Bool.true then Option.bind (qj fu (qa.mk (ByteArray.mk (List.toArray [66,49])) 6 10 [(2:Int)] [ByteArray.mk (List.toArray [65,49])]) (qa.mk (ByteArray.mk (List.toArray [66,50])) 3 0 [] [])) fun(a24:Bool)=>some Bool.false else some Bool.false else some Bool.false else some Bool.false else some Bool.false else Option.bind (qe fu [qa.mk (ByteArray.mk (List.toArray [65,49])) 5 30 [(1:Int),2] [],qa.mk (ByteArray.mk (List.toArray [66,49])) 6 10 [(2:Int)] [ByteArray.mk (List.toArray [65,49])],qa.mk (ByteArray.mk (List.toArray [66,50])) 3 0 [] [],qa.mk (ByteArray.mk (List.toArray [67,49])) 10 200 [(40:Int)] [ByteArray.mk (List.toArray [66,49]),ByteArray.mk (List.toArray [66,50])]] (ByteArray.mk (List.toArray [66,49])) [ByteArray.mk (List.toArray [65,49])]) fun(a25:Bool)=>if a25=Bool.true then Option.bind (qe fu [qa.mk (ByteArray.mk (List.toArray [65,49])) 5 30 [(1:Int),2] [],qa.mk (ByteArray.mk (List.toArray [66,49])) 6 10 [(2:Int)] [ByteArray.mk (List.toArray [65,49])],qa.mk (ByteArray.mk (List.toArray [66,50])) 3 0 [] [],qa.mk (ByteArray.mk (List.toArray [67,49])) 10 200 [(40:Int)] [ByteArray.mk (List.toArray [66,49]),ByteArray.mk (List.toArray [66,50])]] (ByteArray.mk (List.toArray [67,49])) [ByteArray.mk (List.toArray [65,49]),ByteArray.mk (List.toArray [66,49])]) fun(a26:Bool)=>if(!a26)=Bool.true then Option.bind (qe fu [qa.mk (ByteArray.mk (List.toArray [65,49])) 5 30 [(1:Int),2] [],qa.mk (ByteArray.mk (List.toArray [66,49])) 6 10 [(2:Int)] [ByteArray.mk (List.toArray [65,49])],qa.mk (ByteArray.mk (List.toArray [66,50])) 3 0 [] [],qa.mk (ByteArray.mk (List.toArray [67,49])) 10 200 [(40:Int)] [ByteArray.mk (List.toArray [66,49]),ByteArray.mk (List.toArray [66,50])]] (ByteArray.mk (List.toArray [88])) []) fun(a27:Bool)=>if(!a27)=Bool.true then Option.bind (qj fu (qa.mk (ByteArray.mk (List.toArray [65,49])) 5 30 [(1:Int),2] []) (qa.mk (ByteArray.mk (List.toArray [66,49])) 6 10 [(2:Int)] [ByteArray.mk (List.toArray [65,49])])) fun(a28:Bool)=>if a28=Bool.true then Option.bind (qj fu (qa.mk (ByteArray.mk (List.toArray [66,49])) 6 10 [(2:Int)] [ByteArray.mk (List.toArray [65,49])]) (qa.mk (ByteArray.mk (List.toArray [66,50])) 3 0 [] [])) fun(a29:Bool)=>some Bool.false else some Bool.false else some Bool.false else some Bool.false else some Bool.false else Option.bind (qF fu [qa.mk (ByteArray.mk (List.toArray [65,49])) 5 30 [(1:Int),2] [],qa.mk (ByteArray.mk (List.toArray [66,49])) 6 10 [(2:Int)] [ByteArray.mk (List.toArray [65,49])],qa.mk (ByteArray.mk (List.toArray [66,50])) 3 0 [] [],qa.mk (ByteArray.mk (List.toArray [67,49])) 10 200 [(40:Int)] [ByteArray.mk (List.toArray [66,49]),ByteArray.mk (List.toArray [66,50])]] (ByteArray.mk (List.toArray [67,49]))) fun(a30:List ByteArray)=>Option.bind (qN fu a30 [ByteArray.mk (List.toArray [65,49]),ByteArray.mk (List.toArray [66,49]),ByteArray.mk (List.toArray [66,50])]) fun(a31:Bool)=>if a31=Bool.true then Option.bind (qF fu [qa.mk (ByteArray.mk (List.toArray [65,49])) 5 30 [(1:Int),2] [],qa.mk (ByteArray.mk (List.toArray [66,49])) 6 10 [(2:Int)] [ByteArray.mk (List.toArray [65,49])],qa.mk (ByteArray.mk (List.toArray [66,50])) 3 0 [] [],qa.mk (ByteArray.mk (List.toArray [67,49])) 10 200 [(40:Int)] [ByteArray.mk (List.toArray [66,49]),ByteArray.mk (List.toArray [66,50])]] (ByteArray.mk (List.toArray [65,49]))) fun(a32:List ByteArray)=>Option.bind (qF fu [qa.mk (ByteArray.mk (List.toArray [65,49])) 5 30 [(1:Int),2] [],qa.mk (ByteArray.mk (List.toArray [66,49])) 6 10 [(2:Int)] [ByteArray.mk (List.toArray [65,49])],qa.mk (ByteArray.mk (List.toArray [66,50])) 3 0 [] [],qa.mk (ByteArray.mk (List.toArray [67,49])) 10 200 [(40:Int)] [ByteArray.mk (List.toArray [66,49]),ByteArray.mk (List.toArray [66,50])]] (ByteArray.mk (List.toArray [88]))) fun(a33:List ByteArray)=>if(w64 (((a32.length:Nat):Int)+((a33.length:Nat):Int))==0)=Bool.true then Option.bind (Qs fu [qa.mk (ByteArray.mk (List.toArray [65,49])) 5 30 [(1:Int),2] [],qa.mk (ByteArray.mk (List.toArray [66,49])) 6 10 [(2:Int)] [ByteArray.mk (List.toArray [65,49])],qa.mk (ByteArray.mk (List.toArray [66,50])) 3 0 [] [],qa.mk (ByteArray.mk (List.toArray [67,49])) 10 200 [(40:Int)] [ByteArray.mk (List.toArray [66,49]),ByteArray.mk (List.toArray [66,50])]]) fun(a34:List ByteArray)=>Option.bind (qN fu a34 [ByteArray.mk (List.toArray [65,49]),ByteArray.mk (List.toArray [66,49]),ByteArray.mk (List.toArray [66,50]),ByteArray.mk (List.toArray [67,49])]) fun(a35:Bool)=>Option.bind (qe fu [qa.mk (ByteArray.mk (List.toArray [65,49])) 5 30 [(1:Int),2] [],qa.mk (ByteArray.mk (List.toArray [66,49])) 6 10 [(2:Int)] [ByteArray.mk (List.toArray [65,49])],qa.mk (ByteArray.mk (List.toArray [66,50])) 3 0 [] [],qa.mk (ByteArray.mk (List.toArray [67,49])) 10 200 [(40:Int)] [ByteArray.mk (List.toArray [66,49]),ByteArray.mk (List.toArray [66,50])]] (ByteArray.mk (List.toArray [66,49])) [ByteArray.mk (List.toArray [65,49])]) fun(a36:Bool)=>if a36=Bool.true then Option.bind (qe fu [qa.mk (ByteArray.mk (List.toArray [65,49])) 5 30 [(1:Int),2] [],qa.mk (ByteArray.mk (List.toArray [66,49])) 6 10 [(2:Int)] [ByteArray.mk (List.toArray [65,49])],qa.mk (ByteArray.mk (List.toArray [66,50])) 3 0 [] [],qa.mk (ByteArray.mk (List.toArray [67,49])) 10 200 [(40:Int)] [ByteArray.mk (List.toArray [66,49]),ByteArray.mk (List.toArray [66,50])]] (ByteArray.mk (List.toArray [67,49])) [ByteArray.mk (List.toArray [65,49]),ByteArray.mk (List.toArray [66,49])]) fun(a37:Bool)=>if(!a37)=Bool.true then Option.bind (qe fu [qa.mk (ByteArray.mk (List.toArray [65,49])) 5 30 [(1:Int),2] [],qa.mk (ByteArray.mk (List.toArray [66,49])) 6 10 [(2:Int)] [ByteArray.mk (List.toArray [65,49])],qa.mk (ByteArray.mk (List.toArray [66,50])) 3 0 [] [],qa.mk (ByteArray.mk (List.toArray [67,49])) 10 200 [(40:Int)] [ByteArray.mk (List.toArray [66,49]),ByteArray.mk (List.toArray [66,50])]] (ByteArray.mk (List.toArray [88])) []) fun(a38:Bool)=>if(!a38)=Bool.true then Option.bind (qj fu (qa.mk (ByteArray.mk (List.toArray [65,49])) 5 30 [(1:Int),2] []) (qa.mk (ByteArray.mk (List.toArray [66,49])) 6 10 [(2:Int)] [ByteArray.mk (List.toArray [65,49])])) fun(a39:Bool)=>if a39=Bool.true then Option.bind (qj fu (qa.mk (ByteArray.mk (List.toArray [66,49])) 6 10 [(2:Int)] [ByteArray.mk (List.toArray [65,49])]) (qa.mk (ByteArray.mk (List.toArray [66,50])) 3 0 [] [])) fun(a40:Bool)=>some Bool.false else some Bool.false else some Bool.false else some Bool.false else some Bool.false else Option.bind (qe fu [qa.mk (ByteArray.mk (List.toArray [65,49])) 5 30 [(1:Int),2] [],qa.mk (ByteArray.mk (List.toArray [66,49])) 6 10 [(2:Int)] [ByteArray.mk (List.toArray [65,49])],qa.mk (ByteArray.mk (List.toArray [66,50])) 3 0 [] [],qa.mk (ByteArray.mk (List.toArray [67,49])) 10 200 [(40:Int)] [ByteArray.mk (List.toArray [66,49]),ByteArray.mk (List.toArray [66,50])]] (ByteArray.mk (List.toArray [66,49])) [ByteArray.mk (List.toArray [65,49])]) fun(a41:Bool)=>if a41=Bool.true then Option.bind (qe fu [qa.mk (ByteArray.mk (List.toArray [65,49])) 5 30 [(1:Int),2] [],qa.mk (ByteArray.mk (List.toArray [66,49])) 6 10 [(2:Int)] [ByteArray.mk (List.toArray [65,49])],qa.mk (ByteArray.mk (List.toArray [66,50])) 3 0 [] [],qa.mk (ByteArray.mk (List.toArray [67,49])) 10 200 [(40:Int)] [ByteArray.mk (List.toArray [66,49]),ByteArray.mk (List.toArray [66,50])]] (ByteArray.mk (List.toArray [67,49])) [ByteArray.mk (List.toArray [65,49]),ByteArray.mk (List.toArray [66,49])]) fun(a42:Bool)=>if(!a42)=Bool.true then Option.bind (qe fu [qa.mk (ByteArray.mk (List.toArray [65,49])) 5 30 [(1:Int),2] [],qa.mk (ByteArray.mk (List.toArray [66,49])) 6 10 [(2:Int)] [ByteArray.mk (List.toArray [65,49])],qa.mk (ByteArray.mk (List.toArray [66,50])) 3 0 [] [],qa.mk (ByteArray.mk (List.toArray [67,49])) 10 200 [(40:Int)] [ByteArray.mk (List.toArray [66,49]),ByteArray.mk (List.toArray [66,50])]] (ByteArray.mk (List.toArray [88])) []) fun(a43:Bool)=>if(!a43)=Bool.true then Option.bind (qj fu (qa.mk (ByteArray.mk (List.toArray [65,49])) 5 30 [(1:Int),2] []) (qa.mk (ByteArray.mk (List.toArray [66,49])) 6 10 [(2:Int)] [ByteArray.mk (List.toArray [65,49])])) fun(a44:Bool)=>if a44=Bool.true then Option.bind (qj fu (qa.mk (ByteArray.mk (List.toArray [66,49])) 6 10 [(2:Int)] [ByteArray.mk (List.toArray [65,49])]) (qa.mk (ByteArray.mk (List.toArray [66,50])) 3 0 [] [])) fun(a45:Bool)=>some Bool.false else some Bool.false else some Bool.false else some Bool.false else some Bool.false else Option.bind (qe fu [qa.mk (ByteArray.mk (List.toArray [65,49])) 5 30 [(1:Int),2] [],qa.mk (ByteArray.mk (List.toArray [66,49])) 6 10 [(2:Int)] [ByteArray.mk (List.toArray [65,49])],qa.mk (ByteArray.mk (List.toArray [66,50])) 3 0 [] [],qa.mk (ByteArray.mk (List.toArray [67,49])) 10 200 [(40:Int)] [ByteArray.mk (List.toArray [66,49]),ByteArray.mk (List.toArray [66,50])]] (ByteArray.mk (List.toArray [66,49])) [ByteArray.mk (List.toArray [65,49])]) fun(a46:Bool)=>if a46=Bool.true then Option.bind (qe fu [qa.mk (ByteArray.mk (List.toArray [65,49])) 5 30 [(1:Int),2] [],qa.mk (ByteArray.mk (List.toArray [66,49])) 6 10 [(2:Int)] [ByteArray.mk (List.toArray [65,49])],qa.mk (ByteArray.mk (List.toArray [66,50])) 3 0 [] [],qa.mk (ByteArray.mk (List.toArray [67,49])) 10 200 [(40:Int)] [ByteArray.mk (List.toArray [66,49]),ByteArray.mk (List.toArray [66,50])]] (ByteArray.mk (List.toArray [67,49])) [ByteArray.mk (List.toArray [65,49]),ByteArray.mk (List.toArray [66,49])]) fun(a47:Bool)=>if(!a47)=Bool.true then Option.bind (qe fu [qa.mk (ByteArray.mk (List.toArray [65,49])) 5 30 [(1:Int),2] [],qa.mk (ByteArray.mk (List.toArray [66,49])) 6 10 [(2:Int)] [ByteArray.mk (List.toArray [65,49])],qa.mk (ByteArray.mk (List.toArray [66,50])) 3 0 [] [],qa.mk (ByteArray.mk (List.toArray [67,49])) 10 200 [(40:Int)] [ByteArray.mk (List.toArray [66,49]),ByteArray.mk (List.toArray [66,50])]] (ByteArray.mk (List.toArray [88])) []) fun(a48:Bool)=>if(!a48)=Bool.true then Option.bind (qj fu (qa.mk (ByteArray.mk (List.toArray [65,49])) 5 30 [(1:Int),2] []) (qa.mk (ByteArray.mk (List.toArray [66,49])) 6 10 [(2:Int)] [ByteArray.mk (List.toArray [65,49])])) fun(a49:Bool)=>if a49=Bool.true then Option.bind (qj fu (qa.mk (ByteArray.mk (List.toArray [66,49])) 6 10 [(2:Int)] [ByteArray.mk (List.toArray [65,49])]) (qa.mk (ByteArray.mk (List.toArray [66,50])) 3 0 [] [])) fun(a50:Bool)=>some Bool.false else some Bool.false else some Bool.false else some Bool.false else some Bool.false else Option.bind (qF fu [qa.mk (ByteArray.mk (List.toArray [65,49])) 5 30 [(1:Int),2] [],qa.mk (ByteArray.mk (List.toArray [66,49])) 6 10 [(2:Int)] [ByteArray.mk (List.toArray [65,49])],qa.mk (ByteArray.mk (List.toArray [66,50])) 3 0 [] [],qa.mk (ByteArray.mk (List.toArray [67,49])) 10 200 [(40:Int)] [ByteArray.mk (List.toArray [66,49]),ByteArray.mk (List.toArray [66,50])]] (ByteArray.mk (List.toArray [67,49]))) fun(a51:List ByteArray)=>Option.bind (qN fu a51 [ByteArray.mk (List.toArray [65,49]),ByteArray.mk (List.toArray [66,49]),ByteArray.mk (List.toArray [66,50])]) fun(a52:Bool)=>if a52=Bool.true then Option.bind (qF fu [qa.mk (ByteArray.mk (List.toArray [65,49])) 5 30 [(1:Int),2] [],qa.mk (ByteArray.mk (List.toArray [66,49])) 6 10 [(2:Int)] [ByteArray.mk (List.toArray [65,49])],qa.mk (ByteArray.mk (List.toArray [66,50])) 3 0 [] [],qa.mk (ByteArray.mk (List.toArray [67,49])) 10 200 [(40:Int)] [ByteArray.mk (List.toArray [66,49]),ByteArray.mk (List.toArray [66,50])]] (ByteArray.mk (List.toArray [65,49]))) fun(a53:List ByteArray)=>Option.bind (qF fu [qa.mk (ByteArray.mk (List.toArray [65,49])) 5 30 [(1:Int),2] [],qa.mk (ByteArray.mk (List.toArray [66,49])) 6 10 [(2:Int)] [ByteArray.mk (List.toArray [65,49])],qa.mk (ByteArray.mk (List.toArray [66,50])) 3 0 [] [],qa.mk (ByteArray.mk (List.toArray [67,49])) 10 200 [(40:Int)] [ByteArray.mk (List.toArray [66,49]),ByteArray.mk (List.toArray [66,50])]] (ByteArray.mk (List.toArray [88]))) fun(a54:List ByteArray)=>if(w64 (((a53.length:Nat):Int)+((a54.length:Nat):Int))==0)=Bool.true then Option.bind (Qs fu [qa.mk (ByteArray.mk (List.toArray [65,49])) 5 30 [(1:Int),2] [],qa.mk (ByteArray.mk (List.toArray [66,49])) 6 10 [(2:Int)] [ByteArray.mk (List.toArray [65,49])],qa.mk (ByteArray.mk (List.toArray [66,50])) 3 0 [] [],qa.mk (ByteArray.mk (List.toArray [67,49])) 10 200 [(40:Int)] [ByteArray.mk (List.toArray [66,49]),ByteArray.mk (List.toArray [66,50])]]) fun(a55:List ByteArray)=>Option.bind (qN fu a55 [ByteArray.mk (List.toArray [65,49]),ByteArray.mk (List.toArray [66,49]),ByteArray.mk (List.toArray [66,50]),ByteArray.mk (List.toArray [67,49])]) fun(a56:Bool)=>Option.bind (qe fu [qa.mk (ByteArray.mk (List.toArray [65,49])) 5 30 [(1:Int),2] [],qa.mk (ByteArray.mk (List.toArray [66,49])) 6 10 [(2:Int)] [ByteArray.mk (List.toArray [65,49])],qa.mk (ByteArray.mk (List.toArray [66,50])) 3 0 [] [],qa.mk (ByteArray.mk (List.toArray [67,49])) 10 200 [(40:Int)] [ByteArray.mk (List.toArray [66,49]),ByteArray.mk (List.toArray [66,50])]] (ByteArray.mk (List.toArray [66,49])) [ByteArray.mk (List.toArray [65,49])]) fun(a57:Bool)=>if a57=Bool.true then Option.bind (qe fu [qa.mk (ByteArray.mk (List.toArray [65,49])) 5 30 [(1:Int),2] [],qa.mk (ByteArray.mk (List.toArray [66,49])) 6 10 [(2:Int)] [ByteArray.mk (List.toArray [65,49])],qa.mk (ByteArray.mk (List.toArray [66,50])) 3 0 [] [],qa.mk (ByteArray.mk (List.toArray [67,49])) 10 200 [(40:Int)] [ByteArray.mk (List.toArray [66,49]),ByteArray.mk (List.toArray [66,50])]] (ByteArray.mk (List.toArray [67,49])) [ByteArray.mk (List.toArray [65,49]),ByteArray.mk (List.toArray [66,49])]) fun(a58:Bool)=>if(!a58)=Bool.true then Option.bind (qe fu [qa.mk (ByteArray.mk (List.toArray [65,49])) 5 30 [(1:Int),2] [],qa.mk (ByteArray.mk (List.toArray [66,49])) 6 10 [(2:Int)] [ByteArray.mk (List.toArray [65,49])],qa.mk (ByteArray.mk (List.toArray [66,50])) 3 0 [] [],qa.mk (ByteArray.mk (List.toArray [67,49])) 10 200 [(40:Int)] [ByteArray.mk (List.toArray [66,49]),ByteArray.mk (List.toArray [66,50])]] (ByteArray.mk (List.toArray [88])) []) fun(a59:Bool)=>if(!a59)=Bool.true then Option.bind (qj fu (qa.mk (ByteArray.mk (List.toArray [65,49])) 5 30 [(1:Int),2] []) (qa.mk (ByteArray.mk (List.toArray [66,49])) 6 10 [(2:Int)] [ByteArray.mk (List.toArray [65,49])])) fun(a60:Bool)=>if a60=Bool.true then Option.bind (qj fu (qa.mk (ByteArray.mk (List.toArray [66,49])) 6 10 [(2:Int)] [ByteArray.mk (List.toArray [65,49])]) (qa.mk (ByteArray.mk (List.toArray [66,50])) 3 0 [] [])) fun(a61:Bool)=>some Bool.false else some Bool.false else some Bool.false else some Bool.false else some Bool.false else Option.bind (qe fu [qa.mk (ByteArray.mk (List.toArray [65,49])) 5 30 [(1:Int),2] [],qa.mk (ByteArray.mk (List.toArray [66,49])) 6 10 [(2:Int)] [ByteArray.mk (List.toArray [65,49])],qa.mk (ByteArray.mk (List.toArray [66,50])) 3 0 [] [],qa.mk (ByteArray.mk (List.toArray [67,49])) 10 200 [(40:Int)] [ByteArray.mk (List.toArray [66,49]),ByteArray.mk (List.toArray [66,50])]] (ByteArray.mk (List.toArray [66,49])) [ByteArray.mk (List.toArray [65,49])]) fun(a62:Bool)=>if a62=Bool.true then Option.bind (qe fu [qa.mk (ByteArray.mk (List.toArray [65,49])) 5 30 [(1:Int),2] [],qa.mk (ByteArray.mk (List.toArray [66,49])) 6 10 [(2:Int)] [ByteArray.mk (List.toArray [65,49])],qa.mk (ByteArray.mk (List.toArray [66,50])) 3 0 [] [],qa.mk (ByteArray.mk (List.toArray [67,49])) 10 200 [(40:Int)] [ByteArray.mk (List.toArray [66,49]),ByteArray.mk (List.toArray [66,50])]] (ByteArray.mk (List.toArray [67,49])) [ByteArray.mk (List.toArray [65,49]),ByteArray.mk (List.toArray [66,49])]) fun(a63:Bool)=>if(!a63)=Bool.true then Option.bind (qe fu [qa.mk (ByteArray.mk (List.toArray [65,49])) 5 30 [(1:Int),2] [],qa.mk (ByteArray.mk (List.toArray [66,49])) 6 10 [(2:Int)] [ByteArray.mk (List.toArray [65,49])],qa.mk (ByteArray.mk (List.toArray [66,50])) 3 0 [] [],qa.mk (ByteArray.mk (List.toArray [67,49])) 10 200 [(40:Int)] [ByteArray.mk (List.toArray [66,49]),ByteArray.mk (List.toArray [66,50])]] (ByteArray.mk (List.toArray [88])) []) fun(a64:Bool)=>if(!a64)=Bool.true then Option.bind (qj fu (qa.mk (ByteArray.mk (List.toArray [65,49])) 5 30 [(1:Int),2] []) (qa.mk (ByteArray.mk (List.toArray [66,49])) 6 10 [(2:Int)] [ByteArray.mk (List.toArray [65,49])])) fun(a65:Bool)=>if a65=Bool.true then Option.bind (qj fu (qa.mk (ByteArray.mk (List.toArray [66,49])) 6 10 [(2:Int)] [ByteArray.mk (List.toArray [65,49])]) (qa.mk (ByteArray.mk (List.toArray [66,50])) 3 0 [] [])) fun(a66:Bool)=>some Bool.false else some Bool.false else some Bool.false else some Bool.false else some Bool.false else Option.bind (qe fu [qa.mk (ByteArray.mk (List.toArray [65,49])) 5 30 [(1:Int),2] [],qa.mk (ByteArray.mk (List.toArray [66,49])) 6 10 [(2:Int)] [ByteArray.mk (List.toArray [65,49])],qa.mk (ByteArray.mk (List.toArray [66,50])) 3 0 [] [],qa.mk (ByteArray.mk (List.toArray [67,49])) 10 200 [(40:Int)] [ByteArray.mk (List.toArray [66,49]),ByteArray.mk (List.toArray [66,50])]] (ByteArray.mk (List.toArray [66,49])) [ByteArray.mk (List.toArray [65,49])]) fun(a67:Bool)=>if a67=Bool.true then Option.bind (qe fu [qa.mk (ByteArray.mk (List.toArray [65,49])) 5 30 [(1:Int),2] [],qa.mk (ByteArray.mk (List.toArray [66,49])) 6 10 [(2:Int)] [ByteArray.mk (List.toArray [65,49])],qa.mk (ByteArray.mk (List.toArray [66,50])) 3 0 [] [],qa.mk (ByteArray.mk (List.toArray [67,49])) 10 200 [(40:Int)] [ByteArray.mk (List.toArray [66,49]),ByteArray.mk (List.toArray [66,50])]] (ByteArray.mk (List.toArray [67,49])) [ByteArray.mk (List.toArray [65,49]),ByteArray.mk (List.toArray [66,49])]) fun(a68:Bool)=>if(!a68)=Bool.true then Option.bind (qe fu [qa.mk (ByteArray.mk (List.toArray [65,49])) 5 30 [(1:Int),2] [],qa.mk (ByteArray.mk (List.toArray [66,49])) 6 10 [(2:Int)] [ByteArray.mk (List.toArray [65,49])],qa.mk (ByteArray.mk (List.toArray [66,50])) 3 0 [] [],qa.mk (ByteArray.mk (List.toArray [67,49])) 10 200 [(40:Int)] [ByteArray.mk (List.toArray [66,49]),ByteArray.mk (List.toArray [66,50])]] (ByteArray.mk (List.toArray [88])) []) fun(a69:Bool)=>if(!a69)=Bool.true then Option.bind (qj fu (qa.mk (ByteArray.mk (List.toArray [65,49])) 5 30 [(1:Int),2] []) (qa.mk (ByteArray.mk (List.toArray [66,49])) 6 10 [(2:Int)] [ByteArray.mk (List.toArray [65,49])])) fun(a70:Bool)=>if a70=Bool.true then Option.bind (qj fu (qa.mk (ByteArray.mk (List.toArray [66,49])) 6 10 [(2:Int)] [ByteArray.mk (List.toArray [65,49])]) (qa.mk (ByteArray.mk (List.toArray [66,50])) 3 0 [] [])) fun(a71:Bool)=>some Bool.false else some Bool.false else some Bool.false else some Bool.false else some Bool.false else Option.bind (qF fu [qa.mk (ByteArray.mk (List.toArray [65,49])) 5 30 [(1:Int),2] [],qa.mk (ByteArray.mk (List.toArray [66,49])) 6 10 [(2:Int)] [ByteArray.mk (List.toArray [65,49])],qa.mk (ByteArray.mk (List.toArray [66,50])) 3 0 [] [],qa.mk (ByteArray.mk (List.toArray [67,49])) 10 200 [(40:Int)] [ByteArray.mk (List.toArray [66,49]),ByteArray.mk (List.toArray [66,50])]] (ByteArray.mk (List.toArray [67,49]))) fun(a72:List ByteArray)=>Option.bind (qN fu a72 [ByteArray.mk (List.toArray [65,49]),ByteArray.mk (List.toArray [66,49]),ByteArray.mk (List.toArray [66,50])]) fun(a73:Bool)=>if a73=Bool.true then Option.bind (qF fu [qa.mk (ByteArray.mk (List.toArray [65,49])) 5 30 [(1:Int),2] [],qa.mk (ByteArray.mk (List.toArray [66,49])) 6 10 [(2:Int)] [ByteArray.mk (List.toArray [65,49])],qa.mk (ByteArray.mk (List.toArray [66,50])) 3 0 [] [],qa.mk (ByteArray.mk (List.toArray [67,49])) 10 200 [(40:Int)] [ByteArray.mk (List.toArray [66,49]),ByteArray.mk (List.toArray [66,50])]] (ByteArray.mk (List.toArray [65,49]))) fun(a74:List ByteArray)=>Option.bind (qF fu [qa.mk (ByteArray.mk (List.toArray [65,49])) 5 30 [(1:Int),2] [],qa.mk (ByteArray.mk (List.toArray [66,49])) 6 10 [(2:Int)] [ByteArray.mk (List.toArray [65,49])],qa.mk (ByteArray.mk (List.toArray [66,50])) 3 0 [] [],qa.mk (ByteArray.mk (List.toArray [67,49])) 10 200 [(40:Int)] [ByteArray.mk (List.toArray [66,49]),ByteArray.mk (List.toArray [66,50])]] (ByteArray.mk (List.toArray [88]))) fun(a75:List ByteArray)=>if(w64 (((a74.length:Nat):Int)+((a75.length:Nat):Int))==0)=Bool.true then Option.bind (Qs fu [qa.mk (ByteArray.mk (List.toArray [65,49])) 5 30 [(1:Int),2] [],qa.mk (ByteArray.mk (List.toArray [66,49])) 6 10 [(2:Int)] [ByteArray.mk (List.toArray [65,49])],qa.mk (ByteArray.mk (List.toArray [66,50])) 3 0 [] [],qa.mk (ByteArray.mk (List.toArray [67,49])) 10 200 [(40:Int)] [ByteArray.mk (List.toArray [66,49]),ByteArray.mk (List.toArray [66,50])]]) fun(a76:List ByteArray)=>Option.bind (qN fu a76 [ByteArray.mk (List.toArray [65,49]),ByteArray.mk (List.toArray [66,49]),ByteArray.mk (List.toArray [66,50]),ByteArray.mk (List.toArray [67,49])]) fun(a77:Bool)=>Option.bind (qe fu [qa.mk (ByteArray.mk (List.toArray [65,49])) 5 30 [(1:Int),2] [],qa.mk (ByteArray.mk (List.toArray [66,49])) 6 10 [(2:Int)] [ByteArray.mk (List.toArray [65,49])],qa.mk (ByteArray.mk (List.toArray [66,50])) 3 0 [] [],qa.mk (ByteArray.mk (List.toArray [67,49])) 10 200 [(40:Int)] [ByteArray.mk (List.toArray [66,49]),ByteArray.mk (List.toArray [66,50])]] (ByteArray.mk (List.toArray [66,49])) [ByteArray.mk (List.toArray [65,49])]) fun(a78:Bool)=>if a78=Bool.true then Option.bind (qe fu [qa.mk (ByteArray.mk (List.toArray [65,49])) 5 30 [(1:Int),2] [],qa.mk (ByteArray.mk (List.toArray [66,49])) 6 10 [(2:Int)] [ByteArray.mk (List.toArray [65,49])],qa.mk (ByteArray.mk (List.toArray [66,50])) 3 0 [] [],qa.mk (ByteArray.mk (List.toArray [67,49])) 10 200 [(40:Int)] [ByteArray.mk (List.toArray [66,49]),ByteArray.mk (List.toArray [66,50])]] (ByteArray.mk (List.toArray [67,49])) [ByteArray.mk (List.toArray [65,49]),ByteArray.mk (List.toArray [66,49])]) fun(a79:Bool)=>if(!a79)=Bool.true then Option.bind (qe fu [qa.mk (ByteArray.mk (List.toArray [65,49])) 5 30 [(1:Int),2] [],qa.mk (ByteArray.mk (List.toArray [66,49])) 6 10 [(2:Int)] [ByteArray.mk (List.toArray [65,49])],qa.mk (ByteArray.mk (List.toArray [66,50])) 3 0 [] [],qa.mk (ByteArray.mk (List.toArray [67,49])) 10 200 [(40:Int)] [ByteArray.mk (List.toArray [66,49]),ByteArray.mk (List.toArray [66,50])]] (ByteArray.mk (List.toArray [88])) []) fun(a80:Bool)=>if(!a80)=Bool.true then Option.bind (qj fu (qa.mk (ByteArray.mk (List.toArray [65,49])) 5 30 [(1:Int),2] []) (qa.mk (ByteArray.mk (List.toArray [66,49])) 6 10 [(2:Int)] [ByteArray.mk (List.toArray [65,49])])) fun(a81:Bool)=>if a81=Bool.true then Option.bind (qj fu (qa.mk (ByteArray.mk (List.toArray [66,49])) 6 10 [(2:Int)] [ByteArray.mk (List.toArray [65,49])]) (qa.mk (ByteArray.mk (List.toArray [66,50])) 3 0 [] [])) fun(a82:Bool)=>some Bool.false else some Bool.false else some Bool.false else some Bool.false else some Bool.false else Option.bind (qe fu [qa.mk (ByteArray.mk (List.toArray [65,49])) 5 30 [(1:Int),2] [],qa.mk (ByteArray.mk (List.toArray [66,49])) 6 10 [(2:Int)] [ByteArray.mk (List.toArray [65,49])],qa.mk (ByteArray.mk (List.toArray [66,50])) 3 0 [] [],qa.mk (ByteArray.mk (List.toArray [67,49])) 10 200 [(40:Int)] [ByteArray.mk (List.toArray [66,49]),ByteArray.mk (List.toArray [66,50])]] (ByteArray.mk (List.toArray [66,49])) [ByteArray.mk (List.toArray [65,49])]) fun(a83:Bool)=>if a83=Bool.true then Option.bind (qe fu [qa.mk (ByteArray.mk (List.toArray [65,49])) 5 30 [(1:Int),2] [],qa.mk (ByteArray.mk (List.toArray [66,49])) 6 10 [(2:Int)] [ByteArray.mk (List.toArray [65,49])],qa.mk (ByteArray.mk (List.toArray [66,50])) 3 0 [] [],qa.mk (ByteArray.mk (List.toArray [67,49])) 10 200 [(40:Int)] [ByteArray.mk (List.toArray [66,49]),ByteArray.mk (List.toArray [66,50])]] (ByteArray.mk (List.toArray [67,49])) [ByteArray.mk (List.toArray [65,49]),ByteArray.mk (List.toArray [66,49])]) fun(a84:Bool)=>if(!a84)=Bool.true then Option.bind (qe fu [qa.mk (ByteArray.mk (List.toArray [65,49])) 5 30 [(1:Int),2] [],qa.mk (ByteArray.mk (List.toArray [66,49])) 6 10 [(2:Int)] [ByteArray.mk (List.toArray [65,49])],qa.mk (ByteArray.mk (List.toArray [66,50])) 3 0 [] [],qa.mk (ByteArray.mk (List.toArray [67,49])) 10 200 [(40:Int)] [ByteArray.mk (List.toArray [66,49]),ByteArray.mk (List.toArray [66,50])]] (ByteArray.mk (List.toArray [88])) []) fun(a85:Bool)=>if(!a85)=Bool.true then Option.bind (qj fu (qa.mk (ByteArray.mk (List.toArray [65,49])) 5 30 [(1:Int),2] []) (qa.mk (ByteArray.mk (List.toArray [66,49])) 6 10 [(2:Int)] [ByteArray.mk (List.toArray [65,49])])) fun(a86:Bool)=>if a86=Bool.true then Option.bind (qj fu (qa.mk (ByteArray.mk (List.toArray [66,49])) 6 10 [(2:Int)] [ByteArray.mk (List.toArray [65,49])]) (qa.mk (ByteArray.mk (List.toArray [66,50])) 3 0 [] [])) fun(a87:Bool)=>some Bool.false else some Bool.false else some Bool.false else some Bool.false else some Bool.false else Option.bind (qe fu [qa.mk (ByteArray.mk (List.toArray [65,49])) 5 30 [(1:Int),2] [],qa.mk (ByteArray.mk (List.toArray [66,49])) 6 10 [(2:Int)] [ByteArray.mk (List.toArray [65,49])],qa.mk (ByteArray.mk (List.toArray [66,50])) 3 0 [] [],qa.mk (ByteArray.mk (List.toArray [67,49])) 10 200 [(40:Int)] [ByteArray.mk (List.toArray [66,49]),ByteArray.mk (List.toArray [66,50])]] (ByteArray.mk (List.toArray [66,49])) [ByteArray.mk (List.toArray [65,49])]) fun(a88:Bool)=>if a88=Bool.true then Option.bind (qe fu [qa.mk (ByteArray.mk (List.toArray [65,49])) 5 30 [(1:Int),2] [],qa.mk (ByteArray.mk (List.toArray [66,49])) 6 10 [(2:Int)] [ByteArray.mk (List.toArray [65,49])],qa.mk (ByteArray.mk (List.toArray [66,50])) 3 0 [] [],qa.mk (ByteArray.mk (List.toArray [67,49])) 10 200 [(40:Int)] [ByteArray.mk (List.toArray [66,49]),ByteArray.mk (List.toArray [66,50])]] (ByteArray.mk (List.toArray [67,49])) [ByteArray.mk (List.toArray [65,49]),ByteArray.mk (List.toArray [66,49])]) fun(a89:Bool)=>if(!a89)=Bool.true then Option.bind (qe fu [qa.mk (ByteArray.mk (List.toArray [65,49])) 5 30 [(1:Int),2] [],qa.mk (ByteArray.mk (List.toArray [66,49])) 6 10 [(2:Int)] [ByteArray.mk (List.toArray [65,49])],qa.mk (ByteArray.mk (List.toArray [66,50])) 3 0 [] [],qa.mk (ByteArray.mk (List.toArray [67,49])) 10 200 [(40:Int)] [ByteArray.mk (List.toArray [66,49]),ByteArray.mk (List.toArray [66,50])]] (ByteArray.mk (List.toArray [88])) []) fun(a90:Bool)=>if(!a90)=Bool.true then Option.bind (qj fu (qa.mk (ByteArray.mk (List.toArray [65,49])) 5 30 [(1:Int),2] []) (qa.mk (ByteArray.mk (List.toArray [66,49])) 6 10 [(2:Int)] [ByteArray.mk (List.toArray [65,49])])) fun(a91:Bool)=>if a91=Bool.true then Option.bind (qj fu (qa.mk (ByteArray.mk (List.toArray [66,49])) 6 10 [(2:Int)] [ByteArray.mk (List.toArray [65,49])]) (qa.mk (ByteArray.mk (List.toArray [66,50])) 3 0 [] [])) fun(a92:Bool)=>some Bool.false else some Bool.false else some Bool.false else some Bool.false else some Bool.false else Option.bind (qF fu [qa.mk (ByteArray.mk (List.toArray [65,49])) 5 30 [(1:Int),2] [],qa.mk (ByteArray.mk (List.toArray [66,49])) 6 10 [(2:Int)] [ByteArray.mk (List.toArray [65,49])],qa.mk (ByteArray.mk (List.toArray [66,50])) 3 0 [] [],qa.mk (ByteArray.mk (List.toArray [67,49])) 10 200 [(40:Int)] [ByteArray.mk (List.toArray [66,49]),ByteArray.mk (List.toArray [66,50])]] (ByteArray.mk (List.toArray [67,49]))) fun(a93:List ByteArray)=>Option.bind (qN fu a93 [ByteArray.mk (List.toArray [65,49]),ByteArray.mk (List.toArray [66,49]),ByteArray.mk (List.toArray [66,50])]) fun(a94:Bool)=>if a94=Bool.true then Option.bind (qF fu [qa.mk (ByteArray.mk (List.toArray [65,49])) 5 30 [(1:Int),2] [],qa.mk (ByteArray.mk (List.toArray [66,49])) 6 10 [(2:Int)] [ByteArray.mk (List.toArray [65,49])],qa.mk (ByteArray.mk (List.toArray [66,50])) 3 0 [] [],qa.mk (ByteArray.mk (List.toArray [67,49])) 10 200 [(40:Int)] [ByteArray.mk (List.toArray [66,49]),ByteArray.mk (List.toArray [66,50])]] (ByteArray.mk (List.toArray [65,49]))) fun(a95:List ByteArray)=>Option.bind (qF fu [qa.mk (ByteArray.mk (List.toArray [65,49])) 5 30 [(1:Int),2] [],qa.mk (ByteArray.mk (List.toArray [66,49])) 6 10 [(2:Int)] [ByteArray.mk (List.toArray [65,49])],qa.mk (ByteArray.mk (List.toArray [66,50])) 3 0 [] [],qa.mk (ByteArray.mk (List.toArray [67,49])) 10 200 [(40:Int)] [ByteArray.mk (List.toArray [66,49]),ByteArray.mk (List.toArray [66,50])]] (ByteArray.mk (List.toArray [88]))) fun(a96:List ByteArray)=>if(w64 (((a95.length:Nat):Int)+((a96.length:Nat):Int))==0)=Bool.true then Option.bind (Qs fu [qa.mk (ByteArray.mk (List.toArray [65,49])) 5 30 [(1:Int),2] [],qa.mk (ByteArray.mk (List.toArray [66,49])) 6 10 [(2:Int)] [ByteArray.mk (List.toArray [65,49])],qa.mk (ByteArray.mk (List.toArray [66,50])) 3 0 [] [],qa.mk (ByteArray.mk (List.toArray [67,49])) 10 200 [(40:Int)] [ByteArray.mk (List.toArray [66,49]),ByteArray.mk (List.toArray [66,50])]]) fun(a97:List ByteArray)=>Option.bind (qN fu a97 [ByteArray.mk (List.toArray [65,49]),ByteArray.mk (List.toArray [66,49]),ByteArray.mk (List.toArray [66,50]),ByteArray.mk (List.toArray [67,49])]) fun(a98:Bool)=>Option.bind (qe fu [qa.mk (ByteArray.mk (List.toArray [65,49])) 5 30 [(1:Int),2] [],qa.mk (ByteArray.mk (List.toArray [66,49])) 6 10 [(2:Int)] [ByteArray.mk (List.toArray [65,49])],qa.mk (ByteArray.mk (List.toArray [66,50])) 3 0 [] [],qa.mk (ByteArray.mk (List.toArray [67,49])) 10 200 [(40:Int)] [ByteArray.mk (List.toArray [66,49]),ByteArray.mk (List.toArray [66,50])]] (ByteArray.mk (List.toArray [66,49])) [ByteArray.mk (List.toArray [65,49])]) fun(a99:Bool)=>if a99=Bool.true then Option.bind (qe fu [qa.mk (ByteArray.mk (List.toArray [65,49])) 5 30 [(1:Int),2] [],qa.mk (ByteArray.mk (List.toArray [66,49])) 6 10 [(2:Int)] [ByteArray.mk (List.toArray [65,49])],qa.mk (ByteArray.mk (List.toArray [66,50])) 3 0 [] [],qa.mk (ByteArray.mk (List.toArray [67,49])) 10 200 [(40:Int)] [ByteArray.mk (List.toArray [66,49]),ByteArray.mk (List.toArray [66,50])]] (ByteArray.mk (List.toArray [67,49])) [ByteArray.mk (List.toArray [65,49]),ByteArray.mk (List.toArray [66,49])]) fun(a100:Bool)=>if(!a100)=Bool.true then Option.bind (qe fu [qa.mk (ByteArray.mk (List.toArray [65,49])) 5 30 [(1:Int),2] [],qa.mk (ByteArray.mk (List.toArray [66,49])) 6 10 [(2:Int)] [ByteArray.mk (List.toArray [65,49])],qa.mk (ByteArray.mk (List.toArray [66,50])) 3 0 [] [],qa.mk (ByteArray.mk (List.toArray [67,49])) 10 200 [(40:Int)] [ByteArray.mk (List.toArray [66,49]),ByteArray.mk (List.toArray [66,50])]] (ByteArray.mk (List.toArray [88])) []) fun(a101:Bool)=>if(!a101)=Bool.true then Option.bind (qj fu (qa.mk (ByteArray.mk (List.toArray [65,49])) 5 30 [(1:Int),2] []) (qa.mk (ByteArray.mk (List.toArray [66,49])) 6 10 [(2:Int)] [ByteArray.mk (List.toArray [65,49])])) fun(a102:Bool)=>if a102=Bool.true then Option.bind (qj fu (qa.mk (ByteArray.mk (List.toArray [66,49])) 6 10 [(2:Int)] [ByteArray.mk (List.toArray [65,49])]) (qa.mk (ByteArray.mk (List.toArray [66,50])) 3 0 [] [])) fun(a103:Bool)=>some Bool.false else some Bool.false else some Bool.false else some Bool.false else some Bool.false else Option.bind (qe fu [qa.mk (ByteArray.mk (List.toArray [65,49])) 5 30 [(1:Int),2] [],qa.mk (ByteArray.mk (List.toArray [66,49])) 6 10 [(2:Int)] [ByteArray.mk (List.toArray [65,49])],qa.mk (ByteArray.mk (List.toArray [66,50])) 3 0 [] [],qa.mk (ByteArray.mk (List.toArray [67,49])) 10 200 [(40:Int)] [ByteArray.mk (List.toArray [66,49]),ByteArray.mk (List.toArray [66,50])]] (ByteArray.mk (List.toArray [66,49])) [ByteArray.mk (List.toArray [65,49])]) fun(a104:Bool)=>if a104=Bool.true then Option.bind (qe fu [qa.mk (ByteArray.mk (List.toArray [65,49])) 5 30 [(1:Int),2] [],qa.mk (ByteArray.mk (List.toArray [66,49])) 6 10 [(2:Int)] [ByteArray.mk (List.toArray [65,49])],qa.mk (ByteArray.mk (List.toArray [66,50])) 3 0 [] [],qa.mk (ByteArray.mk (List.toArray [67,49])) 10 200 [(40:Int)] [ByteArray.mk (List.toArray [66,49]),ByteArray.mk (List.toArray [66,50])]] (ByteArray.mk (List.toArray [67,49])) [ByteArray.mk (List.toArray [65,49]),ByteArray.mk (List.toArray [66,49])]) fun(a105:Bool)=>if(!a105)=Bool.true then Option.bind (qe fu [qa.mk (ByteArray.mk (List.toArray [65,49])) 5 30 [(1:Int),2] [],qa.mk (ByteArray.mk (List.toArray [66,49])) 6 10 [(2:Int)] [ByteArray.mk (List.toArray [65,49])],qa.mk (ByteArray.mk (List.toArray [66,50])) 3 0 [] [],qa.mk (ByteArray.mk (List.toArray [67,49])) 10 200 [(40:Int)] [ByteArray.mk (List.toArray [66,49]),ByteArray.mk (List.toArray [66,50])]] (ByteArray.mk (List.toArray [88])) []) fun(a106:Bool)=>if(!a106)=Bool.true then Option.bind (qj fu (qa.mk (ByteArray.mk (List.toArray [65,49])) 5 30 [(1:Int),2] []) (qa.mk (ByteArray.mk (List.toArray [66,49])) 6 10 [(2:Int)] [ByteArray.mk (List.toArray [65,49])])) fun(a107:Bool)=>if a107=Bool.true then Option.bind (qj fu (qa.mk (ByteArray.mk (List.toArray [66,49])) 6 10 [(2:Int)] [ByteArray.mk (List.toArray [65,49])]) (qa.mk (ByteArray.mk (List.toArray [66,50])) 3 0 [] [])) fun(a108:Bool)=>some Bool.false else some Bool.false else some Bool.false else some Bool.false else some Bool.false else Option.bind (qe fu [qa.mk (ByteArray.mk (List.toArray [65,49])) 5 30 [(1:Int),2] [],qa.mk (ByteArray.mk (List.toArray [66,49])) 6 10 [(2:Int)] [ByteArray.mk (List.toArray [65,49])],qa.mk (ByteArray.mk (List.toArray [66,50])) 3 0 [] [],qa.mk (ByteArray.mk (List.toArray [67,49])) 10 200 [(40:Int)] [ByteArray.mk (List.toArray [66,49]),ByteArray.mk (List.toArray [66,50])]] (ByteArray.mk (List.toArray [66,49])) [ByteArray.mk (List.toArray [65,49])]) fun(a109:Bool)=>if a109=Bool.true then Option.bind (qe fu [qa.mk (ByteArray.mk (List.toArray [65,49])) 5 30 [(1:Int),2] [],qa.mk (ByteArray.mk (List.toArray [66,49])) 6 10 [(2:Int)] [ByteArray.mk (List.toArray [65,49])],qa.mk (ByteArray.mk (List.toArray [66,50])) 3 0 [] [],qa.mk (ByteArray.mk (List.toArray [67,49])) 10 200 [(40:Int)] [ByteArray.mk (List.toArray [66,49]),ByteArray.mk (List.toArray [66,50])]] (ByteArray.mk (List.toArray [67,49])) [ByteArray.mk (List.toArray [65,49]),ByteArray.mk (List.toArray [66,49])]) fun(a110:Bool)=>if(!a110)=Bool.true then Option.bind (qe fu [qa.mk (ByteArray.mk (List.toArray [65,49])) 5 30 [(1:Int),2] [],qa.mk (ByteArray.mk (List.toArray [66,49])) 6 10 [(2:Int)] [ByteArray.mk (List.toArray [65,49])],qa.mk (ByteArray.mk (List.toArray [66,50])) 3 0 [] [],qa.mk (ByteArray.mk (List.toArray [67,49])) 10 200 [(40:Int)] [ByteArray.mk (List.toArray [66,49]),ByteArray.mk (List.toArray [66,50])]] (ByteArray.mk (List.toArray [88])) []) fun(a111:Bool)=>if(!a111)=Bool.true then Option.bind (qj fu (qa.mk (ByteArray.mk (List.toArray [65,49])) 5 30 [(1:Int),2] []) (qa.mk (ByteArray.mk (List.toArray [66,49])) 6 10 [(2:Int)] [ByteArray.mk (List.toArray [65,49])])) fun(a112:Bool)=>if a112=Bool.true then Option.bind (qj fu (qa.mk (ByteArray.mk (List.toArray [66,49])) 6 10 [(2:Int)] [ByteArray.mk (List.toArray [65,49])]) (qa.mk (ByteArray.mk (List.toArray [66,50])) 3 0 [] [])) fun(a113:Bool)=>some Bool.false else some Bool.false else some Bool.false else some Bool.false else some Bool.false
theorem q2Q (fu:Nat):qk (JQ fu ) (QQ ):=by
 unfold JQ QQ
 repeat (first
  | with_reducible exact qk.refl _
  | with_reducible exact qk.none _
  | with_reducible apply q0c
  | with_reducible apply q3h
  | with_reducible apply q1x
  | with_reducible apply q39
  | with_reducible apply q48
  | with_reducible apply q2Y
  | with_reducible apply q0F
  | with_reducible refine qk.bind ?_ (fun _=>?_)
  | with_reducible refine qk.ite ?_ ?_
  | with_reducible refine qk.sum (fun _=>?_) (fun _=>?_)
  | with_reducible refine qk.lim (fun _=>?_))
end

noncomputable section
open Go.RowKit
set_option maxRecDepth 100000 in
theorem q7G:QQ=some true:=by
 have h:JQ 40=some true:=by kernel_rfl
 exact q2Q 40 _ h
end
noncomputable section
open Go.RowKit
set_option maxRecDepth 20000
set_option maxHeartbeats 8000000
theorem lo6:okL 6 q7h:=zl (qd bd6) (by kernel_rfl) (by kernel_rfl)
def cx6:=JA_ @q7h.eq_1 (JA_ @Try.f6.eq_1 @bd6)
theorem qpw:lbO 6 5=qh1:=QA (qd bd6) rfl
theorem qpg:okL 6 qh1:=zY lo6 (qt5 (i:=0) (by kernel_rfl))
theorem qpj:lbO 6 8=qgn:=QA (qd bd6) rfl
theorem qon:okL 6 qgn:=zY lo6 (qt5 (i:=1) (by kernel_rfl))
theorem qg2:lbO 6 16=q90:=QA (qd bd6) rfl
theorem qfQ:okL 6 q90:=zY lo6 (qt5 (i:=2) (by kernel_rfl))
theorem qkw:lbO 6 20=qbJ:=QA (qd bd6) rfl
theorem qlm:okL 6 qbJ:=zY lo6 (qt5 (i:=3) (by kernel_rfl))
def qy (w0:List (List qa)) (t5:Bool) (t9:List qa) (t12:List ByteArray) (t33:Int) (t34:Int) (t38:List qa) (t39:Int) (t40:Int) (t70:List ByteArray) (t71:Int) (t72:Int) (t81:List ByteArray) (t82:Int):(List ByteArray×Int)→Option ((List ByteArray×Int)⊕(List ByteArray))|(t15,t83)=>if t83<t82 then if 0≤t83∧t83<((t81.length:Nat):Int) then Option.bind t81[Int.toNat t83]? fun(a:ByteArray)=>Option.bind (Qr t15 a) fun(a2:List ByteArray)=>some (Sum.inl (a2,w64 (t83+1))) else none else some (Sum.inr t15)
theorem Z3:∀(w0:List (List qa)) (t5:Bool) (t9:List qa) (t12 t15:List ByteArray) (t33 t34:Int) (t38:List qa) (t39 t40:Int) (t70:List ByteArray) (t71 t72:Int) (t81:List ByteArray) (t82 t83:Int) (w0_len:Nat),w0_len=w0.length→XL2 evo 6 0 20 ⟨[(5,rB t5),(9,rL 5 qb t9),(12,rL 1 eS t12),(15,rL 1 eS t15),(32,rO 0 1 w0_len),(33,rI t33),(34,rI t34),(38,rL 5 qb t38),(39,rI t39),(40,rI t40),(70,rL 1 eS t70),(71,rI t71),(72,rI t72),(81,rL 1 eS t81),(82,rI t82),(83,rI t83)],[(0,bR 25 1 (eL 5 qb) w0)],1,99⟩=(zE (qy w0 t5 t9 t12 t33 t34 t38 t39 t40 t70 t71 t72 t81 t82) (t15,t83)).bind (fun(e:List ByteArray)=>some (Exit.exit 6,⟨[(5,rB t5),(9,rL 5 qb t9),(12,rL 1 eS t12),(15,rL 1 eS e),(32,rO 0 1 w0.length),(33,rI t33),(34,rI t34),(38,rL 5 qb t38),(39,rI t39),(40,rI t40),(70,rL 1 eS t70),(71,rI t71),(72,rI t72)],[(0,bR 25 1 (eL 5 qb) w0)],1,99⟩)):=
 by
 intro w0 t5 t9 t12 t15 t33 t34 t38 t39 t40 t70 t71 t72 t81 t82 t83 w0_len h0
 subst h0
 revert t83;revert t15;exact qjx qkw qlm (fun e=>by exact⟨_,rfl,fun h=>by cases h⟩) fun t15 t83=>by
  have:=cx6;have:=@qbJ.eq_1;have:=@JN;have:=@qy.eq_1;exact gA
def qY (w0:List (List qa)) (t5:Bool) (t9:List qa) (t12:List ByteArray) (t33:Int) (t34:Int) (t38:List qa) (t39:Int) (t40:Int) (t70:List ByteArray) (t71:Int):(List ByteArray×Int)→Option ((List ByteArray×Int)⊕(List ByteArray))|(t15,t72)=>if t72<t71 then if 0≤t72∧t72<((t70.length:Nat):Int) then Option.bind t70[Int.toNat t72]? fun(a:ByteArray)=>Option.bind (Qr t15 a) fun(a2:List ByteArray)=>Option.bind (qp t9 a) fun(a3:List ByteArray)=>Option.bind (zE (qy w0 t5 t9 t12 t33 t34 t38 t39 t40 t70 t71 t72 a3 ((a3.length:Nat):Int)) (a2,0)) fun(a4:List ByteArray)=>some (Sum.inl (a4,w64 (t72+1))) else none else some (Sum.inr t15)
theorem Ji:∀(w0:List (List qa)) (t5:Bool) (t9:List qa) (t12 t15:List ByteArray) (t33 t34:Int) (t38:List qa) (t39 t40:Int) (t70:List ByteArray) (t71 t72:Int) (w0_len:Nat),w0_len=w0.length→XL2 evo 6 0 16 ⟨[(5,rB t5),(9,rL 5 qb t9),(12,rL 1 eS t12),(15,rL 1 eS t15),(32,rO 0 1 w0_len),(33,rI t33),(34,rI t34),(38,rL 5 qb t38),(39,rI t39),(40,rI t40),(70,rL 1 eS t70),(71,rI t71),(72,rI t72)],[(0,bR 25 1 (eL 5 qb) w0)],1,99⟩=(zE (qY w0 t5 t9 t12 t33 t34 t38 t39 t40 t70 t71) (t15,t72)).bind (fun(e:List ByteArray)=>some (Exit.exit 4,⟨[(5,rB t5),(9,rL 5 qb t9),(12,rL 1 eS t12),(15,rL 1 eS e),(32,rO 0 1 w0.length),(33,rI t33),(34,rI t34),(38,rL 5 qb t38),(39,rI t39),(40,rI t40)],[(0,bR 25 1 (eL 5 qb) w0)],1,99⟩)):=
 by
 intro w0 t5 t9 t12 t15 t33 t34 t38 t39 t40 t70 t71 t72 w0_len h0
 subst h0
 revert t72;revert t15;exact qjx qg2 qfQ (fun e=>by exact⟨_,rfl,fun h=>by cases h⟩) fun t15 t72=>by
  have:=cx6;have:=@q90.eq_1;have:=@JN;have:=@Ze;have:=@Z3;have:=@qY.eq_1;exact gA
def qL (w0:List (List qa)) (t5:Bool) (t9:List qa) (t12:List ByteArray) (t33:Int) (t34:Int) (t38:List qa) (t39:Int) (t40:Int) (t70:List ByteArray) (t71:Int) (t72:Int):Option ((List ByteArray)⊕Unit):=if t72<t71 then if 0≤t72∧t72<((t70.length:Nat):Int) then Option.bind t70[Int.toNat t72]? fun(a:ByteArray)=>Option.bind (Qr [] a) fun(a2:List ByteArray)=>Option.bind (qp t9 a) fun(a3:List ByteArray)=>Option.bind (zE (qy w0 t5 t9 t12 t33 t34 t38 t39 t40 t70 t71 t72 a3 ((a3.length:Nat):Int)) (a2,0)) fun(a4:List ByteArray)=>Option.bind (zE (qY w0 t5 t9 t12 t33 t34 t38 t39 t40 t70 t71) (a4,w64 (t72+1))) fun(e0:List ByteArray)=>some (Sum.inl e0) else none else some (Sum.inr ())
theorem Jf:∀(w0:List (List qa)) (t5:Bool) (t9:List qa) (t12:List ByteArray) (t33 t34:Int) (t38:List qa) (t39 t40:Int) (t70:List ByteArray) (t71 t72:Int) (w0_len:Nat),w0_len=w0.length→XL2 evo 6 0 16 ⟨[(5,rB t5),(9,rL 5 qb t9),(12,rL 1 eS t12),(15,R.c (C.nils)),(32,rO 0 1 w0_len),(33,rI t33),(34,rI t34),(38,rL 5 qb t38),(39,rI t39),(40,rI t40),(70,rL 1 eS t70),(71,rI t71),(72,rI t72)],[(0,bR 25 1 (eL 5 qb) w0)],1,99⟩=(qL w0 t5 t9 t12 t33 t34 t38 t39 t40 t70 t71 t72).bind (Sum.elim (fun(e:List ByteArray)=>some (Exit.exit 4,⟨[(5,rB t5),(9,rL 5 qb t9),(12,rL 1 eS t12),(15,rL 1 eS e),(32,rO 0 1 w0.length),(33,rI t33),(34,rI t34),(38,rL 5 qb t38),(39,rI t39),(40,rI t40)],[(0,bR 25 1 (eL 5 qb) w0)],1,99⟩)) (fun(e:Unit)=>some (Exit.exit 4,⟨[(5,rB t5),(9,rL 5 qb t9),(12,rL 1 eS t12),(15,R.c (C.nils)),(32,rO 0 1 w0.length),(33,rI t33),(34,rI t34),(38,rL 5 qb t38),(39,rI t39),(40,rI t40)],[(0,bR 25 1 (eL 5 qb) w0)],1,99⟩))):=
 by
 intro w0 t5 t9 t12 t33 t34 t38 t39 t40 t70 t71 t72 w0_len h0
 subst h0
 rw[qgE qg2 qfQ]
 have:=cx6;have:=@q90.eq_1;have:=@qaY;have:=@qhJ;have:=@qkx;have:=@qh4;have:=@qlH;have:=@qi1;have:=@qkn;have:=@Ji;have:=@q3m;have:=@Ze;have:=@Z3;have:=@qL.eq_1;exact gA
def zt (w0:List (List qa)) (t5:Bool) (t9:List qa) (t33:Int) (t34:Int) (t38:List qa) (t39:Int):Int→Option (Int⊕(Unit⊕Unit))|t40=>if t40<t39 then if 0≤t40∧t40<((t38.length:Nat):Int) then Option.bind t38[Int.toNat t40]? fun(a:qa)=>Option.bind (qp t9 a.Code) fun(a2:List ByteArray)=>Option.bind (Qq a2) fun(a3:Bool)=>if(!a3)=Bool.true then some (Sum.inr (Sum.inl ())) else Option.bind (qG t9) fun(a4:Int)=>if(a4==0)=Bool.true then Option.bind (Z2 a2 a.Code) fun(a5:Bool)=>if a5=Bool.true then some (Sum.inr (Sum.inl ())) else Option.bind (Qd t9 a.Code) fun(a6:Prod qa Bool)=>Option.bind (qL w0 t5 t9 a2 t33 t34 t38 t39 t40 a6.1.Needs ((a6.1.Needs.length:Nat):Int) 0) fun(a7:Sum (List ByteArray) Unit)=>Sum.elim (fun(a8:List ByteArray)=>Option.bind (qi a2 a8) fun(a10:Bool)=>if(!a10)=Bool.true then some (Sum.inr (Sum.inl ())) else some (Sum.inl (w64 (t40+1)))) (fun(a9:Unit)=>Option.bind (qi a2 []) fun(a11:Bool)=>if(!a11)=Bool.true then some (Sum.inr (Sum.inl ())) else some (Sum.inl (w64 (t40+1)))) a7 else Option.bind (Qd t9 a.Code) fun(a12:Prod qa Bool)=>Option.bind (qL w0 t5 t9 a2 t33 t34 t38 t39 t40 a12.1.Needs ((a12.1.Needs.length:Nat):Int) 0) fun(a13:Sum (List ByteArray) Unit)=>Sum.elim (fun(a14:List ByteArray)=>Option.bind (qi a2 a14) fun(a16:Bool)=>if(!a16)=Bool.true then some (Sum.inr (Sum.inl ())) else some (Sum.inl (w64 (t40+1)))) (fun(a15:Unit)=>Option.bind (qi a2 []) fun(a17:Bool)=>if(!a17)=Bool.true then some (Sum.inr (Sum.inl ())) else some (Sum.inl (w64 (t40+1)))) a13 else none else some (Sum.inr (Sum.inr ()))
theorem JC:∀(w0:List (List qa)) (t5:Bool) (t9:List qa) (t33 t34:Int) (t38:List qa) (t39 t40:Int) (w0_len:Nat),w0_len=w0.length→XL2 evo 6 0 8 ⟨[(5,rB t5),(9,rL 5 qb t9),(32,rO 0 1 w0_len),(33,rI t33),(34,rI t34),(38,rL 5 qb t38),(39,rI t39),(40,rI t40)],[(0,bR 25 1 (eL 5 qb) w0)],1,99⟩=(zE (zt w0 t5 t9 t33 t34 t38 t39) t40).bind (Sum.elim (fun(e:Unit)=>some (Exit.ret,⟨[(4,rB Bool.false),(5,rB t5),(32,rO 0 1 w0.length),(33,rI t33),(34,rI t34)],[(0,bR 25 1 (eL 5 qb) w0)],1,99⟩)) (fun(e:Unit)=>some (Exit.exit 2,⟨[(4,R.any),(5,rB t5),(32,rO 0 1 w0.length),(33,rI t33),(34,rI t34)],[(0,bR 25 1 (eL 5 qb) w0)],1,99⟩))):=
 by
 intro w0 t5 t9 t33 t34 t38 t39 t40 w0_len h0
 subst h0
 revert t40;exact q5U qpj qon (fun e=>by rcases e with _|_<;>exact⟨_,rfl,fun h=>by cases h⟩) fun x=>by
  have:=cx6;have:=@qgn.eq_1;have:=@Ze;have:=@q0S;have:=@QB;have:=@q1N;have:=@q0D;have:=@Jf;have:=@Qw;have:=@q0r;have:=@zt.eq_1;exact gA
def zp (w0:List (List qa)) (t5:Bool) (t33:Int):Int→Option (Int⊕(Unit⊕Unit))|t34=>if t34<t33 then if 0≤t34∧t34<((w0.length:Nat):Int) then Option.bind w0[Int.toNat t34]? fun(a:List qa)=>Option.bind (zE (zt w0 t5 a t33 t34 a ((a.length:Nat):Int)) 0) fun(a2:Sum Unit Unit)=>Sum.elim (fun(a3:Unit)=>some (Sum.inr (Sum.inl ()))) (fun(a4:Unit)=>some (Sum.inl (w64 (t34+1)))) a2 else none else some (Sum.inr (Sum.inr ()))
theorem JB:∀(w0:List (List qa)) (t5:Bool) (t33 t34:Int) (w0_len:Nat),w0_len=w0.length→XL2 evo 6 0 5 ⟨[(5,rB t5),(32,rO 0 1 w0_len),(33,rI t33),(34,rI t34)],[(0,bR 25 1 (eL 5 qb) w0)],1,99⟩=(zE (zp w0 t5 t33) t34).bind (Sum.elim (fun(e:Unit)=>some (Exit.ret,⟨[(4,rB Bool.false),(5,rB t5)],[],0,99⟩)) (fun(e:Unit)=>some (Exit.exit 0,⟨[(4,R.any),(5,rB t5)],[],0,99⟩))):=
 by
 intro w0 t5 t33 t34 w0_len h0
 subst h0
 revert t34;exact q5U qpw qpg (fun e=>by rcases e with _|_<;>exact⟨_,rfl,fun h=>by cases h⟩) fun x=>by
  have:=cx6;have:=@qh1.eq_1;have:=@JC;have:=@zp.eq_1;exact gA
theorem Jh:∀(w00 w01:List qa) (t5:Bool) (t33 t34:Int) (w00_len w01_len:Nat),w00_len=w00.length→w01_len=w01.length→XL2 evo 6 0 5 ⟨[(5,rB t5),(32,rO 0 1 2),(33,rI t33),(34,rI t34)],[(0,B.row 25 1 [C.d (D.sl 5 w00_len (w00.flatMap qb)),C.d (D.sl 5 w01_len (w01.flatMap qb))])],1,99⟩=(zE (zp [w00,w01] t5 t33) t34).bind (Sum.elim (fun(e:Unit)=>some (Exit.ret,⟨[(4,rB Bool.false),(5,rB t5)],[],0,99⟩)) (fun(e:Unit)=>some (Exit.exit 0,⟨[(4,R.any),(5,rB t5)],[],0,99⟩))):=by
 intro w00 w01 t5 t33 t34 w00_len w01_len h0 h1;subst h0 h1;have h:=JB [w00,w01] t5 t33 t34 _ rfl
 first
  | exact h
  | (simp only[rL,dL,bR,bZ,Nat.reduceAdd] at h;exact h)
def Q9 (x0:List Int) (x1:q6Q Int):Option Bool:=Option.bind QQ fun(a:Bool)=>Option.bind (Zx x0) fun(a2:List qa)=>Option.bind (Zr a2 x1) fun(a3:List qa)=>if 0≤min ((a3.length:Nat):Int) 8∧min ((a3.length:Nat):Int) 8≤((a3.length:Nat):Int) then Option.bind (zE (zp [a2,List.take (Int.toNat (min ((a3.length:Nat):Int) 8)-0) a3] a 2) 0) fun(a4:Sum Unit Unit)=>Sum.elim (fun(a5:Unit)=>some Bool.false) (fun(a6:Unit)=>some a) a4 else none
theorem q0u:∀(x0:List Int) (x1_0 x1_1 x1_2:Int),ev 6 0 [rL 1 eI x0,R.agg [dI x1_0,dI x1_1,dI x1_2]] []=(Q9 x0 (q6Q.mk x1_0 x1_1 x1_2)).bind (fun(e:Bool)=>some (rB e,[])):=
 fun x0 x1_0 x1_1 x1_2=>by
  rw[z8 bd6 pw6.2.2.2 lo6]
  have:=cx6;have:=@q2W;have:=@q4b;have:=@q4B;have:=@Jh;have:=@Q9.eq_1;exact gA
end

noncomputable section
open Go.RowKit
set_option maxRecDepth 100000
theorem qbY {α:Type} (ds:List α) (o s:Nat):ds.drop o=(ds.drop o).take s++ds.drop (o+s):=by
 rw[←qtQ];exact(qtR s _).symm
theorem qcm {X:Type} {E:X→List D} {W:X→Prop} {sz:Nat} (hz:0<sz):∀(m:Nat) (es:List D),es.length=m*sz→(∀i,i<m→∃x,(es.drop (i*sz)).take sz=E x∧W x)→∃l:List X,es=l.flatMap E∧l.length=m∧∀x∈l,W x
 | 0,es,hl,_=>⟨[],by rw[Nat.zero_mul] at hl;exact qtn hl,rfl,by simp⟩
 | m+1,es,hl,h=>by
  obtain⟨x,hx,wx⟩:=h 0 (by omega)
  obtain⟨l,g1,g2,g3⟩:=qcm hz m (es.drop sz) (by rw[qtP,hl,Nat.add_mul];omega) fun i hi=>by
   obtain⟨y,hy,wy⟩:=h (i+1) (by omega)
   refine⟨y,?_,wy⟩
   rw[qtQ,show sz+i*sz=(i+1)*sz by rw[Nat.add_mul,Nat.one_mul,Nat.add_comm]];exact hy
  refine⟨x::l,?_,by simp[g2],fun y hy=>?_⟩
  ·rw[Nat.zero_mul,List.drop_zero] at hx
   rw[qu7,←g1,←hx,qtR]
  ·rcases qtq.1 hy with rfl|hy
   ·exact wx
   ·exact g3 y hy
abbrev qpu:List TypeId:=[22,3,23,24,25,35,9,33]
theorem qg6:qpQ Try.prog qpu=true:=by kernel_rfl
theorem ty3:∀(n:Nat) (ds:List D),q1b Try.prog n 3 ds→∃v:Int,ds=[D.int .i64 v]∧(Lit.int .i64 v).wf=true:=by
 intro n ds h
 cases n with
 | zero=>exact h.elim
 | succ n=>
  unfold q1b at h
  rw[Try.underlying3] at h
  obtain⟨z,h1,h2⟩:=h
  exact⟨z,h1,h2⟩
theorem cz3:Try.prog.cellsOf 3=1:=by kernel_rfl
theorem ty22:∀(n:Nat) (ds:List D),q1b Try.prog n 22 ds→∃v:List Int,ds=[D.sl 1 v.length (v.flatMap eI)]∧(v.length≤maxLen∧∀y∈v,(Lit.int .i64 y).wf=true):=by
 intro n ds h
 cases n with
 | zero=>exact h.elim
 | succ n=>
  unfold q1b at h
  rw[Try.underlying22] at h
  obtain⟨m,es,h1,h2,h3,h4⟩:=h
  rw[cz3] at h1 h3 h4
  obtain⟨l,g1,g2,g3⟩:=qcm (E:=eI) (W:=fun y=>(Lit.int .i64 y).wf=true) (sz:=1) (by decide) m es h3 fun i hi=>by
   obtain⟨v,q1,q2⟩:=ty3 n _ (h4 i hi)
   exact⟨v,q1.trans (rfl),q2⟩
  refine⟨l,?_,by omega,g3⟩
  rw[h1,g1,g2]
theorem qrp:Try.prog.cellsOf 23=3:=by kernel_rfl
theorem ty23:∀(n:Nat) (ds:List D),q1b Try.prog n 23 ds→∃v:q6Q Int,ds=[D.int .i64 v.a0,D.int .i64 v.a1,D.int .i64 v.a2]∧((Lit.int .i64 v.a0).wf=true∧(Lit.int .i64 v.a1).wf=true∧(Lit.int .i64 v.a2).wf=true):=by
 intro n ds h
 cases n with
 | zero=>exact h.elim
 | succ n=>
  unfold q1b at h
  rw[Try.underlying23] at h
  obtain⟨hl,hf⟩:=h
  rw[qrp] at hl
  have h0:q1b Try.prog n 3 ((ds.drop 0).take (Try.prog.cellsOf 3)):=by
   have:=hf 0 (by decide)
   rwa [cz3] at this ⊢
  rw[cz3] at h0
  obtain⟨v0,e0,w0⟩:=ty3 _ _ h0
  have c0:=qbY ds 0 1
  rw[e0] at c0
  have h1:q1b Try.prog n 3 ((ds.drop 1).take (Try.prog.cellsOf 3)):=by
   have:=hf 1 (by decide)
   rwa [cz3] at this ⊢
  rw[cz3] at h1
  obtain⟨v1,e1,w1⟩:=ty3 _ _ h1
  have c1:=qbY ds 1 1
  rw[e1] at c1
  have h2:q1b Try.prog n 3 ((ds.drop 2).take (Try.prog.cellsOf 3)):=by
   have:=hf 2 (by decide)
   rwa [cz3] at this ⊢
  rw[cz3] at h2
  obtain⟨v2,e2,w2⟩:=ty3 _ _ h2
  have c2:=qbY ds 2 1
  rw[e2] at c2
  have cl:ds.drop 3=[]:=qtK (by omega)
  refine⟨⟨v0,v1,v2⟩,?_,⟨w0,w1,w2⟩⟩
  have c:ds.drop 0=_:=c0
  simp only[Nat.reduceAdd] at c0 c1 c2 c
  rw[c1,c2,cl] at c
  exact c
end
noncomputable section
open Go.RowKit
theorem q6u {α:Type} (l:List α) (step:Int→Option (Int⊕(Unit⊕Unit))) (h:∀(i:Nat) a,l[i]?=some a→step (i:Int)=some (.inl ((i+1:Nat):Int))) (hn:step ((l.length:Nat):Int)=some (.inr (.inr ()))):zE step 0=some (.inr ()):=by
 rw[q8G l (fun _=>false) step (fun i a ha=>by rw[h i a ha];rfl) hn,if_neg]
 intro e
 obtain⟨a,-,h2⟩:=qtX.1 e
 cases h2
section
variable (w0:List (List qa)) (t5:Bool) (t12:List ByteArray) (t33 t34:Int) (t38:List qa) (t39 t40:Int) (t70:List ByteArray) (t71 t72:Int)
theorem qnO {L:List qa} (hS:Sml L) {l:List ByteArray} (hl:l.length≤1000000) (hu:∀x∈l,x∈uni (ix L)):∀(n k:Nat) (w:List ByteArray),n+k=l.length→w.Pairwise blt→(∀x∈w,x∈uni (ix L))→
  zE (qy w0 t5 L t12 t33 t34 t38 t39 t40 t70 t71 t72 l ((l.length:Nat):Int)) (w,(k:Int))=some (q4j w (l.drop k))
 | 0,k,w,hk,hp,hw=>by
  rw[qtK (by omega)]
  refine zg ?_
  unfold qy
  dsimp only
  rw[if_neg (by omega)];rfl
 | n+1,k,w,hk,hp,hw=>by
  have h1:k<l.length:=by omega
  rw[List.drop_eq_getElem_cons h1,zS (y:=(q5Q w l[k],((k+1:Nat):Int))) (by
   unfold qy
   dsimp only
   rw[if_pos (by omega),if_pos (by omega),qt7,qt6 h1,qt4,q5F hp (qbF hS hp hw),qt4,Q6 h1 (by omega)])]
  exact qnO hS hl hu n (k+1) _ (by omega) (q4y hp _) fun x hx=>(q2q.1 hx).elim (fun e=>e ▸ hu _ (qtU h1)) (hw x)
theorem qqR {L:List qa} (hS:Sml L) {l:List ByteArray} (hl:l.length≤1000) (hu:∀x∈l,x∈uni (ix L)):∀(n k:Nat) (w:List ByteArray),n+k=l.length→w.Pairwise blt→(∀x∈w,x∈uni (ix L))→
  zE (qY w0 t5 L t12 t33 t34 t38 t39 t40 l ((l.length:Nat):Int)) (w,(k:Int))=some (q5D L hS (l.drop k) w)
 | 0,k,w,hk,hp,hw=>by
  rw[qtK (by omega)]
  refine zg ?_
  unfold qY
  dsimp only
  rw[if_neg (by omega)];rfl
 | n+1,k,w,hk,hp,hw=>by
  have h1:k<l.length:=by omega
  obtain⟨-,n2,n3,n4,n5⟩:=q2j hS l[k]
  have hp1:=q4y hp l[k]
  have hu1:∀x∈q5Q w l[k],x∈uni (ix L):=fun x hx=>(q2q.1 hx).elim (fun e=>e ▸ hu _ (qtU h1)) (hw x)
  have hn:∀x∈Jn L hS l[k],x∈uni (ix L):=fun x hx=>((n4 x).1 hx).uni
  have h20:=qnO w0 t5 t12 t33 t34 t38 t39 t40 l ((l.length:Nat):Int) (k:Int) hS n5 hn (Jn L hS l[k]).length 0 (q5Q w l[k]) (by omega) hp1 hu1
  rw[List.drop_zero] at h20
  have h20':zE (qy w0 t5 L t12 t33 t34 t38 t39 t40 l ((l.length:Nat):Int) (k:Int) (Jn L hS l[k]) (((Jn L hS l[k]).length:Nat):Int)) (q5Q w l[k],0)=_:=h20
  rw[List.drop_eq_getElem_cons h1,q5D,zS (y:=(q4j (q5Q w l[k]) (Jn L hS l[k]),((k+1:Nat):Int))) (by
   unfold qY
   dsimp only
   rw[if_pos (by omega),if_pos (by omega),qt7,qt6 h1,qt4,q5F hp (qbF hS hp hw),qt4,n2,qt4,h20',qt4,Q6 h1 (by omega)])]
  exact qqR hS hl hu n (k+1) _ (by omega) (q2J _ hp1) fun x hx=>(q3g.1 hx).elim (hn x) (hu1 x)
theorem qoT {L:List qa} (hS:Sml L) {l:List ByteArray} (hl:l.length≤1000) (hu:∀x∈l,x∈uni (ix L)) :
  qL w0 t5 L t12 t33 t34 t38 t39 t40 l ((l.length:Nat):Int) 0=some (if l=[] then .inr () else .inl (q5D L hS l [])):=by
 have hp:([]:List ByteArray).Pairwise blt := .nil
 have hw:∀x∈([]:List ByteArray),x∈uni (ix L):=fun x hx=>(List.not_mem_nil hx).elim
 unfold qL
 cases l with
 | nil=>rw[if_neg (by decide),if_pos rfl]
 | cons a l=>
  have h1:0<(a::l).length:=by rw[qtf];omega
  obtain⟨-,n2,n3,n4,n5⟩:=q2j hS a
  have hp1:=q4y hp a
  have hu1:∀x∈q5Q [] a,x∈uni (ix L):=fun x hx=>(q2q.1 hx).elim (fun e=>e ▸ hu _ qtj) (hw x)
  have hn:∀x∈Jn L hS a,x∈uni (ix L):=fun x hx=>((n4 x).1 hx).uni
  have h20:=qnO w0 t5 t12 t33 t34 t38 t39 t40 (a::l) (((a::l).length:Nat):Int) 0 hS n5 hn (Jn L hS a).length 0 (q5Q [] a) (by omega) hp1 hu1
  rw[List.drop_zero] at h20
  have h20':zE (qy w0 t5 L t12 t33 t34 t38 t39 t40 (a::l) (((a::l).length:Nat):Int) 0 (Jn L hS a) (((Jn L hS a).length:Nat):Int)) (q5Q [] a,0)=_:=h20
  have h16:=qqR w0 t5 t12 t33 t34 t38 t39 t40 hS hl hu l.length 1 (q4j (q5Q [] a) (Jn L hS a)) (by rw[qtf]) (q2J _ hp1) fun x hx=>(q3g.1 hx).elim (hn x) (hu1 x)
  have w1:w64 ((0:Int)+1)=((1:Nat):Int):=by rw[J9 (by decide) (by decide)];rfl
  have g0:(a::l)[Int.toNat 0]?=some a:=rfl
  rw[if_pos (by omega),if_pos (by omega),g0,qt4,q5F hp (by decide),qt4,n2,qt4,h20',qt4,w1,h16,qt4,if_neg (by simp),q5D]
  rfl
theorem cl8 {L:List qa} (hS:Sml L):zE (zt w0 t5 L t33 t34 L ((L.length:Nat):Int)) 0=some (.inr ()):=by
 have hL:L.length≤1000000:=by have:=hS.ln;omega
 refine q6u L _ (fun k o ho=>?_) (by unfold zt;rw[if_neg (by omega)])
 have h1:=Zz ho
 obtain⟨-,n2,n3,n4,n5⟩:=q2j hS o.Code
 have hf:=q3D hS.el o.Code
 have hw:=qib hS o.Code
 have h16:=fun t12=>qoT w0 t5 t12 t33 t34 L ((L.length:Nat):Int) (k:Int) hS hf fun x hx=>qie hx
 have hsame:qi (Jn L hS o.Code) (Jn L hS o.Code)=some true:=by rw[qcV (by omega),qu3 rfl]
 have fin:Option.bind (qL w0 t5 L (Jn L hS o.Code) t33 t34 L ((L.length:Nat):Int) (k:Int) (q6f L o.Code) (((q6f L o.Code).length:Nat):Int) 0) (fun(a7:Sum (List ByteArray) Unit)=>
   Sum.elim (fun(a8:List ByteArray)=>Option.bind (qi (Jn L hS o.Code) a8) fun(a10:Bool)=>
    if(!a10)=Bool.true then some (Sum.inr (Sum.inl ()))
    else some (Sum.inl ((k+1:Nat):Int))) (fun(a9:Unit)=>Option.bind (qi (Jn L hS o.Code) []) fun(a11:Bool)=>
    if(!a11)=Bool.true then some (Sum.inr (Sum.inl ()))
    else some (Sum.inl ((k+1:Nat):Int))) a7)=(some (.inl ((k+1:Nat):Int)):Option (Int⊕(Unit⊕Unit))):=by
  rw[h16,qt4]
  by_cases he:q6f L o.Code=[]
  ·have hr:Jn L hS o.Code=[]:=by rw[←hw,he];rfl
   rw[if_pos he,Sum.elim_inr]
   rw[hr] at hsame ⊢
   rw[hsame];rfl
  ·rw[if_neg he,Sum.elim_inl,hw,hsame];rfl
 unfold zt
 rw[if_pos (by omega),if_pos (by omega),qt7,ho,qt4,n2,qt4,qcG n5,qt4,qbP n3,if_neg (by decide),qeb hS,qt4,Q6 h1 (by omega),qeY hL hS.ll,qt4,q0d]
 by_cases hc:qj0 L=0
 ·have hno:inB (Jn L hS o.Code) o.Code=false:=qtw.2 fun e=>(qet hc).2.2.2 ⟨o.Code,qtN.2 ⟨o,qt5 ho,rfl⟩,(n4 _).1 (q0g.1 e)⟩
  rw[if_pos (by rw[hc];rfl),q7z n5,qt4,hno,if_neg (by decide)]
  exact fin
 ·rw[if_neg (by rw[beq_iff_eq];exact hc)]
  exact fin
end
theorem q37 (x0:List Int) (h:x0.length≤maxLen) (q:q6Q Int):Q9 x0 q=some true:=by
 obtain⟨M,one,-,h1,hM,h2,-,hS,-,hl,-⟩:=qhF x0 h q q
 have hS2:Sml (List.take (Int.toNat (min ((one.length:Nat):Int) (8:Int))-0) one):=⟨by rw[qtx];omega,fun o ho=>hS.el o (List.mem_of_mem_take ho)⟩
 unfold Q9
 rw[q7G,qt4,h1,qt4,h2,qt4,if_pos (by omega)]
 rw[q6u [M,List.take (Int.toNat (min ((one.length:Nat):Int) (8:Int))-0) one] _ (fun i a ha=>by
  have h3:=Zz ha
  have hSa:Sml a:=by
   have:=qt5 ha
   rw[qtq,qtT] at this
   rcases this with rfl|rfl
   ·exact qaW hM
   ·exact hS2
  have h4:i<2:=h3
  unfold zp
  rw[if_pos (by omega),if_pos (by omega),qt7,ha,qt4,cl8 _ _ _ _ hSa,qt4,Sum.elim_inr,Q6 (n:=10) (by omega) (by omega)]) (by unfold zp;rfl),qt4,Sum.elim_inr]
theorem q3x (x0:List Int) (w0:x0.length≤maxLen∧∀y∈x0,(Lit.int .i64 y).wf=true) (x1:q6Q Int) (_w1:(Lit.int .i64 x1.a0).wf=true∧(Lit.int .i64 x1.a1).wf=true∧(Lit.int .i64 x1.a2).wf=true):Q9 x0 x1=some true:=q37 x0 w0.1 x1
end
end Go.Proofs.Ytcdegieiflmaeaa.Vc
namespace Go.Proofs.Ytcdegieiflmaeaa
open Go.Proofs.Ytcdegieiflmaeaa.Vc (qtc qtd qtg qtj qtp)
open Go.ChangeShapes Go.WideShapes Go.ChangeAt Go.RowKit Go.ChangeMaps
theorem own:ownKnob Try.prog.godebug=none:=by kernel_rfl
theorem qgk:laidOutB Try.prog=true:=by kernel_rfl
section
variable {H:Type} {enc:TypeId×Value→H} {P:Program} {W W':World}
theorem q59 {t e:TypeId} {n base:Nat} {r:Reach} {v:Value} (ht:P.underlying t=some (.array n e)) (h:Value.okWide P W r base t v):∃cs,v = .agg cs∧cs.size=P.cellsOf t:=by
 unfold Value.okWide at h
 rw[ht] at h
 obtain⟨cs,h1,h2,-⟩:=h
 exact⟨cs,h1,h2⟩
theorem q6E (hl:laidOutB P=true) (hb:Below W.heap.size W W'):∀{ts:List TypeId} {vs:List Value} {ds:List (DataW H)} {ps:List MemPlace},(∀t∈ts,P.readableRec t=true∧t<P.types.size)→
  DataW.TrodAll enc P W 0 (fun _=>true) true ts vs ds ps→(∀p∈ps,p.block<W.heap.size)→DataW.TrodAll enc P W' 0 (fun b=>decide (b<W.heap.size)) true ts vs ds ps
 | [],_,_,_,_,h,_=>by
  obtain⟨rfl,rfl,rfl⟩:=trodAll_nil h
  exact trodAll_mk0
 | t::ts,_,_,_,ht,h,hlt=>by
  obtain⟨v,vs,d,ds,p,q,rfl,rfl,rfl,h1,h2⟩:=trodAll_cons h
  exact trodAll_cons_mk (Below.trod hl (ht t qtj).1 (ht t qtj).2 h1 hb (fun x hx=>hlt x (qtg _ hx)))
   (q6E hl hb (fun u hu=>ht u (qtc _ hu)) h2 (fun x hx=>hlt x (qtd _ hx)))
theorem qeN {f:Func} {s:ChangeSpec} {apart fresh handsOn:Bool} {args:Array Value} {ds gs:List (DataW H)} {before:List MemPlace} {tb:TypeId} (hl:laidOutB P=true)
  (hts:∀t∈f.params.toList,P.readableRec t=true∧t<P.types.size) (hr:f.resultTypes=#[tb]) (htb:P.underlying tb=some .bool) (hv:s.vars=[])
  (h1:(s.fn H (ds++gs)).results=[.lit (.bool true)]) (h2:(s.fn H (ds++gs)).args=ds) (h3:(s.fn H (ds++gs)).vars=[])
  (hW:DataW.Whole enc P f.params.toList s.vars apart W args.toList ds gs before) (hb:Below W.heap.size W W') :
  s.post enc P f apart fresh handsOn false W args (.bool true) W':=by
 have hlt:∀p∈before,p.block<W.heap.size:=fun p hp=>hW.lt p hp
 have hW2:=hW
 obtain⟨pa,pv,hA,hV,hp,-,-⟩:=hW2
 rw[hv] at hV
 obtain⟨rfl,rfl⟩:=trodVars_none hV
 rw[qtp] at hp
 subst hp
 refine⟨ds,[],before,[],before,[],hW,?_,?_,?_,?_,fun h=>by cases h⟩
 ·rw[h1,hr]
  exact trodAll_mk1 (shut_bool htb true)
 ·rw[h2]
  exact q6E hl hb hts hA hlt
 ·rw[h3,hv]
  exact hV
 ·exact World.keptBut_mono (fun p hp=>⟨hp,.inr (.inl hp)⟩) (hb.frame (·∈before))
end
end Go.Proofs.Ytcdegieiflmaeaa
namespace Go.Proofs.Ytcdegieiflmaeaa.Vc
end Go.Proofs.Ytcdegieiflmaeaa.Vc
