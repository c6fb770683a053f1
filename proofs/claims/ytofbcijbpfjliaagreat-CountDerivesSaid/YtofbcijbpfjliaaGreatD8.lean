/- Part 8 of a proof. -/
import Derived.Test.YtofbcijbpfjliaaGreatD7
import Derived.KernelRfl
import Derived.Test.YtofbcijbpfjliaaGreatRows
import Derived.ChangeSlices
import Derived.OpenShut
import Derived.Carry
import Derived.ChangeSame
import Derived.ChangeMaps5
import Derived.WideShapes
import Derived.ProofKit
import Derived.Deep.DeepHandedRow
import Derived.Lib.LaidTab
import Derived.Stop.LaidErr
set_option linter.unusedVariables false
set_option linter.unusedSimpArgs false
set_option linter.defProp false
set_option linter.unusedSectionVars false
set_option linter.unnecessarySimpa false
namespace Go.Proofs.YtofbcijbpfjliaaGreat.Vc
noncomputable section
open Go.RowKit
structure q1L (d:qi):Prop where
 lo:0≤d.At
 hi:d.At≤d.L.length
 len:d.L.length≤9223372036854775807
theorem q4o {d:qi} (h:q1L d) {most:Int} (h0:0<most) (h1:most≤1000000):∃v d',qq most d=some (v,d')∧0≤v∧v<most∧q1L d':=by
 obtain⟨a,b,c⟩:=h
 unfold qq
 by_cases he:(d.L.length:Int)≤d.At
 ·exact⟨0,d,if_pos he,Int.le_refl _,h0,⟨a,b,c⟩⟩
 ·obtain⟨x,hx⟩:∃x,d.L[Int.toNat d.At]?=some x:=⟨_,qQz (by omega)⟩
  have e1:=Int.tmod_lt_of_pos x h0
  have e2 : -most<Int.tmod x most:=by
   have:=Int.tmod_lt_of_pos (-x) h0
   rw[Int.neg_tmod] at this;omega
  have e3:w64 (Int.tmod x most+most)=Int.tmod x most+most:=QI (by omega) (by omega)
  have e4:=Int.tmod_lt_of_pos (Int.tmod x most+most) h0
  have e5:0≤Int.tmod (Int.tmod x most+most) most:=Int.tmod_nonneg _ (by omega)
  have e6:w64 (d.At+1)=d.At+1:=QI (by omega) (by omega)
  refine⟨Int.tmod (Int.tmod x most+most) most,⟨d.L,d.At+1⟩,?_,e5,e4,⟨by show 0≤d.At+1;omega,by show d.At+1≤d.L.length;omega,c⟩⟩
  rw[if_neg he,if_pos ⟨a,by omega⟩,hx,qQx,if_neg (by omega),if_neg (by omega),e3,e6]
def q8c:List Int:=[1,1,1,2,2,3]
def q4S (c:qe):Prop:=c.School∈q8c∧c.Code∈zi
theorem qrW {α:Type} (l:List α) (i:Int) (h0:0≤i) (h1:i<l.length):∃x,l[Int.toNat i]?=some x∧x∈l:=⟨l[Int.toNat i],qQz (by omega),qRp _⟩
theorem qgA {d:qi} (h:q1L d):∃c d',Jy d=some (c,d')∧q4S c∧q1L d':=by
 obtain⟨v,d1,e1,a1,b1,h1⟩:=q4o h (most:=6) (by omega) (by omega)
 obtain⟨w,d2,e2,a2,b2,h2⟩:=q4o h1 (most:=((zi.length:Nat):Int)) (by unfold zi;simp) (by unfold zi;simp)
 obtain⟨x,hx,mx⟩:=qrW q8c v a1 (by simpa [q8c] using b1)
 obtain⟨y,hy,my⟩:=qrW zi w a2 b2
 refine⟨⟨x,y⟩,d2,?_,⟨mx,my⟩,h2⟩
 unfold Jy
 rw[e1,qQx,if_pos ⟨a1,b1⟩]
 unfold q8c at hx
 rw[hx,qQx,e2,qQx,if_pos ⟨a2,b2⟩,hy,qQx]
theorem q9o {c:qe} (h:q4S c):q0J c=true:=by
 obtain⟨s,k⟩:=c
 obtain⟨h1,h2⟩:=h
 have e1:∀s∈q8c,inF s 1 8=true:=by decide
 have e2:∀k∈zi,qqX k=true:=by unfold zi;decide
 unfold q0J
 rw[e1 s h1,e2 k h2];rfl
theorem qtv:∀(x y:List UInt8),Op.bytesLess x y=true∨x=y∨Op.bytesLess y x=true
 | [],[] => .inr (.inl rfl)
 | [],_::_ => .inl rfl
 | _::_,[] => .inr (.inr rfl)
 | a::x,b::y=>by
  simp only[Op.bytesLess]
  by_cases h1:a<b
  ·simp[h1]
  ·by_cases h2:b<a
   ·simp[h1,h2]
   ·have:a=b:=by
     apply UInt8.toNat_inj.1
     have h1':¬ a.toNat<b.toNat:=h1
     have h2':¬ b.toNat<a.toNat:=h2
     omega
    subst this
    rcases qtv x y with h|h|h<;>simp[h]
def q6b (a b:qe):Bool:=Qq a b
theorem qju (a b:qe):q6b a b=decide (qxk a b<0):=by
 unfold q6b Qq qxk qdO qED
 by_cases h1:a.School<b.School
 ·rw[if_pos h1,if_pos (by omega),if_pos h1];rfl
 ·rw[if_neg h1]
  by_cases h2:a.School=b.School
  ·rw[if_pos (by simpa using h2),if_neg (fun h=>h h2)]
   cases h3:Op.bytesLess a.Code.toList b.Code.toList
   ·cases h4:(a.Code.toList==b.Code.toList)<;>simp
   ·simp
  ·rw[if_neg (by simpa using h2),if_pos h2,if_neg h1,if_pos (by omega)];rfl
theorem qru (a b:qe):q6b a b=true∨ceq a b=true∨q6b b a=true:=by
 unfold q6b Qq ceq
 by_cases h1:a.School<b.School
 ·simp[h1]
 ·by_cases h2:b.School<a.School
  ·simp[h2]
  ·have h3:a.School=b.School:=by omega
   rcases qtv a.Code.toList b.Code.toList with h|h|h
   ·left;simp[h3,h]
   ·right;left;simp[h3,h]
   ·right;right;simp[h3,h]
def qhV {α:Type} (l:List α) (k:Nat) (c:α):List α:=l.take k++c::l.drop k
theorem qud {α:Type}:∀(ys l:List α) (k:Nat),k+ys.length≤l.length→spl l k ys=l.take k++(ys++l.drop (k+ys.length))
 | [],l,k,_=>by rw[spl,qRh,Nat.add_zero,qQR,qRm]
 | x::ys,l,k,h=>by
  simp only[qQI] at h ⊢
  rw[spl,qud ys (l.set k x) (k+1) (by rw[qRj];omega)]
  have e:l.set k x=l.take k++x::l.drop (k+1):=by rw[List.set_eq_take_append_cons_drop,if_pos (by omega)]
  have hl:(l.take k).length=k:=by rw[qR0];omega
  have e1:(l.set k x).take (k+1)=l.take k++[x]:=by
   rw[e,List.take_append,hl,qRF (by omega),show k+1-k=1 by omega];rfl
  have e2:(l.set k x).drop (k+1+ys.length)=l.drop (k+(ys.length+1)):=by
   rw[e,List.drop_append,hl,qRe (by omega),qQR,show k+1+ys.length-k=ys.length+1 by omega,List.drop_succ_cons,qRl]
   congr 1;omega
  rw[e1,e2,qRd]
  rfl
theorem qwH {α:Type} (l:List α) (z c:α) (k:Nat) (h:k<l.length):List.set (spl (l++[z]) (k+1) (List.take (min (l.length+1-k) (l.length+1-(k+1))) (List.take (l.length+1-k) (List.drop k (l++[z]))))) k c=qhV l k c:=by
 have e1:List.take (min (l.length+1-k) (l.length+1-(k+1))) (List.take (l.length+1-k) (List.drop k (l++[z])))=l.drop k:=by
  rw[List.take_take,List.drop_append_of_le_length (by omega),show min (min (l.length+1-k) (l.length+1-(k+1))) (l.length+1-k)=l.length-k by omega,List.take_append_of_le_length (by rw[qRk];omega),qRF (by rw[qRk];omega)]
 rw[e1,qud _ _ _ (by rw[qRk,qQE,qQP];omega)]
 unfold qhV
 have e2:List.drop (k+1+(l.length-k)) (l++[z])=[]:=qRe (by rw[qQE,qQP];omega)
 rw[qRk,e2,qQS,List.take_append_of_le_length (by omega)]
 rw[List.take_add_one,qQz h,Option.toList_some,qRd,List.set_append_right _ _ (by rw[qR0];omega),qR0,Nat.min_eq_left (by omega),Nat.sub_self]
 rfl
theorem qrf {α:Type} (l:List α) (z c:α):List.set (l++[z]) l.length c=qhV l l.length c:=by
 unfold qhV
 rw[List.set_append_right _ _ (qQN _),Nat.sub_self,List.take_length,List.drop_length]
 rfl
end
noncomputable section
open Go.RowKit
structure q9F (l:List qe):Prop where
 ok:∀c∈l,q4S c
 ord:qgy l=true
theorem q4C {x y:qe} {l:List qe}:qgy (x::y::l)=(q6b x y&&qgy (y::l)):=by rw[qgy,qju]
theorem qms {x:qe} {l:List qe} (h:qgy (x::l)=true):qgy l=true:=by
 cases l with
 | nil=>rfl
 | cons y l=>rw[q4C,qR3] at h;exact h.2
def atF (l:List qe) (c:qe):Nat:=(l.takeWhile fun x=>q6b x c).length
theorem qtG (l:List qe) (c:qe):atF l c≤l.length:=by
 unfold atF
 induction l with
 | nil=>simp
 | cons x l ih=>rw[List.takeWhile_cons];split<;>simp<;>omega
theorem qow {c:qe}:∀{l:List qe},qgy l=true→(∀x,l[atF l c]?=some x→ceq x c=false)→qgy (qhV l (atF l c) c)=true
 | [],_,_=>rfl
 | x::l,h,hc=>by
  by_cases hx:q6b x c=true
  ·have e:atF (x::l) c=atF l c+1:=by unfold atF;rw[List.takeWhile_cons,if_pos hx];rfl
   rw[e] at hc ⊢
   have ih:=qow (qms h) (fun y hy=>hc y (by simpa using hy))
   have e2:qhV (x::l) (atF l c+1) c=x::qhV l (atF l c) c:=rfl
   rw[e2]
   cases l with
   | nil=>rw[show qhV ([]:List qe) (atF [] c) c=[c] from rfl,q4C,hx];rfl
   | cons y l=>
    rw[q4C,qR3] at h
    by_cases hy:q6b y c=true
    ·have e3:atF (y::l) c=atF l c+1:=by unfold atF;rw[List.takeWhile_cons,if_pos hy];rfl
     rw[e3] at ih ⊢
     have e4:qhV (y::l) (atF l c+1) c=y::qhV l (atF l c) c:=rfl
     rw[e4] at ih ⊢
     rw[q4C,h.1,ih];rfl
    ·have e3:atF (y::l) c=0:=by unfold atF;rw[List.takeWhile_cons,if_neg hy];rfl
     rw[e3] at ih ⊢
     have e4:qhV (y::l) 0 c=c::y::l:=rfl
     rw[e4] at ih ⊢
     rw[q4C,hx,ih];rfl
  ·have e:atF (x::l) c=0:=by unfold atF;rw[List.takeWhile_cons,if_neg hx];rfl
   rw[e] at hc ⊢
   have e2:qhV (x::l) 0 c=c::x::l:=rfl
   rw[e2,q4C]
   have h1:=hc x (by simp)
   rcases qru x c with h2|h2|h2
   ·exact absurd h2 hx
   ·rw[h2] at h1;cases h1
   ·rw[h2,h];rfl
theorem qxj (out:List qe) (hl:out.length≤1000000) (d:qi) (c:qe) (many k:Int):zn (Jv out d c many k) 0=some ((atF out c:Nat):Int):=by
 have h1:=q39 (ε:=Int) (step:=Jv out d c many k) out (fun(_:Unit) i=>(i:Int)) (fun i _ x=>if q6b x c=true then .inl () else .inr (i:Int)) (fun _=>(out.length:Int)) (fun _ i x hx=>by
   have hi:=ZB hx
   unfold Jv
   rw[if_pos (by omega),if_pos ⟨by omega,by omega⟩,qQA,hx,qQx,Qn hi (by omega)]
   show(if q6b x c=true then _ else _)=_
   cases q6b x c<;>simp) (fun _=>by
   unfold Jv
   rw[if_neg (by omega)]) ()
 rw[show((0:Nat):Int)=0 from rfl] at h1
 rw[h1]
 congr 1
 have:∀(l:List qe) (i:Nat) (n:Nat),i+l.length=n→q69 (ε:=Int) (fun i (_:Unit) (x:qe)=>if q6b x c=true then .inl () else .inr (i:Int)) (fun _=>(n:Int)) l i ()=((i+atF l c:Nat):Int):=by
  intro l
  induction l with
  | nil=>intro i n h;simp at h;unfold q69 atF;simp[h]
  | cons x l ih=>
   intro i n h
   simp only[qQI] at h
   unfold q69
   by_cases hx:q6b x c=true
   ·have e:atF (x::l) c=atF l c+1:=by unfold atF;rw[List.takeWhile_cons,if_pos hx];rfl
    simp only[hx,if_true]
    rw[ih (i+1) n (by omega),e]
    omega
   ·have e:atF (x::l) c=0:=by unfold atF;rw[List.takeWhile_cons,if_neg hx];rfl
    have hx':q6b x c=false:=by simpa using hx
    simp only[hx',Bool.false_eq_true,if_false]
    rw[e];rfl
 have:=this out 0 out.length (by simp)
 simpa using this
def qtR (l:List qe) (c:qe):List qe:=if(l[atF l c]?).any (fun x=>ceq x c)=true then l else qhV l (atF l c) c
theorem qwJ (l:List qe) (c:qe):l.length≤(qtR l c).length∧(qtR l c).length≤l.length+1∧1≤(qtR l c).length:=by
 have h:=qtG l c
 unfold qtR
 split
 ·rename_i h2
  refine⟨qQN _,by omega,?_⟩
  cases l with
  | nil=>simp at h2
  | cons x l=>simp
 ·unfold qhV
  simp only[qQE,qQI,qR0,qRk]
  omega
theorem qrY {l:List qe} {c:qe} (h:q9F l) (hc:q4S c):q9F (qtR l c):=by
 unfold qtR
 split
 ·exact h
 ·rename_i h2
  refine⟨fun x hx=>?_,qow h.ord fun x hx=>?_⟩
  ·unfold qhV at hx
   rcases qR1.1 hx with hx|hx
   ·exact h.ok x (List.mem_of_mem_take hx)
   ·rcases qQT.1 hx with rfl|hx
    ·exact hc
    ·exact h.ok x (List.mem_of_mem_drop hx)
  ·rw[hx] at h2
   simpa using h2
theorem qpB (out:List qe) (hl:out.length≤1000) {d:qi} (hd:q1L d) (many:Int) (k:Nat) (hk:(k:Int)<many) (hk2:k≤1000):∃c d',q4S c∧q1L d'∧ZA many (out,d,(k:Int))=some (.inl (qtR out c,d',((k+1:Nat):Int))):=by
 obtain⟨c,d',h1,h2,h3⟩:=qgA hd
 refine⟨c,d',h2,h3,?_⟩
 have hML:100000≤maxLen:=by unfold maxLen;omega
 have hat:=qtG out c
 unfold ZA
 simp only
 rw[if_pos hk,h1,qQx]
 simp only
 rw[qxj out (by omega),qQx]
 have hwk:w64 ((k:Int)+1)=((k+1:Nat):Int):=by rw[QI (by omega) (by omega)];omega
 have hwa:w64 (((atF out c:Nat):Int)+1)=((atF out c+1:Nat):Int):=by rw[QI (by omega) (by omega)];omega
 rw[hwk,hwa]
 simp only[qQA,qR0,qRk,qQE,qQI,qRh]
 unfold qtR
 by_cases hlt:atF out c<out.length
 ·obtain⟨x,hx⟩:∃x,out[atF out c]?=some x:=⟨_,qQz hlt⟩
  rw[if_pos (by omega),if_pos ⟨by omega,by omega⟩,hx,qQx]
  simp only[Option.any_some]
  by_cases hc:ceq x c=true
  ·have hc2:=hc
   unfold ceq at hc2
   simp only[qR3] at hc2
   rw[if_pos hc2,if_pos hc]
  ·have hc2:¬ ((x.School==c.School)=true∧(x.Code.toList==c.Code.toList)=true):=fun h=>hc (by unfold ceq;rw[h.1,h.2];rfl)
   rw[if_neg hc2,if_neg hc]
   repeat (first|rw[if_pos (by omega)]|rw[if_neg (by omega)])
   rw[qwH _ _ _ _ hlt]
 ·have he:atF out c=out.length:=by omega
  have hnone:out[out.length]?=none:=qR5 (qQN _)
  rw[he,hnone]
  simp only[Option.any_none,Bool.false_eq_true,if_false]
  repeat (first|rw[if_pos (by omega)]|rw[if_neg (by omega)])
  rw[qrf]
theorem qKK {d:qi} (hd:q1L d):∃S d',ZV d=some (S,d')∧q1L d'∧q9F S∧1≤S.length∧S.length≤3:=by
 obtain⟨v,d1,e1,a1,b1,h1⟩:=q4o hd (most:=3) (by omega) (by omega)
 obtain⟨m,rfl⟩:∃m:Nat,v=(m:Int):=⟨v.toNat,by omega⟩
 have hw:w64 (1+(m:Int))=((m+1:Nat):Int):=by rw[QI (by omega) (by omega)];omega
 have key:∀(j k:Nat) (out:List qe) (d:qi),j+k=m+1→q1L d→q9F out→out.length≤k→(1≤k→1≤out.length)→∃S d',zn (ZA ((m+1:Nat):Int)) (out,d,(k:Int))=some (S,d')∧q1L d'∧q9F S∧1≤S.length∧S.length≤m+1:=by
  intro j
  induction j with
  | zero=>
   intro k out d hk hd hs hl1 hl2
   refine⟨out,d,zg ?_,hd,hs,hl2 (by omega),by omega⟩
   unfold ZA
   simp only
   rw[if_neg (by omega)]
  | succ j ih=>
   intro k out d hk hd hs hl1 hl2
   obtain⟨c,d',g1,g2,g3⟩:=qpB out (by omega) hd ((m+1:Nat):Int) k (by omega) (by omega)
   obtain⟨p1,p2,p3⟩:=qwJ out c
   rw[zM g3]
   exact ih (k+1) _ d' (by omega) g2 (qrY hs g1) (by omega) (fun _=>p3)
 obtain⟨S,d',g1,g2,g3,g4,g5⟩:=key (m+1) 0 [] d1 (by omega) h1 ⟨by simp,rfl⟩ (by simp) (by omega)
 refine⟨S,d',?_,g2,g3,g4,by omega⟩
 unfold ZV
 rw[e1,qQx,hw]
 rw[show((0:Nat):Int)=0 from rfl] at g1
 simp only
 rw[g1,qQx]
end
noncomputable section
open Go.RowKit
structure qaJ (n:qb):Prop where
 kd:(n.Kind=2∧1≤n.N∧n.N≤12)∨(n.Kind=1∧n.N=0)
 mn:0≤n.Min∧n.Min≤80
 st:q9F n.Set
 s1:1≤n.Set.length
 s3:n.Set.length≤3
 nl:n.L=[]
structure qf1 (n:qb):Prop where
 kd:(n.Kind=3∧n.N=0)∨(n.Kind=4∧1≤n.N∧n.N≤n.L.length)
 mn:n.Min=0
 st:n.Set=[]
 ne:n.L≠[]
def q6B (n:qb):Prop:=qaJ n∨qf1 n
structure q7d (deep leaves:Nat) (n:qb):Prop where
 ok:∀y∈ndN n,q6B y
 hg:hgN n≤deep+1
 l1:1≤lvN n
 l2:lvN n≤max 1 leaves
 nd:(ndN n).length≤lvN n*(deep+1)
theorem qc1 {n:qb} (h:qaJ n) (deep leaves:Nat):q7d deep leaves n:=by
 have e1:ndN n=[n]:=by rw[q0s,h.nl,ndL]
 have e2:lvN n=1:=by rw[qbi,if_pos];rcases h.kd with h|h<;>simp[h.1]
 have e3:hgN n=1:=by rw[qjM,h.nl,hgL]
 refine⟨fun y hy=>?_,by omega,by omega,by omega,?_⟩
 ·rw[e1] at hy
  rw[qRo.1 hy];exact .inl h
 ·rw[e1,e2,qQP];omega
def qmA (d:qi):Option (qb×qi):=Option.bind (qq (3:Int) d) fun a3=>if(a3.1==(0:Int))=Bool.true then Option.bind (qq (12:Int) a3.2) fun a4=>Option.bind (qq (3:Int) a4.2) fun a5=>if(0:Int)≤a5.1∧a5.1<(3:Int) then Option.bind [(0:Int),(50:Int),(60:Int)][Int.toNat a5.1]? fun a6=>Option.bind (ZV a5.2) fun a7=>some (qb.mk (2:Int) (w64 ((1:Int)+a4.1)) a6 a7.1 [],a7.2) else none else Option.bind (qq (4:Int) a3.2) fun a8=>if(0:Int)≤a8.1∧a8.1<(4:Int) then Option.bind [(0:Int),(50:Int),(60:Int),(80:Int)][Int.toNat a8.1]? fun a9=>Option.bind (ZV a8.2) fun a10=>some (qb.mk (1:Int) (0:Int) a9 a10.1 [],a10.2) else none
theorem qjZ {d:qi} (hd:q1L d):∃n d',qmA d=some (n,d')∧qaJ n∧q1L d':=by
 obtain⟨v,d1,e1,a1,b1,h1⟩:=q4o hd (most:=3) (by omega) (by omega)
 unfold qmA
 rw[e1,qQx]
 simp only
 by_cases hv:v=0
 ·obtain⟨w,d2,e2,a2,b2,h2⟩:=q4o h1 (most:=12) (by omega) (by omega)
  obtain⟨u,d3,e3,a3,b3,h3⟩:=q4o h2 (most:=3) (by omega) (by omega)
  obtain⟨x,hx,mx⟩:=qrW [(0:Int),50,60] u a3 (by simpa using b3)
  obtain⟨S,d4,e4,h4,s1,s2,s3⟩:=qKK h3
  have hw:w64 (1+w)=1+w:=QI (by omega) (by omega)
  have hm:∀x∈[(0:Int),50,60],0≤x∧x≤80:=by decide
  refine⟨⟨2,1+w,x,S,[]⟩,d4,?_,⟨.inl ⟨rfl,by show 1≤1+w;omega,by show 1+w≤12;omega⟩,hm x mx,s1,s2,s3,rfl⟩,h4⟩
  rw[if_pos (by simp[hv]),e2,qQx]
  simp only
  rw[e3,qQx]
  simp only
  rw[if_pos ⟨a3,b3⟩,hx,qQx,e4,qQx,hw]
 ·obtain⟨u,d3,e3,a3,b3,h3⟩:=q4o h1 (most:=4) (by omega) (by omega)
  obtain⟨x,hx,mx⟩:=qrW [(0:Int),50,60,80] u a3 (by simpa using b3)
  obtain⟨S,d4,e4,h4,s1,s2,s3⟩:=qKK h3
  have hm:∀x∈[(0:Int),50,60,80],0≤x∧x≤80:=by decide
  refine⟨⟨1,0,x,S,[]⟩,d4,?_,⟨.inr ⟨rfl,rfl⟩,hm x mx,s1,s2,s3,rfl⟩,h4⟩
  rw[if_neg (by simpa using hv),e3,qQx]
  simp only
  rw[if_pos ⟨a3,b3⟩,hx,qQx,e4,qQx]
theorem qa5 (rF:(Int×Int×qi)→Option (qb×qi)) (x1 x2:Int) (v:qi):q0Q rF (x1,x2,v)=(qq 6 v).bind fun a2=>
  if x1≤0 then qmA a2.2 else if x2<2 then qmA a2.2 else if a2.1<2 then qmA a2.2 else
  Option.bind (qq (min (3:Int) x2) a2.2) fun a27=>
  Option.bind (zn (QR rF (0:Int) (0:Int) (0:Int) (3:Int) (0:Int) (0:Int) x1 x2 a2.1 (w64 ((1:Int)+a27.1))) ([],(a27.2,(0:Int)))) fun a28=>
  if(3:Int)<a2.1 then Option.bind (qq (w64 ((1:Int)+a27.1)) a28.2) fun a29=>
   some (qb.mk (4:Int) (w64 ((1:Int)+a29.1)) (0:Int) [] a28.1,a29.2)
  else some (qb.mk (3:Int) (0:Int) (0:Int) [] a28.1,a28.2):=rfl
theorem qnO {deep q:Nat} (hq:1≤q):∀(L:List qb),(∀y∈L,q7d deep q y)→hgL L≤deep+1∧L.length≤lvL L∧lvL L≤L.length*q∧(ndL L).length≤lvL L*(deep+1)∧∀y∈ndL L,q6B y
 | [],_=>⟨by simp[hgL],by simp[lvL],by simp[lvL],by simp[ndL],by simp[ndL]⟩
 | x::L,h=>by
  obtain⟨a,b,c,d,e⟩:=qnO hq L fun y hy=>h y (qQF _ hy)
  obtain⟨f,g,i,j,k⟩:=h x qQM
  rw[Nat.max_eq_right hq] at j
  refine⟨?_,?_,?_,?_,?_⟩
  ·rw[hgL];omega
  ·rw[lvL,qQI];omega
  ·rw[lvL,qQI,Nat.add_mul];omega
  ·rw[ndL,lvL,qQE,Nat.add_mul];omega
  ·rw[ndL]
   intro y hy
   rcases qR1.1 hy with hy|hy
   ·exact f y hy
   ·exact e y hy
theorem qdk {n:qb} (h:qf1 n) {deep leaves q:Nat} (hq:1≤q) (hk:n.L.length*q≤leaves) (hL:∀y∈n.L,q7d deep q y):q7d (deep+1) leaves n:=by
 obtain⟨a,b,c,d,e⟩:=qnO hq n.L hL
 have hlen:1≤n.L.length:=by cases hn:n.L with|nil=>exact absurd hn h.ne|cons x l=>simp
 have e2:lvN n=lvL n.L:=by rw[qbi,if_neg];rcases h.kd with h|h<;>simp[h.1]
 refine⟨fun y hy=>?_,?_,by omega,by omega,?_⟩
 ·rw[q0s] at hy
  rcases qQT.1 hy with rfl|hy
  ·exact .inr h
  ·exact e y hy
 ·rw[qjM];omega
 ·rw[q0s,qQI,e2,show deep+1+1=(deep+1)+1 from rfl,Nat.mul_add];omega
theorem qpt:∀(deep leaves:Nat) (d:qi),deep≤10→leaves≤100→q1L d→∃n d',Zo ((deep:Int),(leaves:Int),d)=some (n,d')∧q7d deep leaves n∧q1L d':=by
 intro deep
 induction deep with
 | zero=>
  intro leaves d _ _ hd
  obtain⟨v,d1,e1,a1,b1,h1⟩:=q4o hd (most:=6) (by omega) (by omega)
  obtain⟨n,d',g1,g2,g3⟩:=qjZ h1
  refine⟨n,d',?_,qc1 g2 _ _,g3⟩
  rw[q5U,qa5,e1,qQx,if_pos (by omega)]
  exact g1
 | succ deep ih=>
  intro leaves d hdp hlv hd
  obtain⟨v,d1,e1,a1,b1,h1⟩:=q4o hd (most:=6) (by omega) (by omega)
  obtain⟨n0,d0,g1,g2,g3⟩:=qjZ h1
  rw[q5U,qa5,e1,qQx,if_neg (by omega)]
  by_cases hl:leaves<2
  ·exact⟨n0,d0,by rw[if_pos (by omega)];exact g1,qc1 g2 _ _,g3⟩
  ·rw[if_neg (by omega)]
   by_cases hv:v<2
   ·exact⟨n0,d0,by rw[if_pos hv];exact g1,qc1 g2 _ _,g3⟩
   ·rw[if_neg hv]
    clear g1 g2 g3 n0 d0
    obtain⟨w,d2,e2,a2,b2,h2⟩:=q4o h1 (most:=min 3 (leaves:Int)) (by omega) (by omega)
    simp only
    rw[e2,qQx]
    simp only
    obtain⟨m,hm⟩:∃m:Nat,(m:Int)=1+w:=⟨(1+w).toNat,by omega⟩
    have hw:w64 (1+w)=(m:Int):=by rw[QI (by omega) (by omega)];omega
    rw[hw]
    have hm1:1≤m:=by omega
    have hm3:m≤3:=by omega
    have hml:m≤leaves:=by omega
    obtain⟨q,hq⟩:∃q,q=leaves / m:=⟨_,rfl⟩
    have hq1:1≤q:=by rw[hq];exact(Nat.le_div_iff_mul_le (by omega)).2 (by omega)
    have hqm:m*q≤leaves:=by rw[hq];exact Nat.mul_div_le _ _
    have hq2:q≤leaves:=by rw[hq];exact Nat.div_le_self _ _
    have hML:100000≤maxLen:=by unfold maxLen;omega
    have hdiv:w64 (Int.tdiv (leaves:Int) (m:Int))=(q:Int):=by
     rw[←Int.ofNat_tdiv,←hq,QI (by omega) (by omega)]
    have hdeep:w64 (((deep+1:Nat):Int)-1)=(deep:Int):=by rw[QI (by omega) (by omega)];omega
    have key:∀(j i:Nat) (l:List qb) (d:qi),j+i=m→l.length=i→(∀y∈l,q7d deep q y)→q1L d→∃l' d',zn (QR Zo 0 0 0 3 0 0 ((deep+1:Nat):Int) (leaves:Int) v (m:Int)) (l,d,(i:Int))=some (l',d')∧l'.length=m∧(∀y∈l',q7d deep q y)∧q1L d':=by
     intro j
     induction j with
     | zero=>
      intro i l d hi hl hy hd
      refine⟨l,d,zg ?_,by omega,hy,hd⟩
      unfold QR
      simp only
      rw[if_neg (by omega)]
     | succ j ihj=>
      intro i l d hi hl hy hd
      obtain⟨n,d',q1,q2,q3⟩:=ih q d (by omega) (by omega) hd
      have hs:QR Zo 0 0 0 3 0 0 ((deep+1:Nat):Int) (leaves:Int) v (m:Int) (l,d,(i:Int))=some (.inl (l++[n],d',((i+1:Nat):Int))):=by
       unfold QR
       simp only
       rw[if_pos (by omega),if_neg (by omega),hdiv,hdeep,q1,qQx]
       simp only
       rw[if_pos ⟨by omega,by omega⟩,QI (by omega) (by omega)]
       rfl
      rw[zM hs]
      refine ihj (i+1) (l++[n]) d' (by omega) (by simp[hl]) (fun y hy2=>?_) q3
      rcases qR1.1 hy2 with h|h
      ·exact hy y h
      ·rw[qRo.1 h];exact q2
    obtain⟨l,d3,q1,q2,q3,q4⟩:=key m 0 [] d2 (by omega) rfl (by simp) h2
    rw[show((0:Nat):Int)=0 from rfl] at q1
    rw[q1,qQx]
    have hne:l≠[]:=fun h=>by rw[h] at q2;simp at q2;omega
    by_cases hv3:(3:Int)<v
    ·obtain⟨u,d4,e4,a4,b4,h4⟩:=q4o q4 (most:=(m:Int)) (by omega) (by omega)
     have hwu:w64 (1+u)=1+u:=QI (by omega) (by omega)
     simp only
     rw[if_pos hv3,e4,qQx,hwu]
     exact⟨_,d4,rfl,qdk (q:=q) ⟨.inr ⟨rfl,by show 1≤1+u;omega,by show 1+u≤(l.length:Int);omega⟩,rfl,rfl,hne⟩ hq1 (by show l.length*q≤leaves;rw[q2];exact hqm) q3,h4⟩
    ·simp only
     rw[if_neg hv3]
     exact⟨_,d3,rfl,qdk (q:=q) ⟨.inl ⟨rfl,rfl⟩,rfl,rfl,hne⟩ hq1 (by show l.length*q≤leaves;rw[q2];exact hqm) q3,q4⟩
theorem qf8 {n:qb} (h:qaJ n):q2o n=0:=by
 have h1:=h.s1
 have h3:=h.s3
 have hm:=h.mn
 have e1:inF n.Min (-1000) 1000=true:=by unfold inF;simp;omega
 have e2:inF n.Set.length 1 12=true:=by unfold inF;simp;omega
 have e3:n.Set.all q0J=true:=qQO.2 fun c hc=>q9o (h.st.ok c hc)
 unfold q2o
 rw[e1,e2,e3,h.st.ord]
 simp
theorem qnj {n:qb} (h:q6B n):q8t n=0:=by
 unfold q8t
 rcases h with h|h
 ·have hc:=qf8 h
  rcases h.kd with ⟨k,a,b⟩|⟨k,a⟩
  ·have e:inF n.N 1 600=true:=by unfold inF;simp;omega
   simp[k,h.nl,e,hc]
  ·simp[k,h.nl,a,hc]
 ·have hb:q7G n=true:=by
   unfold q7G
   rw[h.mn,h.st]
   cases hL:n.L with
   | nil=>exact absurd hL h.ne
   | cons x l=>rfl
  rcases h.kd with ⟨k,a⟩|⟨k,a,b⟩
  ·simp[k,hb,a]
  ·have e:inF n.N 1 n.L.length=true:=by unfold inF;simp;omega
   simp[k,hb,e]
theorem qiF:∀(l:List qb),(∀y∈l,q8t y=0)→qto l=none
 | [],_=>rfl
 | x::l,h=>by
  unfold qto
  rw[List.findSome?_cons,h x qQM]
  simp only[ne_eq,not_true_eq_false,if_false]
  exact qiF l fun y hy=>h y (qQF _ hy)
theorem qFH:∀(n:qb) (d m:Int),dpN d n m≤max m (d+hgN n-1):=by
 intro n
 induction n using qb.rec (motive_2:=fun L=>∀(d m:Int),dpL d L m≤max m (d+hgL L-1)) with
 | mk k n m S L ih=>
  intro d mm
  rw[dpN,hgN]
  have:=ih (d+1) (max mm d)
  omega
 | nil=>rename_i d m;rw[dpL];omega
 | cons x L h1 h2=>
  rename_i d m
  rw[dpL,hgL]
  have a:=h1 d m
  have b:=h2 d (dpN d x m)
  omega
theorem qhg:∀(n:qb),(∀y∈ndN n,q6B y)→((ndN n).filter q1U).length=lvN n:=by
 intro n
 induction n using qb.rec (motive_2:=fun L=>(∀y∈ndL L,q6B y)→((ndL L).filter q1U).length=lvL L) with
 | mk k n m S L ih=>
  intro h
  rw[ndN] at h ⊢
  have h0:=h _ qQM
  have hr:=ih fun y hy=>h y (qQF _ hy)
  rw[List.filter_cons,lvN]
  rcases h0 with h0|h0
  ·have e:L=[]:=h0.nl
   subst e
   have e1:k=1∨k=2:=by rcases h0.kd with h|h;exact .inr h.1;exact .inl h.1
   have e2:q1U ⟨k,n,m,S,[]⟩=true:=by unfold q1U;rcases e1 with rfl|rfl<;>rfl
   rw[if_pos e2,if_pos e1]
   simp[ndL]
  ·have e1:k=3∨k=4:=by rcases h0.kd with h|h;exact .inl h.1;exact .inr h.1
   have e2:q1U ⟨k,n,m,S,L⟩=false:=by unfold q1U;rcases e1 with rfl|rfl<;>rfl
   rw[e2,if_neg (by simp),if_neg (by omega),hr]
 | nil=>simp[ndL,lvL]
 | cons x L h1 h2=>
  rename_i h
  rw[ndL] at h ⊢
  rw[lvL,List.filter_append,qQE,h1 fun y hy=>h y (qQJ _ hy),h2 fun y hy=>h y (qQG _ hy)]
theorem qeI {n:qb} (h:∀y∈ndN n,q6B y):∀y∈ndN n,y.Set.length≤1000000:=fun y hy=>by
 rcases h y hy with h|h
 ·have:=h.s3;omega
 ·rw[h.st];simp
theorem qdd {n:qb} (h:q7d 3 6 n):JU n=some 0:=by
 have h1:=h.hg
 have h2:=h.l1
 have h3:=h.l2
 have h4:=h.nd
 rw[qdN n (by omega) (by omega) (qeI h.ok)]
 unfold qgo
 have hf:=qhg n h.ok
 have hd:=qFH n 1 0
 have e:inF ((ndN n).filter q1U).length 1 8=true:=by unfold inF;rw[hf];simp;omega
 rw[if_neg (by omega),if_neg (by omega),e,if_neg (by simp),qiF _ fun y hy=>qnj (h.ok y hy)]
 rfl
end
noncomputable section
open Go.RowKit
theorem qhk (x y:Nat):(x &&& y) / 2=(x / 2) &&& (y / 2):=by
 apply Nat.eq_of_testBit_eq
 intro i
 rw[Nat.testBit_div_two,Nat.testBit_and,Nat.testBit_and,Nat.testBit_div_two,Nat.testBit_div_two]
theorem qhj (x y:Nat):(x &&& y) % 2=if x % 2=1∧y % 2=1 then 1 else 0:=by
 have h:(x &&& y).testBit 0=(x.testBit 0&&y.testBit 0):=Nat.testBit_and x y 0
 rw[Nat.testBit_zero,Nat.testBit_zero,Nat.testBit_zero] at h
 have h1:x % 2<2:=Nat.mod_lt _ (by decide)
 have h2:y % 2<2:=Nat.mod_lt _ (by decide)
 have h3:(x &&& y) % 2<2:=Nat.mod_lt _ (by decide)
 by_cases hx:x % 2=1
 ·by_cases hy:y % 2=1
  ·rw[if_pos ⟨hx,hy⟩]
   simpa [hx,hy] using h
  ·rw[if_neg (fun h=>hy h.2)]
   have:¬ (x &&& y) % 2=1:=by simpa [hx,hy] using h
   omega
 ·rw[if_neg (fun h=>hx h.1)]
  have:¬ (x &&& y) % 2=1:=by simpa [hx] using h
  omega
theorem qsP:∀(sub set t:Nat),sub &&& set=sub→t &&& set=t→t<sub→t≤(sub-1) &&& set:=by
 intro sub
 induction sub using Nat.strongRecOn with
 | _ sub ih=>
  intro set t hs ht hlt
  have hs2:=qhk sub set
  have hsm:=qhj sub set
  have ht2:=qhk t set
  have htm:=qhj t set
  rw[hs] at hs2 hsm
  rw[ht] at ht2 htm
  have hr2:=qhk (sub-1) set
  have hrm:=qhj (sub-1) set
  by_cases hodd:sub % 2=1
  ·have e:(sub-1) / 2=sub / 2:=by omega
   rw[e,←hs2] at hr2
   have e2:(sub-1) % 2=0:=by omega
   rw[if_neg (by omega)] at hrm
   omega
  ·have hpos:sub / 2≠0:=by omega
   have e:(sub-1) / 2=sub / 2-1:=by omega
   rw[e] at hr2
   have hlt2:t / 2<sub / 2:=by omega
   have:=ih (sub / 2) (by omega) (set / 2) (t / 2) hs2.symm ht2.symm hlt2
   have hset:set % 2<2:=Nat.mod_lt _ (by decide)
   have e3:(sub-1) % 2=1:=by omega
   by_cases hm:set % 2=1
   ·rw[if_pos ⟨e3,hm⟩] at hrm
    have:t % 2<2:=Nat.mod_lt _ (by decide)
    omega
   ·rw[if_neg (fun h=>hm h.2)] at hrm htm
    omega
structure IsB (own:Nat→Bool) (best:Nat→Int) (set:Nat) (base v:Int):Prop where
 ge:base≤v
 all:∀t,t≠0→t &&& set=t→own t=true→0≤best (q0R set t)→best (q0R set t)+1≤v
 is:v=base∨∃t,t≠0∧t &&& set=t∧own t=true∧0≤best (q0R set t)∧v=best (q0R set t)+1
theorem qCZ {own:Nat→Bool} {best:Nat→Int} {set:Nat}:∀(f sub:Nat) (v:Int),sub≤f→sub &&& set=sub→v≤eaF own best set f sub v∧(∀t,t≠0→t &&& set=t→t≤sub→own t=true→0≤best (q0R set t)→best (q0R set t)+1≤eaF own best set f sub v)∧
  (eaF own best set f sub v=v∨∃t,t≠0∧t &&& set=t∧own t=true∧0≤best (q0R set t)∧eaF own best set f sub v=best (q0R set t)+1):=by
 intro f
 induction f with
 | zero=>
  intro sub v hf _
  have:sub=0:=by omega
  subst this
  exact⟨Int.le_refl _,fun t h1 _ h3=>by omega,.inl rfl⟩
 | succ f ih=>
  intro sub v hf hs
  unfold eaF
  by_cases hz:sub=0
  ·rw[if_pos hz]
   exact⟨Int.le_refl _,fun t h1 _ h3=>by omega,.inl rfl⟩
  ·rw[if_neg hz]
   have ha:(sub-1) &&& set≤sub-1:=Nat.and_le_left
   have hb:((sub-1) &&& set) &&& set=(sub-1) &&& set:=by rw[Nat.and_assoc,Nat.and_self]
   obtain⟨i1,i2,i3⟩:=ih ((sub-1) &&& set) (eaV own best set sub v) (by omega) hb
   have hv:v≤eaV own best set sub v:=by unfold eaV;split<;>omega
   refine⟨by omega,fun t h1 h2 h3 h4 h5=>?_,?_⟩
   ·by_cases e:t=sub
    ·subst e
     have:best (q0R set t)+1≤eaV own best set t v:=by unfold eaV;rw[if_pos ⟨h4,h5⟩];omega
     omega
    ·exact i2 t h1 h2 (qsP sub set t hs h2 (by omega)) h4 h5
   ·rcases i3 with e|h
    ·by_cases hc:own sub=true∧0≤best (q0R set sub)
     ·have e2:eaV own best set sub v=max v (best (q0R set sub)+1):=by unfold eaV;rw[if_pos hc]
      by_cases hm:v≤best (q0R set sub)+1
      ·exact .inr ⟨sub,hz,hs,hc.1,hc.2,by rw[e,e2];omega⟩
      ·exact .inl (by rw[e,e2];omega)
     ·exact .inl (by rw[e];unfold eaV;rw[if_neg hc])
    ·exact .inr h
theorem qpm (skip:Bool) (own:Nat→Bool) (best:Nat→Int) (set:Nat):IsB own best set (if skip=true then best set else -1) (stF skip own best set):=by
 obtain⟨h1,h2,h3⟩:=qCZ (own:=own) (best:=best) (set:=set) set set (if skip=true then best set else -1) (qQN _) (Nat.and_self _)
 refine⟨h1,fun t t1 t2 t3 t4=>h2 t t1 t2 ?_ t3 t4,h3⟩
 rw[←t2];exact Nat.and_le_right
theorem qln {w m j:Nat} (h:m<2 ^ w) (hj:m.testBit j=true):j<w:=by
 rcases Nat.lt_or_ge j w with h1|h1
 ·exact h1
 ·rw[Nat.testBit_lt_two_pow (qR7 h (Nat.pow_le_pow_right (by decide) h1))] at hj
  cases hj
def qgi (n:qb) (s:qd) (x:qV) (a:qa):qV:=⟨w64 (x.many+1),w64 (x.credits+a.Credits),x.fine&&qcE n s a⟩
def Q6 {α:Type} (p:Nat→Bool):List α→List α
 | []=>[]
 | a::l=>(if p 0=true then[a] else[])++Q6 (fun j=>p (j+1)) l
theorem qhm (n:qb) (s:qd) (set:Nat):∀(l:List qa) (k:Nat) (x:qV),wgF n s set l k x=(Q6 (fun j=>set.testBit (k+j)) l).foldl (qgi n s) x
 | [],k,x=>rfl
 | a::l,k,x=>by
  rw[wgF,Q6,qhm n s set l (k+1),List.foldl_append,show(fun j=>set.testBit (k+(j+1)))=fun j=>set.testBit (k+1+j) from funext fun j=>by rw[Nat.add_right_comm,qRr]]
  congr 1
  cases set.testBit (k+0)<;>simp[qgi]
theorem q26 {α:Type}:∀{l:List α} {p q:Nat→Bool},(∀j,j<l.length→p j=q j)→Q6 p l=Q6 q l
 | [],_,_,_=>rfl
 | a::l,p,q,h=>by
  rw[Q6,Q6,h 0 (by simp),q26 fun j hj=>h (j+1) (by simpa using hj)]
theorem q5I {α:Type}:∀(l:List α) (a:α) (p:Nat→Bool),Q6 p (l++[a])=Q6 p l++(if p l.length=true then[a] else[])
 | [],a,p=>by simp[Q6]
 | b::l,a,p=>by rw[qRD,Q6,q5I l a,Q6,qRd];rfl
theorem qgK (a:Int):∃q,w64 a=a-q*18446744073709551616 ∧ -9223372036854775808≤w64 a∧w64 a≤9223372036854775807:=by
 show ∃q,IntKind.i64.wrap a=a-q*18446744073709551616 ∧ -9223372036854775808≤IntKind.i64.wrap a∧IntKind.i64.wrap a≤9223372036854775807
 have e:IntKind.i64.wrap a=if a % 18446744073709551616 ≥ 9223372036854775808 then a % 18446744073709551616-18446744073709551616 else a % 18446744073709551616:=by simp[IntKind.wrap,IntKind.signed,IntKind.bits]
 rw[e]
 split
 ·exact⟨a / 18446744073709551616+1,by omega,by omega,by omega⟩
 ·exact⟨a / 18446744073709551616,by omega,by omega,by omega⟩
theorem qgU (a b:Int):w64 (w64 a+b)=w64 (a+b):=by
 obtain⟨q,h1,_⟩:=qgK a
 obtain⟨r,h2,h3,h4⟩:=qgK (w64 a+b)
 obtain⟨u,h5,h6,h7⟩:=qgK (a+b)
 rw[h2] at h3 h4 ⊢
 rw[h5] at h6 h7 ⊢
 omega
theorem qlC (n:qb) (s:qd) (x:qV) (a b:qa):qgi n s (qgi n s x a) b=qgi n s (qgi n s x b) a:=by
 unfold qgi
 simp only[qgU]
 rw[show x.credits+a.Credits+b.Credits=x.credits+b.Credits+a.Credits by omega,Bool.and_right_comm]
end
noncomputable section
open Go.RowKit
def qgx (n:qb) (s:qd) (l:List qa) (p:Nat→Bool):qV:=(Q6 p l).foldl (qgi n s) ld0
mutual
def q5C (s:qd) (l:List qa) (a:Nat→Int):qb→Nat→Bool×Bool
 | ⟨k,n,m,S,L⟩,nx=>if k=1∨k=2 then((qgx ⟨k,n,m,S,L⟩ s l (fun j=>a j==(nx:Int))).many==0,qcC ⟨k,n,m,S,L⟩ (qgx ⟨k,n,m,S,L⟩ s l (fun j=>a j==(nx:Int))))
  else((q1v s l a (k==3) L nx).1,!(q1v s l a (k==3) L nx).2.2&&decide (n≤((q1v s l a (k==3) L nx).2.1:Int)))
def q1v (s:qd) (l:List qa) (a:Nat→Int) (al:Bool):List qb→Nat→Bool×Nat×Bool
 | [],_=>(true,0,false)
 | x::L,nx=>((q5C s l a x nx).1&&(q1v s l a al L (nx+lvN x)).1,(if(q5C s l a x nx).2=true then 1 else 0)+(q1v s l a al L (nx+lvN x)).2.1,
   (!(q5C s l a x nx).2&&(!(q5C s l a x nx).1||al))||(q1v s l a al L (nx+lvN x)).2.2)
end
theorem q3Z (s:qd) (l:List qa) (a:Nat→Int) (n:qb) (nx:Nat):q5C s l a n nx=if n.Kind=1∨n.Kind=2 then((qgx n s l (fun j=>a j==(nx:Int))).many==0,qcC n (qgx n s l (fun j=>a j==(nx:Int))))
  else((q1v s l a (n.Kind==3) n.L nx).1,!(q1v s l a (n.Kind==3) n.L nx).2.2&&decide (n.N≤((q1v s l a (n.Kind==3) n.L nx).2.1:Int))):=by
 cases n;rw[q5C]
structure q3d (n:qb):Prop where
 kind:n.Kind=1∨n.Kind=2∨n.Kind=3∨n.Kind=4
 all:n.Kind=3→n.N≤(n.L.length:Int)∧n.L≠[]
 some:n.Kind=4→1≤n.N
theorem qou (n:qb):n∈ndN n:=by rw[q0s];exact qQM ..
theorem q4d (s:qd) (l:List qa) (a b:Nat→Int):∀(n:qb) (nx:Nat),(∀k,k<l.length→∀x:Int,(nx:Int)≤x→x<((nx+lvN n:Nat):Int)→(a k=x↔b k=x))→q5C s l a n nx=q5C s l b n nx:=by
 intro n
 induction n using qb.rec (motive_2:=fun L=>∀(al:Bool) (nx:Nat),(∀k,k<l.length→∀x:Int,(nx:Int)≤x→x<((nx+lvL L:Nat):Int)→(a k=x↔b k=x))→q1v s l a al L nx=q1v s l b al L nx) with
 | mk k n m S L ih=>
  intro nx h
  rw[q3Z,q3Z]
  rw[lvN] at h
  by_cases hk:k=1∨k=2
  ·rw[if_pos hk] at h
   rw[if_pos hk,if_pos hk]
   have:Q6 (fun j=>a j==(nx:Int)) l=Q6 (fun j=>b j==(nx:Int)) l:=q26 fun j hj=>by
    have:=h j hj nx (Int.le_refl _) (by omega)
    by_cases e:a j=nx
    ·rw[e,this.1 e]
    ·have e':¬ b j=nx:=fun e2=>e (this.2 e2)
     rw[beq_eq_false_iff_ne.2 e,beq_eq_false_iff_ne.2 e']
   unfold qgx
   rw[this]
  ·rw[if_neg hk] at h
   rw[if_neg hk,if_neg hk]
   simp only
   rw[ih _ nx h]
 | nil=>rw[q1v,q1v]
 | cons x L h1 h2=>
  rename_i al nx h
  rw[lvL] at h
  rw[q1v,q1v,h1 nx (fun k hk y hy hy2=>h k hk y hy (by omega)),h2 al (nx+lvN x) (fun k hk y hy hy2=>h k hk y (by omega) (by omega))]
theorem qg2 (n:qb) (s:qd):∀(L:List qa) (x:qV),0≤x.many→x.many+L.length≤9223372036854775807→(L.foldl (qgi n s) x).many=x.many+L.length
 | [],x,_,_=>by simp
 | a::L,x,h0,h=>by
  rw[qQI] at h
  have hw:w64 (x.many+1)=x.many+1:=QI (by omega) (by omega)
  rw[qRB,qg2 n s L (qgi n s x a) (by unfold qgi;simp only;omega) (by unfold qgi;simp only;omega),qQI]
  unfold qgi
  simp only
  omega
theorem q4O {α:Type}:∀(l:List α) (p:Nat→Bool),(Q6 p l).length≤l.length
 | [],_=>by simp[Q6]
 | a::l,p=>by
  have:=q4O l (fun j=>p (j+1))
  rw[Q6,qQE,qQI]
  split<;>simp<;>omega
theorem qdB {α:Type}:∀(l:List α) (p:Nat→Bool),(Q6 p l).length=0↔∀k,k<l.length→p k=false
 | [],_=>by simp[Q6]
 | a::l,p=>by
  have ih:=qdB l (fun j=>p (j+1))
  rw[Q6,qQE]
  constructor
  ·intro h k hk
   cases k with
   | zero=>
    by_cases e:p 0=true
    ·rw[if_pos e] at h;simp at h
    ·simpa using e
   | succ k=>exact ih.1 (by omega) k (by simpa using hk)
  ·intro h
   rw[ih.2 fun k hk=>h (k+1) (by simpa using hk),if_neg (by rw[h 0 (by simp)];decide)]
   try rfl
theorem qoE (n:qb) (s:qd) (l:List qa) (hl:l.length≤62) (p:Nat→Bool):(qgx n s l p).many=((Q6 p l).length:Int):=by
 have:=q4O l p
 unfold qgx
 rw[qg2 n s _ _ (by decide) (by show(0:Int)+_≤_;omega)]
 show(0:Int)+_=_
 omega
theorem q7T (s:qd) (l:List qa) (hl:l.length≤62) (a:Nat→Int):∀(n:qb) (nx:Nat),(q5C s l a n nx).1=true↔∀k,k<l.length→¬((nx:Int)≤a k∧a k<((nx+lvN n:Nat):Int)):=by
 intro n
 induction n using qb.rec (motive_2:=fun L=>∀(al:Bool) (nx:Nat),(q1v s l a al L nx).1=true↔∀k,k<l.length→¬((nx:Int)≤a k∧a k<((nx+lvL L:Nat):Int))) with
 | mk k n m S L ih=>
  intro nx
  rw[q3Z,lvN]
  by_cases hk:k=1∨k=2
  ·rw[if_pos hk,if_pos hk]
   simp only
   rw[qoE _ _ _ hl,beq_iff_eq,show(((Q6 (fun j=>a j==(nx:Int)) l).length:Int)=0)↔(Q6 (fun j=>a j==(nx:Int)) l).length=0 from by omega,qdB]
   constructor
   ·intro h k hk h2
    have:=beq_eq_false_iff_ne.1 (h k hk)
    omega
   ·intro h k hk
    have:=h k hk
    exact beq_eq_false_iff_ne.2 (by omega)
  ·rw[if_neg hk,if_neg hk]
   exact ih _ nx
 | nil=>rename_i al nx;rw[q1v,lvL];simp only[true_iff];intro k hk;omega
 | cons x L h1 h2=>
  rename_i al nx
  rw[q1v,lvL,qR3,h1,h2]
  constructor
  ·intro h k hk
   have a1:=h.1 k hk
   have a2:=h.2 k hk
   omega
  ·intro h
   exact⟨fun k hk=>by have:=h k hk;omega,fun k hk=>by have:=h k hk;omega⟩
theorem qhD (s:qd) (l:List qa) (a:Nat→Int):∀(n:qb) (nx:Nat),(∀y∈ndN n,q3d y)→(q5C s l a n nx).2=true→(q5C s l a n nx).1=false:=by
 intro n
 induction n using qb.rec (motive_2:=fun L=>∀(al:Bool) (nx:Nat),(∀y∈ndL L,q3d y)→(q1v s l a al L nx).1=true→(q1v s l a al L nx).2.1=0∧(al=true→(q1v s l a al L nx).2.2=false→L=[])) with
 | mk k n m S L ih=>
  intro nx hf h
  have hn:=hf _ (qou _)
  rw[q3Z] at h ⊢
  by_cases hk:k=1∨k=2
  ·rw[if_pos hk] at h ⊢
   simp only at h ⊢
   generalize qgx ⟨k,n,m,S,L⟩ s l (fun j=>a j==(nx:Int))=x at h
   unfold qcC at h
   simp only at h
   refine beq_eq_false_iff_ne.2 fun e=>?_
   rw[e] at h
   split at h<;>simp at h
  ·rw[if_neg hk] at h ⊢
   simp only at h ⊢
   refine qQZ.2 fun e=>?_
   obtain⟨h1,h2⟩:=ih (k==3) nx (fun y hy=>hf y (by rw[ndN];exact qQF _ hy)) e
   rw[qR3,h1,qRx] at h
   rcases hn.kind with q|q|q|q
   ·exact hk (.inl q)
   ·exact hk (.inr q)
   ·simp only at q
    subst q
    exact(hn.all rfl).2 (h2 (by decide) (by simpa using h.1))
   ·have:=hn.some q
    simp only at this
    omega
 | nil=>rename_i al nx _ _;rw[q1v];exact⟨rfl,fun _ _=>rfl⟩
 | cons x L h1 h2=>
  rename_i al nx hf h
  rw[q1v] at h ⊢
  simp only at h ⊢
  rw[qR3] at h
  have hx:(q5C s l a x nx).2=false:=by
   refine qQZ.2 fun e=>?_
   have:=h1 nx (fun y hy=>hf y (by rw[ndL];exact qQJ _ hy)) e
   rw[this] at h
   exact absurd h.1 (by decide)
  obtain⟨h3,h4⟩:=h2 al (nx+lvN x) (fun y hy=>hf y (by rw[ndL];exact qQG _ hy)) h.2
  rw[hx,h3]
  refine⟨by simp,fun ha hw=>?_⟩
  rw[ha] at hw
  simp at hw
end
noncomputable section
open Go.RowKit
def mkS (p:Nat→Bool):Nat→Nat
 | 0=>0
 | n+1=>mkS p n ||| (if p n=true then 2 ^ n else 0)
theorem qbj (p:Nat→Bool):∀(n k:Nat),(mkS p n).testBit k=(decide (k<n)&&p k)
 | 0,k=>by simp[mkS]
 | n+1,k=>by
  rw[mkS,Nat.testBit_or,qbj p n k]
  by_cases e:k=n
  ·subst e
   by_cases hp:p k=true
   ·rw[if_pos hp,Nat.testBit_two_pow];simp[hp]
   ·rw[if_neg hp];simp[qQZ.2 hp]
  ·have h1:(if p n=true then 2 ^ n else 0).testBit k=false:=by
    split
    ·rw[Nat.testBit_two_pow];exact decide_eq_false (fun h=>e h.symm)
    ·exact Nat.zero_testBit k
   rw[h1,Bool.or_false]
   have:decide (k<n+1)=decide (k<n):=by
    by_cases h:k<n
    ·rw[qRy h,qRy (by omega)]
    ·rw[decide_eq_false h,decide_eq_false (by omega)]
   rw[this]
theorem qtY (p:Nat→Bool) (n:Nat):mkS p n<2 ^ n:=Nat.lt_pow_two_of_testBit _ fun i hi=>by
 rw[qbj,decide_eq_false (by omega)];rfl
theorem qoB (leaf:Int) (set:Nat):∀(d:List Int) (i:Nat),alG leaf set d i=true↔∀(k:Nat) (x:Int),d[k]?=some x→(set.testBit (i+k)=true↔x=leaf)
 | [],i=>by simp[alG]
 | y::d,i=>by
  rw[alG,qR3,qoB leaf set d (i+1),beq_iff_eq]
  constructor
  ·intro h k x hx
   cases k with
   | zero=>
    simp only[qQH,qRn] at hx
    subst hx
    rw[Nat.add_zero,h.1,beq_iff_eq]
   | succ k=>
    rw[qQW] at hx
    have:=h.2 k x hx
    rwa [Nat.add_right_comm,qRr] at this
  ·intro h
   refine⟨?_,fun k x hx=>?_⟩
   ·have:=h 0 y (by simp)
    rw[Nat.add_zero] at this
    by_cases e:y=leaf
    ·rw[this.2 e,beq_iff_eq.2 e]
    ·rw[beq_eq_false_iff_ne.2 e];exact qQZ.2 fun h2=>e (this.1 h2)
   ·have:=h (k+1) x (by rw[qQW];exact hx)
    rwa [show i+1+k=i+(k+1) from by omega]
theorem qxM (d:List Int) (leaf set:Nat):alF d leaf set=true↔∀(k:Nat) (x:Int),d[k]?=some x→(set.testBit k=true↔x=(leaf:Int)):=by
 unfold alF
 rw[qoB]
 simp only[qQV]
theorem qne (d:List Int) (a b:Nat):foF d a b=true↔∃(k:Nat) (x:Int),d[k]?=some x∧(a:Int)≤x∧x<(b:Int):=by
 unfold foF
 rw[qRs]
 constructor
 ·rintro⟨x,hx,h⟩
  obtain⟨k,hk⟩:=List.mem_iff_getElem?.1 hx
  rw[qR3,qRx,qRx] at h
  exact⟨k,x,hk,h⟩
 ·rintro⟨k,x,hk,h⟩
  exact⟨x,List.mem_iff_getElem?.2 ⟨k,hk⟩,by rw[qR3,qRx,qRx];exact h⟩
structure Asg (d:List Int) (a:Nat→Int) (lo w set:Nat):Prop where
 inn:∀k,set.testBit k=true→(lo:Int)≤a k∧a k<((lo+w:Nat):Int)
 out:∀k,set.testBit k=false→a k = -1
 com:∀k y,d[k]?=some y→∀x:Int,(lo:Int)≤x→x<((lo+w:Nat):Int)→(y=x↔a k=x)
theorem Asg.bit {d:List Int} {a:Nat→Int} {lo w set:Nat} (h:Asg d a lo w set) (k:Nat) (h1:(lo:Int)≤a k):set.testBit k=true:=by
 by_cases e:set.testBit k=true
 ·exact e
 ·have:=h.out k (qQZ.2 e)
  omega
theorem q9m (s:qd) (l:List qa) (a b:Nat→Int) (al:Bool):∀(L:List qb) (nx:Nat),(∀k,k<l.length→∀x:Int,(nx:Int)≤x→x<((nx+lvL L:Nat):Int)→(a k=x↔b k=x))→q1v s l a al L nx=q1v s l b al L nx
 | [],nx,_=>by rw[q1v,q1v]
 | x::L,nx,h=>by
  rw[lvL] at h
  rw[q1v,q1v,q4d s l a b x nx (fun k hk y hy hy2=>h k hk y hy (by omega)),q9m s l a b al L (nx+lvN x) (fun k hk y hy hy2=>h k hk y (by omega) (by omega))]
theorem qib (s:qd) (l:List qa) (a:Nat→Int):∀(L:List qb) (nx:Nat),(q1v s l a true L nx).2.2=false→(q1v s l a true L nx).2.1=L.length
 | [],nx,_=>by rw[q1v];rfl
 | x::L,nx,h=>by
  rw[q1v] at h ⊢
  simp only at h ⊢
  rw[Bool.or_eq_false_iff] at h
  have hx:(q5C s l a x nx).2=true:=by
   have:=h.1
   rw[Bool.or_true,qRz] at this
   simpa using this
  rw[if_pos hx,qib s l a L _ h.2,qQI]
  omega
theorem qf5 (set:Nat):q0R set 0=set:=Nat.eq_of_testBit_eq fun i=>by rw[QH];simp
theorem q9u {t s:Nat} (h:t &&& s=t) {k:Nat} (hk:t.testBit k=true):s.testBit k=true:=by
 rw[←h,Nat.testBit_and,qR3] at hk
 exact hk.2
theorem qfv {t s:Nat} (h:∀k,t.testBit k=true→s.testBit k=true):t &&& s=t:=Nat.eq_of_testBit_eq fun i=>by
 rw[Nat.testBit_and]
 by_cases e:t.testBit i=true
 ·rw[e,h i e];rfl
 ·rw[qQZ.2 e];rfl
theorem qs8 (d:List Int) (s:qd) (l:List qa) (n:qb) (hk:n.Kind=1∨n.Kind=2) (nx set:Nat) (hlt:set<2 ^ l.length) (hl:l.length≤62) :
  q1q d s l n nx set=true↔∃a,Asg d a nx 1 set∧qcC n (qgx n s l (fun j=>a j==(nx:Int)))=true:=by
 have key:∀a,Asg d a nx 1 set→qgx n s l (fun j=>a j==(nx:Int))=wgF n s set l 0 ld0:=fun a ha=>by
  rw[qhm]
  unfold qgx
  rw[q26 (p:=fun j=>a j==(nx:Int)) (q:=fun j=>set.testBit (0+j)) fun j hj=>?_]
  rw[qQV]
  by_cases e:set.testBit j=true
  ·have:=ha.inn j e
   rw[e,beq_iff_eq]
   omega
  ·rw[qQZ.2 e,ha.out j (qQZ.2 e)]
   exact beq_eq_false_iff_ne.2 (by omega)
 unfold q1q
 rw[qR3,qR3,qRx,qxM]
 constructor
 ·rintro⟨h0,h1,h2⟩
  have ha:Asg d (fun k=>if set.testBit k=true then(nx:Int) else -1) nx 1 set:={
   inn:=fun k hk=>by simp only[hk,if_true];omega
   out:=fun k hk=>by simp only[hk];rfl
   com:=fun k y hy x hx hx2=>by
    have e:x=nx:=by omega
    subst e
    rw[←h1 k y hy]
    show set.testBit k=true↔(if set.testBit k=true then(nx:Int) else -1)=(nx:Int)
    by_cases e:set.testBit k=true
    ·rw[if_pos e];exact⟨fun _=>rfl,fun _=>e⟩
    ·rw[if_neg e];exact⟨fun h=>absurd h e,fun h=>by omega⟩ }
  exact⟨_,ha,by rw[key _ ha];exact h2⟩
 ·rintro⟨a,ha,hm⟩
  rw[key a ha] at hm
  refine⟨fun e=>?_,fun k x hx=>?_,hm⟩
  ·have h3:Q6 (fun j=>set.testBit (0+j)) l=[]:=qQQ ((qdB _ _).2 fun k hk=>by rw[e];exact Nat.zero_testBit _)
   rw[qhm,h3] at hm
   unfold qcC ld0 at hm
   simp only[List.foldl_nil] at hm
   split at hm<;>simp at hm
  ·constructor
   ·intro hb
    have:=ha.inn k hb
    exact(ha.com k x hx (nx:Int) (by omega) (by omega)).2 (by omega)
   ·intro e
    have:=(ha.com k x hx (nx:Int) (by omega) (by omega)).1 e
    exact ha.bit k (by omega)
theorem qxt (s:qd) (l:List qa) (hl:l.length≤62) (a:Nat→Int) (n:qb) (nx:Nat) (hf:∀y∈ndN n,q3d y) (h:∀k,¬((nx:Int)≤a k∧a k<((nx+lvN n:Nat):Int))):(q5C s l a n nx).1=true∧(q5C s l a n nx).2=false:=by
 have h1:=(q7T s l hl a n nx).2 fun k _=>h k
 refine⟨h1,qQZ.2 fun e=>?_⟩
 rw[qhD s l a n nx hf e] at h1
 exact absurd h1 (by decide)
theorem q4w (d:List Int) (s:qd) (l:List qa) (hl:l.length≤62):∀(n:qb) (nx set:Nat),(∀y∈ndN n,q3d y)→set<2 ^ l.length→
  (Qp d s l n nx set=true↔∃a,Asg d a nx (lvN n) set∧(q5C s l a n nx).2=true):=by
 intro n
 induction n using qb.rec (motive_2:=fun L=>∀(sk:Bool) (nx:Nat) (b:Nat→Int) (set:Nat),(∀y∈ndL L,q3d y)→set<2 ^ l.length→
   (0≤qas d s l sk L nx b set→∃s1 a,s1 &&& set=s1∧0≤b s1∧Asg d a nx (lvL L) (q0R set s1)∧(q1v s l a (!sk) L nx).2.2=false∧qas d s l sk L nx b set=b s1+((q1v s l a (!sk) L nx).2.1:Int))∧
   (∀s1 a,s1 &&& set=s1→0≤b s1→Asg d a nx (lvL L) (q0R set s1)→(q1v s l a (!sk) L nx).2.2=false→b s1+((q1v s l a (!sk) L nx).2.1:Int)≤qas d s l sk L nx b set)) with
 | mk k n m S L ih=>
  intro nx set hf hlt
  have hn:=hf _ (qou _)
  have hfL:∀y∈ndL L,q3d y:=fun y hy=>hf y (by rw[ndN];exact qQF _ hy)
  rw[qc3,qbi]
  simp only[q3Z]
  by_cases hk:k=1∨k=2
  ·rw[if_pos hk,if_pos hk]
   simp only[if_pos hk]
   exact qs8 d s l _ hk nx set hlt hl
  ·rw[if_neg hk,if_neg hk]
   simp only[if_neg hk]
   have hk4:(!(k==4))=(k==3):=by
    rcases hn.kind with q|q|q|q<;>simp only at q<;>subst q<;>first|decide|exact absurd (by decide) hk
   obtain⟨i1,i2⟩:=ih (k==4) nx b0F set hfL hlt
   rw[hk4] at i1 i2
   rw[qR3,qRx,qRx]
   constructor
   ·rintro⟨h0,h1⟩
    have hz:0≤qas d s l (k==4) L nx b0F set:=by
     rcases hn.kind with q|q|q|q
     ·exact absurd (.inl q) hk
     ·exact absurd (.inr q) hk
     ·simp only at q
      rw[if_pos q] at h1
      omega
     ·have:=hn.some q
      simp only at q this
      rw[if_neg (by omega)] at h1
      omega
    obtain⟨s1,a,e1,e2,e3,e4,e5⟩:=i1 hz
    have hs1:s1=0:=by
     unfold b0F at e2
     by_cases e:s1=0
     ·exact e
     ·rw[if_neg e] at e2;omega
    subst hs1
    rw[qf5] at e3
    refine⟨a,e3,?_⟩
    rw[e4,Bool.not_false,qR4,qRx]
    have hb0:b0F 0=0:=rfl
    rw[hb0] at e5
    by_cases q:k=3
    ·rw[if_pos q] at h1
     have:=(hn.all q).1
     simp only at this
     omega
    ·rw[if_neg q] at h1
     omega
   ·rintro⟨a,ha,hm⟩
    rw[qR3,qRx] at hm
    have hw:(q1v s l a (k==3) L nx).2.2=false:=by simpa using hm.1
    have hb0:b0F 0=0:=rfl
    have h2:=i2 0 a (Nat.zero_and _) (by rw[hb0];exact Int.le_refl _) (by rw[qf5];exact ha) hw
    rw[hb0] at h2
    have h3:(q5C s l a ⟨k,n,m,S,L⟩ nx).1=false:=qhD s l a _ nx hf (by rw[q3Z,if_neg hk];simp only;rw[qR3,qRx];exact hm)
    refine⟨fun e=>?_,?_⟩
    ·have h4:(q5C s l a ⟨k,n,m,S,L⟩ nx).1=true:=(q7T s l hl a _ nx).2 fun j _ hj=>by
      have:=ha.bit j hj.1
      rw[e,Nat.zero_testBit] at this
      exact absurd this (by decide)
     rw[h3] at h4
     exact absurd h4 (by decide)
    ·by_cases q:k=3
     ·rw[if_pos q]
      have h5:(k==3)=true:=by rw[q];rfl
      rw[h5] at hw h2
      rw[qib s l a L nx hw] at h2
      omega
     ·rw[if_neg q]
      omega
 | nil=>
  rename_i sk nx b set hf hlt
  rw[lvL,qas]
  refine⟨fun h=>⟨set,fun _ => -1,Nat.and_self _,h,⟨fun k hk=>?_,fun _ _=>rfl,fun k y hy x hx hx2=>by omega⟩,by rw[q1v],by rw[q1v];simp⟩,fun s1 a h1 h2 h3 h4=>?_⟩
  ·rw[QH] at hk
   cases h:set.testBit k<;>rw[h] at hk<;>simp at hk
  ·have:s1=set:=Nat.eq_of_testBit_eq fun i=>by
    by_cases e:(q0R set s1).testBit i=true
    ·have:=h3.inn i e
     omega
    ·rw[QH] at e
     by_cases e2:s1.testBit i=true
     ·rw[e2,q9u h1 e2]
     ·cases h:set.testBit i
      ·exact qQZ.2 e2
      ·rw[h,qQZ.2 e2] at e
       exact absurd rfl e
   subst this
   rw[q1v]
   simp
 | cons x L h1 h2=>
  rename_i sk nx b set hf hlt
  have hfx:∀y∈ndN x,q3d y:=fun y hy=>hf y (by rw[ndL];exact qQJ _ hy)
  have hfL:∀y∈ndL L,q3d y:=fun y hy=>hf y (by rw[ndL];exact qQG _ hy)
  obtain⟨i1,i2⟩:=h2 sk (nx+lvN x) (stF (sk && !foF d nx (nx+lvN x)) (Qp d s l x nx) b) set hfL hlt
  rw[lvL,qas]
  simp only[q1v]
  constructor
  ·intro h0
   obtain⟨s1,a1,e1,e2,e3,e4,e5⟩:=i1 h0
   have hI:=qpm (sk && !foF d nx (nx+lvN x)) (Qp d s l x nx) b s1
   rcases hI.is with e|⟨t,t1,t2,t3,t4,e⟩
   ·have hsk:(sk && !foF d nx (nx+lvN x))=true:=by
     refine Classical.byContradiction fun hc=>?_
     rw[if_neg hc] at e
     omega
    rw[if_pos hsk] at e
    rw[qR3] at hsk
    have hfo:¬ foF d nx (nx+lvN x)=true:=by simpa using hsk.2
    rw[qne] at hfo
    have hr:∀k,¬((nx:Int)≤a1 k∧a1 k<((nx+lvN x:Nat):Int)):=fun k hk=>by
     by_cases hb:(q0R set s1).testBit k=true
     ·have:=e3.inn k hb;omega
     ·have:=e3.out k (qQZ.2 hb);omega
    obtain⟨v1,v2⟩:=qxt s l hl a1 x nx hfx hr
    refine⟨s1,a1,e1,by omega,⟨fun k hk=>by have:=e3.inn k hk;omega,e3.out,fun k y hy z hz hz2=>?_⟩,?_,?_⟩
    ·by_cases hz3:z<((nx+lvN x:Nat):Int)
     ·constructor
      ·intro e;subst e;exact absurd ⟨k,y,hy,hz,hz3⟩ hfo
      ·intro e;exact absurd ⟨by omega,by omega⟩ (hr k)
     ·exact e3.com k y hy z (by omega) (by omega)
    ·rw[v1,v2,e4,hsk.1];rfl
    ·rw[e5,e,v2];simp
   ·obtain⟨a2,ha2,hm2⟩:=(h1 nx t hfx (qR9 (qR8 (by rw[←t2];exact Nat.and_le_right) (by rw[←e1];exact Nat.and_le_right)) hlt)).1 t3
    have hts:∀k,t.testBit k=true→s1.testBit k=true:=fun k hk=>q9u t2 hk
    have hss:∀k,s1.testBit k=true→set.testBit k=true:=fun k hk=>q9u e1 hk
    have hin:∀k,t.testBit k=true→(fun k=>if t.testBit k=true then a2 k else a1 k) k=a2 k:=fun k hk=>by show(if _ then _ else _)=_;rw[if_pos hk]
    have hnot:∀k,t.testBit k=false→(fun k=>if t.testBit k=true then a2 k else a1 k) k=a1 k:=fun k hk=>by show(if _ then _ else _)=_;rw[if_neg (by rw[hk];decide)]
    generalize (fun k=>if t.testBit k=true then a2 k else a1 k)=a at hin hnot
    have ht1:∀k,t.testBit k=true→a1 k = -1:=fun k hk=>e3.out k (by rw[QH,hts k hk];simp)
    have hu1:∀k,t.testBit k=false→a2 k = -1:=fun k hk=>ha2.out k hk
    have hc1:q5C s l a x nx=q5C s l a2 x nx:=q4d s l a a2 x nx fun k _ z hz hz2=>by
     cases hb:t.testBit k
     ·rw[hnot k hb,hu1 k hb]
      by_cases hb2:(q0R set s1).testBit k=true
      ·have:=e3.inn k hb2;omega
      ·have:=e3.out k (qQZ.2 hb2);omega
     ·rw[hin k hb]
    have hc2:q1v s l a (!sk) L (nx+lvN x)=q1v s l a1 (!sk) L (nx+lvN x):=q9m s l a a1 (!sk) L (nx+lvN x) fun k _ z hz hz2=>by
     cases hb:t.testBit k
     ·rw[hnot k hb]
     ·rw[hin k hb,ht1 k hb]
      have:=ha2.inn k hb
      omega
    refine⟨q0R s1 t,a,?_,t4,⟨fun k hk=>?_,fun k hk=>?_,fun k y hy z hz hz2=>?_⟩,?_,?_⟩
    ·exact qfv fun k hk=>hss k (by rw[QH,qR3] at hk;exact hk.1)
    ·cases hb:t.testBit k
     ·rw[hnot k hb]
      have:(q0R set s1).testBit k=true:=by
       rw[QH,QH,hb] at hk
       rw[QH]
       simpa using hk
      have:=e3.inn k this
      omega
     ·rw[hin k hb]
      have:=ha2.inn k hb
      omega
    ·cases hb:t.testBit k
     ·rw[hnot k hb]
      refine e3.out k ?_
      rw[QH,QH,hb] at hk
      rw[QH]
      simpa using hk
     ·exfalso
      rw[QH,QH,hb,hss k (hts k hb)] at hk
      simp at hk
    ·by_cases hz3:z<((nx+lvN x:Nat):Int)
     ·rw[ha2.com k y hy z hz hz3]
      cases hb:t.testBit k
      ·rw[hnot k hb,hu1 k hb]
       by_cases hb2:(q0R set s1).testBit k=true
       ·have:=e3.inn k hb2;omega
       ·have:=e3.out k (qQZ.2 hb2);omega
      ·rw[hin k hb]
     ·rw[e3.com k y hy z (by omega) (by omega)]
      cases hb:t.testBit k
      ·rw[hnot k hb]
      ·rw[hin k hb,ht1 k hb]
       have:=ha2.inn k hb
       omega
    ·rw[hc1,hc2,hm2,e4];rfl
    ·rw[e5,e,hc1,hc2,if_pos hm2];omega
  ·intro s1 a g1 g2 g3 g4
   rw[Bool.or_eq_false_iff] at g4
   obtain⟨g4,g5⟩:=g4
   have hss:∀k,s1.testBit k=true→set.testBit k=true:=fun k hk=>q9u g1 hk
   by_cases hm:(q5C s l a x nx).2=true
   ·have hlen:∀k,(nx:Int)≤a k→k<l.length:=fun k hk=>by
     have hb:=g3.bit k hk
     have:set.testBit k=true:=by rw[QH,qR3] at hb;exact hb.1
     exact qln hlt this
    obtain⟨t,tb⟩:∃t:Nat,∀k,t.testBit k=true↔((nx:Int)≤a k∧a k<((nx+lvN x:Nat):Int)):=⟨mkS (fun k=>decide ((nx:Int)≤a k)&&decide (a k<((nx+lvN x:Nat):Int))) l.length,fun k=>by
     rw[qbj,qR3,qR3,qRx,qRx,qRx]
     exact⟨fun h=>h.2,fun h=>⟨hlen k h.1,h⟩⟩⟩
    have hdis:∀k,t.testBit k=true→set.testBit k=true∧s1.testBit k=false:=fun k hk=>by
     have hb:=g3.bit k ((tb k).1 hk).1
     rw[QH,qR3] at hb
     exact⟨hb.1,by simpa using hb.2⟩
    obtain⟨a2,hin2,hnot2⟩:∃a2:Nat→Int,(∀k,t.testBit k=true→a2 k=a k)∧(∀k,t.testBit k=false→a2 k = -1):=⟨fun k=>if t.testBit k=true then a k else -1,fun k hk=>if_pos hk,fun k hk=>if_neg (by rw[hk];decide)⟩
    obtain⟨a1,hin1,hnot1⟩:∃a1:Nat→Int,(∀k,t.testBit k=true→a1 k = -1)∧(∀k,t.testBit k=false→a1 k=a k):=⟨fun k=>if t.testBit k=true then -1 else a k,fun k hk=>if_pos hk,fun k hk=>if_neg (by rw[hk];decide)⟩
    have hoff:∀k,t.testBit k=false→¬((nx:Int)≤a k∧a k<((nx+lvN x:Nat):Int)):=fun k hk h=>by
     rw[(tb k).2 h] at hk
     exact absurd hk (by decide)
    have hA2:Asg d a2 nx (lvN x) t:=⟨fun k hk=>by rw[hin2 k hk];exact(tb k).1 hk,hnot2,fun k y hy z hz hz2=>by
     rw[g3.com k y hy z hz (by omega)]
     cases hb:t.testBit k
     ·rw[hnot2 k hb]
      have:=hoff k hb
      omega
     ·rw[hin2 k hb]⟩
    have hc1:q5C s l a2 x nx=q5C s l a x nx:=q4d s l a2 a x nx fun k _ z hz hz2=>by
     cases hb:t.testBit k
     ·rw[hnot2 k hb]
      have:=hoff k hb
      omega
     ·rw[hin2 k hb]
    have hc2:q1v s l a1 (!sk) L (nx+lvN x)=q1v s l a (!sk) L (nx+lvN x):=q9m s l a1 a (!sk) L (nx+lvN x) fun k _ z hz hz2=>by
     cases hb:t.testBit k
     ·rw[hnot1 k hb]
     ·rw[hin1 k hb]
      have:=(tb k).1 hb
      omega
    have hown:Qp d s l x nx t=true:=(h1 nx t hfx (qR9 (qR8 (by rw[←qfv (t:=t) (s:=set) fun k hk=>(hdis k hk).1];exact Nat.and_le_right) (qQN _)) hlt)).2 ⟨a2,hA2,by rw[hc1];exact hm⟩
    have ht0:t≠0:=fun e=>by
     have h3:=qhD s l a x nx hfx hm
     have h4:=(q7T s l hl a x nx).2 fun k _ hk=>by
      have:=(tb k).2 hk
      rw[e,Nat.zero_testBit] at this
      exact absurd this (by decide)
     rw[h3] at h4
     exact absurd h4 (by decide)
    have hI:=qpm (sk && !foF d nx (nx+lvN x)) (Qp d s l x nx) b (s1 ||| t)
    have hle:q0R (s1 ||| t) t=s1:=Nat.eq_of_testBit_eq fun k=>by
     rw[QH,Nat.testBit_or]
     cases hb:t.testBit k
     ·simp
     ·rw[(hdis k hb).2];rfl
    have hall:=hI.all t ht0 (qfv fun k hk=>by rw[Nat.testBit_or,hk,Bool.or_true]) hown (by rw[hle];exact g2)
    rw[hle] at hall
    have:=i2 (s1 ||| t) a1 (qfv fun k hk=>by
      rw[Nat.testBit_or,qR2] at hk
      rcases hk with hk|hk
      ·exact hss k hk
      ·exact(hdis k hk).1) (by omega) ⟨fun k hk=>by
       rw[QH,Nat.testBit_or,qR3] at hk
       have hb:t.testBit k=false:=by
        have:=hk.2
        cases h:t.testBit k
        ·rfl
        ·rw[h,Bool.or_true] at this;exact absurd this (by decide)
       have h5:=g3.inn k (by rw[QH,qR3];refine⟨hk.1,?_⟩;have:=hk.2;rw[hb,Bool.or_false] at this;exact this)
       have h6:=hoff k hb
       rw[hnot1 k hb]
       omega,fun k hk=>by
       cases hb:t.testBit k
       ·rw[hnot1 k hb]
        refine g3.out k ?_
        rw[QH,Nat.testBit_or,hb,Bool.or_false] at hk
        rw[QH]
        exact hk
       ·exact hin1 k hb,fun k y hy z hz hz2=>by
       rw[g3.com k y hy z (by omega) (by omega)]
       cases hb:t.testBit k
       ·rw[hnot1 k hb]
       ·rw[hin1 k hb]
        have:=(tb k).1 hb
        omega⟩ (by rw[hc2];exact g5)
    rw[hc2] at this
    rw[if_pos hm]
    omega
   ·have hm':(q5C s l a x nx).2=false:=qQZ.2 hm
    rw[hm',Bool.not_false,qR4,Bool.or_eq_false_iff] at g4
    have hem:(q5C s l a x nx).1=true:=by simpa using g4.1
    have hsk:sk=true:=by simpa using g4.2
    have hr:∀k,¬((nx:Int)≤a k∧a k<((nx+lvN x:Nat):Int)):=fun k hk=>by
     have hb:=g3.bit k hk.1
     have:set.testBit k=true:=by rw[QH,qR3] at hb;exact hb.1
     have hkl:k<l.length:=qln hlt this
     exact(q7T s l hl a x nx).1 hem k hkl hk
    have hfo:foF d nx (nx+lvN x)=false:=qQZ.2 fun h=>by
     obtain⟨k,y,hy,h3,h4⟩:=(qne d nx (nx+lvN x)).1 h
     have:=(g3.com k y hy y h3 (by omega)).1 rfl
     exact hr k (by omega)
    have hI:=qpm (sk && !foF d nx (nx+lvN x)) (Qp d s l x nx) b s1
    have hge:=hI.ge
    rw[hsk,hfo] at hge
    simp only[Bool.not_false,qRz,if_true] at hge
    have hge2:b s1≤stF (sk && !foF d nx (nx+lvN x)) (Qp d s l x nx) b s1:=by rw[hsk,hfo];exact hge
    have:=i2 s1 a g1 (by omega) ⟨fun k hk=>by
      have h5:=g3.inn k hk
      have h6:=hr k
      omega,g3.out,fun k y hy z hz hz2=>g3.com k y hy z (by omega) (by omega)⟩ g5
    rw[hm']
    simp only[Bool.false_eq_true,if_false,qQV]
    omega
end
noncomputable section
open Go.RowKit
def rkF (m:Nat→Bool):Nat→Nat
 | 0=>0
 | k+1=>rkF m k+if m k=true then 1 else 0
theorem qaD (m:Nat→Bool):∀k,rkF m (k+1)=(if m 0=true then 1 else 0)+rkF (fun j=>m (j+1)) k
 | 0=>by simp[rkF]
 | k+1=>by rw[rkF,qaD m k,rkF];omega
def q92 (m:Nat→Bool) (d:Nat→Int):Nat→Int:=fun k=>if m k=true then d (rkF m k) else -1
theorem q8h {α:Type}:∀(l:List α) (m p:Nat→Bool),Q6 p (Q6 m l)=Q6 (fun k=>m k&&p (rkF m k)) l
 | [],_,_=>rfl
 | a::l,m,p=>by
  have e:∀j,rkF m (j+1)=(if m 0=true then 1 else 0)+rkF (fun j=>m (j+1)) j:=qaD m
  rw[Q6,Q6]
  cases h:m 0
  ·rw[if_neg (by decide),qQR,q8h l,qRA,if_neg (by decide),qQR]
   refine q26 fun j _=>?_
   show(m (j+1)&&p (rkF (fun j=>m (j+1)) j))=(m (j+1)&&p (rkF m (j+1)))
   rw[e j,h,if_neg (by decide),qQV]
  ·rw[if_pos rfl,qRE,Q6,q8h l,qR4]
   congr 1
   refine q26 fun j _=>?_
   show(m (j+1)&&p (rkF (fun j=>m (j+1)) j+1))=(m (j+1)&&p (rkF m (j+1)))
   rw[e j,h,if_pos rfl,Nat.add_comm 1]
theorem q3N {α β:Type} (f:α→β):∀(l:List α) (m:Nat→Bool),Q6 m (l.map f)=(Q6 m l).map f
 | [],_=>rfl
 | a::l,m=>by rw[qQU,Q6,Q6,q3N f l,List.map_append];cases m 0<;>rfl
theorem qjL (s:qd) (l:List qa) (m:Nat→Bool) (d:Nat→Int):∀(n:qb) (nx:Nat),q5C s (Q6 m l) d n nx=q5C s l (q92 m d) n nx:=by
 intro n
 induction n using qb.rec (motive_2:=fun L=>∀(al:Bool) (nx:Nat),q1v s (Q6 m l) d al L nx=q1v s l (q92 m d) al L nx) with
 | mk k n mi S L ih=>
  intro nx
  rw[q3Z,q3Z]
  by_cases hk:k=1∨k=2
  ·rw[if_pos hk,if_pos hk]
   have:Q6 (fun j=>d j==(nx:Int)) (Q6 m l)=Q6 (fun j=>q92 m d j==(nx:Int)) l:=by
    rw[q8h]
    refine q26 fun j _=>?_
    unfold q92
    cases m j
    ·rw[qRA,if_neg (by decide)];symm;rw[beq_eq_false_iff_ne];omega
    ·rw[qR4,if_pos rfl]
   unfold qgx
   rw[this]
  ·rw[if_neg hk,if_neg hk]
   simp only
   rw[ih _ nx]
 | nil=>rw[q1v,q1v]
 | cons x L h1 h2=>
  rename_i al nx
  rw[q1v,q1v,h1 nx,h2 al (nx+lvN x)]
end
noncomputable section
open Go.RowKit
def q4H:List Int→List Int→Bool
 | _,[]=>false
 | [],_::_=>true
 | a::l,b::m=>decide (a<b)||(a==b&&q4H l m)
theorem qj7:∀l,q4H l l=false
 | []=>rfl
 | a::l=>by rw[q4H,qj7 l];simp
theorem q6L:∀{a b c:List Int},q4H a b=true→q4H b c=true→q4H a c=true
 | a,b,[],_,h=>by cases b<;>cases h
 | [],b,z::c,_,_=>rfl
 | x::a,[],z::c,h,_=>by cases h
 | x::a,y::b,z::c,h,h2=>by
  simp only[q4H,qR2,qR3,qRx,beq_iff_eq] at h h2 ⊢
  rcases h with h|⟨h,h'⟩
  ·rcases h2 with h2|⟨h2,h2'⟩<;>exact .inl (by omega)
  ·rcases h2 with h2|⟨h2,h2'⟩
   ·exact .inl (by omega)
   ·exact .inr ⟨by omega,q6L h' h2'⟩
theorem q9i:∀a b:List Int,a=b∨q4H a b=true∨q4H b a=true
 | [],[] => .inl rfl
 | [],_::_ => .inr (.inl rfl)
 | _::_,[] => .inr (.inr rfl)
 | x::a,y::b=>by
  simp only[q4H,qR2,qR3,qRx,beq_iff_eq]
  rcases Int.lt_trichotomy x y with h|h|h
  ·exact .inr (.inl (.inl h))
  ·subst h
   rcases q9i a b with e|e|e
   ·exact .inl (by rw[e])
   ·exact .inr (.inl (.inr ⟨rfl,e⟩))
   ·exact .inr (.inr (.inr ⟨rfl,e⟩))
  ·exact .inr (.inr (.inl h))
def slL (a b:List Int):Bool:=decide (a.length<b.length)||(a.length==b.length&&q4H a b)
theorem qgL {a b:List Int}:slL a b=true↔a.length<b.length∨(a.length=b.length∧q4H a b=true):=by
 simp only[slL,qR2,qR3,qRx,beq_iff_eq]
theorem qvo (l:List Int):slL l l=false:=by
 rw[slL,qj7];simp
theorem qeY {a b c:List Int} (h:slL a b=true) (h2:slL b c=true):slL a c=true:=by
 rw[qgL] at *
 rcases h with h|⟨h,h'⟩
 ·rcases h2 with h2|⟨h2,h2'⟩<;>exact .inl (by omega)
 ·rcases h2 with h2|⟨h2,h2'⟩
  ·exact .inl (by omega)
  ·exact .inr ⟨by omega,q6L h' h2'⟩
theorem qg5 (a b:List Int):a=b∨slL a b=true∨slL b a=true:=by
 simp only[qgL]
 rcases Nat.lt_trichotomy a.length b.length with h|h|h
 ·exact .inr (.inl (.inl h))
 ·rcases q9i a b with e|e|e
  ·exact .inl e
  ·exact .inr (.inl (.inr ⟨h,e⟩))
  ·exact .inr (.inr (.inr ⟨h.symm,e⟩))
 ·exact .inr (.inr (.inl h))
theorem qj2 {f:Int→Int}:∀{a b:List Int},(∀x∈a,∀y∈b,(f x<f y↔x<y)∧(f x=f y↔x=y))→q4H (a.map f) (b.map f)=q4H a b
 | a,[],_=>by cases a<;>rfl
 | [],_::_,_=>rfl
 | x::a,y::b,h=>by
  have h0:=h x qQM y qQM
  have e1:decide (f x<f y)=decide (x<y):=by simp only[h0.1]
  have e2:(f x==f y)=(x==y):=by rw[Bool.eq_iff_iff,beq_iff_eq,beq_iff_eq];exact h0.2
  rw[qQU,qQU,q4H,q4H,e1,e2,qj2 fun u hu v hv=>h u (qQF _ hu) v (qQF _ hv)]
theorem quA {f:Int→Int} {a b:List Int} (h:∀x∈a,∀y∈b,(f x<f y↔x<y)∧(f x=f y↔x=y)):slL (a.map f) (b.map f)=slL a b:=by
 unfold slL
 rw[qj2 h,qRg,qRg]
theorem qmv {f:Int→Int→Option Int} {zs:List Int} (ht:∀x∈zs,∀y∈zs,x=y∨ltB f x y=true∨ltB f y x=true) (htr:∀x∈zs,∀y∈zs,∀z∈zs,ltB f x y=true→ltB f y z=true→ltB f x z=true) {x:Int} (hx:x∈zs) :
  ∀l:List Int,(∀y∈l,y∈zs)→x ∉ l→l.Pairwise (fun a b=>ltB f a b=true)→(qeT f x l).Pairwise (fun a b=>ltB f a b=true)
 | [],_,_,_=>by unfold qeT;exact List.pairwise_singleton _ _
 | y::l,hl,hn,h=>by
  have hy:=hl y qQM
  rw[List.pairwise_cons] at h
  unfold qeT
  split
  ·rename_i hlt
   rw[List.pairwise_cons]
   refine⟨fun z hz=>?_,qmv ht htr hx l (fun u hu=>hl u (qQF _ hu)) (fun hu=>hn (qQF _ hu)) h.2⟩
   rcases(qaU f x l z).1 hz with e|e
   ·rw[e];exact hlt
   ·exact h.1 z e
  ·rename_i hlt
   have hxy:ltB f x y=true:=by
    rcases ht x hx y hy with e|e|e
    ·exact absurd (e ▸ qQM) hn
    ·exact e
    ·exact absurd e hlt
   rw[List.pairwise_cons,List.pairwise_cons]
   refine⟨fun z hz=>?_,h⟩
   rcases qQT.1 hz with e|e
   ·rw[e];exact hxy
   ·exact htr x hx y hy z (hl z (qQF _ e)) hxy (h.1 z e)
theorem qiC {f:Int→Int→Option Int} {zs:List Int} (ht:∀x∈zs,∀y∈zs,x=y∨ltB f x y=true∨ltB f y x=true) (htr:∀x∈zs,∀y∈zs,∀z∈zs,ltB f x y=true→ltB f y z=true→ltB f x z=true) :
  ∀l:List Int,(∀y∈l,y∈zs)→l.Nodup→(q0v f l).Pairwise (fun a b=>ltB f a b=true)
 | [],_,_=>by unfold q0v;exact List.Pairwise.nil
 | x::l,hl,hn=>by
  rw[List.nodup_cons] at hn
  unfold q0v
  exact qmv ht htr (hl x qQM) _ (fun y hy=>hl y (qQF _ ((q2q f l y).1 hy))) (fun hy=>hn.1 ((q2q f l x).1 hy)) (qiC ht htr l (fun y hy=>hl y (qQF _ hy)) hn.2)
theorem qnn {f:Int→Int→Option Int} {zs:List Int} {key:Int→List Int} (hs:∀x∈zs,∀y∈zs,∃c,f x y=some c∧(c<0↔slL (key x) (key y)=true)) (hi:∀x∈zs,∀y∈zs,key x=key y→x=y) :
  okB f zs=true∧∀x∈zs,∀y∈zs,ltB f x y=slL (key x) (key y):=by
 have hl:∀x∈zs,∀y∈zs,ltB f x y=slL (key x) (key y):=fun x hx y hy=>by
  obtain⟨c,h1,h2⟩:=hs x hx y hy
  unfold ltB
  rw[h1,Bool.eq_iff_iff]
  simpa using h2
 refine⟨?_,hl⟩
 unfold okB
 simp only[qR3,qQO]
 refine⟨⟨⟨fun x hx y hy=>?_,fun x hx=>?_⟩,fun x hx y hy=>?_⟩,fun x hx y hy z hz=>?_⟩
 ·obtain⟨c,h1,_⟩:=hs x hx y hy;rw[h1];rfl
 ·rw[hl x hx x hx,qvo];rfl
 ·rw[hl x hx y hy,hl y hy x hx]
  rcases qg5 (key x) (key y) with e|e|e
  ·rw[qRy (hi x hx y hy e)];rfl
  ·rw[e];simp
  ·rw[e];simp
 ·rw[hl x hx y hy,hl y hy z hz,hl x hx z hz]
  cases h1:slL (key x) (key y)
  ·simp
  ·cases h2:slL (key y) (key z)
   ·simp
   ·rw[qeY h1 h2];simp
theorem qn3 {f:Int→Int→Option Int} {zs:List Int} {key:Int→List Int} (hs:∀x∈zs,∀y∈zs,∃c,f x y=some c∧(c<0↔slL (key x) (key y)=true)) (hi:∀x∈zs,∀y∈zs,key x=key y→x=y) (hn:zs.Nodup) :
  (q0v f zs).Pairwise (fun a b=>slL (key a) (key b)=true):=by
 have hl:=(qnn hs hi).2
 have h:=qiC (f:=f) (zs:=zs) (fun x hx y hy=>by
  rw[hl x hx y hy,hl y hy x hx]
  rcases qg5 (key x) (key y) with e|e
  ·exact .inl (hi x hx y hy e)
  ·exact .inr e) (fun x hx y hy z hz h1 h2=>by
  rw[hl x hx y hy] at h1;rw[hl y hy z hz] at h2;rw[hl x hx z hz]
  exact qeY h1 h2) zs (fun _ h=>h) hn
 exact h.imp_of_mem fun {a b} ha hb h=>by
  rw[hl a ((q2q f zs a).1 ha) b ((q2q f zs b).1 hb)] at h;exact h
end
noncomputable section
open Go.RowKit
structure q2s (n:qb) (l:List qa) (set:Nat):Prop where
 fit:∀y∈ndN n,q3d y
 nd:(ndN n).length≤9999
 st:∀y∈ndN n,y.Set.length≤1000000
 ll:l.length≤16
 lt:set<2 ^ l.length
theorem q2s.lt64 {n:qb} {l:List qa} {set:Nat} (h:q2s n l set):set<9223372036854775808:=by
 have h1:=h.lt
 have h2:(2:Nat) ^ l.length≤2 ^ 16:=Nat.pow_le_pow_right (by decide) h.ll
 have h3:(2:Nat) ^ 16=65536:=by decide
 omega
theorem q2s.lv {n:qb} {l:List qa} {set:Nat} (h:q2s n l set):lvN n≤9999:=qR8 (qoD n) h.nd
theorem qnJ {n:qb} {l:List qa} {set:Nat} (h:q2s n l set) (s:qd) (d:List Int) (hd:d.length≤16):q1E n s l d=some (QQ (2 ^ l.length) (Qp d s l n 0),d):=by
 have:=qp4 d hd s l h.ll _ n (qQN _) (by have:=h.nd;omega) h.st 0 (by have:=h.nd;omega)
 unfold q1E
 change Option.bind (zo (n,d,l,((0:Nat):Int),s)) _=_
 rw[this]
 rfl
theorem q8j {α:Type} {d:List α} {y z:α} {j:Nat} (h:(d++[y])[j]?=some z):d[j]?=some z∨(j=d.length∧z=y):=by
 by_cases hj:j<d.length
 ·rw[qRb hj] at h
  exact .inl h
 ·rw[qRa (by omega)] at h
  have:=ZB h
  rw[qQP] at this
  have e:j-d.length=0:=by omega
  rw[e] at h
  simp only[qQH,qRn] at h
  exact .inr ⟨by omega,h.symm⟩
theorem qqp {d:List Int} {a:Nat→Int} {w set:Nat} (h:Asg d a 0 w set):Asg (d++[a d.length]) a 0 w set:=⟨h.inn,h.out,fun k y hy x hx hx2=>by
 rcases q8j hy with e|⟨e1,e2⟩
 ·exact h.com k y e x hx hx2
 ·rw[e1,e2]⟩
theorem qph {n:qb} {l:List qa} {set:Nat} (h:q2s n l set) (s:qd) (w4:List Int) (t49 t50:Int) (d:List Int) (hd:d.length+1≤16):∀(m x:Nat),x+m≤1000000→
  (∃v:Nat,x≤v∧v≤x+m∧Qp (d++[(v:Int)]) s l n 0 set=true)→
  ∃v:Nat,x≤v∧v≤x+m∧Qp (d++[(v:Int)]) s l n 0 set=true∧(∀y:Nat,x≤y→y<v→Qp (d++[(y:Int)]) s l n 0 set=false)∧
   zn (Jn w4 n s l (set:Int) (d.length:Int) t49 t50) (d++[(x:Int)])=some (d++[(v:Int)]):=by
 have hstep:∀x:Nat,x≤1000000→Jn w4 n s l (set:Int) (d.length:Int) t49 t50 (d++[(x:Int)])=if Qp (d++[(x:Int)]) s l n 0 set=true then some (.inr (d++[(x:Int)])) else some (.inl (d++[((x+1:Nat):Int)])):=by
  intro x hx
  have hlen:(d++[(x:Int)]).length=d.length+1:=by rw[qQE,qQP]
  have hg:(d++[(x:Int)])[d.length]?=some (x:Int):=by rw[qRa (qQN _),Nat.sub_self];rfl
  have hlt:=h.lt
  have hw:w64 ((x:Int)+1)=((x+1:Nat):Int):=QI (by omega) (by omega)
  have hset:(d++[(x:Int)]).set d.length ((x+1:Nat):Int)=d++[((x+1:Nat):Int)]:=by
   rw[List.set_append_right _ _ (qQN _),Nat.sub_self]
   rfl
  unfold Jn
  simp only
  rw[qnJ h s _ (by omega),qQx]
  simp only
  rw[if_pos (by rw[zf];omega),qQA,Zy _ hlt,qQx]
  cases hs:Qp (d++[(x:Int)]) s l n 0 set
  ·rw[if_pos (by decide),if_pos (by rw[hlen];omega),qQA,hg,qQx,if_pos (by rw[hlen];omega),if_pos (by rw[hlen];omega),hw,hset]
   rfl
  ·rfl
 intro m
 induction m with
 | zero=>
  intro x hx hv
  obtain⟨v,h1,h2,h3⟩:=hv
  have e:v=x:=by omega
  subst e
  exact⟨v,qQN _,by omega,h3,fun y _ _=>by omega,zg (by rw[hstep v (by omega),if_pos h3])⟩
 | succ m ih=>
  intro x hx hv
  by_cases hs:Qp (d++[(x:Int)]) s l n 0 set=true
  ·exact⟨x,qQN _,by omega,hs,fun y _ _=>by omega,zg (by rw[hstep x (by omega),if_pos hs])⟩
  ·obtain⟨v,h1,h2,h3⟩:=hv
   have hne:v≠x:=fun e=>hs (by rw[←e];exact h3)
   obtain⟨u,u1,u2,u3,u4,u5⟩:=ih (x+1) (by omega) ⟨v,by omega,by omega,h3⟩
   refine⟨u,by omega,by omega,u3,fun y hy hy2=>?_,?_⟩
   ·by_cases e:y=x
    ·subst e;exact qQZ.2 hs
    ·exact u4 y (by omega) hy2
   ·rw[zM (by rw[hstep x (by omega),if_neg hs])]
    exact u5
structure q5l (d:List Int) (s:qd) (l:List qa) (n:qb) (set:Nat):Prop where
 ok:Qp d s l n 0 set=true
 val:∀(j:Nat) (y:Int),d[j]?=some y→if set.testBit j=true then 0≤y∧y<(lvN n:Int) else y = -1
 lst:∀(j:Nat) (x:Int),d[j]?=some x→set.testBit j=true→∀y:Nat,(y:Int)<x→Qp (d.take j++[(y:Int)]) s l n 0 set=false
theorem qfD {α:Type} {d:List α} {j:Nat} {x y:α} (h:d[j]?=some x):(d++[y]).take j=d.take j:=List.take_append_of_le_length (by have:=ZB h;omega)
theorem qkG {n:qb} {l:List qa} {set:Nat} (h:q2s n l set) {s:qd} {d:List Int} (hf:q5l d s l n set) (hd:d.length<l.length) :
  (set.testBit d.length=false→q5l (d++[-1]) s l n set)∧(set.testBit d.length=true→∃v:Nat,v<lvN n∧Qp (d++[(v:Int)]) s l n 0 set=true):=by
 have hll:=h.ll
 obtain⟨a,ha,hm⟩:=(q4w d s l (by omega) n 0 set h.fit h.lt).1 hf.ok
 have hs:=(q4w (d++[a d.length]) s l (by omega) n 0 set h.fit h.lt).2 ⟨a,qqp ha,hm⟩
 constructor
 ·intro hb
  rw[ha.out _ hb] at hs
  refine⟨hs,fun j y hy=>?_,fun j x hx hj y hy=>?_⟩
  ·rcases q8j hy with e|⟨e1,e2⟩
   ·exact hf.val j y e
   ·rw[e1,hb,if_neg (by decide)];exact e2
  ·rcases q8j hx with e|⟨e1,e2⟩
   ·rw[qfD e];exact hf.lst j x e hj y hy
   ·rw[e1,hb] at hj;exact absurd hj (by decide)
 ·intro hb
  have:=ha.inn _ hb
  refine⟨(a d.length).toNat,by omega,?_⟩
  rw[show(((a d.length).toNat:Nat):Int)=a d.length from by omega]
  exact hs
theorem qh5 {n:qb} {l:List qa} {set:Nat} (h:q2s n l set) (s:qd):∀(m:Nat) (d:List Int),d.length+m=l.length→q5l d s l n set→
  ∃d',d'.length=l.length∧q5l d' s l n set∧(∃e,d'=d++e)∧zn (ZF n s l (set:Int) (l.length:Int)) (d,Q6 set.testBit d,(d.length:Int))=some (Q6 set.testBit d'):=by
 intro m
 induction m with
 | zero=>
  intro d hd hf
  refine⟨d,by omega,hf,⟨[],(qQS _).symm⟩,zg ?_⟩
  unfold ZF
  simp only
  rw[if_neg (by omega)]
 | succ m ih=>
  intro d hd hf
  have hll:=h.ll
  have hlt:=h.lt64
  have hML:100000≤maxLen:=by unfold maxLen;omega
  have hsel:=q4O d set.testBit
  obtain⟨f1,f2⟩:=qkG h hf (by omega)
  have hw:w64 ((d.length:Int)+1)=((d.length+1:Nat):Int):=QI (by omega) (by omega)
  have hbit:(Zq Go.BinOp.and IntKind.i64 (Int.fdiv (set:Int) ((2:Int) ^ min (Int.toNat (d.length:Int)) (IntKind.bits IntKind.i64))) (1:Int)==(0:Int)) = !set.testBit d.length:=by
   rw[qQA,q8l set d.length (by omega),show(1:Int)=((1:Nat):Int) from rfl,qe4 _ 1 (qR9 (Nat.div_le_self _ _) hlt) (by decide),Nat.and_one_is_mod,Nat.testBit_eq_decide_div_mod_eq]
   have:set / 2 ^ d.length % 2<2:=Nat.mod_lt _ (by decide)
   by_cases e:set / 2 ^ d.length % 2=1
   ·rw[e];rfl
   ·have e0:set / 2 ^ d.length % 2=0:=by omega
    rw[e0];rfl
  have hset:∀y z:Int,(d++[y]).set d.length z=d++[z]:=fun y z=>by
   rw[List.set_append_right _ _ (qQN _),Nat.sub_self]
   rfl
  cases hb:set.testBit d.length
  ·obtain⟨d',g1,g2,⟨e,g3⟩,g4⟩:=ih (d++[-1]) (by rw[qQE,qQP];omega) (f1 hb)
   refine⟨d',g1,g2,⟨[-1]++e,by rw[g3,qRd]⟩,?_⟩
   rw[q5I,hb,if_neg (by decide),qQS,qQE,qQP] at g4
   rw[←g4]
   refine zM ?_
   unfold ZF
   simp only
   rw[if_pos (by omega),if_pos ⟨by omega,by omega⟩,if_pos (by omega),hbit,hb,if_pos (by decide),hw]
  ·obtain⟨v0,hv0,hs0⟩:=f2 hb
   have hlv:=h.lv
   obtain⟨v,v1,v2,v3,v4,v5⟩:=qph h s (Q6 set.testBit d) (l.length:Int) (d.length:Int) d (by omega) v0 0 (by omega) ⟨v0,by omega,by omega,hs0⟩
   have hF:q5l (d++[(v:Int)]) s l n set:=⟨v3,fun j y hy=>by
    rcases q8j hy with e|⟨e1,e2⟩
    ·exact hf.val j y e
    ·rw[e1,hb,if_pos rfl,e2];omega,fun j x hx hj y hy=>by
    rcases q8j hx with e|⟨e1,e2⟩
    ·rw[qfD e];exact hf.lst j x e hj y hy
    ·rw[e1,List.take_left]
     exact v4 y (qQX _) (by omega)⟩
   obtain⟨d',g1,g2,⟨e,g3⟩,g4⟩:=ih (d++[(v:Int)]) (by rw[qQE,qQP];omega) hF
   refine⟨d',g1,g2,⟨[(v:Int)]++e,by rw[g3,qRd]⟩,?_⟩
   rw[q5I,hb,if_pos rfl,qQE,qQP] at g4
   rw[←g4]
   refine zM ?_
   have hg:(d++[(v:Int)])[d.length]?=some (v:Int):=by rw[qRa (qQN _),Nat.sub_self];rfl
   unfold ZF
   simp only
   rw[if_pos (by omega),if_pos ⟨by omega,by omega⟩,if_pos (by omega),hbit,hb,if_neg (by decide),if_pos ⟨by omega,by omega⟩,qQA,if_pos (qQN _),hset]
   rw[show(0:Int)=((0:Nat):Int) from rfl,v5,qQx,if_pos (by rw[qQE,qQP];omega),hg,qQx,if_pos ⟨by omega,by omega⟩,hw]
theorem qfE {n:qb} {l:List qa} {set:Nat} (h:q2s n l set) (s:qd) (hS:q20 n s l=some (QQ (2 ^ l.length) (Qp [] s l n 0),0)) :
  (Qp [] s l n 0 set=false∧q0D n s l (set:Int)=some ([],false))∨
  (Qp [] s l n 0 set=true∧∃d,d.length=l.length∧q5l d s l n set∧q0D n s l (set:Int)=some (Q6 set.testBit d,true)):=by
 have hlt:=h.lt
 have hll:=h.ll
 unfold q0D
 rw[hS,qQx]
 simp only
 rw[if_neg (by decide),if_neg (by omega),if_neg (by rw[zf];omega),if_pos (by rw[zf];omega),qQA,Zy _ hlt,qQx]
 cases hs:Qp [] s l n 0 set
 ·exact .inl ⟨rfl,by rw[if_pos (by decide)]⟩
 ·refine .inr ⟨rfl,?_⟩
  obtain⟨d',g1,g2,_,g4⟩:=qh5 h s l.length [] (by simp) ⟨hs,fun j y hy=>by simp at hy,fun j x hx=>by simp at hx⟩
  refine⟨d',g1,g2,?_⟩
  rw[if_neg (by decide),if_pos ⟨by omega,by omega,by omega⟩]
  change Option.bind (zn _ ([],Q6 set.testBit [],((([]:List Int).length:Nat):Int))) _=_
  rw[g4]
  rfl
end
noncomputable section
open Go.RowKit
def qv3 (W:Nat) (l:List Int):Nat:=l.foldl (fun acc y=>acc*W+(y+1).toNat) 0
theorem qfa (W:Nat) (l:List Int) (y:Int):qv3 W (l++[y])=qv3 W l*W+(y+1).toNat:=by
 unfold qv3
 rw[List.foldl_append]
 rfl
def Holds (b:List Int) (set w:Nat):Prop:=∀(j:Nat) (y:Int),b[j]?=some y→if set.testBit j=true then 0≤y∧y<(w:Int) else y = -1
theorem qbA {n:qb} {l:List qa} {set:Nat} (h:q2s n l set) {b:List Int} (hb:b.length=l.length) (hv:Holds b set (lvN n)) (j:Nat):Asg (b.take j) (fun k=>b.getD k (-1)) 0 (lvN n) set:=by
 have hget:∀k y,b[k]?=some y→b.getD k (-1)=y:=fun k y hk=>by rw[List.getD_eq_getElem?_getD,hk];rfl
 refine⟨fun k hk=>?_,fun k hk=>?_,fun k y hy x hx hx2=>?_⟩
 ·have hl:=qln h.lt hk
  obtain⟨y,hy⟩:∃y,b[k]?=some y:=⟨_,qQz (by omega)⟩
  have:=hv k y hy
  rw[if_pos hk] at this
  show _≤b.getD k (-1)∧b.getD k (-1)<_
  rw[hget k y hy]
  omega
 ·show b.getD k (-1) = -1
  by_cases hl:k<b.length
  ·have hy:=qQz hl
   have:=hv k _ hy
   rw[hk,if_neg (by decide)] at this
   rw[hget k _ hy,this]
  ·rw[List.getD_eq_getElem?_getD,qR5 (by omega)];rfl
 ·rw[List.getElem?_take] at hy
  split at hy
  ·show y=x↔b.getD k (-1)=x
   rw[hget k y hy]
  ·cases hy
theorem qg3 {n:qb} {l:List qa} {set:Nat} (h:q2s n l set) {s:qd} {d b:List Int} (hd:d.length=l.length) (hf:q5l d s l n set) (hb:b.length=l.length) (hv:Holds b set (lvN n))
  (hm:(q5C s l (fun k=>b.getD k (-1)) n 0).2=true):d=b∨qv3 (lvN n+1) d<qv3 (lvN n+1) b:=by
 have hll:=h.ll
 have key:∀j,j≤l.length→d.take j=b.take j∨qv3 (lvN n+1) (d.take j)<qv3 (lvN n+1) (b.take j):=by
  intro j
  induction j with
  | zero=>intro _;left;rw[List.take_zero,List.take_zero]
  | succ j ih=>
   intro hj
   obtain⟨x,hx⟩:∃x,d[j]?=some x:=⟨_,qQz (by omega)⟩
   obtain⟨z,hz⟩:∃z,b[j]?=some z:=⟨_,qQz (by omega)⟩
   have ed:d.take (j+1)=d.take j++[x]:=by rw[List.take_add_one,hx];rfl
   have eb:b.take (j+1)=b.take j++[z]:=by rw[List.take_add_one,hz];rfl
   have vx:=hf.val j x hx
   have vz:=hv j z hz
   have hA:=(q4w (b.take (j+1)) s l (by omega) n 0 set h.fit h.lt).2 ⟨_,qbA h hb hv (j+1),hm⟩
   rw[ed,eb,qfa,qfa]
   rw[eb] at hA
   rcases ih (by omega) with e|e
   ·by_cases hbit:set.testBit j=true
    ·rw[if_pos hbit] at vx vz
     rcases Int.lt_trichotomy z x with g|g|g
     ·exfalso
      have:=hf.lst j x hx hbit z.toNat (by omega)
      rw[e,show((z.toNat:Nat):Int)=z from by omega,hA] at this
      exact absurd this (by decide)
     ·left;rw[e,g]
     ·right;rw[e];omega
    ·rw[if_neg hbit] at vx vz
     left;rw[e,vx,vz]
   ·right
    have h1:(x+1).toNat<lvN n+1:=by split at vx<;>omega
    have:=Nat.mul_le_mul_right (lvN n+1) e
    rw[Nat.succ_mul] at this
    omega
 have:=key l.length (qQN _)
 rwa [qRF (by omega),qRF (by omega)] at this
def qwN (b:List Int):Nat:=mkS (fun j=>decide (0≤b.getD j (-1))) b.length
theorem qdW {b:List Int} {j:Nat} {y:Int} (h:b[j]?=some y):(qwN b).testBit j=decide (0≤y):=by
 unfold qwN
 rw[qbj,qRy (ZB h),qR4,List.getD_eq_getElem?_getD,h]
 rfl
theorem qxT (b:List Int):qwN b<2 ^ b.length:=qtY _ _
theorem qkD {b:List Int} {w:Nat} (h:∀(j:Nat) (y:Int),b[j]?=some y → -1≤y∧y<(w:Int)):Holds b (qwN b) w:=fun j y hy=>by
 have:=h j y hy
 rw[qdW hy]
 by_cases e:0≤y
 ·rw[if_pos (qRy e)];omega
 ·rw[decide_eq_false e,if_neg (by decide)];omega
def qnd (n:qb) (s:qd) (l:List qa) (b:List Int):Bool:=(q5C s l (fun k=>b.getD k (-1)) n 0).2
theorem qfR {n:qb} {l:List qa} {set:Nat} (h:q2s n l set) {s:qd} {b:List Int} (hb:b.length=l.length) (hv:Holds b set (lvN n)) (hm:qnd n s l b=true):Qp [] s l n 0 set=true:=by
 have:=qbA h hb hv 0
 rw[List.take_zero] at this
 exact(q4w [] s l (by have:=h.ll;omega) n 0 set h.fit h.lt).2 ⟨_,this,hm⟩
end
noncomputable section
open Go.RowKit
theorem q8u {n:qb} {l:List qa} {set:Nat} (h:q2s n l set) {s:qd} {d:List Int} (hd:d.length=l.length) (hf:q5l d s l n set):qnd n s l d=true:=by
 have hll:=h.ll
 obtain⟨a,ha,hm⟩:=(q4w d s l (by omega) n 0 set h.fit h.lt).1 hf.ok
 have hget:∀j,j<l.length→∃y,d[j]?=some y∧d.getD j (-1)=y:=fun j hj=>⟨d[j]'(by omega),qQz (by omega),by rw[List.getD_eq_getElem?_getD,qQz (by omega)];rfl⟩
 have hv:q5C s l (fun j=>d.getD j (-1)) n 0=q5C s l a n 0:=q4d s l _ a n 0 fun k hk x hx hx2=>by
  obtain⟨y,hy,e⟩:=hget k hk
  show d.getD k (-1)=x↔a k=x
  rw[e]
  exact ha.com k y hy x hx (by omega)
 unfold qnd
 rw[hv];exact hm
theorem qhE {n:qb} {l:List qa} {set:Nat} {s:qd} {d:List Int} (hf:q5l d s l n set) (j:Nat) (y:Int) (hy:d[j]?=some y) : -1≤y∧y+1<((lvN n+1:Nat):Int):=by
 have:=hf.val j y hy
 split at this<;>omega
end
noncomputable section
open Go.RowKit
structure Szs (n:qb):Prop where
 hg:hgN n≤100
 nd:(ndN n).length≤9999
 st:∀y∈ndN n,y.Set.length≤1000000
structure Rgt (n:qb):Prop where
 sz:Szs n
 ck:qgo n=0
theorem qip:∀l:List qb,(qto l).getD 0=0→∀y∈l,q8t y=0
 | [],_,y,hy=>by cases hy
 | x::l,h,y,hy=>by
  unfold qto at h
  rw[List.findSome?_cons] at h
  by_cases hx:q8t x=0
  ·simp only[hx,ne_eq,not_true_eq_false,if_false] at h
   rcases qQT.1 hy with e|hy
   ·rw[e];exact hx
   ·exact qip l h y hy
  ·simp only[hx,ne_eq,not_false_eq_true,if_true,Option.getD_some] at h
theorem qsL {n:qb} (h:Rgt n):∀y∈ndN n,q8t y=0:=by
 have hc:=h.ck
 unfold qgo at hc
 split at hc
 ·exact absurd hc (by decide)
 split at hc
 ·exact absurd hc (by decide)
 split at hc
 ·exact absurd hc (by decide)
 exact qip _ hc
theorem qqB {y:qb} (h:q8t y=0):q3d y:=by
 unfold q8t at h
 by_cases e1:y.Kind=1
 ·exact⟨.inl e1,fun e=>by omega,fun e=>by omega⟩
 rw[if_neg e1] at h
 by_cases e2:y.Kind=2
 ·exact⟨.inr (.inl e2),fun e=>by omega,fun e=>by omega⟩
 rw[if_neg e2] at h
 by_cases e3:y.Kind=3
 ·rw[if_pos e3] at h
  split at h
  ·exact absurd h (by decide)
  ·rename_i hb
   have hb1:q7G y=true:=by
    cases hq:q7G y
    ·exact absurd (.inl hq) hb
    ·rfl
   have hb2:y.N=0:=Classical.byContradiction fun q=>hb (.inr q)
   unfold q7G at hb1
   simp only[qR3] at hb1
   refine⟨.inr (.inr (.inl e3)),fun _=>⟨by omega,fun q=>?_⟩,fun e=>by omega⟩
   rw[q] at hb1
   exact absurd hb1.2 (by decide)
 rw[if_neg e3] at h
 by_cases e4:y.Kind=4
 ·rw[if_pos e4] at h
  split at h
  ·exact absurd h (by decide)
  ·split at h
   ·exact absurd h (by decide)
   ·rename_i hi
    have:inF y.N 1 y.L.length=true:=by simpa using hi
    unfold inF at this
    rw[qR3,qRx] at this
    exact⟨.inr (.inr (.inr e4)),fun e=>by omega,fun _=>this.1⟩
 ·rw[if_neg e4] at h
  exact absurd h (by decide)
theorem qxg {n:qb} (h:Rgt n):∀y∈ndN n,q3d y:=fun y hy=>qqB (qsL h y hy)
theorem q2Y {n:qb} (h:Rgt n) {l:List qa} (hl:l.length≤10) {set:Nat} (hs:set<2 ^ l.length):q2s n l set:=⟨qxg h,h.sz.nd,h.sz.st,by omega,hs⟩
theorem qe6 {n:qb} (h:Rgt n) (s:qd) (l:List qa) (hl:l.length≤10):q20 n s l=some (QQ (2 ^ l.length) (Qp [] s l n 0),0):=by
 have h4:=h.sz.nd
 unfold q20
 rw[qdN n h.sz.hg h.sz.nd h.sz.st,h.ck,qQx,if_neg (by decide),if_neg (by omega)]
 unfold q4P
 have:=qmn [] rfl s l (by omega) _ n (qQN _) (by omega) h.sz.st 0 (by omega)
 rw[show((0:Nat):Int)=0 from rfl] at this
 rw[this,qQx,qQx]
theorem qcO {n:qb} {l:List qa} {set:Nat} (h:q2s n l set) {s:qd} {d b:List Int} (hd:d.length=l.length) (hf:q5l d s l n set) (hb:b.length=l.length) (hg:q5l b s l n set):d=b:=by
 rcases qg3 h hd hf hb hg.val (q8u h hb hg) with e|e
 ·exact e
 ·rcases qg3 h hb hg hd hf.val (q8u h hd hf) with e2|e2
  ·exact e2.symm
  ·omega
theorem qb6 {n:qb} {l:List qa} {set:Nat} (h:q2s n l set) {s:qd} {d:List Int} (hd:d.length=l.length) (hf:q5l d s l n set):Qp [] s l n 0 set=true:=
 qfR h hd hf.val (q8u h hd hf)
theorem qo5 {n:qb} (h:Rgt n) {l:List qa} (hl:l.length≤10) {set:Nat} (hs:set<2 ^ l.length) (s:qd) {d:List Int} (hd:d.length=l.length) (hf:q5l d s l n set):q0D n s l (set:Int)=some (Q6 set.testBit d,true):=by
 have hG:=q2Y h hl hs
 rcases qfE hG s (qe6 h s l hl) with ⟨g1,_⟩|⟨_,b,g2,g3,g4⟩
 ·rw[qb6 hG hd hf] at g1;cases g1
 ·rw[g4,qcO hG hd hf g2 g3]
end
noncomputable section
open Go.RowKit
theorem q41 {α:Type}:∀(l:List α) (m:Nat→Bool),(Q6 m l).length=rkF m l.length
 | [],_=>rfl
 | a::l,m=>by
  rw[Q6,qQE,q41 l,qQI,qaD]
  cases m 0<;>rfl
theorem qpc {α:Type}:∀(l:List α) (m:Nat→Bool) (k:Nat),m k=true→(Q6 m l)[rkF m k]?=l[k]?
 | [],_,_,_=>by rw[Q6];simp
 | a::l,m,0,h=>by rw[Q6,h,if_pos rfl];rfl
 | a::l,m,k+1,h=>by
  rw[Q6,qaD]
  have:=qpc l (fun j=>m (j+1)) k h
  cases m 0
  ·rw[if_neg (by decide),if_neg (by decide),qQR,qQV,this,qQW]
  ·rw[if_pos rfl,if_pos rfl,qRE,Nat.add_comm 1,qQW,this,qQW]
theorem qc5 {α:Type}:∀(l:List α) (m:Nat→Bool) (x:α),x∈Q6 m l→x∈l
 | [],_,_,h=>by cases h
 | a::l,m,x,h=>by
  rw[Q6,qR1] at h
  rcases h with h|h
  ·cases h0:m 0<;>rw[h0] at h
   ·cases h
   ·exact qRo.1 h ▸ qQM
  ·exact qQF _ (qc5 l _ x h)
theorem qbo {α:Type} (N:Nat) (g:Nat→α):QQ (N+1) g=QQ N g++[g N]:=by
 unfold QQ
 rw[List.range_succ,List.map_append];rfl
theorem qir (m:Nat→Bool) (lf:List Int):∀N,rkF m N≤lf.length→Q6 m (QQ N (q92 m fun j=>lf.getD j (-1)))=lf.take (rkF m N)
 | 0,_=>by rw[rkF,List.take_zero];rfl
 | N+1,h=>by
  rw[rkF] at h
  rw[qbo,q5I,qir m lf N (by omega),zf,rkF]
  unfold q92
  cases e:m N
  ·rw[if_neg (by decide),if_neg (by decide),qQS,Nat.add_zero]
  ·rw[if_pos rfl,if_pos rfl,if_pos rfl,List.take_add_one]
   rw[e,if_pos rfl] at h
   dsimp only
   rw[List.getD_eq_getElem?_getD,qQz (by omega)]
   rfl
theorem qfJ:∀{a b:List Int} {x y:Int},a.length=b.length→(q4H (a++[x]) (b++[y])=true↔q4H a b=true∨(a=b∧x<y))
 | [],[],x,y,_=>by simp[q4H]
 | u::a,v::b,x,y,h=>by
  have:=qfJ (a:=a) (b:=b) (x:=x) (y:=y) (by simpa using h)
  rw[qRD,qRD,q4H,q4H,qR2,qR2,qR3,qR3,this,qRx,beq_iff_eq]
  constructor
  ·rintro(h|⟨h,h2|⟨h2,h3⟩⟩)
   ·exact .inl (.inl h)
   ·exact .inl (.inr ⟨h,h2⟩)
   ·exact .inr ⟨by rw[h,h2],h3⟩
  ·rintro((h|⟨h,h2⟩)|⟨h,h2⟩)
   ·exact .inl h
   ·exact .inr ⟨h,.inl h2⟩
   ·injection h with h3 h4;exact .inr ⟨h3,.inr ⟨h4,h2⟩⟩
theorem qiU:∀{a b:List Int} {m:Nat→Bool},a.length=b.length→(∀k,m k=false→a[k]?=b[k]?)→q4H a b=true→q4H (Q6 m a) (Q6 m b)=true
 | [],[],_,_,_,h=>by cases h
 | x::a,y::b,m,hl,he,h=>by
  rw[q4H,qR2,qR3,qRx,beq_iff_eq] at h
  have ih:=fun h=>qiU (a:=a) (b:=b) (m:=fun j=>m (j+1)) (by simpa using hl) (fun k hk=>by simpa using he (k+1) hk) h
  rw[Q6,Q6]
  cases e:m 0
  ·rw[if_neg (by decide),if_neg (by decide),qQR,qQR]
   have:x=y:=by simpa using he 0 e
   rcases h with h|h
   ·omega
   ·exact ih h.2
  ·rw[if_pos rfl,if_pos rfl,qRE,qRE,q4H,qR2,qR3,qRx,beq_iff_eq]
   rcases h with h|h
   ·exact .inl h
   ·exact .inr ⟨h.1,ih h.2⟩
theorem qpu {n:qb} {l:List qa} {set:Nat} (h:q2s n l set) {s:qd} {d b:List Int} (hd:d.length=l.length) (hf:q5l d s l n set) (hb:b.length=l.length) (hv:Holds b set (lvN n))
  (hm:qnd n s l b=true):d=b∨q4H d b=true:=by
 have hll:=h.ll
 have key:∀j,j≤l.length→d.take j=b.take j∨q4H (d.take j) (b.take j)=true:=by
  intro j
  induction j with
  | zero=>intro _;left;rw[List.take_zero,List.take_zero]
  | succ j ih=>
   intro hj
   obtain⟨x,hx⟩:∃x,d[j]?=some x:=⟨_,qQz (by omega)⟩
   obtain⟨z,hz⟩:∃z,b[j]?=some z:=⟨_,qQz (by omega)⟩
   have ed:d.take (j+1)=d.take j++[x]:=by rw[List.take_add_one,hx];rfl
   have eb:b.take (j+1)=b.take j++[z]:=by rw[List.take_add_one,hz];rfl
   have hlen:(d.take j).length=(b.take j).length:=by rw[qR0,qR0];omega
   have vx:=hf.val j x hx
   have vz:=hv j z hz
   have hA:=(q4w (b.take (j+1)) s l (by omega) n 0 set h.fit h.lt).2 ⟨_,qbA h hb hv (j+1),hm⟩
   rw[ed,eb,qfJ hlen]
   rw[eb] at hA
   rcases ih (by omega) with e|e
   ·by_cases hbit:set.testBit j=true
    ·rw[if_pos hbit] at vx vz
     rcases Int.lt_trichotomy z x with g|g|g
     ·exfalso
      have:=hf.lst j x hx hbit z.toNat (by omega)
      rw[e,show((z.toNat:Nat):Int)=z from by omega,hA] at this
      exact absurd this (by decide)
     ·left;rw[e,g]
     ·exact .inr (.inr ⟨e,g⟩)
    ·rw[if_neg hbit] at vx vz
     left;rw[e,vx,vz]
   ·exact .inr (.inl e)
 have:=key l.length (qQN _)
 rwa [qRF (by omega),qRF (by omega)] at this
structure Perm (n:qb) (s:qd) (l:List qa) (X:Nat) (lf:List Int):Prop where
 len:lf.length=rkF X.testBit l.length
 rng:∀(j:Nat) (y:Int),lf[j]?=some y → -1≤y∧y<(lvN n:Int)
 met:qnd n s (Q6 X.testBit l) lf=true
theorem qjk {n:qb} (h:Rgt n) {l:List qa} (hl:l.length≤10) {set:Nat} (hs:set<2 ^ l.length) (s:qd) (hS:Qp [] s l n 0 set=true):∃d,d.length=l.length∧q5l d s l n set:=by
 rcases qfE (q2Y h hl hs) s (qe6 h s l hl) with ⟨e,_⟩|⟨_,d,h1,h2,_⟩
 ·rw[hS] at e;cases e
 ·exact⟨d,h1,h2⟩
theorem qcN {n:qb} (h:Rgt n) {l:List qa} (hl:l.length≤10) {s:qd} {X:Nat} {lf:List Int} (hp:Perm n s l X lf) :
  ∃sub d,sub<2 ^ l.length∧sub &&& X=sub∧d.length=l.length∧q5l d s l n sub∧(Q6 X.testBit d=lf∨q4H (Q6 X.testBit d) lf=true):=by
 obtain⟨b,hb⟩:∃b,b=QQ l.length (q92 X.testBit fun j=>lf.getD j (-1)):=⟨_,rfl⟩
 have hbl:b.length=l.length:=by rw[hb,zf]
 have hget:∀k,k<l.length→b[k]?=some (q92 X.testBit (fun j=>lf.getD j (-1)) k):=fun k hk=>by rw[hb,Zy _ hk]
 have hrng:∀(j:Nat) (y:Int),b[j]?=some y → -1≤y∧y<(lvN n:Int):=fun j y hy=>by
  have hj:=ZB hy
  rw[hget j (by omega)] at hy
  injection hy with hy
  unfold q92 at hy
  split at hy
  ·subst hy
   by_cases hr:rkF X.testBit j<lf.length
   ·have:=hp.rng _ _ (qQz hr)
    dsimp only
    rw[List.getD_eq_getElem?_getD,qQz hr];exact this
   ·dsimp only
    rw[List.getD_eq_getElem?_getD,qR5 (by omega)]
    exact⟨Int.le_refl _,by show(-1:Int)<_;omega⟩
  ·subst hy;exact⟨Int.le_refl _,by omega⟩
 have hv:=qkD hrng
 have hset:qwN b<2 ^ l.length:=hbl ▸ qxT b
 have G:=q2Y h hl hset
 have hm:qnd n s l b=true:=by
  have h1:=hp.met
  unfold qnd at h1 ⊢
  rw[qjL] at h1
  rw[←h1]
  congr 1
  refine q4d s l _ _ n 0 fun k hk x _ _=>?_
  show b.getD k (-1)=x↔_
  rw[List.getD_eq_getElem?_getD,hget k hk];exact Iff.rfl
 obtain⟨d,hd,hf⟩:=qjk h hl hset s (qfR G hbl hv hm)
 refine⟨qwN b,d,hset,?_,hd,hf,?_⟩
 ·refine qfv fun k hk=>?_
  by_cases hkl:k<l.length
  ·rw[qdW (hget k hkl),qRx] at hk
   unfold q92 at hk
   split at hk
   ·assumption
   ·omega
  ·rw[Nat.testBit_lt_two_pow (qR7 hset (Nat.pow_le_pow_right (by decide) (by omega)))] at hk;cases hk
 ·have hsel:Q6 X.testBit b=lf:=by
   rw[hb,qir _ _ _ (by rw[hp.len];exact qQN _),←hp.len,List.take_length]
  rcases qpu G hd hf hbl hv hm with e|e
  ·left;rw[e,hsel]
  ·right
   have:=qiU (m:=X.testBit) (by omega) (fun k hk=>?_) e
   ·rw[hsel] at this;exact this
   ·by_cases hkl:k<l.length
    ·obtain⟨y,hy⟩:∃y,d[k]?=some y:=⟨_,qQz (by omega)⟩
     have hbit:(qwN b).testBit k=false:=by
      rw[qdW (hget k hkl)]
      unfold q92
      rw[hk,if_neg (by decide)];rfl
     have:=hf.val k y hy
     rw[hbit,if_neg (by decide)] at this
     rw[hy,hget k hkl,this]
     unfold q92
     rw[hk,if_neg (by decide)]
    ·rw[qR5 (by omega),qR5 (by omega)]
theorem qkN {n:qb} (h:Rgt n) {l:List qa} (hl:l.length≤10) {s:qd} {X sub:Nat} (hs:sub<2 ^ l.length) (hX:sub &&& X=sub) {d:List Int} (hd:d.length=l.length) (hf:q5l d s l n sub):Perm n s l X (Q6 X.testBit d):=by
 have G:=q2Y h hl hs
 refine⟨by rw[q41,hd],fun j y hy=>?_,?_⟩
 ·obtain⟨k,hk⟩:=List.getElem?_of_mem (qc5 d _ y (qQy hy))
  have:=qhE hf k y hk
  omega
 ·have h1:=q8u G hd hf
  unfold qnd at h1 ⊢
  rw[qjL,←h1]
  congr 1
  refine q4d s l _ _ n 0 fun k hk x _ _=>?_
  obtain⟨y,hy⟩:∃y,d[k]?=some y:=⟨_,qQz (by omega)⟩
  show _↔d.getD k (-1)=x
  unfold q92
  by_cases hk2:X.testBit k=true
  ·rw[if_pos hk2]
   dsimp only
   rw[List.getD_eq_getElem?_getD,List.getD_eq_getElem?_getD,qpc d _ k hk2]
  ·rw[if_neg hk2,List.getD_eq_getElem?_getD,hy]
   have hb:sub.testBit k=false:=qQZ.2 fun e=>hk2 (q9u hX e)
   have:=hf.val k y hy
   rw[hb,if_neg (by decide)] at this
   rw[this];exact Iff.rfl
end
noncomputable section
open Go.RowKit
set_option maxRecDepth 100000
def q2Q (N m:Nat):List Int:=Q6 m.testBit (QQ N fun i=>(i:Int))
theorem qfG {α:Type} (N:Nat) (g:Nat→α):QQ (N+1) g=g 0::QQ N fun i=>g (i+1):=by
 unfold QQ
 rw[List.range_succ_eq_map,qQU,List.map_map];rfl
theorem qiw {α:Type}:∀(l:List α) (p:Nat→Bool),(∀k,k<l.length→p k=false)→Q6 p l=[]
 | [],_,_=>rfl
 | a::l,p,h=>by
  rw[Q6,h 0 (by simp),qiw l _ fun k hk=>h (k+1) (by simpa using hk)];rfl
theorem qff {m:Nat} {N:Nat} (hN:N≤60) (hm:m<2 ^ N):∀(j k:Nat) (l:List Int),j+k=N→l.length≤k→zn (Qe (m:Int)) (l,(k:Int))=some (l++Q6 (fun i=>m.testBit (k+i)) (QQ j fun i=>((k+i:Nat):Int))):=by
 have hML:100000≤maxLen:=by unfold maxLen;omega
 have hm63:m<9223372036854775808:=qR7 hm (qR8 (Nat.pow_le_pow_right (by decide) hN) (by decide))
 have stop:∀(k:Nat) (l:List Int),k≤60→m / 2 ^ k=0→zn (Qe (m:Int)) (l,(k:Int))=some l:=fun k l hk h0=>by
  refine zg ?_
  unfold Qe
  dsimp only
  rw[if_pos (by omega),qQA,q8l m k (by omega),h0,if_neg (by decide)]
 intro j
 induction j with
 | zero=>
  intro k l hk hl
  obtain rfl:k=N:=by omega
  rw[stop k l hN (Nat.div_eq_of_lt hm)]
  show some l=some (l++[])
  rw[qQS]
 | succ j ih=>
  intro k l hk hl
  by_cases h0:m / 2 ^ k=0
  ·rw[stop k l (by omega) h0,qiw _ _ fun i _=>?_,qQS]
   rw[Nat.testBit_eq_decide_div_mod_eq,Nat.pow_add,←Nat.div_div_eq_div_mul,h0,Nat.zero_div]
   rfl
  ·have hws:w64 ((k:Int)+1)=((k+1:Nat):Int):=Qn (n:=1000) (by omega) (by omega)
   have hb:=qhn m k hm63 (by omega)
   rw[qfG,Q6]
   have e1:(fun i=>m.testBit (k+(i+1)))=fun i=>m.testBit (k+1+i):=funext fun i=>by rw[Nat.add_right_comm,qRr]
   have e2:(fun i=>((k+(i+1):Nat):Int))=fun i=>((k+1+i:Nat):Int):=funext fun i=>by rw[Nat.add_right_comm,qRr]
   rw[e1,e2]
   have hpos:(0:Int)<((m:Int)).fdiv (2 ^ min k IntKind.i64.bits):=by rw[q8l m k (by omega)];exact Int.ofNat_lt.2 (Nat.pos_of_ne_zero h0)
   cases e:m.testBit k
   ·rw[if_neg (by decide),qQR,←ih (k+1) l (by omega) (by omega)]
    refine zM ?_
    unfold Qe
    dsimp only
    rw[if_pos (by omega),qQA,if_pos hpos,if_pos (by omega),if_neg (by rw[hb,e];decide),hws]
   ·rw[if_pos rfl,Nat.add_zero,←qRd,←ih (k+1) (l++[(k:Int)]) (by omega) (by rw[qQE];exact Nat.succ_le_succ hl)]
    refine zM ?_
    unfold Qe
    dsimp only
    rw[if_pos (by omega),qQA,if_pos hpos,if_pos (by omega),if_pos (by rw[hb,e]),if_pos ⟨by omega,by omega⟩,hws]
theorem q2Z {m N:Nat} (hN:N≤60) (hm:m<2 ^ N):Zn (m:Int)=some (q2Q N m):=by
 have h:=qff hN hm N 0 [] (by omega) (qQN _)
 unfold Zn
 change Option.bind (zn _ ([],((0:Nat):Int))) _=_
 rw[h,qQx,qQR]
 simp only[qQV]
 rfl
def qli:List Int→List Int→Int
 | [],[]=>0
 | [],_::_ => -1
 | _::_,[]=>1
 | a::l,b::m=>if a<b then -1 else if b<a then 1 else qli l m
theorem qdm:∀a b:List Int,(qli a b<0↔q4H a b=true)
 | [],[]=>by simp[qli,q4H]
 | [],_::_=>by simp[qli,q4H]
 | _::_,[]=>by simp[qli,q4H]
 | a::l,b::m=>by
  rw[qli,q4H,qR2,qR3,qRx,beq_iff_eq]
  split
  ·rename_i h;exact⟨fun _ => .inl h,fun _=>by decide⟩
  ·split
   ·rename_i h;exact⟨fun h=>absurd h (by decide),fun h2=>by omega⟩
   ·rw[qdm l m]
    exact⟨fun h => .inr ⟨by omega,h⟩,fun h=>h.elim (fun h=>absurd h (by assumption)) fun h=>h.2⟩
theorem qmu (x y:Int):zL x y=qdO x y:=by
 have hn:∀z:Int,zU z=false:=fun z=>by unfold zU;simp
 unfold zL qdO
 rw[hn x,hn y,if_neg (by decide),if_neg (by decide)]
theorem qa1 (s1 s2:List Int) (h1:s1.length≤1000000):∀(r q:List Int) (i:Nat),r.length+i=s1.length→(∀j,r[j]?=s1[i+j]?)→(∀j,q[j]?=s2[i+j]?)→(q=[]↔s2.length≤i)→
  ∃e:Int⊕Unit,zn (zu s1 s2 s1 ((s1.length:Nat):Int)) (i:Int)=some e∧e.elim id (fun _=>if((s1.length:Nat):Int)<((s2.length:Nat):Int) then -1 else 0)=qli r q
 | [],q,i,hi,hr,hq,h0=>by
  have hi:i=s1.length:=by simpa using hi
  refine⟨.inr (),zg ?_,?_⟩
  ·unfold zu
   rw[if_neg (by omega)]
  ·show(if _ then(-1:Int) else 0)=_
   cases q with
   | nil=>rw[if_neg (by have:=h0.1 rfl;omega)];rfl
   | cons y q=>
    have hq2:¬ s2.length≤i:=fun h=>by cases h0.2 h
    rw[if_pos (by omega)];rfl
 | x::r,q,i,hi,hr,hq,h0=>by
  have hil:i<s1.length:=by simp only[qQI] at hi;omega
  have hx:s1[i]?=some x:=by have:=hr 0;rw[Nat.add_zero] at this;exact this.symm
  have hws:w64 ((i:Int)+1)=((i+1:Nat):Int):=Qn (n:=10000000) (by omega) (by omega)
  cases q with
  | nil=>
   have:=h0.1 rfl
   refine⟨.inl 1,zg ?_,rfl⟩
   unfold zu
   rw[if_pos (by omega),if_pos ⟨by omega,by omega⟩,qQA,hx,qQx,if_pos (by omega)]
  | cons y q=>
   have hl2:i<s2.length:=Nat.lt_of_not_le fun h=>by cases h0.2 h
   have hy:s2[i]?=some y:=by have:=hq 0;rw[Nat.add_zero] at this;exact this.symm
   have step:zu s1 s2 s1 ((s1.length:Nat):Int) (i:Int)=if(qdO x y != 0)=true then some (.inr (.inl (qdO x y))) else some (.inl ((i+1:Nat):Int)):=by
    unfold zu
    rw[if_pos (by omega),if_pos ⟨by omega,by omega⟩,qQA,hx,qQx,if_neg (by omega),if_pos ⟨by omega,by omega⟩,hy,qQx,qmu,hws]
   by_cases hc:qdO x y=0
   ·rw[if_neg (by simpa using hc)] at step
    obtain⟨e,e1,e2⟩:=qa1 s1 s2 h1 r q (i+1) (by simp only[qQI] at hi;omega) (fun j=>by have:=hr (j+1);rw[qQW] at this;rw[this];congr 1;omega) (fun j=>by have:=hq (j+1);rw[qQW] at this;rw[this];congr 1;omega) (by
     have h3:=hq 1
     rw[qQW] at h3
     constructor
     ·rintro rfl
      rw[List.getElem?_nil] at h3
      exact List.getElem?_eq_none_iff.1 h3.symm
     ·intro h
      rw[qR5 h] at h3
      cases q with
      | nil=>rfl
      | cons z q=>cases h3)
    refine⟨e,(zM step).trans e1,?_⟩
    rw[e2,qli]
    unfold qdO at hc
    split at hc
    ·cases hc
    ·split at hc
     ·cases hc
     ·rename_i h1 h2;rw[if_neg h1,if_neg h2]
   ·rw[if_pos (by simpa using hc)] at step
    refine⟨.inl (qdO x y),zg step,?_⟩
    show qdO x y=_
    rw[qli]
    unfold qdO at hc ⊢
    split
    ·rfl
    ·rename_i h1
     split
     ·rfl
     ·rename_i h2;rw[if_neg h1,if_neg h2] at hc;exact absurd rfl hc
theorem qnK (s1 s2:List Int) (h1:s1.length≤1000000):Qu s1 s2=some (qli s1 s2):=by
 obtain⟨e,e1,e2⟩:=qa1 s1 s2 h1 s1 s2 0 (by omega) (fun j=>by rw[qQV]) (fun j=>by rw[qQV]) ⟨fun h=>by rw[h];exact qQN _,fun h=>qQQ (by omega)⟩
 unfold Qu
 change Option.bind (zn _ ((0:Nat):Int)) _=_
 rw[e1,qQx]
 cases e with
 | inl v=>rw[Sum.elim_inl];exact congrArg some e2
 | inr v=>
  rw[Sum.elim_inr]
  have e2:(if((s1.length:Nat):Int)<((s2.length:Nat):Int) then(-1:Int) else 0)=qli s1 s2:=e2
  rw[←e2]
  split<;>rfl
theorem qhe {α:Type}:∀(l:List α) (p:Nat→Bool) (x:α),x∈Q6 p l↔∃k,p k=true∧l[k]?=some x
 | [],p,x=>by simp[Q6]
 | a::l,p,x=>by
  rw[Q6,qR1,qhe l]
  constructor
  ·rintro(h|⟨k,h1,h2⟩)
   ·split at h
    ·rename_i h0;exact⟨0,h0,by rw[qRo.1 h];rfl⟩
    ·cases h
   ·exact⟨k+1,h1,h2⟩
  ·rintro⟨k,h1,h2⟩
   cases k with
   | zero=>left;rw[if_pos h1];injection h2 with h2;rw[h2];exact qRo.2 rfl
   | succ k=>right;exact⟨k,h1,h2⟩
theorem qiQ {N m k:Nat}:((k:Nat):Int)∈q2Q N m↔k<N∧m.testBit k=true:=by
 unfold q2Q
 rw[qhe]
 constructor
 ·rintro⟨j,h1,h2⟩
  have hj:=ZB h2
  rw[zf] at hj
  rw[Zy _ hj] at h2
  injection h2 with h2
  obtain rfl:j=k:=by omega
  exact⟨hj,h1⟩
 ·rintro⟨h1,h2⟩
  exact⟨k,h2,Zy _ h1⟩
theorem qrB {N a b:Nat} (ha:a<2 ^ N) (hb:b<2 ^ N) (h:q2Q N a=q2Q N b):a=b:=Nat.eq_of_testBit_eq fun k=>by
 by_cases hk:k<N
 ·have h1:=qiQ (N:=N) (m:=a) (k:=k)
  rw[h,qiQ] at h1
  rw[Bool.eq_iff_iff]
  exact⟨fun e=>(h1.2 ⟨hk,e⟩).2,fun e=>(h1.1 ⟨hk,e⟩).2⟩
 ·rw[Nat.testBit_lt_two_pow (qR7 ha (Nat.pow_le_pow_right (by decide) (by omega))),Nat.testBit_lt_two_pow (qR7 hb (Nat.pow_le_pow_right (by decide) (by omega)))]
theorem qrP {N M m:Nat} (hN:N≤60) (hM:M≤60) (h1:m<2 ^ N) (h2:m<2 ^ M):q2Q N m=q2Q M m:=by
 have:=(q2Z hN h1).symm.trans (q2Z hM h2)
 injection this
theorem qiu (N m:Nat):(q2Q N m).length=rkF m.testBit N:=by
 unfold q2Q
 rw[q41,zf]
theorem qfP (m:Nat→Bool):∀N,rkF m N≤N
 | 0=>qQN _
 | N+1=>by rw[rkF];have:=qfP m N;split<;>omega
def qPp (m:Nat):Bool:=Qf (IntKind.wrap IntKind.u64 (m:Int))==(((q2Q 10 m).length:Nat):Int)
theorem qw3:(List.range 1024).all qPp=true:=by kernel_rfl
theorem qtg {N m:Nat} (hN:N≤10) (hm:m<2 ^ N):Qf (IntKind.wrap IntKind.u64 (m:Int))=(((q2Q N m).length:Nat):Int):=by
 have h10:m<2 ^ 10:=qR7 hm (Nat.pow_le_pow_right (by decide) hN)
 have h:=qQO.1 qw3 m (qRu.2 h10)
 rw[qrP (show N≤60 by omega) (show 10≤60 by omega) hm h10]
 exact eq_of_beq h
theorem qlF {N:Nat} (hN:N≤10) {a b:Nat} (ha:a<2 ^ N) (hb:b<2 ^ N):∃c,Qb (a:Int) (b:Int)=some c∧(c<0↔slL (q2Q N a) (q2Q N b)=true):=by
 have la:(q2Q N a).length≤10:=by rw[qiu];exact qR8 (qfP _ _) hN
 unfold Qb
 rw[q2Z (by omega) ha,qQx,q2Z (by omega) hb,qQx,qnK _ _ (by omega),qQx,qtg hN ha,qtg hN hb,qmu,qzx,qQx]
 refine⟨_,rfl,?_⟩
 rw[qgL]
 unfold qdO
 by_cases h1:(q2Q N a).length<(q2Q N b).length
 ·rw[if_pos (by omega:(((q2Q N a).length:Nat):Int)<(((q2Q N b).length:Nat):Int)),if_pos (by decide)]
  exact⟨fun _ => .inl h1,fun _=>by decide⟩
 ·rw[if_neg (by omega:¬ (((q2Q N a).length:Nat):Int)<(((q2Q N b).length:Nat):Int))]
  by_cases h2:(q2Q N b).length<(q2Q N a).length
  ·rw[if_pos (by omega:(((q2Q N b).length:Nat):Int)<(((q2Q N a).length:Nat):Int)),if_pos (by decide)]
   exact⟨fun h=>absurd h (by decide),fun h=>by rcases h with h|h<;>omega⟩
  ·rw[if_neg (by omega:¬ (((q2Q N b).length:Nat):Int)<(((q2Q N a).length:Nat):Int)),if_neg (by decide),qdm]
   exact⟨fun h => .inr ⟨by omega,h⟩,fun h=>h.elim (fun h=>absurd h (by omega)) fun h=>h.2⟩
def msL (N:Nat):List Int:=q0v Qb (QQ (2 ^ N) fun i=>(i:Int))
theorem q7h {N:Nat} {x:Int}:x∈(QQ N fun i=>(i:Int))↔∃k:Nat,k<N∧x=(k:Int):=by
 unfold QQ
 rw[qRi]
 constructor
 ·rintro⟨k,h1,h2⟩;exact⟨k,qRu.1 h1,h2.symm⟩
 ·rintro⟨k,h1,h2⟩;exact⟨k,qRu.2 h1,h2.symm⟩
theorem qmD (N:Nat):(QQ N fun i=>(i:Int)).Nodup:=by
 unfold QQ
 rw[List.nodup_iff_pairwise_ne,List.pairwise_map]
 exact(List.nodup_iff_pairwise_ne.1 List.nodup_range).imp fun h e=>h (by omega)
theorem qAi {N:Nat} (hN:N≤10):okB Qb (QQ (2 ^ N) fun i=>(i:Int))=true∧(msL N).Pairwise (fun x y=>slL (q2Q N x.toNat) (q2Q N y.toNat)=true)∧∀x,x∈msL N↔∃k:Nat,k<2 ^ N∧x=(k:Int):=by
 have hs:∀x∈(QQ (2 ^ N) fun i=>(i:Int)),∀y∈(QQ (2 ^ N) fun i=>(i:Int)),∃c,Qb x y=some c∧(c<0↔slL (q2Q N x.toNat) (q2Q N y.toNat)=true):=fun x hx y hy=>by
  obtain⟨a,ha,rfl⟩:=q7h.1 hx
  obtain⟨b,hb,rfl⟩:=q7h.1 hy
  exact qlF hN ha hb
 have hi:∀x∈(QQ (2 ^ N) fun i=>(i:Int)),∀y∈(QQ (2 ^ N) fun i=>(i:Int)),q2Q N x.toNat=q2Q N y.toNat→x=y:=fun x hx y hy h=>by
  obtain⟨a,ha,rfl⟩:=q7h.1 hx
  obtain⟨b,hb,rfl⟩:=q7h.1 hy
  rw[qQA,qQA] at h
  rw[qrB ha hb h]
 refine⟨(qnn hs hi).1,qn3 hs hi (qmD _),fun x=>?_⟩
 unfold msL
 rw[q2q,q7h]
end
noncomputable section
open Go.RowKit
theorem qpr {α β:Type} (f:α→Option β):∀(l:List α) (m:List β) (p:Nat→Bool),l.map f=m.map some→(Q6 p l).filterMap f=Q6 p m
 | [],[],_,_=>rfl
 | a::l,b::m,p,h=>by
  rw[qQU,qQU] at h
  injection h with h1 h2
  rw[Q6,Q6,List.filterMap_append,qpr f l m _ h2]
  congr 1
  split
  ·rw[List.filterMap_cons,h1];rfl
  ·rfl
theorem qdY {α:Type} (l:List α):(QQ l.length fun i=>(i:Int)).map (fun y=>l[Int.toNat y]?)=l.map some:=by
 apply List.ext_getElem?
 intro j
 rw[qQL,qQL]
 by_cases hj:j<l.length
 ·rw[Zy _ hj,qQz hj,Option.map_some,Option.map_some,qQA,qQz hj]
 ·rw[qR5 (by rw[zf];omega),qR5 (by omega)];rfl
theorem qtC {α:Type} (l:List α) (X:Nat):(q2Q l.length X).filterMap (fun y=>l[Int.toNat y]?)=Q6 X.testBit l:=qpr _ _ _ _ (qdY l)
theorem mem_range {N X:Nat} {y:Int} (h:y∈q2Q N X):∃k:Nat,k<N∧y=(k:Int):=by
 have:=qc5 _ _ _ h
 obtain⟨k,h1,h2⟩:=q7h.1 this
 exact⟨k,h1,h2⟩
theorem qa7 (l:List qa) (hl:l.length≤1000) (at0:List Int) (ha:at0.length≤1000) (hr:∀y∈at0,∃k:Nat,k<l.length∧y=(k:Int)):∀(r:List Int) (i:Nat) (out:List qa),r.length+i=at0.length→(∀j,r[j]?=at0[i+j]?)→out.length=i→
  zn (qP l at0 ((at0.length:Nat):Int)) (out,(i:Int))=some (out++r.filterMap fun y=>l[Int.toNat y]?)
 | [],i,out,hi,_,_=>by
  have hi:i=at0.length:=by simpa using hi
  refine(zg ?_).trans (by rw[List.filterMap_nil,qQS])
  unfold qP
  dsimp only
  rw[if_neg (by omega)]
 | y::r,i,out,hi,hj,ho=>by
  have hML:100000≤maxLen:=by unfold maxLen;omega
  have hil:i<at0.length:=by simp only[qQI] at hi;omega
  have hy:at0[i]?=some y:=by have:=hj 0;rw[Nat.add_zero] at this;exact this.symm
  obtain⟨k,hk,rfl⟩:=hr y (qQy hy)
  have hws:w64 ((i:Int)+1)=((i+1:Nat):Int):=Qn (n:=10000) (by omega) (by omega)
  have e:qP l at0 ((at0.length:Nat):Int) (out,(i:Int))=some (.inl (out++[l[k]],((i+1:Nat):Int))):=by
   unfold qP
   dsimp only
   rw[if_pos (by omega),if_pos ⟨by omega,by omega⟩,qQA,hy,qQx,if_pos ⟨by omega,by omega⟩,qQA,qQz hk,qQx,if_pos ⟨by omega,by omega⟩,hws]
  rw[zM e,qa7 l hl at0 ha hr r (i+1) _ (by simp only[qQI] at hi;omega) (fun j=>by have:=hj (j+1);rw[qQW] at this;rw[this];congr 1;omega) (by rw[qQE,ho];rfl),List.filterMap_cons,qQA,qQz hk]
  simp
def q4I (N:Nat) (m:Nat→Bool):List Int:=Q6 m (QQ N fun i=>(i:Int))
theorem q6D (N:Nat) (m:Nat→Bool):(q4I N m).length=rkF m N:=by
 unfold q4I
 rw[q41,zf]
theorem qd9 {N:Nat} {m:Nat→Bool} {y:Int} (h:y∈q4I N m):∃k:Nat,k<N∧y=(k:Int):=by
 have:=qc5 _ _ _ h
 obtain⟨k,h1,h2⟩:=q7h.1 this
 exact⟨k,h1,h2⟩
theorem qlx {α:Type} (l:List α) (m:Nat→Bool):(q4I l.length m).filterMap (fun y=>l[Int.toNat y]?)=Q6 m l:=qpr _ _ _ _ (qdY l)
theorem qpf {l:List qa} (hl:l.length≤1000) (m:Nat→Bool):zq l (q4I l.length m)=some (Q6 m l):=by
 have hlen:(q4I l.length m).length≤1000:=by rw[q6D];exact qR8 (qfP _ _) hl
 have h:=qa7 l (by omega) (q4I l.length m) (by omega) (fun y hy=>qd9 hy) (q4I l.length m) 0 [] (by omega) (fun j=>by rw[qQV]) rfl
 unfold zq
 change Option.bind (zn _ ([],((0:Nat):Int))) _=_
 rw[h,qQx,qQR,qlx]
theorem q9T (l:List Int) (hl:l.length≤1000) (at0:List Int) (ha:at0.length≤1000) (hr:∀y∈at0,∃k:Nat,k<l.length∧y=(k:Int)):∀(r:List Int) (i:Nat) (out:List Int),r.length+i=at0.length→(∀j,r[j]?=at0[i+j]?)→out.length=i→
  zn (Q1 l at0 ((at0.length:Nat):Int)) (out,(i:Int))=some (out++r.filterMap fun y=>l[Int.toNat y]?)
 | [],i,out,hi,_,_=>by
  have hi:i=at0.length:=by simpa using hi
  refine(zg ?_).trans (by rw[List.filterMap_nil,qQS])
  unfold Q1
  dsimp only
  rw[if_neg (by omega)]
 | y::r,i,out,hi,hj,ho=>by
  have hML:100000≤maxLen:=by unfold maxLen;omega
  have hil:i<at0.length:=by simp only[qQI] at hi;omega
  have hy:at0[i]?=some y:=by have:=hj 0;rw[Nat.add_zero] at this;exact this.symm
  obtain⟨k,hk,rfl⟩:=hr y (qQy hy)
  have hws:w64 ((i:Int)+1)=((i+1:Nat):Int):=Qn (n:=10000) (by omega) (by omega)
  have e:Q1 l at0 ((at0.length:Nat):Int) (out,(i:Int))=some (.inl (out++[l[k]],((i+1:Nat):Int))):=by
   unfold Q1
   dsimp only
   rw[if_pos (by omega),if_pos ⟨by omega,by omega⟩,qQA,hy,qQx,if_pos ⟨by omega,by omega⟩,qQA,qQz hk,qQx,if_pos ⟨by omega,by omega⟩,hws]
  rw[zM e,q9T l hl at0 ha hr r (i+1) _ (by simp only[qQI] at hi;omega) (fun j=>by have:=hj (j+1);rw[qQW] at this;rw[this];congr 1;omega) (by rw[qQE,ho];rfl),List.filterMap_cons,qQA,qQz hk]
  simp
theorem qwa {l:List Int} (hl:l.length≤1000) (m:Nat→Bool):Zt l (q4I l.length m)=some (Q6 m l):=by
 have hlen:(q4I l.length m).length≤1000:=by rw[q6D];exact qR8 (qfP _ _) hl
 have h:=q9T l (by omega) (q4I l.length m) (by omega) (fun y hy=>qd9 hy) (q4I l.length m) 0 [] (by omega) (fun j=>by rw[qQV]) rfl
 unfold Zt
 change Option.bind (zn _ ([],((0:Nat):Int))) _=_
 rw[h,qQx,qQR,qlx]
end
noncomputable section
open Go.RowKit
structure qq8 (n:qb) (s:qd) (l:List qa) (X sub:Nat) (lf:List Int):Prop where
 lt:sub<2 ^ l.length
 sb:sub &&& X=sub
 ex:∃d,d.length=l.length∧q5l d s l n sub∧lf=Q6 X.testBit d
theorem qq8.uniq {n:qb} (h:Rgt n) {l:List qa} (hl:l.length≤10) {s:qd} {X sub:Nat} {lf lf':List Int} (a:qq8 n s l X sub lf) (b:qq8 n s l X sub lf'):lf=lf':=by
 obtain⟨d,h1,h2,rfl⟩:=a.ex
 obtain⟨d',h3,h4,rfl⟩:=b.ex
 rw[qcO (q2Y h hl a.lt) h1 h2 h3 h4]
def q0X (n:qb) (s:qd) (l:List qa) (X:Nat) (P:Nat→Prop) (w:List Int) (f:Bool):Prop:=
 (f=true→(∃sub,P sub∧qq8 n s l X sub w)∧∀sub lf,P sub→qq8 n s l X sub lf→w=lf∨q4H w lf=true)∧
 (f=false→w=[]∧∀sub lf,P sub→¬ qq8 n s l X sub lf)
section
variable {n:qb} {s:qd} {l:List qa} {X:Nat} {P:Nat→Prop} {w:List Int} {f:Bool}
theorem q0X.start (h:∀k,¬ P k):q0X n s l X P [] false:=⟨fun h=>(by cases h),fun _=>⟨rfl,fun sub lf hp=>absurd hp (h sub)⟩⟩
theorem q0X.congr {Q:Nat→Prop} (h:q0X n s l X P w f) (hq:∀k,k<2 ^ l.length→k &&& X=k→(Q k↔P k)):q0X n s l X Q w f:=by
 refine⟨fun hf=>?_,fun hf=>?_⟩
 ·obtain⟨⟨sub,h1,h2⟩,h3⟩:=h.1 hf
  exact⟨⟨sub,(hq _ h2.lt h2.sb).2 h1,h2⟩,fun sub lf hp hc=>h3 sub lf ((hq _ hc.lt hc.sb).1 hp) hc⟩
 ·obtain⟨h1,h2⟩:=h.2 hf
  exact⟨h1,fun sub lf hp hc=>h2 sub lf ((hq _ hc.lt hc.sb).1 hp) hc⟩
theorem q0X.skip (h:q0X n s l X P w f) {sub:Nat} (hno:∀lf,¬ qq8 n s l X sub lf):q0X n s l X (fun k=>P k∨k=sub) w f:=by
 refine⟨fun hf=>?_,fun hf=>?_⟩
 ·obtain⟨⟨sub',h1,h2⟩,h3⟩:=h.1 hf
  refine⟨⟨sub',.inl h1,h2⟩,fun k lf hp hc=>?_⟩
  rcases hp with hp|rfl
  ·exact h3 k lf hp hc
  ·exact absurd hc (hno lf)
 ·obtain⟨h1,h2⟩:=h.2 hf
  refine⟨h1,fun k lf hp hc=>?_⟩
  rcases hp with hp|rfl
  ·exact h2 k lf hp hc
  ·exact hno lf hc
theorem q0X.take (hR:Rgt n) (hl:l.length≤10) (h:q0X n s l X P w f) {sub:Nat} {lf:List Int} (hc:qq8 n s l X sub lf) (hb:f=false∨q4H lf w=true):q0X n s l X (fun k=>P k∨k=sub) lf true:=by
 refine⟨fun _=>⟨⟨sub,.inr rfl,hc⟩,fun k lf2 hp hc2=>?_⟩,fun h=>(by cases h)⟩
 rcases hp with hp|rfl
 ·rcases hb with hf|hlt
  ·exact absurd hc2 ((h.2 hf).2 k lf2 hp)
  ·cases hf:f
   ·exact absurd hc2 ((h.2 hf).2 k lf2 hp)
   ·rcases(h.1 hf).2 k lf2 hp hc2 with e|e
    ·rw[←e];exact .inr hlt
    ·exact .inr (q6L hlt e)
 ·exact .inl (hc.uniq hR hl hc2)
theorem q0X.leave (hR:Rgt n) (hl:l.length≤10) (h:q0X n s l X P w true) {sub:Nat} {lf:List Int} (hc:qq8 n s l X sub lf) (hb:q4H lf w=false):q0X n s l X (fun k=>P k∨k=sub) w true:=by
 obtain⟨⟨sub',h1,h2⟩,h3⟩:=h.1 rfl
 refine⟨fun _=>⟨⟨sub',.inl h1,h2⟩,fun k lf2 hp hc2=>?_⟩,fun h=>(by cases h)⟩
 rcases hp with hp|rfl
 ·exact h3 k lf2 hp hc2
 ·obtain rfl:=hc.uniq hR hl hc2
  rcases q9i w lf with e|e|e
  ·exact .inl e
  ·exact .inr e
  ·rw[hb] at e;cases e
def qGi (n:qb) (s:qd) (l:List qa) (X:Nat) (w:List Int) (f:Bool):Prop:=
 (f=true→Perm n s l X w∧∀lf,Perm n s l X lf→w=lf∨q4H w lf=true)∧(f=false→w=[]∧∀lf,¬ Perm n s l X lf)
theorem q0X.lv (hR:Rgt n) (hl:l.length≤10) (h:q0X n s l X (fun _=>True) w f):qGi n s l X w f:=by
 refine⟨fun hf=>?_,fun hf=>?_⟩
 ·obtain⟨⟨sub,-,hc⟩,h3⟩:=h.1 hf
  obtain⟨d,h1,h2,rfl⟩:=hc.ex
  refine⟨qkN hR hl hc.lt hc.sb h1 h2,fun lf hp=>?_⟩
  obtain⟨sub',d',q1,q2,q3,q4,q5⟩:=qcN hR hl hp
  have h4:=h3 sub' _ trivial ⟨q1,q2,d',q3,q4,rfl⟩
  rcases h4 with e|e
  ·rw[e];exact q5
  ·rcases q5 with q5|q5
   ·rw[←q5];exact .inr e
   ·exact .inr (q6L e q5)
 ·obtain⟨h1,h2⟩:=h.2 hf
  refine⟨h1,fun lf hp=>?_⟩
  obtain⟨sub',d',q1,q2,q3,q4,q5⟩:=qcN hR hl hp
  exact h2 sub' _ trivial ⟨q1,q2,d',q3,q4,rfl⟩
end
end
noncomputable section
open Go.RowKit
theorem qqv {set k:Nat} (hs:set<9223372036854775808) (hk:k≤62):(Zq Go.BinOp.and IntKind.i64 (Int.fdiv (set:Int) ((2:Int) ^ min (Int.toNat (k:Int)) (IntKind.bits IntKind.i64))) (1:Int)==(0:Int)) = !set.testBit k:=by
 rw[qQA,q8l set k (by omega),show(1:Int)=((1:Nat):Int) from rfl,qe4 _ 1 (qR9 (Nat.div_le_self _ _) hs) (by decide),Nat.and_one_is_mod,Nat.testBit_eq_decide_div_mod_eq]
 have:set / 2 ^ k % 2<2:=Nat.mod_lt _ (by decide)
 by_cases e:set / 2 ^ k % 2=1
 ·rw[e];rfl
 ·have e0:set / 2 ^ k % 2=0:=by omega
  rw[e0];rfl
theorem qda {α:Type}:∀(l:List α) (p m:Nat→Bool) (q:α→Bool),(∀k x,l[k]?=some x→p k=(m k&&q x))→Q6 p l=(Q6 m l).filter q
 | [],_,_,_,_=>rfl
 | a::l,p,m,q,h=>by
  have h0:p 0=(m 0&&q a):=h 0 a rfl
  rw[Q6,Q6,List.filter_append,←qda l _ _ q fun k x hk=>h (k+1) x hk,h0]
  congr 1
  cases m 0<;>cases hq:q a<;>simp[hq]
theorem qrU {N sub X:Nat} (h:sub &&& X=sub):q2Q N sub=(q2Q N X).filter fun y=>sub.testBit (Int.toNat y):=by
 unfold q2Q
 refine qda _ _ _ _ fun k x hk=>?_
 have hj:=ZB hk
 rw[zf] at hj
 rw[Zy _ hj] at hk
 injection hk with hk
 subst hk
 rw[qQA]
 cases e:sub.testBit k
 ·simp
 ·rw[q9u h e];rfl
theorem qfU {d:List Int} (hd:d.length≤10) {sub:Nat} (hs:sub<9223372036854775808) (hoff:∀(j:Nat) (y:Int),d[j]?=some y→sub.testBit j=false→y = -1) (w2:List Int) (b0:qg) (b1:qd) (t2:List qa) (t3:List Bool) (t4:Int) (t11:Bool) (M:List Int) (hM:M.length≤10) (hr:∀y∈M,∃k:Nat,k<d.length∧y=(k:Int)) :
  ∀(r:List Int) (i:Nat) (out asg:List Int),r.length+i=M.length→(∀j,r[j]?=M[i+j]?)→out.length=i→asg=r.filterMap (fun y=>if sub.testBit (Int.toNat y)=true then d[Int.toNat y]? else none)→
  zn (Qa w2 b0 b1 t2 t3 t4 t11 (sub:Int) M ((M.length:Nat):Int)) (out,asg,(i:Int))=some (out++r.filterMap fun y=>d[Int.toNat y]?)
 | [],i,out,asg,hi,_,_,_=>by
  have hi:i=M.length:=by simpa using hi
  refine(zg ?_).trans (by rw[List.filterMap_nil,qQS])
  unfold Qa
  dsimp only
  rw[if_neg (by omega)]
 | y::r,i,out,asg,hi,hj,ho,ha=>by
  have hML:100000≤maxLen:=by unfold maxLen;omega
  have hil:i<M.length:=by simp only[qQI] at hi;omega
  have hy:M[i]?=some y:=by have:=hj 0;rw[Nat.add_zero] at this;exact this.symm
  obtain⟨k,hk,rfl⟩:=hr y (qQy hy)
  have hws:w64 ((i:Int)+1)=((i+1:Nat):Int):=Qn (n:=10000) (by omega) (by omega)
  have hb:=qqv (set:=sub) (k:=k) hs (by omega)
  have hdk:d[k]?=some d[k]:=qQz hk
  have next:∀(out' asg':List Int),out'.length=i+1→asg'=r.filterMap (fun y=>if sub.testBit (Int.toNat y)=true then d[Int.toNat y]? else none)→Qa w2 b0 b1 t2 t3 t4 t11 (sub:Int) M ((M.length:Nat):Int) (out,asg,(i:Int))=some (.inl (out',asg',((i+1:Nat):Int)))→out'=out++[d[k]]→
    zn (Qa w2 b0 b1 t2 t3 t4 t11 (sub:Int) M ((M.length:Nat):Int)) (out,asg,(i:Int))=some (out++((k:Int)::r).filterMap fun y=>d[Int.toNat y]?):=fun out' asg' h1 h2 h3 h4=>by
   rw[zM h3,qfU hd hs hoff w2 b0 b1 t2 t3 t4 t11 M hM hr r (i+1) out' asg' (by simp only[qQI] at hi;omega) (fun j=>by have:=hj (j+1);rw[qQW] at this;rw[this];congr 1;omega) h1 h2,List.filterMap_cons,qQA,hdk,h4]
   simp
  cases hbit:sub.testBit k
  ·have hm1:d[k] = -1:=hoff k _ hdk hbit
   refine next (out++[(-(1:Int))]) asg (by rw[qQE,ho];rfl) ?_ ?_ (by rw[hm1])
   ·rw[ha,List.filterMap_cons,qQA,hbit,if_neg (by decide)]
   ·unfold Qa
    dsimp only
    rw[if_pos (by omega),if_pos ⟨by omega,by omega⟩,qQA,hy,qQx,if_pos (by omega),if_pos (by rw[hb,hbit];rfl),if_pos ⟨by omega,by omega⟩,hws]
  ·rw[List.filterMap_cons,qQA,hbit,if_pos rfl,hdk] at ha
   subst ha
   refine next (out++[d[k]]) _ (by rw[qQE,ho];rfl) rfl ?_ rfl
   unfold Qa
   dsimp only
   rw[if_pos (by omega),if_pos ⟨by omega,by omega⟩,qQA,hy,qQx,if_pos (by omega),if_neg (by rw[hb,hbit];decide),if_pos (by simp),qQH,qQx,if_pos ⟨by omega,by omega⟩,if_pos (by simp;omega),hws]
   simp
theorem qg6 {p:qg} (h:Rgt p.Need) {l:List qa} (hl:l.length≤10) (s:qd) {X:Nat} (hX:X<2 ^ l.length) {w:List Int} {f:Bool} (j:Nat) (hj:j≤X) (hw:w.length≤10) (hB:q0X p.Need s l X (fun k=>j+1≤k) w f) :
  ∃w' f',w'.length≤10∧q0X p.Need s l X (fun k=>j≤k) w' f'∧QM p s l (QQ (2 ^ l.length) (Qp [] s l p.Need 0)) (X:Int) (w,f,(j:Int))=some (.inl (w',f',(j:Int)-1)):=by
 have hjlt:j<2 ^ l.length:=by omega
 have h10:(2:Nat) ^ l.length≤1024:=qR8 (Nat.pow_le_pow_right (by decide) hl) (by decide)
 have G:=q2Y h hl hjlt
 have ew:w64 ((j:Int)-1)=(j:Int)-1:=QI (by omega) (by omega)
 have grow:∀{w':List Int} {f':Bool},q0X p.Need s l X (fun k=>j+1≤k∨k=j) w' f'→q0X p.Need s l X (fun k=>j≤k) w' f':=fun hb=>hb.congr fun k _ _=>by omega
 have han:=qd3 j X (by omega) (by omega)
 unfold QM
 dsimp only
 rw[if_pos (by omega),han,ew]
 by_cases hsub:j &&& X=j
 ·rw[if_neg (by rw[hsub,Nat.xor_self];decide),if_pos ⟨by omega,by rw[zf];omega⟩,qQA,Zy _ hjlt,qQx]
  cases hS:Qp [] s l p.Need 0 j
  ·rw[if_pos (by decide)]
   exact⟨w,f,hw,grow (hB.skip fun lf hc=>by
    obtain⟨d,h1,h2,-⟩:=hc.ex
    have:=qb6 G h1 h2
    rw[hS] at this;cases this),rfl⟩
  ·rw[if_neg (by decide)]
   obtain⟨d,h1,h2⟩:=qjk h hl hjlt s hS
   have hM:(q2Q l.length X).length≤10:=by rw[qiu];exact qR8 (qfP _ _) hl
   have hloop:=qfU (d:=d) (by omega) (sub:=j) (by omega) (fun i y hy hb=>by have:=h2.val i y hy;rw[hb,if_neg (by decide)] at this;exact this) w p s l (QQ (2 ^ l.length) (Qp [] s l p.Need 0)) (X:Int) f (q2Q l.length X) hM (fun y hy=>by rw[h1];exact mem_range hy) (q2Q l.length X) 0 [] (Q6 j.testBit d) (by omega) (fun i=>by rw[qQV]) rfl (by
    rw[←qtC d j,h1,qrU hsub,List.filterMap_filter])
   rw[qo5 h hl hjlt s h1 h2,qQx]
   dsimp only
   rw[if_neg (by decide),q2Z (N:=l.length) (by omega) hX,qQx]
   change ∃w' f',_∧_∧Option.bind (zn _ ([],Q6 j.testBit d,((0:Nat):Int))) _=_
   have e1:(q2Q l.length X).filterMap (fun y=>d[Int.toNat y]?)=Q6 X.testBit d:=by rw[←h1];exact qtC d X
   rw[hloop,qQx,qQR,e1]
   have hc:qq8 p.Need s l X j (Q6 X.testBit d):=⟨hjlt,hsub,d,h1,h2,rfl⟩
   have hlen:(Q6 X.testBit d).length≤10:=by have:=q4O d X.testBit;omega
   cases hf:f
   ·rw[if_pos (by decide)]
    exact⟨_,_,hlen,grow (hB.take h hl hc (.inl hf)),rfl⟩
   ·rw[if_neg (by decide),qnK _ _ (by omega),qQx]
    subst hf
    by_cases hlt:qli (Q6 X.testBit d) w<0
    ·rw[if_pos hlt]
     exact⟨_,_,hlen,grow (hB.take h hl hc (.inr ((qdm _ _).1 hlt))),rfl⟩
    ·rw[if_neg hlt]
     exact⟨_,_,hw,grow (hB.leave h hl hc (qQZ.2 fun e=>hlt ((qdm _ _).2 e))),rfl⟩
 ·have hne:((j ^^^ (j &&& X):Nat):Int)≠0:=fun e=>hsub (by
   have h0:j ^^^ (j &&& X)=0:=by omega
   exact Nat.eq_of_testBit_eq fun k=>by
    have h2:(j ^^^ (j &&& X)).testBit k=false:=by rw[h0,Nat.zero_testBit]
    rw[Nat.testBit_xor] at h2
    cases e1:(j &&& X).testBit k<;>cases e2:j.testBit k<;>rw[e1,e2] at h2<;>first|rfl|cases h2)
  rw[if_pos (by simpa using hne)]
  exact⟨w,f,hw,grow (hB.skip fun lf hc=>hsub hc.sb),rfl⟩
theorem qgI {p:qg} (h:Rgt p.Need) {l:List qa} (hl:l.length≤10) (s:qd) {X:Nat} (hX:X<2 ^ l.length) :
  ∃w f,q0A p s l (QQ (2 ^ l.length) (Qp [] s l p.Need 0)) (X:Int)=some (w,f)∧w.length≤10∧qGi p.Need s l X w f:=by
 have h10:(2:Nat) ^ l.length≤1024:=qR8 (Nat.pow_le_pow_right (by decide) hl) (by decide)
 have key:∀(i:Nat),i≤X+1→∀(w:List Int) (f:Bool),w.length≤10→q0X p.Need s l X (fun k=>i≤k) w f→∃w' f',zn (QM p s l (QQ (2 ^ l.length) (Qp [] s l p.Need 0)) (X:Int)) (w,f,(i:Int)-1)=some (w',f')∧w'.length≤10∧qGi p.Need s l X w' f':=by
  intro i
  induction i with
  | zero=>
   intro _ w f hw hB
   refine⟨w,f,zg ?_,hw,(hB.congr fun k _ _=>⟨fun _=>qQX k,fun _=>trivial⟩).lv h hl⟩
   unfold QM
   dsimp only
   rw[if_neg (by decide)]
  | succ i ih=>
   intro hi w f hw hB
   obtain⟨w',f',h1,h2,h3⟩:=qg6 h hl s hX i (by omega) hw hB
   rw[show((i+1:Nat):Int)-1=(i:Int) by omega,zM h3]
   exact ih (by omega) w' f' h1 h2
 obtain⟨w,f,h1,h2,h3⟩:=key (X+1) (qQN _) [] false (qQX _) ((q0X.start (P:=fun _=>False) fun _ h=>h).congr fun k _ hk=>⟨fun h=>by
  have:k≤X:=by rw[←hk];exact Nat.and_le_right
  omega,fun h=>h.elim⟩)
 rw[show((X+1:Nat):Int)-1=(X:Int) by omega] at h1
 unfold q0A
 rw[h1,qQx]
 exact⟨w,f,rfl,h2,h3⟩
end
noncomputable section
open Go.RowKit
section
variable {α ε:Type} {step:Int→Option (Int⊕ε)} (l:List α)
theorem qkd (q:α→Bool) (e0 e1:ε) (hs:∀(i:Nat) (a:α),l[i]?=some a→step (i:Int)=some (if q a=true then .inl ((i+1:Nat):Int) else .inr e0)) (he:step ((l.length:Nat):Int)=some (.inr e1)) :
  zn step (0:Int)=some (if l.all q=true then e1 else e0):=by
 have key:∀(r:List α) (i:Nat),r.length+i=l.length→(∀j,r[j]?=l[i+j]?)→zn step (i:Int)=some (if r.all q=true then e1 else e0):=by
  intro r
  induction r with
  | nil=>
   intro i hi _
   have:i=l.length:=by simpa using hi
   subst this
   exact zg he
  | cons a r ih=>
   intro i hi hj
   have ha:l[i]?=some a:=by have:=hj 0;rw[Nat.add_zero] at this;exact this.symm
   have h1:=hs i a ha
   rw[List.all_cons]
   cases hq:q a
   ·rw[hq,if_neg (by decide)] at h1
    exact zg h1
   ·rw[hq,if_pos rfl] at h1
    rw[zM h1,ih (i+1) (by simp only[qQI] at hi;omega) (fun j=>by have:=hj (j+1);rw[qQW] at this;rw[this];congr 1;omega),qR4]
 exact key l 0 (by omega) fun j=>by rw[qQV]
theorem q8m (q:α→Bool) (mk:Nat→ε) (e1:ε) (hs:∀(i:Nat) (a:α),l[i]?=some a→step (i:Int)=some (if q a=true then .inr (mk i) else .inl ((i+1:Nat):Int))) (he:step ((l.length:Nat):Int)=some (.inr e1)) :
  (l.any q=true∧∃i,zn step (0:Int)=some (mk i))∨(l.any q=false∧zn step (0:Int)=some e1):=by
 have key:∀(r:List α) (i:Nat),r.length+i=l.length→(∀j,r[j]?=l[i+j]?)→(r.any q=true∧∃k,zn step (i:Int)=some (mk k))∨(r.any q=false∧zn step (i:Int)=some e1):=by
  intro r
  induction r with
  | nil=>
   intro i hi _
   have:i=l.length:=by simpa using hi
   subst this
   exact .inr ⟨rfl,zg he⟩
  | cons a r ih=>
   intro i hi hj
   have ha:l[i]?=some a:=by have:=hj 0;rw[Nat.add_zero] at this;exact this.symm
   have h1:=hs i a ha
   rw[List.any_cons]
   cases hq:q a
   ·rw[hq,if_neg (by decide)] at h1
    rw[zM h1,Bool.false_or]
    exact ih (i+1) (by simp only[qQI] at hi;omega) (fun j=>by have:=hj (j+1);rw[qQW] at this;rw[this];congr 1;omega)
   ·rw[hq,if_pos rfl] at h1
    exact .inl ⟨rfl,i,zg h1⟩
 exact key l 0 (by omega) fun j=>by rw[qQV]
end
theorem q2N {i n:Nat} (h:i<n) (hn:n≤1000000):w64 ((i:Int)+1)=((i+1:Nat):Int):=Qn h (by omega)
theorem q9V (s:List Int) (hs:s.length≤1000000) (v:Int):Ql s v=some (s.any fun x=>v==x):=by
 have h:=q8m (step:=Qk s v ((s.length:Nat):Int)) s (fun x=>v==x) (fun i => .inl (i:Int)) (.inr ()) (fun i a ha=>by
  have hi:=ZB ha
  unfold Qk
  rw[if_pos (by omega),if_pos ⟨by omega,by omega⟩,qQA,ha,qQx,q2N hi hs]
  split<;>rfl) (by
  unfold Qk
  rw[if_neg (by omega)])
 unfold Ql Jk
 rcases h with ⟨h1,i,h2⟩|⟨h1,h2⟩
 ·rw[h2,qQx,Sum.elim_inl,qQx,h1,qRy (by omega)]
 ·rw[h2,qQx,Sum.elim_inr,qQx,h1,decide_eq_false (by omega)]
def qh9 (a b:List Int):Bool:=a.any fun x=>b.any fun y=>x==y
theorem quN (a b:List Int) (ha:a.length≤1000000) (hb:b.length≤1000000):Je a b=some (qh9 a b):=by
 have h:=q8m (step:=zH b a ((a.length:Nat):Int)) a (fun x=>b.any fun y=>x==y) (fun i => .inl (i:Int)) (.inr ()) (fun i x hx=>by
  have hi:=ZB hx
  unfold zH q0m
  rw[if_pos (by omega),if_pos ⟨by omega,by omega⟩,qQA,hx,qQx,q9V b hb,qQx,qQx,q2N hi ha]
  split<;>rfl) (by
  unfold zH
  rw[if_neg (by omega)])
 unfold Je QF Z9 qh9
 rcases h with ⟨h1,i,h2⟩|⟨h1,h2⟩
 ·rw[h2,qQx,Sum.elim_inl,qQx,h1,qRy (by omega),qQx]
 ·rw[h2,qQx,Sum.elim_inr,qQx,h1,decide_eq_false (by omega),qQx]
theorem qgk (a b:List Int) (ha:a.length≤1000000):QN a b=some (decide (a=b)):=by
 unfold QN
 by_cases hl:a.length=b.length
 ·rw[if_neg (by rw[hl];simp)]
  have key:∀(r q:List Int) (i:Nat),r.length+i=a.length→q.length=r.length→(∀j,r[j]?=a[i+j]?)→(∀j,q[j]?=b[i+j]?)→zn (zZ a b ((a.length:Nat):Int)) (i:Int)=some (if r=q then .inr () else .inl ()):=by
   intro r
   induction r with
   | nil=>
    intro q i hi hq _ _
    obtain rfl:=qQQ hq
    have hi:i=a.length:=by simpa using hi
    refine zg ?_
    unfold zZ
    rw[if_neg (by omega),if_pos rfl]
   | cons x r ih=>
    intro q i hi hq hr hb
    cases q with
    | nil=>cases hq
    | cons y q=>
     simp only[qQI] at hi hq
     have hx:a[i]?=some x:=by have:=hr 0;rw[Nat.add_zero] at this;exact this.symm
     have hy:b[i]?=some y:=by have:=hb 0;rw[Nat.add_zero] at this;exact this.symm
     have e:zZ a b ((a.length:Nat):Int) (i:Int)=some (if(x != y)=true then .inr (.inl ()) else .inl ((i+1:Nat):Int)):=by
      unfold zZ
      rw[if_pos (by omega),if_pos ⟨by omega,by omega⟩,qQA,hx,qQx,if_pos ⟨by omega,by omega⟩,hy,qQx,q2N (ZB hx) ha]
      split<;>rfl
     by_cases hxy:x=y
     ·subst hxy
      rw[if_neg (by simp)] at e
      rw[zM e,ih q (i+1) (by omega) (by omega) (fun j=>by have:=hr (j+1);rw[qQW] at this;rw[this];congr 1;omega) (fun j=>by have:=hb (j+1);rw[qQW] at this;rw[this];congr 1;omega)]
      simp
     ·rw[if_pos (by simpa using hxy)] at e
      rw[zg e,if_neg (fun h=>hxy (by injection h))]
  have h:=key a b 0 (by omega) hl.symm (fun j=>by rw[qQV]) (fun j=>by rw[qQV])
  change Option.bind (zn _ ((0:Nat):Int)) _=_
  rw[h,qQx]
  by_cases e:a=b
  ·rw[if_pos e,Sum.elim_inr,qRy e]
  ·rw[if_neg e,Sum.elim_inl,decide_eq_false e]
 ·rw[if_pos (by simpa using fun h=>hl (by omega)),decide_eq_false (fun e=>hl (by rw[e]))]
def q1b (a:qa):Prop:=a.Sources.length≤1000∧a.Path.length≤1000
def q7Q (a b:qa):Bool := !ceq a.Course b.Course&&((decide (0<a.Bundle)&&a.Bundle==b.Bundle&&decide (a.Path=b.Path)) || !qh9 a.Sources b.Sources)
theorem qsC {a b:qa} (ha:q1b a) (hb:q1b b):q2v a b=some (q7Q a b):=by
 have h1:=ha.1;have h2:=ha.2;have h3:=hb.1
 unfold q2v q7Q
 rw[qgk _ _ (by omega),quN _ _ (by omega) (by omega)]
 simp only[qQx]
 by_cases hc:ceq a.Course b.Course=true
 ·rw[if_pos (by unfold ceq at hc;rw[qR3] at hc;exact hc),hc];rfl
 ·rw[if_neg (by unfold ceq at hc;rw[qR3] at hc;exact hc),qQZ.2 hc]
  by_cases h0:0<a.Bundle
  ·rw[if_pos h0,qRy h0]
   cases hbd:a.Bundle==b.Bundle
   ·rw[if_neg (by decide)];simp
   ·rw[if_pos rfl]
    cases hp:decide (a.Path=b.Path)
    ·rw[if_neg (by decide)];simp
    ·rw[if_pos rfl];simp
  ·rw[if_neg h0,decide_eq_false h0];simp
def qhs (v a:q0u qe):Bool:=ceq v.a0 a.a0&&ceq v.a1 a.a1
theorem q6c (s:List (q0u qe)) (hs:s.length≤1000000) (v:q0u qe):qG s v=some (s.any (qhs v)):=by
 have h:=q8m (step:=qN v s ((s.length:Nat):Int)) s (qhs v) (fun i => .inl (i:Int)) (.inr ()) (fun i a ha=>by
  have hi:=ZB ha
  unfold qN
  rw[if_pos (by omega),if_pos ⟨by omega,by omega⟩,qQA,ha,qQx,q2N hi hs]
  have e:(((v.a0.School==a.a0.School)=true∧(v.a0.Code.toList==a.a0.Code.toList)=true)∧(v.a1.School==a.a1.School)=true∧(v.a1.Code.toList==a.a1.Code.toList)=true)↔qhs v a=true:=by
   unfold qhs ceq;simp only[qR3]
  by_cases hq:qhs v a=true
  ·rw[if_pos (e.2 hq),if_pos hq]
  ·rw[if_neg (fun h=>hq (e.1 h)),if_neg hq]) (by
  unfold qN
  rw[if_neg (by omega)])
 unfold qG zS
 rcases h with ⟨h1,i,h2⟩|⟨h1,h2⟩
 ·rw[h2,qQx,Sum.elim_inl,qQx,h1,qRy (by omega)]
 ·rw[h2,qQx,Sum.elim_inr,qQx,h1,decide_eq_false (by omega)]
def q5t (p:qg) (a b:qa):Bool:=q7Q a b && !p.Exclude.any (qhs ⟨a.Course,b.Course⟩) && !p.Exclude.any (qhs ⟨b.Course,a.Course⟩)
theorem qqU (p:qg) (hp:p.Exclude.length≤1000) (a:qa) (ha:q1b a) (t1:List qa) (t2 t7:Int) (t12:List qa) (t13 t14:Int) (l:List qa) (hl:l.length≤1000) (hf:∀b∈l,q1b b) :
  zn (Zk p a t1 t2 t7 t12 t13 t14 l ((l.length:Nat):Int)) (0:Int)=some (if l.all (q5t p a)=true then .inr () else .inl ()):=by
 refine qkd l (q5t p a) _ _ (fun i b hb=>?_) ?_
 ·have hi:=ZB hb
  unfold Zk
  rw[if_pos (by omega),if_pos ⟨by omega,by omega⟩,qQA,hb,qQx,qsC ha (hf b (qQy hb)),qQx,q6c _ (by omega),q6c _ (by omega),q2N hi (by omega)]
  unfold q5t
  simp only[qQx]
  cases q7Q a b
  ·simp
  ·cases p.Exclude.any (qhs ⟨a.Course,b.Course⟩)
   ·cases p.Exclude.any (qhs ⟨b.Course,a.Course⟩)<;>simp
   ·simp
 ·unfold Zk
  rw[if_neg (by omega)]
def qaV (p:qg) (a:qa) (day:Int):Bool:=(Jp p a day).getD false
theorem qpk (d:Int):∃v,q1W d=some v:=by
 have h:∀n,∃v,q0S n 100=some v:=fun n=>by
  unfold q0S
  rw[if_neg (by decide),if_neg (by decide),if_neg (by decide)]
  exact⟨_,rfl⟩
 unfold q1W
 split
 ·obtain⟨v,hv⟩:=h (w64 (d+100));rw[hv];exact⟨_,rfl⟩
 ·obtain⟨v,hv⟩:=h d;rw[hv];exact⟨_,rfl⟩
theorem qp1 (p:qg) (a:qa) (day:Int):Jp p a day=some (qaV p a day):=by
 obtain⟨v,hv⟩:=qpk day
 obtain⟨w,hw⟩:=qpk a.Day
 have:∃b,Jp p a day=some b:=by
  unfold Jp
  rw[hv,hw]
  split<;>exact⟨_,rfl⟩
 obtain⟨b,hb⟩:=this
 unfold qaV
 rw[hb];rfl
def qh6 (p:qg) (o:Int) (a:qa):Int:=if a.Course.School=p.School∧a.Bundle=0 then w64 (o+a.Credits) else o
def tgL (p:qg) (day:Int):List qa→List qa→Bool
 | _,[]=>true
 | done,a::r => !qaV p a day&&done.all (q5t p a)&&tgL p day (done++[a]) r
def qxZ (l:List qa):Int:=l.foldl (fun n a=>w64 (n+a.Credits)) 0
def qg9 (p:qg) (l:List qa) (day:Int):Bool:=tgL p day [] l&&decide (p.Total≤qxZ l)&&decide (p.Own≤l.foldl (qh6 p) 0)
theorem qkL (l:List qa) (hl:l.length≤1000):q1a l=some (qxZ l):=by
 have h:=q9a (step:=Jb l ((l.length:Nat):Int)) l (fun(b:Int) k=>(b,(k:Int))) (fun b a=>w64 (b+a.Credits)) (fun b=>b) (fun b k a ha=>by
  have hi:=ZB ha
  unfold Jb
  dsimp only
  rw[if_pos (by omega),if_pos ⟨by omega,by omega⟩,qQA,ha,qQx,q2N hi (by omega)]) (fun b=>by
  unfold Jb
  dsimp only
  rw[if_neg (by omega)]) 0
 unfold q1a
 change Option.bind (zn _ ((0:Int),((0:Nat):Int))) _=_
 rw[h];rfl
theorem qiD (p:qg) (hp:p.Exclude.length≤1000) (day:Int) (l:List qa) (hl:l.length≤1000) (hf:∀b∈l,q1b b):∀(r:List qa) (i:Nat) (o:Int),r.length+i=l.length→l.take i++r=l→
  ∃e,zn (QJ p l day l ((l.length:Nat):Int)) (o,(i:Int))=some e∧(tgL p day (l.take i) r=true→e = .inr (r.foldl (qh6 p) o))∧(tgL p day (l.take i) r=false→∃x,e = .inl x)
 | [],i,o,hi,_=>by
  have hi:i=l.length:=by simpa using hi
  refine⟨.inr o,zg ?_,fun _=>rfl,fun h=>by rw[tgL] at h;cases h⟩
  unfold QJ
  dsimp only
  rw[if_neg (by omega)]
 | a::r,i,o,hi,hr=>by
  have hil:i<l.length:=by simp only[qQI] at hi;omega
  have ha:l[i]?=some a:=by
   rw[←hr,qRa (by rw[qR0];omega),qR0,Nat.min_eq_left (by omega),Nat.sub_self];rfl
  have hmem:a∈l:=qQy ha
  have htk:l.take i++[a]=l.take (i+1):=by rw[List.take_add_one,ha];rfl
  have hpre:(l.take i).length≤1000:=by rw[qR0];omega
  have hpr:=qqU p hp a (hf a hmem) l day o l ((l.length:Nat):Int) (i:Int) (l.take i) hpre (fun b hb=>hf b (List.mem_of_mem_take hb))
  have step:QJ p l day l ((l.length:Nat):Int) (o,(i:Int))=some (if qaV p a day=true then .inr (.inl o) else if(l.take i).all (q5t p a)=true then .inl (qh6 p o a,((i+1:Nat):Int)) else .inr (.inl o)):=by
   unfold QJ
   dsimp only
   rw[if_pos (by omega),if_pos ⟨by omega,by omega⟩,qQA,ha,qQx,qp1,qQx]
   by_cases hold:qaV p a day=true
   ·rw[if_pos hold,if_pos hold]
   ·rw[if_neg hold,if_neg hold,if_pos ⟨by omega,by omega⟩,qRq,hpr,qQx,q2N hil (by omega)]
    by_cases hall:(l.take i).all (q5t p a)=true
    ·rw[if_pos hall,if_pos hall,Sum.elim_inr]
     unfold qh6
     by_cases h1:a.Course.School=p.School
     ·by_cases h2:a.Bundle=0
      ·rw[if_pos (by simpa using h1),if_pos (by simpa using h2),if_pos ⟨h1,h2⟩]
      ·rw[if_pos (by simpa using h1),if_neg (by simpa using h2),if_neg (fun h=>h2 h.2)]
     ·rw[if_neg (by simpa using h1),if_neg (fun h=>h1 h.1)]
    ·rw[if_neg hall,if_neg hall,Sum.elim_inl]
  rw[tgL]
  by_cases hold:qaV p a day=true
  ·rw[if_pos hold] at step
   exact⟨_,zg step,fun h=>by rw[hold] at h;simp at h,fun _=>⟨_,rfl⟩⟩
  ·rw[if_neg hold] at step
   by_cases hall:(l.take i).all (q5t p a)=true
   ·rw[if_pos hall] at step
    obtain⟨e,h1,h2,h3⟩:=qiD p hp day l hl hf r (i+1) (qh6 p o a) (by simp only[qQI] at hi;omega) (by rw[←htk,qRd];exact hr)
    refine⟨e,(zM step).trans h1,?_,?_⟩
    ·rw[qQZ.2 hold,hall,htk];exact h2
    ·rw[qQZ.2 hold,hall,htk];exact h3
   ·rw[if_neg hall] at step
    exact⟨_,zg step,fun h=>by rw[qQZ.2 hall] at h;simp at h,fun _=>⟨_,rfl⟩⟩
theorem qzH (p:qg) (hp:p.Exclude.length≤1000) (l:List qa) (hl:l.length≤1000) (hf:∀b∈l,q1b b) (day:Int):JH p l day=some (qg9 p l day):=by
 obtain⟨e,h1,h2,h3⟩:=qiD p hp day l hl hf l 0 0 (by omega) rfl
 unfold JH qg9
 change Option.bind (zn _ ((0:Int),((0:Nat):Int))) _=_
 rw[h1,qQx]
 rw[List.take_zero] at h2 h3
 cases ht:tgL p day [] l
 ·obtain⟨x,rfl⟩:=h3 ht
  rw[Sum.elim_inl];rfl
 ·rw[h2 ht,Sum.elim_inr,qkL l hl,qQx,qR4]
  by_cases hc:p.Total≤qxZ l
  ·rw[if_pos hc,qRy hc,qR4]
  ·rw[if_neg hc,decide_eq_false hc,qRA]
end
noncomputable section
open Go.RowKit
theorem qB0 {l:List qa} (hl:l.length≤16):2 ^ l.length≤65536:=qR8 (Nat.pow_le_pow_right (by decide) hl) (by decide)
theorem qCn {l:List qa} (hl:l.length≤16):w64 ((1:Int)*(2:Int) ^ min l.length (IntKind.bits IntKind.i64))=((2 ^ l.length:Nat):Int):=by
 have:=qB0 hl
 have h1:1≤2 ^ l.length:=Nat.one_le_two_pow
 rw[show min l.length (IntKind.bits IntKind.i64)=l.length from Nat.min_eq_left (by show l.length≤64;omega),Int.one_mul,show((2:Int) ^ l.length)=((2 ^ l.length:Nat):Int) by simp]
 exact QI (by omega) (by omega)
def mO (p:qg) (day:Int) (l:List qa) (k:Nat):Bool:=match l[k]? with
 | some a => !qaV p a day
 | none=>false
theorem qgf (p:qg) (s:qd) (day b4:Int) (l:List qa) (hl:l.length≤1000):∀(j i:Nat) (w:List Int),j+i=l.length→w=Q6 (mO p day l) (QQ i fun i=>(i:Int))→
  zn (QL p s day b4 l l ((l.length:Nat):Int)) (w,(i:Int))=some (q4I l.length (mO p day l))
 | 0,i,w,hi,hw=>by
  have hi:i=l.length:=by omega
  subst hi hw
  refine zg ?_
  unfold QL
  dsimp only
  rw[if_neg (by omega)];rfl
 | j+1,i,w,hi,hw=>by
  have hML:100000≤maxLen:=by unfold maxLen;omega
  have hil:i<l.length:=by omega
  have ha:l[i]?=some l[i]:=qQz hil
  have hwl:w.length≤i:=by rw[hw];have:=q4O (QQ i fun i=>(i:Int)) (mO p day l);rw[zf] at this;exact this
  have step:QL p s day b4 l l ((l.length:Nat):Int) (w,(i:Int))=some (.inl (w++(if mO p day l i=true then[(i:Int)] else[]),((i+1:Nat):Int))):=by
   have hm:mO p day l i = !qaV p l[i] day:=by unfold mO;rw[ha]
   unfold QL
   dsimp only
   rw[if_pos (by omega),if_pos ⟨by omega,by omega⟩,qQA,ha,qQx,qp1,qQx,q2N hil (by omega),hm]
   cases qaV p l[i] day
   ·rw[if_pos (by decide),if_pos ⟨by omega,by omega⟩,if_pos (by decide)]
   ·rw[if_neg (by decide),if_neg (by decide),qQS]
  rw[zM step]
  refine qgf p s day b4 l hl j (i+1) _ (by omega) ?_
  rw[qbo,q5I,zf,hw]
theorem qnN (p:qg) (s:qd) (day b5:Int) (b6:List Int) (b7:List qa) (b8:List Bool) (b9:Int) {N:Nat} (hN:N≤1024):zn (Qy p s day b5 b6 b7 b8 b9 ((N:Nat):Int)) ([],(0:Int))=some (QQ N fun i=>(i:Int)):=by
 have hML:100000≤maxLen:=by unfold maxLen;omega
 exact q2h (step:=Qy p s day b5 b6 b7 b8 b9 ((N:Nat):Int)) (fun i=>(QQ i (fun i=>(i:Int)),(i:Int))) 0 N (qQX _) (fun i _ hi=>by
  unfold Qy
  dsimp only
  rw[if_pos (by omega),if_pos (by rw[zf];exact⟨by omega,by omega⟩),qbo,q2N hi (by omega)]) (by
  unfold Qy
  dsimp only
  rw[if_neg (by omega)])
structure Grd (p:qg) (l:List qa):Prop where
 rgt:Rgt p.Need
 exc:p.Exclude.length≤1000
 fit:∀b∈l,q1b b
theorem Grd.sel {p:qg} {l:List qa} (h:Grd p l) (m:Nat→Bool):Grd p (Q6 m l):=⟨h.rgt,h.exc,fun b hb=>h.fit b (qc5 _ _ _ hb)⟩
theorem qsk {p:qg} {all:List qa} (h:Grd p all) (hl:all.length≤10) (s:qd) (day b5:Int) {at0:List Int} (ha:at0.length=all.length) {X:Nat} (hX:X<2 ^ all.length) :
  ∃r,Jd (X:Int) p s day b5 at0 all (QQ (2 ^ all.length) (Qp [] s all p.Need 0))=some r∧
   ((r = .inl ()∧∀lf,qg9 p (Q6 X.testBit all) day=true→¬ Perm p.Need s all X lf)∨
     (∃w,r = .inr ⟨Q6 X.testBit at0,w⟩∧qg9 p (Q6 X.testBit all) day=true∧Perm p.Need s all X w∧∀lf,Perm p.Need s all X lf→w=lf∨q4H w lf=true)):=by
 obtain⟨w,f,h1,h2,h3⟩:=qgI h.rgt hl s hX
 have hs:=q4O all X.testBit
 unfold Jd
 rw[q2Z (N:=all.length) (by omega) hX,qQx]
 have hp:zq all (q2Q all.length X)=some (Q6 X.testBit all):=qpf (by omega) X.testBit
 have hi:Zt at0 (q2Q all.length X)=some (Q6 X.testBit at0):=by rw[←ha];exact qwa (by omega) X.testBit
 rw[hp,qQx,qzH p h.exc _ (by omega) (h.sel _).fit,qQx]
 cases ht:qg9 p (Q6 X.testBit all) day
 ·exact⟨_,rfl,.inl ⟨rfl,fun lf h=>by cases h⟩⟩
 ·rw[if_neg (by decide),h1,qQx]
  dsimp only
  cases hf:f
  ·rw[if_neg (by decide)]
   exact⟨_,rfl,.inl ⟨rfl,fun lf _=>(h3.2 hf).2 lf⟩⟩
  ·rw[if_pos rfl,hi,qQx]
   exact⟨_,rfl,.inr ⟨w,rfl,rfl,(h3.1 hf).1,(h3.1 hf).2⟩⟩
structure qoc (p:qg) (s:qd) (all:List qa) (day:Int) (X:Nat) (w:List Int):Prop where
 lt:X<2 ^ all.length
 tog:qg9 p (Q6 X.testBit all) day=true
 perm:Perm p.Need s all X w
 min:∀Y lf,Y<2 ^ all.length→qg9 p (Q6 Y.testBit all) day=true→Perm p.Need s all Y lf→slL (q2Q all.length X) (q2Q all.length Y)=true∨(X=Y∧(w=lf∨q4H w lf=true))
theorem qmf {p:qg} {all:List qa} (h:Grd p all) (hl:all.length≤10) (s:qd) (day b5 b9:Int) {at0:List Int} (ha:at0.length=all.length) :
  ∃r,zn (Qh p s day b5 at0 all (QQ (2 ^ all.length) (Qp [] s all p.Need 0)) b9 (msL all.length) (((msL all.length).length:Nat):Int)) (0:Int)=some r∧
   ((r = .inr ()∧∀Y lf,Y<2 ^ all.length→qg9 p (Q6 Y.testBit all) day=true→¬ Perm p.Need s all Y lf)∨(∃X w,r = .inl ⟨Q6 X.testBit at0,w⟩∧qoc p s all day X w)):=by
 obtain⟨-,hpw,hmem⟩:=qAi hl
 have h10:(2:Nat) ^ all.length≤1024:=qR8 (Nat.pow_le_pow_right (by decide) hl) (by decide)
 have hlen:(msL all.length).length≤1024:=by unfold msL;rw[q4l,zf];exact h10
 have key:∀(r pre:List Int),pre++r=msL all.length→(∀y∈pre,∀(Y:Nat) (lf:List Int),y=(Y:Int)→qg9 p (Q6 Y.testBit all) day=true→¬ Perm p.Need s all Y lf)→
   ∃q,zn (Qh p s day b5 at0 all (QQ (2 ^ all.length) (Qp [] s all p.Need 0)) b9 (msL all.length) (((msL all.length).length:Nat):Int)) ((pre.length:Nat):Int)=some q∧
   ((q = .inr ()∧∀Y lf,Y<2 ^ all.length→qg9 p (Q6 Y.testBit all) day=true→¬ Perm p.Need s all Y lf)∨(∃X w,q = .inl ⟨Q6 X.testBit at0,w⟩∧qoc p s all day X w)):=by
  intro r
  induction r with
  | nil=>
   intro pre hpre hbad
   rw[qQS] at hpre
   refine⟨.inr (),zg ?_,.inl ⟨rfl,fun Y lf hY=>hbad (Y:Int) (by rw[hpre];exact(hmem _).2 ⟨Y,hY,rfl⟩) Y lf rfl⟩⟩
   unfold Qh
   rw[hpre,if_neg (by omega)]
  | cons x r ih=>
   intro pre hpre hbad
   have hx:(msL all.length)[pre.length]?=some x:=by rw[←hpre,qRa (qQN _),Nat.sub_self];rfl
   have hlt:=ZB hx
   obtain⟨X,hX,rfl⟩:=(hmem x).1 (qQy hx)
   obtain⟨q,h1,h2⟩:=qsk h hl s day b5 ha hX
   have step:Qh p s day b5 at0 all (QQ (2 ^ all.length) (Qp [] s all p.Need 0)) b9 (msL all.length) (((msL all.length).length:Nat):Int) ((pre.length:Nat):Int)=some (Sum.elim (fun _ => .inl ((pre.length+1:Nat):Int)) (fun u => .inr (.inl u)) q):=by
    unfold Qh
    rw[if_pos (by omega),if_pos ⟨by omega,by omega⟩,qQA,hx,qQx,h1,qQx,q2N hlt (by omega)]
    cases q<;>rfl
   rcases h2 with ⟨rfl,hno⟩|⟨w,rfl,ht,hp,hmin⟩
   ·rw[Sum.elim_inl] at step
    rw[zM step]
    have:=ih (pre++[(X:Int)]) (by rw[qRd];exact hpre) (fun y hy Y lf e=>by
     rcases qR1.1 hy with hy|hy
     ·exact hbad y hy Y lf e
     ·have:=qRo.1 hy
      obtain rfl:X=Y:=by omega
      exact hno lf)
    rw[qQE] at this
    exact this
   ·rw[Sum.elim_inr] at step
    refine⟨_,zg step,.inr ⟨X,w,rfl,hX,ht,hp,fun Y lf hY hty hpy=>?_⟩⟩
    have hYm:(Y:Int)∈pre++(X:Int)::r:=by rw[hpre];exact(hmem _).2 ⟨Y,hY,rfl⟩
    rcases qR1.1 hYm with hy|hy
    ·exact absurd hpy (hbad (Y:Int) hy Y lf rfl hty)
    ·rcases qQT.1 hy with e|hy
     ·obtain rfl:Y=X:=by omega
      exact .inr ⟨rfl,hmin lf hpy⟩
     ·rw[←hpre,List.pairwise_append] at hpw
      have:=(List.pairwise_cons.1 hpw.2.1).1 (Y:Int) hy
      rw[qQA,qQA] at this
      exact .inl this
 exact key (msL all.length) [] rfl (fun y hy=>by cases hy)
theorem qnE {p:qg} {l:List qa} (h:Grd p l) (hl:l.length≤1000) (s:qd) (hck:Zx p s=some 0) (day:Int) :
  (10<(Q6 (mO p day l) l).length∧Qi p s l day=some (⟨[],[]⟩,2))∨
  ((Q6 (mO p day l) l).length≤10∧Qi p s l day=some (⟨[],[]⟩,31)∧∀Y lf,Y<2 ^ (Q6 (mO p day l) l).length→qg9 p (Q6 Y.testBit (Q6 (mO p day l) l)) day=true→¬ Perm p.Need s (Q6 (mO p day l) l) Y lf)∨
  ((Q6 (mO p day l) l).length≤10∧∃X w,Qi p s l day=some (⟨Q6 X.testBit (q4I l.length (mO p day l)),w⟩,0)∧qoc p s (Q6 (mO p day l) l) day X w):=by
 have hat:=qgf p s day 0 l hl l.length 0 [] (by omega) rfl
 have hlen:(q4I l.length (mO p day l)).length=(Q6 (mO p day l) l).length:=by rw[q6D,q41]
 unfold Qi
 rw[hck,qQx,if_neg (by decide)]
 change (_∧Option.bind (zn _ ([],((0:Nat):Int))) _=_)∨(_∧Option.bind (zn _ ([],((0:Nat):Int))) _=_∧_)∨(_∧∃X w,Option.bind (zn _ ([],((0:Nat):Int))) _=_∧_)
 rw[hat,qQx,hlen]
 by_cases h10:10<(Q6 (mO p day l) l).length
 ·rw[if_pos (by omega)]
  exact .inl ⟨h10,rfl⟩
 ·right
  rw[if_neg (by omega),qpf hl,qQx,qe6 h.rgt s _ (by omega),qQx]
  dsimp only
  rw[if_neg (by decide)]
  have hN:(Q6 (mO p day l) l).length≤10:=by omega
  have hp10:(2:Nat) ^ (Q6 (mO p day l) l).length≤1024:=qR8 (Nat.pow_le_pow_right (by decide) hN) (by decide)
  obtain⟨hok,-,-⟩:=qAi hN
  obtain⟨r,h1,h2⟩:=qmf (h.sel (mO p day l)) hN s day 0 (((Q6 (mO p day l) l).length:Nat):Int) hlen
  have hm:q08 p s day 0 (q4I l.length (mO p day l)) (Q6 (mO p day l) l) (QQ (2 ^ (Q6 (mO p day l) l).length) (Qp [] s (Q6 (mO p day l) l) p.Need 0)) (((Q6 (mO p day l) l).length:Nat):Int)=some r:=by
   unfold q08
   rw[if_pos (by omega),qQA,qCn (by omega),qnN _ _ _ _ _ _ _ _ hp10,qQx,if_pos (by rw[zf];exact⟨Nat.two_pow_pos _,by omega,hok⟩)]
   change Option.bind (zn (Qh p s day 0 _ _ _ _ (msL (Q6 (mO p day l) l).length) (((msL (Q6 (mO p day l) l).length).length:Nat):Int)) 0) _=_
   rw[h1,qQx]
   cases r<;>rfl
  rw[hm,qQx]
  rcases h2 with ⟨rfl,hno⟩|⟨X,w,rfl,hL⟩
  ·exact .inl ⟨hN,rfl,hno⟩
  ·exact .inr ⟨hN,X,w,rfl,hL⟩
end
noncomputable section
open Go.RowKit
def okG (N:Nat):Int→List Int→Bool
 | _,[]=>true
 | p,y::r=>decide (p<y)&&decide (0≤y)&&decide (y<(N:Int))&&okG N y r
theorem qgZ {N:Nat}:∀{r:List Int} {p:Int},okG N p r=true→∀y∈r,∃k:Nat,k<N∧y=(k:Int)
 | [],_,_,y,h=>by cases h
 | x::r,p,h,y,hy=>by
  rw[okG,qR3,qR3,qR3,qRx,qRx,qRx] at h
  rcases qQT.1 hy with rfl|hy
  ·exact⟨y.toNat,by omega,by omega⟩
  ·exact qgZ h.2 y hy
def q6R (l:List qa) (T:List Int):List qa:=T.filterMap fun y=>l[Int.toNat y]?
theorem qb2 {l:List qa}:∀{T:List Int} {p:Int},okG l.length p T=true→(q6R l T).length=T.length
 | [],_,_=>rfl
 | x::r,p,h=>by
  obtain⟨k,hk,rfl⟩:=qgZ h x qQM
  rw[okG,qR3] at h
  unfold q6R
  rw[List.filterMap_cons,qQA,qQz hk]
  show((q6R l r).length+1)=_
  rw[qb2 h.2];rfl
end
noncomputable section
open Go.RowKit
theorem qcZ {N:Nat}:∀{r:List Int} {p:Int},okG N p r=true→∀y∈r,p<y
 | [],_,_,y,h=>by cases h
 | x::r,p,h,y,hy=>by
  rw[okG,qR3,qR3,qR3,qRx] at h
  rcases qQT.1 hy with rfl|hy
  ·exact h.1.1.1
  ·have:=qcZ h.2 y hy
   have:=h.1.1.1
   omega
theorem q3G {N:Nat} {x p:Int} {r:List Int} (h:okG N p (x::r)=true):okG N x r=true:=by
 rw[okG,qR3] at h;exact h.2
theorem qjp {N:Nat}:∀{A B:List Int} {p q:Int},okG N p A=true→okG N q B=true→(∀y,y∈A↔y∈B)→A=B
 | [],[],_,_,_,_,_=>rfl
 | [],y::B,_,_,_,_,h=>by cases(h y).2 qQM
 | x::A,[],_,_,_,_,h=>by cases(h x).1 qQM
 | x::A,y::B,p,q,hA,hB,h=>by
  have e:x=y:=by
   rcases qQT.1 ((h x).1 qQM) with e|e
   ·exact e
   ·rcases qQT.1 ((h y).2 qQM) with e2|e2
    ·exact e2.symm
    ·have h1:=qcZ (q3G hB) x e
     have h2:=qcZ (q3G hA) y e2
     omega
  subst e
  rw[qjp (q3G hA) (q3G hB) fun z=>⟨fun hz=>?_,fun hz=>?_⟩]
  ·rcases qQT.1 ((h z).1 (qQF _ hz)) with e|e
   ·have:=qcZ (q3G hA) z hz;omega
   ·exact e
  ·rcases qQT.1 ((h z).2 (qQF _ hz)) with e|e
   ·have:=qcZ (q3G hB) z hz;omega
   ·exact e
theorem qxD {N:Nat} (m:Nat→Bool):∀(j k:Nat) (p:Int),k+j≤N→p<(k:Int)→okG N p (Q6 m (QQ j fun i=>((k+i:Nat):Int)))=true:=by
 intro j
 induction j generalizing m with
 | zero=>intro k p _ _;rfl
 | succ j ih=>
  intro k p hk hp
  rw[qfG,Q6]
  have e2:(fun i=>((k+(i+1):Nat):Int))=fun i=>((k+1+i:Nat):Int):=funext fun i=>by rw[Nat.add_right_comm,qRr]
  rw[e2]
  cases m 0
  ·rw[if_neg (by decide),qQR]
   exact ih _ (k+1) p (by omega) (by omega)
  ·rw[if_pos rfl,qRE,okG,ih _ (k+1) _ (by omega) (by rw[Nat.add_zero];omega),qRy (by rw[Nat.add_zero];exact hp),qRy (by omega),qRy (by omega)]
   rfl
theorem q80 (N:Nat) (m:Nat→Bool):okG N (-1) (q4I N m)=true:=by
 have:=qxD (N:=N) m N 0 (-1) (by omega) (by omega)
 simp only[qQV] at this
 exact this
theorem qij (N:Nat) (m q:Nat→Bool):∃m',Q6 q (q4I N m)=q4I N m':=⟨_,q8h _ _ _⟩
def qK2 {α:Type} (f:α→Bool) (o:Option α):Bool:=(o.map f).getD false
theorem qih {α:Type} (f:α→Bool):∀l:List α,Q6 (fun j=>qK2 f l[j]?) l=l.filter f
 | []=>rfl
 | a::l=>by
  rw[Q6]
  have:=qih f l
  simp only[qQW]
  rw[this,List.filter_cons]
  show(if f a=true then[a] else[])++_=_
  cases f a<;>rfl
theorem qxN {α β:Type} {f:α→Option β}:∀{T:List α} {L:List β},T.map f=L.map some→T.filterMap f=L
 | [],[],_=>rfl
 | x::T,y::L,h=>by
  rw[qQU,qQU] at h
  injection h with h1 h2
  rw[List.filterMap_cons,h1,qxN h2]
structure qe7 (p:qg) (s:qd) (l:List qa) (day:Int) (u:ZS):Prop where
 inc:okG l.length (-1) u.Taken=true
 len:u.Leaf.length=u.Taken.length
 tog:qg9 p (q6R l u.Taken) day=true
 rng:∀(j:Nat) (y:Int),u.Leaf[j]?=some y → -1≤y∧y<(lvN p.Need:Int)
 met:qnd p.Need s (q6R l u.Taken) u.Leaf=true
theorem qdT (l:List qa) (m q:Nat→Bool):q6R l (Q6 q (q4I l.length m))=Q6 q (Q6 m l):=qxN (by rw[←q3N];unfold q4I;rw[←q3N,qdY,q3N,q3N])
theorem qpj (p:qg) (day:Int):∀(r done:List qa),tgL p day done r=true→∀a∈r,qaV p a day=false
 | [],_,_,a,h=>by cases h
 | x::r,done,h,a,ha=>by
  rw[tgL,qR3,qR3,Bool.not_eq_true'] at h
  rcases qQT.1 ha with rfl|ha
  ·exact h.1.1
  ·exact qpj p day r _ h.2 a ha
theorem qe7.mask {p:qg} {s:qd} {l:List qa} {day:Int} {u:ZS} (h:qe7 p s l day u) :
  ∃Y,Y<2 ^ (Q6 (mO p day l) l).length∧u.Taken=Q6 Y.testBit (q4I l.length (mO p day l))∧qg9 p (Q6 Y.testBit (Q6 (mO p day l) l)) day=true∧Perm p.Need s (Q6 (mO p day l) l) Y u.Leaf:=by
 have hlen:(q4I l.length (mO p day l)).length=(Q6 (mO p day l) l).length:=by rw[q6D,q41]
 obtain⟨q,hq⟩:∃q:Nat→Bool,q=fun j=>qK2 (fun x=>decide (x∈u.Taken)) (q4I l.length (mO p day l))[j]?:=⟨_,rfl⟩
 have hsel:Q6 q (q4I l.length (mO p day l))=u.Taken:=by
  have e:Q6 q (q4I l.length (mO p day l))=(q4I l.length (mO p day l)).filter fun x=>decide (x∈u.Taken):=by rw[hq];exact qih _ _
  obtain⟨m',hm'⟩:=qij l.length (mO p day l) q
  refine qjp (N:=l.length) (p := -1) (q := -1) (by rw[hm'];exact q80 _ _) h.inc fun y=>?_
  rw[e,qRt,qRx]
  refine⟨fun hy=>hy.2,fun hy=>⟨?_,hy⟩⟩
  obtain⟨k,hk,rfl⟩:=qgZ h.inc y hy
  have hold:=h.tog
  unfold qg9 at hold
  rw[qR3,qR3] at hold
  have hold:=qpj p day _ _ hold.1.1 l[k] (List.mem_filterMap.2 ⟨(k:Int),hy,by rw[qQA];exact qQz hk⟩)
  unfold q4I
  rw[qhe]
  exact⟨k,by unfold mO;rw[qQz hk];simp[hold],by rw[Zy _ hk]⟩
 have hbit:∀k,k<(q4I l.length (mO p day l)).length→(mkS q (Q6 (mO p day l) l).length).testBit k=q k:=fun k hk=>by
  rw[qbj,qRy (by omega),qR4]
 have hT:u.Taken=Q6 (mkS q (Q6 (mO p day l) l).length).testBit (q4I l.length (mO p day l)):=by
  rw[←hsel]
  exact(q26 hbit).symm
 have hL:q6R l u.Taken=Q6 (mkS q (Q6 (mO p day l) l).length).testBit (Q6 (mO p day l) l):=by rw[hT];exact qdT l _ _
 refine⟨_,qtY _ _,hT,by rw[←hL];exact h.tog,?_,h.rng,by rw[←hL];exact h.met⟩
 rw[h.len,hT,q41,hlen]
theorem qoc.use {p:qg} {s:qd} {l:List qa} {day:Int} {X:Nat} {w:List Int} (h:qoc p s (Q6 (mO p day l) l) day X w):qe7 p s l day ⟨Q6 X.testBit (q4I l.length (mO p day l)),w⟩:=by
 obtain⟨m',hm'⟩:=qij l.length (mO p day l) X.testBit
 have hL:=qdT l (mO p day l) X.testBit
 refine⟨?_,?_,?_,h.perm.rng,?_⟩
 ·show okG l.length (-1) (Q6 X.testBit (q4I l.length (mO p day l)))=true
  rw[hm'];exact q80 _ _
 ·show w.length=(Q6 X.testBit (q4I l.length (mO p day l))).length
  rw[h.perm.len,q41,q41,q6D]
 ·show qg9 p (q6R l (Q6 X.testBit (q4I l.length (mO p day l)))) day=true
  rw[hL];exact h.tog
 ·show qnd p.Need s (q6R l (Q6 X.testBit (q4I l.length (mO p day l)))) w=true
  rw[hL];exact h.perm.met
theorem qmr {N:Nat}:∀{A:List Int} {p:Int},okG N p A=true→∀(i j:Nat) (x y:Int),i<j→A[i]?=some x→A[j]?=some y→x<y
 | [],_,_,i,j,x,y,_,hx,_=>by simp at hx
 | a::A,p,h,0,j+1,x,y,_,hx,hy=>by
  injection hx with hx
  subst hx
  exact qcZ (q3G h) y (qQy hy)
 | a::A,p,h,i+1,j+1,x,y,hij,hx,hy=>qmr (q3G h) i j x y (by omega) hx hy
theorem qt8 (A:List Int) (X:Nat):Q6 X.testBit A=(q2Q A.length X).map fun y=>A.getD (Int.toNat y) 0:=by
 unfold q2Q
 rw[←q3N]
 congr 1
 apply List.ext_getElem?
 intro j
 rw[qQL]
 by_cases hj:j<A.length
 ·rw[Zy _ hj,qQz hj,Option.map_some,qQA,List.getD_eq_getElem?_getD,qQz hj];rfl
 ·rw[qR5 (by omega),qR5 (by rw[zf];omega)];rfl
theorem qmH {N:Nat} {A:List Int} {p:Int} (h:okG N p A=true) (X Y:Nat):slL (Q6 X.testBit A) (Q6 Y.testBit A)=slL (q2Q A.length X) (q2Q A.length Y):=by
 rw[qt8,qt8]
 refine quA fun x hx y hy=>?_
 obtain⟨i,hi,rfl⟩:=mem_range hx
 obtain⟨j,hj,rfl⟩:=mem_range hy
 rw[qQA,qQA,List.getD_eq_getElem?_getD,List.getD_eq_getElem?_getD,qQz hi,qQz hj,Option.getD_some,Option.getD_some]
 rcases Nat.lt_trichotomy i j with g|g|g
 ·have:=qmr h i j _ _ g (qQz hi) (qQz hj)
  exact⟨by omega,by omega⟩
 ·subst g
  exact⟨by omega,by omega⟩
 ·have:=qmr h j i _ _ g (qQz hj) (qQz hi)
  exact⟨by omega,by omega⟩
def uLe (u v:ZS):Prop:=slL u.Taken v.Taken=true∨(u.Taken=v.Taken∧(u.Leaf=v.Leaf∨q4H u.Leaf v.Leaf=true))
theorem qvK {p:qg} {l:List qa} (h:Grd p l) (hl:l.length≤10) (s:qd) (hck:Zx p s=some 0) (day:Int) :
  (Qi p s l day=some (⟨[],[]⟩,31)∧∀u,¬ qe7 p s l day u)∨(∃u,Qi p s l day=some (u,0)∧qe7 p s l day u∧∀v,qe7 p s l day v→uLe u v):=by
 have hs:=q4O l (mO p day l)
 rcases qnE h (by omega) s hck day with ⟨g,-⟩|⟨-,g,hno⟩|⟨-,X,w,g,hL⟩
 ·omega
 ·refine .inl ⟨g,fun u hu=>?_⟩
  obtain⟨Y,h1,h2,h3,h4⟩:=hu.mask
  exact hno Y _ h1 h3 h4
 ·refine .inr ⟨_,g,hL.use,fun v hv=>?_⟩
  obtain⟨Y,h1,h2,h3,h4⟩:=hv.mask
  have hlen:(q4I l.length (mO p day l)).length=(Q6 (mO p day l) l).length:=by rw[q6D,q41]
  rcases hL.min Y v.Leaf h1 h3 h4 with e|⟨e,e2⟩
  ·left
   rw[h2]
   show slL (Q6 X.testBit (q4I l.length (mO p day l))) _=true
   rw[qmH (q80 l.length (mO p day l)),hlen];exact e
  ·right
   subst e
   exact⟨h2.symm,e2⟩
end
noncomputable section
open Go.RowKit
section
variable {α ε:Type} {step:Int→Option (Int⊕ε)} (l:List α)
end
theorem qjB (x m:Int) (h0:0<m) (h1:m≤1000000):∃v,ZT x m=some v∧0≤v∧v<m:=by
 have e1:=Int.tmod_lt_of_pos x h0
 have e2 : -m<Int.tmod x m:=by
  have:=Int.tmod_lt_of_pos (-x) h0
  rw[Int.neg_tmod] at this;omega
 have e3:w64 (Int.tmod x m+m)=Int.tmod x m+m:=QI (by omega) (by omega)
 refine⟨Int.tmod (Int.tmod x m+m) m,?_,Int.tmod_nonneg _ (by omega),Int.tmod_lt_of_pos _ h0⟩
 unfold ZT
 rw[if_neg (by omega),if_neg (by omega),e3]
theorem qbX {d:qi} (h:q1L d) {most:Int} (h0:0<most) (h1:most≤1000000):∃v d',zj most d=some (v,d')∧0≤v∧v<most∧q1L d':=by
 obtain⟨a,b,c⟩:=h
 unfold zj
 by_cases he:(d.L.length:Int)≤d.At
 ·exact⟨0,d,if_pos he,Int.le_refl _,h0,⟨a,b,c⟩⟩
 ·obtain⟨x,hx⟩:∃x,d.L[Int.toNat d.At]?=some x:=⟨_,qQz (by omega)⟩
  obtain⟨v,e1,e2,e3⟩:=qjB x most h0 h1
  have e6:w64 (d.At+1)=d.At+1:=QI (by omega) (by omega)
  have e7:w64 (d.At+1-1)=d.At:=by rw[QI (by omega) (by omega)];omega
  refine⟨v,⟨d.L,d.At+1⟩,?_,e2,e3,⟨by show 0≤d.At+1;omega,by show d.At+1≤d.L.length;omega,c⟩⟩
  rw[if_neg he,e6,e7,if_pos ⟨a,by omega⟩,hx,qQx,e1,qQx]
end
noncomputable section
open Go.RowKit
abbrev nmL:List ByteArray:=[ByteArray.mk (List.toArray [77,117,115,105,99]),ByteArray.mk (List.toArray [76,97,119]),ByteArray.mk (List.toArray [79,108,100,32,109,97,112,115])]
abbrev agL:List Int:=[(0:Int),(0:Int),(0:Int),(2:Int),(5:Int)]
structure qvi (p:qg):Prop where
 sch:p.School=1
 id:1≤p.Id∧p.Id≤3
 ver:1≤p.Version∧p.Version≤3
 frm:0≤p.From∧p.From≤400
 nam:p.Name∈nmL
 tot:0≤p.Total∧p.Total≤19
 own:0≤p.Own∧p.Own≤10
 age:p.Age∈agL
 need:q7d 3 6 p.Need
 ex:p.Exclude=[]∨∃a b,p.Exclude=[q0u.mk a b]∧q4S a∧q4S b∧q6b a b=true
theorem qCg (l:List Int) (hl:l.length≤9223372036854775807):∃p,Q8 l=some p∧qvi p:=by
 obtain⟨v1,d1,e1,a1,b1,h1⟩:=q4o (d:=⟨l,0⟩) ⟨by show(0:Int)≤0;omega,by show(0:Int)≤(l.length:Int);omega,hl⟩ (most:=3) (by omega) (by omega)
 obtain⟨v2,d2,e2,a2,b2,h2⟩:=q4o h1 (most:=3) (by omega) (by omega)
 obtain⟨v3,d3,e3,a3,b3,h3⟩:=q4o h2 (most:=5) (by omega) (by omega)
 obtain⟨v4,d4,e4,a4,b4,h4⟩:=q4o h3 (most:=3) (by omega) (by omega)
 obtain⟨v6,d6,e6,a6,b6,h6⟩:=q4o h4 (most:=20) (by omega) (by omega)
 obtain⟨v7,d7,e7,a7,b7,h7⟩:=q4o h6 (most:=3) (by omega) (by omega)
 obtain⟨v8,d8,e8,a8,b8,h8⟩:=q4o h7 (most:=6) (by omega) (by omega)
 obtain⟨v9,d9,e9,a9,b9,h9⟩:=q4o h8 (most:=5) (by omega) (by omega)
 obtain⟨v11,d11,e11,a11,b11,h11⟩:=q4o h9 (most:=3) (by omega) (by omega)
 obtain⟨c1,d12,e12,m12,h12⟩:=qgA h11
 obtain⟨c2,d13,e13,m13,h13⟩:=qgA h12
 obtain⟨n1,d14,e14,m14,h14⟩:=qpt 3 6 d13 (by omega) (by omega) h13
 obtain⟨n2,d15,e15,m15,h15⟩:=qpt 3 6 d11 (by omega) (by omega) h11
 obtain⟨nm,g5,q5⟩:=qrW nmL v4 a4 (by show v4<((3:Nat):Int);omega)
 obtain⟨ag,g10,q10⟩:=qrW agL v9 a9 (by show v9<((5:Nat):Int);omega)
 have w1:w64 (1+v1)=1+v1:=QI (by omega) (by omega)
 have w2:w64 (1+v2)=1+v2:=QI (by omega) (by omega)
 have w3:w64 (100*v3)=100*v3:=QI (by omega) (by omega)
 have hm:0≤v7*v8∧v7*v8≤10:=by
  have hv7:v7=0∨v7=1∨v7=2:=by omega
  rcases hv7 with rfl|rfl|rfl<;>omega
 have w4:w64 (v7*v8)=v7*v8:=QI (by omega) (by omega)
 have e14':Zo ((3:Int),((6:Int),d13))=some (n1,d14):=e14
 have e15':Zo ((3:Int),((6:Int),d11))=some (n2,d15):=e15
 have mk:∀(n:qb) (X:List (q0u qe)),q7d 3 6 n→(X=[]∨∃a b,X=[q0u.mk a b]∧q4S a∧q4S b∧q6b a b=true)→qvi (qg.mk (1:Int) (1+v1) (1+v2) (100*v3) nm n v6 (v7*v8) ag X):=fun n X hn hX=>
  ⟨rfl,⟨by show 1≤1+v1;omega,by show 1+v1≤3;omega⟩,⟨by show 1≤1+v2;omega,by show 1+v2≤3;omega⟩,⟨by show 0≤100*v3;omega,by show 100*v3≤400;omega⟩,q5,⟨a6,by show v6≤19;omega⟩,hm,q10,hn,hX⟩
 unfold Q8
 rw[e1,qQx];dsimp only
 rw[e2,qQx];dsimp only
 rw[e3,qQx];dsimp only
 rw[e4,qQx];dsimp only
 rw[if_pos ⟨a4,b4⟩,g5,qQx,e6,qQx];dsimp only
 rw[e7,qQx];dsimp only
 rw[e8,qQx];dsimp only
 rw[e9,qQx];dsimp only
 rw[if_pos ⟨a9,b9⟩,g10,qQx,e11,qQx];dsimp only
 rw[w1,w2,w3,w4]
 by_cases h0:v11=0
 ·rw[if_pos (by simpa using h0),e12,qQx];dsimp only
  rw[e13,qQx];dsimp only
  by_cases hp:Qq c1 c2=true
  ·rw[if_pos hp,e14',qQx]
   exact⟨_,rfl,mk _ _ m14 (.inr ⟨c1,c2,rfl,m12,m13,hp⟩)⟩
  ·rw[if_neg hp,e14',qQx]
   exact⟨_,rfl,mk _ _ m14 (.inl rfl)⟩
 ·rw[if_neg (by simpa using h0),e15',qQx]
  exact⟨_,rfl,mk _ _ m15 (.inl rfl)⟩
end
noncomputable section
open Go.RowKit
structure qgM (j:Nat) (a:qa):Prop where
 src:a.Sources.length≤2+j
 pth:a.Path.length≤1+j
 crd:0≤a.Credits∧a.Credits≤40
 day:0≤a.Day∧a.Day≤1000
theorem qgM.fit {j:Nat} {a:qa} (h:qgM j a) (hj:j≤900):q1b a:=⟨by have:=h.src;omega,by have:=h.pth;omega⟩
theorem qgM.mono {j j':Nat} {a:qa} (h:qgM j a) (hj:j≤j'):qgM j' a:=⟨by have:=h.src;omega,by have:=h.pth;omega,h.crd,h.day⟩
theorem qg0 (t0:List (List Int)) (hq:∀q∈t0,q.length≤9223372036854775807) (l:List qa) (k:Nat) (hl:l.length=k) (hk:k<t0.length) (h8:k<8) :
  ∃a,qgM 0 a∧ZE t0 (l,(k:Int))=some (.inl (l++[a],((k+1:Nat):Int))):=by
 have hML:100000≤maxLen:=by unfold maxLen;omega
 obtain⟨q,hqk⟩:∃q,t0[k]?=some q:=⟨_,qQz hk⟩
 have hd:q1L ⟨q,0⟩:=⟨by show(0:Int)≤0;omega,by show(0:Int)≤(q.length:Int);omega,hq q (qQy hqk)⟩
 obtain⟨v1,d1,e1,a1,b1,h1⟩:=qbX hd (most:=6) (by omega) (by omega)
 obtain⟨c,hc,_⟩:=qrW zi v1 a1 (by unfold zi;simpa using b1)
 obtain⟨v2,d2,e2,a2,b2,h2⟩:=qbX h1 (most:=3) (by omega) (by omega)
 obtain⟨cr,hcr,mcr⟩:=qrW [(5:Int),6,10] v2 a2 (by simpa using b2)
 obtain⟨v3,d3,e3,a3,b3,h3⟩:=qbX h2 (most:=11) (by omega) (by omega)
 obtain⟨v4,d4,e4,a4,b4,h4⟩:=qbX h3 (most:=60) (by omega) (by omega)
 obtain⟨v5,d5,e5,a5,b5,h5⟩:=qbX h4 (most:=9) (by omega) (by omega)
 obtain⟨v6,d6,e6,a6,b6,h6⟩:=qbX h5 (most:=3) (by omega) (by omega)
 obtain⟨v7,d7,e7,a7,b7,h7⟩:=qbX h6 (most:=3) (by omega) (by omega)
 obtain⟨v8,d8,e8,a8,b8,h8'⟩:=qbX h7 (most:=4) (by omega) (by omega)
 obtain⟨v9,d9,e9,a9,b9,h9⟩:=qbX h8' (most:=3) (by omega) (by omega)
 obtain⟨v10,d10,e10,a10,b10,h10⟩:=qbX h9 (most:=3) (by omega) (by omega)
 obtain⟨v11,d11,e11,a11,b11,h11⟩:=qbX h10 (most:=3) (by omega) (by omega)
 have hw:w64 ((k:Int)+1)=((k+1:Nat):Int):=by rw[QI (by omega) (by omega)];omega
 have hcr2:0≤cr∧cr≤40:=by
  have:cr=5∨cr=6∨cr=10:=by simpa using mcr
  omega
 have hdy:0≤w64 ((10:Int)*v4)∧w64 ((10:Int)*v4)≤1000:=by rw[QI (by omega) (by omega)];omega
 unfold ZE
 dsimp only
 rw[if_pos (by omega),if_pos (by omega),if_pos ⟨by omega,by omega⟩,qQA,hqk,qQx,e1,qQx]
 dsimp only
 rw[if_pos ⟨a1,by unfold zi;simpa using b1⟩,hc,qQx,e2,qQx]
 dsimp only
 rw[if_pos ⟨a2,b2⟩,hcr,qQx,e3,qQx]
 dsimp only
 rw[e4,qQx]
 dsimp only
 rw[e5,qQx]
 dsimp only
 rw[e6,qQx]
 dsimp only
 rw[e7]
 by_cases h0:v6=0
 ·rw[if_pos (by simpa using h0),qQx]
  dsimp only
  rw[e8,qQx]
  dsimp only
  rw[e9,qQx]
  dsimp only
  rw[e10]
  by_cases h00:v9=0
  ·rw[if_pos (by simpa using h00),qQx]
   dsimp only
   rw[e11,qQx]
   dsimp only
   rw[if_pos ⟨by omega,by omega⟩,hw]
   exact⟨_,⟨qQN _,qQN _,hcr2,hdy⟩,rfl⟩
  ·rw[if_neg (by simpa using h00),qQx]
   dsimp only
   rw[if_pos ⟨by omega,by omega⟩,hw]
   exact⟨_,⟨by show 1≤2;omega,qQN _,hcr2,hdy⟩,rfl⟩
 ·rw[if_neg (by simpa using h0),if_pos ⟨by omega,by omega⟩,hw]
  exact⟨_,⟨by show 1≤2;omega,by show 0≤1;omega,hcr2,hdy⟩,rfl⟩
theorem qz4 (t0:List (List Int)) (hq:∀q∈t0,q.length≤9223372036854775807) (ht:t0.length≤9223372036854775807):∃l,q2z t0=some l∧l.length≤8∧∀a∈l,qgM 0 a:=by
 have key:∀(j k:Nat) (l:List qa),j+k=min t0.length 8→l.length=k→(∀a∈l,qgM 0 a)→∃l',zn (ZE t0) (l,(k:Int))=some l'∧l'.length=min t0.length 8∧∀a∈l',qgM 0 a:=by
  intro j
  induction j with
  | zero=>
   intro k l hk hl hs
   refine⟨l,zg ?_,by omega,hs⟩
   unfold ZE
   dsimp only
   by_cases h:(k:Int)<(t0.length:Int)
   ·rw[if_pos h,if_neg (by omega)]
   ·rw[if_neg h]
  | succ j ih=>
   intro k l hk hl hs
   obtain⟨a,h1,h2⟩:=qg0 t0 hq l k hl (by omega) (by omega)
   rw[zM h2]
   refine ih (k+1) (l++[a]) (by omega) (by simp[hl]) fun x hx=>?_
   rcases qR1.1 hx with h|h
   ·exact hs x h
   ·rw[qRo.1 h];exact h1
 obtain⟨l,h1,h2,h3⟩:=key (min t0.length 8) 0 [] (by omega) rfl (fun a ha=>by cases ha)
 refine⟨l,?_,by omega,h3⟩
 unfold q2z
 change Option.bind (zn _ ([],((0:Nat):Int))) _=_
 rw[h1];rfl
theorem qoY {a:qa} (h:q1b a):q2w a=some (a.Course.School,a.Course.Code,a.Credits,a.Grade,a.Day,a.Bundle,a.Sources,a.Path):=by
 have hML:100000≤maxLen:=by unfold maxLen;omega
 have h1:=h.1;have h2:=h.2
 unfold q2w
 rw[if_pos ⟨by omega,by omega⟩,if_pos ⟨by omega,by omega⟩]
theorem qG1 {j:Nat} (hj:j≤100) {a:qa} (h:qgM j a) (q:q0u Int):∃b,JY a q=some b∧qgM (j+1) b:=by
 have hML:100000≤maxLen:=by unfold maxLen;omega
 have h1:=h.src;have h2:=h.pth;have h3:=h.crd;have h9:=h.day
 obtain⟨n,e1,n0,n1⟩:=qjB q.a1 40 (by omega) (by omega)
 obtain⟨k,e2,k0,k1⟩:=qjB q.a0 8 (by omega) (by omega)
 unfold JY
 rw[qoY (h.fit (by omega)),qQx,e1,qQx,e2,qQx]
 dsimp only
 have hmod:0≤Int.tmod n 4∧Int.tmod n 4<4:=⟨Int.tmod_nonneg _ n0,Int.tmod_lt_of_pos _ (by omega)⟩
 obtain⟨c,hc,_⟩:=qrW [ByteArray.mk (List.toArray [65,49]),ByteArray.mk (List.toArray [66,49]),ByteArray.mk (List.toArray []),ByteArray.mk (List.toArray [65])] (Int.tmod n 4) hmod.1 (by simpa using hmod.2)
 have hb:∀(sc:Int) (cd:ByteArray) (cr g d:Int) (S:List Int) (bd:Int) (P:List Int),S.length≤2+(j+1)→P.length≤1+(j+1)→0≤cr∧cr≤40→0≤d∧d≤1000→qgM (j+1) (qa.mk (qe.mk sc cd) cr g d S bd P):=fun sc cd cr g d S bd P a1 a2 a3 a4=>⟨a1,a2,a3,a4⟩
 by_cases h00:k=0
 ·rw[if_pos (by simpa using h00)];exact⟨_,rfl,hb _ _ _ _ _ _ _ _ (by omega) (by omega) h3 h9⟩
 rw[if_neg (by simpa using h00)]
 by_cases h01:k=1
 ·rw[if_pos (by simpa using h01),if_pos hmod,hc,qQx];exact⟨_,rfl,hb _ _ _ _ _ _ _ _ (by omega) (by omega) h3 h9⟩
 rw[if_neg (by simpa using h01)]
 by_cases h02:k=2
 ·rw[if_pos (by simpa using h02)];exact⟨_,rfl,hb _ _ _ _ _ _ _ _ (by omega) (by omega) ⟨n0,by omega⟩ h9⟩
 rw[if_neg (by simpa using h02)]
 by_cases h03:k=3
 ·rw[if_pos (by simpa using h03)];exact⟨_,rfl,hb _ _ _ _ _ _ _ _ (by omega) (by omega) h3 h9⟩
 rw[if_neg (by simpa using h03)]
 by_cases h04:k=4
 ·rw[if_pos (by simpa using h04)];exact⟨_,rfl,hb _ _ _ _ _ _ _ _ (by omega) (by omega) h3 (by rw[QI (by omega) (by omega)];omega)⟩
 rw[if_neg (by simpa using h04)]
 by_cases h05:k=5
 ·rw[if_pos (by simpa using h05),if_pos ⟨by omega,by omega⟩];exact⟨_,rfl,hb _ _ _ _ _ _ _ _ (by simp;omega) (by omega) h3 h9⟩
 rw[if_neg (by simpa using h05)]
 by_cases h06:k=6
 ·rw[if_pos (by simpa using h06)];exact⟨_,rfl,hb _ _ _ _ _ _ _ _ (by omega) (by omega) h3 h9⟩
 rw[if_neg (by simpa using h06)]
 by_cases h07:k=7
 ·rw[if_pos (by simpa using h07),if_pos ⟨by omega,by omega⟩];exact⟨_,rfl,hb _ _ _ _ _ _ _ _ (by omega) (by simp;omega) h3 h9⟩
 ·rw[if_neg (by simpa using h07)];exact⟨_,rfl,hb _ _ _ _ _ _ _ _ (by omega) (by omega) h3 h9⟩
theorem qpP {j:Nat} (hj:j≤100) {l:List qa} (hl:l.length≤8) (hs:∀a∈l,qgM j a) (h0:0<l.length) (q:qty Int):∃(k:Nat) (a b:qa),k<l.length∧ZT q.a2 ((l.length:Nat):Int)=some (k:Int)∧l[k]?=some a∧JY a (q0u.mk q.a0 q.a1)=some b∧(List.set l k b).length≤8∧∀x∈List.set l k b,qgM (j+1) x:=by
 obtain⟨v,e1,v0,v1⟩:=qjB q.a2 ((l.length:Nat):Int) (by omega) (by omega)
 obtain⟨k,rfl⟩:∃k:Nat,v=(k:Int):=⟨v.toNat,by omega⟩
 have hk:k<l.length:=by omega
 obtain⟨b,e2,hb⟩:=qG1 hj (hs _ (qRp hk)) (q0u.mk q.a0 q.a1)
 refine⟨k,l[k],b,hk,e1,qQz hk,e2,by rw[qRj];exact hl,fun x hx=>?_⟩
 rcases List.mem_or_eq_of_mem_set hx with h|rfl
 ·exact(hs x h).mono (by omega)
 ·exact hb
end
noncomputable section
open Go.RowKit
theorem qoU {α ε:Type} {step:Int→Option (Int⊕ε)} (l:List α) (q:α→Bool) (e0 e1:ε) (hs:∀(i:Nat) (a:α),l[i]?=some a→step (i:Int)=some (if q a=true then .inr e0 else .inl ((i+1:Nat):Int))) (he:step ((l.length:Nat):Int)=some (.inr e1)) :
  zn step (0:Int)=some (if l.any q=true then e0 else e1):=by
 rcases q8m l q (fun _=>e0) e1 hs he with ⟨h1,i,h2⟩|⟨h1,h2⟩
 ·rw[h2,h1];rfl
 ·rw[h2,h1];rfl
end
noncomputable section
open Go.RowKit
theorem qbK {κ ν:Type} [DecidableEq κ] (z:ν) (k:κ) (v:ν) (b:κ):∀M:List (κ×ν),q4J z (qhL M k v) b=if b=k then v else q4J z M b
 | []=>by
  show(if b=k then v else z)=_
  rfl
 | p::M=>by
  unfold qhL
  by_cases h:k=p.1
  ·rw[if_pos h]
   show(if b=k then v else q4J z M b)=if b=k then v else q4J z (p::M) b
   by_cases hb:b=k
   ·rw[if_pos hb,if_pos hb]
   ·rw[if_neg hb,if_neg hb]
    show _=if b=p.1 then p.2 else q4J z M b
    rw[if_neg (by rw[←h];exact hb)]
  ·rw[if_neg h]
   show(if b=p.1 then p.2 else q4J z (qhL M k v) b)=if b=k then v else(if b=p.1 then p.2 else q4J z M b)
   rw[qbK z k v b M]
   by_cases hb:b=p.1
   ·rw[if_pos hb,if_pos hb,if_neg (fun h'=>h (by rw[←h',hb]))]
   ·rw[if_neg hb,if_neg hb]
theorem qdH (x:Int):∀(l:List Int) (n:Int),n∈cpF x l↔n∈x::l
 | [],n=>Iff.rfl
 | y::l,n=>by
  unfold cpF
  by_cases h:x=y
  ·rw[if_pos h,qdH y l n];subst h;simp
  ·rw[if_neg h,qQT,qdH y l n,qQT (l:=y::l)]
theorem qbS (x:Int):∀(l:List Int),(x::l).Pairwise (·≤·)→(cpF x l).Nodup
 | [],_=>by simp[cpF]
 | y::l,h=>by
  unfold cpF
  obtain⟨h1,h2⟩:=List.pairwise_cons.1 h
  by_cases e:x=y
  ·rw[if_pos e];exact qbS y l h2
  ·rw[if_neg e,List.nodup_cons]
   refine⟨fun hx=>?_,qbS y l h2⟩
   have hy:=h1 y qQM
   rcases qQT.1 ((qdH y l x).1 hx) with h|h
   ·exact e h
   ·have:=(List.pairwise_cons.1 h2).1 x h
    omega
theorem qno (s:List Int) (n:Int):n∈cpI (q2W s)↔n∈s:=by
 rw[←(q6E s).mem_iff]
 cases q2W s with
 | nil=>exact Iff.rfl
 | cons x l=>exact qdH x l n
theorem qm3 (s:List Int):(cpI (q2W s)).Nodup:=by
 have:=q5H s
 cases h:q2W s with
 | nil=>exact .nil
 | cons x l=>rw[h] at this;exact qbS x l this
def qcz (M:List (Int×Int)) (n:Int):List (Int×Int):=qhL M n (w64 (q4J 0 M n+1))
theorem qeU:∀(ns:List Int) (M:List (Int×Int)) (k:Int),ns.Nodup→(∀n∈ns,0≤q4J 0 M n∧q4J 0 M n<1000000)→q4J 0 (ns.foldl qcz M) k=q4J 0 M k+if k∈ns then 1 else 0
 | [],M,k,_,_=>by simp
 | n::ns,M,k,hn,hb=>by
  obtain⟨h1,h2⟩:=List.nodup_cons.1 hn
  have hw:w64 (q4J 0 M n+1)=q4J 0 M n+1:=by have:=hb n qQM;exact QI (by omega) (by omega)
  have hg:∀b,q4J 0 (qcz M n) b=if b=n then q4J 0 M n+1 else q4J 0 M b:=fun b=>by unfold qcz;rw[qbK,hw]
  rw[qRB,qeU ns (qcz M n) k h2 (fun m hm=>by
   rw[hg,if_neg (fun h:m=n=>h1 (by rw[←h];exact hm))];exact hb m (qQF _ hm)),hg]
  by_cases e:k=n
  ·subst e;rw[if_pos rfl,if_neg h1,if_pos qQM];omega
  ·rw[if_neg e]
   by_cases hk:k∈ns
   ·rw[if_pos hk,if_pos (qQF _ hk)]
   ·rw[if_neg hk,if_neg (fun h=>(qQT.1 h).elim e hk)]
def qoe (l:List (List Int)) (M:List (Int×Int)):List (Int×Int):=l.foldl (fun M s=>(cpI (q2W s)).foldl qcz M) M
theorem qpG:∀(l:List (List Int)) (M:List (Int×Int)) (b:Nat),(∀k,0≤q4J 0 M k∧q4J 0 M k≤(b:Int))→b+l.length<1000000→∀k,q4J 0 (qoe l M) k=q4J 0 M k+((l.filter fun s=>decide (k∈s)).length:Int)
 | [],M,b,_,_,k=>by simp[qoe]
 | s::l,M,b,hM,hl,k=>by
  simp only[qQI] at hl
  have hg:∀k,q4J 0 ((cpI (q2W s)).foldl qcz M) k=q4J 0 M k+if k∈cpI (q2W s) then 1 else 0:=fun k=>qeU _ M k (qm3 s) fun n _=>by have:=hM n;omega
  have hs:qoe (s::l) M=qoe l ((cpI (q2W s)).foldl qcz M):=rfl
  rw[hs,qpG l _ (b+1) (fun k=>by
   rw[hg];have:=hM k
   split<;>omega) (by omega),hg,List.filter_cons]
  by_cases h:k∈s
  ·rw[if_pos ((qno s k).2 h),if_pos (by simpa using h),qQI];omega
  ·rw[if_neg (fun h'=>h ((qno s k).1 h')),if_neg (by simpa using h)];omega
theorem qxa (l:List (List Int)) (hl:l.length<1000000) (k:Int):q4J 0 (qoe l []) k=((l.filter fun s=>decide (k∈s)).length:Int):=by
 rw[qpG l [] 0 (fun k=>by show(0:Int)≤0∧(0:Int)≤0;omega) (by omega)]
 show(0:Int)+_=_
 omega
theorem qqE {l:List (List Int)} {i:Nat} {s:List Int} {k:Int} (hi:l[i]?=some s) (hk:k∈s):(1:Int)<((l.filter fun s=>decide (k∈s)).length:Int)↔∃j t,j≠i∧l[j]?=some t∧k∈t:=by
 have hlt:=ZB hi
 have e:l=l.take i++s::l.drop (i+1):=by
  rw[qQz hlt] at hi
  injection hi with hi
  rw[←hi,List.getElem_cons_drop,qRm]
 have hf:(l.filter fun s=>decide (k∈s)).length=((l.take i).filter fun s=>decide (k∈s)).length+(((l.drop (i+1)).filter fun s=>decide (k∈s)).length+1):=by
  conv=>lhs;rw[e]
  rw[List.filter_append,qQE,List.filter_cons,if_pos (by simpa using hk),qQI]
 rw[hf]
 constructor
 ·intro h
  have:0<((l.take i).filter fun s=>decide (k∈s)).length∨0<((l.drop (i+1)).filter fun s=>decide (k∈s)).length:=by omega
  rcases this with h|h
  ·obtain⟨t,ht⟩:=List.exists_mem_of_length_pos h
   obtain⟨h1,h2⟩:=qRt.1 ht
   obtain⟨j,hj⟩:=List.getElem?_of_mem h1
   have hji:j<i:=by have:=ZB hj;rw[qR0] at this;omega
   rw[qR6 hji] at hj
   exact⟨j,t,by omega,hj,by simpa using h2⟩
  ·obtain⟨t,ht⟩:=List.exists_mem_of_length_pos h
   obtain⟨h1,h2⟩:=qRt.1 ht
   obtain⟨j,hj⟩:=List.getElem?_of_mem h1
   rw[List.getElem?_drop] at hj
   exact⟨i+1+j,t,by omega,hj,by simpa using h2⟩
 ·rintro⟨j,t,h1,h2,h3⟩
  by_cases hji:j<i
  ·have:0<((l.take i).filter fun s=>decide (k∈s)).length:=List.length_pos_of_mem (a:=t) (qRt.2 ⟨qQy (i:=j) (by rw[qR6 hji];exact h2),by simpa using h3⟩)
   omega
  ·have:0<((l.drop (i+1)).filter fun s=>decide (k∈s)).length:=List.length_pos_of_mem (a:=t) (qRt.2 ⟨qQy (i:=j-(i+1)) (by rw[List.getElem?_drop,show i+1+(j-(i+1))=j by omega];exact h2),by simpa using h3⟩)
   omega
end
noncomputable section
open Go.RowKit
def q9g (s:qd) (a b:qa):Bool:=ceq a.Course b.Course&&(a.Bundle==b.Bundle)&&decide (a.Path=b.Path)&&decide (b.Credits≤a.Credits)&&decide (b.Day≤a.Day)&&q8b s a.Grade b.Grade
theorem qoX (s:qd) {a b:qa} (ha:q1b a):q18 s a b=some (q9g s a b):=by
 have h2:=ha.2
 unfold q18 q9g
 rw[qgk _ _ (by omega),qcQ]
 simp only[qQx]
 by_cases hc:ceq a.Course b.Course=true
 ·rw[if_pos (by unfold ceq at hc;rw[qR3] at hc;exact hc),hc]
  cases a.Bundle==b.Bundle
  ·rfl
  ·rw[if_pos rfl]
   by_cases hp:a.Path=b.Path
   ·rw[qRy hp,if_pos rfl]
    by_cases h3:b.Credits≤a.Credits
    ·rw[if_pos h3,qRy h3]
     by_cases h4:b.Day≤a.Day
     ·rw[if_pos h4,qRy h4];simp
     ·rw[if_neg h4,decide_eq_false h4];simp
    ·rw[if_neg h3,decide_eq_false h3];simp
   ·rw[decide_eq_false hp,if_neg (by decide)];simp
 ·rw[if_neg (by unfold ceq at hc;rw[qR3] at hc;exact hc),qQZ.2 hc];rfl
theorem qok {ε:Type} {step:Int→Option (Int⊕ε)} (n:Nat) (q:Nat→Bool) (e0 e1:ε) (hs:∀i,i<n→step (i:Int)=some (if q i=true then .inr e0 else .inl ((i+1:Nat):Int))) (he:step ((n:Nat):Int)=some (.inr e1)) :
  zn step (0:Int)=some (if(List.range n).any q=true then e0 else e1):=
 qoU (List.range n) q e0 e1 (fun i a ha=>by
  have hi:=ZB ha
  rw[List.length_range] at hi
  rw[List.getElem?_range hi] at ha
  injection ha with ha
  subst ha
  exact hs i hi) (by rw[List.length_range];exact he)
def qsp (l:List qa) (i:Nat) (n:Int):Bool:=(List.range l.length).any fun j=>decide (j≠i)&&(l[j]?.any fun c=>c.Sources.any fun x=>x==n)
def qBJ (s:qd) (l:List qa) (i k:Nat) (a b:qa):Bool:=decide (i≠k)&&q9g s a b&&a.Sources.all fun n=>(b.Sources.any fun x=>n==x) || !qsp l i n
def plc (s:qd) (l:List qa) (k i:Nat):Bool:=match l[i]?,l[k]? with
 | some a,some b=>qBJ s l i k a b
 | _,_=>false
def qq7 (s:qd) (l:List qa) (k:Nat):Bool:=(List.range l.length).any (plc s l k)
theorem qv6 {l:List qa} {i:Nat} {n:Int}:qsp l i n=true↔∃j t,j≠i∧(l.map fun a=>a.Sources)[j]?=some t∧n∈t:=by
 unfold qsp
 rw[qRs]
 constructor
 ·rintro⟨j,h1,h2⟩
  rw[qR3] at h2
  obtain⟨h2,h3⟩:=h2
  cases hj:l[j]? with
  | none=>rw[hj] at h3;cases h3
  | some c=>
   rw[hj] at h3
   refine⟨j,c.Sources,of_decide_eq_true h2,by rw[qQL,hj];rfl,?_⟩
   obtain⟨x,h4,h5⟩:=qRs.1 (show(c.Sources.any fun x=>x==n)=true from h3)
   rw[show n=x by simpa using (eq_comm.1 (beq_iff_eq.1 h5))];exact h4
 ·rintro⟨j,t,h1,h2,h3⟩
  rw[qQL] at h2
  obtain⟨c,h4,rfl⟩:=qQK.1 h2
  refine⟨j,qRu.2 (ZB h4),?_⟩
  rw[qRy h1,h4]
  show(c.Sources.any fun x=>x==n)=true
  exact qRs.2 ⟨n,h3,by simp⟩
theorem qsB (w:List Int) (hw:w.length≤1000) (l:List qa) (t11 t12:Int) (M:List (Int×Int)):zn (Jx w l t11 t12 ((w.length:Nat):Int)) (M,(0:Int))=some (w.foldl qcz M):=by
 exact q9a (step:=Jx w l t11 t12 ((w.length:Nat):Int)) w (fun(b:List (Int×Int)) k=>(b,(k:Int))) qcz (fun b=>b) (fun b k a ha=>by
  have hi:=ZB ha
  unfold Jx
  dsimp only
  rw[if_pos (by omega),if_pos ⟨by omega,by omega⟩,qQA,ha,qQx,q2N hi (by omega)]
  rfl) (fun b=>by
  unfold Jx
  dsimp only
  rw[if_neg (by omega)]) M
theorem qzN (l:List qa) (hl:l.length≤1000) (hf:∀a∈l,q1b a):q3i l=some (qoe (l.map fun a=>a.Sources) []):=by
 have hML:100000≤maxLen:=by unfold maxLen;omega
 have h:=q9a (step:=q0h l ((l.length:Nat):Int)) l (fun(b:List (Int×Int)) k=>(b,(k:Int))) (fun M a=>(cpI (q2W a.Sources)).foldl qcz M) (fun b=>b) (fun b k a ha=>by
  have hi:=ZB ha
  have hfa:=(hf a (qQy ha)).1
  have hc:(cpI (q2W a.Sources)).length≤1000:=qR8 (qhS _) (by rw[q5O];exact hfa)
  unfold q0h Qm zT
  dsimp only
  rw[if_pos (by omega),if_pos ⟨by omega,by omega⟩,qQA,ha,qQx,if_pos ⟨by omega,by omega⟩,qQx,if_pos (by omega),qsB _ hc,qQx,q2N hi (by omega)]) (fun b=>by
  unfold q0h
  dsimp only
  rw[if_neg (by omega)]) []
 unfold q3i
 change Option.bind (zn _ ([],((0:Nat):Int))) _=_
 rw[h,qQx]
 unfold qoe
 rw[List.foldl_map]
theorem qkl (S:List Int) (hS:S.length≤1000) (M:List (Int×Int)) (l:List qa) (k:Nat) (b:qa) (hb:l[k]?=some b) (hfb:q1b b):Qj S M l (k:Int)=some (S.any fun n=>decide (1<q4J 0 M n) && !(b.Sources.any fun x=>n==x)):=by
 have h2:=hfb.1
 have hk:=ZB hb
 have hq:∀n,JM n M l (k:Int)=some (decide (1<q4J 0 M n) && !(b.Sources.any fun x=>n==x)):=fun n=>by
  unfold JM
  by_cases h:1<q4J 0 M n
  ·rw[if_pos h,if_pos ⟨by omega,by omega⟩,qQA,hb,qQx,q9V _ (by omega),qQx,qRy h,qR4]
  ·rw[if_neg h,decide_eq_false h,qRA]
 have h:=q8m (step:=zV M l (k:Int) S ((S.length:Nat):Int)) S (fun n=>decide (1<q4J 0 M n) && !(b.Sources.any fun x=>n==x)) (fun i => .inl (i:Int)) (.inr ()) (fun i n hn=>by
  have hi:=ZB hn
  unfold zV
  rw[if_pos (by omega),if_pos ⟨by omega,by omega⟩,qQA,hn,qQx,hq,qQx,q2N hi (by omega)]
  split<;>rfl) (by
  unfold zV
  rw[if_neg (by omega)])
 unfold Qj Zp
 rcases h with ⟨h1,i,h2⟩|⟨h1,h2⟩
 ·rw[h2,qQx,Sum.elim_inl,qQx,h1,qRy (by omega)]
 ·rw[h2,qQx,Sum.elim_inr,qQx,h1,decide_eq_false (by omega)]
theorem qxF {l:List qa} (hl:l.length≤1000) {i:Nat} {a:qa} (ha:l[i]?=some a) (T:List Int):(!a.Sources.any fun n=>decide (1<q4J 0 (qoe (l.map fun a=>a.Sources) []) n) && !(T.any fun x=>n==x))=a.Sources.all fun n=>(T.any fun x=>n==x) || !qsp l i n:=by
 rw[List.not_any_eq_all_not]
 have key:∀n∈a.Sources,(!(decide (1<q4J 0 (qoe (l.map fun a=>a.Sources) []) n) && !(T.any fun x=>n==x)))=((T.any fun x=>n==x) || !qsp l i n):=fun n hn=>by
  have e:decide (1<q4J 0 (qoe (l.map fun a=>a.Sources) []) n)=qsp l i n:=by
   rw[Bool.eq_iff_iff,decide_eq_true_iff,qv6,qxa _ (by rw[qRg];omega)]
   exact qqE (i:=i) (s:=a.Sources) (by rw[qQL,ha];rfl) hn
  rw[e]
  cases qsp l i n<;>cases(T.any fun x=>n==x)<;>rfl
 rw[Bool.eq_iff_iff,qQO,qQO]
 exact⟨fun h n hn=>by rw[←key n hn];exact h n hn,fun h n hn=>by rw[key n hn];exact h n hn⟩
theorem ql1 (s:qd) (l:List qa) (hl:l.length≤1000) (hf:∀a∈l,q1b a) (k:Nat) (hk:k<l.length):JK l s (k:Int)=some (qq7 s l k):=by
 have hb:l[k]?=some l[k]:=qQz hk
 have hfb:q1b l[k]:=hf _ (qRp hk)
 have h:=qok (step:=ZJ l s (k:Int) (qoe (l.map fun a=>a.Sources) []) l ((l.length:Nat):Int)) l.length (plc s l k) (Sum.inl ()) (Sum.inr ()) (fun i hi=>by
  have ha:l[i]?=some l[i]:=qQz hi
  have hfa:q1b l[i]:=hf _ (qRp hi)
  have hp:plc s l k i=qBJ s l i k l[i] l[k]:=by unfold plc;rw[ha,hb]
  rw[hp]
  unfold ZJ qBJ
  rw[if_pos (by omega),if_pos ⟨by omega,by omega⟩,qQA,ha,qQx,q2N hi (by omega)]
  by_cases hik:i=k
  ·rw[if_pos (beq_iff_eq.2 (by omega:(i:Int)=(k:Int))),decide_eq_false (by simpa using hik)];rfl
  ·rw[if_neg (by simpa using fun h:(i:Int)=(k:Int)=>hik (by omega)),if_pos ⟨by omega,by omega⟩,qQA,hb,qQx,qoX s hfa,qQx,qRy hik,qR4]
   cases q9g s l[i] l[k]
   ·rfl
   ·rw[if_neg (by decide),qkl _ hfa.1 _ _ _ _ hb hfb,qQx,qxF hl ha,qR4]
    split<;>rfl) (by
  unfold ZJ
  rw[if_neg (by omega)])
 unfold JK
 rw[qzN l hl hf,qQx,h,qQx]
 unfold qq7
 cases(List.range l.length).any (plc s l k)<;>rfl
end
noncomputable section
open Go.RowKit
theorem qmq (a b:qe):ceq a b=ceq b a:=by unfold ceq;rw[BEq.comm,BEq.comm (a:=a.Code.toList)]
theorem qz1 {a b:qe} (h:ceq a b=true) (c:qe):ceq a c=ceq b c:=by
 unfold ceq at h ⊢
 rw[qR3,beq_iff_eq,beq_iff_eq] at h
 rw[h.1,h.2]
theorem qaI {a b:List Int}:qh9 a b=true↔∃n,n∈a∧n∈b:=by unfold qh9;simp
theorem qqw (a b:List Int):qh9 a b=qh9 b a:=by
 rw[Bool.eq_iff_iff,qaI,qaI]
 exact⟨fun⟨n,h1,h2⟩=>⟨n,h2,h1⟩,fun⟨n,h1,h2⟩=>⟨n,h2,h1⟩⟩
theorem qoS (a b:qa):q7Q a b=q7Q b a:=by
 unfold q7Q
 rw[qmq,qqw]
 by_cases h:a.Bundle=b.Bundle
 ·rw[h,show decide (a.Path=b.Path)=decide (b.Path=a.Path) from by simp[eq_comm]]
 ·rw[beq_eq_false_iff_ne.2 h,beq_eq_false_iff_ne.2 (Ne.symm h)];simp
theorem qet (p:qg) (a b:qa):q5t p a b=q5t p b a:=by unfold q5t;rw[qoS,Bool.and_right_comm]
theorem qha (p:qg) (day:Int):∀(r done:List qa),tgL p day done r=true↔(∀a∈r,qaV p a day=false)∧(∀a∈r,∀b∈done,q5t p a b=true)∧r.Pairwise fun b a=>q5t p a b=true
 | [],done=>by simp[tgL]
 | a::r,done=>by
  rw[tgL,qR3,qR3,qha p day r,Bool.not_eq_true',qQO,List.pairwise_cons]
  constructor
  ·rintro⟨⟨h1,h2⟩,h3,h4,h5⟩
   refine⟨fun x hx=>?_,fun x hx b hb=>?_,fun x hx=>h4 x hx a (by simp),h5⟩
   ·rcases qQT.1 hx with rfl|hx
    ·exact h1
    ·exact h3 x hx
   ·rcases qQT.1 hx with rfl|hx
    ·exact h2 b hb
    ·exact h4 x hx b (by simp[hb])
  ·rintro⟨h1,h2,h3,h4⟩
   refine⟨⟨h1 a (by simp),h2 a (by simp)⟩,fun x hx=>h1 x (by simp[hx]),fun x hx b hb=>?_,h4⟩
   rcases qR1.1 hb with hb|hb
   ·exact h2 x (by simp[hx]) b hb
   ·rw[qRo.1 hb];exact h3 x hx
def wT (n:qb) (s:qd) (T:List (qa×Int)) (x:Int):qV:=((T.filter fun t=>t.2==x).map Prod.fst).foldl (qgi n s) ld0
theorem qws (x:Int):∀T:List (qa×Int),Q6 (fun j=>(T.map Prod.snd).getD j (-1)==x) (T.map Prod.fst)=(T.filter fun t=>t.2==x).map Prod.fst
 | []=>rfl
 | t::T=>by
  rw[qQU,qQU,Q6]
  have:=qws x T
  show(if(t.2==x)=true then[t.1] else[])++Q6 (fun j=>(T.map Prod.snd).getD j (-1)==x) (T.map Prod.fst)=_
  rw[this,List.filter_cons]
  split<;>rfl
theorem qqn (s:qd) (l l':List qa) (a b:Nat→Int) (h:∀(n:qb) (x:Int),(qgx n s l fun j=>a j==x).many=(qgx n s l' fun j=>b j==x).many∧(qcC n (qgx n s l fun j=>a j==x)=true→qcC n (qgx n s l' fun j=>b j==x)=true)) :
  ∀(n:qb) (nx:Nat),(q5C s l a n nx).1=(q5C s l' b n nx).1∧((q5C s l a n nx).2=true→(q5C s l' b n nx).2=true):=by
 intro n
 induction n using qb.rec (motive_2:=fun L=>∀(al:Bool) (nx:Nat),(q1v s l a al L nx).1=(q1v s l' b al L nx).1∧(q1v s l a al L nx).2.1≤(q1v s l' b al L nx).2.1∧((q1v s l' b al L nx).2.2=true→(q1v s l a al L nx).2.2=true)) with
 | mk k n m S L ih=>
  intro nx
  rw[q3Z,q3Z]
  by_cases hk:k=1∨k=2
  ·rw[if_pos hk,if_pos hk]
   obtain⟨h1,h2⟩:=h ⟨k,n,m,S,L⟩ (nx:Int)
   exact⟨by rw[h1],h2⟩
  ·rw[if_neg hk,if_neg hk]
   obtain⟨h1,h2,h3⟩:=ih (k==3) nx
   refine⟨h1,fun h4=>?_⟩
   simp only[qR3,Bool.not_eq_true',qRx] at h4 ⊢
   refine⟨qQZ.2 fun e=>?_,Int.le_trans h4.2 (Int.ofNat_le.2 h2)⟩
   have:=h3 e
   rw[h4.1] at this;cases this
 | nil=>rw[q1v,q1v];exact⟨rfl,qQN _,id⟩
 | cons x L h1 h2=>
  rename_i al nx
  rw[q1v,q1v]
  obtain⟨a1,a2⟩:=h1 nx
  obtain⟨b1,b2,b3⟩:=h2 al (nx+lvN x)
  refine⟨by rw[a1,b1],?_,?_⟩
  ·simp only
   cases e:(q5C s l a x nx).2
   ·rw[if_neg (by decide)];omega
   ·rw[a2 e];simp only[if_true];omega
  ·simp only[qR2,qR3,Bool.not_eq_true']
   rintro(⟨h,h'⟩|h)
   ·left
    rw[a1]
    exact⟨qQZ.2 fun e=>(by rw[a2 e] at h;cases h),h'⟩
   ·exact .inr (b3 h)
def qEL (n:qb) (s:qd) (T:List (qa×Int)):Bool:=qnd n s (T.map Prod.fst) (T.map Prod.snd)
theorem qeX (s:qd) {T T':List (qa×Int)} (h:∀(n:qb) (x:Int),(wT n s T x).many=(wT n s T' x).many∧(qcC n (wT n s T x)=true→qcC n (wT n s T' x)=true)) (n:qb) (hm:qEL n s T=true):qEL n s T'=true:=by
 refine(qqn s _ _ _ _ (fun n x=>?_) n 0).2 hm
 have:=h n x
 unfold wT at this
 rw[←qws,←qws] at this
 exact this
theorem qjn (z:Int) (a b:qa):w64 (w64 (z+a.Credits)+b.Credits)=w64 (w64 (z+b.Credits)+a.Credits):=by
 rw[qgU,qgU];congr 1;omega
theorem qlW (p:qg) (z:Int) (a b:qa):qh6 p (qh6 p z a) b=qh6 p (qh6 p z b) a:=by
 unfold qh6
 split<;>split<;>first|rfl|exact qjn _ _ _
structure QT (p:qg) (s:qd) (day:Int) (T:List (qa×Int)):Prop where
 old:∀t∈T,qaV p t.1 day=false
 pr:T.Pairwise fun a b=>q5t p a.1 b.1=true
 tot:p.Total≤qxZ (T.map Prod.fst)
 own:p.Own≤(T.map Prod.fst).foldl (qh6 p) 0
 rng:∀t∈T,-1≤t.2∧t.2<(lvN p.Need:Int)
 met:qEL p.Need s T=true
theorem QT.perm {p:qg} {s:qd} {day:Int} {T T':List (qa×Int)} (h:QT p s day T) (hp:T.Perm T'):QT p s day T':=by
 refine⟨fun t ht=>h.old t (hp.mem_iff.2 ht),(hp.pairwise_iff fun {x y} hxy=>by rw[qet];exact hxy).1 h.pr,?_,?_,fun t ht=>h.rng t (hp.mem_iff.2 ht),qeX s (fun n x=>?_) _ h.met⟩
 ·have:=(hp.map Prod.fst).foldl_eq' (f:=fun n (a:qa)=>w64 (n+a.Credits)) (fun x _ y _ z=>qjn z x y) 0
  have h2:=h.tot
  unfold qxZ at h2 ⊢
  rw[←this];exact h2
 ·rw[←(hp.map Prod.fst).foldl_eq' (f:=qh6 p) (fun x _ y _ z=>qlW p z x y) 0];exact h.own
 ·have:wT n s T x=wT n s T' x:=((hp.filter _).map Prod.fst).foldl_eq' (fun a _ b _ z=>qlC n s z a b) ld0
  rw[this];exact⟨rfl,id⟩
theorem qhG:∀(L:List qa) (z:Int),(∀a∈L,0≤a.Credits∧a.Credits≤1000)→0≤z→z+1000*L.length≤1000000000→L.foldl (fun n a=>w64 (n+a.Credits)) z=z+(L.map (·.Credits)).sum
 | [],z,_,_,_=>by simp
 | a::L,z,h,h0,h1=>by
  have ha:=h a (by simp)
  rw[qQI] at h1
  rw[qRB,QI (by omega) (by omega),qhG L _ (fun b hb=>h b (by simp[hb])) (by omega) (by omega),qQU,List.sum_cons,Int.add_assoc]
def qtQ (p:qg) (a:qa):Int:=if a.Course.School=p.School∧a.Bundle=0 then a.Credits else 0
theorem qhQ (p:qg):∀(L:List qa) (z:Int),(∀a∈L,0≤a.Credits∧a.Credits≤1000)→0≤z→z+1000*L.length≤1000000000→L.foldl (qh6 p) z=z+(L.map (qtQ p)).sum
 | [],z,_,_,_=>by simp
 | a::L,z,h,h0,h1=>by
  have ha:=h a (by simp)
  rw[qQI] at h1
  rw[qRB,qQU,List.sum_cons]
  have e:qh6 p z a=z+qtQ p a∧0≤qtQ p a∧qtQ p a≤1000:=by
   unfold qh6 qtQ
   split
   ·exact⟨QI (by omega) (by omega),ha⟩
   ·omega
  rw[e.1,qhQ p L _ (fun b hb=>h b (by simp[hb])) (by omega) (by omega),Int.add_assoc]
theorem qdV (n:qb) (s:qd):∀(L:List qa) (z:qV),(∀a∈L,0≤a.Credits∧a.Credits≤1000)→0≤z.many→0≤z.credits→z.many+L.length≤1000000000→z.credits+1000*L.length≤1000000000→L.foldl (qgi n s) z=⟨z.many+L.length,z.credits+(L.map (·.Credits)).sum,z.fine&&L.all (qcE n s)⟩
 | [],z,_,_,_,_,_=>by cases z;simp
 | a::L,z,h,h0,h1,h2,h3=>by
  have ha:=h a (by simp)
  rw[qQI] at h2 h3
  rw[qRB,qdV n s L _ (fun b hb=>h b (by simp[hb]))]
  ·unfold qgi
   simp only
   rw[QI (by omega) (by omega),QI (by omega) (by omega),qQI,qQU,List.sum_cons,List.all_cons,Bool.and_assoc]
   congr 1<;>omega
  all_goals unfold qgi;simp only
  all_goals rw[QI (by omega) (by omega)];omega
theorem qgP {s:qd} {a b m:Int} (h1:q8b s a b=true) (h2:q8b s b m=true):q8b s a m=true:=by
 unfold q8b at h1 h2 ⊢
 rw[qR3,qR2,beq_iff_eq,beq_iff_eq] at h1 h2 ⊢
 refine⟨h1.1,?_⟩
 rcases h1.2 with e|e
 ·rw[e];exact h2.2
 ·rcases h2.2 with e2|e2
  ·rw[←e2];exact .inr e
  ·by_cases hw:s.Worst<s.Best
   ·rw[qRy hw,qRx] at e e2 ⊢
    right;omega
   ·rw[decide_eq_false hw,decide_eq_false_iff_not] at e e2 ⊢
    omega
structure Cvr (s:qd) (a b:qa):Prop where
 crs:ceq a.Course b.Course=true
 bnd:a.Bundle=b.Bundle
 pth:a.Path=b.Path
 crd:b.Credits≤a.Credits
 grd:q8b s a.Grade b.Grade=true
theorem qkV {s:qd} {a b:qa} (h:q9g s a b=true):Cvr s a b:=by
 unfold q9g at h
 simp only[qR3,qRx,beq_iff_eq] at h
 obtain⟨⟨⟨⟨⟨h1,h2⟩,h3⟩,h4⟩,-⟩,h6⟩:=h
 exact⟨h1,h2,h3,h4,h6⟩
theorem Cvr.fits {s:qd} {a b:qa} (h:Cvr s a b) (n:qb) (hf:qcE n s b=true):qcE n s a=true:=by
 unfold qcE at hf ⊢
 rw[qR3,qR3] at hf ⊢
 exact⟨⟨hf.1.1,by rw[show ceq a.Course=ceq b.Course from funext (qz1 h.crs)];exact hf.1.2⟩,qgP h.grd hf.2⟩
theorem Cvr.pair {s:qd} {a b:qa} (h:Cvr s a b) (p:qg) {z:qa} (hs:∀n,n∈a.Sources→n∈z.Sources→n∈b.Sources) (hp:q5t p b z=true):q5t p a z=true:=by
 have e1:=qz1 h.crs
 have e2:∀c,qhs ⟨a.Course,c⟩=qhs ⟨b.Course,c⟩:=fun c=>funext fun x=>by unfold qhs;rw[e1]
 have e3:∀c,qhs ⟨c,a.Course⟩=qhs ⟨c,b.Course⟩:=fun c=>funext fun x=>by unfold qhs;rw[e1]
 unfold q5t at hp ⊢
 rw[e2,e3]
 rw[Bool.and_assoc,qR3] at hp ⊢
 refine⟨?_,hp.2⟩
 have:=hp.1
 unfold q7Q at this ⊢
 rw[e1,h.bnd,h.pth]
 rw[qR3,qR2,Bool.not_eq_true',Bool.not_eq_true'] at this ⊢
 refine⟨this.1,?_⟩
 rcases this.2 with g|g
 ·exact .inl g
 ·refine .inr (qQZ.2 fun e=>?_)
  obtain⟨n,n1,n2⟩:=qaI.1 e
  rw[qaI.2 ⟨n,hs n n1 n2,n2⟩] at g;cases g
theorem QT.repl {p:qg} {s:qd} {day:Int} {a b:qa} {v:Int} {R:List (qa×Int)} (h:QT p s day ((b,v)::R)) (hc:Cvr s a b) (ha:qaV p a day=false) (hb:0≤b.Credits) (ha2:a.Credits≤1000) (hR:∀t∈R,0≤t.1.Credits∧t.1.Credits≤1000) (hl:R.length≤100)
  (hs:∀t∈R,∀n,n∈a.Sources→n∈t.1.Sources→n∈b.Sources):QT p s day ((a,v)::R):=by
 have hcrd:=hc.crd
 have hpr:=List.pairwise_cons.1 h.pr
 have hR1:∀x∈R.map Prod.fst,0≤x.Credits∧x.Credits≤1000:=fun x hx=>by
  obtain⟨t,ht,rfl⟩:=qRi.1 hx
  exact hR t ht
 have hbd:∀y∈[a,b],∀x∈y::R.map Prod.fst,0≤x.Credits∧x.Credits≤1000:=fun y hy x hx=>by
  rcases qQT.1 hx with rfl|hx
  ·simp only[qQT,List.not_mem_nil,or_false] at hy
   rcases hy with rfl|rfl<;>omega
  ·exact hR1 x hx
 have hlen:(R.map Prod.fst).length≤100:=by rw[qRg];exact hl
 refine⟨fun t ht=>?_,List.pairwise_cons.2 ⟨fun t ht=>hc.pair p (hs t ht) (hpr.1 t ht),hpr.2⟩,?_,?_,fun t ht=>?_,qeX s (fun n x=>?_) _ h.met⟩
 ·rcases qQT.1 ht with rfl|ht
  ·exact ha
  ·exact h.old t (by simp[ht])
 ·have:=h.tot
  unfold qxZ at this ⊢
  rw[qQU] at this ⊢
  rw[qhG _ 0 (hbd b (by simp)) (by omega) (by simp;omega),qQU,List.sum_cons] at this
  rw[qhG _ 0 (hbd a (by simp)) (by omega) (by simp;omega),qQU,List.sum_cons]
  omega
 ·have:=h.own
  rw[qQU] at this ⊢
  rw[qhQ p _ 0 (hbd b (by simp)) (by omega) (by simp;omega),qQU,List.sum_cons] at this
  rw[qhQ p _ 0 (hbd a (by simp)) (by omega) (by simp;omega),qQU,List.sum_cons]
  have e:qtQ p b≤qtQ p a:=by
   have hk:=hc.crs
   unfold ceq at hk
   rw[qR3,beq_iff_eq] at hk
   unfold qtQ
   rw[hk.1,hc.bnd]
   split
   ·exact hcrd
   ·exact Int.le_refl _
  omega
 ·rcases qQT.1 ht with rfl|ht
  ·exact h.rng (b,v) (by simp)
  ·exact h.rng t (by simp[ht])
 ·unfold wT
  rw[List.filter_cons,List.filter_cons]
  simp only
  by_cases e:(v==x)=true
  ·rw[if_pos e,if_pos e,qQU,qQU]
   have hf:∀y∈[a,b],∀z∈y::(R.filter fun t=>t.2==x).map Prod.fst,0≤z.Credits∧z.Credits≤1000:=fun y hy z hz=>hbd y hy z (by
    rcases qQT.1 hz with h|hz
    ·rw[h];simp
    ·exact qQF _ ((List.filter_sublist.map Prod.fst).subset hz))
   have hfl:((R.filter fun t=>t.2==x).map Prod.fst).length≤100:=by rw[qRg];exact qR8 (List.length_filter_le _ _) hl
   have h0:ld0.many=0∧ld0.credits=0:=⟨rfl,rfl⟩
   rw[qdV n s _ ld0 (hf a (by simp)) (by omega) (by omega) (by rw[qQI];omega) (by rw[qQI];omega),qdV n s _ ld0 (hf b (by simp)) (by omega) (by omega) (by rw[qQI];omega) (by rw[qQI];omega)]
   refine⟨rfl,fun hm=>?_⟩
   unfold qcC at hm ⊢
   by_cases hk:n.Kind=1
   ·rw[if_pos hk] at hm ⊢
    simp only[List.all_cons,qQU,List.sum_cons,qR3,qRx,beq_iff_eq] at hm ⊢
    exact⟨⟨hm.1.1,hc.fits n hm.1.2.1,hm.1.2.2⟩,hm.2⟩
   ·rw[if_neg hk] at hm ⊢
    simp only[List.all_cons,qQU,List.sum_cons,qR3,qRx,beq_iff_eq] at hm ⊢
    exact⟨⟨⟨hm.1.1.1,hc.fits n hm.1.1.2.1,hm.1.1.2.2⟩,hm.1.2⟩,by omega⟩
  ·rw[if_neg e,if_neg e];exact⟨rfl,id⟩
end
noncomputable section
def q9c (p:Nat→Bool):Nat→Option Nat
 | 0=>none
 | n+1=>if p n=true then some n else q9c p n
theorem qcL {p:Nat→Bool}:∀{n:Nat},q9c p n=none↔∀k,k<n→p k=false
 | 0=>Iff.intro (fun _ k hk=>absurd hk (Nat.not_lt_zero k)) (fun _=>rfl)
 | n+1=>by
  unfold q9c
  by_cases h:p n=true
  ·rw[if_pos h]
   exact Iff.intro (fun h'=>by cases h') (fun h'=>by rw[h' n (by omega)] at h;cases h)
  ·rw[if_neg h,qcL]
   refine⟨fun h' k hk=>?_,fun h' k hk=>h' k (by omega)⟩
   by_cases hkn:k=n
   ·rw[hkn];exact qQZ.2 h
   ·exact h' k (by omega)
theorem q4m {p:Nat→Bool} {i:Nat}:∀{n:Nat},q9c p n=some i→i<n∧p i=true∧∀k,i<k→k<n→p k=false
 | 0,h=>by cases h
 | n+1,h=>by
  unfold q9c at h
  by_cases hp:p n=true
  ·rw[if_pos hp] at h
   injection h with h
   subst h
   exact⟨by omega,hp,fun k h1 h2=>by omega⟩
  ·rw[if_neg hp] at h
   obtain⟨h1,h2,h3⟩:=q4m h
   refine⟨by omega,h2,fun k hk1 hk2=>?_⟩
   by_cases hkn:k=n
   ·rw[hkn];exact qQZ.2 hp
   ·exact h3 k hk1 (by omega)
section
variable {A:Type} (cv:List A→Nat→Bool)
def qmp:Nat→List A→List A
 | 0,l=>l
 | f+1,l=>match q9c (cv l) l.length with
  | none=>l
  | some k=>qmp f (l.eraseIdx k)
def red (l:List A):List A:=qmp cv l.length l
variable {cv}
theorem qfc:∀(f g:Nat) (l:List A),l.length≤f→l.length≤g→qmp cv f l=qmp cv g l
 | 0,0,l,_,_=>rfl
 | 0,g+1,l,h,_=>by
  have:l=[]:=qQQ (by omega)
  subst this;rfl
 | f+1,0,l,_,h=>by
  have:l=[]:=qQQ (by omega)
  subst this;rfl
 | f+1,g+1,l,h1,h2=>by
  unfold qmp
  cases h:q9c (cv l) l.length with
  | none=>rfl
  | some k=>
   have hk:=(q4m h).1
   have hl:(l.eraseIdx k).length=l.length-1:=by rw[List.length_eraseIdx,if_pos hk]
   exact qfc f g _ (by omega) (by omega)
theorem qia {l:List A} (h:q9c (cv l) l.length=none):red cv l=l:=by
 unfold red
 cases hl:l.length with
 | zero=>rfl
 | succ n=>unfold qmp;rw[h]
theorem qj1 {l:List A} {k:Nat} (h:q9c (cv l) l.length=some k):red cv l=red cv (l.eraseIdx k):=by
 have hk:=(q4m h).1
 have hl:(l.eraseIdx k).length=l.length-1:=by rw[List.length_eraseIdx,if_pos hk]
 show qmp cv l.length l=qmp cv (l.eraseIdx k).length (l.eraseIdx k)
 cases hn:l.length with
 | zero=>omega
 | succ n=>
  have e:qmp cv (n+1) l=qmp cv n (l.eraseIdx k):=by
   conv=>lhs;unfold qmp
   rw[h]
  rw[e]
  exact qfc n _ (l.eraseIdx k) (by omega) (qQN _)
theorem qgV {M:List A→Prop} (hstep:∀l k,q9c (cv l) l.length=some k→M l→M (l.eraseIdx k)):∀(n:Nat) (l:List A),l.length≤n→M l→M (red cv l)
 | 0,l,hl,h=>by
  have:l=[]:=qQQ (by omega)
  subst this;exact h
 | n+1,l,hl,h=>by
  cases hc:q9c (cv l) l.length with
  | none=>rw[qia hc];exact h
  | some k=>
   have hk:=(q4m hc).1
   have hlen:(l.eraseIdx k).length=l.length-1:=by rw[List.length_eraseIdx,if_pos hk]
   rw[qj1 hc]
   exact qgV hstep n _ (by omega) (hstep l k hc h)
theorem qhz (l:List A):(red cv l).Sublist l:=
 qgV (M:=fun x=>x.Sublist l) (fun x k _ h=>(List.eraseIdx_sublist x k).trans h) l.length l (qQN _) (List.Sublist.refl l)
end
def grd {A:Type} (sm:A→A→Bool):List A→List A→List A
 | [],t=>t
 | _::_,[]=>[]
 | a::l,b::t=>if sm a b=true then grd sm l t else grd sm l (b::t)
end
noncomputable section
open Go.RowKit
def qcy (p:qg) (s:qd) (day:Int) (l:List qa):Prop:=∃T:List (qa×Int),(T.map Prod.fst).Sublist l∧QT p s day T
theorem qcy.more {p:qg} {s:qd} {day:Int} {l l':List qa} (h:qcy p s day l) (hs:l.Sublist l'):qcy p s day l':=by
 obtain⟨T,h1,h2⟩:=h
 exact⟨T,h1.trans hs,h2⟩
theorem qcy.young {p:qg} {s:qd} {day:Int} {l:List qa} (h:qcy p s day l):qcy p s day (l.filter fun a => !qaV p a day):=by
 obtain⟨T,h1,h2⟩:=h
 refine⟨T,?_,h2⟩
 have:=h1.filter fun a => !qaV p a day
 rwa [List.filter_eq_self.2 fun a ha=>by
  obtain⟨t,ht,rfl⟩:=qRi.1 ha
  rw[h2.old t ht];rfl] at this
theorem qg7 {α β:Type} {f:α→β} {T:List α} {A B:List β} (h:(T.map f).Sublist (A++B)):∃T1 T2,T=T1++T2∧(T1.map f).Sublist A∧(T2.map f).Sublist B:=by
 obtain⟨l1,l2,e,h1,h2⟩:=List.sublist_append_iff.1 h
 obtain⟨T1,T2,rfl,rfl,rfl⟩:=List.map_eq_append_iff.1 e
 exact⟨T1,T2,rfl,h1,h2⟩
theorem qje {α β:Type} {f:α→β} {T:List α} {b:β} {B:List β} (h:(T.map f).Sublist (b::B)):(T.map f).Sublist B∨∃t R,T=t::R∧f t=b∧(R.map f).Sublist B:=by
 rcases List.sublist_cons_iff.1 h with h|⟨r,e,h⟩
 ·exact .inl h
 ·obtain⟨t,R,rfl,e1,rfl⟩:=List.map_eq_cons_iff.1 e
  exact .inr ⟨t,R,rfl,e1,h⟩
theorem qcy.step {p:qg} {s:qd} {day:Int} {l:List qa} (hl:l.length≤100) (hy:∀a∈l,qaV p a day=false) (hcr:∀a∈l,0≤a.Credits∧a.Credits≤1000) {k:Nat} (hk:k<l.length) (hc:qq7 s l k=true) (h:qcy p s day l):qcy p s day (l.eraseIdx k):=by
 obtain⟨T,hT,hQ⟩:=h
 unfold qq7 at hc
 obtain⟨i,hi,hp⟩:=qRs.1 hc
 have hi:=qRu.1 hi
 have ha:l[i]?=some l[i]:=qQz hi
 have hb:l[k]?=some l[k]:=qQz hk
 have hac:=hcr _ (qRp hi)
 have hbc:=hcr _ (qRp hk)
 have hao:=hy _ (qRp hi)
 unfold plc at hp
 rw[ha,hb] at hp
 obtain⟨a,hae⟩:∃a,a=l[i]:=⟨_,rfl⟩
 obtain⟨b,hbe⟩:∃b,b=l[k]:=⟨_,rfl⟩
 rw[←hae] at ha hac hao hp
 rw[←hbe] at hb hbc hp
 have hp:qBJ s l i k a b=true:=hp
 unfold qBJ at hp
 rw[qR3,qR3,qRx] at hp
 obtain⟨⟨hik,hcov⟩,hsrc⟩:=hp
 have hcv:=qkV hcov
 have e1:l=l.take k++b::l.drop (k+1):=by rw[hbe,←List.drop_eq_getElem_cons hk,qRm]
 have e2:l.eraseIdx k=l.take k++l.drop (k+1):=List.eraseIdx_eq_take_drop_succ ..
 have hT2:=hT
 rw[e1] at hT2
 obtain⟨T1,T2,rfl,h1,h2⟩:=qg7 hT2
 rcases qje h2 with h2|⟨⟨b',v⟩,T3,rfl,eb,h3⟩
 ·refine⟨T1++T2,?_,hQ⟩
  rw[e2,List.map_append]
  exact h1.append h2
 ·obtain rfl:b'=b:=eb
  have hR:((T1++T3).map Prod.fst).Sublist (l.eraseIdx k):=by
   rw[e2,List.map_append]
   exact h1.append h3
  have hQ1:QT p s day ((b',v)::(T1++T3)):=hQ.perm List.perm_middle
  obtain⟨i',hi'⟩:∃i',i'=if i<k then i else i-1:=⟨_,rfl⟩
  have hm:(l.eraseIdx k)[i']?=some a:=by
   rw[List.getElem?_eraseIdx,hi']
   by_cases hlt:i<k
   ·rw[if_pos hlt,if_pos hlt];exact ha
   ·rw[if_neg hlt,if_neg (by omega),show i-1+1=i by omega];exact ha
  obtain⟨m,hme⟩:∃m,m=l.eraseIdx k:=⟨_,rfl⟩
  rw[←hme] at hm hR ⊢
  obtain⟨him,hma⟩:=qQB.1 hm
  have e3:m=m.take i'++a::m.drop (i'+1):=by rw[←hma,←List.drop_eq_getElem_cons him,qRm]
  have hR2:=hR
  rw[e3] at hR2
  obtain⟨R1,R2,eR,g1,g2⟩:=qg7 hR2
  rw[eR] at hQ1 hR
  have hpr:=(List.pairwise_cons.1 hQ1.pr).1
  rcases qje g2 with g2|⟨⟨a',v'⟩,R3,rfl,ea,g3⟩
  ·have hmem:∀t∈R1++R2,t.1∈m:=fun t ht=>hR.subset (qRi.2 ⟨t,ht,rfl⟩)
   have hml:∀x∈m,x∈l:=fun x hx=>by rw[hme] at hx;exact(List.eraseIdx_sublist l k).subset hx
   have hlen:(R1++R2).length≤100:=by
    have q1:=hR.length_le
    have q2:m.length≤l.length:=by rw[hme];exact(List.eraseIdx_sublist l k).length_le
    rw[qRg] at q1
    omega
   have hidx:∀t∈R1++R2,∃j,j≠i∧l[j]?=some t.1:=fun t ht=>by
    have:∃j,j≠i'∧m[j]?=some t.1:=by
     rcases qR1.1 ht with ht|ht
     ·obtain⟨j,hj⟩:=List.getElem?_of_mem (g1.subset (qRi.2 ⟨t,ht,rfl⟩))
      obtain⟨hjl,-⟩:=qQB.1 hj
      rw[qR0] at hjl
      rw[qR6 (by omega)] at hj
      exact⟨j,by omega,hj⟩
     ·obtain⟨j,hj⟩:=List.getElem?_of_mem (g2.subset (qRi.2 ⟨t,ht,rfl⟩))
      rw[List.getElem?_drop] at hj
      exact⟨i'+1+j,by omega,hj⟩
    obtain⟨j,hj,hj2⟩:=this
    rw[hme,List.getElem?_eraseIdx] at hj2
    by_cases hjk:j<k
    ·rw[if_pos hjk] at hj2
     exact⟨j,by rw[hi'] at hj;split at hj<;>omega,hj2⟩
    ·rw[if_neg hjk] at hj2
     exact⟨j+1,by rw[hi'] at hj;split at hj<;>omega,hj2⟩
   have hQ2:QT p s day ((a,v)::(R1++R2)):=hQ1.repl hcv hao hbc.1 hac.2 (fun t ht=>hcr _ (hml _ (hmem t ht))) hlen fun t ht n hn hn2=>by
    obtain⟨j,hj,hj2⟩:=hidx t ht
    have hs:=qQO.1 hsrc n hn
    rw[qR2] at hs
    rcases hs with hs|hs
    ·obtain⟨x,hx,hxe⟩:=qRs.1 hs
     rw[beq_iff_eq] at hxe
     rw[hxe];exact hx
    ·exfalso
     have:qsp l i n=true:=by
      unfold qsp
      refine qRs.2 ⟨j,qRu.2 (qQB.1 hj2).1,?_⟩
      rw[qRy hj,hj2]
      show(t.1.Sources.any fun x=>x==n)=true
      exact qRs.2 ⟨n,hn2,by simp⟩
     rw[this] at hs;cases hs
   refine⟨R1++(a,v)::R2,?_,hQ2.perm List.perm_middle.symm⟩
   rw[e3,List.map_append,qQU]
   exact g1.append (g2.cons_cons a)
  ·exfalso
   obtain rfl:a'=a:=ea
   have:=hpr (a',v') (by simp)
   unfold q5t q7Q at this
   rw[qmq,hcv.crs] at this
   simp at this
theorem qcy.left {p:qg} {s:qd} {day:Int} {l:List qa} (hl:l.length≤100) (hcr:∀a∈l,0≤a.Credits∧a.Credits≤1000):qcy p s day l↔qcy p s day (red (qq7 s) (l.filter fun a => !qaV p a day)):=by
 refine⟨fun h=>?_,fun h=>h.more ((qhz _).trans List.filter_sublist)⟩
 have:=qgV (cv:=qq7 s) (M:=fun m=>m.Sublist (l.filter fun a => !qaV p a day)∧qcy p s day m) (fun m k hc hm=>by
  obtain⟨h1,h2,-⟩:=q4m hc
  have hml:=hm.1.length_le
  have hfl:=List.length_filter_le (fun a => !qaV p a day) l
  refine⟨(List.eraseIdx_sublist m k).trans hm.1,hm.2.step (by omega) (fun a ha=>?_) (fun a ha=>?_) h1 h2⟩
  ·have:=(qRt.1 (hm.1.subset ha)).2
   simpa using this
  ·exact hcr a (qRt.1 (hm.1.subset ha)).1) _ _ (qQN _) ⟨List.Sublist.refl _,h.young⟩
 exact this.2
theorem qaE {α:Type}:∀(l:List α) (m:Nat→Bool),(Q6 m l).Sublist l
 | [],_=>List.Sublist.refl _
 | a::l,m=>by
  rw[Q6]
  cases m 0
  ·exact(qaE l _).cons a
  ·exact(qaE l _).cons_cons a
theorem qgO {α:Type}:∀{l L:List α},L.Sublist l→∃m,L=Q6 m l
 | _,_,.slnil=>⟨fun _=>false,rfl⟩
 | _,_,.cons a h=>by
  obtain⟨m,hm⟩:=qgO h
  exact⟨fun k=>match k with | 0=>false|k+1=>m k,by rw[Q6,hm];rfl⟩
 | _,_,.cons_cons a h=>by
  obtain⟨m,hm⟩:=qgO h
  exact⟨fun k=>match k with | 0=>true|k+1=>m k,by rw[Q6,hm];rfl⟩
theorem qe7.has {p:qg} {s:qd} {l:List qa} {day:Int} {u:ZS} (h:qe7 p s l day u):qcy p s day l:=by
 obtain⟨Y,-,hY,-⟩:=h.mask
 have hlen:(q6R l u.Taken).length=u.Leaf.length:=by rw[qb2 h.inc,h.len]
 have m1:((q6R l u.Taken).zip u.Leaf).map Prod.fst=q6R l u.Taken:=List.map_fst_zip (by omega)
 have m2:((q6R l u.Taken).zip u.Leaf).map Prod.snd=u.Leaf:=List.map_snd_zip (by omega)
 have ht:=h.tog
 unfold qg9 at ht
 rw[qR3,qR3,qRx,qRx,qha] at ht
 obtain⟨⟨⟨t1,-,t2⟩,t3⟩,t4⟩:=ht
 refine⟨(q6R l u.Taken).zip u.Leaf,?_,⟨fun t ht=>?_,?_,?_,?_,fun t ht=>?_,?_⟩⟩
 ·rw[m1,hY,qdT]
  exact(qaE _ _).trans (qaE _ _)
 ·exact t1 _ (by rw[←m1];exact qRi.2 ⟨t,ht,rfl⟩)
 ·have:((q6R l u.Taken).zip u.Leaf |>.map Prod.fst).Pairwise fun b a=>q5t p b a=true:=by
   rw[m1];exact t2.imp fun {x y} hxy=>by rw[qet];exact hxy
  exact List.pairwise_map.1 this
 ·rw[m1];exact t3
 ·rw[m1];exact t4
 ·have:t.2∈u.Leaf:=by rw[←m2];exact qRi.2 ⟨t,ht,rfl⟩
  obtain⟨j,hj⟩:=List.getElem?_of_mem this
  exact h.rng j _ hj
 ·unfold qEL;rw[m1,m2];exact h.met
theorem qcy.use {p:qg} {s:qd} {l:List qa} {day:Int} (h:qcy p s day l):∃u,qe7 p s l day u:=by
 obtain⟨T,h1,h2⟩:=h
 obtain⟨m,hm⟩:=qgO h1
 have hpk:q6R l (q4I l.length m)=T.map Prod.fst:=by
  rw[hm]
  exact qxN (by unfold q4I;rw[←q3N,qdY,q3N])
 refine⟨⟨q4I l.length m,T.map Prod.snd⟩,q80 _ _,?_,?_,fun j y hy=>?_,?_⟩
 ·have:=qb2 (q80 l.length m)
  rw[hpk,qRg] at this
  simp only[qRg]
  exact this
 ·simp only
  rw[hpk]
  unfold qg9
  rw[qR3,qR3,qRx,qRx,qha]
  refine⟨⟨⟨fun a ha=>?_,fun a ha b hb=>(List.not_mem_nil hb).elim,?_⟩,h2.tot⟩,h2.own⟩
  ·obtain⟨t,ht,rfl⟩:=qRi.1 ha
   exact h2.old t ht
  ·exact List.pairwise_map.2 (h2.pr.imp fun {x y} hxy=>by rw[qet];exact hxy)
 ·obtain⟨t,ht,rfl⟩:=qRi.1 (qQy hy)
  exact h2.rng t ht
 ·simp only
  rw[hpk];exact h2.met
end
noncomputable section
open Go.RowKit
theorem qjc {p:Nat→Bool}:∀{n k:Nat},k<n→p k=true→(∀j,k<j→j<n→p j=false)→q9c p n=some k
 | n+1,k,hk,hp,h=>by
  unfold q9c
  by_cases e:k=n
  ·subst e;rw[if_pos hp]
  ·rw[if_neg (by rw[h n (by omega) (by omega)];decide)]
   exact qjc (by omega) hp fun j h1 h2=>h j h1 (by omega)
def q5Z (s:qd):(List qa×Int)→Option ((List qa×Int)⊕(List qa))|(left,k)=>if 0≤k then Option.bind (JK left s k) fun(a:Bool)=>if a=Bool.true then Option.bind (qY k (w64 (k+1)) left) fun(a2:List qa)=>some (Sum.inl (a2,w64 (((a2.length:Nat):Int)-1))) else some (Sum.inl (left,w64 (k-1))) else some (Sum.inr left)
theorem qr8 (s:qd):∀(n k:Nat) (l:List qa),l.length≤n→n≤1000→(∀a∈l,q1b a)→k≤l.length→(∀j,k≤j→j<l.length→qq7 s l j=false)→zn (q5Z s) (l,((k:Int)-1))=some (red (qq7 s) l):=by
 intro n
 induction n with
 | zero=>
  intro k l hl _ hf hk hc
  have hl0:l=[]:=qQQ (by omega)
  subst hl0
  have hk:k=0:=by simpa using hk
  subst hk
  refine zg ?_
  unfold q5Z
  dsimp only
  rw[if_neg (by omega)];rfl
 | succ n ih=>
  intro k
  induction k with
  | zero=>
   intro l hl _ hf hk hc
   rw[qia (qcL.2 fun j hj=>hc j (qQX _) hj)]
   refine zg ?_
   unfold q5Z
   dsimp only
   rw[if_neg (by omega)]
  | succ k ihk=>
   intro l hl hn hf hk hc
   have e1:((k+1:Nat):Int)-1=(k:Int):=by omega
   rw[e1]
   have hcov:=ql1 s l (by omega) hf k (by omega)
   cases hq:qq7 s l k
   ·have e:q5Z s (l,(k:Int))=some (.inl (l,((k:Int)-1))):=by
     unfold q5Z
     dsimp only
     rw[if_pos (by omega),hcov,qQx,hq,if_neg (by decide),QI (by omega) (by omega)]
    rw[zM e]
    refine ihk l hl hn hf (by omega) fun j h1 h2=>?_
    by_cases hj:j=k
    ·rw[hj];exact hq
    ·exact hc j (by omega) h2
   ·have hlen:(l.eraseIdx k).length=l.length-1:=by rw[List.length_eraseIdx,if_pos (by omega)]
    have e:q5Z s (l,(k:Int))=some (.inl (l.eraseIdx k,(((l.eraseIdx k).length:Int)-1))):=by
     unfold q5Z qY
     dsimp only
     rw[if_pos (by omega),hcov,qQx,hq,if_pos rfl,QI (by omega) (by omega),if_pos ⟨by omega,rfl,by omega⟩,qQx,qQA,QI (by omega) (by omega)]
    rw[zM e,qj1 (qjc (by omega) hq fun j h1 h2=>hc j (by omega) h2)]
    exact ih (l.eraseIdx k).length (l.eraseIdx k) (by omega) (by omega) (fun a ha=>hf a (List.mem_of_mem_eraseIdx ha)) (qQN _) fun j h1 h2=>by omega
end
noncomputable section
open Go.RowKit
theorem qIE (s:qd):q0W s=q5Z s:=rfl
def qa0 (p:qg) (l:List qa) (day:Int):List qa:=l.filter fun a => !qaV p a day
def qhB (p:qg) (s:qd) (l:List qa) (day:Int):List qa:=red (qq7 s) (qa0 p l day)
theorem q2P (p:qg) (s:qd) (l:List qa) (day:Int):(qhB p s l day).length≤l.length:=qR8 (qhz _).length_le (List.length_filter_le _ _)
theorem qrj {p:qg} {s:qd} {l:List qa} {day:Int} {a:qa} (h:a∈qhB p s l day):a∈l∧qaV p a day=false:=by
 obtain⟨h1,h2⟩:=qRt.1 ((qhz _).subset h)
 exact⟨h1,by simpa using h2⟩
theorem qkR (p:qg) (s:qd) (day:Int) (l:List qa) (hl:l.length≤1000) (hf:∀a∈l,q1b a):∀(r out:List qa) (k:Nat),r.length+k=l.length→l.drop k=r→out.length≤k→zn (Z5 p s day l ((l.length:Nat):Int)) (out,(k:Int))=some (out++qa0 p r day):=by
 have hML:100000≤maxLen:=by unfold maxLen;omega
 intro r
 induction r with
 | nil=>
  intro out k hk hd ho
  have hk:k=l.length:=by simpa using hk
  refine(zg (e:=out) ?_).trans (by unfold qa0;rw[List.filter_nil,qQS])
  unfold Z5
  dsimp only
  rw[if_neg (by omega)]
 | cons a r ih=>
  intro out k hk hd ho
  simp only[qQI] at hk
  have ha:l[k]?=some a:=by have:=congrArg (fun x:List qa=>x[0]?) hd;simpa [List.getElem?_drop] using this
  have hd1:l.drop (k+1)=r:=by rw[←qRl,hd];rfl
  have hklt:=ZB ha
  have hfa:=hf a (qQy ha)
  have h1:=hfa.1;have h2:=hfa.2
  have e:Z5 p s day l ((l.length:Nat):Int) (out,(k:Int))=some (.inl (if qaV p a day=true then out else out++[a],((k+1:Nat):Int))):=by
   unfold Z5 q2l Qm
   dsimp only
   rw[if_pos (by omega),if_pos ⟨by omega,by omega⟩,qQA,ha,qQx,qp1,qQx,q2N hklt (by omega)]
   cases qaV p a day
   ·rw[if_pos (show(!false)=true by decide),if_pos ⟨by omega,by omega⟩,qQx,if_pos ⟨by omega,by omega⟩,qQx,qQx,if_pos ⟨by omega,by omega⟩];rfl
   ·rfl
  rw[zM e]
  unfold qa0
  rw[List.filter_cons]
  cases ho2:qaV p a day
  ·rw[if_neg (by decide),if_pos (by decide),ih (out++[a]) (k+1) (by omega) hd1 (by simp;omega),qRd];rfl
  ·rw[if_pos rfl,if_neg (by decide),ih out (k+1) (by omega) hd1 (by omega)];rfl
theorem qnF (l:List qa) (p:qg) (s:qd) (day:Int) (hl:l.length≤1000) (hf:∀a∈l,q1b a):q0j l p s day=some (if 10<(qhB p s l day).length then([],2) else(qhB p s l day,0)):=by
 have hy:(qa0 p l day).length≤l.length:=List.length_filter_le _ _
 unfold q0j
 change Option.bind (zn _ ([],((0:Nat):Int))) _=_
 rw[qkR p s day l hl hf l [] 0 (by omega) rfl (qQN _),qQx,qQR,QI (by omega) (by omega),qIE,qr8 s (qa0 p l day).length (qa0 p l day).length (qa0 p l day) (qQN _) (by omega) (fun a ha=>hf a ((qRt.1 ha).1)) (qQN _) (fun j h1 h2=>by omega),qQx]
 show(if(10:Int)<(((qhB p s l day).length:Nat):Int) then _ else _)=_
 by_cases h:10<(qhB p s l day).length
 ·rw[if_pos (by omega),if_pos h]
 ·rw[if_neg (by omega),if_neg h];rfl
end
noncomputable section
open Go.RowKit
def qEh (a:Int):Bool := !decide (a<32) && !decide (126<a) && !(a==34)
theorem qqF (s:ByteArray) (hs:s.size≤1000):q0F s=some ((qgw s).all qEh&&inF ((s.size:Nat):Int) 1 40):=by
 have hl:(qgw s).length=s.size:=by unfold qgw;rw[qRg,Array.length_toList];rfl
 have h:=qkd (step:=JI s (qgw s) (((qgw s).length:Nat):Int)) (qgw s) qEh (.inl ()) (.inr ()) (fun i a ha=>by
  have hi:=ZB ha
  unfold JI qEh
  rw[if_pos (by omega),if_pos ⟨by omega,by omega⟩,qQA,ha,qQx,q2N hi (by omega)]
  by_cases h1:a<32
  ·rw[if_pos h1,qRy h1];rfl
  ·rw[if_neg h1,decide_eq_false h1]
   by_cases h2:126<a
   ·rw[if_pos h2,qRy h2];rfl
   ·rw[if_neg h2,decide_eq_false h2]
    cases a==34<;>rfl) (by
  unfold JI
  rw[if_neg (by omega)])
 unfold q0F
 rw[if_pos (by omega),h,qQx]
 cases hq:(qgw s).all qEh
 ·rw[if_neg (by decide),Sum.elim_inl];rfl
 ·rw[if_pos rfl,Sum.elim_inr,q2t];rfl
def nmB (s:ByteArray):Bool:=decide (s.size≤1000)&&((qgw s).all qEh&&inF ((s.size:Nat):Int) 1 40)
theorem qz2:nmL.all nmB=true:=by kernel_rfl
theorem qsQ {s:ByteArray} (h:s∈nmL):q0F s=some true:=by
 have:=qQO.1 qz2 s h
 unfold nmB at this
 rw[qR3,qRx] at this
 rw[qqF s this.1,this.2]
theorem qhl {n a b:Int} (h1:a≤n) (h2:n≤b):qX n a b=true:=by
 rw[q2t]
 unfold inF
 rw[qRy h1,qRy h2];rfl
theorem qCr {p:qg} (hs:1≤p.School∧p.School≤8) (hi:1≤p.Id∧p.Id≤999999) (hv:1≤p.Version∧p.Version≤20) (hf:0≤p.From∧p.From≤100000) (ht:0≤p.Total∧p.Total≤600) (ho:0≤p.Own∧p.Own≤600) (ha:0≤p.Age∧p.Age≤100)
  (hn:q0F p.Name=some true) (hnd:JU p.Need=some 0) (hx:p.Exclude=[]∨∃a b,p.Exclude=[q0u.mk a b]∧q0J a=true∧q0J b=true∧qxk a b<0):JL p=some 0:=by
 have hex:p.Exclude.length≤1:=by
  rcases hx with e|⟨a,b,e,-⟩<;>rw[e]
  ·exact qQX _
  ·exact qQN _
 have hend:Qw p p.Exclude ((p.Exclude.length:Nat):Int) ((p.Exclude.length:Nat):Int)=some (.inr (.inr ())):=by
  unfold Qw
  rw[if_neg (by omega)]
 have hloop:zn (Qw p p.Exclude ((p.Exclude.length:Nat):Int)) (0:Int)=some (.inr ()):=by
  rcases hx with e|⟨a,b,e,ma,mb,hlt⟩
  ·rw[e] at hend ⊢
   exact zg hend
  ·have e1:Qw p p.Exclude ((p.Exclude.length:Nat):Int) (0:Int)=some (.inl 1):=by
    unfold Qw
    rw[e]
    show(if(0:Int)<1 then _ else _)=_
    rw[if_pos (by decide),if_pos ⟨by simp,by simp⟩]
    show Option.bind (some (q0u.mk a b)) _=_
    rw[qQx]
    dsimp only
    rw[qeF,qQx,qeF,qQx,ma,mb,q9q,qQx]
    rw[if_neg (by decide),if_neg (by decide),if_neg (by omega),if_pos ⟨by simp,by simp⟩,q6c _ (by simp),qQx]
    rfl
   rw[zM e1]
   have:((p.Exclude.length:Nat):Int)=1:=by rw[e];rfl
   rw[this] at hend ⊢
   exact zg hend
 unfold JL
 rw[qhl (n:=p.School) (a:=1) (b:=8) hs.1 hs.2,qhl (n:=p.Id) (a:=1) (b:=999999) hi.1 hi.2,qhl (n:=p.Version) (a:=1) (b:=20) hv.1 hv.2,qhl (n:=p.From) (a:=0) (b:=100000) hf.1 hf.2,qhl (n:=p.Total) (a:=0) (b:=600) ht.1 ht.2,qhl (n:=p.Own) (a:=0) (b:=600) ho.1 ho.2,qhl (n:=p.Age) (a:=0) (b:=100) ha.1 ha.2,hn]
 simp only[Bool.not_true,Bool.false_eq_true,if_false,qQx]
 rw[hnd,qQx,if_neg (by decide),if_neg (by omega),hloop]
 rfl
theorem qhC {p:qg} (h:qvi p):JL p=some 0:=by
 have hs:=h.sch;have hi:=h.id;have hv:=h.ver;have hf:=h.frm;have ht:=h.tot;have ho:=h.own
 have ha:0≤p.Age∧p.Age≤5:=by
  have:p.Age=0∨p.Age=2∨p.Age=5:=by have:=h.age;simpa using this
  omega
 refine qCr ⟨by omega,by omega⟩ ⟨by omega,by omega⟩ ⟨by omega,by omega⟩ ⟨by omega,by omega⟩ ⟨by omega,by omega⟩ ⟨by omega,by omega⟩ ⟨by omega,by omega⟩ (qsQ h.nam) (qdd h.need) ?_
 rcases h.ex with e|⟨a,b,e,ma,mb,hp⟩
 ·exact .inl e
 ·refine .inr ⟨a,b,e,q9o ma,q9o mb,?_⟩
  have:=qju a b
  rw[hp] at this
  simpa using this.symm
theorem qkJ {p:qg} (h:qvi p) {s:qd} (hs:qbb s=true):Zx p s=some 0:=by
 unfold Zx
 rw[qhC h,qQx,if_neg (by decide),q7R,hs];rfl
end
noncomputable section
open Go.RowKit
set_option maxRecDepth 100000
theorem q8e {α:Type} (ds:List α) (o s:Nat):ds.drop o=(ds.drop o).take s++ds.drop (o+s):=by
 rw[←qRl];exact(qRm s _).symm
theorem qgN {X:Type} {E:X→List D} {W:X→Prop} {sz:Nat} (hz:0<sz):∀(m:Nat) (es:List D),es.length=m*sz→(∀i,i<m→∃x,(es.drop (i*sz)).take sz=E x∧W x)→∃l:List X,es=l.flatMap E∧l.length=m∧∀x∈l,W x
 | 0,es,hl,_=>⟨[],by rw[Nat.zero_mul] at hl;exact qQQ hl,rfl,by simp⟩
 | m+1,es,hl,h=>by
  obtain⟨x,hx,wx⟩:=h 0 (by omega)
  obtain⟨l,g1,g2,g3⟩:=qgN hz m (es.drop sz) (by rw[qRk,hl,Nat.add_mul];omega) fun i hi=>by
   obtain⟨y,hy,wy⟩:=h (i+1) (by omega)
   refine⟨y,?_,wy⟩
   rw[qRl,show sz+i*sz=(i+1)*sz by rw[Nat.add_mul,Nat.one_mul,Nat.add_comm]];exact hy
  refine⟨x::l,?_,by simp[g2],fun y hy=>?_⟩
  ·rw[Nat.zero_mul,List.drop_zero] at hx
   rw[qRC,←g1,←hx,qRm]
  ·rcases qQT.1 hy with rfl|hy
   ·exact wx
   ·exact g3 y hy
abbrev qG4:List TypeId:=[28,22,25,3,24,23,26]
theorem qzt:qLt Tryz.prog qG4=true:=by kernel_rfl
theorem ty3:∀(n:Nat) (ds:List D),q1p Tryz.prog n 3 ds→∃v:Int,ds=[D.int .i64 v]∧(Lit.int .i64 v).wf=true:=by
 intro n ds h
 cases n with
 | zero=>exact h.elim
 | succ n=>
  unfold q1p at h
  rw[Tryz.underlying3] at h
  obtain⟨z,h1,h2⟩:=h
  exact⟨z,h1,h2⟩
theorem cz3:Tryz.prog.cellsOf 3=1:=by kernel_rfl
theorem qKz:∀(n:Nat) (ds:List D),q1p Tryz.prog n 25 ds→∃v:List Int,ds=[D.sl 1 v.length (v.flatMap eI)]∧(v.length≤maxLen∧∀y∈v,(Lit.int .i64 y).wf=true):=by
 intro n ds h
 cases n with
 | zero=>exact h.elim
 | succ n=>
  unfold q1p at h
  rw[Tryz.underlying25] at h
  obtain⟨m,es,h1,h2,h3,h4⟩:=h
  rw[cz3] at h1 h3 h4
  obtain⟨l,g1,g2,g3⟩:=qgN (E:=eI) (W:=fun y=>(Lit.int .i64 y).wf=true) (sz:=1) (by decide) m es h3 fun i hi=>by
   obtain⟨v,q1,q2⟩:=ty3 n _ (h4 i hi)
   exact⟨v,q1.trans (rfl),q2⟩
  refine⟨l,?_,by omega,g3⟩
  rw[h1,g1,g2]
theorem qKZ:Tryz.prog.cellsOf 25=1:=by kernel_rfl
theorem qOp:∀(n:Nat) (ds:List D),q1p Tryz.prog n 22 ds→∃v:List (List Int),ds=[D.sl 1 v.length (v.flatMap (eL 1 eI))]∧(v.length≤maxLen∧∀y∈v,(y.length≤maxLen∧∀yy∈y,(Lit.int .i64 yy).wf=true)):=by
 intro n ds h
 cases n with
 | zero=>exact h.elim
 | succ n=>
  unfold q1p at h
  rw[Tryz.underlying22] at h
  obtain⟨m,es,h1,h2,h3,h4⟩:=h
  rw[qKZ] at h1 h3 h4
  obtain⟨l,g1,g2,g3⟩:=qgN (E:=(eL 1 eI)) (W:=fun y=>(y.length≤maxLen∧∀yy∈y,(Lit.int .i64 yy).wf=true)) (sz:=1) (by decide) m es h3 fun i hi=>by
   obtain⟨v,q1,q2⟩:=qKz n _ (h4 i hi)
   exact⟨v,q1.trans (rfl),q2⟩
  refine⟨l,?_,by omega,g3⟩
  rw[h1,g1,g2]
theorem qCo:Tryz.prog.cellsOf 23=3:=by kernel_rfl
theorem qKU:∀(n:Nat) (ds:List D),q1p Tryz.prog n 23 ds→∃v:qty Int,ds=[D.int .i64 v.a0,D.int .i64 v.a1,D.int .i64 v.a2]∧((Lit.int .i64 v.a0).wf=true∧(Lit.int .i64 v.a1).wf=true∧(Lit.int .i64 v.a2).wf=true):=by
 intro n ds h
 cases n with
 | zero=>exact h.elim
 | succ n=>
  unfold q1p at h
  rw[Tryz.underlying23] at h
  obtain⟨hl,hf⟩:=h
  rw[qCo] at hl
  have h0:q1p Tryz.prog n 3 ((ds.drop 0).take (Tryz.prog.cellsOf 3)):=by
   have:=hf 0 (by decide)
   rwa [cz3] at this ⊢
  rw[cz3] at h0
  obtain⟨v0,e0,w0⟩:=ty3 _ _ h0
  have c0:=q8e ds 0 1
  rw[e0] at c0
  have h1:q1p Tryz.prog n 3 ((ds.drop 1).take (Tryz.prog.cellsOf 3)):=by
   have:=hf 1 (by decide)
   rwa [cz3] at this ⊢
  rw[cz3] at h1
  obtain⟨v1,e1,w1⟩:=ty3 _ _ h1
  have c1:=q8e ds 1 1
  rw[e1] at c1
  have h2:q1p Tryz.prog n 3 ((ds.drop 2).take (Tryz.prog.cellsOf 3)):=by
   have:=hf 2 (by decide)
   rwa [cz3] at this ⊢
  rw[cz3] at h2
  obtain⟨v2,e2,w2⟩:=ty3 _ _ h2
  have c2:=q8e ds 2 1
  rw[e2] at c2
  have cl:ds.drop 3=[]:=qRe (by omega)
  refine⟨⟨v0,v1,v2⟩,?_,⟨w0,w1,w2⟩⟩
  have c:ds.drop 0=_:=c0
  simp only[Nat.reduceAdd] at c0 c1 c2 c
  rw[c1,c2,cl] at c
  exact c
theorem qLi:Tryz.prog.cellsOf 24=6:=by kernel_rfl
theorem qPW:∀(n:Nat) (ds:List D),q1p Tryz.prog n 24 ds→∃v:q0u (qty Int),ds=[D.int .i64 v.a0.a0,D.int .i64 v.a0.a1,D.int .i64 v.a0.a2,D.int .i64 v.a1.a0,D.int .i64 v.a1.a1,D.int .i64 v.a1.a2]∧(((Lit.int .i64 v.a0.a0).wf=true∧(Lit.int .i64 v.a0.a1).wf=true∧(Lit.int .i64 v.a0.a2).wf=true)∧((Lit.int .i64 v.a1.a0).wf=true∧(Lit.int .i64 v.a1.a1).wf=true∧(Lit.int .i64 v.a1.a2).wf=true)):=by
 intro n ds h
 cases n with
 | zero=>exact h.elim
 | succ n=>
  unfold q1p at h
  rw[Tryz.underlying24] at h
  obtain⟨hl,hf⟩:=h
  rw[qLi] at hl
  have h0:q1p Tryz.prog n 23 ((ds.drop 0).take (Tryz.prog.cellsOf 23)):=by
   have:=hf 0 (by decide)
   rwa [qCo] at this ⊢
  rw[qCo] at h0
  obtain⟨v0,e0,w0⟩:=qKU _ _ h0
  have c0:=q8e ds 0 3
  rw[e0] at c0
  have h1:q1p Tryz.prog n 23 ((ds.drop 3).take (Tryz.prog.cellsOf 23)):=by
   have:=hf 1 (by decide)
   rwa [qCo] at this ⊢
  rw[qCo] at h1
  obtain⟨v1,e1,w1⟩:=qKU _ _ h1
  have c1:=q8e ds 3 3
  rw[e1] at c1
  have cl:ds.drop 6=[]:=qRe (by omega)
  refine⟨⟨v0,v1⟩,?_,⟨w0,w1⟩⟩
  have c:ds.drop 0=_:=c0
  simp only[Nat.reduceAdd] at c0 c1 c
  rw[c1,cl] at c
  exact c
theorem qMx:∀(n:Nat) (ds:List D),q1p Tryz.prog n 26 ds→∃v:Int,ds=[D.int .u16 v]∧(Lit.int .u16 v).wf=true:=by
 intro n ds h
 cases n with
 | zero=>exact h.elim
 | succ n=>
  unfold q1p at h
  rw[Tryz.underlying26] at h
  obtain⟨z,h1,h2⟩:=h
  exact⟨z,h1,h2⟩
theorem qOf:Tryz.prog.cellsOf 22=1:=by kernel_rfl
theorem qM4:Tryz.prog.cellsOf 26=1:=by kernel_rfl
theorem qNd:Tryz.prog.cellsOf 28=9:=by kernel_rfl
def q5Q (x:q0i):Prop:=(x.Has.length≤maxLen∧∀y∈x.Has,(y.length≤maxLen∧∀yy∈y,(Lit.int .i64 yy).wf=true))∧(((Lit.int .i64 x.Odd.a0.a0).wf=true∧(Lit.int .i64 x.Odd.a0.a1).wf=true∧(Lit.int .i64 x.Odd.a0.a2).wf=true)∧((Lit.int .i64 x.Odd.a1.a0).wf=true∧(Lit.int .i64 x.Odd.a1.a1).wf=true∧(Lit.int .i64 x.Odd.a1.a2).wf=true))∧(x.Programme.length≤maxLen∧∀y∈x.Programme,(Lit.int .i64 y).wf=true)∧(Lit.int .u16 x.Day).wf=true
theorem ty28:∀(n:Nat) (ds:List D),q1p Tryz.prog n 28 ds→∃v:q0i,ds=[D.sl 1 v.Has.length (v.Has.flatMap (eL 1 eI)),D.int .i64 v.Odd.a0.a0,D.int .i64 v.Odd.a0.a1,D.int .i64 v.Odd.a0.a2,D.int .i64 v.Odd.a1.a0,D.int .i64 v.Odd.a1.a1,D.int .i64 v.Odd.a1.a2,D.sl 1 v.Programme.length (v.Programme.flatMap eI),D.int .u16 v.Day]∧q5Q v:=by
 intro n ds h
 cases n with
 | zero=>exact h.elim
 | succ n=>
  unfold q1p at h
  rw[Tryz.underlying28] at h
  obtain⟨hl,hf⟩:=h
  rw[qNd] at hl
  have h0:q1p Tryz.prog n 22 ((ds.drop 0).take (Tryz.prog.cellsOf 22)):=hf _ (qQy (i:=0) rfl)
  rw[qOf] at h0
  obtain⟨v0,e0,w0⟩:=qOp _ _ h0
  have c0:=q8e ds 0 1
  rw[e0] at c0
  have h1:q1p Tryz.prog n 24 ((ds.drop 1).take (Tryz.prog.cellsOf 24)):=hf _ (qQy (i:=1) rfl)
  rw[qLi] at h1
  obtain⟨v1,e1,w1⟩:=qPW _ _ h1
  have c1:=q8e ds 1 6
  rw[e1] at c1
  have h2:q1p Tryz.prog n 25 ((ds.drop 7).take (Tryz.prog.cellsOf 25)):=hf _ (qQy (i:=2) rfl)
  rw[qKZ] at h2
  obtain⟨v2,e2,w2⟩:=qKz _ _ h2
  have c2:=q8e ds 7 1
  rw[e2] at c2
  have h3:q1p Tryz.prog n 26 ((ds.drop 8).take (Tryz.prog.cellsOf 26)):=hf _ (qQy (i:=3) rfl)
  rw[qM4] at h3
  obtain⟨v3,e3,w3⟩:=qMx _ _ h3
  have c3:=q8e ds 8 1
  rw[e3] at c3
  have cl:ds.drop 9=[]:=qRe (by omega)
  refine⟨⟨v0,v1,v2,v3⟩,?_,⟨w0,w1,w2,w3⟩⟩
  have c:ds.drop 0=_:=c0
  simp only[Nat.reduceAdd] at c0 c1 c2 c3 c
  rw[c1,c2,c3,cl] at c
  exact c
end
noncomputable section
open Go.RowKit
theorem qC1 {c:q0i} (w:q5Q c):(∀q∈c.Has,q.length≤9223372036854775807)∧c.Has.length≤9223372036854775807∧c.Programme.length≤9223372036854775807:=by
 have hm:maxLen≤9223372036854775807:=by unfold maxLen;omega
 obtain⟨⟨h1,h2⟩,-,⟨h3,-⟩,-⟩:=w
 exact⟨fun q hq=>qR8 (h2 q hq).1 hm,qR8 h1 hm,qR8 h3 hm⟩
end
noncomputable section
open Go.RowKit
theorem qle (c:q0i) (hq:∀q∈c.Has,q.length≤9223372036854775807) (ht:c.Has.length≤9223372036854775807) (hp:c.Programme.length≤9223372036854775807):∃l p d,JJ c=some (l,p,d)∧l.length≤8∧(∀a∈l,qgM 2 a)∧qvi p:=by
 obtain⟨l,e1,l8,hs⟩:=qz4 c.Has hq ht
 obtain⟨p,hpe,hpg⟩:=qCg c.Programme hp
 unfold JJ
 rw[e1,qQx,hpe]
 by_cases h0:0<l.length
 ·have h0':(0:Int)<((l.length:Nat):Int):=by omega
  rw[if_pos h0']
  obtain⟨k,a,b,hk,q1,q2,q3,q4,q5⟩:=qpP (j:=0) (by omega) l8 hs h0 c.Odd.a0
  by_cases h1:(0:Int)<c.Odd.a0.a0
  ·rw[if_pos h1,q1,qQx,if_pos ⟨by omega,by omega⟩,qQA,q2,qQx,q3,qQx,if_pos ⟨by omega,by omega⟩,if_pos (by omega),if_pos h0']
   by_cases h2:(0:Int)<c.Odd.a1.a0
   ·obtain⟨k',a',b',hk',r1,r2,r3,r4,r5⟩:=qpP (j:=1) (by omega) q4 q5 (by rw[qRj];exact h0) c.Odd.a1
    rw[qRj] at hk' r1
    rw[if_pos h2,r1,qQx,if_pos ⟨by omega,by omega⟩,qQA,r2,qQx,r3,qQx,if_pos ⟨by omega,by omega⟩,if_pos (by omega)]
    exact⟨_,_,_,rfl,r4,r5,hpg⟩
   ·rw[if_neg h2]
    exact⟨_,_,_,rfl,q4,fun x hx=>(q5 x hx).mono (by omega),hpg⟩
  ·rw[if_neg h1,if_pos h0']
   by_cases h2:(0:Int)<c.Odd.a1.a0
   ·obtain⟨k',a',b',hk',r1,r2,r3,r4,r5⟩:=qpP (j:=0) (by omega) l8 hs h0 c.Odd.a1
    rw[if_pos h2,r1,qQx,if_pos ⟨by omega,by omega⟩,qQA,r2,qQx,r3,qQx,if_pos ⟨by omega,by omega⟩,if_pos (by omega)]
    exact⟨_,_,_,rfl,r4,fun x hx=>(r5 x hx).mono (by omega),hpg⟩
   ·rw[if_neg h2]
    exact⟨_,_,_,rfl,l8,fun x hx=>(hs x hx).mono (by omega),hpg⟩
 ·have h0':¬ (0:Int)<((l.length:Nat):Int):=by omega
  rw[if_neg h0',if_neg h0']
  exact⟨_,_,_,rfl,l8,fun x hx=>(hs x hx).mono (by omega),hpg⟩
theorem qvi.grd {p:qg} (h:qvi p) {l:List qa} (hl:∀a∈l,q1b a):Grd p l:=by
 refine⟨⟨⟨by have:=h.need.hg;omega,by have h2:=h.need.l2;have h4:=h.need.nd;omega,qeI h.need.ok⟩,?_⟩,?_,hl⟩
 ·have h1:=qdd h.need
  rw[qdN p.Need (by have:=h.need.hg;omega) (by have h2:=h.need.l2;have h4:=h.need.nd;omega) (qeI h.need.ok)] at h1
  injection h1
 ·rcases h.ex with e|⟨a,b,e,-⟩<;>rw[e]
  ·exact qQX _
  ·show 1≤1000;omega
theorem qmk {p:qg} {l:List qa} (h:Grd p l) (hl:l.length≤10) (s:qd) (hck:Zx p s=some 0) (day:Int) :
  (¬ qcy p s day l∧∃u,Qi p s l day=some (u,31))∨(qcy p s day l∧∃u,Qi p s l day=some (u,0)):=by
 rcases qvK h hl s hck day with ⟨g,hno⟩|⟨u,g,hu,-⟩
 ·exact .inl ⟨fun hh=>(hh.use).elim fun u hu=>hno u hu,_,g⟩
 ·exact .inr ⟨hu.has,_,g⟩
theorem q9h (c:q0i) (hq:∀q∈c.Has,q.length≤9223372036854775807) (ht:c.Has.length≤9223372036854775807) (hp:c.Programme.length≤9223372036854775807):J1 c=some true:=by
 obtain⟨l,p,d,e,l8,hs,hpg⟩:=qle c hq ht hp
 have hf:∀a∈l,q1b a:=fun a ha=>(hs a ha).fit (by omega)
 have hck:Zx p (qd.mk 0 100 50)=some 0:=qkJ hpg (by decide)
 obtain⟨L,hL⟩:∃L,L=qhB p (qd.mk 0 100 50) l d:=⟨_,rfl⟩
 have hLl:L.length≤8:=by rw[hL];exact qR8 (q2P p _ l d) l8
 have hfL:∀a∈L,q1b a:=fun a ha=>hf a (qrj (by rw[hL] at ha;exact ha)).1
 have hr:q0j l p (qd.mk 0 100 50) d=some (L,0):=by
  rw[qnF l p _ d (by omega) hf,←hL,if_neg (by omega)]
 have hcr:∀a∈l,0≤a.Credits∧a.Credits≤1000:=fun a ha=>by have:=(hs a ha).crd;omega
 have hiff:qcy p (qd.mk 0 100 50) d l↔qcy p (qd.mk 0 100 50) d L:=by rw[hL];exact qcy.left (by omega) hcr
 unfold J1
 rw[e,qQx]
 dsimp only
 rw[hr,qQx]
 dsimp only
 rw[if_neg (by decide)]
 rcases qmk (hpg.grd hf) (by omega) (qd.mk 0 100 50) hck d with ⟨h1,u,e1⟩|⟨h1,u,e1⟩<;>rcases qmk (hpg.grd hfL) (by omega) (qd.mk 0 100 50) hck d with ⟨h2,v,e2⟩|⟨h2,v,e2⟩
 ·rw[e1,qQx,e2,qQx];rfl
 ·exact absurd (hiff.2 h2) h1
 ·exact absurd (hiff.1 h1) h2
 ·rw[e1,qQx,e2,qQx];rfl
theorem qaY (c:q0i) (w:q5Q c):J1 c=some true:=by
 obtain⟨h1,h2,h3⟩:=qC1 w
 exact q9h c h1 h2 h3
end
end Go.Proofs.YtofbcijbpfjliaaGreat.Vc
namespace Go.Proofs.YtofbcijbpfjliaaGreat
open Go.Proofs.YtofbcijbpfjliaaGreat.Vc (qQF qQG qQJ qQM qQS)
open Go.ChangeShapes Go.WideShapes Go.ChangeAt Go.RowKit Go.ChangeMaps
theorem own:ownKnob Tryz.prog.godebug=none:=by kernel_rfl
theorem qvV:laidOutB Tryz.prog=true:=by kernel_rfl
section
variable {H:Type} {enc:TypeId×Value→H} {P:Program} {W W':World}
theorem qgh (hl:laidOutB P=true) (hb:Below W.heap.size W W'):∀{ts:List TypeId} {vs:List Value} {ds:List (DataW H)} {ps:List MemPlace},(∀t∈ts,P.readableRec t=true∧t<P.types.size)→
  DataW.TrodAll enc P W 0 (fun _=>true) true ts vs ds ps→(∀p∈ps,p.block<W.heap.size)→DataW.TrodAll enc P W' 0 (fun b=>decide (b<W.heap.size)) true ts vs ds ps
 | [],_,_,_,_,h,_=>by
  obtain⟨rfl,rfl,rfl⟩:=trodAll_nil h
  exact trodAll_mk0
 | t::ts,_,_,_,ht,h,hlt=>by
  obtain⟨v,vs,d,ds,p,q,rfl,rfl,rfl,h1,h2⟩:=trodAll_cons h
  exact trodAll_cons_mk (Below.trod hl (ht t qQM).1 (ht t qQM).2 h1 hb (fun x hx=>hlt x (qQJ _ hx)))
   (qgh hl hb (fun u hu=>ht u (qQF _ hu)) h2 (fun x hx=>hlt x (qQG _ hx)))
theorem qrI {f:Func} {s:ChangeSpec} {apart fresh handsOn:Bool} {args:Array Value} {ds gs:List (DataW H)} {before:List MemPlace} {tb:TypeId} (hl:laidOutB P=true)
  (hts:∀t∈f.params.toList,P.readableRec t=true∧t<P.types.size) (hr:f.resultTypes=#[tb]) (htb:P.underlying tb=some .bool) (hv:s.vars=[])
  (h1:(s.fn H (ds++gs)).results=[.lit (.bool true)]) (h2:(s.fn H (ds++gs)).args=ds) (h3:(s.fn H (ds++gs)).vars=[])
  (hW:DataW.Whole enc P f.params.toList s.vars apart W args.toList ds gs before) (hb:Below W.heap.size W W') :
  s.post enc P f apart fresh handsOn false W args (.bool true) W':=by
 have hlt:∀p∈before,p.block<W.heap.size:=fun p hp=>hW.lt p hp
 have hW2:=hW
 obtain⟨pa,pv,hA,hV,hp,-,-⟩:=hW2
 rw[hv] at hV
 obtain⟨rfl,rfl⟩:=trodVars_none hV
 rw[qQS] at hp
 subst hp
 refine⟨ds,[],before,[],before,[],hW,?_,?_,?_,?_,fun h=>by cases h⟩
 ·rw[h1,hr]
  exact trodAll_mk1 (shut_bool htb true)
 ·rw[h2]
  exact qgh hl hb hts hA hlt
 ·rw[h3,hv]
  exact hV
 ·exact World.keptBut_mono (fun p hp=>⟨hp,.inr (.inl hp)⟩) (hb.frame (·∈before))
end
end Go.Proofs.YtofbcijbpfjliaaGreat
namespace Go.Proofs.YtofbcijbpfjliaaGreat.Vc
end Go.Proofs.YtofbcijbpfjliaaGreat.Vc
