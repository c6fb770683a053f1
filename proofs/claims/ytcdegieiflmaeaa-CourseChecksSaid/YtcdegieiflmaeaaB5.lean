/- Part 5 of a proof. -/
import Derived.Test.YtcdegieiflmaeaaB4
import Derived.KernelRfl
import Derived.Test.YtcdegieiflmaeaaRows
import Derived.ChangeSlices
import Derived.OpenShut
import Derived.Carry
import Derived.ChangeSame
import Derived.ChangeMaps5
import Derived.WideShapes
import Derived.ProofKit
import Derived.Deep.DeepHandedRow
import Derived.Lib.LaidTab
import Derived.Stop.LaidErr
set_option linter.unusedVariables false
set_option linter.unusedSimpArgs false
set_option linter.defProp false
set_option linter.unusedSectionVars false
set_option linter.unnecessarySimpa false
namespace Go.Proofs.Ytcdegieiflmaeaa.Vc
noncomputable section
open Go.RowKit
def q0m (b:UInt8):Bool:=(48≤b.toNat&&b.toNat≤57)||(65≤b.toNat&&b.toNat≤90)
theorem qfG (s:ByteArray) (i:Nat) (h:(s.get! i).toNat<128):Utf8.decode s i=((s.get! i).toNat,1):=by
 unfold Utf8.decode
 simp only[Nat.add_zero]
 rw[if_pos h]
theorem qjJ (s:ByteArray) (i:Nat) (h:¬ (s.get! i).toNat<128):128≤(Utf8.decode s i).1:=by
 unfold Utf8.decode
 simp only[Nat.add_zero]
 rw[if_neg h]
 have hr:128≤Utf8.runeError:=by decide
 split
 ·split
  ·assumption
  ·exact hr
 ·split
  ·split
   ·rename_i h;simp only[ge_iff_le,qvX,qwp] at h;omega
   ·exact hr
  ·split
   ·split
    ·rename_i h;simp only[ge_iff_le,qvX,qwp] at h;omega
    ·exact hr
   ·exact hr
theorem q5w (b:UInt8) (h:b.toNat<128):zT (b.toNat:Int) = !q0m b:=by
 unfold zT q0m
 by_cases h1:b.toNat<65
 ·rw[if_pos (by omega)]
  by_cases h2:b.toNat<48
  ·rw[if_pos (by omega)]
   have e1:decide (48≤b.toNat)=false:=decide_eq_false (by omega)
   have e2:decide (65≤b.toNat)=false:=decide_eq_false (by omega)
   simp[e1,e2]
  ·rw[if_neg (by omega)]
   have e1:decide (48≤b.toNat)=true:=qwq (by omega)
   have e2:decide (65≤b.toNat)=false:=decide_eq_false (by omega)
   by_cases h3:b.toNat≤57
   ·have e3:decide (b.toNat≤57)=true:=qwq h3
    have e4:decide ((57:Int)<b.toNat)=false:=decide_eq_false (by omega)
    simp[e1,e2,e3,e4]
   ·have e3:decide (b.toNat≤57)=false:=decide_eq_false h3
    have e4:decide ((57:Int)<b.toNat)=true:=qwq (by omega)
    simp[e1,e2,e3,e4]
 ·rw[if_neg (by omega)]
  have e0:decide (b.toNat≤57)=false:=decide_eq_false (by omega)
  have e1:decide (65≤b.toNat)=true:=qwq (by omega)
  by_cases h2:90<b.toNat
  ·rw[if_pos (by omega),if_neg (by omega)]
   have e3:decide (b.toNat≤90)=false:=decide_eq_false (by omega)
   have e4:decide ((57:Int)<b.toNat)=true:=qwq (by omega)
   simp[e0,e1,e3,e4]
  ·rw[if_neg (by omega)]
   have e3:decide (b.toNat≤90)=true:=qwq (by omega)
   simp[e0,e1,e3]
theorem qdH (n:Nat) (h:128≤n):zT (n:Int)=true:=by
 unfold zT
 rw[if_neg (by omega),if_pos (by omega),if_neg (by omega)]
 exact qwq (by omega)
theorem qf8 (s:ByteArray) (i:Nat) (h:i<s.size):s.get! i=s.data.toList.getD i 0:=by
 obtain⟨⟨l⟩⟩:=s
 have h':i<l.length:=h
 show(Array.mk l)[i]! = l.getD i 0
 simp[h',List.getD]
theorem q8k (s:ByteArray):∀(r:List UInt8) (p:Nat),r.length+p=s.size→(∀j,r[j]?=s.data.toList[p+j]?)→∃e,zc (qN s true) p=some e∧((∃i:Int,e = .inl i∧0≤i∧r.all q0m=false)∨(e = .inr ()∧r.all q0m=true)):=by
 intro r
 induction r with
 | nil=>
  intro p hp _
  have hp:p=s.size:=by simpa using hp
  subst hp
  refine⟨.inr (),qR ?_,.inr ⟨rfl,rfl⟩⟩
  unfold qN
  rw[if_neg (by omega)]
 | cons b r ih=>
  intro p hp hr
  simp only[qvC] at hp
  have hb:s.data.toList[p]?=some b:=by have:=hr 0;simpa using this.symm
  have hg:s.get! p=b:=by rw[qf8 s p (by omega),List.getD,hb];rfl
  by_cases h:b.toNat<128
  ·have hd:=qfG s p (by rw[hg];exact h)
   rw[hg] at hd
   cases ho:q0m b
   ·refine⟨.inl (p:Int),qR ?_,.inl ⟨_,rfl,by omega,by simp[ho]⟩⟩
    unfold qN
    rw[if_pos (by omega),hd,q5w b h,ho]
    rfl
   ·obtain⟨e,h1,h2⟩:=ih (p+1) (by omega) (fun j=>by rw[show p+1+j=p+(j+1) by omega,←hr (j+1)];rfl)
    refine⟨e,?_,by rw[List.all_cons,ho,qvY];exact h2⟩
    rw[zL (y:=p+1) (by
     unfold qN
     rw[if_pos (by omega),hd,q5w b h,ho]
     rfl)]
    exact h1
  ·have hbig:=qjJ s p (by rw[hg];exact h)
   have hbad:q0m b=false:=by
    unfold q0m
    have e1:decide (b.toNat≤57)=false:=decide_eq_false (by omega)
    have e2:decide (b.toNat≤90)=false:=decide_eq_false (by omega)
    simp[e1,e2]
   refine⟨.inl (p:Int),qR ?_,.inl ⟨_,rfl,by omega,by simp[hbad]⟩⟩
   unfold qN
   rw[if_pos (by omega),qdH _ hbig]
   rfl
def q5c (s:ByteArray):Bool:=decide (s.size≠0)&&decide (s.size≤8)&&s.data.toList.all q0m
theorem qa7 (s:ByteArray):(s.toList==ByteArray.toList (ByteArray.mk (List.toArray [])))=decide (s.size=0):=by
 rw[ByteArray.toList_eq,ByteArray.toList_eq]
 obtain⟨⟨l⟩⟩:=s
 show(l==[])=decide (l.length=0)
 cases l<;>simp
theorem qc9 (s:ByteArray):za s=some (q5c s):=by
 unfold za q5c
 rw[qa7]
 by_cases h0:s.size=0
 ·simp[h0]
 ·have e0:decide (s.size=0)=false:=decide_eq_false h0
  have e1:decide (s.size≠0)=true:=qwq h0
  rw[e0,e1,if_pos (by rfl)]
  by_cases h8:s.size≤8
  ·have e2:decide (s.size≤8)=true:=qwq h8
   obtain⟨e,h1,h2⟩:=q8k s s.data.toList 0 (by simp) (by simp)
   rw[if_pos (by omega),e2]
   unfold Q8 Q3
   rw[h1,qvr]
   rcases h2 with ⟨i,rfl,hi,ha⟩|⟨rfl,ha⟩
   ·rw[Sum.elim_inl,qvr,qvr,ha]
    have:decide (i<0)=false:=decide_eq_false (by omega)
    rw[this];rfl
   ·rw[Sum.elim_inr,qvr,qvr,ha]
    rfl
  ·have e2:decide (s.size≤8)=false:=decide_eq_false h8
   rw[if_neg (by omega),e2]
   rfl
theorem q9a {ε:Type} {step:Int→Option (Int⊕ε)} (i0 n:Nat) (h0:i0≤n) (p:Nat→Bool) (e0 e1:ε) (h:∀i,i0≤i→i<n→step (i:Int)=some (if p i=true then .inl ((i+1:Nat):Int) else .inr e0)) (hn:step (n:Int)=some (.inr e1)) :
  zc step (i0:Int)=some (if(∀i,i<n→i0≤i→p i=true) then e1 else e0):=by
 have key:∀(j i:Nat),j+i=n→i0≤i→(∀k,k<i→i0≤k→p k=true)→zc step (i:Int)=some (if(∀i,i<n→i0≤i→p i=true) then e1 else e0):=by
  intro j
  induction j with
  | zero=>
   intro i hi _ hk
   rw[qvP] at hi
   subst hi
   rw[qR hn,if_pos hk]
  | succ j ih=>
   intro i hi h1 hk
   have hs:=h i h1 (by omega)
   by_cases hp:p i=true
   ·rw[if_pos hp] at hs
    rw[zL hs]
    refine ih (i+1) (by omega) (by omega) fun k hk2 hk3=>?_
    rcases Nat.lt_or_ge k i with h1|h1
    ·exact hk k h1 hk3
    ·have:k=i:=by omega
     rw[this];exact hp
   ·rw[if_neg hp] at hs
    rw[qR hs,if_neg fun h2=>hp (h2 i (by omega) h1)]
 exact key (n-i0) i0 (by omega) (qvH _) fun k hk hk2=>by omega
def atB {α:Type} (l:List α) (q:α→Bool) (i:Nat):Bool:=match l[i]? with
 | some a=>q a
 | none=>true
theorem q4j {α:Type} {l:List α} {q:α→Bool} {i:Nat} {a:α} (h:l[i]?=some a):atB l q i=q a:=by unfold atB;rw[h]
theorem q7B {α:Type} (l:List α) (q:α→Bool):(∀i,i<l.length→0≤i→atB l q i=true)↔l.all q=true:=by
 rw[qvI]
 constructor
 ·intro h a ha
  obtain⟨i,hi⟩:=List.mem_iff_getElem?.1 ha
  have:=h i (QC hi) (qvR _)
  rwa [q4j hi] at this
 ·intro h i hi _
  have ha:l[i]?=some l[i]:=qvt hi
  rw[q4j ha]
  exact h _ (qwh hi)
theorem q9r {s:ByteArray} (hs:s.size≤1000):ZF s=some (q5c s):=by
 have hlen:s.data.toList.length=s.size:=by rw[Array.length_toList];rfl
 have nd:∀(p:Prop) [Decidable p],((!decide p)=true)↔¬ p:=by intro p _;simp
 have h1:=q9a (step:=QH s) 0 s.data.toList.length (qvR _) (atB s.data.toList q0m) (.inl ()) (.inr ()) (fun i _ hi=>by
  have ha:s.data.toList[i]?=some s.data.toList[i]:=qvt hi
  rw[q4j ha]
  generalize s.data.toList[i]=a at ha
  have hw:w64 ((i:Int)+1)=((i+1:Nat):Int):=qW (n:=10000) (by omega) (by omega)
  have h0:(0:Int)≤(i:Int):=by omega
  have hok:q0m a=true↔((65≤a.toNat∧a.toNat≤90)∨(48≤a.toNat∧a.toNat≤57)):=by unfold q0m;simp;omega
  unfold QH
  simp only[if_pos h0,qvu,ha,qvr,hw,nd]
  rw[if_pos (show(i:Int)<((s.size:Nat):Int) by omega)]
  by_cases hq:q0m a=true
  ·rw[if_pos hq]
   have hq':=hok.1 hq
   repeat' split
   all_goals first|rfl|(exfalso;omega)
  ·rw[if_neg hq]
   have hq':¬ ((65≤a.toNat∧a.toNat≤90)∨(48≤a.toNat∧a.toNat≤57)):=fun q=>hq (hok.2 q)
   repeat' split
   all_goals first|rfl|(exfalso;omega)) (by
  unfold QH
  rw[if_neg (by omega)])
 unfold ZF q5c
 change Option.bind (zc _ ((0:Nat):Int)) _=_
 rw[h1,qvr]
 by_cases hall:∀i,i<s.data.toList.length→0≤i→atB s.data.toList q0m i=true
 ·rw[if_pos hall,Sum.elim_inr,(q7B _ _).1 hall,qws]
  by_cases h1:(1:Int)≤((ByteArray.size s:Nat):Int)
  ·rw[if_pos h1,qwq (show s.size≠0 by omega),qvY]
   congr 1
   rw[Bool.eq_iff_iff,qwp,qwp]
   omega
  ·rw[if_neg h1,decide_eq_false (show ¬ s.size≠0 by omega)];rfl
 ·rw[if_neg hall,Sum.elim_inl,qvT.2 fun q=>hall ((q7B _ _).2 q),Bool.and_false]
end
noncomputable section
open Go.RowKit
theorem qca {κ:Type} {p q:κ→Bool} (h:∀x,q x=true→p x=true):∀U:List κ,(U.filter q).length≤(U.filter p).length
 | []=>qvH _
 | x::U=>by
  have:=qca h U
  rw[List.filter_cons,List.filter_cons]
  by_cases hq:q x=true
  ·rw[if_pos hq,if_pos (h x hq),qvC,qvC];omega
  ·rw[if_neg hq]
   split
   ·rw[qvC];omega
   ·exact this
theorem qaV {κ:Type} {p q:κ→Bool} (h:∀x,q x=true→p x=true) {d:κ} (hp:p d=true) (hq:q d=false):∀U:List κ,d∈U→(U.filter q).length<(U.filter p).length
 | x::U,hd=>by
  rw[List.filter_cons,List.filter_cons]
  rcases qvN.1 hd with rfl|hd
  ·rw[if_neg (by rw[hq];decide),if_pos hp,qvC]
   have:=qca h U
   omega
  ·have:=qaV h hp hq U hd
   by_cases hx:q x=true
   ·rw[if_pos hx,if_pos (h x hx),qvC,qvC];omega
   ·rw[if_neg hx]
    split
    ·rw[qvC];omega
    ·exact this
inductive Rc (m:List (ByteArray×List ByteArray)):ByteArray→ByteArray→Prop
 | one {c d:ByteArray}:d∈Qz [] m c→Rc m c d
 | tail {c d e:ByteArray}:Rc m c d→e∈Qz [] m d→Rc m c e
theorem Rc.head {m:List (ByteArray×List ByteArray)} {c d e:ByteArray} (h:d∈Qz [] m c) (h2:Rc m d e):Rc m c e:=by
 induction h2 with
 | one h3=>exact .tail (.one h) h3
 | tail _ h3 ih=>exact .tail ih h3
theorem qcs {m:List (ByteArray×List ByteArray)} (c:ByteArray):Qz [] m c=[]∨∃q∈m,Qz [] m c=q.2:=by
 induction m with
 | nil=>exact .inl rfl
 | cons p m ih=>
  unfold Qz
  by_cases h:c=p.1
  ·rw[if_pos h];exact .inr ⟨p,qvG,rfl⟩
  ·rw[if_neg h]
   rcases ih with e|⟨q,hq,e⟩
   ·exact .inl e
   ·exact .inr ⟨q,qvz _ hq,e⟩
def uni (m:List (ByteArray×List ByteArray)):List ByteArray:=m.flatMap Prod.snd
theorem q0y {m:List (ByteArray×List ByteArray)} {c d:ByteArray} (h:d∈Qz [] m c):d∈uni m:=by
 rcases qcs (m:=m) c with e|⟨q,hq,e⟩
 ·rw[e] at h;cases h
 ·rw[e] at h;exact List.mem_flatMap.2 ⟨q,hq,h⟩
abbrev ks (m3:List (ByteArray×Bool)):List ByteArray:=m3.map Prod.fst
structure Sn (m3:List (ByteArray×Bool)):Prop where
 nd:(ks m3).Nodup
 tr:∀q∈m3,q.2=true
theorem Sn.get {m3:List (ByteArray×Bool)} (h:Sn m3) (d:ByteArray):Qz false m3 d=true↔d∈ks m3:=by
 by_cases hd:d∈ks m3
 ·obtain⟨⟨k,v⟩,hq,e⟩:=qwa.1 hd
  have hv:=h.tr _ hq
  simp only at e hv
  subst e hv
  rw[q9F false h.nd hq]
  exact⟨fun _=>hd,fun _=>rfl⟩
 ·rw[q6y hd]
  exact⟨fun e=>absurd e (by decide),fun e=>absurd e hd⟩
theorem Sn.put {m3:List (ByteArray×Bool)} (h:Sn m3) {d:ByteArray} (hd:d ∉ ks m3):Sn (q2e m3 d true)∧ks (q2e m3 d true)=ks m3++[d]:=by
 have hm:J3 m3 d=false:=by
  cases e:J3 m3 d
  ·rfl
  ·exact absurd (JF.1 e) hd
 have e:q2e m3 d true=m3++[(d,true)]:=q6b true hm
 have e2:ks (q2e m3 d true)=ks m3++[d]:=by rw[e];unfold ks;simp
 refine⟨⟨?_,fun q hq=>?_⟩,e2⟩
 ·rw[e2,List.nodup_append]
  exact⟨h.nd,by simp,fun a ha b hb=>by rw[qwg] at hb;subst hb;exact fun e'=>hd (by rw[←e'];exact ha)⟩
 ·rw[e] at hq
  rcases qvV.1 hq with hq|hq
  ·exact h.tr q hq
  ·rw[qwg.1 hq]
def ms (m:List (ByteArray×List ByteArray)) (m3:List (ByteArray×Bool)):Nat:=((uni m).filter fun x => !J3 m3 x).length
theorem qnt {m3:List (ByteArray×Bool)} {x:ByteArray}:(!J3 m3 x)=true↔x ∉ ks m3:=by
 rw[Bool.not_eq_true',←qwr]
 exact not_congr JF
theorem qqx {m:List (ByteArray×List ByteArray)} {a b:List (ByteArray×Bool)} (h:∀x∈ks a,x∈ks b):ms m b≤ms m a:=
 qca (fun x hx=>qnt.2 fun e=>qnt.1 hx (h x e)) _
theorem qqq {m:List (ByteArray×List ByteArray)} {a b:List (ByteArray×Bool)} (h:∀x∈ks a,x∈ks b) {d:ByteArray} (h1:d ∉ ks a) (h2:d∈ks b) (hu:d∈uni m):ms m b<ms m a:=
 qaV (fun x hx=>qnt.2 fun e=>qnt.1 hx (h x e)) (qnt.2 h1) (by rw[JF.2 h2];rfl) _ hu
theorem qcB {m:List (ByteArray×List ByteArray)} (hN:∀q∈m,q.2.length≤1000000):∀(n:Nat) (c:ByteArray) (m3:List (ByteArray×Bool)),ms m m3≤n→Sn m3→
  ∃m4,qv (c,(m,m3))=some (m,m4)∧Sn m4∧(∀x∈ks m3,x∈ks m4)∧(∀d∈Qz [] m c,d∈ks m4)∧∀x∈ks m4,x∈ks m3∨(Rc m c x∧∀y∈Qz [] m x,y∈ks m4):=by
 intro n
 induction n using Nat.strongRecOn with
 | ind n ih=>
  intro c m3 hms hs3
  have hlen:(Qz [] m c).length≤1000000:=by
   rcases qcs (m:=m) c with e|⟨q,hq,e⟩<;>rw[e]
   ·exact qvR _
   ·exact hN q hq
  have key:∀(j t:Nat) (m3:List (ByteArray×Bool)),j+t=(Qz [] m c).length→ms m m3≤n→Sn m3→
    ∃m4,zc (qh qv (Qz [] m c) (((Qz [] m c).length:Nat):Int)) (m,(m3,(t:Int)))=some (m,m4)∧Sn m4∧(∀x∈ks m3,x∈ks m4)∧(∀d∈(Qz [] m c).drop t,d∈ks m4)∧∀x∈ks m4,x∈ks m3∨(Rc m c x∧∀y∈Qz [] m x,y∈ks m4):=by
   intro j
   induction j with
   | zero=>
    intro t m3 ht _ hs3
    refine⟨m3,qR ?_,hs3,fun x h=>h,fun d hd=>?_,fun x h => .inl h⟩
    ·unfold qh
     dsimp only
     rw[if_neg (by omega)]
    ·rw[qw7 (by omega)] at hd;cases hd
   | succ j ihj=>
    intro t m3 ht hms hs3
    have hlt:t<(Qz [] m c).length:=by omega
    have hin:(Qz [] m c)[t]∈Qz [] m c:=qwh hlt
    by_cases hb:(Qz [] m c)[t]∈ks m3
    ·have hg:Qz false m3 (Qz [] m c)[t]=true:=(hs3.get _).2 hb
     have hs:qh qv (Qz [] m c) (((Qz [] m c).length:Nat):Int) (m,(m3,(t:Int)))=some (.inl (m,(m3,((t+1:Nat):Int)))):=by
      unfold qh
      dsimp only
      rw[if_pos (by omega),if_pos (by omega),qvu,qvt hlt,qvr,hg,if_neg (by decide),qW hlt (by omega)]
     rw[zL hs]
     obtain⟨m4,g1,g2,g3,g4,g5⟩:=ihj (t+1) m3 (by omega) hms hs3
     refine⟨m4,g1,g2,g3,fun d hd=>?_,g5⟩
     rw[List.drop_eq_getElem_cons hlt] at hd
     rcases qvN.1 hd with rfl|hd
     ·exact g3 _ hb
     ·exact g4 d hd
    ·have hg:Qz false m3 (Qz [] m c)[t]=false:=q6y hb
     obtain⟨hs4,ek⟩:=hs3.put hb
     have hsub:∀x∈ks m3,x∈ks (q2e m3 (Qz [] m c)[t] true):=fun x hx=>by rw[ek];exact qvD _ hx
     have hnew:(Qz [] m c)[t]∈ks (q2e m3 (Qz [] m c)[t] true):=by rw[ek];exact qvA _ (qwg.2 rfl)
     have hlt2:=qqq (m:=m) hsub hb hnew (q0y hin)
     obtain⟨m4,g1,g2,g3,g4,g5⟩:=ih (ms m (q2e m3 (Qz [] m c)[t] true)) (by omega) (Qz [] m c)[t] (q2e m3 (Qz [] m c)[t] true) (qvH _) hs4
     have hs:qh qv (Qz [] m c) (((Qz [] m c).length:Nat):Int) (m,(m3,(t:Int)))=some (.inl (m,(m4,((t+1:Nat):Int)))):=by
      unfold qh
      dsimp only
      rw[if_pos (by omega),if_pos (by omega),qvu,qvt hlt,qvr,hg,if_pos (by decide),g1,qvr,qW hlt (by omega)]
     rw[zL hs]
     have hms4:ms m m4≤n:=by
      have:=qqx (m:=m) (a:=m3) (b:=m4) fun x hx=>g3 x (hsub x hx)
      omega
     obtain⟨m5,k1,k2,k3,k4,k5⟩:=ihj (t+1) m4 (by omega) hms4 g2
     refine⟨m5,k1,k2,fun x hx=>k3 x (g3 x (hsub x hx)),fun d hd=>?_,fun x hx=>?_⟩
     ·rw[List.drop_eq_getElem_cons hlt] at hd
      rcases qvN.1 hd with rfl|hd
      ·exact k3 _ (g3 _ hnew)
      ·exact k4 d hd
     ·rcases k5 x hx with h|h
      ·rcases g5 x h with h|⟨h,h'⟩
       ·rw[ek] at h
        rcases qvV.1 h with h|h
        ·exact .inl h
        ·rw[qwg] at h
         subst h
         exact .inr ⟨.one hin,fun y hy=>k3 y (g4 y hy)⟩
       ·exact .inr ⟨.head hin h,fun y hy=>k3 y (h' y hy)⟩
      ·exact .inr h
  obtain⟨m4,g1,g2,g3,g4,g5⟩:=key _ 0 m3 rfl hms hs3
  refine⟨m4,?_,g2,g3,fun d hd=>g4 d (by rw[List.drop_zero];exact hd),g5⟩
  rw[Zp]
  show Option.bind (zc (qh qv (Qz [] m c) (((Qz [] m c).length:Nat):Int)) (m,(m3,((0:Nat):Int)))) _=_
  rw[g1];rfl
theorem q5A {m:List (ByteArray×List ByteArray)} (hN:∀q∈m,q.2.length≤1000000) (c:ByteArray) (hz:∀d∈uni m,d.size≤maxLen) (hu:(uni m).length≤1000000) :
  ∃l,qA c m=some (JD l,m)∧l.Nodup∧∀x,x∈l↔Rc m c x:=by
 obtain⟨m4,g1,g2,-,g4,g5⟩:=qcB hN _ c [] (qvH _) ⟨List.Pairwise.nil,fun q hq=>by cases hq⟩
 have hmem:∀x,x∈ks m4↔Rc m c x:=fun x=>by
  refine⟨fun hx=>?_,fun hx=>?_⟩
  ·rcases g5 x hx with h|h
   ·cases h
   ·exact h.1
  ·induction hx with
   | one h=>exact g4 _ h
   | tail _ h ih=>
    rcases g5 _ ih with h' | h'
    ·cases h'
    ·exact h'.2 _ h
 have hin:∀x∈ks m4,x∈uni m:=fun x hx=>by
  cases(hmem x).1 hx with
  | one h=>exact q0y h
  | tail _ h=>exact q0y h
 have hlen:=q3f g2.nd hin
 have hok:qgy (ks m4)=true:=by
  unfold qgy
  rw[qvX,qvX,qwp,qwp,qvI]
  exact⟨⟨g2.nd,fun k hk=>qwq (hz k (hin k hk))⟩,by omega⟩
 refine⟨ks m4,?_,g2.nd,hmem⟩
 unfold qA
 rw[g1,qvr]
 dsimp only
 unfold zn
 rw[if_pos hok]
 rfl
end
noncomputable section
open Go.RowKit
def q7N {α:Type} (lt:α→α→Bool):List α→Bool
 | a::b::l=>lt a b&&q7N lt (b::l)
 | _=>true
theorem q1i {α:Type} (lt:α→α→Bool) (l:List α) (step:Int→Option (Int⊕(Unit⊕Unit)))
  (h:∀(i:Nat) a b,l[i]?=some a→l[i+1]?=some b→step ((i+1:Nat):Int)=some (if lt a b=true then .inl ((i+2:Nat):Int) else .inr (.inl ())))
  (hn:∀i:Nat,l.length≤i→step (i:Int)=some (.inr (.inr ()))) :
  ∀(n i:Nat),n+i=l.length→zc step ((i+1:Nat):Int)=some (if q7N lt (l.drop i)=true then .inr () else .inl ())
 | 0,i,hi=>by
  rw[qR (hn (i+1) (by omega)),qw7 (by omega)];rfl
 | n+1,i,hi=>by
  have h1:i<l.length:=by omega
  by_cases h2:i+1<l.length
  ·have hs:=h i _ _ (qvt h1) (qvt h2)
   rw[List.drop_eq_getElem_cons h1,List.drop_eq_getElem_cons h2,q7N]
   cases hb:lt l[i] l[i+1]
   ·rw[hb,if_neg (by decide)] at hs
    rw[qR hs,Bool.false_and,if_neg (by decide)]
   ·rw[hb,if_pos rfl] at hs
    rw[zL hs,qvY,←List.drop_eq_getElem_cons h2]
    exact q1i lt l step h hn n (i+1) (by omega)
  ·rw[qR (hn (i+1) (by omega)),List.drop_eq_getElem_cons h1,qw7 (by omega)];rfl
theorem qiI {l:List Int} (hl:l.length≤1000000):qK l=some (q7N (fun a b=>decide (a<b)) l):=by
 have h:=q1i (fun a b:Int=>decide (a<b)) l (qs l) (fun i a b ha hb=>by
  have h1:=QC ha
  have h2:=QC hb
  have w1:w64 (((i+1:Nat):Int)-1)=(i:Int):=by rw[Zm (by omega) (by omega)];omega
  have w2:w64 (((i+1:Nat):Int)+1)=((i+2:Nat):Int):=by rw[Zm (by omega) (by omega)];omega
  unfold qs
  rw[if_pos (by omega),w1,if_pos (by omega),qvu,ha,qvr,if_pos (by omega),qvu,hb,qvr,w2]
  by_cases h:a<b
  ·rw[if_neg (by omega),if_pos (qwq h)]
  ·rw[if_pos (by omega),if_neg (by rw[decide_eq_false h];decide)]) (fun i hi=>by
  unfold qs
  rw[if_neg (by omega)]) l.length 0 (by omega)
 rw[List.drop_zero] at h
 unfold qK
 have h':zc (qs l) 1=_:=h
 rw[h',qvr]
 cases q7N (fun a b:Int=>decide (a<b)) l<;>rfl
abbrev bl (a b:ByteArray):Bool:=Op.bytesLess a.toList b.toList
theorem qka {l:List ByteArray} (hl:l.length≤1000000):qz l=some (q7N bl l):=by
 have h:=q1i bl l (qq l) (fun i a b ha hb=>by
  have h1:=QC ha
  have h2:=QC hb
  have w1:w64 (((i+1:Nat):Int)-1)=(i:Int):=by rw[Zm (by omega) (by omega)];omega
  have w2:w64 (((i+1:Nat):Int)+1)=((i+2:Nat):Int):=by rw[Zm (by omega) (by omega)];omega
  unfold qq
  rw[if_pos (by omega),w1,if_pos (by omega),qvu,ha,qvr,if_pos (by omega),qvu,hb,qvr,w2]
  cases h:bl a b
  ·rw[if_pos (by rw[show Op.bytesLess a.toList b.toList=false from h];decide),if_neg (by decide)]
  ·rw[if_neg (by rw[show Op.bytesLess a.toList b.toList=true from h];decide),if_pos rfl]) (fun i hi=>by
  unfold qq
  rw[if_neg (by omega)]) l.length 0 (by omega)
 rw[List.drop_zero] at h
 unfold qz
 have h':zc (qq l) 1=_:=h
 rw[h',qvr]
 cases q7N bl l<;>rfl
def farF (n:Int):Bool:=decide (n<1)||decide (40<n)
theorem qmv (n:Int):z8 n=farF n:=by
 unfold z8 farF
 by_cases h:n<1
 ·rw[if_pos h,qwq h,Bool.true_or]
 ·rw[if_neg h,decide_eq_false h,Bool.false_or]
theorem qit {l:List Int} (hl:l.length≤1000000):qu l=some (l.any farF):=by
 obtain⟨r,h1,h2⟩:=q4S l farF (qr l ((l.length:Nat):Int))
  (fun i a ha=>by
   have:=QC ha
   unfold qr
   rw[if_pos (by omega),if_pos (by omega),qvu,ha,qvr,qmv]
   cases farF a with
   | true=>rfl
   | false=>rw[if_neg (by decide),if_neg (by decide),qW this (by omega)])
  (by unfold qr;rw[if_neg (by omega)])
 obtain⟨n,h3,h4⟩:=q50 h2
 unfold qu qP
 rw[h1,qvr,h3,qvr,h4]
def qej (o:qa):Int:=
 if o.Credits<1∨60<o.Credits∨o.Places<0∨200<o.Places∨o.Slots.any farF=true then 3
 else if q7N (fun a b=>decide (a<b)) o.Slots=false then 7
 else if 5<o.Needs.length then 2
 else if q7N bl o.Needs=false then 7
 else 0
structure qkp (o:qa):Prop where
 sl:o.Slots.length≤1000000
 nd:o.Needs.length≤1000000
theorem qcc {o:qa} (h:qkp o):zf o=some (qej o):=by
 unfold zf qej
 rw[qit h.sl,qiI h.sl,qka h.nd]
 by_cases h1:o.Credits<1
 ·rw[if_pos h1,if_pos (.inl h1)]
 by_cases h2:60<o.Credits
 ·rw[if_neg h1,if_pos h2,if_pos (.inr (.inl h2))]
 by_cases h3:o.Places<0
 ·rw[if_neg h1,if_neg h2,if_pos h3,if_pos (.inr (.inr (.inl h3)))]
 by_cases h4:200<o.Places
 ·rw[if_neg h1,if_neg h2,if_neg h3,if_pos h4,if_pos (.inr (.inr (.inr (.inl h4))))]
 rw[if_neg h1,if_neg h2,if_neg h3,if_neg h4,qvr]
 by_cases h5:o.Slots.any farF=true
 ·rw[if_pos h5,if_pos (.inr (.inr (.inr (.inr h5))))]
 have hn:¬ (o.Credits<1∨60<o.Credits∨o.Places<0∨200<o.Places∨o.Slots.any farF=true):=by
  rintro(h|h|h|h|h)
  ·exact h1 h
  ·exact h2 h
  ·exact h3 h
  ·exact h4 h
  ·exact h5 h
 rw[if_neg h5,if_neg hn,qvr]
 cases h6:q7N (fun a b:Int=>decide (a<b)) o.Slots
 ·rw[if_pos (by decide),if_pos rfl]
 rw[if_neg (show ¬ ((!true)=true) by decide),if_neg (show ¬ (true=false) by decide)]
 by_cases h7:5<o.Needs.length
 ·rw[if_pos (by omega),if_pos h7]
 rw[if_neg (by omega),if_neg h7,qvr]
 cases h8:q7N bl o.Needs
 ·rw[if_pos (by decide),if_pos rfl]
 ·rw[if_neg (show ¬ ((!true)=true) by decide),if_neg (show ¬ (true=false) by decide)]
def q6D (p:Option qa) (a:qa):Int:=
 if q5c a.Code=false then 12
 else match p with
  | none=>qej a
  | some p=>if p.Code=a.Code then 6 else if bl p.Code a.Code=false then 7 else qej a
def ckF:Option qa→List qa→Int
 | _,[]=>0
 | p,a::l=>if q6D p a≠0 then q6D p a else ckF (some a) l
theorem qgD {L:List qa} (hL:L.length≤1000000) (hz:∀o∈L,qkp o) (hc:∀o∈L,za o.Code=some (q5c o.Code)):∀(n i:Nat) (p:Option qa),n+i=L.length→(p=if i=0 then none else L[i-1]?)→
  zc (qC L L ((L.length:Nat):Int)) (i:Int)=some (if ckF p (L.drop i)=0 then .inr () else .inl (ckF p (L.drop i)))
 | 0,i,p,hi,_=>by
  have hs:qC L L ((L.length:Nat):Int) (i:Int)=some (.inr (.inr ())):=by
   unfold qC
   dsimp only
   rw[if_neg (by omega)]
  rw[qR hs,qw7 (by omega),ckF,if_pos rfl]
 | n+1,i,p,hi,hp=>by
  have h1:i<L.length:=by omega
  have hin:L[i]∈L:=qwh h1
  have w1:w64 ((i:Int)+1)=((i+1:Nat):Int):=qW h1 (by omega)
  rw[List.drop_eq_getElem_cons h1,ckF]
  have hs:qC L L ((L.length:Nat):Int) (i:Int)=some (if q6D p L[i]≠0 then .inr (.inl (q6D p L[i])) else .inl ((i+1:Nat):Int)):=by
   unfold qC q6D
   dsimp only
   rw[if_pos (by omega),if_pos (by omega),qvu,qvt h1,qvr,hc _ hin,qvr]
   cases hcd:q5c L[i].Code
   ·rw[if_pos (show(!false)=true by decide),if_pos rfl,if_pos (by decide)]
   ·have t1:¬ ((!true)=true):=by decide
    have t2:¬ (true=false):=by decide
    have t3:¬ (false=true):=by decide
    have t4:(!false)=true:=by decide
    have fin:∀x:Int,(if(x != 0)=true then some (Sum.inr (Sum.inl x)) else some (Sum.inl ((i+1:Nat):Int)):Option (Int⊕(Int⊕Unit)))=some (if x≠0 then .inr (.inl x) else .inl ((i+1:Nat):Int)):=fun x=>by
     by_cases hx:x=0
     ·rw[if_neg (by rw[hx];decide),if_neg (by rw[hx];decide)]
     ·rw[if_pos (by simpa using hx),if_pos hx]
    simp only[if_neg t1,if_neg t2,qcc (hz _ hin)]
    by_cases h0:i=0
    ·rw[if_pos h0] at hp
     subst hp
     have q1:¬ (0:Int)<(i:Int):=by omega
     simp only[if_neg q1,qvr,w1]
     exact fin _
    ·rw[if_neg h0] at hp
     have h2:i-1<L.length:=by omega
     rw[qvt h2] at hp
     subst hp
     have q1:(0:Int)<(i:Int):=by omega
     have w2:w64 ((i:Int)-1)=((i-1:Nat):Int):=by rw[Zm (by omega) (by omega)];omega
     have q2:(0:Int)≤((i-1:Nat):Int)∧((i-1:Nat):Int)<((L.length:Nat):Int):=⟨by omega,by omega⟩
     simp only[if_pos q1,w2,if_pos q2,qvu,qvt h2,qvr,w1,q8i]
     by_cases he:L[i-1].Code=L[i].Code
     ·have hd:=qwq he
      simp only[hd,if_pos he,if_true]
      rw[if_pos (show(6:Int)≠0 by decide)]
     ·have hd:=decide_eq_false he
      simp only[hd,if_neg he,if_neg t3,Bool.or_false]
      cases hb:Op.bytesLess L[i-1].Code.toList L[i].Code.toList
      ·rw[if_pos t4,if_pos (show bl L[i-1].Code L[i].Code=false from hb),if_pos (show(7:Int)≠0 by decide)]
      ·rw[if_neg t1,if_neg (show ¬ (bl L[i-1].Code L[i].Code=false) by rw[show bl L[i-1].Code L[i].Code=true from hb];decide)]
       exact fin _
  by_cases he:q6D p L[i]=0
  ·rw[if_neg (show ¬ (q6D p L[i]≠0) from fun e=>e he)] at hs
   rw[zL hs,if_neg (show ¬ (q6D p L[i]≠0) from fun e=>e he)]
   exact qgD hL hz hc n (i+1) (some L[i]) (by omega) (by rw[if_neg (by omega),Nat.add_sub_cancel,qvt h1])
  ·rw[if_pos he] at hs
   rw[qR hs,if_pos he,if_neg he]
end
noncomputable section
open Go.RowKit
section
variable {κ ν:Type} [DecidableEq κ]
theorem q2V {m:List (κ×ν)} {k c:κ} {v:ν}:J3 (m++[(k,v)]) c=true↔J3 m c=true∨c=k:=by
 rw[JF,JF,List.map_append,qvV,qvO,List.map_nil,qwg]
theorem q8x (z:ν) (k c:κ) (v:ν):∀m:List (κ×ν),Qz z (m++[(k,v)]) c=if J3 m c=true then Qz z m c else if c=k then v else z
 | []=>rfl
 | p::m=>by
  rw[qwv,Qz,J3,Qz]
  by_cases h:c=p.1
  ·rw[if_pos h,if_pos h,if_pos h,if_pos rfl]
  ·rw[if_neg h,if_neg h,if_neg h,q8x z k c v m]
end
def ixm:List qa→List (ByteArray×List ByteArray)→List (ByteArray×List ByteArray)
 | [],m=>m
 | o::L,m=>ixm L (if J3 m o.Code=true then m else m++[(o.Code,o.Needs)])
def qaO:List qa→ByteArray→List ByteArray
 | [],_=>[]
 | o::L,c=>if c=o.Code then o.Needs else qaO L c
theorem q5F {L:List qa} (hL:L.length≤1000000):zK L=some (ixm L []):=by
 have key:∀(n i:Nat) (m:List (ByteArray×List ByteArray)),n+i=L.length→zc (qF L ((L.length:Nat):Int)) (m,(i:Int))=some (ixm (L.drop i) m):=by
  intro n
  induction n with
  | zero=>
   intro i m hi
   have hs:qF L ((L.length:Nat):Int) (m,(i:Int))=some (.inr m):=by
    unfold qF
    dsimp only
    rw[if_neg (by omega)]
   rw[qR hs,qw7 (by omega),ixm]
  | succ n ih=>
   intro i m hi
   have h1:i<L.length:=by omega
   have w1:w64 ((i:Int)+1)=((i+1:Nat):Int):=qW h1 (by omega)
   have hs:qF L ((L.length:Nat):Int) (m,(i:Int))=some (.inl (if J3 m L[i].Code=true then m else m++[(L[i].Code,L[i].Needs)],((i+1:Nat):Int))):=by
    unfold qF
    dsimp only
    rw[if_pos (by omega),if_pos (by omega),qvu,qvt h1,qvr,w1]
    cases hm:J3 m L[i].Code
    ·rw[if_pos (show(!false)=true by decide),if_neg (show ¬ (false=true) by decide),q6b _ hm]
    ·rw[if_neg (show ¬ ((!true)=true) by decide),if_pos rfl]
   rw[zL hs,List.drop_eq_getElem_cons h1,ixm]
   exact ih (i+1) _ (by omega)
 have h:=key L.length 0 [] (by omega)
 rw[List.drop_zero] at h
 have h':zc (qF L ((L.length:Nat):Int)) ([],(0:Int))=some (ixm L []):=h
 unfold zK
 rw[h',qvr]
theorem q7J:∀(L:List qa) (m:List (ByteArray×List ByteArray)) (c:ByteArray),J3 (ixm L m) c=true↔J3 m c=true∨c∈L.map (·.Code)
 | [],m,c=>by simp[ixm]
 | o::L,m,c=>by
  rw[ixm,q7J L,qvO,qvN]
  by_cases h:J3 m o.Code=true
  ·rw[if_pos h]
   refine⟨fun h'=>h'.elim .inl fun h' => .inr (.inr h'),fun h'=>?_⟩
   rcases h' with h' | rfl|h'
   ·exact .inl h'
   ·exact .inl h
   ·exact .inr h'
  ·rw[if_neg h,q2V]
   exact or_assoc
theorem qe6:∀(L:List qa) (m:List (ByteArray×List ByteArray)) (c:ByteArray),Qz [] (ixm L m) c=if J3 m c=true then Qz [] m c else qaO L c
 | [],m,c=>by
  rw[ixm,qaO]
  split
  ·rfl
  ·rename_i h
   exact q6y fun e=>h (JF.2 e)
 | o::L,m,c=>by
  rw[ixm,qe6 L,qaO]
  by_cases h:J3 m o.Code=true
  ·rw[if_pos h]
   by_cases hc:J3 m c=true
   ·rw[if_pos hc,if_pos hc]
   ·rw[if_neg hc,if_neg hc,if_neg (fun e=>hc (by rw[e];exact h))]
  ·rw[if_neg h,q8x]
   by_cases hc:J3 m c=true
   ·rw[if_pos (q2V.2 (.inl hc)),if_pos hc,if_pos hc]
   ·by_cases he:c=o.Code
    ·rw[if_pos (q2V.2 (.inr he)),if_neg hc,if_neg hc,if_pos he,if_pos he]
    ·rw[if_neg (fun e=>(q2V.1 e).elim hc he),if_neg hc,if_neg he]
theorem q3Q:∀(L:List qa) (m:List (ByteArray×List ByteArray)) {q:ByteArray×List ByteArray},q∈ixm L m→q∈m∨∃o∈L,q=(o.Code,o.Needs)
 | [],m,q,h => .inl h
 | o::L,m,q,h=>by
  rw[ixm] at h
  rcases q3Q L _ h with h|⟨p,hp,e⟩
  ·split at h
   ·exact .inl h
   ·rcases qvV.1 h with h|h
    ·exact .inl h
    ·exact .inr ⟨o,qvG,qwg.1 h⟩
  ·exact .inr ⟨p,qvz _ hp,e⟩
theorem qcj {κ ν:Type} {g:κ→ν→Option Bool} {f:κ×ν→Bool}:∀{M:List (κ×ν)},(∀q∈M,g q.1 q.2=some (f q))→anyO g M=some (M.any f)
 | [],_=>rfl
 | q::M,h=>by
  unfold anyO
  rw[h q qvG,qvr,qcj fun p hp=>h p (qvz _ hp),qvr,List.any_cons]
theorem q8g {l:List ByteArray} (hl:l.length≤1000000) (m:List (ByteArray×List ByteArray)):qj l m=some (l.any fun c => !J3 m c):=by
 obtain⟨r,h1,h2⟩:=q4S l (fun c => !J3 m c) (ql m l ((l.length:Nat):Int))
  (fun i a ha=>by
   have:=QC ha
   unfold ql zF
   rw[if_pos (by omega),if_pos (by omega),qvu,ha,qvr]
   cases(!J3 m a) with
   | true=>rfl
   | false=>rw[if_neg (by decide),if_neg (by decide),qW this (by omega)])
  (by unfold ql;rw[if_neg (by omega)])
 obtain⟨n,h3,h4⟩:=q50 h2
 unfold qj qx
 rw[h1,qvr,h3,qvr,h4]
theorem qid {m:List (ByteArray×List ByteArray)} (hN:∀q∈m,q.2.length≤1000000):zE m=some (m.any fun q=>q.2.any fun c => !J3 m c):=by
 unfold zE
 refine qcj fun q hq=>?_
 rw[q8g (hN q hq),qvr]
 cases(q.2.any fun c => !J3 m c)<;>rfl
theorem qja {m:List (ByteArray×List ByteArray)} (hN:∀q∈m,q.2.length≤1000000) (hz:∀d∈uni m,d.size≤maxLen) (hu:(uni m).length≤1000000):∃b,zW m=some b∧(b=true↔∃q∈m,Rc m q.1 q.1):=by
 have hq:∀q:ByteArray×List ByteArray,∃b:Bool,(Option.bind (qA q.1 m) fun(a2:Prod (List ByteArray) (List (Prod ByteArray (List ByteArray))))=>
   Option.bind (qp a2.1 q.1) fun(a3:Bool)=>if a3=Bool.true then some true else some false)=some b∧(b=true↔Rc m q.1 q.1):=fun q=>by
  obtain⟨l,h1,h2,h3⟩:=q5A hN q.1 hz hu
  have hlen:(JD l).length≤1000000:=by
   rw[(QG l).length_eq]
   have:∀x∈l,x∈uni m:=fun x hx=>by
    cases(h3 x).1 hx with
    | one h=>exact q0y h
    | tail _ h=>exact q0y h
   have:=q3f h2 this
   omega
  refine⟨(JD l).any fun a=>decide (q.1=a),?_,?_⟩
  ·rw[h1,qvr]
   dsimp only
   rw[q7j hlen,qvr]
   cases((JD l).any fun a=>decide (q.1=a))<;>rfl
  ·rw[qwk,←h3]
   constructor
   ·rintro⟨x,hx,e⟩
    rw[qwp] at e
    subst e
    exact(QG l).mem_iff.1 hx
   ·intro h
    exact⟨q.1,(QG l).mem_iff.2 h,qwq rfl⟩
 obtain⟨b,hb⟩:=q6w (g:=fun(a:ByteArray) (v:List ByteArray)=>Option.bind (qA a m) fun(a2:Prod (List ByteArray) (List (Prod ByteArray (List ByteArray))))=>
   Option.bind (qp a2.1 a) fun(a3:Bool)=>if a3=Bool.true then some true else some false) (M:=m) fun q _=>by
  obtain⟨b,h,-⟩:=hq q
  exact⟨b,h⟩
 refine⟨b,hb,?_⟩
 rw[(q2L hb).2]
 constructor
 ·rintro⟨q,h1,h2⟩
  obtain⟨c,h3,h4⟩:=hq q
  rw[h3] at h2
  injection h2 with h2
  exact⟨q,h1,h4.1 h2⟩
 ·rintro⟨q,h1,h2⟩
  obtain⟨c,h3,h4⟩:=hq q
  exact⟨q,h1,by rw[h3,h4.2 h2]⟩
end
noncomputable section
open Go.RowKit
theorem qjT {p:Option qa} {a:qa} (h:q6D p a=0):qej a=0:=by
 unfold q6D at h
 split at h
 ·exact absurd h (by decide)
 ·split at h
  ·exact h
  ·split at h
   ·exact absurd h (by decide)
   ·split at h
    ·exact absurd h (by decide)
    ·exact h
theorem qbO {p:Option qa} {a:qa} {l:List qa} (h:ckF p (a::l)=0):q6D p a=0∧ckF (some a) l=0:=by
 rw[ckF] at h
 split at h
 ·rename_i h';exact absurd h h'
 ·rename_i h';exact⟨Classical.byContradiction fun e=>h' e,h⟩
theorem qgI:∀{l:List qa} {p:Option qa},ckF p l=0→∀o∈l,qej o=0
 | a::l,p,h,o,ho=>by
  obtain⟨h1,h2⟩:=qbO h
  rcases qvN.1 ho with rfl|ho
  ·exact qjT h1
  ·exact qgI h2 o ho
theorem qc6 {o:qa} (h:qej o=0):o.Needs.length≤5:=by
 unfold qej at h
 split at h
 ·exact absurd h (by decide)
 ·split at h
  ·exact absurd h (by decide)
  ·split at h
   ·exact absurd h (by decide)
   ·omega
theorem q6C:∀(L:List qa) (m:List (ByteArray×List ByteArray)),(ixm L m).length≤m.length+L.length
 | [],m=>qvH _
 | o::L,m=>by
  rw[ixm]
  have:=q6C L (if J3 m o.Code=true then m else m++[(o.Code,o.Needs)])
  rw[qvC]
  split at this
  ·rename_i h;rw[if_pos h];omega
  ·rename_i h;rw[if_neg h];rw[qvy,qvJ] at this;omega
theorem q5N {k:Nat}:∀{m:List (ByteArray×List ByteArray)},(∀q∈m,q.2.length≤k)→(uni m).length≤m.length*k
 | [],_=>qvR _
 | q::m,h=>by
  have h1:=q5N fun p hp=>h p (qvz _ hp)
  have h2:=h q qvG
  show(q.2++uni m).length≤_
  rw[qvy,qvC,Nat.add_mul,Nat.one_mul];omega
abbrev ix (L:List qa):=ixm L []
def qjU (L:List qa):Prop:=∃q∈ix L,∃c∈q.2,c ∉ L.map (·.Code)
def qh6 (L:List qa):Prop:=∃c∈L.map (·.Code),Rc (ix L) c c
open Classical in
def qn8 (L:List qa):Int:=if 60<L.length then 2 else if ckF none L≠0 then ckF none L else if qjU L then 5 else if qh6 L then 14 else 0
theorem qgG {L:List qa} {c:ByteArray}:(∃q∈ix L,q.1=c)↔c∈L.map (·.Code):=by
 have h:=q7J L [] c
 rw[JF,qwa] at h
 rw[show(∃q∈ix L,q.1=c)↔(J3 ([]:List (ByteArray×List ByteArray)) c=true∨c∈L.map (·.Code)) from h]
 exact⟨fun h=>h.elim (fun e=>by cases e) fun e=>e,.inr⟩
theorem qcK {L:List qa} (hL:L.length≤1000000) (hz:∀o∈L,qkp o) (hc:∀o∈L,za o.Code=some (q5c o.Code)) (hs:∀o∈L,∀d∈o.Needs,d.size≤maxLen):qy L=some (qn8 L):=by
 unfold qy qn8
 by_cases h60:60<L.length
 ·rw[if_pos (by omega),if_pos h60]
 rw[if_neg (by omega),if_neg h60]
 have h4:=qgD hL hz hc L.length 0 none (by omega) rfl
 rw[List.drop_zero] at h4
 have h4':zc (qC L L ((L.length:Nat):Int)) 0=_:=h4
 rw[h4',qvr]
 by_cases hk:ckF none L=0
 ·rw[if_pos hk,if_neg (show ¬ (ckF none L≠0) from fun e=>e hk),Sum.elim_inr,q5F hL,qvr]
  have hq5:∀q∈ix L,q.2.length≤5:=fun q hq=>by
   rcases q3Q L [] hq with h|⟨o,ho,e⟩
   ·cases h
   ·rw[e];exact qc6 (qgI hk o ho)
  have hN:∀q∈ix L,q.2.length≤1000000:=fun q hq=>by have:=hq5 q hq;omega
  have hil:(ix L).length≤L.length:=by have:=q6C L [];simpa using this
  have hul:=q5N hq5
  have hu:(uni (ix L)).length≤1000000:=by
   have:(ix L).length*5≤60*5:=Nat.mul_le_mul_right 5 (by omega)
   omega
  have hzz:∀d∈uni (ix L),d.size≤maxLen:=fun d hd=>by
   obtain⟨q,hq,hdq⟩:=List.mem_flatMap.1 hd
   rcases q3Q L [] hq with h|⟨o,ho,e⟩
   ·cases h
   ·rw[e] at hdq;exact hs o ho d hdq
  obtain⟨b,h23,hb⟩:=qja hN hzz hu
  have hh:∀c,(!J3 (ix L) c)=true↔c ∉ L.map (·.Code):=fun c=>by
   rw[Bool.not_eq_true',←qwr]
   refine not_congr ((q7J L [] c).trans ⟨fun h=>h.elim (fun e=>by cases e) fun e=>e,.inr⟩)
  have hmiss:((ix L).any fun q=>q.2.any fun c => !J3 (ix L) c)=true↔qjU L:=by
   rw[qwk]
   constructor
   ·rintro⟨q,h1,h2⟩
    rw[qwk] at h2
    obtain⟨c,h3,h4⟩:=h2
    exact⟨q,h1,c,h3,(hh c).1 h4⟩
   ·rintro⟨q,h1,c,h3,h4⟩
    exact⟨q,h1,qwk.2 ⟨c,h3,(hh c).2 h4⟩⟩
  have hcirc:b=true↔qh6 L:=by
   rw[hb]
   constructor
   ·rintro⟨q,h1,h2⟩
    exact⟨q.1,qgG.1 ⟨q,h1,rfl⟩,h2⟩
   ·rintro⟨c,h1,h2⟩
    obtain⟨q,h3,rfl⟩:=qgG.2 h1
    exact⟨q,h3,h2⟩
  rw[qid hN,qvr]
  by_cases hm:qjU L
  ·rw[if_pos (hmiss.2 hm),if_pos hm]
  ·rw[if_neg (fun e=>hm (hmiss.1 e)),if_neg hm,h23,qvr]
   by_cases hci:qh6 L
   ·rw[if_pos (hcirc.2 hci),if_pos hci]
   ·rw[if_neg (fun e=>hci (hcirc.1 e)),if_neg hci]
 ·rw[if_neg hk,if_pos hk,Sum.elim_inl]
theorem qb1 {L:List qa} (hL:L.length≤1000) (hn:∀o∈L,o.Needs.length≤1000) (hs:∀o∈L,∀d∈o.Needs,d.size≤maxLen) (c:ByteArray):∃l,qt L c=some (JD l)∧l.Nodup∧(∀x,x∈l↔Rc (ix L) c x)∧∀x∈l,x∈uni (ix L):=by
 have hN:∀q∈ix L,q.2.length≤1000:=fun q hq=>by
  rcases q3Q L [] hq with h|⟨o,ho,e⟩
  ·cases h
  ·rw[e];exact hn o ho
 have hil:(ix L).length≤L.length:=by have:=q6C L [];simpa using this
 have hul:=q5N hN
 have hu:(uni (ix L)).length≤1000000:=by
  have:(ix L).length*1000≤1000*1000:=Nat.mul_le_mul_right 1000 (by omega)
  omega
 have hzz:∀d∈uni (ix L),d.size≤maxLen:=fun d hd=>by
  obtain⟨q,hq,hdq⟩:=List.mem_flatMap.1 hd
  rcases q3Q L [] hq with h|⟨o,ho,e⟩
  ·cases h
  ·rw[e] at hdq;exact hs o ho d hdq
 obtain⟨l,h1,h2,h3⟩:=q5A (fun q hq=>by have:=hN q hq;omega) c hzz hu
 refine⟨l,?_,h2,h3,fun x hx=>?_⟩
 ·unfold qt
  rw[q5F (by omega),qvr,h1];rfl
 ·cases(h3 x).1 hx with
  | one h=>exact q0y h
  | tail _ h=>exact q0y h
end
noncomputable section
open Go.RowKit
theorem q0f {a b c:ByteArray} (h:blt a b) (h2:blt b c):blt a c:=by
 unfold blt at *
 rw[q6H,qwp] at *
 exact List.lt_trans h h2
theorem qdS:∀{a b:List ByteArray},a.Pairwise blt→b.Pairwise blt→(∀x,x∈a↔x∈b)→a=b
 | [],[],_,_,_=>rfl
 | [],y::b,_,_,h=>by cases(h y).2 qvG
 | x::a,[],_,_,h=>by cases(h x).1 qvG
 | x::a,y::b,hA,hB,h=>by
  obtain⟨a1,a2⟩:=List.pairwise_cons.1 hA
  obtain⟨b1,b2⟩:=List.pairwise_cons.1 hB
  have e:x=y:=by
   rcases qvN.1 ((h x).1 qvG) with e|e
   ·exact e
   ·rcases qvN.1 ((h y).2 qvG) with e2|e2
    ·exact e2.symm
    ·exact(q2G (q0f (b1 x e) (a1 y e2))).elim
  subst e
  rw[qdS a2 b2 fun z=>⟨fun hz=>?_,fun hz=>?_⟩]
  ·rcases qvN.1 ((h z).1 (qvz _ hz)) with e|e
   ·exact(q2G (by have:=a1 z hz;rw[e] at this;exact this)).elim
   ·exact e
  ·rcases qvN.1 ((h z).2 (qvz _ hz)) with e|e
   ·exact(q2G (by have:=b1 z hz;rw[e] at this;exact this)).elim
   ·exact e
theorem qgN:∀(x y:List UInt8),Op.bytesLess x y=true∨x=y∨Op.bytesLess y x=true
 | [],[] => .inr (.inl rfl)
 | [],_::_ => .inl rfl
 | _::_,[] => .inr (.inr rfl)
 | a::x,b::y=>by
  simp only[Op.bytesLess]
  by_cases h1:a<b
  ·simp[h1]
  ·by_cases h2:b<a
   ·simp[h1,h2]
   ·have:a=b:=by
     apply UInt8.toNat_inj.1
     have h1':¬ a.toNat<b.toNat:=h1
     have h2':¬ b.toNat<a.toNat:=h2
     omega
    subst this
    rcases qgN x y with h|h|h<;>simp[h]
theorem q7I (a b:ByteArray):blt a b∨a=b∨blt b a:=by
 rcases qgN a.toList b.toList with h|h|h
 ·exact .inl h
 ·exact .inr (.inl (qgz h))
 ·exact .inr (.inr h)
theorem qfq {l:List ByteArray} (h:l.Nodup):(JD l).Pairwise blt:=by
 have h2:(JD l).Nodup:=(QG l).nodup_iff.2 h
 refine((q1u l).and h2).imp fun {a b} hab=>?_
 rcases q7I a b with e|e|e
 ·exact e
 ·exact absurd e hab.2
 ·exact absurd e hab.1
theorem qoi {l:List ByteArray} (h:l.Pairwise blt) {s:ByteArray} {k:Nat} (h1:∀x∈l.take k,blt x s) (h2:∀x∈l.drop k,blt s x):(l.take k++s::l.drop k).Pairwise blt:=by
 have h3:(l.take k++l.drop k).Pairwise blt:=by rw[qwe];exact h
 obtain⟨p1,p2,p3⟩:=List.pairwise_append.1 h3
 refine List.pairwise_append.2 ⟨p1,List.pairwise_cons.2 ⟨h2,p2⟩,fun x hx y hy=>?_⟩
 rcases qvN.1 hy with rfl|hy
 ·exact h1 x hx
 ·exact p3 x hx y hy
theorem qjf {l:List ByteArray} {s:ByteArray} {k:Nat} {x:ByteArray}:x∈l.take k++s::l.drop k↔x=s∨x∈l:=by
 rw[qvV,qvN]
 constructor
 ·rintro(h|h|h)
  ·exact .inr (List.mem_of_mem_take h)
  ·exact .inl h
  ·exact .inr (List.mem_of_mem_drop h)
 ·rintro(h|h)
  ·exact .inr (.inl h)
  ·rw[←qwe k l,qvV] at h
   exact h.elim .inl fun h => .inr (.inr h)
def plS (s:ByteArray):List ByteArray→Nat | []=>0|x::l=>if bl s x=true then 0 else plS s l+1
theorem qcY (s:ByteArray):∀l,plS s l≤l.length
 | []=>qvH _
 | x::l=>by
  rw[plS]
  split
  ·exact qvR _
  ·have:=qcY s l;rw[qvC];omega
theorem q63 {s:ByteArray}:∀{l:List ByteArray},s ∉ l→∀x∈l.take (plS s l),blt x s
 | [],_,x,hx=>by cases hx
 | y::l,hs,x,hx=>by
  rw[plS] at hx
  split at hx
  ·cases hx
  ·rename_i hn
   rw[List.take_succ_cons] at hx
   rcases qvN.1 hx with rfl|hx
   ·rcases q7I x s with e|e|e
    ·exact e
    ·exact absurd (by rw[e];exact qvG) hs
    ·exact absurd e hn
   ·exact q63 (fun e=>hs (qvz _ e)) x hx
theorem q61 {s:ByteArray}:∀{l:List ByteArray},l.Pairwise blt→∀x∈l.drop (plS s l),blt s x
 | [],_,x,hx=>by simp at hx
 | y::l,h,x,hx=>by
  obtain⟨h1,h2⟩:=List.pairwise_cons.1 h
  rw[plS] at hx
  split at hx
  ·rename_i hy
   rw[List.drop_zero] at hx
   rcases qvN.1 hx with rfl|hx
   ·exact hy
   ·exact q0f hy (h1 x hx)
  ·rw[List.drop_succ_cons] at hx
   exact q61 h2 x hx
def qaK (l:List ByteArray) (s:ByteArray):List ByteArray:=l.take (plS s l)++s::l.drop (plS s l)
theorem qk1 {l:List ByteArray} (h:l.Pairwise blt) {s:ByteArray} (hs:s ∉ l):(qaK l s).Pairwise blt:=qoi h (q63 hs) (q61 h)
theorem q1I {l:List ByteArray} {s x:ByteArray}:x∈qaK l s↔x=s∨x∈l:=qjf
structure BI (m:List (ByteArray×List ByteArray)) (c:ByteArray) (out more r:List ByteArray):Prop where
 pw:out.Pairwise blt
 ro:∀x∈out,Rc m c x
 rm:∀x∈more,Rc m c x
 rr:∀x∈r,Rc m c x
 cl:∀x∈out,∀y∈Qz [] m x,y∈out∨y∈more∨y∈r
 c0:∀y∈Qz [] m c,y∈out∨y∈more∨y∈r
theorem BI.old {m:List (ByteArray×List ByteArray)} {c n:ByteArray} {out more r:List ByteArray} (h:BI m c out more (n::r)) (hn:n∈out):BI m c out more r:=by
 refine⟨h.pw,h.ro,h.rm,fun x hx=>h.rr x (qvz _ hx),fun x hx y hy=>?_,fun y hy=>?_⟩
 ·rcases h.cl x hx y hy with e|e|e
  ·exact .inl e
  ·exact .inr (.inl e)
  ·rcases qvN.1 e with rfl|e
   ·exact .inl hn
   ·exact .inr (.inr e)
 ·rcases h.c0 y hy with e|e|e
  ·exact .inl e
  ·exact .inr (.inl e)
  ·rcases qvN.1 e with rfl|e
   ·exact .inl hn
   ·exact .inr (.inr e)
theorem BI.new {m:List (ByteArray×List ByteArray)} {c n:ByteArray} {out more r:List ByteArray} (h:BI m c out more (n::r)) (hn:n ∉ out):BI m c (qaK out n) (more++Qz [] m n) r:=by
 have hrn:=h.rr n qvG
 have up:∀y,(y∈out∨y∈more∨y∈n::r)→y∈qaK out n∨y∈more++Qz [] m n∨y∈r:=fun y hy=>by
  rcases hy with e|e|e
  ·exact .inl (q1I.2 (.inr e))
  ·exact .inr (.inl (qvD _ e))
  ·rcases qvN.1 e with e|e
   ·exact .inl (q1I.2 (.inl e))
   ·exact .inr (.inr e)
 refine⟨qk1 h.pw hn,fun x hx=>?_,fun x hx=>?_,fun x hx=>h.rr x (qvz _ hx),fun x hx y hy=>?_,fun y hy=>up y (h.c0 y hy)⟩
 ·rcases q1I.1 hx with e|e
  ·rw[e];exact hrn
  ·exact h.ro x e
 ·rcases qvV.1 hx with e|e
  ·exact h.rm x e
  ·exact .tail hrn e
 ·rcases q1I.1 hx with e|e
  ·rw[e] at hy
   exact .inr (.inl (qvA _ hy))
  ·exact up y (h.cl x e y hy)
theorem BI.turn {m:List (ByteArray×List ByteArray)} {c:ByteArray} {out more:List ByteArray} (h:BI m c out more []):BI m c out [] more:=by
 have up:∀y,(y∈out∨y∈more∨y∈[])→(y∈out∨y∈[]∨y∈more):=fun y hy=>by
  rcases hy with e|e|e
  ·exact .inl e
  ·exact .inr (.inr e)
  ·exact(List.not_mem_nil e).elim
 exact⟨h.pw,h.ro,fun x hx=>(List.not_mem_nil hx).elim,h.rm,fun x hx y hy=>up y (h.cl x hx y hy),fun y hy=>up y (h.c0 y hy)⟩
theorem BI.done {m:List (ByteArray×List ByteArray)} {c:ByteArray} {out:List ByteArray} (h:BI m c out [] []):out.Pairwise blt∧∀x,x∈out↔Rc m c x:=by
 refine⟨h.pw,fun x=>⟨h.ro x,fun hx=>?_⟩⟩
 induction hx with
 | one e=>
  rcases h.c0 _ e with e|e|e
  ·exact e
  ·cases e
  ·cases e
 | tail _ e ih=>
  rcases h.cl _ ih _ e with e|e|e
  ·exact e
  ·cases e
  ·cases e
theorem BI.start (m:List (ByteArray×List ByteArray)) (c:ByteArray):BI m c [] [] (Qz [] m c):=
 ⟨.nil,fun x hx=>(List.not_mem_nil hx).elim,fun x hx=>(List.not_mem_nil hx).elim,fun x hx => .one hx,fun x hx=>(List.not_mem_nil hx).elim,fun y hy => .inr (.inr hy)⟩
def inB (out:List ByteArray) (x:ByteArray):Bool:=out.any fun a=>decide (x=a)
theorem q1z {out:List ByteArray} {x:ByteArray}:inB out x=true↔x∈out:=by
 unfold inB
 rw[qwk]
 exact⟨fun⟨a,h1,h2⟩=>by rw[qwp] at h2;rw[h2];exact h1,fun h=>⟨x,h,qwq rfl⟩⟩
def mo (m:List (ByteArray×List ByteArray)) (out:List ByteArray):Nat:=((uni m).filter fun x => !inB out x).length
theorem qrk {m:List (ByteArray×List ByteArray)} {out:List ByteArray} {n:ByteArray} (hn:n ∉ out) (hu:n∈uni m):mo m (qaK out n)<mo m out:=by
 have hnb:∀{o:List ByteArray} {x:ByteArray},(!inB o x)=true↔x ∉ o:=fun {o x}=>by
  rw[Bool.not_eq_true',←qwr];exact not_congr q1z
 unfold mo
 exact qaV (p:=fun x => !inB out x) (q:=fun x => !inB (qaK out n) x) (d:=n) (fun x hx=>hnb.2 fun e=>hnb.1 hx (q1I.2 (.inr e))) (hnb.2 hn) (by show(!inB (qaK out n) n)=false;rw[q1z.2 (q1I.2 (.inl rfl))];rfl) _ hu
end
noncomputable section
open Go.RowKit
theorem qh4 {p a:qa} (h:q6D (some p) a=0):blt p.Code a.Code:=by
 unfold q6D at h
 split at h
 ·exact absurd h (by decide)
 ·simp only at h
  split at h
  ·exact absurd h (by decide)
  ·split at h
   ·exact absurd h (by decide)
   ·rename_i hb
    rw[Bool.not_eq_false] at hb
    exact hb
theorem qnY:∀{l:List qa} {p:Option qa},ckF p l=0→(l.Pairwise fun a b=>blt a.Code b.Code)∧∀q,p=some q→∀x∈l,blt q.Code x.Code
 | [],p,_=>⟨.nil,fun q _ x hx=>(List.not_mem_nil hx).elim⟩
 | a::l,p,h=>by
  obtain⟨h1,h2⟩:=qbO h
  obtain⟨h3,h4⟩:=qnY h2
  refine⟨List.pairwise_cons.2 ⟨h4 a rfl,h3⟩,fun q hq x hx=>?_⟩
  subst hq
  rcases qvN.1 hx with rfl|hx
  ·exact qh4 h1
  ·exact q0f (qh4 h1) (h4 a rfl x hx)
theorem q9x {L:List qa} (h:ckF none L=0):(L.map (·.Code)).Nodup:=by
 have:=(qnY h).1
 rw[List.nodup_iff_pairwise_ne,List.pairwise_map]
 exact this.imp fun {a b} hab=>q5t hab
theorem q6X:∀(L:List qa) (m:List (ByteArray×List ByteArray)),(∀o∈L,J3 m o.Code≠true)→(L.map (·.Code)).Nodup→ixm L m=m++L.map fun o=>(o.Code,o.Needs)
 | [],m,_,_=>by rw[ixm,List.map_nil,qvM]
 | o::L,m,h,hn=>by
  rw[qvO,List.nodup_cons] at hn
  rw[ixm,if_neg (h o qvG),q6X L _ (fun p hp e=>?_) hn.2,qw6]
  ·rfl
  ·rcases q2V.1 e with e|e
   ·exact h p (qvz _ hp) e
   ·exact hn.1 (by rw[←e];exact qwa.2 ⟨p,hp,rfl⟩)
theorem qfB {L:List qa} (h:(L.map (·.Code)).Nodup):ix L=L.map fun o=>(o.Code,o.Needs):=by
 rw[show ix L=ixm L [] from rfl,q6X L [] (fun o _ e=>by cases e) h,qvL]
theorem qg6 {L:List qa} (h:(L.map (·.Code)).Nodup):qjU L↔∃o∈L,∃c∈o.Needs,c ∉ L.map (·.Code):=by
 unfold qjU
 rw[qfB h]
 constructor
 ·rintro⟨q,hq,c,h1,h2⟩
  obtain⟨o,ho,rfl⟩:=qwa.1 hq
  exact⟨o,ho,c,h1,h2⟩
 ·rintro⟨o,ho,c,h1,h2⟩
  exact⟨_,qwa.2 ⟨o,ho,rfl⟩,c,h1,h2⟩
theorem qgF {L:List qa} (c:ByteArray):Qz [] (ix L) c=qaO L c:=by
 rw[show ix L=ixm L [] from rfl,qe6,if_neg (fun e=>by cases e)]
end
noncomputable section
open Go.RowKit
open Classical in
end
noncomputable section
open Go.RowKit
def qlR (L:List qa) (c:ByteArray):Option qa:=L.find? fun o=>decide (o.Code=c)
def zO:qa:=⟨ByteArray.mk (List.toArray []),0,0,[],[]⟩
def q8H (L:List qa) (c:ByteArray):qa×Bool:=match qlR L c with|some o=>(o,true)|none=>(zO,false)
theorem q1G (c:ByteArray):∀L:List qa,(q8H L c).1.Needs=qaO L c
 | []=>rfl
 | o::L=>by
  have ih:=q1G c L
  unfold q8H qlR at *
  rw[List.find?_cons,qaO]
  by_cases h:o.Code=c
  ·rw[qwq h,if_pos h.symm]
  ·rw[decide_eq_false h,if_neg (fun e=>h e.symm)];exact ih
theorem qeX {L:List qa} {c:ByteArray}:(q8H L c).1∈L∨(q8H L c).1=zO:=by
 unfold q8H qlR
 cases h:L.find? (fun o=>decide (o.Code=c)) with
 | some o=>exact .inl (List.mem_of_find?_eq_some h)
 | none=>exact .inr rfl
open Classical in
def OrO (L:List qa) (w:List ByteArray):Prop:=w.Nodup∧∀c∈w,c∈L.map (·.Code)
theorem OrO.add {L:List qa} {w:List ByteArray} (h:OrO L w) {o:qa} (ho:o∈L) (hn:o.Code ∉ w):OrO L (w++[o.Code]):=by
 refine⟨List.nodup_append.2 ⟨h.1,List.nodup_cons.2 ⟨List.not_mem_nil,List.nodup_nil⟩,fun a ha b hb=>?_⟩,fun c hc=>?_⟩
 ·rw[qwg] at hb;subst hb
  exact fun e=>hn (e ▸ ha)
 ·rcases qvV.1 hc with e|e
  ·exact h.2 c e
  ·rw[qwg] at e;rw[e];exact qwa.2 ⟨o,ho,rfl⟩
end
noncomputable section
open Go.RowKit
theorem q1E {α:Type} (l:List α) (q:α→Bool) (step:Int→Option (Int⊕(Unit⊕Unit)))
  (h:∀(i:Nat) a,l[i]?=some a→step (i:Int)=some (if q a=true then .inr (.inl ()) else .inl ((i+1:Nat):Int)))
  (hn:step ((l.length:Nat):Int)=some (.inr (.inr ()))):zc step 0=some (if l.any q=true then .inl () else .inr ()):=by
 have h1:=q9a (step:=step) 0 l.length (qvR _) (atB l fun a => !q a) (.inl ()) (.inr ()) (fun i _ hi=>by
  have ha:=qvt hi
  rw[h i _ ha,q4j ha]
  cases q l[i]<;>rfl) hn
 have h2:zc step 0=_:=h1
 rw[h2]
 congr 1
 have h3:=q7B l fun a => !q a
 by_cases ha:l.any q=true
 ·rw[if_pos ha,if_neg]
  intro e
  have e2:=h3.1 e
  obtain⟨a,h4,h5⟩:=qwk.1 ha
  have:=qvI.1 e2 a h4
  rw[h5] at this;cases this
 ·rw[if_neg ha,if_pos]
  refine h3.2 (qvI.2 fun a h4=>?_)
  cases h5:q a with
  | false=>rfl
  | true=>exact absurd (qwk.2 ⟨a,h4,h5⟩) ha
theorem q7C {l:List ByteArray} (hl:l.length≤1000000) (s:ByteArray):Zb l s=some (inB l s):=by
 unfold Zb
 rw[q1E l (fun a=>decide (s=a)) (Z0 l s) (fun i a ha=>by
  have:=QC ha
  unfold Z0
  rw[if_pos (by omega),if_pos (by omega),qvu,ha,qvr,q8i,qW this (by omega)]
  by_cases e:a=s
  ·simp[e]
  ·have e':¬ s=a:=fun q=>e q.symm
   simp[e,e']) (by unfold Z0;rw[if_neg (by omega)]),qvr]
 show _=some (l.any fun a=>decide (s=a))
 cases(l.any fun a=>decide (s=a))<;>rfl
theorem q7r {o:qa} (h:o.Slots.length≤1000000∧o.Needs.length≤1000000):ZH o=some (o.Code,o.Credits,o.Places,o.Slots,o.Needs):=by
 unfold ZH
 rw[if_pos (by unfold maxLen;omega),if_pos (by unfold maxLen;omega)]
theorem q54 {L:List qa} (hL:L.length≤1000000) (hs:∀o∈L,o.Slots.length≤1000000∧o.Needs.length≤1000000) (c:ByteArray):QM L c=some (q8H L c):=by
 have h1:=qcO (ε:=(List Int×List ByteArray×ByteArray×Int×Int)⊕Unit) (step:=Qq (ByteArray.mk (List.toArray [])) (0:Int) (0:Int) L c) L (fun i=>(i:Int)) (fun o=>if o.Code=c then some (.inl (o.Slots,o.Needs,o.Code,o.Credits,o.Places)) else none) (.inr ()) (fun i a ha=>by
  have:=QC ha
  unfold Qq
  rw[if_pos (by omega),if_pos (by omega),qvu,ha,qvr,q8i,if_pos (show(0:Int)≤(i:Int)∧(i:Int)<((L.length:Nat):Int) by omega),qvr,q7r (hs a (qvs ha)),qvr,qW this (by omega)]
  by_cases e:a.Code=c
  ·rw[qwq e,if_pos rfl,if_pos e]
  ·rw[decide_eq_false e,if_neg (by decide),if_neg e]) (by unfold Qq;rw[if_neg (by omega)])
 have h2:zc (Qq (ByteArray.mk (List.toArray [])) (0:Int) (0:Int) L c) 0=_:=h1
 unfold QM q8H qlR
 rw[h2,qvr]
 have h3:∀l:List qa,l.findSome? (fun o=>if o.Code=c then some ((.inl (o.Slots,o.Needs,o.Code,o.Credits,o.Places):(List Int×List ByteArray×ByteArray×Int×Int)⊕Unit)) else none)=(l.find? fun o=>decide (o.Code=c)).map fun o => .inl (o.Slots,o.Needs,o.Code,o.Credits,o.Places):=by
  intro l
  induction l with
  | nil=>rfl
  | cons o l ih=>
   rw[List.findSome?_cons,List.find?_cons]
   by_cases e:o.Code=c
   ·rw[if_pos e,qwq e];rfl
   ·rw[if_neg e,decide_eq_false e];exact ih
 rw[h3]
 cases L.find? (fun o=>decide (o.Code=c)) with
 | some o=>rfl
 | none=>rfl
theorem nbl {a s:ByteArray} (h:a≠s):(!(Op.bytesLess a.toList s.toList||a.toList==s.toList))=bl s a:=by
 rw[q8i,decide_eq_false h,Bool.or_false]
 rcases q7I a s with e|e|e
 ·have h1:Op.bytesLess a.toList s.toList=true:=e
  have h2:bl s a=false:=qvT.2 fun q=>q2G (q0f e q)
  rw[h1,h2];rfl
 ·exact absurd e h
 ·have h1:bl s a=true:=e
  have h2:Op.bytesLess a.toList s.toList=false:=qvT.2 fun q=>q2G (q0f e q)
  rw[h1,h2];rfl
theorem q8U {l:List ByteArray} (hp:l.Pairwise blt) {s:ByteArray} (hs:s ∉ l) (hl:l.length≤1000000):∀n:Nat,n+plS s l≤l.length→zc (QY l s) ((n+plS s l:Nat):Int)=some ((plS s l:Nat):Int)
 | 0,hn=>by
  refine qR ?_
  unfold QY
  rw[qvP]
  by_cases h0:plS s l=0
  ·rw[if_neg (by omega)]
  ·have h1:plS s l-1<l.length:=by omega
   have ha:=qvt h1
   have hw:w64 (((plS s l:Nat):Int)-1)=((plS s l-1:Nat):Int):=by rw[Zm (by omega) (by omega)];omega
   have hm:l[plS s l-1]∈l.take (plS s l):=List.mem_iff_getElem?.2 ⟨plS s l-1,by rw[qw0 (by omega)];exact ha⟩
   have hb:=q63 hs _ hm
   rw[if_pos (by omega),hw,if_pos (by omega),qvu,ha,qvr,nbl (fun e=>hs (by rw[←e];exact qwh h1)),if_neg (show ¬ (bl s l[plS s l-1]=true) from fun q=>q2G (q0f hb q))]
 | n+1,hn=>by
  have h1:n+plS s l<l.length:=by omega
  have ha:=qvt h1
  have hw:w64 (((n+1+plS s l:Nat):Int)-1)=((n+plS s l:Nat):Int):=by rw[Zm (by omega) (by omega)];omega
  have hm:l[n+plS s l]∈l.drop (plS s l):=List.mem_iff_getElem?.2 ⟨n,by rw[List.getElem?_drop,Nat.add_comm];exact ha⟩
  have hb:=q61 hp _ hm
  rw[zL (y:=((n+plS s l:Nat):Int)) (by
   unfold QY
   rw[if_pos (by omega),hw,if_pos (by omega),qvu,ha,qvr,nbl (fun e=>hs (by rw[←e];exact qwh h1)),if_pos (show bl s l[n+plS s l]=true from hb)])]
  exact q8U hp hs hl n (by omega)
def qr4 (l:List ByteArray) (s:ByteArray):List ByteArray:=if inB l s=true then l else qaK l s
theorem qiR {l:List ByteArray} (hp:l.Pairwise blt) (hl:l.length≤1000000) (s:ByteArray):J8 l s=some (qr4 l s):=by
 unfold J8 qr4
 rw[q7C hl,qvr]
 cases h:inB l s with
 | true=>rw[if_pos rfl,if_pos rfl]
 | false=>
  have hs:s ∉ l:=fun e=>by rw[q1z.2 e] at h;cases h
  have h1:=qcY s l
  have h2:=q8U hp hs hl (l.length-plS s l) (by omega)
  rw[show l.length-plS s l+plS s l=l.length by omega] at h2
  have e1:(l.drop (plS s l)).take (l.length-plS s l)=l.drop (plS s l):=qww (by rw[qwc];omega)
  rw[if_neg (by decide),if_neg (by decide),h2,qvr,qvu,qwi,e1]
  rw[if_pos (by omega),if_pos (by rw[qvU];unfold maxLen;omega),if_pos (by rw[qvU];unfold maxLen;omega),if_pos (by omega),if_pos (by rw[qvU,qwc];unfold maxLen;omega)]
  unfold qaK
  rw[qw6];rfl
theorem qb9 {l:List ByteArray} (hl:l.length≤1000000):Qy l=some (q7N bl l):=by
 have h:=q1i bl l (zt l) (fun i a b ha hb=>by
  have h1:=QC ha
  have h2:=QC hb
  have w1:w64 (((i+1:Nat):Int)-1)=(i:Int):=by rw[Zm (by omega) (by omega)];omega
  have w2:w64 (((i+1:Nat):Int)+1)=((i+2:Nat):Int):=by rw[Zm (by omega) (by omega)];omega
  unfold zt
  rw[if_pos (by omega),w1,if_pos (by omega),qvu,ha,qvr,if_pos (by omega),qvu,hb,qvr,w2]
  cases h:bl a b
  ·rw[if_pos (by rw[show Op.bytesLess a.toList b.toList=false from h];decide),if_neg (by decide)]
  ·rw[if_neg (by rw[show Op.bytesLess a.toList b.toList=true from h];decide),if_pos rfl]) (fun i hi=>by
  unfold zt
  rw[if_neg (by omega)]) l.length 0 (by omega)
 rw[List.drop_zero] at h
 unfold Qy
 have h':zc (zt l) 1=_:=h
 rw[h',qvr]
 cases q7N bl l<;>rfl
theorem q2m {o:qa} (h:qkp o):Ql o=some (qej o):=by
 have hsl:=h.sl
 have e4:=q1E o.Slots farF (Qp o) (fun i a ha=>by
  have:=QC ha
  unfold Qp farF
  rw[if_pos (by omega),if_pos (by omega),qvu,ha,qvr]
  by_cases h1:a<1
  ·rw[if_pos h1,qwq h1,Bool.true_or,if_pos rfl]
  ·rw[if_neg h1,decide_eq_false h1,Bool.false_or,if_pos (by omega),qvr,qW this (by omega)]
   by_cases h2:40<a
   ·rw[if_pos h2,if_pos (qwq h2)]
   ·rw[if_neg h2,if_neg (by rw[decide_eq_false h2];decide)]) (by unfold Qp;rw[if_neg (by omega)])
 have e9:=q1i (fun a b:Int=>decide (a<b)) o.Slots (Q7 o) (fun i a b ha hb=>by
  have h1:=QC ha
  have h2:=QC hb
  have w1:w64 (((i+1:Nat):Int)-1)=(i:Int):=by rw[Zm (by omega) (by omega)];omega
  have w2:w64 (((i+1:Nat):Int)+1)=((i+2:Nat):Int):=by rw[Zm (by omega) (by omega)];omega
  unfold Q7
  rw[if_pos (by omega),w1,if_pos (by omega),qvu,ha,qvr,if_pos (by omega),qvu,hb,qvr,w2]
  by_cases h:a<b
  ·rw[if_neg (by omega),if_pos (qwq h)]
  ·rw[if_pos (by omega),if_neg (by rw[decide_eq_false h];decide)]) (fun i hi=>by
  unfold Q7
  rw[if_neg (by omega)]) o.Slots.length 0 (by omega)
 rw[List.drop_zero] at e9
 have e9':zc (Q7 o) 1=_:=e9
 unfold Ql qej
 by_cases h1:o.Credits<1
 ·rw[if_pos h1,if_pos (.inl h1)]
 by_cases h2:60<o.Credits
 ·rw[if_neg h1,if_pos h2,if_pos (.inr (.inl h2))]
 by_cases h3:o.Places<0
 ·rw[if_neg h1,if_neg h2,if_pos h3,if_pos (.inr (.inr (.inl h3)))]
 by_cases h4:200<o.Places
 ·rw[if_neg h1,if_neg h2,if_neg h3,if_pos h4,if_pos (.inr (.inr (.inr (.inl h4))))]
 rw[if_neg h1,if_neg h2,if_neg h3,if_neg h4,e4,qvr]
 by_cases h5:o.Slots.any farF=true
 ·rw[if_pos h5,Sum.elim_inl,if_pos (.inr (.inr (.inr (.inr h5))))]
 have hn:¬ (o.Credits<1∨60<o.Credits∨o.Places<0∨200<o.Places∨o.Slots.any farF=true):=by
  rintro(h|h|h|h|h)
  ·exact h1 h
  ·exact h2 h
  ·exact h3 h
  ·exact h4 h
  ·exact h5 h
 rw[if_neg h5,if_neg hn,Sum.elim_inr,e9',qvr]
 cases h6:q7N (fun a b:Int=>decide (a<b)) o.Slots
 ·rw[if_neg (show ¬ (false=true) by decide),if_pos rfl,Sum.elim_inl]
 rw[if_pos rfl,if_neg (show ¬ (true=false) by decide),Sum.elim_inr]
 by_cases h7:5<o.Needs.length
 ·rw[if_pos (by omega),if_pos h7]
 rw[if_neg (by omega),if_neg h7,qb9 h.nd,qvr]
 cases h8:q7N bl o.Needs
 ·rw[if_pos (by decide),if_pos rfl]
 ·rw[if_neg (show ¬ ((!true)=true) by decide),if_neg (show ¬ (true=false) by decide)]
theorem qc8 {L:List qa} (hL:L.length≤1000000) (hz:∀o∈L,qkp o) (hc:∀o∈L,o.Code.size≤1000):∀(n i:Nat) (p:Option qa),n+i=L.length→(p=if i=0 then none else L[i-1]?)→
  zc (zP L) (i:Int)=some (if ckF p (L.drop i)=0 then .inr () else .inl (ckF p (L.drop i)))
 | 0,i,p,hi,_=>by
  have hs:zP L (i:Int)=some (.inr (.inr ())):=by
   unfold zP
   dsimp only
   rw[if_neg (by omega)]
  rw[qR hs,qw7 (by omega),ckF,if_pos rfl]
 | n+1,i,p,hi,hp=>by
  have h1:i<L.length:=by omega
  have hin:L[i]∈L:=qwh h1
  have w1:w64 ((i:Int)+1)=((i+1:Nat):Int):=qW h1 (by omega)
  have q0:(0:Int)≤(i:Int)∧(i:Int)<((L.length:Nat):Int):=⟨by omega,by omega⟩
  rw[List.drop_eq_getElem_cons h1,ckF]
  have hs:zP L (i:Int)=some (if q6D p L[i]≠0 then .inr (.inl (q6D p L[i])) else .inl ((i+1:Nat):Int)):=by
   unfold zP q6D
   dsimp only
   rw[if_pos (show(i:Int)<((L.length:Nat):Int) by omega),if_pos q0,qvu,qvt h1,qvr,q9r (hc _ hin),qvr]
   cases hcd:q5c L[i].Code
   ·rw[if_pos (show(!false)=true by decide),if_pos rfl,if_pos (by decide)]
   ·have t1:¬ ((!true)=true):=by decide
    have t2:¬ (true=false):=by decide
    have t3:¬ (false=true):=by decide
    have t4:(!false)=true:=by decide
    have fin:∀x:Int,(if(x != 0)=true then some (Sum.inr (Sum.inl x)) else some (Sum.inl ((i+1:Nat):Int)):Option (Int⊕(Int⊕Unit)))=some (if x≠0 then .inr (.inl x) else .inl ((i+1:Nat):Int)):=fun x=>by
     by_cases hx:x=0
     ·rw[if_neg (by rw[hx];decide),if_neg (by rw[hx];decide)]
     ·rw[if_pos (by simpa using hx),if_pos hx]
    simp only[if_neg t1,if_neg t2,q2m (hz _ hin)]
    by_cases h0:i=0
    ·rw[if_pos h0] at hp
     subst hp
     have q1:¬ (0:Int)<(i:Int):=by omega
     simp only[if_neg q1,if_pos q0,qvr,w1,qvt h1,q2m (hz _ hin)]
     exact fin _
    ·rw[if_neg h0] at hp
     have h2:i-1<L.length:=by omega
     rw[qvt h2] at hp
     subst hp
     have q1:(0:Int)<(i:Int):=by omega
     have w2:w64 ((i:Int)-1)=((i-1:Nat):Int):=by rw[Zm (by omega) (by omega)];omega
     have q2:(0:Int)≤((i-1:Nat):Int)∧((i-1:Nat):Int)<((L.length:Nat):Int):=⟨by omega,by omega⟩
     simp only[if_pos q1,w2,if_pos q2,if_pos q0,qvu,qvt h2,qvt h1,qvr,w1,q8i,q2m (hz _ hin)]
     by_cases he:L[i-1].Code=L[i].Code
     ·have hd:=qwq he
      simp only[hd,if_pos he,if_true]
      rw[if_pos (show(6:Int)≠0 by decide)]
     ·have hd:=decide_eq_false he
      simp only[hd,if_neg he,if_neg t3,Bool.or_false]
      cases hb:Op.bytesLess L[i-1].Code.toList L[i].Code.toList
      ·rw[if_pos t4,if_pos (show bl L[i-1].Code L[i].Code=false from hb),if_pos (show(7:Int)≠0 by decide)]
      ·rw[if_neg t1,if_neg (show ¬ (bl L[i-1].Code L[i].Code=false) by rw[show bl L[i-1].Code L[i].Code=true from hb];decide)]
       exact fin _
  by_cases he:q6D p L[i]=0
  ·rw[if_neg (show ¬ (q6D p L[i]≠0) from fun e=>e he)] at hs
   rw[zL hs,if_neg (show ¬ (q6D p L[i]≠0) from fun e=>e he)]
   exact qc8 hL hz hc n (i+1) (some L[i]) (by omega) (by rw[if_neg (by omega),Nat.add_sub_cancel,qvt h1])
  ·rw[if_pos he] at hs
   rw[qR hs,if_pos he,if_neg he]
def qpW (L:List qa):Bool:=L.any fun o=>o.Needs.any fun c => !(q8H L c).2
theorem qfS {L:List qa} {c:ByteArray}:(q8H L c).2=true↔c∈L.map (·.Code):=by
 unfold q8H qlR
 cases h:L.find? (fun o=>decide (o.Code=c)) with
 | some o=>
  have h1:=List.find?_some h
  exact⟨fun _=>qwa.2 ⟨o,List.mem_of_find?_eq_some h,of_decide_eq_true h1⟩,fun _=>rfl⟩
 | none=>
  refine⟨fun e=>(by cases e),fun e=>?_⟩
  obtain⟨o,h1,h2⟩:=qwa.1 e
  have h3:=List.find?_eq_none.1 h o h1
  exact absurd (qwq h2) h3
theorem qcN {L:List qa} (h:(L.map (·.Code)).Nodup):qpW L=true↔qjU L:=by
 rw[qg6 h]
 unfold qpW
 rw[qwk]
 refine exists_congr fun o=>and_congr_right fun _=>?_
 rw[qwk]
 refine exists_congr fun c=>and_congr_right fun _=>?_
 rw[Bool.not_eq_true',←qwr]
 exact not_congr qfS
theorem qfl {L:List qa} (hL:L.length≤1000000) (hs:∀o∈L,o.Slots.length≤1000000∧o.Needs.length≤1000000):zc (Q4 L) 0=some (if qpW L=true then .inl () else .inr ()):=
 q1E L (fun o=>o.Needs.any fun c => !(q8H L c).2) (Q4 L) (fun k o ho=>by
  have:=QC ho
  have hn:=(hs o (qvs ho)).2
  unfold Q4
  rw[if_pos (by omega),q1E o.Needs (fun c => !(q8H L c).2) (Qm L (k:Int)) (fun i c hc=>by
   have:=QC hc
   unfold Qm
   rw[if_pos (by omega),qvu,ho,qvr,if_pos (by omega),if_pos (by omega),qvr,if_pos (by omega),qvu,hc,qvr,q54 hL hs,qvr,qW this (by omega)]
   cases(q8H L c).2<;>rfl) (by unfold Qm;rw[if_pos (by omega),qvu,ho,qvr,if_neg (by omega)]),qvr,qW this (by omega)]
  cases(o.Needs.any fun c => !(q8H L c).2)<;>rfl) (by unfold Q4;rw[if_neg (by omega)])
end
noncomputable section
open Go.RowKit
structure OSm (o:qa):Prop where
 sl:o.Slots.length≤1000
 nd:o.Needs.length≤1000
 cd:o.Code.size≤1000
 dn:∀d∈o.Needs,d.size≤1000
structure Sml (L:List qa):Prop where
 ln:L.length≤1000
 el:∀o∈L,OSm o
theorem Sml.ll {L:List qa} (h:Sml L):∀o∈L,o.Slots.length≤1000000∧o.Needs.length≤1000000:=fun o ho=>⟨by have:=(h.el o ho).sl;omega,by have:=(h.el o ho).nd;omega⟩
theorem Sml.of {L:List qa} (h:Sml L):∀o∈L,qkp o:=fun o ho=>⟨(h.ll o ho).1,(h.ll o ho).2⟩
theorem Sml.mx {L:List qa} (h:Sml L):∀o∈L,∀d∈o.Needs,d.size≤maxLen:=fun o ho d hd=>by have:=(h.el o ho).dn d hd;unfold maxLen;omega
theorem Sml.cc {L:List qa} (h:Sml L):∀o∈L,za o.Code=some (q5c o.Code):=fun o _=>qc9 o.Code
theorem Sml.uni {L:List qa} (h:Sml L):(uni (ix L)).length≤1000000:=by
 have hN:∀q∈ix L,q.2.length≤1000:=fun q hq=>by
  rcases q3Q L [] hq with h1|⟨o,ho,e⟩
  ·cases h1
  ·rw[e];exact(h.el o ho).nd
 have hil:(ix L).length≤L.length:=by have:=q6C L [];simpa using this
 have hul:=q5N hN
 have:(ix L).length*1000≤1000*1000:=Nat.mul_le_mul_right 1000 (by have:=h.ln;omega)
 omega
theorem q62 {L:List qa} (h:∀o∈L,OSm o) (c:ByteArray):(qaO L c).length≤1000:=by
 have h1:=q1G c L
 rw[←h1]
 rcases qeX (L:=L) (c:=c) with e|e
 ·exact(h _ e).nd
 ·rw[e];exact qvR _
theorem Rc.uni {m:List (ByteArray×List ByteArray)} {c x:ByteArray} (h:Rc m c x):x∈uni m:=by
 cases h with
 | one h=>exact q0y h
 | tail _ h=>exact q0y h
theorem qfn {l:List ByteArray} (h:l.Pairwise blt):l.Nodup:=by
 rw[List.nodup_iff_pairwise_ne]
 exact h.imp fun {a b} hab=>q5t hab
theorem BI.len {L:List qa} (hS:Sml L) {c:ByteArray} {out more r:List ByteArray} (h:BI (ix L) c out more r):out.length≤1000000:=by
 have h1:=q3f (qfn h.pw) (t:=uni (ix L)) fun x hx=>(h.ro x hx).uni
 have:=hS.uni;omega
theorem nl7 {L:List qa} (hS:Sml L) {c:ByteArray} {next:List ByteArray} (hnx:next.length≤1000000000):∀(n k:Nat) (more out:List ByteArray),n+k=next.length→BI (ix L) c out more (next.drop k)→more.length≤1000*out.length→
  ∃more' out',zc (zh L next) (more,(out,(k:Int)))=some (more',out')∧BI (ix L) c out' more' []∧more'.length≤1000*out'.length∧(mo (ix L) out'<mo (ix L) out∨(more'=more∧out'=out))
 | 0,k,more,out,hk,hB,hm=>by
  rw[qw7 (by omega)] at hB
  refine⟨more,out,qR ?_,hB,hm,.inr ⟨rfl,rfl⟩⟩
  unfold zh
  dsimp only
  rw[if_neg (by omega)]
 | n+1,k,more,out,hk,hB,hm=>by
  have h1:k<next.length:=by omega
  have ho:=hB.len hS
  have hll:=hS.ll
  have hL:L.length≤1000000:=by have:=hS.ln;omega
  rw[List.drop_eq_getElem_cons h1] at hB
  have hs:∀{y},(if inB out next[k]=true then some (Sum.inl (more,(out,((k+1:Nat):Int)))) else some (Sum.inl (more++qaO L next[k],(qaK out next[k],((k+1:Nat):Int)))):Option ((List ByteArray×List ByteArray×Int)⊕(List ByteArray×List ByteArray)))=y→zh L next (more,(out,(k:Int)))=y:=fun {y} hy=>by
   rw[←hy]
   have q0:(0:Int)≤(k:Int)∧(k:Int)<((next.length:Nat):Int):=⟨by omega,by omega⟩
   have hf:=q62 hS.el next[k]
   unfold zh
   dsimp only
   rw[if_pos (show(k:Int)<((next.length:Nat):Int) by omega),if_pos q0,qvu,qvt h1,qvr,q7C (by omega),qvr,qW h1 (by omega)]
   cases hi:inB out next[k] with
   | true=>rw[if_neg (by decide),if_pos rfl]
   | false=>
    have hni:next[k] ∉ out:=fun e=>by rw[q1z.2 e] at hi;cases hi
    rw[if_pos (by decide),if_pos q0,qvr,qiR hB.pw (by omega),qvr,if_pos q0,qvr,q54 hL hll,qvr,q1G,if_pos (by unfold maxLen;omega),if_neg (by decide)]
    unfold qr4
    rw[hi,if_neg (by decide)]
  by_cases hi:inB out next[k]=true
  ·have h2:=hs rfl
   rw[if_pos hi] at h2
   rw[zL h2]
   exact nl7 hS hnx n (k+1) more out (by omega) (hB.old (q1z.1 hi)) hm
  ·have h2:=hs rfl
   rw[if_neg hi] at h2
   have hni:next[k] ∉ out:=fun e=>hi (q1z.2 e)
   have hB2:=hB.new hni
   rw[qgF] at hB2
   rw[zL h2]
   have hf:=q62 hS.el next[k]
   have hpl:(qaK out next[k]).length=out.length+1:=by
    unfold qaK
    have:=qcY next[k] out
    rw[qvy,qvC,qvU,qwc];omega
   obtain⟨more',out',g1,g2,g3,g4⟩:=nl7 hS hnx n (k+1) (more++qaO L next[k]) (qaK out next[k]) (by omega) hB2 (by rw[qvy,hpl];omega)
   have hlt:=qrk hni (hB.rr _ qvG).uni
   refine⟨more',out',g1,g2,g3,.inl ?_⟩
   rcases g4 with g4|⟨-,g4⟩
   ·omega
   ·rw[g4];exact hlt
theorem qdc (L:List qa) (next:List ByteArray):Qx next L=zh L next:=by
 funext x
 rfl
theorem nl4 {L:List qa} (hS:Sml L) {c:ByteArray}:∀(n:Nat) (next out:List ByteArray),2*mo (ix L) out+next.length.min 1≤n→BI (ix L) c out [] next→next.length≤1000000000→
  ∃out',zc (zo L) (next,out)=some out'∧BI (ix L) c out' [] []
 | n,[],out,_,hB,_=>⟨out,qR (by unfold zo;rfl),hB⟩
 | 0,x::next,out,hn,_,_=>by
  have:(x::next).length.min 1=1:=Nat.min_eq_right (by rw[qvC];omega)
  omega
 | n+1,x::next,out,hn,hB,hl=>by
  have h1:(x::next).length.min 1=1:=Nat.min_eq_right (by rw[qvC];omega)
  obtain⟨more',out',g1,g2,g3,g4⟩:=nl7 hS hl (x::next).length 0 [] out (by omega) (by rw[List.drop_zero];exact hB) (qvR _)
  have ho:=g2.len hS
  rw[zL (y:=(more',out')) (by
   unfold zo
   dsimp only
   have g1':zc (zh L (x::next)) ([],(out,0))=_:=g1
   rw[if_pos (by rw[qvC];omega),qdc,g1',qvr])]
  have hm:more'.length.min 1≤1:=Nat.min_le_right _ _
  refine nl4 hS n more' out' ?_ g2.turn (by omega)
  rcases g4 with g4|⟨e1,e2⟩
  ·omega
  ·rw[e1,e2]
   have:([]:List ByteArray).length.min 1=0:=rfl
   omega
theorem qar {L:List qa} (hS:Sml L) (c:ByteArray):∃r,ZO L c=some r∧qt L c=some r∧r.Pairwise blt∧(∀x,x∈r↔Rc (ix L) c x)∧r.length≤1000000:=by
 have hL:L.length≤1000000:=by have:=hS.ln;omega
 have hf:=q62 hS.el c
 have hB:=BI.start (ix L) c
 rw[qgF] at hB
 obtain⟨out,g1,g2⟩:=nl4 hS (2*mo (ix L) []+1) (qaO L c) [] (Nat.add_le_add_left (Nat.min_le_right _ _) _) hB (by omega)
 obtain⟨g3,g4⟩:=g2.done
 obtain⟨l,h1,h2,h3,h4⟩:=qb1 hS.ln (fun o ho=>(hS.el o ho).nd) hS.mx c
 have he:out=JD l:=qdS g3 (qfq h2) fun x=>(g4 x).trans ((h3 x).symm.trans (QG l).mem_iff.symm)
 refine⟨out,?_,by rw[he];exact h1,g3,g4,g2.len hS⟩
 unfold ZO Qw
 rw[q54 hL hS.ll,qvr,q1G]
 cases hn:qaO L c with
 | nil=>
  rw[hn] at g1
  have h5:zc (zo L) ([],[])=some []:=qR (by unfold zo;rfl)
  rw[h5] at g1
  rw[if_neg (by decide),qvr]
  exact g1
 | cons x next=>
  rw[hn] at g1 hB hf
  obtain⟨more',out',k1,k2,k3,k4⟩:=nl7 hS (next:=x::next) (by omega) (x::next).length 0 [] [] (by omega) (by rw[List.drop_zero];exact hB) (qvR _)
  have k1':zc (zh L (x::next)) ([],([],0))=_:=k1
  rw[zL (y:=(more',out')) (by
   unfold zo
   dsimp only
   rw[if_pos (by rw[qvC];omega),qdc,k1',qvr])] at g1
  rw[if_pos (by rw[qvC];omega),k1',qvr,g1];rfl
open Classical in
theorem qfL {L:List qa} (hS:Sml L):zc (Q9 L) 0=some (if qh6 L then .inl () else .inr ()):=by
 have hL:L.length≤1000000:=by have:=hS.ln;omega
 have h:=q1E L (fun o=>decide (Rc (ix L) o.Code o.Code)) (Q9 L) (fun k o ho=>by
  have:=QC ho
  obtain⟨r,h1,-,-,h4,h5⟩:=qar hS o.Code
  unfold Q9
  rw[if_pos (by omega),if_pos (by omega),qvu,ho,qvr,h1,qvr,if_pos (by omega),qvr,q7C h5,qvr,qW this (by omega)]
  by_cases e:Rc (ix L) o.Code o.Code
  ·rw[q1z.2 ((h4 _).2 e),qwq e];rfl
  ·rw[qvT.2 fun q=>e ((h4 _).1 (q1z.1 q)),decide_eq_false e];rfl) (by unfold Q9;rw[if_neg (by omega)])
 rw[h]
 congr 1
 have hi:(L.any fun o=>decide (Rc (ix L) o.Code o.Code))=true↔qh6 L:=by
  rw[qwk]
  unfold qh6
  constructor
  ·rintro⟨o,h1,h2⟩
   exact⟨o.Code,qwa.2 ⟨o,h1,rfl⟩,of_decide_eq_true h2⟩
  ·rintro⟨c,h1,h2⟩
   obtain⟨o,h3,rfl⟩:=qwa.1 h1
   exact⟨o,h3,qwq h2⟩
 by_cases e:qh6 L
 ·rw[if_pos e,if_pos (hi.2 e)]
 ·rw[if_neg e,if_neg fun q=>e (hi.1 q)]
theorem qaJ {L:List qa} (hS:Sml L):ZP L=some (qn8 L):=by
 have hL:L.length≤1000000:=by have:=hS.ln;omega
 unfold ZP qn8
 by_cases h60:60<L.length
 ·rw[if_pos (by omega),if_pos h60]
 rw[if_neg (by omega),if_neg h60]
 have h4:=qc8 hL hS.of (fun o ho=>(hS.el o ho).cd) L.length 0 none (by omega) rfl
 rw[List.drop_zero] at h4
 have h4':zc (zP L) 0=_:=h4
 rw[h4',qvr]
 by_cases hk:ckF none L=0
 ·rw[if_pos hk,if_neg (show ¬ (ckF none L≠0) from fun e=>e hk),Sum.elim_inr,qfl hL hS.ll,qvr]
  by_cases hm:qjU L
  ·rw[if_pos ((qcN (q9x hk)).2 hm),if_pos hm,Sum.elim_inl]
  ·rw[if_neg (fun e=>hm ((qcN (q9x hk)).1 e)),if_neg hm,Sum.elim_inr,qfL hS,qvr]
   by_cases hc:qh6 L
   ·rw[if_pos hc,if_pos hc,Sum.elim_inl]
   ·rw[if_neg hc,if_neg hc,Sum.elim_inr]
 ·rw[if_neg hk,if_pos hk,Sum.elim_inl]
theorem qex {L:List qa} (hS:Sml L):qy L=some (qn8 L):=qcK (by have:=hS.ln;omega) hS.of hS.cc hS.mx
end
noncomputable section
open Go.RowKit
theorem q9B (a:ByteArray) (n:Nat):(a.extract 0 n).size≤n:=by
 rw[ByteArray.size_extract];omega
theorem qa1 (l:List ByteArray) (hl:l.length≤maxLen):∀(n k:Nat) (out:List ByteArray),n+k=7→k≤l.length→out.length≤k→(∀d∈out,d.size≤12)→∃r,zc (zM l) (out,(k:Int))=some r∧r.length≤7∧∀d∈r,d.size≤12:=by
 intro n
 induction n with
 | zero=>
  intro k out hk hkl ho hd
  refine⟨out,qR ?_,by omega,hd⟩
  unfold zM
  dsimp only
  by_cases h:(k:Int)<((l.length:Nat):Int)
  ·rw[if_pos h,if_neg (by omega)]
  ·rw[if_neg h]
 | succ n ih=>
  intro k out hk hkl ho hd
  by_cases h:k<l.length
  ·have ha:=qvt h
   obtain⟨r,h1,h2⟩:=ih (k+1) (out++[ByteArray.extract l[k] 0 (Int.toNat (min ((ByteArray.size l[k]:Nat):Int) (12:Int)))]) (by omega) (by omega) (by rw[qvy,qvJ];omega) (fun d hdm=>by
    rcases qvV.1 hdm with e|e
    ·exact hd d e
    ·rw[qwg] at e
     rw[e]
     have:=q9B l[k] (Int.toNat (min ((ByteArray.size l[k]:Nat):Int) (12:Int)))
     omega)
   refine⟨r,?_,h2⟩
   rw[←h1]
   refine zL ?_
   unfold zM
   dsimp only
   rw[if_pos (by omega),if_pos (by omega),if_pos (by omega),qvu,ha,qvr,if_pos (by omega),qvr,if_pos (by omega),if_pos (by unfold maxLen;omega),qW (n:=10) (by omega) (by omega)]
  ·refine⟨out,qR ?_,by omega,hd⟩
   unfold zM
   dsimp only
   rw[if_neg (by omega)]
theorem qgp {l:List ByteArray} (hl:l.length≤maxLen):∃r,ZN l=some r∧r.length≤7∧∀d∈r,d.size≤12:=by
 obtain⟨r,h1,h2⟩:=qa1 l hl 7 0 [] rfl (qvR _) (qvR _) (fun d hd=>by cases hd)
 refine⟨r,?_,h2⟩
 have h1':zc (zM l) ([],0)=_:=h1
 unfold ZN
 rw[h1'];rfl
theorem qfU (l:List qa) (hl:l.length≤maxLen) (hn:∀o∈l,o.Needs.length≤maxLen):∀(n k:Nat) (out:List qa),n+k=6→k≤l.length→out.length≤k→(∀o∈out,OSm o)→∃r,zc (Qa l) (out,(k:Int))=some r∧r.length≤6∧∀o∈r,OSm o:=by
 intro n
 induction n with
 | zero=>
  intro k out hk hkl ho hd
  refine⟨out,qR ?_,by omega,hd⟩
  unfold Qa
  dsimp only
  by_cases h:(k:Int)<((l.length:Nat):Int)
  ·rw[if_pos h,if_neg (by omega)]
  ·rw[if_neg h]
 | succ n ih=>
  intro k out hk hkl ho hd
  by_cases h:k<l.length
  ·have ha:=qvt h
   obtain⟨t,t1,t2,t3⟩:=qgp (hn _ (qwh h))
   obtain⟨r,h1,h2⟩:=ih (k+1) (out++[qa.mk (ByteArray.extract l[k].Code 0 (Int.toNat (min ((ByteArray.size l[k].Code:Nat):Int) (12:Int)))) l[k].Credits l[k].Places (List.take (Int.toNat (min ((l[k].Slots.length:Nat):Int) (6:Int))-0) l[k].Slots) t]) (by omega) (by omega) (by rw[qvy,qvJ];omega) (fun o hdm=>by
    rcases qvV.1 hdm with e|e
    ·exact hd o e
    ·rw[qwg] at e
     rw[e]
     have:=q9B l[k].Code (Int.toNat (min ((ByteArray.size l[k].Code:Nat):Int) (12:Int)))
     refine⟨?_,?_,?_,fun d hd=>?_⟩
     ·show(List.take _ _).length≤1000
      rw[qvU];omega
     ·show t.length≤1000
      omega
     ·show(ByteArray.extract _ _ _).size≤1000
      omega
     ·have:=t3 d hd;omega)
   refine⟨r,?_,h2⟩
   rw[←h1]
   refine zL ?_
   unfold Qa
   dsimp only
   rw[if_pos (by omega),if_pos (by omega),if_pos (by omega),qvu,ha,qvr,if_pos (by omega),if_pos (by omega),t1,qvr,if_pos (by unfold maxLen;omega),qW (n:=10) (by omega) (by omega)]
  ·refine⟨out,qR ?_,by omega,hd⟩
   unfold Qa
   dsimp only
   rw[if_neg (by omega)]
theorem qm6 {l:List qa} (hl:l.length≤maxLen) (hn:∀o∈l,o.Needs.length≤maxLen):∃r,JL l=some r∧r.length≤6∧Sml r:=by
 obtain⟨r,h1,h2,h3⟩:=qfU l hl hn 6 0 [] rfl (qvR _) (qvR _) (fun d hd=>by cases hd)
 refine⟨r,?_,h2,⟨by omega,h3⟩⟩
 have h1':zc (Qa l) ([],0)=_:=h1
 unfold JL
 rw[h1'];rfl
theorem q1w {c:ByteArray} (h:c∈qd):c.size≤1000:=by
 have:∀c∈qd,c.size≤1000:=by unfold qd;decide
 exact this c h
theorem qdv {M:List qa} (hM:J7 M):Sml M:=by
 refine⟨by have:=hM.1;omega,fun o ho=>?_⟩
 obtain⟨i,hi⟩:=List.mem_iff_getElem?.1 ho
 have h:=hM.2.1 i o hi
 refine⟨by have:=h.2.2.2.2.2.1.1;omega,by have:=h.2.2.2.2.2.2.1;omega,q1w h.1,fun d hd=>?_⟩
 obtain⟨j,p,-,hj,rfl⟩:=h.2.2.2.2.2.2.2.2 d hd
 exact q1w (hM.2.1 j p hj).1
end
noncomputable section
open Go.RowKit
end
noncomputable section
open Go.RowKit
structure OSb (b:Nat) (o:qa):Prop where
 sl:o.Slots.length≤b
 nd:o.Needs.length≤b
 cd:o.Code.size≤1000
 dn:∀d∈o.Needs,d.size≤1000
theorem OSb.sm {b:Nat} {o:qa} (h:OSb b o) (hb:b≤1000):OSm o:=⟨qw2 h.sl hb,qw2 h.nd hb,h.cd,h.dn⟩
theorem OSb.up {b c:Nat} {o:qa} (h:OSb b o) (hb:b≤c):OSb c o:=⟨qw2 h.sl hb,qw2 h.nd hb,h.cd,h.dn⟩
theorem qaq {α:Type} {f:α→α} {x:α} {l:List α} {i:Nat} (h:x∈l.modify i f):x∈l∨∃y∈l,x=f y:=by
 obtain⟨j,hj⟩:=List.mem_iff_getElem?.1 h
 rw[List.getElem?_modify] at hj
 cases hl:l[j]? with
 | none=>rw[hl] at hj;cases hj
 | some y=>
  rw[hl] at hj
  injection hj with hj
  split at hj
  ·exact .inr ⟨y,qvs hl,hj.symm⟩
  ·exact .inl (by rw[←hj];exact qvs hl)
def OdP (n b:Nat) (r:List qa):Prop:=r.length≤max n 61∧∀o∈r,OSb (b+1) o
theorem q0D {b:Nat} {L:List qa} (h:∀o∈L,OSb b o) {f:qa→qa} (hf:∀o∈L,OSb (b+1) (f o)) (i:Nat):OdP L.length b (L.modify i f):=by
 refine⟨by rw[List.length_modify];omega,fun o ho=>?_⟩
 rcases qaq ho with h1|⟨y,h1,rfl⟩
 ·exact(h o h1).up (by omega)
 ·exact hf y h1
theorem q4t {α:Type} {l:List α} {i:Int} (h0:0≤i) (h1:i<(l.length:Nat)):∃a,l[i.toNat]?=some a∧a∈l:=
 ⟨l[i.toNat]'(by omega),qvt (by omega),qwh _⟩
theorem qai {a n:Int} (h0:0≤a) (hn:0<n):0≤Int.tmod a n∧Int.tmod a n<n:=⟨Int.tmod_nonneg _ h0,Int.tmod_lt_of_pos _ hn⟩
theorem od3 (L:List qa) (q:q6F Int) (hL:L.length≤1000) (hs:∀o∈L,o.Slots.length≤1000000∧o.Needs.length≤1000000):zc (Qj q L) ([],0)=some L:=by
 have h:=q4d (step:=Qj q L) (e:=L) (fun k=>(L.take k,(k:Int))) 0 L.length (qvR _) (fun k _ hk=>by
  unfold Qj
  dsimp only
  rw[if_pos (by omega),if_pos (by omega),qvu,qvt hk,qvr,q7r (hs _ (qwh hk)),qvr,if_pos (by rw[qvU];unfold maxLen;omega),qW hk (by omega),List.take_add_one,qvt hk]
  rfl) (by
  unfold Qj
  dsimp only
  rw[if_neg (by omega),List.take_length])
 exact h
theorem q5k (l:List Int):(strOf l).size=l.length:=by
 show((l.map fun n=>UInt8.ofNat n.toNat).toArray).size=_
 simp
theorem quq (t:Int) (h0:0≤t):∀(n:Nat) (w:List qa),61≤w.length+n→w.length≤1000→∃r,zc (Qr t) w=some r∧r.length≤max w.length 61∧∀o∈r,o∈w∨OSb 6 o:=by
 have ht:=qai (n:=2) h0 (by omega)
 have hw:w64 (60+Int.tmod t 2)=60+Int.tmod t 2:=Zm (by omega) (by omega)
 intro n
 induction n with
 | zero=>
  intro w h1 h2
  refine⟨w,qR ?_,by omega,fun o ho => .inl ho⟩
  unfold Qr
  rw[hw,if_neg (by omega)]
 | succ n ih=>
  intro w h1 h2
  by_cases h3:((w.length:Nat):Int)<w64 (60+Int.tmod t 2)
  ·have h3':=h3
   rw[hw] at h3'
   refine Exists.elim (ih (w++[qa.mk (ByteArray.mk (List.toArray [89])++strOf [IntKind.wrap IntKind.u8 (w64 ((65:Int)+w64 (Int.tdiv ((w.length:Nat):Int) (10:Int)))),IntKind.wrap IntKind.u8 (w64 ((48:Int)+Int.tmod ((w.length:Nat):Int) (10:Int)))]) (1:Int) (0:Int) [] []]) (by rw[qvy,qvJ];omega) (by rw[qvy,qvJ];omega)) fun r hr=>?_
   obtain⟨g1,g2,g3⟩:=hr
   rw[qvy,qvJ] at g2
   refine⟨r,?_,by omega,fun o ho=>?_⟩
   ·rw[←g1]
    refine zL ?_
    unfold Qr
    rw[if_pos h3,if_pos (by rw[q5k];show 1+2≤_;omega),if_pos (by unfold maxLen;omega)]
   ·rcases g3 o ho with g|g
    ·rcases qvV.1 g with g|g
     ·exact .inl g
     ·rw[qwg] at g
      subst g
      refine .inr ⟨qvR _,qvR _,?_,fun d hd=>by cases hd⟩
      show(ByteArray.mk (List.toArray [89])++strOf _).size≤1000
      rw[ByteArray.size_append,q5k]
      show 1+2≤1000
      omega
    ·exact .inr g
  ·refine⟨w,qR ?_,by omega,fun o ho => .inl ho⟩
   unfold Qr
   rw[if_neg h3]
theorem quP {c:ByteArray} (h:c∈[ByteArray.mk (List.toArray []),ByteArray.mk (List.toArray [97]),ByteArray.mk (List.toArray [65,66,67,68,69,70,71,72,73]),ByteArray.mk (List.toArray [65,49]),ByteArray.mk (List.toArray [66,50]),ByteArray.mk (List.toArray [90]),ByteArray.mk (List.toArray [65,66,67,68,69,70,71,72]),ByteArray.mk (List.toArray [65,32,49])]):c.size≤1000:=by
 have:∀c∈[ByteArray.mk (List.toArray []),ByteArray.mk (List.toArray [97]),ByteArray.mk (List.toArray [65,66,67,68,69,70,71,72,73]),ByteArray.mk (List.toArray [65,49]),ByteArray.mk (List.toArray [66,50]),ByteArray.mk (List.toArray [90]),ByteArray.mk (List.toArray [65,66,67,68,69,70,71,72]),ByteArray.mk (List.toArray [65,32,49])],c.size≤1000:=by decide
 exact this c h
theorem quf {c:ByteArray} (h:c∈[ByteArray.mk (List.toArray [65,49]),ByteArray.mk (List.toArray [66,49]),ByteArray.mk (List.toArray [66,50]),ByteArray.mk (List.toArray [67,49]),ByteArray.mk (List.toArray [68,49]),ByteArray.mk (List.toArray [69,57])]):c.size≤1000:=q1w h
theorem qf3 (x:Bool):((if(!x)=true then true else false)||x)=true:=by cases x<;>rfl
theorem qgU {L:List qa} {b:Nat} (hb:6≤b) (hb2:b≤100) (hL:L.length≤100) (hS:∀o∈L,OSb b o) (q:q6F Int):∃r,Zd L q=some r∧OdP L.length b r:=by
 have hs:∀o∈L,o.Slots.length≤1000000∧o.Needs.length≤1000000:=fun o ho=>⟨by have:=(hS o ho).sl;omega,by have:=(hS o ho).nd;omega⟩
 unfold Zd
 rw[od3 L q (by omega) hs,qvr]
 by_cases h0:L.length=0
 ·rw[if_pos (by rw[h0];rfl)]
  exact⟨L,rfl,by omega,fun o ho=>(hS o ho).up (by omega)⟩
 rw[if_neg (by rw[beq_iff_eq];omega)]
 obtain⟨a2,e2,l2,u2⟩:=q8v q.a1 72 (by omega) (by omega)
 obtain⟨a3,e3,l3,u3⟩:=q8v q.a2 ((L.length:Nat):Int) (by omega) (by omega)
 obtain⟨a4,e4,l4,u4⟩:=q8v q.a0 11 (by omega) (by omega)
 rw[e2,qvr,e3,qvr,if_pos ⟨l3,u3⟩,e4,qvr]
 obtain⟨o3,g3,m3⟩:=q4t (l:=L) l3 u3
 have hi:a3.toNat<L.length:=by omega
 by_cases c0:a4=0
 ·have t:=qai (n:=8) l2 (by omega)
  obtain⟨c,g,m⟩:=q4t (l:=[ByteArray.mk (List.toArray []),ByteArray.mk (List.toArray [97]),ByteArray.mk (List.toArray [65,66,67,68,69,70,71,72,73]),ByteArray.mk (List.toArray [65,49]),ByteArray.mk (List.toArray [66,50]),ByteArray.mk (List.toArray [90]),ByteArray.mk (List.toArray [65,66,67,68,69,70,71,72]),ByteArray.mk (List.toArray [65,32,49])]) t.1 t.2
  rw[if_pos (by rw[c0];rfl),if_pos t,g,qvr,if_pos (by omega)]
  refine⟨_,rfl,?_⟩
  refine q0D hS ?_ _
  exact fun o ho=>⟨by have:=(hS o ho).sl;show o.Slots.length≤_;omega,by have:=(hS o ho).nd;show o.Needs.length≤_;omega,quP m,(hS o ho).dn⟩
 rw[if_neg (by rw[beq_iff_eq];exact c0)]
 by_cases c1:a4=1
 ·rw[if_pos (by rw[c1];rfl),if_pos (by omega)]
  refine⟨_,rfl,?_⟩
  refine q0D hS ?_ _
  exact fun o ho=>⟨by have:=(hS o ho).sl;show o.Slots.length≤_;omega,by have:=(hS o ho).nd;show o.Needs.length≤_;omega,(hS o ho).cd,(hS o ho).dn⟩
 rw[if_neg (by rw[beq_iff_eq];exact c1)]
 by_cases c2:a4=2
 ·have t:=qai (n:=4) l2 (by omega)
  obtain⟨c,g,m⟩:=q4t (l:=[(-(1:Int)),(0:Int),(200:Int),(201:Int)]) t.1 t.2
  rw[if_pos (by rw[c2];rfl),if_pos t,g,qvr,if_pos (by omega)]
  refine⟨_,rfl,?_⟩
  refine q0D hS ?_ _
  exact fun o ho=>⟨by have:=(hS o ho).sl;show o.Slots.length≤_;omega,by have:=(hS o ho).nd;show o.Needs.length≤_;omega,(hS o ho).cd,(hS o ho).dn⟩
 rw[if_neg (by rw[beq_iff_eq];exact c2)]
 have b1:=(hS o3 m3).sl
 have b2:=(hS o3 m3).nd
 have b3:=(hS o3 m3).dn
 by_cases c3:a4=3
 ·rw[if_pos (by rw[c3];rfl),g3,qvr,if_pos (by unfold maxLen;omega),if_pos (by omega)]
  refine⟨_,rfl,?_⟩
  refine q0D hS ?_ _
  exact fun o ho=>⟨by show(o3.Slots++[_]).length≤_;rw[qvy,qvJ];omega,by have:=(hS o ho).nd;show o.Needs.length≤_;omega,(hS o ho).cd,(hS o ho).dn⟩
 rw[if_neg (by rw[beq_iff_eq];exact c3)]
 by_cases c4:a4=4
 ·rw[if_pos (by rw[c4];rfl),g3,qvr,if_pos (by unfold maxLen;omega),if_pos (by omega)]
  refine⟨_,rfl,?_⟩
  refine q0D hS ?_ _
  exact fun o ho=>⟨by show(o3.Slots++[_]).length≤_;rw[qvy,qvJ];omega,by have:=(hS o ho).nd;show o.Needs.length≤_;omega,(hS o ho).cd,(hS o ho).dn⟩
 rw[if_neg (by rw[beq_iff_eq];exact c4)]
 have t6:=qai (n:=6) l2 (by omega)
 have t6':0≤Int.tmod a2 6∧Int.tmod a2 6<((qd.length:Nat):Int):=t6
 obtain⟨c,gc,mc⟩:=q4t (l:=qd) t6'.1 t6'.2
 by_cases c5:a4=5
 ·rw[if_pos (by rw[c5];rfl),g3,qvr,qvr,if_pos t6',gc,qvr,if_pos (by unfold maxLen;omega),if_pos (qf3 _),if_pos (by omega)]
  refine⟨_,rfl,?_⟩
  refine q0D hS ?_ _
  exact fun o ho=>⟨by have:=(hS o ho).sl;show o.Slots.length≤_;omega,by show(o3.Needs++[_]).length≤_;rw[qvy,qvJ];omega,(hS o ho).cd,fun d hd=>by
   rcases qvV.1 hd with e|e
   ·exact b3 d e
   ·rw[qwg] at e;rw[e];exact q1w mc⟩
 rw[if_neg (by rw[beq_iff_eq];exact c5)]
 by_cases c6:a4=6
 ·rw[if_pos (by rw[c6];rfl),if_pos t6',gc,qvr,if_pos (by omega)]
  refine⟨_,rfl,?_⟩
  refine q0D hS ?_ _
  exact fun o ho=>⟨by have:=(hS o ho).sl;show o.Slots.length≤_;omega,by show 1≤b+1;omega,(hS o ho).cd,fun d hd=>by rw[qwg.1 hd];exact q1w mc⟩
 rw[if_neg (by rw[beq_iff_eq];exact c6)]
 by_cases c7:a4=7
 ·rw[if_pos (by rw[c7];rfl),g3,qvr,if_pos (by unfold maxLen;omega),if_pos (by omega)]
  refine⟨_,rfl,?_⟩
  refine q0D hS ?_ _
  exact fun o ho=>⟨by have:=(hS o ho).sl;show o.Slots.length≤_;omega,by show(o3.Needs++[_]).length≤_;rw[qvy,qvJ];omega,(hS o ho).cd,fun d hd=>by
   rcases qvV.1 hd with e|e
   ·exact b3 d e
   ·rw[qwg] at e;rw[e];decide⟩
 rw[if_neg (by rw[beq_iff_eq];exact c7)]
 by_cases c8:a4=8
 ·have t7:=qai (n:=7) l2 (by omega)
  rw[if_pos (by rw[c8];rfl),if_pos (by omega),if_pos (by omega)]
  refine⟨_,rfl,?_⟩
  refine q0D hS ?_ _
  exact fun o ho=>⟨by have:=(hS o ho).sl;show o.Slots.length≤_;omega,by show(List.take _ _).length≤_;rw[qvU];show min _ 6≤_;omega,(hS o ho).cd,fun d hd=>quf (List.mem_of_mem_take hd)⟩
 rw[if_neg (by rw[beq_iff_eq];exact c8)]
 by_cases c9:a4=9
 ·have t:=qai (n:=((L.length:Nat):Int)) l2 (by omega)
  obtain⟨o4,g4,m4⟩:=q4t (l:=L) t.1 t.2
  rw[if_pos (by rw[c9];rfl),if_neg (by omega),if_pos t,g4,qvr,g3,qvr,if_pos (by omega),if_pos t,if_pos (by omega)]
  refine⟨_,rfl,by rw[qwb,qwb];omega,fun o ho=>?_⟩
  rcases List.mem_or_eq_of_mem_set ho with e|e
  ·rcases List.mem_or_eq_of_mem_set e with e|e
   ·exact(hS o e).up (by omega)
   ·rw[e];exact(hS _ m4).up (by omega)
  ·rw[e];exact(hS _ m3).up (by omega)
 rw[if_neg (by rw[beq_iff_eq];exact c9)]
 have c10:a4=10:=by omega
 obtain⟨r,r1,r2,r3⟩:=quq a2 l2 61 L (by omega) (by omega)
 rw[if_pos (by rw[c10];rfl),r1,qvr]
 refine⟨r,rfl,r2,fun o ho=>?_⟩
 rcases r3 o ho with e|e
 ·exact(hS o e).up (by omega)
 ·exact e.up (by omega)
theorem ql9 {M:List qa} (hM:J7 M):∀o∈M,OSb 6 o:=fun o ho=>by
 have h:=(qdv hM).el o ho
 obtain⟨i,hi⟩:=List.mem_iff_getElem?.1 ho
 have h2:=hM.2.1 i o hi
 exact⟨h2.2.2.2.2.2.1.1,by have:=h2.2.2.2.2.2.2.1;omega,h.cd,h.dn⟩
theorem qiP (x0:List Int) (h:x0.length≤maxLen) (p q:q6F Int):∃M one two,ZE x0=some M∧J7 M∧Zd M p=some one∧Zd one q=some two∧Sml one∧Sml two∧one.length≤61∧two.length≤61:=by
 obtain⟨M,h1,hM⟩:=qhx x0 h
 have h6:=hM.1
 obtain⟨one,h2,h3,h4⟩:=qgU (qvH 6) (by omega) (by omega) (ql9 hM) p
 have h3':one.length≤61:=by omega
 obtain⟨two,h5,h7,h8⟩:=qgU (b:=7) (by omega) (by omega) (by omega) h4 q
 have h7':two.length≤61:=by omega
 exact⟨M,one,two,h1,hM,h2,h5,⟨by omega,fun o ho=>(h4 o ho).sm (by omega)⟩,⟨by omega,fun o ho=>(h8 o ho).sm (by omega)⟩,h3',h7'⟩
end
noncomputable section
open Go.RowKit
set_option maxRecDepth 20000
set_option maxHeartbeats 8000000
theorem lo8:okL 8 qjC:=z7 (qc bd8) (by kernel_rfl) (by kernel_rfl)
def cx8:=JA_ @qjC.eq_1 (JA_ @Try.f8.eq_1 @bd8)
def QZ:Option Bool:=Option.bind (qy [qa.mk (ByteArray.mk (List.toArray [65,49])) 5 30 [(1:Int),2] [],qa.mk (ByteArray.mk (List.toArray [66,49])) 6 10 [(2:Int)] [ByteArray.mk (List.toArray [65,49])],qa.mk (ByteArray.mk (List.toArray [66,50])) 3 0 [] [],qa.mk (ByteArray.mk (List.toArray [67,49])) 10 200 [(40:Int)] [ByteArray.mk (List.toArray [66,49]),ByteArray.mk (List.toArray [66,50])]]) fun(a:Int)=>if(a==0)=Bool.true then Option.bind (qy [qa.mk (ByteArray.mk (List.toArray [65,49])) 5 30 [(1:Int),2] [],qa.mk (ByteArray.mk (List.toArray [66,50])) 6 10 [(2:Int)] [ByteArray.mk (List.toArray [65,49])],qa.mk (ByteArray.mk (List.toArray [66,50])) 3 0 [] [],qa.mk (ByteArray.mk (List.toArray [67,49])) 10 200 [(40:Int)] [ByteArray.mk (List.toArray [66,49]),ByteArray.mk (List.toArray [66,50])]]) fun(a2:Int)=>if(a2==6)=Bool.true then Option.bind (qy [qa.mk (ByteArray.mk (List.toArray [65,49])) 5 30 [(1:Int),2] [ByteArray.mk (List.toArray [67,49])],qa.mk (ByteArray.mk (List.toArray [66,49])) 6 10 [(2:Int)] [ByteArray.mk (List.toArray [65,49])],qa.mk (ByteArray.mk (List.toArray [66,50])) 3 0 [] [],qa.mk (ByteArray.mk (List.toArray [67,49])) 10 200 [(40:Int)] [ByteArray.mk (List.toArray [66,49]),ByteArray.mk (List.toArray [66,50])]]) fun(a3:Int)=>if(a3==14)=Bool.true then Option.bind (qy [qa.mk (ByteArray.mk (List.toArray [65,49])) 5 30 [(1:Int),2] [],qa.mk (ByteArray.mk (List.toArray [66,49])) 6 10 [(2:Int)] [ByteArray.mk (List.toArray [65,49])],qa.mk (ByteArray.mk (List.toArray [66,50])) 3 0 [] [ByteArray.mk (List.toArray [88])],qa.mk (ByteArray.mk (List.toArray [67,49])) 10 200 [(40:Int)] [ByteArray.mk (List.toArray [66,49]),ByteArray.mk (List.toArray [66,50])]]) fun(a4:Int)=>if(a4==5)=Bool.true then Option.bind (qy [qa.mk (ByteArray.mk (List.toArray [65,49])) 5 30 [(1:Int),2] [],qa.mk (ByteArray.mk (List.toArray [66,49])) 6 10 [(2:Int)] [ByteArray.mk (List.toArray [65,49])],qa.mk (ByteArray.mk (List.toArray [66,50])) 3 0 [] [],qa.mk (ByteArray.mk (List.toArray [67,49])) 61 200 [(40:Int)] [ByteArray.mk (List.toArray [66,49]),ByteArray.mk (List.toArray [66,50])]]) fun(a5:Int)=>Option.bind (qt [qa.mk (ByteArray.mk (List.toArray [65,49])) 5 30 [(1:Int),2] [],qa.mk (ByteArray.mk (List.toArray [66,49])) 6 10 [(2:Int)] [ByteArray.mk (List.toArray [65,49])],qa.mk (ByteArray.mk (List.toArray [66,50])) 3 0 [] [],qa.mk (ByteArray.mk (List.toArray [67,49])) 10 200 [(40:Int)] [ByteArray.mk (List.toArray [66,49]),ByteArray.mk (List.toArray [66,50])]] (ByteArray.mk (List.toArray [67,49]))) fun(a6:List ByteArray)=>Option.bind (qw a6 [ByteArray.mk (List.toArray [65,49]),ByteArray.mk (List.toArray [66,49]),ByteArray.mk (List.toArray [66,50])]) fun(a7:Bool)=>if a7=Bool.true then Option.bind (qt [qa.mk (ByteArray.mk (List.toArray [65,49])) 5 30 [(1:Int),2] [],qa.mk (ByteArray.mk (List.toArray [66,49])) 6 10 [(2:Int)] [ByteArray.mk (List.toArray [65,49])],qa.mk (ByteArray.mk (List.toArray [66,50])) 3 0 [] [],qa.mk (ByteArray.mk (List.toArray [67,49])) 10 200 [(40:Int)] [ByteArray.mk (List.toArray [66,49]),ByteArray.mk (List.toArray [66,50])]] (ByteArray.mk (List.toArray [65,49]))) fun(a8:List ByteArray)=>Option.bind (qt [qa.mk (ByteArray.mk (List.toArray [65,49])) 5 30 [(1:Int),2] [],qa.mk (ByteArray.mk (List.toArray [66,49])) 6 10 [(2:Int)] [ByteArray.mk (List.toArray [65,49])],qa.mk (ByteArray.mk (List.toArray [66,50])) 3 0 [] [],qa.mk (ByteArray.mk (List.toArray [67,49])) 10 200 [(40:Int)] [ByteArray.mk (List.toArray [66,49]),ByteArray.mk (List.toArray [66,50])]] (ByteArray.mk (List.toArray [88]))) fun(a9:List ByteArray)=>if(w64 (((a8.length:Nat):Int)+((a9.length:Nat):Int))==0)=Bool.true then Option.bind (zV [qa.mk (ByteArray.mk (List.toArray [65,49])) 5 30 [(1:Int),2] [],qa.mk (ByteArray.mk (List.toArray [66,49])) 6 10 [(2:Int)] [ByteArray.mk (List.toArray [65,49])],qa.mk (ByteArray.mk (List.toArray [66,50])) 3 0 [] [],qa.mk (ByteArray.mk (List.toArray [67,49])) 10 200 [(40:Int)] [ByteArray.mk (List.toArray [66,49]),ByteArray.mk (List.toArray [66,50])]]) fun(a10:List ByteArray)=>Option.bind (qw a10 [ByteArray.mk (List.toArray [65,49]),ByteArray.mk (List.toArray [66,49]),ByteArray.mk (List.toArray [66,50]),ByteArray.mk (List.toArray [67,49])]) fun(a11:Bool)=>Option.bind (qe [qa.mk (ByteArray.mk (List.toArray [65,49])) 5 30 [(1:Int),2] [],qa.mk (ByteArray.mk (List.toArray [66,49])) 6 10 [(2:Int)] [ByteArray.mk (List.toArray [65,49])],qa.mk (ByteArray.mk (List.toArray [66,50])) 3 0 [] [],qa.mk (ByteArray.mk (List.toArray [67,49])) 10 200 [(40:Int)] [ByteArray.mk (List.toArray [66,49]),ByteArray.mk (List.toArray [66,50])]] (ByteArray.mk (List.toArray [66,49])) [ByteArray.mk (List.toArray [65,49])]) fun(a12:Bool)=>if a12=Bool.true then Option.bind (qe [qa.mk (ByteArray.mk (List.toArray [65,49])) 5 30 [(1:Int),2] [],qa.mk (ByteArray.mk (List.toArray [66,49])) 6 10 [(2:Int)] [ByteArray.mk (List.toArray [65,49])],qa.mk (ByteArray.mk (List.toArray [66,50])) 3 0 [] [],qa.mk (ByteArray.mk (List.toArray [67,49])) 10 200 [(40:Int)] [ByteArray.mk (List.toArray [66,49]),ByteArray.mk (List.toArray [66,50])]] (ByteArray.mk (List.toArray [67,49])) [ByteArray.mk (List.toArray [65,49]),ByteArray.mk (List.toArray [66,49])]) fun(a13:Bool)=>if(!a13)=Bool.true then Option.bind (qe [qa.mk (ByteArray.mk (List.toArray [65,49])) 5 30 [(1:Int),2] [],qa.mk (ByteArray.mk (List.toArray [66,49])) 6 10 [(2:Int)] [ByteArray.mk (List.toArray [65,49])],qa.mk (ByteArray.mk (List.toArray [66,50])) 3 0 [] [],qa.mk (ByteArray.mk (List.toArray [67,49])) 10 200 [(40:Int)] [ByteArray.mk (List.toArray [66,49]),ByteArray.mk (List.toArray [66,50])]] (ByteArray.mk (List.toArray [88])) []) fun(a14:Bool)=>if(!a14)=Bool.true then Option.bind (qg (qa.mk (ByteArray.mk (List.toArray [65,49])) 5 30 [(1:Int),2] []) (qa.mk (ByteArray.mk (List.toArray [66,49])) 6 10 [(2:Int)] [ByteArray.mk (List.toArray [65,49])])) fun(a15:Bool)=>if a15=Bool.true then Option.bind (qg (qa.mk (ByteArray.mk (List.toArray [66,49])) 6 10 [(2:Int)] [ByteArray.mk (List.toArray [65,49])]) (qa.mk (ByteArray.mk (List.toArray [66,50])) 3 0 [] [])) fun(a16:Bool)=>if(a5==3)=Bool.true then if a11=Bool.true then if(!a16)=Bool.true then Option.bind (za (ByteArray.mk (List.toArray [65,49]))) fun(a17:Bool)=>if a17=Bool.true then Option.bind (za (ByteArray.mk (List.toArray [97,49]))) fun(a18:Bool)=>if(!a18)=Bool.true then Option.bind (za (ByteArray.mk (List.toArray []))) fun(a19:Bool)=>some (!a19) else some Bool.false else some Bool.false else some Bool.false else some Bool.false else some Bool.false else some Bool.false else some Bool.false else some Bool.false else some Bool.false else Option.bind (qe [qa.mk (ByteArray.mk (List.toArray [65,49])) 5 30 [(1:Int),2] [],qa.mk (ByteArray.mk (List.toArray [66,49])) 6 10 [(2:Int)] [ByteArray.mk (List.toArray [65,49])],qa.mk (ByteArray.mk (List.toArray [66,50])) 3 0 [] [],qa.mk (ByteArray.mk (List.toArray [67,49])) 10 200 [(40:Int)] [ByteArray.mk (List.toArray [66,49]),ByteArray.mk (List.toArray [66,50])]] (ByteArray.mk (List.toArray [66,49])) [ByteArray.mk (List.toArray [65,49])]) fun(a20:Bool)=>if a20=Bool.true then Option.bind (qe [qa.mk (ByteArray.mk (List.toArray [65,49])) 5 30 [(1:Int),2] [],qa.mk (ByteArray.mk (List.toArray [66,49])) 6 10 [(2:Int)] [ByteArray.mk (List.toArray [65,49])],qa.mk (ByteArray.mk (List.toArray [66,50])) 3 0 [] [],qa.mk (ByteArray.mk (List.toArray [67,49])) 10 200 [(40:Int)] [ByteArray.mk (List.toArray [66,49]),ByteArray.mk (List.toArray [66,50])]] (ByteArray.mk (List.toArray [67,49])) [ByteArray.mk (List.toArray [65,49]),ByteArray.mk (List.toArray [66,49])]) fun(a21:Bool)=>if(!a21)=Bool.true then Option.bind (qe [qa.mk (ByteArray.mk (List.toArray [65,49])) 5 30 [(1:Int),2] [],qa.mk (ByteArray.mk (List.toArray [66,49])) 6 10 [(2:Int)] [ByteArray.mk (List.toArray [65,49])],qa.mk (ByteArray.mk (List.toArray [66,50])) 3 0 [] [],qa.mk (ByteArray.mk (List.toArray [67,49])) 10 200 [(40:Int)] [ByteArray.mk (List.toArray [66,49]),ByteArray.mk (List.toArray [66,50])]] (ByteArray.mk (List.toArray [88])) []) fun(a22:Bool)=>if(!a22)=Bool.true then Option.bind (qg (qa.mk (ByteArray.mk (List.toArray [65,49])) 5 30 [(1:Int),2] []) (qa.mk (ByteArray.mk (List.toArray [66,49])) 6 10 [(2:Int)] [ByteArray.mk (List.toArray [65,49])])) fun(a23:Bool)=>if a23=Bool.true then Option.bind (qg (qa.mk (ByteArray.mk (List.toArray [66,49])) 6 10 [(2:Int)] [ByteArray.mk (List.toArray [65,49])]) (qa.mk (ByteArray.mk (List.toArray [66,50])) 3 0 [] [])) fun(a24:Bool)=>some Bool.false else some Bool.false else some Bool.false else some Bool.false else some Bool.false else Option.bind (qe [qa.mk (ByteArray.mk (List.toArray [65,49])) 5 30 [(1:Int),2] [],qa.mk (ByteArray.mk (List.toArray [66,49])) 6 10 [(2:Int)] [ByteArray.mk (List.toArray [65,49])],qa.mk (ByteArray.mk (List.toArray [66,50])) 3 0 [] [],qa.mk (ByteArray.mk (List.toArray [67,49])) 10 200 [(40:Int)] [ByteArray.mk (List.toArray [66,49]),ByteArray.mk (List.toArray [66,50])]] (ByteArray.mk (List.toArray [66,49])) [ByteArray.mk (List.toArray [65,49])]) fun(a25:Bool)=>if a25=Bool.true then Option.bind (qe [qa.mk (ByteArray.mk (List.toArray [65,49])) 5 30 [(1:Int),2] [],qa.mk (ByteArray.mk (List.toArray [66,49])) 6 10 [(2:Int)] [ByteArray.mk (List.toArray [65,49])],qa.mk (ByteArray.mk (List.toArray [66,50])) 3 0 [] [],qa.mk (ByteArray.mk (List.toArray [67,49])) 10 200 [(40:Int)] [ByteArray.mk (List.toArray [66,49]),ByteArray.mk (List.toArray [66,50])]] (ByteArray.mk (List.toArray [67,49])) [ByteArray.mk (List.toArray [65,49]),ByteArray.mk (List.toArray [66,49])]) fun(a26:Bool)=>if(!a26)=Bool.true then Option.bind (qe [qa.mk (ByteArray.mk (List.toArray [65,49])) 5 30 [(1:Int),2] [],qa.mk (ByteArray.mk (List.toArray [66,49])) 6 10 [(2:Int)] [ByteArray.mk (List.toArray [65,49])],qa.mk (ByteArray.mk (List.toArray [66,50])) 3 0 [] [],qa.mk (ByteArray.mk (List.toArray [67,49])) 10 200 [(40:Int)] [ByteArray.mk (List.toArray [66,49]),ByteArray.mk (List.toArray [66,50])]] (ByteArray.mk (List.toArray [88])) []) fun(a27:Bool)=>if(!a27)=Bool.true then Option.bind (qg (qa.mk (ByteArray.mk (List.toArray [65,49])) 5 30 [(1:Int),2] []) (qa.mk (ByteArray.mk (List.toArray [66,49])) 6 10 [(2:Int)] [ByteArray.mk (List.toArray [65,49])])) fun(a28:Bool)=>if a28=Bool.true then Option.bind (qg (qa.mk (ByteArray.mk (List.toArray [66,49])) 6 10 [(2:Int)] [ByteArray.mk (List.toArray [65,49])]) (qa.mk (ByteArray.mk (List.toArray [66,50])) 3 0 [] [])) fun(a29:Bool)=>some Bool.false else some Bool.false else some Bool.false else some Bool.false else some Bool.false else Option.bind (qt [qa.mk (ByteArray.mk (List.toArray [65,49])) 5 30 [(1:Int),2] [],qa.mk (ByteArray.mk (List.toArray [66,49])) 6 10 [(2:Int)] [ByteArray.mk (List.toArray [65,49])],qa.mk (ByteArray.mk (List.toArray [66,50])) 3 0 [] [],qa.mk (ByteArray.mk (List.toArray [67,49])) 10 200 [(40:Int)] [ByteArray.mk (List.toArray [66,49]),ByteArray.mk (List.toArray [66,50])]] (ByteArray.mk (List.toArray [67,49]))) fun(a30:List ByteArray)=>Option.bind (qw a30 [ByteArray.mk (List.toArray [65,49]),ByteArray.mk (List.toArray [66,49]),ByteArray.mk (List.toArray [66,50])]) fun(a31:Bool)=>if a31=Bool.true then Option.bind (qt [qa.mk (ByteArray.mk (List.toArray [65,49])) 5 30 [(1:Int),2] [],qa.mk (ByteArray.mk (List.toArray [66,49])) 6 10 [(2:Int)] [ByteArray.mk (List.toArray [65,49])],qa.mk (ByteArray.mk (List.toArray [66,50])) 3 0 [] [],qa.mk (ByteArray.mk (List.toArray [67,49])) 10 200 [(40:Int)] [ByteArray.mk (List.toArray [66,49]),ByteArray.mk (List.toArray [66,50])]] (ByteArray.mk (List.toArray [65,49]))) fun(a32:List ByteArray)=>Option.bind (qt [qa.mk (ByteArray.mk (List.toArray [65,49])) 5 30 [(1:Int),2] [],qa.mk (ByteArray.mk (List.toArray [66,49])) 6 10 [(2:Int)] [ByteArray.mk (List.toArray [65,49])],qa.mk (ByteArray.mk (List.toArray [66,50])) 3 0 [] [],qa.mk (ByteArray.mk (List.toArray [67,49])) 10 200 [(40:Int)] [ByteArray.mk (List.toArray [66,49]),ByteArray.mk (List.toArray [66,50])]] (ByteArray.mk (List.toArray [88]))) fun(a33:List ByteArray)=>if(w64 (((a32.length:Nat):Int)+((a33.length:Nat):Int))==0)=Bool.true then Option.bind (zV [qa.mk (ByteArray.mk (List.toArray [65,49])) 5 30 [(1:Int),2] [],qa.mk (ByteArray.mk (List.toArray [66,49])) 6 10 [(2:Int)] [ByteArray.mk (List.toArray [65,49])],qa.mk (ByteArray.mk (List.toArray [66,50])) 3 0 [] [],qa.mk (ByteArray.mk (List.toArray [67,49])) 10 200 [(40:Int)] [ByteArray.mk (List.toArray [66,49]),ByteArray.mk (List.toArray [66,50])]]) fun(a34:List ByteArray)=>Option.bind (qw a34 [ByteArray.mk (List.toArray [65,49]),ByteArray.mk (List.toArray [66,49]),ByteArray.mk (List.toArray [66,50]),ByteArray.mk (List.toArray [67,49])]) fun(a35:Bool)=>Option.bind (qe [qa.mk (ByteArray.mk (List.toArray [65,49])) 5 30 [(1:Int),2] [],qa.mk (ByteArray.mk (List.toArray [66,49])) 6 10 [(2:Int)] [ByteArray.mk (List.toArray [65,49])],qa.mk (ByteArray.mk (List.toArray [66,50])) 3 0 [] [],qa.mk (ByteArray.mk (List.toArray [67,49])) 10 200 [(40:Int)] [ByteArray.mk (List.toArray [66,49]),ByteArray.mk (List.toArray [66,50])]] (ByteArray.mk (List.toArray [66,49])) [ByteArray.mk (List.toArray [65,49])]) fun(a36:Bool)=>if a36=Bool.true then Option.bind (qe [qa.mk (ByteArray.mk (List.toArray [65,49])) 5 30 [(1:Int),2] [],qa.mk (ByteArray.mk (List.toArray [66,49])) 6 10 [(2:Int)] [ByteArray.mk (List.toArray [65,49])],qa.mk (ByteArray.mk (List.toArray [66,50])) 3 0 [] [],qa.mk (ByteArray.mk (List.toArray [67,49])) 10 200 [(40:Int)] [ByteArray.mk (List.toArray [66,49]),ByteArray.mk (List.toArray [66,50])]] (ByteArray.mk (List.toArray [67,49])) [ByteArray.mk (List.toArray [65,49]),ByteArray.mk (List.toArray [66,49])]) fun(a37:Bool)=>if(!a37)=Bool.true then Option.bind (qe [qa.mk (ByteArray.mk (List.toArray [65,49])) 5 30 [(1:Int),2] [],qa.mk (ByteArray.mk (List.toArray [66,49])) 6 10 [(2:Int)] [ByteArray.mk (List.toArray [65,49])],qa.mk (ByteArray.mk (List.toArray [66,50])) 3 0 [] [],qa.mk (ByteArray.mk (List.toArray [67,49])) 10 200 [(40:Int)] [ByteArray.mk (List.toArray [66,49]),ByteArray.mk (List.toArray [66,50])]] (ByteArray.mk (List.toArray [88])) []) fun(a38:Bool)=>if(!a38)=Bool.true then Option.bind (qg (qa.mk (ByteArray.mk (List.toArray [65,49])) 5 30 [(1:Int),2] []) (qa.mk (ByteArray.mk (List.toArray [66,49])) 6 10 [(2:Int)] [ByteArray.mk (List.toArray [65,49])])) fun(a39:Bool)=>if a39=Bool.true then Option.bind (qg (qa.mk (ByteArray.mk (List.toArray [66,49])) 6 10 [(2:Int)] [ByteArray.mk (List.toArray [65,49])]) (qa.mk (ByteArray.mk (List.toArray [66,50])) 3 0 [] [])) fun(a40:Bool)=>some Bool.false else some Bool.false else some Bool.false else some Bool.false else some Bool.false else Option.bind (qe [qa.mk (ByteArray.mk (List.toArray [65,49])) 5 30 [(1:Int),2] [],qa.mk (ByteArray.mk (List.toArray [66,49])) 6 10 [(2:Int)] [ByteArray.mk (List.toArray [65,49])],qa.mk (ByteArray.mk (List.toArray [66,50])) 3 0 [] [],qa.mk (ByteArray.mk (List.toArray [67,49])) 10 200 [(40:Int)] [ByteArray.mk (List.toArray [66,49]),ByteArray.mk (List.toArray [66,50])]] (ByteArray.mk (List.toArray [66,49])) [ByteArray.mk (List.toArray [65,49])]) fun(a41:Bool)=>if a41=Bool.true then Option.bind (qe [qa.mk (ByteArray.mk (List.toArray [65,49])) 5 30 [(1:Int),2] [],qa.mk (ByteArray.mk (List.toArray [66,49])) 6 10 [(2:Int)] [ByteArray.mk (List.toArray [65,49])],qa.mk (ByteArray.mk (List.toArray [66,50])) 3 0 [] [],qa.mk (ByteArray.mk (List.toArray [67,49])) 10 200 [(40:Int)] [ByteArray.mk (List.toArray [66,49]),ByteArray.mk (List.toArray [66,50])]] (ByteArray.mk (List.toArray [67,49])) [ByteArray.mk (List.toArray [65,49]),ByteArray.mk (List.toArray [66,49])]) fun(a42:Bool)=>if(!a42)=Bool.true then Option.bind (qe [qa.mk (ByteArray.mk (List.toArray [65,49])) 5 30 [(1:Int),2] [],qa.mk (ByteArray.mk (List.toArray [66,49])) 6 10 [(2:Int)] [ByteArray.mk (List.toArray [65,49])],qa.mk (ByteArray.mk (List.toArray [66,50])) 3 0 [] [],qa.mk (ByteArray.mk (List.toArray [67,49])) 10 200 [(40:Int)] [ByteArray.mk (List.toArray [66,49]),ByteArray.mk (List.toArray [66,50])]] (ByteArray.mk (List.toArray [88])) []) fun(a43:Bool)=>if(!a43)=Bool.true then Option.bind (qg (qa.mk (ByteArray.mk (List.toArray [65,49])) 5 30 [(1:Int),2] []) (qa.mk (ByteArray.mk (List.toArray [66,49])) 6 10 [(2:Int)] [ByteArray.mk (List.toArray [65,49])])) fun(a44:Bool)=>if a44=Bool.true then Option.bind (qg (qa.mk (ByteArray.mk (List.toArray [66,49])) 6 10 [(2:Int)] [ByteArray.mk (List.toArray [65,49])]) (qa.mk (ByteArray.mk (List.toArray [66,50])) 3 0 [] [])) fun(a45:Bool)=>some Bool.false else some Bool.false else some Bool.false else some Bool.false else some Bool.false else Option.bind (qe [qa.mk (ByteArray.mk (List.toArray [65,49])) 5 30 [(1:Int),2] [],qa.mk (ByteArray.mk (List.toArray [66,49])) 6 10 [(2:Int)] [ByteArray.mk (List.toArray [65,49])],qa.mk (ByteArray.mk (List.toArray [66,50])) 3 0 [] [],qa.mk (ByteArray.mk (List.toArray [67,49])) 10 200 [(40:Int)] [ByteArray.mk (List.toArray [66,49]),ByteArray.mk (List.toArray [66,50])]] (ByteArray.mk (List.toArray [66,49])) [ByteArray.mk (List.toArray [65,49])]) fun(a46:Bool)=>if a46=Bool.true then Option.bind (qe [qa.mk (ByteArray.mk (List.toArray [65,49])) 5 30 [(1:Int),2] [],qa.mk (ByteArray.mk (List.toArray [66,49])) 6 10 [(2:Int)] [ByteArray.mk (List.toArray [65,49])],qa.mk (ByteArray.mk (List.toArray [66,50])) 3 0 [] [],qa.mk (ByteArray.mk (List.toArray [67,49])) 10 200 [(40:Int)] [ByteArray.mk (List.toArray [66,49]),ByteArray.mk (List.toArray [66,50])]] (ByteArray.mk (List.toArray [67,49])) [ByteArray.mk (List.toArray [65,49]),ByteArray.mk (List.toArray [66,49])]) fun(a47:Bool)=>if(!a47)=Bool.true then Option.bind (qe [qa.mk (ByteArray.mk (List.toArray [65,49])) 5 30 [(1:Int),2] [],qa.mk (ByteArray.mk (List.toArray [66,49])) 6 10 [(2:Int)] [ByteArray.mk (List.toArray [65,49])],qa.mk (ByteArray.mk (List.toArray [66,50])) 3 0 [] [],qa.mk (ByteArray.mk (List.toArray [67,49])) 10 200 [(40:Int)] [ByteArray.mk (List.toArray [66,49]),ByteArray.mk (List.toArray [66,50])]] (ByteArray.mk (List.toArray [88])) []) fun(a48:Bool)=>if(!a48)=Bool.true then Option.bind (qg (qa.mk (ByteArray.mk (List.toArray [65,49])) 5 30 [(1:Int),2] []) (qa.mk (ByteArray.mk (List.toArray [66,49])) 6 10 [(2:Int)] [ByteArray.mk (List.toArray [65,49])])) fun(a49:Bool)=>if a49=Bool.true then Option.bind (qg (qa.mk (ByteArray.mk (List.toArray [66,49])) 6 10 [(2:Int)] [ByteArray.mk (List.toArray [65,49])]) (qa.mk (ByteArray.mk (List.toArray [66,50])) 3 0 [] [])) fun(a50:Bool)=>some Bool.false else some Bool.false else some Bool.false else some Bool.false else some Bool.false else Option.bind (qt [qa.mk (ByteArray.mk (List.toArray [65,49])) 5 30 [(1:Int),2] [],qa.mk (ByteArray.mk (List.toArray [66,49])) 6 10 [(2:Int)] [ByteArray.mk (List.toArray [65,49])],qa.mk (ByteArray.mk (List.toArray [66,50])) 3 0 [] [],qa.mk (ByteArray.mk (List.toArray [67,49])) 10 200 [(40:Int)] [ByteArray.mk (List.toArray [66,49]),ByteArray.mk (List.toArray [66,50])]] (ByteArray.mk (List.toArray [67,49]))) fun(a51:List ByteArray)=>Option.bind (qw a51 [ByteArray.mk (List.toArray [65,49]),ByteArray.mk (List.toArray [66,49]),ByteArray.mk (List.toArray [66,50])]) fun(a52:Bool)=>if a52=Bool.true then Option.bind (qt [qa.mk (ByteArray.mk (List.toArray [65,49])) 5 30 [(1:Int),2] [],qa.mk (ByteArray.mk (List.toArray [66,49])) 6 10 [(2:Int)] [ByteArray.mk (List.toArray [65,49])],qa.mk (ByteArray.mk (List.toArray [66,50])) 3 0 [] [],qa.mk (ByteArray.mk (List.toArray [67,49])) 10 200 [(40:Int)] [ByteArray.mk (List.toArray [66,49]),ByteArray.mk (List.toArray [66,50])]] (ByteArray.mk (List.toArray [65,49]))) fun(a53:List ByteArray)=>Option.bind (qt [qa.mk (ByteArray.mk (List.toArray [65,49])) 5 30 [(1:Int),2] [],qa.mk (ByteArray.mk (List.toArray [66,49])) 6 10 [(2:Int)] [ByteArray.mk (List.toArray [65,49])],qa.mk (ByteArray.mk (List.toArray [66,50])) 3 0 [] [],qa.mk (ByteArray.mk (List.toArray [67,49])) 10 200 [(40:Int)] [ByteArray.mk (List.toArray [66,49]),ByteArray.mk (List.toArray [66,50])]] (ByteArray.mk (List.toArray [88]))) fun(a54:List ByteArray)=>if(w64 (((a53.length:Nat):Int)+((a54.length:Nat):Int))==0)=Bool.true then Option.bind (zV [qa.mk (ByteArray.mk (List.toArray [65,49])) 5 30 [(1:Int),2] [],qa.mk (ByteArray.mk (List.toArray [66,49])) 6 10 [(2:Int)] [ByteArray.mk (List.toArray [65,49])],qa.mk (ByteArray.mk (List.toArray [66,50])) 3 0 [] [],qa.mk (ByteArray.mk (List.toArray [67,49])) 10 200 [(40:Int)] [ByteArray.mk (List.toArray [66,49]),ByteArray.mk (List.toArray [66,50])]]) fun(a55:List ByteArray)=>Option.bind (qw a55 [ByteArray.mk (List.toArray [65,49]),ByteArray.mk (List.toArray [66,49]),ByteArray.mk (List.toArray [66,50]),ByteArray.mk (List.toArray [67,49])]) fun(a56:Bool)=>Option.bind (qe [qa.mk (ByteArray.mk (List.toArray [65,49])) 5 30 [(1:Int),2] [],qa.mk (ByteArray.mk (List.toArray [66,49])) 6 10 [(2:Int)] [ByteArray.mk (List.toArray [65,49])],qa.mk (ByteArray.mk (List.toArray [66,50])) 3 0 [] [],qa.mk (ByteArray.mk (List.toArray [67,49])) 10 200 [(40:Int)] [ByteArray.mk (List.toArray [66,49]),ByteArray.mk (List.toArray [66,50])]] (ByteArray.mk (List.toArray [66,49])) [ByteArray.mk (List.toArray [65,49])]) fun(a57:Bool)=>if a57=Bool.true then Option.bind (qe [qa.mk (ByteArray.mk (List.toArray [65,49])) 5 30 [(1:Int),2] [],qa.mk (ByteArray.mk (List.toArray [66,49])) 6 10 [(2:Int)] [ByteArray.mk (List.toArray [65,49])],qa.mk (ByteArray.mk (List.toArray [66,50])) 3 0 [] [],qa.mk (ByteArray.mk (List.toArray [67,49])) 10 200 [(40:Int)] [ByteArray.mk (List.toArray [66,49]),ByteArray.mk (List.toArray [66,50])]] (ByteArray.mk (List.toArray [67,49])) [ByteArray.mk (List.toArray [65,49]),ByteArray.mk (List.toArray [66,49])]) fun(a58:Bool)=>if(!a58)=Bool.true then Option.bind (qe [qa.mk (ByteArray.mk (List.toArray [65,49])) 5 30 [(1:Int),2] [],qa.mk (ByteArray.mk (List.toArray [66,49])) 6 10 [(2:Int)] [ByteArray.mk (List.toArray [65,49])],qa.mk (ByteArray.mk (List.toArray [66,50])) 3 0 [] [],qa.mk (ByteArray.mk (List.toArray [67,49])) 10 200 [(40:Int)] [ByteArray.mk (List.toArray [66,49]),ByteArray.mk (List.toArray [66,50])]] (ByteArray.mk (List.toArray [88])) []) fun(a59:Bool)=>if(!a59)=Bool.true then Option.bind (qg (qa.mk (ByteArray.mk (List.toArray [65,49])) 5 30 [(1:Int),2] []) (qa.mk (ByteArray.mk (List.toArray [66,49])) 6 10 [(2:Int)] [ByteArray.mk (List.toArray [65,49])])) fun(a60:Bool)=>if a60=Bool.true then Option.bind (qg (qa.mk (ByteArray.mk (List.toArray [66,49])) 6 10 [(2:Int)] [ByteArray.mk (List.toArray [65,49])]) (qa.mk (ByteArray.mk (List.toArray [66,50])) 3 0 [] [])) fun(a61:Bool)=>some Bool.false else some Bool.false else some Bool.false else some Bool.false else some Bool.false else Option.bind (qe [qa.mk (ByteArray.mk (List.toArray [65,49])) 5 30 [(1:Int),2] [],qa.mk (ByteArray.mk (List.toArray [66,49])) 6 10 [(2:Int)] [ByteArray.mk (List.toArray [65,49])],qa.mk (ByteArray.mk (List.toArray [66,50])) 3 0 [] [],qa.mk (ByteArray.mk (List.toArray [67,49])) 10 200 [(40:Int)] [ByteArray.mk (List.toArray [66,49]),ByteArray.mk (List.toArray [66,50])]] (ByteArray.mk (List.toArray [66,49])) [ByteArray.mk (List.toArray [65,49])]) fun(a62:Bool)=>if a62=Bool.true then Option.bind (qe [qa.mk (ByteArray.mk (List.toArray [65,49])) 5 30 [(1:Int),2] [],qa.mk (ByteArray.mk (List.toArray [66,49])) 6 10 [(2:Int)] [ByteArray.mk (List.toArray [65,49])],qa.mk (ByteArray.mk (List.toArray [66,50])) 3 0 [] [],qa.mk (ByteArray.mk (List.toArray [67,49])) 10 200 [(40:Int)] [ByteArray.mk (List.toArray [66,49]),ByteArray.mk (List.toArray [66,50])]] (ByteArray.mk (List.toArray [67,49])) [ByteArray.mk (List.toArray [65,49]),ByteArray.mk (List.toArray [66,49])]) fun(a63:Bool)=>if(!a63)=Bool.true then Option.bind (qe [qa.mk (ByteArray.mk (List.toArray [65,49])) 5 30 [(1:Int),2] [],qa.mk (ByteArray.mk (List.toArray [66,49])) 6 10 [(2:Int)] [ByteArray.mk (List.toArray [65,49])],qa.mk (ByteArray.mk (List.toArray [66,50])) 3 0 [] [],qa.mk (ByteArray.mk (List.toArray [67,49])) 10 200 [(40:Int)] [ByteArray.mk (List.toArray [66,49]),ByteArray.mk (List.toArray [66,50])]] (ByteArray.mk (List.toArray [88])) []) fun(a64:Bool)=>if(!a64)=Bool.true then Option.bind (qg (qa.mk (ByteArray.mk (List.toArray [65,49])) 5 30 [(1:Int),2] []) (qa.mk (ByteArray.mk (List.toArray [66,49])) 6 10 [(2:Int)] [ByteArray.mk (List.toArray [65,49])])) fun(a65:Bool)=>if a65=Bool.true then Option.bind (qg (qa.mk (ByteArray.mk (List.toArray [66,49])) 6 10 [(2:Int)] [ByteArray.mk (List.toArray [65,49])]) (qa.mk (ByteArray.mk (List.toArray [66,50])) 3 0 [] [])) fun(a66:Bool)=>some Bool.false else some Bool.false else some Bool.false else some Bool.false else some Bool.false else Option.bind (qe [qa.mk (ByteArray.mk (List.toArray [65,49])) 5 30 [(1:Int),2] [],qa.mk (ByteArray.mk (List.toArray [66,49])) 6 10 [(2:Int)] [ByteArray.mk (List.toArray [65,49])],qa.mk (ByteArray.mk (List.toArray [66,50])) 3 0 [] [],qa.mk (ByteArray.mk (List.toArray [67,49])) 10 200 [(40:Int)] [ByteArray.mk (List.toArray [66,49]),ByteArray.mk (List.toArray [66,50])]] (ByteArray.mk (List.toArray [66,49])) [ByteArray.mk (List.toArray [65,49])]) fun(a67:Bool)=>if a67=Bool.true then Option.bind (qe [qa.mk (ByteArray.mk (List.toArray [65,49])) 5 30 [(1:Int),2] [],qa.mk (ByteArray.mk (List.toArray [66,49])) 6 10 [(2:Int)] [ByteArray.mk (List.toArray [65,49])],qa.mk (ByteArray.mk (List.toArray [66,50])) 3 0 [] [],qa.mk (ByteArray.mk (List.toArray [67,49])) 10 200 [(40:Int)] [ByteArray.mk (List.toArray [66,49]),ByteArray.mk (List.toArray [66,50])]] (ByteArray.mk (List.toArray [67,49])) [ByteArray.mk (List.toArray [65,49]),ByteArray.mk (List.toArray [66,49])]) fun(a68:Bool)=>if(!a68)=Bool.true then Option.bind (qe [qa.mk (ByteArray.mk (List.toArray [65,49])) 5 30 [(1:Int),2] [],qa.mk (ByteArray.mk (List.toArray [66,49])) 6 10 [(2:Int)] [ByteArray.mk (List.toArray [65,49])],qa.mk (ByteArray.mk (List.toArray [66,50])) 3 0 [] [],qa.mk (ByteArray.mk (List.toArray [67,49])) 10 200 [(40:Int)] [ByteArray.mk (List.toArray [66,49]),ByteArray.mk (List.toArray [66,50])]] (ByteArray.mk (List.toArray [88])) []) fun(a69:Bool)=>if(!a69)=Bool.true then Option.bind (qg (qa.mk (ByteArray.mk (List.toArray [65,49])) 5 30 [(1:Int),2] []) (qa.mk (ByteArray.mk (List.toArray [66,49])) 6 10 [(2:Int)] [ByteArray.mk (List.toArray [65,49])])) fun(a70:Bool)=>if a70=Bool.true then Option.bind (qg (qa.mk (ByteArray.mk (List.toArray [66,49])) 6 10 [(2:Int)] [ByteArray.mk (List.toArray [65,49])]) (qa.mk (ByteArray.mk (List.toArray [66,50])) 3 0 [] [])) fun(a71:Bool)=>some Bool.false else some Bool.false else some Bool.false else some Bool.false else some Bool.false else Option.bind (qt [qa.mk (ByteArray.mk (List.toArray [65,49])) 5 30 [(1:Int),2] [],qa.mk (ByteArray.mk (List.toArray [66,49])) 6 10 [(2:Int)] [ByteArray.mk (List.toArray [65,49])],qa.mk (ByteArray.mk (List.toArray [66,50])) 3 0 [] [],qa.mk (ByteArray.mk (List.toArray [67,49])) 10 200 [(40:Int)] [ByteArray.mk (List.toArray [66,49]),ByteArray.mk (List.toArray [66,50])]] (ByteArray.mk (List.toArray [67,49]))) fun(a72:List ByteArray)=>Option.bind (qw a72 [ByteArray.mk (List.toArray [65,49]),ByteArray.mk (List.toArray [66,49]),ByteArray.mk (List.toArray [66,50])]) fun(a73:Bool)=>if a73=Bool.true then Option.bind (qt [qa.mk (ByteArray.mk (List.toArray [65,49])) 5 30 [(1:Int),2] [],qa.mk (ByteArray.mk (List.toArray [66,49])) 6 10 [(2:Int)] [ByteArray.mk (List.toArray [65,49])],qa.mk (ByteArray.mk (List.toArray [66,50])) 3 0 [] [],qa.mk (ByteArray.mk (List.toArray [67,49])) 10 200 [(40:Int)] [ByteArray.mk (List.toArray [66,49]),ByteArray.mk (List.toArray [66,50])]] (ByteArray.mk (List.toArray [65,49]))) fun(a74:List ByteArray)=>Option.bind (qt [qa.mk (ByteArray.mk (List.toArray [65,49])) 5 30 [(1:Int),2] [],qa.mk (ByteArray.mk (List.toArray [66,49])) 6 10 [(2:Int)] [ByteArray.mk (List.toArray [65,49])],qa.mk (ByteArray.mk (List.toArray [66,50])) 3 0 [] [],qa.mk (ByteArray.mk (List.toArray [67,49])) 10 200 [(40:Int)] [ByteArray.mk (List.toArray [66,49]),ByteArray.mk (List.toArray [66,50])]] (ByteArray.mk (List.toArray [88]))) fun(a75:List ByteArray)=>if(w64 (((a74.length:Nat):Int)+((a75.length:Nat):Int))==0)=Bool.true then Option.bind (zV [qa.mk (ByteArray.mk (List.toArray [65,49])) 5 30 [(1:Int),2] [],qa.mk (ByteArray.mk (List.toArray [66,49])) 6 10 [(2:Int)] [ByteArray.mk (List.toArray [65,49])],qa.mk (ByteArray.mk (List.toArray [66,50])) 3 0 [] [],qa.mk (ByteArray.mk (List.toArray [67,49])) 10 200 [(40:Int)] [ByteArray.mk (List.toArray [66,49]),ByteArray.mk (List.toArray [66,50])]]) fun(a76:List ByteArray)=>Option.bind (qw a76 [ByteArray.mk (List.toArray [65,49]),ByteArray.mk (List.toArray [66,49]),ByteArray.mk (List.toArray [66,50]),ByteArray.mk (List.toArray [67,49])]) fun(a77:Bool)=>Option.bind (qe [qa.mk (ByteArray.mk (List.toArray [65,49])) 5 30 [(1:Int),2] [],qa.mk (ByteArray.mk (List.toArray [66,49])) 6 10 [(2:Int)] [ByteArray.mk (List.toArray [65,49])],qa.mk (ByteArray.mk (List.toArray [66,50])) 3 0 [] [],qa.mk (ByteArray.mk (List.toArray [67,49])) 10 200 [(40:Int)] [ByteArray.mk (List.toArray [66,49]),ByteArray.mk (List.toArray [66,50])]] (ByteArray.mk (List.toArray [66,49])) [ByteArray.mk (List.toArray [65,49])]) fun(a78:Bool)=>if a78=Bool.true then Option.bind (qe [qa.mk (ByteArray.mk (List.toArray [65,49])) 5 30 [(1:Int),2] [],qa.mk (ByteArray.mk (List.toArray [66,49])) 6 10 [(2:Int)] [ByteArray.mk (List.toArray [65,49])],qa.mk (ByteArray.mk (List.toArray [66,50])) 3 0 [] [],qa.mk (ByteArray.mk (List.toArray [67,49])) 10 200 [(40:Int)] [ByteArray.mk (List.toArray [66,49]),ByteArray.mk (List.toArray [66,50])]] (ByteArray.mk (List.toArray [67,49])) [ByteArray.mk (List.toArray [65,49]),ByteArray.mk (List.toArray [66,49])]) fun(a79:Bool)=>if(!a79)=Bool.true then Option.bind (qe [qa.mk (ByteArray.mk (List.toArray [65,49])) 5 30 [(1:Int),2] [],qa.mk (ByteArray.mk (List.toArray [66,49])) 6 10 [(2:Int)] [ByteArray.mk (List.toArray [65,49])],qa.mk (ByteArray.mk (List.toArray [66,50])) 3 0 [] [],qa.mk (ByteArray.mk (List.toArray [67,49])) 10 200 [(40:Int)] [ByteArray.mk (List.toArray [66,49]),ByteArray.mk (List.toArray [66,50])]] (ByteArray.mk (List.toArray [88])) []) fun(a80:Bool)=>if(!a80)=Bool.true then Option.bind (qg (qa.mk (ByteArray.mk (List.toArray [65,49])) 5 30 [(1:Int),2] []) (qa.mk (ByteArray.mk (List.toArray [66,49])) 6 10 [(2:Int)] [ByteArray.mk (List.toArray [65,49])])) fun(a81:Bool)=>if a81=Bool.true then Option.bind (qg (qa.mk (ByteArray.mk (List.toArray [66,49])) 6 10 [(2:Int)] [ByteArray.mk (List.toArray [65,49])]) (qa.mk (ByteArray.mk (List.toArray [66,50])) 3 0 [] [])) fun(a82:Bool)=>some Bool.false else some Bool.false else some Bool.false else some Bool.false else some Bool.false else Option.bind (qe [qa.mk (ByteArray.mk (List.toArray [65,49])) 5 30 [(1:Int),2] [],qa.mk (ByteArray.mk (List.toArray [66,49])) 6 10 [(2:Int)] [ByteArray.mk (List.toArray [65,49])],qa.mk (ByteArray.mk (List.toArray [66,50])) 3 0 [] [],qa.mk (ByteArray.mk (List.toArray [67,49])) 10 200 [(40:Int)] [ByteArray.mk (List.toArray [66,49]),ByteArray.mk (List.toArray [66,50])]] (ByteArray.mk (List.toArray [66,49])) [ByteArray.mk (List.toArray [65,49])]) fun(a83:Bool)=>if a83=Bool.true then Option.bind (qe [qa.mk (ByteArray.mk (List.toArray [65,49])) 5 30 [(1:Int),2] [],qa.mk (ByteArray.mk (List.toArray [66,49])) 6 10 [(2:Int)] [ByteArray.mk (List.toArray [65,49])],qa.mk (ByteArray.mk (List.toArray [66,50])) 3 0 [] [],qa.mk (ByteArray.mk (List.toArray [67,49])) 10 200 [(40:Int)] [ByteArray.mk (List.toArray [66,49]),ByteArray.mk (List.toArray [66,50])]] (ByteArray.mk (List.toArray [67,49])) [ByteArray.mk (List.toArray [65,49]),ByteArray.mk (List.toArray [66,49])]) fun(a84:Bool)=>if(!a84)=Bool.true then Option.bind (qe [qa.mk (ByteArray.mk (List.toArray [65,49])) 5 30 [(1:Int),2] [],qa.mk (ByteArray.mk (List.toArray [66,49])) 6 10 [(2:Int)] [ByteArray.mk (List.toArray [65,49])],qa.mk (ByteArray.mk (List.toArray [66,50])) 3 0 [] [],qa.mk (ByteArray.mk (List.toArray [67,49])) 10 200 [(40:Int)] [ByteArray.mk (List.toArray [66,49]),ByteArray.mk (List.toArray [66,50])]] (ByteArray.mk (List.toArray [88])) []) fun(a85:Bool)=>if(!a85)=Bool.true then Option.bind (qg (qa.mk (ByteArray.mk (List.toArray [65,49])) 5 30 [(1:Int),2] []) (qa.mk (ByteArray.mk (List.toArray [66,49])) 6 10 [(2:Int)] [ByteArray.mk (List.toArray [65,49])])) fun(a86:Bool)=>if a86=Bool.true then Option.bind (qg (qa.mk (ByteArray.mk (List.toArray [66,49])) 6 10 [(2:Int)] [ByteArray.mk (List.toArray [65,49])]) (qa.mk (ByteArray.mk (List.toArray [66,50])) 3 0 [] [])) fun(a87:Bool)=>some Bool.false else some Bool.false else some Bool.false else some Bool.false else some Bool.false else Option.bind (qe [qa.mk (ByteArray.mk (List.toArray [65,49])) 5 30 [(1:Int),2] [],qa.mk (ByteArray.mk (List.toArray [66,49])) 6 10 [(2:Int)] [ByteArray.mk (List.toArray [65,49])],qa.mk (ByteArray.mk (List.toArray [66,50])) 3 0 [] [],qa.mk (ByteArray.mk (List.toArray [67,49])) 10 200 [(40:Int)] [ByteArray.mk (List.toArray [66,49]),ByteArray.mk (List.toArray [66,50])]] (ByteArray.mk (List.toArray [66,49])) [ByteArray.mk (List.toArray [65,49])]) fun(a88:Bool)=>if a88=Bool.true then Option.bind (qe [qa.mk (ByteArray.mk (List.toArray [65,49])) 5 30 [(1:Int),2] [],qa.mk (ByteArray.mk (List.toArray [66,49])) 6 10 [(2:Int)] [ByteArray.mk (List.toArray [65,49])],qa.mk (ByteArray.mk (List.toArray [66,50])) 3 0 [] [],qa.mk (ByteArray.mk (List.toArray [67,49])) 10 200 [(40:Int)] [ByteArray.mk (List.toArray [66,49]),ByteArray.mk (List.toArray [66,50])]] (ByteArray.mk (List.toArray [67,49])) [ByteArray.mk (List.toArray [65,49]),ByteArray.mk (List.toArray [66,49])]) fun(a89:Bool)=>if(!a89)=Bool.true then Option.bind (qe [qa.mk (ByteArray.mk (List.toArray [65,49])) 5 30 [(1:Int),2] [],qa.mk (ByteArray.mk (List.toArray [66,49])) 6 10 [(2:Int)] [ByteArray.mk (List.toArray [65,49])],qa.mk (ByteArray.mk (List.toArray [66,50])) 3 0 [] [],qa.mk (ByteArray.mk (List.toArray [67,49])) 10 200 [(40:Int)] [ByteArray.mk (List.toArray [66,49]),ByteArray.mk (List.toArray [66,50])]] (ByteArray.mk (List.toArray [88])) []) fun(a90:Bool)=>if(!a90)=Bool.true then Option.bind (qg (qa.mk (ByteArray.mk (List.toArray [65,49])) 5 30 [(1:Int),2] []) (qa.mk (ByteArray.mk (List.toArray [66,49])) 6 10 [(2:Int)] [ByteArray.mk (List.toArray [65,49])])) fun(a91:Bool)=>if a91=Bool.true then Option.bind (qg (qa.mk (ByteArray.mk (List.toArray [66,49])) 6 10 [(2:Int)] [ByteArray.mk (List.toArray [65,49])]) (qa.mk (ByteArray.mk (List.toArray [66,50])) 3 0 [] [])) fun(a92:Bool)=>some Bool.false else some Bool.false else some Bool.false else some Bool.false else some Bool.false else Option.bind (qt [qa.mk (ByteArray.mk (List.toArray [65,49])) 5 30 [(1:Int),2] [],qa.mk (ByteArray.mk (List.toArray [66,49])) 6 10 [(2:Int)] [ByteArray.mk (List.toArray [65,49])],qa.mk (ByteArray.mk (List.toArray [66,50])) 3 0 [] [],qa.mk (ByteArray.mk (List.toArray [67,49])) 10 200 [(40:Int)] [ByteArray.mk (List.toArray [66,49]),ByteArray.mk (List.toArray [66,50])]] (ByteArray.mk (List.toArray [67,49]))) fun(a93:List ByteArray)=>Option.bind (qw a93 [ByteArray.mk (List.toArray [65,49]),ByteArray.mk (List.toArray [66,49]),ByteArray.mk (List.toArray [66,50])]) fun(a94:Bool)=>if a94=Bool.true then Option.bind (qt [qa.mk (ByteArray.mk (List.toArray [65,49])) 5 30 [(1:Int),2] [],qa.mk (ByteArray.mk (List.toArray [66,49])) 6 10 [(2:Int)] [ByteArray.mk (List.toArray [65,49])],qa.mk (ByteArray.mk (List.toArray [66,50])) 3 0 [] [],qa.mk (ByteArray.mk (List.toArray [67,49])) 10 200 [(40:Int)] [ByteArray.mk (List.toArray [66,49]),ByteArray.mk (List.toArray [66,50])]] (ByteArray.mk (List.toArray [65,49]))) fun(a95:List ByteArray)=>Option.bind (qt [qa.mk (ByteArray.mk (List.toArray [65,49])) 5 30 [(1:Int),2] [],qa.mk (ByteArray.mk (List.toArray [66,49])) 6 10 [(2:Int)] [ByteArray.mk (List.toArray [65,49])],qa.mk (ByteArray.mk (List.toArray [66,50])) 3 0 [] [],qa.mk (ByteArray.mk (List.toArray [67,49])) 10 200 [(40:Int)] [ByteArray.mk (List.toArray [66,49]),ByteArray.mk (List.toArray [66,50])]] (ByteArray.mk (List.toArray [88]))) fun(a96:List ByteArray)=>if(w64 (((a95.length:Nat):Int)+((a96.length:Nat):Int))==0)=Bool.true then Option.bind (zV [qa.mk (ByteArray.mk (List.toArray [65,49])) 5 30 [(1:Int),2] [],qa.mk (ByteArray.mk (List.toArray [66,49])) 6 10 [(2:Int)] [ByteArray.mk (List.toArray [65,49])],qa.mk (ByteArray.mk (List.toArray [66,50])) 3 0 [] [],qa.mk (ByteArray.mk (List.toArray [67,49])) 10 200 [(40:Int)] [ByteArray.mk (List.toArray [66,49]),ByteArray.mk (List.toArray [66,50])]]) fun(a97:List ByteArray)=>Option.bind (qw a97 [ByteArray.mk (List.toArray [65,49]),ByteArray.mk (List.toArray [66,49]),ByteArray.mk (List.toArray [66,50]),ByteArray.mk (List.toArray [67,49])]) fun(a98:Bool)=>Option.bind (qe [qa.mk (ByteArray.mk (List.toArray [65,49])) 5 30 [(1:Int),2] [],qa.mk (ByteArray.mk (List.toArray [66,49])) 6 10 [(2:Int)] [ByteArray.mk (List.toArray [65,49])],qa.mk (ByteArray.mk (List.toArray [66,50])) 3 0 [] [],qa.mk (ByteArray.mk (List.toArray [67,49])) 10 200 [(40:Int)] [ByteArray.mk (List.toArray [66,49]),ByteArray.mk (List.toArray [66,50])]] (ByteArray.mk (List.toArray [66,49])) [ByteArray.mk (List.toArray [65,49])]) fun(a99:Bool)=>if a99=Bool.true then Option.bind (qe [qa.mk (ByteArray.mk (List.toArray [65,49])) 5 30 [(1:Int),2] [],qa.mk (ByteArray.mk (List.toArray [66,49])) 6 10 [(2:Int)] [ByteArray.mk (List.toArray [65,49])],qa.mk (ByteArray.mk (List.toArray [66,50])) 3 0 [] [],qa.mk (ByteArray.mk (List.toArray [67,49])) 10 200 [(40:Int)] [ByteArray.mk (List.toArray [66,49]),ByteArray.mk (List.toArray [66,50])]] (ByteArray.mk (List.toArray [67,49])) [ByteArray.mk (List.toArray [65,49]),ByteArray.mk (List.toArray [66,49])]) fun(a100:Bool)=>if(!a100)=Bool.true then Option.bind (qe [qa.mk (ByteArray.mk (List.toArray [65,49])) 5 30 [(1:Int),2] [],qa.mk (ByteArray.mk (List.toArray [66,49])) 6 10 [(2:Int)] [ByteArray.mk (List.toArray [65,49])],qa.mk (ByteArray.mk (List.toArray [66,50])) 3 0 [] [],qa.mk (ByteArray.mk (List.toArray [67,49])) 10 200 [(40:Int)] [ByteArray.mk (List.toArray [66,49]),ByteArray.mk (List.toArray [66,50])]] (ByteArray.mk (List.toArray [88])) []) fun(a101:Bool)=>if(!a101)=Bool.true then Option.bind (qg (qa.mk (ByteArray.mk (List.toArray [65,49])) 5 30 [(1:Int),2] []) (qa.mk (ByteArray.mk (List.toArray [66,49])) 6 10 [(2:Int)] [ByteArray.mk (List.toArray [65,49])])) fun(a102:Bool)=>if a102=Bool.true then Option.bind (qg (qa.mk (ByteArray.mk (List.toArray [66,49])) 6 10 [(2:Int)] [ByteArray.mk (List.toArray [65,49])]) (qa.mk (ByteArray.mk (List.toArray [66,50])) 3 0 [] [])) fun(a103:Bool)=>some Bool.false else some Bool.false else some Bool.false else some Bool.false else some Bool.false else Option.bind (qe [qa.mk (ByteArray.mk (List.toArray [65,49])) 5 30 [(1:Int),2] [],qa.mk (ByteArray.mk (List.toArray [66,49])) 6 10 [(2:Int)] [ByteArray.mk (List.toArray [65,49])],qa.mk (ByteArray.mk (List.toArray [66,50])) 3 0 [] [],qa.mk (ByteArray.mk (List.toArray [67,49])) 10 200 [(40:Int)] [ByteArray.mk (List.toArray [66,49]),ByteArray.mk (List.toArray [66,50])]] (ByteArray.mk (List.toArray [66,49])) [ByteArray.mk (List.toArray [65,49])]) fun(a104:Bool)=>if a104=Bool.true then Option.bind (qe [qa.mk (ByteArray.mk (List.toArray [65,49])) 5 30 [(1:Int),2] [],qa.mk (ByteArray.mk (List.toArray [66,49])) 6 10 [(2:Int)] [ByteArray.mk (List.toArray [65,49])],qa.mk (ByteArray.mk (List.toArray [66,50])) 3 0 [] [],qa.mk (ByteArray.mk (List.toArray [67,49])) 10 200 [(40:Int)] [ByteArray.mk (List.toArray [66,49]),ByteArray.mk (List.toArray [66,50])]] (ByteArray.mk (List.toArray [67,49])) [ByteArray.mk (List.toArray [65,49]),ByteArray.mk (List.toArray [66,49])]) fun(a105:Bool)=>if(!a105)=Bool.true then Option.bind (qe [qa.mk (ByteArray.mk (List.toArray [65,49])) 5 30 [(1:Int),2] [],qa.mk (ByteArray.mk (List.toArray [66,49])) 6 10 [(2:Int)] [ByteArray.mk (List.toArray [65,49])],qa.mk (ByteArray.mk (List.toArray [66,50])) 3 0 [] [],qa.mk (ByteArray.mk (List.toArray [67,49])) 10 200 [(40:Int)] [ByteArray.mk (List.toArray [66,49]),ByteArray.mk (List.toArray [66,50])]] (ByteArray.mk (List.toArray [88])) []) fun(a106:Bool)=>if(!a106)=Bool.true then Option.bind (qg (qa.mk (ByteArray.mk (List.toArray [65,49])) 5 30 [(1:Int),2] []) (qa.mk (ByteArray.mk (List.toArray [66,49])) 6 10 [(2:Int)] [ByteArray.mk (List.toArray [65,49])])) fun(a107:Bool)=>if a107=Bool.true then Option.bind (qg (qa.mk (ByteArray.mk (List.toArray [66,49])) 6 10 [(2:Int)] [ByteArray.mk (List.toArray [65,49])]) (qa.mk (ByteArray.mk (List.toArray [66,50])) 3 0 [] [])) fun(a108:Bool)=>some Bool.false else some Bool.false else some Bool.false else some Bool.false else some Bool.false else Option.bind (qe [qa.mk (ByteArray.mk (List.toArray [65,49])) 5 30 [(1:Int),2] [],qa.mk (ByteArray.mk (List.toArray [66,49])) 6 10 [(2:Int)] [ByteArray.mk (List.toArray [65,49])],qa.mk (ByteArray.mk (List.toArray [66,50])) 3 0 [] [],qa.mk (ByteArray.mk (List.toArray [67,49])) 10 200 [(40:Int)] [ByteArray.mk (List.toArray [66,49]),ByteArray.mk (List.toArray [66,50])]] (ByteArray.mk (List.toArray [66,49])) [ByteArray.mk (List.toArray [65,49])]) fun(a109:Bool)=>if a109=Bool.true then Option.bind (qe [qa.mk (ByteArray.mk (List.toArray [65,49])) 5 30 [(1:Int),2] [],qa.mk (ByteArray.mk (List.toArray [66,49])) 6 10 [(2:Int)] [ByteArray.mk (List.toArray [65,49])],qa.mk (ByteArray.mk (List.toArray [66,50])) 3 0 [] [],qa.mk (ByteArray.mk (List.toArray [67,49])) 10 200 [(40:Int)] [ByteArray.mk (List.toArray [66,49]),ByteArray.mk (List.toArray [66,50])]] (ByteArray.mk (List.toArray [67,49])) [ByteArray.mk (List.toArray [65,49]),ByteArray.mk (List.toArray [66,49])]) fun(a110:Bool)=>if(!a110)=Bool.true then Option.bind (qe [qa.mk (ByteArray.mk (List.toArray [65,49])) 5 30 [(1:Int),2] [],qa.mk (ByteArray.mk (List.toArray [66,49])) 6 10 [(2:Int)] [ByteArray.mk (List.toArray [65,49])],qa.mk (ByteArray.mk (List.toArray [66,50])) 3 0 [] [],qa.mk (ByteArray.mk (List.toArray [67,49])) 10 200 [(40:Int)] [ByteArray.mk (List.toArray [66,49]),ByteArray.mk (List.toArray [66,50])]] (ByteArray.mk (List.toArray [88])) []) fun(a111:Bool)=>if(!a111)=Bool.true then Option.bind (qg (qa.mk (ByteArray.mk (List.toArray [65,49])) 5 30 [(1:Int),2] []) (qa.mk (ByteArray.mk (List.toArray [66,49])) 6 10 [(2:Int)] [ByteArray.mk (List.toArray [65,49])])) fun(a112:Bool)=>if a112=Bool.true then Option.bind (qg (qa.mk (ByteArray.mk (List.toArray [66,49])) 6 10 [(2:Int)] [ByteArray.mk (List.toArray [65,49])]) (qa.mk (ByteArray.mk (List.toArray [66,50])) 3 0 [] [])) fun(a113:Bool)=>some Bool.false else some Bool.false else some Bool.false else some Bool.false else some Bool.false
theorem q3R:ev 8 0 [] []=(QZ).bind (fun(e:Bool)=>some (rB e,[])):=
 by
  rw[qU bd8 pw8.2.2.2 lo8]
  have:=cx8;have:=@q2K;have:=@q24;have:=@q2a;have:=@q1M;have:=@q1O;have:=@q0I;have:=@q1Z;have:=@q32;have:=@q0L;have:=@q3c;have:=@q2U;have:=@q1P;have:=@q26;have:=@Js;have:=@QZ.eq_1;exact gA
def q0a (fu:Nat):Option Bool:=Option.bind (Qk fu [qa.mk (ByteArray.mk (List.toArray [65,49])) 5 30 [(1:Int),2] [],qa.mk (ByteArray.mk (List.toArray [66,49])) 6 10 [(2:Int)] [ByteArray.mk (List.toArray [65,49])],qa.mk (ByteArray.mk (List.toArray [66,50])) 3 0 [] [],qa.mk (ByteArray.mk (List.toArray [67,49])) 10 200 [(40:Int)] [ByteArray.mk (List.toArray [66,49]),ByteArray.mk (List.toArray [66,50])]]) fun(a:Int)=>if(a==0)=Bool.true then Option.bind (Qk fu [qa.mk (ByteArray.mk (List.toArray [65,49])) 5 30 [(1:Int),2] [],qa.mk (ByteArray.mk (List.toArray [66,50])) 6 10 [(2:Int)] [ByteArray.mk (List.toArray [65,49])],qa.mk (ByteArray.mk (List.toArray [66,50])) 3 0 [] [],qa.mk (ByteArray.mk (List.toArray [67,49])) 10 200 [(40:Int)] [ByteArray.mk (List.toArray [66,49]),ByteArray.mk (List.toArray [66,50])]]) fun(a2:Int)=>if(a2==6)=Bool.true then Option.bind (Qk fu [qa.mk (ByteArray.mk (List.toArray [65,49])) 5 30 [(1:Int),2] [ByteArray.mk (List.toArray [67,49])],qa.mk (ByteArray.mk (List.toArray [66,49])) 6 10 [(2:Int)] [ByteArray.mk (List.toArray [65,49])],qa.mk (ByteArray.mk (List.toArray [66,50])) 3 0 [] [],qa.mk (ByteArray.mk (List.toArray [67,49])) 10 200 [(40:Int)] [ByteArray.mk (List.toArray [66,49]),ByteArray.mk (List.toArray [66,50])]]) fun(a3:Int)=>if(a3==14)=Bool.true then Option.bind (Qk fu [qa.mk (ByteArray.mk (List.toArray [65,49])) 5 30 [(1:Int),2] [],qa.mk (ByteArray.mk (List.toArray [66,49])) 6 10 [(2:Int)] [ByteArray.mk (List.toArray [65,49])],qa.mk (ByteArray.mk (List.toArray [66,50])) 3 0 [] [ByteArray.mk (List.toArray [88])],qa.mk (ByteArray.mk (List.toArray [67,49])) 10 200 [(40:Int)] [ByteArray.mk (List.toArray [66,49]),ByteArray.mk (List.toArray [66,50])]]) fun(a4:Int)=>if(a4==5)=Bool.true then Option.bind (Qk fu [qa.mk (ByteArray.mk (List.toArray [65,49])) 5 30 [(1:Int),2] [],qa.mk (ByteArray.mk (List.toArray [66,49])) 6 10 [(2:Int)] [ByteArray.mk (List.toArray [65,49])],qa.mk (ByteArray.mk (List.toArray [66,50])) 3 0 [] [],qa.mk (ByteArray.mk (List.toArray [67,49])) 61 200 [(40:Int)] [ByteArray.mk (List.toArray [66,49]),ByteArray.mk (List.toArray [66,50])]]) fun(a5:Int)=>Option.bind (qM fu [qa.mk (ByteArray.mk (List.toArray [65,49])) 5 30 [(1:Int),2] [],qa.mk (ByteArray.mk (List.toArray [66,49])) 6 10 [(2:Int)] [ByteArray.mk (List.toArray [65,49])],qa.mk (ByteArray.mk (List.toArray [66,50])) 3 0 [] [],qa.mk (ByteArray.mk (List.toArray [67,49])) 10 200 [(40:Int)] [ByteArray.mk (List.toArray [66,49]),ByteArray.mk (List.toArray [66,50])]] (ByteArray.mk (List.toArray [67,49]))) fun(a6:List ByteArray)=>Option.bind (qQ fu a6 [ByteArray.mk (List.toArray [65,49]),ByteArray.mk (List.toArray [66,49]),ByteArray.mk (List.toArray [66,50])]) fun(a7:Bool)=>if a7=Bool.true then Option.bind (qM fu [qa.mk (ByteArray.mk (List.toArray [65,49])) 5 30 [(1:Int),2] [],qa.mk (ByteArray.mk (List.toArray [66,49])) 6 10 [(2:Int)] [ByteArray.mk (List.toArray [65,49])],qa.mk (ByteArray.mk (List.toArray [66,50])) 3 0 [] [],qa.mk (ByteArray.mk (List.toArray [67,49])) 10 200 [(40:Int)] [ByteArray.mk (List.toArray [66,49]),ByteArray.mk (List.toArray [66,50])]] (ByteArray.mk (List.toArray [65,49]))) fun(a8:List ByteArray)=>Option.bind (qM fu [qa.mk (ByteArray.mk (List.toArray [65,49])) 5 30 [(1:Int),2] [],qa.mk (ByteArray.mk (List.toArray [66,49])) 6 10 [(2:Int)] [ByteArray.mk (List.toArray [65,49])],qa.mk (ByteArray.mk (List.toArray [66,50])) 3 0 [] [],qa.mk (ByteArray.mk (List.toArray [67,49])) 10 200 [(40:Int)] [ByteArray.mk (List.toArray [66,49]),ByteArray.mk (List.toArray [66,50])]] (ByteArray.mk (List.toArray [88]))) fun(a9:List ByteArray)=>if(w64 (((a8.length:Nat):Int)+((a9.length:Nat):Int))==0)=Bool.true then Option.bind (QA fu [qa.mk (ByteArray.mk (List.toArray [65,49])) 5 30 [(1:Int),2] [],qa.mk (ByteArray.mk (List.toArray [66,49])) 6 10 [(2:Int)] [ByteArray.mk (List.toArray [65,49])],qa.mk (ByteArray.mk (List.toArray [66,50])) 3 0 [] [],qa.mk (ByteArray.mk (List.toArray [67,49])) 10 200 [(40:Int)] [ByteArray.mk (List.toArray [66,49]),ByteArray.mk (List.toArray [66,50])]]) fun(a10:List ByteArray)=>Option.bind (qQ fu a10 [ByteArray.mk (List.toArray [65,49]),ByteArray.mk (List.toArray [66,49]),ByteArray.mk (List.toArray [66,50]),ByteArray.mk (List.toArray [67,49])]) fun(a11:Bool)=>Option.bind (qf fu [qa.mk (ByteArray.mk (List.toArray [65,49])) 5 30 [(1:Int),2] [],qa.mk (ByteArray.mk (List.toArray [66,49])) 6 10 [(2:Int)] [ByteArray.mk (List.toArray [65,49])],qa.mk (ByteArray.mk (List.toArray [66,50])) 3 0 [] [],qa.mk (ByteArray.mk (List.toArray [67,49])) 10 200 [(40:Int)] [ByteArray.mk (List.toArray [66,49]),ByteArray.mk (List.toArray [66,50])]] (ByteArray.mk (List.toArray [66,49])) [ByteArray.mk (List.toArray [65,49])]) fun(a12:Bool)=>if a12=Bool.true then Option.bind (qf fu [qa.mk (ByteArray.mk (List.toArray [65,49])) 5 30 [(1:Int),2] [],qa.mk (ByteArray.mk (List.toArray [66,49])) 6 10 [(2:Int)] [ByteArray.mk (List.toArray [65,49])],qa.mk (ByteArray.mk (List.toArray [66,50])) 3 0 [] [],qa.mk (ByteArray.mk (List.toArray [67,49])) 10 200 [(40:Int)] [ByteArray.mk (List.toArray [66,49]),ByteArray.mk (List.toArray [66,50])]] (ByteArray.mk (List.toArray [67,49])) [ByteArray.mk (List.toArray [65,49]),ByteArray.mk (List.toArray [66,49])]) fun(a13:Bool)=>if(!a13)=Bool.true then Option.bind (qf fu [qa.mk (ByteArray.mk (List.toArray [65,49])) 5 30 [(1:Int),2] [],qa.mk (ByteArray.mk (List.toArray [66,49])) 6 10 [(2:Int)] [ByteArray.mk (List.toArray [65,49])],qa.mk (ByteArray.mk (List.toArray [66,50])) 3 0 [] [],qa.mk (ByteArray.mk (List.toArray [67,49])) 10 200 [(40:Int)] [ByteArray.mk (List.toArray [66,49]),ByteArray.mk (List.toArray [66,50])]] (ByteArray.mk (List.toArray [88])) []) fun(a14:Bool)=>if(!a14)=Bool.true then Option.bind (qk fu (qa.mk (ByteArray.mk (List.toArray [65,49])) 5 30 [(1:Int),2] []) (qa.mk (ByteArray.mk (List.toArray [66,49])) 6 10 [(2:Int)] [ByteArray.mk (List.toArray [65,49])])) fun(a15:Bool)=>if a15=Bool.true then Option.bind (qk fu (qa.mk (ByteArray.mk (List.toArray [66,49])) 6 10 [(2:Int)] [ByteArray.mk (List.toArray [65,49])]) (qa.mk (ByteArray.mk (List.toArray [66,50])) 3 0 [] [])) fun(a16:Bool)=>if(a5==3)=Bool.true then if a11=Bool.true then if(!a16)=Bool.true then Option.bind (QU fu (ByteArray.mk (List.toArray [65,49]))) fun(a17:Bool)=>if a17=Bool.true then Option.bind (QU fu (ByteArray.mk (List.toArray [97,49]))) fun(a18:Bool)=>if(!a18)=Bool.true then Option.bind (QU fu (ByteArray.mk (List.toArray []))) fun(a19:Bool)=>some (!a19) else some Bool.false else some Bool.false else some Bool.false else some Bool.false else some Bool.false else some Bool.false else some Bool.false else some Bool.false else some Bool.false else Option.bind (qf fu [qa.mk (ByteArray.mk (List.toArray [65,49])) 5 30 [(1:Int),2] [],qa.mk (ByteArray.mk (List.toArray [66,49])) 6 10 [(2:Int)] [ByteArray.mk (List.toArray [65,49])],qa.mk (ByteArray.mk (List.toArray [66,50])) 3 0 [] [],qa.mk (ByteArray.mk (List.toArray [67,49])) 10 200 [(40:Int)] [ByteArray.mk (List.toArray [66,49]),ByteArray.mk (List.toArray [66,50])]] (ByteArray.mk (List.toArray [66,49])) [ByteArray.mk (List.toArray [65,49])]) fun(a20:Bool)=>if a20=Bool.true then Option.bind (qf fu [qa.mk (ByteArray.mk (List.toArray [65,49])) 5 30 [(1:Int),2] [],qa.mk (ByteArray.mk (List.toArray [66,49])) 6 10 [(2:Int)] [ByteArray.mk (List.toArray [65,49])],qa.mk (ByteArray.mk (List.toArray [66,50])) 3 0 [] [],qa.mk (ByteArray.mk (List.toArray [67,49])) 10 200 [(40:Int)] [ByteArray.mk (List.toArray [66,49]),ByteArray.mk (List.toArray [66,50])]] (ByteArray.mk (List.toArray [67,49])) [ByteArray.mk (List.toArray [65,49]),ByteArray.mk (List.toArray [66,49])]) fun(a21:Bool)=>if(!a21)=Bool.true then Option.bind (qf fu [qa.mk (ByteArray.mk (List.toArray [65,49])) 5 30 [(1:Int),2] [],qa.mk (ByteArray.mk (List.toArray [66,49])) 6 10 [(2:Int)] [ByteArray.mk (List.toArray [65,49])],qa.mk (ByteArray.mk (List.toArray [66,50])) 3 0 [] [],qa.mk (ByteArray.mk (List.toArray [67,49])) 10 200 [(40:Int)] [ByteArray.mk (List.toArray [66,49]),ByteArray.mk (List.toArray [66,50])]] (ByteArray.mk (List.toArray [88])) []) fun(a22:Bool)=>if(!a22)=Bool.true then Option.bind (qk fu (qa.mk (ByteArray.mk (List.toArray [65,49])) 5 30 [(1:Int),2] []) (qa.mk (ByteArray.mk (List.toArray [66,49])) 6 10 [(2:Int)] [ByteArray.mk (List.toArray [65,49])])) fun(a23:Bool)=>if a23=Bool.true then Option.bind (qk fu (qa.mk (ByteArray.mk (List.toArray [66,49])) 6 10 [(2:Int)] [ByteArray.mk (List.toArray [65,49])]) (qa.mk (ByteArray.mk (List.toArray [66,50])) 3 0 [] [])) fun(a24:Bool)=>some Bool.false else some Bool.false else some Bool.false else some Bool.false else some Bool.false else Option.bind (qf fu [qa.mk (ByteArray.mk (List.toArray [65,49])) 5 30 [(1:Int),2] [],qa.mk (ByteArray.mk (List.toArray [66,49])) 6 10 [(2:Int)] [ByteArray.mk (List.toArray [65,49])],qa.mk (ByteArray.mk (List.toArray [66,50])) 3 0 [] [],qa.mk (ByteArray.mk (List.toArray [67,49])) 10 200 [(40:Int)] [ByteArray.mk (List.toArray [66,49]),ByteArray.mk (List.toArray [66,50])]] (ByteArray.mk (List.toArray [66,49])) [ByteArray.mk (List.toArray [65,49])]) fun(a25:Bool)=>if a25=Bool.true then Option.bind (qf fu [qa.mk (ByteArray.mk (List.toArray [65,49])) 5 30 [(1:Int),2] [],qa.mk (ByteArray.mk (List.toArray [66,49])) 6 10 [(2:Int)] [ByteArray.mk (List.toArray [65,49])],qa.mk (ByteArray.mk (List.toArray [66,50])) 3 0 [] [],qa.mk (ByteArray.mk (List.toArray [67,49])) 10 200 [(40:Int)] [ByteArray.mk (List.toArray [66,49]),ByteArray.mk (List.toArray [66,50])]] (ByteArray.mk (List.toArray [67,49])) [ByteArray.mk (List.toArray [65,49]),ByteArray.mk (List.toArray [66,49])]) fun(a26:Bool)=>if(!a26)=Bool.true then Option.bind (qf fu [qa.mk (ByteArray.mk (List.toArray [65,49])) 5 30 [(1:Int),2] [],qa.mk (ByteArray.mk (List.toArray [66,49])) 6 10 [(2:Int)] [ByteArray.mk (List.toArray [65,49])],qa.mk (ByteArray.mk (List.toArray [66,50])) 3 0 [] [],qa.mk (ByteArray.mk (List.toArray [67,49])) 10 200 [(40:Int)] [ByteArray.mk (List.toArray [66,49]),ByteArray.mk (List.toArray [66,50])]] (ByteArray.mk (List.toArray [88])) []) fun(a27:Bool)=>if(!a27)=Bool.true then Option.bind (qk fu (qa.mk (ByteArray.mk (List.toArray [65,49])) 5 30 [(1:Int),2] []) (qa.mk (ByteArray.mk (List.toArray [66,49])) 6 10 [(2:Int)] [ByteArray.mk (List.toArray [65,49])])) fun(a28:Bool)=>if a28=Bool.true then Option.bind (qk fu (qa.mk (ByteArray.mk (List.toArray [66,49])) 6 10 [(2:Int)] [ByteArray.mk (List.toArray [65,49])]) (qa.mk (ByteArray.mk (List.toArray [66,50])) 3 0 [] [])) fun(a29:Bool)=>some Bool.false else some Bool.false else some Bool.false else some Bool.false else some Bool.false else Option.bind (qM fu [qa.mk (ByteArray.mk (List.toArray [65,49])) 5 30 [(1:Int),2] [],qa.mk (ByteArray.mk (List.toArray [66,49])) 6 10 [(2:Int)] [ByteArray.mk (List.toArray [65,49])],qa.mk (ByteArray.mk (List.toArray [66,50])) 3 0 [] [],qa.mk (ByteArray.mk (List.toArray [67,49])) 10 200 [(40:Int)] [ByteArray.mk (List.toArray [66,49]),ByteArray.mk (List.toArray [66,50])]] (ByteArray.mk (List.toArray [67,49]))) fun(a30:List ByteArray)=>Option.bind (qQ fu a30 [ByteArray.mk (List.toArray [65,49]),ByteArray.mk (List.toArray [66,49]),ByteArray.mk (List.toArray [66,50])]) fun(a31:Bool)=>if a31=Bool.true then Option.bind (qM fu [qa.mk (ByteArray.mk (List.toArray [65,49])) 5 30 [(1:Int),2] [],qa.mk (ByteArray.mk (List.toArray [66,49])) 6 10 [(2:Int)] [ByteArray.mk (List.toArray [65,49])],qa.mk (ByteArray.mk (List.toArray [66,50])) 3 0 [] [],qa.mk (ByteArray.mk (List.toArray [67,49])) 10 200 [(40:Int)] [ByteArray.mk (List.toArray [66,49]),ByteArray.mk (List.toArray [66,50])]] (ByteArray.mk (List.toArray [65,49]))) fun(a32:List ByteArray)=>Option.bind (qM fu [qa.mk (ByteArray.mk (List.toArray [65,49])) 5 30 [(1:Int),2] [],qa.mk (ByteArray.mk (List.toArray [66,49])) 6 10 [(2:Int)] [ByteArray.mk (List.toArray [65,49])],qa.mk (ByteArray.mk (List.toArray [66,50])) 3 0 [] [],qa.mk (ByteArray.mk (List.toArray [67,49])) 10 200 [(40:Int)] [ByteArray.mk (List.toArray [66,49]),ByteArray.mk (List.toArray [66,50])]] (ByteArray.mk (List.toArray [88]))) fun(a33:List ByteArray)=>if(w64 (((a32.length:Nat):Int)+((a33.length:Nat):Int))==0)=Bool.true then Option.bind (QA fu [qa.mk (ByteArray.mk (List.toArray [65,49])) 5 30 [(1:Int),2] [],qa.mk (ByteArray.mk (List.toArray [66,49])) 6 10 [(2:Int)] [ByteArray.mk (List.toArray [65,49])],qa.mk (ByteArray.mk (List.toArray [66,50])) 3 0 [] [],qa.mk (ByteArray.mk (List.toArray [67,49])) 10 200 [(40:Int)] [ByteArray.mk (List.toArray [66,49]),ByteArray.mk (List.toArray [66,50])]]) fun(a34:List ByteArray)=>Option.bind (qQ fu a34 [ByteArray.mk (List.toArray [65,49]),ByteArray.mk (List.toArray [66,49]),ByteArray.mk (List.toArray [66,50]),ByteArray.mk (List.toArray [67,49])]) fun(a35:Bool)=>Option.bind (qf fu [qa.mk (ByteArray.mk (List.toArray [65,49])) 5 30 [(1:Int),2] [],qa.mk (ByteArray.mk (List.toArray [66,49])) 6 10 [(2:Int)] [ByteArray.mk (List.toArray [65,49])],qa.mk (ByteArray.mk (List.toArray [66,50])) 3 0 [] [],qa.mk (ByteArray.mk (List.toArray [67,49])) 10 200 [(40:Int)] [ByteArray.mk (List.toArray [66,49]),ByteArray.mk (List.toArray [66,50])]] (ByteArray.mk (List.toArray [66,49])) [ByteArray.mk (List.toArray [65,49])]) fun(a36:Bool)=>if a36=Bool.true then Option.bind (qf fu [qa.mk (ByteArray.mk (List.toArray [65,49])) 5 30 [(1:Int),2] [],qa.mk (ByteArray.mk (List.toArray [66,49])) 6 10 [(2:Int)] [ByteArray.mk (List.toArray [65,49])],qa.mk (ByteArray.mk (List.toArray [66,50])) 3 0 [] [],qa.mk (ByteArray.mk (List.toArray [67,49])) 10 200 [(40:Int)] [ByteArray.mk (List.toArray [66,49]),ByteArray.mk (List.toArray [66,50])]] (ByteArray.mk (List.toArray [67,49])) [ByteArray.mk (List.toArray [65,49]),ByteArray.mk (List.toArray [66,49])]) fun(a37:Bool)=>if(!a37)=Bool.true then Option.bind (qf fu [qa.mk (ByteArray.mk (List.toArray [65,49])) 5 30 [(1:Int),2] [],qa.mk (ByteArray.mk (List.toArray [66,49])) 6 10 [(2:Int)] [ByteArray.mk (List.toArray [65,49])],qa.mk (ByteArray.mk (List.toArray [66,50])) 3 0 [] [],qa.mk (ByteArray.mk (List.toArray [67,49])) 10 200 [(40:Int)] [ByteArray.mk (List.toArray [66,49]),ByteArray.mk (List.toArray [66,50])]] (ByteArray.mk (List.toArray [88])) []) fun(a38:Bool)=>if(!a38)=Bool.true then Option.bind (qk fu (qa.mk (ByteArray.mk (List.toArray [65,49])) 5 30 [(1:Int),2] []) (qa.mk (ByteArray.mk (List.toArray [66,49])) 6 10 [(2:Int)] [ByteArray.mk (List.toArray [65,49])])) fun(a39:Bool)=>if a39=Bool.true then Option.bind (qk fu (qa.mk (ByteArray.mk (List.toArray [66,49])) 6 10 [(2:Int)] [ByteArray.mk (List.toArray [65,49])]) (qa.mk (ByteArray.mk (List.toArray [66,50])) 3 0 [] [])) fun(a40:Bool)=>some Bool.false else some Bool.false else some Bool.false else some Bool.false else some Bool.false else Option.bind (qf fu [qa.mk (ByteArray.mk (List.toArray [65,49])) 5 30 [(1:Int),2] [],qa.mk (ByteArray.mk (List.toArray [66,49])) 6 10 [(2:Int)] [ByteArray.mk (List.toArray [65,49])],qa.mk (ByteArray.mk (List.toArray [66,50])) 3 0 [] [],qa.mk (ByteArray.mk (List.toArray [67,49])) 10 200 [(40:Int)] [ByteArray.mk (List.toArray [66,49]),ByteArray.mk (List.toArray [66,50])]] (ByteArray.mk (List.toArray [66,49])) [ByteArray.mk (List.toArray [65,49])]) fun(a41:Bool)=>if a41=Bool.true then Option.bind (qf fu [qa.mk (ByteArray.mk (List.toArray [65,49])) 5 30 [(1:Int),2] [],qa.mk (ByteArray.mk (List.toArray [66,49])) 6 10 [(2:Int)] [ByteArray.mk (List.toArray [65,49])],qa.mk (ByteArray.mk (List.toArray [66,50])) 3 0 [] [],qa.mk (ByteArray.mk (List.toArray [67,49])) 10 200 [(40:Int)] [ByteArray.mk (List.toArray [66,49]),ByteArray.mk (List.toArray [66,50])]] (ByteArray.mk (List.toArray [67,49])) [ByteArray.mk (List.toArray [65,49]),ByteArray.mk (List.toArray [66,49])]) fun(a42:Bool)=>if(!a42)=Bool.true then Option.bind (qf fu [qa.mk (ByteArray.mk (List.toArray [65,49])) 5 30 [(1:Int),2] [],qa.mk (ByteArray.mk (List.toArray [66,49])) 6 10 [(2:Int)] [ByteArray.mk (List.toArray [65,49])],qa.mk (ByteArray.mk (List.toArray [66,50])) 3 0 [] [],qa.mk (ByteArray.mk (List.toArray [67,49])) 10 200 [(40:Int)] [ByteArray.mk (List.toArray [66,49]),ByteArray.mk (List.toArray [66,50])]] (ByteArray.mk (List.toArray [88])) []) fun(a43:Bool)=>if(!a43)=Bool.true then Option.bind (qk fu (qa.mk (ByteArray.mk (List.toArray [65,49])) 5 30 [(1:Int),2] []) (qa.mk (ByteArray.mk (List.toArray [66,49])) 6 10 [(2:Int)] [ByteArray.mk (List.toArray [65,49])])) fun(a44:Bool)=>if a44=Bool.true then Option.bind (qk fu (qa.mk (ByteArray.mk (List.toArray [66,49])) 6 10 [(2:Int)] [ByteArray.mk (List.toArray [65,49])]) (qa.mk (ByteArray.mk (List.toArray [66,50])) 3 0 [] [])) fun(a45:Bool)=>some Bool.false else some Bool.false else some Bool.false else some Bool.false else some Bool.false else Option.bind (qf fu [qa.mk (ByteArray.mk (List.toArray [65,49])) 5 30 [(1:Int),2] [],qa.mk (ByteArray.mk (List.toArray [66,49])) 6 10 [(2:Int)] [ByteArray.mk (List.toArray [65,49])],qa.mk (ByteArray.mk (List.toArray [66,50])) 3 0 [] [],qa.mk (ByteArray.mk (List.toArray [67,49])) 10 200 [(40:Int)] [ByteArray.mk (List.toArray [66,49]),ByteArray.mk (List.toArray [66,50])]] (ByteArray.mk (List.toArray [66,49])) [ByteArray.mk (List.toArray [65,49])]) fun(a46:Bool)=>if a46=Bool.true then Option.bind (qf fu [qa.mk (ByteArray.mk (List.toArray [65,49])) 5 30 [(1:Int),2] [],qa.mk (ByteArray.mk (List.toArray [66,49])) 6 10 [(2:Int)] [ByteArray.mk (List.toArray [65,49])],qa.mk (ByteArray.mk (List.toArray [66,50])) 3 0 [] [],qa.mk (ByteArray.mk (List.toArray [67,49])) 10 200 [(40:Int)] [ByteArray.mk (List.toArray [66,49]),ByteArray.mk (List.toArray [66,50])]] (ByteArray.mk (List.toArray [67,49])) [ByteArray.mk (List.toArray [65,49]),ByteArray.mk (List.toArray [66,49])]) fun(a47:Bool)=>if(!a47)=Bool.true then Option.bind (qf fu [qa.mk (ByteArray.mk (List.toArray [65,49])) 5 30 [(1:Int),2] [],qa.mk (ByteArray.mk (List.toArray [66,49])) 6 10 [(2:Int)] [ByteArray.mk (List.toArray [65,49])],qa.mk (ByteArray.mk (List.toArray [66,50])) 3 0 [] [],qa.mk (ByteArray.mk (List.toArray [67,49])) 10 200 [(40:Int)] [ByteArray.mk (List.toArray [66,49]),ByteArray.mk (List.toArray [66,50])]] (ByteArray.mk (List.toArray [88])) []) fun(a48:Bool)=>if(!a48)=Bool.true then Option.bind (qk fu (qa.mk (ByteArray.mk (List.toArray [65,49])) 5 30 [(1:Int),2] []) (qa.mk (ByteArray.mk (List.toArray [66,49])) 6 10 [(2:Int)] [ByteArray.mk (List.toArray [65,49])])) fun(a49:Bool)=>if a49=Bool.true then Option.bind (qk fu (qa.mk (ByteArray.mk (List.toArray [66,49])) 6 10 [(2:Int)] [ByteArray.mk (List.toArray [65,49])]) (qa.mk (ByteArray.mk (List.toArray [66,50])) 3 0 [] [])) fun(a50:Bool)=>some Bool.false else some Bool.false else some Bool.false else some Bool.false else some Bool.false else Option.bind (qM fu [qa.mk (ByteArray.mk (List.toArray [65,49])) 5 30 [(1:Int),2] [],qa.mk (ByteArray.mk (List.toArray [66,49])) 6 10 [(2:Int)] [ByteArray.mk (List.toArray [65,49])],qa.mk (ByteArray.mk (List.toArray [66,50])) 3 0 [] [],qa.mk (ByteArray.mk (List.toArray [67,49])) 10 200 [(40:Int)] [ByteArray.mk (List.toArray [66,49]),ByteArray.mk (List.toArray [66,50])]] (ByteArray.mk (List.toArray [67,49]))) fun(a51:List ByteArray)=>Option.bind (qQ fu a51 [ByteArray.mk (List.toArray [65,49]),ByteArray.mk (List.toArray [66,49]),ByteArray.mk (List.toArray [66,50])]) fun(a52:Bool)=>if a52=Bool.true then Option.bind (qM fu [qa.mk (ByteArray.mk (List.toArray [65,49])) 5 30 [(1:Int),2] [],qa.mk (ByteArray.mk (List.toArray [66,49])) 6 10 [(2:Int)] [ByteArray.mk (List.toArray [65,49])],qa.mk (ByteArray.mk (List.toArray [66,50])) 3 0 [] [],qa.mk (ByteArray.mk (List.toArray [67,49])) 10 200 [(40:Int)] [ByteArray.mk (List.toArray [66,49]),ByteArray.mk (List.toArray [66,50])]] (ByteArray.mk (List.toArray [65,49]))) fun(a53:List ByteArray)=>Option.bind (qM fu [qa.mk (ByteArray.mk (List.toArray [65,49])) 5 30 [(1:Int),2] [],qa.mk (ByteArray.mk (List.toArray [66,49])) 6 10 [(2:Int)] [ByteArray.mk (List.toArray [65,49])],qa.mk (ByteArray.mk (List.toArray [66,50])) 3 0 [] [],qa.mk (ByteArray.mk (List.toArray [67,49])) 10 200 [(40:Int)] [ByteArray.mk (List.toArray [66,49]),ByteArray.mk (List.toArray [66,50])]] (ByteArray.mk (List.toArray [88]))) fun(a54:List ByteArray)=>if(w64 (((a53.length:Nat):Int)+((a54.length:Nat):Int))==0)=Bool.true then Option.bind (QA fu [qa.mk (ByteArray.mk (List.toArray [65,49])) 5 30 [(1:Int),2] [],qa.mk (ByteArray.mk (List.toArray [66,49])) 6 10 [(2:Int)] [ByteArray.mk (List.toArray [65,49])],qa.mk (ByteArray.mk (List.toArray [66,50])) 3 0 [] [],qa.mk (ByteArray.mk (List.toArray [67,49])) 10 200 [(40:Int)] [ByteArray.mk (List.toArray [66,49]),ByteArray.mk (List.toArray [66,50])]]) fun(a55:List ByteArray)=>Option.bind (qQ fu a55 [ByteArray.mk (List.toArray [65,49]),ByteArray.mk (List.toArray [66,49]),ByteArray.mk (List.toArray [66,50]),ByteArray.mk (List.toArray [67,49])]) fun(a56:Bool)=>Option.bind (qf fu [qa.mk (ByteArray.mk (List.toArray [65,49])) 5 30 [(1:Int),2] [],qa.mk (ByteArray.mk (List.toArray [66,49])) 6 10 [(2:Int)] [ByteArray.mk (List.toArray [65,49])],qa.mk (ByteArray.mk (List.toArray [66,50])) 3 0 [] [],qa.mk (ByteArray.mk (List.toArray [67,49])) 10 200 [(40:Int)] [ByteArray.mk (List.toArray [66,49]),ByteArray.mk (List.toArray [66,50])]] (ByteArray.mk (List.toArray [66,49])) [ByteArray.mk (List.toArray [65,49])]) fun(a57:Bool)=>if a57=Bool.true then Option.bind (qf fu [qa.mk (ByteArray.mk (List.toArray [65,49])) 5 30 [(1:Int),2] [],qa.mk (ByteArray.mk (List.toArray [66,49])) 6 10 [(2:Int)] [ByteArray.mk (List.toArray [65,49])],qa.mk (ByteArray.mk (List.toArray [66,50])) 3 0 [] [],qa.mk (ByteArray.mk (List.toArray [67,49])) 10 200 [(40:Int)] [ByteArray.mk (List.toArray [66,49]),ByteArray.mk (List.toArray [66,50])]] (ByteArray.mk (List.toArray [67,49])) [ByteArray.mk (List.toArray [65,49]),ByteArray.mk (List.toArray [66,49])]) fun(a58:Bool)=>if(!a58)=Bool.true then Option.bind (qf fu [qa.mk (ByteArray.mk (List.toArray [65,49])) 5 30 [(1:Int),2] [],qa.mk (ByteArray.mk (List.toArray [66,49])) 6 10 [(2:Int)] [ByteArray.mk (List.toArray [65,49])],qa.mk (ByteArray.mk (List.toArray [66,50])) 3 0 [] [],qa.mk (ByteArray.mk (List.toArray [67,49])) 10 200 [(40:Int)] [ByteArray.mk (List.toArray [66,49]),ByteArray.mk (List.toArray [66,50])]] (ByteArray.mk (List.toArray [88])) []) fun(a59:Bool)=>if(!a59)=Bool.true then Option.bind (qk fu (qa.mk (ByteArray.mk (List.toArray [65,49])) 5 30 [(1:Int),2] []) (qa.mk (ByteArray.mk (List.toArray [66,49])) 6 10 [(2:Int)] [ByteArray.mk (List.toArray [65,49])])) fun(a60:Bool)=>if a60=Bool.true then Option.bind (qk fu (qa.mk (ByteArray.mk (List.toArray [66,49])) 6 10 [(2:Int)] [ByteArray.mk (List.toArray [65,49])]) (qa.mk (ByteArray.mk (List.toArray [66,50])) 3 0 [] [])) fun(a61:Bool)=>some Bool.false else some Bool.false else some Bool.false else some Bool.false else some Bool.false else Option.bind (qf fu [qa.mk (ByteArray.mk (List.toArray [65,49])) 5 30 [(1:Int),2] [],qa.mk (ByteArray.mk (List.toArray [66,49])) 6 10 [(2:Int)] [ByteArray.mk (List.toArray [65,49])],qa.mk (ByteArray.mk (List.toArray [66,50])) 3 0 [] [],qa.mk (ByteArray.mk (List.toArray [67,49])) 10 200 [(40:Int)] [ByteArray.mk (List.toArray [66,49]),ByteArray.mk (List.toArray [66,50])]] (ByteArray.mk (List.toArray [66,49])) [ByteArray.mk (List.toArray [65,49])]) fun(a62:Bool)=>if a62=Bool.true then Option.bind (qf fu [qa.mk (ByteArray.mk (List.toArray [65,49])) 5 30 [(1:Int),2] [],qa.mk (ByteArray.mk (List.toArray [66,49])) 6 10 [(2:Int)] [ByteArray.mk (List.toArray [65,49])],qa.mk (ByteArray.mk (List.toArray [66,50])) 3 0 [] [],qa.mk (ByteArray.mk (List.toArray [67,49])) 10 200 [(40:Int)] [ByteArray.mk (List.toArray [66,49]),ByteArray.mk (List.toArray [66,50])]] (ByteArray.mk (List.toArray [67,49])) [ByteArray.mk (List.toArray [65,49]),ByteArray.mk (List.toArray [66,49])]) fun(a63:Bool)=>if(!a63)=Bool.true then Option.bind (qf fu [qa.mk (ByteArray.mk (List.toArray [65,49])) 5 30 [(1:Int),2] [],qa.mk (ByteArray.mk (List.toArray [66,49])) 6 10 [(2:Int)] [ByteArray.mk (List.toArray [65,49])],qa.mk (ByteArray.mk (List.toArray [66,50])) 3 0 [] [],qa.mk (ByteArray.mk (List.toArray [67,49])) 10 200 [(40:Int)] [ByteArray.mk (List.toArray [66,49]),ByteArray.mk (List.toArray [66,50])]] (ByteArray.mk (List.toArray [88])) []) fun(a64:Bool)=>if(!a64)=Bool.true then Option.bind (qk fu (qa.mk (ByteArray.mk (List.toArray [65,49])) 5 30 [(1:Int),2] []) (qa.mk (ByteArray.mk (List.toArray [66,49])) 6 10 [(2:Int)] [ByteArray.mk (List.toArray [65,49])])) fun(a65:Bool)=>if a65=Bool.true then Option.bind (qk fu (qa.mk (ByteArray.mk (List.toArray [66,49])) 6 10 [(2:Int)] [ByteArray.mk (List.toArray [65,49])]) (qa.mk (ByteArray.mk (List.toArray [66,50])) 3 0 [] [])) fun(a66:Bool)=>some Bool.false else some Bool.false else some Bool.false else some Bool.false else some Bool.false else Option.bind (qf fu [qa.mk (ByteArray.mk (List.toArray [65,49])) 5 30 [(1:Int),2] [],qa.mk (ByteArray.mk (List.toArray [66,49])) 6 10 [(2:Int)] [ByteArray.mk (List.toArray [65,49])],qa.mk (ByteArray.mk (List.toArray [66,50])) 3 0 [] [],qa.mk (ByteArray.mk (List.toArray [67,49])) 10 200 [(40:Int)] [ByteArray.mk (List.toArray [66,49]),ByteArray.mk (List.toArray [66,50])]] (ByteArray.mk (List.toArray [66,49])) [ByteArray.mk (List.toArray [65,49])]) fun(a67:Bool)=>if a67=Bool.true then Option.bind (qf fu [qa.mk (ByteArray.mk (List.toArray [65,49])) 5 30 [(1:Int),2] [],qa.mk (ByteArray.mk (List.toArray [66,49])) 6 10 [(2:Int)] [ByteArray.mk (List.toArray [65,49])],qa.mk (ByteArray.mk (List.toArray [66,50])) 3 0 [] [],qa.mk (ByteArray.mk (List.toArray [67,49])) 10 200 [(40:Int)] [ByteArray.mk (List.toArray [66,49]),ByteArray.mk (List.toArray [66,50])]] (ByteArray.mk (List.toArray [67,49])) [ByteArray.mk (List.toArray [65,49]),ByteArray.mk (List.toArray [66,49])]) fun(a68:Bool)=>if(!a68)=Bool.true then Option.bind (qf fu [qa.mk (ByteArray.mk (List.toArray [65,49])) 5 30 [(1:Int),2] [],qa.mk (ByteArray.mk (List.toArray [66,49])) 6 10 [(2:Int)] [ByteArray.mk (List.toArray [65,49])],qa.mk (ByteArray.mk (List.toArray [66,50])) 3 0 [] [],qa.mk (ByteArray.mk (List.toArray [67,49])) 10 200 [(40:Int)] [ByteArray.mk (List.toArray [66,49]),ByteArray.mk (List.toArray [66,50])]] (ByteArray.mk (List.toArray [88])) []) fun(a69:Bool)=>if(!a69)=Bool.true then Option.bind (qk fu (qa.mk (ByteArray.mk (List.toArray [65,49])) 5 30 [(1:Int),2] []) (qa.mk (ByteArray.mk (List.toArray [66,49])) 6 10 [(2:Int)] [ByteArray.mk (List.toArray [65,49])])) fun(a70:Bool)=>if a70=Bool.true then Option.bind (qk fu (qa.mk (ByteArray.mk (List.toArray [66,49])) 6 10 [(2:Int)] [ByteArray.mk (List.toArray [65,49])]) (qa.mk (ByteArray.mk (List.toArray [66,50])) 3 0 [] [])) fun(a71:Bool)=>some Bool.false else some Bool.false else some Bool.false else some Bool.false else some Bool.false else Option.bind (qM fu [qa.mk (ByteArray.mk (List.toArray [65,49])) 5 30 [(1:Int),2] [],qa.mk (ByteArray.mk (List.toArray [66,49])) 6 10 [(2:Int)] [ByteArray.mk (List.toArray [65,49])],qa.mk (ByteArray.mk (List.toArray [66,50])) 3 0 [] [],qa.mk (ByteArray.mk (List.toArray [67,49])) 10 200 [(40:Int)] [ByteArray.mk (List.toArray [66,49]),ByteArray.mk (List.toArray [66,50])]] (ByteArray.mk (List.toArray [67,49]))) fun(a72:List ByteArray)=>Option.bind (qQ fu a72 [ByteArray.mk (List.toArray [65,49]),ByteArray.mk (List.toArray [66,49]),ByteArray.mk (List.toArray [66,50])]) fun(a73:Bool)=>if a73=Bool.true then Option.bind (qM fu [qa.mk (ByteArray.mk (List.toArray [65,49])) 5 30 [(1:Int),2] [],qa.mk (ByteArray.mk (List.toArray [66,49])) 6 10 [(2:Int)] [ByteArray.mk (List.toArray [65,49])],qa.mk (ByteArray.mk (List.toArray [66,50])) 3 0 [] [],qa.mk (ByteArray.mk (List.toArray [67,49])) 10 200 [(40:Int)] [ByteArray.mk (List.toArray [66,49]),ByteArray.mk (List.toArray [66,50])]] (ByteArray.mk (List.toArray [65,49]))) fun(a74:List ByteArray)=>Option.bind (qM fu [qa.mk (ByteArray.mk (List.toArray [65,49])) 5 30 [(1:Int),2] [],qa.mk (ByteArray.mk (List.toArray [66,49])) 6 10 [(2:Int)] [ByteArray.mk (List.toArray [65,49])],qa.mk (ByteArray.mk (List.toArray [66,50])) 3 0 [] [],qa.mk (ByteArray.mk (List.toArray [67,49])) 10 200 [(40:Int)] [ByteArray.mk (List.toArray [66,49]),ByteArray.mk (List.toArray [66,50])]] (ByteArray.mk (List.toArray [88]))) fun(a75:List ByteArray)=>if(w64 (((a74.length:Nat):Int)+((a75.length:Nat):Int))==0)=Bool.true then Option.bind (QA fu [qa.mk (ByteArray.mk (List.toArray [65,49])) 5 30 [(1:Int),2] [],qa.mk (ByteArray.mk (List.toArray [66,49])) 6 10 [(2:Int)] [ByteArray.mk (List.toArray [65,49])],qa.mk (ByteArray.mk (List.toArray [66,50])) 3 0 [] [],qa.mk (ByteArray.mk (List.toArray [67,49])) 10 200 [(40:Int)] [ByteArray.mk (List.toArray [66,49]),ByteArray.mk (List.toArray [66,50])]]) fun(a76:List ByteArray)=>Option.bind (qQ fu a76 [ByteArray.mk (List.toArray [65,49]),ByteArray.mk (List.toArray [66,49]),ByteArray.mk (List.toArray [66,50]),ByteArray.mk (List.toArray [67,49])]) fun(a77:Bool)=>Option.bind (qf fu [qa.mk (ByteArray.mk (List.toArray [65,49])) 5 30 [(1:Int),2] [],qa.mk (ByteArray.mk (List.toArray [66,49])) 6 10 [(2:Int)] [ByteArray.mk (List.toArray [65,49])],qa.mk (ByteArray.mk (List.toArray [66,50])) 3 0 [] [],qa.mk (ByteArray.mk (List.toArray [67,49])) 10 200 [(40:Int)] [ByteArray.mk (List.toArray [66,49]),ByteArray.mk (List.toArray [66,50])]] (ByteArray.mk (List.toArray [66,49])) [ByteArray.mk (List.toArray [65,49])]) fun(a78:Bool)=>if a78=Bool.true then Option.bind (qf fu [qa.mk (ByteArray.mk (List.toArray [65,49])) 5 30 [(1:Int),2] [],qa.mk (ByteArray.mk (List.toArray [66,49])) 6 10 [(2:Int)] [ByteArray.mk (List.toArray [65,49])],qa.mk (ByteArray.mk (List.toArray [66,50])) 3 0 [] [],qa.mk (ByteArray.mk (List.toArray [67,49])) 10 200 [(40:Int)] [ByteArray.mk (List.toArray [66,49]),ByteArray.mk (List.toArray [66,50])]] (ByteArray.mk (List.toArray [67,49])) [ByteArray.mk (List.toArray [65,49]),ByteArray.mk (List.toArray [66,49])]) fun(a79:Bool)=>if(!a79)=Bool.true then Option.bind (qf fu [qa.mk (ByteArray.mk (List.toArray [65,49])) 5 30 [(1:Int),2] [],qa.mk (ByteArray.mk (List.toArray [66,49])) 6 10 [(2:Int)] [ByteArray.mk (List.toArray [65,49])],qa.mk (ByteArray.mk (List.toArray [66,50])) 3 0 [] [],qa.mk (ByteArray.mk (List.toArray [67,49])) 10 200 [(40:Int)] [ByteArray.mk (List.toArray [66,49]),ByteArray.mk (List.toArray [66,50])]] (ByteArray.mk (List.toArray [88])) []) fun(a80:Bool)=>if(!a80)=Bool.true then Option.bind (qk fu (qa.mk (ByteArray.mk (List.toArray [65,49])) 5 30 [(1:Int),2] []) (qa.mk (ByteArray.mk (List.toArray [66,49])) 6 10 [(2:Int)] [ByteArray.mk (List.toArray [65,49])])) fun(a81:Bool)=>if a81=Bool.true then Option.bind (qk fu (qa.mk (ByteArray.mk (List.toArray [66,49])) 6 10 [(2:Int)] [ByteArray.mk (List.toArray [65,49])]) (qa.mk (ByteArray.mk (List.toArray [66,50])) 3 0 [] [])) fun(a82:Bool)=>some Bool.false else some Bool.false else some Bool.false else some Bool.false else some Bool.false else Option.bind (qf fu [qa.mk (ByteArray.mk (List.toArray [65,49])) 5 30 [(1:Int),2] [],qa.mk (ByteArray.mk (List.toArray [66,49])) 6 10 [(2:Int)] [ByteArray.mk (List.toArray [65,49])],qa.mk (ByteArray.mk (List.toArray [66,50])) 3 0 [] [],qa.mk (ByteArray.mk (List.toArray [67,49])) 10 200 [(40:Int)] [ByteArray.mk (List.toArray [66,49]),ByteArray.mk (List.toArray [66,50])]] (ByteArray.mk (List.toArray [66,49])) [ByteArray.mk (List.toArray [65,49])]) fun(a83:Bool)=>if a83=Bool.true then Option.bind (qf fu [qa.mk (ByteArray.mk (List.toArray [65,49])) 5 30 [(1:Int),2] [],qa.mk (ByteArray.mk (List.toArray [66,49])) 6 10 [(2:Int)] [ByteArray.mk (List.toArray [65,49])],qa.mk (ByteArray.mk (List.toArray [66,50])) 3 0 [] [],qa.mk (ByteArray.mk (List.toArray [67,49])) 10 200 [(40:Int)] [ByteArray.mk (List.toArray [66,49]),ByteArray.mk (List.toArray [66,50])]] (ByteArray.mk (List.toArray [67,49])) [ByteArray.mk (List.toArray [65,49]),ByteArray.mk (List.toArray [66,49])]) fun(a84:Bool)=>if(!a84)=Bool.true then Option.bind (qf fu [qa.mk (ByteArray.mk (List.toArray [65,49])) 5 30 [(1:Int),2] [],qa.mk (ByteArray.mk (List.toArray [66,49])) 6 10 [(2:Int)] [ByteArray.mk (List.toArray [65,49])],qa.mk (ByteArray.mk (List.toArray [66,50])) 3 0 [] [],qa.mk (ByteArray.mk (List.toArray [67,49])) 10 200 [(40:Int)] [ByteArray.mk (List.toArray [66,49]),ByteArray.mk (List.toArray [66,50])]] (ByteArray.mk (List.toArray [88])) []) fun(a85:Bool)=>if(!a85)=Bool.true then Option.bind (qk fu (qa.mk (ByteArray.mk (List.toArray [65,49])) 5 30 [(1:Int),2] []) (qa.mk (ByteArray.mk (List.toArray [66,49])) 6 10 [(2:Int)] [ByteArray.mk (List.toArray [65,49])])) fun(a86:Bool)=>if a86=Bool.true then Option.bind (qk fu (qa.mk (ByteArray.mk (List.toArray [66,49])) 6 10 [(2:Int)] [ByteArray.mk (List.toArray [65,49])]) (qa.mk (ByteArray.mk (List.toArray [66,50])) 3 0 [] [])) fun(a87:Bool)=>some Bool.false else some Bool.false else some Bool.false else some Bool.false else some Bool.false else Option.bind (qf fu [qa.mk (ByteArray.mk (List.toArray [65,49])) 5 30 [(1:Int),2] [],qa.mk (ByteArray.mk (List.toArray [66,49])) 6 10 [(2:Int)] [ByteArray.mk (List.toArray [65,49])],qa.mk (ByteArray.mk (List.toArray [66,50])) 3 0 [] [],qa.mk (ByteArray.mk (List.toArray [67,49])) 10 200 [(40:Int)] [ByteArray.mk (List.toArray [66,49]),ByteArray.mk (List.toArray [66,50])]] (ByteArray.mk (List.toArray [66,49])) [ByteArray.mk (List.toArray [65,49])]) fun(a88:Bool)=>if a88=Bool.true then Option.bind (qf fu [qa.mk (ByteArray.mk (List.toArray [65,49])) 5 30 [(1:Int),2] [],qa.mk (ByteArray.mk (List.toArray [66,49])) 6 10 [(2:Int)] [ByteArray.mk (List.toArray [65,49])],qa.mk (ByteArray.mk (List.toArray [66,50])) 3 0 [] [],qa.mk (ByteArray.mk (List.toArray [67,49])) 10 200 [(40:Int)] [ByteArray.mk (List.toArray [66,49]),ByteArray.mk (List.toArray [66,50])]] (ByteArray.mk (List.toArray [67,49])) [ByteArray.mk (List.toArray [65,49]),ByteArray.mk (List.toArray [66,49])]) fun(a89:Bool)=>if(!a89)=Bool.true then Option.bind (qf fu [qa.mk (ByteArray.mk (List.toArray [65,49])) 5 30 [(1:Int),2] [],qa.mk (ByteArray.mk (List.toArray [66,49])) 6 10 [(2:Int)] [ByteArray.mk (List.toArray [65,49])],qa.mk (ByteArray.mk (List.toArray [66,50])) 3 0 [] [],qa.mk (ByteArray.mk (List.toArray [67,49])) 10 200 [(40:Int)] [ByteArray.mk (List.toArray [66,49]),ByteArray.mk (List.toArray [66,50])]] (ByteArray.mk (List.toArray [88])) []) fun(a90:Bool)=>if(!a90)=Bool.true then Option.bind (qk fu (qa.mk (ByteArray.mk (List.toArray [65,49])) 5 30 [(1:Int),2] []) (qa.mk (ByteArray.mk (List.toArray [66,49])) 6 10 [(2:Int)] [ByteArray.mk (List.toArray [65,49])])) fun(a91:Bool)=>if a91=Bool.true then Option.bind (qk fu (qa.mk (ByteArray.mk (List.toArray [66,49])) 6 10 [(2:Int)] [ByteArray.mk (List.toArray [65,49])]) (qa.mk (ByteArray.mk (List.toArray [66,50])) 3 0 [] [])) fun(a92:Bool)=>some Bool.false else some Bool.false else some Bool.false else some Bool.false else some Bool.false else Option.bind (qM fu [qa.mk (ByteArray.mk (List.toArray [65,49])) 5 30 [(1:Int),2] [],qa.mk (ByteArray.mk (List.toArray [66,49])) 6 10 [(2:Int)] [ByteArray.mk (List.toArray [65,49])],qa.mk (ByteArray.mk (List.toArray [66,50])) 3 0 [] [],qa.mk (ByteArray.mk (List.toArray [67,49])) 10 200 [(40:Int)] [ByteArray.mk (List.toArray [66,49]),ByteArray.mk (List.toArray [66,50])]] (ByteArray.mk (List.toArray [67,49]))) fun(a93:List ByteArray)=>Option.bind (qQ fu a93 [ByteArray.mk (List.toArray [65,49]),ByteArray.mk (List.toArray [66,49]),ByteArray.mk (List.toArray [66,50])]) fun(a94:Bool)=>if a94=Bool.true then Option.bind (qM fu [qa.mk (ByteArray.mk (List.toArray [65,49])) 5 30 [(1:Int),2] [],qa.mk (ByteArray.mk (List.toArray [66,49])) 6 10 [(2:Int)] [ByteArray.mk (List.toArray [65,49])],qa.mk (ByteArray.mk (List.toArray [66,50])) 3 0 [] [],qa.mk (ByteArray.mk (List.toArray [67,49])) 10 200 [(40:Int)] [ByteArray.mk (List.toArray [66,49]),ByteArray.mk (List.toArray [66,50])]] (ByteArray.mk (List.toArray [65,49]))) fun(a95:List ByteArray)=>Option.bind (qM fu [qa.mk (ByteArray.mk (List.toArray [65,49])) 5 30 [(1:Int),2] [],qa.mk (ByteArray.mk (List.toArray [66,49])) 6 10 [(2:Int)] [ByteArray.mk (List.toArray [65,49])],qa.mk (ByteArray.mk (List.toArray [66,50])) 3 0 [] [],qa.mk (ByteArray.mk (List.toArray [67,49])) 10 200 [(40:Int)] [ByteArray.mk (List.toArray [66,49]),ByteArray.mk (List.toArray [66,50])]] (ByteArray.mk (List.toArray [88]))) fun(a96:List ByteArray)=>if(w64 (((a95.length:Nat):Int)+((a96.length:Nat):Int))==0)=Bool.true then Option.bind (QA fu [qa.mk (ByteArray.mk (List.toArray [65,49])) 5 30 [(1:Int),2] [],qa.mk (ByteArray.mk (List.toArray [66,49])) 6 10 [(2:Int)] [ByteArray.mk (List.toArray [65,49])],qa.mk (ByteArray.mk (List.toArray [66,50])) 3 0 [] [],qa.mk (ByteArray.mk (List.toArray [67,49])) 10 200 [(40:Int)] [ByteArray.mk (List.toArray [66,49]),ByteArray.mk (List.toArray [66,50])]]) fun(a97:List ByteArray)=>Option.bind (qQ fu a97 [ByteArray.mk (List.toArray [65,49]),ByteArray.mk (List.toArray [66,49]),ByteArray.mk (List.toArray [66,50]),ByteArray.mk (List.toArray [67,49])]) fun(a98:Bool)=>Option.bind (qf fu [qa.mk (ByteArray.mk (List.toArray [65,49])) 5 30 [(1:Int),2] [],qa.mk (ByteArray.mk (List.toArray [66,49])) 6 10 [(2:Int)] [ByteArray.mk (List.toArray [65,49])],qa.mk (ByteArray.mk (List.toArray [66,50])) 3 0 [] [],qa.mk (ByteArray.mk (List.toArray [67,49])) 10 200 [(40:Int)] [ByteArray.mk (List.toArray [66,49]),ByteArray.mk (List.toArray [66,50])]] (ByteArray.mk (List.toArray [66,49])) [ByteArray.mk (List.toArray [65,49])]) fun(a99:Bool)=>if a99=Bool.true then Option.bind (qf fu [qa.mk (ByteArray.mk (List.toArray [65,49])) 5 30 [(1:Int),2] [],qa.mk (ByteArray.mk (List.toArray [66,49])) 6 10 [(2:Int)] [ByteArray.mk (List.toArray [65,49])],qa.mk (ByteArray.mk (List.toArray [66,50])) 3 0 [] [],qa.mk (ByteArray.mk (List.toArray [67,49])) 10 200 [(40:Int)] [ByteArray.mk (List.toArray [66,49]),ByteArray.mk (List.toArray [66,50])]] (ByteArray.mk (List.toArray [67,49])) [ByteArray.mk (List.toArray [65,49]),ByteArray.mk (List.toArray [66,49])]) fun(a100:Bool)=>if(!a100)=Bool.true then Option.bind (qf fu [qa.mk (ByteArray.mk (List.toArray [65,49])) 5 30 [(1:Int),2] [],qa.mk (ByteArray.mk (List.toArray [66,49])) 6 10 [(2:Int)] [ByteArray.mk (List.toArray [65,49])],qa.mk (ByteArray.mk (List.toArray [66,50])) 3 0 [] [],qa.mk (ByteArray.mk (List.toArray [67,49])) 10 200 [(40:Int)] [ByteArray.mk (List.toArray [66,49]),ByteArray.mk (List.toArray [66,50])]] (ByteArray.mk (List.toArray [88])) []) fun(a101:Bool)=>if(!a101)=Bool.true then Option.bind (qk fu (qa.mk (ByteArray.mk (List.toArray [65,49])) 5 30 [(1:Int),2] []) (qa.mk (ByteArray.mk (List.toArray [66,49])) 6 10 [(2:Int)] [ByteArray.mk (List.toArray [65,49])])) fun(a102:Bool)=>if a102=Bool.true then Option.bind (qk fu (qa.mk (ByteArray.mk (List.toArray [66,49])) 6 10 [(2:Int)] [ByteArray.mk (List.toArray [65,49])]) (qa.mk (ByteArray.mk (List.toArray [66,50])) 3 0 [] [])) fun(a103:Bool)=>some Bool.false else some Bool.false else some Bool.false else some Bool.false else some Bool.false else Option.bind (qf fu [qa.mk (ByteArray.mk (List.toArray [65,49])) 5 30 [(1:Int),2] [],qa.mk (ByteArray.mk (List.toArray [66,49])) 6 10 [(2:Int)] [ByteArray.mk (List.toArray [65,49])],qa.mk (ByteArray.mk (List.toArray [66,50])) 3 0 [] [],qa.mk (ByteArray.mk (List.toArray [67,49])) 10 200 [(40:Int)] [ByteArray.mk (List.toArray [66,49]),ByteArray.mk (List.toArray [66,50])]] (ByteArray.mk (List.toArray [66,49])) [ByteArray.mk (List.toArray [65,49])]) fun(a104:Bool)=>if a104=Bool.true then Option.bind (qf fu [qa.mk (ByteArray.mk (List.toArray [65,49])) 5 30 [(1:Int),2] [],qa.mk (ByteArray.mk (List.toArray [66,49])) 6 10 [(2:Int)] [ByteArray.mk (List.toArray [65,49])],qa.mk (ByteArray.mk (List.toArray [66,50])) 3 0 [] [],qa.mk (ByteArray.mk (List.toArray [67,49])) 10 200 [(40:Int)] [ByteArray.mk (List.toArray [66,49]),ByteArray.mk (List.toArray [66,50])]] (ByteArray.mk (List.toArray [67,49])) [ByteArray.mk (List.toArray [65,49]),ByteArray.mk (List.toArray [66,49])]) fun(a105:Bool)=>if(!a105)=Bool.true then Option.bind (qf fu [qa.mk (ByteArray.mk (List.toArray [65,49])) 5 30 [(1:Int),2] [],qa.mk (ByteArray.mk (List.toArray [66,49])) 6 10 [(2:Int)] [ByteArray.mk (List.toArray [65,49])],qa.mk (ByteArray.mk (List.toArray [66,50])) 3 0 [] [],qa.mk (ByteArray.mk (List.toArray [67,49])) 10 200 [(40:Int)] [ByteArray.mk (List.toArray [66,49]),ByteArray.mk (List.toArray [66,50])]] (ByteArray.mk (List.toArray [88])) []) fun(a106:Bool)=>if(!a106)=Bool.true then Option.bind (qk fu (qa.mk (ByteArray.mk (List.toArray [65,49])) 5 30 [(1:Int),2] []) (qa.mk (ByteArray.mk (List.toArray [66,49])) 6 10 [(2:Int)] [ByteArray.mk (List.toArray [65,49])])) fun(a107:Bool)=>if a107=Bool.true then Option.bind (qk fu (qa.mk (ByteArray.mk (List.toArray [66,49])) 6 10 [(2:Int)] [ByteArray.mk (List.toArray [65,49])]) (qa.mk (ByteArray.mk (List.toArray [66,50])) 3 0 [] [])) fun(a108:Bool)=>some Bool.false else some Bool.false else some Bool.false else some Bool.false else some Bool.false else Option.bind (qf fu [qa.mk (ByteArray.mk (List.toArray [65,49])) 5 30 [(1:Int),2] [],qa.mk (ByteArray.mk (List.toArray [66,49])) 6 10 [(2:Int)] [ByteArray.mk (List.toArray [65,49])],qa.mk (ByteArray.mk (List.toArray [66,50])) 3 0 [] [],qa.mk (ByteArray.mk (List.toArray [67,49])) 10 200 [(40:Int)] [ByteArray.mk (List.toArray [66,49]),ByteArray.mk (List.toArray [66,50])]] (ByteArray.mk (List.toArray [66,49])) [ByteArray.mk (List.toArray [65,49])]) fun(a109:Bool)=>if a109=Bool.true then Option.bind (qf fu [qa.mk (ByteArray.mk (List.toArray [65,49])) 5 30 [(1:Int),2] [],qa.mk (ByteArray.mk (List.toArray [66,49])) 6 10 [(2:Int)] [ByteArray.mk (List.toArray [65,49])],qa.mk (ByteArray.mk (List.toArray [66,50])) 3 0 [] [],qa.mk (ByteArray.mk (List.toArray [67,49])) 10 200 [(40:Int)] [ByteArray.mk (List.toArray [66,49]),ByteArray.mk (List.toArray [66,50])]] (ByteArray.mk (List.toArray [67,49])) [ByteArray.mk (List.toArray [65,49]),ByteArray.mk (List.toArray [66,49])]) fun(a110:Bool)=>if(!a110)=Bool.true then Option.bind (qf fu [qa.mk (ByteArray.mk (List.toArray [65,49])) 5 30 [(1:Int),2] [],qa.mk (ByteArray.mk (List.toArray [66,49])) 6 10 [(2:Int)] [ByteArray.mk (List.toArray [65,49])],qa.mk (ByteArray.mk (List.toArray [66,50])) 3 0 [] [],qa.mk (ByteArray.mk (List.toArray [67,49])) 10 200 [(40:Int)] [ByteArray.mk (List.toArray [66,49]),ByteArray.mk (List.toArray [66,50])]] (ByteArray.mk (List.toArray [88])) []) fun(a111:Bool)=>if(!a111)=Bool.true then Option.bind (qk fu (qa.mk (ByteArray.mk (List.toArray [65,49])) 5 30 [(1:Int),2] []) (qa.mk (ByteArray.mk (List.toArray [66,49])) 6 10 [(2:Int)] [ByteArray.mk (List.toArray [65,49])])) fun(a112:Bool)=>if a112=Bool.true then Option.bind (qk fu (qa.mk (ByteArray.mk (List.toArray [66,49])) 6 10 [(2:Int)] [ByteArray.mk (List.toArray [65,49])]) (qa.mk (ByteArray.mk (List.toArray [66,50])) 3 0 [] [])) fun(a113:Bool)=>some Bool.false else some Bool.false else some Bool.false else some Bool.false else some Bool.false
theorem q3C (fu:Nat):qm (q0a fu ) (QZ ):=by
 unfold q0a QZ
 repeat (first
  | with_reducible exact qm.refl _
  | with_reducible exact qm.none _
  | with_reducible apply q0j
  | with_reducible apply q3D
  | with_reducible apply q1T
  | with_reducible apply q3B
  | with_reducible apply q4K
  | with_reducible apply q3S
  | with_reducible apply Jw
  | with_reducible refine qm.bind ?_ (fun _=>?_)
  | with_reducible refine qm.ite ?_ ?_
  | with_reducible refine qm.sum (fun _=>?_) (fun _=>?_)
  | with_reducible refine qm.lim (fun _=>?_))
end

noncomputable section
open Go.RowKit
set_option maxRecDepth 100000 in
theorem q7T:QZ=some true:=by
 have h:q0a 40=some true:=by kernel_rfl
 exact q3C 40 _ h
end
noncomputable section
open Go.RowKit
set_option maxRecDepth 20000
set_option maxHeartbeats 8000000
theorem lo3:okL 3 qdp:=z7 (qc bd3) (by kernel_rfl) (by kernel_rfl)
def cx3:=JA_ @qdp.eq_1 (JA_ @Try.f3.eq_1 @bd3)
theorem qr1:lbO 3 6=qiN:=Q1 (qc bd3) rfl
theorem qpn:okL 3 qiN:=zl lo3 (qvs (i:=0) (by kernel_rfl))
theorem qnB:lbO 3 11=qdt:=Q1 (qc bd3) rfl
theorem qlw:okL 3 qdt:=zl lo3 (qvs (i:=1) (by kernel_rfl))
def zr (w0:List (List qa)) (t7:Bool) (t8:List qa) (t35:Int) (t36:Int) (t45:List qa) (t46:Int):Int→Option (Int⊕(Unit⊕Unit))|t47=>if t47<t46 then if 0≤t47∧t47<((t45.length:Nat):Int) then Option.bind t45[Int.toNat t47]? fun(a:qa)=>Option.bind (za a.Code) fun(a2:Bool)=>Option.bind (ZF a.Code) fun(a3:Bool)=>if(!(a2==a3))=Bool.true then some (Sum.inr (Sum.inl ())) else some (Sum.inl (w64 (t47+1))) else none else some (Sum.inr (Sum.inr ()))
theorem JO:∀(w0:List (List qa)) (t7:Bool) (t8:List qa) (t35 t36:Int) (t45:List qa) (t46 t47:Int) (w0_len:Nat),w0_len=w0.length→XL2 evo 3 0 11 ⟨[(7,rB t7),(8,rL 5 qb t8),(34,rO 0 1 w0_len),(35,rI t35),(36,rI t36),(45,rL 5 qb t45),(46,rI t46),(47,rI t47)],[(0,bR 25 1 (eL 5 qb) w0)],1,66⟩=(zc (zr w0 t7 t8 t35 t36 t45 t46) t47).bind (Sum.elim (fun(e:Unit)=>some (Exit.ret,⟨[(6,rB Bool.false),(7,rB t7),(8,rL 5 qb t8),(34,rO 0 1 w0.length),(35,rI t35),(36,rI t36)],[(0,bR 25 1 (eL 5 qb) w0)],1,66⟩)) (fun(e:Unit)=>some (Exit.exit 2,⟨[(6,R.any),(7,rB t7),(8,rL 5 qb t8),(34,rO 0 1 w0.length),(35,rI t35),(36,rI t36)],[(0,bR 25 1 (eL 5 qb) w0)],1,66⟩))):=
 by
 intro w0 t7 t8 t35 t36 t45 t46 t47 w0_len h0
 subst h0
 revert t47;exact q3z qnB qlw (fun e=>by rcases e with _|_<;>exact⟨_,rfl,fun h=>by cases h⟩) fun x=>by
  have:=cx3;have:=@qdt.eq_1;have:=@Js;have:=@q1t;have:=@zr.eq_1;exact gA
def zy (w0:List (List qa)) (t7:Bool) (t8:List qa) (t35:Int):Int→Option (Int⊕(Unit⊕Unit))|t36=>if t36<t35 then if 0≤t36∧t36<((w0.length:Nat):Int) then Option.bind w0[Int.toNat t36]? fun(a:List qa)=>Option.bind (qy a) fun(a2:Int)=>Option.bind (ZP a) fun(a3:Int)=>if(a2 != a3)=Bool.true then some (Sum.inr (Sum.inl ())) else Option.bind (zc (zr w0 t7 t8 t35 t36 a ((a.length:Nat):Int)) 0) fun(a4:Sum Unit Unit)=>Sum.elim (fun(a5:Unit)=>some (Sum.inr (Sum.inl ()))) (fun(a6:Unit)=>some (Sum.inl (w64 (t36+1)))) a4 else none else some (Sum.inr (Sum.inr ()))
theorem JS:∀(w0:List (List qa)) (t7:Bool) (t8:List qa) (t35 t36:Int) (w0_len:Nat),w0_len=w0.length→XL2 evo 3 0 6 ⟨[(7,rB t7),(8,rL 5 qb t8),(34,rO 0 1 w0_len),(35,rI t35),(36,rI t36)],[(0,bR 25 1 (eL 5 qb) w0)],1,66⟩=(zc (zy w0 t7 t8 t35) t36).bind (Sum.elim (fun(e:Unit)=>some (Exit.ret,⟨[(6,rB Bool.false),(7,rB t7),(8,rL 5 qb t8)],[],0,66⟩)) (fun(e:Unit)=>some (Exit.exit 0,⟨[(6,R.any),(7,rB t7),(8,rL 5 qb t8)],[],0,66⟩))):=
 by
 intro w0 t7 t8 t35 t36 w0_len h0
 subst h0
 revert t36;exact q3z qr1 qpn (fun e=>by rcases e with _|_<;>exact⟨_,rfl,fun h=>by cases h⟩) fun x=>by
  have:=cx3;have:=@qiN.eq_1;have:=@Qo;have:=@q47;have:=@JO;have:=@zy.eq_1;exact gA
theorem JA:∀(w00 w01 w02 w03:List qa) (t7:Bool) (t8:List qa) (t35 t36:Int) (w00_len w01_len w02_len w03_len:Nat),w00_len=w00.length→w01_len=w01.length→w02_len=w02.length→w03_len=w03.length→XL2 evo 3 0 6 ⟨[(7,rB t7),(8,rL 5 qb t8),(34,rO 0 1 4),(35,rI t35),(36,rI t36)],[(0,B.row 25 1 [C.d (D.sl 5 w00_len (w00.flatMap qb)),C.d (D.sl 5 w01_len (w01.flatMap qb)),C.d (D.sl 5 w02_len (w02.flatMap qb)),C.d (D.sl 5 w03_len (w03.flatMap qb))])],1,66⟩=(zc (zy [w00,w01,w02,w03] t7 t8 t35) t36).bind (Sum.elim (fun(e:Unit)=>some (Exit.ret,⟨[(6,rB Bool.false),(7,rB t7),(8,rL 5 qb t8)],[],0,66⟩)) (fun(e:Unit)=>some (Exit.exit 0,⟨[(6,R.any),(7,rB t7),(8,rL 5 qb t8)],[],0,66⟩))):=by
 intro w00 w01 w02 w03 t7 t8 t35 t36 w00_len w01_len w02_len w03_len h0 h1 h2 h3;subst h0 h1 h2 h3;have h:=JS [w00,w01,w02,w03] t7 t8 t35 t36 _ rfl
 first
  | exact h
  | (simp only[rL,dL,bR,bZ,Nat.reduceAdd] at h;exact h)
def Qe (x0:List Int) (x1:qmW (q6F Int)) (x2:List qa):Option Bool:=Option.bind QZ fun(a:Bool)=>Option.bind (JL x2) fun(a2:List qa)=>Option.bind (ZE x0) fun(a3:List qa)=>Option.bind (Zd a3 x1.a0) fun(a4:List qa)=>Option.bind (Zd a4 x1.a1) fun(a5:List qa)=>if a3.length≤maxLen∧a3.length*80≤140737488355328 then if a3.length+a2.length≤maxLen∧(a3.length+a2.length)*80≤140737488355328 then Option.bind (zc (zy [a4,a5,a2,a3++a2] a a3 4) 0) fun(a6:Sum Unit Unit)=>Sum.elim (fun(a7:Unit)=>some Bool.false) (fun(a8:Unit)=>if a=Bool.true then Option.bind (qy a3) fun(a9:Int)=>some (a9==0) else some Bool.false) a6 else none else none
theorem q0G:∀(x0:List Int) (x1_0_0 x1_0_1 x1_0_2 x1_1_0 x1_1_1 x1_1_2:Int) (x2:List qa),ev 3 0 [rL 1 eI x0,R.agg [dI x1_0_0,dI x1_0_1,dI x1_0_2,dI x1_1_0,dI x1_1_1,dI x1_1_2],rL 5 qb x2] []=(Qe x0 (qmW.mk (q6F.mk x1_0_0 x1_0_1 x1_0_2) (q6F.mk x1_1_0 x1_1_1 x1_1_2)) x2).bind (fun(e:Bool)=>some (rB e,[])):=
 fun x0 x1_0_0 x1_0_1 x1_0_2 x1_1_0 x1_1_1 x1_1_2 x2=>by
  rw[qU bd3 pw3.2.2.2 lo3]
  have:=cx3;have:=@q3R;have:=@q5d;have:=@q4O;have:=@q5j;have:=@JA;have:=@Qo;have:=@Qe.eq_1;exact gA
end

noncomputable section
open Go.RowKit
set_option maxRecDepth 100000
theorem q2f {α:Type} (ds:List α) (o s:Nat):ds.drop o=(ds.drop o).take s++ds.drop (o+s):=by
 rw[←qwd];exact(qwe s _).symm
theorem q64 {X:Type} {E:X→List D} {W:X→Prop} {sz:Nat} (hz:0<sz):∀(m:Nat) (es:List D),es.length=m*sz→(∀i,i<m→∃x,(es.drop (i*sz)).take sz=E x∧W x)→∃l:List X,es=l.flatMap E∧l.length=m∧∀x∈l,W x
 | 0,es,hl,_=>⟨[],by rw[Nat.zero_mul] at hl;exact qvK hl,rfl,by simp⟩
 | m+1,es,hl,h=>by
  obtain⟨x,hx,wx⟩:=h 0 (by omega)
  obtain⟨l,g1,g2,g3⟩:=q64 hz m (es.drop sz) (by rw[qwc,hl,Nat.add_mul];omega) fun i hi=>by
   obtain⟨y,hy,wy⟩:=h (i+1) (by omega)
   refine⟨y,?_,wy⟩
   rw[qwd,show sz+i*sz=(i+1)*sz by rw[Nat.add_mul,Nat.one_mul,Nat.add_comm]];exact hy
  refine⟨x::l,?_,by simp[g2],fun y hy=>?_⟩
  ·rw[Nat.zero_mul,List.drop_zero] at hx
   rw[qwu,←g1,←hx,qwe]
  ·rcases qvN.1 hy with rfl|hy
   ·exact wx
   ·exact g3 y hy
abbrev qrU:List TypeId:=[22,3,23,24,25,35,9,33]
theorem qcC:qrZ Try.prog qrU=true:=by kernel_rfl
theorem ty3:∀(n:Nat) (ds:List D),Zg Try.prog n 3 ds→∃v:Int,ds=[D.int .i64 v]∧(Lit.int .i64 v).wf=true:=by
 intro n ds h
 cases n with
 | zero=>exact h.elim
 | succ n=>
  unfold Zg at h
  rw[Try.underlying3] at h
  obtain⟨z,h1,h2⟩:=h
  exact⟨z,h1,h2⟩
theorem cz3:Try.prog.cellsOf 3=1:=by kernel_rfl
theorem ty22:∀(n:Nat) (ds:List D),Zg Try.prog n 22 ds→∃v:List Int,ds=[D.sl 1 v.length (v.flatMap eI)]∧(v.length≤maxLen∧∀y∈v,(Lit.int .i64 y).wf=true):=by
 intro n ds h
 cases n with
 | zero=>exact h.elim
 | succ n=>
  unfold Zg at h
  rw[Try.underlying22] at h
  obtain⟨m,es,h1,h2,h3,h4⟩:=h
  rw[cz3] at h1 h3 h4
  obtain⟨l,g1,g2,g3⟩:=q64 (E:=eI) (W:=fun y=>(Lit.int .i64 y).wf=true) (sz:=1) (by decide) m es h3 fun i hi=>by
   obtain⟨v,q1,q2⟩:=ty3 n _ (h4 i hi)
   exact⟨v,q1.trans (rfl),q2⟩
  refine⟨l,?_,by omega,g3⟩
  rw[h1,g1,g2]
theorem qkM:Try.prog.cellsOf 23=3:=by kernel_rfl
theorem qsF:∀(n:Nat) (ds:List D),Zg Try.prog n 23 ds→∃v:q6F Int,ds=[D.int .i64 v.a0,D.int .i64 v.a1,D.int .i64 v.a2]∧((Lit.int .i64 v.a0).wf=true∧(Lit.int .i64 v.a1).wf=true∧(Lit.int .i64 v.a2).wf=true):=by
 intro n ds h
 cases n with
 | zero=>exact h.elim
 | succ n=>
  unfold Zg at h
  rw[Try.underlying23] at h
  obtain⟨hl,hf⟩:=h
  rw[qkM] at hl
  have h0:Zg Try.prog n 3 ((ds.drop 0).take (Try.prog.cellsOf 3)):=by
   have:=hf 0 (by decide)
   rwa [cz3] at this ⊢
  rw[cz3] at h0
  obtain⟨v0,e0,w0⟩:=ty3 _ _ h0
  have c0:=q2f ds 0 1
  rw[e0] at c0
  have h1:Zg Try.prog n 3 ((ds.drop 1).take (Try.prog.cellsOf 3)):=by
   have:=hf 1 (by decide)
   rwa [cz3] at this ⊢
  rw[cz3] at h1
  obtain⟨v1,e1,w1⟩:=ty3 _ _ h1
  have c1:=q2f ds 1 1
  rw[e1] at c1
  have h2:Zg Try.prog n 3 ((ds.drop 2).take (Try.prog.cellsOf 3)):=by
   have:=hf 2 (by decide)
   rwa [cz3] at this ⊢
  rw[cz3] at h2
  obtain⟨v2,e2,w2⟩:=ty3 _ _ h2
  have c2:=q2f ds 2 1
  rw[e2] at c2
  have cl:ds.drop 3=[]:=qw7 (by omega)
  refine⟨⟨v0,v1,v2⟩,?_,⟨w0,w1,w2⟩⟩
  have c:ds.drop 0=_:=c0
  simp only[Nat.reduceAdd] at c0 c1 c2 c
  rw[c1,c2,cl] at c
  exact c
theorem quW:Try.prog.cellsOf 24=6:=by kernel_rfl
theorem ty24:∀(n:Nat) (ds:List D),Zg Try.prog n 24 ds→∃v:qmW (q6F Int),ds=[D.int .i64 v.a0.a0,D.int .i64 v.a0.a1,D.int .i64 v.a0.a2,D.int .i64 v.a1.a0,D.int .i64 v.a1.a1,D.int .i64 v.a1.a2]∧(((Lit.int .i64 v.a0.a0).wf=true∧(Lit.int .i64 v.a0.a1).wf=true∧(Lit.int .i64 v.a0.a2).wf=true)∧((Lit.int .i64 v.a1.a0).wf=true∧(Lit.int .i64 v.a1.a1).wf=true∧(Lit.int .i64 v.a1.a2).wf=true)):=by
 intro n ds h
 cases n with
 | zero=>exact h.elim
 | succ n=>
  unfold Zg at h
  rw[Try.underlying24] at h
  obtain⟨hl,hf⟩:=h
  rw[quW] at hl
  have h0:Zg Try.prog n 23 ((ds.drop 0).take (Try.prog.cellsOf 23)):=by
   have:=hf 0 (by decide)
   rwa [qkM] at this ⊢
  rw[qkM] at h0
  obtain⟨v0,e0,w0⟩:=qsF _ _ h0
  have c0:=q2f ds 0 3
  rw[e0] at c0
  have h1:Zg Try.prog n 23 ((ds.drop 3).take (Try.prog.cellsOf 23)):=by
   have:=hf 1 (by decide)
   rwa [qkM] at this ⊢
  rw[qkM] at h1
  obtain⟨v1,e1,w1⟩:=qsF _ _ h1
  have c1:=q2f ds 3 3
  rw[e1] at c1
  have cl:ds.drop 6=[]:=qw7 (by omega)
  refine⟨⟨v0,v1⟩,?_,⟨w0,w1⟩⟩
  have c:ds.drop 0=_:=c0
  simp only[Nat.reduceAdd] at c0 c1 c
  rw[c1,cl] at c
  exact c
theorem ty9:∀(n:Nat) (ds:List D),Zg Try.prog n 9 ds→∃v:ByteArray,ds=[D.str v]∧v.size≤maxLen:=by
 intro n ds h
 cases n with
 | zero=>exact h.elim
 | succ n=>
  unfold Zg at h
  rw[Try.underlying9] at h
  obtain⟨s,h1,h2⟩:=h
  exact⟨s,h1,h2⟩
theorem cz9:Try.prog.cellsOf 9=1:=by kernel_rfl
theorem quk:∀(n:Nat) (ds:List D),Zg Try.prog n 33 ds→∃v:List ByteArray,ds=[D.sl 1 v.length (v.flatMap eS)]∧(v.length≤maxLen∧∀y∈v,y.size≤maxLen):=by
 intro n ds h
 cases n with
 | zero=>exact h.elim
 | succ n=>
  unfold Zg at h
  rw[Try.underlying33] at h
  obtain⟨m,es,h1,h2,h3,h4⟩:=h
  rw[cz9] at h1 h3 h4
  obtain⟨l,g1,g2,g3⟩:=q64 (E:=eS) (W:=fun y=>y.size≤maxLen) (sz:=1) (by decide) m es h3 fun i hi=>by
   obtain⟨v,q1,q2⟩:=ty9 n _ (h4 i hi)
   exact⟨v,q1.trans (rfl),q2⟩
  refine⟨l,?_,by omega,g3⟩
  rw[h1,g1,g2]
theorem qvh:Try.prog.cellsOf 22=1:=by kernel_rfl
theorem qu2:Try.prog.cellsOf 33=1:=by kernel_rfl
theorem qs7:Try.prog.cellsOf 35=5:=by kernel_rfl
def q0E (x:qa):Prop:=x.Code.size≤maxLen∧(Lit.int .i64 x.Credits).wf=true∧(Lit.int .i64 x.Places).wf=true∧(x.Slots.length≤maxLen∧∀y∈x.Slots,(Lit.int .i64 y).wf=true)∧(x.Needs.length≤maxLen∧∀y∈x.Needs,y.size≤maxLen)
theorem qtD:∀(n:Nat) (ds:List D),Zg Try.prog n 35 ds→∃v:qa,ds=[D.str v.Code,D.int .i64 v.Credits,D.int .i64 v.Places,D.sl 1 v.Slots.length (v.Slots.flatMap eI),D.sl 1 v.Needs.length (v.Needs.flatMap eS)]∧q0E v:=by
 intro n ds h
 cases n with
 | zero=>exact h.elim
 | succ n=>
  unfold Zg at h
  rw[Try.underlying35] at h
  obtain⟨hl,hf⟩:=h
  rw[qs7] at hl
  have h0:Zg Try.prog n 9 ((ds.drop 0).take (Try.prog.cellsOf 9)):=hf _ (qvs (i:=0) rfl)
  rw[cz9] at h0
  obtain⟨v0,e0,w0⟩:=ty9 _ _ h0
  have c0:=q2f ds 0 1
  rw[e0] at c0
  have h1:Zg Try.prog n 3 ((ds.drop 1).take (Try.prog.cellsOf 3)):=hf _ (qvs (i:=1) rfl)
  rw[cz3] at h1
  obtain⟨v1,e1,w1⟩:=ty3 _ _ h1
  have c1:=q2f ds 1 1
  rw[e1] at c1
  have h2:Zg Try.prog n 3 ((ds.drop 2).take (Try.prog.cellsOf 3)):=hf _ (qvs (i:=2) rfl)
  rw[cz3] at h2
  obtain⟨v2,e2,w2⟩:=ty3 _ _ h2
  have c2:=q2f ds 2 1
  rw[e2] at c2
  have h3:Zg Try.prog n 22 ((ds.drop 3).take (Try.prog.cellsOf 22)):=hf _ (qvs (i:=3) rfl)
  rw[qvh] at h3
  obtain⟨v3,e3,w3⟩:=ty22 _ _ h3
  have c3:=q2f ds 3 1
  rw[e3] at c3
  have h4:Zg Try.prog n 33 ((ds.drop 4).take (Try.prog.cellsOf 33)):=hf _ (qvs (i:=4) rfl)
  rw[qu2] at h4
  obtain⟨v4,e4,w4⟩:=quk _ _ h4
  have c4:=q2f ds 4 1
  rw[e4] at c4
  have cl:ds.drop 5=[]:=qw7 (by omega)
  refine⟨⟨v0,v1,v2,v3,v4⟩,?_,⟨w0,w1,w2,w3,w4⟩⟩
  have c:ds.drop 0=_:=c0
  simp only[Nat.reduceAdd] at c0 c1 c2 c3 c4 c
  rw[c1,c2,c3,c4,cl] at c
  exact c
theorem ty25:∀(n:Nat) (ds:List D),Zg Try.prog n 25 ds→∃v:List qa,ds=[D.sl 5 v.length (v.flatMap qb)]∧(v.length≤maxLen∧∀y∈v,q0E y):=by
 intro n ds h
 cases n with
 | zero=>exact h.elim
 | succ n=>
  unfold Zg at h
  rw[Try.underlying25] at h
  obtain⟨m,es,h1,h2,h3,h4⟩:=h
  rw[qs7] at h1 h3 h4
  obtain⟨l,g1,g2,g3⟩:=q64 (E:=qb) (W:=fun y=>q0E y) (sz:=5) (by decide) m es h3 fun i hi=>by
   obtain⟨v,q1,q2⟩:=qtD n _ (h4 i hi)
   exact⟨v,q1.trans ((zI v).symm),q2⟩
  refine⟨l,?_,by omega,g3⟩
  rw[h1,g1,g2]
end
noncomputable section
open Go.RowKit
theorem q5r {α:Type} (l:List α) (step:Int→Option (Int⊕(Unit⊕Unit))) (h:∀(i:Nat) a,l[i]?=some a→step (i:Int)=some (.inl ((i+1:Nat):Int))) (hn:step ((l.length:Nat):Int)=some (.inr (.inr ()))):zc step 0=some (.inr ()):=by
 rw[q1E l (fun _=>false) step (fun i a ha=>by rw[h i a ha];rfl) hn,if_neg]
 intro e
 obtain⟨a,-,h2⟩:=qwk.1 e
 cases h2
theorem qua (w0:List (List qa)) (t7:Bool) (t8:List qa) (t35 t36:Int) {L:List qa} (hS:Sml L):zc (zr w0 t7 t8 t35 t36 L ((L.length:Nat):Int)) 0=some (.inr ()):=by
 have hL:=hS.ln
 refine q5r L _ (fun k o ho=>?_) (by unfold zr;rw[if_neg (by omega)])
 have h1:=QC ho
 unfold zr
 rw[if_pos (by omega),if_pos (by omega),qvu,ho,qvr,qc9,qvr,q9r (hS.el o (qvs ho)).cd,qvr,beq_self_eq_true,if_neg (by decide),qW h1 (by omega)]
theorem q3v (x0:List Int) (h:x0.length≤maxLen) (q:qmW (q6F Int)) (x2:List qa) (h2:x2.length≤maxLen) (h3:∀o∈x2,o.Needs.length≤maxLen):Qe x0 q x2=some true:=by
 obtain⟨M,one,two,e1,hM,e2,e3,hS1,hS2,l1,l2⟩:=qiP x0 h q.a0 q.a1
 obtain⟨r,e4,l4,hr⟩:=qm6 h2 h3
 have hMs:=qdv hM
 have hml:=hM.1
 have hMr:Sml (M++r):=⟨by rw[qvy];omega,fun o ho=>(qvV.1 ho).elim (hMs.el o) (hr.el o)⟩
 unfold Qe
 rw[q7T,qvr,e4,qvr,e1,qvr,e2,qvr,e3,qvr,if_pos (by unfold maxLen;omega),if_pos (by unfold maxLen;omega)]
 rw[q5r [one,two,r,M++r] _ (fun i a ha=>by
  have h5:=QC ha
  have hSa:Sml a:=by
   have:=qvs ha
   simp only[qvN,List.not_mem_nil,or_false] at this
   rcases this with rfl|rfl|rfl|rfl
   ·exact hS1
   ·exact hS2
   ·exact hr
   ·exact hMr
  have h4:i<4:=h5
  unfold zy
  rw[if_pos (by omega),if_pos (by omega),qvu,ha,qvr,qex hSa,qvr,qaJ hSa,qvr,if_neg (by simp),qua _ _ _ _ _ hSa,qvr,Sum.elim_inr,qW (n:=10) (by omega) (by omega)]) (by unfold zy;rfl),qvr,Sum.elim_inr,if_pos rfl,qes hM]
 rfl
theorem q42 (x0:List Int) (w0:x0.length≤maxLen∧∀y∈x0,(Lit.int .i64 y).wf=true) (x1:qmW (q6F Int)) (_w1:((Lit.int .i64 x1.a0.a0).wf=true∧(Lit.int .i64 x1.a0.a1).wf=true∧(Lit.int .i64 x1.a0.a2).wf=true)∧((Lit.int .i64 x1.a1.a0).wf=true∧(Lit.int .i64 x1.a1.a1).wf=true∧(Lit.int .i64 x1.a1.a2).wf=true)) (x2:List qa) (w2:x2.length≤maxLen∧∀y∈x2,q0E y):Qe x0 x1 x2=some true:=
 q3v x0 w0.1 x1 x2 w2.1 fun o ho=>(w2.2 o ho).2.2.2.2.1
end
end Go.Proofs.Ytcdegieiflmaeaa.Vc
namespace Go.Proofs.Ytcdegieiflmaeaa
open Go.Proofs.Ytcdegieiflmaeaa.Vc (qvz qvA qvD qvG qvM)
open Go.ChangeShapes Go.WideShapes Go.ChangeAt Go.RowKit Go.ChangeMaps
theorem own:ownKnob Try.prog.godebug=none:=by kernel_rfl
theorem qhG:laidOutB Try.prog=true:=by kernel_rfl
section
variable {H:Type} {enc:TypeId×Value→H} {P:Program} {W W':World}
theorem q6r {t e:TypeId} {n base:Nat} {r:Reach} {v:Value} (ht:P.underlying t=some (.array n e)) (h:Value.okWide P W r base t v):∃cs,v = .agg cs∧cs.size=P.cellsOf t:=by
 unfold Value.okWide at h
 rw[ht] at h
 obtain⟨cs,h1,h2,-⟩:=h
 exact⟨cs,h1,h2⟩
theorem q7i (hl:laidOutB P=true) (hb:Below W.heap.size W W'):∀{ts:List TypeId} {vs:List Value} {ds:List (DataW H)} {ps:List MemPlace},(∀t∈ts,P.readableRec t=true∧t<P.types.size)→
  DataW.TrodAll enc P W 0 (fun _=>true) true ts vs ds ps→(∀p∈ps,p.block<W.heap.size)→DataW.TrodAll enc P W' 0 (fun b=>decide (b<W.heap.size)) true ts vs ds ps
 | [],_,_,_,_,h,_=>by
  obtain⟨rfl,rfl,rfl⟩:=trodAll_nil h
  exact trodAll_mk0
 | t::ts,_,_,_,ht,h,hlt=>by
  obtain⟨v,vs,d,ds,p,q,rfl,rfl,rfl,h1,h2⟩:=trodAll_cons h
  exact trodAll_cons_mk (Below.trod hl (ht t qvG).1 (ht t qvG).2 h1 hb (fun x hx=>hlt x (qvD _ hx)))
   (q7i hl hb (fun u hu=>ht u (qvz _ hu)) h2 (fun x hx=>hlt x (qvA _ hx)))
theorem qgg {f:Func} {s:ChangeSpec} {apart fresh handsOn:Bool} {args:Array Value} {ds gs:List (DataW H)} {before:List MemPlace} {tb:TypeId} (hl:laidOutB P=true)
  (hts:∀t∈f.params.toList,P.readableRec t=true∧t<P.types.size) (hr:f.resultTypes=#[tb]) (htb:P.underlying tb=some .bool) (hv:s.vars=[])
  (h1:(s.fn H (ds++gs)).results=[.lit (.bool true)]) (h2:(s.fn H (ds++gs)).args=ds) (h3:(s.fn H (ds++gs)).vars=[])
  (hW:DataW.Whole enc P f.params.toList s.vars apart W args.toList ds gs before) (hb:Below W.heap.size W W') :
  s.post enc P f apart fresh handsOn false W args (.bool true) W':=by
 have hlt:∀p∈before,p.block<W.heap.size:=fun p hp=>hW.lt p hp
 have hW2:=hW
 obtain⟨pa,pv,hA,hV,hp,-,-⟩:=hW2
 rw[hv] at hV
 obtain⟨rfl,rfl⟩:=trodVars_none hV
 rw[qvM] at hp
 subst hp
 refine⟨ds,[],before,[],before,[],hW,?_,?_,?_,?_,fun h=>by cases h⟩
 ·rw[h1,hr]
  exact trodAll_mk1 (shut_bool htb true)
 ·rw[h2]
  exact q7i hl hb hts hA hlt
 ·rw[h3,hv]
  exact hV
 ·exact World.keptBut_mono (fun p hp=>⟨hp,.inr (.inl hp)⟩) (hb.frame (·∈before))
end
end Go.Proofs.Ytcdegieiflmaeaa
namespace Go.Proofs.Ytcdegieiflmaeaa.Vc
end Go.Proofs.Ytcdegieiflmaeaa.Vc
