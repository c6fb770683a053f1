/- Part 5 of a proof. -/
import Derived.Test.YtcdegieiflmaeaaC4
import Derived.KernelRfl
import Derived.Test.YtcdegieiflmaeaaRows
import Derived.ChangeSlices
import Derived.OpenShut
import Derived.Carry
import Derived.ChangeSame
import Derived.ChangeMaps5
import Derived.WideShapes
import Derived.ProofKit
import Derived.Deep.DeepHandedRow
import Derived.Lib.LaidTab
import Derived.Stop.LaidErr
set_option linter.unusedVariables false
set_option linter.unusedSimpArgs false
set_option linter.defProp false
set_option linter.unusedSectionVars false
set_option linter.unnecessarySimpa false
namespace Go.Proofs.Ytcdegieiflmaeaa.Vc
noncomputable section
open Go.RowKit
def q0K (b:UInt8):Bool:=(48≤b.toNat&&b.toNat≤57)||(65≤b.toNat&&b.toNat≤90)
theorem qff (s:ByteArray) (i:Nat) (h:(s.get! i).toNat<128):Utf8.decode s i=((s.get! i).toNat,1):=by
 unfold Utf8.decode
 simp only[Nat.add_zero]
 rw[if_pos h]
theorem qiE (s:ByteArray) (i:Nat) (h:¬ (s.get! i).toNat<128):128≤(Utf8.decode s i).1:=by
 unfold Utf8.decode
 simp only[Nat.add_zero]
 rw[if_neg h]
 have hr:128≤Utf8.runeError:=by decide
 split
 ·split
  ·assumption
  ·exact hr
 ·split
  ·split
   ·rename_i h;simp only[ge_iff_le,qxP,qyh] at h;omega
   ·exact hr
  ·split
   ·split
    ·rename_i h;simp only[ge_iff_le,qxP,qyh] at h;omega
    ·exact hr
   ·exact hr
theorem q6e (b:UInt8) (h:b.toNat<128):zX (b.toNat:Int) = !q0K b:=by
 unfold zX q0K
 by_cases h1:b.toNat<65
 ·rw[if_pos (by omega)]
  by_cases h2:b.toNat<48
  ·rw[if_pos (by omega)]
   have e1:decide (48≤b.toNat)=false:=decide_eq_false (by omega)
   have e2:decide (65≤b.toNat)=false:=decide_eq_false (by omega)
   simp[e1,e2]
  ·rw[if_neg (by omega)]
   have e1:decide (48≤b.toNat)=true:=qyi (by omega)
   have e2:decide (65≤b.toNat)=false:=decide_eq_false (by omega)
   by_cases h3:b.toNat≤57
   ·have e3:decide (b.toNat≤57)=true:=qyi h3
    have e4:decide ((57:Int)<b.toNat)=false:=decide_eq_false (by omega)
    simp[e1,e2,e3,e4]
   ·have e3:decide (b.toNat≤57)=false:=decide_eq_false h3
    have e4:decide ((57:Int)<b.toNat)=true:=qyi (by omega)
    simp[e1,e2,e3,e4]
 ·rw[if_neg (by omega)]
  have e0:decide (b.toNat≤57)=false:=decide_eq_false (by omega)
  have e1:decide (65≤b.toNat)=true:=qyi (by omega)
  by_cases h2:90<b.toNat
  ·rw[if_pos (by omega),if_neg (by omega)]
   have e3:decide (b.toNat≤90)=false:=decide_eq_false (by omega)
   have e4:decide ((57:Int)<b.toNat)=true:=qyi (by omega)
   simp[e0,e1,e3,e4]
  ·rw[if_neg (by omega)]
   have e3:decide (b.toNat≤90)=true:=qyi (by omega)
   simp[e0,e1,e3]
theorem qcD (n:Nat) (h:128≤n):zX (n:Int)=true:=by
 unfold zX
 rw[if_neg (by omega),if_pos (by omega),if_neg (by omega)]
 exact qyi (by omega)
theorem qfV (s:ByteArray) (i:Nat) (h:i<s.size):s.get! i=s.data.toList.getD i 0:=by
 obtain⟨⟨l⟩⟩:=s
 have h':i<l.length:=h
 show(Array.mk l)[i]! = l.getD i 0
 simp[h',List.getD]
theorem q8u (s:ByteArray):∀(r:List UInt8) (p:Nat),r.length+p=s.size→(∀j,r[j]?=s.data.toList[p+j]?)→∃e,qT (qQ s true) p=some e∧((∃i:Int,e = .inl i∧0≤i∧r.all q0K=false)∨(e = .inr ()∧r.all q0K=true)):=by
 intro r
 induction r with
 | nil=>
  intro p hp _
  have hp:p=s.size:=by simpa using hp
  subst hp
  refine⟨.inr (),qJ ?_,.inr ⟨rfl,rfl⟩⟩
  unfold qQ
  rw[if_neg (by omega)]
 | cons b r ih=>
  intro p hp hr
  simp only[qxu] at hp
  have hb:s.data.toList[p]?=some b:=by have:=hr 0;simpa using this.symm
  have hg:s.get! p=b:=by rw[qfV s p (by omega),List.getD,hb];rfl
  by_cases h:b.toNat<128
  ·have hd:=qff s p (by rw[hg];exact h)
   rw[hg] at hd
   cases ho:q0K b
   ·refine⟨.inl (p:Int),qJ ?_,.inl ⟨_,rfl,by omega,by simp[ho]⟩⟩
    unfold qQ
    rw[if_pos (by omega),hd,q6e b h,ho]
    rfl
   ·obtain⟨e,h1,h2⟩:=ih (p+1) (by omega) (fun j=>by rw[show p+1+j=p+(j+1) by omega,←hr (j+1)];rfl)
    refine⟨e,?_,by rw[List.all_cons,ho,qxQ];exact h2⟩
    rw[zC (y:=p+1) (by
     unfold qQ
     rw[if_pos (by omega),hd,q6e b h,ho]
     rfl)]
    exact h1
  ·have hbig:=qiE s p (by rw[hg];exact h)
   have hbad:q0K b=false:=by
    unfold q0K
    have e1:decide (b.toNat≤57)=false:=decide_eq_false (by omega)
    have e2:decide (b.toNat≤90)=false:=decide_eq_false (by omega)
    simp[e1,e2]
   refine⟨.inl (p:Int),qJ ?_,.inl ⟨_,rfl,by omega,by simp[hbad]⟩⟩
   unfold qQ
   rw[if_pos (by omega),qcD _ hbig]
   rfl
def q5k (s:ByteArray):Bool:=decide (s.size≠0)&&decide (s.size≤8)&&s.data.toList.all q0K
theorem qbc (s:ByteArray):(s.toList==ByteArray.toList (ByteArray.mk (List.toArray [])))=decide (s.size=0):=by
 rw[ByteArray.toList_eq,ByteArray.toList_eq]
 obtain⟨⟨l⟩⟩:=s
 show(l==[])=decide (l.length=0)
 cases l<;>simp
theorem qjp (s:ByteArray):zr s=some (q5k s):=by
 unfold zr q5k
 rw[qbc]
 by_cases h0:s.size=0
 ·simp[h0]
 ·have e0:decide (s.size=0)=false:=decide_eq_false h0
  have e1:decide (s.size≠0)=true:=qyi h0
  rw[e0,e1,if_pos (by rfl)]
  by_cases h8:s.size≤8
  ·have e2:decide (s.size≤8)=true:=qyi h8
   obtain⟨e,h1,h2⟩:=q8u s s.data.toList 0 (by simp) (by simp)
   rw[if_pos (by omega),e2]
   unfold Q8 Qb
   rw[h1,qxj]
   rcases h2 with ⟨i,rfl,hi,ha⟩|⟨rfl,ha⟩
   ·rw[Sum.elim_inl,qxj,qxj,ha]
    have:decide (i<0)=false:=decide_eq_false (by omega)
    rw[this];rfl
   ·rw[Sum.elim_inr,qxj,qxj,ha]
    rfl
  ·have e2:decide (s.size≤8)=false:=decide_eq_false h8
   rw[if_neg (by omega),e2]
   rfl
theorem q4F {ε:Type} {step:Int→Option (Int⊕ε)} (i0 n:Nat) (h0:i0≤n) (p:Nat→Bool) (e0 e1:ε) (h:∀i,i0≤i→i<n→step (i:Int)=some (if p i=true then .inl ((i+1:Nat):Int) else .inr e0)) (hn:step (n:Int)=some (.inr e1)) :
  qT step (i0:Int)=some (if(∀i,i<n→i0≤i→p i=true) then e1 else e0):=by
 have key:∀(j i:Nat),j+i=n→i0≤i→(∀k,k<i→i0≤k→p k=true)→qT step (i:Int)=some (if(∀i,i<n→i0≤i→p i=true) then e1 else e0):=by
  intro j
  induction j with
  | zero=>
   intro i hi _ hk
   rw[qxH] at hi
   subst hi
   rw[qJ hn,if_pos hk]
  | succ j ih=>
   intro i hi h1 hk
   have hs:=h i h1 (by omega)
   by_cases hp:p i=true
   ·rw[if_pos hp] at hs
    rw[zC hs]
    refine ih (i+1) (by omega) (by omega) fun k hk2 hk3=>?_
    rcases Nat.lt_or_ge k i with h1|h1
    ·exact hk k h1 hk3
    ·have:k=i:=by omega
     rw[this];exact hp
   ·rw[if_neg hp] at hs
    rw[qJ hs,if_neg fun h2=>hp (h2 i (by omega) h1)]
 exact key (n-i0) i0 (by omega) (qxz _) fun k hk hk2=>by omega
def atB {α:Type} (l:List α) (q:α→Bool) (i:Nat):Bool:=match l[i]? with
 | some a=>q a
 | none=>true
theorem q4Z {α:Type} {l:List α} {q:α→Bool} {i:Nat} {a:α} (h:l[i]?=some a):atB l q i=q a:=by unfold atB;rw[h]
theorem q8B {α:Type} (l:List α) (q:α→Bool):(∀i,i<l.length→0≤i→atB l q i=true)↔l.all q=true:=by
 rw[qxA]
 constructor
 ·intro h a ha
  obtain⟨i,hi⟩:=List.mem_iff_getElem?.1 ha
  have:=h i (Qe hi) (qxJ _)
  rwa [q4Z hi] at this
 ·intro h i hi _
  have ha:l[i]?=some l[i]:=qxl hi
  rw[q4Z ha]
  exact h _ (qy9 hi)
theorem qgG {s:ByteArray} (hs:s.size≤1000):JC s=some (q5k s):=by
 have hlen:s.data.toList.length=s.size:=by rw[Array.length_toList];rfl
 have nd:∀(p:Prop) [Decidable p],((!decide p)=true)↔¬ p:=by intro p _;simp
 have h1:=q4F (step:=QU s) 0 s.data.toList.length (qxJ _) (atB s.data.toList q0K) (.inl ()) (.inr ()) (fun i _ hi=>by
  have ha:s.data.toList[i]?=some s.data.toList[i]:=qxl hi
  rw[q4Z ha]
  generalize s.data.toList[i]=a at ha
  have hw:w64 ((i:Int)+1)=((i+1:Nat):Int):=qN (n:=10000) (by omega) (by omega)
  have h0:(0:Int)≤(i:Int):=by omega
  have hok:q0K a=true↔((65≤a.toNat∧a.toNat≤90)∨(48≤a.toNat∧a.toNat≤57)):=by unfold q0K;simp;omega
  unfold QU
  simp only[if_pos h0,qxm,ha,qxj,hw,nd]
  rw[if_pos (show(i:Int)<((s.size:Nat):Int) by omega)]
  by_cases hq:q0K a=true
  ·rw[if_pos hq]
   have hq':=hok.1 hq
   repeat' split
   all_goals first|rfl|(exfalso;omega)
  ·rw[if_neg hq]
   have hq':¬ ((65≤a.toNat∧a.toNat≤90)∨(48≤a.toNat∧a.toNat≤57)):=fun q=>hq (hok.2 q)
   repeat' split
   all_goals first|rfl|(exfalso;omega)) (by
  unfold QU
  rw[if_neg (by omega)])
 unfold JC q5k
 change Option.bind (qT _ ((0:Nat):Int)) _=_
 rw[h1,qxj]
 by_cases hall:∀i,i<s.data.toList.length→0≤i→atB s.data.toList q0K i=true
 ·rw[if_pos hall,Sum.elim_inr,(q8B _ _).1 hall,qyk]
  by_cases h1:(1:Int)≤((ByteArray.size s:Nat):Int)
  ·rw[if_pos h1,qyi (show s.size≠0 by omega),qxQ]
   congr 1
   rw[Bool.eq_iff_iff,qyh,qyh]
   omega
  ·rw[if_neg h1,decide_eq_false (show ¬ s.size≠0 by omega)];rfl
 ·rw[if_neg hall,Sum.elim_inl,qxL.2 fun q=>hall ((q8B _ _).2 q),Bool.and_false]
end
noncomputable section
open Go.RowKit
theorem qcX {κ:Type} {p q:κ→Bool} (h:∀x,q x=true→p x=true):∀U:List κ,(U.filter q).length≤(U.filter p).length
 | []=>qxz _
 | x::U=>by
  have:=qcX h U
  rw[List.filter_cons,List.filter_cons]
  by_cases hq:q x=true
  ·rw[if_pos hq,if_pos (h x hq),qxu,qxu];omega
  ·rw[if_neg hq]
   split
   ·rw[qxu];omega
   ·exact this
theorem qbw {κ:Type} {p q:κ→Bool} (h:∀x,q x=true→p x=true) {d:κ} (hp:p d=true) (hq:q d=false):∀U:List κ,d∈U→(U.filter q).length<(U.filter p).length
 | x::U,hd=>by
  rw[List.filter_cons,List.filter_cons]
  rcases qxF.1 hd with rfl|hd
  ·rw[if_neg (by rw[hq];decide),if_pos hp,qxu]
   have:=qcX h U
   omega
  ·have:=qbw h hp hq U hd
   by_cases hx:q x=true
   ·rw[if_pos hx,if_pos (h x hx),qxu,qxu];omega
   ·rw[if_neg hx]
    split
    ·rw[qxu];omega
    ·exact this
inductive Rc (m:List (ByteArray×List ByteArray)):ByteArray→ByteArray→Prop
 | one {c d:ByteArray}:d∈Zs [] m c→Rc m c d
 | tail {c d e:ByteArray}:Rc m c d→e∈Zs [] m d→Rc m c e
theorem Rc.head {m:List (ByteArray×List ByteArray)} {c d e:ByteArray} (h:d∈Zs [] m c) (h2:Rc m d e):Rc m c e:=by
 induction h2 with
 | one h3=>exact .tail (.one h) h3
 | tail _ h3 ih=>exact .tail ih h3
theorem qc6 {m:List (ByteArray×List ByteArray)} (c:ByteArray):Zs [] m c=[]∨∃q∈m,Zs [] m c=q.2:=by
 induction m with
 | nil=>exact .inl rfl
 | cons p m ih=>
  unfold Zs
  by_cases h:c=p.1
  ·rw[if_pos h];exact .inr ⟨p,qxy,rfl⟩
  ·rw[if_neg h]
   rcases ih with e|⟨q,hq,e⟩
   ·exact .inl e
   ·exact .inr ⟨q,qxr _ hq,e⟩
def uni (m:List (ByteArray×List ByteArray)):List ByteArray:=m.flatMap Prod.snd
theorem q13 {m:List (ByteArray×List ByteArray)} {c d:ByteArray} (h:d∈Zs [] m c):d∈uni m:=by
 rcases qc6 (m:=m) c with e|⟨q,hq,e⟩
 ·rw[e] at h;cases h
 ·rw[e] at h;exact List.mem_flatMap.2 ⟨q,hq,h⟩
abbrev ks (m3:List (ByteArray×Bool)):List ByteArray:=m3.map Prod.fst
structure Sn (m3:List (ByteArray×Bool)):Prop where
 nd:(ks m3).Nodup
 tr:∀q∈m3,q.2=true
theorem Sn.get {m3:List (ByteArray×Bool)} (h:Sn m3) (d:ByteArray):Zs false m3 d=true↔d∈ks m3:=by
 by_cases hd:d∈ks m3
 ·obtain⟨⟨k,v⟩,hq,e⟩:=qy2.1 hd
  have hv:=h.tr _ hq
  simp only at e hv
  subst e hv
  rw[q9c false h.nd hq]
  exact⟨fun _=>hd,fun _=>rfl⟩
 ·rw[q6Z hd]
  exact⟨fun e=>absurd e (by decide),fun e=>absurd e hd⟩
theorem Sn.put {m3:List (ByteArray×Bool)} (h:Sn m3) {d:ByteArray} (hd:d ∉ ks m3):Sn (q2E m3 d true)∧ks (q2E m3 d true)=ks m3++[d]:=by
 have hm:Jy m3 d=false:=by
  cases e:Jy m3 d
  ·rfl
  ·exact absurd (q0Y.1 e) hd
 have e:q2E m3 d true=m3++[(d,true)]:=q9n true hm
 have e2:ks (q2E m3 d true)=ks m3++[d]:=by rw[e];unfold ks;simp
 refine⟨⟨?_,fun q hq=>?_⟩,e2⟩
 ·rw[e2,List.nodup_append]
  exact⟨h.nd,by simp,fun a ha b hb=>by rw[qy8] at hb;subst hb;exact fun e'=>hd (by rw[←e'];exact ha)⟩
 ·rw[e] at hq
  rcases qxN.1 hq with hq|hq
  ·exact h.tr q hq
  ·rw[qy8.1 hq]
def ms (m:List (ByteArray×List ByteArray)) (m3:List (ByteArray×Bool)):Nat:=((uni m).filter fun x => !Jy m3 x).length
theorem qo7 {m3:List (ByteArray×Bool)} {x:ByteArray}:(!Jy m3 x)=true↔x ∉ ks m3:=by
 rw[Bool.not_eq_true',←qyj]
 exact not_congr q0Y
theorem qsa {m:List (ByteArray×List ByteArray)} {a b:List (ByteArray×Bool)} (h:∀x∈ks a,x∈ks b):ms m b≤ms m a:=
 qcX (fun x hx=>qo7.2 fun e=>qo7.1 hx (h x e)) _
theorem qrm {m:List (ByteArray×List ByteArray)} {a b:List (ByteArray×Bool)} (h:∀x∈ks a,x∈ks b) {d:ByteArray} (h1:d ∉ ks a) (h2:d∈ks b) (hu:d∈uni m):ms m b<ms m a:=
 qbw (fun x hx=>qo7.2 fun e=>qo7.1 hx (h x e)) (qo7.2 h1) (by rw[q0Y.2 h2];rfl) _ hu
theorem qeT {m:List (ByteArray×List ByteArray)} (hN:∀q∈m,q.2.length≤1000000):∀(n:Nat) (c:ByteArray) (m3:List (ByteArray×Bool)),ms m m3≤n→Sn m3→
  ∃m4,qV (c,(m,m3))=some (m,m4)∧Sn m4∧(∀x∈ks m3,x∈ks m4)∧(∀d∈Zs [] m c,d∈ks m4)∧∀x∈ks m4,x∈ks m3∨(Rc m c x∧∀y∈Zs [] m x,y∈ks m4):=by
 intro n
 induction n using Nat.strongRecOn with
 | ind n ih=>
  intro c m3 hms hs3
  have hlen:(Zs [] m c).length≤1000000:=by
   rcases qc6 (m:=m) c with e|⟨q,hq,e⟩<;>rw[e]
   ·exact qxJ _
   ·exact hN q hq
  have key:∀(j t:Nat) (m3:List (ByteArray×Bool)),j+t=(Zs [] m c).length→ms m m3≤n→Sn m3→
    ∃m4,qT (qu qV (Zs [] m c) (((Zs [] m c).length:Nat):Int)) (m,(m3,(t:Int)))=some (m,m4)∧Sn m4∧(∀x∈ks m3,x∈ks m4)∧(∀d∈(Zs [] m c).drop t,d∈ks m4)∧∀x∈ks m4,x∈ks m3∨(Rc m c x∧∀y∈Zs [] m x,y∈ks m4):=by
   intro j
   induction j with
   | zero=>
    intro t m3 ht _ hs3
    refine⟨m3,qJ ?_,hs3,fun x h=>h,fun d hd=>?_,fun x h => .inl h⟩
    ·unfold qu
     dsimp only
     rw[if_neg (by omega)]
    ·rw[qxZ (by omega)] at hd;cases hd
   | succ j ihj=>
    intro t m3 ht hms hs3
    have hlt:t<(Zs [] m c).length:=by omega
    have hin:(Zs [] m c)[t]∈Zs [] m c:=qy9 hlt
    by_cases hb:(Zs [] m c)[t]∈ks m3
    ·have hg:Zs false m3 (Zs [] m c)[t]=true:=(hs3.get _).2 hb
     have hs:qu qV (Zs [] m c) (((Zs [] m c).length:Nat):Int) (m,(m3,(t:Int)))=some (.inl (m,(m3,((t+1:Nat):Int)))):=by
      unfold qu
      dsimp only
      rw[if_pos (by omega),if_pos (by omega),qxm,qxl hlt,qxj,hg,if_neg (by decide),qN hlt (by omega)]
     rw[zC hs]
     obtain⟨m4,g1,g2,g3,g4,g5⟩:=ihj (t+1) m3 (by omega) hms hs3
     refine⟨m4,g1,g2,g3,fun d hd=>?_,g5⟩
     rw[List.drop_eq_getElem_cons hlt] at hd
     rcases qxF.1 hd with rfl|hd
     ·exact g3 _ hb
     ·exact g4 d hd
    ·have hg:Zs false m3 (Zs [] m c)[t]=false:=q6Z hb
     obtain⟨hs4,ek⟩:=hs3.put hb
     have hsub:∀x∈ks m3,x∈ks (q2E m3 (Zs [] m c)[t] true):=fun x hx=>by rw[ek];exact qxv _ hx
     have hnew:(Zs [] m c)[t]∈ks (q2E m3 (Zs [] m c)[t] true):=by rw[ek];exact qxs _ (qy8.2 rfl)
     have hlt2:=qrm (m:=m) hsub hb hnew (q13 hin)
     obtain⟨m4,g1,g2,g3,g4,g5⟩:=ih (ms m (q2E m3 (Zs [] m c)[t] true)) (by omega) (Zs [] m c)[t] (q2E m3 (Zs [] m c)[t] true) (qxz _) hs4
     have hs:qu qV (Zs [] m c) (((Zs [] m c).length:Nat):Int) (m,(m3,(t:Int)))=some (.inl (m,(m4,((t+1:Nat):Int)))):=by
      unfold qu
      dsimp only
      rw[if_pos (by omega),if_pos (by omega),qxm,qxl hlt,qxj,hg,if_pos (by decide),g1,qxj,qN hlt (by omega)]
     rw[zC hs]
     have hms4:ms m m4≤n:=by
      have:=qsa (m:=m) (a:=m3) (b:=m4) fun x hx=>g3 x (hsub x hx)
      omega
     obtain⟨m5,k1,k2,k3,k4,k5⟩:=ihj (t+1) m4 (by omega) hms4 g2
     refine⟨m5,k1,k2,fun x hx=>k3 x (g3 x (hsub x hx)),fun d hd=>?_,fun x hx=>?_⟩
     ·rw[List.drop_eq_getElem_cons hlt] at hd
      rcases qxF.1 hd with rfl|hd
      ·exact k3 _ (g3 _ hnew)
      ·exact k4 d hd
     ·rcases k5 x hx with h|h
      ·rcases g5 x h with h|⟨h,h'⟩
       ·rw[ek] at h
        rcases qxN.1 h with h|h
        ·exact .inl h
        ·rw[qy8] at h
         subst h
         exact .inr ⟨.one hin,fun y hy=>k3 y (g4 y hy)⟩
       ·exact .inr ⟨.head hin h,fun y hy=>k3 y (h' y hy)⟩
      ·exact .inr h
  obtain⟨m4,g1,g2,g3,g4,g5⟩:=key _ 0 m3 rfl hms hs3
  refine⟨m4,?_,g2,g3,fun d hd=>g4 d (by rw[List.drop_zero];exact hd),g5⟩
  rw[JP]
  show Option.bind (qT (qu qV (Zs [] m c) (((Zs [] m c).length:Nat):Int)) (m,(m3,((0:Nat):Int)))) _=_
  rw[g1];rfl
theorem q6a {m:List (ByteArray×List ByteArray)} (hN:∀q∈m,q.2.length≤1000000) (c:ByteArray) (hz:∀d∈uni m,d.size≤maxLen) (hu:(uni m).length≤1000000) :
  ∃l,qO c m=some (q00 l,m)∧l.Nodup∧∀x,x∈l↔Rc m c x:=by
 obtain⟨m4,g1,g2,-,g4,g5⟩:=qeT hN _ c [] (qxz _) ⟨List.Pairwise.nil,fun q hq=>by cases hq⟩
 have hmem:∀x,x∈ks m4↔Rc m c x:=fun x=>by
  refine⟨fun hx=>?_,fun hx=>?_⟩
  ·rcases g5 x hx with h|h
   ·cases h
   ·exact h.1
  ·induction hx with
   | one h=>exact g4 _ h
   | tail _ h ih=>
    rcases g5 _ ih with h' | h'
    ·cases h'
    ·exact h'.2 _ h
 have hin:∀x∈ks m4,x∈uni m:=fun x hx=>by
  cases(hmem x).1 hx with
  | one h=>exact q13 h
  | tail _ h=>exact q13 h
 have hlen:=q1Y g2.nd hin
 have hok:qlt (ks m4)=true:=by
  unfold qlt
  rw[qxP,qxP,qyh,qyh,qxA]
  exact⟨⟨g2.nd,fun k hk=>qyi (hz k (hin k hk))⟩,by omega⟩
 refine⟨ks m4,?_,g2.nd,hmem⟩
 unfold qO
 rw[g1,qxj]
 dsimp only
 unfold Q5
 rw[if_pos hok]
 rfl
end
noncomputable section
open Go.RowKit
def q8s {α:Type} (lt:α→α→Bool):List α→Bool
 | a::b::l=>lt a b&&q8s lt (b::l)
 | _=>true
theorem q1G {α:Type} (lt:α→α→Bool) (l:List α) (step:Int→Option (Int⊕(Unit⊕Unit)))
  (h:∀(i:Nat) a b,l[i]?=some a→l[i+1]?=some b→step ((i+1:Nat):Int)=some (if lt a b=true then .inl ((i+2:Nat):Int) else .inr (.inl ())))
  (hn:∀i:Nat,l.length≤i→step (i:Int)=some (.inr (.inr ()))) :
  ∀(n i:Nat),n+i=l.length→qT step ((i+1:Nat):Int)=some (if q8s lt (l.drop i)=true then .inr () else .inl ())
 | 0,i,hi=>by
  rw[qJ (hn (i+1) (by omega)),qxZ (by omega)];rfl
 | n+1,i,hi=>by
  have h1:i<l.length:=by omega
  by_cases h2:i+1<l.length
  ·have hs:=h i _ _ (qxl h1) (qxl h2)
   rw[List.drop_eq_getElem_cons h1,List.drop_eq_getElem_cons h2,q8s]
   cases hb:lt l[i] l[i+1]
   ·rw[hb,if_neg (by decide)] at hs
    rw[qJ hs,qyl,if_neg (by decide)]
   ·rw[hb,if_pos rfl] at hs
    rw[zC hs,qxQ,←List.drop_eq_getElem_cons h2]
    exact q1G lt l step h hn n (i+1) (by omega)
  ·rw[qJ (hn (i+1) (by omega)),List.drop_eq_getElem_cons h1,qxZ (by omega)];rfl
theorem qjO {l:List Int} (hl:l.length≤1000000):zi l=some (q8s (fun a b=>decide (a<b)) l):=by
 have h:=q1G (fun a b:Int=>decide (a<b)) l (qH l) (fun i a b ha hb=>by
  have h1:=Qe ha
  have h2:=Qe hb
  have w1:w64 (((i+1:Nat):Int)-1)=(i:Int):=by rw[ZT (by omega) (by omega)];omega
  have w2:w64 (((i+1:Nat):Int)+1)=((i+2:Nat):Int):=by rw[ZT (by omega) (by omega)];omega
  unfold qH
  rw[if_pos (by omega),w1,if_pos (by omega),qxm,ha,qxj,if_pos (by omega),qxm,hb,qxj,w2]
  by_cases h:a<b
  ·rw[if_neg (by omega),if_pos (qyi h)]
  ·rw[if_pos (by omega),if_neg (by rw[decide_eq_false h];decide)]) (fun i hi=>by
  unfold qH
  rw[if_neg (by omega)]) l.length 0 (by omega)
 rw[List.drop_zero] at h
 unfold zi
 have h':qT (qH l) 1=_:=h
 rw[h',qxj]
 cases q8s (fun a b:Int=>decide (a<b)) l<;>rfl
abbrev bl (a b:ByteArray):Bool:=Op.bytesLess a.toList b.toList
theorem qiK {l:List ByteArray} (hl:l.length≤1000000):qS l=some (q8s bl l):=by
 have h:=q1G bl l (qz l) (fun i a b ha hb=>by
  have h1:=Qe ha
  have h2:=Qe hb
  have w1:w64 (((i+1:Nat):Int)-1)=(i:Int):=by rw[ZT (by omega) (by omega)];omega
  have w2:w64 (((i+1:Nat):Int)+1)=((i+2:Nat):Int):=by rw[ZT (by omega) (by omega)];omega
  unfold qz
  rw[if_pos (by omega),w1,if_pos (by omega),qxm,ha,qxj,if_pos (by omega),qxm,hb,qxj,w2]
  cases h:bl a b
  ·rw[if_pos (by rw[show Op.bytesLess a.toList b.toList=false from h];decide),if_neg (by decide)]
  ·rw[if_neg (by rw[show Op.bytesLess a.toList b.toList=true from h];decide),if_pos rfl]) (fun i hi=>by
  unfold qz
  rw[if_neg (by omega)]) l.length 0 (by omega)
 rw[List.drop_zero] at h
 unfold qS
 have h':qT (qz l) 1=_:=h
 rw[h',qxj]
 cases q8s bl l<;>rfl
def farF (n:Int):Bool:=decide (n<1)||decide (40<n)
theorem qnA (n:Int):Qc n=farF n:=by
 unfold Qc farF
 by_cases h:n<1
 ·rw[if_pos h,qyi h,Bool.true_or]
 ·rw[if_neg h,decide_eq_false h,Bool.false_or]
theorem qkx {l:List Int} (hl:l.length≤1000000):qG l=some (l.any farF):=by
 obtain⟨r,h1,h2⟩:=q1N l farF (qF l ((l.length:Nat):Int))
  (fun i a ha=>by
   have:=Qe ha
   unfold qF
   rw[if_pos (by omega),if_pos (by omega),qxm,ha,qxj,qnA]
   cases farF a with
   | true=>rfl
   | false=>rw[if_neg (by decide),if_neg (by decide),qN this (by omega)])
  (by unfold qF;rw[if_neg (by omega)])
 obtain⟨n,h3,h4⟩:=q3X h2
 unfold qG zh
 rw[h1,qxj,h3,qxj,h4]
def qf3 (o:qa):Int:=
 if o.Credits<1∨60<o.Credits∨o.Places<0∨200<o.Places∨o.Slots.any farF=true then 3
 else if q8s (fun a b=>decide (a<b)) o.Slots=false then 7
 else if 5<o.Needs.length then 2
 else if q8s bl o.Needs=false then 7
 else 0
structure qkk (o:qa):Prop where
 sl:o.Slots.length≤1000000
 nd:o.Needs.length≤1000000
theorem qeI {o:qa} (h:qkk o):zN o=some (qf3 o):=by
 unfold zN qf3
 rw[qkx h.sl,qjO h.sl,qiK h.nd]
 by_cases h1:o.Credits<1
 ·rw[if_pos h1,if_pos (.inl h1)]
 by_cases h2:60<o.Credits
 ·rw[if_neg h1,if_pos h2,if_pos (.inr (.inl h2))]
 by_cases h3:o.Places<0
 ·rw[if_neg h1,if_neg h2,if_pos h3,if_pos (.inr (.inr (.inl h3)))]
 by_cases h4:200<o.Places
 ·rw[if_neg h1,if_neg h2,if_neg h3,if_pos h4,if_pos (.inr (.inr (.inr (.inl h4))))]
 rw[if_neg h1,if_neg h2,if_neg h3,if_neg h4,qxj]
 by_cases h5:o.Slots.any farF=true
 ·rw[if_pos h5,if_pos (.inr (.inr (.inr (.inr h5))))]
 have hn:¬ (o.Credits<1∨60<o.Credits∨o.Places<0∨200<o.Places∨o.Slots.any farF=true):=by
  rintro(h|h|h|h|h)
  ·exact h1 h
  ·exact h2 h
  ·exact h3 h
  ·exact h4 h
  ·exact h5 h
 rw[if_neg h5,if_neg hn,qxj]
 cases h6:q8s (fun a b:Int=>decide (a<b)) o.Slots
 ·rw[if_pos (by decide),if_pos rfl]
 rw[if_neg (show ¬ ((!true)=true) by decide),if_neg (show ¬ (true=false) by decide)]
 by_cases h7:5<o.Needs.length
 ·rw[if_pos (by omega),if_pos h7]
 rw[if_neg (by omega),if_neg h7,qxj]
 cases h8:q8s bl o.Needs
 ·rw[if_pos (by decide),if_pos rfl]
 ·rw[if_neg (show ¬ ((!true)=true) by decide),if_neg (show ¬ (true=false) by decide)]
def q7c (p:Option qa) (a:qa):Int:=
 if q5k a.Code=false then 12
 else match p with
  | none=>qf3 a
  | some p=>if p.Code=a.Code then 6 else if bl p.Code a.Code=false then 7 else qf3 a
def ckF:Option qa→List qa→Int
 | _,[]=>0
 | p,a::l=>if q7c p a≠0 then q7c p a else ckF (some a) l
theorem qhK {L:List qa} (hL:L.length≤1000000) (hz:∀o∈L,qkk o) (hc:∀o∈L,zr o.Code=some (q5k o.Code)):∀(n i:Nat) (p:Option qa),n+i=L.length→(p=if i=0 then none else L[i-1]?)→
  qT (zd L L ((L.length:Nat):Int)) (i:Int)=some (if ckF p (L.drop i)=0 then .inr () else .inl (ckF p (L.drop i)))
 | 0,i,p,hi,_=>by
  have hs:zd L L ((L.length:Nat):Int) (i:Int)=some (.inr (.inr ())):=by
   unfold zd
   dsimp only
   rw[if_neg (by omega)]
  rw[qJ hs,qxZ (by omega),ckF,if_pos rfl]
 | n+1,i,p,hi,hp=>by
  have h1:i<L.length:=by omega
  have hin:L[i]∈L:=qy9 h1
  have w1:w64 ((i:Int)+1)=((i+1:Nat):Int):=qN h1 (by omega)
  rw[List.drop_eq_getElem_cons h1,ckF]
  have hs:zd L L ((L.length:Nat):Int) (i:Int)=some (if q7c p L[i]≠0 then .inr (.inl (q7c p L[i])) else .inl ((i+1:Nat):Int)):=by
   unfold zd q7c
   dsimp only
   rw[if_pos (by omega),if_pos (by omega),qxm,qxl h1,qxj,hc _ hin,qxj]
   cases hcd:q5k L[i].Code
   ·rw[if_pos (show(!false)=true by decide),if_pos rfl,if_pos (by decide)]
   ·have t1:¬ ((!true)=true):=by decide
    have t2:¬ (true=false):=by decide
    have t3:¬ (false=true):=by decide
    have t4:(!false)=true:=by decide
    have fin:∀x:Int,(if(x != 0)=true then some (Sum.inr (Sum.inl x)) else some (Sum.inl ((i+1:Nat):Int)):Option (Int⊕(Int⊕Unit)))=some (if x≠0 then .inr (.inl x) else .inl ((i+1:Nat):Int)):=fun x=>by
     by_cases hx:x=0
     ·rw[if_neg (by rw[hx];decide),if_neg (by rw[hx];decide)]
     ·rw[if_pos (by simpa using hx),if_pos hx]
    simp only[if_neg t1,if_neg t2,qeI (hz _ hin)]
    by_cases h0:i=0
    ·rw[if_pos h0] at hp
     subst hp
     have q1:¬ (0:Int)<(i:Int):=by omega
     simp only[if_neg q1,qxj,w1]
     exact fin _
    ·rw[if_neg h0] at hp
     have h2:i-1<L.length:=by omega
     rw[qxl h2] at hp
     subst hp
     have q1:(0:Int)<(i:Int):=by omega
     have w2:w64 ((i:Int)-1)=((i-1:Nat):Int):=by rw[ZT (by omega) (by omega)];omega
     have q2:(0:Int)≤((i-1:Nat):Int)∧((i-1:Nat):Int)<((L.length:Nat):Int):=⟨by omega,by omega⟩
     simp only[if_pos q1,w2,if_pos q2,qxm,qxl h2,qxj,w1,q7f]
     by_cases he:L[i-1].Code=L[i].Code
     ·have hd:=qyi he
      simp only[hd,if_pos he,if_true]
      rw[if_pos (show(6:Int)≠0 by decide)]
     ·have hd:=decide_eq_false he
      simp only[hd,if_neg he,if_neg t3,Bool.or_false]
      cases hb:Op.bytesLess L[i-1].Code.toList L[i].Code.toList
      ·rw[if_pos t4,if_pos (show bl L[i-1].Code L[i].Code=false from hb),if_pos (show(7:Int)≠0 by decide)]
      ·rw[if_neg t1,if_neg (show ¬ (bl L[i-1].Code L[i].Code=false) by rw[show bl L[i-1].Code L[i].Code=true from hb];decide)]
       exact fin _
  by_cases he:q7c p L[i]=0
  ·rw[if_neg (show ¬ (q7c p L[i]≠0) from fun e=>e he)] at hs
   rw[zC hs,if_neg (show ¬ (q7c p L[i]≠0) from fun e=>e he)]
   exact qhK hL hz hc n (i+1) (some L[i]) (by omega) (by rw[if_neg (by omega),Nat.add_sub_cancel,qxl h1])
  ·rw[if_pos he] at hs
   rw[qJ hs,if_pos he,if_neg he]
end
noncomputable section
open Go.RowKit
section
variable {κ ν:Type} [DecidableEq κ]
theorem q3m {m:List (κ×ν)} {k c:κ} {v:ν}:Jy (m++[(k,v)]) c=true↔Jy m c=true∨c=k:=by
 rw[q0Y,q0Y,List.map_append,qxN,qxG,List.map_nil,qy8]
theorem q9A (z:ν) (k c:κ) (v:ν):∀m:List (κ×ν),Zs z (m++[(k,v)]) c=if Jy m c=true then Zs z m c else if c=k then v else z
 | []=>rfl
 | p::m=>by
  rw[qyo,Zs,Jy,Zs]
  by_cases h:c=p.1
  ·rw[if_pos h,if_pos h,if_pos h,if_pos rfl]
  ·rw[if_neg h,if_neg h,if_neg h,q9A z k c v m]
end
def ixm:List qa→List (ByteArray×List ByteArray)→List (ByteArray×List ByteArray)
 | [],m=>m
 | o::L,m=>ixm L (if Jy m o.Code=true then m else m++[(o.Code,o.Needs)])
def qbr:List qa→ByteArray→List ByteArray
 | [],_=>[]
 | o::L,c=>if c=o.Code then o.Needs else qbr L c
theorem q6b {L:List qa} (hL:L.length≤1000000):Qt L=some (ixm L []):=by
 have key:∀(n i:Nat) (m:List (ByteArray×List ByteArray)),n+i=L.length→qT (zn L ((L.length:Nat):Int)) (m,(i:Int))=some (ixm (L.drop i) m):=by
  intro n
  induction n with
  | zero=>
   intro i m hi
   have hs:zn L ((L.length:Nat):Int) (m,(i:Int))=some (.inr m):=by
    unfold zn
    dsimp only
    rw[if_neg (by omega)]
   rw[qJ hs,qxZ (by omega),ixm]
  | succ n ih=>
   intro i m hi
   have h1:i<L.length:=by omega
   have w1:w64 ((i:Int)+1)=((i+1:Nat):Int):=qN h1 (by omega)
   have hs:zn L ((L.length:Nat):Int) (m,(i:Int))=some (.inl (if Jy m L[i].Code=true then m else m++[(L[i].Code,L[i].Needs)],((i+1:Nat):Int))):=by
    unfold zn
    dsimp only
    rw[if_pos (by omega),if_pos (by omega),qxm,qxl h1,qxj,w1]
    cases hm:Jy m L[i].Code
    ·rw[if_pos (show(!false)=true by decide),if_neg (show ¬ (false=true) by decide),q9n _ hm]
    ·rw[if_neg (show ¬ ((!true)=true) by decide),if_pos rfl]
   rw[zC hs,List.drop_eq_getElem_cons h1,ixm]
   exact ih (i+1) _ (by omega)
 have h:=key L.length 0 [] (by omega)
 rw[List.drop_zero] at h
 have h':qT (zn L ((L.length:Nat):Int)) ([],(0:Int))=some (ixm L []):=h
 unfold Qt
 rw[h',qxj]
theorem q8x:∀(L:List qa) (m:List (ByteArray×List ByteArray)) (c:ByteArray),Jy (ixm L m) c=true↔Jy m c=true∨c∈L.map (·.Code)
 | [],m,c=>by simp[ixm]
 | o::L,m,c=>by
  rw[ixm,q8x L,qxG,qxF]
  by_cases h:Jy m o.Code=true
  ·rw[if_pos h]
   refine⟨fun h'=>h'.elim .inl fun h' => .inr (.inr h'),fun h'=>?_⟩
   rcases h' with h' | rfl|h'
   ·exact .inl h'
   ·exact .inl h
   ·exact .inr h'
  ·rw[if_neg h,q3m]
   exact or_assoc
theorem qbC:∀(L:List qa) (m:List (ByteArray×List ByteArray)) (c:ByteArray),Zs [] (ixm L m) c=if Jy m c=true then Zs [] m c else qbr L c
 | [],m,c=>by
  rw[ixm,qbr]
  split
  ·rfl
  ·rename_i h
   exact q6Z fun e=>h (q0Y.2 e)
 | o::L,m,c=>by
  rw[ixm,qbC L,qbr]
  by_cases h:Jy m o.Code=true
  ·rw[if_pos h]
   by_cases hc:Jy m c=true
   ·rw[if_pos hc,if_pos hc]
   ·rw[if_neg hc,if_neg hc,if_neg (fun e=>hc (by rw[e];exact h))]
  ·rw[if_neg h,q9A]
   by_cases hc:Jy m c=true
   ·rw[if_pos (q3m.2 (.inl hc)),if_pos hc,if_pos hc]
   ·by_cases he:c=o.Code
    ·rw[if_pos (q3m.2 (.inr he)),if_neg hc,if_neg hc,if_pos he,if_pos he]
    ·rw[if_neg (fun e=>(q3m.1 e).elim hc he),if_neg hc,if_neg he]
theorem q4d:∀(L:List qa) (m:List (ByteArray×List ByteArray)) {q:ByteArray×List ByteArray},q∈ixm L m→q∈m∨∃o∈L,q=(o.Code,o.Needs)
 | [],m,q,h => .inl h
 | o::L,m,q,h=>by
  rw[ixm] at h
  rcases q4d L _ h with h|⟨p,hp,e⟩
  ·split at h
   ·exact .inl h
   ·rcases qxN.1 h with h|h
    ·exact .inl h
    ·exact .inr ⟨o,qxy,qy8.1 h⟩
  ·exact .inr ⟨p,qxr _ hp,e⟩
theorem qbD {κ ν:Type} {g:κ→ν→Option Bool} {f:κ×ν→Bool}:∀{M:List (κ×ν)},(∀q∈M,g q.1 q.2=some (f q))→anyO g M=some (M.any f)
 | [],_=>rfl
 | q::M,h=>by
  unfold anyO
  rw[h q qxy,qxj,qbD fun p hp=>h p (qxr _ hp),qxj,List.any_cons]
theorem q8n {l:List ByteArray} (hl:l.length≤1000000) (m:List (ByteArray×List ByteArray)):qr l m=some (l.any fun c => !Jy m c):=by
 obtain⟨r,h1,h2⟩:=q1N l (fun c => !Jy m c) (qw m l ((l.length:Nat):Int))
  (fun i a ha=>by
   have:=Qe ha
   unfold qw QL
   rw[if_pos (by omega),if_pos (by omega),qxm,ha,qxj]
   cases(!Jy m a) with
   | true=>rfl
   | false=>rw[if_neg (by decide),if_neg (by decide),qN this (by omega)])
  (by unfold qw;rw[if_neg (by omega)])
 obtain⟨n,h3,h4⟩:=q3X h2
 unfold qr qI
 rw[h1,qxj,h3,qxj,h4]
theorem qiA {m:List (ByteArray×List ByteArray)} (hN:∀q∈m,q.2.length≤1000000):Qh m=some (m.any fun q=>q.2.any fun c => !Jy m c):=by
 unfold Qh
 refine qbD fun q hq=>?_
 rw[q8n (hN q hq),qxj]
 cases(q.2.any fun c => !Jy m c)<;>rfl
theorem qlc {m:List (ByteArray×List ByteArray)} (hN:∀q∈m,q.2.length≤1000000) (hz:∀d∈uni m,d.size≤maxLen) (hu:(uni m).length≤1000000):∃b,QM m=some b∧(b=true↔∃q∈m,Rc m q.1 q.1):=by
 have hq:∀q:ByteArray×List ByteArray,∃b:Bool,(Option.bind (qO q.1 m) fun(a2:Prod (List ByteArray) (List (Prod ByteArray (List ByteArray))))=>
   Option.bind (qm a2.1 q.1) fun(a3:Bool)=>if a3=Bool.true then some true else some false)=some b∧(b=true↔Rc m q.1 q.1):=fun q=>by
  obtain⟨l,h1,h2,h3⟩:=q6a hN q.1 hz hu
  have hlen:(q00 l).length≤1000000:=by
   rw[(Zw l).length_eq]
   have:∀x∈l,x∈uni m:=fun x hx=>by
    cases(h3 x).1 hx with
    | one h=>exact q13 h
    | tail _ h=>exact q13 h
   have:=q1Y h2 this
   omega
  refine⟨(q00 l).any fun a=>decide (q.1=a),?_,?_⟩
  ·rw[h1,qxj]
   dsimp only
   rw[q7L hlen,qxj]
   cases((q00 l).any fun a=>decide (q.1=a))<;>rfl
  ·rw[qyc,←h3]
   constructor
   ·rintro⟨x,hx,e⟩
    rw[qyh] at e
    subst e
    exact(Zw l).mem_iff.1 hx
   ·intro h
    exact⟨q.1,(Zw l).mem_iff.2 h,qyi rfl⟩
 obtain⟨b,hb⟩:=q6p (g:=fun(a:ByteArray) (v:List ByteArray)=>Option.bind (qO a m) fun(a2:Prod (List ByteArray) (List (Prod ByteArray (List ByteArray))))=>
   Option.bind (qm a2.1 a) fun(a3:Bool)=>if a3=Bool.true then some true else some false) (M:=m) fun q _=>by
  obtain⟨b,h,-⟩:=hq q
  exact⟨b,h⟩
 refine⟨b,hb,?_⟩
 rw[(q3z hb).2]
 constructor
 ·rintro⟨q,h1,h2⟩
  obtain⟨c,h3,h4⟩:=hq q
  rw[h3] at h2
  injection h2 with h2
  exact⟨q,h1,h4.1 h2⟩
 ·rintro⟨q,h1,h2⟩
  obtain⟨c,h3,h4⟩:=hq q
  exact⟨q,h1,by rw[h3,h4.2 h2]⟩
end
noncomputable section
open Go.RowKit
theorem qiv {p:Option qa} {a:qa} (h:q7c p a=0):qf3 a=0:=by
 unfold q7c at h
 split at h
 ·exact absurd h (by decide)
 ·split at h
  ·exact h
  ·split at h
   ·exact absurd h (by decide)
   ·split at h
    ·exact absurd h (by decide)
    ·exact h
theorem qdn {p:Option qa} {a:qa} {l:List qa} (h:ckF p (a::l)=0):q7c p a=0∧ckF (some a) l=0:=by
 rw[ckF] at h
 split at h
 ·rename_i h';exact absurd h h'
 ·rename_i h';exact⟨Classical.byContradiction fun e=>h' e,h⟩
theorem qcf:∀{l:List qa} {p:Option qa},ckF p l=0→∀o∈l,qf3 o=0
 | a::l,p,h,o,ho=>by
  obtain⟨h1,h2⟩:=qdn h
  rcases qxF.1 ho with rfl|ho
  ·exact qiv h1
  ·exact qcf h2 o ho
theorem q7t {o:qa} (h:qf3 o=0):o.Needs.length≤5:=by
 unfold qf3 at h
 split at h
 ·exact absurd h (by decide)
 ·split at h
  ·exact absurd h (by decide)
  ·split at h
   ·exact absurd h (by decide)
   ·omega
theorem q6z:∀(L:List qa) (m:List (ByteArray×List ByteArray)),(ixm L m).length≤m.length+L.length
 | [],m=>qxz _
 | o::L,m=>by
  rw[ixm]
  have:=q6z L (if Jy m o.Code=true then m else m++[(o.Code,o.Needs)])
  rw[qxu]
  split at this
  ·rename_i h;rw[if_pos h];omega
  ·rename_i h;rw[if_neg h];rw[qxq,qxB] at this;omega
theorem q6X {k:Nat}:∀{m:List (ByteArray×List ByteArray)},(∀q∈m,q.2.length≤k)→(uni m).length≤m.length*k
 | [],_=>qxJ _
 | q::m,h=>by
  have h1:=q6X fun p hp=>h p (qxr _ hp)
  have h2:=h q qxy
  show(q.2++uni m).length≤_
  rw[qxq,qxu,Nat.add_mul,Nat.one_mul];omega
abbrev ix (L:List qa):=ixm L []
def qfK (L:List qa):Prop:=∃q∈ix L,∃c∈q.2,c ∉ L.map (·.Code)
def qf7 (L:List qa):Prop:=∃c∈L.map (·.Code),Rc (ix L) c c
open Classical in
def qbo (L:List qa):Int:=if 60<L.length then 2 else if ckF none L≠0 then ckF none L else if qfK L then 5 else if qf7 L then 14 else 0
theorem qhA {L:List qa} {c:ByteArray}:(∃q∈ix L,q.1=c)↔c∈L.map (·.Code):=by
 have h:=q8x L [] c
 rw[q0Y,qy2] at h
 rw[show(∃q∈ix L,q.1=c)↔(Jy ([]:List (ByteArray×List ByteArray)) c=true∨c∈L.map (·.Code)) from h]
 exact⟨fun h=>h.elim (fun e=>by cases e) fun e=>e,.inr⟩
theorem qcN {L:List qa} (hL:L.length≤1000000) (hz:∀o∈L,qkk o) (hc:∀o∈L,zr o.Code=some (q5k o.Code)) (hs:∀o∈L,∀d∈o.Needs,d.size≤maxLen):z7 L=some (qbo L):=by
 unfold z7 qbo
 by_cases h60:60<L.length
 ·rw[if_pos (by omega),if_pos h60]
 rw[if_neg (by omega),if_neg h60]
 have h4:=qhK hL hz hc L.length 0 none (by omega) rfl
 rw[List.drop_zero] at h4
 have h4':qT (zd L L ((L.length:Nat):Int)) 0=_:=h4
 rw[h4',qxj]
 by_cases hk:ckF none L=0
 ·rw[if_pos hk,if_neg (show ¬ (ckF none L≠0) from fun e=>e hk),Sum.elim_inr,q6b hL,qxj]
  have hq5:∀q∈ix L,q.2.length≤5:=fun q hq=>by
   rcases q4d L [] hq with h|⟨o,ho,e⟩
   ·cases h
   ·rw[e];exact q7t (qcf hk o ho)
  have hN:∀q∈ix L,q.2.length≤1000000:=fun q hq=>by have:=hq5 q hq;omega
  have hil:(ix L).length≤L.length:=by have:=q6z L [];simpa using this
  have hul:=q6X hq5
  have hu:(uni (ix L)).length≤1000000:=by
   have:(ix L).length*5≤60*5:=Nat.mul_le_mul_right 5 (by omega)
   omega
  have hzz:∀d∈uni (ix L),d.size≤maxLen:=fun d hd=>by
   obtain⟨q,hq,hdq⟩:=List.mem_flatMap.1 hd
   rcases q4d L [] hq with h|⟨o,ho,e⟩
   ·cases h
   ·rw[e] at hdq;exact hs o ho d hdq
  obtain⟨b,h23,hb⟩:=qlc hN hzz hu
  have hh:∀c,(!Jy (ix L) c)=true↔c ∉ L.map (·.Code):=fun c=>by
   rw[Bool.not_eq_true',←qyj]
   refine not_congr ((q8x L [] c).trans ⟨fun h=>h.elim (fun e=>by cases e) fun e=>e,.inr⟩)
  have hmiss:((ix L).any fun q=>q.2.any fun c => !Jy (ix L) c)=true↔qfK L:=by
   rw[qyc]
   constructor
   ·rintro⟨q,h1,h2⟩
    rw[qyc] at h2
    obtain⟨c,h3,h4⟩:=h2
    exact⟨q,h1,c,h3,(hh c).1 h4⟩
   ·rintro⟨q,h1,c,h3,h4⟩
    exact⟨q,h1,qyc.2 ⟨c,h3,(hh c).2 h4⟩⟩
  have hcirc:b=true↔qf7 L:=by
   rw[hb]
   constructor
   ·rintro⟨q,h1,h2⟩
    exact⟨q.1,qhA.1 ⟨q,h1,rfl⟩,h2⟩
   ·rintro⟨c,h1,h2⟩
    obtain⟨q,h3,rfl⟩:=qhA.2 h1
    exact⟨q,h3,h2⟩
  rw[qiA hN,qxj]
  by_cases hm:qfK L
  ·rw[if_pos (hmiss.2 hm),if_pos hm]
  ·rw[if_neg (fun e=>hm (hmiss.1 e)),if_neg hm,h23,qxj]
   by_cases hci:qf7 L
   ·rw[if_pos (hcirc.2 hci),if_pos hci]
   ·rw[if_neg (fun e=>hci (hcirc.1 e)),if_neg hci]
 ·rw[if_neg hk,if_pos hk,Sum.elim_inl]
theorem qee {L:List qa} (hL:L.length≤1000) (hn:∀o∈L,o.Needs.length≤1000) (hs:∀o∈L,∀d∈o.Needs,d.size≤maxLen) (c:ByteArray):∃l,qs L c=some (q00 l)∧l.Nodup∧(∀x,x∈l↔Rc (ix L) c x)∧∀x∈l,x∈uni (ix L):=by
 have hN:∀q∈ix L,q.2.length≤1000:=fun q hq=>by
  rcases q4d L [] hq with h|⟨o,ho,e⟩
  ·cases h
  ·rw[e];exact hn o ho
 have hil:(ix L).length≤L.length:=by have:=q6z L [];simpa using this
 have hul:=q6X hN
 have hu:(uni (ix L)).length≤1000000:=by
  have:(ix L).length*1000≤1000*1000:=Nat.mul_le_mul_right 1000 (by omega)
  omega
 have hzz:∀d∈uni (ix L),d.size≤maxLen:=fun d hd=>by
  obtain⟨q,hq,hdq⟩:=List.mem_flatMap.1 hd
  rcases q4d L [] hq with h|⟨o,ho,e⟩
  ·cases h
  ·rw[e] at hdq;exact hs o ho d hdq
 obtain⟨l,h1,h2,h3⟩:=q6a (fun q hq=>by have:=hN q hq;omega) c hzz hu
 refine⟨l,?_,h2,h3,fun x hx=>?_⟩
 ·unfold qs
  rw[q6b (by omega),qxj,h1];rfl
 ·cases(h3 x).1 hx with
  | one h=>exact q13 h
  | tail _ h=>exact q13 h
end
noncomputable section
open Go.RowKit
theorem q0x {a b c:ByteArray} (h:blt a b) (h2:blt b c):blt a c:=by
 unfold blt at *
 rw[q7v,qyh] at *
 exact List.lt_trans h h2
theorem qc7:∀{a b:List ByteArray},a.Pairwise blt→b.Pairwise blt→(∀x,x∈a↔x∈b)→a=b
 | [],[],_,_,_=>rfl
 | [],y::b,_,_,h=>by cases(h y).2 qxy
 | x::a,[],_,_,h=>by cases(h x).1 qxy
 | x::a,y::b,hA,hB,h=>by
  obtain⟨a1,a2⟩:=List.pairwise_cons.1 hA
  obtain⟨b1,b2⟩:=List.pairwise_cons.1 hB
  have e:x=y:=by
   rcases qxF.1 ((h x).1 qxy) with e|e
   ·exact e
   ·rcases qxF.1 ((h y).2 qxy) with e2|e2
    ·exact e2.symm
    ·exact(q37 (q0x (b1 x e) (a1 y e2))).elim
  subst e
  rw[qc7 a2 b2 fun z=>⟨fun hz=>?_,fun hz=>?_⟩]
  ·rcases qxF.1 ((h z).1 (qxr _ hz)) with e|e
   ·exact(q37 (by have:=a1 z hz;rw[e] at this;exact this)).elim
   ·exact e
  ·rcases qxF.1 ((h z).2 (qxr _ hz)) with e|e
   ·exact(q37 (by have:=b1 z hz;rw[e] at this;exact this)).elim
   ·exact e
theorem qhD:∀(x y:List UInt8),Op.bytesLess x y=true∨x=y∨Op.bytesLess y x=true
 | [],[] => .inr (.inl rfl)
 | [],_::_ => .inl rfl
 | _::_,[] => .inr (.inr rfl)
 | a::x,b::y=>by
  simp only[Op.bytesLess]
  by_cases h1:a<b
  ·simp[h1]
  ·by_cases h2:b<a
   ·simp[h1,h2]
   ·have:a=b:=by
     apply UInt8.toNat_inj.1
     have h1':¬ a.toNat<b.toNat:=h1
     have h2':¬ b.toNat<a.toNat:=h2
     omega
    subst this
    rcases qhD x y with h|h|h<;>simp[h]
theorem q90 (a b:ByteArray):blt a b∨a=b∨blt b a:=by
 rcases qhD a.toList b.toList with h|h|h
 ·exact .inl h
 ·exact .inr (.inl (qi5 h))
 ·exact .inr (.inr h)
theorem qhg {l:List ByteArray} (h:l.Nodup):(q00 l).Pairwise blt:=by
 have h2:(q00 l).Nodup:=(Zw l).nodup_iff.2 h
 refine((q1O l).and h2).imp fun {a b} hab=>?_
 rcases q90 a b with e|e|e
 ·exact e
 ·exact absurd e hab.2
 ·exact absurd e hab.1
theorem qn2 {l:List ByteArray} (h:l.Pairwise blt) {s:ByteArray} {k:Nat} (h1:∀x∈l.take k,blt x s) (h2:∀x∈l.drop k,blt s x):(l.take k++s::l.drop k).Pairwise blt:=by
 have h3:(l.take k++l.drop k).Pairwise blt:=by rw[qy6];exact h
 obtain⟨p1,p2,p3⟩:=List.pairwise_append.1 h3
 refine List.pairwise_append.2 ⟨p1,List.pairwise_cons.2 ⟨h2,p2⟩,fun x hx y hy=>?_⟩
 rcases qxF.1 hy with rfl|hy
 ·exact h1 x hx
 ·exact p3 x hx y hy
theorem qlf {l:List ByteArray} {s:ByteArray} {k:Nat} {x:ByteArray}:x∈l.take k++s::l.drop k↔x=s∨x∈l:=by
 rw[qxN,qxF]
 constructor
 ·rintro(h|h|h)
  ·exact .inr (List.mem_of_mem_take h)
  ·exact .inl h
  ·exact .inr (List.mem_of_mem_drop h)
 ·rintro(h|h)
  ·exact .inr (.inl h)
  ·rw[←qy6 k l,qxN] at h
   exact h.elim .inl fun h => .inr (.inr h)
def plS (s:ByteArray):List ByteArray→Nat | []=>0|x::l=>if bl s x=true then 0 else plS s l+1
theorem qby (s:ByteArray):∀l,plS s l≤l.length
 | []=>qxz _
 | x::l=>by
  rw[plS]
  split
  ·exact qxJ _
  ·have:=qby s l;rw[qxu];omega
theorem q6M {s:ByteArray}:∀{l:List ByteArray},s ∉ l→∀x∈l.take (plS s l),blt x s
 | [],_,x,hx=>by cases hx
 | y::l,hs,x,hx=>by
  rw[plS] at hx
  split at hx
  ·cases hx
  ·rename_i hn
   rw[List.take_succ_cons] at hx
   rcases qxF.1 hx with rfl|hx
   ·rcases q90 x s with e|e|e
    ·exact e
    ·exact absurd (by rw[e];exact qxy) hs
    ·exact absurd e hn
   ·exact q6M (fun e=>hs (qxr _ e)) x hx
theorem q6J {s:ByteArray}:∀{l:List ByteArray},l.Pairwise blt→∀x∈l.drop (plS s l),blt s x
 | [],_,x,hx=>by simp at hx
 | y::l,h,x,hx=>by
  obtain⟨h1,h2⟩:=List.pairwise_cons.1 h
  rw[plS] at hx
  split at hx
  ·rename_i hy
   rw[List.drop_zero] at hx
   rcases qxF.1 hx with rfl|hx
   ·exact hy
   ·exact q0x hy (h1 x hx)
  ·rw[List.drop_succ_cons] at hx
   exact q6J h2 x hx
def qaM (l:List ByteArray) (s:ByteArray):List ByteArray:=l.take (plS s l)++s::l.drop (plS s l)
theorem qkE {l:List ByteArray} (h:l.Pairwise blt) {s:ByteArray} (hs:s ∉ l):(qaM l s).Pairwise blt:=qn2 h (q6M hs) (q6J h)
theorem q24 {l:List ByteArray} {s x:ByteArray}:x∈qaM l s↔x=s∨x∈l:=qlf
structure BI (m:List (ByteArray×List ByteArray)) (c:ByteArray) (out more r:List ByteArray):Prop where
 pw:out.Pairwise blt
 ro:∀x∈out,Rc m c x
 rm:∀x∈more,Rc m c x
 rr:∀x∈r,Rc m c x
 cl:∀x∈out,∀y∈Zs [] m x,y∈out∨y∈more∨y∈r
 c0:∀y∈Zs [] m c,y∈out∨y∈more∨y∈r
theorem BI.old {m:List (ByteArray×List ByteArray)} {c n:ByteArray} {out more r:List ByteArray} (h:BI m c out more (n::r)) (hn:n∈out):BI m c out more r:=by
 refine⟨h.pw,h.ro,h.rm,fun x hx=>h.rr x (qxr _ hx),fun x hx y hy=>?_,fun y hy=>?_⟩
 ·rcases h.cl x hx y hy with e|e|e
  ·exact .inl e
  ·exact .inr (.inl e)
  ·rcases qxF.1 e with rfl|e
   ·exact .inl hn
   ·exact .inr (.inr e)
 ·rcases h.c0 y hy with e|e|e
  ·exact .inl e
  ·exact .inr (.inl e)
  ·rcases qxF.1 e with rfl|e
   ·exact .inl hn
   ·exact .inr (.inr e)
theorem BI.new {m:List (ByteArray×List ByteArray)} {c n:ByteArray} {out more r:List ByteArray} (h:BI m c out more (n::r)) (hn:n ∉ out):BI m c (qaM out n) (more++Zs [] m n) r:=by
 have hrn:=h.rr n qxy
 have up:∀y,(y∈out∨y∈more∨y∈n::r)→y∈qaM out n∨y∈more++Zs [] m n∨y∈r:=fun y hy=>by
  rcases hy with e|e|e
  ·exact .inl (q24.2 (.inr e))
  ·exact .inr (.inl (qxv _ e))
  ·rcases qxF.1 e with e|e
   ·exact .inl (q24.2 (.inl e))
   ·exact .inr (.inr e)
 refine⟨qkE h.pw hn,fun x hx=>?_,fun x hx=>?_,fun x hx=>h.rr x (qxr _ hx),fun x hx y hy=>?_,fun y hy=>up y (h.c0 y hy)⟩
 ·rcases q24.1 hx with e|e
  ·rw[e];exact hrn
  ·exact h.ro x e
 ·rcases qxN.1 hx with e|e
  ·exact h.rm x e
  ·exact .tail hrn e
 ·rcases q24.1 hx with e|e
  ·rw[e] at hy
   exact .inr (.inl (qxs _ hy))
  ·exact up y (h.cl x e y hy)
theorem BI.turn {m:List (ByteArray×List ByteArray)} {c:ByteArray} {out more:List ByteArray} (h:BI m c out more []):BI m c out [] more:=by
 have up:∀y,(y∈out∨y∈more∨y∈[])→(y∈out∨y∈[]∨y∈more):=fun y hy=>by
  rcases hy with e|e|e
  ·exact .inl e
  ·exact .inr (.inr e)
  ·exact(List.not_mem_nil e).elim
 exact⟨h.pw,h.ro,fun x hx=>(List.not_mem_nil hx).elim,h.rm,fun x hx y hy=>up y (h.cl x hx y hy),fun y hy=>up y (h.c0 y hy)⟩
theorem BI.done {m:List (ByteArray×List ByteArray)} {c:ByteArray} {out:List ByteArray} (h:BI m c out [] []):out.Pairwise blt∧∀x,x∈out↔Rc m c x:=by
 refine⟨h.pw,fun x=>⟨h.ro x,fun hx=>?_⟩⟩
 induction hx with
 | one e=>
  rcases h.c0 _ e with e|e|e
  ·exact e
  ·cases e
  ·cases e
 | tail _ e ih=>
  rcases h.cl _ ih _ e with e|e|e
  ·exact e
  ·cases e
  ·cases e
theorem BI.start (m:List (ByteArray×List ByteArray)) (c:ByteArray):BI m c [] [] (Zs [] m c):=
 ⟨.nil,fun x hx=>(List.not_mem_nil hx).elim,fun x hx=>(List.not_mem_nil hx).elim,fun x hx => .one hx,fun x hx=>(List.not_mem_nil hx).elim,fun y hy => .inr (.inr hy)⟩
def inB (out:List ByteArray) (x:ByteArray):Bool:=out.any fun a=>decide (x=a)
theorem JN {out:List ByteArray} {x:ByteArray}:inB out x=true↔x∈out:=by
 unfold inB
 rw[qyc]
 exact⟨fun⟨a,h1,h2⟩=>by rw[qyh] at h2;rw[h2];exact h1,fun h=>⟨x,h,qyi rfl⟩⟩
def mo (m:List (ByteArray×List ByteArray)) (out:List ByteArray):Nat:=((uni m).filter fun x => !inB out x).length
theorem qr4 {m:List (ByteArray×List ByteArray)} {out:List ByteArray} {n:ByteArray} (hn:n ∉ out) (hu:n∈uni m):mo m (qaM out n)<mo m out:=by
 have hnb:∀{o:List ByteArray} {x:ByteArray},(!inB o x)=true↔x ∉ o:=fun {o x}=>by
  rw[Bool.not_eq_true',←qyj];exact not_congr JN
 unfold mo
 exact qbw (p:=fun x => !inB out x) (q:=fun x => !inB (qaM out n) x) (d:=n) (fun x hx=>hnb.2 fun e=>hnb.1 hx (q24.2 (.inr e))) (hnb.2 hn) (by show(!inB (qaM out n) n)=false;rw[JN.2 (q24.2 (.inl rfl))];rfl) _ hu
end
noncomputable section
open Go.RowKit
theorem qi9 {p a:qa} (h:q7c (some p) a=0):blt p.Code a.Code:=by
 unfold q7c at h
 split at h
 ·exact absurd h (by decide)
 ·simp only at h
  split at h
  ·exact absurd h (by decide)
  ·split at h
   ·exact absurd h (by decide)
   ·rename_i hb
    rw[Bool.not_eq_false] at hb
    exact hb
theorem qnT:∀{l:List qa} {p:Option qa},ckF p l=0→(l.Pairwise fun a b=>blt a.Code b.Code)∧∀q,p=some q→∀x∈l,blt q.Code x.Code
 | [],p,_=>⟨.nil,fun q _ x hx=>(List.not_mem_nil hx).elim⟩
 | a::l,p,h=>by
  obtain⟨h1,h2⟩:=qdn h
  obtain⟨h3,h4⟩:=qnT h2
  refine⟨List.pairwise_cons.2 ⟨h4 a rfl,h3⟩,fun q hq x hx=>?_⟩
  subst hq
  rcases qxF.1 hx with rfl|hx
  ·exact qi9 h1
  ·exact q0x (qi9 h1) (h4 a rfl x hx)
theorem q0P {L:List qa} (h:ckF none L=0):(L.map (·.Code)).Nodup:=by
 have:=(qnT h).1
 rw[List.nodup_iff_pairwise_ne,List.pairwise_map]
 exact this.imp fun {a b} hab=>qi1 hab
theorem q7R:∀(L:List qa) (m:List (ByteArray×List ByteArray)),(∀o∈L,Jy m o.Code≠true)→(L.map (·.Code)).Nodup→ixm L m=m++L.map fun o=>(o.Code,o.Needs)
 | [],m,_,_=>by rw[ixm,List.map_nil,qxE]
 | o::L,m,h,hn=>by
  rw[qxG,List.nodup_cons] at hn
  rw[ixm,if_neg (h o qxy),q7R L _ (fun p hp e=>?_) hn.2,qxY]
  ·rfl
  ·rcases q3m.1 e with e|e
   ·exact h p (qxr _ hp) e
   ·exact hn.1 (by rw[←e];exact qy2.2 ⟨p,hp,rfl⟩)
theorem q6v {L:List qa} (h:(L.map (·.Code)).Nodup):ix L=L.map fun o=>(o.Code,o.Needs):=by
 rw[show ix L=ixm L [] from rfl,q7R L [] (fun o _ e=>by cases e) h,qxD]
theorem qaf {L:List qa} (h:(L.map (·.Code)).Nodup):qfK L↔∃o∈L,∃c∈o.Needs,c ∉ L.map (·.Code):=by
 unfold qfK
 rw[q6v h]
 constructor
 ·rintro⟨q,hq,c,h1,h2⟩
  obtain⟨o,ho,rfl⟩:=qy2.1 hq
  exact⟨o,ho,c,h1,h2⟩
 ·rintro⟨o,ho,c,h1,h2⟩
  exact⟨_,qy2.2 ⟨o,ho,rfl⟩,c,h1,h2⟩
theorem qif {L:List qa} (c:ByteArray):Zs [] (ix L) c=qbr L c:=by
 rw[show ix L=ixm L [] from rfl,qbC,if_neg (fun e=>by cases e)]
end
noncomputable section
open Go.RowKit
open Classical in
theorem cyc {m:List (ByteArray×List ByteArray)}:∀(n:Nat) (S:List ByteArray),S.length≤n→S≠[]→(∀c∈S,∃d∈S,d∈Zs [] m c)→∃c∈S,Rc m c c
 | 0,S,hl,hne,_=>absurd (qxC (by omega)) hne
 | n+1,[],_,hne,_=>absurd rfl hne
 | n+1,c::S,hl,_,h=>by
  by_cases hc:Rc m c c
  ·exact⟨c,qxy,hc⟩
  ·obtain⟨d,hd,hdc⟩:=h c qxy
   have hlt:((c::S).filter fun x=>decide (Rc m c x)).length≤n:=by
    rw[List.filter_cons,if_neg (by rw[qyh];exact hc)]
    have:=List.length_filter_le (fun x=>decide (Rc m c x)) S
    rw[qxu] at hl
    omega
   have hmem:∀x,x∈(c::S).filter (fun x=>decide (Rc m c x))↔x∈c::S∧Rc m c x:=fun x=>by rw[qyd,qyh]
   obtain⟨e,he,hr⟩:=cyc n _ hlt (List.ne_nil_of_mem ((hmem d).2 ⟨hd,.one hdc⟩)) fun x hx=>by
    obtain⟨h1,h2⟩:=(hmem x).1 hx
    obtain⟨y,hy,hyx⟩:=h x h1
    exact⟨y,(hmem y).2 ⟨hy,.tail h2 hyx⟩,hyx⟩
   exact⟨e,((hmem e).1 he).1,hr⟩
theorem qsP {L:List qa} (hn:(L.map (·.Code)).Nodup) (hm:¬ qfK L) (hc:¬ qf7 L) (out:List ByteArray) (hl:∃o∈L,o.Code ∉ out):∃o∈L,o.Code ∉ out∧∀d∈o.Needs,d∈out:=by
 refine Classical.byContradiction fun hno=>?_
 have hno':∀o∈L,o.Code ∉ out→∃d∈o.Needs,d ∉ out:=fun o ho h1=>Classical.byContradiction fun h2=>hno ⟨o,ho,h1,fun d hd=>Classical.byContradiction fun h3=>h2 ⟨d,hd,h3⟩⟩
 obtain⟨o,ho,h1⟩:=hl
 let S:=(L.map (·.Code)).filter fun c => !inB out c
 have hmem:∀c,c∈S↔c∈L.map (·.Code)∧c ∉ out:=fun c=>by
  show c∈(L.map (·.Code)).filter _↔_
  rw[qyd,Bool.not_eq_true',←qyj]
  exact and_congr_right fun _=>not_congr JN
 obtain⟨c,hc1,hc2⟩:=cyc (m:=ix L) S.length S (qxz _) (List.ne_nil_of_mem ((hmem o.Code).2 ⟨qy2.2 ⟨o,ho,rfl⟩,h1⟩)) fun c hcS=>by
  obtain⟨h2,h3⟩:=(hmem c).1 hcS
  obtain⟨p,hp,rfl⟩:=qy2.1 h2
  obtain⟨d,hd,hd2⟩:=hno' p hp h3
  have hdL:d∈L.map (·.Code):=Classical.byContradiction fun e=>hm ((qaf hn).2 ⟨p,hp,d,hd,e⟩)
  refine⟨d,(hmem d).2 ⟨hdL,hd2⟩,?_⟩
  have hq:(p.Code,p.Needs)∈ix L:=by rw[q6v hn];exact qy2.2 ⟨p,hp,rfl⟩
  have hk:((ix L).map Prod.fst).Nodup:=by rw[q6v hn,List.map_map];exact hn
  rw[q9c [] hk hq]
  exact hd
 exact hc ⟨c,((hmem c).1 hc1).1,hc2⟩
end
noncomputable section
open Go.RowKit
def qkZ (L:List qa) (c:ByteArray):Option qa:=L.find? fun o=>decide (o.Code=c)
def zO:qa:=⟨ByteArray.mk (List.toArray []),0,0,[],[]⟩
def q3Q (L:List qa) (c:ByteArray):qa×Bool:=match qkZ L c with|some o=>(o,true)|none=>(zO,false)
theorem q4k {α:Type} {q:α→Bool}:∀{l:List α} {i:Nat} {a:α},l[i]?=some a→q a=true→(∀j b,j<i→l[j]?=some b→q b=false)→l.find? q=some a
 | [],i,a,h,_,_=>by simp at h
 | x::l,0,a,h,hq,_=>by
  simp at h;subst h
  rw[List.find?_cons,hq]
 | x::l,i+1,a,h,hq,hlo=>by
  have hx:=hlo 0 x (by omega) (by simp)
  rw[List.find?_cons,hx]
  exact q4k (by simpa using h) hq fun j b hj hb=>hlo (j+1) b (by omega) (by simpa using hb)
theorem q7o {α:Type} {q:α→Bool} {l:List α} (h:∀a∈l,q a=false):l.find? q=none:=by
 rw[List.find?_eq_none];intro a ha;rw[h a ha];decide
theorem qcT {o:qa} (h:o.Slots.length≤1000000∧o.Needs.length≤1000000):Zf o=some ():=by
 unfold Zf QA zY
 rw[if_pos (by unfold maxLen;omega),qxj,if_pos (by unfold maxLen;omega),qxj]
theorem qa0 {L:List qa} (hL:L.length≤1000000) (hs:∀o∈L,o.Slots.length≤1000000∧o.Needs.length≤1000000) (c:ByteArray):QI L c=some (q3Q L c):=by
 obtain⟨r,g1,g2⟩:=q1N L (fun x=>decide (x.Code=c)) (qn c L ((L.length:Nat):Int))
  (fun i a ha=>by
   have:=Qe ha
   unfold qn
   rw[if_pos (by omega),if_pos (by omega),qxm,ha,qxj,QV,q7f]
   cases(decide (a.Code=c)) with
   | true=>rfl
   | false=>rw[if_neg (by decide),if_neg (by decide),qN this (by omega)])
  (by unfold qn;rw[if_neg (by omega)])
 unfold QI qv q3Q qkZ
 rw[g1,qxj]
 rcases g2 with ⟨i,a,rfl,b1,b2,b3⟩|⟨rfl,b1⟩
 ·rw[q4k (q:=fun x:qa=>decide (x.Code=c)) b1 b2 b3,Sum.elim_inl,qxj,if_neg (by omega),if_pos (by have:=Qe b1;omega),qxm,b1,qxj,qcT (hs a (qxk b1)),qxj]
 ·rw[q7o (q:=fun x:qa=>decide (x.Code=c)) b1,Sum.elim_inr,qxj,if_pos (by decide)];rfl
theorem q20 (c:ByteArray):∀L:List qa,(q3Q L c).1.Needs=qbr L c
 | []=>rfl
 | o::L=>by
  have ih:=q20 c L
  unfold q3Q qkZ at *
  rw[List.find?_cons,qbr]
  by_cases h:o.Code=c
  ·rw[qyi h,if_pos h.symm]
  ·rw[decide_eq_false h,if_neg (fun e=>h e.symm)];exact ih
theorem q4O {L:List qa} {c:ByteArray}:(q3Q L c).1∈L∨(q3Q L c).1=zO:=by
 unfold q3Q qkZ
 cases h:L.find? (fun o=>decide (o.Code=c)) with
 | some o=>exact .inl (List.mem_of_find?_eq_some h)
 | none=>exact .inr rfl
def qlM (L:List qa) (c:ByteArray) (w:List ByteArray):Bool:=(q3Q L c).2&&(q3Q L c).1.Needs.all fun d=>w.any fun a=>decide (d=a)
theorem qjx {L:List qa} (hL:L.length≤1000000) (hs:∀o∈L,o.Slots.length≤1000000∧o.Needs.length≤1000000) (c:ByteArray) {w:List ByteArray} (hw:w.length≤1000000):qd L c w=some (qlM L c w):=by
 have hn:(q3Q L c).1.Needs.length≤1000000:=by
  rcases q4O (L:=L) (c:=c) with h|h
  ·exact(hs _ h).2
  ·rw[h];exact qxJ _
 unfold qd qlM
 rw[qa0 hL hs,qxj]
 cases(q3Q L c).2 with
 | true=>rw[if_pos rfl,qhW hn hw];rfl
 | false=>rw[if_neg (by decide)];rfl
def qgD (w:List ByteArray) (o:qa):Bool := !inB w o.Code&&o.Needs.all fun d=>inB w d
def nxO (L:List qa) (w:List ByteArray):Option qa:=L.find? (qgD w)
def qh2 (L:List qa):Nat→List ByteArray→List ByteArray
 | 0,w=>w
 | n+1,w=>match nxO L w with|some o=>qh2 L n (w++[o.Code])|none=>w
open Classical in
def qlm (L:List qa):List ByteArray:=if qbo L=0 then qh2 L L.length [] else[]
theorem qiW {w:List ByteArray} {c x:ByteArray}:inB (w++[c]) x=(inB w x||decide (x=c)):=by
 unfold inB;rw[List.any_append];simp
theorem q4J {L:List qa} (h:qbo L=0):ckF none L=0∧L.length≤60∧¬ qfK L∧¬ qf7 L:=by
 unfold qbo at h
 split at h
 ·exact absurd h (by decide)
 ·split at h
  ·rename_i h1;exact absurd h h1
  ·rename_i h1
   split at h
   ·exact absurd h (by decide)
   ·split at h
    ·exact absurd h (by decide)
    ·rename_i h2 h3 h4
     exact⟨Classical.byContradiction fun e=>h1 e,by omega,h3,h4⟩
theorem qet {L:List qa} (h:qbo L=0) {w:List ByteArray} (hl:∃o∈L,o.Code ∉ w):∃o,nxO L w=some o∧o∈L∧o.Code ∉ w∧∀d∈o.Needs,d∈w:=by
 obtain⟨h1,h2,h3,h4⟩:=q4J h
 obtain⟨o,ho,ho1,ho2⟩:=qsP (q0P h1) h3 h4 w hl
 have hok:∀p:qa,qgD w p=true↔p.Code ∉ w∧∀d∈p.Needs,d∈w:=fun p=>by
  unfold qgD
  rw[qxP,qxA,Bool.not_eq_true',←qyj,JN]
  exact and_congr_right fun _=>forall_congr' fun d=>imp_congr_right fun _=>JN
 cases h5:nxO L w with
 | none=>exact absurd ((hok o).2 ⟨ho1,ho2⟩) (by have:=List.find?_eq_none.1 h5 o ho;exact this)
 | some p=>
  have h6:=(hok p).1 (List.find?_some h5)
  exact⟨p,rfl,List.mem_of_find?_eq_some h5,h6.1,h6.2⟩
def q7l (L:List qa) (w:List ByteArray):List qa:=L.filter fun o => !inB w o.Code
theorem qkJ (L:List qa):q7l L []=L:=List.filter_eq_self.2 fun o _=>rfl
theorem q2N {α:Type} (p q:α→Bool):∀l:List α,(l.filter p).find? q=l.find? fun a=>p a&&q a
 | []=>rfl
 | a::l=>by
  rw[List.filter_cons,List.find?_cons]
  cases hp:p a with
  | true=>
   rw[if_pos rfl,List.find?_cons,q2N p q l,qxQ]
  | false=>rw[if_neg (by decide),q2N p q l,qyl]
theorem qfn {L:List qa} {w:List ByteArray} (hn:(L.map (·.Code)).Nodup) {i:Nat} {o:qa} (hi:(q7l L w)[i]?=some o):(q7l L w).take i++(q7l L w).drop (i+1)=q7l L (w++[o.Code]):=by
 have h1:q7l L (w++[o.Code])=(q7l L w).filter fun p => !decide (p.Code=o.Code):=by
  unfold q7l
  rw[List.filter_filter]
  refine congrArg (fun f=>List.filter f L) (funext fun p=>?_)
  rw[qiW,Bool.not_or,Bool.and_comm]
 have hnd:((q7l L w).map (·.Code)).Nodup:=(List.filter_sublist.map _).nodup hn
 rw[h1]
 have key:∀(l:List qa) (i:Nat),(l.map (·.Code)).Nodup→l[i]?=some o→l.take i++l.drop (i+1)=l.filter fun p => !decide (p.Code=o.Code):=by
  intro l
  induction l with
  | nil=>intro i _ h;simp at h
  | cons a l ih=>
   intro i hnd h
   rw[qxG,List.nodup_cons] at hnd
   cases i with
   | zero=>
    simp at h;subst h
    rw[List.filter_cons,if_neg (by simp)]
    simp only[List.take_zero,qxD,qxH,List.drop_succ_cons,List.drop_zero]
    refine(List.filter_eq_self.2 fun p hp=>?_).symm
    rw[Bool.not_eq_true',decide_eq_false_iff_not]
    exact fun e=>hnd.1 (e ▸ qy2.2 ⟨p,hp,rfl⟩)
   | succ i=>
    rw[qxI] at h
    have hne:a.Code≠o.Code:=fun e=>hnd.1 (e ▸ qy2.2 ⟨o,qxk h,rfl⟩)
    rw[List.filter_cons,if_pos (by rw[Bool.not_eq_true',decide_eq_false_iff_not];exact hne),List.take_succ_cons,List.drop_succ_cons,qyo,ih i hnd.2 h]
 exact key _ i hnd hi
theorem qho {l:List qa} {w:List ByteArray} (hl:l.length≤1000000) (hn:∀o∈l,o.Needs.length≤1000000) (hw:w.length≤1000000) {o:qa} (ho:(l.find? fun o=>o.Needs.all fun d=>inB w d)=some o) :
  ∃i:Nat,qt l w=some (i:Int)∧l[i]?=some o:=by
 have h1:∀o∈l,Qi o w=some (o.Needs.all fun d=>inB w d):=fun o ho=>by
  unfold Qi
  rw[qhW (hn o ho) hw];rfl
 obtain⟨r,g1,g2⟩:=q1N l (fun o=>o.Needs.all fun d=>inB w d) (qj w l ((l.length:Nat):Int))
  (fun i a ha=>by
   have:=Qe ha
   unfold qj
   rw[if_pos (by omega),if_pos (by omega),qxm,ha,qxj,h1 a (qxk ha),qxj]
   cases(a.Needs.all fun d=>inB w d) with
   | true=>rfl
   | false=>rw[if_neg (by decide),if_neg (by decide),qN this (by omega)])
  (by unfold qj;rw[if_neg (by omega)])
 unfold qt
 rw[g1,qxj]
 rcases g2 with ⟨i,a,rfl,b1,b2,b3⟩|⟨rfl,b1⟩
 ·rw[q4k (q:=fun o:qa=>o.Needs.all fun d=>inB w d) b1 b2 b3] at ho
  injection ho with ho
  exact⟨i,rfl,by rw[b1,ho]⟩
 ·rw[q7o (q:=fun o:qa=>o.Needs.all fun d=>inB w d) b1] at ho;cases ho
theorem qju {l:List qa} {i:Nat} (hi:i<l.length) (hl:l.length≤1000000):qA (i:Int) (w64 ((i:Int)+1)) l=some (l.take i++l.drop (i+1)):=by
 unfold qA
 rw[qN hi (by omega),if_pos ⟨by omega,by omega,by omega⟩,qxm,List.eraseIdx_eq_take_drop_succ]
def OrO (L:List qa) (w:List ByteArray):Prop:=w.Nodup∧∀c∈w,c∈L.map (·.Code)
theorem OrO.add {L:List qa} {w:List ByteArray} (h:OrO L w) {o:qa} (ho:o∈L) (hn:o.Code ∉ w):OrO L (w++[o.Code]):=by
 refine⟨List.nodup_append.2 ⟨h.1,List.nodup_cons.2 ⟨List.not_mem_nil,List.nodup_nil⟩,fun a ha b hb=>?_⟩,fun c hc=>?_⟩
 ·rw[qy8] at hb;subst hb
  exact fun e=>hn (e ▸ ha)
 ·rcases qxN.1 hc with e|e
  ·exact h.2 c e
  ·rw[qy8] at e;rw[e];exact qy2.2 ⟨o,ho,rfl⟩
theorem OrO.left {L:List qa} (hn:(L.map (·.Code)).Nodup) {w:List ByteArray} (h:w.length<L.length):∃o∈L,o.Code ∉ w:=by
 refine Classical.byContradiction fun hno=>?_
 have h1:=q1Y hn (t:=w) fun c hc=>by
  obtain⟨o,ho,rfl⟩:=qy2.1 hc
  exact Classical.byContradiction fun e=>hno ⟨o,ho,e⟩
 rw[qy0] at h1;omega
theorem OrO.full {L:List qa} {w:List ByteArray} (h:OrO L w) (hl:L.length≤w.length):q7l L w=[]:=by
 unfold q7l
 rw[List.filter_eq_nil_iff]
 intro o ho he
 rw[Bool.not_eq_true',←qyj,JN] at he
 have h1:=q1Y (List.nodup_cons.2 ⟨he,h.1⟩) (t:=L.map (·.Code)) fun c hc=>by
  rcases qxF.1 hc with e|e
  ·rw[e];exact qy2.2 ⟨o,ho,rfl⟩
  ·exact h.2 c e
 rw[qy0,qxu] at h1;omega
theorem qjh (L:List qa) (w:List ByteArray):(q7l L w).length≤L.length:=List.length_filter_le _ _
theorem qo3 (L:List qa) (w:List ByteArray):((q7l L w).find? fun o=>o.Needs.all fun d=>inB w d)=nxO L w:=q2N _ _ L
theorem q63 {L:List qa} (h:qbo L=0):∀(n:Nat) (w:List ByteArray),n+w.length=L.length→OrO L w→qT zW (w,q7l L w)=some (qh2 L n w)
 | 0,w,hn,hw=>by
  refine qJ ?_
  rw[hw.full (by omega)];rfl
 | n+1,w,hn,hw=>by
  obtain⟨h1,h2,h3,h4⟩:=q4J h
  obtain⟨o,ho,ho1,ho2,ho3⟩:=qet h (w:=w) (OrO.left (w:=w) (q0P h1) (by omega))
  have hf:=qo3 L w
  rw[ho] at hf
  have hll:=qjh L w
  obtain⟨i,g1,g2⟩:=qho (l:=q7l L w) (by omega) (fun p hp=>by have:=q7t (qcf h1 p (qyd.1 hp).1);omega) (by omega) hf
  have hi:=Qe g2
  rw[qh2,ho]
  rw[zC (y:=(w++[o.Code],q7l L (w++[o.Code]))) (by
   unfold zW
   dsimp only
   rw[if_pos (show(0:Int)<(((q7l L w).length:Nat):Int) by omega),g1,qxj,if_pos (qha _),if_pos (show(0:Int)≤(i:Int)∧(i:Int)<(((q7l L w).length:Nat):Int) by omega),qxm,g2,qxj,if_pos (by unfold maxLen;omega),qju hi (by omega),qxj,qfn (q0P h1) g2])]
  exact q63 h n _ (by rw[qxq,qxB];omega) (hw.add ho1 ho2)
theorem qcw {L:List qa} (hL:L.length≤1000000) (hz:∀o∈L,qkk o) (hc:∀o∈L,zr o.Code=some (q5k o.Code)) (hs:∀o∈L,∀d∈o.Needs,d.size≤maxLen):zo L=some (qlm L):=by
 unfold zo qlm
 rw[qcN hL hz hc hs,qxj]
 by_cases h:qbo L=0
 ·have h60:=(q4J h).2.1
  rw[if_neg (by rw[h];decide),if_pos h]
  have hcl:qD L=some ():=by
   unfold qD
   rw[if_pos (by unfold maxLen;omega)]
  have h1:=q63 h L.length [] (by simp) ⟨List.nodup_nil,fun c hc=>by cases hc⟩
  rw[qkJ] at h1
  rw[hcl,qxj,h1];rfl
 ·rw[if_pos (by rw[bne_iff_ne];exact h),if_neg h]
end
noncomputable section
open Go.RowKit
theorem q0d {α:Type} (l:List α) (q:α→Bool) (step:Int→Option (Int⊕(Unit⊕Unit)))
  (h:∀(i:Nat) a,l[i]?=some a→step (i:Int)=some (if q a=true then .inr (.inl ()) else .inl ((i+1:Nat):Int)))
  (hn:step ((l.length:Nat):Int)=some (.inr (.inr ()))):qT step 0=some (if l.any q=true then .inl () else .inr ()):=by
 have h1:=q4F (step:=step) 0 l.length (qxJ _) (atB l fun a => !q a) (.inl ()) (.inr ()) (fun i _ hi=>by
  have ha:=qxl hi
  rw[h i _ ha,q4Z ha]
  cases q l[i]<;>rfl) hn
 have h2:qT step 0=_:=h1
 rw[h2]
 congr 1
 have h3:=q8B l fun a => !q a
 by_cases ha:l.any q=true
 ·rw[if_pos ha,if_neg]
  intro e
  have e2:=h3.1 e
  obtain⟨a,h4,h5⟩:=qyc.1 ha
  have:=qxA.1 e2 a h4
  rw[h5] at this;cases this
 ·rw[if_neg ha,if_pos]
  refine h3.2 (qxA.2 fun a h4=>?_)
  cases h5:q a with
  | false=>rfl
  | true=>exact absurd (qyc.2 ⟨a,h4,h5⟩) ha
theorem q7h {α:Type} [DecidableEq α] {a b:List α} (hl:a.length=b.length):(∀i,i<a.length→0≤i→decide (a[i]?=b[i]?)=true)↔a=b:=by
 constructor
 ·intro h
  refine List.ext_getElem? fun i=>?_
  by_cases hi:i<a.length
  ·exact of_decide_eq_true (h i hi (qxJ _))
  ·rw[qxR (by omega),qxR (by omega)]
 ·rintro rfl i _ _
  exact qyi rfl
theorem qhw {a b:Nat} (h:a=b):¬ ((((a:Nat):Int) != ((b:Nat):Int))=true):=by rw[h];simp
theorem qeq {a b:Nat} (h:¬ a=b):(((a:Nat):Int) != ((b:Nat):Int))=true:=by rw[bne_iff_ne];omega
theorem q5e {a b:List ByteArray} (hl:a.length≤1000000000):qp a b=some (decide (a=b)):=by
 unfold qp
 by_cases h:a.length=b.length
 ·rw[if_neg (qhw h)]
  have h1:=q4F (step:=zp a b) 0 a.length (qxJ _) (fun i=>decide (a[i]?=b[i]?)) (.inl ()) (.inr ()) (fun i _ hi=>by
   have ha:=qxl hi
   have hb:=qxl (l:=b) (i:=i) (by omega)
   unfold zp
   rw[if_pos (by omega),if_pos (by omega),qxm,ha,qxj,if_pos (by omega),hb,qxj,q7f,qN hi (by omega)]
   by_cases e:a[i]=b[i]
   ·simp[e]
   ·simp[e]) (by unfold zp;rw[if_neg (by omega)])
  have h2:qT (zp a b) 0=_:=h1
  rw[h2,qxj]
  by_cases e:a=b
  ·rw[if_pos ((q7h h).2 e),Sum.elim_inr,qyi e]
  ·rw[if_neg (fun q=>e ((q7h h).1 q)),Sum.elim_inl,decide_eq_false e]
 ·rw[if_pos (qeq h),decide_eq_false (fun e=>h (by rw[e]))]
theorem qcm {a b:List Int} (hl:a.length≤1000000000):Zb a b=some (decide (a=b)):=by
 unfold Zb
 by_cases h:a.length=b.length
 ·rw[if_neg (qhw h)]
  have h1:=q4F (step:=zT a b) 0 a.length (qxJ _) (fun i=>decide (a[i]?=b[i]?)) (.inl ()) (.inr ()) (fun i _ hi=>by
   have ha:=qxl hi
   have hb:=qxl (l:=b) (i:=i) (by omega)
   unfold zT
   rw[if_pos (by omega),if_pos (by omega),qxm,ha,qxj,if_pos (by omega),hb,qxj,qN hi (by omega)]
   by_cases e:a[i]=b[i]
   ·simp[e]
   ·simp[e]) (by unfold zT;rw[if_neg (by omega)])
  have h2:qT (zT a b) 0=_:=h1
  rw[h2,qxj]
  by_cases e:a=b
  ·rw[if_pos ((q7h h).2 e),Sum.elim_inr,qyi e]
  ·rw[if_neg (fun q=>e ((q7h h).1 q)),Sum.elim_inl,decide_eq_false e]
 ·rw[if_pos (qeq h),decide_eq_false (fun e=>h (by rw[e]))]
theorem qbV {a:qa} (h1:a.Slots.length≤1000000) (h2:a.Needs.length≤1000000):JD a a=some true:=by
 unfold JD
 rw[qcm (by omega),qxj,q5e (by omega),qxj,qyi rfl,qyi rfl,if_pos rfl,if_pos rfl,q7f,qyi rfl,if_pos rfl]
 simp
theorem qb6 {a b:qa} (ha:a.Slots.length≤1000000) (hb:b.Slots.length≤1000000):J9 a b=some (a.Slots.any fun x=>b.Slots.any fun y=>x==y):=by
 unfold J9
 rw[q0d a.Slots (fun x=>b.Slots.any fun y=>x==y) (QF a b) (fun k x hx=>by
  have:=Qe hx
  unfold QF
  rw[if_pos (by omega),q0d b.Slots (fun y=>x==y) (QG a b (k:Int)) (fun i y hy=>by
   have:=Qe hy
   unfold QG
   rw[if_pos (by omega),if_pos (by omega),qxm,hx,qxj,if_pos (by omega),qxm,hy,qxj,qN this (by omega)]
   cases(x==y)<;>rfl) (by unfold QG;rw[if_neg (by omega)]),qxj,qN this (by omega)]
  cases(b.Slots.any fun y=>x==y)<;>rfl) (by unfold QF;rw[if_neg (by omega)]),qxj]
 cases(a.Slots.any fun x=>b.Slots.any fun y=>x==y)<;>rfl
theorem q5n {l:List ByteArray} (hl:l.length≤1000000) (s:ByteArray):QN l s=some (inB l s):=by
 unfold QN
 rw[q0d l (fun a=>decide (s=a)) (Zc l s) (fun i a ha=>by
  have:=Qe ha
  unfold Zc
  rw[if_pos (by omega),if_pos (by omega),qxm,ha,qxj,q7f,qN this (by omega)]
  by_cases e:a=s
  ·simp[e]
  ·have e':¬ s=a:=fun q=>e q.symm
   simp[e,e']) (by unfold Zc;rw[if_neg (by omega)]),qxj]
 show _=some (l.any fun a=>decide (s=a))
 cases(l.any fun a=>decide (s=a))<;>rfl
theorem q7p {o:qa} (h:o.Slots.length≤1000000∧o.Needs.length≤1000000):ZS o=some (o.Code,o.Credits,o.Places,o.Slots,o.Needs):=by
 unfold ZS
 rw[if_pos (by unfold maxLen;omega),if_pos (by unfold maxLen;omega)]
theorem q1B {L:List qa} (hL:L.length≤1000000) (hs:∀o∈L,o.Slots.length≤1000000∧o.Needs.length≤1000000) (c:ByteArray):Qu L c=some (q3Q L c):=by
 have h1:=q86 (ε:=(List Int×List ByteArray×ByteArray×Int×Int)⊕Unit) (step:=Qy (ByteArray.mk (List.toArray [])) (0:Int) (0:Int) L c) L (fun i=>(i:Int)) (fun o=>if o.Code=c then some (.inl (o.Slots,o.Needs,o.Code,o.Credits,o.Places)) else none) (.inr ()) (fun i a ha=>by
  have:=Qe ha
  unfold Qy
  rw[if_pos (by omega),if_pos (by omega),qxm,ha,qxj,q7f,if_pos (show(0:Int)≤(i:Int)∧(i:Int)<((L.length:Nat):Int) by omega),qxj,q7p (hs a (qxk ha)),qxj,qN this (by omega)]
  by_cases e:a.Code=c
  ·rw[qyi e,if_pos rfl,if_pos e]
  ·rw[decide_eq_false e,if_neg (by decide),if_neg e]) (by unfold Qy;rw[if_neg (by omega)])
 have h2:qT (Qy (ByteArray.mk (List.toArray [])) (0:Int) (0:Int) L c) 0=_:=h1
 unfold Qu q3Q qkZ
 rw[h2,qxj]
 have h3:∀l:List qa,l.findSome? (fun o=>if o.Code=c then some ((.inl (o.Slots,o.Needs,o.Code,o.Credits,o.Places):(List Int×List ByteArray×ByteArray×Int×Int)⊕Unit)) else none)=(l.find? fun o=>decide (o.Code=c)).map fun o => .inl (o.Slots,o.Needs,o.Code,o.Credits,o.Places):=by
  intro l
  induction l with
  | nil=>rfl
  | cons o l ih=>
   rw[List.findSome?_cons,List.find?_cons]
   by_cases e:o.Code=c
   ·rw[if_pos e,qyi e];rfl
   ·rw[if_neg e,decide_eq_false e];exact ih
 rw[h3]
 cases L.find? (fun o=>decide (o.Code=c)) with
 | some o=>rfl
 | none=>rfl
theorem q7Q (q:ByteArray→Bool):∀(l:List ByteArray) (b:Bool),l.foldl (fun b a=>if b=true then q a else false) b=(b&&l.all q)
 | [],b=>by simp
 | a::l,b=>by
  rw[qym,q7Q q l,List.all_cons]
  cases b<;>simp
theorem q9J {L:List qa} (hL:L.length≤1000000) (hs:∀o∈L,o.Slots.length≤1000000∧o.Needs.length≤1000000) (c:ByteArray) {w:List ByteArray} (hw:w.length≤1000000):Jt L c w=some (qlM L c w):=by
 have hn:(q3Q L c).1.Needs.length≤1000000:=by
  rcases q4O (L:=L) (c:=c) with h|h
  ·exact(hs _ h).2
  ·rw[h];exact qxJ _
 unfold Jt qlM
 rw[q1B hL hs,qxj]
 generalize q3Q L c=p at hn
 have h1:=qaY (step:=QO p.1 w) p.1.Needs (fun b i=>(b,(i:Int))) (fun b a=>if b=true then inB w a else false) id (fun b i a ha=>by
  have:=Qe ha
  unfold QO
  dsimp only
  rw[if_pos (by omega),qN this (by omega)]
  cases b with
  | true=>rw[if_pos rfl,if_pos (by omega),qxm,ha,qxj,q5n hw,qxj,if_pos rfl]
  | false=>rw[if_neg (by decide),if_neg (by decide)]) (fun b=>by unfold QO;dsimp only;rw[if_neg (by omega)];rfl) p.2
 have h2:qT (QO p.1 w) (p.2,0)=_:=h1
 rw[h2,qxj,q7Q];rfl
theorem nbl {a s:ByteArray} (h:a≠s):(!(Op.bytesLess a.toList s.toList||a.toList==s.toList))=bl s a:=by
 rw[q7f,decide_eq_false h,Bool.or_false]
 rcases q90 a s with e|e|e
 ·have h1:Op.bytesLess a.toList s.toList=true:=e
  have h2:bl s a=false:=qxL.2 fun q=>q37 (q0x e q)
  rw[h1,h2];rfl
 ·exact absurd e h
 ·have h1:bl s a=true:=e
  have h2:Op.bytesLess a.toList s.toList=false:=qxL.2 fun q=>q37 (q0x e q)
  rw[h1,h2];rfl
theorem q9I {l:List ByteArray} (hp:l.Pairwise blt) {s:ByteArray} (hs:s ∉ l) (hl:l.length≤1000000):∀n:Nat,n+plS s l≤l.length→qT (Zd l s) ((n+plS s l:Nat):Int)=some ((plS s l:Nat):Int)
 | 0,hn=>by
  refine qJ ?_
  unfold Zd
  rw[qxH]
  by_cases h0:plS s l=0
  ·rw[if_neg (by omega)]
  ·have h1:plS s l-1<l.length:=by omega
   have ha:=qxl h1
   have hw:w64 (((plS s l:Nat):Int)-1)=((plS s l-1:Nat):Int):=by rw[ZT (by omega) (by omega)];omega
   have hm:l[plS s l-1]∈l.take (plS s l):=List.mem_iff_getElem?.2 ⟨plS s l-1,by rw[qxS (by omega)];exact ha⟩
   have hb:=q6M hs _ hm
   rw[if_pos (by omega),hw,if_pos (by omega),qxm,ha,qxj,nbl (fun e=>hs (by rw[←e];exact qy9 h1)),if_neg (show ¬ (bl s l[plS s l-1]=true) from fun q=>q37 (q0x hb q))]
 | n+1,hn=>by
  have h1:n+plS s l<l.length:=by omega
  have ha:=qxl h1
  have hw:w64 (((n+1+plS s l:Nat):Int)-1)=((n+plS s l:Nat):Int):=by rw[ZT (by omega) (by omega)];omega
  have hm:l[n+plS s l]∈l.drop (plS s l):=List.mem_iff_getElem?.2 ⟨n,by rw[List.getElem?_drop,Nat.add_comm];exact ha⟩
  have hb:=q6J hp _ hm
  rw[zC (y:=((n+plS s l:Nat):Int)) (by
   unfold Zd
   rw[if_pos (by omega),hw,if_pos (by omega),qxm,ha,qxj,nbl (fun e=>hs (by rw[←e];exact qy9 h1)),if_pos (show bl s l[n+plS s l]=true from hb)])]
  exact q9I hp hs hl n (by omega)
def qr1 (l:List ByteArray) (s:ByteArray):List ByteArray:=if inB l s=true then l else qaM l s
theorem qiM {l:List ByteArray} (hp:l.Pairwise blt) (hl:l.length≤1000000) (s:ByteArray):Jp l s=some (qr1 l s):=by
 unfold Jp qr1
 rw[q5n hl,qxj]
 cases h:inB l s with
 | true=>rw[if_pos rfl,if_pos rfl]
 | false=>
  have hs:s ∉ l:=fun e=>by rw[JN.2 e] at h;cases h
  have h1:=qby s l
  have h2:=q9I hp hs hl (l.length-plS s l) (by omega)
  rw[show l.length-plS s l+plS s l=l.length by omega] at h2
  have e1:(l.drop (plS s l)).take (l.length-plS s l)=l.drop (plS s l):=qyp (by rw[qy4];omega)
  rw[if_neg (by decide),if_neg (by decide),h2,qxj,qxm,qya,e1]
  rw[if_pos (by omega),if_pos (by rw[qxM];unfold maxLen;omega),if_pos (by rw[qxM];unfold maxLen;omega),if_pos (by omega),if_pos (by rw[qxM,qy4];unfold maxLen;omega)]
  unfold qaM
  rw[qxY];rfl
theorem qcO {l:List ByteArray} (hl:l.length≤1000000):QH l=some (q8s bl l):=by
 have h:=q1G bl l (zx l) (fun i a b ha hb=>by
  have h1:=Qe ha
  have h2:=Qe hb
  have w1:w64 (((i+1:Nat):Int)-1)=(i:Int):=by rw[ZT (by omega) (by omega)];omega
  have w2:w64 (((i+1:Nat):Int)+1)=((i+2:Nat):Int):=by rw[ZT (by omega) (by omega)];omega
  unfold zx
  rw[if_pos (by omega),w1,if_pos (by omega),qxm,ha,qxj,if_pos (by omega),qxm,hb,qxj,w2]
  cases h:bl a b
  ·rw[if_pos (by rw[show Op.bytesLess a.toList b.toList=false from h];decide),if_neg (by decide)]
  ·rw[if_neg (by rw[show Op.bytesLess a.toList b.toList=true from h];decide),if_pos rfl]) (fun i hi=>by
  unfold zx
  rw[if_neg (by omega)]) l.length 0 (by omega)
 rw[List.drop_zero] at h
 unfold QH
 have h':qT (zx l) 1=_:=h
 rw[h',qxj]
 cases q8s bl l<;>rfl
theorem q2M {o:qa} (h:qkk o):Qq o=some (qf3 o):=by
 have hsl:=h.sl
 have e4:=q0d o.Slots farF (Qw o) (fun i a ha=>by
  have:=Qe ha
  unfold Qw farF
  rw[if_pos (by omega),if_pos (by omega),qxm,ha,qxj]
  by_cases h1:a<1
  ·rw[if_pos h1,qyi h1,Bool.true_or,if_pos rfl]
  ·rw[if_neg h1,decide_eq_false h1,Bool.false_or,if_pos (by omega),qxj,qN this (by omega)]
   by_cases h2:40<a
   ·rw[if_pos h2,if_pos (qyi h2)]
   ·rw[if_neg h2,if_neg (by rw[decide_eq_false h2];decide)]) (by unfold Qw;rw[if_neg (by omega)])
 have e9:=q1G (fun a b:Int=>decide (a<b)) o.Slots (Q9 o) (fun i a b ha hb=>by
  have h1:=Qe ha
  have h2:=Qe hb
  have w1:w64 (((i+1:Nat):Int)-1)=(i:Int):=by rw[ZT (by omega) (by omega)];omega
  have w2:w64 (((i+1:Nat):Int)+1)=((i+2:Nat):Int):=by rw[ZT (by omega) (by omega)];omega
  unfold Q9
  rw[if_pos (by omega),w1,if_pos (by omega),qxm,ha,qxj,if_pos (by omega),qxm,hb,qxj,w2]
  by_cases h:a<b
  ·rw[if_neg (by omega),if_pos (qyi h)]
  ·rw[if_pos (by omega),if_neg (by rw[decide_eq_false h];decide)]) (fun i hi=>by
  unfold Q9
  rw[if_neg (by omega)]) o.Slots.length 0 (by omega)
 rw[List.drop_zero] at e9
 have e9':qT (Q9 o) 1=_:=e9
 unfold Qq qf3
 by_cases h1:o.Credits<1
 ·rw[if_pos h1,if_pos (.inl h1)]
 by_cases h2:60<o.Credits
 ·rw[if_neg h1,if_pos h2,if_pos (.inr (.inl h2))]
 by_cases h3:o.Places<0
 ·rw[if_neg h1,if_neg h2,if_pos h3,if_pos (.inr (.inr (.inl h3)))]
 by_cases h4:200<o.Places
 ·rw[if_neg h1,if_neg h2,if_neg h3,if_pos h4,if_pos (.inr (.inr (.inr (.inl h4))))]
 rw[if_neg h1,if_neg h2,if_neg h3,if_neg h4,e4,qxj]
 by_cases h5:o.Slots.any farF=true
 ·rw[if_pos h5,Sum.elim_inl,if_pos (.inr (.inr (.inr (.inr h5))))]
 have hn:¬ (o.Credits<1∨60<o.Credits∨o.Places<0∨200<o.Places∨o.Slots.any farF=true):=by
  rintro(h|h|h|h|h)
  ·exact h1 h
  ·exact h2 h
  ·exact h3 h
  ·exact h4 h
  ·exact h5 h
 rw[if_neg h5,if_neg hn,Sum.elim_inr,e9',qxj]
 cases h6:q8s (fun a b:Int=>decide (a<b)) o.Slots
 ·rw[if_neg (show ¬ (false=true) by decide),if_pos rfl,Sum.elim_inl]
 rw[if_pos rfl,if_neg (show ¬ (true=false) by decide),Sum.elim_inr]
 by_cases h7:5<o.Needs.length
 ·rw[if_pos (by omega),if_pos h7]
 rw[if_neg (by omega),if_neg h7,qcO h.nd,qxj]
 cases h8:q8s bl o.Needs
 ·rw[if_pos (by decide),if_pos rfl]
 ·rw[if_neg (show ¬ ((!true)=true) by decide),if_neg (show ¬ (true=false) by decide)]
theorem qc4 {L:List qa} (hL:L.length≤1000000) (hz:∀o∈L,qkk o) (hc:∀o∈L,o.Code.size≤1000):∀(n i:Nat) (p:Option qa),n+i=L.length→(p=if i=0 then none else L[i-1]?)→
  qT (zP L) (i:Int)=some (if ckF p (L.drop i)=0 then .inr () else .inl (ckF p (L.drop i)))
 | 0,i,p,hi,_=>by
  have hs:zP L (i:Int)=some (.inr (.inr ())):=by
   unfold zP
   dsimp only
   rw[if_neg (by omega)]
  rw[qJ hs,qxZ (by omega),ckF,if_pos rfl]
 | n+1,i,p,hi,hp=>by
  have h1:i<L.length:=by omega
  have hin:L[i]∈L:=qy9 h1
  have w1:w64 ((i:Int)+1)=((i+1:Nat):Int):=qN h1 (by omega)
  have q0:(0:Int)≤(i:Int)∧(i:Int)<((L.length:Nat):Int):=⟨by omega,by omega⟩
  rw[List.drop_eq_getElem_cons h1,ckF]
  have hs:zP L (i:Int)=some (if q7c p L[i]≠0 then .inr (.inl (q7c p L[i])) else .inl ((i+1:Nat):Int)):=by
   unfold zP q7c
   dsimp only
   rw[if_pos (show(i:Int)<((L.length:Nat):Int) by omega),if_pos q0,qxm,qxl h1,qxj,qgG (hc _ hin),qxj]
   cases hcd:q5k L[i].Code
   ·rw[if_pos (show(!false)=true by decide),if_pos rfl,if_pos (by decide)]
   ·have t1:¬ ((!true)=true):=by decide
    have t2:¬ (true=false):=by decide
    have t3:¬ (false=true):=by decide
    have t4:(!false)=true:=by decide
    have fin:∀x:Int,(if(x != 0)=true then some (Sum.inr (Sum.inl x)) else some (Sum.inl ((i+1:Nat):Int)):Option (Int⊕(Int⊕Unit)))=some (if x≠0 then .inr (.inl x) else .inl ((i+1:Nat):Int)):=fun x=>by
     by_cases hx:x=0
     ·rw[if_neg (by rw[hx];decide),if_neg (by rw[hx];decide)]
     ·rw[if_pos (by simpa using hx),if_pos hx]
    simp only[if_neg t1,if_neg t2,q2M (hz _ hin)]
    by_cases h0:i=0
    ·rw[if_pos h0] at hp
     subst hp
     have q1:¬ (0:Int)<(i:Int):=by omega
     simp only[if_neg q1,if_pos q0,qxj,w1,qxl h1,q2M (hz _ hin)]
     exact fin _
    ·rw[if_neg h0] at hp
     have h2:i-1<L.length:=by omega
     rw[qxl h2] at hp
     subst hp
     have q1:(0:Int)<(i:Int):=by omega
     have w2:w64 ((i:Int)-1)=((i-1:Nat):Int):=by rw[ZT (by omega) (by omega)];omega
     have q2:(0:Int)≤((i-1:Nat):Int)∧((i-1:Nat):Int)<((L.length:Nat):Int):=⟨by omega,by omega⟩
     simp only[if_pos q1,w2,if_pos q2,if_pos q0,qxm,qxl h2,qxl h1,qxj,w1,q7f,q2M (hz _ hin)]
     by_cases he:L[i-1].Code=L[i].Code
     ·have hd:=qyi he
      simp only[hd,if_pos he,if_true]
      rw[if_pos (show(6:Int)≠0 by decide)]
     ·have hd:=decide_eq_false he
      simp only[hd,if_neg he,if_neg t3,Bool.or_false]
      cases hb:Op.bytesLess L[i-1].Code.toList L[i].Code.toList
      ·rw[if_pos t4,if_pos (show bl L[i-1].Code L[i].Code=false from hb),if_pos (show(7:Int)≠0 by decide)]
      ·rw[if_neg t1,if_neg (show ¬ (bl L[i-1].Code L[i].Code=false) by rw[show bl L[i-1].Code L[i].Code=true from hb];decide)]
       exact fin _
  by_cases he:q7c p L[i]=0
  ·rw[if_neg (show ¬ (q7c p L[i]≠0) from fun e=>e he)] at hs
   rw[zC hs,if_neg (show ¬ (q7c p L[i]≠0) from fun e=>e he)]
   exact qc4 hL hz hc n (i+1) (some L[i]) (by omega) (by rw[if_neg (by omega),Nat.add_sub_cancel,qxl h1])
  ·rw[if_pos he] at hs
   rw[qJ hs,if_pos he,if_neg he]
def qt0 (L:List qa):Bool:=L.any fun o=>o.Needs.any fun c => !(q3Q L c).2
theorem qgN {L:List qa} {c:ByteArray}:(q3Q L c).2=true↔c∈L.map (·.Code):=by
 unfold q3Q qkZ
 cases h:L.find? (fun o=>decide (o.Code=c)) with
 | some o=>
  have h1:=List.find?_some h
  exact⟨fun _=>qy2.2 ⟨o,List.mem_of_find?_eq_some h,of_decide_eq_true h1⟩,fun _=>rfl⟩
 | none=>
  refine⟨fun e=>(by cases e),fun e=>?_⟩
  obtain⟨o,h1,h2⟩:=qy2.1 e
  have h3:=List.find?_eq_none.1 h o h1
  exact absurd (qyi h2) h3
theorem qeG {L:List qa} (h:(L.map (·.Code)).Nodup):qt0 L=true↔qfK L:=by
 rw[qaf h]
 unfold qt0
 rw[qyc]
 refine exists_congr fun o=>and_congr_right fun _=>?_
 rw[qyc]
 refine exists_congr fun c=>and_congr_right fun _=>?_
 rw[Bool.not_eq_true',←qyj]
 exact not_congr qgN
theorem qgi {L:List qa} (hL:L.length≤1000000) (hs:∀o∈L,o.Slots.length≤1000000∧o.Needs.length≤1000000):qT (Q6 L) 0=some (if qt0 L=true then .inl () else .inr ()):=
 q0d L (fun o=>o.Needs.any fun c => !(q3Q L c).2) (Q6 L) (fun k o ho=>by
  have:=Qe ho
  have hn:=(hs o (qxk ho)).2
  unfold Q6
  rw[if_pos (by omega),q0d o.Needs (fun c => !(q3Q L c).2) (Qv L (k:Int)) (fun i c hc=>by
   have:=Qe hc
   unfold Qv
   rw[if_pos (by omega),qxm,ho,qxj,if_pos (by omega),if_pos (by omega),qxj,if_pos (by omega),qxm,hc,qxj,q1B hL hs,qxj,qN this (by omega)]
   cases(q3Q L c).2<;>rfl) (by unfold Qv;rw[if_pos (by omega),qxm,ho,qxj,if_neg (by omega)]),qxj,qN this (by omega)]
  cases(o.Needs.any fun c => !(q3Q L c).2)<;>rfl) (by unfold Q6;rw[if_neg (by omega)])
end
noncomputable section
open Go.RowKit
structure OSm (o:qa):Prop where
 sl:o.Slots.length≤1000
 nd:o.Needs.length≤1000
 cd:o.Code.size≤1000
 dn:∀d∈o.Needs,d.size≤1000
structure Sml (L:List qa):Prop where
 ln:L.length≤1000
 el:∀o∈L,OSm o
theorem Sml.ll {L:List qa} (h:Sml L):∀o∈L,o.Slots.length≤1000000∧o.Needs.length≤1000000:=fun o ho=>⟨by have:=(h.el o ho).sl;omega,by have:=(h.el o ho).nd;omega⟩
theorem Sml.of {L:List qa} (h:Sml L):∀o∈L,qkk o:=fun o ho=>⟨(h.ll o ho).1,(h.ll o ho).2⟩
theorem Sml.mx {L:List qa} (h:Sml L):∀o∈L,∀d∈o.Needs,d.size≤maxLen:=fun o ho d hd=>by have:=(h.el o ho).dn d hd;unfold maxLen;omega
theorem Sml.cc {L:List qa} (h:Sml L):∀o∈L,zr o.Code=some (q5k o.Code):=fun o _=>qjp o.Code
theorem Sml.uni {L:List qa} (h:Sml L):(uni (ix L)).length≤1000000:=by
 have hN:∀q∈ix L,q.2.length≤1000:=fun q hq=>by
  rcases q4d L [] hq with h1|⟨o,ho,e⟩
  ·cases h1
  ·rw[e];exact(h.el o ho).nd
 have hil:(ix L).length≤L.length:=by have:=q6z L [];simpa using this
 have hul:=q6X hN
 have:(ix L).length*1000≤1000*1000:=Nat.mul_le_mul_right 1000 (by have:=h.ln;omega)
 omega
theorem q6G {L:List qa} (h:∀o∈L,OSm o) (c:ByteArray):(qbr L c).length≤1000:=by
 have h1:=q20 c L
 rw[←h1]
 rcases q4O (L:=L) (c:=c) with e|e
 ·exact(h _ e).nd
 ·rw[e];exact qxJ _
theorem Rc.uni {m:List (ByteArray×List ByteArray)} {c x:ByteArray} (h:Rc m c x):x∈uni m:=by
 cases h with
 | one h=>exact q13 h
 | tail _ h=>exact q13 h
theorem qgL {l:List ByteArray} (h:l.Pairwise blt):l.Nodup:=by
 rw[List.nodup_iff_pairwise_ne]
 exact h.imp fun {a b} hab=>qi1 hab
theorem BI.len {L:List qa} (hS:Sml L) {c:ByteArray} {out more r:List ByteArray} (h:BI (ix L) c out more r):out.length≤1000000:=by
 have h1:=q1Y (qgL h.pw) (t:=uni (ix L)) fun x hx=>(h.ro x hx).uni
 have:=hS.uni;omega
theorem nl7 {L:List qa} (hS:Sml L) {c:ByteArray} {next:List ByteArray} (hnx:next.length≤1000000000):∀(n k:Nat) (more out:List ByteArray),n+k=next.length→BI (ix L) c out more (next.drop k)→more.length≤1000*out.length→
  ∃more' out',qT (zj L next) (more,(out,(k:Int)))=some (more',out')∧BI (ix L) c out' more' []∧more'.length≤1000*out'.length∧(mo (ix L) out'<mo (ix L) out∨(more'=more∧out'=out))
 | 0,k,more,out,hk,hB,hm=>by
  rw[qxZ (by omega)] at hB
  refine⟨more,out,qJ ?_,hB,hm,.inr ⟨rfl,rfl⟩⟩
  unfold zj
  dsimp only
  rw[if_neg (by omega)]
 | n+1,k,more,out,hk,hB,hm=>by
  have h1:k<next.length:=by omega
  have ho:=hB.len hS
  have hll:=hS.ll
  have hL:L.length≤1000000:=by have:=hS.ln;omega
  rw[List.drop_eq_getElem_cons h1] at hB
  have hs:∀{y},(if inB out next[k]=true then some (Sum.inl (more,(out,((k+1:Nat):Int)))) else some (Sum.inl (more++qbr L next[k],(qaM out next[k],((k+1:Nat):Int)))):Option ((List ByteArray×List ByteArray×Int)⊕(List ByteArray×List ByteArray)))=y→zj L next (more,(out,(k:Int)))=y:=fun {y} hy=>by
   rw[←hy]
   have q0:(0:Int)≤(k:Int)∧(k:Int)<((next.length:Nat):Int):=⟨by omega,by omega⟩
   have hf:=q6G hS.el next[k]
   unfold zj
   dsimp only
   rw[if_pos (show(k:Int)<((next.length:Nat):Int) by omega),if_pos q0,qxm,qxl h1,qxj,q5n (by omega),qxj,qN h1 (by omega)]
   cases hi:inB out next[k] with
   | true=>rw[if_neg (by decide),if_pos rfl]
   | false=>
    have hni:next[k] ∉ out:=fun e=>by rw[JN.2 e] at hi;cases hi
    rw[if_pos (by decide),if_pos q0,qxj,qiM hB.pw (by omega),qxj,if_pos q0,qxj,q1B hL hll,qxj,q20,if_pos (by unfold maxLen;omega),if_neg (by decide)]
    unfold qr1
    rw[hi,if_neg (by decide)]
  by_cases hi:inB out next[k]=true
  ·have h2:=hs rfl
   rw[if_pos hi] at h2
   rw[zC h2]
   exact nl7 hS hnx n (k+1) more out (by omega) (hB.old (JN.1 hi)) hm
  ·have h2:=hs rfl
   rw[if_neg hi] at h2
   have hni:next[k] ∉ out:=fun e=>hi (JN.2 e)
   have hB2:=hB.new hni
   rw[qif] at hB2
   rw[zC h2]
   have hf:=q6G hS.el next[k]
   have hpl:(qaM out next[k]).length=out.length+1:=by
    unfold qaM
    have:=qby next[k] out
    rw[qxq,qxu,qxM,qy4];omega
   obtain⟨more',out',g1,g2,g3,g4⟩:=nl7 hS hnx n (k+1) (more++qbr L next[k]) (qaM out next[k]) (by omega) hB2 (by rw[qxq,hpl];omega)
   have hlt:=qr4 hni (hB.rr _ qxy).uni
   refine⟨more',out',g1,g2,g3,.inl ?_⟩
   rcases g4 with g4|⟨-,g4⟩
   ·omega
   ·rw[g4];exact hlt
theorem qc9 (L:List qa) (next:List ByteArray):QK next L=zj L next:=by
 funext x
 rfl
theorem nl4 {L:List qa} (hS:Sml L) {c:ByteArray}:∀(n:Nat) (next out:List ByteArray),2*mo (ix L) out+next.length.min 1≤n→BI (ix L) c out [] next→next.length≤1000000000→
  ∃out',qT (zt L) (next,out)=some out'∧BI (ix L) c out' [] []
 | n,[],out,_,hB,_=>⟨out,qJ (by unfold zt;rfl),hB⟩
 | 0,x::next,out,hn,_,_=>by
  have:(x::next).length.min 1=1:=Nat.min_eq_right (by rw[qxu];omega)
  omega
 | n+1,x::next,out,hn,hB,hl=>by
  have h1:(x::next).length.min 1=1:=Nat.min_eq_right (by rw[qxu];omega)
  obtain⟨more',out',g1,g2,g3,g4⟩:=nl7 hS hl (x::next).length 0 [] out (by omega) (by rw[List.drop_zero];exact hB) (qxJ _)
  have ho:=g2.len hS
  rw[zC (y:=(more',out')) (by
   unfold zt
   dsimp only
   have g1':qT (zj L (x::next)) ([],(out,0))=_:=g1
   rw[if_pos (by rw[qxu];omega),qc9,g1',qxj])]
  have hm:more'.length.min 1≤1:=Nat.min_le_right _ _
  refine nl4 hS n more' out' ?_ g2.turn (by omega)
  rcases g4 with g4|⟨e1,e2⟩
  ·omega
  ·rw[e1,e2]
   have:([]:List ByteArray).length.min 1=0:=rfl
   omega
theorem q44 {L:List qa} (hS:Sml L) (c:ByteArray):∃r,Z3 L c=some r∧qs L c=some r∧r.Pairwise blt∧(∀x,x∈r↔Rc (ix L) c x)∧r.length≤1000000:=by
 have hL:L.length≤1000000:=by have:=hS.ln;omega
 have hf:=q6G hS.el c
 have hB:=BI.start (ix L) c
 rw[qif] at hB
 obtain⟨out,g1,g2⟩:=nl4 hS (2*mo (ix L) []+1) (qbr L c) [] (Nat.add_le_add_left (Nat.min_le_right _ _) _) hB (by omega)
 obtain⟨g3,g4⟩:=g2.done
 obtain⟨l,h1,h2,h3,h4⟩:=qee hS.ln (fun o ho=>(hS.el o ho).nd) hS.mx c
 have he:out=q00 l:=qc7 g3 (qhg h2) fun x=>(g4 x).trans ((h3 x).symm.trans (Zw l).mem_iff.symm)
 refine⟨out,?_,by rw[he];exact h1,g3,g4,g2.len hS⟩
 unfold Z3 QJ
 rw[q1B hL hS.ll,qxj,q20]
 cases hn:qbr L c with
 | nil=>
  rw[hn] at g1
  have h5:qT (zt L) ([],[])=some []:=qJ (by unfold zt;rfl)
  rw[h5] at g1
  rw[if_neg (by decide),qxj]
  exact g1
 | cons x next=>
  rw[hn] at g1 hB hf
  obtain⟨more',out',k1,k2,k3,k4⟩:=nl7 hS (next:=x::next) (by omega) (x::next).length 0 [] [] (by omega) (by rw[List.drop_zero];exact hB) (qxJ _)
  have k1':qT (zj L (x::next)) ([],([],0))=_:=k1
  rw[zC (y:=(more',out')) (by
   unfold zt
   dsimp only
   rw[if_pos (by rw[qxu];omega),qc9,k1',qxj])] at g1
  rw[if_pos (by rw[qxu];omega),k1',qxj,g1];rfl
open Classical in
theorem qgE {L:List qa} (hS:Sml L):qT (Q7 L) 0=some (if qf7 L then .inl () else .inr ()):=by
 have hL:L.length≤1000000:=by have:=hS.ln;omega
 have h:=q0d L (fun o=>decide (Rc (ix L) o.Code o.Code)) (Q7 L) (fun k o ho=>by
  have:=Qe ho
  obtain⟨r,h1,-,-,h4,h5⟩:=q44 hS o.Code
  unfold Q7
  rw[if_pos (by omega),if_pos (by omega),qxm,ho,qxj,h1,qxj,if_pos (by omega),qxj,q5n h5,qxj,qN this (by omega)]
  by_cases e:Rc (ix L) o.Code o.Code
  ·rw[JN.2 ((h4 _).2 e),qyi e];rfl
  ·rw[qxL.2 fun q=>e ((h4 _).1 (JN.1 q)),decide_eq_false e];rfl) (by unfold Q7;rw[if_neg (by omega)])
 rw[h]
 congr 1
 have hi:(L.any fun o=>decide (Rc (ix L) o.Code o.Code))=true↔qf7 L:=by
  rw[qyc]
  unfold qf7
  constructor
  ·rintro⟨o,h1,h2⟩
   exact⟨o.Code,qy2.2 ⟨o,h1,rfl⟩,of_decide_eq_true h2⟩
  ·rintro⟨c,h1,h2⟩
   obtain⟨o,h3,rfl⟩:=qy2.1 h1
   exact⟨o,h3,qyi h2⟩
 by_cases e:qf7 L
 ·rw[if_pos e,if_pos (hi.2 e)]
 ·rw[if_neg e,if_neg fun q=>e (hi.1 q)]
theorem qb4 {L:List qa} (hS:Sml L):J7 L=some (qbo L):=by
 have hL:L.length≤1000000:=by have:=hS.ln;omega
 unfold J7 qbo
 by_cases h60:60<L.length
 ·rw[if_pos (by omega),if_pos h60]
 rw[if_neg (by omega),if_neg h60]
 have h4:=qc4 hL hS.of (fun o ho=>(hS.el o ho).cd) L.length 0 none (by omega) rfl
 rw[List.drop_zero] at h4
 have h4':qT (zP L) 0=_:=h4
 rw[h4',qxj]
 by_cases hk:ckF none L=0
 ·rw[if_pos hk,if_neg (show ¬ (ckF none L≠0) from fun e=>e hk),Sum.elim_inr,qgi hL hS.ll,qxj]
  by_cases hm:qfK L
  ·rw[if_pos ((qeG (q0P hk)).2 hm),if_pos hm,Sum.elim_inl]
  ·rw[if_neg (fun e=>hm ((qeG (q0P hk)).1 e)),if_neg hm,Sum.elim_inr,qgE hS,qxj]
   by_cases hc:qf7 L
   ·rw[if_pos hc,if_pos hc,Sum.elim_inl]
   ·rw[if_neg hc,if_neg hc,Sum.elim_inr]
 ·rw[if_neg hk,if_pos hk,Sum.elim_inl]
theorem qgx {L:List qa} (hn:(L.map (·.Code)).Nodup) {o:qa} (ho:o∈L):q3Q L o.Code=(o,true):=by
 unfold q3Q qkZ
 cases h:L.find? (fun p=>decide (p.Code=o.Code)) with
 | none=>exact absurd (qyi rfl) (List.find?_eq_none.1 h o ho)
 | some p=>
  have h1:p.Code=o.Code:=by have h0:=List.find?_some h;exact of_decide_eq_true h0
  have h2:=List.mem_of_find?_eq_some h
  have h3:p=o:=by
   obtain⟨i,hi⟩:=List.mem_iff_getElem?.1 h2
   obtain⟨j,hj⟩:=List.mem_iff_getElem?.1 ho
   have hij:i=j:=by
    refine(List.getElem?_inj (l:=L.map (·.Code)) (by rw[qy0];exact Qe hi) hn).1 ?_
    rw[qxx,qxx,hi,hj];exact congrArg some h1
   subst hij
   rw[hi] at hj;injection hj
  rw[h3]
theorem ro6 {L:List qa} (hS:Sml L) (hn:(L.map (·.Code)).Nodup) {w:List ByteArray} (hw:w.length≤100000) {o:qa} (ho:nxO L w=some o):qT (Q1 w L) 0=some (w++[o.Code]):=by
 have hL:L.length≤1000000:=by have:=hS.ln;omega
 have h1:=q86 (ε:=List ByteArray) (step:=Q1 w L) L (fun i=>(i:Int)) (fun o=>if qgD w o=true then some (w++[o.Code]) else none) w (fun i a ha=>by
  have:=Qe ha
  have q0:(0:Int)≤(i:Int)∧(i:Int)<((L.length:Nat):Int):=⟨by omega,by omega⟩
  unfold Q1 qgD
  rw[if_pos q0.2,if_pos q0,qxm,ha,qxj,q5n (by omega),qxj,qN this (by omega)]
  cases hi:inB w a.Code with
  | true=>rw[if_neg (by decide),Bool.not_true,qyl,if_neg (by decide)]
  | false=>
   rw[if_pos (by decide),if_pos q0,qxj,q9J hL hS.ll _ (by omega),qxj,Bool.not_false,qxQ]
   unfold qlM
   rw[qgx hn (qxk ha),qxQ]
   show(if(a.Needs.all fun d=>inB w d)=true then _ else _)=_
   cases(a.Needs.all fun d=>inB w d) with
   | true=>rw[if_pos rfl,if_pos q0,qxj,if_pos (by unfold maxLen;omega),if_pos rfl]
   | false=>rw[if_neg (by decide),if_neg (by decide)]) (by unfold Q1;rw[if_neg (by omega)])
 have h2:qT (Q1 w L) 0=_:=h1
 rw[h2]
 have h3:∀l:List qa,(l.findSome? fun o=>if qgD w o=true then some (w++[o.Code]) else none)=(l.find? (qgD w)).map fun o=>w++[o.Code]:=by
  intro l
  induction l with
  | nil=>rfl
  | cons a l ih=>
   rw[List.findSome?_cons,List.find?_cons]
   cases h:qgD w a with
   | true=>rw[if_pos rfl];rfl
   | false=>rw[if_neg (by decide)];exact ih
 rw[h3,show L.find? (qgD w)=some o from ho];rfl
theorem ro4 {L:List qa} (hS:Sml L) (h:qbo L=0):∀(n:Nat) (w:List ByteArray),n+w.length=L.length→OrO L w→qT (Qk L) w=some (qh2 L n w)
 | 0,w,hn,hw=>by
  refine qJ ?_
  unfold Qk
  rw[if_neg (by omega)];rfl
 | n+1,w,hn,hw=>by
  have hL:=hS.ln
  obtain⟨h1,h2,h3,h4⟩:=q4J h
  obtain⟨o,ho,ho1,ho2,ho3⟩:=qet h (w:=w) (OrO.left (w:=w) (q0P h1) (by omega))
  rw[qh2,ho,zC (y:=w++[o.Code]) (by
   unfold Qk
   rw[if_pos (by omega),ro6 hS (q0P h1) (by omega) ho,qxj])]
  exact ro4 hS h n _ (by rw[qxq,qxB];omega) (hw.add ho1 ho2)
theorem qaH {L:List qa} (hS:Sml L):J6 L=some (qlm L):=by
 unfold J6 qlm
 rw[qb4 hS,qxj]
 by_cases h:qbo L=0
 ·rw[if_neg (by rw[h];decide),if_pos h]
  have h1:=ro4 hS h L.length [] (by simp) ⟨List.nodup_nil,fun c hc=>by cases hc⟩
  rw[h1];rfl
 ·rw[if_pos (by rw[bne_iff_ne];exact h),if_neg h]
theorem q9p {L:List qa}:∀(n:Nat) (w:List ByteArray),(qh2 L n w).length≤n+w.length
 | 0,w=>by rw[qh2];omega
 | n+1,w=>by
  rw[qh2]
  split
  ·have:=q9p (L:=L) n (w++[‹qa›.Code])
   rw[qxq,qxB] at this;omega
  ·omega
theorem qfQ (L:List qa):(qlm L).length≤L.length:=by
 unfold qlm
 split
 ·have:=q9p (L:=L) L.length [];simpa using this
 ·exact qxJ _
end
noncomputable section
open Go.RowKit
theorem qao (a:ByteArray) (n:Nat):(a.extract 0 n).size≤n:=by
 rw[ByteArray.size_extract];omega
theorem qbh (l:List ByteArray) (hl:l.length≤maxLen):∀(n k:Nat) (out:List ByteArray),n+k=7→k≤l.length→out.length≤k→(∀d∈out,d.size≤12)→∃r,qT (zS l) (out,(k:Int))=some r∧r.length≤7∧∀d∈r,d.size≤12:=by
 intro n
 induction n with
 | zero=>
  intro k out hk hkl ho hd
  refine⟨out,qJ ?_,by omega,hd⟩
  unfold zS
  dsimp only
  by_cases h:(k:Int)<((l.length:Nat):Int)
  ·rw[if_pos h,if_neg (by omega)]
  ·rw[if_neg h]
 | succ n ih=>
  intro k out hk hkl ho hd
  by_cases h:k<l.length
  ·have ha:=qxl h
   obtain⟨r,h1,h2⟩:=ih (k+1) (out++[ByteArray.extract l[k] 0 (Int.toNat (min ((ByteArray.size l[k]:Nat):Int) (12:Int)))]) (by omega) (by omega) (by rw[qxq,qxB];omega) (fun d hdm=>by
    rcases qxN.1 hdm with e|e
    ·exact hd d e
    ·rw[qy8] at e
     rw[e]
     have:=qao l[k] (Int.toNat (min ((ByteArray.size l[k]:Nat):Int) (12:Int)))
     omega)
   refine⟨r,?_,h2⟩
   rw[←h1]
   refine zC ?_
   unfold zS
   dsimp only
   rw[if_pos (by omega),if_pos (by omega),if_pos (by omega),qxm,ha,qxj,if_pos (by omega),qxj,if_pos (by omega),if_pos (by unfold maxLen;omega),qN (n:=10) (by omega) (by omega)]
  ·refine⟨out,qJ ?_,by omega,hd⟩
   unfold zS
   dsimp only
   rw[if_neg (by omega)]
theorem qgh {l:List ByteArray} (hl:l.length≤maxLen):∃r,Jc l=some r∧r.length≤7∧∀d∈r,d.size≤12:=by
 obtain⟨r,h1,h2⟩:=qbh l hl 7 0 [] rfl (qxJ _) (qxJ _) (fun d hd=>by cases hd)
 refine⟨r,?_,h2⟩
 have h1':qT (zS l) ([],0)=_:=h1
 unfold Jc
 rw[h1'];rfl
theorem qg6 (l:List qa) (hl:l.length≤maxLen) (hn:∀o∈l,o.Needs.length≤maxLen):∀(n k:Nat) (out:List qa),n+k=6→k≤l.length→out.length≤k→(∀o∈out,OSm o)→∃r,qT (Qf l) (out,(k:Int))=some r∧r.length≤6∧∀o∈r,OSm o:=by
 intro n
 induction n with
 | zero=>
  intro k out hk hkl ho hd
  refine⟨out,qJ ?_,by omega,hd⟩
  unfold Qf
  dsimp only
  by_cases h:(k:Int)<((l.length:Nat):Int)
  ·rw[if_pos h,if_neg (by omega)]
  ·rw[if_neg h]
 | succ n ih=>
  intro k out hk hkl ho hd
  by_cases h:k<l.length
  ·have ha:=qxl h
   obtain⟨t,t1,t2,t3⟩:=qgh (hn _ (qy9 h))
   obtain⟨r,h1,h2⟩:=ih (k+1) (out++[qa.mk (ByteArray.extract l[k].Code 0 (Int.toNat (min ((ByteArray.size l[k].Code:Nat):Int) (12:Int)))) l[k].Credits l[k].Places (List.take (Int.toNat (min ((l[k].Slots.length:Nat):Int) (6:Int))-0) l[k].Slots) t]) (by omega) (by omega) (by rw[qxq,qxB];omega) (fun o hdm=>by
    rcases qxN.1 hdm with e|e
    ·exact hd o e
    ·rw[qy8] at e
     rw[e]
     have:=qao l[k].Code (Int.toNat (min ((ByteArray.size l[k].Code:Nat):Int) (12:Int)))
     refine⟨?_,?_,?_,fun d hd=>?_⟩
     ·show(List.take _ _).length≤1000
      rw[qxM];omega
     ·show t.length≤1000
      omega
     ·show(ByteArray.extract _ _ _).size≤1000
      omega
     ·have:=t3 d hd;omega)
   refine⟨r,?_,h2⟩
   rw[←h1]
   refine zC ?_
   unfold Qf
   dsimp only
   rw[if_pos (by omega),if_pos (by omega),if_pos (by omega),qxm,ha,qxj,if_pos (by omega),if_pos (by omega),t1,qxj,if_pos (by unfold maxLen;omega),qN (n:=10) (by omega) (by omega)]
  ·refine⟨out,qJ ?_,by omega,hd⟩
   unfold Qf
   dsimp only
   rw[if_neg (by omega)]
theorem qoR {l:List qa} (hl:l.length≤maxLen) (hn:∀o∈l,o.Needs.length≤maxLen):∃r,q01 l=some r∧r.length≤6∧Sml r:=by
 obtain⟨r,h1,h2,h3⟩:=qg6 l hl hn 6 0 [] rfl (qxJ _) (qxJ _) (fun d hd=>by cases hd)
 refine⟨r,?_,h2,⟨by omega,h3⟩⟩
 have h1':qT (Qf l) ([],0)=_:=h1
 unfold q01
 rw[h1'];rfl
theorem q1P {c:ByteArray} (h:c∈qg):c.size≤1000:=by
 have:∀c∈qg,c.size≤1000:=by unfold qg;decide
 exact this c h
theorem qdj {M:List qa} (hM:q5S M):Sml M:=by
 refine⟨by have:=hM.1;omega,fun o ho=>?_⟩
 obtain⟨i,hi⟩:=List.mem_iff_getElem?.1 ho
 have h:=hM.2.1 i o hi
 refine⟨by have:=h.2.2.2.2.2.1.1;omega,by have:=h.2.2.2.2.2.2.1;omega,q1P h.1,fun d hd=>?_⟩
 obtain⟨j,p,-,hj,rfl⟩:=h.2.2.2.2.2.2.2.2 d hd
 exact q1P (hM.2.1 j p hj).1
end
noncomputable section
open Go.RowKit
def qcL (L:List qa) (hS:Sml L) (c:ByteArray):List ByteArray:=Classical.choose (q44 hS c)
theorem qgp {L:List qa} (hS:Sml L) (c:ByteArray):Z3 L c=some (qcL L hS c)∧qs L c=some (qcL L hS c)∧(qcL L hS c).Pairwise blt∧(∀x,x∈qcL L hS c↔Rc (ix L) c x)∧(qcL L hS c).length≤1000000:=Classical.choose_spec (q44 hS c)
end
noncomputable section
open Go.RowKit
structure OSb (b:Nat) (o:qa):Prop where
 sl:o.Slots.length≤b
 nd:o.Needs.length≤b
 cd:o.Code.size≤1000
 dn:∀d∈o.Needs,d.size≤1000
theorem OSb.sm {b:Nat} {o:qa} (h:OSb b o) (hb:b≤1000):OSm o:=⟨qxU h.sl hb,qxU h.nd hb,h.cd,h.dn⟩
theorem OSb.up {b c:Nat} {o:qa} (h:OSb b o) (hb:b≤c):OSb c o:=⟨qxU h.sl hb,qxU h.nd hb,h.cd,h.dn⟩
theorem qaN {α:Type} {f:α→α} {x:α} {l:List α} {i:Nat} (h:x∈l.modify i f):x∈l∨∃y∈l,x=f y:=by
 obtain⟨j,hj⟩:=List.mem_iff_getElem?.1 h
 rw[List.getElem?_modify] at hj
 cases hl:l[j]? with
 | none=>rw[hl] at hj;cases hj
 | some y=>
  rw[hl] at hj
  injection hj with hj
  split at hj
  ·exact .inr ⟨y,qxk hl,hj.symm⟩
  ·exact .inl (by rw[←hj];exact qxk hl)
def OdP (n b:Nat) (r:List qa):Prop:=r.length≤max n 61∧∀o∈r,OSb (b+1) o
theorem q15 {b:Nat} {L:List qa} (h:∀o∈L,OSb b o) {f:qa→qa} (hf:∀o∈L,OSb (b+1) (f o)) (i:Nat):OdP L.length b (L.modify i f):=by
 refine⟨by rw[List.length_modify];omega,fun o ho=>?_⟩
 rcases qaN ho with h1|⟨y,h1,rfl⟩
 ·exact(h o h1).up (by omega)
 ·exact hf y h1
theorem q53 {α:Type} {l:List α} {i:Int} (h0:0≤i) (h1:i<(l.length:Nat)):∃a,l[i.toNat]?=some a∧a∈l:=
 ⟨l[i.toNat]'(by omega),qxl (by omega),qy9 _⟩
theorem qbl {a n:Int} (h0:0≤a) (hn:0<n):0≤Int.tmod a n∧Int.tmod a n<n:=⟨Int.tmod_nonneg _ h0,Int.tmod_lt_of_pos _ hn⟩
theorem od3 (L:List qa) (q:q7k Int) (hL:L.length≤1000) (hs:∀o∈L,o.Slots.length≤1000000∧o.Needs.length≤1000000):qT (Qs q L) ([],0)=some L:=by
 have h:=qgQ (step:=Qs q L) (e:=L) (fun k=>(L.take k,(k:Int))) 0 L.length (qxJ _) (fun k _ hk=>by
  unfold Qs
  dsimp only
  rw[if_pos (by omega),if_pos (by omega),qxm,qxl hk,qxj,q7p (hs _ (qy9 hk)),qxj,if_pos (by rw[qxM];unfold maxLen;omega),qN hk (by omega),List.take_add_one,qxl hk]
  rfl) (by
  unfold Qs
  dsimp only
  rw[if_neg (by omega),List.take_length])
 exact h
theorem q6i (l:List Int):(strOf l).size=l.length:=by
 show((l.map fun n=>UInt8.ofNat n.toNat).toArray).size=_
 simp
theorem qwj (t:Int) (h0:0≤t):∀(n:Nat) (w:List qa),61≤w.length+n→w.length≤1000→∃r,qT (Qz t) w=some r∧r.length≤max w.length 61∧∀o∈r,o∈w∨OSb 6 o:=by
 have ht:=qbl (n:=2) h0 (by omega)
 have hw:w64 (60+Int.tmod t 2)=60+Int.tmod t 2:=ZT (by omega) (by omega)
 intro n
 induction n with
 | zero=>
  intro w h1 h2
  refine⟨w,qJ ?_,by omega,fun o ho => .inl ho⟩
  unfold Qz
  rw[hw,if_neg (by omega)]
 | succ n ih=>
  intro w h1 h2
  by_cases h3:((w.length:Nat):Int)<w64 (60+Int.tmod t 2)
  ·have h3':=h3
   rw[hw] at h3'
   refine Exists.elim (ih (w++[qa.mk (ByteArray.mk (List.toArray [89])++strOf [IntKind.wrap IntKind.u8 (w64 ((65:Int)+w64 (Int.tdiv ((w.length:Nat):Int) (10:Int)))),IntKind.wrap IntKind.u8 (w64 ((48:Int)+Int.tmod ((w.length:Nat):Int) (10:Int)))]) (1:Int) (0:Int) [] []]) (by rw[qxq,qxB];omega) (by rw[qxq,qxB];omega)) fun r hr=>?_
   obtain⟨g1,g2,g3⟩:=hr
   rw[qxq,qxB] at g2
   refine⟨r,?_,by omega,fun o ho=>?_⟩
   ·rw[←g1]
    refine zC ?_
    unfold Qz
    rw[if_pos h3,if_pos (by rw[q6i];show 1+2≤_;omega),if_pos (by unfold maxLen;omega)]
   ·rcases g3 o ho with g|g
    ·rcases qxN.1 g with g|g
     ·exact .inl g
     ·rw[qy8] at g
      subst g
      refine .inr ⟨qxJ _,qxJ _,?_,fun d hd=>by cases hd⟩
      show(ByteArray.mk (List.toArray [89])++strOf _).size≤1000
      rw[ByteArray.size_append,q6i]
      show 1+2≤1000
      omega
    ·exact .inr g
  ·refine⟨w,qJ ?_,by omega,fun o ho => .inl ho⟩
   unfold Qz
   rw[if_neg h3]
theorem qwo {c:ByteArray} (h:c∈[ByteArray.mk (List.toArray []),ByteArray.mk (List.toArray [97]),ByteArray.mk (List.toArray [65,66,67,68,69,70,71,72,73]),ByteArray.mk (List.toArray [65,49]),ByteArray.mk (List.toArray [66,50]),ByteArray.mk (List.toArray [90]),ByteArray.mk (List.toArray [65,66,67,68,69,70,71,72]),ByteArray.mk (List.toArray [65,32,49])]):c.size≤1000:=by
 have:∀c∈[ByteArray.mk (List.toArray []),ByteArray.mk (List.toArray [97]),ByteArray.mk (List.toArray [65,66,67,68,69,70,71,72,73]),ByteArray.mk (List.toArray [65,49]),ByteArray.mk (List.toArray [66,50]),ByteArray.mk (List.toArray [90]),ByteArray.mk (List.toArray [65,66,67,68,69,70,71,72]),ByteArray.mk (List.toArray [65,32,49])],c.size≤1000:=by decide
 exact this c h
theorem qx5 {c:ByteArray} (h:c∈[ByteArray.mk (List.toArray [65,49]),ByteArray.mk (List.toArray [66,49]),ByteArray.mk (List.toArray [66,50]),ByteArray.mk (List.toArray [67,49]),ByteArray.mk (List.toArray [68,49]),ByteArray.mk (List.toArray [69,57])]):c.size≤1000:=q1P h
theorem qh8 (x:Bool):((if(!x)=true then true else false)||x)=true:=by cases x<;>rfl
theorem qhY {L:List qa} {b:Nat} (hb:6≤b) (hb2:b≤100) (hL:L.length≤100) (hS:∀o∈L,OSb b o) (q:q7k Int):∃r,Zr L q=some r∧OdP L.length b r:=by
 have hs:∀o∈L,o.Slots.length≤1000000∧o.Needs.length≤1000000:=fun o ho=>⟨by have:=(hS o ho).sl;omega,by have:=(hS o ho).nd;omega⟩
 unfold Zr
 rw[od3 L q (by omega) hs,qxj]
 by_cases h0:L.length=0
 ·rw[if_pos (by rw[h0];rfl)]
  exact⟨L,rfl,by omega,fun o ho=>(hS o ho).up (by omega)⟩
 rw[if_neg (by rw[beq_iff_eq];omega)]
 obtain⟨a2,e2,l2,u2⟩:=q9m q.a1 72 (by omega) (by omega)
 obtain⟨a3,e3,l3,u3⟩:=q9m q.a2 ((L.length:Nat):Int) (by omega) (by omega)
 obtain⟨a4,e4,l4,u4⟩:=q9m q.a0 11 (by omega) (by omega)
 rw[e2,qxj,e3,qxj,if_pos ⟨l3,u3⟩,e4,qxj]
 obtain⟨o3,g3,m3⟩:=q53 (l:=L) l3 u3
 have hi:a3.toNat<L.length:=by omega
 by_cases c0:a4=0
 ·have t:=qbl (n:=8) l2 (by omega)
  obtain⟨c,g,m⟩:=q53 (l:=[ByteArray.mk (List.toArray []),ByteArray.mk (List.toArray [97]),ByteArray.mk (List.toArray [65,66,67,68,69,70,71,72,73]),ByteArray.mk (List.toArray [65,49]),ByteArray.mk (List.toArray [66,50]),ByteArray.mk (List.toArray [90]),ByteArray.mk (List.toArray [65,66,67,68,69,70,71,72]),ByteArray.mk (List.toArray [65,32,49])]) t.1 t.2
  rw[if_pos (by rw[c0];rfl),if_pos t,g,qxj,if_pos (by omega)]
  refine⟨_,rfl,?_⟩
  refine q15 hS ?_ _
  exact fun o ho=>⟨by have:=(hS o ho).sl;show o.Slots.length≤_;omega,by have:=(hS o ho).nd;show o.Needs.length≤_;omega,qwo m,(hS o ho).dn⟩
 rw[if_neg (by rw[beq_iff_eq];exact c0)]
 by_cases c1:a4=1
 ·rw[if_pos (by rw[c1];rfl),if_pos (by omega)]
  refine⟨_,rfl,?_⟩
  refine q15 hS ?_ _
  exact fun o ho=>⟨by have:=(hS o ho).sl;show o.Slots.length≤_;omega,by have:=(hS o ho).nd;show o.Needs.length≤_;omega,(hS o ho).cd,(hS o ho).dn⟩
 rw[if_neg (by rw[beq_iff_eq];exact c1)]
 by_cases c2:a4=2
 ·have t:=qbl (n:=4) l2 (by omega)
  obtain⟨c,g,m⟩:=q53 (l:=[(-(1:Int)),(0:Int),(200:Int),(201:Int)]) t.1 t.2
  rw[if_pos (by rw[c2];rfl),if_pos t,g,qxj,if_pos (by omega)]
  refine⟨_,rfl,?_⟩
  refine q15 hS ?_ _
  exact fun o ho=>⟨by have:=(hS o ho).sl;show o.Slots.length≤_;omega,by have:=(hS o ho).nd;show o.Needs.length≤_;omega,(hS o ho).cd,(hS o ho).dn⟩
 rw[if_neg (by rw[beq_iff_eq];exact c2)]
 have b1:=(hS o3 m3).sl
 have b2:=(hS o3 m3).nd
 have b3:=(hS o3 m3).dn
 by_cases c3:a4=3
 ·rw[if_pos (by rw[c3];rfl),g3,qxj,if_pos (by unfold maxLen;omega),if_pos (by omega)]
  refine⟨_,rfl,?_⟩
  refine q15 hS ?_ _
  exact fun o ho=>⟨by show(o3.Slots++[_]).length≤_;rw[qxq,qxB];omega,by have:=(hS o ho).nd;show o.Needs.length≤_;omega,(hS o ho).cd,(hS o ho).dn⟩
 rw[if_neg (by rw[beq_iff_eq];exact c3)]
 by_cases c4:a4=4
 ·rw[if_pos (by rw[c4];rfl),g3,qxj,if_pos (by unfold maxLen;omega),if_pos (by omega)]
  refine⟨_,rfl,?_⟩
  refine q15 hS ?_ _
  exact fun o ho=>⟨by show(o3.Slots++[_]).length≤_;rw[qxq,qxB];omega,by have:=(hS o ho).nd;show o.Needs.length≤_;omega,(hS o ho).cd,(hS o ho).dn⟩
 rw[if_neg (by rw[beq_iff_eq];exact c4)]
 have t6:=qbl (n:=6) l2 (by omega)
 have t6':0≤Int.tmod a2 6∧Int.tmod a2 6<((qg.length:Nat):Int):=t6
 obtain⟨c,gc,mc⟩:=q53 (l:=qg) t6'.1 t6'.2
 by_cases c5:a4=5
 ·rw[if_pos (by rw[c5];rfl),g3,qxj,qxj,if_pos t6',gc,qxj,if_pos (by unfold maxLen;omega),if_pos (qh8 _),if_pos (by omega)]
  refine⟨_,rfl,?_⟩
  refine q15 hS ?_ _
  exact fun o ho=>⟨by have:=(hS o ho).sl;show o.Slots.length≤_;omega,by show(o3.Needs++[_]).length≤_;rw[qxq,qxB];omega,(hS o ho).cd,fun d hd=>by
   rcases qxN.1 hd with e|e
   ·exact b3 d e
   ·rw[qy8] at e;rw[e];exact q1P mc⟩
 rw[if_neg (by rw[beq_iff_eq];exact c5)]
 by_cases c6:a4=6
 ·rw[if_pos (by rw[c6];rfl),if_pos t6',gc,qxj,if_pos (by omega)]
  refine⟨_,rfl,?_⟩
  refine q15 hS ?_ _
  exact fun o ho=>⟨by have:=(hS o ho).sl;show o.Slots.length≤_;omega,by show 1≤b+1;omega,(hS o ho).cd,fun d hd=>by rw[qy8.1 hd];exact q1P mc⟩
 rw[if_neg (by rw[beq_iff_eq];exact c6)]
 by_cases c7:a4=7
 ·rw[if_pos (by rw[c7];rfl),g3,qxj,if_pos (by unfold maxLen;omega),if_pos (by omega)]
  refine⟨_,rfl,?_⟩
  refine q15 hS ?_ _
  exact fun o ho=>⟨by have:=(hS o ho).sl;show o.Slots.length≤_;omega,by show(o3.Needs++[_]).length≤_;rw[qxq,qxB];omega,(hS o ho).cd,fun d hd=>by
   rcases qxN.1 hd with e|e
   ·exact b3 d e
   ·rw[qy8] at e;rw[e];decide⟩
 rw[if_neg (by rw[beq_iff_eq];exact c7)]
 by_cases c8:a4=8
 ·have t7:=qbl (n:=7) l2 (by omega)
  rw[if_pos (by rw[c8];rfl),if_pos (by omega),if_pos (by omega)]
  refine⟨_,rfl,?_⟩
  refine q15 hS ?_ _
  exact fun o ho=>⟨by have:=(hS o ho).sl;show o.Slots.length≤_;omega,by show(List.take _ _).length≤_;rw[qxM];show min _ 6≤_;omega,(hS o ho).cd,fun d hd=>qx5 (List.mem_of_mem_take hd)⟩
 rw[if_neg (by rw[beq_iff_eq];exact c8)]
 by_cases c9:a4=9
 ·have t:=qbl (n:=((L.length:Nat):Int)) l2 (by omega)
  obtain⟨o4,g4,m4⟩:=q53 (l:=L) t.1 t.2
  rw[if_pos (by rw[c9];rfl),if_neg (by omega),if_pos t,g4,qxj,g3,qxj,if_pos (by omega),if_pos t,if_pos (by omega)]
  refine⟨_,rfl,by rw[qy3,qy3];omega,fun o ho=>?_⟩
  rcases List.mem_or_eq_of_mem_set ho with e|e
  ·rcases List.mem_or_eq_of_mem_set e with e|e
   ·exact(hS o e).up (by omega)
   ·rw[e];exact(hS _ m4).up (by omega)
  ·rw[e];exact(hS _ m3).up (by omega)
 rw[if_neg (by rw[beq_iff_eq];exact c9)]
 have c10:a4=10:=by omega
 obtain⟨r,r1,r2,r3⟩:=qwj a2 l2 61 L (by omega) (by omega)
 rw[if_pos (by rw[c10];rfl),r1,qxj]
 refine⟨r,rfl,r2,fun o ho=>?_⟩
 rcases r3 o ho with e|e
 ·exact(hS o e).up (by omega)
 ·exact e.up (by omega)
theorem qo5 {M:List qa} (hM:q5S M):∀o∈M,OSb 6 o:=fun o ho=>by
 have h:=(qdj hM).el o ho
 obtain⟨i,hi⟩:=List.mem_iff_getElem?.1 ho
 have h2:=hM.2.1 i o hi
 exact⟨h2.2.2.2.2.2.1.1,by have:=h2.2.2.2.2.2.2.1;omega,h.cd,h.dn⟩
theorem qjm (x0:List Int) (h:x0.length≤maxLen) (p q:q7k Int):∃M one two,ZU x0=some M∧q5S M∧Zr M p=some one∧Zr one q=some two∧Sml one∧Sml two∧one.length≤61∧two.length≤61:=by
 obtain⟨M,h1,hM⟩:=qjK x0 h
 have h6:=hM.1
 obtain⟨one,h2,h3,h4⟩:=qhY (qxz 6) (by omega) (by omega) (qo5 hM) p
 have h3':one.length≤61:=by omega
 obtain⟨two,h5,h7,h8⟩:=qhY (b:=7) (by omega) (by omega) (by omega) h4 q
 have h7':two.length≤61:=by omega
 exact⟨M,one,two,h1,hM,h2,h5,⟨by omega,fun o ho=>(h4 o ho).sm (by omega)⟩,⟨by omega,fun o ho=>(h8 o ho).sm (by omega)⟩,h3',h7'⟩
end
noncomputable section
open Go.RowKit
set_option maxRecDepth 20000
set_option maxHeartbeats 8000000
theorem lo8:okL 8 qkn:=qW (qc bd8) (by kernel_rfl) (by kernel_rfl)
def cx8:=JA_ @qkn.eq_1 (JA_ @Try.f8.eq_1 @bd8)
def Ze:Option Bool:=Option.bind (z7 [qa.mk (ByteArray.mk (List.toArray [65,49])) 5 30 [(1:Int),2] [],qa.mk (ByteArray.mk (List.toArray [66,49])) 6 10 [(2:Int)] [ByteArray.mk (List.toArray [65,49])],qa.mk (ByteArray.mk (List.toArray [66,50])) 3 0 [] [],qa.mk (ByteArray.mk (List.toArray [67,49])) 10 200 [(40:Int)] [ByteArray.mk (List.toArray [66,49]),ByteArray.mk (List.toArray [66,50])]]) fun(a:Int)=>if(a==0)=Bool.true then Option.bind (z7 [qa.mk (ByteArray.mk (List.toArray [65,49])) 5 30 [(1:Int),2] [],qa.mk (ByteArray.mk (List.toArray [66,50])) 6 10 [(2:Int)] [ByteArray.mk (List.toArray [65,49])],qa.mk (ByteArray.mk (List.toArray [66,50])) 3 0 [] [],qa.mk (ByteArray.mk (List.toArray [67,49])) 10 200 [(40:Int)] [ByteArray.mk (List.toArray [66,49]),ByteArray.mk (List.toArray [66,50])]]) fun(a2:Int)=>if(a2==6)=Bool.true then Option.bind (z7 [qa.mk (ByteArray.mk (List.toArray [65,49])) 5 30 [(1:Int),2] [ByteArray.mk (List.toArray [67,49])],qa.mk (ByteArray.mk (List.toArray [66,49])) 6 10 [(2:Int)] [ByteArray.mk (List.toArray [65,49])],qa.mk (ByteArray.mk (List.toArray [66,50])) 3 0 [] [],qa.mk (ByteArray.mk (List.toArray [67,49])) 10 200 [(40:Int)] [ByteArray.mk (List.toArray [66,49]),ByteArray.mk (List.toArray [66,50])]]) fun(a3:Int)=>if(a3==14)=Bool.true then Option.bind (z7 [qa.mk (ByteArray.mk (List.toArray [65,49])) 5 30 [(1:Int),2] [],qa.mk (ByteArray.mk (List.toArray [66,49])) 6 10 [(2:Int)] [ByteArray.mk (List.toArray [65,49])],qa.mk (ByteArray.mk (List.toArray [66,50])) 3 0 [] [ByteArray.mk (List.toArray [88])],qa.mk (ByteArray.mk (List.toArray [67,49])) 10 200 [(40:Int)] [ByteArray.mk (List.toArray [66,49]),ByteArray.mk (List.toArray [66,50])]]) fun(a4:Int)=>if(a4==5)=Bool.true then Option.bind (z7 [qa.mk (ByteArray.mk (List.toArray [65,49])) 5 30 [(1:Int),2] [],qa.mk (ByteArray.mk (List.toArray [66,49])) 6 10 [(2:Int)] [ByteArray.mk (List.toArray [65,49])],qa.mk (ByteArray.mk (List.toArray [66,50])) 3 0 [] [],qa.mk (ByteArray.mk (List.toArray [67,49])) 61 200 [(40:Int)] [ByteArray.mk (List.toArray [66,49]),ByteArray.mk (List.toArray [66,50])]]) fun(a5:Int)=>Option.bind (qs [qa.mk (ByteArray.mk (List.toArray [65,49])) 5 30 [(1:Int),2] [],qa.mk (ByteArray.mk (List.toArray [66,49])) 6 10 [(2:Int)] [ByteArray.mk (List.toArray [65,49])],qa.mk (ByteArray.mk (List.toArray [66,50])) 3 0 [] [],qa.mk (ByteArray.mk (List.toArray [67,49])) 10 200 [(40:Int)] [ByteArray.mk (List.toArray [66,49]),ByteArray.mk (List.toArray [66,50])]] (ByteArray.mk (List.toArray [67,49]))) fun(a6:List ByteArray)=>Option.bind (qp a6 [ByteArray.mk (List.toArray [65,49]),ByteArray.mk (List.toArray [66,49]),ByteArray.mk (List.toArray [66,50])]) fun(a7:Bool)=>if a7=Bool.true then Option.bind (qs [qa.mk (ByteArray.mk (List.toArray [65,49])) 5 30 [(1:Int),2] [],qa.mk (ByteArray.mk (List.toArray [66,49])) 6 10 [(2:Int)] [ByteArray.mk (List.toArray [65,49])],qa.mk (ByteArray.mk (List.toArray [66,50])) 3 0 [] [],qa.mk (ByteArray.mk (List.toArray [67,49])) 10 200 [(40:Int)] [ByteArray.mk (List.toArray [66,49]),ByteArray.mk (List.toArray [66,50])]] (ByteArray.mk (List.toArray [65,49]))) fun(a8:List ByteArray)=>Option.bind (qs [qa.mk (ByteArray.mk (List.toArray [65,49])) 5 30 [(1:Int),2] [],qa.mk (ByteArray.mk (List.toArray [66,49])) 6 10 [(2:Int)] [ByteArray.mk (List.toArray [65,49])],qa.mk (ByteArray.mk (List.toArray [66,50])) 3 0 [] [],qa.mk (ByteArray.mk (List.toArray [67,49])) 10 200 [(40:Int)] [ByteArray.mk (List.toArray [66,49]),ByteArray.mk (List.toArray [66,50])]] (ByteArray.mk (List.toArray [88]))) fun(a9:List ByteArray)=>if(w64 (((a8.length:Nat):Int)+((a9.length:Nat):Int))==0)=Bool.true then Option.bind (zo [qa.mk (ByteArray.mk (List.toArray [65,49])) 5 30 [(1:Int),2] [],qa.mk (ByteArray.mk (List.toArray [66,49])) 6 10 [(2:Int)] [ByteArray.mk (List.toArray [65,49])],qa.mk (ByteArray.mk (List.toArray [66,50])) 3 0 [] [],qa.mk (ByteArray.mk (List.toArray [67,49])) 10 200 [(40:Int)] [ByteArray.mk (List.toArray [66,49]),ByteArray.mk (List.toArray [66,50])]]) fun(a10:List ByteArray)=>Option.bind (qp a10 [ByteArray.mk (List.toArray [65,49]),ByteArray.mk (List.toArray [66,49]),ByteArray.mk (List.toArray [66,50]),ByteArray.mk (List.toArray [67,49])]) fun(a11:Bool)=>Option.bind (qd [qa.mk (ByteArray.mk (List.toArray [65,49])) 5 30 [(1:Int),2] [],qa.mk (ByteArray.mk (List.toArray [66,49])) 6 10 [(2:Int)] [ByteArray.mk (List.toArray [65,49])],qa.mk (ByteArray.mk (List.toArray [66,50])) 3 0 [] [],qa.mk (ByteArray.mk (List.toArray [67,49])) 10 200 [(40:Int)] [ByteArray.mk (List.toArray [66,49]),ByteArray.mk (List.toArray [66,50])]] (ByteArray.mk (List.toArray [66,49])) [ByteArray.mk (List.toArray [65,49])]) fun(a12:Bool)=>if a12=Bool.true then Option.bind (qd [qa.mk (ByteArray.mk (List.toArray [65,49])) 5 30 [(1:Int),2] [],qa.mk (ByteArray.mk (List.toArray [66,49])) 6 10 [(2:Int)] [ByteArray.mk (List.toArray [65,49])],qa.mk (ByteArray.mk (List.toArray [66,50])) 3 0 [] [],qa.mk (ByteArray.mk (List.toArray [67,49])) 10 200 [(40:Int)] [ByteArray.mk (List.toArray [66,49]),ByteArray.mk (List.toArray [66,50])]] (ByteArray.mk (List.toArray [67,49])) [ByteArray.mk (List.toArray [65,49]),ByteArray.mk (List.toArray [66,49])]) fun(a13:Bool)=>if(!a13)=Bool.true then Option.bind (qd [qa.mk (ByteArray.mk (List.toArray [65,49])) 5 30 [(1:Int),2] [],qa.mk (ByteArray.mk (List.toArray [66,49])) 6 10 [(2:Int)] [ByteArray.mk (List.toArray [65,49])],qa.mk (ByteArray.mk (List.toArray [66,50])) 3 0 [] [],qa.mk (ByteArray.mk (List.toArray [67,49])) 10 200 [(40:Int)] [ByteArray.mk (List.toArray [66,49]),ByteArray.mk (List.toArray [66,50])]] (ByteArray.mk (List.toArray [88])) []) fun(a14:Bool)=>if(!a14)=Bool.true then Option.bind (qe (qa.mk (ByteArray.mk (List.toArray [65,49])) 5 30 [(1:Int),2] []) (qa.mk (ByteArray.mk (List.toArray [66,49])) 6 10 [(2:Int)] [ByteArray.mk (List.toArray [65,49])])) fun(a15:Bool)=>if a15=Bool.true then Option.bind (qe (qa.mk (ByteArray.mk (List.toArray [66,49])) 6 10 [(2:Int)] [ByteArray.mk (List.toArray [65,49])]) (qa.mk (ByteArray.mk (List.toArray [66,50])) 3 0 [] [])) fun(a16:Bool)=>if(a5==3)=Bool.true then if a11=Bool.true then if(!a16)=Bool.true then Option.bind (zr (ByteArray.mk (List.toArray [65,49]))) fun(a17:Bool)=>if a17=Bool.true then Option.bind (zr (ByteArray.mk (List.toArray [97,49]))) fun(a18:Bool)=>if(!a18)=Bool.true then Option.bind (zr (ByteArray.mk (List.toArray []))) fun(a19:Bool)=>some (!a19) else some Bool.false else some Bool.false else some Bool.false else some Bool.false else some Bool.false else some Bool.false else some Bool.false else some Bool.false else some Bool.false else Option.bind (qd [qa.mk (ByteArray.mk (List.toArray [65,49])) 5 30 [(1:Int),2] [],qa.mk (ByteArray.mk (List.toArray [66,49])) 6 10 [(2:Int)] [ByteArray.mk (List.toArray [65,49])],qa.mk (ByteArray.mk (List.toArray [66,50])) 3 0 [] [],qa.mk (ByteArray.mk (List.toArray [67,49])) 10 200 [(40:Int)] [ByteArray.mk (List.toArray [66,49]),ByteArray.mk (List.toArray [66,50])]] (ByteArray.mk (List.toArray [66,49])) [ByteArray.mk (List.toArray [65,49])]) fun(a20:Bool)=>if a20=Bool.true then Option.bind (qd [qa.mk (ByteArray.mk (List.toArray [65,49])) 5 30 [(1:Int),2] [],qa.mk (ByteArray.mk (List.toArray [66,49])) 6 10 [(2:Int)] [ByteArray.mk (List.toArray [65,49])],qa.mk (ByteArray.mk (List.toArray [66,50])) 3 0 [] [],qa.mk (ByteArray.mk (List.toArray [67,49])) 10 200 [(40:Int)] [ByteArray.mk (List.toArray [66,49]),ByteArray.mk (List.toArray [66,50])]] (ByteArray.mk (List.toArray [67,49])) [ByteArray.mk (List.toArray [65,49]),ByteArray.mk (List.toArray [66,49])]) fun(a21:Bool)=>if(!a21)=Bool.true then Option.bind (qd [qa.mk (ByteArray.mk (List.toArray [65,49])) 5 30 [(1:Int),2] [],qa.mk (ByteArray.mk (List.toArray [66,49])) 6 10 [(2:Int)] [ByteArray.mk (List.toArray [65,49])],qa.mk (ByteArray.mk (List.toArray [66,50])) 3 0 [] [],qa.mk (ByteArray.mk (List.toArray [67,49])) 10 200 [(40:Int)] [ByteArray.mk (List.toArray [66,49]),ByteArray.mk (List.toArray [66,50])]] (ByteArray.mk (List.toArray [88])) []) fun(a22:Bool)=>if(!a22)=Bool.true then Option.bind (qe (qa.mk (ByteArray.mk (List.toArray [65,49])) 5 30 [(1:Int),2] []) (qa.mk (ByteArray.mk (List.toArray [66,49])) 6 10 [(2:Int)] [ByteArray.mk (List.toArray [65,49])])) fun(a23:Bool)=>if a23=Bool.true then Option.bind (qe (qa.mk (ByteArray.mk (List.toArray [66,49])) 6 10 [(2:Int)] [ByteArray.mk (List.toArray [65,49])]) (qa.mk (ByteArray.mk (List.toArray [66,50])) 3 0 [] [])) fun(a24:Bool)=>some Bool.false else some Bool.false else some Bool.false else some Bool.false else some Bool.false else Option.bind (qd [qa.mk (ByteArray.mk (List.toArray [65,49])) 5 30 [(1:Int),2] [],qa.mk (ByteArray.mk (List.toArray [66,49])) 6 10 [(2:Int)] [ByteArray.mk (List.toArray [65,49])],qa.mk (ByteArray.mk (List.toArray [66,50])) 3 0 [] [],qa.mk (ByteArray.mk (List.toArray [67,49])) 10 200 [(40:Int)] [ByteArray.mk (List.toArray [66,49]),ByteArray.mk (List.toArray [66,50])]] (ByteArray.mk (List.toArray [66,49])) [ByteArray.mk (List.toArray [65,49])]) fun(a25:Bool)=>if a25=Bool.true then Option.bind (qd [qa.mk (ByteArray.mk (List.toArray [65,49])) 5 30 [(1:Int),2] [],qa.mk (ByteArray.mk (List.toArray [66,49])) 6 10 [(2:Int)] [ByteArray.mk (List.toArray [65,49])],qa.mk (ByteArray.mk (List.toArray [66,50])) 3 0 [] [],qa.mk (ByteArray.mk (List.toArray [67,49])) 10 200 [(40:Int)] [ByteArray.mk (List.toArray [66,49]),ByteArray.mk (List.toArray [66,50])]] (ByteArray.mk (List.toArray [67,49])) [ByteArray.mk (List.toArray [65,49]),ByteArray.mk (List.toArray [66,49])]) fun(a26:Bool)=>if(!a26)=Bool.true then Option.bind (qd [qa.mk (ByteArray.mk (List.toArray [65,49])) 5 30 [(1:Int),2] [],qa.mk (ByteArray.mk (List.toArray [66,49])) 6 10 [(2:Int)] [ByteArray.mk (List.toArray [65,49])],qa.mk (ByteArray.mk (List.toArray [66,50])) 3 0 [] [],qa.mk (ByteArray.mk (List.toArray [67,49])) 10 200 [(40:Int)] [ByteArray.mk (List.toArray [66,49]),ByteArray.mk (List.toArray [66,50])]] (ByteArray.mk (List.toArray [88])) []) fun(a27:Bool)=>if(!a27)=Bool.true then Option.bind (qe (qa.mk (ByteArray.mk (List.toArray [65,49])) 5 30 [(1:Int),2] []) (qa.mk (ByteArray.mk (List.toArray [66,49])) 6 10 [(2:Int)] [ByteArray.mk (List.toArray [65,49])])) fun(a28:Bool)=>if a28=Bool.true then Option.bind (qe (qa.mk (ByteArray.mk (List.toArray [66,49])) 6 10 [(2:Int)] [ByteArray.mk (List.toArray [65,49])]) (qa.mk (ByteArray.mk (List.toArray [66,50])) 3 0 [] [])) fun(a29:Bool)=>some Bool.false else some Bool.false else some Bool.false else some Bool.false else some Bool.false else Option.bind (qs [qa.mk (ByteArray.mk (List.toArray [65,49])) 5 30 [(1:Int),2] [],qa.mk (ByteArray.mk (List.toArray [66,49])) 6 10 [(2:Int)] [ByteArray.mk (List.toArray [65,49])],qa.mk (ByteArray.mk (List.toArray [66,50])) 3 0 [] [],qa.mk (ByteArray.mk (List.toArray [67,49])) 10 200 [(40:Int)] [ByteArray.mk (List.toArray [66,49]),ByteArray.mk (List.toArray [66,50])]] (ByteArray.mk (List.toArray [67,49]))) fun(a30:List ByteArray)=>Option.bind (qp a30 [ByteArray.mk (List.toArray [65,49]),ByteArray.mk (List.toArray [66,49]),ByteArray.mk (List.toArray [66,50])]) fun(a31:Bool)=>if a31=Bool.true then Option.bind (qs [qa.mk (ByteArray.mk (List.toArray [65,49])) 5 30 [(1:Int),2] [],qa.mk (ByteArray.mk (List.toArray [66,49])) 6 10 [(2:Int)] [ByteArray.mk (List.toArray [65,49])],qa.mk (ByteArray.mk (List.toArray [66,50])) 3 0 [] [],qa.mk (ByteArray.mk (List.toArray [67,49])) 10 200 [(40:Int)] [ByteArray.mk (List.toArray [66,49]),ByteArray.mk (List.toArray [66,50])]] (ByteArray.mk (List.toArray [65,49]))) fun(a32:List ByteArray)=>Option.bind (qs [qa.mk (ByteArray.mk (List.toArray [65,49])) 5 30 [(1:Int),2] [],qa.mk (ByteArray.mk (List.toArray [66,49])) 6 10 [(2:Int)] [ByteArray.mk (List.toArray [65,49])],qa.mk (ByteArray.mk (List.toArray [66,50])) 3 0 [] [],qa.mk (ByteArray.mk (List.toArray [67,49])) 10 200 [(40:Int)] [ByteArray.mk (List.toArray [66,49]),ByteArray.mk (List.toArray [66,50])]] (ByteArray.mk (List.toArray [88]))) fun(a33:List ByteArray)=>if(w64 (((a32.length:Nat):Int)+((a33.length:Nat):Int))==0)=Bool.true then Option.bind (zo [qa.mk (ByteArray.mk (List.toArray [65,49])) 5 30 [(1:Int),2] [],qa.mk (ByteArray.mk (List.toArray [66,49])) 6 10 [(2:Int)] [ByteArray.mk (List.toArray [65,49])],qa.mk (ByteArray.mk (List.toArray [66,50])) 3 0 [] [],qa.mk (ByteArray.mk (List.toArray [67,49])) 10 200 [(40:Int)] [ByteArray.mk (List.toArray [66,49]),ByteArray.mk (List.toArray [66,50])]]) fun(a34:List ByteArray)=>Option.bind (qp a34 [ByteArray.mk (List.toArray [65,49]),ByteArray.mk (List.toArray [66,49]),ByteArray.mk (List.toArray [66,50]),ByteArray.mk (List.toArray [67,49])]) fun(a35:Bool)=>Option.bind (qd [qa.mk (ByteArray.mk (List.toArray [65,49])) 5 30 [(1:Int),2] [],qa.mk (ByteArray.mk (List.toArray [66,49])) 6 10 [(2:Int)] [ByteArray.mk (List.toArray [65,49])],qa.mk (ByteArray.mk (List.toArray [66,50])) 3 0 [] [],qa.mk (ByteArray.mk (List.toArray [67,49])) 10 200 [(40:Int)] [ByteArray.mk (List.toArray [66,49]),ByteArray.mk (List.toArray [66,50])]] (ByteArray.mk (List.toArray [66,49])) [ByteArray.mk (List.toArray [65,49])]) fun(a36:Bool)=>if a36=Bool.true then Option.bind (qd [qa.mk (ByteArray.mk (List.toArray [65,49])) 5 30 [(1:Int),2] [],qa.mk (ByteArray.mk (List.toArray [66,49])) 6 10 [(2:Int)] [ByteArray.mk (List.toArray [65,49])],qa.mk (ByteArray.mk (List.toArray [66,50])) 3 0 [] [],qa.mk (ByteArray.mk (List.toArray [67,49])) 10 200 [(40:Int)] [ByteArray.mk (List.toArray [66,49]),ByteArray.mk (List.toArray [66,50])]] (ByteArray.mk (List.toArray [67,49])) [ByteArray.mk (List.toArray [65,49]),ByteArray.mk (List.toArray [66,49])]) fun(a37:Bool)=>if(!a37)=Bool.true then Option.bind (qd [qa.mk (ByteArray.mk (List.toArray [65,49])) 5 30 [(1:Int),2] [],qa.mk (ByteArray.mk (List.toArray [66,49])) 6 10 [(2:Int)] [ByteArray.mk (List.toArray [65,49])],qa.mk (ByteArray.mk (List.toArray [66,50])) 3 0 [] [],qa.mk (ByteArray.mk (List.toArray [67,49])) 10 200 [(40:Int)] [ByteArray.mk (List.toArray [66,49]),ByteArray.mk (List.toArray [66,50])]] (ByteArray.mk (List.toArray [88])) []) fun(a38:Bool)=>if(!a38)=Bool.true then Option.bind (qe (qa.mk (ByteArray.mk (List.toArray [65,49])) 5 30 [(1:Int),2] []) (qa.mk (ByteArray.mk (List.toArray [66,49])) 6 10 [(2:Int)] [ByteArray.mk (List.toArray [65,49])])) fun(a39:Bool)=>if a39=Bool.true then Option.bind (qe (qa.mk (ByteArray.mk (List.toArray [66,49])) 6 10 [(2:Int)] [ByteArray.mk (List.toArray [65,49])]) (qa.mk (ByteArray.mk (List.toArray [66,50])) 3 0 [] [])) fun(a40:Bool)=>some Bool.false else some Bool.false else some Bool.false else some Bool.false else some Bool.false else Option.bind (qd [qa.mk (ByteArray.mk (List.toArray [65,49])) 5 30 [(1:Int),2] [],qa.mk (ByteArray.mk (List.toArray [66,49])) 6 10 [(2:Int)] [ByteArray.mk (List.toArray [65,49])],qa.mk (ByteArray.mk (List.toArray [66,50])) 3 0 [] [],qa.mk (ByteArray.mk (List.toArray [67,49])) 10 200 [(40:Int)] [ByteArray.mk (List.toArray [66,49]),ByteArray.mk (List.toArray [66,50])]] (ByteArray.mk (List.toArray [66,49])) [ByteArray.mk (List.toArray [65,49])]) fun(a41:Bool)=>if a41=Bool.true then Option.bind (qd [qa.mk (ByteArray.mk (List.toArray [65,49])) 5 30 [(1:Int),2] [],qa.mk (ByteArray.mk (List.toArray [66,49])) 6 10 [(2:Int)] [ByteArray.mk (List.toArray [65,49])],qa.mk (ByteArray.mk (List.toArray [66,50])) 3 0 [] [],qa.mk (ByteArray.mk (List.toArray [67,49])) 10 200 [(40:Int)] [ByteArray.mk (List.toArray [66,49]),ByteArray.mk (List.toArray [66,50])]] (ByteArray.mk (List.toArray [67,49])) [ByteArray.mk (List.toArray [65,49]),ByteArray.mk (List.toArray [66,49])]) fun(a42:Bool)=>if(!a42)=Bool.true then Option.bind (qd [qa.mk (ByteArray.mk (List.toArray [65,49])) 5 30 [(1:Int),2] [],qa.mk (ByteArray.mk (List.toArray [66,49])) 6 10 [(2:Int)] [ByteArray.mk (List.toArray [65,49])],qa.mk (ByteArray.mk (List.toArray [66,50])) 3 0 [] [],qa.mk (ByteArray.mk (List.toArray [67,49])) 10 200 [(40:Int)] [ByteArray.mk (List.toArray [66,49]),ByteArray.mk (List.toArray [66,50])]] (ByteArray.mk (List.toArray [88])) []) fun(a43:Bool)=>if(!a43)=Bool.true then Option.bind (qe (qa.mk (ByteArray.mk (List.toArray [65,49])) 5 30 [(1:Int),2] []) (qa.mk (ByteArray.mk (List.toArray [66,49])) 6 10 [(2:Int)] [ByteArray.mk (List.toArray [65,49])])) fun(a44:Bool)=>if a44=Bool.true then Option.bind (qe (qa.mk (ByteArray.mk (List.toArray [66,49])) 6 10 [(2:Int)] [ByteArray.mk (List.toArray [65,49])]) (qa.mk (ByteArray.mk (List.toArray [66,50])) 3 0 [] [])) fun(a45:Bool)=>some Bool.false else some Bool.false else some Bool.false else some Bool.false else some Bool.false else Option.bind (qd [qa.mk (ByteArray.mk (List.toArray [65,49])) 5 30 [(1:Int),2] [],qa.mk (ByteArray.mk (List.toArray [66,49])) 6 10 [(2:Int)] [ByteArray.mk (List.toArray [65,49])],qa.mk (ByteArray.mk (List.toArray [66,50])) 3 0 [] [],qa.mk (ByteArray.mk (List.toArray [67,49])) 10 200 [(40:Int)] [ByteArray.mk (List.toArray [66,49]),ByteArray.mk (List.toArray [66,50])]] (ByteArray.mk (List.toArray [66,49])) [ByteArray.mk (List.toArray [65,49])]) fun(a46:Bool)=>if a46=Bool.true then Option.bind (qd [qa.mk (ByteArray.mk (List.toArray [65,49])) 5 30 [(1:Int),2] [],qa.mk (ByteArray.mk (List.toArray [66,49])) 6 10 [(2:Int)] [ByteArray.mk (List.toArray [65,49])],qa.mk (ByteArray.mk (List.toArray [66,50])) 3 0 [] [],qa.mk (ByteArray.mk (List.toArray [67,49])) 10 200 [(40:Int)] [ByteArray.mk (List.toArray [66,49]),ByteArray.mk (List.toArray [66,50])]] (ByteArray.mk (List.toArray [67,49])) [ByteArray.mk (List.toArray [65,49]),ByteArray.mk (List.toArray [66,49])]) fun(a47:Bool)=>if(!a47)=Bool.true then Option.bind (qd [qa.mk (ByteArray.mk (List.toArray [65,49])) 5 30 [(1:Int),2] [],qa.mk (ByteArray.mk (List.toArray [66,49])) 6 10 [(2:Int)] [ByteArray.mk (List.toArray [65,49])],qa.mk (ByteArray.mk (List.toArray [66,50])) 3 0 [] [],qa.mk (ByteArray.mk (List.toArray [67,49])) 10 200 [(40:Int)] [ByteArray.mk (List.toArray [66,49]),ByteArray.mk (List.toArray [66,50])]] (ByteArray.mk (List.toArray [88])) []) fun(a48:Bool)=>if(!a48)=Bool.true then Option.bind (qe (qa.mk (ByteArray.mk (List.toArray [65,49])) 5 30 [(1:Int),2] []) (qa.mk (ByteArray.mk (List.toArray [66,49])) 6 10 [(2:Int)] [ByteArray.mk (List.toArray [65,49])])) fun(a49:Bool)=>if a49=Bool.true then Option.bind (qe (qa.mk (ByteArray.mk (List.toArray [66,49])) 6 10 [(2:Int)] [ByteArray.mk (List.toArray [65,49])]) (qa.mk (ByteArray.mk (List.toArray [66,50])) 3 0 [] [])) fun(a50:Bool)=>some Bool.false else some Bool.false else some Bool.false else some Bool.false else some Bool.false else Option.bind (qs [qa.mk (ByteArray.mk (List.toArray [65,49])) 5 30 [(1:Int),2] [],qa.mk (ByteArray.mk (List.toArray [66,49])) 6 10 [(2:Int)] [ByteArray.mk (List.toArray [65,49])],qa.mk (ByteArray.mk (List.toArray [66,50])) 3 0 [] [],qa.mk (ByteArray.mk (List.toArray [67,49])) 10 200 [(40:Int)] [ByteArray.mk (List.toArray [66,49]),ByteArray.mk (List.toArray [66,50])]] (ByteArray.mk (List.toArray [67,49]))) fun(a51:List ByteArray)=>Option.bind (qp a51 [ByteArray.mk (List.toArray [65,49]),ByteArray.mk (List.toArray [66,49]),ByteArray.mk (List.toArray [66,50])]) fun(a52:Bool)=>if a52=Bool.true then Option.bind (qs [qa.mk (ByteArray.mk (List.toArray [65,49])) 5 30 [(1:Int),2] [],qa.mk (ByteArray.mk (List.toArray [66,49])) 6 10 [(2:Int)] [ByteArray.mk (List.toArray [65,49])],qa.mk (ByteArray.mk (List.toArray [66,50])) 3 0 [] [],qa.mk (ByteArray.mk (List.toArray [67,49])) 10 200 [(40:Int)] [ByteArray.mk (List.toArray [66,49]),ByteArray.mk (List.toArray [66,50])]] (ByteArray.mk (List.toArray [65,49]))) fun(a53:List ByteArray)=>Option.bind (qs [qa.mk (ByteArray.mk (List.toArray [65,49])) 5 30 [(1:Int),2] [],qa.mk (ByteArray.mk (List.toArray [66,49])) 6 10 [(2:Int)] [ByteArray.mk (List.toArray [65,49])],qa.mk (ByteArray.mk (List.toArray [66,50])) 3 0 [] [],qa.mk (ByteArray.mk (List.toArray [67,49])) 10 200 [(40:Int)] [ByteArray.mk (List.toArray [66,49]),ByteArray.mk (List.toArray [66,50])]] (ByteArray.mk (List.toArray [88]))) fun(a54:List ByteArray)=>if(w64 (((a53.length:Nat):Int)+((a54.length:Nat):Int))==0)=Bool.true then Option.bind (zo [qa.mk (ByteArray.mk (List.toArray [65,49])) 5 30 [(1:Int),2] [],qa.mk (ByteArray.mk (List.toArray [66,49])) 6 10 [(2:Int)] [ByteArray.mk (List.toArray [65,49])],qa.mk (ByteArray.mk (List.toArray [66,50])) 3 0 [] [],qa.mk (ByteArray.mk (List.toArray [67,49])) 10 200 [(40:Int)] [ByteArray.mk (List.toArray [66,49]),ByteArray.mk (List.toArray [66,50])]]) fun(a55:List ByteArray)=>Option.bind (qp a55 [ByteArray.mk (List.toArray [65,49]),ByteArray.mk (List.toArray [66,49]),ByteArray.mk (List.toArray [66,50]),ByteArray.mk (List.toArray [67,49])]) fun(a56:Bool)=>Option.bind (qd [qa.mk (ByteArray.mk (List.toArray [65,49])) 5 30 [(1:Int),2] [],qa.mk (ByteArray.mk (List.toArray [66,49])) 6 10 [(2:Int)] [ByteArray.mk (List.toArray [65,49])],qa.mk (ByteArray.mk (List.toArray [66,50])) 3 0 [] [],qa.mk (ByteArray.mk (List.toArray [67,49])) 10 200 [(40:Int)] [ByteArray.mk (List.toArray [66,49]),ByteArray.mk (List.toArray [66,50])]] (ByteArray.mk (List.toArray [66,49])) [ByteArray.mk (List.toArray [65,49])]) fun(a57:Bool)=>if a57=Bool.true then Option.bind (qd [qa.mk (ByteArray.mk (List.toArray [65,49])) 5 30 [(1:Int),2] [],qa.mk (ByteArray.mk (List.toArray [66,49])) 6 10 [(2:Int)] [ByteArray.mk (List.toArray [65,49])],qa.mk (ByteArray.mk (List.toArray [66,50])) 3 0 [] [],qa.mk (ByteArray.mk (List.toArray [67,49])) 10 200 [(40:Int)] [ByteArray.mk (List.toArray [66,49]),ByteArray.mk (List.toArray [66,50])]] (ByteArray.mk (List.toArray [67,49])) [ByteArray.mk (List.toArray [65,49]),ByteArray.mk (List.toArray [66,49])]) fun(a58:Bool)=>if(!a58)=Bool.true then Option.bind (qd [qa.mk (ByteArray.mk (List.toArray [65,49])) 5 30 [(1:Int),2] [],qa.mk (ByteArray.mk (List.toArray [66,49])) 6 10 [(2:Int)] [ByteArray.mk (List.toArray [65,49])],qa.mk (ByteArray.mk (List.toArray [66,50])) 3 0 [] [],qa.mk (ByteArray.mk (List.toArray [67,49])) 10 200 [(40:Int)] [ByteArray.mk (List.toArray [66,49]),ByteArray.mk (List.toArray [66,50])]] (ByteArray.mk (List.toArray [88])) []) fun(a59:Bool)=>if(!a59)=Bool.true then Option.bind (qe (qa.mk (ByteArray.mk (List.toArray [65,49])) 5 30 [(1:Int),2] []) (qa.mk (ByteArray.mk (List.toArray [66,49])) 6 10 [(2:Int)] [ByteArray.mk (List.toArray [65,49])])) fun(a60:Bool)=>if a60=Bool.true then Option.bind (qe (qa.mk (ByteArray.mk (List.toArray [66,49])) 6 10 [(2:Int)] [ByteArray.mk (List.toArray [65,49])]) (qa.mk (ByteArray.mk (List.toArray [66,50])) 3 0 [] [])) fun(a61:Bool)=>some Bool.false else some Bool.false else some Bool.false else some Bool.false else some Bool.false else Option.bind (qd [qa.mk (ByteArray.mk (List.toArray [65,49])) 5 30 [(1:Int),2] [],qa.mk (ByteArray.mk (List.toArray [66,49])) 6 10 [(2:Int)] [ByteArray.mk (List.toArray [65,49])],qa.mk (ByteArray.mk (List.toArray [66,50])) 3 0 [] [],qa.mk (ByteArray.mk (List.toArray [67,49])) 10 200 [(40:Int)] [ByteArray.mk (List.toArray [66,49]),ByteArray.mk (List.toArray [66,50])]] (ByteArray.mk (List.toArray [66,49])) [ByteArray.mk (List.toArray [65,49])]) fun(a62:Bool)=>if a62=Bool.true then Option.bind (qd [qa.mk (ByteArray.mk (List.toArray [65,49])) 5 30 [(1:Int),2] [],qa.mk (ByteArray.mk (List.toArray [66,49])) 6 10 [(2:Int)] [ByteArray.mk (List.toArray [65,49])],qa.mk (ByteArray.mk (List.toArray [66,50])) 3 0 [] [],qa.mk (ByteArray.mk (List.toArray [67,49])) 10 200 [(40:Int)] [ByteArray.mk (List.toArray [66,49]),ByteArray.mk (List.toArray [66,50])]] (ByteArray.mk (List.toArray [67,49])) [ByteArray.mk (List.toArray [65,49]),ByteArray.mk (List.toArray [66,49])]) fun(a63:Bool)=>if(!a63)=Bool.true then Option.bind (qd [qa.mk (ByteArray.mk (List.toArray [65,49])) 5 30 [(1:Int),2] [],qa.mk (ByteArray.mk (List.toArray [66,49])) 6 10 [(2:Int)] [ByteArray.mk (List.toArray [65,49])],qa.mk (ByteArray.mk (List.toArray [66,50])) 3 0 [] [],qa.mk (ByteArray.mk (List.toArray [67,49])) 10 200 [(40:Int)] [ByteArray.mk (List.toArray [66,49]),ByteArray.mk (List.toArray [66,50])]] (ByteArray.mk (List.toArray [88])) []) fun(a64:Bool)=>if(!a64)=Bool.true then Option.bind (qe (qa.mk (ByteArray.mk (List.toArray [65,49])) 5 30 [(1:Int),2] []) (qa.mk (ByteArray.mk (List.toArray [66,49])) 6 10 [(2:Int)] [ByteArray.mk (List.toArray [65,49])])) fun(a65:Bool)=>if a65=Bool.true then Option.bind (qe (qa.mk (ByteArray.mk (List.toArray [66,49])) 6 10 [(2:Int)] [ByteArray.mk (List.toArray [65,49])]) (qa.mk (ByteArray.mk (List.toArray [66,50])) 3 0 [] [])) fun(a66:Bool)=>some Bool.false else some Bool.false else some Bool.false else some Bool.false else some Bool.false else Option.bind (qd [qa.mk (ByteArray.mk (List.toArray [65,49])) 5 30 [(1:Int),2] [],qa.mk (ByteArray.mk (List.toArray [66,49])) 6 10 [(2:Int)] [ByteArray.mk (List.toArray [65,49])],qa.mk (ByteArray.mk (List.toArray [66,50])) 3 0 [] [],qa.mk (ByteArray.mk (List.toArray [67,49])) 10 200 [(40:Int)] [ByteArray.mk (List.toArray [66,49]),ByteArray.mk (List.toArray [66,50])]] (ByteArray.mk (List.toArray [66,49])) [ByteArray.mk (List.toArray [65,49])]) fun(a67:Bool)=>if a67=Bool.true then Option.bind (qd [qa.mk (ByteArray.mk (List.toArray [65,49])) 5 30 [(1:Int),2] [],qa.mk (ByteArray.mk (List.toArray [66,49])) 6 10 [(2:Int)] [ByteArray.mk (List.toArray [65,49])],qa.mk (ByteArray.mk (List.toArray [66,50])) 3 0 [] [],qa.mk (ByteArray.mk (List.toArray [67,49])) 10 200 [(40:Int)] [ByteArray.mk (List.toArray [66,49]),ByteArray.mk (List.toArray [66,50])]] (ByteArray.mk (List.toArray [67,49])) [ByteArray.mk (List.toArray [65,49]),ByteArray.mk (List.toArray [66,49])]) fun(a68:Bool)=>if(!a68)=Bool.true then Option.bind (qd [qa.mk (ByteArray.mk (List.toArray [65,49])) 5 30 [(1:Int),2] [],qa.mk (ByteArray.mk (List.toArray [66,49])) 6 10 [(2:Int)] [ByteArray.mk (List.toArray [65,49])],qa.mk (ByteArray.mk (List.toArray [66,50])) 3 0 [] [],qa.mk (ByteArray.mk (List.toArray [67,49])) 10 200 [(40:Int)] [ByteArray.mk (List.toArray [66,49]),ByteArray.mk (List.toArray [66,50])]] (ByteArray.mk (List.toArray [88])) []) fun(a69:Bool)=>if(!a69)=Bool.true then Option.bind (qe (qa.mk (ByteArray.mk (List.toArray [65,49])) 5 30 [(1:Int),2] []) (qa.mk (ByteArray.mk (List.toArray [66,49])) 6 10 [(2:Int)] [ByteArray.mk (List.toArray [65,49])])) fun(a70:Bool)=>if a70=Bool.true then Option.bind (qe (qa.mk (ByteArray.mk (List.toArray [66,49])) 6 10 [(2:Int)] [ByteArray.mk (List.toArray [65,49])]) (qa.mk (ByteArray.mk (List.toArray [66,50])) 3 0 [] [])) fun(a71:Bool)=>some Bool.false else some Bool.false else some Bool.false else some Bool.false else some Bool.false else Option.bind (qs [qa.mk (ByteArray.mk (List.toArray [65,49])) 5 30 [(1:Int),2] [],qa.mk (ByteArray.mk (List.toArray [66,49])) 6 10 [(2:Int)] [ByteArray.mk (List.toArray [65,49])],qa.mk (ByteArray.mk (List.toArray [66,50])) 3 0 [] [],qa.mk (ByteArray.mk (List.toArray [67,49])) 10 200 [(40:Int)] [ByteArray.mk (List.toArray [66,49]),ByteArray.mk (List.toArray [66,50])]] (ByteArray.mk (List.toArray [67,49]))) fun(a72:List ByteArray)=>Option.bind (qp a72 [ByteArray.mk (List.toArray [65,49]),ByteArray.mk (List.toArray [66,49]),ByteArray.mk (List.toArray [66,50])]) fun(a73:Bool)=>if a73=Bool.true then Option.bind (qs [qa.mk (ByteArray.mk (List.toArray [65,49])) 5 30 [(1:Int),2] [],qa.mk (ByteArray.mk (List.toArray [66,49])) 6 10 [(2:Int)] [ByteArray.mk (List.toArray [65,49])],qa.mk (ByteArray.mk (List.toArray [66,50])) 3 0 [] [],qa.mk (ByteArray.mk (List.toArray [67,49])) 10 200 [(40:Int)] [ByteArray.mk (List.toArray [66,49]),ByteArray.mk (List.toArray [66,50])]] (ByteArray.mk (List.toArray [65,49]))) fun(a74:List ByteArray)=>Option.bind (qs [qa.mk (ByteArray.mk (List.toArray [65,49])) 5 30 [(1:Int),2] [],qa.mk (ByteArray.mk (List.toArray [66,49])) 6 10 [(2:Int)] [ByteArray.mk (List.toArray [65,49])],qa.mk (ByteArray.mk (List.toArray [66,50])) 3 0 [] [],qa.mk (ByteArray.mk (List.toArray [67,49])) 10 200 [(40:Int)] [ByteArray.mk (List.toArray [66,49]),ByteArray.mk (List.toArray [66,50])]] (ByteArray.mk (List.toArray [88]))) fun(a75:List ByteArray)=>if(w64 (((a74.length:Nat):Int)+((a75.length:Nat):Int))==0)=Bool.true then Option.bind (zo [qa.mk (ByteArray.mk (List.toArray [65,49])) 5 30 [(1:Int),2] [],qa.mk (ByteArray.mk (List.toArray [66,49])) 6 10 [(2:Int)] [ByteArray.mk (List.toArray [65,49])],qa.mk (ByteArray.mk (List.toArray [66,50])) 3 0 [] [],qa.mk (ByteArray.mk (List.toArray [67,49])) 10 200 [(40:Int)] [ByteArray.mk (List.toArray [66,49]),ByteArray.mk (List.toArray [66,50])]]) fun(a76:List ByteArray)=>Option.bind (qp a76 [ByteArray.mk (List.toArray [65,49]),ByteArray.mk (List.toArray [66,49]),ByteArray.mk (List.toArray [66,50]),ByteArray.mk (List.toArray [67,49])]) fun(a77:Bool)=>Option.bind (qd [qa.mk (ByteArray.mk (List.toArray [65,49])) 5 30 [(1:Int),2] [],qa.mk (ByteArray.mk (List.toArray [66,49])) 6 10 [(2:Int)] [ByteArray.mk (List.toArray [65,49])],qa.mk (ByteArray.mk (List.toArray [66,50])) 3 0 [] [],qa.mk (ByteArray.mk (List.toArray [67,49])) 10 200 [(40:Int)] [ByteArray.mk (List.toArray [66,49]),ByteArray.mk (List.toArray [66,50])]] (ByteArray.mk (List.toArray [66,49])) [ByteArray.mk (List.toArray [65,49])]) fun(a78:Bool)=>if a78=Bool.true then Option.bind (qd [qa.mk (ByteArray.mk (List.toArray [65,49])) 5 30 [(1:Int),2] [],qa.mk (ByteArray.mk (List.toArray [66,49])) 6 10 [(2:Int)] [ByteArray.mk (List.toArray [65,49])],qa.mk (ByteArray.mk (List.toArray [66,50])) 3 0 [] [],qa.mk (ByteArray.mk (List.toArray [67,49])) 10 200 [(40:Int)] [ByteArray.mk (List.toArray [66,49]),ByteArray.mk (List.toArray [66,50])]] (ByteArray.mk (List.toArray [67,49])) [ByteArray.mk (List.toArray [65,49]),ByteArray.mk (List.toArray [66,49])]) fun(a79:Bool)=>if(!a79)=Bool.true then Option.bind (qd [qa.mk (ByteArray.mk (List.toArray [65,49])) 5 30 [(1:Int),2] [],qa.mk (ByteArray.mk (List.toArray [66,49])) 6 10 [(2:Int)] [ByteArray.mk (List.toArray [65,49])],qa.mk (ByteArray.mk (List.toArray [66,50])) 3 0 [] [],qa.mk (ByteArray.mk (List.toArray [67,49])) 10 200 [(40:Int)] [ByteArray.mk (List.toArray [66,49]),ByteArray.mk (List.toArray [66,50])]] (ByteArray.mk (List.toArray [88])) []) fun(a80:Bool)=>if(!a80)=Bool.true then Option.bind (qe (qa.mk (ByteArray.mk (List.toArray [65,49])) 5 30 [(1:Int),2] []) (qa.mk (ByteArray.mk (List.toArray [66,49])) 6 10 [(2:Int)] [ByteArray.mk (List.toArray [65,49])])) fun(a81:Bool)=>if a81=Bool.true then Option.bind (qe (qa.mk (ByteArray.mk (List.toArray [66,49])) 6 10 [(2:Int)] [ByteArray.mk (List.toArray [65,49])]) (qa.mk (ByteArray.mk (List.toArray [66,50])) 3 0 [] [])) fun(a82:Bool)=>some Bool.false else some Bool.false else some Bool.false else some Bool.false else some Bool.false else Option.bind (qd [qa.mk (ByteArray.mk (List.toArray [65,49])) 5 30 [(1:Int),2] [],qa.mk (ByteArray.mk (List.toArray [66,49])) 6 10 [(2:Int)] [ByteArray.mk (List.toArray [65,49])],qa.mk (ByteArray.mk (List.toArray [66,50])) 3 0 [] [],qa.mk (ByteArray.mk (List.toArray [67,49])) 10 200 [(40:Int)] [ByteArray.mk (List.toArray [66,49]),ByteArray.mk (List.toArray [66,50])]] (ByteArray.mk (List.toArray [66,49])) [ByteArray.mk (List.toArray [65,49])]) fun(a83:Bool)=>if a83=Bool.true then Option.bind (qd [qa.mk (ByteArray.mk (List.toArray [65,49])) 5 30 [(1:Int),2] [],qa.mk (ByteArray.mk (List.toArray [66,49])) 6 10 [(2:Int)] [ByteArray.mk (List.toArray [65,49])],qa.mk (ByteArray.mk (List.toArray [66,50])) 3 0 [] [],qa.mk (ByteArray.mk (List.toArray [67,49])) 10 200 [(40:Int)] [ByteArray.mk (List.toArray [66,49]),ByteArray.mk (List.toArray [66,50])]] (ByteArray.mk (List.toArray [67,49])) [ByteArray.mk (List.toArray [65,49]),ByteArray.mk (List.toArray [66,49])]) fun(a84:Bool)=>if(!a84)=Bool.true then Option.bind (qd [qa.mk (ByteArray.mk (List.toArray [65,49])) 5 30 [(1:Int),2] [],qa.mk (ByteArray.mk (List.toArray [66,49])) 6 10 [(2:Int)] [ByteArray.mk (List.toArray [65,49])],qa.mk (ByteArray.mk (List.toArray [66,50])) 3 0 [] [],qa.mk (ByteArray.mk (List.toArray [67,49])) 10 200 [(40:Int)] [ByteArray.mk (List.toArray [66,49]),ByteArray.mk (List.toArray [66,50])]] (ByteArray.mk (List.toArray [88])) []) fun(a85:Bool)=>if(!a85)=Bool.true then Option.bind (qe (qa.mk (ByteArray.mk (List.toArray [65,49])) 5 30 [(1:Int),2] []) (qa.mk (ByteArray.mk (List.toArray [66,49])) 6 10 [(2:Int)] [ByteArray.mk (List.toArray [65,49])])) fun(a86:Bool)=>if a86=Bool.true then Option.bind (qe (qa.mk (ByteArray.mk (List.toArray [66,49])) 6 10 [(2:Int)] [ByteArray.mk (List.toArray [65,49])]) (qa.mk (ByteArray.mk (List.toArray [66,50])) 3 0 [] [])) fun(a87:Bool)=>some Bool.false else some Bool.false else some Bool.false else some Bool.false else some Bool.false else Option.bind (qd [qa.mk (ByteArray.mk (List.toArray [65,49])) 5 30 [(1:Int),2] [],qa.mk (ByteArray.mk (List.toArray [66,49])) 6 10 [(2:Int)] [ByteArray.mk (List.toArray [65,49])],qa.mk (ByteArray.mk (List.toArray [66,50])) 3 0 [] [],qa.mk (ByteArray.mk (List.toArray [67,49])) 10 200 [(40:Int)] [ByteArray.mk (List.toArray [66,49]),ByteArray.mk (List.toArray [66,50])]] (ByteArray.mk (List.toArray [66,49])) [ByteArray.mk (List.toArray [65,49])]) fun(a88:Bool)=>if a88=Bool.true then Option.bind (qd [qa.mk (ByteArray.mk (List.toArray [65,49])) 5 30 [(1:Int),2] [],qa.mk (ByteArray.mk (List.toArray [66,49])) 6 10 [(2:Int)] [ByteArray.mk (List.toArray [65,49])],qa.mk (ByteArray.mk (List.toArray [66,50])) 3 0 [] [],qa.mk (ByteArray.mk (List.toArray [67,49])) 10 200 [(40:Int)] [ByteArray.mk (List.toArray [66,49]),ByteArray.mk (List.toArray [66,50])]] (ByteArray.mk (List.toArray [67,49])) [ByteArray.mk (List.toArray [65,49]),ByteArray.mk (List.toArray [66,49])]) fun(a89:Bool)=>if(!a89)=Bool.true then Option.bind (qd [qa.mk (ByteArray.mk (List.toArray [65,49])) 5 30 [(1:Int),2] [],qa.mk (ByteArray.mk (List.toArray [66,49])) 6 10 [(2:Int)] [ByteArray.mk (List.toArray [65,49])],qa.mk (ByteArray.mk (List.toArray [66,50])) 3 0 [] [],qa.mk (ByteArray.mk (List.toArray [67,49])) 10 200 [(40:Int)] [ByteArray.mk (List.toArray [66,49]),ByteArray.mk (List.toArray [66,50])]] (ByteArray.mk (List.toArray [88])) []) fun(a90:Bool)=>if(!a90)=Bool.true then Option.bind (qe (qa.mk (ByteArray.mk (List.toArray [65,49])) 5 30 [(1:Int),2] []) (qa.mk (ByteArray.mk (List.toArray [66,49])) 6 10 [(2:Int)] [ByteArray.mk (List.toArray [65,49])])) fun(a91:Bool)=>if a91=Bool.true then Option.bind (qe (qa.mk (ByteArray.mk (List.toArray [66,49])) 6 10 [(2:Int)] [ByteArray.mk (List.toArray [65,49])]) (qa.mk (ByteArray.mk (List.toArray [66,50])) 3 0 [] [])) fun(a92:Bool)=>some Bool.false else some Bool.false else some Bool.false else some Bool.false else some Bool.false else Option.bind (qs [qa.mk (ByteArray.mk (List.toArray [65,49])) 5 30 [(1:Int),2] [],qa.mk (ByteArray.mk (List.toArray [66,49])) 6 10 [(2:Int)] [ByteArray.mk (List.toArray [65,49])],qa.mk (ByteArray.mk (List.toArray [66,50])) 3 0 [] [],qa.mk (ByteArray.mk (List.toArray [67,49])) 10 200 [(40:Int)] [ByteArray.mk (List.toArray [66,49]),ByteArray.mk (List.toArray [66,50])]] (ByteArray.mk (List.toArray [67,49]))) fun(a93:List ByteArray)=>Option.bind (qp a93 [ByteArray.mk (List.toArray [65,49]),ByteArray.mk (List.toArray [66,49]),ByteArray.mk (List.toArray [66,50])]) fun(a94:Bool)=>if a94=Bool.true then Option.bind (qs [qa.mk (ByteArray.mk (List.toArray [65,49])) 5 30 [(1:Int),2] [],qa.mk (ByteArray.mk (List.toArray [66,49])) 6 10 [(2:Int)] [ByteArray.mk (List.toArray [65,49])],qa.mk (ByteArray.mk (List.toArray [66,50])) 3 0 [] [],qa.mk (ByteArray.mk (List.toArray [67,49])) 10 200 [(40:Int)] [ByteArray.mk (List.toArray [66,49]),ByteArray.mk (List.toArray [66,50])]] (ByteArray.mk (List.toArray [65,49]))) fun(a95:List ByteArray)=>Option.bind (qs [qa.mk (ByteArray.mk (List.toArray [65,49])) 5 30 [(1:Int),2] [],qa.mk (ByteArray.mk (List.toArray [66,49])) 6 10 [(2:Int)] [ByteArray.mk (List.toArray [65,49])],qa.mk (ByteArray.mk (List.toArray [66,50])) 3 0 [] [],qa.mk (ByteArray.mk (List.toArray [67,49])) 10 200 [(40:Int)] [ByteArray.mk (List.toArray [66,49]),ByteArray.mk (List.toArray [66,50])]] (ByteArray.mk (List.toArray [88]))) fun(a96:List ByteArray)=>if(w64 (((a95.length:Nat):Int)+((a96.length:Nat):Int))==0)=Bool.true then Option.bind (zo [qa.mk (ByteArray.mk (List.toArray [65,49])) 5 30 [(1:Int),2] [],qa.mk (ByteArray.mk (List.toArray [66,49])) 6 10 [(2:Int)] [ByteArray.mk (List.toArray [65,49])],qa.mk (ByteArray.mk (List.toArray [66,50])) 3 0 [] [],qa.mk (ByteArray.mk (List.toArray [67,49])) 10 200 [(40:Int)] [ByteArray.mk (List.toArray [66,49]),ByteArray.mk (List.toArray [66,50])]]) fun(a97:List ByteArray)=>Option.bind (qp a97 [ByteArray.mk (List.toArray [65,49]),ByteArray.mk (List.toArray [66,49]),ByteArray.mk (List.toArray [66,50]),ByteArray.mk (List.toArray [67,49])]) fun(a98:Bool)=>Option.bind (qd [qa.mk (ByteArray.mk (List.toArray [65,49])) 5 30 [(1:Int),2] [],qa.mk (ByteArray.mk (List.toArray [66,49])) 6 10 [(2:Int)] [ByteArray.mk (List.toArray [65,49])],qa.mk (ByteArray.mk (List.toArray [66,50])) 3 0 [] [],qa.mk (ByteArray.mk (List.toArray [67,49])) 10 200 [(40:Int)] [ByteArray.mk (List.toArray [66,49]),ByteArray.mk (List.toArray [66,50])]] (ByteArray.mk (List.toArray [66,49])) [ByteArray.mk (List.toArray [65,49])]) fun(a99:Bool)=>if a99=Bool.true then Option.bind (qd [qa.mk (ByteArray.mk (List.toArray [65,49])) 5 30 [(1:Int),2] [],qa.mk (ByteArray.mk (List.toArray [66,49])) 6 10 [(2:Int)] [ByteArray.mk (List.toArray [65,49])],qa.mk (ByteArray.mk (List.toArray [66,50])) 3 0 [] [],qa.mk (ByteArray.mk (List.toArray [67,49])) 10 200 [(40:Int)] [ByteArray.mk (List.toArray [66,49]),ByteArray.mk (List.toArray [66,50])]] (ByteArray.mk (List.toArray [67,49])) [ByteArray.mk (List.toArray [65,49]),ByteArray.mk (List.toArray [66,49])]) fun(a100:Bool)=>if(!a100)=Bool.true then Option.bind (qd [qa.mk (ByteArray.mk (List.toArray [65,49])) 5 30 [(1:Int),2] [],qa.mk (ByteArray.mk (List.toArray [66,49])) 6 10 [(2:Int)] [ByteArray.mk (List.toArray [65,49])],qa.mk (ByteArray.mk (List.toArray [66,50])) 3 0 [] [],qa.mk (ByteArray.mk (List.toArray [67,49])) 10 200 [(40:Int)] [ByteArray.mk (List.toArray [66,49]),ByteArray.mk (List.toArray [66,50])]] (ByteArray.mk (List.toArray [88])) []) fun(a101:Bool)=>if(!a101)=Bool.true then Option.bind (qe (qa.mk (ByteArray.mk (List.toArray [65,49])) 5 30 [(1:Int),2] []) (qa.mk (ByteArray.mk (List.toArray [66,49])) 6 10 [(2:Int)] [ByteArray.mk (List.toArray [65,49])])) fun(a102:Bool)=>if a102=Bool.true then Option.bind (qe (qa.mk (ByteArray.mk (List.toArray [66,49])) 6 10 [(2:Int)] [ByteArray.mk (List.toArray [65,49])]) (qa.mk (ByteArray.mk (List.toArray [66,50])) 3 0 [] [])) fun(a103:Bool)=>some Bool.false else some Bool.false else some Bool.false else some Bool.false else some Bool.false else Option.bind (qd [qa.mk (ByteArray.mk (List.toArray [65,49])) 5 30 [(1:Int),2] [],qa.mk (ByteArray.mk (List.toArray [66,49])) 6 10 [(2:Int)] [ByteArray.mk (List.toArray [65,49])],qa.mk (ByteArray.mk (List.toArray [66,50])) 3 0 [] [],qa.mk (ByteArray.mk (List.toArray [67,49])) 10 200 [(40:Int)] [ByteArray.mk (List.toArray [66,49]),ByteArray.mk (List.toArray [66,50])]] (ByteArray.mk (List.toArray [66,49])) [ByteArray.mk (List.toArray [65,49])]) fun(a104:Bool)=>if a104=Bool.true then Option.bind (qd [qa.mk (ByteArray.mk (List.toArray [65,49])) 5 30 [(1:Int),2] [],qa.mk (ByteArray.mk (List.toArray [66,49])) 6 10 [(2:Int)] [ByteArray.mk (List.toArray [65,49])],qa.mk (ByteArray.mk (List.toArray [66,50])) 3 0 [] [],qa.mk (ByteArray.mk (List.toArray [67,49])) 10 200 [(40:Int)] [ByteArray.mk (List.toArray [66,49]),ByteArray.mk (List.toArray [66,50])]] (ByteArray.mk (List.toArray [67,49])) [ByteArray.mk (List.toArray [65,49]),ByteArray.mk (List.toArray [66,49])]) fun(a105:Bool)=>if(!a105)=Bool.true then Option.bind (qd [qa.mk (ByteArray.mk (List.toArray [65,49])) 5 30 [(1:Int),2] [],qa.mk (ByteArray.mk (List.toArray [66,49])) 6 10 [(2:Int)] [ByteArray.mk (List.toArray [65,49])],qa.mk (ByteArray.mk (List.toArray [66,50])) 3 0 [] [],qa.mk (ByteArray.mk (List.toArray [67,49])) 10 200 [(40:Int)] [ByteArray.mk (List.toArray [66,49]),ByteArray.mk (List.toArray [66,50])]] (ByteArray.mk (List.toArray [88])) []) fun(a106:Bool)=>if(!a106)=Bool.true then Option.bind (qe (qa.mk (ByteArray.mk (List.toArray [65,49])) 5 30 [(1:Int),2] []) (qa.mk (ByteArray.mk (List.toArray [66,49])) 6 10 [(2:Int)] [ByteArray.mk (List.toArray [65,49])])) fun(a107:Bool)=>if a107=Bool.true then Option.bind (qe (qa.mk (ByteArray.mk (List.toArray [66,49])) 6 10 [(2:Int)] [ByteArray.mk (List.toArray [65,49])]) (qa.mk (ByteArray.mk (List.toArray [66,50])) 3 0 [] [])) fun(a108:Bool)=>some Bool.false else some Bool.false else some Bool.false else some Bool.false else some Bool.false else Option.bind (qd [qa.mk (ByteArray.mk (List.toArray [65,49])) 5 30 [(1:Int),2] [],qa.mk (ByteArray.mk (List.toArray [66,49])) 6 10 [(2:Int)] [ByteArray.mk (List.toArray [65,49])],qa.mk (ByteArray.mk (List.toArray [66,50])) 3 0 [] [],qa.mk (ByteArray.mk (List.toArray [67,49])) 10 200 [(40:Int)] [ByteArray.mk (List.toArray [66,49]),ByteArray.mk (List.toArray [66,50])]] (ByteArray.mk (List.toArray [66,49])) [ByteArray.mk (List.toArray [65,49])]) fun(a109:Bool)=>if a109=Bool.true then Option.bind (qd [qa.mk (ByteArray.mk (List.toArray [65,49])) 5 30 [(1:Int),2] [],qa.mk (ByteArray.mk (List.toArray [66,49])) 6 10 [(2:Int)] [ByteArray.mk (List.toArray [65,49])],qa.mk (ByteArray.mk (List.toArray [66,50])) 3 0 [] [],qa.mk (ByteArray.mk (List.toArray [67,49])) 10 200 [(40:Int)] [ByteArray.mk (List.toArray [66,49]),ByteArray.mk (List.toArray [66,50])]] (ByteArray.mk (List.toArray [67,49])) [ByteArray.mk (List.toArray [65,49]),ByteArray.mk (List.toArray [66,49])]) fun(a110:Bool)=>if(!a110)=Bool.true then Option.bind (qd [qa.mk (ByteArray.mk (List.toArray [65,49])) 5 30 [(1:Int),2] [],qa.mk (ByteArray.mk (List.toArray [66,49])) 6 10 [(2:Int)] [ByteArray.mk (List.toArray [65,49])],qa.mk (ByteArray.mk (List.toArray [66,50])) 3 0 [] [],qa.mk (ByteArray.mk (List.toArray [67,49])) 10 200 [(40:Int)] [ByteArray.mk (List.toArray [66,49]),ByteArray.mk (List.toArray [66,50])]] (ByteArray.mk (List.toArray [88])) []) fun(a111:Bool)=>if(!a111)=Bool.true then Option.bind (qe (qa.mk (ByteArray.mk (List.toArray [65,49])) 5 30 [(1:Int),2] []) (qa.mk (ByteArray.mk (List.toArray [66,49])) 6 10 [(2:Int)] [ByteArray.mk (List.toArray [65,49])])) fun(a112:Bool)=>if a112=Bool.true then Option.bind (qe (qa.mk (ByteArray.mk (List.toArray [66,49])) 6 10 [(2:Int)] [ByteArray.mk (List.toArray [65,49])]) (qa.mk (ByteArray.mk (List.toArray [66,50])) 3 0 [] [])) fun(a113:Bool)=>some Bool.false else some Bool.false else some Bool.false else some Bool.false else some Bool.false
theorem q4c:ev 8 0 [] []=(Ze).bind (fun(e:Bool)=>some (rB e,[])):=
 by
  rw[qP bd8 pw8.2.2.2 lo8]
  have:=cx8;have:=@q3F;have:=@q2f;have:=@q2o;have:=@q2w;have:=@q2h;have:=@q0O;have:=@q2C;have:=@q3t;have:=@q0Z;have:=@q3y;have:=@q3D;have:=@q2A;have:=@q2v;have:=@q17;have:=@Ze.eq_1;exact gA
def q0i (fu:Nat):Option Bool:=Option.bind (Qr fu [qa.mk (ByteArray.mk (List.toArray [65,49])) 5 30 [(1:Int),2] [],qa.mk (ByteArray.mk (List.toArray [66,49])) 6 10 [(2:Int)] [ByteArray.mk (List.toArray [65,49])],qa.mk (ByteArray.mk (List.toArray [66,50])) 3 0 [] [],qa.mk (ByteArray.mk (List.toArray [67,49])) 10 200 [(40:Int)] [ByteArray.mk (List.toArray [66,49]),ByteArray.mk (List.toArray [66,50])]]) fun(a:Int)=>if(a==0)=Bool.true then Option.bind (Qr fu [qa.mk (ByteArray.mk (List.toArray [65,49])) 5 30 [(1:Int),2] [],qa.mk (ByteArray.mk (List.toArray [66,50])) 6 10 [(2:Int)] [ByteArray.mk (List.toArray [65,49])],qa.mk (ByteArray.mk (List.toArray [66,50])) 3 0 [] [],qa.mk (ByteArray.mk (List.toArray [67,49])) 10 200 [(40:Int)] [ByteArray.mk (List.toArray [66,49]),ByteArray.mk (List.toArray [66,50])]]) fun(a2:Int)=>if(a2==6)=Bool.true then Option.bind (Qr fu [qa.mk (ByteArray.mk (List.toArray [65,49])) 5 30 [(1:Int),2] [ByteArray.mk (List.toArray [67,49])],qa.mk (ByteArray.mk (List.toArray [66,49])) 6 10 [(2:Int)] [ByteArray.mk (List.toArray [65,49])],qa.mk (ByteArray.mk (List.toArray [66,50])) 3 0 [] [],qa.mk (ByteArray.mk (List.toArray [67,49])) 10 200 [(40:Int)] [ByteArray.mk (List.toArray [66,49]),ByteArray.mk (List.toArray [66,50])]]) fun(a3:Int)=>if(a3==14)=Bool.true then Option.bind (Qr fu [qa.mk (ByteArray.mk (List.toArray [65,49])) 5 30 [(1:Int),2] [],qa.mk (ByteArray.mk (List.toArray [66,49])) 6 10 [(2:Int)] [ByteArray.mk (List.toArray [65,49])],qa.mk (ByteArray.mk (List.toArray [66,50])) 3 0 [] [ByteArray.mk (List.toArray [88])],qa.mk (ByteArray.mk (List.toArray [67,49])) 10 200 [(40:Int)] [ByteArray.mk (List.toArray [66,49]),ByteArray.mk (List.toArray [66,50])]]) fun(a4:Int)=>if(a4==5)=Bool.true then Option.bind (Qr fu [qa.mk (ByteArray.mk (List.toArray [65,49])) 5 30 [(1:Int),2] [],qa.mk (ByteArray.mk (List.toArray [66,49])) 6 10 [(2:Int)] [ByteArray.mk (List.toArray [65,49])],qa.mk (ByteArray.mk (List.toArray [66,50])) 3 0 [] [],qa.mk (ByteArray.mk (List.toArray [67,49])) 61 200 [(40:Int)] [ByteArray.mk (List.toArray [66,49]),ByteArray.mk (List.toArray [66,50])]]) fun(a5:Int)=>Option.bind (qL fu [qa.mk (ByteArray.mk (List.toArray [65,49])) 5 30 [(1:Int),2] [],qa.mk (ByteArray.mk (List.toArray [66,49])) 6 10 [(2:Int)] [ByteArray.mk (List.toArray [65,49])],qa.mk (ByteArray.mk (List.toArray [66,50])) 3 0 [] [],qa.mk (ByteArray.mk (List.toArray [67,49])) 10 200 [(40:Int)] [ByteArray.mk (List.toArray [66,49]),ByteArray.mk (List.toArray [66,50])]] (ByteArray.mk (List.toArray [67,49]))) fun(a6:List ByteArray)=>Option.bind (qU fu a6 [ByteArray.mk (List.toArray [65,49]),ByteArray.mk (List.toArray [66,49]),ByteArray.mk (List.toArray [66,50])]) fun(a7:Bool)=>if a7=Bool.true then Option.bind (qL fu [qa.mk (ByteArray.mk (List.toArray [65,49])) 5 30 [(1:Int),2] [],qa.mk (ByteArray.mk (List.toArray [66,49])) 6 10 [(2:Int)] [ByteArray.mk (List.toArray [65,49])],qa.mk (ByteArray.mk (List.toArray [66,50])) 3 0 [] [],qa.mk (ByteArray.mk (List.toArray [67,49])) 10 200 [(40:Int)] [ByteArray.mk (List.toArray [66,49]),ByteArray.mk (List.toArray [66,50])]] (ByteArray.mk (List.toArray [65,49]))) fun(a8:List ByteArray)=>Option.bind (qL fu [qa.mk (ByteArray.mk (List.toArray [65,49])) 5 30 [(1:Int),2] [],qa.mk (ByteArray.mk (List.toArray [66,49])) 6 10 [(2:Int)] [ByteArray.mk (List.toArray [65,49])],qa.mk (ByteArray.mk (List.toArray [66,50])) 3 0 [] [],qa.mk (ByteArray.mk (List.toArray [67,49])) 10 200 [(40:Int)] [ByteArray.mk (List.toArray [66,49]),ByteArray.mk (List.toArray [66,50])]] (ByteArray.mk (List.toArray [88]))) fun(a9:List ByteArray)=>if(w64 (((a8.length:Nat):Int)+((a9.length:Nat):Int))==0)=Bool.true then Option.bind (QP fu [qa.mk (ByteArray.mk (List.toArray [65,49])) 5 30 [(1:Int),2] [],qa.mk (ByteArray.mk (List.toArray [66,49])) 6 10 [(2:Int)] [ByteArray.mk (List.toArray [65,49])],qa.mk (ByteArray.mk (List.toArray [66,50])) 3 0 [] [],qa.mk (ByteArray.mk (List.toArray [67,49])) 10 200 [(40:Int)] [ByteArray.mk (List.toArray [66,49]),ByteArray.mk (List.toArray [66,50])]]) fun(a10:List ByteArray)=>Option.bind (qU fu a10 [ByteArray.mk (List.toArray [65,49]),ByteArray.mk (List.toArray [66,49]),ByteArray.mk (List.toArray [66,50]),ByteArray.mk (List.toArray [67,49])]) fun(a11:Bool)=>Option.bind (qf fu [qa.mk (ByteArray.mk (List.toArray [65,49])) 5 30 [(1:Int),2] [],qa.mk (ByteArray.mk (List.toArray [66,49])) 6 10 [(2:Int)] [ByteArray.mk (List.toArray [65,49])],qa.mk (ByteArray.mk (List.toArray [66,50])) 3 0 [] [],qa.mk (ByteArray.mk (List.toArray [67,49])) 10 200 [(40:Int)] [ByteArray.mk (List.toArray [66,49]),ByteArray.mk (List.toArray [66,50])]] (ByteArray.mk (List.toArray [66,49])) [ByteArray.mk (List.toArray [65,49])]) fun(a12:Bool)=>if a12=Bool.true then Option.bind (qf fu [qa.mk (ByteArray.mk (List.toArray [65,49])) 5 30 [(1:Int),2] [],qa.mk (ByteArray.mk (List.toArray [66,49])) 6 10 [(2:Int)] [ByteArray.mk (List.toArray [65,49])],qa.mk (ByteArray.mk (List.toArray [66,50])) 3 0 [] [],qa.mk (ByteArray.mk (List.toArray [67,49])) 10 200 [(40:Int)] [ByteArray.mk (List.toArray [66,49]),ByteArray.mk (List.toArray [66,50])]] (ByteArray.mk (List.toArray [67,49])) [ByteArray.mk (List.toArray [65,49]),ByteArray.mk (List.toArray [66,49])]) fun(a13:Bool)=>if(!a13)=Bool.true then Option.bind (qf fu [qa.mk (ByteArray.mk (List.toArray [65,49])) 5 30 [(1:Int),2] [],qa.mk (ByteArray.mk (List.toArray [66,49])) 6 10 [(2:Int)] [ByteArray.mk (List.toArray [65,49])],qa.mk (ByteArray.mk (List.toArray [66,50])) 3 0 [] [],qa.mk (ByteArray.mk (List.toArray [67,49])) 10 200 [(40:Int)] [ByteArray.mk (List.toArray [66,49]),ByteArray.mk (List.toArray [66,50])]] (ByteArray.mk (List.toArray [88])) []) fun(a14:Bool)=>if(!a14)=Bool.true then Option.bind (qi fu (qa.mk (ByteArray.mk (List.toArray [65,49])) 5 30 [(1:Int),2] []) (qa.mk (ByteArray.mk (List.toArray [66,49])) 6 10 [(2:Int)] [ByteArray.mk (List.toArray [65,49])])) fun(a15:Bool)=>if a15=Bool.true then Option.bind (qi fu (qa.mk (ByteArray.mk (List.toArray [66,49])) 6 10 [(2:Int)] [ByteArray.mk (List.toArray [65,49])]) (qa.mk (ByteArray.mk (List.toArray [66,50])) 3 0 [] [])) fun(a16:Bool)=>if(a5==3)=Bool.true then if a11=Bool.true then if(!a16)=Bool.true then Option.bind (ZB fu (ByteArray.mk (List.toArray [65,49]))) fun(a17:Bool)=>if a17=Bool.true then Option.bind (ZB fu (ByteArray.mk (List.toArray [97,49]))) fun(a18:Bool)=>if(!a18)=Bool.true then Option.bind (ZB fu (ByteArray.mk (List.toArray []))) fun(a19:Bool)=>some (!a19) else some Bool.false else some Bool.false else some Bool.false else some Bool.false else some Bool.false else some Bool.false else some Bool.false else some Bool.false else some Bool.false else Option.bind (qf fu [qa.mk (ByteArray.mk (List.toArray [65,49])) 5 30 [(1:Int),2] [],qa.mk (ByteArray.mk (List.toArray [66,49])) 6 10 [(2:Int)] [ByteArray.mk (List.toArray [65,49])],qa.mk (ByteArray.mk (List.toArray [66,50])) 3 0 [] [],qa.mk (ByteArray.mk (List.toArray [67,49])) 10 200 [(40:Int)] [ByteArray.mk (List.toArray [66,49]),ByteArray.mk (List.toArray [66,50])]] (ByteArray.mk (List.toArray [66,49])) [ByteArray.mk (List.toArray [65,49])]) fun(a20:Bool)=>if a20=Bool.true then Option.bind (qf fu [qa.mk (ByteArray.mk (List.toArray [65,49])) 5 30 [(1:Int),2] [],qa.mk (ByteArray.mk (List.toArray [66,49])) 6 10 [(2:Int)] [ByteArray.mk (List.toArray [65,49])],qa.mk (ByteArray.mk (List.toArray [66,50])) 3 0 [] [],qa.mk (ByteArray.mk (List.toArray [67,49])) 10 200 [(40:Int)] [ByteArray.mk (List.toArray [66,49]),ByteArray.mk (List.toArray [66,50])]] (ByteArray.mk (List.toArray [67,49])) [ByteArray.mk (List.toArray [65,49]),ByteArray.mk (List.toArray [66,49])]) fun(a21:Bool)=>if(!a21)=Bool.true then Option.bind (qf fu [qa.mk (ByteArray.mk (List.toArray [65,49])) 5 30 [(1:Int),2] [],qa.mk (ByteArray.mk (List.toArray [66,49])) 6 10 [(2:Int)] [ByteArray.mk (List.toArray [65,49])],qa.mk (ByteArray.mk (List.toArray [66,50])) 3 0 [] [],qa.mk (ByteArray.mk (List.toArray [67,49])) 10 200 [(40:Int)] [ByteArray.mk (List.toArray [66,49]),ByteArray.mk (List.toArray [66,50])]] (ByteArray.mk (List.toArray [88])) []) fun(a22:Bool)=>if(!a22)=Bool.true then Option.bind (qi fu (qa.mk (ByteArray.mk (List.toArray [65,49])) 5 30 [(1:Int),2] []) (qa.mk (ByteArray.mk (List.toArray [66,49])) 6 10 [(2:Int)] [ByteArray.mk (List.toArray [65,49])])) fun(a23:Bool)=>if a23=Bool.true then Option.bind (qi fu (qa.mk (ByteArray.mk (List.toArray [66,49])) 6 10 [(2:Int)] [ByteArray.mk (List.toArray [65,49])]) (qa.mk (ByteArray.mk (List.toArray [66,50])) 3 0 [] [])) fun(a24:Bool)=>some Bool.false else some Bool.false else some Bool.false else some Bool.false else some Bool.false else Option.bind (qf fu [qa.mk (ByteArray.mk (List.toArray [65,49])) 5 30 [(1:Int),2] [],qa.mk (ByteArray.mk (List.toArray [66,49])) 6 10 [(2:Int)] [ByteArray.mk (List.toArray [65,49])],qa.mk (ByteArray.mk (List.toArray [66,50])) 3 0 [] [],qa.mk (ByteArray.mk (List.toArray [67,49])) 10 200 [(40:Int)] [ByteArray.mk (List.toArray [66,49]),ByteArray.mk (List.toArray [66,50])]] (ByteArray.mk (List.toArray [66,49])) [ByteArray.mk (List.toArray [65,49])]) fun(a25:Bool)=>if a25=Bool.true then Option.bind (qf fu [qa.mk (ByteArray.mk (List.toArray [65,49])) 5 30 [(1:Int),2] [],qa.mk (ByteArray.mk (List.toArray [66,49])) 6 10 [(2:Int)] [ByteArray.mk (List.toArray [65,49])],qa.mk (ByteArray.mk (List.toArray [66,50])) 3 0 [] [],qa.mk (ByteArray.mk (List.toArray [67,49])) 10 200 [(40:Int)] [ByteArray.mk (List.toArray [66,49]),ByteArray.mk (List.toArray [66,50])]] (ByteArray.mk (List.toArray [67,49])) [ByteArray.mk (List.toArray [65,49]),ByteArray.mk (List.toArray [66,49])]) fun(a26:Bool)=>if(!a26)=Bool.true then Option.bind (qf fu [qa.mk (ByteArray.mk (List.toArray [65,49])) 5 30 [(1:Int),2] [],qa.mk (ByteArray.mk (List.toArray [66,49])) 6 10 [(2:Int)] [ByteArray.mk (List.toArray [65,49])],qa.mk (ByteArray.mk (List.toArray [66,50])) 3 0 [] [],qa.mk (ByteArray.mk (List.toArray [67,49])) 10 200 [(40:Int)] [ByteArray.mk (List.toArray [66,49]),ByteArray.mk (List.toArray [66,50])]] (ByteArray.mk (List.toArray [88])) []) fun(a27:Bool)=>if(!a27)=Bool.true then Option.bind (qi fu (qa.mk (ByteArray.mk (List.toArray [65,49])) 5 30 [(1:Int),2] []) (qa.mk (ByteArray.mk (List.toArray [66,49])) 6 10 [(2:Int)] [ByteArray.mk (List.toArray [65,49])])) fun(a28:Bool)=>if a28=Bool.true then Option.bind (qi fu (qa.mk (ByteArray.mk (List.toArray [66,49])) 6 10 [(2:Int)] [ByteArray.mk (List.toArray [65,49])]) (qa.mk (ByteArray.mk (List.toArray [66,50])) 3 0 [] [])) fun(a29:Bool)=>some Bool.false else some Bool.false else some Bool.false else some Bool.false else some Bool.false else Option.bind (qL fu [qa.mk (ByteArray.mk (List.toArray [65,49])) 5 30 [(1:Int),2] [],qa.mk (ByteArray.mk (List.toArray [66,49])) 6 10 [(2:Int)] [ByteArray.mk (List.toArray [65,49])],qa.mk (ByteArray.mk (List.toArray [66,50])) 3 0 [] [],qa.mk (ByteArray.mk (List.toArray [67,49])) 10 200 [(40:Int)] [ByteArray.mk (List.toArray [66,49]),ByteArray.mk (List.toArray [66,50])]] (ByteArray.mk (List.toArray [67,49]))) fun(a30:List ByteArray)=>Option.bind (qU fu a30 [ByteArray.mk (List.toArray [65,49]),ByteArray.mk (List.toArray [66,49]),ByteArray.mk (List.toArray [66,50])]) fun(a31:Bool)=>if a31=Bool.true then Option.bind (qL fu [qa.mk (ByteArray.mk (List.toArray [65,49])) 5 30 [(1:Int),2] [],qa.mk (ByteArray.mk (List.toArray [66,49])) 6 10 [(2:Int)] [ByteArray.mk (List.toArray [65,49])],qa.mk (ByteArray.mk (List.toArray [66,50])) 3 0 [] [],qa.mk (ByteArray.mk (List.toArray [67,49])) 10 200 [(40:Int)] [ByteArray.mk (List.toArray [66,49]),ByteArray.mk (List.toArray [66,50])]] (ByteArray.mk (List.toArray [65,49]))) fun(a32:List ByteArray)=>Option.bind (qL fu [qa.mk (ByteArray.mk (List.toArray [65,49])) 5 30 [(1:Int),2] [],qa.mk (ByteArray.mk (List.toArray [66,49])) 6 10 [(2:Int)] [ByteArray.mk (List.toArray [65,49])],qa.mk (ByteArray.mk (List.toArray [66,50])) 3 0 [] [],qa.mk (ByteArray.mk (List.toArray [67,49])) 10 200 [(40:Int)] [ByteArray.mk (List.toArray [66,49]),ByteArray.mk (List.toArray [66,50])]] (ByteArray.mk (List.toArray [88]))) fun(a33:List ByteArray)=>if(w64 (((a32.length:Nat):Int)+((a33.length:Nat):Int))==0)=Bool.true then Option.bind (QP fu [qa.mk (ByteArray.mk (List.toArray [65,49])) 5 30 [(1:Int),2] [],qa.mk (ByteArray.mk (List.toArray [66,49])) 6 10 [(2:Int)] [ByteArray.mk (List.toArray [65,49])],qa.mk (ByteArray.mk (List.toArray [66,50])) 3 0 [] [],qa.mk (ByteArray.mk (List.toArray [67,49])) 10 200 [(40:Int)] [ByteArray.mk (List.toArray [66,49]),ByteArray.mk (List.toArray [66,50])]]) fun(a34:List ByteArray)=>Option.bind (qU fu a34 [ByteArray.mk (List.toArray [65,49]),ByteArray.mk (List.toArray [66,49]),ByteArray.mk (List.toArray [66,50]),ByteArray.mk (List.toArray [67,49])]) fun(a35:Bool)=>Option.bind (qf fu [qa.mk (ByteArray.mk (List.toArray [65,49])) 5 30 [(1:Int),2] [],qa.mk (ByteArray.mk (List.toArray [66,49])) 6 10 [(2:Int)] [ByteArray.mk (List.toArray [65,49])],qa.mk (ByteArray.mk (List.toArray [66,50])) 3 0 [] [],qa.mk (ByteArray.mk (List.toArray [67,49])) 10 200 [(40:Int)] [ByteArray.mk (List.toArray [66,49]),ByteArray.mk (List.toArray [66,50])]] (ByteArray.mk (List.toArray [66,49])) [ByteArray.mk (List.toArray [65,49])]) fun(a36:Bool)=>if a36=Bool.true then Option.bind (qf fu [qa.mk (ByteArray.mk (List.toArray [65,49])) 5 30 [(1:Int),2] [],qa.mk (ByteArray.mk (List.toArray [66,49])) 6 10 [(2:Int)] [ByteArray.mk (List.toArray [65,49])],qa.mk (ByteArray.mk (List.toArray [66,50])) 3 0 [] [],qa.mk (ByteArray.mk (List.toArray [67,49])) 10 200 [(40:Int)] [ByteArray.mk (List.toArray [66,49]),ByteArray.mk (List.toArray [66,50])]] (ByteArray.mk (List.toArray [67,49])) [ByteArray.mk (List.toArray [65,49]),ByteArray.mk (List.toArray [66,49])]) fun(a37:Bool)=>if(!a37)=Bool.true then Option.bind (qf fu [qa.mk (ByteArray.mk (List.toArray [65,49])) 5 30 [(1:Int),2] [],qa.mk (ByteArray.mk (List.toArray [66,49])) 6 10 [(2:Int)] [ByteArray.mk (List.toArray [65,49])],qa.mk (ByteArray.mk (List.toArray [66,50])) 3 0 [] [],qa.mk (ByteArray.mk (List.toArray [67,49])) 10 200 [(40:Int)] [ByteArray.mk (List.toArray [66,49]),ByteArray.mk (List.toArray [66,50])]] (ByteArray.mk (List.toArray [88])) []) fun(a38:Bool)=>if(!a38)=Bool.true then Option.bind (qi fu (qa.mk (ByteArray.mk (List.toArray [65,49])) 5 30 [(1:Int),2] []) (qa.mk (ByteArray.mk (List.toArray [66,49])) 6 10 [(2:Int)] [ByteArray.mk (List.toArray [65,49])])) fun(a39:Bool)=>if a39=Bool.true then Option.bind (qi fu (qa.mk (ByteArray.mk (List.toArray [66,49])) 6 10 [(2:Int)] [ByteArray.mk (List.toArray [65,49])]) (qa.mk (ByteArray.mk (List.toArray [66,50])) 3 0 [] [])) fun(a40:Bool)=>some Bool.false else some Bool.false else some Bool.false else some Bool.false else some Bool.false else Option.bind (qf fu [qa.mk (ByteArray.mk (List.toArray [65,49])) 5 30 [(1:Int),2] [],qa.mk (ByteArray.mk (List.toArray [66,49])) 6 10 [(2:Int)] [ByteArray.mk (List.toArray [65,49])],qa.mk (ByteArray.mk (List.toArray [66,50])) 3 0 [] [],qa.mk (ByteArray.mk (List.toArray [67,49])) 10 200 [(40:Int)] [ByteArray.mk (List.toArray [66,49]),ByteArray.mk (List.toArray [66,50])]] (ByteArray.mk (List.toArray [66,49])) [ByteArray.mk (List.toArray [65,49])]) fun(a41:Bool)=>if a41=Bool.true then Option.bind (qf fu [qa.mk (ByteArray.mk (List.toArray [65,49])) 5 30 [(1:Int),2] [],qa.mk (ByteArray.mk (List.toArray [66,49])) 6 10 [(2:Int)] [ByteArray.mk (List.toArray [65,49])],qa.mk (ByteArray.mk (List.toArray [66,50])) 3 0 [] [],qa.mk (ByteArray.mk (List.toArray [67,49])) 10 200 [(40:Int)] [ByteArray.mk (List.toArray [66,49]),ByteArray.mk (List.toArray [66,50])]] (ByteArray.mk (List.toArray [67,49])) [ByteArray.mk (List.toArray [65,49]),ByteArray.mk (List.toArray [66,49])]) fun(a42:Bool)=>if(!a42)=Bool.true then Option.bind (qf fu [qa.mk (ByteArray.mk (List.toArray [65,49])) 5 30 [(1:Int),2] [],qa.mk (ByteArray.mk (List.toArray [66,49])) 6 10 [(2:Int)] [ByteArray.mk (List.toArray [65,49])],qa.mk (ByteArray.mk (List.toArray [66,50])) 3 0 [] [],qa.mk (ByteArray.mk (List.toArray [67,49])) 10 200 [(40:Int)] [ByteArray.mk (List.toArray [66,49]),ByteArray.mk (List.toArray [66,50])]] (ByteArray.mk (List.toArray [88])) []) fun(a43:Bool)=>if(!a43)=Bool.true then Option.bind (qi fu (qa.mk (ByteArray.mk (List.toArray [65,49])) 5 30 [(1:Int),2] []) (qa.mk (ByteArray.mk (List.toArray [66,49])) 6 10 [(2:Int)] [ByteArray.mk (List.toArray [65,49])])) fun(a44:Bool)=>if a44=Bool.true then Option.bind (qi fu (qa.mk (ByteArray.mk (List.toArray [66,49])) 6 10 [(2:Int)] [ByteArray.mk (List.toArray [65,49])]) (qa.mk (ByteArray.mk (List.toArray [66,50])) 3 0 [] [])) fun(a45:Bool)=>some Bool.false else some Bool.false else some Bool.false else some Bool.false else some Bool.false else Option.bind (qf fu [qa.mk (ByteArray.mk (List.toArray [65,49])) 5 30 [(1:Int),2] [],qa.mk (ByteArray.mk (List.toArray [66,49])) 6 10 [(2:Int)] [ByteArray.mk (List.toArray [65,49])],qa.mk (ByteArray.mk (List.toArray [66,50])) 3 0 [] [],qa.mk (ByteArray.mk (List.toArray [67,49])) 10 200 [(40:Int)] [ByteArray.mk (List.toArray [66,49]),ByteArray.mk (List.toArray [66,50])]] (ByteArray.mk (List.toArray [66,49])) [ByteArray.mk (List.toArray [65,49])]) fun(a46:Bool)=>if a46=Bool.true then Option.bind (qf fu [qa.mk (ByteArray.mk (List.toArray [65,49])) 5 30 [(1:Int),2] [],qa.mk (ByteArray.mk (List.toArray [66,49])) 6 10 [(2:Int)] [ByteArray.mk (List.toArray [65,49])],qa.mk (ByteArray.mk (List.toArray [66,50])) 3 0 [] [],qa.mk (ByteArray.mk (List.toArray [67,49])) 10 200 [(40:Int)] [ByteArray.mk (List.toArray [66,49]),ByteArray.mk (List.toArray [66,50])]] (ByteArray.mk (List.toArray [67,49])) [ByteArray.mk (List.toArray [65,49]),ByteArray.mk (List.toArray [66,49])]) fun(a47:Bool)=>if(!a47)=Bool.true then Option.bind (qf fu [qa.mk (ByteArray.mk (List.toArray [65,49])) 5 30 [(1:Int),2] [],qa.mk (ByteArray.mk (List.toArray [66,49])) 6 10 [(2:Int)] [ByteArray.mk (List.toArray [65,49])],qa.mk (ByteArray.mk (List.toArray [66,50])) 3 0 [] [],qa.mk (ByteArray.mk (List.toArray [67,49])) 10 200 [(40:Int)] [ByteArray.mk (List.toArray [66,49]),ByteArray.mk (List.toArray [66,50])]] (ByteArray.mk (List.toArray [88])) []) fun(a48:Bool)=>if(!a48)=Bool.true then Option.bind (qi fu (qa.mk (ByteArray.mk (List.toArray [65,49])) 5 30 [(1:Int),2] []) (qa.mk (ByteArray.mk (List.toArray [66,49])) 6 10 [(2:Int)] [ByteArray.mk (List.toArray [65,49])])) fun(a49:Bool)=>if a49=Bool.true then Option.bind (qi fu (qa.mk (ByteArray.mk (List.toArray [66,49])) 6 10 [(2:Int)] [ByteArray.mk (List.toArray [65,49])]) (qa.mk (ByteArray.mk (List.toArray [66,50])) 3 0 [] [])) fun(a50:Bool)=>some Bool.false else some Bool.false else some Bool.false else some Bool.false else some Bool.false else Option.bind (qL fu [qa.mk (ByteArray.mk (List.toArray [65,49])) 5 30 [(1:Int),2] [],qa.mk (ByteArray.mk (List.toArray [66,49])) 6 10 [(2:Int)] [ByteArray.mk (List.toArray [65,49])],qa.mk (ByteArray.mk (List.toArray [66,50])) 3 0 [] [],qa.mk (ByteArray.mk (List.toArray [67,49])) 10 200 [(40:Int)] [ByteArray.mk (List.toArray [66,49]),ByteArray.mk (List.toArray [66,50])]] (ByteArray.mk (List.toArray [67,49]))) fun(a51:List ByteArray)=>Option.bind (qU fu a51 [ByteArray.mk (List.toArray [65,49]),ByteArray.mk (List.toArray [66,49]),ByteArray.mk (List.toArray [66,50])]) fun(a52:Bool)=>if a52=Bool.true then Option.bind (qL fu [qa.mk (ByteArray.mk (List.toArray [65,49])) 5 30 [(1:Int),2] [],qa.mk (ByteArray.mk (List.toArray [66,49])) 6 10 [(2:Int)] [ByteArray.mk (List.toArray [65,49])],qa.mk (ByteArray.mk (List.toArray [66,50])) 3 0 [] [],qa.mk (ByteArray.mk (List.toArray [67,49])) 10 200 [(40:Int)] [ByteArray.mk (List.toArray [66,49]),ByteArray.mk (List.toArray [66,50])]] (ByteArray.mk (List.toArray [65,49]))) fun(a53:List ByteArray)=>Option.bind (qL fu [qa.mk (ByteArray.mk (List.toArray [65,49])) 5 30 [(1:Int),2] [],qa.mk (ByteArray.mk (List.toArray [66,49])) 6 10 [(2:Int)] [ByteArray.mk (List.toArray [65,49])],qa.mk (ByteArray.mk (List.toArray [66,50])) 3 0 [] [],qa.mk (ByteArray.mk (List.toArray [67,49])) 10 200 [(40:Int)] [ByteArray.mk (List.toArray [66,49]),ByteArray.mk (List.toArray [66,50])]] (ByteArray.mk (List.toArray [88]))) fun(a54:List ByteArray)=>if(w64 (((a53.length:Nat):Int)+((a54.length:Nat):Int))==0)=Bool.true then Option.bind (QP fu [qa.mk (ByteArray.mk (List.toArray [65,49])) 5 30 [(1:Int),2] [],qa.mk (ByteArray.mk (List.toArray [66,49])) 6 10 [(2:Int)] [ByteArray.mk (List.toArray [65,49])],qa.mk (ByteArray.mk (List.toArray [66,50])) 3 0 [] [],qa.mk (ByteArray.mk (List.toArray [67,49])) 10 200 [(40:Int)] [ByteArray.mk (List.toArray [66,49]),ByteArray.mk (List.toArray [66,50])]]) fun(a55:List ByteArray)=>Option.bind (qU fu a55 [ByteArray.mk (List.toArray [65,49]),ByteArray.mk (List.toArray [66,49]),ByteArray.mk (List.toArray [66,50]),ByteArray.mk (List.toArray [67,49])]) fun(a56:Bool)=>Option.bind (qf fu [qa.mk (ByteArray.mk (List.toArray [65,49])) 5 30 [(1:Int),2] [],qa.mk (ByteArray.mk (List.toArray [66,49])) 6 10 [(2:Int)] [ByteArray.mk (List.toArray [65,49])],qa.mk (ByteArray.mk (List.toArray [66,50])) 3 0 [] [],qa.mk (ByteArray.mk (List.toArray [67,49])) 10 200 [(40:Int)] [ByteArray.mk (List.toArray [66,49]),ByteArray.mk (List.toArray [66,50])]] (ByteArray.mk (List.toArray [66,49])) [ByteArray.mk (List.toArray [65,49])]) fun(a57:Bool)=>if a57=Bool.true then Option.bind (qf fu [qa.mk (ByteArray.mk (List.toArray [65,49])) 5 30 [(1:Int),2] [],qa.mk (ByteArray.mk (List.toArray [66,49])) 6 10 [(2:Int)] [ByteArray.mk (List.toArray [65,49])],qa.mk (ByteArray.mk (List.toArray [66,50])) 3 0 [] [],qa.mk (ByteArray.mk (List.toArray [67,49])) 10 200 [(40:Int)] [ByteArray.mk (List.toArray [66,49]),ByteArray.mk (List.toArray [66,50])]] (ByteArray.mk (List.toArray [67,49])) [ByteArray.mk (List.toArray [65,49]),ByteArray.mk (List.toArray [66,49])]) fun(a58:Bool)=>if(!a58)=Bool.true then Option.bind (qf fu [qa.mk (ByteArray.mk (List.toArray [65,49])) 5 30 [(1:Int),2] [],qa.mk (ByteArray.mk (List.toArray [66,49])) 6 10 [(2:Int)] [ByteArray.mk (List.toArray [65,49])],qa.mk (ByteArray.mk (List.toArray [66,50])) 3 0 [] [],qa.mk (ByteArray.mk (List.toArray [67,49])) 10 200 [(40:Int)] [ByteArray.mk (List.toArray [66,49]),ByteArray.mk (List.toArray [66,50])]] (ByteArray.mk (List.toArray [88])) []) fun(a59:Bool)=>if(!a59)=Bool.true then Option.bind (qi fu (qa.mk (ByteArray.mk (List.toArray [65,49])) 5 30 [(1:Int),2] []) (qa.mk (ByteArray.mk (List.toArray [66,49])) 6 10 [(2:Int)] [ByteArray.mk (List.toArray [65,49])])) fun(a60:Bool)=>if a60=Bool.true then Option.bind (qi fu (qa.mk (ByteArray.mk (List.toArray [66,49])) 6 10 [(2:Int)] [ByteArray.mk (List.toArray [65,49])]) (qa.mk (ByteArray.mk (List.toArray [66,50])) 3 0 [] [])) fun(a61:Bool)=>some Bool.false else some Bool.false else some Bool.false else some Bool.false else some Bool.false else Option.bind (qf fu [qa.mk (ByteArray.mk (List.toArray [65,49])) 5 30 [(1:Int),2] [],qa.mk (ByteArray.mk (List.toArray [66,49])) 6 10 [(2:Int)] [ByteArray.mk (List.toArray [65,49])],qa.mk (ByteArray.mk (List.toArray [66,50])) 3 0 [] [],qa.mk (ByteArray.mk (List.toArray [67,49])) 10 200 [(40:Int)] [ByteArray.mk (List.toArray [66,49]),ByteArray.mk (List.toArray [66,50])]] (ByteArray.mk (List.toArray [66,49])) [ByteArray.mk (List.toArray [65,49])]) fun(a62:Bool)=>if a62=Bool.true then Option.bind (qf fu [qa.mk (ByteArray.mk (List.toArray [65,49])) 5 30 [(1:Int),2] [],qa.mk (ByteArray.mk (List.toArray [66,49])) 6 10 [(2:Int)] [ByteArray.mk (List.toArray [65,49])],qa.mk (ByteArray.mk (List.toArray [66,50])) 3 0 [] [],qa.mk (ByteArray.mk (List.toArray [67,49])) 10 200 [(40:Int)] [ByteArray.mk (List.toArray [66,49]),ByteArray.mk (List.toArray [66,50])]] (ByteArray.mk (List.toArray [67,49])) [ByteArray.mk (List.toArray [65,49]),ByteArray.mk (List.toArray [66,49])]) fun(a63:Bool)=>if(!a63)=Bool.true then Option.bind (qf fu [qa.mk (ByteArray.mk (List.toArray [65,49])) 5 30 [(1:Int),2] [],qa.mk (ByteArray.mk (List.toArray [66,49])) 6 10 [(2:Int)] [ByteArray.mk (List.toArray [65,49])],qa.mk (ByteArray.mk (List.toArray [66,50])) 3 0 [] [],qa.mk (ByteArray.mk (List.toArray [67,49])) 10 200 [(40:Int)] [ByteArray.mk (List.toArray [66,49]),ByteArray.mk (List.toArray [66,50])]] (ByteArray.mk (List.toArray [88])) []) fun(a64:Bool)=>if(!a64)=Bool.true then Option.bind (qi fu (qa.mk (ByteArray.mk (List.toArray [65,49])) 5 30 [(1:Int),2] []) (qa.mk (ByteArray.mk (List.toArray [66,49])) 6 10 [(2:Int)] [ByteArray.mk (List.toArray [65,49])])) fun(a65:Bool)=>if a65=Bool.true then Option.bind (qi fu (qa.mk (ByteArray.mk (List.toArray [66,49])) 6 10 [(2:Int)] [ByteArray.mk (List.toArray [65,49])]) (qa.mk (ByteArray.mk (List.toArray [66,50])) 3 0 [] [])) fun(a66:Bool)=>some Bool.false else some Bool.false else some Bool.false else some Bool.false else some Bool.false else Option.bind (qf fu [qa.mk (ByteArray.mk (List.toArray [65,49])) 5 30 [(1:Int),2] [],qa.mk (ByteArray.mk (List.toArray [66,49])) 6 10 [(2:Int)] [ByteArray.mk (List.toArray [65,49])],qa.mk (ByteArray.mk (List.toArray [66,50])) 3 0 [] [],qa.mk (ByteArray.mk (List.toArray [67,49])) 10 200 [(40:Int)] [ByteArray.mk (List.toArray [66,49]),ByteArray.mk (List.toArray [66,50])]] (ByteArray.mk (List.toArray [66,49])) [ByteArray.mk (List.toArray [65,49])]) fun(a67:Bool)=>if a67=Bool.true then Option.bind (qf fu [qa.mk (ByteArray.mk (List.toArray [65,49])) 5 30 [(1:Int),2] [],qa.mk (ByteArray.mk (List.toArray [66,49])) 6 10 [(2:Int)] [ByteArray.mk (List.toArray [65,49])],qa.mk (ByteArray.mk (List.toArray [66,50])) 3 0 [] [],qa.mk (ByteArray.mk (List.toArray [67,49])) 10 200 [(40:Int)] [ByteArray.mk (List.toArray [66,49]),ByteArray.mk (List.toArray [66,50])]] (ByteArray.mk (List.toArray [67,49])) [ByteArray.mk (List.toArray [65,49]),ByteArray.mk (List.toArray [66,49])]) fun(a68:Bool)=>if(!a68)=Bool.true then Option.bind (qf fu [qa.mk (ByteArray.mk (List.toArray [65,49])) 5 30 [(1:Int),2] [],qa.mk (ByteArray.mk (List.toArray [66,49])) 6 10 [(2:Int)] [ByteArray.mk (List.toArray [65,49])],qa.mk (ByteArray.mk (List.toArray [66,50])) 3 0 [] [],qa.mk (ByteArray.mk (List.toArray [67,49])) 10 200 [(40:Int)] [ByteArray.mk (List.toArray [66,49]),ByteArray.mk (List.toArray [66,50])]] (ByteArray.mk (List.toArray [88])) []) fun(a69:Bool)=>if(!a69)=Bool.true then Option.bind (qi fu (qa.mk (ByteArray.mk (List.toArray [65,49])) 5 30 [(1:Int),2] []) (qa.mk (ByteArray.mk (List.toArray [66,49])) 6 10 [(2:Int)] [ByteArray.mk (List.toArray [65,49])])) fun(a70:Bool)=>if a70=Bool.true then Option.bind (qi fu (qa.mk (ByteArray.mk (List.toArray [66,49])) 6 10 [(2:Int)] [ByteArray.mk (List.toArray [65,49])]) (qa.mk (ByteArray.mk (List.toArray [66,50])) 3 0 [] [])) fun(a71:Bool)=>some Bool.false else some Bool.false else some Bool.false else some Bool.false else some Bool.false else Option.bind (qL fu [qa.mk (ByteArray.mk (List.toArray [65,49])) 5 30 [(1:Int),2] [],qa.mk (ByteArray.mk (List.toArray [66,49])) 6 10 [(2:Int)] [ByteArray.mk (List.toArray [65,49])],qa.mk (ByteArray.mk (List.toArray [66,50])) 3 0 [] [],qa.mk (ByteArray.mk (List.toArray [67,49])) 10 200 [(40:Int)] [ByteArray.mk (List.toArray [66,49]),ByteArray.mk (List.toArray [66,50])]] (ByteArray.mk (List.toArray [67,49]))) fun(a72:List ByteArray)=>Option.bind (qU fu a72 [ByteArray.mk (List.toArray [65,49]),ByteArray.mk (List.toArray [66,49]),ByteArray.mk (List.toArray [66,50])]) fun(a73:Bool)=>if a73=Bool.true then Option.bind (qL fu [qa.mk (ByteArray.mk (List.toArray [65,49])) 5 30 [(1:Int),2] [],qa.mk (ByteArray.mk (List.toArray [66,49])) 6 10 [(2:Int)] [ByteArray.mk (List.toArray [65,49])],qa.mk (ByteArray.mk (List.toArray [66,50])) 3 0 [] [],qa.mk (ByteArray.mk (List.toArray [67,49])) 10 200 [(40:Int)] [ByteArray.mk (List.toArray [66,49]),ByteArray.mk (List.toArray [66,50])]] (ByteArray.mk (List.toArray [65,49]))) fun(a74:List ByteArray)=>Option.bind (qL fu [qa.mk (ByteArray.mk (List.toArray [65,49])) 5 30 [(1:Int),2] [],qa.mk (ByteArray.mk (List.toArray [66,49])) 6 10 [(2:Int)] [ByteArray.mk (List.toArray [65,49])],qa.mk (ByteArray.mk (List.toArray [66,50])) 3 0 [] [],qa.mk (ByteArray.mk (List.toArray [67,49])) 10 200 [(40:Int)] [ByteArray.mk (List.toArray [66,49]),ByteArray.mk (List.toArray [66,50])]] (ByteArray.mk (List.toArray [88]))) fun(a75:List ByteArray)=>if(w64 (((a74.length:Nat):Int)+((a75.length:Nat):Int))==0)=Bool.true then Option.bind (QP fu [qa.mk (ByteArray.mk (List.toArray [65,49])) 5 30 [(1:Int),2] [],qa.mk (ByteArray.mk (List.toArray [66,49])) 6 10 [(2:Int)] [ByteArray.mk (List.toArray [65,49])],qa.mk (ByteArray.mk (List.toArray [66,50])) 3 0 [] [],qa.mk (ByteArray.mk (List.toArray [67,49])) 10 200 [(40:Int)] [ByteArray.mk (List.toArray [66,49]),ByteArray.mk (List.toArray [66,50])]]) fun(a76:List ByteArray)=>Option.bind (qU fu a76 [ByteArray.mk (List.toArray [65,49]),ByteArray.mk (List.toArray [66,49]),ByteArray.mk (List.toArray [66,50]),ByteArray.mk (List.toArray [67,49])]) fun(a77:Bool)=>Option.bind (qf fu [qa.mk (ByteArray.mk (List.toArray [65,49])) 5 30 [(1:Int),2] [],qa.mk (ByteArray.mk (List.toArray [66,49])) 6 10 [(2:Int)] [ByteArray.mk (List.toArray [65,49])],qa.mk (ByteArray.mk (List.toArray [66,50])) 3 0 [] [],qa.mk (ByteArray.mk (List.toArray [67,49])) 10 200 [(40:Int)] [ByteArray.mk (List.toArray [66,49]),ByteArray.mk (List.toArray [66,50])]] (ByteArray.mk (List.toArray [66,49])) [ByteArray.mk (List.toArray [65,49])]) fun(a78:Bool)=>if a78=Bool.true then Option.bind (qf fu [qa.mk (ByteArray.mk (List.toArray [65,49])) 5 30 [(1:Int),2] [],qa.mk (ByteArray.mk (List.toArray [66,49])) 6 10 [(2:Int)] [ByteArray.mk (List.toArray [65,49])],qa.mk (ByteArray.mk (List.toArray [66,50])) 3 0 [] [],qa.mk (ByteArray.mk (List.toArray [67,49])) 10 200 [(40:Int)] [ByteArray.mk (List.toArray [66,49]),ByteArray.mk (List.toArray [66,50])]] (ByteArray.mk (List.toArray [67,49])) [ByteArray.mk (List.toArray [65,49]),ByteArray.mk (List.toArray [66,49])]) fun(a79:Bool)=>if(!a79)=Bool.true then Option.bind (qf fu [qa.mk (ByteArray.mk (List.toArray [65,49])) 5 30 [(1:Int),2] [],qa.mk (ByteArray.mk (List.toArray [66,49])) 6 10 [(2:Int)] [ByteArray.mk (List.toArray [65,49])],qa.mk (ByteArray.mk (List.toArray [66,50])) 3 0 [] [],qa.mk (ByteArray.mk (List.toArray [67,49])) 10 200 [(40:Int)] [ByteArray.mk (List.toArray [66,49]),ByteArray.mk (List.toArray [66,50])]] (ByteArray.mk (List.toArray [88])) []) fun(a80:Bool)=>if(!a80)=Bool.true then Option.bind (qi fu (qa.mk (ByteArray.mk (List.toArray [65,49])) 5 30 [(1:Int),2] []) (qa.mk (ByteArray.mk (List.toArray [66,49])) 6 10 [(2:Int)] [ByteArray.mk (List.toArray [65,49])])) fun(a81:Bool)=>if a81=Bool.true then Option.bind (qi fu (qa.mk (ByteArray.mk (List.toArray [66,49])) 6 10 [(2:Int)] [ByteArray.mk (List.toArray [65,49])]) (qa.mk (ByteArray.mk (List.toArray [66,50])) 3 0 [] [])) fun(a82:Bool)=>some Bool.false else some Bool.false else some Bool.false else some Bool.false else some Bool.false else Option.bind (qf fu [qa.mk (ByteArray.mk (List.toArray [65,49])) 5 30 [(1:Int),2] [],qa.mk (ByteArray.mk (List.toArray [66,49])) 6 10 [(2:Int)] [ByteArray.mk (List.toArray [65,49])],qa.mk (ByteArray.mk (List.toArray [66,50])) 3 0 [] [],qa.mk (ByteArray.mk (List.toArray [67,49])) 10 200 [(40:Int)] [ByteArray.mk (List.toArray [66,49]),ByteArray.mk (List.toArray [66,50])]] (ByteArray.mk (List.toArray [66,49])) [ByteArray.mk (List.toArray [65,49])]) fun(a83:Bool)=>if a83=Bool.true then Option.bind (qf fu [qa.mk (ByteArray.mk (List.toArray [65,49])) 5 30 [(1:Int),2] [],qa.mk (ByteArray.mk (List.toArray [66,49])) 6 10 [(2:Int)] [ByteArray.mk (List.toArray [65,49])],qa.mk (ByteArray.mk (List.toArray [66,50])) 3 0 [] [],qa.mk (ByteArray.mk (List.toArray [67,49])) 10 200 [(40:Int)] [ByteArray.mk (List.toArray [66,49]),ByteArray.mk (List.toArray [66,50])]] (ByteArray.mk (List.toArray [67,49])) [ByteArray.mk (List.toArray [65,49]),ByteArray.mk (List.toArray [66,49])]) fun(a84:Bool)=>if(!a84)=Bool.true then Option.bind (qf fu [qa.mk (ByteArray.mk (List.toArray [65,49])) 5 30 [(1:Int),2] [],qa.mk (ByteArray.mk (List.toArray [66,49])) 6 10 [(2:Int)] [ByteArray.mk (List.toArray [65,49])],qa.mk (ByteArray.mk (List.toArray [66,50])) 3 0 [] [],qa.mk (ByteArray.mk (List.toArray [67,49])) 10 200 [(40:Int)] [ByteArray.mk (List.toArray [66,49]),ByteArray.mk (List.toArray [66,50])]] (ByteArray.mk (List.toArray [88])) []) fun(a85:Bool)=>if(!a85)=Bool.true then Option.bind (qi fu (qa.mk (ByteArray.mk (List.toArray [65,49])) 5 30 [(1:Int),2] []) (qa.mk (ByteArray.mk (List.toArray [66,49])) 6 10 [(2:Int)] [ByteArray.mk (List.toArray [65,49])])) fun(a86:Bool)=>if a86=Bool.true then Option.bind (qi fu (qa.mk (ByteArray.mk (List.toArray [66,49])) 6 10 [(2:Int)] [ByteArray.mk (List.toArray [65,49])]) (qa.mk (ByteArray.mk (List.toArray [66,50])) 3 0 [] [])) fun(a87:Bool)=>some Bool.false else some Bool.false else some Bool.false else some Bool.false else some Bool.false else Option.bind (qf fu [qa.mk (ByteArray.mk (List.toArray [65,49])) 5 30 [(1:Int),2] [],qa.mk (ByteArray.mk (List.toArray [66,49])) 6 10 [(2:Int)] [ByteArray.mk (List.toArray [65,49])],qa.mk (ByteArray.mk (List.toArray [66,50])) 3 0 [] [],qa.mk (ByteArray.mk (List.toArray [67,49])) 10 200 [(40:Int)] [ByteArray.mk (List.toArray [66,49]),ByteArray.mk (List.toArray [66,50])]] (ByteArray.mk (List.toArray [66,49])) [ByteArray.mk (List.toArray [65,49])]) fun(a88:Bool)=>if a88=Bool.true then Option.bind (qf fu [qa.mk (ByteArray.mk (List.toArray [65,49])) 5 30 [(1:Int),2] [],qa.mk (ByteArray.mk (List.toArray [66,49])) 6 10 [(2:Int)] [ByteArray.mk (List.toArray [65,49])],qa.mk (ByteArray.mk (List.toArray [66,50])) 3 0 [] [],qa.mk (ByteArray.mk (List.toArray [67,49])) 10 200 [(40:Int)] [ByteArray.mk (List.toArray [66,49]),ByteArray.mk (List.toArray [66,50])]] (ByteArray.mk (List.toArray [67,49])) [ByteArray.mk (List.toArray [65,49]),ByteArray.mk (List.toArray [66,49])]) fun(a89:Bool)=>if(!a89)=Bool.true then Option.bind (qf fu [qa.mk (ByteArray.mk (List.toArray [65,49])) 5 30 [(1:Int),2] [],qa.mk (ByteArray.mk (List.toArray [66,49])) 6 10 [(2:Int)] [ByteArray.mk (List.toArray [65,49])],qa.mk (ByteArray.mk (List.toArray [66,50])) 3 0 [] [],qa.mk (ByteArray.mk (List.toArray [67,49])) 10 200 [(40:Int)] [ByteArray.mk (List.toArray [66,49]),ByteArray.mk (List.toArray [66,50])]] (ByteArray.mk (List.toArray [88])) []) fun(a90:Bool)=>if(!a90)=Bool.true then Option.bind (qi fu (qa.mk (ByteArray.mk (List.toArray [65,49])) 5 30 [(1:Int),2] []) (qa.mk (ByteArray.mk (List.toArray [66,49])) 6 10 [(2:Int)] [ByteArray.mk (List.toArray [65,49])])) fun(a91:Bool)=>if a91=Bool.true then Option.bind (qi fu (qa.mk (ByteArray.mk (List.toArray [66,49])) 6 10 [(2:Int)] [ByteArray.mk (List.toArray [65,49])]) (qa.mk (ByteArray.mk (List.toArray [66,50])) 3 0 [] [])) fun(a92:Bool)=>some Bool.false else some Bool.false else some Bool.false else some Bool.false else some Bool.false else Option.bind (qL fu [qa.mk (ByteArray.mk (List.toArray [65,49])) 5 30 [(1:Int),2] [],qa.mk (ByteArray.mk (List.toArray [66,49])) 6 10 [(2:Int)] [ByteArray.mk (List.toArray [65,49])],qa.mk (ByteArray.mk (List.toArray [66,50])) 3 0 [] [],qa.mk (ByteArray.mk (List.toArray [67,49])) 10 200 [(40:Int)] [ByteArray.mk (List.toArray [66,49]),ByteArray.mk (List.toArray [66,50])]] (ByteArray.mk (List.toArray [67,49]))) fun(a93:List ByteArray)=>Option.bind (qU fu a93 [ByteArray.mk (List.toArray [65,49]),ByteArray.mk (List.toArray [66,49]),ByteArray.mk (List.toArray [66,50])]) fun(a94:Bool)=>if a94=Bool.true then Option.bind (qL fu [qa.mk (ByteArray.mk (List.toArray [65,49])) 5 30 [(1:Int),2] [],qa.mk (ByteArray.mk (List.toArray [66,49])) 6 10 [(2:Int)] [ByteArray.mk (List.toArray [65,49])],qa.mk (ByteArray.mk (List.toArray [66,50])) 3 0 [] [],qa.mk (ByteArray.mk (List.toArray [67,49])) 10 200 [(40:Int)] [ByteArray.mk (List.toArray [66,49]),ByteArray.mk (List.toArray [66,50])]] (ByteArray.mk (List.toArray [65,49]))) fun(a95:List ByteArray)=>Option.bind (qL fu [qa.mk (ByteArray.mk (List.toArray [65,49])) 5 30 [(1:Int),2] [],qa.mk (ByteArray.mk (List.toArray [66,49])) 6 10 [(2:Int)] [ByteArray.mk (List.toArray [65,49])],qa.mk (ByteArray.mk (List.toArray [66,50])) 3 0 [] [],qa.mk (ByteArray.mk (List.toArray [67,49])) 10 200 [(40:Int)] [ByteArray.mk (List.toArray [66,49]),ByteArray.mk (List.toArray [66,50])]] (ByteArray.mk (List.toArray [88]))) fun(a96:List ByteArray)=>if(w64 (((a95.length:Nat):Int)+((a96.length:Nat):Int))==0)=Bool.true then Option.bind (QP fu [qa.mk (ByteArray.mk (List.toArray [65,49])) 5 30 [(1:Int),2] [],qa.mk (ByteArray.mk (List.toArray [66,49])) 6 10 [(2:Int)] [ByteArray.mk (List.toArray [65,49])],qa.mk (ByteArray.mk (List.toArray [66,50])) 3 0 [] [],qa.mk (ByteArray.mk (List.toArray [67,49])) 10 200 [(40:Int)] [ByteArray.mk (List.toArray [66,49]),ByteArray.mk (List.toArray [66,50])]]) fun(a97:List ByteArray)=>Option.bind (qU fu a97 [ByteArray.mk (List.toArray [65,49]),ByteArray.mk (List.toArray [66,49]),ByteArray.mk (List.toArray [66,50]),ByteArray.mk (List.toArray [67,49])]) fun(a98:Bool)=>Option.bind (qf fu [qa.mk (ByteArray.mk (List.toArray [65,49])) 5 30 [(1:Int),2] [],qa.mk (ByteArray.mk (List.toArray [66,49])) 6 10 [(2:Int)] [ByteArray.mk (List.toArray [65,49])],qa.mk (ByteArray.mk (List.toArray [66,50])) 3 0 [] [],qa.mk (ByteArray.mk (List.toArray [67,49])) 10 200 [(40:Int)] [ByteArray.mk (List.toArray [66,49]),ByteArray.mk (List.toArray [66,50])]] (ByteArray.mk (List.toArray [66,49])) [ByteArray.mk (List.toArray [65,49])]) fun(a99:Bool)=>if a99=Bool.true then Option.bind (qf fu [qa.mk (ByteArray.mk (List.toArray [65,49])) 5 30 [(1:Int),2] [],qa.mk (ByteArray.mk (List.toArray [66,49])) 6 10 [(2:Int)] [ByteArray.mk (List.toArray [65,49])],qa.mk (ByteArray.mk (List.toArray [66,50])) 3 0 [] [],qa.mk (ByteArray.mk (List.toArray [67,49])) 10 200 [(40:Int)] [ByteArray.mk (List.toArray [66,49]),ByteArray.mk (List.toArray [66,50])]] (ByteArray.mk (List.toArray [67,49])) [ByteArray.mk (List.toArray [65,49]),ByteArray.mk (List.toArray [66,49])]) fun(a100:Bool)=>if(!a100)=Bool.true then Option.bind (qf fu [qa.mk (ByteArray.mk (List.toArray [65,49])) 5 30 [(1:Int),2] [],qa.mk (ByteArray.mk (List.toArray [66,49])) 6 10 [(2:Int)] [ByteArray.mk (List.toArray [65,49])],qa.mk (ByteArray.mk (List.toArray [66,50])) 3 0 [] [],qa.mk (ByteArray.mk (List.toArray [67,49])) 10 200 [(40:Int)] [ByteArray.mk (List.toArray [66,49]),ByteArray.mk (List.toArray [66,50])]] (ByteArray.mk (List.toArray [88])) []) fun(a101:Bool)=>if(!a101)=Bool.true then Option.bind (qi fu (qa.mk (ByteArray.mk (List.toArray [65,49])) 5 30 [(1:Int),2] []) (qa.mk (ByteArray.mk (List.toArray [66,49])) 6 10 [(2:Int)] [ByteArray.mk (List.toArray [65,49])])) fun(a102:Bool)=>if a102=Bool.true then Option.bind (qi fu (qa.mk (ByteArray.mk (List.toArray [66,49])) 6 10 [(2:Int)] [ByteArray.mk (List.toArray [65,49])]) (qa.mk (ByteArray.mk (List.toArray [66,50])) 3 0 [] [])) fun(a103:Bool)=>some Bool.false else some Bool.false else some Bool.false else some Bool.false else some Bool.false else Option.bind (qf fu [qa.mk (ByteArray.mk (List.toArray [65,49])) 5 30 [(1:Int),2] [],qa.mk (ByteArray.mk (List.toArray [66,49])) 6 10 [(2:Int)] [ByteArray.mk (List.toArray [65,49])],qa.mk (ByteArray.mk (List.toArray [66,50])) 3 0 [] [],qa.mk (ByteArray.mk (List.toArray [67,49])) 10 200 [(40:Int)] [ByteArray.mk (List.toArray [66,49]),ByteArray.mk (List.toArray [66,50])]] (ByteArray.mk (List.toArray [66,49])) [ByteArray.mk (List.toArray [65,49])]) fun(a104:Bool)=>if a104=Bool.true then Option.bind (qf fu [qa.mk (ByteArray.mk (List.toArray [65,49])) 5 30 [(1:Int),2] [],qa.mk (ByteArray.mk (List.toArray [66,49])) 6 10 [(2:Int)] [ByteArray.mk (List.toArray [65,49])],qa.mk (ByteArray.mk (List.toArray [66,50])) 3 0 [] [],qa.mk (ByteArray.mk (List.toArray [67,49])) 10 200 [(40:Int)] [ByteArray.mk (List.toArray [66,49]),ByteArray.mk (List.toArray [66,50])]] (ByteArray.mk (List.toArray [67,49])) [ByteArray.mk (List.toArray [65,49]),ByteArray.mk (List.toArray [66,49])]) fun(a105:Bool)=>if(!a105)=Bool.true then Option.bind (qf fu [qa.mk (ByteArray.mk (List.toArray [65,49])) 5 30 [(1:Int),2] [],qa.mk (ByteArray.mk (List.toArray [66,49])) 6 10 [(2:Int)] [ByteArray.mk (List.toArray [65,49])],qa.mk (ByteArray.mk (List.toArray [66,50])) 3 0 [] [],qa.mk (ByteArray.mk (List.toArray [67,49])) 10 200 [(40:Int)] [ByteArray.mk (List.toArray [66,49]),ByteArray.mk (List.toArray [66,50])]] (ByteArray.mk (List.toArray [88])) []) fun(a106:Bool)=>if(!a106)=Bool.true then Option.bind (qi fu (qa.mk (ByteArray.mk (List.toArray [65,49])) 5 30 [(1:Int),2] []) (qa.mk (ByteArray.mk (List.toArray [66,49])) 6 10 [(2:Int)] [ByteArray.mk (List.toArray [65,49])])) fun(a107:Bool)=>if a107=Bool.true then Option.bind (qi fu (qa.mk (ByteArray.mk (List.toArray [66,49])) 6 10 [(2:Int)] [ByteArray.mk (List.toArray [65,49])]) (qa.mk (ByteArray.mk (List.toArray [66,50])) 3 0 [] [])) fun(a108:Bool)=>some Bool.false else some Bool.false else some Bool.false else some Bool.false else some Bool.false else Option.bind (qf fu [qa.mk (ByteArray.mk (List.toArray [65,49])) 5 30 [(1:Int),2] [],qa.mk (ByteArray.mk (List.toArray [66,49])) 6 10 [(2:Int)] [ByteArray.mk (List.toArray [65,49])],qa.mk (ByteArray.mk (List.toArray [66,50])) 3 0 [] [],qa.mk (ByteArray.mk (List.toArray [67,49])) 10 200 [(40:Int)] [ByteArray.mk (List.toArray [66,49]),ByteArray.mk (List.toArray [66,50])]] (ByteArray.mk (List.toArray [66,49])) [ByteArray.mk (List.toArray [65,49])]) fun(a109:Bool)=>if a109=Bool.true then Option.bind (qf fu [qa.mk (ByteArray.mk (List.toArray [65,49])) 5 30 [(1:Int),2] [],qa.mk (ByteArray.mk (List.toArray [66,49])) 6 10 [(2:Int)] [ByteArray.mk (List.toArray [65,49])],qa.mk (ByteArray.mk (List.toArray [66,50])) 3 0 [] [],qa.mk (ByteArray.mk (List.toArray [67,49])) 10 200 [(40:Int)] [ByteArray.mk (List.toArray [66,49]),ByteArray.mk (List.toArray [66,50])]] (ByteArray.mk (List.toArray [67,49])) [ByteArray.mk (List.toArray [65,49]),ByteArray.mk (List.toArray [66,49])]) fun(a110:Bool)=>if(!a110)=Bool.true then Option.bind (qf fu [qa.mk (ByteArray.mk (List.toArray [65,49])) 5 30 [(1:Int),2] [],qa.mk (ByteArray.mk (List.toArray [66,49])) 6 10 [(2:Int)] [ByteArray.mk (List.toArray [65,49])],qa.mk (ByteArray.mk (List.toArray [66,50])) 3 0 [] [],qa.mk (ByteArray.mk (List.toArray [67,49])) 10 200 [(40:Int)] [ByteArray.mk (List.toArray [66,49]),ByteArray.mk (List.toArray [66,50])]] (ByteArray.mk (List.toArray [88])) []) fun(a111:Bool)=>if(!a111)=Bool.true then Option.bind (qi fu (qa.mk (ByteArray.mk (List.toArray [65,49])) 5 30 [(1:Int),2] []) (qa.mk (ByteArray.mk (List.toArray [66,49])) 6 10 [(2:Int)] [ByteArray.mk (List.toArray [65,49])])) fun(a112:Bool)=>if a112=Bool.true then Option.bind (qi fu (qa.mk (ByteArray.mk (List.toArray [66,49])) 6 10 [(2:Int)] [ByteArray.mk (List.toArray [65,49])]) (qa.mk (ByteArray.mk (List.toArray [66,50])) 3 0 [] [])) fun(a113:Bool)=>some Bool.false else some Bool.false else some Bool.false else some Bool.false else some Bool.false
theorem q4h (fu:Nat):qk (q0i fu ) (Ze ):=by
 unfold q0i Ze
 repeat (first
  | with_reducible exact qk.refl _
  | with_reducible exact qk.none _
  | with_reducible apply q0A
  | with_reducible apply q41
  | with_reducible apply q2e
  | with_reducible apply q47
  | with_reducible apply q5y
  | with_reducible apply q3U
  | with_reducible apply q18
  | with_reducible refine qk.bind ?_ (fun _=>?_)
  | with_reducible refine qk.ite ?_ ?_
  | with_reducible refine qk.sum (fun _=>?_) (fun _=>?_)
  | with_reducible refine qk.lim (fun _=>?_))
end

noncomputable section
open Go.RowKit
set_option maxRecDepth 100000 in
theorem q94:Ze=some true:=by
 have h:q0i 40=some true:=by kernel_rfl
 exact q4h 40 _ h
end
noncomputable section
open Go.RowKit
set_option maxRecDepth 20000
set_option maxHeartbeats 8000000
theorem lo4:okL 4 q8D:=qW (qc bd4) (by kernel_rfl) (by kernel_rfl)
def cx4:=JA_ @q8D.eq_1 (JA_ @Try.f4.eq_1 @bd4)
theorem qru:lbO 4 5=qjj:=zE (qc bd4) rfl
theorem qtu:okL 4 qjj:=qR lo4 (qxk (i:=0) (by kernel_rfl))
theorem qmD:lbO 4 11=qcu:=zE (qc bd4) rfl
theorem qo8:okL 4 qcu:=qR lo4 (qxk (i:=1) (by kernel_rfl))
theorem qpL:lbO 4 15=qef:=zE (qc bd4) rfl
theorem qm0:okL 4 qef:=qR lo4 (qxk (i:=2) (by kernel_rfl))
theorem qlB:lbO 4 23=qbt:=zE (qc bd4) rfl
theorem qmQ:okL 4 qbt:=qR lo4 (qxk (i:=3) (by kernel_rfl))
theorem cdT:qg=[ByteArray.mk (List.toArray [65,49]),ByteArray.mk (List.toArray [66,49]),ByteArray.mk (List.toArray [66,50]),ByteArray.mk (List.toArray [67,49]),ByteArray.mk (List.toArray [68,49]),ByteArray.mk (List.toArray [69,57])]:=rfl
theorem eSx:∀x:ByteArray,eS x=[D.str x]:=fun _=>rfl
def qK (w1:List (List qa)) (t7:Bool) (t11:List qa) (t38:Int) (t39:Int):(List ByteArray×Int)→Option ((List ByteArray×Int)⊕(List ByteArray))|(w0,t13)=>if t13<((t11.length:Nat):Int) then if t13<8 then if 0≤t13∧t13<((t11.length:Nat):Int) then Option.bind t11[Int.toNat t13]? fun(a:qa)=>if w0.length+1≤maxLen∧(w0.length+1)*16≤140737488355328 then some (Sum.inl (w0++[a.Code],w64 (t13+1))) else none else none else some (Sum.inr w0) else some (Sum.inr w0)
theorem q03:∀(w0:List ByteArray) (w1:List (List qa)) (t7:Bool) (t11:List qa) (t13 t38 t39:Int) (w0_len w1_len:Nat),w0_len=w0.length→w1_len=w1.length→XL2 evo 4 0 11 ⟨[(7,rB t7),(11,rL 5 qb t11),(12,rO 0 1 w0_len),(13,rI t13),(37,rO 1 1 w1_len),(38,rI t38),(39,rI t39)],[(0,bR 9 1 eS w0),(1,bR 25 1 (eL 5 qb) w1)],2,154⟩=(qT (qK w1 t7 t11 t38 t39) (w0,t13)).bind (fun(e:List ByteArray)=>some (Exit.exit 2,⟨[(7,rB t7),(11,rL 5 qb t11),(12,rO 0 1 e.length),(37,rO 1 1 w1.length),(38,rI t38),(39,rI t39)],[(0,bR 9 1 eS e),(1,bR 25 1 (eL 5 qb) w1)],2,154⟩)):=
 by
 intro w0 w1 t7 t11 t13 t38 t39 w0_len w1_len h0 h1
 subst h0 h1
 revert t13;revert w0;exact qie qmD qo8 (fun e=>by exact⟨_,rfl,fun h=>by cases h⟩) fun w0 t13=>by
  have:=cx4;have:=@qcu.eq_1;have:=@qK.eq_1;have:=@cdT;have:=@eSx;exact gA
theorem JJ:∀(w00 w01 w02 w03 w04 w05 w06 w07:ByteArray) (w1:List (List qa)) (t7:Bool) (t11:List qa) (t13 t38 t39:Int) (w1_len:Nat),w1_len=w1.length→XL2 evo 4 0 11 ⟨[(7,rB t7),(11,rL 5 qb t11),(12,rO 0 1 8),(13,rI t13),(37,rO 1 1 w1_len),(38,rI t38),(39,rI t39)],[(0,B.row 9 1 [dS w00,dS w01,dS w02,dS w03,dS w04,dS w05,dS w06,dS w07]),(1,bR 25 1 (eL 5 qb) w1)],2,154⟩=(qT (qK w1 t7 t11 t38 t39) ([w00,w01,w02,w03,w04,w05,w06,w07],t13)).bind (fun(e:List ByteArray)=>some (Exit.exit 2,⟨[(7,rB t7),(11,rL 5 qb t11),(12,rO 0 1 e.length),(37,rO 1 1 w1.length),(38,rI t38),(39,rI t39)],[(0,bR 9 1 eS e),(1,bR 25 1 (eL 5 qb) w1)],2,154⟩)):=by
 intro w00 w01 w02 w03 w04 w05 w06 w07 w1 t7 t11 t13 t38 t39 w1_len h0;subst h0;have h:=q03 [w00,w01,w02,w03,w04,w05,w06,w07] w1 t7 t11 t13 t38 t39 _ _ rfl rfl
 first
  | exact h
  | (simp only[rL,dL,bR,bZ,Nat.reduceAdd] at h;exact h)
def qX (w1:List (List qa)) (b0:qa) (t7:Bool) (t11:List qa) (t12:List ByteArray) (t38:Int) (t39:Int) (t70:List ByteArray) (t71:Int) (t72:Int):Int→Option (Int⊕(Unit⊕Unit))|t21=>if t21<((t11.length:Nat):Int) then if t21<8 then if 0≤t21∧t21<((t11.length:Nat):Int) then Option.bind t11[Int.toNat t21]? fun(a:qa)=>Option.bind (qe b0 a) fun(a2:Bool)=>if 0≤t21∧t21<((t11.length:Nat):Int) then Option.bind t11[Int.toNat t21]? fun(a3:qa)=>Option.bind (J9 b0 a3) fun(a4:Bool)=>if(!(a2==a4))=Bool.true then some (Sum.inr (Sum.inl ())) else some (Sum.inl (w64 (t21+1))) else none else none else some (Sum.inr (Sum.inr ())) else some (Sum.inr (Sum.inr ()))
theorem q04:∀(w1:List (List qa)) (b0_Code:ByteArray) (b0_Credits b0_Places:Int) (b0_Slots:List Int) (b0_Needs:List ByteArray) (t7:Bool) (t11:List qa) (t12:List ByteArray) (t21 t38 t39:Int) (t70:List ByteArray) (t71 t72:Int) (w1_len:Nat),w1_len=w1.length→XL2 evo 4 0 23 ⟨[(7,rB t7),(11,rL 5 qb t11),(12,rL 1 eS t12),(18,rP 0),(21,rI t21),(37,rO 1 1 w1_len),(38,rI t38),(39,rI t39),(70,rL 1 eS t70),(71,rI t71),(72,rI t72)],[(0,B.blk 35 [dS b0_Code,dI b0_Credits,dI b0_Places,dL 1 eI b0_Slots,dL 1 eS b0_Needs]),(1,bR 25 1 (eL 5 qb) w1)],2,154⟩=(qT (qX w1 (qa.mk b0_Code b0_Credits b0_Places b0_Slots b0_Needs) t7 t11 t12 t38 t39 t70 t71 t72) t21).bind (Sum.elim (fun(e:Unit)=>some (Exit.ret,⟨[(6,rB Bool.false),(7,rB t7),(11,rL 5 qb t11),(12,rL 1 eS t12),(37,rO 0 1 w1.length),(38,rI t38),(39,rI t39),(70,rL 1 eS t70),(71,rI t71),(72,rI t72)],[(0,bR 25 1 (eL 5 qb) w1)],1,154⟩)) (fun(e:Unit)=>some (Exit.exit 6,⟨[(6,R.any),(7,rB t7),(11,rL 5 qb t11),(12,rL 1 eS t12),(37,rO 0 1 w1.length),(38,rI t38),(39,rI t39),(70,rL 1 eS t70),(71,rI t71),(72,rI t72)],[(0,bR 25 1 (eL 5 qb) w1)],1,154⟩))):=
 by
 intro w1 b0_Code b0_Credits b0_Places b0_Slots b0_Needs t7 t11 t12 t21 t38 t39 t70 t71 t72 w1_len h0
 subst h0
 revert t21;exact q2s qlB qmQ (fun e=>by rcases e with _|_<;>exact⟨_,rfl,fun h=>by cases h⟩) fun x=>by
  have:=cx4;have:=@qbt.eq_1;have:=@Jv;have:=@q4z;have:=@qX.eq_1;have:=@cdT;have:=@eSx;exact gA
def zD (w0:List (List qa)) (t7:Bool) (t11:List qa) (t12:List ByteArray) (t38:Int) (t39:Int) (t70:List ByteArray) (t71:Int):Int→Option (Int⊕(Unit⊕Unit))|t72=>if t72<t71 then if 0≤t72∧t72<((t70.length:Nat):Int) then Option.bind t70[Int.toNat t72]? fun(a:ByteArray)=>Option.bind (QI t11 a) fun(a2:Prod qa Bool)=>Option.bind (Qu t11 a) fun(a3:Prod qa Bool)=>if 0≤Int.tmod t72 3∧Int.tmod t72 3≤min ((t12.length:Nat):Int) (w64 (3+t72))∧min ((t12.length:Nat):Int) (w64 (3+t72))≤((t12.length:Nat):Int) then if(!(a2.2==a3.2))=Bool.true then some (Sum.inr (Sum.inl ())) else Option.bind (JD a2.1 a3.1) fun(a4:Bool)=>if(!a4)=Bool.true then some (Sum.inr (Sum.inl ())) else Option.bind (qs t11 a) fun(a5:List ByteArray)=>Option.bind (Z3 t11 a) fun(a6:List ByteArray)=>Option.bind (qp a5 a6) fun(a7:Bool)=>if(!a7)=Bool.true then some (Sum.inr (Sum.inl ())) else Option.bind (qd t11 a (List.take (Int.toNat (min ((t12.length:Nat):Int) (w64 (3+t72)))-Int.toNat (Int.tmod t72 3)) (List.drop (Int.toNat (Int.tmod t72 3)) t12))) fun(a8:Bool)=>Option.bind (Jt t11 a (List.take (Int.toNat (min ((t12.length:Nat):Int) (w64 (3+t72)))-Int.toNat (Int.tmod t72 3)) (List.drop (Int.toNat (Int.tmod t72 3)) t12))) fun(a9:Bool)=>if(!(a8==a9))=Bool.true then some (Sum.inr (Sum.inl ())) else Option.bind (qT (qX w0 a3.1 t7 t11 t12 t38 t39 t70 t71 t72) 0) fun(a10:Sum Unit Unit)=>Sum.elim (fun(a11:Unit)=>some (Sum.inr (Sum.inl ()))) (fun(a12:Unit)=>some (Sum.inl (w64 (t72+1)))) a10 else none else none else some (Sum.inr (Sum.inr ()))
theorem q05:∀(w0:List (List qa)) (t7:Bool) (t11:List qa) (t12:List ByteArray) (t38 t39:Int) (t70:List ByteArray) (t71 t72:Int) (w0_len:Nat),w0_len=w0.length→XL2 evo 4 0 15 ⟨[(7,rB t7),(11,rL 5 qb t11),(12,rL 1 eS t12),(37,rO 0 1 w0_len),(38,rI t38),(39,rI t39),(70,rL 1 eS t70),(71,rI t71),(72,rI t72)],[(0,bR 25 1 (eL 5 qb) w0)],1,154⟩=(qT (zD w0 t7 t11 t12 t38 t39 t70 t71) t72).bind (Sum.elim (fun(e:Unit)=>some (Exit.ret,⟨[(6,rB Bool.false),(7,rB t7),(37,rO 0 1 w0.length),(38,rI t38),(39,rI t39)],[(0,bR 25 1 (eL 5 qb) w0)],1,154⟩)) (fun(e:Unit)=>some (Exit.exit 4,⟨[(6,R.any),(7,rB t7),(37,rO 0 1 w0.length),(38,rI t38),(39,rI t39)],[(0,bR 25 1 (eL 5 qb) w0)],1,154⟩))):=
 by
 intro w0 t7 t11 t12 t38 t39 t70 t71 t72 w0_len h0
 subst h0
 revert t72;exact q2s qpL qm0 (fun e=>by rcases e with _|_<;>exact⟨_,rfl,fun h=>by cases h⟩) fun x=>by
  have:=cx4;have:=@qef.eq_1;have:=@q19;have:=@QY;have:=@q5I;have:=@q0L;have:=@q1a;have:=@Qm;have:=@J5;have:=@q2F;have:=@q04;have:=@zD.eq_1;have:=@cdT;have:=@eSx;exact gA
def zK (w0:List (List qa)) (t7:Bool) (t38:Int):Int→Option (Int⊕(Unit⊕Unit))|t39=>if t39<t38 then if 0≤t39∧t39<((w0.length:Nat):Int) then Option.bind w0[Int.toNat t39]? fun(a:List qa)=>Option.bind (zo a) fun(a2:List ByteArray)=>Option.bind (J6 a) fun(a3:List ByteArray)=>Option.bind (qp a2 a3) fun(a4:Bool)=>if(!a4)=Bool.true then some (Sum.inr (Sum.inl ())) else if 8≤maxLen then Option.bind (qT (qK w0 t7 a t38 t39) ([ByteArray.mk (List.toArray [90]),ByteArray.mk (List.toArray []),ByteArray.mk (List.toArray [65,49]),ByteArray.mk (List.toArray [66,49]),ByteArray.mk (List.toArray [66,50]),ByteArray.mk (List.toArray [67,49]),ByteArray.mk (List.toArray [68,49]),ByteArray.mk (List.toArray [69,57])],0)) fun(a5:List ByteArray)=>Option.bind (qT (zD w0 t7 a a5 t38 t39 a5 ((a5.length:Nat):Int)) 0) fun(a6:Sum Unit Unit)=>Sum.elim (fun(a7:Unit)=>some (Sum.inr (Sum.inl ()))) (fun(a8:Unit)=>some (Sum.inl (w64 (t39+1)))) a6 else none else none else some (Sum.inr (Sum.inr ()))
theorem q0h:∀(w0:List (List qa)) (t7:Bool) (t38 t39:Int) (w0_len:Nat),w0_len=w0.length→XL2 evo 4 0 5 ⟨[(7,rB t7),(37,rO 0 1 w0_len),(38,rI t38),(39,rI t39)],[(0,bR 25 1 (eL 5 qb) w0)],1,154⟩=(qT (zK w0 t7 t38) t39).bind (Sum.elim (fun(e:Unit)=>some (Exit.ret,⟨[(6,rB Bool.false),(7,rB t7)],[],0,154⟩)) (fun(e:Unit)=>some (Exit.exit 0,⟨[(6,R.any),(7,rB t7)],[],0,154⟩))):=
 by
 intro w0 t7 t38 t39 w0_len h0
 subst h0
 revert t39;exact q2s qru qtu (fun e=>by rcases e with _|_<;>exact⟨_,rfl,fun h=>by cases h⟩) fun x=>by
  have:=cx4;have:=@qjj.eq_1;have:=@q0z;have:=@q4D;have:=@Qm;have:=@JM;have:=@JJ;have:=@q05;have:=@zK.eq_1;have:=@cdT;have:=@eSx;exact gA
theorem JQ:∀(w00 w01 w02 w03:List qa) (t7:Bool) (t38 t39:Int) (w00_len w01_len w02_len w03_len:Nat),w00_len=w00.length→w01_len=w01.length→w02_len=w02.length→w03_len=w03.length→XL2 evo 4 0 5 ⟨[(7,rB t7),(37,rO 0 1 4),(38,rI t38),(39,rI t39)],[(0,B.row 25 1 [C.d (D.sl 5 w00_len (w00.flatMap qb)),C.d (D.sl 5 w01_len (w01.flatMap qb)),C.d (D.sl 5 w02_len (w02.flatMap qb)),C.d (D.sl 5 w03_len (w03.flatMap qb))])],1,154⟩=(qT (zK [w00,w01,w02,w03] t7 t38) t39).bind (Sum.elim (fun(e:Unit)=>some (Exit.ret,⟨[(6,rB Bool.false),(7,rB t7)],[],0,154⟩)) (fun(e:Unit)=>some (Exit.exit 0,⟨[(6,R.any),(7,rB t7)],[],0,154⟩))):=by
 intro w00 w01 w02 w03 t7 t38 t39 w00_len w01_len w02_len w03_len h0 h1 h2 h3;subst h0 h1 h2 h3;have h:=q0h [w00,w01,w02,w03] t7 t38 t39 _ rfl
 first
  | exact h
  | (simp only[rL,dL,bR,bZ,Nat.reduceAdd] at h;exact h)
def Qx (x0:List Int) (x1:qp8 (q7k Int)) (x2:List qa):Option Bool:=Option.bind Ze fun(a:Bool)=>Option.bind (ZU x0) fun(a2:List qa)=>Option.bind (Zr a2 x1.a0) fun(a3:List qa)=>Option.bind (Zr a3 x1.a1) fun(a4:List qa)=>Option.bind (q01 x2) fun(a5:List qa)=>Option.bind (qT (zK [a2,a3,a4,a5] a 4) 0) fun(a6:Sum Unit Unit)=>Sum.elim (fun(a7:Unit)=>some Bool.false) (fun(a8:Unit)=>some a) a6
theorem q1j:∀(x0:List Int) (x1_0_0 x1_0_1 x1_0_2 x1_1_0 x1_1_1 x1_1_2:Int) (x2:List qa),ev 4 0 [rL 1 eI x0,R.agg [dI x1_0_0,dI x1_0_1,dI x1_0_2,dI x1_1_0,dI x1_1_1,dI x1_1_2],rL 5 qb x2] []=(Qx x0 (qp8.mk (q7k.mk x1_0_0 x1_0_1 x1_0_2) (q7k.mk x1_1_0 x1_1_1 x1_1_2)) x2).bind (fun(e:Bool)=>some (rB e,[])):=
 fun x0 x1_0_0 x1_0_1 x1_0_2 x1_1_0 x1_1_1 x1_1_2 x2=>by
  rw[qP bd4 pw4.2.2.2 lo4]
  have:=cx4;have:=@q4c;have:=@q5A;have:=@q5L;have:=@q5N;have:=@JQ;have:=@Qx.eq_1;have:=@cdT;have:=@eSx;exact gA
end

noncomputable section
open Go.RowKit
set_option maxRecDepth 100000
theorem q2I {α:Type} (ds:List α) (o s:Nat):ds.drop o=(ds.drop o).take s++ds.drop (o+s):=by
 rw[←qy5];exact(qy6 s _).symm
theorem q6K {X:Type} {E:X→List D} {W:X→Prop} {sz:Nat} (hz:0<sz):∀(m:Nat) (es:List D),es.length=m*sz→(∀i,i<m→∃x,(es.drop (i*sz)).take sz=E x∧W x)→∃l:List X,es=l.flatMap E∧l.length=m∧∀x∈l,W x
 | 0,es,hl,_=>⟨[],by rw[Nat.zero_mul] at hl;exact qxC hl,rfl,by simp⟩
 | m+1,es,hl,h=>by
  obtain⟨x,hx,wx⟩:=h 0 (by omega)
  obtain⟨l,g1,g2,g3⟩:=q6K hz m (es.drop sz) (by rw[qy4,hl,Nat.add_mul];omega) fun i hi=>by
   obtain⟨y,hy,wy⟩:=h (i+1) (by omega)
   refine⟨y,?_,wy⟩
   rw[qy5,show sz+i*sz=(i+1)*sz by rw[Nat.add_mul,Nat.one_mul,Nat.add_comm]];exact hy
  refine⟨x::l,?_,by simp[g2],fun y hy=>?_⟩
  ·rw[Nat.zero_mul,List.drop_zero] at hx
   rw[qyn,←g1,←hx,qy6]
  ·rcases qxF.1 hy with rfl|hy
   ·exact wx
   ·exact g3 y hy
abbrev qqN:List TypeId:=[22,3,23,24,25,35,9,33]
theorem qcd:qtA Try.prog qqN=true:=by kernel_rfl
theorem ty3:∀(n:Nat) (ds:List D),ZC Try.prog n 3 ds→∃v:Int,ds=[D.int .i64 v]∧(Lit.int .i64 v).wf=true:=by
 intro n ds h
 cases n with
 | zero=>exact h.elim
 | succ n=>
  unfold ZC at h
  rw[Try.underlying3] at h
  obtain⟨z,h1,h2⟩:=h
  exact⟨z,h1,h2⟩
theorem cz3:Try.prog.cellsOf 3=1:=by kernel_rfl
theorem ty22:∀(n:Nat) (ds:List D),ZC Try.prog n 22 ds→∃v:List Int,ds=[D.sl 1 v.length (v.flatMap eI)]∧(v.length≤maxLen∧∀y∈v,(Lit.int .i64 y).wf=true):=by
 intro n ds h
 cases n with
 | zero=>exact h.elim
 | succ n=>
  unfold ZC at h
  rw[Try.underlying22] at h
  obtain⟨m,es,h1,h2,h3,h4⟩:=h
  rw[cz3] at h1 h3 h4
  obtain⟨l,g1,g2,g3⟩:=q6K (E:=eI) (W:=fun y=>(Lit.int .i64 y).wf=true) (sz:=1) (by decide) m es h3 fun i hi=>by
   obtain⟨v,q1,q2⟩:=ty3 n _ (h4 i hi)
   exact⟨v,q1.trans (rfl),q2⟩
  refine⟨l,?_,by omega,g3⟩
  rw[h1,g1,g2]
theorem qoo:Try.prog.cellsOf 23=3:=by kernel_rfl
theorem qux:∀(n:Nat) (ds:List D),ZC Try.prog n 23 ds→∃v:q7k Int,ds=[D.int .i64 v.a0,D.int .i64 v.a1,D.int .i64 v.a2]∧((Lit.int .i64 v.a0).wf=true∧(Lit.int .i64 v.a1).wf=true∧(Lit.int .i64 v.a2).wf=true):=by
 intro n ds h
 cases n with
 | zero=>exact h.elim
 | succ n=>
  unfold ZC at h
  rw[Try.underlying23] at h
  obtain⟨hl,hf⟩:=h
  rw[qoo] at hl
  have h0:ZC Try.prog n 3 ((ds.drop 0).take (Try.prog.cellsOf 3)):=by
   have:=hf 0 (by decide)
   rwa [cz3] at this ⊢
  rw[cz3] at h0
  obtain⟨v0,e0,w0⟩:=ty3 _ _ h0
  have c0:=q2I ds 0 1
  rw[e0] at c0
  have h1:ZC Try.prog n 3 ((ds.drop 1).take (Try.prog.cellsOf 3)):=by
   have:=hf 1 (by decide)
   rwa [cz3] at this ⊢
  rw[cz3] at h1
  obtain⟨v1,e1,w1⟩:=ty3 _ _ h1
  have c1:=q2I ds 1 1
  rw[e1] at c1
  have h2:ZC Try.prog n 3 ((ds.drop 2).take (Try.prog.cellsOf 3)):=by
   have:=hf 2 (by decide)
   rwa [cz3] at this ⊢
  rw[cz3] at h2
  obtain⟨v2,e2,w2⟩:=ty3 _ _ h2
  have c2:=q2I ds 2 1
  rw[e2] at c2
  have cl:ds.drop 3=[]:=qxZ (by omega)
  refine⟨⟨v0,v1,v2⟩,?_,⟨w0,w1,w2⟩⟩
  have c:ds.drop 0=_:=c0
  simp only[Nat.reduceAdd] at c0 c1 c2 c
  rw[c1,c2,cl] at c
  exact c
theorem qwb:Try.prog.cellsOf 24=6:=by kernel_rfl
theorem ty24:∀(n:Nat) (ds:List D),ZC Try.prog n 24 ds→∃v:qp8 (q7k Int),ds=[D.int .i64 v.a0.a0,D.int .i64 v.a0.a1,D.int .i64 v.a0.a2,D.int .i64 v.a1.a0,D.int .i64 v.a1.a1,D.int .i64 v.a1.a2]∧(((Lit.int .i64 v.a0.a0).wf=true∧(Lit.int .i64 v.a0.a1).wf=true∧(Lit.int .i64 v.a0.a2).wf=true)∧((Lit.int .i64 v.a1.a0).wf=true∧(Lit.int .i64 v.a1.a1).wf=true∧(Lit.int .i64 v.a1.a2).wf=true)):=by
 intro n ds h
 cases n with
 | zero=>exact h.elim
 | succ n=>
  unfold ZC at h
  rw[Try.underlying24] at h
  obtain⟨hl,hf⟩:=h
  rw[qwb] at hl
  have h0:ZC Try.prog n 23 ((ds.drop 0).take (Try.prog.cellsOf 23)):=by
   have:=hf 0 (by decide)
   rwa [qoo] at this ⊢
  rw[qoo] at h0
  obtain⟨v0,e0,w0⟩:=qux _ _ h0
  have c0:=q2I ds 0 3
  rw[e0] at c0
  have h1:ZC Try.prog n 23 ((ds.drop 3).take (Try.prog.cellsOf 23)):=by
   have:=hf 1 (by decide)
   rwa [qoo] at this ⊢
  rw[qoo] at h1
  obtain⟨v1,e1,w1⟩:=qux _ _ h1
  have c1:=q2I ds 3 3
  rw[e1] at c1
  have cl:ds.drop 6=[]:=qxZ (by omega)
  refine⟨⟨v0,v1⟩,?_,⟨w0,w1⟩⟩
  have c:ds.drop 0=_:=c0
  simp only[Nat.reduceAdd] at c0 c1 c
  rw[c1,cl] at c
  exact c
theorem ty9:∀(n:Nat) (ds:List D),ZC Try.prog n 9 ds→∃v:ByteArray,ds=[D.str v]∧v.size≤maxLen:=by
 intro n ds h
 cases n with
 | zero=>exact h.elim
 | succ n=>
  unfold ZC at h
  rw[Try.underlying9] at h
  obtain⟨s,h1,h2⟩:=h
  exact⟨s,h1,h2⟩
theorem cz9:Try.prog.cellsOf 9=1:=by kernel_rfl
theorem qws:∀(n:Nat) (ds:List D),ZC Try.prog n 33 ds→∃v:List ByteArray,ds=[D.sl 1 v.length (v.flatMap eS)]∧(v.length≤maxLen∧∀y∈v,y.size≤maxLen):=by
 intro n ds h
 cases n with
 | zero=>exact h.elim
 | succ n=>
  unfold ZC at h
  rw[Try.underlying33] at h
  obtain⟨m,es,h1,h2,h3,h4⟩:=h
  rw[cz9] at h1 h3 h4
  obtain⟨l,g1,g2,g3⟩:=q6K (E:=eS) (W:=fun y=>y.size≤maxLen) (sz:=1) (by decide) m es h3 fun i hi=>by
   obtain⟨v,q1,q2⟩:=ty9 n _ (h4 i hi)
   exact⟨v,q1.trans (rfl),q2⟩
  refine⟨l,?_,by omega,g3⟩
  rw[h1,g1,g2]
theorem qwm:Try.prog.cellsOf 22=1:=by kernel_rfl
theorem qvU:Try.prog.cellsOf 33=1:=by kernel_rfl
theorem qtT:Try.prog.cellsOf 35=5:=by kernel_rfl
def q0W (x:qa):Prop:=x.Code.size≤maxLen∧(Lit.int .i64 x.Credits).wf=true∧(Lit.int .i64 x.Places).wf=true∧(x.Slots.length≤maxLen∧∀y∈x.Slots,(Lit.int .i64 y).wf=true)∧(x.Needs.length≤maxLen∧∀y∈x.Needs,y.size≤maxLen)
theorem qxf:∀(n:Nat) (ds:List D),ZC Try.prog n 35 ds→∃v:qa,ds=[D.str v.Code,D.int .i64 v.Credits,D.int .i64 v.Places,D.sl 1 v.Slots.length (v.Slots.flatMap eI),D.sl 1 v.Needs.length (v.Needs.flatMap eS)]∧q0W v:=by
 intro n ds h
 cases n with
 | zero=>exact h.elim
 | succ n=>
  unfold ZC at h
  rw[Try.underlying35] at h
  obtain⟨hl,hf⟩:=h
  rw[qtT] at hl
  have h0:ZC Try.prog n 9 ((ds.drop 0).take (Try.prog.cellsOf 9)):=hf _ (qxk (i:=0) rfl)
  rw[cz9] at h0
  obtain⟨v0,e0,w0⟩:=ty9 _ _ h0
  have c0:=q2I ds 0 1
  rw[e0] at c0
  have h1:ZC Try.prog n 3 ((ds.drop 1).take (Try.prog.cellsOf 3)):=hf _ (qxk (i:=1) rfl)
  rw[cz3] at h1
  obtain⟨v1,e1,w1⟩:=ty3 _ _ h1
  have c1:=q2I ds 1 1
  rw[e1] at c1
  have h2:ZC Try.prog n 3 ((ds.drop 2).take (Try.prog.cellsOf 3)):=hf _ (qxk (i:=2) rfl)
  rw[cz3] at h2
  obtain⟨v2,e2,w2⟩:=ty3 _ _ h2
  have c2:=q2I ds 2 1
  rw[e2] at c2
  have h3:ZC Try.prog n 22 ((ds.drop 3).take (Try.prog.cellsOf 22)):=hf _ (qxk (i:=3) rfl)
  rw[qwm] at h3
  obtain⟨v3,e3,w3⟩:=ty22 _ _ h3
  have c3:=q2I ds 3 1
  rw[e3] at c3
  have h4:ZC Try.prog n 33 ((ds.drop 4).take (Try.prog.cellsOf 33)):=hf _ (qxk (i:=4) rfl)
  rw[qvU] at h4
  obtain⟨v4,e4,w4⟩:=qws _ _ h4
  have c4:=q2I ds 4 1
  rw[e4] at c4
  have cl:ds.drop 5=[]:=qxZ (by omega)
  refine⟨⟨v0,v1,v2,v3,v4⟩,?_,⟨w0,w1,w2,w3,w4⟩⟩
  have c:ds.drop 0=_:=c0
  simp only[Nat.reduceAdd] at c0 c1 c2 c3 c4 c
  rw[c1,c2,c3,c4,cl] at c
  exact c
theorem ty25:∀(n:Nat) (ds:List D),ZC Try.prog n 25 ds→∃v:List qa,ds=[D.sl 5 v.length (v.flatMap qb)]∧(v.length≤maxLen∧∀y∈v,q0W y):=by
 intro n ds h
 cases n with
 | zero=>exact h.elim
 | succ n=>
  unfold ZC at h
  rw[Try.underlying25] at h
  obtain⟨m,es,h1,h2,h3,h4⟩:=h
  rw[qtT] at h1 h3 h4
  obtain⟨l,g1,g2,g3⟩:=q6K (E:=qb) (W:=fun y=>q0W y) (sz:=5) (by decide) m es h3 fun i hi=>by
   obtain⟨v,q1,q2⟩:=qxf n _ (h4 i hi)
   exact⟨v,q1.trans ((zL v).symm),q2⟩
  refine⟨l,?_,by omega,g3⟩
  rw[h1,g1,g2]
end
noncomputable section
open Go.RowKit
theorem qch {α:Type} (l:List α) (step:Int→Option (Int⊕(Unit⊕Unit))) (h:∀(i:Nat) a,l[i]?=some a→step (i:Int)=some (.inl ((i+1:Nat):Int))) (hn:step ((l.length:Nat):Int)=some (.inr (.inr ()))):qT step 0=some (.inr ()):=by
 rw[q0d l (fun _=>false) step (fun i a ha=>by rw[h i a ha];rfl) hn,if_neg]
 intro e
 obtain⟨a,-,h2⟩:=qyc.1 e
 cases h2
theorem qwg (w1:List (List qa)) (t7:Bool) (t38 t39:Int) {L:List qa} (hS:Sml L):∀(n k:Nat) (w:List ByteArray),n+k=8→k≤L.length→w.length≤8+k→∃r,qT (qK w1 t7 L t38 t39) (w,(k:Int))=some r∧r.length≤16:=by
 have hL:=hS.ln
 intro n
 induction n with
 | zero=>
  intro k w hk hkl hw
  refine⟨w,qJ ?_,by omega⟩
  unfold qK
  dsimp only
  by_cases h:(k:Int)<((L.length:Nat):Int)
  ·rw[if_pos h,if_neg (by omega)]
  ·rw[if_neg h]
 | succ n ih=>
  intro k w hk hkl hw
  by_cases h:k<L.length
  ·obtain⟨r,h1,h2⟩:=ih (k+1) (w++[L[k].Code]) (by omega) (by omega) (by rw[qxq,qxB];omega)
   refine⟨r,?_,h2⟩
   rw[←h1]
   refine zC ?_
   unfold qK
   dsimp only
   rw[if_pos (by omega),if_pos (by omega),if_pos (by omega),qxm,qxl h,qxj,if_pos (by unfold maxLen;omega),qN (n:=10) (by omega) (by omega)]
  ·refine⟨w,qJ ?_,by omega⟩
   unfold qK
   dsimp only
   rw[if_neg (by omega)]
theorem qwa (w1:List (List qa)) {b0:qa} (t7:Bool) (t12:List ByteArray) (t38 t39:Int) (t70:List ByteArray) (t71 t72:Int) {L:List qa} (hS:Sml L) (hb:b0.Slots.length≤1000000):∀(n k:Nat),n+k=8→k≤L.length→qT (qX w1 b0 t7 L t12 t38 t39 t70 t71 t72) (k:Int)=some (.inr ()):=by
 have hL:=hS.ln
 intro n
 induction n with
 | zero=>
  intro k hk hkl
  refine qJ ?_
  unfold qX
  by_cases h:(k:Int)<((L.length:Nat):Int)
  ·rw[if_pos h,if_neg (by omega)]
  ·rw[if_neg h]
 | succ n ih=>
  intro k hk hkl
  by_cases h:k<L.length
  ·rw[←ih (k+1) (by omega) (by omega)]
   refine zC ?_
   have ha:=(hS.ll _ (qy9 h)).1
   unfold qX
   rw[if_pos (by omega),if_pos (by omega),if_pos (by omega),qxm,qxl h,qxj,qfP hb ha,qxj,if_pos (by omega),qxj,qb6 hb ha,qxj,beq_self_eq_true,if_neg (by decide),qN (n:=10) (by omega) (by omega)]
  ·refine qJ ?_
   unfold qX
   rw[if_neg (by omega)]
theorem qkm {L:List qa} (hS:Sml L) (c:ByteArray):(q3Q L c).1.Slots.length≤1000000∧(q3Q L c).1.Needs.length≤1000000:=by
 rcases q4O (L:=L) (c:=c) with e|e
 ·exact hS.ll _ e
 ·rw[e];exact⟨qxJ _,qxJ _⟩
theorem tm3 {k:Nat}:Int.tmod (k:Int) 3=((k % 3:Nat):Int):=by
 rw[Int.tmod_eq_emod_of_nonneg (by omega)];omega
theorem qx6 (w1:List (List qa)) (t7:Bool) (t38 t39:Int) {L:List qa} (hS:Sml L) {cs:List ByteArray} (hc:cs.length≤16):qT (zD w1 t7 L cs t38 t39 cs ((cs.length:Nat):Int)) 0=some (.inr ()):=by
 have hL:L.length≤1000000:=by have:=hS.ln;omega
 refine qch cs _ (fun k c hk=>?_) (by unfold zD;rw[if_neg (by omega)])
 have h1:=Qe hk
 obtain⟨n1,n2,n3,n4,n5⟩:=qgp hS c
 obtain⟨f1,f2⟩:=qkm hS c
 have hw3:w64 ((3:Int)+(k:Int))=3+(k:Int):=ZT (by omega) (by omega)
 have h23:=qwa w1 t7 cs t38 t39 cs ((cs.length:Nat):Int) (k:Int) hS f1 8 0 (by omega) (by omega)
 have h23':qT (qX w1 (q3Q L c).1 t7 L cs t38 t39 cs ((cs.length:Nat):Int) (k:Int)) 0=_:=h23
 have hlen:∀a b:Nat,((cs.drop b).take a).length≤1000000:=fun a b=>by rw[qxM,qy4];omega
 unfold zD
 rw[if_pos (by omega),if_pos (by omega),qxm,hk,qxj,qa0 hL hS.ll,qxj,q1B hL hS.ll,qxj,hw3,tm3,if_pos (by omega),beq_self_eq_true,if_neg (by decide),qbV f1 f2,qxj,if_neg (by decide),n2,qxj,n1,qxj,q5e (by omega),qxj,qyi rfl,if_neg (by decide),qjx hL hS.ll _ (hlen _ _),qxj,q9J hL hS.ll _ (hlen _ _),qxj,beq_self_eq_true,if_neg (by decide),h23',qxj,Sum.elim_inr,qN h1 (by omega)]
theorem q4x (x0:List Int) (h:x0.length≤maxLen) (q:qp8 (q7k Int)) (x2:List qa) (h2:x2.length≤maxLen) (h3:∀o∈x2,o.Needs.length≤maxLen):Qx x0 q x2=some true:=by
 obtain⟨M,one,two,e1,hM,e2,e3,hS1,hS2,l1,l2⟩:=qjm x0 h q.a0 q.a1
 obtain⟨r,e4,l4,hr⟩:=qoR h2 h3
 have hMs:=qdj hM
 unfold Qx
 rw[q94,qxj,e1,qxj,e2,qxj,e3,qxj,e4,qxj]
 rw[qch [M,one,two,r] _ (fun i a ha=>by
  have h5:=Qe ha
  have hSa:Sml a:=by
   have:=qxk ha
   simp only[qxF,List.not_mem_nil,or_false] at this
   rcases this with rfl|rfl|rfl|rfl
   ·exact hMs
   ·exact hS1
   ·exact hS2
   ·exact hr
  have h4:i<4:=h5
  have hla:=hSa.ln
  have hol:=qfQ a
  obtain⟨cs,c1,c2⟩:=qwg [M,one,two,r] true 4 (i:Int) hSa 8 0 [ByteArray.mk (List.toArray [90]),ByteArray.mk (List.toArray []),ByteArray.mk (List.toArray [65,49]),ByteArray.mk (List.toArray [66,49]),ByteArray.mk (List.toArray [66,50]),ByteArray.mk (List.toArray [67,49]),ByteArray.mk (List.toArray [68,49]),ByteArray.mk (List.toArray [69,57])] (by omega) (by omega) (by decide)
  have c1':qT (qK [M,one,two,r] true a 4 (i:Int)) ([ByteArray.mk (List.toArray [90]),ByteArray.mk (List.toArray []),ByteArray.mk (List.toArray [65,49]),ByteArray.mk (List.toArray [66,49]),ByteArray.mk (List.toArray [66,50]),ByteArray.mk (List.toArray [67,49]),ByteArray.mk (List.toArray [68,49]),ByteArray.mk (List.toArray [69,57])],0)=_:=c1
  unfold zK
  rw[if_pos (by omega),if_pos (by omega),qxm,ha,qxj,qcw (by omega) hSa.of hSa.cc hSa.mx,qxj,qaH hSa,qxj,q5e (by omega),qxj,qyi rfl,if_neg (by decide),if_pos (by unfold maxLen;omega),c1',qxj,qx6 _ _ _ _ hSa c2,qxj,Sum.elim_inr,qN (n:=10) (by omega) (by omega)]) (by unfold zK;rfl),qxj,Sum.elim_inr]
theorem q5r (x0:List Int) (w0:x0.length≤maxLen∧∀y∈x0,(Lit.int .i64 y).wf=true) (x1:qp8 (q7k Int)) (_w1:((Lit.int .i64 x1.a0.a0).wf=true∧(Lit.int .i64 x1.a0.a1).wf=true∧(Lit.int .i64 x1.a0.a2).wf=true)∧((Lit.int .i64 x1.a1.a0).wf=true∧(Lit.int .i64 x1.a1.a1).wf=true∧(Lit.int .i64 x1.a1.a2).wf=true)) (x2:List qa) (w2:x2.length≤maxLen∧∀y∈x2,q0W y):Qx x0 x1 x2=some true:=
 q4x x0 w0.1 x1 x2 w2.1 fun o ho=>(w2.2 o ho).2.2.2.2.1
end
end Go.Proofs.Ytcdegieiflmaeaa.Vc
namespace Go.Proofs.Ytcdegieiflmaeaa
open Go.Proofs.Ytcdegieiflmaeaa.Vc (qxr qxs qxv qxy qxE)
open Go.ChangeShapes Go.WideShapes Go.ChangeAt Go.RowKit Go.ChangeMaps
theorem own:ownKnob Try.prog.godebug=none:=by kernel_rfl
theorem qkt:laidOutB Try.prog=true:=by kernel_rfl
section
variable {H:Type} {enc:TypeId×Value→H} {P:Program} {W W':World}
theorem q6P {t e:TypeId} {n base:Nat} {r:Reach} {v:Value} (ht:P.underlying t=some (.array n e)) (h:Value.okWide P W r base t v):∃cs,v = .agg cs∧cs.size=P.cellsOf t:=by
 unfold Value.okWide at h
 rw[ht] at h
 obtain⟨cs,h1,h2,-⟩:=h
 exact⟨cs,h1,h2⟩
theorem q7X (hl:laidOutB P=true) (hb:Below W.heap.size W W'):∀{ts:List TypeId} {vs:List Value} {ds:List (DataW H)} {ps:List MemPlace},(∀t∈ts,P.readableRec t=true∧t<P.types.size)→
  DataW.TrodAll enc P W 0 (fun _=>true) true ts vs ds ps→(∀p∈ps,p.block<W.heap.size)→DataW.TrodAll enc P W' 0 (fun b=>decide (b<W.heap.size)) true ts vs ds ps
 | [],_,_,_,_,h,_=>by
  obtain⟨rfl,rfl,rfl⟩:=trodAll_nil h
  exact trodAll_mk0
 | t::ts,_,_,_,ht,h,hlt=>by
  obtain⟨v,vs,d,ds,p,q,rfl,rfl,rfl,h1,h2⟩:=trodAll_cons h
  exact trodAll_cons_mk (Below.trod hl (ht t qxy).1 (ht t qxy).2 h1 hb (fun x hx=>hlt x (qxv _ hx)))
   (q7X hl hb (fun u hu=>ht u (qxr _ hu)) h2 (fun x hx=>hlt x (qxs _ hx)))
theorem qgt {f:Func} {s:ChangeSpec} {apart fresh handsOn:Bool} {args:Array Value} {ds gs:List (DataW H)} {before:List MemPlace} {tb:TypeId} (hl:laidOutB P=true)
  (hts:∀t∈f.params.toList,P.readableRec t=true∧t<P.types.size) (hr:f.resultTypes=#[tb]) (htb:P.underlying tb=some .bool) (hv:s.vars=[])
  (h1:(s.fn H (ds++gs)).results=[.lit (.bool true)]) (h2:(s.fn H (ds++gs)).args=ds) (h3:(s.fn H (ds++gs)).vars=[])
  (hW:DataW.Whole enc P f.params.toList s.vars apart W args.toList ds gs before) (hb:Below W.heap.size W W') :
  s.post enc P f apart fresh handsOn false W args (.bool true) W':=by
 have hlt:∀p∈before,p.block<W.heap.size:=fun p hp=>hW.lt p hp
 have hW2:=hW
 obtain⟨pa,pv,hA,hV,hp,-,-⟩:=hW2
 rw[hv] at hV
 obtain⟨rfl,rfl⟩:=trodVars_none hV
 rw[qxE] at hp
 subst hp
 refine⟨ds,[],before,[],before,[],hW,?_,?_,?_,?_,fun h=>by cases h⟩
 ·rw[h1,hr]
  exact trodAll_mk1 (shut_bool htb true)
 ·rw[h2]
  exact q7X hl hb hts hA hlt
 ·rw[h3,hv]
  exact hV
 ·exact World.keptBut_mono (fun p hp=>⟨hp,.inr (.inl hp)⟩) (hb.frame (·∈before))
end
end Go.Proofs.Ytcdegieiflmaeaa
namespace Go.Proofs.Ytcdegieiflmaeaa.Vc
end Go.Proofs.Ytcdegieiflmaeaa.Vc
