/- Part 6 of a proof. -/
import Derived.Test.YtojflbfdcpkedaaGreatM5
import Derived.KernelRfl
import Derived.Test.YtojflbfdcpkedaaGreatRows
import Derived.ChangeSlices
import Derived.OpenShut
import Derived.Carry
import Derived.ChangeSame
import Derived.ChangeMaps5
import Derived.WideShapes
import Derived.ProofKit
import Derived.Deep.DeepHandedRow
import Derived.Lib.LaidTab
import Derived.Stop.LaidErr
set_option linter.unusedVariables false
set_option linter.unusedSimpArgs false
set_option linter.defProp false
set_option linter.unusedSectionVars false
set_option linter.unnecessarySimpa false
namespace Go.Proofs.YtojflbfdcpkedaaGreat.Vc
noncomputable section
open Go.RowKit
def okG (N:Nat):Int→List Int→Bool
 | _,[]=>true
 | p,y::r=>decide (p<y)&&decide (0≤y)&&decide (y<(N:Int))&&okG N y r
theorem qnM {N:Nat}:∀{r:List Int} {p:Int},okG N p r=true→∀y∈r,∃k:Nat,k<N∧y=(k:Int)
 | [],_,_,y,h=>by cases h
 | x::r,p,h,y,hy=>by
  rw[okG,qPE,qPE,qPE,qQ8,qQ8,qQ8] at h
  rcases qPu.1 hy with rfl|hy
  ·exact⟨y.toNat,by omega,by omega⟩
  ·exact qnM h.2 y hy
def qaV (l:List qa) (T:List Int):List qa:=T.filterMap fun y=>l[Int.toNat y]?
theorem qg2 {l:List qa}:∀{T:List Int} {p:Int},okG l.length p T=true→(qaV l T).length=T.length
 | [],_,_=>rfl
 | x::r,p,h=>by
  obtain⟨k,hk,rfl⟩:=qnM h x qPn
  rw[okG,qPE] at h
  unfold qaV
  rw[List.filterMap_cons,qPb,qPa hk]
  show((qaV l r).length+1)=_
  rw[qg2 h.2];rfl
theorem qoe {l:List qa} (h:∀b∈l,q6f b) (T:List Int):∀b∈qaV l T,q6f b:=fun b hb=>by
 obtain⟨y,-,hy⟩:=List.mem_filterMap.1 hb
 exact h b (qP9 hy)
theorem qki (p:qf) (s:qg) (u:qP) (l:List qa) (hl:l.length≤1000) (day:Int) (hT:u.Taken.length≤1000):∀(r:List Int) (i:Nat) (w:List qa) (pv:Int),r.length+i=u.Taken.length→(∀j,r[j]?=u.Taken[i+j]?)→w.length=i→((i=0∧pv = -1)∨(0<i∧u.Taken[i-1]?=some pv))→
  ∃e,zl (zP p s u l day u.Taken ((u.Taken.length:Nat):Int)) (w,(i:Int))=some e∧(okG l.length pv r=true→e = .inr (w++qaV l r))∧(okG l.length pv r=false→∃x,e = .inl x)
 | [],i,w,pv,hi,_,_,_=>by
  have hi:i=u.Taken.length:=by simpa using hi
  refine⟨.inr w,zt ?_,fun _=>by unfold qaV;rw[List.filterMap_nil,qPt],fun h=>by rw[okG] at h;cases h⟩
  unfold zP
  dsimp only
  rw[if_neg (by omega)]
 | y::r,i,w,pv,hi,hj,hw,hp=>by
  have hML:100000≤maxLen:=by unfold maxLen;omega
  have hil:i<u.Taken.length:=by simp only[qPj] at hi;omega
  have hy:u.Taken[i]?=some y:=by have:=hj 0;rw[Nat.add_zero] at this;exact this.symm
  have bad:zP p s u l day u.Taken ((u.Taken.length:Nat):Int) (w,(i:Int))=some (.inr (.inl w))→okG l.length pv (y::r)=false→∃e,zl (zP p s u l day u.Taken ((u.Taken.length:Nat):Int)) (w,(i:Int))=some e∧(okG l.length pv (y::r)=true→e = .inr (w++qaV l (y::r)))∧(okG l.length pv (y::r)=false→∃x,e = .inl x):=fun h1 h2=>
   ⟨_,zt h1,fun h=>(by rw[h2] at h;cases h),fun _=>⟨_,rfl⟩⟩
  by_cases h0:y<0
  ·refine bad ?_ ?_
   ·unfold zP
    dsimp only
    rw[if_pos (by omega),if_pos ⟨by omega,by omega⟩,qPb,hy,qP8,if_pos h0]
   ·rw[okG,decide_eq_false (by omega:¬ (0≤y))];simp
  ·by_cases h1:(l.length:Int)≤y
   ·refine bad ?_ ?_
    ·unfold zP
     dsimp only
     rw[if_pos (by omega),if_pos ⟨by omega,by omega⟩,qPb,hy,qP8,if_neg h0,if_pos h1]
    ·rw[okG,decide_eq_false (by omega:¬ (y<(l.length:Int)))];simp
   ·obtain⟨k,rfl⟩:∃k:Nat,y=(k:Int):=⟨y.toNat,by omega⟩
    have hk:k<l.length:=by omega
    have good:pv<(k:Int)→zP p s u l day u.Taken ((u.Taken.length:Nat):Int) (w,(i:Int))=some (.inl (w++[l[k]],((i+1:Nat):Int)))→∃e,zl (zP p s u l day u.Taken ((u.Taken.length:Nat):Int)) (w,(i:Int))=some e∧(okG l.length pv ((k:Int)::r)=true→e = .inr (w++qaV l ((k:Int)::r)))∧(okG l.length pv ((k:Int)::r)=false→∃x,e = .inl x):=fun hlt hstep=>by
     obtain⟨e,e1,e2,e3⟩:=qki p s u l hl day hT r (i+1) (w++[l[k]]) (k:Int) (by simp only[qPj] at hi;omega) (fun j=>by have:=hj (j+1);rw[qPx] at this;rw[this];congr 1;omega) (by rw[qPf,hw];rfl) (.inr ⟨by omega,by rw[Nat.add_sub_cancel];exact hy⟩)
     refine⟨e,(zS hstep).trans e1,fun h=>?_,fun h=>?_⟩
     ·rw[okG,qPE] at h
      rw[e2 h.2]
      unfold qaV
      rw[List.filterMap_cons,qPb,qPa hk]
      simp
     ·rw[okG,qQ9 hlt,qQ9 (by omega:(0:Int)≤(k:Int)),qQ9 (by omega:(k:Int)<(l.length:Int))] at h
      exact e3 (by simpa using h)
    rcases hp with ⟨hp1,hp2⟩|⟨hp1,hp2⟩
    ·refine good (by omega) ?_
     unfold zP
     dsimp only
     rw[if_pos (by omega),if_pos ⟨by omega,by omega⟩,qPb,hy,qP8,if_neg h0,if_neg h1,if_neg (by omega),if_pos ⟨by omega,by omega⟩,qPb,qPa hk,qP8,if_pos ⟨by omega,by omega⟩,q2n hil (by omega)]
    ·have hwk:w64 ((i:Int)-1)=((i-1:Nat):Int):=by rw[Z3 (by omega) (by omega)];omega
     by_cases hlt:(k:Int)≤pv
     ·refine bad ?_ ?_
      ·unfold zP
       dsimp only
       rw[if_pos (by omega),if_pos ⟨by omega,by omega⟩,qPb,hy,qP8,if_neg h0,if_neg h1,if_pos (by omega),hwk,if_pos ⟨by omega,by omega⟩,qPb,hp2,qP8,if_pos hlt]
      ·rw[okG,decide_eq_false (by omega:¬ (pv<(k:Int)))];simp
     ·refine good (by omega) ?_
      unfold zP
      dsimp only
      rw[if_pos (by omega),if_pos ⟨by omega,by omega⟩,qPb,hy,qP8,if_neg h0,if_neg h1,if_pos (by omega),hwk,if_pos ⟨by omega,by omega⟩,qPb,hp2,qP8,if_neg hlt,if_pos ⟨by omega,by omega⟩,qPb,qPa hk,qP8,if_pos ⟨by omega,by omega⟩,q2n hil (by omega)]
def qGG (p:qf) (l:List qa) (day:Int) (mF:List qa→Bool) (u:qP):Bool:=
 decide (u.Taken.length≤10)&&decide (u.Leaf.length=u.Taken.length)&&okG l.length (-1) u.Taken&&qgY p (qaV l u.Taken) day&&mF (qaV l u.Taken)
theorem qCb {p:qf} {l:List qa} (h:Grd p l) (hl:l.length≤1000) (s:qg) (hck:QI p s=some 0) (day:Int) (u:qP) (mF:List qa→Bool)
  (hM:∀L:List qa,L.length=u.Leaf.length→L.length≤10→q2X p.Need s L u.Leaf=some (mF L)):qU p s l day u=some (if qGG p l day mF u=true then 0 else 32):=by
 unfold qU qGG
 rw[hck,qP8,if_neg (by decide)]
 by_cases h10:10<u.Taken.length
 ·rw[if_pos (by omega),decide_eq_false (by omega:¬ u.Taken.length≤10)]
  simp
 ·rw[if_neg (by omega),qQ9 (by omega:u.Taken.length≤10)]
  by_cases hlen:u.Leaf.length=u.Taken.length
  ·rw[if_neg (by rw[hlen];simp),qQ9 hlen]
   obtain⟨e,e1,e2,e3⟩:=qki p s u l hl day (by omega) u.Taken 0 [] (-1) (by omega) (fun j=>by rw[qPw]) rfl (.inl ⟨rfl,rfl⟩)
   change Option.bind (zl _ ([],((0:Nat):Int))) _=_
   rw[e1,qP8]
   cases hok:okG l.length (-1) u.Taken
   ·obtain⟨x,rfl⟩:=e3 hok
    rw[Sum.elim_inl];simp
   ·rw[e2 hok,Sum.elim_inr,qPs]
    have hpl:=qg2 hok
    rw[qtM p h.exc _ (by omega) (qoe h.fit _),qP8]
    cases ht:qgY p (qaV l u.Taken) day
    ·simp
    ·rw[if_neg (by decide),hM _ (by omega) (by omega),qP8]
     cases mF (qaV l u.Taken)<;>simp
  ·rw[if_pos (by simpa using fun h=>hlen (by omega)),decide_eq_false hlen]
   simp
end
noncomputable section
open Go.RowKit
abbrev nmL:List ByteArray:=[ByteArray.mk (List.toArray [77,117,115,105,99]),ByteArray.mk (List.toArray [76,97,119]),ByteArray.mk (List.toArray [79,108,100,32,109,97,112,115])]
abbrev agL:List Int:=[(0:Int),(0:Int),(0:Int),(2:Int),(5:Int)]
structure qys (p:qf):Prop where
 sch:p.School=1
 id:1≤p.Id∧p.Id≤3
 ver:1≤p.Version∧p.Version≤3
 frm:0≤p.From∧p.From≤400
 nam:p.Name∈nmL
 tot:0≤p.Total∧p.Total≤19
 own:0≤p.Own∧p.Own≤10
 age:p.Age∈agL
 need:q6l 3 6 p.Need
 ex:p.Exclude=[]∨∃a b,p.Exclude=[JS.mk a b]∧q61 a∧q61 b∧q4e a b=true
theorem qAb (l:List Int) (hl:l.length≤9223372036854775807):∃p,q1p l=some p∧qys p:=by
 obtain⟨v1,d1,e1,a1,b1,h1⟩:=q2A (d:=⟨l,0⟩) ⟨by show(0:Int)≤0;omega,by show(0:Int)≤(l.length:Int);omega,hl⟩ (most:=3) (by omega) (by omega)
 obtain⟨v2,d2,e2,a2,b2,h2⟩:=q2A h1 (most:=3) (by omega) (by omega)
 obtain⟨v3,d3,e3,a3,b3,h3⟩:=q2A h2 (most:=5) (by omega) (by omega)
 obtain⟨v4,d4,e4,a4,b4,h4⟩:=q2A h3 (most:=3) (by omega) (by omega)
 obtain⟨v6,d6,e6,a6,b6,h6⟩:=q2A h4 (most:=20) (by omega) (by omega)
 obtain⟨v7,d7,e7,a7,b7,h7⟩:=q2A h6 (most:=3) (by omega) (by omega)
 obtain⟨v8,d8,e8,a8,b8,h8⟩:=q2A h7 (most:=6) (by omega) (by omega)
 obtain⟨v9,d9,e9,a9,b9,h9⟩:=q2A h8 (most:=5) (by omega) (by omega)
 obtain⟨v11,d11,e11,a11,b11,h11⟩:=q2A h9 (most:=3) (by omega) (by omega)
 obtain⟨c1,d12,e12,m12,h12⟩:=qhF h11
 obtain⟨c2,d13,e13,m13,h13⟩:=qhF h12
 obtain⟨n1,d14,e14,m14,h14⟩:=qpT 3 6 d13 (by omega) (by omega) h13
 obtain⟨n2,d15,e15,m15,h15⟩:=qpT 3 6 d11 (by omega) (by omega) h11
 obtain⟨nm,g5,q5⟩:=qlS nmL v4 a4 (by show v4<((3:Nat):Int);omega)
 obtain⟨ag,g10,q10⟩:=qlS agL v9 a9 (by show v9<((5:Nat):Int);omega)
 have w1:w64 (1+v1)=1+v1:=Z3 (by omega) (by omega)
 have w2:w64 (1+v2)=1+v2:=Z3 (by omega) (by omega)
 have w3:w64 (100*v3)=100*v3:=Z3 (by omega) (by omega)
 have hm:0≤v7*v8∧v7*v8≤10:=by
  have hv7:v7=0∨v7=1∨v7=2:=by omega
  rcases hv7 with rfl|rfl|rfl<;>omega
 have w4:w64 (v7*v8)=v7*v8:=Z3 (by omega) (by omega)
 have e14':ZS ((3:Int),((6:Int),d13))=some (n1,d14):=e14
 have e15':ZS ((3:Int),((6:Int),d11))=some (n2,d15):=e15
 have mk:∀(n:qb) (X:List (JS qc)),q6l 3 6 n→(X=[]∨∃a b,X=[JS.mk a b]∧q61 a∧q61 b∧q4e a b=true)→qys (qf.mk (1:Int) (1+v1) (1+v2) (100*v3) nm n v6 (v7*v8) ag X):=fun n X hn hX=>
  ⟨rfl,⟨by show 1≤1+v1;omega,by show 1+v1≤3;omega⟩,⟨by show 1≤1+v2;omega,by show 1+v2≤3;omega⟩,⟨by show 0≤100*v3;omega,by show 100*v3≤400;omega⟩,q5,⟨a6,by show v6≤19;omega⟩,hm,q10,hn,hX⟩
 unfold q1p
 rw[e1,qP8];dsimp only
 rw[e2,qP8];dsimp only
 rw[e3,qP8];dsimp only
 rw[e4,qP8];dsimp only
 rw[if_pos ⟨a4,b4⟩,g5,qP8,e6,qP8];dsimp only
 rw[e7,qP8];dsimp only
 rw[e8,qP8];dsimp only
 rw[e9,qP8];dsimp only
 rw[if_pos ⟨a9,b9⟩,g10,qP8,e11,qP8];dsimp only
 rw[w1,w2,w3,w4]
 by_cases h0:v11=0
 ·rw[if_pos (by simpa using h0),e12,qP8];dsimp only
  rw[e13,qP8];dsimp only
  by_cases hp:Qk c1 c2=true
  ·rw[if_pos hp,e14',qP8]
   exact⟨_,rfl,mk _ _ m14 (.inr ⟨c1,c2,rfl,m12,m13,hp⟩)⟩
  ·rw[if_neg hp,e14',qP8]
   exact⟨_,rfl,mk _ _ m14 (.inl rfl)⟩
 ·rw[if_neg (by simpa using h0),e15',qP8]
  exact⟨_,rfl,mk _ _ m15 (.inl rfl)⟩
theorem qxW (l:List Int) (hl:l.length≤9223372036854775807):∃p,q3w l=some p∧qys p:=by
 obtain⟨p,h1,h2⟩:=qAb l hl
 unfold q3w
 rw[h1,qP8]
 refine⟨_,rfl,⟨h2.sch,h2.id,h2.ver,h2.frm,h2.nam,?_,?_,h2.age,h2.need,h2.ex⟩⟩
 ·have:=h2.tot
  have e1:=Int.tmod_lt_of_pos p.Total (show(0:Int)<12 by omega)
  have e2:0≤Int.tmod p.Total 12:=Int.tmod_nonneg _ (by omega)
  show 0≤Int.tmod p.Total 12∧Int.tmod p.Total 12≤19
  omega
 ·have:=h2.own
  have e1:=Int.tmod_lt_of_pos p.Own (show(0:Int)<4 by omega)
  have e2:0≤Int.tmod p.Own 4:=Int.tmod_nonneg _ (by omega)
  show 0≤Int.tmod p.Own 4∧Int.tmod p.Own 4≤10
  omega
end
noncomputable section
open Go.RowKit
def qCn (a:Int):Bool := !decide (a<32) && !decide (126<a) && !(a==34)
theorem qsq (s:ByteArray) (hs:s.size≤1000):q1j s=some ((qhb s).all qCn&&inF ((s.size:Nat):Int) 1 40):=by
 have hl:(qhb s).length=s.size:=by unfold qhb;rw[qPR,Array.length_toList];rfl
 have h:=q9t (step:=q0j s (qhb s) (((qhb s).length:Nat):Int)) (qhb s) qCn (.inl ()) (.inr ()) (fun i a ha=>by
  have hi:=ZB ha
  unfold q0j qCn
  rw[if_pos (by omega),if_pos ⟨by omega,by omega⟩,qPb,ha,qP8,q2n hi (by omega)]
  by_cases h1:a<32
  ·rw[if_pos h1,qQ9 h1];rfl
  ·rw[if_neg h1,decide_eq_false h1]
   by_cases h2:126<a
   ·rw[if_pos h2,qQ9 h2];rfl
   ·rw[if_neg h2,decide_eq_false h2]
    cases a==34<;>rfl) (by
  unfold q0j
  rw[if_neg (by omega)])
 unfold q1j
 rw[if_pos (by omega),h,qP8]
 cases hq:(qhb s).all qCn
 ·rw[if_neg (by decide),Sum.elim_inl];rfl
 ·rw[if_pos rfl,Sum.elim_inr,q3y];rfl
def nmB (s:ByteArray):Bool:=decide (s.size≤1000)&&((qhb s).all qCn&&inF ((s.size:Nat):Int) 1 40)
theorem qA8:nmL.all nmB=true:=by kernel_rfl
theorem qk3 {s:ByteArray} (h:s∈nmL):q1j s=some true:=by
 have:=qPp.1 qA8 s h
 unfold nmB at this
 rw[qPE,qQ8] at this
 rw[qsq s this.1,this.2]
theorem qhD {n a b:Int} (h1:a≤n) (h2:n≤b):zA n a b=true:=by
 rw[q3y]
 unfold inF
 rw[qQ9 h1,qQ9 h2];rfl
theorem qtv {p:qf} (hs:1≤p.School∧p.School≤8) (hi:1≤p.Id∧p.Id≤999999) (hv:1≤p.Version∧p.Version≤20) (hf:0≤p.From∧p.From≤100000) (ht:0≤p.Total∧p.Total≤600) (ho:0≤p.Own∧p.Own≤600) (ha:0≤p.Age∧p.Age≤100)
  (hn:q1j p.Name=some true) (hnd:JF p.Need=some 0) (hx:p.Exclude=[]∨∃a b,p.Exclude=[JS.mk a b]∧q1h a=true∧q1h b=true∧qxi a b<0):q0h p=some 0:=by
 have hex:p.Exclude.length≤1:=by
  rcases hx with e|⟨a,b,e,-⟩<;>rw[e]
  ·exact qPy _
  ·exact qPo _
 have hend:QX p p.Exclude ((p.Exclude.length:Nat):Int) ((p.Exclude.length:Nat):Int)=some (.inr (.inr ())):=by
  unfold QX
  rw[if_neg (by omega)]
 have hloop:zl (QX p p.Exclude ((p.Exclude.length:Nat):Int)) (0:Int)=some (.inr ()):=by
  rcases hx with e|⟨a,b,e,ma,mb,hlt⟩
  ·rw[e] at hend ⊢
   exact zt hend
  ·have e1:QX p p.Exclude ((p.Exclude.length:Nat):Int) (0:Int)=some (.inl 1):=by
    unfold QX
    rw[e]
    show(if(0:Int)<1 then _ else _)=_
    rw[if_pos (by decide),if_pos ⟨by simp,by simp⟩]
    show Option.bind (some (JS.mk a b)) _=_
    rw[qP8]
    dsimp only
    rw[qf7,qP8,qf7,qP8,ma,mb,qaD,qP8]
    rw[if_neg (by decide),if_neg (by decide),if_neg (by omega),if_pos ⟨by simp,by simp⟩,q76 _ (by simp),qP8]
    rfl
   rw[zS e1]
   have:((p.Exclude.length:Nat):Int)=1:=by rw[e];rfl
   rw[this] at hend ⊢
   exact zt hend
 unfold q0h
 rw[qhD (n:=p.School) (a:=1) (b:=8) hs.1 hs.2,qhD (n:=p.Id) (a:=1) (b:=999999) hi.1 hi.2,qhD (n:=p.Version) (a:=1) (b:=20) hv.1 hv.2,qhD (n:=p.From) (a:=0) (b:=100000) hf.1 hf.2,qhD (n:=p.Total) (a:=0) (b:=600) ht.1 ht.2,qhD (n:=p.Own) (a:=0) (b:=600) ho.1 ho.2,qhD (n:=p.Age) (a:=0) (b:=100) ha.1 ha.2,hn]
 simp only[Bool.not_true,Bool.false_eq_true,if_false,qP8]
 rw[hnd,qP8,if_neg (by decide),if_neg (by omega),hloop]
 rfl
theorem qhQ {p:qf} (h:qys p):q0h p=some 0:=by
 have hs:=h.sch;have hi:=h.id;have hv:=h.ver;have hf:=h.frm;have ht:=h.tot;have ho:=h.own
 have ha:0≤p.Age∧p.Age≤5:=by
  have:p.Age=0∨p.Age=2∨p.Age=5:=by have:=h.age;simpa using this
  omega
 refine qtv ⟨by omega,by omega⟩ ⟨by omega,by omega⟩ ⟨by omega,by omega⟩ ⟨by omega,by omega⟩ ⟨by omega,by omega⟩ ⟨by omega,by omega⟩ ⟨by omega,by omega⟩ (qk3 h.nam) (qe5 h.need) ?_
 rcases h.ex with e|⟨a,b,e,ma,mb,hp⟩
 ·exact .inl e
 ·refine .inr ⟨a,b,e,qam ma,qam mb,?_⟩
  have:=qkE a b
  rw[hp] at this
  simpa using this.symm
theorem ql9 {p:qf} (h:qys p) {s:qg} (hs:qd6 s=true):QI p s=some 0:=by
 unfold QI
 rw[qhQ h,qP8,if_neg (by decide),q5T,hs];rfl
end
noncomputable section
open Go.RowKit
set_option maxRecDepth 100000
def qma (W:Nat):Nat→List (List Int)
 | 0=>[[]]
 | m+1=>(qma W m).flatMap fun t=>(List.range (W+1)).map fun(i:Nat)=>((i:Int)-1)::t
theorem qgv (W:Nat):∀(lf:List Int),(∀y∈lf,-1≤y∧y<(W:Int))→lf∈qma W lf.length
 | [],_=>qPZ.2 rfl
 | y::lf,h=>by
  rw[qPj,qma,List.mem_flatMap]
  have hy:=h y qPn
  refine⟨lf,qgv W lf fun z hz=>h z (qPg _ hz),qPT.2 ⟨(y+1).toNat,qQ5.2 (show(y+1).toNat<W+1 by omega),?_⟩⟩
  rw[show(((y+1).toNat:Nat):Int)-1=y by omega]
def qEJ (p:qf) (s:qg) (all:List qa) (day:Int) (X:Nat) (lf:List Int):Bool:=
 qgY p (QJ X.testBit all) day&&decide (lf.length=rkF X.testBit all.length)&&(lf.all fun y=>decide (-1≤y)&&decide (y<(lvN p.Need:Int)))&&qlV p.Need s (QJ X.testBit all) lf
theorem qmi {p:qf} {s:qg} {all:List qa} {day:Int} {X:Nat} {lf:List Int}:qEJ p s all day X lf=true↔qgY p (QJ X.testBit all) day=true∧Perm p.Need s all X lf:=by
 unfold qEJ
 rw[qPE,qPE,qPE,qQ8,qPp]
 constructor
 ·rintro⟨⟨⟨h1,h2⟩,h3⟩,h4⟩
  refine⟨h1,h2,fun j y hy=>?_,h4⟩
  have:=h3 y (qP9 hy)
  rw[qPE,qQ8,qQ8] at this
  exact this
 ·rintro⟨h1,h2,h3,h4⟩
  refine⟨⟨⟨h1,h2⟩,fun y hy=>?_⟩,h4⟩
  obtain⟨j,hj⟩:=List.getElem?_of_mem hy
  have:=h3 j y hj
  rw[qQ9 this.1,qQ9 this.2];rfl
def qog (p:qf) (s:qg) (all:List qa) (day:Int) (q:Nat→List Int→Bool):Bool:=
 (List.range (2 ^ all.length)).all fun Y=>(qma (lvN p.Need) (rkF Y.testBit all.length)).all fun lf => !qEJ p s all day Y lf||q Y lf
theorem qkc {p:qf} {s:qg} {all:List qa} {day:Int} {q:Nat→List Int→Bool} (h:qog p s all day q=true) {Y:Nat} {lf:List Int} (hY:Y<2 ^ all.length) (ht:qgY p (QJ Y.testBit all) day=true) (hp:Perm p.Need s all Y lf):q Y lf=true:=by
 have h1:=qPp.1 h Y (qQ5.2 hY)
 have hm:lf∈qma (lvN p.Need) (rkF Y.testBit all.length):=by
  rw[←hp.len]
  refine qgv _ _ fun y hy=>?_
  obtain⟨j,hj⟩:=List.getElem?_of_mem hy
  exact hp.rng j y hj
 have h2:=qPp.1 h1 lf hm
 rw[qmi.2 ⟨ht,hp⟩] at h2
 simpa using h2
def qKA (N X:Nat) (w:List Int) (Y:Nat) (lf:List Int):Bool:=slL (q4f N X) (q4f N Y)||(X==Y&&(w==lf||q6g w lf))
def quU (p:qf) (s:qg) (l:List qa) (day:Int) (X:Nat) (w:List Int):Bool:=
 decide ((QJ (mO p day l) l).length≤10)&&decide (X<2 ^ (QJ (mO p day l) l).length)&&qEJ p s (QJ (mO p day l) l) day X w&&qog p s (QJ (mO p day l) l) day (qKA (QJ (mO p day l) l).length X w)
theorem qwe {p:qf} {l:List qa} (h:Grd p l) (hl:l.length≤1000) (s:qg) (hck:QI p s=some 0) (day:Int) {X:Nat} {w:List Int} (hg:quU p s l day X w=true):Zh p s l day=some (⟨QJ X.testBit (qdI l.length (mO p day l)),w⟩,0):=by
 unfold quU at hg
 rw[qPE,qPE,qPE,qQ8,qQ8] at hg
 obtain⟨⟨⟨h1,h2⟩,h3⟩,h4⟩:=hg
 obtain⟨ht,hp⟩:=qmi.1 h3
 rcases qd1 h hl s hck day with ⟨g1,-⟩|⟨-,-,g2⟩|⟨-,Y,v,g1,g2⟩
 ·omega
 ·exact absurd hp (g2 X w h2 ht)
 ·have a1:=qkc h4 g2.lt g2.tog g2.perm
  unfold qKA at a1
  rw[qPD,qPE,qPD,beq_iff_eq,beq_iff_eq] at a1
  have a2:=g2.min X w h2 ht hp
  have hsl:∀A B,slL A B=true→slL B A=true→False:=fun A B u v=>by
   have:=qcA u v
   rw[qf3] at this;cases this
  have hxl:∀A B,q6g A B=true→q6g B A=true→False:=fun A B u v=>by
   have:=q5v u v
   rw[qfL] at this;cases this
  have key:Y=X∧v=w:=by
   rcases a1 with a1|⟨e,a1⟩
   ·rcases a2 with a2|⟨e,a2⟩
    ·exact(hsl _ _ a1 a2).elim
    ·subst e;rw[qf3] at a1;cases a1
   ·subst e
    rcases a2 with a2|⟨-,a2⟩
    ·rw[qf3] at a2;cases a2
    ·rcases a1 with e|a1
     ·exact⟨rfl,e.symm⟩
     ·rcases a2 with e|a2
      ·exact⟨rfl,e⟩
      ·exact(hxl _ _ a1 a2).elim
  obtain⟨rfl,rfl⟩:=key
  exact g1
def qGj (p:qf) (s:qg) (l:List qa) (day:Int):Bool:=decide ((QJ (mO p day l) l).length≤10)&&qog p s (QJ (mO p day l) l) day fun _ _=>false
theorem qz1 {p:qf} {l:List qa} (h:Grd p l) (hl:l.length≤1000) (s:qg) (hck:QI p s=some 0) (day:Int) (hg:qGj p s l day=true):Zh p s l day=some (⟨[],[]⟩,31):=by
 unfold qGj at hg
 rw[qPE,qQ8] at hg
 rcases qd1 h hl s hck day with ⟨g1,-⟩|⟨-,g1,-⟩|⟨-,Y,v,-,g2⟩
 ·omega
 ·exact g1
 ·have:=qkc hg.2 g2.lt g2.tog g2.perm
  cases this
theorem qn7 (u:qP) (h1:u.Taken.length≤1000) (h2:u.Leaf.length≤1000):q3v u u=some true:=by
 have e1:=q9t (step:=q0k u u) u.Taken (fun _=>true) (.inl ()) (.inr ()) (fun i a ha=>by
  have hi:=ZB ha
  unfold q0k
  rw[if_pos (by omega),if_pos ⟨by omega,by omega⟩,qPb,ha,qP8,if_pos ⟨by omega,by omega⟩,qP8,if_neg (by simp),q2n hi (by omega)]
  rfl) (by
  unfold q0k
  rw[if_neg (by omega)])
 have e2:=q9t (step:=q0i u u) u.Leaf (fun _=>true) (.inl ()) (.inr ()) (fun i a ha=>by
  have hi:=ZB ha
  unfold q0i
  rw[if_pos (by omega),if_pos ⟨by omega,by omega⟩,qPb,ha,qP8,if_pos ⟨by omega,by omega⟩,qP8,if_neg (by simp),q2n hi (by omega)]
  rfl) (by
  unfold q0i
  rw[if_neg (by omega)])
 have ht:∀l:List Int,(l.all fun _=>true)=true:=fun l=>by simp
 rw[ht,if_pos rfl] at e1 e2
 unfold q3v
 rw[if_neg (by simp),if_neg (by simp),e1,qP8,Sum.elim_inr,e2,qP8,Sum.elim_inr]
end
noncomputable section
open Go.RowKit
set_option maxRecDepth 100000
abbrev cA1:qc:=qc.mk 1 (ByteArray.mk (List.toArray [65,49]))
abbrev cB1:qc:=qc.mk 1 (ByteArray.mk (List.toArray [66,49]))
abbrev mus:ByteArray:=ByteArray.mk (List.toArray [77,117,115,105,99])
abbrev nEx:qb:=qb.mk 1 0 60 [cA1,cB1] []
abbrev pEx (total age:Int) (x:List (JS qc)):qf:=qf.mk 1 1 1 0 mus nEx total 0 age x
abbrev lEx:List qa:=[qa.mk cA1 5 55 100 [1000001] 0 [],qa.mk cB1 5 60 100 [1000002] 0 [],qa.mk cA1 6 80 100 [1000003] 0 []]
abbrev scP:qg:=⟨0,100,50⟩
theorem qjV:zq 1=scP:=by unfold zq;rfl
theorem q5C (t:Int):ZE t=some (pEx t 0 [],lEx):=by
 unfold ZE
 rw[zS (y:=([qa.mk cA1 5 55 100 [1000001] 0 []],1)) (by rfl),zS (y:=([qa.mk cA1 5 55 100 [1000001] 0 [],qa.mk cB1 5 60 100 [1000002] 0 []],2)) (by rfl),zS (y:=(lEx,3)) (by rfl),zt (e:=lEx) (by rfl)]
 rfl
def qKG (n:qb):Bool:=decide (hgN n≤100)&&decide ((ndN n).length≤9999)&&(ndN n).all (fun y=>decide (y.Set.length≤1000000))&&qet n==0
theorem qAJ {n:qb} (h:qKG n=true):Rgt n:=by
 unfold qKG at h
 simp only[qPE,qQ8,qPp,beq_iff_eq] at h
 exact⟨⟨h.1.1.1,h.1.1.2,h.1.2⟩,h.2⟩
theorem qaw:Rgt nEx:=qAJ (by kernel_rfl)
theorem qBa:JF nEx=some 0:=by
 rw[q9d nEx qaw.sz.hg qaw.sz.nd qaw.sz.st]
 exact congrArg some qaw.ck
theorem qxB:∀b∈lEx,q6f b:=fun b hb=>by
 simp only[qPu,List.mem_nil_iff,or_false] at hb
 rcases hb with rfl|rfl|rfl<;>exact⟨by decide,by decide⟩
theorem qoM (t a:Int) (x:List (JS qc)) (hx:x.length≤1000):Grd (pEx t a x) lEx:=⟨qaw,hx,qxB⟩
theorem qv8 (t a:Int) (ht:0≤t∧t≤600) (ha:0≤a∧a≤100) (x:List (JS qc)) (hx:x=[]∨x=[JS.mk cA1 cB1]):QI (pEx t a x) scP=some 0:=by
 unfold QI
 rw[qtv (p:=pEx t a x) (show(1:Int)≤1∧(1:Int)≤8 by decide) (show(1:Int)≤1∧(1:Int)≤999999 by decide) (show(1:Int)≤1∧(1:Int)≤20 by decide) (show(0:Int)≤0∧(0:Int)≤100000 by decide) ht (show(0:Int)≤0∧(0:Int)≤600 by decide) ha (qk3 (s:=mus) (by simp[nmL])) qBa (by
  rcases hx with e|e
  ·exact .inl e
  ·exact .inr ⟨cA1,cB1,e,by kernel_rfl,by kernel_rfl,of_decide_eq_true (by kernel_rfl)⟩),qP8,if_neg (by decide),q5T]
 rfl
theorem q93 (t a:Int) (ht:0≤t∧t≤600) (ha:0≤a∧a≤100) (x:List (JS qc)) (hx:x=[]∨x=[JS.mk cA1 cB1]) (X:Nat) (w tk:List Int) (hg:quU (pEx t a x) scP lEx 500 X w=true) (hk:QJ X.testBit (qdI lEx.length (mO (pEx t a x) 500 lEx))=tk) (h1:tk≠[]) (h2:tk.length≤10) (h3:w.length≤10):zb (pEx t a x) lEx tk w=some true:=by
 unfold zb
 have hxl:x.length≤1000:=by rcases hx with e|e<;>rw[e]<;>decide
 rw[qjV,qwe (qoM t a x hxl) (by decide) scP (qv8 t a ht ha x hx) 500 hg,qP8,hk]
 have hl:tk.length≠0:=fun e=>h1 (qPr e)
 dsimp only
 rw[if_neg (by simpa using h1),if_pos (by decide),qn7 _ (by show tk.length≤1000;omega) (by show w.length≤1000;omega),qP8]
theorem qnZ (t a:Int) (ht:0≤t∧t≤600) (ha:0≤a∧a≤100) (hg:qGj (pEx t a []) scP lEx 500=true):zb (pEx t a []) lEx [] []=some true:=by
 unfold zb
 rw[qjV,qz1 (qoM t a [] (by decide)) (by decide) scP (qv8 t a ht ha [] (.inl rfl)) 500 hg,qP8]
 rfl
theorem qOt:zb (pEx 11 0 []) lEx [1,2] [-1,0]=some true:=q93 11 0 (by decide) (by decide) [] (.inl rfl) 6 [-1,0] [1,2] (by kernel_rfl) (by kernel_rfl) (by decide) (by decide) (by decide)
theorem qLm:zb (pEx 10 0 []) lEx [0,1] [-1,0]=some true:=q93 10 0 (by decide) (by decide) [] (.inl rfl) 3 [-1,0] [0,1] (by kernel_rfl) (by kernel_rfl) (by decide) (by decide) (by decide)
theorem qL5:zb (pEx 5 0 []) lEx [1] [0]=some true:=q93 5 0 (by decide) (by decide) [] (.inl rfl) 2 [0] [1] (by kernel_rfl) (by kernel_rfl) (by decide) (by decide) (by decide)
theorem qMJ:zb (pEx 0 0 []) lEx [1] [0]=some true:=q93 0 0 (by decide) (by decide) [] (.inl rfl) 2 [0] [1] (by kernel_rfl) (by kernel_rfl) (by decide) (by decide) (by decide)
theorem qOe:zb (pEx 12 0 []) lEx [] []=some true:=qnZ 12 0 (by decide) (by decide) (by kernel_rfl)
theorem qNA:zb (pEx 11 3 []) lEx [] []=some true:=qnZ 11 3 (by decide) (by decide) (by kernel_rfl)
theorem qM8:zb (pEx 6 0 [JS.mk cA1 cB1]) lEx [2] [0]=some true:=q93 6 0 (by decide) (by decide) _ (.inr rfl) 4 [0] [2] (by kernel_rfl) (by kernel_rfl) (by decide) (by decide) (by decide)
theorem qmj (tk lf:List Int) (r:Int) (hv:∀(j:Nat) (y:Int),lf[j]?=some y → -1≤y∧y<(lvN nEx:Int)) (hr:(if qGG (pEx 11 0 []) lEx 500 (fun L=>qlV nEx scP L lf) ⟨tk,lf⟩=true then 0 else 32)=r):qU (pEx 11 0 []) scP lEx 500 ⟨tk,lf⟩=some r:=by
 rw[qCb (qoM 11 0 [] (by decide)) (by decide) scP (qv8 11 0 (by decide) (by decide) [] (.inl rfl)) 500 ⟨tk,lf⟩ (fun L=>qlV nEx scP L lf) (fun L h1 h2=>qp0 qaw h2 scP lf h1.symm hv),hr]
theorem qpq (a b:Int) (ha : -1≤a∧a<1) (hb : -1≤b∧b<1):∀(j:Nat) (y:Int),[a,b][j]?=some y → -1≤y∧y<(lvN nEx:Int)
 | 0,y,h=>by injection h with h;subst h;exact ha
 | 1,y,h=>by injection h with h;subst h;exact hb
 | j+2,y,h=>by cases h
theorem qMP:qU (pEx 11 0 []) scP lEx 500 ⟨[1,2],[0,-1]⟩=some 0:=qmj _ _ _ (qpq 0 (-1) (by decide) (by decide)) (by kernel_rfl)
theorem qLL:qU (pEx 11 0 []) scP lEx 500 ⟨[1,2],[0,0]⟩=some 32:=qmj _ _ _ (qpq 0 0 (by decide) (by decide)) (by kernel_rfl)
theorem qFv:qU (pEx 11 0 []) scP lEx 500 ⟨[0,2],[-1,0]⟩=some 32:=qmj _ _ _ (qpq (-1) 0 (by decide) (by decide)) (by kernel_rfl)
theorem qL6:Zw (pEx 11 3 []) (qa.mk cA1 5 55 100 [1000001] 0 []) 500=some true:=by kernel_rfl
theorem qM5:Zw (pEx 11 0 []) (qa.mk cA1 5 55 100 [1000001] 0 []) 500=some false:=by kernel_rfl
theorem qIK:q1z ⟨[1],[0]⟩ ⟨[1],[0]⟩=some true:=by
 unfold q1z q01
 rw[qcY _ _ (by decide),qcY _ _ (by decide)]
 rfl
theorem qhG:q1W=some true:=by
 have h1:=qOt;have h2:=qLm;have h3:=qL5;have h4:=qMJ;have h5:=qOe;have h6:=qNA;have h7:=qM8
 have h8:=qMP;have h9:=qLL;have h10:=qFv;have h11:=qL6;have h12:=qM5;have h13:=qIK
 unfold q1W
 rw[q5C,qP8,q5C,qP8,q5C,qP8,q5C,qP8,q5C,qP8]
 dsimp only
 rw[h1,qP8,if_pos rfl,h2,qP8,if_pos rfl,h3,qP8,if_pos rfl,h4,qP8,if_pos rfl,h5,qP8,if_pos rfl,h6,qP8,if_pos rfl,h7,qP8,qjV,h8,qP8,if_pos (by decide),h9,qP8,if_pos (by decide),h10,qP8,if_pos rfl,if_pos (by decide)]
 rw[if_pos (by decide)]
 show Option.bind (some _) _=_
 rw[qP8]
 rw[h11]
 simp only[qP8,if_true]
 rw[if_pos (by decide)]
 show Option.bind (some _) _=_
 rw[qP8,h12]
 simp only[qP8]
 rw[h13]
 rfl
end
noncomputable section
open Go.RowKit
structure qcz (a:qa):Prop where
 src:a.Sources.length=1
 pth:a.Path.length≤1
 crd:3≤a.Credits∧a.Credits≤10
 day:0≤a.Day∧a.Day≤600
theorem qFP (cs:List qc) (hc:1≤cs.length) (hc2:cs.length≤1000) (many:Int) (hm:many≤7) (l:List qa) (k:Nat) (hl:l.length=k) (hs:∀a∈l,qcz a) (hk:(k:Int)<many) {d:qj} (hd:q0G d) :
  ∃a d',qcz a∧q0G d'∧Zg cs many (l,d,(k:Int))=some (.inl (l++[a],d',((k+1:Nat):Int))):=by
 have hML:100000≤maxLen:=by unfold maxLen;omega
 obtain⟨v1,d1,e1,a1,b1,h1⟩:=qlF hd (most:=((cs.length:Nat):Int)) (by omega) (by omega)
 obtain⟨c,hc1,_⟩:=qlS cs v1 a1 b1
 obtain⟨v2,d2,e2,a2,b2,h2⟩:=qlF h1 (most:=4) (by omega) (by omega)
 obtain⟨cr,hcr,mcr⟩:=qlS [(5:Int),6,10,3] v2 a2 (by simpa using b2)
 obtain⟨v3,d3,e3,a3,b3,h3⟩:=qlF h2 (most:=7) (by omega) (by omega)
 obtain⟨gr,hgr,_⟩:=qlS [(50:Int),60,90,40,100,79,80] v3 a3 (by simpa using b3)
 obtain⟨v4,d4,e4,a4,b4,h4⟩:=qlF h3 (most:=600) (by omega) (by omega)
 obtain⟨v5,d5,e5,a5,b5,h5⟩:=qlF h4 (most:=8) (by omega) (by omega)
 have hw:w64 ((k:Int)+1)=((k+1:Nat):Int):=by rw[Z3 (by omega) (by omega)];omega
 have hcr2:3≤cr∧cr≤10:=by
  have:cr=5∨cr=6∨cr=10∨cr=3:=by simpa using mcr
  omega
 have hok:∀x,qcz ⟨c,cr,gr,v4,[x],0,[]⟩:=fun x=>⟨rfl,qPy _,hcr2,⟨a4,by show v4≤600;omega⟩⟩
 by_cases hz:v5=0∧0<k
 ·have hwk:w64 ((k:Int)-1)=((k-1:Nat):Int):=by rw[Z3 (by omega) (by omega)];omega
  obtain⟨p,hp⟩:∃p,l[k-1]?=some p:=⟨_,qPa (by omega)⟩
  have hps:=(hs p (qP9 hp)).src
  obtain⟨x,hx⟩:∃x,p.Sources[0]?=some x:=⟨_,qPa (by omega)⟩
  refine⟨⟨c,cr,gr,v4,[x],0,[]⟩,d5,hok x,h5,?_⟩
  unfold Zg
  simp only
  rw[if_pos hk,e1,qP8]
  simp only
  rw[if_pos ⟨a1,b1⟩,hc1,qP8,e2,qP8]
  simp only
  rw[if_pos ⟨a2,b2⟩,hcr,qP8,e3,qP8]
  simp only
  rw[if_pos ⟨a3,b3⟩,hgr,qP8,e4,qP8]
  simp only
  rw[e5,qP8]
  simp only
  rw[if_pos (by simp[hz.1]),if_pos (by omega),hwk,if_pos ⟨by omega,by omega⟩,qPb,hp,qP8,if_pos (by omega),hx,qP8,if_pos ⟨by omega,by omega⟩,hw]
 ·refine⟨⟨c,cr,gr,v4,[w64 (w64 (w64 ((1000000:Int)*c.School)+(k:Int))+(1:Int))],0,[]⟩,d5,hok _,h5,?_⟩
  unfold Zg
  simp only
  rw[if_pos hk,e1,qP8]
  simp only
  rw[if_pos ⟨a1,b1⟩,hc1,qP8,e2,qP8]
  simp only
  rw[if_pos ⟨a2,b2⟩,hcr,qP8,e3,qP8]
  simp only
  rw[if_pos ⟨a3,b3⟩,hgr,qP8,e4,qP8]
  simp only
  rw[e5,qP8]
  simp only
  by_cases h0:v5=0
  ·rw[if_pos (by simp[h0]),if_neg (by omega),if_pos ⟨by omega,by omega⟩,hw]
  ·rw[if_neg (by simpa using h0),if_pos ⟨by omega,by omega⟩,hw]
theorem qGH (cs:List ByteArray) (hc:1≤cs.length) (hc2:cs.length≤1000) (many:Int) (hm:many≤7) (l:List qa) (k:Nat) (hl:l.length=k) (hk:(k:Int)<many) {d:qj} (hd:q0G d) :
  ∃a d',qcz a∧q0G d'∧ZF many cs (l,d,(k:Int))=some (.inl (l++[a],d',((k+1:Nat):Int))):=by
 have hML:100000≤maxLen:=by unfold maxLen;omega
 obtain⟨v1,d1,e1,a1,b1,h1⟩:=q2A hd (most:=5) (by omega) (by omega)
 obtain⟨sc,hsc,_⟩:=qlS [(1:Int),1,1,2,3] v1 a1 (by simpa using b1)
 obtain⟨v2,d2,e2,a2,b2,h2⟩:=q2A h1 (most:=((cs.length:Nat):Int)) (by omega) (by omega)
 obtain⟨c,hc1,_⟩:=qlS cs v2 a2 b2
 obtain⟨v3,d3,e3,a3,b3,h3⟩:=q2A h2 (most:=3) (by omega) (by omega)
 obtain⟨cr,hcr,mcr⟩:=qlS [(5:Int),6,10] v3 a3 (by simpa using b3)
 obtain⟨v4,d4,e4,a4,b4,h4⟩:=q2A h3 (most:=11) (by omega) (by omega)
 obtain⟨v5,d5,e5,a5,b5,h5⟩:=q2A h4 (most:=12) (by omega) (by omega)
 obtain⟨v6,d6,e6,a6,b6,h6⟩:=q2A h5 (most:=4) (by omega) (by omega)
 obtain⟨v7,d7,e7,a7,b7,h7⟩:=q2A h6 (most:=2) (by omega) (by omega)
 obtain⟨v8,d8,e8,a8,b8,h8⟩:=q2A h7 (most:=3) (by omega) (by omega)
 have hw:w64 ((k:Int)+1)=((k+1:Nat):Int):=by rw[Z3 (by omega) (by omega)];omega
 have hcr2:3≤cr∧cr≤10:=by
  have:cr=5∨cr=6∨cr=10:=by simpa using mcr
  omega
 have wd:w64 (50*v5)=50*v5:=Z3 (by omega) (by omega)
 have hd5:0≤w64 (50*v5)∧w64 (50*v5)≤600:=by rw[wd];omega
 unfold ZF
 simp only
 rw[if_pos hk,e1,qP8]
 simp only
 rw[if_pos ⟨a1,b1⟩,hsc,qP8,e2,qP8]
 simp only
 rw[if_pos ⟨a2,b2⟩,hc1,qP8,e3,qP8]
 simp only
 rw[if_pos ⟨a3,b3⟩,hcr,qP8,e4,qP8]
 simp only
 rw[e5,qP8]
 simp only
 rw[e6,qP8]
 simp only
 by_cases h0:v6=0
 ·rw[if_pos (by simp[h0]),e7,qP8]
  simp only
  rw[e8,qP8]
  simp only
  rw[if_pos ⟨by omega,by omega⟩,hw]
  exact⟨_,_,⟨rfl,qPo _,hcr2,hd5⟩,h8,rfl⟩
 ·rw[if_neg (by simpa using h0),if_pos ⟨by omega,by omega⟩,hw]
  exact⟨_,_,⟨rfl,qPy _,hcr2,hd5⟩,h6,rfl⟩
theorem qaz {many:Nat} {F:(List qa×qj×Int)→Option ((List qa×qj×Int)⊕(List qa))}
  (hr:∀(l:List qa) (k:Nat) (d:qj),l.length=k→(∀a∈l,qcz a)→k<many→q0G d→∃a d',qcz a∧q0G d'∧F (l,d,(k:Int))=some (.inl (l++[a],d',((k+1:Nat):Int))))
  (he:∀l d,F (l,d,(many:Int))=some (.inr l)):∀(j k:Nat) (l:List qa) (d:qj),j+k=many→l.length=k→(∀a∈l,qcz a)→q0G d→∃l',zl F (l,d,(k:Int))=some l'∧l'.length=many∧∀a∈l',qcz a
 | 0,k,l,d,hk,hl,hs,hd=>by
  obtain rfl:k=many:=by omega
  exact⟨l,zt (he l d),hl,hs⟩
 | j+1,k,l,d,hk,hl,hs,hd=>by
  obtain⟨a,d',q1,q2,q3⟩:=hr l k d hl hs (by omega) hd
  rw[zS q3]
  refine qaz hr he j (k+1) (l++[a]) d' (by omega) (by simp[hl]) (fun x hx=>?_) q2
  rcases qPC.1 hx with h|h
  ·exact hs x h
  ·rw[qPZ.1 h];exact q1
theorem qpc {n:qb} (h:q6l 3 6 n) (q:List Int) (hq:q.length≤9223372036854775807):∃l,q3x n q=some l∧l.length≤7∧∀a∈l,qcz a:=by
 obtain⟨cs,g1,g2⟩:=qlb h
 obtain⟨v,d,e1,a1,b1,h1⟩:=qlF (d:=⟨q,0⟩) ⟨by show(0:Int)≤0;omega,by show(0:Int)≤(q.length:Int);omega,hq⟩ (most:=8) (by omega) (by omega)
 have hML:100000≤maxLen:=by unfold maxLen;omega
 obtain⟨m,rfl⟩:∃m:Nat,v=(m:Int):=⟨v.toNat,by omega⟩
 obtain⟨l',k1,k2,k3⟩:=qaz (many:=m) (F:=Zg (cs++[qc.mk (1:Int) (ByteArray.mk (List.toArray [90]))]) (m:Int)) (fun l k d hl hs hk hd=>qFP _ (by simp) (by simp;omega) (m:Int) (by omega) l k hl hs (by omega) hd) (fun l d=>by
  unfold Zg
  simp only
  rw[if_neg (by omega)]) m 0 [] d (by omega) rfl (fun a ha=>by cases ha) h1
 refine⟨l',?_,by omega,k3⟩
 unfold q3x
 rw[g1,qP8,if_pos ⟨by omega,by omega⟩,e1,qP8]
 simp only
 change Option.bind (zl _ ([],d,((0:Nat):Int))) _=_
 rw[k1];rfl
theorem qn0 (q:List Int) (hq:q.length≤9223372036854775807):∃l,q3z q=some l∧l.length≤7∧∀a∈l,qcz a:=by
 obtain⟨v,d,e1,a1,b1,h1⟩:=q2A (d:=⟨q,0⟩) ⟨by show(0:Int)≤0;omega,by show(0:Int)≤(q.length:Int);omega,hq⟩ (most:=8) (by omega) (by omega)
 obtain⟨m,rfl⟩:∃m:Nat,v=(m:Int):=⟨v.toNat,by omega⟩
 obtain⟨l',k1,k2,k3⟩:=qaz (many:=m) (F:=ZF (m:Int) Q3) (fun l k d hl hs hk hd=>qGH _ (by decide) (by decide) (m:Int) (by omega) l k hl (by omega) hd) (fun l d=>by
  unfold ZF
  simp only
  rw[if_neg (by omega)]) m 0 [] d (by omega) rfl (fun a ha=>by cases ha) h1
 refine⟨l',?_,by omega,k3⟩
 unfold q3z
 rw[e1,qP8]
 simp only
 change Option.bind (zl _ ([],d,((0:Nat):Int))) _=_
 rw[k1];rfl
end
noncomputable section
open Go.RowKit
set_option maxRecDepth 100000
theorem qmI {α:Type} (ds:List α) (o s:Nat):ds.drop o=(ds.drop o).take s++ds.drop (o+s):=by
 rw[←qPW];exact(qPX s _).symm
theorem qpb {X:Type} {E:X→List D} {W:X→Prop} {sz:Nat} (hz:0<sz):∀(m:Nat) (es:List D),es.length=m*sz→(∀i,i<m→∃x,(es.drop (i*sz)).take sz=E x∧W x)→∃l:List X,es=l.flatMap E∧l.length=m∧∀x∈l,W x
 | 0,es,hl,_=>⟨[],by rw[Nat.zero_mul] at hl;exact qPr hl,rfl,by simp⟩
 | m+1,es,hl,h=>by
  obtain⟨x,hx,wx⟩:=h 0 (by omega)
  obtain⟨l,g1,g2,g3⟩:=qpb hz m (es.drop sz) (by rw[qPV,hl,Nat.add_mul];omega) fun i hi=>by
   obtain⟨y,hy,wy⟩:=h (i+1) (by omega)
   refine⟨y,?_,wy⟩
   rw[qPW,show sz+i*sz=(i+1)*sz by rw[Nat.add_mul,Nat.one_mul,Nat.add_comm]];exact hy
  refine⟨x::l,?_,by simp[g2],fun y hy=>?_⟩
  ·rw[Nat.zero_mul,List.drop_zero] at hx
   rw[qQd,←g1,←hx,qPX]
  ·rcases qPu.1 hy with rfl|hy
   ·exact wx
   ·exact g3 y hy
abbrev qGL:List TypeId:=[25,22,3,23]
theorem qCz:qJc Tryz.prog qGL=true:=by kernel_rfl
theorem ty3:∀(n:Nat) (ds:List D),q67 Tryz.prog n 3 ds→∃v:Int,ds=[D.int .i64 v]∧(Lit.int .i64 v).wf=true:=by
 intro n ds h
 cases n with
 | zero=>exact h.elim
 | succ n=>
  unfold q67 at h
  rw[Tryz.underlying3] at h
  obtain⟨z,h1,h2⟩:=h
  exact⟨z,h1,h2⟩
theorem cz3:Tryz.prog.cellsOf 3=1:=by kernel_rfl
theorem qKs:∀(n:Nat) (ds:List D),q67 Tryz.prog n 22 ds→∃v:List Int,ds=[D.sl 1 v.length (v.flatMap eI)]∧(v.length≤maxLen∧∀y∈v,(Lit.int .i64 y).wf=true):=by
 intro n ds h
 cases n with
 | zero=>exact h.elim
 | succ n=>
  unfold q67 at h
  rw[Tryz.underlying22] at h
  obtain⟨m,es,h1,h2,h3,h4⟩:=h
  rw[cz3] at h1 h3 h4
  obtain⟨l,g1,g2,g3⟩:=qpb (E:=eI) (W:=fun y=>(Lit.int .i64 y).wf=true) (sz:=1) (by decide) m es h3 fun i hi=>by
   obtain⟨v,q1,q2⟩:=ty3 n _ (h4 i hi)
   exact⟨v,q1.trans (rfl),q2⟩
  refine⟨l,?_,by omega,g3⟩
  rw[h1,g1,g2]
theorem qKU:∀(n:Nat) (ds:List D),q67 Tryz.prog n 23 ds→∃v:Int,ds=[D.int .u16 v]∧(Lit.int .u16 v).wf=true:=by
 intro n ds h
 cases n with
 | zero=>exact h.elim
 | succ n=>
  unfold q67 at h
  rw[Tryz.underlying23] at h
  obtain⟨z,h1,h2⟩:=h
  exact⟨z,h1,h2⟩
theorem qJ2:Tryz.prog.cellsOf 22=1:=by kernel_rfl
theorem qO7:Tryz.prog.cellsOf 23=1:=by kernel_rfl
theorem qKT:Tryz.prog.cellsOf 25=3:=by kernel_rfl
def q74 (x:JW):Prop:=(x.Programme.length≤maxLen∧∀y∈x.Programme,(Lit.int .i64 y).wf=true)∧(x.Had.length≤maxLen∧∀y∈x.Had,(Lit.int .i64 y).wf=true)∧(Lit.int .u16 x.Day).wf=true
theorem ty25:∀(n:Nat) (ds:List D),q67 Tryz.prog n 25 ds→∃v:JW,ds=[D.sl 1 v.Programme.length (v.Programme.flatMap eI),D.sl 1 v.Had.length (v.Had.flatMap eI),D.int .u16 v.Day]∧q74 v:=by
 intro n ds h
 cases n with
 | zero=>exact h.elim
 | succ n=>
  unfold q67 at h
  rw[Tryz.underlying25] at h
  obtain⟨hl,hf⟩:=h
  rw[qKT] at hl
  have h0:q67 Tryz.prog n 22 ((ds.drop 0).take (Tryz.prog.cellsOf 22)):=hf _ (qP9 (i:=0) rfl)
  rw[qJ2] at h0
  obtain⟨v0,e0,w0⟩:=qKs _ _ h0
  have c0:=qmI ds 0 1
  rw[e0] at c0
  have h1:q67 Tryz.prog n 22 ((ds.drop 1).take (Tryz.prog.cellsOf 22)):=hf _ (qP9 (i:=1) rfl)
  rw[qJ2] at h1
  obtain⟨v1,e1,w1⟩:=qKs _ _ h1
  have c1:=qmI ds 1 1
  rw[e1] at c1
  have h2:q67 Tryz.prog n 23 ((ds.drop 2).take (Tryz.prog.cellsOf 23)):=hf _ (qP9 (i:=2) rfl)
  rw[qO7] at h2
  obtain⟨v2,e2,w2⟩:=qKU _ _ h2
  have c2:=qmI ds 2 1
  rw[e2] at c2
  have cl:ds.drop 3=[]:=qPP (by omega)
  refine⟨⟨v0,v1,v2⟩,?_,⟨w0,w1,w2⟩⟩
  have c:ds.drop 0=_:=c0
  simp only[Nat.reduceAdd] at c0 c1 c2 c
  rw[c1,c2,cl] at c
  exact c
end
noncomputable section
open Go.RowKit
theorem qC1 {x:Int} (h:(Lit.int .u16 x).wf=true):0≤x∧x≤65535:=by
 unfold Lit.wf at h
 rw[qPE,qQ8,qQ8] at h
 exact h
structure C14 (c:JW) (p:qf) (l:List qa) (day:Int):Prop where
 pg:qys p
 len:l.length≤7
 ach:∀a∈l,qcz a
 d0:0≤day
 d1:day<800
theorem qq6 {c:JW} (w:q74 c):∃p l day,q0g c=some (p,l,day)∧C14 c p l day:=by
 obtain⟨w1,w2,w3⟩:=w
 have hm:maxLen≤9223372036854775807:=by unfold maxLen;decide
 have hd:=qC1 w3
 obtain⟨p,e1,hp⟩:=qxW c.Programme (by omega)
 obtain⟨l1,e2,hl1,ha1⟩:=qn0 c.Had (by omega)
 obtain⟨l2,e3,hl2,ha2⟩:=qpc hp.need c.Had (by omega)
 have hday:w64 c.Day=c.Day:=Z3 (by omega) (by omega)
 have h0:0≤Int.tmod (w64 c.Day) 800:=Int.tmod_nonneg _ (by omega)
 have h1:Int.tmod (w64 c.Day) 800<800:=Int.tmod_lt_of_pos _ (by omega)
 unfold q0g
 rw[e1,qP8,e2,qP8]
 by_cases hc:(Int.tmod c.Day 2==0)=true
 ·rw[if_pos hc,e3,qP8]
  exact⟨_,_,_,rfl,hp,hl2,ha2,h0,h1⟩
 ·rw[if_neg hc]
  exact⟨_,_,_,rfl,hp,hl1,ha1,h0,h1⟩
theorem C14.grd {c:JW} {p:qf} {l:List qa} {day:Int} (h:C14 c p l day):Grd p l:=by
 refine⟨⟨⟨by have:=h.pg.need.hg;omega,by have h2:=h.pg.need.l2;have h4:=h.pg.need.nd;omega,qff h.pg.need.ok⟩,?_⟩,?_,fun b hb=>?_⟩
 ·have h1:=qe5 h.pg.need
  rw[q9d p.Need (by have:=h.pg.need.hg;omega) (by have h2:=h.pg.need.l2;have h4:=h.pg.need.nd;omega) (qff h.pg.need.ok)] at h1
  injection h1
 ·rcases h.pg.ex with e|⟨a,b,e,-⟩<;>rw[e]
  ·exact qPy _
  ·show 1≤1000;omega
 ·have:=h.ach b hb
  exact⟨by rw[this.src];omega,by have:=this.pth;omega⟩
theorem C14.ck {c:JW} {p:qf} {l:List qa} {day:Int} (h:C14 c p l day):QI p scP=some 0:=ql9 h.pg (by decide)
theorem qvN {p:qf} {a:qa} {day:Int} (hd:0≤day∧day≤1000) (ha:0≤a.Day∧a.Day≤1000):qlT p a day=(decide (0<p.Age)&&decide (p.Age<w64 (w64 (Int.tdiv day 100)-w64 (Int.tdiv a.Day 100)))):=by
 have ht:∀d:Int,0≤d∧d≤1000→q1r d=some (w64 (Int.tdiv d 100)):=fun d hd=>by
  have e1:=Int.tmod_lt_of_pos d (show(0:Int)<100 by omega)
  have e2:0≤Int.tmod d 100:=Int.tmod_nonneg _ hd.1
  have e3:w64 (Int.tmod d 100+100)=Int.tmod d 100+100:=Z3 (by omega) (by omega)
  have e4:Int.tmod (Int.tmod d 100+100) 100=Int.tmod d 100:=by
   rw[Int.tmod_eq_emod_of_nonneg (by omega),Int.tmod_eq_emod_of_nonneg hd.1];omega
  have e5:w64 (d-Int.tmod d 100)=d-Int.tmod d 100:=Z3 (by omega) (by omega)
  have e6:Int.tdiv (d-Int.tmod d 100) 100=Int.tdiv d 100:=by
   rw[Int.tmod_eq_emod_of_nonneg hd.1,Int.tdiv_eq_ediv_of_nonneg (by omega),Int.tdiv_eq_ediv_of_nonneg hd.1];omega
  unfold q1r q0v
  rw[if_neg (by omega),if_neg (by decide),if_neg (by decide),if_neg (by decide),e3,e4,e5,e6,qP8]
 unfold qlT Zw
 rw[ht day hd,ht a.Day ha]
 by_cases h:0<p.Age
 ·rw[if_pos h,qQ9 h,qPF];rfl
 ·rw[if_neg h,decide_eq_false h,qQb];rfl
end
noncomputable section
open Go.RowKit
set_option maxRecDepth 20000
set_option maxHeartbeats 8000000
theorem qHO:okL 25 qgl:=qS (ql qBE) (by kernel_rfl) (by kernel_rfl)
def qHP:=JA_ @qgl.eq_1 (JA_ @Tryz.f25.eq_1 @qBE)
theorem qzC:lbO 25 2=qpe:=Qr (ql qBE) rfl
theorem qAs:okL 25 qpe:=zJ qHO (qP9 (i:=0) (by kernel_rfl))
theorem qCd:lbO 25 5=qox:=Qr (ql qBE) rfl
theorem qyW:okL 25 qox:=zJ qHO (qP9 (i:=1) (by kernel_rfl))
def J1 (a:List Int) (b:List Int) (i:Int):Int→Option (Int⊕(Unit⊕Unit))|k=>if k<((b.length:Nat):Int) then if 0≤i∧i<((a.length:Nat):Int) then Option.bind a[Int.toNat i]? fun(a2:Int)=>if 0≤k∧k<((b.length:Nat):Int) then Option.bind b[Int.toNat k]? fun(a3:Int)=>if(a2==a3)=Bool.true then some (Sum.inr (Sum.inl ())) else some (Sum.inl (w64 (k+1))) else none else none else some (Sum.inr (Sum.inr ()))
theorem q89:∀(a b:List Int) (i k:Int),XL2 evo 25 0 5 ⟨[(0,rL 1 eI a),(1,rL 1 eI b),(5,rI i),(6,rI k)],[],0,28⟩=(zl (J1 a b i) k).bind (Sum.elim (fun(e:Unit)=>some (Exit.ret,⟨[(0,rL 1 eI a),(1,rL 1 eI b),(4,rB Bool.true),(5,rI i)],[],0,28⟩)) (fun(e:Unit)=>some (Exit.exit 2,⟨[(0,rL 1 eI a),(1,rL 1 eI b),(4,R.any),(5,rI i)],[],0,28⟩))):=
 fun a b i k=>by
  revert k;exact qa6 qCd qyW (fun e=>by rcases e with _|_<;>exact⟨_,rfl,fun h=>by cases h⟩) fun x=>by
   have:=qHP;have:=@qox.eq_1;have:=@J1.eq_1;exact gA
def JI (a:List Int) (b:List Int):Int→Option (Int⊕(Unit⊕Unit))|i=>if i<((a.length:Nat):Int) then Option.bind (zl (J1 a b i) 0) fun(a2:Sum Unit Unit)=>Sum.elim (fun(a3:Unit)=>some (Sum.inr (Sum.inl ()))) (fun(a4:Unit)=>some (Sum.inl (w64 (i+1)))) a2 else some (Sum.inr (Sum.inr ()))
theorem q84:∀(a b:List Int) (i:Int),XL2 evo 25 0 2 ⟨[(0,rL 1 eI a),(1,rL 1 eI b),(5,rI i)],[],0,28⟩=(zl (JI a b) i).bind (Sum.elim (fun(e:Unit)=>some (Exit.ret,⟨[(4,rB Bool.true)],[],0,28⟩)) (fun(e:Unit)=>some (Exit.exit 0,⟨[(4,R.any)],[],0,28⟩))):=
 fun a b i=>by
  revert i;exact qa6 qzC qAs (fun e=>by rcases e with _|_<;>exact⟨_,rfl,fun h=>by cases h⟩) fun x=>by
   have:=qHP;have:=@qpe.eq_1;have:=@q89;have:=@JI.eq_1;exact gA
def q06 (a:List Int) (b:List Int):Option Bool:=Option.bind (zl (JI a b) 0) fun(a2:Sum Unit Unit)=>Sum.elim (fun(a3:Unit)=>some Bool.true) (fun(a4:Unit)=>some Bool.false) a2
theorem qaT:∀(a b:List Int),ev 25 0 [rL 1 eI a,rL 1 eI b] []=(q06 a b).bind (fun(e:Bool)=>some (rB e,[])):=
 fun a b=>by
  rw[qR qBE qJl.2.2.2 qHO]
  have:=qHP;have:=@q84;have:=@q06.eq_1;exact gA
theorem lo6:okL 6 ql0:=qS (ql bd6) (by kernel_rfl) (by kernel_rfl)
def cx6:=JA_ @ql0.eq_1 (JA_ @Tryz.f6.eq_1 @bd6)
theorem qIQ:lbO 6 8=qw0:=Qr (ql bd6) rfl
theorem qIz:okL 6 qw0:=zJ lo6 (qP9 (i:=0) (by kernel_rfl))
theorem qB5:lbO 6 20=qn3:=Qr (ql bd6) rfl
theorem qDn:okL 6 qn3:=zJ lo6 (qP9 (i:=1) (by kernel_rfl))
theorem qzk:lbO 6 27=qnk:=Qr (ql bd6) rfl
theorem qz0:okL 6 qnk:=zJ lo6 (qP9 (i:=2) (by kernel_rfl))
def Q1 (b0:qf) (b1:qP) (b2:qa) (b3:qa) (t3:Bool) (t5:List qa) (t6:Int) (t9:Int) (t10:Int) (t11:Int) (t14:Int):Int→Option (Int⊕(Unit⊕Unit))|t16=>if t16<((b0.Exclude.length:Nat):Int) then if 0≤t16∧t16<((b0.Exclude.length:Nat):Int) then Option.bind b0.Exclude[Int.toNat t16]? fun(a:@JS qc)=>if((a.a0.School==b2.Course.School)=Bool.true∧(ByteArray.toList a.a0.Code==ByteArray.toList b2.Course.Code)=Bool.true)∧(a.a1.School==b3.Course.School)=Bool.true∧(ByteArray.toList a.a1.Code==ByteArray.toList b3.Course.Code)=Bool.true then some (Sum.inr (Sum.inl ())) else if 0≤t16∧t16<((b0.Exclude.length:Nat):Int) then Option.bind b0.Exclude[Int.toNat t16]? fun(a2:@JS qc)=>if((a2.a0.School==b3.Course.School)=Bool.true∧(ByteArray.toList a2.a0.Code==ByteArray.toList b3.Course.Code)=Bool.true)∧(a2.a1.School==b2.Course.School)=Bool.true∧(ByteArray.toList a2.a1.Code==ByteArray.toList b2.Course.Code)=Bool.true then some (Sum.inr (Sum.inl ())) else some (Sum.inl (w64 (t16+1))) else none else none else some (Sum.inr (Sum.inr ()))
theorem q53:∀(qp zn qn qz:Int) (qA:ByteArray) (qi qq qk:Int) (qm:List qc) (qr:List qb) (qt qF qG:Int) (qo:List (JS qc)) (q0C q2l:List Int) (Zp:Int) (J8:ByteArray) (q1G q43 qaj:Int) (q1H:List Int) (q2J:Int) (q6b:List Int) (q3I:Int) (q5b:ByteArray) (qbd qfX qqe:Int) (qbe:List Int) (qdH:Int) (qjh:List Int) (t3:Bool) (t5:List qa) (t6 t9 t10 t11 t14 t16:Int),XL2 evo 6 0 27 ⟨[(3,rB t3),(4,rP 0),(5,rL 8 qe t5),(6,rI t6),(7,rP 1),(9,rI t9),(10,rI t10),(11,rI t11),(13,rP 2),(14,rI t14),(15,rP 3),(16,rI t16)],[(0,B.blk 39 [dI qp,dI zn,dI qn,dI qz,dS qA,dI qi,dI qq,dI qk,dL 2 qd qm,dL 5 qh qr,dI qt,dI qF,dI qG,dL 4 (eA2 qd) qo]),(1,B.blk 48 [dL 1 eI q0C,dL 1 eI q2l]),(2,B.blk 57 [dI Zp,dS J8,dI q1G,dI q43,dI qaj,dL 1 eI q1H,dI q2J,dL 1 eI q6b]),(3,B.blk 57 [dI q3I,dS q5b,dI qbd,dI qfX,dI qqe,dL 1 eI qbe,dI qdH,dL 1 eI qjh])],4,178⟩=(zl (Q1 (qf.mk qp zn qn qz qA (qb.mk qi qq qk qm qr) qt qF qG qo) (qP.mk q0C q2l) (qa.mk (qc.mk Zp J8) q1G q43 qaj q1H q2J q6b) (qa.mk (qc.mk q3I q5b) qbd qfX qqe qbe qdH qjh) t3 t5 t6 t9 t10 t11 t14) t16).bind (Sum.elim (fun(e:Unit)=>some (Exit.ret,⟨[(2,rB Bool.false),(3,rB t3),(4,rP 0),(5,rL 8 qe t5),(6,rI t6),(7,rP 1),(9,rI t9),(10,rI t10),(11,rI t11),(13,rP 2),(14,rI t14)],[(0,B.blk 39 [dI qp,dI zn,dI qn,dI qz,dS qA,dI qi,dI qq,dI qk,dL 2 qd qm,dL 5 qh qr,dI qt,dI qF,dI qG,dL 4 (eA2 qd) qo]),(1,B.blk 48 [dL 1 eI q0C,dL 1 eI q2l]),(2,B.blk 57 [dI Zp,dS J8,dI q1G,dI q43,dI qaj,dL 1 eI q1H,dI q2J,dL 1 eI q6b])],3,178⟩)) (fun(e:Unit)=>some (Exit.exit 4,⟨[(2,R.any),(3,rB t3),(4,rP 0),(5,rL 8 qe t5),(6,rI t6),(7,rP 1),(9,rI t9),(10,rI t10),(11,rI t11),(13,rP 2),(14,rI t14)],[(0,B.blk 39 [dI qp,dI zn,dI qn,dI qz,dS qA,dI qi,dI qq,dI qk,dL 2 qd qm,dL 5 qh qr,dI qt,dI qF,dI qG,dL 4 (eA2 qd) qo]),(1,B.blk 48 [dL 1 eI q0C,dL 1 eI q2l]),(2,B.blk 57 [dI Zp,dS J8,dI q1G,dI q43,dI qaj,dL 1 eI q1H,dI q2J,dL 1 eI q6b])],3,178⟩))):=
 fun qp zn qn qz qA qi qq qk qm qr qt qF qG qo q0C q2l Zp J8 q1G q43 qaj q1H q2J q6b q3I q5b qbd qfX qqe qbe qdH qjh t3 t5 t6 t9 t10 t11 t14 t16=>by
  revert t16;exact qa6 qzk qz0 (fun e=>by rcases e with _|_<;>exact⟨_,rfl,fun h=>by cases h⟩) fun x=>by
   have:=cx6;have:=@qnk.eq_1;have:=@Q1.eq_1;exact gA
def zx (b0:qf) (b1:qP) (b2:qa) (t3:Bool) (t5:List qa) (t6:Int) (t9:Int) (t10:Int) (t11:Int):Int→Option (Int⊕(Unit⊕Unit))|t14=>if t14<t11 then if 0≤t14∧t14<((b1.Taken.length:Nat):Int) then Option.bind b1.Taken[Int.toNat t14]? fun(a:Int)=>if 0≤a∧a<((t5.length:Nat):Int) then Option.bind t5[Int.toNat a]? fun(a2:qa)=>if(b2.Course.School==a2.Course.School)=Bool.true∧(ByteArray.toList b2.Course.Code==ByteArray.toList a2.Course.Code)=Bool.true then if(b2.Course.School==a2.Course.School)=Bool.true∧(ByteArray.toList b2.Course.Code==ByteArray.toList a2.Course.Code)=Bool.true then some (Sum.inr (Sum.inl ())) else Option.bind (q06 b2.Sources a2.Sources) fun(a3:Bool)=>if a3=Bool.true then some (Sum.inr (Sum.inl ())) else Option.bind (zl (Q1 b0 b1 b2 a2 t3 t5 t6 t9 t10 t11 t14) 0) fun(a4:Sum Unit Unit)=>Sum.elim (fun(a5:Unit)=>some (Sum.inr (Sum.inl ()))) (fun(a6:Unit)=>some (Sum.inl (w64 (t14+1)))) a4 else if(b2.Bundle != a2.Bundle)=Bool.true then if(b2.Course.School==a2.Course.School)=Bool.true∧(ByteArray.toList b2.Course.Code==ByteArray.toList a2.Course.Code)=Bool.true then some (Sum.inr (Sum.inl ())) else Option.bind (q06 b2.Sources a2.Sources) fun(a7:Bool)=>if a7=Bool.true then some (Sum.inr (Sum.inl ())) else Option.bind (zl (Q1 b0 b1 b2 a2 t3 t5 t6 t9 t10 t11 t14) 0) fun(a8:Sum Unit Unit)=>Sum.elim (fun(a9:Unit)=>some (Sum.inr (Sum.inl ()))) (fun(a10:Unit)=>some (Sum.inl (w64 (t14+1)))) a8 else if(b2.Bundle==0)=Bool.true then if(b2.Course.School==a2.Course.School)=Bool.true∧(ByteArray.toList b2.Course.Code==ByteArray.toList a2.Course.Code)=Bool.true then some (Sum.inr (Sum.inl ())) else Option.bind (q06 b2.Sources a2.Sources) fun(a11:Bool)=>if a11=Bool.true then some (Sum.inr (Sum.inl ())) else Option.bind (zl (Q1 b0 b1 b2 a2 t3 t5 t6 t9 t10 t11 t14) 0) fun(a12:Sum Unit Unit)=>Sum.elim (fun(a13:Unit)=>some (Sum.inr (Sum.inl ()))) (fun(a14:Unit)=>some (Sum.inl (w64 (t14+1)))) a12 else Option.bind (zl (Q1 b0 b1 b2 a2 t3 t5 t6 t9 t10 t11 t14) 0) fun(a15:Sum Unit Unit)=>Sum.elim (fun(a16:Unit)=>some (Sum.inr (Sum.inl ()))) (fun(a17:Unit)=>some (Sum.inl (w64 (t14+1)))) a15 else none else none else some (Sum.inr (Sum.inr ()))
theorem q4T:∀(qp zn qn qz:Int) (qA:ByteArray) (qi qq qk:Int) (qm:List qc) (qr:List qb) (qt qF qG:Int) (qo:List (JS qc)) (q0C q2l:List Int) (Zp:Int) (J8:ByteArray) (q1G q43 qaj:Int) (q1H:List Int) (q2J:Int) (q6b:List Int) (t3:Bool) (t5:List qa) (t6 t9 t10 t11 t14:Int),XL2 evo 6 0 20 ⟨[(3,rB t3),(4,rP 0),(5,rL 8 qe t5),(6,rI t6),(7,rP 1),(9,rI t9),(10,rI t10),(11,rI t11),(13,rP 2),(14,rI t14)],[(0,B.blk 39 [dI qp,dI zn,dI qn,dI qz,dS qA,dI qi,dI qq,dI qk,dL 2 qd qm,dL 5 qh qr,dI qt,dI qF,dI qG,dL 4 (eA2 qd) qo]),(1,B.blk 48 [dL 1 eI q0C,dL 1 eI q2l]),(2,B.blk 57 [dI Zp,dS J8,dI q1G,dI q43,dI qaj,dL 1 eI q1H,dI q2J,dL 1 eI q6b])],3,178⟩=(zl (zx (qf.mk qp zn qn qz qA (qb.mk qi qq qk qm qr) qt qF qG qo) (qP.mk q0C q2l) (qa.mk (qc.mk Zp J8) q1G q43 qaj q1H q2J q6b) t3 t5 t6 t9 t10 t11) t14).bind (Sum.elim (fun(e:Unit)=>some (Exit.ret,⟨[(2,rB Bool.false),(3,rB t3),(4,rP 0),(5,rL 8 qe t5),(6,rI t6),(7,rP 1),(9,rI t9),(10,rI t10),(11,rI t11)],[(0,B.blk 39 [dI qp,dI zn,dI qn,dI qz,dS qA,dI qi,dI qq,dI qk,dL 2 qd qm,dL 5 qh qr,dI qt,dI qF,dI qG,dL 4 (eA2 qd) qo]),(1,B.blk 48 [dL 1 eI q0C,dL 1 eI q2l])],2,178⟩)) (fun(e:Unit)=>some (Exit.exit 2,⟨[(2,R.any),(3,rB t3),(4,rP 0),(5,rL 8 qe t5),(6,rI t6),(7,rP 1),(9,rI t9),(10,rI t10),(11,rI t11)],[(0,B.blk 39 [dI qp,dI zn,dI qn,dI qz,dS qA,dI qi,dI qq,dI qk,dL 2 qd qm,dL 5 qh qr,dI qt,dI qF,dI qG,dL 4 (eA2 qd) qo]),(1,B.blk 48 [dL 1 eI q0C,dL 1 eI q2l])],2,178⟩))):=
 fun qp zn qn qz qA qi qq qk qm qr qt qF qG qo q0C q2l Zp J8 q1G q43 qaj q1H q2J q6b t3 t5 t6 t9 t10 t11 t14=>by
  revert t14;exact qa6 qB5 qDn (fun e=>by rcases e with _|_<;>exact⟨_,rfl,fun h=>by cases h⟩) fun x=>by
   have:=cx6;have:=@qn3.eq_1;have:=@qaT;have:=@q53;have:=@zx.eq_1;exact gA
def QT (b0:qf) (b1:qP) (t3:Bool) (t5:List qa) (t6:Int):(Int×Int×Int)→Option ((Int×Int×Int)⊕((Int×Int)⊕(Int×Int)))|(t9,t10,t11)=>if t11<((b1.Taken.length:Nat):Int) then if 0≤t11∧t11<((b1.Taken.length:Nat):Int) then Option.bind b1.Taken[Int.toNat t11]? fun(a:Int)=>if a<0 then some (Sum.inr (Sum.inl (t9,t10))) else if((t5.length:Nat):Int)≤a then some (Sum.inr (Sum.inl (t9,t10))) else if 0≤a∧a<((t5.length:Nat):Int) then Option.bind t5[Int.toNat a]? fun(a2:qa)=>if(a2.Course.School==b0.School)=Bool.true then if(a2.Bundle==0)=Bool.true then if 0<b0.Age then if b0.Age<w64 (w64 (Int.tdiv t6 100)-w64 (Int.tdiv a2.Day 100)) then some (Sum.inr (Sum.inl (w64 (t9+a2.Credits),w64 (t10+a2.Credits)))) else Option.bind (zl (zx b0 b1 a2 t3 t5 t6 (w64 (t9+a2.Credits)) (w64 (t10+a2.Credits)) t11) 0) fun(a3:Sum Unit Unit)=>Sum.elim (fun(a4:Unit)=>some (Sum.inr (Sum.inl (w64 (t9+a2.Credits),w64 (t10+a2.Credits))))) (fun(a5:Unit)=>some (Sum.inl (w64 (t9+a2.Credits),w64 (t10+a2.Credits),w64 (t11+1)))) a3 else Option.bind (zl (zx b0 b1 a2 t3 t5 t6 (w64 (t9+a2.Credits)) (w64 (t10+a2.Credits)) t11) 0) fun(a6:Sum Unit Unit)=>Sum.elim (fun(a7:Unit)=>some (Sum.inr (Sum.inl (w64 (t9+a2.Credits),w64 (t10+a2.Credits))))) (fun(a8:Unit)=>some (Sum.inl (w64 (t9+a2.Credits),w64 (t10+a2.Credits),w64 (t11+1)))) a6 else if 0<b0.Age then if b0.Age<w64 (w64 (Int.tdiv t6 100)-w64 (Int.tdiv a2.Day 100)) then some (Sum.inr (Sum.inl (w64 (t9+a2.Credits),t10))) else Option.bind (zl (zx b0 b1 a2 t3 t5 t6 (w64 (t9+a2.Credits)) t10 t11) 0) fun(a9:Sum Unit Unit)=>Sum.elim (fun(a10:Unit)=>some (Sum.inr (Sum.inl (w64 (t9+a2.Credits),t10)))) (fun(a11:Unit)=>some (Sum.inl (w64 (t9+a2.Credits),t10,w64 (t11+1)))) a9 else Option.bind (zl (zx b0 b1 a2 t3 t5 t6 (w64 (t9+a2.Credits)) t10 t11) 0) fun(a12:Sum Unit Unit)=>Sum.elim (fun(a13:Unit)=>some (Sum.inr (Sum.inl (w64 (t9+a2.Credits),t10)))) (fun(a14:Unit)=>some (Sum.inl (w64 (t9+a2.Credits),t10,w64 (t11+1)))) a12 else if 0<b0.Age then if b0.Age<w64 (w64 (Int.tdiv t6 100)-w64 (Int.tdiv a2.Day 100)) then some (Sum.inr (Sum.inl (w64 (t9+a2.Credits),t10))) else Option.bind (zl (zx b0 b1 a2 t3 t5 t6 (w64 (t9+a2.Credits)) t10 t11) 0) fun(a15:Sum Unit Unit)=>Sum.elim (fun(a16:Unit)=>some (Sum.inr (Sum.inl (w64 (t9+a2.Credits),t10)))) (fun(a17:Unit)=>some (Sum.inl (w64 (t9+a2.Credits),t10,w64 (t11+1)))) a15 else Option.bind (zl (zx b0 b1 a2 t3 t5 t6 (w64 (t9+a2.Credits)) t10 t11) 0) fun(a18:Sum Unit Unit)=>Sum.elim (fun(a19:Unit)=>some (Sum.inr (Sum.inl (w64 (t9+a2.Credits),t10)))) (fun(a20:Unit)=>some (Sum.inl (w64 (t9+a2.Credits),t10,w64 (t11+1)))) a18 else none else none else some (Sum.inr (Sum.inr (t9,t10)))
theorem q5l:∀(qp zn qn qz:Int) (qA:ByteArray) (qi qq qk:Int) (qm:List qc) (qr:List qb) (qt qF qG:Int) (qo:List (JS qc)) (q0C q2l:List Int) (t3:Bool) (t5:List qa) (t6 t9 t10 t11:Int),XL2 evo 6 0 8 ⟨[(3,rB t3),(4,rP 0),(5,rL 8 qe t5),(6,rI t6),(7,rP 1),(9,rI t9),(10,rI t10),(11,rI t11)],[(0,B.blk 39 [dI qp,dI zn,dI qn,dI qz,dS qA,dI qi,dI qq,dI qk,dL 2 qd qm,dL 5 qh qr,dI qt,dI qF,dI qG,dL 4 (eA2 qd) qo]),(1,B.blk 48 [dL 1 eI q0C,dL 1 eI q2l])],2,178⟩=(zl (QT (qf.mk qp zn qn qz qA (qb.mk qi qq qk qm qr) qt qF qG qo) (qP.mk q0C q2l) t3 t5 t6) (t9,t10,t11)).bind (Sum.elim (fun(e:Int×Int)=>some (Exit.ret,⟨[(2,rB Bool.false),(3,rB t3),(4,rP 0),(9,rI e.1),(10,rI e.2)],[(0,B.blk 39 [dI qp,dI zn,dI qn,dI qz,dS qA,dI qi,dI qq,dI qk,dL 2 qd qm,dL 5 qh qr,dI qt,dI qF,dI qG,dL 4 (eA2 qd) qo])],1,178⟩)) (fun(e:Int×Int)=>some (Exit.exit 0,⟨[(2,R.any),(3,rB t3),(4,rP 0),(9,rI e.1),(10,rI e.2)],[(0,B.blk 39 [dI qp,dI zn,dI qn,dI qz,dS qA,dI qi,dI qq,dI qk,dL 2 qd qm,dL 5 qh qr,dI qt,dI qF,dI qG,dL 4 (eA2 qd) qo])],1,178⟩))):=
 fun qp zn qn qz qA qi qq qk qm qr qt qF qG qo q0C q2l t3 t5 t6 t9 t10 t11=>by
  revert t11;revert t10;revert t9;exact qFh qIQ qIz (fun e=>by rcases e with _|_<;>exact⟨_,rfl,fun h=>by cases h⟩) fun t9 t10 t11=>by
   have:=cx6;have:=@qw0.eq_1;have:=@q4T;have:=@QT.eq_1;exact gA
def q0Y (x0:JW):Option Bool:=Option.bind q1W fun(a:Bool)=>Option.bind (q0g x0) fun(a2:Prod qf (Prod (List qa) Int))=>Option.bind (Zh a2.1 (zq 1) a2.2.1 a2.2.2) fun(a3:Prod qP Int)=>if(a3.2 != 0)=Bool.true then some a else Option.bind (zl (QT a2.1 a3.1 a a2.2.1 a2.2.2) (0,(0,0))) fun(a4:Sum (Prod Int Int) (Prod Int Int))=>Sum.elim (fun(a5:Prod Int Int)=>some Bool.false) (fun(a6:Prod Int Int)=>if a=Bool.true then if a2.1.Total≤a6.1 then some (decide (a2.1.Own≤a6.2)) else some Bool.false else some Bool.false) a4
theorem q7e:∀(q7K qqf:List Int) (qqg:Int),ev 6 0 [R.agg [dL 1 eI q7K,dL 1 eI qqf,C.d (D.int .u16 qqg)]] []=(q0Y (JW.mk q7K qqf qqg)).bind (fun(e:Bool)=>some (rB e,[])):=
 fun q7K qqf qqg=>by
  rw[qR bd6 pw6.2.2.2 lo6]
  have:=cx6;have:=@qaq;have:=@q8e;have:=@q63;have:=@q4F;have:=@q5l;have:=@q0Y.eq_1;exact gA
end

noncomputable section
open Go.RowKit
theorem qgn (p:qf) (day:Int):∀(pre done:List qa) (a:qa) (r:List qa),tgL p day done (pre++a::r)=true→qlT p a day=false∧(done++pre).all (qbF p a)=true
 | [],done,a,r,h=>by
  rw[qPs,tgL,qPE,qPE,Bool.not_eq_true'] at h
  rw[qPt]
  exact h.1
 | x::pre,done,a,r,h=>by
  rw[qQe,tgL,qPE] at h
  have:=qgn p day pre (done++[x]) a r h.2
  rwa [qPO] at this
theorem qpJ (a b:List Int) (ha:a.length≤1000) (hb:b.length≤1000):q06 a b=some (qiK a b):=by
 have inner:∀(i:Nat) (x:Int),a[i]?=some x→zl (J1 a b (i:Int)) (0:Int)=some (if(b.any fun y=>x==y)=true then .inl () else .inr ()):=fun i x hx=>by
  have hi:=ZB hx
  rcases q9S (step:=J1 a b (i:Int)) b (fun y=>x==y) (fun _ => .inl ()) (.inr ()) (fun k y hy=>by
   have hk:=ZB hy
   unfold J1
   rw[if_pos (by omega),if_pos ⟨by omega,by omega⟩,qPb,hx,qP8,if_pos ⟨by omega,by omega⟩,qPb,hy,qP8,q2n hk (by omega)]
   split<;>rfl) (by
   unfold J1
   rw[if_neg (by omega)]) with ⟨h1,k,h2⟩|⟨h1,h2⟩
  ·rw[h2,h1,if_pos rfl]
  ·rw[h2,h1,if_neg (by decide)]
 have outer:=q9S (step:=JI a b) a (fun x=>b.any fun y=>x==y) (fun _ => .inl ()) (.inr ()) (fun i x hx=>by
  have hi:=ZB hx
  unfold JI
  rw[if_pos (by omega),inner i x hx,qP8,q2n hi (by omega)]
  split<;>rfl) (by
  unfold JI
  rw[if_neg (by omega)])
 unfold q06 qiK
 rcases outer with ⟨h1,i,h2⟩|⟨h1,h2⟩
 ·rw[h2,qP8,Sum.elim_inl,h1]
 ·rw[h2,qP8,Sum.elim_inr,h1]
theorem qci (a b:qc):ceq a b=ceq b a:=by
 unfold ceq
 rw[Bool.eq_iff_iff,qPE,qPE,beq_iff_eq,beq_iff_eq,beq_iff_eq,beq_iff_eq]
 exact⟨fun h=>⟨h.1.symm,h.2.symm⟩,fun h=>⟨h.1.symm,h.2.symm⟩⟩
theorem qwA (p:qf) (hp:p.Exclude.length≤1000) (u:qP) (a b:qa) (hpr:qbF p a b=true) (t3:Bool) (t5:List qa) (t6 t9 t10 t11 t14:Int):zl (Q1 p u a b t3 t5 t6 t9 t10 t11 t14) (0:Int)=some (.inr ()):=by
 unfold qbF at hpr
 rw[qPE,qPE,Bool.not_eq_true',Bool.not_eq_true',List.any_eq_false,List.any_eq_false] at hpr
 have h:=q9t (step:=Q1 p u a b t3 t5 t6 t9 t10 t11 t14) p.Exclude (fun _=>true) (.inl ()) (.inr ()) (fun i x hx=>by
  have hi:=ZB hx
  have hm:=qP9 hx
  have n1:=hpr.1.2 x hm
  have n2:=hpr.2 x hm
  unfold qqo at n1 n2
  rw[qci a.Course,qci b.Course] at n1
  rw[qci b.Course,qci a.Course] at n2
  unfold ceq at n1 n2
  simp only[qPE] at n1 n2
  unfold Q1
  rw[if_pos (by omega),if_pos ⟨by omega,by omega⟩,qPb,hx,qP8,if_neg n1,if_pos ⟨by omega,by omega⟩,qP8,if_neg n2,q2n hi (by omega),if_pos rfl]) (by
  unfold Q1
  rw[if_neg (by omega)])
 rw[h,if_pos (by simp)]
theorem qlY (p:qf) (hp:p.Exclude.length≤1000) (u:qP) {a b:qa} (ha:q6f a) (hb:q6f b) (hpr:qbF p a b=true) (t3:Bool) (l:List qa) (t6 t9 t10:Int) {i k n:Nat} (hk:k<i) (hi:i≤1000) (hT:u.Taken[k]?=some (n:Int)) (hl:l[n]?=some b) :
  zx p u a t3 l t6 t9 t10 (i:Int) (k:Int)=some (.inl ((k+1:Nat):Int)):=by
 have hkl:=ZB hT
 have hnl:=ZB hl
 have hx:=qwA p hp u a b hpr t3 l t6 t9 t10 (i:Int) (k:Int)
 have hcm:=qpJ a.Sources b.Sources ha.1 hb.1
 have hap:qey a b=true:=by
  unfold qbF at hpr
  rw[qPE,qPE] at hpr
  exact hpr.1.1
 unfold qey at hap
 rw[qPE,Bool.not_eq_true',qPD,qPE,qPE,qQ8,beq_iff_eq,Bool.not_eq_true'] at hap
 have nc:¬ ((a.Course.School==b.Course.School)=true∧(ByteArray.toList a.Course.Code==ByteArray.toList b.Course.Code)=true):=fun h=>by
  have:ceq a.Course b.Course=true:=by unfold ceq;rw[qPE];exact h
  rw[hap.1] at this;cases this
 unfold zx
 rw[if_pos (by omega),if_pos ⟨by omega,by omega⟩,qPb,hT,qP8,if_pos ⟨by omega,by omega⟩,qPb,hl,qP8,if_neg nc,q2n hk (by omega),hcm,qP8,hx,qP8,Sum.elim_inr]
 by_cases h1:a.Bundle=b.Bundle
 ·rw[if_neg (by simpa using h1)]
  by_cases h2:a.Bundle=0
  ·have hm:qiK a.Sources b.Sources=false:=by
    rcases hap.2 with h|h
    ·omega
    ·exact h
   rw[if_pos (by simpa using h2),if_neg nc,hm,if_neg (by decide)]
  ·rw[if_neg (by simpa using h2)]
 ·have hm:qiK a.Sources b.Sources=false:=by
   rcases hap.2 with h|h
   ·exact absurd h.1.2 h1
   ·exact h
  rw[if_pos (by simpa using h1),if_neg nc,hm,if_neg (by decide)]
theorem qrd {α:Type} (l:List α) (m:Nat→Bool):(qdI l.length m).map (fun y=>l[Int.toNat y]?)=(QJ m l).map some:=by
 unfold qdI
 rw[←q9F,qhH,q9F]
theorem qt2 {α:Type} (l:List α) (m q:Nat→Bool):(QJ q (qdI l.length m)).map (fun y=>l[Int.toNat y]?)=(QJ q (QJ m l)).map some:=by
 rw[←q9F,qrd,q9F]
theorem qke {l:List qa} {T:List Int} {L:List qa} (h:T.map (fun y=>l[Int.toNat y]?)=L.map some) (hr:∀y∈T,∃k:Nat,k<l.length∧y=(k:Int)) {i:Nat} {a:qa} (ha:L[i]?=some a):∃n:Nat,T[i]?=some (n:Int)∧n<l.length∧l[n]?=some a:=by
 have h1:=congrArg (fun z=>z[i]?) h
 simp only[qPm,ha,Option.map_some] at h1
 obtain⟨y,hy,h2⟩:=qPl.1 h1
 obtain⟨k,hk,rfl⟩:=hr y (qP9 hy)
 rw[qPb] at h2
 exact⟨k,hy,hk,h2⟩
theorem qp3 {c:JW} {p:qf} {l:List qa} {day:Int} (h:C14 c p l day) (u:qP) {L:List qa} (hL:L.length≤10) (hmem:∀a∈L,a∈l) (hmap:u.Taken.map (fun y=>l[Int.toNat y]?)=L.map some) (hr:∀y∈u.Taken,∃k:Nat,k<l.length∧y=(k:Int)) (ht:tgL p day [] L=true) (t3:Bool) :
  ∀(r:List qa) (i:Nat) (t9 t10:Int),L.take i++r=L→r.length+i=L.length→zl (QT p u t3 l day) (t9,t10,(i:Int))=some (.inr (r.foldl (fun n a=>w64 (n+a.Credits)) t9,r.foldl (qtg p) t10)):=by
 have hTl:u.Taken.length=L.length:=by have:=congrArg List.length hmap;rwa [qPR,qPR] at this
 have hl:=h.len
 have hG:=h.grd
 intro r
 induction r with
 | nil=>
  intro i t9 t10 _ hi
  have hi:i=L.length:=by simpa using hi
  refine zt ?_
  unfold QT
  dsimp only
  rw[if_neg (by omega)];rfl
 | cons a r ih=>
  intro i t9 t10 hL2 hi
  simp only[qPj] at hi
  have ha:L[i]?=some a:=by
   rw[←hL2,qPL (by rw[qPB];omega),qPB,Nat.min_eq_left (by omega),Nat.sub_self];rfl
  have hal:a∈l:=hmem a (qP9 ha)
  have hafit:=hG.fit a hal
  have hach:=h.ach a hal
  obtain⟨n,hn1,hn2,hn3⟩:=qke hmap hr ha
  have hsp:=qgn p day (L.take i) [] a r (by rw[hL2];exact ht)
  rw[qPs] at hsp
  have htk:L.take i++[a]=L.take (i+1):=by rw[List.take_add_one,ha];rfl
  have hold:=hsp.1
  rw[qvN ⟨h.d0,by have:=h.d1;omega⟩ ⟨hach.day.1,by have:=hach.day.2;omega⟩,Bool.and_eq_false_iff,decide_eq_false_iff_not,decide_eq_false_iff_not] at hold
  have inner:∀(q9 q10:Int),zl (zx p u a t3 l day q9 q10 (i:Int)) (0:Int)=some (.inr ()):=fun q9 q10=>by
   refine q27 (step:=zx p u a t3 l day q9 q10 (i:Int)) (fun k=>(k:Int)) 0 i (qPy _) (fun k _ hk=>?_) ?_
   ·obtain⟨b,hb⟩:∃b,L[k]?=some b:=⟨_,qPa (by omega)⟩
    obtain⟨nb,m1,m2,m3⟩:=qke hmap hr hb
    have hbm:b∈L.take i:=qP9 (i:=k) (by rw[qPH hk];exact hb)
    exact qlY p hG.exc u hafit (hG.fit b (hmem b (qP9 hb))) (qPp.1 hsp.2 b hbm) t3 l day q9 q10 hk (by omega) m1 m3
   ·unfold zx
    rw[if_neg (by omega)]
  have step:QT p u t3 l day (t9,t10,(i:Int))=some (.inl (w64 (t9+a.Credits),qtg p t10 a,((i+1:Nat):Int))):=by
   unfold QT qtg
   dsimp only
   rw[if_pos (by omega),if_pos ⟨by omega,by omega⟩,qPb,hn1,qP8,if_neg (by omega),if_neg (by omega),if_pos ⟨by omega,by omega⟩,qPb,hn3,qP8,inner,inner,qP8,qP8,Sum.elim_inr,Sum.elim_inr,q2n (show i<1000 by omega) (by omega)]
   have hage:∀{β:Type} (x y:β),(if 0<p.Age then if p.Age<w64 (w64 (Int.tdiv day 100)-w64 (Int.tdiv a.Day 100)) then x else y else y)=y:=fun x y=>by
    by_cases h0:0<p.Age
    ·rw[if_pos h0]
     rcases hold with h1|h1
     ·exact absurd h0 h1
     ·rw[if_neg h1]
    ·rw[if_neg h0]
   rw[hage,hage]
   by_cases h1:a.Course.School=p.School
   ·by_cases h2:a.Bundle=0
    ·rw[if_pos (by simpa using h1),if_pos (by simpa using h2),if_pos ⟨h1,h2⟩]
    ·rw[if_pos (by simpa using h1),if_neg (by simpa using h2),if_neg (fun h=>h2 h.2)]
   ·rw[if_neg (by simpa using h1),if_neg (fun h=>h1 h.1)]
  rw[zS step]
  exact ih (i+1) _ _ (by rw[←htk,qPO];exact hL2) (by omega)
theorem qcT (c:JW) (w:q74 c):q0Y c=some true:=by
 obtain⟨p,l,day,e1,h⟩:=qq6 w
 have hl:=h.len
 have hs:=q4H l (mO p day l)
 unfold q0Y
 rw[qhG,qP8,e1,qP8]
 dsimp only
 rw[qjV]
 rcases qd1 h.grd (by omega) scP h.ck day with ⟨g,-⟩|⟨-,g,-⟩|⟨-,X,v,g,hL⟩
 ·omega
 ·rw[g,qP8]
  rfl
 ·rw[g,qP8]
  dsimp only
  rw[if_neg (by decide)]
  have htog:=hL.tog
  unfold qgY at htog
  rw[qPE,qPE,qQ8,qQ8] at htog
  have hlen:=q4H (QJ (mO p day l) l) X.testBit
  have:=qp3 h ⟨QJ X.testBit (qdI l.length (mO p day l)),v⟩ (L:=QJ X.testBit (QJ (mO p day l) l)) (by omega) (fun a ha=>q7h _ _ _ (q7h _ _ _ ha)) (qt2 l _ _) (fun y hy=>qaJ (q7h _ _ _ hy)) htog.1.1 true (QJ X.testBit (QJ (mO p day l) l)) 0 0 0 rfl (by omega)
  change Option.bind (zl _ ((0:Int),(0:Int),((0:Nat):Int))) _=_
  rw[this,qP8,Sum.elim_inr,if_pos rfl]
  dsimp only
  rw[if_pos (show p.Total≤List.foldl _ 0 _ from htog.1.2),qQ9 htog.2]
end
end Go.Proofs.YtojflbfdcpkedaaGreat.Vc
namespace Go.Proofs.YtojflbfdcpkedaaGreat
open Go.Proofs.YtojflbfdcpkedaaGreat.Vc (qPg qPh qPk qPn qPt)
open Go.ChangeShapes Go.WideShapes Go.ChangeAt Go.RowKit Go.ChangeMaps
theorem own:ownKnob Tryz.prog.godebug=none:=by kernel_rfl
theorem qy9:laidOutB Tryz.prog=true:=by kernel_rfl
section
variable {H:Type} {enc:TypeId×Value→H} {P:Program} {W W':World}
theorem qg4 (hl:laidOutB P=true) (hb:Below W.heap.size W W'):∀{ts:List TypeId} {vs:List Value} {ds:List (DataW H)} {ps:List MemPlace},(∀t∈ts,P.readableRec t=true∧t<P.types.size)→
  DataW.TrodAll enc P W 0 (fun _=>true) true ts vs ds ps→(∀p∈ps,p.block<W.heap.size)→DataW.TrodAll enc P W' 0 (fun b=>decide (b<W.heap.size)) true ts vs ds ps
 | [],_,_,_,_,h,_=>by
  obtain⟨rfl,rfl,rfl⟩:=trodAll_nil h
  exact trodAll_mk0
 | t::ts,_,_,_,ht,h,hlt=>by
  obtain⟨v,vs,d,ds,p,q,rfl,rfl,rfl,h1,h2⟩:=trodAll_cons h
  exact trodAll_cons_mk (Below.trod hl (ht t qPn).1 (ht t qPn).2 h1 hb (fun x hx=>hlt x (qPk _ hx)))
   (qg4 hl hb (fun u hu=>ht u (qPg _ hu)) h2 (fun x hx=>hlt x (qPh _ hx)))
theorem qrV {f:Func} {s:ChangeSpec} {apart fresh handsOn:Bool} {args:Array Value} {ds gs:List (DataW H)} {before:List MemPlace} {tb:TypeId} (hl:laidOutB P=true)
  (hts:∀t∈f.params.toList,P.readableRec t=true∧t<P.types.size) (hr:f.resultTypes=#[tb]) (htb:P.underlying tb=some .bool) (hv:s.vars=[])
  (h1:(s.fn H (ds++gs)).results=[.lit (.bool true)]) (h2:(s.fn H (ds++gs)).args=ds) (h3:(s.fn H (ds++gs)).vars=[])
  (hW:DataW.Whole enc P f.params.toList s.vars apart W args.toList ds gs before) (hb:Below W.heap.size W W') :
  s.post enc P f apart fresh handsOn false W args (.bool true) W':=by
 have hlt:∀p∈before,p.block<W.heap.size:=fun p hp=>hW.lt p hp
 have hW2:=hW
 obtain⟨pa,pv,hA,hV,hp,-,-⟩:=hW2
 rw[hv] at hV
 obtain⟨rfl,rfl⟩:=trodVars_none hV
 rw[qPt] at hp
 subst hp
 refine⟨ds,[],before,[],before,[],hW,?_,?_,?_,?_,fun h=>by cases h⟩
 ·rw[h1,hr]
  exact trodAll_mk1 (shut_bool htb true)
 ·rw[h2]
  exact qg4 hl hb hts hA hlt
 ·rw[h3,hv]
  exact hV
 ·exact World.keptBut_mono (fun p hp=>⟨hp,.inr (.inl hp)⟩) (hb.frame (·∈before))
end
end Go.Proofs.YtojflbfdcpkedaaGreat
namespace Go.Proofs.YtojflbfdcpkedaaGreat.Vc
end Go.Proofs.YtojflbfdcpkedaaGreat.Vc
