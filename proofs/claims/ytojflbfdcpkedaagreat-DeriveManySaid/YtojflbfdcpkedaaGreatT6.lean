/- Part 6 of a proof. -/
import Derived.Test.YtojflbfdcpkedaaGreatT5
import Derived.KernelRfl
import Derived.Test.YtojflbfdcpkedaaGreatRows
import Derived.ChangeSlices
import Derived.OpenShut
import Derived.Carry
import Derived.ChangeSame
import Derived.ChangeMaps5
import Derived.WideShapes
import Derived.ProofKit
import Derived.Deep.DeepHandedRow
import Derived.Lib.LaidTab
import Derived.Stop.LaidErr
set_option linter.unusedVariables false
set_option linter.unusedSimpArgs false
set_option linter.defProp false
set_option linter.unusedSectionVars false
set_option linter.unnecessarySimpa false
namespace Go.Proofs.YtojflbfdcpkedaaGreat.Vc
noncomputable section
open Go.RowKit
abbrev nmL:List ByteArray:=[ByteArray.mk (List.toArray [77,117,115,105,99]),ByteArray.mk (List.toArray [76,97,119]),ByteArray.mk (List.toArray [79,108,100,32,109,97,112,115])]
abbrev agL:List Int:=[(0:Int),(0:Int),(0:Int),(2:Int),(5:Int)]
structure qjM (p:qc):Prop where
 sch:p.School=1
 id:1≤p.Id∧p.Id≤3
 ver:1≤p.Version∧p.Version≤3
 frm:0≤p.From∧p.From≤400
 nam:p.Name∈nmL
 tot:0≤p.Total∧p.Total≤19
 own:0≤p.Own∧p.Own≤10
 age:p.Age∈agL
 need:q73 3 6 p.Need
 ex:p.Exclude=[]∨∃a b,p.Exclude=[JK.mk a b]∧q56 a∧q56 b∧q5L a b=true
theorem qwD (l:List Int) (hl:l.length≤9223372036854775807):∃p,q0U l=some p∧qjM p:=by
 obtain⟨v1,d1,e1,a1,b1,h1⟩:=q4g (d:=⟨l,0⟩) ⟨by show(0:Int)≤0;omega,by show(0:Int)≤(l.length:Int);omega,hl⟩ (most:=3) (by omega) (by omega)
 obtain⟨v2,d2,e2,a2,b2,h2⟩:=q4g h1 (most:=3) (by omega) (by omega)
 obtain⟨v3,d3,e3,a3,b3,h3⟩:=q4g h2 (most:=5) (by omega) (by omega)
 obtain⟨v4,d4,e4,a4,b4,h4⟩:=q4g h3 (most:=3) (by omega) (by omega)
 obtain⟨v6,d6,e6,a6,b6,h6⟩:=q4g h4 (most:=20) (by omega) (by omega)
 obtain⟨v7,d7,e7,a7,b7,h7⟩:=q4g h6 (most:=3) (by omega) (by omega)
 obtain⟨v8,d8,e8,a8,b8,h8⟩:=q4g h7 (most:=6) (by omega) (by omega)
 obtain⟨v9,d9,e9,a9,b9,h9⟩:=q4g h8 (most:=5) (by omega) (by omega)
 obtain⟨v11,d11,e11,a11,b11,h11⟩:=q4g h9 (most:=3) (by omega) (by omega)
 obtain⟨c1,d12,e12,m12,h12⟩:=qgu h11
 obtain⟨c2,d13,e13,m13,h13⟩:=qgu h12
 obtain⟨n1,d14,e14,m14,h14⟩:=qlu 3 6 d13 (by omega) (by omega) h13
 obtain⟨n2,d15,e15,m15,h15⟩:=qlu 3 6 d11 (by omega) (by omega) h11
 obtain⟨nm,g5,q5⟩:=qw4 nmL v4 a4 (by show v4<((3:Nat):Int);omega)
 obtain⟨ag,g10,q10⟩:=qw4 agL v9 a9 (by show v9<((5:Nat):Int);omega)
 have w1:w64 (1+v1)=1+v1:=ZC (by omega) (by omega)
 have w2:w64 (1+v2)=1+v2:=ZC (by omega) (by omega)
 have w3:w64 (100*v3)=100*v3:=ZC (by omega) (by omega)
 have hm:0≤v7*v8∧v7*v8≤10:=by
  have hv7:v7=0∨v7=1∨v7=2:=by omega
  rcases hv7 with rfl|rfl|rfl<;>omega
 have w4:w64 (v7*v8)=v7*v8:=ZC (by omega) (by omega)
 have e14':ZB ((3:Int),((6:Int),d13))=some (n1,d14):=e14
 have e15':ZB ((3:Int),((6:Int),d11))=some (n2,d15):=e15
 have mk:∀(n:qb) (X:List (JK qd)),q73 3 6 n→(X=[]∨∃a b,X=[JK.mk a b]∧q56 a∧q56 b∧q5L a b=true)→qjM (qc.mk (1:Int) (1+v1) (1+v2) (100*v3) nm n v6 (v7*v8) ag X):=fun n X hn hX=>
  ⟨rfl,⟨by show 1≤1+v1;omega,by show 1+v1≤3;omega⟩,⟨by show 1≤1+v2;omega,by show 1+v2≤3;omega⟩,⟨by show 0≤100*v3;omega,by show 100*v3≤400;omega⟩,q5,⟨a6,by show v6≤19;omega⟩,hm,q10,hn,hX⟩
 unfold q0U
 rw[e1,qLd];dsimp only
 rw[e2,qLd];dsimp only
 rw[e3,qLd];dsimp only
 rw[e4,qLd];dsimp only
 rw[if_pos ⟨a4,b4⟩,g5,qLd,e6,qLd];dsimp only
 rw[e7,qLd];dsimp only
 rw[e8,qLd];dsimp only
 rw[e9,qLd];dsimp only
 rw[if_pos ⟨a9,b9⟩,g10,qLd,e11,qLd];dsimp only
 rw[w1,w2,w3,w4]
 by_cases h0:v11=0
 ·rw[if_pos (by simpa using h0),e12,qLd];dsimp only
  rw[e13,qLd];dsimp only
  by_cases hp:QJ c1 c2=true
  ·rw[if_pos hp,e14',qLd]
   exact⟨_,rfl,mk _ _ m14 (.inr ⟨c1,c2,rfl,m12,m13,hp⟩)⟩
  ·rw[if_neg hp,e14',qLd]
   exact⟨_,rfl,mk _ _ m14 (.inl rfl)⟩
 ·rw[if_neg (by simpa using h0),e15',qLd]
  exact⟨_,rfl,mk _ _ m15 (.inl rfl)⟩
theorem quv (l:List Int) (hl:l.length≤9223372036854775807):∃p,q2M l=some p∧qjM p:=by
 obtain⟨p,h1,h2⟩:=qwD l hl
 unfold q2M
 rw[h1,qLd]
 refine⟨_,rfl,⟨h2.sch,h2.id,h2.ver,h2.frm,h2.nam,?_,?_,h2.age,h2.need,h2.ex⟩⟩
 ·have:=h2.tot
  have e1:=Int.tmod_lt_of_pos p.Total (show(0:Int)<12 by omega)
  have e2:0≤Int.tmod p.Total 12:=Int.tmod_nonneg _ (by omega)
  show 0≤Int.tmod p.Total 12∧Int.tmod p.Total 12≤19
  omega
 ·have:=h2.own
  have e1:=Int.tmod_lt_of_pos p.Own (show(0:Int)<4 by omega)
  have e2:0≤Int.tmod p.Own 4:=Int.tmod_nonneg _ (by omega)
  show 0≤Int.tmod p.Own 4∧Int.tmod p.Own 4≤10
  omega
end
noncomputable section
open Go.RowKit
def qxo (a:Int):Bool := !decide (a<32) && !decide (126<a) && !(a==34)
theorem qpC (s:ByteArray) (hs:s.size≤1000):q0V s=some ((qfA s).all qxo&&inF ((s.size:Nat):Int) 1 40):=by
 have hl:(qfA s).length=s.size:=by unfold qfA;rw[qLW,Array.length_toList];rfl
 have h:=qaR (step:=JW s (qfA s) (((qfA s).length:Nat):Int)) (qfA s) qxo (.inl ()) (.inr ()) (fun i a ha=>by
  have hi:=JB ha
  unfold JW qxo
  rw[if_pos (by omega),if_pos ⟨by omega,by omega⟩,qLg,ha,qLd,q3E hi (by omega)]
  by_cases h1:a<32
  ·rw[if_pos h1,qMe h1];rfl
  ·rw[if_neg h1,decide_eq_false h1]
   by_cases h2:126<a
   ·rw[if_pos h2,qMe h2];rfl
   ·rw[if_neg h2,decide_eq_false h2]
    cases a==34<;>rfl) (by
  unfold JW
  rw[if_neg (by omega)])
 unfold q0V
 rw[if_pos (by omega),h,qLd]
 cases hq:(qfA s).all qxo
 ·rw[if_neg (by decide),Sum.elim_inl];rfl
 ·rw[if_pos rfl,Sum.elim_inr,q2L];rfl
def nmB (s:ByteArray):Bool:=decide (s.size≤1000)&&((qfA s).all qxo&&inF ((s.size:Nat):Int) 1 40)
theorem qxq:nmL.all nmB=true:=by kernel_rfl
theorem qiN {s:ByteArray} (h:s∈nmL):q0V s=some true:=by
 have:=qLu.1 qxq s h
 unfold nmB at this
 rw[qLJ,qMd] at this
 rw[qpC s this.1,this.2]
theorem qh2 {n a b:Int} (h1:a≤n) (h2:n≤b):zu n a b=true:=by
 rw[q2L]
 unfold inF
 rw[qMe h1,qMe h2];rfl
theorem qqY {p:qc} (hs:1≤p.School∧p.School≤8) (hi:1≤p.Id∧p.Id≤999999) (hv:1≤p.Version∧p.Version≤20) (hf:0≤p.From∧p.From≤100000) (ht:0≤p.Total∧p.Total≤600) (ho:0≤p.Own∧p.Own≤600) (ha:0≤p.Age∧p.Age≤100)
  (hn:q0V p.Name=some true) (hnd:Jj p.Need=some 0) (hx:p.Exclude=[]∨∃a b,p.Exclude=[JK.mk a b]∧q0M a=true∧q0M b=true∧quD a b<0):JY p=some 0:=by
 have hex:p.Exclude.length≤1:=by
  rcases hx with e|⟨a,b,e,-⟩<;>rw[e]
  ·exact qLD _
  ·exact qLt _
 have hend:QS p p.Exclude ((p.Exclude.length:Nat):Int) ((p.Exclude.length:Nat):Int)=some (.inr (.inr ())):=by
  unfold QS
  rw[if_neg (by omega)]
 have hloop:zG (QS p p.Exclude ((p.Exclude.length:Nat):Int)) (0:Int)=some (.inr ()):=by
  rcases hx with e|⟨a,b,e,ma,mb,hlt⟩
  ·rw[e] at hend ⊢
   exact zD hend
  ·have e1:QS p p.Exclude ((p.Exclude.length:Nat):Int) (0:Int)=some (.inl 1):=by
    unfold QS
    rw[e]
    show(if(0:Int)<1 then _ else _)=_
    rw[if_pos (by decide),if_pos ⟨by simp,by simp⟩]
    show Option.bind (some (JK.mk a b)) _=_
    rw[qLd]
    dsimp only
    rw[qds,qLd,qds,qLd,ma,mb,q9x,qLd]
    rw[if_neg (by decide),if_neg (by decide),if_neg (by omega),if_pos ⟨by simp,by simp⟩,q65 _ (by simp),qLd]
    rfl
   rw[Q4 e1]
   have:((p.Exclude.length:Nat):Int)=1:=by rw[e];rfl
   rw[this] at hend ⊢
   exact zD hend
 unfold JY
 rw[qh2 (n:=p.School) (a:=1) (b:=8) hs.1 hs.2,qh2 (n:=p.Id) (a:=1) (b:=999999) hi.1 hi.2,qh2 (n:=p.Version) (a:=1) (b:=20) hv.1 hv.2,qh2 (n:=p.From) (a:=0) (b:=100000) hf.1 hf.2,qh2 (n:=p.Total) (a:=0) (b:=600) ht.1 ht.2,qh2 (n:=p.Own) (a:=0) (b:=600) ho.1 ho.2,qh2 (n:=p.Age) (a:=0) (b:=100) ha.1 ha.2,hn]
 simp only[Bool.not_true,Bool.false_eq_true,if_false,qLd]
 rw[hnd,qLd,if_neg (by decide),if_neg (by omega),hloop]
 rfl
theorem qgY {p:qc} (h:qjM p):JY p=some 0:=by
 have hs:=h.sch;have hi:=h.id;have hv:=h.ver;have hf:=h.frm;have ht:=h.tot;have ho:=h.own
 have ha:0≤p.Age∧p.Age≤5:=by
  have:p.Age=0∨p.Age=2∨p.Age=5:=by have:=h.age;simpa using this
  omega
 refine qqY ⟨by omega,by omega⟩ ⟨by omega,by omega⟩ ⟨by omega,by omega⟩ ⟨by omega,by omega⟩ ⟨by omega,by omega⟩ ⟨by omega,by omega⟩ ⟨by omega,by omega⟩ (qiN h.nam) (qcW h.need) ?_
 rcases h.ex with e|⟨a,b,e,ma,mb,hp⟩
 ·exact .inl e
 ·refine .inr ⟨a,b,e,q9D ma,q9D mb,?_⟩
  have:=qiS a b
  rw[hp] at this
  simpa using this.symm
theorem qjA {p:qc} (h:qjM p) {s:qg} (hs:qbU s=true):QD p s=some 0:=by
 unfold QD
 rw[qgY h,qLd,if_neg (by decide),q4W,hs];rfl
end
noncomputable section
open Go.RowKit
set_option maxRecDepth 100000
def qlS (W:Nat):Nat→List (List Int)
 | 0=>[[]]
 | m+1=>(qlS W m).flatMap fun t=>(List.range (W+1)).map fun(i:Nat)=>((i:Int)-1)::t
theorem qf4 (W:Nat):∀(lf:List Int),(∀y∈lf,-1≤y∧y<(W:Int))→lf∈qlS W lf.length
 | [],_=>qM4.2 rfl
 | y::lf,h=>by
  rw[qLo,qlS,List.mem_flatMap]
  have hy:=h y qLs
  refine⟨lf,qf4 W lf fun z hz=>h z (qLl _ hz),qLY.2 ⟨(y+1).toNat,qMa.2 (show(y+1).toNat<W+1 by omega),?_⟩⟩
  rw[show(((y+1).toNat:Nat):Int)-1=y by omega]
def qBF (p:qc) (s:qg) (all:List qa) (day:Int) (X:Nat) (lf:List Int):Bool:=
 qfB p (QW X.testBit all) day&&decide (lf.length=rkF X.testBit all.length)&&(lf.all fun y=>decide (-1≤y)&&decide (y<(lvN p.Need:Int)))&&qje p.Need s (QW X.testBit all) lf
theorem qlV {p:qc} {s:qg} {all:List qa} {day:Int} {X:Nat} {lf:List Int}:qBF p s all day X lf=true↔qfB p (QW X.testBit all) day=true∧Perm p.Need s all X lf:=by
 unfold qBF
 rw[qLJ,qLJ,qLJ,qMd,qLu]
 constructor
 ·rintro⟨⟨⟨h1,h2⟩,h3⟩,h4⟩
  refine⟨h1,h2,fun j y hy=>?_,h4⟩
  have:=h3 y (qLe hy)
  rw[qLJ,qMd,qMd] at this
  exact this
 ·rintro⟨h1,h2,h3,h4⟩
  refine⟨⟨⟨h1,h2⟩,fun y hy=>?_⟩,h4⟩
  obtain⟨j,hj⟩:=List.getElem?_of_mem hy
  have:=h3 j y hj
  rw[qMe this.1,qMe this.2];rfl
def qlr (p:qc) (s:qg) (all:List qa) (day:Int) (q:Nat→List Int→Bool):Bool:=
 (List.range (2 ^ all.length)).all fun Y=>(qlS (lvN p.Need) (rkF Y.testBit all.length)).all fun lf => !qBF p s all day Y lf||q Y lf
theorem qiE {p:qc} {s:qg} {all:List qa} {day:Int} {q:Nat→List Int→Bool} (h:qlr p s all day q=true) {Y:Nat} {lf:List Int} (hY:Y<2 ^ all.length) (ht:qfB p (QW Y.testBit all) day=true) (hp:Perm p.Need s all Y lf):q Y lf=true:=by
 have h1:=qLu.1 h Y (qMa.2 hY)
 have hm:lf∈qlS (lvN p.Need) (rkF Y.testBit all.length):=by
  rw[←hp.len]
  refine qf4 _ _ fun y hy=>?_
  obtain⟨j,hj⟩:=List.getElem?_of_mem hy
  exact hp.rng j y hj
 have h2:=qLu.1 h1 lf hm
 rw[qlV.2 ⟨ht,hp⟩] at h2
 simpa using h2
def qGe (N X:Nat) (w:List Int) (Y:Nat) (lf:List Int):Bool:=slL (q3v N X) (q3v N Y)||(X==Y&&(w==lf||q5p w lf))
def quT (p:qc) (s:qg) (l:List qa) (day:Int) (X:Nat) (w:List Int):Bool:=
 decide ((QW (mO p day l) l).length≤10)&&decide (X<2 ^ (QW (mO p day l) l).length)&&qBF p s (QW (mO p day l) l) day X w&&qlr p s (QW (mO p day l) l) day (qGe (QW (mO p day l) l).length X w)
theorem quy {p:qc} {l:List qa} (h:Grd p l) (hl:l.length≤1000) (s:qg) (hck:QD p s=some 0) (day:Int) {X:Nat} {w:List Int} (hg:quT p s l day X w=true):Qs p s l day=some (⟨QW X.testBit (qem l.length (mO p day l)),w⟩,0):=by
 unfold quT at hg
 rw[qLJ,qLJ,qLJ,qMd,qMd] at hg
 obtain⟨⟨⟨h1,h2⟩,h3⟩,h4⟩:=hg
 obtain⟨ht,hp⟩:=qlV.1 h3
 rcases qbm h hl s hck day with ⟨g1,-⟩|⟨-,-,g2⟩|⟨-,Y,v,g1,g2⟩
 ·omega
 ·exact absurd hp (g2 X w h2 ht)
 ·have a1:=qiE h4 g2.lt g2.tog g2.perm
  unfold qGe at a1
  rw[qLI,qLJ,qLI,beq_iff_eq,beq_iff_eq] at a1
  have a2:=g2.min X w h2 ht hp
  have hsl:∀A B,slL A B=true→slL B A=true→False:=fun A B u v=>by
   have:=qbz u v
   rw[qdH] at this;cases this
  have hxl:∀A B,q5p A B=true→q5p B A=true→False:=fun A B u v=>by
   have:=q4s u v
   rw[qdx] at this;cases this
  have key:Y=X∧v=w:=by
   rcases a1 with a1|⟨e,a1⟩
   ·rcases a2 with a2|⟨e,a2⟩
    ·exact(hsl _ _ a1 a2).elim
    ·subst e;rw[qdH] at a1;cases a1
   ·subst e
    rcases a2 with a2|⟨-,a2⟩
    ·rw[qdH] at a2;cases a2
    ·rcases a1 with e|a1
     ·exact⟨rfl,e.symm⟩
     ·rcases a2 with e|a2
      ·exact⟨rfl,e⟩
      ·exact(hxl _ _ a1 a2).elim
  obtain⟨rfl,rfl⟩:=key
  exact g1
def qCb (p:qc) (s:qg) (l:List qa) (day:Int):Bool:=decide ((QW (mO p day l) l).length≤10)&&qlr p s (QW (mO p day l) l) day fun _ _=>false
theorem qwm {p:qc} {l:List qa} (h:Grd p l) (hl:l.length≤1000) (s:qg) (hck:QD p s=some 0) (day:Int) (hg:qCb p s l day=true):Qs p s l day=some (⟨[],[]⟩,31):=by
 unfold qCb at hg
 rw[qLJ,qMd] at hg
 rcases qbm h hl s hck day with ⟨g1,-⟩|⟨-,g1,-⟩|⟨-,Y,v,-,g2⟩
 ·omega
 ·exact g1
 ·have:=qiE hg.2 g2.lt g2.tog g2.perm
  cases this
theorem qm0 (u:qP) (h1:u.Taken.length≤1000) (h2:u.Leaf.length≤1000):q2H u u=some true:=by
 have e1:=qaR (step:=JZ u u) u.Taken (fun _=>true) (.inl ()) (.inr ()) (fun i a ha=>by
  have hi:=JB ha
  unfold JZ
  rw[if_pos (by omega),if_pos ⟨by omega,by omega⟩,qLg,ha,qLd,if_pos ⟨by omega,by omega⟩,qLd,if_neg (by simp),q3E hi (by omega)]
  rfl) (by
  unfold JZ
  rw[if_neg (by omega)])
 have e2:=qaR (step:=q00 u u) u.Leaf (fun _=>true) (.inl ()) (.inr ()) (fun i a ha=>by
  have hi:=JB ha
  unfold q00
  rw[if_pos (by omega),if_pos ⟨by omega,by omega⟩,qLg,ha,qLd,if_pos ⟨by omega,by omega⟩,qLd,if_neg (by simp),q3E hi (by omega)]
  rfl) (by
  unfold q00
  rw[if_neg (by omega)])
 have ht:∀l:List Int,(l.all fun _=>true)=true:=fun l=>by simp
 rw[ht,if_pos rfl] at e1 e2
 unfold q2H
 rw[if_neg (by simp),if_neg (by simp),e1,qLd,Sum.elim_inr,e2,qLd,Sum.elim_inr]
end
noncomputable section
open Go.RowKit
set_option maxRecDepth 100000
abbrev cA1:qd:=qd.mk 1 (ByteArray.mk (List.toArray [65,49]))
abbrev cB1:qd:=qd.mk 1 (ByteArray.mk (List.toArray [66,49]))
abbrev mus:ByteArray:=ByteArray.mk (List.toArray [77,117,115,105,99])
abbrev nEx:qb:=qb.mk 1 0 60 [cA1,cB1] []
abbrev pEx (total age:Int) (x:List (JK qd)):qc:=qc.mk 1 1 1 0 mus nEx total 0 age x
abbrev lEx:List qa:=[qa.mk cA1 5 55 100 [1000001] 0 [],qa.mk cB1 5 60 100 [1000002] 0 [],qa.mk cA1 6 80 100 [1000003] 0 []]
abbrev scP:qg:=⟨0,100,50⟩
theorem qhS:zo 1=scP:=by unfold zo;rfl
theorem q4j (t:Int):Zp t=some (pEx t 0 [],lEx):=by
 unfold Zp
 rw[Q4 (y:=([qa.mk cA1 5 55 100 [1000001] 0 []],1)) (by rfl),Q4 (y:=([qa.mk cA1 5 55 100 [1000001] 0 [],qa.mk cB1 5 60 100 [1000002] 0 []],2)) (by rfl),Q4 (y:=(lEx,3)) (by rfl),zD (e:=lEx) (by rfl)]
 rfl
def qG6 (n:qb):Bool:=decide (hgN n≤100)&&decide ((ndN n).length≤9999)&&(ndN n).all (fun y=>decide (y.Set.length≤1000000))&&qcF n==0
theorem qx4 {n:qb} (h:qG6 n=true):Rgt n:=by
 unfold qG6 at h
 simp only[qLJ,qMd,qLu,beq_iff_eq] at h
 exact⟨⟨h.1.1.1,h.1.1.2,h.1.2⟩,h.2⟩
theorem q9s:Rgt nEx:=qx4 (by kernel_rfl)
theorem qxE:Jj nEx=some 0:=by
 rw[q8g nEx q9s.sz.hg q9s.sz.nd q9s.sz.st]
 exact congrArg some q9s.ck
theorem qrX:∀b∈lEx,q4t b:=fun b hb=>by
 simp only[qLz,List.mem_nil_iff,or_false] at hb
 rcases hb with rfl|rfl|rfl<;>exact⟨by decide,by decide⟩
theorem qlY (t a:Int) (x:List (JK qd)) (hx:x.length≤1000):Grd (pEx t a x) lEx:=⟨q9s,hx,qrX⟩
theorem qvW (t a:Int) (ht:0≤t∧t≤600) (ha:0≤a∧a≤100) (x:List (JK qd)) (hx:x=[]∨x=[JK.mk cA1 cB1]):QD (pEx t a x) scP=some 0:=by
 unfold QD
 rw[qqY (p:=pEx t a x) (show(1:Int)≤1∧(1:Int)≤8 by decide) (show(1:Int)≤1∧(1:Int)≤999999 by decide) (show(1:Int)≤1∧(1:Int)≤20 by decide) (show(0:Int)≤0∧(0:Int)≤100000 by decide) ht (show(0:Int)≤0∧(0:Int)≤600 by decide) ha (qiN (s:=mus) (by simp[nmL])) qxE (by
  rcases hx with e|e
  ·exact .inl e
  ·exact .inr ⟨cA1,cB1,e,by kernel_rfl,by kernel_rfl,of_decide_eq_true (by kernel_rfl)⟩),qLd,if_neg (by decide),q4W]
 rfl
theorem q8z (t a:Int) (ht:0≤t∧t≤600) (ha:0≤a∧a≤100) (x:List (JK qd)) (hx:x=[]∨x=[JK.mk cA1 cB1]) (X:Nat) (w tk:List Int) (hg:quT (pEx t a x) scP lEx 500 X w=true) (hk:QW X.testBit (qem lEx.length (mO (pEx t a x) 500 lEx))=tk) (h1:tk≠[]) (h2:tk.length≤10) (h3:w.length≤10):z6 (pEx t a x) lEx tk w=some true:=by
 unfold z6
 have hxl:x.length≤1000:=by rcases hx with e|e<;>rw[e]<;>decide
 rw[qhS,quy (qlY t a x hxl) (by decide) scP (qvW t a ht ha x hx) 500 hg,qLd,hk]
 have hl:tk.length≠0:=fun e=>h1 (qLw e)
 dsimp only
 rw[if_neg (by simpa using h1),if_pos (by decide),qm0 _ (by show tk.length≤1000;omega) (by show w.length≤1000;omega),qLd]
theorem qlc (t a:Int) (ht:0≤t∧t≤600) (ha:0≤a∧a≤100) (hg:qCb (pEx t a []) scP lEx 500=true):z6 (pEx t a []) lEx [] []=some true:=by
 unfold z6
 rw[qhS,qwm (qlY t a [] (by decide)) (by decide) scP (qvW t a ht ha [] (.inl rfl)) 500 hg,qLd]
 rfl
theorem qIX:z6 (pEx 11 0 []) lEx [1,2] [-1,0]=some true:=q8z 11 0 (by decide) (by decide) [] (.inl rfl) 6 [-1,0] [1,2] (by kernel_rfl) (by kernel_rfl) (by decide) (by decide) (by decide)
theorem qIt:z6 (pEx 10 0 []) lEx [0,1] [-1,0]=some true:=q8z 10 0 (by decide) (by decide) [] (.inl rfl) 3 [-1,0] [0,1] (by kernel_rfl) (by kernel_rfl) (by decide) (by decide) (by decide)
theorem qJu:z6 (pEx 5 0 []) lEx [1] [0]=some true:=q8z 5 0 (by decide) (by decide) [] (.inl rfl) 2 [0] [1] (by kernel_rfl) (by kernel_rfl) (by decide) (by decide) (by decide)
theorem qKu:z6 (pEx 0 0 []) lEx [1] [0]=some true:=q8z 0 0 (by decide) (by decide) [] (.inl rfl) 2 [0] [1] (by kernel_rfl) (by kernel_rfl) (by decide) (by decide) (by decide)
theorem qHO:z6 (pEx 12 0 []) lEx [] []=some true:=qlc 12 0 (by decide) (by decide) (by kernel_rfl)
theorem qJm:z6 (pEx 11 3 []) lEx [] []=some true:=qlc 11 3 (by decide) (by decide) (by kernel_rfl)
theorem qHG:z6 (pEx 6 0 [JK.mk cA1 cB1]) lEx [2] [0]=some true:=q8z 6 0 (by decide) (by decide) _ (.inr rfl) 4 [0] [2] (by kernel_rfl) (by kernel_rfl) (by decide) (by decide) (by decide)
theorem qlF (tk lf:List Int) (r:Int) (hv:∀(j:Nat) (y:Int),lf[j]?=some y → -1≤y∧y<(lvN nEx:Int)) (hr:(if qDu (pEx 11 0 []) lEx 500 (fun L=>qje nEx scP L lf) ⟨tk,lf⟩=true then 0 else 32)=r):qN (pEx 11 0 []) scP lEx 500 ⟨tk,lf⟩=some r:=by
 rw[qB9 (qlY 11 0 [] (by decide)) (by decide) scP (qvW 11 0 (by decide) (by decide) [] (.inl rfl)) 500 ⟨tk,lf⟩ (fun L=>qje nEx scP L lf) (fun L h1 h2=>qkZ q9s h2 scP lf h1.symm hv),hr]
theorem qnx (a b:Int) (ha : -1≤a∧a<1) (hb : -1≤b∧b<1):∀(j:Nat) (y:Int),[a,b][j]?=some y → -1≤y∧y<(lvN nEx:Int)
 | 0,y,h=>by injection h with h;subst h;exact ha
 | 1,y,h=>by injection h with h;subst h;exact hb
 | j+2,y,h=>by cases h
theorem qJM:qN (pEx 11 0 []) scP lEx 500 ⟨[1,2],[0,-1]⟩=some 0:=qlF _ _ _ (qnx 0 (-1) (by decide) (by decide)) (by kernel_rfl)
theorem qJB:qN (pEx 11 0 []) scP lEx 500 ⟨[1,2],[0,0]⟩=some 32:=qlF _ _ _ (qnx 0 0 (by decide) (by decide)) (by kernel_rfl)
theorem qD6:qN (pEx 11 0 []) scP lEx 500 ⟨[0,2],[-1,0]⟩=some 32:=qlF _ _ _ (qnx (-1) 0 (by decide) (by decide)) (by kernel_rfl)
theorem qIh:Zl (pEx 11 3 []) (qa.mk cA1 5 55 100 [1000001] 0 []) 500=some true:=by kernel_rfl
theorem qKc:Zl (pEx 11 0 []) (qa.mk cA1 5 55 100 [1000001] 0 []) 500=some false:=by kernel_rfl
theorem qCk:q17 ⟨[1],[0]⟩ ⟨[1],[0]⟩=some true:=by
 unfold q17 JE
 rw[qbx _ _ (by decide),qbx _ _ (by decide)]
 rfl
theorem qh4:q1k=some true:=by
 have h1:=qIX;have h2:=qIt;have h3:=qJu;have h4:=qKu;have h5:=qHO;have h6:=qJm;have h7:=qHG
 have h8:=qJM;have h9:=qJB;have h10:=qD6;have h11:=qIh;have h12:=qKc;have h13:=qCk
 unfold q1k
 rw[q4j,qLd,q4j,qLd,q4j,qLd,q4j,qLd,q4j,qLd]
 dsimp only
 rw[h1,qLd,if_pos rfl,h2,qLd,if_pos rfl,h3,qLd,if_pos rfl,h4,qLd,if_pos rfl,h5,qLd,if_pos rfl,h6,qLd,if_pos rfl,h7,qLd,qhS,h8,qLd,if_pos (by decide),h9,qLd,if_pos (by decide),h10,qLd,if_pos rfl,if_pos (by decide)]
 rw[if_pos (by decide)]
 show Option.bind (some _) _=_
 rw[qLd]
 rw[h11]
 simp only[qLd,if_true]
 rw[if_pos (by decide)]
 show Option.bind (some _) _=_
 rw[qLd,h12]
 simp only[qLd]
 rw[h13]
 rfl
end
noncomputable section
open Go.RowKit
end
noncomputable section
open Go.RowKit
set_option maxRecDepth 100000
theorem ql7 {X:Type} {E:X→List D} {W:X→Prop} {sz:Nat} (hz:0<sz):∀(m:Nat) (es:List D),es.length=m*sz→(∀i,i<m→∃x,(es.drop (i*sz)).take sz=E x∧W x)→∃l:List X,es=l.flatMap E∧l.length=m∧∀x∈l,W x
 | 0,es,hl,_=>⟨[],by rw[Nat.zero_mul] at hl;exact qLw hl,rfl,by simp⟩
 | m+1,es,hl,h=>by
  obtain⟨x,hx,wx⟩:=h 0 (by omega)
  obtain⟨l,g1,g2,g3⟩:=ql7 hz m (es.drop sz) (by rw[qM0,hl,Nat.add_mul];omega) fun i hi=>by
   obtain⟨y,hy,wy⟩:=h (i+1) (by omega)
   refine⟨y,?_,wy⟩
   rw[qM1,show sz+i*sz=(i+1)*sz by rw[Nat.add_mul,Nat.one_mul,Nat.add_comm]];exact hy
  refine⟨x::l,?_,by simp[g2],fun y hy=>?_⟩
  ·rw[Nat.zero_mul,List.drop_zero] at hx
   rw[qMj,←g1,←hx,qM2]
  ·rcases qLz.1 hy with rfl|hy
   ·exact wx
   ·exact g3 y hy
abbrev qD4:List TypeId:=[25,22,3,23,5,4,63,62,60,59]
theorem qkQ:qH8 Tryz.prog qD4=true:=by kernel_rfl
theorem ty3:∀(n:Nat) (ds:List D),q6W Tryz.prog n 3 ds→∃v:Int,ds=[D.int .i64 v]∧(Lit.int .i64 v).wf=true:=by
 intro n ds h
 cases n with
 | zero=>exact h.elim
 | succ n=>
  unfold q6W at h
  rw[Tryz.underlying3] at h
  obtain⟨z,h1,h2⟩:=h
  exact⟨z,h1,h2⟩
theorem cz3:Tryz.prog.cellsOf 3=1:=by kernel_rfl
theorem ty22:∀(n:Nat) (ds:List D),q6W Tryz.prog n 22 ds→∃v:List Int,ds=[D.sl 1 v.length (v.flatMap eI)]∧(v.length≤maxLen∧∀y∈v,(Lit.int .i64 y).wf=true):=by
 intro n ds h
 cases n with
 | zero=>exact h.elim
 | succ n=>
  unfold q6W at h
  rw[Tryz.underlying22] at h
  obtain⟨m,es,h1,h2,h3,h4⟩:=h
  rw[cz3] at h1 h3 h4
  obtain⟨l,g1,g2,g3⟩:=ql7 (E:=eI) (W:=fun y=>(Lit.int .i64 y).wf=true) (sz:=1) (by decide) m es h3 fun i hi=>by
   obtain⟨v,q1,q2⟩:=ty3 n _ (h4 i hi)
   exact⟨v,q1.trans (rfl),q2⟩
  refine⟨l,?_,by omega,g3⟩
  rw[h1,g1,g2]
theorem ty5:∀(n:Nat) (ds:List D),q6W Tryz.prog n 5 ds→∃v:Int,ds=[D.int .u8 v]∧(Lit.int .u8 v).wf=true:=by
 intro n ds h
 cases n with
 | zero=>exact h.elim
 | succ n=>
  unfold q6W at h
  rw[Tryz.underlying5] at h
  obtain⟨z,h1,h2⟩:=h
  exact⟨z,h1,h2⟩
theorem ty4:∀(n:Nat) (ds:List D),q6W Tryz.prog n 4 ds→∃v:Bool,ds=[D.bool v]∧True:=by
 intro n ds h
 cases n with
 | zero=>exact h.elim
 | succ n=>
  unfold q6W at h
  rw[Tryz.underlying4] at h
  obtain⟨b,h1⟩:=h
  exact⟨b,h1,trivial⟩
end
noncomputable section
open Go.RowKit
theorem qu8 {p:qc} {a:qa} {day:Int} (hd:0≤day∧day≤1000) (ha:0≤a.Day∧a.Day≤1000):qeM p a day=(decide (0<p.Age)&&decide (p.Age<w64 (w64 (Int.tdiv day 100)-w64 (Int.tdiv a.Day 100)))):=by
 have ht:∀d:Int,0≤d∧d≤1000→q0G d=some (w64 (Int.tdiv d 100)):=fun d hd=>by
  have e1:=Int.tmod_lt_of_pos d (show(0:Int)<100 by omega)
  have e2:0≤Int.tmod d 100:=Int.tmod_nonneg _ hd.1
  have e3:w64 (Int.tmod d 100+100)=Int.tmod d 100+100:=ZC (by omega) (by omega)
  have e4:Int.tmod (Int.tmod d 100+100) 100=Int.tmod d 100:=by
   rw[Int.tmod_eq_emod_of_nonneg (by omega),Int.tmod_eq_emod_of_nonneg hd.1];omega
  have e5:w64 (d-Int.tmod d 100)=d-Int.tmod d 100:=ZC (by omega) (by omega)
  have e6:Int.tdiv (d-Int.tmod d 100) 100=Int.tdiv d 100:=by
   rw[Int.tmod_eq_emod_of_nonneg hd.1,Int.tdiv_eq_ediv_of_nonneg (by omega),Int.tdiv_eq_ediv_of_nonneg hd.1];omega
  unfold q0G q06
  rw[if_neg (by omega),if_neg (by decide),if_neg (by decide),if_neg (by decide),e3,e4,e5,e6,qLd]
 unfold qeM Zl
 rw[ht day hd,ht a.Day ha]
 by_cases h:0<p.Age
 ·rw[if_pos h,qMe h,qLK];rfl
 ·rw[if_neg h,decide_eq_false h,qMh];rfl
end
noncomputable section
open Go.RowKit
set_option maxRecDepth 20000
set_option maxHeartbeats 8000000
theorem lo9:okL 9 qpW:=qV (qn bd9) (by kernel_rfl) (by kernel_rfl)
def cx9:=JA_ @qpW.eq_1 (JA_ @Tryz.f9.eq_1 @bd9)
theorem qEi:lbO 9 8=qrP:=QO (qn bd9) rfl
theorem qCE:okL 9 qrP:=Q6 lo9 (qLe (i:=0) (by kernel_rfl))
def zZ (b0:qc) (t2:Bool) (t7:Bool) (t9:Int):(List qa×Int×Int)→Option ((List qa×Int×Int)⊕(List qa×Int))|(w1,t11,t12)=>if t12<t9 then if ByteArray.size (ByteArray.mk (List.toArray [90]))+ByteArray.size (q8D [IntKind.wrap IntKind.u8 (w64 (65+t12))])≤9223372036854775807 then if t2=Bool.true then if(Int.tmod t12 2==0)=Bool.true then if w1.length+1≤maxLen∧(w1.length+1)*104≤140737488355328 then some (Sum.inl (w1++[qa.mk (qd.mk 1 (ByteArray.mk (List.toArray [90])++q8D [IntKind.wrap IntKind.u8 (w64 (65+t12))])) 5 60 100 [w64 (1000001+t12)] 0 []],t11,w64 (t12+1))) else none else if w1.length+1≤maxLen∧(w1.length+1)*104≤140737488355328 then some (Sum.inl (w1++[qa.mk (qd.mk 1 (ByteArray.mk (List.toArray [90])++q8D [IntKind.wrap IntKind.u8 (w64 (65+t12))])) 5 60 900 [w64 (1000001+t12)] 0 []],w64 (t11+1),w64 (t12+1))) else none else if w1.length+1≤maxLen∧(w1.length+1)*104≤140737488355328 then some (Sum.inl (w1++[qa.mk (qd.mk 1 (ByteArray.mk (List.toArray [90])++q8D [IntKind.wrap IntKind.u8 (w64 (65+t12))])) 5 60 900 [w64 (1000001+t12)] 0 []],w64 (t11+1),w64 (t12+1))) else none else none else some (Sum.inr (w1,t11))
theorem q4m:∀(w1:List qa) (qo za ql qv:Int) (qw:ByteArray) (qi qp qj:Int) (qk:List qd) (qr:List qb) (qt qD qE:Int) (qm:List (JK qd)) (t2 t7:Bool) (t9 t11 t12:Int) (JI:Nat),JI=w1.length→XL2 evo 9 0 8 ⟨[(2,rB t2),(7,rB t7),(8,rP 0),(9,rI t9),(10,rO 1 8 JI),(11,rI t11),(12,rI t12)],[(0,B.blk 39 [dI qo,dI za,dI ql,dI qv,dS qw,dI qi,dI qp,dI qj,dL 2 qe qk,dL 5 qh qr,dI qt,dI qD,dI qE,dL 4 (eA2 qe) qm]),(1,bR 57 8 qf w1)],2,75⟩=(zG (zZ (qc.mk qo za ql qv qw (qb.mk qi qp qj qk qr) qt qD qE qm) t2 t7 t9) (w1,t11,t12)).bind (fun(e:List qa×Int)=>some (Exit.exit 0,⟨[(7,rB t7),(8,rP 0),(10,rO 1 8 e.1.length),(11,rI e.2)],[(0,B.blk 39 [dI qo,dI za,dI ql,dI qv,dS qw,dI qi,dI qp,dI qj,dL 2 qe qk,dL 5 qh qr,dI qt,dI qD,dI qE,dL 4 (eA2 qe) qm]),(1,bR 57 8 qf e.1)],2,75⟩)):=
 by
 intro w1 qo za ql qv qw qi qp qj qk qr qt qD qE qm t2 t7 t9 t11 t12 JI h0
 subst h0
 revert t12;revert t11;revert w1;exact qBX qEi qCE (fun e=>by exact⟨_,rfl,fun h=>by cases h⟩) fun w1 t11 t12=>by
  have:=cx9;have:=@qrP.eq_1;have:=@q19;have:=@zZ.eq_1;exact gA
theorem q3y:∀  (qo za ql qv:Int) (qw:ByteArray) (qi qp qj:Int) (qk:List qd) (qr:List qb) (qt qD qE:Int) (qm:List (JK qd)) (t2 t7:Bool) (t9 t11 t12:Int),XL2 evo 9 0 8 ⟨[(2,rB t2),(7,rB t7),(8,rP 0),(9,rI t9),(10,rO 1 8 0),(11,rI t11),(12,rI t12)],[(0,B.blk 39 [dI qo,dI za,dI ql,dI qv,dS qw,dI qi,dI qp,dI qj,dL 2 qe qk,dL 5 qh qr,dI qt,dI qD,dI qE,dL 4 (eA2 qe) qm]),(1,B.row 57 8 [])],2,75⟩=(zG (zZ (qc.mk qo za ql qv qw (qb.mk qi qp qj qk qr) qt qD qE qm) t2 t7 t9) ([],t11,t12)).bind (fun(e:List qa×Int)=>some (Exit.exit 0,⟨[(7,rB t7),(8,rP 0),(10,rO 1 8 e.1.length),(11,rI e.2)],[(0,B.blk 39 [dI qo,dI za,dI ql,dI qv,dS qw,dI qi,dI qp,dI qj,dL 2 qe qk,dL 5 qh qr,dI qt,dI qD,dI qE,dL 4 (eA2 qe) qm]),(1,bR 57 8 qf e.1)],2,75⟩)):=by
 intro qo za ql qv qw qi qp qj qk qr qt qD qE qm t2 t7 t9 t11 t12;have h:=q4m [] ((qc.mk qo za ql qv qw (qb.mk qi qp qj qk qr) qt qD qE qm)).School ((qc.mk qo za ql qv qw (qb.mk qi qp qj qk qr) qt qD qE qm)).Id ((qc.mk qo za ql qv qw (qb.mk qi qp qj qk qr) qt qD qE qm)).Version ((qc.mk qo za ql qv qw (qb.mk qi qp qj qk qr) qt qD qE qm)).From ((qc.mk qo za ql qv qw (qb.mk qi qp qj qk qr) qt qD qE qm)).Name ((qc.mk qo za ql qv qw (qb.mk qi qp qj qk qr) qt qD qE qm)).Need.Kind ((qc.mk qo za ql qv qw (qb.mk qi qp qj qk qr) qt qD qE qm)).Need.N ((qc.mk qo za ql qv qw (qb.mk qi qp qj qk qr) qt qD qE qm)).Need.Min ((qc.mk qo za ql qv qw (qb.mk qi qp qj qk qr) qt qD qE qm)).Need.Set ((qc.mk qo za ql qv qw (qb.mk qi qp qj qk qr) qt qD qE qm)).Need.L ((qc.mk qo za ql qv qw (qb.mk qi qp qj qk qr) qt qD qE qm)).Total ((qc.mk qo za ql qv qw (qb.mk qi qp qj qk qr) qt qD qE qm)).Own ((qc.mk qo za ql qv qw (qb.mk qi qp qj qk qr) qt qD qE qm)).Age ((qc.mk qo za ql qv qw (qb.mk qi qp qj qk qr) qt qD qE qm)).Exclude t2 t7 t9 t11 t12 _ rfl
 first
  | exact h
  | (simp only[rL,dL,bR,bZ,Nat.reduceAdd] at h;exact h)
def q0x (x0:List Int) (x1:Int) (x2:Bool):Option Bool:=Option.bind q1k fun(a:Bool)=>Option.bind (q2M x0) fun(a2:qc)=>Option.bind (zG (zZ (qc.mk a2.School a2.Id a2.Version a2.From a2.Name a2.Need a2.Total a2.Own 2 a2.Exclude) x2 a (Int.tmod (w64 x1) 14)) ([],(0,0))) fun(a3:Prod (List qa) Int)=>Option.bind (Qs (qc.mk a2.School a2.Id a2.Version a2.From a2.Name a2.Need a2.Total a2.Own 2 a2.Exclude) (zo 1) a3.1 950) fun(a4:Prod qP Int)=>if a=Bool.true then if((a4.2==2)==decide (10<a3.2))=Bool.true then if(a4.2==2)=Bool.true then some Bool.true else some (a4.2==31) else some Bool.false else some Bool.false
theorem q6j:∀(x0:List Int) (x1:Int) (x2:Bool),ev 9 0 [rL 1 eI x0,R.c (C.d (D.int .u8 x1)),rB x2] []=(q0x x0 x1 x2).bind (fun(e:Bool)=>some (rB e,[])):=
 fun x0 x1 x2=>by
  rw[qQ bd9 pw9.2.2.2 lo9]
  have:=cx9;have:=@q9n;have:=@qaY;have:=@q3y;have:=@q5c;have:=@q3L;have:=@q0x.eq_1;exact gA
end

noncomputable section
open Go.RowKit
theorem qvC {p:qc} (h:qjM p) {b:qa} {x:UInt8} (hb:b.Course.Code.data.toList=[90,x]) (s:qg):∀y∈ndN p.Need,q8i y s b=false:=fun y hy=>by
 have hs:y.Set.any (ceq b.Course)=false:=by
  rw[List.any_eq_false]
  intro c hc
  rcases h.need.ok y hy with g|g
  ·have h1:=(g.st.ok c hc).2
   have:∀z∈zY,(b.Course.Code.toList==z.toList)=false:=by
    rw[ByteArray.toList_eq,hb]
    unfold zY
    intro z hz
    simp only[qLz,List.not_mem_nil,or_false] at hz
    rcases hz with rfl|rfl|rfl|rfl|rfl|rfl <;>
     (rw[ByteArray.toList_eq]; refine beq_false_of_ne fun e=>?_; injection e with e1 e2; exact absurd e1 (by decide))
   unfold ceq
   rw[this _ h1,qMf]
   decide
  ·rw[g.st] at hc;cases hc
 unfold q8i
 rw[hs,qMf,qMh]
theorem quu (p:qc) (day:Int) (l:List qa):rkF (mO p day l) l.length=(l.filter fun a => !qeM p a day).length:=by
 rw[←q7p l (mO p day l),←qiq (fun a => !qeM p a day) l]
 congr 2
 funext k
 unfold mO qGb
 cases l[k]? <;> rfl
theorem qjM.age2 {p:qc} (h:qjM p):qjM (qc.mk p.School p.Id p.Version p.From p.Name p.Need p.Total p.Own 2 p.Exclude):=⟨h.sch,h.id,h.ver,h.frm,h.nam,h.tot,h.own,by show(2:Int)∈agL;simp[agL],h.need,h.ex⟩
theorem qjM.grd {p:qc} (h:qjM p) {l:List qa} (hl:∀b∈l,q4t b):Grd p l:=by
 refine⟨⟨⟨by have:=h.need.hg;omega,by have h2:=h.need.l2;have h4:=h.need.nd;omega,qde h.need.ok⟩,?_⟩,?_,hl⟩
 ·have h1:=qcW h.need
  rw[q8g p.Need (by have:=h.need.hg;omega) (by have h2:=h.need.l2;have h4:=h.need.nd;omega) (qde h.need.ok)] at h1
  injection h1
 ·rcases h.ex with e|⟨a,b,e,-⟩<;>rw[e]
  ·exact qLD _
  ·show 1≤1000;omega
theorem qoD {p:qc} (h:qjM p) {l:List qa} (hl:l.length≤1000) (hz:∀b∈l,∃x:UInt8,b.Course.Code.data.toList=[90,x]) (hf:∀b∈l,q4t b) (day:Int) :
  ∃u,Qs p scP l day=some (u,if 10<(l.filter fun a => !qeM p a day).length then 2 else 31):=by
 rw[←quu]
 exact qoq (h.grd hf) hl scP (qjA h (by decide)) day fun y hy b hb=>by
  obtain⟨x,hx⟩:=hz b hb
  exact qvC h hx scP y hy
structure ZOk (l:List qa):Prop where
 z:∀b∈l,∃x:UInt8,b.Course.Code.data.toList=[90,x]
 f:∀b∈l,q4t b
theorem ZOk.app {l:List qa} (h:ZOk l) (c d i j k:Int) (y:Int):ZOk (l++[qa.mk (qd.mk c (ByteArray.mk (List.toArray [90])++q8D [y])) d i j [k] 0 []]):=by
 refine⟨fun b hb=>?_,fun b hb=>?_⟩
 ·rcases qLH.1 hb with hb|hb
  ·exact h.z b hb
  ·rw[qM4.1 hb]
   refine⟨UInt8.ofNat y.toNat,?_⟩
   show((ByteArray.mk (List.toArray [90]))++q8D [y]).data.toList=_
   rw[ByteArray.data_append,Array.toList_append]
   rfl
 ·rcases qLH.1 hb with hb|hb
  ·exact h.f b hb
  ·rw[qM4.1 hb]
   exact⟨by show 1≤_;decide,by show 0≤_;decide⟩
def nFr (p:qc) (l:List qa):Nat:=(l.filter fun a => !qeM p a 950).length
theorem qgg {p:qc} (hp:p.Age=2) (l:List qa) (a:qa):(a.Day=100→nFr p (l++[a])=nFr p l)∧(a.Day=900→nFr p (l++[a])=nFr p l+1):=by
 have ho:∀d:Int,a.Day=d→0≤d∧d≤1000→qeM p a 950=(decide (0<p.Age)&&decide (p.Age<w64 (w64 (Int.tdiv 950 100)-w64 (Int.tdiv d 100)))):=fun d hd h=>by
  rw[qu8 ⟨by omega,by omega⟩ (by rw[hd];exact h),hd]
 unfold nFr
 rw[List.filter_append]
 refine⟨fun h=>?_,fun h=>?_⟩
 ·rw[List.filter_cons,ho 100 h (by omega),hp,if_neg (by decide),List.filter_nil,qLy]
 ·rw[List.filter_cons,ho 900 h (by omega),hp,if_pos (by decide),List.filter_nil,qLk]
  rfl
def zA (k d:Int):qa:=qa.mk (qd.mk 1 (ByteArray.mk (List.toArray [90])++q8D [IntKind.wrap IntKind.u8 (w64 (65+k))])) 5 60 d [w64 (1000001+k)] 0 []
theorem qf1 {p:qc} (hp:p.Age=2) (half t7:Bool) (n:Nat) (hn:n≤13):∀(m k:Nat) (l:List qa),k+m=n→l.length=k→ZOk l→
  ∃L,zG (zZ p half t7 (n:Int)) (l,((nFr p l:Nat):Int),(k:Int))=some (L,((nFr p L:Nat):Int))∧L.length=n∧ZOk L
 | 0,k,l,h,hl,hz=>by
  have hs:zZ p half t7 (n:Int) (l,((nFr p l:Nat):Int),(k:Int))=some (.inr (l,((nFr p l:Nat):Int))):=by
   unfold zZ
   dsimp only
   rw[if_neg (by omega)]
  refine⟨l,?_,by omega,hz⟩
  rw[qdD,hs,qLd,Sum.elim_inr]
 | m+1,k,l,h,hl,hz=>by
  have hfl:nFr p l≤k:=by unfold nFr;have:=List.length_filter_le (fun a => !qeM p a 950) l;omega
  have hw:w64 ((k:Int)+1)=((k+1:Nat):Int):=by rw[ZC (by omega) (by omega)];rfl
  have hw2:w64 (((nFr p l:Nat):Int)+1)=((nFr p l+1:Nat):Int):=by rw[ZC (by omega) (by omega)];rfl
  have hmx:l.length+1≤maxLen∧(l.length+1)*104≤140737488355328:=⟨by unfold maxLen;omega,by omega⟩
  obtain⟨a,ha,hza,hday,hfr⟩:∃a,zZ p half t7 (n:Int) (l,((nFr p l:Nat):Int),(k:Int))=some (.inl (l++[a],((nFr p (l++[a]):Nat):Int),((k+1:Nat):Int)))∧ZOk (l++[a])∧True∧True:=by
   unfold zZ
   dsimp only
   have hsz:∀y:Int,ByteArray.size (ByteArray.mk (List.toArray [90]))+ByteArray.size (q8D [y])≤9223372036854775807:=fun y=>by show 1+1≤9223372036854775807;decide
   rw[if_pos (by omega),if_pos (hsz _),hw,hw2]
   cases half
   ·rw[if_neg (by decide),if_pos hmx]
    refine⟨zA k 900,?_,hz.app _ _ _ _ _ _,trivial,trivial⟩
    rw[(qgg hp l (zA k 900)).2 rfl]
    rfl
   ·rw[if_pos rfl]
    by_cases hc:(Int.tmod (k:Int) 2==0)=true
    ·rw[if_pos hc,if_pos hmx]
     refine⟨zA k 100,?_,hz.app _ _ _ _ _ _,trivial,trivial⟩
     rw[(qgg hp l (zA k 100)).1 rfl]
     rfl
    ·rw[if_neg hc,if_pos hmx]
     refine⟨zA k 900,?_,hz.app _ _ _ _ _ _,trivial,trivial⟩
     rw[(qgg hp l (zA k 900)).2 rfl]
     rfl
  obtain⟨L,e1,e2,e3⟩:=qf1 hp half t7 n hn m (k+1) (l++[a]) (by omega) (by rw[qLk,hl];rfl) hza
  refine⟨L,?_,e2,e3⟩
  rw[qdD,ha,qLd,Sum.elim_inl]
  exact e1
theorem qbf (x0:List Int) (w0:x0.length≤maxLen∧∀y∈x0,(Lit.int .i64 y).wf=true) (x1:Int) (w1:(Lit.int .u8 x1).wf=true) (x2:Bool) (w2:True):q0x x0 x1 x2=some true:=by
 obtain⟨p,e1,hp⟩:=quv x0 (by have:=w0.1;have hm:maxLen≤9223372036854775807:=(by unfold maxLen;decide);omega)
 have hx:0≤x1∧x1≤255:=by
  unfold Lit.wf at w1
  rw[qLJ,qMd,qMd] at w1
  exact w1
 have wx:w64 x1=x1:=ZC (by omega) (by omega)
 have t0:0≤Int.tmod x1 14:=Int.tmod_nonneg _ hx.1
 have t1:Int.tmod x1 14<14:=Int.tmod_lt_of_pos x1 (by omega)
 obtain⟨n,hn⟩:∃n:Nat,Int.tmod x1 14=(n:Int):=⟨(Int.tmod x1 14).toNat,by omega⟩
 obtain⟨q,hq⟩:∃q,q=qc.mk p.School p.Id p.Version p.From p.Name p.Need p.Total p.Own 2 p.Exclude:=⟨_,rfl⟩
 have hqa:q.Age=2:=by rw[hq]
 have hqo:qjM q:=by rw[hq];exact hp.age2
 obtain⟨L,e2,e3,e4⟩:=qf1 hqa x2 true n (by omega) n 0 [] (by omega) rfl ⟨fun b hb=>(List.not_mem_nil hb).elim,fun b hb=>(List.not_mem_nil hb).elim⟩
 obtain⟨u,e5⟩:=qoD hqo (by omega) e4.z e4.f 950
 unfold q0x
 rw[qh4,qLd,e1,qLd,wx,hn,←hq]
 have e2':zG (zZ q x2 true (n:Int)) ([],((0:Int),(0:Int)))=some (L,((nFr q L:Nat):Int)):=e2
 rw[e2',qLd]
 dsimp only
 have e5':Qs q scP L 950=some (u,if 10<nFr q L then 2 else 31):=e5
 rw[qhS,e5',qLd]
 dsimp only
 rw[if_pos rfl]
 by_cases hc:10<nFr q L
 ·rw[if_pos hc,qMe (by omega)]
  rfl
 ·rw[if_neg hc,decide_eq_false (by omega)]
  rfl
end
end Go.Proofs.YtojflbfdcpkedaaGreat.Vc
namespace Go.Proofs.YtojflbfdcpkedaaGreat
open Go.Proofs.YtojflbfdcpkedaaGreat.Vc (qLl qLm qLp qLs qLy)
open Go.ChangeShapes Go.WideShapes Go.ChangeAt Go.RowKit Go.ChangeMaps
theorem own:ownKnob Tryz.prog.godebug=none:=by kernel_rfl
theorem qvx:laidOutB Tryz.prog=true:=by kernel_rfl
section
variable {H:Type} {enc:TypeId×Value→H} {P:Program} {W W':World}
theorem qeT (hl:laidOutB P=true) (hb:Below W.heap.size W W'):∀{ts:List TypeId} {vs:List Value} {ds:List (DataW H)} {ps:List MemPlace},(∀t∈ts,P.readableRec t=true∧t<P.types.size)→
  DataW.TrodAll enc P W 0 (fun _=>true) true ts vs ds ps→(∀p∈ps,p.block<W.heap.size)→DataW.TrodAll enc P W' 0 (fun b=>decide (b<W.heap.size)) true ts vs ds ps
 | [],_,_,_,_,h,_=>by
  obtain⟨rfl,rfl,rfl⟩:=trodAll_nil h
  exact trodAll_mk0
 | t::ts,_,_,_,ht,h,hlt=>by
  obtain⟨v,vs,d,ds,p,q,rfl,rfl,rfl,h1,h2⟩:=trodAll_cons h
  exact trodAll_cons_mk (Below.trod hl (ht t qLs).1 (ht t qLs).2 h1 hb (fun x hx=>hlt x (qLp _ hx)))
   (qeT hl hb (fun u hu=>ht u (qLl _ hu)) h2 (fun x hx=>hlt x (qLm _ hx)))
theorem qqp {f:Func} {s:ChangeSpec} {apart fresh handsOn:Bool} {args:Array Value} {ds gs:List (DataW H)} {before:List MemPlace} {tb:TypeId} (hl:laidOutB P=true)
  (hts:∀t∈f.params.toList,P.readableRec t=true∧t<P.types.size) (hr:f.resultTypes=#[tb]) (htb:P.underlying tb=some .bool) (hv:s.vars=[])
  (h1:(s.fn H (ds++gs)).results=[.lit (.bool true)]) (h2:(s.fn H (ds++gs)).args=ds) (h3:(s.fn H (ds++gs)).vars=[])
  (hW:DataW.Whole enc P f.params.toList s.vars apart W args.toList ds gs before) (hb:Below W.heap.size W W') :
  s.post enc P f apart fresh handsOn false W args (.bool true) W':=by
 have hlt:∀p∈before,p.block<W.heap.size:=fun p hp=>hW.lt p hp
 have hW2:=hW
 obtain⟨pa,pv,hA,hV,hp,-,-⟩:=hW2
 rw[hv] at hV
 obtain⟨rfl,rfl⟩:=trodVars_none hV
 rw[qLy] at hp
 subst hp
 refine⟨ds,[],before,[],before,[],hW,?_,?_,?_,?_,fun h=>by cases h⟩
 ·rw[h1,hr]
  exact trodAll_mk1 (shut_bool htb true)
 ·rw[h2]
  exact qeT hl hb hts hA hlt
 ·rw[h3,hv]
  exact hV
 ·exact World.keptBut_mono (fun p hp=>⟨hp,.inr (.inl hp)⟩) (hb.frame (·∈before))
end
end Go.Proofs.YtojflbfdcpkedaaGreat
namespace Go.Proofs.YtojflbfdcpkedaaGreat.Vc
end Go.Proofs.YtojflbfdcpkedaaGreat.Vc
