/- Part 6 of a proof. -/
import Derived.Test.YtojflbfdcpkedaaGreatP5
import Derived.KernelRfl
import Derived.Test.YtojflbfdcpkedaaGreatRows
import Derived.ChangeSlices
import Derived.OpenShut
import Derived.Carry
import Derived.ChangeSame
import Derived.ChangeMaps5
import Derived.WideShapes
import Derived.ProofKit
import Derived.Deep.DeepHandedRow
import Derived.Lib.LaidTab
import Derived.Stop.LaidErr
set_option linter.unusedVariables false
set_option linter.unusedSimpArgs false
set_option linter.defProp false
set_option linter.unusedSectionVars false
set_option linter.unnecessarySimpa false
namespace Go.Proofs.YtojflbfdcpkedaaGreat.Vc
noncomputable section
open Go.RowKit
theorem qCa {l:List qa} (hl:l.length≤16):2 ^ l.length≤65536:=qPt (Nat.pow_le_pow_right (by decide) hl) (by decide)
theorem qDv {l:List qa} (hl:l.length≤16):w64 ((1:Int)*(2:Int) ^ min l.length (IntKind.bits IntKind.i64))=((2 ^ l.length:Nat):Int):=by
 have:=qCa hl
 have h1:1≤2 ^ l.length:=Nat.one_le_two_pow
 rw[show min l.length (IntKind.bits IntKind.i64)=l.length from Nat.min_eq_left (by show l.length≤64;omega),Int.one_mul,show((2:Int) ^ l.length)=((2 ^ l.length:Nat):Int) by simp]
 exact Z5 (by omega) (by omega)
def mO (p:qe) (day:Int) (l:List qa) (k:Nat):Bool:=match l[k]? with
 | some a => !qq7 p a day
 | none=>false
theorem qgG (p:qe) (s:qg) (day b4:Int) (l:List qa) (hl:l.length≤1000):∀(j i:Nat) (w:List Int),j+i=l.length→w=Qu (mO p day l) (Zk i fun i=>(i:Int))→
  zB (Ze p s day b4 l l ((l.length:Nat):Int)) (w,(i:Int))=some (q5E l.length (mO p day l))
 | 0,i,w,hi,hw=>by
  have hi:i=l.length:=by omega
  subst hi hw
  refine zA ?_
  unfold Ze
  dsimp only
  rw[if_neg (by omega)];rfl
 | j+1,i,w,hi,hw=>by
  have hML:100000≤maxLen:=by unfold maxLen;omega
  have hil:i<l.length:=by omega
  have ha:l[i]?=some l[i]:=qOU hil
  have hwl:w.length≤i:=by rw[hw];have:=q4H (Zk i fun i=>(i:Int)) (mO p day l);rw[zK] at this;exact this
  have step:Ze p s day b4 l l ((l.length:Nat):Int) (w,(i:Int))=some (.inl (w++(if mO p day l i=true then[(i:Int)] else[]),((i+1:Nat):Int))):=by
   have hm:mO p day l i = !qq7 p l[i] day:=by unfold mO;rw[ha]
   unfold Ze
   dsimp only
   rw[if_pos (by omega),if_pos ⟨by omega,by omega⟩,qOV,ha,qOS,qt9,qOS,q4n hil (by omega),hm]
   cases qq7 p l[i] day
   ·rw[if_pos (by decide),if_pos ⟨by omega,by omega⟩,if_pos (by decide)]
   ·rw[if_neg (by decide),if_neg (by decide),qPd]
  rw[Q1 step]
  refine qgG p s day b4 l hl j (i+1) _ (by omega) ?_
  rw[qdb,q7i,zK,hw]
theorem qmd (p:qe) (s:qg) (day b5:Int) (b6:List Int) (b7:List qa) (b8:List Bool) (b9:Int) {N:Nat} (hN:N≤1024):zB (Z0 p s day b5 b6 b7 b8 b9 ((N:Nat):Int)) ([],(0:Int))=some (Zk N fun i=>(i:Int)):=by
 have hML:100000≤maxLen:=by unfold maxLen;omega
 exact q2o (step:=Z0 p s day b5 b6 b7 b8 b9 ((N:Nat):Int)) (fun i=>(Zk i (fun i=>(i:Int)),(i:Int))) 0 N (qPi _) (fun i _ hi=>by
  unfold Z0
  dsimp only
  rw[if_pos (by omega),if_pos (by rw[zK];exact⟨by omega,by omega⟩),qdb,q4n hi (by omega)]) (by
  unfold Z0
  dsimp only
  rw[if_neg (by omega)])
structure Grd (p:qe) (l:List qa):Prop where
 rgt:Rgt p.Need
 exc:p.Exclude.length≤1000
 fit:∀b∈l,q8c b
theorem Grd.sel {p:qe} {l:List qa} (h:Grd p l) (m:Nat→Bool):Grd p (Qu m l):=⟨h.rgt,h.exc,fun b hb=>h.fit b (qcl _ _ _ hb)⟩
theorem qrE {p:qe} {all:List qa} (h:Grd p all) (hl:all.length≤10) (s:qg) (day b5:Int) {at0:List Int} (ha:at0.length=all.length) {X:Nat} (hX:X<2 ^ all.length) :
  ∃r,JI (X:Int) p s day b5 at0 all (Zk (2 ^ all.length) (QO [] s all p.Need 0))=some r∧
   ((r = .inl ()∧∀lf,qdt p (Qu X.testBit all) day=true→¬ Perm p.Need s all X lf)∨
     (∃w,r = .inr ⟨Qu X.testBit at0,w⟩∧qdt p (Qu X.testBit all) day=true∧Perm p.Need s all X w∧∀lf,Perm p.Need s all X lf→w=lf∨q4u w lf=true)):=by
 obtain⟨w,f,h1,h2,h3⟩:=qi2 h.rgt hl s hX
 have hs:=q4H all X.testBit
 unfold JI
 rw[q3Z (N:=all.length) (by omega) hX,qOS]
 have hp:zS all (q3C all.length X)=some (Qu X.testBit all):=qne (by omega) X.testBit
 have hi:ZZ at0 (q3C all.length X)=some (Qu X.testBit at0):=by rw[←ha];exact qvR (by omega) X.testBit
 rw[hp,qOS,qtx p h.exc _ (by omega) (h.sel _).fit,qOS]
 cases ht:qdt p (Qu X.testBit all) day
 ·exact⟨_,rfl,.inl ⟨rfl,fun lf h=>by cases h⟩⟩
 ·rw[if_neg (by decide),h1,qOS]
  dsimp only
  cases hf:f
  ·rw[if_neg (by decide)]
   exact⟨_,rfl,.inl ⟨rfl,fun lf _=>(h3.2 hf).2 lf⟩⟩
  ·rw[if_pos rfl,hi,qOS]
   exact⟨_,rfl,.inr ⟨w,rfl,rfl,(h3.1 hf).1,(h3.1 hf).2⟩⟩
structure qov (p:qe) (s:qg) (all:List qa) (day:Int) (X:Nat) (w:List Int):Prop where
 lt:X<2 ^ all.length
 tog:qdt p (Qu X.testBit all) day=true
 perm:Perm p.Need s all X w
 min:∀Y lf,Y<2 ^ all.length→qdt p (Qu Y.testBit all) day=true→Perm p.Need s all Y lf→slL (q3C all.length X) (q3C all.length Y)=true∨(X=Y∧(w=lf∨q4u w lf=true))
theorem qpG {p:qe} {all:List qa} (h:Grd p all) (hl:all.length≤10) (s:qg) (day b5 b9:Int) {at0:List Int} (ha:at0.length=all.length) :
  ∃r,zB (QI p s day b5 at0 all (Zk (2 ^ all.length) (QO [] s all p.Need 0)) b9 (msL all.length) (((msL all.length).length:Nat):Int)) (0:Int)=some r∧
   ((r = .inr ()∧∀Y lf,Y<2 ^ all.length→qdt p (Qu Y.testBit all) day=true→¬ Perm p.Need s all Y lf)∨(∃X w,r = .inl ⟨Qu X.testBit at0,w⟩∧qov p s all day X w)):=by
 obtain⟨-,hpw,hmem⟩:=qBa hl
 have h10:(2:Nat) ^ all.length≤1024:=qPt (Nat.pow_le_pow_right (by decide) hl) (by decide)
 have hlen:(msL all.length).length≤1024:=by unfold msL;rw[q5f,zK];exact h10
 have key:∀(r pre:List Int),pre++r=msL all.length→(∀y∈pre,∀(Y:Nat) (lf:List Int),y=(Y:Int)→qdt p (Qu Y.testBit all) day=true→¬ Perm p.Need s all Y lf)→
   ∃q,zB (QI p s day b5 at0 all (Zk (2 ^ all.length) (QO [] s all p.Need 0)) b9 (msL all.length) (((msL all.length).length:Nat):Int)) ((pre.length:Nat):Int)=some q∧
   ((q = .inr ()∧∀Y lf,Y<2 ^ all.length→qdt p (Qu Y.testBit all) day=true→¬ Perm p.Need s all Y lf)∨(∃X w,q = .inl ⟨Qu X.testBit at0,w⟩∧qov p s all day X w)):=by
  intro r
  induction r with
  | nil=>
   intro pre hpre hbad
   rw[qPd] at hpre
   refine⟨.inr (),zA ?_,.inl ⟨rfl,fun Y lf hY=>hbad (Y:Int) (by rw[hpre];exact(hmem _).2 ⟨Y,hY,rfl⟩) Y lf rfl⟩⟩
   unfold QI
   rw[hpre,if_neg (by omega)]
  | cons x r ih=>
   intro pre hpre hbad
   have hx:(msL all.length)[pre.length]?=some x:=by rw[←hpre,qPv (qP8 _),Nat.sub_self];rfl
   have hlt:=Jf hx
   obtain⟨X,hX,rfl⟩:=(hmem x).1 (qOT hx)
   obtain⟨q,h1,h2⟩:=qrE h hl s day b5 ha hX
   have step:QI p s day b5 at0 all (Zk (2 ^ all.length) (QO [] s all p.Need 0)) b9 (msL all.length) (((msL all.length).length:Nat):Int) ((pre.length:Nat):Int)=some (Sum.elim (fun _ => .inl ((pre.length+1:Nat):Int)) (fun u => .inr (.inl u)) q):=by
    unfold QI
    rw[if_pos (by omega),if_pos ⟨by omega,by omega⟩,qOV,hx,qOS,h1,qOS,q4n hlt (by omega)]
    cases q<;>rfl
   rcases h2 with ⟨rfl,hno⟩|⟨w,rfl,ht,hp,hmin⟩
   ·rw[Sum.elim_inl] at step
    rw[Q1 step]
    have:=ih (pre++[(X:Int)]) (by rw[qPy];exact hpre) (fun y hy Y lf e=>by
     rcases qPm.1 hy with hy|hy
     ·exact hbad y hy Y lf e
     ·have:=qPJ.1 hy
      obtain rfl:X=Y:=by omega
      exact hno lf)
    rw[qOZ] at this
    exact this
   ·rw[Sum.elim_inr] at step
    refine⟨_,zA step,.inr ⟨X,w,rfl,hX,ht,hp,fun Y lf hY hty hpy=>?_⟩⟩
    have hYm:(Y:Int)∈pre++(X:Int)::r:=by rw[hpre];exact(hmem _).2 ⟨Y,hY,rfl⟩
    rcases qPm.1 hYm with hy|hy
    ·exact absurd hpy (hbad (Y:Int) hy Y lf rfl hty)
    ·rcases qPe.1 hy with e|hy
     ·obtain rfl:Y=X:=by omega
      exact .inr ⟨rfl,hmin lf hpy⟩
     ·rw[←hpre,List.pairwise_append] at hpw
      have:=(List.pairwise_cons.1 hpw.2.1).1 (Y:Int) hy
      rw[qOV,qOV] at this
      exact .inl this
 exact key (msL all.length) [] rfl (fun y hy=>by cases hy)
theorem qcN {p:qe} {l:List qa} (h:Grd p l) (hl:l.length≤1000) (s:qg) (hck:Qs p s=some 0) (day:Int) :
  (10<(Qu (mO p day l) l).length∧zN p s l day=some (⟨[],[]⟩,2))∨
  ((Qu (mO p day l) l).length≤10∧zN p s l day=some (⟨[],[]⟩,31)∧∀Y lf,Y<2 ^ (Qu (mO p day l) l).length→qdt p (Qu Y.testBit (Qu (mO p day l) l)) day=true→¬ Perm p.Need s (Qu (mO p day l) l) Y lf)∨
  ((Qu (mO p day l) l).length≤10∧∃X w,zN p s l day=some (⟨Qu X.testBit (q5E l.length (mO p day l)),w⟩,0)∧qov p s (Qu (mO p day l) l) day X w):=by
 have hat:=qgG p s day 0 l hl l.length 0 [] (by omega) rfl
 have hlen:(q5E l.length (mO p day l)).length=(Qu (mO p day l) l).length:=by rw[q5G,q4R]
 unfold zN
 rw[hck,qOS,if_neg (by decide)]
 change (_∧Option.bind (zB _ ([],((0:Nat):Int))) _=_)∨(_∧Option.bind (zB _ ([],((0:Nat):Int))) _=_∧_)∨(_∧∃X w,Option.bind (zB _ ([],((0:Nat):Int))) _=_∧_)
 rw[hat,qOS,hlen]
 by_cases h10:10<(Qu (mO p day l) l).length
 ·rw[if_pos (by omega)]
  exact .inl ⟨h10,rfl⟩
 ·right
  rw[if_neg (by omega),qne hl,qOS,qf9 h.rgt s _ (by omega),qOS]
  dsimp only
  rw[if_neg (by decide)]
  have hN:(Qu (mO p day l) l).length≤10:=by omega
  have hp10:(2:Nat) ^ (Qu (mO p day l) l).length≤1024:=qPt (Nat.pow_le_pow_right (by decide) hN) (by decide)
  obtain⟨hok,-,-⟩:=qBa hN
  obtain⟨r,h1,h2⟩:=qpG (h.sel (mO p day l)) hN s day 0 (((Qu (mO p day l) l).length:Nat):Int) hlen
  have hm:q0y p s day 0 (q5E l.length (mO p day l)) (Qu (mO p day l) l) (Zk (2 ^ (Qu (mO p day l) l).length) (QO [] s (Qu (mO p day l) l) p.Need 0)) (((Qu (mO p day l) l).length:Nat):Int)=some r:=by
   unfold q0y
   rw[if_pos (by omega),qOV,qDv (by omega),qmd _ _ _ _ _ _ _ _ hp10,qOS,if_pos (by rw[zK];exact⟨Nat.two_pow_pos _,by omega,hok⟩)]
   change Option.bind (zB (QI p s day 0 _ _ _ _ (msL (Qu (mO p day l) l).length) (((msL (Qu (mO p day l) l).length).length:Nat):Int)) 0) _=_
   rw[h1,qOS]
   cases r<;>rfl
  rw[hm,qOS]
  rcases h2 with ⟨rfl,hno⟩|⟨X,w,rfl,hL⟩
  ·exact .inl ⟨hN,rfl,hno⟩
  ·exact .inr ⟨hN,X,w,rfl,hL⟩
end
noncomputable section
open Go.RowKit
def okG (N:Nat):Int→List Int→Bool
 | _,[]=>true
 | p,y::r=>decide (p<y)&&decide (0≤y)&&decide (y<(N:Int))&&okG N y r
theorem qev {N:Nat}:∀{r:List Int} {p:Int},okG N p r=true→∀y∈r,∃k:Nat,k<N∧y=(k:Int)
 | [],_,_,y,h=>by cases h
 | x::r,p,h,y,hy=>by
  rw[okG,qPo,qPo,qPo,qPS,qPS,qPS] at h
  rcases qPe.1 hy with rfl|hy
  ·exact⟨y.toNat,by omega,by omega⟩
  ·exact qev h.2 y hy
def q2A (l:List qa) (T:List Int):List qa:=T.filterMap fun y=>l[Int.toNat y]?
theorem qfQ {l:List qa}:∀{T:List Int} {p:Int},okG l.length p T=true→(q2A l T).length=T.length
 | [],_,_=>rfl
 | x::r,p,h=>by
  obtain⟨k,hk,rfl⟩:=qev h x qP7
  rw[okG,qPo] at h
  unfold q2A
  rw[List.filterMap_cons,qOV,qOU hk]
  show((q2A l r).length+1)=_
  rw[qfQ h.2];rfl
theorem qno {l:List qa} (h:∀b∈l,q8c b) (T:List Int):∀b∈q2A l T,q8c b:=fun b hb=>by
 obtain⟨y,-,hy⟩:=List.mem_filterMap.1 hb
 exact h b (qOT hy)
theorem qkm (p:qe) (s:qg) (u:qI) (l:List qa) (hl:l.length≤1000) (day:Int) (hT:u.Taken.length≤1000):∀(r:List Int) (i:Nat) (w:List qa) (pv:Int),r.length+i=u.Taken.length→(∀j,r[j]?=u.Taken[i+j]?)→w.length=i→((i=0∧pv = -1)∨(0<i∧u.Taken[i-1]?=some pv))→
  ∃e,zB (zQ p s u l day u.Taken ((u.Taken.length:Nat):Int)) (w,(i:Int))=some e∧(okG l.length pv r=true→e = .inr (w++q2A l r))∧(okG l.length pv r=false→∃x,e = .inl x)
 | [],i,w,pv,hi,_,_,_=>by
  have hi:i=u.Taken.length:=by simpa using hi
  refine⟨.inr w,zA ?_,fun _=>by unfold q2A;rw[List.filterMap_nil,qPd],fun h=>by rw[okG] at h;cases h⟩
  unfold zQ
  dsimp only
  rw[if_neg (by omega)]
 | y::r,i,w,pv,hi,hj,hw,hp=>by
  have hML:100000≤maxLen:=by unfold maxLen;omega
  have hil:i<u.Taken.length:=by simp only[qP3] at hi;omega
  have hy:u.Taken[i]?=some y:=by have:=hj 0;rw[Nat.add_zero] at this;exact this.symm
  have bad:zQ p s u l day u.Taken ((u.Taken.length:Nat):Int) (w,(i:Int))=some (.inr (.inl w))→okG l.length pv (y::r)=false→∃e,zB (zQ p s u l day u.Taken ((u.Taken.length:Nat):Int)) (w,(i:Int))=some e∧(okG l.length pv (y::r)=true→e = .inr (w++q2A l (y::r)))∧(okG l.length pv (y::r)=false→∃x,e = .inl x):=fun h1 h2=>
   ⟨_,zA h1,fun h=>(by rw[h2] at h;cases h),fun _=>⟨_,rfl⟩⟩
  by_cases h0:y<0
  ·refine bad ?_ ?_
   ·unfold zQ
    dsimp only
    rw[if_pos (by omega),if_pos ⟨by omega,by omega⟩,qOV,hy,qOS,if_pos h0]
   ·rw[okG,decide_eq_false (by omega:¬ (0≤y))];simp
  ·by_cases h1:(l.length:Int)≤y
   ·refine bad ?_ ?_
    ·unfold zQ
     dsimp only
     rw[if_pos (by omega),if_pos ⟨by omega,by omega⟩,qOV,hy,qOS,if_neg h0,if_pos h1]
    ·rw[okG,decide_eq_false (by omega:¬ (y<(l.length:Int)))];simp
   ·obtain⟨k,rfl⟩:∃k:Nat,y=(k:Int):=⟨y.toNat,by omega⟩
    have hk:k<l.length:=by omega
    have good:pv<(k:Int)→zQ p s u l day u.Taken ((u.Taken.length:Nat):Int) (w,(i:Int))=some (.inl (w++[l[k]],((i+1:Nat):Int)))→∃e,zB (zQ p s u l day u.Taken ((u.Taken.length:Nat):Int)) (w,(i:Int))=some e∧(okG l.length pv ((k:Int)::r)=true→e = .inr (w++q2A l ((k:Int)::r)))∧(okG l.length pv ((k:Int)::r)=false→∃x,e = .inl x):=fun hlt hstep=>by
     obtain⟨e,e1,e2,e3⟩:=qkm p s u l hl day hT r (i+1) (w++[l[k]]) (k:Int) (by simp only[qP3] at hi;omega) (fun j=>by have:=hj (j+1);rw[qPh] at this;rw[this];congr 1;omega) (by rw[qOZ,hw];rfl) (.inr ⟨by omega,by rw[Nat.add_sub_cancel];exact hy⟩)
     refine⟨e,(Q1 hstep).trans e1,fun h=>?_,fun h=>?_⟩
     ·rw[okG,qPo] at h
      rw[e2 h.2]
      unfold q2A
      rw[List.filterMap_cons,qOV,qOU hk]
      simp
     ·rw[okG,qPT hlt,qPT (by omega:(0:Int)≤(k:Int)),qPT (by omega:(k:Int)<(l.length:Int))] at h
      exact e3 (by simpa using h)
    rcases hp with ⟨hp1,hp2⟩|⟨hp1,hp2⟩
    ·refine good (by omega) ?_
     unfold zQ
     dsimp only
     rw[if_pos (by omega),if_pos ⟨by omega,by omega⟩,qOV,hy,qOS,if_neg h0,if_neg h1,if_neg (by omega),if_pos ⟨by omega,by omega⟩,qOV,qOU hk,qOS,if_pos ⟨by omega,by omega⟩,q4n hil (by omega)]
    ·have hwk:w64 ((i:Int)-1)=((i-1:Nat):Int):=by rw[Z5 (by omega) (by omega)];omega
     by_cases hlt:(k:Int)≤pv
     ·refine bad ?_ ?_
      ·unfold zQ
       dsimp only
       rw[if_pos (by omega),if_pos ⟨by omega,by omega⟩,qOV,hy,qOS,if_neg h0,if_neg h1,if_pos (by omega),hwk,if_pos ⟨by omega,by omega⟩,qOV,hp2,qOS,if_pos hlt]
      ·rw[okG,decide_eq_false (by omega:¬ (pv<(k:Int)))];simp
     ·refine good (by omega) ?_
      unfold zQ
      dsimp only
      rw[if_pos (by omega),if_pos ⟨by omega,by omega⟩,qOV,hy,qOS,if_neg h0,if_neg h1,if_pos (by omega),hwk,if_pos ⟨by omega,by omega⟩,qOV,hp2,qOS,if_neg hlt,if_pos ⟨by omega,by omega⟩,qOV,qOU hk,qOS,if_pos ⟨by omega,by omega⟩,q4n hil (by omega)]
def qGq (p:qe) (l:List qa) (day:Int) (mF:List qa→Bool) (u:qI):Bool:=
 decide (u.Taken.length≤10)&&decide (u.Leaf.length=u.Taken.length)&&okG l.length (-1) u.Taken&&qdt p (q2A l u.Taken) day&&mF (q2A l u.Taken)
theorem qBW {p:qe} {l:List qa} (h:Grd p l) (hl:l.length≤1000) (s:qg) (hck:Qs p s=some 0) (day:Int) (u:qI) (mF:List qa→Bool)
  (hM:∀L:List qa,L.length=u.Leaf.length→L.length≤10→q2P p.Need s L u.Leaf=some (mF L)):qX p s l day u=some (if qGq p l day mF u=true then 0 else 32):=by
 unfold qX qGq
 rw[hck,qOS,if_neg (by decide)]
 by_cases h10:10<u.Taken.length
 ·rw[if_pos (by omega),decide_eq_false (by omega:¬ u.Taken.length≤10)]
  simp
 ·rw[if_neg (by omega),qPT (by omega:u.Taken.length≤10)]
  by_cases hlen:u.Leaf.length=u.Taken.length
  ·rw[if_neg (by rw[hlen];simp),qPT hlen]
   obtain⟨e,e1,e2,e3⟩:=qkm p s u l hl day (by omega) u.Taken 0 [] (-1) (by omega) (fun j=>by rw[qPg]) rfl (.inl ⟨rfl,rfl⟩)
   change Option.bind (zB _ ([],((0:Nat):Int))) _=_
   rw[e1,qOS]
   cases hok:okG l.length (-1) u.Taken
   ·obtain⟨x,rfl⟩:=e3 hok
    rw[Sum.elim_inl];simp
   ·rw[e2 hok,Sum.elim_inr,qPc]
    have hpl:=qfQ hok
    rw[qtx p h.exc _ (by omega) (qno h.fit _),qOS]
    cases ht:qdt p (q2A l u.Taken) day
    ·simp
    ·rw[if_neg (by decide),hM _ (by omega) (by omega),qOS]
     cases mF (q2A l u.Taken)<;>simp
  ·rw[if_pos (by simpa using fun h=>hlen (by omega)),decide_eq_false hlen]
   simp
end
noncomputable section
open Go.RowKit
theorem qcq {N:Nat}:∀{r:List Int} {p:Int},okG N p r=true→∀y∈r,p<y
 | [],_,_,y,h=>by cases h
 | x::r,p,h,y,hy=>by
  rw[okG,qPo,qPo,qPo,qPS] at h
  rcases qPe.1 hy with rfl|hy
  ·exact h.1.1.1
  ·have:=qcq h.2 y hy
   have:=h.1.1.1
   omega
theorem q35 {N:Nat} {x p:Int} {r:List Int} (h:okG N p (x::r)=true):okG N x r=true:=by
 rw[okG,qPo] at h;exact h.2
theorem qku {N:Nat}:∀{A B:List Int} {p q:Int},okG N p A=true→okG N q B=true→(∀y,y∈A↔y∈B)→A=B
 | [],[],_,_,_,_,_=>rfl
 | [],y::B,_,_,_,_,h=>by cases(h y).2 qP7
 | x::A,[],_,_,_,_,h=>by cases(h x).1 qP7
 | x::A,y::B,p,q,hA,hB,h=>by
  have e:x=y:=by
   rcases qPe.1 ((h x).1 qP7) with e|e
   ·exact e
   ·rcases qPe.1 ((h y).2 qP7) with e2|e2
    ·exact e2.symm
    ·have h1:=qcq (q35 hB) x e
     have h2:=qcq (q35 hA) y e2
     omega
  subst e
  rw[qku (q35 hA) (q35 hB) fun z=>⟨fun hz=>?_,fun hz=>?_⟩]
  ·rcases qPe.1 ((h z).1 (qP0 _ hz)) with e|e
   ·have:=qcq (q35 hA) z hz;omega
   ·exact e
  ·rcases qPe.1 ((h z).2 (qP0 _ hz)) with e|e
   ·have:=qcq (q35 hB) z hz;omega
   ·exact e
theorem qwD {N:Nat} (m:Nat→Bool):∀(j k:Nat) (p:Int),k+j≤N→p<(k:Int)→okG N p (Qu m (Zk j fun i=>((k+i:Nat):Int)))=true:=by
 intro j
 induction j generalizing m with
 | zero=>intro k p _ _;rfl
 | succ j ih=>
  intro k p hk hp
  rw[qg5,Qu]
  have e2:(fun i=>((k+(i+1):Nat):Int))=fun i=>((k+1+i:Nat):Int):=funext fun i=>by rw[Nat.add_right_comm,qPM]
  rw[e2]
  cases m 0
  ·rw[if_neg (by decide),qPc]
   exact ih _ (k+1) p (by omega) (by omega)
  ·rw[if_pos rfl,qPZ,okG,ih _ (k+1) _ (by omega) (by rw[Nat.add_zero];omega),qPT (by rw[Nat.add_zero];exact hp),qPT (by omega),qPT (by omega)]
   rfl
theorem qeC (N:Nat) (m:Nat→Bool):okG N (-1) (q5E N m)=true:=by
 have:=qwD (N:=N) m N 0 (-1) (by omega) (by omega)
 simp only[qPg] at this
 exact this
theorem qjJ (N:Nat) (m q:Nat→Bool):∃m',Qu q (q5E N m)=q5E N m':=⟨_,q9z _ _ _⟩
def qJb {α:Type} (f:α→Bool) (o:Option α):Bool:=(o.map f).getD false
theorem qjy {α:Type} (f:α→Bool):∀l:List α,Qu (fun j=>qJb f l[j]?) l=l.filter f
 | []=>rfl
 | a::l=>by
  rw[Qu]
  have:=qjy f l
  simp only[qPh]
  rw[this,List.filter_cons]
  show(if f a=true then[a] else[])++_=_
  cases f a<;>rfl
theorem qDM {α β:Type} {f:α→Option β}:∀{T:List α} {L:List β},T.map f=L.map some→T.filterMap f=L
 | [],[],_=>rfl
 | x::T,y::L,h=>by
  rw[qPf,qPf] at h
  injection h with h1 h2
  rw[List.filterMap_cons,h1,qDM h2]
structure qab (p:qe) (s:qg) (l:List qa) (day:Int) (u:qI):Prop where
 inc:okG l.length (-1) u.Taken=true
 len:u.Leaf.length=u.Taken.length
 tog:qdt p (q2A l u.Taken) day=true
 rng:∀(j:Nat) (y:Int),u.Leaf[j]?=some y → -1≤y∧y<(lvN p.Need:Int)
 met:qgY p.Need s (q2A l u.Taken) u.Leaf=true
theorem qkz (l:List qa) (m q:Nat→Bool):q2A l (Qu q (q5E l.length m))=Qu q (Qu m l):=qDM (by rw[←q7D];unfold q5E;rw[←q7D,qio,q7D,q7D])
theorem qo1 (p:qe) (day:Int):∀(r done:List qa),tgL p day done r=true→∀a∈r,qq7 p a day=false
 | [],_,_,a,h=>by cases h
 | x::r,done,h,a,ha=>by
  rw[tgL,qPo,qPo,Bool.not_eq_true'] at h
  rcases qPe.1 ha with rfl|ha
  ·exact h.1.1
  ·exact qo1 p day r _ h.2 a ha
theorem qab.mask {p:qe} {s:qg} {l:List qa} {day:Int} {u:qI} (h:qab p s l day u) :
  ∃Y,Y<2 ^ (Qu (mO p day l) l).length∧u.Taken=Qu Y.testBit (q5E l.length (mO p day l))∧qdt p (Qu Y.testBit (Qu (mO p day l) l)) day=true∧Perm p.Need s (Qu (mO p day l) l) Y u.Leaf:=by
 have hlen:(q5E l.length (mO p day l)).length=(Qu (mO p day l) l).length:=by rw[q5G,q4R]
 obtain⟨q,hq⟩:∃q:Nat→Bool,q=fun j=>qJb (fun x=>decide (x∈u.Taken)) (q5E l.length (mO p day l))[j]?:=⟨_,rfl⟩
 have hsel:Qu q (q5E l.length (mO p day l))=u.Taken:=by
  have e:Qu q (q5E l.length (mO p day l))=(q5E l.length (mO p day l)).filter fun x=>decide (x∈u.Taken):=by rw[hq];exact qjy _ _
  obtain⟨m',hm'⟩:=qjJ l.length (mO p day l) q
  refine qku (N:=l.length) (p := -1) (q := -1) (by rw[hm'];exact qeC _ _) h.inc fun y=>?_
  rw[e,qPO,qPS]
  refine⟨fun hy=>hy.2,fun hy=>⟨?_,hy⟩⟩
  obtain⟨k,hk,rfl⟩:=qev h.inc y hy
  have hold:=h.tog
  unfold qdt at hold
  rw[qPo,qPo] at hold
  have hold:=qo1 p day _ _ hold.1.1 l[k] (List.mem_filterMap.2 ⟨(k:Int),hy,by rw[qOV];exact qOU hk⟩)
  unfold q5E
  rw[qix]
  exact⟨k,by unfold mO;rw[qOU hk];simp[hold],by rw[J3 _ hk]⟩
 have hbit:∀k,k<(q5E l.length (mO p day l)).length→(mkS q (Qu (mO p day l) l).length).testBit k=q k:=fun k hk=>by
  rw[qcL,qPT (by omega),qPp]
 have hT:u.Taken=Qu (mkS q (Qu (mO p day l) l).length).testBit (q5E l.length (mO p day l)):=by
  rw[←hsel]
  exact(q2G hbit).symm
 have hL:q2A l u.Taken=Qu (mkS q (Qu (mO p day l) l).length).testBit (Qu (mO p day l) l):=by rw[hT];exact qkz l _ _
 refine⟨_,qtC _ _,hT,by rw[←hL];exact h.tog,?_,h.rng,by rw[←hL];exact h.met⟩
 rw[h.len,hT,q4R,hlen]
theorem qov.use {p:qe} {s:qg} {l:List qa} {day:Int} {X:Nat} {w:List Int} (h:qov p s (Qu (mO p day l) l) day X w):qab p s l day ⟨Qu X.testBit (q5E l.length (mO p day l)),w⟩:=by
 obtain⟨m',hm'⟩:=qjJ l.length (mO p day l) X.testBit
 have hL:=qkz l (mO p day l) X.testBit
 refine⟨?_,?_,?_,h.perm.rng,?_⟩
 ·show okG l.length (-1) (Qu X.testBit (q5E l.length (mO p day l)))=true
  rw[hm'];exact qeC _ _
 ·show w.length=(Qu X.testBit (q5E l.length (mO p day l))).length
  rw[h.perm.len,q4R,q4R,q5G]
 ·show qdt p (q2A l (Qu X.testBit (q5E l.length (mO p day l)))) day=true
  rw[hL];exact h.tog
 ·show qgY p.Need s (q2A l (Qu X.testBit (q5E l.length (mO p day l)))) w=true
  rw[hL];exact h.perm.met
theorem qpC {N:Nat}:∀{A:List Int} {p:Int},okG N p A=true→∀(i j:Nat) (x y:Int),i<j→A[i]?=some x→A[j]?=some y→x<y
 | [],_,_,i,j,x,y,_,hx,_=>by simp at hx
 | a::A,p,h,0,j+1,x,y,_,hx,hy=>by
  injection hx with hx
  subst hx
  exact qcq (q35 h) y (qOT hy)
 | a::A,p,h,i+1,j+1,x,y,hij,hx,hy=>qpC (q35 h) i j x y (by omega) hx hy
theorem qsV (A:List Int) (X:Nat):Qu X.testBit A=(q3C A.length X).map fun y=>A.getD (Int.toNat y) 0:=by
 unfold q3C
 rw[←q7D]
 congr 1
 apply List.ext_getElem?
 intro j
 rw[qP6]
 by_cases hj:j<A.length
 ·rw[J3 _ hj,qOU hj,Option.map_some,qOV,List.getD_eq_getElem?_getD,qOU hj];rfl
 ·rw[qPq (by omega),qPq (by rw[zK];omega)];rfl
theorem qnf {N:Nat} {A:List Int} {p:Int} (h:okG N p A=true) (X Y:Nat):slL (Qu X.testBit A) (Qu Y.testBit A)=slL (q3C A.length X) (q3C A.length Y):=by
 rw[qsV,qsV]
 refine qn6 fun x hx y hy=>?_
 obtain⟨i,hi,rfl⟩:=mem_range hx
 obtain⟨j,hj,rfl⟩:=mem_range hy
 rw[qOV,qOV,List.getD_eq_getElem?_getD,List.getD_eq_getElem?_getD,qOU hi,qOU hj,Option.getD_some,Option.getD_some]
 rcases Nat.lt_trichotomy i j with g|g|g
 ·have:=qpC h i j _ _ g (qOU hi) (qOU hj)
  exact⟨by omega,by omega⟩
 ·subst g
  exact⟨by omega,by omega⟩
 ·have:=qpC h j i _ _ g (qOU hj) (qOU hi)
  exact⟨by omega,by omega⟩
def uLe (u v:qI):Prop:=slL u.Taken v.Taken=true∨(u.Taken=v.Taken∧(u.Leaf=v.Leaf∨q4u u.Leaf v.Leaf=true))
theorem qsB {u v:qI} (h:uLe u v) (h2:uLe v u):u=v:=by
 have hsl:∀A B,slL A B=true→slL B A=true→False:=fun A B a b=>by
  have:=q9d a b
  rw[q8A] at this;cases this
 have hxl:∀A B,q4u A B=true→q4u B A=true→False:=fun A B a b=>by
  have:=q42 a b
  rw[qc1] at this;cases this
 obtain⟨T,L⟩:=u
 obtain⟨T',L'⟩:=v
 rcases h with h|⟨e,h⟩
 ·rcases h2 with h2|⟨e,-⟩
  ·exact(hsl _ _ h h2).elim
  ·rw[e,q8A] at h;cases h
 ·simp only at e h
  subst e
  rcases h2 with h2|⟨-,h2⟩
  ·rw[q8A] at h2;cases h2
  ·rcases h with h|h
   ·rw[h]
   ·rcases h2 with h2|h2
    ·simp only at h2;rw[h2]
    ·exact(hxl _ _ h h2).elim
theorem qyb {u v:qI} (h:uLe u v):u.Taken.length≤v.Taken.length:=by
 rcases h with h|⟨e,-⟩
 ·rw[qfy] at h;omega
 ·rw[e];exact qP8 _
theorem qiy {p:qe} {l:List qa} (h:Grd p l) (hl:l.length≤10) (s:qg) (hck:Qs p s=some 0) (day:Int) :
  (zN p s l day=some (⟨[],[]⟩,31)∧∀u,¬ qab p s l day u)∨(∃u,zN p s l day=some (u,0)∧qab p s l day u∧∀v,qab p s l day v→uLe u v):=by
 have hs:=q4H l (mO p day l)
 rcases qcN h (by omega) s hck day with ⟨g,-⟩|⟨-,g,hno⟩|⟨-,X,w,g,hL⟩
 ·omega
 ·refine .inl ⟨g,fun u hu=>?_⟩
  obtain⟨Y,h1,h2,h3,h4⟩:=hu.mask
  exact hno Y _ h1 h3 h4
 ·refine .inr ⟨_,g,hL.use,fun v hv=>?_⟩
  obtain⟨Y,h1,h2,h3,h4⟩:=hv.mask
  have hlen:(q5E l.length (mO p day l)).length=(Qu (mO p day l) l).length:=by rw[q5G,q4R]
  rcases hL.min Y v.Leaf h1 h3 h4 with e|⟨e,e2⟩
  ·left
   rw[h2]
   show slL (Qu X.testBit (q5E l.length (mO p day l))) _=true
   rw[qnf (qeC l.length (mO p day l)),hlen];exact e
  ·right
   subst e
   exact⟨h2.symm,e2⟩
end
noncomputable section
open Go.RowKit
def upI (k:Nat) (y:Int):Int:=if y<(k:Int) then y else y+1
def dnI (k:Nat) (y:Int):Int:=if(k:Int)<y then y-1 else y
theorem qI8 (k:Nat) (x y:Int):(upI k x<upI k y↔x<y)∧(upI k x=upI k y↔x=y):=by
 unfold upI
 split<;>split<;>omega
theorem qBt {k:Nat} {x y:Int} (hx:x≠(k:Int)) (hy:y≠(k:Int)):(dnI k x<dnI k y↔x<y)∧(dnI k x=dnI k y↔x=y):=by
 unfold dnI
 split<;>split<;>omega
theorem qIu (k:Nat) (y:Int):dnI k (upI k y)=y:=by
 unfold dnI upI
 split<;>split<;>omega
theorem qGU {k:Nat} {y:Int} (h:y≠(k:Int)):upI k (dnI k y)=y:=by
 unfold dnI upI
 split<;>split<;>omega
theorem qGj (k:Nat) (y:Int):upI k y≠(k:Int):=by
 unfold upI
 split<;>omega
theorem qiq {M N:Nat} {f:Int→Int}:∀{T:List Int} {p q:Int},okG M p T=true→(∀x∈T,0≤f x∧f x<(N:Int))→(∀x∈T,∀y∈T,x<y→f x<f y)→(∀x∈T,q<f x)→okG N q (T.map f)=true
 | [],_,_,_,_,_,_=>rfl
 | x::T,p,q,h,h1,h2,h3=>by
  rw[qPf,okG,qPT (h3 x qP7),qPT (h1 x qP7).1,qPT (h1 x qP7).2,
   qiq (q35 h) (fun y hy=>h1 y (qP0 _ hy)) (fun y hy z hz=>h2 y (qP0 _ hy) z (qP0 _ hz)) (fun y hy=>h2 x qP7 y (qP0 _ hy) (qcq (q35 h) y hy))]
  rfl
def qeG {α:Type} (l:List α) (k:Nat):List α:=l.take k++l.drop (k+1)
theorem qiQ {α:Type} {l:List α} {k:Nat} (hk:k<l.length):(qeG l k).length+1=l.length:=by
 unfold qeG
 rw[qOZ,qPl,qPF];omega
theorem qwV {α:Type} {l:List α} {k:Nat} (hk:k<l.length) (y:Nat):(qeG l k)[y]?=if y<k then l[y]? else l[y+1]?:=by
 unfold qeG
 by_cases h:y<k
 ·rw[if_pos h,qPw (by rw[qPl];omega),qPr h]
 ·rw[if_neg h,qPv (by rw[qPl];omega),qPl,List.getElem?_drop]
  congr 1;omega
theorem qua {α:Type} {l:List α} {k:Nat} {a:α} (h:a∈qeG l k):a∈l:=by
 unfold qeG at h
 rcases qPm.1 h with h|h
 ·exact List.mem_of_mem_take h
 ·exact List.mem_of_mem_drop h
theorem qAV {α:Type} {l:List α} {k:Nat} (hk:k<l.length) {y:Int} (hy:0≤y):l[Int.toNat (upI k y)]?=(qeG l k)[Int.toNat y]?:=by
 rw[qwV hk]
 unfold upI
 by_cases h:y<(k:Int)
 ·rw[if_pos h,if_pos (by omega)]
 ·rw[if_neg h,if_neg (by omega)]
  congr 1;omega
theorem qkB {α β:Type} {f g:α→Option β}:∀{l:List α},(∀x∈l,f x=g x)→l.filterMap f=l.filterMap g
 | [],_=>rfl
 | x::l,h=>by
  rw[List.filterMap_cons,List.filterMap_cons,h x qP7,qkB fun y hy=>h y (qP0 _ hy)]
theorem qnN {l:List qa} {k:Nat} (hk:k<l.length) {T:List Int} (h:∀y∈T,0≤y):q2A l (T.map (upI k))=q2A (qeG l k) T:=by
 unfold q2A
 rw[List.filterMap_map]
 exact qkB fun y hy=>qAV hk (h y hy)
theorem qiM {N:Nat} {T:List Int} {p:Int} (h:okG N p T=true):∀y∈T,0≤y∧y<(N:Int):=fun y hy=>by
 obtain⟨k,h1,rfl⟩:=qev h y hy
 omega
theorem qab.up {p:qe} {s:qg} {l:List qa} {day:Int} {k:Nat} (hk:k<l.length) {u:qI} (h:qab p s (qeG l k) day u):qab p s l day ⟨u.Taken.map (upI k),u.Leaf⟩:=by
 have hr:=qiM h.inc
 have hl:=qiQ hk
 have hp:=qnN (l:=l) hk (fun y hy=>(hr y hy).1)
 refine⟨?_,?_,?_,h.rng,?_⟩
 ·show okG l.length (-1) (u.Taken.map (upI k))=true
  refine qiq h.inc (fun x hx=>?_) (fun x _ y _ hxy=>(qI8 k x y).1.2 hxy) (fun x hx=>?_)
  ·have:=hr x hx;unfold upI;split<;>omega
  ·have:=hr x hx;unfold upI;split<;>omega
 ·show u.Leaf.length=(u.Taken.map (upI k)).length
  rw[qPB];exact h.len
 ·show qdt p (q2A l (u.Taken.map (upI k))) day=true
  rw[hp];exact h.tog
 ·show qgY p.Need s (q2A l (u.Taken.map (upI k))) u.Leaf=true
  rw[hp];exact h.met
theorem qab.dn {p:qe} {s:qg} {l:List qa} {day:Int} {k:Nat} (hk:k<l.length) {u:qI} (h:qab p s l day u) (hn:∀y∈u.Taken,y≠(k:Int)):qab p s (qeG l k) day ⟨u.Taken.map (dnI k),u.Leaf⟩:=by
 have hr:=qiM h.inc
 have hl:=qiQ hk
 have h0:∀y∈u.Taken,0≤dnI k y:=fun y hy=>by have:=hr y hy;unfold dnI;split<;>omega
 have hp:q2A (qeG l k) (u.Taken.map (dnI k))=q2A l u.Taken:=by
  rw[←qnN hk (fun y hy=>by obtain⟨z,hz,rfl⟩:=qPD.1 hy;exact h0 z hz),List.map_map]
  congr 1
  exact(List.map_congr_left fun y hy=>qGU (hn y hy)).trans (List.map_id _)
 refine⟨?_,?_,?_,h.rng,?_⟩
 ·show okG (qeG l k).length (-1) (u.Taken.map (dnI k))=true
  refine qiq h.inc (fun x hx=>⟨h0 x hx,?_⟩) (fun x hx y hy hxy=>(qBt (hn x hx) (hn y hy)).1.2 hxy) (fun x hx=>by have:=h0 x hx;omega)
  have:=hr x hx
  have:=hn x hx
  unfold dnI
  split<;>omega
 ·show u.Leaf.length=(u.Taken.map (dnI k)).length
  rw[qPB];exact h.len
 ·show qdt p (q2A (qeG l k) (u.Taken.map (dnI k))) day=true
  rw[hp];exact h.tog
 ·show qgY p.Need s (q2A (qeG l k) (u.Taken.map (dnI k))) u.Leaf=true
  rw[hp];exact h.met
theorem Grd.few {p:qe} {l:List qa} (h:Grd p l) (k:Nat):Grd p (qeG l k):=⟨h.rgt,h.exc,fun b hb=>h.fit b (qua hb)⟩
theorem qve {p:qe} {l:List qa} (h:Grd p l) (hl:l.length≤10) (s:qg) (hck:Qs p s=some 0) (day:Int) {k:Nat} (hk:k<l.length) :
  (zN p s l day=some (⟨[],[]⟩,31)∧zN p s (qeG l k) day=some (⟨[],[]⟩,31))∨
  (∃b,zN p s l day=some (b,0)∧qab p s l day b∧
   ((zN p s (qeG l k) day=some (⟨[],[]⟩,31)∧(k:Int)∈b.Taken)∨
     ∃a,zN p s (qeG l k) day=some (a,0)∧b.Taken.length≤a.Taken.length∧((∀y∈b.Taken,y≠(k:Int))→a=⟨b.Taken.map (dnI k),b.Leaf⟩))):=by
 have hfl:=qiQ hk
 rcases qiy h hl s hck day with ⟨e1,n1⟩|⟨b,e1,u1,m1⟩
 ·left
  refine⟨e1,?_⟩
  rcases qiy (h.few k) (by omega) s hck day with ⟨e2,-⟩|⟨a,-,u2,-⟩
  ·exact e2
  ·exact absurd (u2.up hk) (n1 _)
 ·right
  refine⟨b,e1,u1,?_⟩
  rcases qiy (h.few k) (by omega) s hck day with ⟨e2,n2⟩|⟨a,e2,u2,m2⟩
  ·left
   refine⟨e2,Classical.byContradiction fun hc=>?_⟩
   exact n2 _ (u1.dn hk fun y hy e=>hc (e ▸ hy))
  ·right
   refine⟨a,e2,?_,fun hn=>?_⟩
   ·have:=qyb (m1 _ (u2.up hk))
    simpa using this
   ·refine qsB (m2 _ (u1.dn hk hn)) ?_
    have hma:(a.Taken.map (upI k)).map (dnI k)=a.Taken:=by
     rw[List.map_map]
     exact(List.map_congr_left fun y _=>qIu k y).trans (List.map_id _)
    have:=m1 _ (u2.up hk)
    have hs:∀A B:List Int,(∀y∈A,y≠(k:Int))→(∀y∈B,y≠(k:Int))→slL (A.map (dnI k)) (B.map (dnI k))=slL A B:=fun A B hA hB=>qn6 fun x hx y hy=>qBt (hA x hx) (hB y hy)
    have hup:∀y∈a.Taken.map (upI k),y≠(k:Int):=fun y hy=>by obtain⟨z,-,rfl⟩:=qPD.1 hy;exact qGj k z
    rcases this with h1|⟨h1,h2⟩
    ·left
     show slL (b.Taken.map (dnI k)) a.Taken=true
     rw[←hma,hs _ _ hn hup];exact h1
    ·right
     refine⟨?_,h2⟩
     show b.Taken.map (dnI k)=a.Taken
     rw[←hma]
     exact congrArg _ h1
end
noncomputable section
open Go.RowKit
abbrev nmL:List ByteArray:=[ByteArray.mk (List.toArray [77,117,115,105,99]),ByteArray.mk (List.toArray [76,97,119]),ByteArray.mk (List.toArray [79,108,100,32,109,97,112,115])]
abbrev agL:List Int:=[(0:Int),(0:Int),(0:Int),(2:Int),(5:Int)]
structure qyl (p:qe):Prop where
 sch:p.School=1
 id:1≤p.Id∧p.Id≤3
 ver:1≤p.Version∧p.Version≤3
 frm:0≤p.From∧p.From≤400
 nam:p.Name∈nmL
 tot:0≤p.Total∧p.Total≤19
 own:0≤p.Own∧p.Own≤10
 age:p.Age∈agL
 need:q6b 3 6 p.Need
 ex:p.Exclude=[]∨∃a b,p.Exclude=[q00.mk a b]∧q5P a∧q5P b∧q46 a b=true
theorem qAQ (l:List Int) (hl:l.length≤9223372036854775807):∃p,q18 l=some p∧qyl p:=by
 obtain⟨v1,d1,e1,a1,b1,h1⟩:=q2r (d:=⟨l,0⟩) ⟨by show(0:Int)≤0;omega,by show(0:Int)≤(l.length:Int);omega,hl⟩ (most:=3) (by omega) (by omega)
 obtain⟨v2,d2,e2,a2,b2,h2⟩:=q2r h1 (most:=3) (by omega) (by omega)
 obtain⟨v3,d3,e3,a3,b3,h3⟩:=q2r h2 (most:=5) (by omega) (by omega)
 obtain⟨v4,d4,e4,a4,b4,h4⟩:=q2r h3 (most:=3) (by omega) (by omega)
 obtain⟨v6,d6,e6,a6,b6,h6⟩:=q2r h4 (most:=20) (by omega) (by omega)
 obtain⟨v7,d7,e7,a7,b7,h7⟩:=q2r h6 (most:=3) (by omega) (by omega)
 obtain⟨v8,d8,e8,a8,b8,h8⟩:=q2r h7 (most:=6) (by omega) (by omega)
 obtain⟨v9,d9,e9,a9,b9,h9⟩:=q2r h8 (most:=5) (by omega) (by omega)
 obtain⟨v11,d11,e11,a11,b11,h11⟩:=q2r h9 (most:=3) (by omega) (by omega)
 obtain⟨c1,d12,e12,m12,h12⟩:=qiR h11
 obtain⟨c2,d13,e13,m13,h13⟩:=qiR h12
 obtain⟨n1,d14,e14,m14,h14⟩:=qop 3 6 d13 (by omega) (by omega) h13
 obtain⟨n2,d15,e15,m15,h15⟩:=qop 3 6 d11 (by omega) (by omega) h11
 obtain⟨nm,g5,q5⟩:=qlP nmL v4 a4 (by show v4<((3:Nat):Int);omega)
 obtain⟨ag,g10,q10⟩:=qlP agL v9 a9 (by show v9<((5:Nat):Int);omega)
 have w1:w64 (1+v1)=1+v1:=Z5 (by omega) (by omega)
 have w2:w64 (1+v2)=1+v2:=Z5 (by omega) (by omega)
 have w3:w64 (100*v3)=100*v3:=Z5 (by omega) (by omega)
 have hm:0≤v7*v8∧v7*v8≤10:=by
  have hv7:v7=0∨v7=1∨v7=2:=by omega
  rcases hv7 with rfl|rfl|rfl<;>omega
 have w4:w64 (v7*v8)=v7*v8:=Z5 (by omega) (by omega)
 have e14':ZR ((3:Int),((6:Int),d13))=some (n1,d14):=e14
 have e15':ZR ((3:Int),((6:Int),d11))=some (n2,d15):=e15
 have mk:∀(n:qb) (X:List (q00 qc)),q6b 3 6 n→(X=[]∨∃a b,X=[q00.mk a b]∧q5P a∧q5P b∧q46 a b=true)→qyl (qe.mk (1:Int) (1+v1) (1+v2) (100*v3) nm n v6 (v7*v8) ag X):=fun n X hn hX=>
  ⟨rfl,⟨by show 1≤1+v1;omega,by show 1+v1≤3;omega⟩,⟨by show 1≤1+v2;omega,by show 1+v2≤3;omega⟩,⟨by show 0≤100*v3;omega,by show 100*v3≤400;omega⟩,q5,⟨a6,by show v6≤19;omega⟩,hm,q10,hn,hX⟩
 unfold q18
 rw[e1,qOS];dsimp only
 rw[e2,qOS];dsimp only
 rw[e3,qOS];dsimp only
 rw[e4,qOS];dsimp only
 rw[if_pos ⟨a4,b4⟩,g5,qOS,e6,qOS];dsimp only
 rw[e7,qOS];dsimp only
 rw[e8,qOS];dsimp only
 rw[e9,qOS];dsimp only
 rw[if_pos ⟨a9,b9⟩,g10,qOS,e11,qOS];dsimp only
 rw[w1,w2,w3,w4]
 by_cases h0:v11=0
 ·rw[if_pos (by simpa using h0),e12,qOS];dsimp only
  rw[e13,qOS];dsimp only
  by_cases hp:Qo c1 c2=true
  ·rw[if_pos hp,e14',qOS]
   exact⟨_,rfl,mk _ _ m14 (.inr ⟨c1,c2,rfl,m12,m13,hp⟩)⟩
  ·rw[if_neg hp,e14',qOS]
   exact⟨_,rfl,mk _ _ m14 (.inl rfl)⟩
 ·rw[if_neg (by simpa using h0),e15',qOS]
  exact⟨_,rfl,mk _ _ m15 (.inl rfl)⟩
theorem que (l:List Int) (hl:l.length≤9223372036854775807):∃p,q3s l=some p∧qyl p:=by
 obtain⟨p,h1,h2⟩:=qAQ l hl
 unfold q3s
 rw[h1,qOS]
 refine⟨_,rfl,⟨h2.sch,h2.id,h2.ver,h2.frm,h2.nam,?_,?_,h2.age,h2.need,h2.ex⟩⟩
 ·have:=h2.tot
  have e1:=Int.tmod_lt_of_pos p.Total (show(0:Int)<12 by omega)
  have e2:0≤Int.tmod p.Total 12:=Int.tmod_nonneg _ (by omega)
  show 0≤Int.tmod p.Total 12∧Int.tmod p.Total 12≤19
  omega
 ·have:=h2.own
  have e1:=Int.tmod_lt_of_pos p.Own (show(0:Int)<4 by omega)
  have e2:0≤Int.tmod p.Own 4:=Int.tmod_nonneg _ (by omega)
  show 0≤Int.tmod p.Own 4∧Int.tmod p.Own 4≤10
  omega
end
noncomputable section
open Go.RowKit
def qCv (a:Int):Bool := !decide (a<32) && !decide (126<a) && !(a==34)
theorem qqZ (s:ByteArray) (hs:s.size≤1000):q1e s=some ((qgZ s).all qCv&&inF ((s.size:Nat):Int) 1 40):=by
 have hl:(qgZ s).length=s.size:=by unfold qgZ;rw[qPB,Array.length_toList];rfl
 have h:=qc6 (step:=q0e s (qgZ s) (((qgZ s).length:Nat):Int)) (qgZ s) qCv (.inl ()) (.inr ()) (fun i a ha=>by
  have hi:=Jf ha
  unfold q0e qCv
  rw[if_pos (by omega),if_pos ⟨by omega,by omega⟩,qOV,ha,qOS,q4n hi (by omega)]
  by_cases h1:a<32
  ·rw[if_pos h1,qPT h1];rfl
  ·rw[if_neg h1,decide_eq_false h1]
   by_cases h2:126<a
   ·rw[if_pos h2,qPT h2];rfl
   ·rw[if_neg h2,decide_eq_false h2]
    cases a==34<;>rfl) (by
  unfold q0e
  rw[if_neg (by omega)])
 unfold q1e
 rw[if_pos (by omega),h,qOS]
 cases hq:(qgZ s).all qCv
 ·rw[if_neg (by decide),Sum.elim_inl];rfl
 ·rw[if_pos rfl,Sum.elim_inr,q3o];rfl
def nmB (s:ByteArray):Bool:=decide (s.size≤1000)&&((qgZ s).all qCv&&inF ((s.size:Nat):Int) 1 40)
theorem qzI:nmL.all nmB=true:=by kernel_rfl
theorem qkg {s:ByteArray} (h:s∈nmL):q1e s=some true:=by
 have:=qP9.1 qzI s h
 unfold nmB at this
 rw[qPo,qPS] at this
 rw[qqZ s this.1,this.2]
theorem qhv {n a b:Int} (h1:a≤n) (h2:n≤b):zD n a b=true:=by
 rw[q3o]
 unfold inF
 rw[qPT h1,qPT h2];rfl
theorem qtA {p:qe} (hs:1≤p.School∧p.School≤8) (hi:1≤p.Id∧p.Id≤999999) (hv:1≤p.Version∧p.Version≤20) (hf:0≤p.From∧p.From≤100000) (ht:0≤p.Total∧p.Total≤600) (ho:0≤p.Own∧p.Own≤600) (ha:0≤p.Age∧p.Age≤100)
  (hn:q1e p.Name=some true) (hnd:JD p.Need=some 0) (hx:p.Exclude=[]∨∃a b,p.Exclude=[q00.mk a b]∧q0Z a=true∧q0Z b=true∧qtM a b<0):q0a p=some 0:=by
 have hex:p.Exclude.length≤1:=by
  rcases hx with e|⟨a,b,e,-⟩<;>rw[e]
  ·exact qPi _
  ·exact qP8 _
 have hend:QW p p.Exclude ((p.Exclude.length:Nat):Int) ((p.Exclude.length:Nat):Int)=some (.inr (.inr ())):=by
  unfold QW
  rw[if_neg (by omega)]
 have hloop:zB (QW p p.Exclude ((p.Exclude.length:Nat):Int)) (0:Int)=some (.inr ()):=by
  rcases hx with e|⟨a,b,e,ma,mb,hlt⟩
  ·rw[e] at hend ⊢
   exact zA hend
  ·have e1:QW p p.Exclude ((p.Exclude.length:Nat):Int) (0:Int)=some (.inl 1):=by
    unfold QW
    rw[e]
    show(if(0:Int)<1 then _ else _)=_
    rw[if_pos (by decide),if_pos ⟨by simp,by simp⟩]
    show Option.bind (some (q00.mk a b)) _=_
    rw[qOS]
    dsimp only
    rw[qfB,qOS,qfB,qOS,ma,mb,qaD,qOS]
    rw[if_neg (by decide),if_neg (by decide),if_neg (by omega),if_pos ⟨by simp,by simp⟩,q75 _ (by simp),qOS]
    rfl
   rw[Q1 e1]
   have:((p.Exclude.length:Nat):Int)=1:=by rw[e];rfl
   rw[this] at hend ⊢
   exact zA hend
 unfold q0a
 rw[qhv (n:=p.School) (a:=1) (b:=8) hs.1 hs.2,qhv (n:=p.Id) (a:=1) (b:=999999) hi.1 hi.2,qhv (n:=p.Version) (a:=1) (b:=20) hv.1 hv.2,qhv (n:=p.From) (a:=0) (b:=100000) hf.1 hf.2,qhv (n:=p.Total) (a:=0) (b:=600) ht.1 ht.2,qhv (n:=p.Own) (a:=0) (b:=600) ho.1 ho.2,qhv (n:=p.Age) (a:=0) (b:=100) ha.1 ha.2,hn]
 simp only[Bool.not_true,Bool.false_eq_true,if_false,qOS]
 rw[hnd,qOS,if_neg (by decide),if_neg (by omega),hloop]
 rfl
theorem qir {p:qe} (h:qyl p):q0a p=some 0:=by
 have hs:=h.sch;have hi:=h.id;have hv:=h.ver;have hf:=h.frm;have ht:=h.tot;have ho:=h.own
 have ha:0≤p.Age∧p.Age≤5:=by
  have:p.Age=0∨p.Age=2∨p.Age=5:=by have:=h.age;simpa using this
  omega
 refine qtA ⟨by omega,by omega⟩ ⟨by omega,by omega⟩ ⟨by omega,by omega⟩ ⟨by omega,by omega⟩ ⟨by omega,by omega⟩ ⟨by omega,by omega⟩ ⟨by omega,by omega⟩ (qkg h.nam) (qdP h.need) ?_
 rcases h.ex with e|⟨a,b,e,ma,mb,hp⟩
 ·exact .inl e
 ·refine .inr ⟨a,b,e,qaO ma,qaO mb,?_⟩
  have:=qk5 a b
  rw[hp] at this
  simpa using this.symm
theorem qkW {p:qe} (h:qyl p) {s:qg} (hs:qd1 s=true):Qs p s=some 0:=by
 unfold Qs
 rw[qir h,qOS,if_neg (by decide),q61,hs];rfl
end
noncomputable section
open Go.RowKit
set_option maxRecDepth 100000
def qo8 (W:Nat):Nat→List (List Int)
 | 0=>[[]]
 | m+1=>(qo8 W m).flatMap fun t=>(List.range (W+1)).map fun(i:Nat)=>((i:Int)-1)::t
theorem qg4 (W:Nat):∀(lf:List Int),(∀y∈lf,-1≤y∧y<(W:Int))→lf∈qo8 W lf.length
 | [],_=>qPJ.2 rfl
 | y::lf,h=>by
  rw[qP3,qo8,List.mem_flatMap]
  have hy:=h y qP7
  refine⟨lf,qg4 W lf fun z hz=>h z (qP0 _ hz),qPD.2 ⟨(y+1).toNat,qPP.2 (show(y+1).toNat<W+1 by omega),?_⟩⟩
  rw[show(((y+1).toNat:Nat):Int)-1=y by omega]
def qES (p:qe) (s:qg) (all:List qa) (day:Int) (X:Nat) (lf:List Int):Bool:=
 qdt p (Qu X.testBit all) day&&decide (lf.length=rkF X.testBit all.length)&&(lf.all fun y=>decide (-1≤y)&&decide (y<(lvN p.Need:Int)))&&qgY p.Need s (Qu X.testBit all) lf
theorem qo3 {p:qe} {s:qg} {all:List qa} {day:Int} {X:Nat} {lf:List Int}:qES p s all day X lf=true↔qdt p (Qu X.testBit all) day=true∧Perm p.Need s all X lf:=by
 unfold qES
 rw[qPo,qPo,qPo,qPS,qP9]
 constructor
 ·rintro⟨⟨⟨h1,h2⟩,h3⟩,h4⟩
  refine⟨h1,h2,fun j y hy=>?_,h4⟩
  have:=h3 y (qOT hy)
  rw[qPo,qPS,qPS] at this
  exact this
 ·rintro⟨h1,h2,h3,h4⟩
  refine⟨⟨⟨h1,h2⟩,fun y hy=>?_⟩,h4⟩
  obtain⟨j,hj⟩:=List.getElem?_of_mem hy
  have:=h3 j y hj
  rw[qPT this.1,qPT this.2];rfl
def qmS (p:qe) (s:qg) (all:List qa) (day:Int) (q:Nat→List Int→Bool):Bool:=
 (List.range (2 ^ all.length)).all fun Y=>(qo8 (lvN p.Need) (rkF Y.testBit all.length)).all fun lf => !qES p s all day Y lf||q Y lf
theorem qkb {p:qe} {s:qg} {all:List qa} {day:Int} {q:Nat→List Int→Bool} (h:qmS p s all day q=true) {Y:Nat} {lf:List Int} (hY:Y<2 ^ all.length) (ht:qdt p (Qu Y.testBit all) day=true) (hp:Perm p.Need s all Y lf):q Y lf=true:=by
 have h1:=qP9.1 h Y (qPP.2 hY)
 have hm:lf∈qo8 (lvN p.Need) (rkF Y.testBit all.length):=by
  rw[←hp.len]
  refine qg4 _ _ fun y hy=>?_
  obtain⟨j,hj⟩:=List.getElem?_of_mem hy
  exact hp.rng j y hj
 have h2:=qP9.1 h1 lf hm
 rw[qo3.2 ⟨ht,hp⟩] at h2
 simpa using h2
def qJw (N X:Nat) (w:List Int) (Y:Nat) (lf:List Int):Bool:=slL (q3C N X) (q3C N Y)||(X==Y&&(w==lf||q4u w lf))
def qy4 (p:qe) (s:qg) (l:List qa) (day:Int) (X:Nat) (w:List Int):Bool:=
 decide ((Qu (mO p day l) l).length≤10)&&decide (X<2 ^ (Qu (mO p day l) l).length)&&qES p s (Qu (mO p day l) l) day X w&&qmS p s (Qu (mO p day l) l) day (qJw (Qu (mO p day l) l).length X w)
theorem qwn {p:qe} {l:List qa} (h:Grd p l) (hl:l.length≤1000) (s:qg) (hck:Qs p s=some 0) (day:Int) {X:Nat} {w:List Int} (hg:qy4 p s l day X w=true):zN p s l day=some (⟨Qu X.testBit (q5E l.length (mO p day l)),w⟩,0):=by
 unfold qy4 at hg
 rw[qPo,qPo,qPo,qPS,qPS] at hg
 obtain⟨⟨⟨h1,h2⟩,h3⟩,h4⟩:=hg
 obtain⟨ht,hp⟩:=qo3.1 h3
 rcases qcN h hl s hck day with ⟨g1,-⟩|⟨-,-,g2⟩|⟨-,Y,v,g1,g2⟩
 ·omega
 ·exact absurd hp (g2 X w h2 ht)
 ·have a1:=qkb h4 g2.lt g2.tog g2.perm
  unfold qJw at a1
  rw[qPn,qPo,qPn,beq_iff_eq,beq_iff_eq] at a1
  have a2:=g2.min X w h2 ht hp
  have hsl:∀A B,slL A B=true→slL B A=true→False:=fun A B u v=>by
   have:=q9d u v
   rw[q8A] at this;cases this
  have hxl:∀A B,q4u A B=true→q4u B A=true→False:=fun A B u v=>by
   have:=q42 u v
   rw[qc1] at this;cases this
  have key:Y=X∧v=w:=by
   rcases a1 with a1|⟨e,a1⟩
   ·rcases a2 with a2|⟨e,a2⟩
    ·exact(hsl _ _ a1 a2).elim
    ·subst e;rw[q8A] at a1;cases a1
   ·subst e
    rcases a2 with a2|⟨-,a2⟩
    ·rw[q8A] at a2;cases a2
    ·rcases a1 with e|a1
     ·exact⟨rfl,e.symm⟩
     ·rcases a2 with e|a2
      ·exact⟨rfl,e⟩
      ·exact(hxl _ _ a1 a2).elim
  obtain⟨rfl,rfl⟩:=key
  exact g1
def qHu (p:qe) (s:qg) (l:List qa) (day:Int):Bool:=decide ((Qu (mO p day l) l).length≤10)&&qmS p s (Qu (mO p day l) l) day fun _ _=>false
theorem qDw {p:qe} {l:List qa} (h:Grd p l) (hl:l.length≤1000) (s:qg) (hck:Qs p s=some 0) (day:Int) (hg:qHu p s l day=true):zN p s l day=some (⟨[],[]⟩,31):=by
 unfold qHu at hg
 rw[qPo,qPS] at hg
 rcases qcN h hl s hck day with ⟨g1,-⟩|⟨-,g1,-⟩|⟨-,Y,v,-,g2⟩
 ·omega
 ·exact g1
 ·have:=qkb hg.2 g2.lt g2.tog g2.perm
  cases this
theorem qgN (u:qI) (h1:u.Taken.length≤1000) (h2:u.Leaf.length≤1000):q1g u u=some true:=by
 have e1:=qc6 (step:=q09 u u) u.Taken (fun _=>true) (.inl ()) (.inr ()) (fun i a ha=>by
  have hi:=Jf ha
  unfold q09
  rw[if_pos (by omega),if_pos ⟨by omega,by omega⟩,qOV,ha,qOS,if_pos ⟨by omega,by omega⟩,qOS,if_neg (by simp),q4n hi (by omega)]
  rfl) (by
  unfold q09
  rw[if_neg (by omega)])
 have e2:=qc6 (step:=q0b u u) u.Leaf (fun _=>true) (.inl ()) (.inr ()) (fun i a ha=>by
  have hi:=Jf ha
  unfold q0b
  rw[if_pos (by omega),if_pos ⟨by omega,by omega⟩,qOV,ha,qOS,if_pos ⟨by omega,by omega⟩,qOS,if_neg (by simp),q4n hi (by omega)]
  rfl) (by
  unfold q0b
  rw[if_neg (by omega)])
 have ht:∀l:List Int,(l.all fun _=>true)=true:=fun l=>by simp
 rw[ht,if_pos rfl] at e1 e2
 unfold q1g
 rw[if_neg (by simp),if_neg (by simp),e1,qOS,Sum.elim_inr,e2,qOS,Sum.elim_inr]
end
noncomputable section
open Go.RowKit
set_option maxRecDepth 100000
abbrev cA1:qc:=qc.mk 1 (ByteArray.mk (List.toArray [65,49]))
abbrev cB1:qc:=qc.mk 1 (ByteArray.mk (List.toArray [66,49]))
abbrev mus:ByteArray:=ByteArray.mk (List.toArray [77,117,115,105,99])
abbrev nEx:qb:=qb.mk 1 0 60 [cA1,cB1] []
abbrev pEx (total age:Int) (x:List (q00 qc)):qe:=qe.mk 1 1 1 0 mus nEx total 0 age x
abbrev lEx:List qa:=[qa.mk cA1 5 55 100 [1000001] 0 [],qa.mk cB1 5 60 100 [1000002] 0 [],qa.mk cA1 6 80 100 [1000003] 0 []]
abbrev scP:qg:=⟨0,100,50⟩
theorem qjV:zj 1=scP:=by unfold zj;rfl
theorem q5l (t:Int):ZB t=some (pEx t 0 [],lEx):=by
 unfold ZB
 rw[Q1 (y:=([qa.mk cA1 5 55 100 [1000001] 0 []],1)) (by rfl),Q1 (y:=([qa.mk cA1 5 55 100 [1000001] 0 [],qa.mk cB1 5 60 100 [1000002] 0 []],2)) (by rfl),Q1 (y:=(lEx,3)) (by rfl),zA (e:=lEx) (by rfl)]
 rfl
def qJS (n:qb):Bool:=decide (hgN n≤100)&&decide ((ndN n).length≤9999)&&(ndN n).all (fun y=>decide (y.Set.length≤1000000))&&qeg n==0
theorem qB6 {n:qb} (h:qJS n=true):Rgt n:=by
 unfold qJS at h
 simp only[qPo,qPS,qP9,beq_iff_eq] at h
 exact⟨⟨h.1.1.1,h.1.1.2,h.1.2⟩,h.2⟩
theorem qad:Rgt nEx:=qB6 (by kernel_rfl)
theorem qAg:JD nEx=some 0:=by
 rw[q9w nEx qad.sz.hg qad.sz.nd qad.sz.st]
 exact congrArg some qad.ck
theorem qwM:∀b∈lEx,q8c b:=fun b hb=>by
 simp only[qPe,List.mem_nil_iff,or_false] at hb
 rcases hb with rfl|rfl|rfl<;>exact⟨by decide,by decide⟩
theorem qmr (t a:Int) (x:List (q00 qc)) (hx:x.length≤1000):Grd (pEx t a x) lEx:=⟨qad,hx,qwM⟩
theorem qy2 (t a:Int) (ht:0≤t∧t≤600) (ha:0≤a∧a≤100) (x:List (q00 qc)) (hx:x=[]∨x=[q00.mk cA1 cB1]):Qs (pEx t a x) scP=some 0:=by
 unfold Qs
 rw[qtA (p:=pEx t a x) (show(1:Int)≤1∧(1:Int)≤8 by decide) (show(1:Int)≤1∧(1:Int)≤999999 by decide) (show(1:Int)≤1∧(1:Int)≤20 by decide) (show(0:Int)≤0∧(0:Int)≤100000 by decide) ht (show(0:Int)≤0∧(0:Int)≤600 by decide) ha (qkg (s:=mus) (by simp[nmL])) qAg (by
  rcases hx with e|e
  ·exact .inl e
  ·exact .inr ⟨cA1,cB1,e,by kernel_rfl,by kernel_rfl,of_decide_eq_true (by kernel_rfl)⟩),qOS,if_neg (by decide),q61]
 rfl
theorem q9T (t a:Int) (ht:0≤t∧t≤600) (ha:0≤a∧a≤100) (x:List (q00 qc)) (hx:x=[]∨x=[q00.mk cA1 cB1]) (X:Nat) (w tk:List Int) (hg:qy4 (pEx t a x) scP lEx 500 X w=true) (hk:Qu X.testBit (q5E lEx.length (mO (pEx t a x) 500 lEx))=tk) (h1:tk≠[]) (h2:tk.length≤10) (h3:w.length≤10):zh (pEx t a x) lEx tk w=some true:=by
 unfold zh
 have hxl:x.length≤1000:=by rcases hx with e|e<;>rw[e]<;>decide
 rw[qjV,qwn (qmr t a x hxl) (by decide) scP (qy2 t a ht ha x hx) 500 hg,qOS,hk]
 have hl:tk.length≠0:=fun e=>h1 (qPb e)
 dsimp only
 rw[if_neg (by simpa using h1),if_pos (by decide),qgN _ (by show tk.length≤1000;omega) (by show w.length≤1000;omega),qOS]
theorem qnp (t a:Int) (ht:0≤t∧t≤600) (ha:0≤a∧a≤100) (hg:qHu (pEx t a []) scP lEx 500=true):zh (pEx t a []) lEx [] []=some true:=by
 unfold zh
 rw[qjV,qDw (qmr t a [] (by decide)) (by decide) scP (qy2 t a ht ha [] (.inl rfl)) 500 hg,qOS]
 rfl
theorem qNk:zh (pEx 11 0 []) lEx [1,2] [-1,0]=some true:=q9T 11 0 (by decide) (by decide) [] (.inl rfl) 6 [-1,0] [1,2] (by kernel_rfl) (by kernel_rfl) (by decide) (by decide) (by decide)
theorem qMT:zh (pEx 10 0 []) lEx [0,1] [-1,0]=some true:=q9T 10 0 (by decide) (by decide) [] (.inl rfl) 3 [-1,0] [0,1] (by kernel_rfl) (by kernel_rfl) (by decide) (by decide) (by decide)
theorem qMx:zh (pEx 5 0 []) lEx [1] [0]=some true:=q9T 5 0 (by decide) (by decide) [] (.inl rfl) 2 [0] [1] (by kernel_rfl) (by kernel_rfl) (by decide) (by decide) (by decide)
theorem qKJ:zh (pEx 0 0 []) lEx [1] [0]=some true:=q9T 0 0 (by decide) (by decide) [] (.inl rfl) 2 [0] [1] (by kernel_rfl) (by kernel_rfl) (by decide) (by decide) (by decide)
theorem qLV:zh (pEx 12 0 []) lEx [] []=some true:=qnp 12 0 (by decide) (by decide) (by kernel_rfl)
theorem qNJ:zh (pEx 11 3 []) lEx [] []=some true:=qnp 11 3 (by decide) (by decide) (by kernel_rfl)
theorem qLe:zh (pEx 6 0 [q00.mk cA1 cB1]) lEx [2] [0]=some true:=q9T 6 0 (by decide) (by decide) _ (.inr rfl) 4 [0] [2] (by kernel_rfl) (by kernel_rfl) (by decide) (by decide) (by decide)
theorem qnS (tk lf:List Int) (r:Int) (hv:∀(j:Nat) (y:Int),lf[j]?=some y → -1≤y∧y<(lvN nEx:Int)) (hr:(if qGq (pEx 11 0 []) lEx 500 (fun L=>qgY nEx scP L lf) ⟨tk,lf⟩=true then 0 else 32)=r):qX (pEx 11 0 []) scP lEx 500 ⟨tk,lf⟩=some r:=by
 rw[qBW (qmr 11 0 [] (by decide)) (by decide) scP (qy2 11 0 (by decide) (by decide) [] (.inl rfl)) 500 ⟨tk,lf⟩ (fun L=>qgY nEx scP L lf) (fun L h1 h2=>qof qad h2 scP lf h1.symm hv),hr]
theorem qmW (a b:Int) (ha : -1≤a∧a<1) (hb : -1≤b∧b<1):∀(j:Nat) (y:Int),[a,b][j]?=some y → -1≤y∧y<(lvN nEx:Int)
 | 0,y,h=>by injection h with h;subst h;exact ha
 | 1,y,h=>by injection h with h;subst h;exact hb
 | j+2,y,h=>by cases h
theorem qMV:qX (pEx 11 0 []) scP lEx 500 ⟨[1,2],[0,-1]⟩=some 0:=qnS _ _ _ (qmW 0 (-1) (by decide) (by decide)) (by kernel_rfl)
theorem qL8:qX (pEx 11 0 []) scP lEx 500 ⟨[1,2],[0,0]⟩=some 32:=qnS _ _ _ (qmW 0 0 (by decide) (by decide)) (by kernel_rfl)
theorem qH0:qX (pEx 11 0 []) scP lEx 500 ⟨[0,2],[-1,0]⟩=some 32:=qnS _ _ _ (qmW (-1) 0 (by decide) (by decide)) (by kernel_rfl)
theorem qMt:ZS (pEx 11 3 []) (qa.mk cA1 5 55 100 [1000001] 0 []) 500=some true:=by kernel_rfl
theorem qLK:ZS (pEx 11 0 []) (qa.mk cA1 5 55 100 [1000001] 0 []) 500=some false:=by kernel_rfl
theorem qGQ:q1w ⟨[1],[0]⟩ ⟨[1],[0]⟩=some true:=by
 unfold q1w JU
 rw[qd3 _ _ (by decide),qd3 _ _ (by decide)]
 rfl
theorem qiL:q1N=some true:=by
 have h1:=qNk;have h2:=qMT;have h3:=qMx;have h4:=qKJ;have h5:=qLV;have h6:=qNJ;have h7:=qLe
 have h8:=qMV;have h9:=qL8;have h10:=qH0;have h11:=qMt;have h12:=qLK;have h13:=qGQ
 unfold q1N
 rw[q5l,qOS,q5l,qOS,q5l,qOS,q5l,qOS,q5l,qOS]
 dsimp only
 rw[h1,qOS,if_pos rfl,h2,qOS,if_pos rfl,h3,qOS,if_pos rfl,h4,qOS,if_pos rfl,h5,qOS,if_pos rfl,h6,qOS,if_pos rfl,h7,qOS,qjV,h8,qOS,if_pos (by decide),h9,qOS,if_pos (by decide),h10,qOS,if_pos rfl,if_pos (by decide)]
 rw[if_pos (by decide)]
 show Option.bind (some _) _=_
 rw[qOS]
 rw[h11]
 simp only[qOS,if_true]
 rw[if_pos (by decide)]
 show Option.bind (some _) _=_
 rw[qOS,h12]
 simp only[qOS]
 rw[h13]
 rfl
end
noncomputable section
open Go.RowKit
structure qd5 (a:qa):Prop where
 src:a.Sources.length=1
 pth:a.Path.length≤1
 crd:3≤a.Credits∧a.Credits≤10
 day:0≤a.Day∧a.Day≤600
theorem qGK (cs:List qc) (hc:1≤cs.length) (hc2:cs.length≤1000) (many:Int) (hm:many≤7) (l:List qa) (k:Nat) (hl:l.length=k) (hs:∀a∈l,qd5 a) (hk:(k:Int)<many) {d:qi} (hd:q0x d) :
  ∃a d',qd5 a∧q0x d'∧Zl cs many (l,d,(k:Int))=some (.inl (l++[a],d',((k+1:Nat):Int))):=by
 have hML:100000≤maxLen:=by unfold maxLen;omega
 obtain⟨v1,d1,e1,a1,b1,h1⟩:=qlF hd (most:=((cs.length:Nat):Int)) (by omega) (by omega)
 obtain⟨c,hc1,_⟩:=qlP cs v1 a1 b1
 obtain⟨v2,d2,e2,a2,b2,h2⟩:=qlF h1 (most:=4) (by omega) (by omega)
 obtain⟨cr,hcr,mcr⟩:=qlP [(5:Int),6,10,3] v2 a2 (by simpa using b2)
 obtain⟨v3,d3,e3,a3,b3,h3⟩:=qlF h2 (most:=7) (by omega) (by omega)
 obtain⟨gr,hgr,_⟩:=qlP [(50:Int),60,90,40,100,79,80] v3 a3 (by simpa using b3)
 obtain⟨v4,d4,e4,a4,b4,h4⟩:=qlF h3 (most:=600) (by omega) (by omega)
 obtain⟨v5,d5,e5,a5,b5,h5⟩:=qlF h4 (most:=8) (by omega) (by omega)
 have hw:w64 ((k:Int)+1)=((k+1:Nat):Int):=by rw[Z5 (by omega) (by omega)];omega
 have hcr2:3≤cr∧cr≤10:=by
  have:cr=5∨cr=6∨cr=10∨cr=3:=by simpa using mcr
  omega
 have hok:∀x,qd5 ⟨c,cr,gr,v4,[x],0,[]⟩:=fun x=>⟨rfl,qPi _,hcr2,⟨a4,by show v4≤600;omega⟩⟩
 by_cases hz:v5=0∧0<k
 ·have hwk:w64 ((k:Int)-1)=((k-1:Nat):Int):=by rw[Z5 (by omega) (by omega)];omega
  obtain⟨p,hp⟩:∃p,l[k-1]?=some p:=⟨_,qOU (by omega)⟩
  have hps:=(hs p (qOT hp)).src
  obtain⟨x,hx⟩:∃x,p.Sources[0]?=some x:=⟨_,qOU (by omega)⟩
  refine⟨⟨c,cr,gr,v4,[x],0,[]⟩,d5,hok x,h5,?_⟩
  unfold Zl
  simp only
  rw[if_pos hk,e1,qOS]
  simp only
  rw[if_pos ⟨a1,b1⟩,hc1,qOS,e2,qOS]
  simp only
  rw[if_pos ⟨a2,b2⟩,hcr,qOS,e3,qOS]
  simp only
  rw[if_pos ⟨a3,b3⟩,hgr,qOS,e4,qOS]
  simp only
  rw[e5,qOS]
  simp only
  rw[if_pos (by simp[hz.1]),if_pos (by omega),hwk,if_pos ⟨by omega,by omega⟩,qOV,hp,qOS,if_pos (by omega),hx,qOS,if_pos ⟨by omega,by omega⟩,hw]
 ·refine⟨⟨c,cr,gr,v4,[w64 (w64 (w64 ((1000000:Int)*c.School)+(k:Int))+(1:Int))],0,[]⟩,d5,hok _,h5,?_⟩
  unfold Zl
  simp only
  rw[if_pos hk,e1,qOS]
  simp only
  rw[if_pos ⟨a1,b1⟩,hc1,qOS,e2,qOS]
  simp only
  rw[if_pos ⟨a2,b2⟩,hcr,qOS,e3,qOS]
  simp only
  rw[if_pos ⟨a3,b3⟩,hgr,qOS,e4,qOS]
  simp only
  rw[e5,qOS]
  simp only
  by_cases h0:v5=0
  ·rw[if_pos (by simp[h0]),if_neg (by omega),if_pos ⟨by omega,by omega⟩,hw]
  ·rw[if_neg (by simpa using h0),if_pos ⟨by omega,by omega⟩,hw]
theorem qI9 (cs:List ByteArray) (hc:1≤cs.length) (hc2:cs.length≤1000) (many:Int) (hm:many≤7) (l:List qa) (k:Nat) (hl:l.length=k) (hk:(k:Int)<many) {d:qi} (hd:q0x d) :
  ∃a d',qd5 a∧q0x d'∧ZC many cs (l,d,(k:Int))=some (.inl (l++[a],d',((k+1:Nat):Int))):=by
 have hML:100000≤maxLen:=by unfold maxLen;omega
 obtain⟨v1,d1,e1,a1,b1,h1⟩:=q2r hd (most:=5) (by omega) (by omega)
 obtain⟨sc,hsc,_⟩:=qlP [(1:Int),1,1,2,3] v1 a1 (by simpa using b1)
 obtain⟨v2,d2,e2,a2,b2,h2⟩:=q2r h1 (most:=((cs.length:Nat):Int)) (by omega) (by omega)
 obtain⟨c,hc1,_⟩:=qlP cs v2 a2 b2
 obtain⟨v3,d3,e3,a3,b3,h3⟩:=q2r h2 (most:=3) (by omega) (by omega)
 obtain⟨cr,hcr,mcr⟩:=qlP [(5:Int),6,10] v3 a3 (by simpa using b3)
 obtain⟨v4,d4,e4,a4,b4,h4⟩:=q2r h3 (most:=11) (by omega) (by omega)
 obtain⟨v5,d5,e5,a5,b5,h5⟩:=q2r h4 (most:=12) (by omega) (by omega)
 obtain⟨v6,d6,e6,a6,b6,h6⟩:=q2r h5 (most:=4) (by omega) (by omega)
 obtain⟨v7,d7,e7,a7,b7,h7⟩:=q2r h6 (most:=2) (by omega) (by omega)
 obtain⟨v8,d8,e8,a8,b8,h8⟩:=q2r h7 (most:=3) (by omega) (by omega)
 have hw:w64 ((k:Int)+1)=((k+1:Nat):Int):=by rw[Z5 (by omega) (by omega)];omega
 have hcr2:3≤cr∧cr≤10:=by
  have:cr=5∨cr=6∨cr=10:=by simpa using mcr
  omega
 have wd:w64 (50*v5)=50*v5:=Z5 (by omega) (by omega)
 have hd5:0≤w64 (50*v5)∧w64 (50*v5)≤600:=by rw[wd];omega
 unfold ZC
 simp only
 rw[if_pos hk,e1,qOS]
 simp only
 rw[if_pos ⟨a1,b1⟩,hsc,qOS,e2,qOS]
 simp only
 rw[if_pos ⟨a2,b2⟩,hc1,qOS,e3,qOS]
 simp only
 rw[if_pos ⟨a3,b3⟩,hcr,qOS,e4,qOS]
 simp only
 rw[e5,qOS]
 simp only
 rw[e6,qOS]
 simp only
 by_cases h0:v6=0
 ·rw[if_pos (by simp[h0]),e7,qOS]
  simp only
  rw[e8,qOS]
  simp only
  rw[if_pos ⟨by omega,by omega⟩,hw]
  exact⟨_,_,⟨rfl,qP8 _,hcr2,hd5⟩,h8,rfl⟩
 ·rw[if_neg (by simpa using h0),if_pos ⟨by omega,by omega⟩,hw]
  exact⟨_,_,⟨rfl,qPi _,hcr2,hd5⟩,h6,rfl⟩
theorem qaz {many:Nat} {F:(List qa×qi×Int)→Option ((List qa×qi×Int)⊕(List qa))}
  (hr:∀(l:List qa) (k:Nat) (d:qi),l.length=k→(∀a∈l,qd5 a)→k<many→q0x d→∃a d',qd5 a∧q0x d'∧F (l,d,(k:Int))=some (.inl (l++[a],d',((k+1:Nat):Int))))
  (he:∀l d,F (l,d,(many:Int))=some (.inr l)):∀(j k:Nat) (l:List qa) (d:qi),j+k=many→l.length=k→(∀a∈l,qd5 a)→q0x d→∃l',zB F (l,d,(k:Int))=some l'∧l'.length=many∧∀a∈l',qd5 a
 | 0,k,l,d,hk,hl,hs,hd=>by
  obtain rfl:k=many:=by omega
  exact⟨l,zA (he l d),hl,hs⟩
 | j+1,k,l,d,hk,hl,hs,hd=>by
  obtain⟨a,d',q1,q2,q3⟩:=hr l k d hl hs (by omega) hd
  rw[Q1 q3]
  refine qaz hr he j (k+1) (l++[a]) d' (by omega) (by simp[hl]) (fun x hx=>?_) q2
  rcases qPm.1 hx with h|h
  ·exact hs x h
  ·rw[qPJ.1 h];exact q1
theorem qoO {n:qb} (h:q6b 3 6 n) (q:List Int) (hq:q.length≤9223372036854775807):∃l,q3t n q=some l∧l.length≤7∧∀a∈l,qd5 a:=by
 obtain⟨cs,g1,g2⟩:=qlG h
 obtain⟨v,d,e1,a1,b1,h1⟩:=qlF (d:=⟨q,0⟩) ⟨by show(0:Int)≤0;omega,by show(0:Int)≤(q.length:Int);omega,hq⟩ (most:=8) (by omega) (by omega)
 have hML:100000≤maxLen:=by unfold maxLen;omega
 obtain⟨m,rfl⟩:∃m:Nat,v=(m:Int):=⟨v.toNat,by omega⟩
 obtain⟨l',k1,k2,k3⟩:=qaz (many:=m) (F:=Zl (cs++[qc.mk (1:Int) (ByteArray.mk (List.toArray [90]))]) (m:Int)) (fun l k d hl hs hk hd=>qGK _ (by simp) (by simp;omega) (m:Int) (by omega) l k hl hs (by omega) hd) (fun l d=>by
  unfold Zl
  simp only
  rw[if_neg (by omega)]) m 0 [] d (by omega) rfl (fun a ha=>by cases ha) h1
 refine⟨l',?_,by omega,k3⟩
 unfold q3t
 rw[g1,qOS,if_pos ⟨by omega,by omega⟩,e1,qOS]
 simp only
 change Option.bind (zB _ ([],d,((0:Nat):Int))) _=_
 rw[k1];rfl
theorem qmm (q:List Int) (hq:q.length≤9223372036854775807):∃l,q3r q=some l∧l.length≤7∧∀a∈l,qd5 a:=by
 obtain⟨v,d,e1,a1,b1,h1⟩:=q2r (d:=⟨q,0⟩) ⟨by show(0:Int)≤0;omega,by show(0:Int)≤(q.length:Int);omega,hq⟩ (most:=8) (by omega) (by omega)
 obtain⟨m,rfl⟩:∃m:Nat,v=(m:Int):=⟨v.toNat,by omega⟩
 obtain⟨l',k1,k2,k3⟩:=qaz (many:=m) (F:=ZC (m:Int) Q6) (fun l k d hl hs hk hd=>qI9 _ (by decide) (by decide) (m:Int) (by omega) l k hl (by omega) hd) (fun l d=>by
  unfold ZC
  simp only
  rw[if_neg (by omega)]) m 0 [] d (by omega) rfl (fun a ha=>by cases ha) h1
 refine⟨l',?_,by omega,k3⟩
 unfold q3r
 rw[e1,qOS]
 simp only
 change Option.bind (zB _ ([],d,((0:Nat):Int))) _=_
 rw[k1];rfl
end
noncomputable section
open Go.RowKit
set_option maxRecDepth 100000
theorem qnL {α:Type} (ds:List α) (o s:Nat):ds.drop o=(ds.drop o).take s++ds.drop (o+s):=by
 rw[←qPG];exact(qPH s _).symm
theorem qmF {X:Type} {E:X→List D} {W:X→Prop} {sz:Nat} (hz:0<sz):∀(m:Nat) (es:List D),es.length=m*sz→(∀i,i<m→∃x,(es.drop (i*sz)).take sz=E x∧W x)→∃l:List X,es=l.flatMap E∧l.length=m∧∀x∈l,W x
 | 0,es,hl,_=>⟨[],by rw[Nat.zero_mul] at hl;exact qPb hl,rfl,by simp⟩
 | m+1,es,hl,h=>by
  obtain⟨x,hx,wx⟩:=h 0 (by omega)
  obtain⟨l,g1,g2,g3⟩:=qmF hz m (es.drop sz) (by rw[qPF,hl,Nat.add_mul];omega) fun i hi=>by
   obtain⟨y,hy,wy⟩:=h (i+1) (by omega)
   refine⟨y,?_,wy⟩
   rw[qPG,show sz+i*sz=(i+1)*sz by rw[Nat.add_mul,Nat.one_mul,Nat.add_comm]];exact hy
  refine⟨x::l,?_,by simp[g2],fun y hy=>?_⟩
  ·rw[Nat.zero_mul,List.drop_zero] at hx
   rw[qPX,←g1,←hx,qPH]
  ·rcases qPe.1 hy with rfl|hy
   ·exact wx
   ·exact g3 y hy
abbrev qHs:List TypeId:=[25,22,3,23,5,4,63,62,60,59]
theorem qtt:qIO Tryz.prog qHs=true:=by kernel_rfl
theorem ty3:∀(n:Nat) (ds:List D),q4X Tryz.prog n 3 ds→∃v:Int,ds=[D.int .i64 v]∧(Lit.int .i64 v).wf=true:=by
 intro n ds h
 cases n with
 | zero=>exact h.elim
 | succ n=>
  unfold q4X at h
  rw[Tryz.underlying3] at h
  obtain⟨z,h1,h2⟩:=h
  exact⟨z,h1,h2⟩
theorem cz3:Tryz.prog.cellsOf 3=1:=by kernel_rfl
theorem qJL:∀(n:Nat) (ds:List D),q4X Tryz.prog n 22 ds→∃v:List Int,ds=[D.sl 1 v.length (v.flatMap eI)]∧(v.length≤maxLen∧∀y∈v,(Lit.int .i64 y).wf=true):=by
 intro n ds h
 cases n with
 | zero=>exact h.elim
 | succ n=>
  unfold q4X at h
  rw[Tryz.underlying22] at h
  obtain⟨m,es,h1,h2,h3,h4⟩:=h
  rw[cz3] at h1 h3 h4
  obtain⟨l,g1,g2,g3⟩:=qmF (E:=eI) (W:=fun y=>(Lit.int .i64 y).wf=true) (sz:=1) (by decide) m es h3 fun i hi=>by
   obtain⟨v,q1,q2⟩:=ty3 n _ (h4 i hi)
   exact⟨v,q1.trans (rfl),q2⟩
  refine⟨l,?_,by omega,g3⟩
  rw[h1,g1,g2]
theorem qN8:∀(n:Nat) (ds:List D),q4X Tryz.prog n 23 ds→∃v:Int,ds=[D.int .u16 v]∧(Lit.int .u16 v).wf=true:=by
 intro n ds h
 cases n with
 | zero=>exact h.elim
 | succ n=>
  unfold q4X at h
  rw[Tryz.underlying23] at h
  obtain⟨z,h1,h2⟩:=h
  exact⟨z,h1,h2⟩
theorem qKv:Tryz.prog.cellsOf 22=1:=by kernel_rfl
theorem qLa:Tryz.prog.cellsOf 23=1:=by kernel_rfl
theorem qNG:Tryz.prog.cellsOf 25=3:=by kernel_rfl
def q6U (x:q0c):Prop:=(x.Programme.length≤maxLen∧∀y∈x.Programme,(Lit.int .i64 y).wf=true)∧(x.Had.length≤maxLen∧∀y∈x.Had,(Lit.int .i64 y).wf=true)∧(Lit.int .u16 x.Day).wf=true
theorem ty25:∀(n:Nat) (ds:List D),q4X Tryz.prog n 25 ds→∃v:q0c,ds=[D.sl 1 v.Programme.length (v.Programme.flatMap eI),D.sl 1 v.Had.length (v.Had.flatMap eI),D.int .u16 v.Day]∧q6U v:=by
 intro n ds h
 cases n with
 | zero=>exact h.elim
 | succ n=>
  unfold q4X at h
  rw[Tryz.underlying25] at h
  obtain⟨hl,hf⟩:=h
  rw[qNG] at hl
  have h0:q4X Tryz.prog n 22 ((ds.drop 0).take (Tryz.prog.cellsOf 22)):=hf _ (qOT (i:=0) rfl)
  rw[qKv] at h0
  obtain⟨v0,e0,w0⟩:=qJL _ _ h0
  have c0:=qnL ds 0 1
  rw[e0] at c0
  have h1:q4X Tryz.prog n 22 ((ds.drop 1).take (Tryz.prog.cellsOf 22)):=hf _ (qOT (i:=1) rfl)
  rw[qKv] at h1
  obtain⟨v1,e1,w1⟩:=qJL _ _ h1
  have c1:=qnL ds 1 1
  rw[e1] at c1
  have h2:q4X Tryz.prog n 23 ((ds.drop 2).take (Tryz.prog.cellsOf 23)):=hf _ (qOT (i:=2) rfl)
  rw[qLa] at h2
  obtain⟨v2,e2,w2⟩:=qN8 _ _ h2
  have c2:=qnL ds 2 1
  rw[e2] at c2
  have cl:ds.drop 3=[]:=qPz (by omega)
  refine⟨⟨v0,v1,v2⟩,?_,⟨w0,w1,w2⟩⟩
  have c:ds.drop 0=_:=c0
  simp only[Nat.reduceAdd] at c0 c1 c2 c
  rw[c1,c2,cl] at c
  exact c
theorem ty5:∀(n:Nat) (ds:List D),q4X Tryz.prog n 5 ds→∃v:Int,ds=[D.int .u8 v]∧(Lit.int .u8 v).wf=true:=by
 intro n ds h
 cases n with
 | zero=>exact h.elim
 | succ n=>
  unfold q4X at h
  rw[Tryz.underlying5] at h
  obtain⟨z,h1,h2⟩:=h
  exact⟨z,h1,h2⟩
end
noncomputable section
open Go.RowKit
theorem qAc {x:Int} (h:(Lit.int .u16 x).wf=true):0≤x∧x≤65535:=by
 unfold Lit.wf at h
 rw[qPo,qPS,qPS] at h
 exact h
structure C14 (c:q0c) (p:qe) (l:List qa) (day:Int):Prop where
 pg:qyl p
 len:l.length≤7
 ach:∀a∈l,qd5 a
 d0:0≤day
 d1:day<800
theorem qpF {c:q0c} (w:q6U c):∃p l day,q0d c=some (p,l,day)∧C14 c p l day:=by
 obtain⟨w1,w2,w3⟩:=w
 have hm:maxLen≤9223372036854775807:=by unfold maxLen;decide
 have hd:=qAc w3
 obtain⟨p,e1,hp⟩:=que c.Programme (by omega)
 obtain⟨l1,e2,hl1,ha1⟩:=qmm c.Had (by omega)
 obtain⟨l2,e3,hl2,ha2⟩:=qoO hp.need c.Had (by omega)
 have hday:w64 c.Day=c.Day:=Z5 (by omega) (by omega)
 have h0:0≤Int.tmod (w64 c.Day) 800:=Int.tmod_nonneg _ (by omega)
 have h1:Int.tmod (w64 c.Day) 800<800:=Int.tmod_lt_of_pos _ (by omega)
 unfold q0d
 rw[e1,qOS,e2,qOS]
 by_cases hc:(Int.tmod c.Day 2==0)=true
 ·rw[if_pos hc,e3,qOS]
  exact⟨_,_,_,rfl,hp,hl2,ha2,h0,h1⟩
 ·rw[if_neg hc]
  exact⟨_,_,_,rfl,hp,hl1,ha1,h0,h1⟩
theorem C14.grd {c:q0c} {p:qe} {l:List qa} {day:Int} (h:C14 c p l day):Grd p l:=by
 refine⟨⟨⟨by have:=h.pg.need.hg;omega,by have h2:=h.pg.need.l2;have h4:=h.pg.need.nd;omega,qeD h.pg.need.ok⟩,?_⟩,?_,fun b hb=>?_⟩
 ·have h1:=qdP h.pg.need
  rw[q9w p.Need (by have:=h.pg.need.hg;omega) (by have h2:=h.pg.need.l2;have h4:=h.pg.need.nd;omega) (qeD h.pg.need.ok)] at h1
  injection h1
 ·rcases h.pg.ex with e|⟨a,b,e,-⟩<;>rw[e]
  ·exact qPi _
  ·show 1≤1000;omega
 ·have:=h.ach b hb
  exact⟨by rw[this.src];omega,by have:=this.pth;omega⟩
theorem C14.ck {c:q0c} {p:qe} {l:List qa} {day:Int} (h:C14 c p l day):Qs p scP=some 0:=qkW h.pg (by decide)
end
noncomputable section
open Go.RowKit
set_option maxRecDepth 20000
set_option maxHeartbeats 8000000
theorem q6V:∀(x22:List qa) (z6 J2 qM zT:Int) (zU:ByteArray) (qA z7 qF:Int) (qG:List qc) (z8:List qb) (zw QA QB:Int) (qN:List (q00 qc)) (QT ZK ZL x3:Int) (qj9:Nat),qj9=x22.length→ev 15 0 [R.agg [dI z6,dI J2,dI qM,dI zT,dS zU,dI qA,dI z7,dI qF,dL 2 qd qG,dL 5 qh z8,dI zw,dI QA,dI QB,dL 4 (eA2 qd) qN],R.agg [dI QT,dI ZK,dI ZL],R.c (C.d (D.sl 8 qj9 (x22.flatMap qf))),rI x3] []=(zN (qe.mk z6 J2 qM zT zU (qb.mk qA z7 qF qG z8) zw QA QB qN) (qg.mk QT ZK ZL) x22 x3).bind (fun(e:qI×Int)=>some (R.tup [R.agg [dL 1 eI e.1.Taken,dL 1 eI e.1.Leaf],rI e.2],[])):=by
 intro x22 z6 J2 qM zT zU qA z7 qF qG z8 zw QA QB qN QT ZK ZL x3 qj9 h0;subst h0;have h:=q4E ((qe.mk z6 J2 qM zT zU (qb.mk qA z7 qF qG z8) zw QA QB qN)).School ((qe.mk z6 J2 qM zT zU (qb.mk qA z7 qF qG z8) zw QA QB qN)).Id ((qe.mk z6 J2 qM zT zU (qb.mk qA z7 qF qG z8) zw QA QB qN)).Version ((qe.mk z6 J2 qM zT zU (qb.mk qA z7 qF qG z8) zw QA QB qN)).From ((qe.mk z6 J2 qM zT zU (qb.mk qA z7 qF qG z8) zw QA QB qN)).Name ((qe.mk z6 J2 qM zT zU (qb.mk qA z7 qF qG z8) zw QA QB qN)).Need.Kind ((qe.mk z6 J2 qM zT zU (qb.mk qA z7 qF qG z8) zw QA QB qN)).Need.N ((qe.mk z6 J2 qM zT zU (qb.mk qA z7 qF qG z8) zw QA QB qN)).Need.Min ((qe.mk z6 J2 qM zT zU (qb.mk qA z7 qF qG z8) zw QA QB qN)).Need.Set ((qe.mk z6 J2 qM zT zU (qb.mk qA z7 qF qG z8) zw QA QB qN)).Need.L ((qe.mk z6 J2 qM zT zU (qb.mk qA z7 qF qG z8) zw QA QB qN)).Total ((qe.mk z6 J2 qM zT zU (qb.mk qA z7 qF qG z8) zw QA QB qN)).Own ((qe.mk z6 J2 qM zT zU (qb.mk qA z7 qF qG z8) zw QA QB qN)).Age ((qe.mk z6 J2 qM zT zU (qb.mk qA z7 qF qG z8) zw QA QB qN)).Exclude ((qg.mk QT ZK ZL)).Worst ((qg.mk QT ZK ZL)).Best ((qg.mk QT ZK ZL)).Pass x22 x3
 first
  | exact h
  | (simp only[rL,dL,bR,bZ,Nat.reduceAdd] at h;exact h)
theorem lo7:okL 7 qqL:=qZ (qk bd7) (by kernel_rfl) (by kernel_rfl)
def cx7:=JA_ @qqL.eq_1 (JA_ @Tryz.f7.eq_1 @bd7)
theorem qDi:lbO 7 16=qm5:=QG (qk bd7) rfl
theorem qCl:okL 7 qm5:=zV lo7 (qOT (i:=0) (by kernel_rfl))
def zC (b0:qI) (b1:qI) (t5:Bool) (t10:Int) (t13:Int):(List Int×Int)→Option ((List Int×Int)⊕((List Int)⊕(List Int)))|(w2,t17)=>if t17<((b1.Taken.length:Nat):Int) then if 0≤t17∧t17<((b1.Taken.length:Nat):Int) then Option.bind b1.Taken[Int.toNat t17]? fun(a:Int)=>if(a==t10)=Bool.true then some (Sum.inr (Sum.inl w2)) else if 0≤t17∧t17<((b1.Taken.length:Nat):Int) then Option.bind b1.Taken[Int.toNat t17]? fun(a2:Int)=>if t10<a2 then if 0≤t17∧t17<((b1.Taken.length:Nat):Int) then Option.bind b1.Taken[Int.toNat t17]? fun(a3:Int)=>if w2.length+1≤maxLen∧(w2.length+1)*8≤140737488355328 then some (Sum.inl (w2++[w64 (a3-1)],w64 (t17+1))) else none else none else if 0≤t17∧t17<((b1.Taken.length:Nat):Int) then Option.bind b1.Taken[Int.toNat t17]? fun(a4:Int)=>if w2.length+1≤maxLen∧(w2.length+1)*8≤140737488355328 then some (Sum.inl (w2++[a4],w64 (t17+1))) else none else none else none else none else some (Sum.inr (Sum.inr w2))
theorem q4U:∀(w2 q1z q2W q1A q2X:List Int) (t5:Bool) (t10 t13 t17:Int) (q1l:Nat),q1l=w2.length→XL2 evo 7 0 16 ⟨[(5,rB t5),(10,rI t10),(12,rP 0),(13,rI t13),(14,rP 1),(16,rO 2 1 q1l),(17,rI t17)],[(0,B.blk 48 [dL 1 eI q1z,dL 1 eI q2W]),(1,B.blk 48 [dL 1 eI q1A,dL 1 eI q2X]),(2,bR 3 1 eI w2)],3,138⟩=(zB (zC (qI.mk q1z q2W) (qI.mk q1A q2X) t5 t10 t13) (w2,t17)).bind (Sum.elim (fun(e:List Int)=>some (Exit.ret,⟨[(4,rB t5),(5,rB t5),(12,rP 0),(13,rI t13),(14,rP 1),(16,rO 2 1 e.length)],[(0,B.blk 48 [dL 1 eI q1z,dL 1 eI q2W]),(1,B.blk 48 [dL 1 eI q1A,dL 1 eI q2X]),(2,bR 3 1 eI e)],3,138⟩)) (fun(e:List Int)=>some (Exit.exit 0,⟨[(4,R.any),(5,rB t5),(12,rP 0),(13,rI t13),(14,rP 1),(16,rO 2 1 e.length)],[(0,B.blk 48 [dL 1 eI q1z,dL 1 eI q2W]),(1,B.blk 48 [dL 1 eI q1A,dL 1 eI q2X]),(2,bR 3 1 eI e)],3,138⟩))):=
 by
 intro w2 q1z q2W q1A q2X t5 t10 t13 t17 q1l h0
 subst h0
 revert t17;revert w2;exact q9j qDi qCl (fun e=>by rcases e with _|_<;>exact⟨_,rfl,fun h=>by cases h⟩) fun w2 t17=>by
  have:=cx7;have:=@qm5.eq_1;have:=@zC.eq_1;exact gA
theorem q3O:∀  (q1z q2W q1A q2X:List Int) (t5:Bool) (t10 t13 t17:Int),XL2 evo 7 0 16 ⟨[(5,rB t5),(10,rI t10),(12,rP 0),(13,rI t13),(14,rP 1),(16,rO 2 1 0),(17,rI t17)],[(0,B.blk 48 [dL 1 eI q1z,dL 1 eI q2W]),(1,B.blk 48 [dL 1 eI q1A,dL 1 eI q2X]),(2,B.row 3 1 [])],3,138⟩=(zB (zC (qI.mk q1z q2W) (qI.mk q1A q2X) t5 t10 t13) ([],t17)).bind (Sum.elim (fun(e:List Int)=>some (Exit.ret,⟨[(4,rB t5),(5,rB t5),(12,rP 0),(13,rI t13),(14,rP 1),(16,rO 2 1 e.length)],[(0,B.blk 48 [dL 1 eI q1z,dL 1 eI q2W]),(1,B.blk 48 [dL 1 eI q1A,dL 1 eI q2X]),(2,bR 3 1 eI e)],3,138⟩)) (fun(e:List Int)=>some (Exit.exit 0,⟨[(4,R.any),(5,rB t5),(12,rP 0),(13,rI t13),(14,rP 1),(16,rO 2 1 e.length)],[(0,B.blk 48 [dL 1 eI q1z,dL 1 eI q2W]),(1,B.blk 48 [dL 1 eI q1A,dL 1 eI q2X]),(2,bR 3 1 eI e)],3,138⟩))):=by
 intro q1z q2W q1A q2X t5 t10 t13 t17;have h:=q4U [] ((qI.mk q1z q2W)).Taken ((qI.mk q1z q2W)).Leaf ((qI.mk q1A q2X)).Taken ((qI.mk q1A q2X)).Leaf t5 t10 t13 t17 _ rfl
 first
  | exact h
  | (simp only[rL,dL,bR,bZ,Nat.reduceAdd] at h;exact h)
def q0O (x0:q0c) (x1:Int):Option Bool:=Option.bind q1N fun(a:Bool)=>Option.bind (q0d x0) fun(a2:Prod qe (Prod (List qa) Int))=>if(((a2.2.1.length:Nat):Int)==0)=Bool.true then some a else if((a2.2.1.length:Nat):Int)=0 then none else if 0≤Int.tmod (w64 x1) ((a2.2.1.length:Nat):Int)∧Int.tmod (w64 x1) ((a2.2.1.length:Nat):Int)≤((a2.2.1.length:Nat):Int) then if(List.take (Int.toNat (Int.tmod (w64 x1) ((a2.2.1.length:Nat):Int))-0) a2.2.1).length≤maxLen∧(List.take (Int.toNat (Int.tmod (w64 x1) ((a2.2.1.length:Nat):Int))-0) a2.2.1).length*104≤140737488355328 then if 0≤w64 (Int.tmod (w64 x1) ((a2.2.1.length:Nat):Int)+1)∧w64 (Int.tmod (w64 x1) ((a2.2.1.length:Nat):Int)+1)≤((a2.2.1.length:Nat):Int) then if(List.take (Int.toNat (Int.tmod (w64 x1) ((a2.2.1.length:Nat):Int))-0) a2.2.1).length+(List.take (a2.2.1.length-Int.toNat (w64 (Int.tmod (w64 x1) ((a2.2.1.length:Nat):Int)+1))) (List.drop (Int.toNat (w64 (Int.tmod (w64 x1) ((a2.2.1.length:Nat):Int)+1))) a2.2.1)).length≤maxLen∧((List.take (Int.toNat (Int.tmod (w64 x1) ((a2.2.1.length:Nat):Int))-0) a2.2.1).length+(List.take (a2.2.1.length-Int.toNat (w64 (Int.tmod (w64 x1) ((a2.2.1.length:Nat):Int)+1))) (List.drop (Int.toNat (w64 (Int.tmod (w64 x1) ((a2.2.1.length:Nat):Int)+1))) a2.2.1)).length)*104≤140737488355328 then Option.bind (zN a2.1 (zj 1) (List.take (Int.toNat (Int.tmod (w64 x1) ((a2.2.1.length:Nat):Int))-0) a2.2.1++List.take (a2.2.1.length-Int.toNat (w64 (Int.tmod (w64 x1) ((a2.2.1.length:Nat):Int)+1))) (List.drop (Int.toNat (w64 (Int.tmod (w64 x1) ((a2.2.1.length:Nat):Int)+1))) a2.2.1)) a2.2.2) fun(a3:Prod qI Int)=>Option.bind (zN a2.1 (zj 1) a2.2.1 a2.2.2) fun(a4:Prod qI Int)=>if(a3.2==0)=Bool.true then if(a4.2 != 0)=Bool.true then some Bool.false else if((a3.1.Taken.length:Nat):Int)<((a4.1.Taken.length:Nat):Int) then some Bool.false else if(a4.2 != 0)=Bool.true then if a=Bool.true then some (a3.2==a4.2) else some Bool.false else Option.bind (zB (zC a3.1 a4.1 a (Int.tmod (w64 x1) ((a2.2.1.length:Nat):Int)) a3.2) ([],0)) fun(a5:Sum (List Int) (List Int))=>Sum.elim (fun(a6:List Int)=>some a) (fun(a7:List Int)=>if a=Bool.true then if(a3.2==0)=Bool.true then Option.bind (q1g a3.1 (qI.mk a7 a4.1.Leaf)) fun(e0:Bool)=>some e0 else some Bool.false else some Bool.false) a5 else if(a4.2 != 0)=Bool.true then if a=Bool.true then some (a3.2==a4.2) else some Bool.false else Option.bind (zB (zC a3.1 a4.1 a (Int.tmod (w64 x1) ((a2.2.1.length:Nat):Int)) a3.2) ([],0)) fun(a8:Sum (List Int) (List Int))=>Sum.elim (fun(a9:List Int)=>some a) (fun(a10:List Int)=>if a=Bool.true then if(a3.2==0)=Bool.true then Option.bind (q1g a3.1 (qI.mk a10 a4.1.Leaf)) fun(e02:Bool)=>some e02 else some Bool.false else some Bool.false) a8 else none else none else none else none
theorem q7m:∀(q7C qq4:List Int) (qq5 x1:Int),ev 7 0 [R.agg [dL 1 eI q7C,dL 1 eI qq4,C.d (D.int .u16 qq5)],R.c (C.d (D.int .u8 x1))] []=(q0O (q0c.mk q7C qq4 qq5) x1).bind (fun(e:Bool)=>some (rB e,[])):=
 fun q7C qq4 qq5 x1=>by
  rw[qW bd7 pw7.2.2.2 lo7]
  have:=cx7;have:=@qaB;have:=@q7X;have:=@q5I;have:=@q6V;have:=@q3O;have:=@q6P;have:=@q0O.eq_1;exact gA
end

noncomputable section
open Go.RowKit
theorem qga (a0 b:qI) (t5:Bool) (t13:Int) (k:Nat) (hb:b.Taken.length≤10) (hr:∀y∈b.Taken,0≤y∧y<10):∀(m i:Nat) (w:List Int),i+m=b.Taken.length→w.length≤i→
  (∃L,zB (zC a0 b t5 (k:Int) t13) (w,(i:Int))=some (.inl L)∧(k:Int)∈b.Taken.drop i)∨
  (zB (zC a0 b t5 (k:Int) t13) (w,(i:Int))=some (.inr (w++(b.Taken.drop i).map (dnI k)))∧∀y∈b.Taken.drop i,y≠(k:Int))
 | 0,i,w,h,hw=>by
  have hs:zC a0 b t5 (k:Int) t13 (w,(i:Int))=some (.inr (.inr w)):=by
   unfold zC
   dsimp only
   rw[if_neg (by omega)]
  right
  rw[qeB,hs,qOS,Sum.elim_inr,qPz (by omega)]
  exact⟨by rw[List.map_nil,qPd],fun y hy=>(List.not_mem_nil hy).elim⟩
 | m+1,i,w,h,hw=>by
  have h1:i<b.Taken.length:=by omega
  have p1:(i:Int)<((b.Taken.length:Nat):Int):=by omega
  have p0:(0:Int)≤(i:Int):=by omega
  have hg:b.Taken[Int.toNat (i:Int)]?=some b.Taken[i]:=by rw[qOV];exact qOU h1
  have hy:=hr _ (qPK h1)
  have wi1:w64 ((i:Int)+1)=((i+1:Nat):Int):=Qi h1 (by omega)
  have wy:w64 (b.Taken[i]-1)=b.Taken[i]-1:=Z5 (by omega) (by omega)
  have hm:w.length+1≤maxLen∧(w.length+1)*8≤140737488355328:=⟨by unfold maxLen;omega,by omega⟩
  have hs:zC a0 b t5 (k:Int) t13 (w,(i:Int))=if(b.Taken[i]==(k:Int))=true then some (.inr (.inl w)) else some (.inl (w++[dnI k b.Taken[i]],((i+1:Nat):Int))):=by
   unfold zC dnI
   dsimp only
   simp only[if_pos p1,if_pos (And.intro p0 p1),hg,qOS,wi1,wy,if_pos hm]
   by_cases hc:(k:Int)<b.Taken[i]
   ·rw[if_pos hc,if_pos hc]
   ·rw[if_neg hc,if_neg hc]
  rw[qeB,hs,List.drop_eq_getElem_cons h1]
  by_cases he:b.Taken[i]=(k:Int)
  ·left
   rw[if_pos (by rw[he];exact beq_self_eq_true _),qOS,Sum.elim_inr]
   exact⟨w,rfl,by rw[he];exact qP7⟩
  ·rw[if_neg (by simpa using he),qOS,Sum.elim_inl]
   rcases qga a0 b t5 t13 k hb hr m (i+1) (w++[dnI k b.Taken[i]]) (by omega) (by rw[qOZ,qPa];omega) with ⟨L,e1,e2⟩|⟨e1,e2⟩
   ·exact .inl ⟨L,e1,qP0 _ e2⟩
   ·right
    refine⟨?_,fun y hy=>?_⟩
    ·rw[e1,qPy,qPf];rfl
    ·rcases qPe.1 hy with rfl|hy
     ·exact he
     ·exact e2 y hy
theorem qcW (c:q0c) (w:q6U c) (x:Int) (wx:(Lit.int .u8 x).wf=true):q0O c x=some true:=by
 obtain⟨p,l,day,e1,h⟩:=qpF w
 have hl:=h.len
 have hx:0≤x∧x≤255:=by
  unfold Lit.wf at wx
  rw[qPo,qPS,qPS] at wx
  exact wx
 have wx1:w64 x=x:=Z5 (by omega) (by omega)
 unfold q0O
 rw[qiL,qOS,e1,qOS]
 dsimp only
 by_cases h0:l.length=0
 ·rw[if_pos (by rw[h0];rfl)]
 ·have t0:0≤Int.tmod x ((l.length:Nat):Int):=Int.tmod_nonneg _ hx.1
  have t1:Int.tmod x ((l.length:Nat):Int)<((l.length:Nat):Int):=Int.tmod_lt_of_pos x (by omega)
  obtain⟨k,hk⟩:∃k:Nat,Int.tmod x ((l.length:Nat):Int)=(k:Int):=⟨(Int.tmod x ((l.length:Nat):Int)).toNat,by omega⟩
  have hk1:k<l.length:=by omega
  have wk:w64 ((k:Int)+1)=((k+1:Nat):Int):=Qi hk1 (by omega)
  have hd:List.take (l.length-(k+1)) (List.drop (k+1) l)=List.drop (k+1) l:=qQ0 (by rw[qPF];omega)
  have hf:List.take k l++List.drop (k+1) l=qeG l k:=rfl
  have q1:(List.take k l).length≤7:=by rw[qPl];omega
  have q2:(List.drop (k+1) l).length≤7:=by rw[qPF];omega
  rw[if_neg (by simpa using h0),if_neg (by omega),wx1,hk,wk,qOV,qOV,qPL,hd,hf,qjV]
  rw[if_pos ⟨by omega,by omega⟩,if_pos ⟨by unfold maxLen;omega,by omega⟩,if_pos ⟨by omega,by omega⟩,if_pos ⟨by unfold maxLen;omega,by omega⟩]
  rcases qve h.grd (by omega) scP h.ck day hk1 with ⟨g1,g2⟩|⟨b,g1,u1,hb⟩
  ·rw[g2,qOS,g1,qOS]
   dsimp only
   rw[if_neg (by decide),if_pos (by decide),if_pos rfl]
   rfl
  ·have hT:b.Taken.length≤10∧b.Leaf.length≤10:=by
    obtain⟨Y,h1,h2,h3,h4⟩:=u1.mask
    have h5:=q4H (q5E l.length (mO p day l)) Y.testBit
    have h6:=q5G l.length (mO p day l)
    have h7:=qdY (mO p day l) l.length
    have h8:=u1.len
    rw[h2] at h8 ⊢
    omega
   have hr:∀y∈b.Taken,0≤y∧y<10:=fun y hy=>by have:=qiM u1.inc y hy;omega
   have ML:=fun a0 t13=>qga a0 b true t13 k hT.1 hr b.Taken.length 0 [] (by omega) (qP8 _)
   simp only[List.drop_zero,qPc] at ML
   rcases hb with ⟨g2,hm⟩|⟨a,g2,hlen,hn⟩
   ·rw[g2,qOS,g1,qOS]
    dsimp only
    rw[if_neg (by decide),if_neg (by decide)]
    rcases ML ⟨[],[]⟩ 31 with ⟨L,e,-⟩|⟨-,e⟩
    ·rw[show(0:Int)=((0:Nat):Int) from rfl,e,qOS];rfl
    ·exact absurd rfl (e _ hm)
   ·rw[g2,qOS,g1,qOS]
    dsimp only
    rw[if_pos (by decide),if_neg (by decide),if_neg (by omega),if_neg (by decide)]
    rcases ML a 0 with ⟨L,e,-⟩|⟨e,e2⟩
    ·have e':zB (zC a b true (k:Int) 0) ([],(0:Int))=some (.inl L):=e
     rw[e',qOS];rfl
    ·have e':zB (zC a b true (k:Int) 0) ([],(0:Int))=some (.inr (b.Taken.map (dnI k))):=e
     rw[e',qOS,Sum.elim_inr,if_pos rfl,if_pos (by decide),←hn e2,qgN a (by rw[hn e2];simp;omega) (by rw[hn e2];simp;omega),qOS]
end
end Go.Proofs.YtojflbfdcpkedaaGreat.Vc
namespace Go.Proofs.YtojflbfdcpkedaaGreat
open Go.Proofs.YtojflbfdcpkedaaGreat.Vc (qP0 qP1 qP4 qP7 qPd)
open Go.ChangeShapes Go.WideShapes Go.ChangeAt Go.RowKit Go.ChangeMaps
theorem own:ownKnob Tryz.prog.godebug=none:=by kernel_rfl
theorem quT:laidOutB Tryz.prog=true:=by kernel_rfl
section
variable {H:Type} {enc:TypeId×Value→H} {P:Program} {W W':World}
theorem qgF (hl:laidOutB P=true) (hb:Below W.heap.size W W'):∀{ts:List TypeId} {vs:List Value} {ds:List (DataW H)} {ps:List MemPlace},(∀t∈ts,P.readableRec t=true∧t<P.types.size)→
  DataW.TrodAll enc P W 0 (fun _=>true) true ts vs ds ps→(∀p∈ps,p.block<W.heap.size)→DataW.TrodAll enc P W' 0 (fun b=>decide (b<W.heap.size)) true ts vs ds ps
 | [],_,_,_,_,h,_=>by
  obtain⟨rfl,rfl,rfl⟩:=trodAll_nil h
  exact trodAll_mk0
 | t::ts,_,_,_,ht,h,hlt=>by
  obtain⟨v,vs,d,ds,p,q,rfl,rfl,rfl,h1,h2⟩:=trodAll_cons h
  exact trodAll_cons_mk (Below.trod hl (ht t qP7).1 (ht t qP7).2 h1 hb (fun x hx=>hlt x (qP4 _ hx)))
   (qgF hl hb (fun u hu=>ht u (qP0 _ hu)) h2 (fun x hx=>hlt x (qP1 _ hx)))
theorem qrs {f:Func} {s:ChangeSpec} {apart fresh handsOn:Bool} {args:Array Value} {ds gs:List (DataW H)} {before:List MemPlace} {tb:TypeId} (hl:laidOutB P=true)
  (hts:∀t∈f.params.toList,P.readableRec t=true∧t<P.types.size) (hr:f.resultTypes=#[tb]) (htb:P.underlying tb=some .bool) (hv:s.vars=[])
  (h1:(s.fn H (ds++gs)).results=[.lit (.bool true)]) (h2:(s.fn H (ds++gs)).args=ds) (h3:(s.fn H (ds++gs)).vars=[])
  (hW:DataW.Whole enc P f.params.toList s.vars apart W args.toList ds gs before) (hb:Below W.heap.size W W') :
  s.post enc P f apart fresh handsOn false W args (.bool true) W':=by
 have hlt:∀p∈before,p.block<W.heap.size:=fun p hp=>hW.lt p hp
 have hW2:=hW
 obtain⟨pa,pv,hA,hV,hp,-,-⟩:=hW2
 rw[hv] at hV
 obtain⟨rfl,rfl⟩:=trodVars_none hV
 rw[qPd] at hp
 subst hp
 refine⟨ds,[],before,[],before,[],hW,?_,?_,?_,?_,fun h=>by cases h⟩
 ·rw[h1,hr]
  exact trodAll_mk1 (shut_bool htb true)
 ·rw[h2]
  exact qgF hl hb hts hA hlt
 ·rw[h3,hv]
  exact hV
 ·exact World.keptBut_mono (fun p hp=>⟨hp,.inr (.inl hp)⟩) (hb.frame (·∈before))
end
end Go.Proofs.YtojflbfdcpkedaaGreat
namespace Go.Proofs.YtojflbfdcpkedaaGreat.Vc
end Go.Proofs.YtojflbfdcpkedaaGreat.Vc
