/- Part 6 of a proof. -/
import Derived.Test.YtojflbfdcpkedaaGreatQ5
import Derived.KernelRfl
import Derived.Test.YtojflbfdcpkedaaGreatRows
import Derived.ChangeSlices
import Derived.OpenShut
import Derived.Carry
import Derived.ChangeSame
import Derived.ChangeMaps5
import Derived.WideShapes
import Derived.ProofKit
import Derived.Deep.DeepHandedRow
import Derived.Lib.LaidTab
import Derived.Stop.LaidErr
set_option linter.unusedVariables false
set_option linter.unusedSimpArgs false
set_option linter.defProp false
set_option linter.unusedSectionVars false
set_option linter.unnecessarySimpa false
namespace Go.Proofs.YtojflbfdcpkedaaGreat.Vc
noncomputable section
open Go.RowKit
theorem qF2 {l:List qa} (hl:l.length≤16):2 ^ l.length≤65536:=qQG (Nat.pow_le_pow_right (by decide) hl) (by decide)
theorem qB8 {l:List qa} (hl:l.length≤16):w64 ((1:Int)*(2:Int) ^ min l.length (IntKind.bits IntKind.i64))=((2 ^ l.length:Nat):Int):=by
 have:=qF2 hl
 have h1:1≤2 ^ l.length:=Nat.one_le_two_pow
 rw[show min l.length (IntKind.bits IntKind.i64)=l.length from Nat.min_eq_left (by show l.length≤64;omega),Int.one_mul,show((2:Int) ^ l.length)=((2 ^ l.length:Nat):Int) by simp]
 exact Z9 (by omega) (by omega)
def mO (p:qf) (day:Int) (l:List qa) (k:Nat):Bool:=match l[k]? with
 | some a => !qqR p a day
 | none=>false
theorem qhv (p:qf) (s:qg) (day b4:Int) (l:List qa) (hl:l.length≤1000):∀(j i:Nat) (w:List Int),j+i=l.length→w=Qt (mO p day l) (Zi i fun i=>(i:Int))→
  zw (Ze p s day b4 l l ((l.length:Nat):Int)) (w,(i:Int))=some (q5G l.length (mO p day l))
 | 0,i,w,hi,hw=>by
  have hi:i=l.length:=by omega
  subst hi hw
  refine zu ?_
  unfold Ze
  dsimp only
  rw[if_neg (by omega)];rfl
 | j+1,i,w,hi,hw=>by
  have hML:100000≤maxLen:=by unfold maxLen;omega
  have hil:i<l.length:=by omega
  have ha:l[i]?=some l[i]:=qQ7 hil
  have hwl:w.length≤i:=by rw[hw];have:=q44 (Zi i fun i=>(i:Int)) (mO p day l);rw[zI] at this;exact this
  have step:Ze p s day b4 l l ((l.length:Nat):Int) (w,(i:Int))=some (.inl (w++(if mO p day l i=true then[(i:Int)] else[]),((i+1:Nat):Int))):=by
   have hm:mO p day l i = !qqR p l[i] day:=by unfold mO;rw[ha]
   unfold Ze
   dsimp only
   rw[if_pos (by omega),if_pos ⟨by omega,by omega⟩,qQ8,ha,qQ5,qtS,qQ5,q4n hil (by omega),hm]
   cases qqR p l[i] day
   ·rw[if_pos (by decide),if_pos ⟨by omega,by omega⟩,if_pos (by decide)]
   ·rw[if_neg (by decide),if_neg (by decide),qQq]
  rw[zV step]
  refine qhv p s day b4 l hl j (i+1) _ (by omega) ?_
  rw[qdn,q7f,zI,hw]
theorem qn6 (p:qf) (s:qg) (day b5:Int) (b6:List Int) (b7:List qa) (b8:List Bool) (b9:Int) {N:Nat} (hN:N≤1024):zw (Z2 p s day b5 b6 b7 b8 b9 ((N:Nat):Int)) ([],(0:Int))=some (Zi N fun i=>(i:Int)):=by
 have hML:100000≤maxLen:=by unfold maxLen;omega
 exact q2z (step:=Z2 p s day b5 b6 b7 b8 b9 ((N:Nat):Int)) (fun i=>(Zi i (fun i=>(i:Int)),(i:Int))) 0 N (qQv _) (fun i _ hi=>by
  unfold Z2
  dsimp only
  rw[if_pos (by omega),if_pos (by rw[zI];exact⟨by omega,by omega⟩),qdn,q4n hi (by omega)]) (by
  unfold Z2
  dsimp only
  rw[if_neg (by omega)])
structure Grd (p:qf) (l:List qa):Prop where
 rgt:Rgt p.Need
 exc:p.Exclude.length≤1000
 fit:∀b∈l,q8x b
theorem Grd.sel {p:qf} {l:List qa} (h:Grd p l) (m:Nat→Bool):Grd p (Qt m l):=⟨h.rgt,h.exc,fun b hb=>h.fit b (qd3 _ _ _ hb)⟩
theorem qrV {p:qf} {all:List qa} (h:Grd p all) (hl:all.length≤10) (s:qg) (day b5:Int) {at0:List Int} (ha:at0.length=all.length) {X:Nat} (hX:X<2 ^ all.length) :
  ∃r,JU (X:Int) p s day b5 at0 all (Zi (2 ^ all.length) (QQ [] s all p.Need 0))=some r∧
   ((r = .inl ()∧∀lf,qf4 p (Qt X.testBit all) day=true→¬ Perm p.Need s all X lf)∨
     (∃w,r = .inr ⟨Qt X.testBit at0,w⟩∧qf4 p (Qt X.testBit all) day=true∧Perm p.Need s all X w∧∀lf,Perm p.Need s all X lf→w=lf∨q3d w lf=true)):=by
 obtain⟨w,f,h1,h2,h3⟩:=qja h.rgt hl s hX
 have hs:=q44 all X.testBit
 unfold JU
 rw[q4h (N:=all.length) (by omega) hX,qQ5]
 have hp:zQ all (q3O all.length X)=some (Qt X.testBit all):=qpE (by omega) X.testBit
 have hi:Jd at0 (q3O all.length X)=some (Qt X.testBit at0):=by rw[←ha];exact qvn (by omega) X.testBit
 rw[hp,qQ5,qu5 p h.exc _ (by omega) (h.sel _).fit,qQ5]
 cases ht:qf4 p (Qt X.testBit all) day
 ·exact⟨_,rfl,.inl ⟨rfl,fun lf h=>by cases h⟩⟩
 ·rw[if_neg (by decide),h1,qQ5]
  dsimp only
  cases hf:f
  ·rw[if_neg (by decide)]
   exact⟨_,rfl,.inl ⟨rfl,fun lf _=>(h3.2 hf).2 lf⟩⟩
  ·rw[if_pos rfl,hi,qQ5]
   exact⟨_,rfl,.inr ⟨w,rfl,rfl,(h3.1 hf).1,(h3.1 hf).2⟩⟩
structure qoG (p:qf) (s:qg) (all:List qa) (day:Int) (X:Nat) (w:List Int):Prop where
 lt:X<2 ^ all.length
 tog:qf4 p (Qt X.testBit all) day=true
 perm:Perm p.Need s all X w
 min:∀Y lf,Y<2 ^ all.length→qf4 p (Qt Y.testBit all) day=true→Perm p.Need s all Y lf→slL (q3O all.length X) (q3O all.length Y)=true∨(X=Y∧(w=lf∨q3d w lf=true))
theorem qpl {p:qf} {all:List qa} (h:Grd p all) (hl:all.length≤10) (s:qg) (day b5 b9:Int) {at0:List Int} (ha:at0.length=all.length) :
  ∃r,zw (QH p s day b5 at0 all (Zi (2 ^ all.length) (QQ [] s all p.Need 0)) b9 (msL all.length) (((msL all.length).length:Nat):Int)) (0:Int)=some r∧
   ((r = .inr ()∧∀Y lf,Y<2 ^ all.length→qf4 p (Qt Y.testBit all) day=true→¬ Perm p.Need s all Y lf)∨(∃X w,r = .inl ⟨Qt X.testBit at0,w⟩∧qoG p s all day X w)):=by
 obtain⟨-,hpw,hmem⟩:=qAc hl
 have h10:(2:Nat) ^ all.length≤1024:=qQG (Nat.pow_le_pow_right (by decide) hl) (by decide)
 have hlen:(msL all.length).length≤1024:=by unfold msL;rw[q5z,zI];exact h10
 have key:∀(r pre:List Int),pre++r=msL all.length→(∀y∈pre,∀(Y:Nat) (lf:List Int),y=(Y:Int)→qf4 p (Qt Y.testBit all) day=true→¬ Perm p.Need s all Y lf)→
   ∃q,zw (QH p s day b5 at0 all (Zi (2 ^ all.length) (QQ [] s all p.Need 0)) b9 (msL all.length) (((msL all.length).length:Nat):Int)) ((pre.length:Nat):Int)=some q∧
   ((q = .inr ()∧∀Y lf,Y<2 ^ all.length→qf4 p (Qt Y.testBit all) day=true→¬ Perm p.Need s all Y lf)∨(∃X w,q = .inl ⟨Qt X.testBit at0,w⟩∧qoG p s all day X w)):=by
  intro r
  induction r with
  | nil=>
   intro pre hpre hbad
   rw[qQq] at hpre
   refine⟨.inr (),zu ?_,.inl ⟨rfl,fun Y lf hY=>hbad (Y:Int) (by rw[hpre];exact(hmem _).2 ⟨Y,hY,rfl⟩) Y lf rfl⟩⟩
   unfold QH
   rw[hpre,if_neg (by omega)]
  | cons x r ih=>
   intro pre hpre hbad
   have hx:(msL all.length)[pre.length]?=some x:=by rw[←hpre,qQI (qQl _),Nat.sub_self];rfl
   have hlt:=Jl hx
   obtain⟨X,hX,rfl⟩:=(hmem x).1 (qQ6 hx)
   obtain⟨q,h1,h2⟩:=qrV h hl s day b5 ha hX
   have step:QH p s day b5 at0 all (Zi (2 ^ all.length) (QQ [] s all p.Need 0)) b9 (msL all.length) (((msL all.length).length:Nat):Int) ((pre.length:Nat):Int)=some (Sum.elim (fun _ => .inl ((pre.length+1:Nat):Int)) (fun u => .inr (.inl u)) q):=by
    unfold QH
    rw[if_pos (by omega),if_pos ⟨by omega,by omega⟩,qQ8,hx,qQ5,h1,qQ5,q4n hlt (by omega)]
    cases q<;>rfl
   rcases h2 with ⟨rfl,hno⟩|⟨w,rfl,ht,hp,hmin⟩
   ·rw[Sum.elim_inl] at step
    rw[zV step]
    have:=ih (pre++[(X:Int)]) (by rw[qQL];exact hpre) (fun y hy Y lf e=>by
     rcases qQz.1 hy with hy|hy
     ·exact hbad y hy Y lf e
     ·have:=qQW.1 hy
      obtain rfl:X=Y:=by omega
      exact hno lf)
    rw[qQc] at this
    exact this
   ·rw[Sum.elim_inr] at step
    refine⟨_,zu step,.inr ⟨X,w,rfl,hX,ht,hp,fun Y lf hY hty hpy=>?_⟩⟩
    have hYm:(Y:Int)∈pre++(X:Int)::r:=by rw[hpre];exact(hmem _).2 ⟨Y,hY,rfl⟩
    rcases qQz.1 hYm with hy|hy
    ·exact absurd hpy (hbad (Y:Int) hy Y lf rfl hty)
    ·rcases qQr.1 hy with e|hy
     ·obtain rfl:Y=X:=by omega
      exact .inr ⟨rfl,hmin lf hpy⟩
     ·rw[←hpre,List.pairwise_append] at hpw
      have:=(List.pairwise_cons.1 hpw.2.1).1 (Y:Int) hy
      rw[qQ8,qQ8] at this
      exact .inl this
 exact key (msL all.length) [] rfl (fun y hy=>by cases hy)
theorem qdf {p:qf} {l:List qa} (h:Grd p l) (hl:l.length≤1000) (s:qg) (hck:Qg p s=some 0) (day:Int) :
  (10<(Qt (mO p day l) l).length∧QK p s l day=some (⟨[],[]⟩,2))∨
  ((Qt (mO p day l) l).length≤10∧QK p s l day=some (⟨[],[]⟩,31)∧∀Y lf,Y<2 ^ (Qt (mO p day l) l).length→qf4 p (Qt Y.testBit (Qt (mO p day l) l)) day=true→¬ Perm p.Need s (Qt (mO p day l) l) Y lf)∨
  ((Qt (mO p day l) l).length≤10∧∃X w,QK p s l day=some (⟨Qt X.testBit (q5G l.length (mO p day l)),w⟩,0)∧qoG p s (Qt (mO p day l) l) day X w):=by
 have hat:=qhv p s day 0 l hl l.length 0 [] (by omega) rfl
 have hlen:(q5G l.length (mO p day l)).length=(Qt (mO p day l) l).length:=by rw[q4Q,q5b]
 unfold QK
 rw[hck,qQ5,if_neg (by decide)]
 change (_∧Option.bind (zw _ ([],((0:Nat):Int))) _=_)∨(_∧Option.bind (zw _ ([],((0:Nat):Int))) _=_∧_)∨(_∧∃X w,Option.bind (zw _ ([],((0:Nat):Int))) _=_∧_)
 rw[hat,qQ5,hlen]
 by_cases h10:10<(Qt (mO p day l) l).length
 ·rw[if_pos (by omega)]
  exact .inl ⟨h10,rfl⟩
 ·right
  rw[if_neg (by omega),qpE hl,qQ5,qfi h.rgt s _ (by omega),qQ5]
  dsimp only
  rw[if_neg (by decide)]
  have hN:(Qt (mO p day l) l).length≤10:=by omega
  have hp10:(2:Nat) ^ (Qt (mO p day l) l).length≤1024:=qQG (Nat.pow_le_pow_right (by decide) hN) (by decide)
  obtain⟨hok,-,-⟩:=qAc hN
  obtain⟨r,h1,h2⟩:=qpl (h.sel (mO p day l)) hN s day 0 (((Qt (mO p day l) l).length:Nat):Int) hlen
  have hm:q0L p s day 0 (q5G l.length (mO p day l)) (Qt (mO p day l) l) (Zi (2 ^ (Qt (mO p day l) l).length) (QQ [] s (Qt (mO p day l) l) p.Need 0)) (((Qt (mO p day l) l).length:Nat):Int)=some r:=by
   unfold q0L
   rw[if_pos (by omega),qQ8,qB8 (by omega),qn6 _ _ _ _ _ _ _ _ hp10,qQ5,if_pos (by rw[zI];exact⟨Nat.two_pow_pos _,by omega,hok⟩)]
   change Option.bind (zw (QH p s day 0 _ _ _ _ (msL (Qt (mO p day l) l).length) (((msL (Qt (mO p day l) l).length).length:Nat):Int)) 0) _=_
   rw[h1,qQ5]
   cases r<;>rfl
  rw[hm,qQ5]
  rcases h2 with ⟨rfl,hno⟩|⟨X,w,rfl,hL⟩
  ·exact .inl ⟨hN,rfl,hno⟩
  ·exact .inr ⟨hN,X,w,rfl,hL⟩
end
noncomputable section
open Go.RowKit
def okG (N:Nat):Int→List Int→Bool
 | _,[]=>true
 | p,y::r=>decide (p<y)&&decide (0≤y)&&decide (y<(N:Int))&&okG N y r
theorem qjn {N:Nat}:∀{r:List Int} {p:Int},okG N p r=true→∀y∈r,∃k:Nat,k<N∧y=(k:Int)
 | [],_,_,y,h=>by cases h
 | x::r,p,h,y,hy=>by
  rw[okG,qQB,qQB,qQB,qR5,qR5,qR5] at h
  rcases qQr.1 hy with rfl|hy
  ·exact⟨y.toNat,by omega,by omega⟩
  ·exact qjn h.2 y hy
def q5T (l:List qa) (T:List Int):List qa:=T.filterMap fun y=>l[Int.toNat y]?
theorem q9Z {l:List qa}:∀{T:List Int} {p:Int},okG l.length p T=true→(q5T l T).length=T.length
 | [],_,_=>rfl
 | x::r,p,h=>by
  obtain⟨k,hk,rfl⟩:=qjn h x qQk
  rw[okG,qQB] at h
  unfold q5T
  rw[List.filterMap_cons,qQ8,qQ7 hk]
  show((q5T l r).length+1)=_
  rw[q9Z h.2];rfl
theorem qnF {l:List qa} (h:∀b∈l,q8x b) (T:List Int):∀b∈q5T l T,q8x b:=fun b hb=>by
 obtain⟨y,-,hy⟩:=List.mem_filterMap.1 hb
 exact h b (qQ6 hy)
theorem ql1 (p:qf) (s:qg) (u:qG) (l:List qa) (hl:l.length≤1000) (day:Int) (hT:u.Taken.length≤1000):∀(r:List Int) (i:Nat) (w:List qa) (pv:Int),r.length+i=u.Taken.length→(∀j,r[j]?=u.Taken[i+j]?)→w.length=i→((i=0∧pv = -1)∨(0<i∧u.Taken[i-1]?=some pv))→
  ∃e,zw (zU p s u l day u.Taken ((u.Taken.length:Nat):Int)) (w,(i:Int))=some e∧(okG l.length pv r=true→e = .inr (w++q5T l r))∧(okG l.length pv r=false→∃x,e = .inl x)
 | [],i,w,pv,hi,_,_,_=>by
  have hi:i=u.Taken.length:=by simpa using hi
  refine⟨.inr w,zu ?_,fun _=>by unfold q5T;rw[List.filterMap_nil,qQq],fun h=>by rw[okG] at h;cases h⟩
  unfold zU
  dsimp only
  rw[if_neg (by omega)]
 | y::r,i,w,pv,hi,hj,hw,hp=>by
  have hML:100000≤maxLen:=by unfold maxLen;omega
  have hil:i<u.Taken.length:=by simp only[qQg] at hi;omega
  have hy:u.Taken[i]?=some y:=by have:=hj 0;rw[Nat.add_zero] at this;exact this.symm
  have bad:zU p s u l day u.Taken ((u.Taken.length:Nat):Int) (w,(i:Int))=some (.inr (.inl w))→okG l.length pv (y::r)=false→∃e,zw (zU p s u l day u.Taken ((u.Taken.length:Nat):Int)) (w,(i:Int))=some e∧(okG l.length pv (y::r)=true→e = .inr (w++q5T l (y::r)))∧(okG l.length pv (y::r)=false→∃x,e = .inl x):=fun h1 h2=>
   ⟨_,zu h1,fun h=>(by rw[h2] at h;cases h),fun _=>⟨_,rfl⟩⟩
  by_cases h0:y<0
  ·refine bad ?_ ?_
   ·unfold zU
    dsimp only
    rw[if_pos (by omega),if_pos ⟨by omega,by omega⟩,qQ8,hy,qQ5,if_pos h0]
   ·rw[okG,decide_eq_false (by omega:¬ (0≤y))];simp
  ·by_cases h1:(l.length:Int)≤y
   ·refine bad ?_ ?_
    ·unfold zU
     dsimp only
     rw[if_pos (by omega),if_pos ⟨by omega,by omega⟩,qQ8,hy,qQ5,if_neg h0,if_pos h1]
    ·rw[okG,decide_eq_false (by omega:¬ (y<(l.length:Int)))];simp
   ·obtain⟨k,rfl⟩:∃k:Nat,y=(k:Int):=⟨y.toNat,by omega⟩
    have hk:k<l.length:=by omega
    have good:pv<(k:Int)→zU p s u l day u.Taken ((u.Taken.length:Nat):Int) (w,(i:Int))=some (.inl (w++[l[k]],((i+1:Nat):Int)))→∃e,zw (zU p s u l day u.Taken ((u.Taken.length:Nat):Int)) (w,(i:Int))=some e∧(okG l.length pv ((k:Int)::r)=true→e = .inr (w++q5T l ((k:Int)::r)))∧(okG l.length pv ((k:Int)::r)=false→∃x,e = .inl x):=fun hlt hstep=>by
     obtain⟨e,e1,e2,e3⟩:=ql1 p s u l hl day hT r (i+1) (w++[l[k]]) (k:Int) (by simp only[qQg] at hi;omega) (fun j=>by have:=hj (j+1);rw[qQu] at this;rw[this];congr 1;omega) (by rw[qQc,hw];rfl) (.inr ⟨by omega,by rw[Nat.add_sub_cancel];exact hy⟩)
     refine⟨e,(zV hstep).trans e1,fun h=>?_,fun h=>?_⟩
     ·rw[okG,qQB] at h
      rw[e2 h.2]
      unfold q5T
      rw[List.filterMap_cons,qQ8,qQ7 hk]
      simp
     ·rw[okG,qR6 hlt,qR6 (by omega:(0:Int)≤(k:Int)),qR6 (by omega:(k:Int)<(l.length:Int))] at h
      exact e3 (by simpa using h)
    rcases hp with ⟨hp1,hp2⟩|⟨hp1,hp2⟩
    ·refine good (by omega) ?_
     unfold zU
     dsimp only
     rw[if_pos (by omega),if_pos ⟨by omega,by omega⟩,qQ8,hy,qQ5,if_neg h0,if_neg h1,if_neg (by omega),if_pos ⟨by omega,by omega⟩,qQ8,qQ7 hk,qQ5,if_pos ⟨by omega,by omega⟩,q4n hil (by omega)]
    ·have hwk:w64 ((i:Int)-1)=((i-1:Nat):Int):=by rw[Z9 (by omega) (by omega)];omega
     by_cases hlt:(k:Int)≤pv
     ·refine bad ?_ ?_
      ·unfold zU
       dsimp only
       rw[if_pos (by omega),if_pos ⟨by omega,by omega⟩,qQ8,hy,qQ5,if_neg h0,if_neg h1,if_pos (by omega),hwk,if_pos ⟨by omega,by omega⟩,qQ8,hp2,qQ5,if_pos hlt]
      ·rw[okG,decide_eq_false (by omega:¬ (pv<(k:Int)))];simp
     ·refine good (by omega) ?_
      unfold zU
      dsimp only
      rw[if_pos (by omega),if_pos ⟨by omega,by omega⟩,qQ8,hy,qQ5,if_neg h0,if_neg h1,if_pos (by omega),hwk,if_pos ⟨by omega,by omega⟩,qQ8,hp2,qQ5,if_neg hlt,if_pos ⟨by omega,by omega⟩,qQ8,qQ7 hk,qQ5,if_pos ⟨by omega,by omega⟩,q4n hil (by omega)]
def qzg (p:qf) (l:List qa) (day:Int) (mF:List qa→Bool) (u:qG):Bool:=
 decide (u.Taken.length≤10)&&decide (u.Leaf.length=u.Taken.length)&&okG l.length (-1) u.Taken&&qf4 p (q5T l u.Taken) day&&mF (q5T l u.Taken)
theorem qoi {p:qf} {l:List qa} (h:Grd p l) (hl:l.length≤1000) (s:qg) (hck:Qg p s=some 0) (day:Int) (u:qG) (mF:List qa→Bool)
  (hM:∀L:List qa,L.length=u.Leaf.length→L.length≤10→q1x p.Need s L u.Leaf=some (mF L)):qy p s l day u=some (if qzg p l day mF u=true then 0 else 32):=by
 unfold qy qzg
 rw[hck,qQ5,if_neg (by decide)]
 by_cases h10:10<u.Taken.length
 ·rw[if_pos (by omega),decide_eq_false (by omega:¬ u.Taken.length≤10)]
  simp
 ·rw[if_neg (by omega),qR6 (by omega:u.Taken.length≤10)]
  by_cases hlen:u.Leaf.length=u.Taken.length
  ·rw[if_neg (by rw[hlen];simp),qR6 hlen]
   obtain⟨e,e1,e2,e3⟩:=ql1 p s u l hl day (by omega) u.Taken 0 [] (-1) (by omega) (fun j=>by rw[qQt]) rfl (.inl ⟨rfl,rfl⟩)
   change Option.bind (zw _ ([],((0:Nat):Int))) _=_
   rw[e1,qQ5]
   cases hok:okG l.length (-1) u.Taken
   ·obtain⟨x,rfl⟩:=e3 hok
    rw[Sum.elim_inl];simp
   ·rw[e2 hok,Sum.elim_inr,qQp]
    have hpl:=q9Z hok
    rw[qu5 p h.exc _ (by omega) (qnF h.fit _),qQ5]
    cases ht:qf4 p (q5T l u.Taken) day
    ·simp
    ·rw[if_neg (by decide),hM _ (by omega) (by omega),qQ5]
     cases mF (q5T l u.Taken)<;>simp
  ·rw[if_pos (by simpa using fun h=>hlen (by omega)),decide_eq_false hlen]
   simp
end
noncomputable section
open Go.RowKit
theorem qeC {N:Nat}:∀{r:List Int} {p:Int},okG N p r=true→∀y∈r,p<y
 | [],_,_,y,h=>by cases h
 | x::r,p,h,y,hy=>by
  rw[okG,qQB,qQB,qQB,qR5] at h
  rcases qQr.1 hy with rfl|hy
  ·exact h.1.1.1
  ·have:=qeC h.2 y hy
   have:=h.1.1.1
   omega
theorem q4K {N:Nat} {x p:Int} {r:List Int} (h:okG N p (x::r)=true):okG N x r=true:=by
 rw[okG,qQB] at h;exact h.2
theorem qjY {N:Nat}:∀{A B:List Int} {p q:Int},okG N p A=true→okG N q B=true→(∀y,y∈A↔y∈B)→A=B
 | [],[],_,_,_,_,_=>rfl
 | [],y::B,_,_,_,_,h=>by cases(h y).2 qQk
 | x::A,[],_,_,_,_,h=>by cases(h x).1 qQk
 | x::A,y::B,p,q,hA,hB,h=>by
  have e:x=y:=by
   rcases qQr.1 ((h x).1 qQk) with e|e
   ·exact e
   ·rcases qQr.1 ((h y).2 qQk) with e2|e2
    ·exact e2.symm
    ·have h1:=qeC (q4K hB) x e
     have h2:=qeC (q4K hA) y e2
     omega
  subst e
  rw[qjY (q4K hA) (q4K hB) fun z=>⟨fun hz=>?_,fun hz=>?_⟩]
  ·rcases qQr.1 ((h z).1 (qQd _ hz)) with e|e
   ·have:=qeC (q4K hA) z hz;omega
   ·exact e
  ·rcases qQr.1 ((h z).2 (qQd _ hz)) with e|e
   ·have:=qeC (q4K hB) z hz;omega
   ·exact e
theorem qww {N:Nat} (m:Nat→Bool):∀(j k:Nat) (p:Int),k+j≤N→p<(k:Int)→okG N p (Qt m (Zi j fun i=>((k+i:Nat):Int)))=true:=by
 intro j
 induction j generalizing m with
 | zero=>intro k p _ _;rfl
 | succ j ih=>
  intro k p hk hp
  rw[qhe,Qt]
  have e2:(fun i=>((k+(i+1):Nat):Int))=fun i=>((k+1+i:Nat):Int):=funext fun i=>by rw[Nat.add_right_comm,qQZ]
  rw[e2]
  cases m 0
  ·rw[if_neg (by decide),qQp]
   exact ih _ (k+1) p (by omega) (by omega)
  ·rw[if_pos rfl,qRc,okG,ih _ (k+1) _ (by omega) (by rw[Nat.add_zero];omega),qR6 (by rw[Nat.add_zero];exact hp),qR6 (by omega),qR6 (by omega)]
   rfl
theorem qfe (N:Nat) (m:Nat→Bool):okG N (-1) (q5G N m)=true:=by
 have:=qww (N:=N) m N 0 (-1) (by omega) (by omega)
 simp only[qQt] at this
 exact this
theorem qkO (N:Nat) (m q:Nat→Bool):∃m',Qt q (q5G N m)=q5G N m':=⟨_,q9V _ _ _⟩
def qL4 {α:Type} (f:α→Bool) (o:Option α):Bool:=(o.map f).getD false
theorem qk6 {α:Type} (f:α→Bool):∀l:List α,Qt (fun j=>qL4 f l[j]?) l=l.filter f
 | []=>rfl
 | a::l=>by
  rw[Qt]
  have:=qk6 f l
  simp only[qQu]
  rw[this,List.filter_cons]
  show(if f a=true then[a] else[])++_=_
  cases f a<;>rfl
theorem qBq {α β:Type} {f:α→Option β}:∀{T:List α} {L:List β},T.map f=L.map some→T.filterMap f=L
 | [],[],_=>rfl
 | x::T,y::L,h=>by
  rw[qQs,qQs] at h
  injection h with h1 h2
  rw[List.filterMap_cons,h1,qBq h2]
structure qdx (p:qf) (s:qg) (l:List qa) (day:Int) (u:qG):Prop where
 inc:okG l.length (-1) u.Taken=true
 len:u.Leaf.length=u.Taken.length
 tog:qf4 p (q5T l u.Taken) day=true
 rng:∀(j:Nat) (y:Int),u.Leaf[j]?=some y → -1≤y∧y<(lvN p.Need:Int)
 met:qi6 p.Need s (q5T l u.Taken) u.Leaf=true
theorem qld (l:List qa) (m q:Nat→Bool):q5T l (Qt q (q5G l.length m))=Qt q (Qt m l):=qBq (by rw[←q7V];unfold q5G;rw[←q7V,qii,q7V,q7V])
theorem qql (p:qf) (day:Int):∀(r done:List qa),tgL p day done r=true→∀a∈r,qqR p a day=false
 | [],_,_,a,h=>by cases h
 | x::r,done,h,a,ha=>by
  rw[tgL,qQB,qQB,Bool.not_eq_true'] at h
  rcases qQr.1 ha with rfl|ha
  ·exact h.1.1
  ·exact qql p day r _ h.2 a ha
theorem qdx.mask {p:qf} {s:qg} {l:List qa} {day:Int} {u:qG} (h:qdx p s l day u) :
  ∃Y,Y<2 ^ (Qt (mO p day l) l).length∧u.Taken=Qt Y.testBit (q5G l.length (mO p day l))∧qf4 p (Qt Y.testBit (Qt (mO p day l) l)) day=true∧Perm p.Need s (Qt (mO p day l) l) Y u.Leaf:=by
 have hlen:(q5G l.length (mO p day l)).length=(Qt (mO p day l) l).length:=by rw[q4Q,q5b]
 obtain⟨q,hq⟩:∃q:Nat→Bool,q=fun j=>qL4 (fun x=>decide (x∈u.Taken)) (q5G l.length (mO p day l))[j]?:=⟨_,rfl⟩
 have hsel:Qt q (q5G l.length (mO p day l))=u.Taken:=by
  have e:Qt q (q5G l.length (mO p day l))=(q5G l.length (mO p day l)).filter fun x=>decide (x∈u.Taken):=by rw[hq];exact qk6 _ _
  obtain⟨m',hm'⟩:=qkO l.length (mO p day l) q
  refine qjY (N:=l.length) (p := -1) (q := -1) (by rw[hm'];exact qfe _ _) h.inc fun y=>?_
  rw[e,qR1,qR5]
  refine⟨fun hy=>hy.2,fun hy=>⟨?_,hy⟩⟩
  obtain⟨k,hk,rfl⟩:=qjn h.inc y hy
  have hold:=h.tog
  unfold qf4 at hold
  rw[qQB,qQB] at hold
  have hold:=qql p day _ _ hold.1.1 l[k] (List.mem_filterMap.2 ⟨(k:Int),hy,by rw[qQ8];exact qQ7 hk⟩)
  unfold q5G
  rw[qiX]
  exact⟨k,by unfold mO;rw[qQ7 hk];simp[hold],by rw[Je _ hk]⟩
 have hbit:∀k,k<(q5G l.length (mO p day l)).length→(mkS q (Qt (mO p day l) l).length).testBit k=q k:=fun k hk=>by
  rw[qdz,qR6 (by omega),qQC]
 have hT:u.Taken=Qt (mkS q (Qt (mO p day l) l).length).testBit (q5G l.length (mO p day l)):=by
  rw[←hsel]
  exact(q2Y hbit).symm
 have hL:q5T l u.Taken=Qt (mkS q (Qt (mO p day l) l).length).testBit (Qt (mO p day l) l):=by rw[hT];exact qld l _ _
 refine⟨_,qtF _ _,hT,by rw[←hL];exact h.tog,?_,h.rng,by rw[←hL];exact h.met⟩
 rw[h.len,hT,q5b,hlen]
theorem qoG.use {p:qf} {s:qg} {l:List qa} {day:Int} {X:Nat} {w:List Int} (h:qoG p s (Qt (mO p day l) l) day X w):qdx p s l day ⟨Qt X.testBit (q5G l.length (mO p day l)),w⟩:=by
 obtain⟨m',hm'⟩:=qkO l.length (mO p day l) X.testBit
 have hL:=qld l (mO p day l) X.testBit
 refine⟨?_,?_,?_,h.perm.rng,?_⟩
 ·show okG l.length (-1) (Qt X.testBit (q5G l.length (mO p day l)))=true
  rw[hm'];exact qfe _ _
 ·show w.length=(Qt X.testBit (q5G l.length (mO p day l))).length
  rw[h.perm.len,q5b,q5b,q4Q]
 ·show qf4 p (q5T l (Qt X.testBit (q5G l.length (mO p day l)))) day=true
  rw[hL];exact h.tog
 ·show qi6 p.Need s (q5T l (Qt X.testBit (q5G l.length (mO p day l)))) w=true
  rw[hL];exact h.perm.met
theorem qnM {N:Nat}:∀{A:List Int} {p:Int},okG N p A=true→∀(i j:Nat) (x y:Int),i<j→A[i]?=some x→A[j]?=some y→x<y
 | [],_,_,i,j,x,y,_,hx,_=>by simp at hx
 | a::A,p,h,0,j+1,x,y,_,hx,hy=>by
  injection hx with hx
  subst hx
  exact qeC (q4K h) y (qQ6 hy)
 | a::A,p,h,i+1,j+1,x,y,hij,hx,hy=>qnM (q4K h) i j x y (by omega) hx hy
theorem qu3 (A:List Int) (X:Nat):Qt X.testBit A=(q3O A.length X).map fun y=>A.getD (Int.toNat y) 0:=by
 unfold q3O
 rw[←q7V]
 congr 1
 apply List.ext_getElem?
 intro j
 rw[qQj]
 by_cases hj:j<A.length
 ·rw[Je _ hj,qQ7 hj,Option.map_some,qQ8,List.getD_eq_getElem?_getD,qQ7 hj];rfl
 ·rw[qQD (by omega),qQD (by rw[zI];omega)];rfl
theorem qot {N:Nat} {A:List Int} {p:Int} (h:okG N p A=true) (X Y:Nat):slL (Qt X.testBit A) (Qt Y.testBit A)=slL (q3O A.length X) (q3O A.length Y):=by
 rw[qu3,qu3]
 refine qxb fun x hx y hy=>?_
 obtain⟨i,hi,rfl⟩:=mem_range hx
 obtain⟨j,hj,rfl⟩:=mem_range hy
 rw[qQ8,qQ8,List.getD_eq_getElem?_getD,List.getD_eq_getElem?_getD,qQ7 hi,qQ7 hj,Option.getD_some,Option.getD_some]
 rcases Nat.lt_trichotomy i j with g|g|g
 ·have:=qnM h i j _ _ g (qQ7 hi) (qQ7 hj)
  exact⟨by omega,by omega⟩
 ·subst g
  exact⟨by omega,by omega⟩
 ·have:=qnM h j i _ _ g (qQ7 hj) (qQ7 hi)
  exact⟨by omega,by omega⟩
def uLe (u v:qG):Prop:=slL u.Taken v.Taken=true∨(u.Taken=v.Taken∧(u.Leaf=v.Leaf∨q3d u.Leaf v.Leaf=true))
theorem qwx {u v:qG} (h:uLe u v):u.Taken.length≤v.Taken.length:=by
 rcases h with h|⟨e,-⟩
 ·rw[qdI] at h;omega
 ·rw[e];exact qQl _
theorem qwM {p:qf} {l:List qa} (h:Grd p l) (hl:l.length≤10) (s:qg) (hck:Qg p s=some 0) (day:Int) :
  (QK p s l day=some (⟨[],[]⟩,31)∧∀u,¬ qdx p s l day u)∨(∃u,QK p s l day=some (u,0)∧qdx p s l day u∧∀v,qdx p s l day v→uLe u v):=by
 have hs:=q44 l (mO p day l)
 rcases qdf h (by omega) s hck day with ⟨g,-⟩|⟨-,g,hno⟩|⟨-,X,w,g,hL⟩
 ·omega
 ·refine .inl ⟨g,fun u hu=>?_⟩
  obtain⟨Y,h1,h2,h3,h4⟩:=hu.mask
  exact hno Y _ h1 h3 h4
 ·refine .inr ⟨_,g,hL.use,fun v hv=>?_⟩
  obtain⟨Y,h1,h2,h3,h4⟩:=hv.mask
  have hlen:(q5G l.length (mO p day l)).length=(Qt (mO p day l) l).length:=by rw[q4Q,q5b]
  rcases hL.min Y v.Leaf h1 h3 h4 with e|⟨e,e2⟩
  ·left
   rw[h2]
   show slL (Qt X.testBit (q5G l.length (mO p day l))) _=true
   rw[qot (qfe l.length (mO p day l)),hlen];exact e
  ·right
   subst e
   exact⟨h2.symm,e2⟩
theorem qyO {p:qf} {l:List qa} (h:Grd p l) (hl:l.length≤10) (s:qg) (hck:Qg p s=some 0) (day:Int) {u:qG} (hu:qdx p s l day u):qy p s l day u=some 0:=by
 have hpl:=q9Z hu.inc
 have hT:u.Taken.length≤10:=by
  obtain⟨Y,h1,h2,h3,h4⟩:=hu.mask
  have h5:=q44 (q5G l.length (mO p day l)) Y.testBit
  have h6:=q4Q l.length (mO p day l)
  have h7:=qdP (mO p day l) l.length
  rw[h2];omega
 rw[qoi h (by omega) s hck day u (fun L=>qi6 p.Need s L u.Leaf) fun L h1 h2=>qh0 h.rgt h2 s u.Leaf h1.symm hu.rng,if_pos]
 unfold qzg
 rw[qR6 hT,qR6 hu.len,hu.inc,hu.tog]
 exact hu.met
end
noncomputable section
open Go.RowKit
theorem qos {y:qb} (h:q6R y=0) (hk:y.Kind=1∨y.Kind=2):y.L=[]:=by
 unfold q6R at h
 by_cases hl:y.L=[]
 ·exact hl
 ·rcases hk with e|e
  ·rw[if_pos e,if_pos (.inr hl)] at h
   exact absurd h (by decide)
  ·rw[if_neg (by omega),if_pos e,if_pos hl] at h
   exact absurd h (by decide)
theorem qzQ:∀n:qb,(∀y∈ndN n,q6R y=0)→((ndN n).filter q0r).length=lvN n:=by
 intro n
 induction n using qb.rec (motive_2:=fun L=>(∀y∈ndL L,q6R y=0)→((ndL L).filter q0r).length=lvL L) with
 | mk k n m S L ih=>
  intro hf
  have h0:=hf _ (qdl _)
  have h1:=ih fun y hy=>hf y (by rw[ndN];exact qQd _ hy)
  have hk:=(qkq h0).kind
  rw[lvN,ndN,List.filter_cons]
  simp only at hk
  by_cases h:k=1∨k=2
  ·have hl:L=[]:=qos h0 h
   subst hl
   rw[if_pos h,if_pos (by unfold q0r;simp only;rcases h with h|h<;>subst h<;>decide),ndL]
   rfl
  ·have hk2:k=3∨k=4:=by
    rcases hk with e|e|e|e
    ·exact absurd (.inl e) h
    ·exact absurd (.inr e) h
    ·exact .inl e
    ·exact .inr e
   rw[if_neg h,if_neg (by unfold q0r;simp only;rcases hk2 with e|e<;>(subst e;decide))]
   exact h1
 | nil=>rename_i hf;rw[lvL];rfl
 | cons x L h1 h2=>
  rename_i hf
  have a:=h1 fun y hy=>hf y (by rw[ndL];exact qQh _ hy)
  have b:=h2 fun y hy=>hf y (by rw[ndL];exact qQe _ hy)
  rw[lvL,ndL,List.filter_append,qQc,a,b]
theorem qtw {p:qf} {l:List qa} (h:Grd p l) (hl:l.length≤1000) (s:qg) (hck:Qg p s=some 0) (day:Int) (u:qG) (hu:u.Leaf.length≤100) :
  ∃r,qy p s l day u=some r∧(r=0→qdx p s l day u):=by
 refine⟨_,qoi h hl s hck day u (fun L=>qhk p.Need s L u.Leaf) fun L h1 h2=>qok h.rgt.sz s L h2 u.Leaf hu,fun hr=>?_⟩
 cases hc:qzg p l day (fun L=>qhk p.Need s L u.Leaf) u
 ·rw[hc] at hr;exact absurd hr (by decide)
 ·unfold qzg at hc
  simp only[qQB,qR5] at hc
  obtain⟨⟨⟨⟨h1,h2⟩,h3⟩,h4⟩,h5⟩:=hc
  unfold qhk at h5
  rw[if_neg (fun q=>q h.rgt.ck),if_neg (fun q=>q (by rw[h2,q9Z h3]))] at h5
  cases ho:qu9 p.Need u.Leaf
  ·rw[ho,if_neg (by decide)] at h5
   refine⟨h3,h2,h4,fun j y hy=>?_,h5⟩
   unfold qu9 at ho
   rw[List.any_eq_false] at ho
   have h6:=ho y (qQ6 hy)
   unfold Zn at h6
   have h7:=qzQ p.Need (qlu h.rgt)
   rw[h7] at h6
   by_cases hy1:y < -1
   ·rw[if_pos hy1] at h6;exact absurd rfl h6
   ·rw[if_neg hy1,qR5] at h6
    omega
  ·rw[ho,if_pos rfl] at h5;exact absurd h5 (by decide)
end
noncomputable section
open Go.RowKit
abbrev nmL:List ByteArray:=[ByteArray.mk (List.toArray [77,117,115,105,99]),ByteArray.mk (List.toArray [76,97,119]),ByteArray.mk (List.toArray [79,108,100,32,109,97,112,115])]
abbrev agL:List Int:=[(0:Int),(0:Int),(0:Int),(2:Int),(5:Int)]
structure qzd (p:qf):Prop where
 sch:p.School=1
 id:1≤p.Id∧p.Id≤3
 ver:1≤p.Version∧p.Version≤3
 frm:0≤p.From∧p.From≤400
 nam:p.Name∈nmL
 tot:0≤p.Total∧p.Total≤19
 own:0≤p.Own∧p.Own≤10
 age:p.Age∈agL
 need:q6u 3 6 p.Need
 ex:p.Exclude=[]∨∃a b,p.Exclude=[q05.mk a b]∧q64 a∧q64 b∧q4x a b=true
theorem qBy (l:List Int) (hl:l.length≤9223372036854775807):∃p,q1s l=some p∧qzd p:=by
 obtain⟨v1,d1,e1,a1,b1,h1⟩:=q2y (d:=⟨l,0⟩) ⟨by show(0:Int)≤0;omega,by show(0:Int)≤(l.length:Int);omega,hl⟩ (most:=3) (by omega) (by omega)
 obtain⟨v2,d2,e2,a2,b2,h2⟩:=q2y h1 (most:=3) (by omega) (by omega)
 obtain⟨v3,d3,e3,a3,b3,h3⟩:=q2y h2 (most:=5) (by omega) (by omega)
 obtain⟨v4,d4,e4,a4,b4,h4⟩:=q2y h3 (most:=3) (by omega) (by omega)
 obtain⟨v6,d6,e6,a6,b6,h6⟩:=q2y h4 (most:=20) (by omega) (by omega)
 obtain⟨v7,d7,e7,a7,b7,h7⟩:=q2y h6 (most:=3) (by omega) (by omega)
 obtain⟨v8,d8,e8,a8,b8,h8⟩:=q2y h7 (most:=6) (by omega) (by omega)
 obtain⟨v9,d9,e9,a9,b9,h9⟩:=q2y h8 (most:=5) (by omega) (by omega)
 obtain⟨v11,d11,e11,a11,b11,h11⟩:=q2y h9 (most:=3) (by omega) (by omega)
 obtain⟨c1,d12,e12,m12,h12⟩:=qi8 h11
 obtain⟨c2,d13,e13,m13,h13⟩:=qi8 h12
 obtain⟨n1,d14,e14,m14,h14⟩:=qoT 3 6 d13 (by omega) (by omega) h13
 obtain⟨n2,d15,e15,m15,h15⟩:=qoT 3 6 d11 (by omega) (by omega) h11
 obtain⟨nm,g5,q5⟩:=qmz nmL v4 a4 (by show v4<((3:Nat):Int);omega)
 obtain⟨ag,g10,q10⟩:=qmz agL v9 a9 (by show v9<((5:Nat):Int);omega)
 have w1:w64 (1+v1)=1+v1:=Z9 (by omega) (by omega)
 have w2:w64 (1+v2)=1+v2:=Z9 (by omega) (by omega)
 have w3:w64 (100*v3)=100*v3:=Z9 (by omega) (by omega)
 have hm:0≤v7*v8∧v7*v8≤10:=by
  have hv7:v7=0∨v7=1∨v7=2:=by omega
  rcases hv7 with rfl|rfl|rfl<;>omega
 have w4:w64 (v7*v8)=v7*v8:=Z9 (by omega) (by omega)
 have e14':ZQ ((3:Int),((6:Int),d13))=some (n1,d14):=e14
 have e15':ZQ ((3:Int),((6:Int),d11))=some (n2,d15):=e15
 have mk:∀(n:qb) (X:List (q05 qc)),q6u 3 6 n→(X=[]∨∃a b,X=[q05.mk a b]∧q64 a∧q64 b∧q4x a b=true)→qzd (qf.mk (1:Int) (1+v1) (1+v2) (100*v3) nm n v6 (v7*v8) ag X):=fun n X hn hX=>
  ⟨rfl,⟨by show 1≤1+v1;omega,by show 1+v1≤3;omega⟩,⟨by show 1≤1+v2;omega,by show 1+v2≤3;omega⟩,⟨by show 0≤100*v3;omega,by show 100*v3≤400;omega⟩,q5,⟨a6,by show v6≤19;omega⟩,hm,q10,hn,hX⟩
 unfold q1s
 rw[e1,qQ5];dsimp only
 rw[e2,qQ5];dsimp only
 rw[e3,qQ5];dsimp only
 rw[e4,qQ5];dsimp only
 rw[if_pos ⟨a4,b4⟩,g5,qQ5,e6,qQ5];dsimp only
 rw[e7,qQ5];dsimp only
 rw[e8,qQ5];dsimp only
 rw[e9,qQ5];dsimp only
 rw[if_pos ⟨a9,b9⟩,g10,qQ5,e11,qQ5];dsimp only
 rw[w1,w2,w3,w4]
 by_cases h0:v11=0
 ·rw[if_pos (by simpa using h0),e12,qQ5];dsimp only
  rw[e13,qQ5];dsimp only
  by_cases hp:Qo c1 c2=true
  ·rw[if_pos hp,e14',qQ5]
   exact⟨_,rfl,mk _ _ m14 (.inr ⟨c1,c2,rfl,m12,m13,hp⟩)⟩
  ·rw[if_neg hp,e14',qQ5]
   exact⟨_,rfl,mk _ _ m14 (.inl rfl)⟩
 ·rw[if_neg (by simpa using h0),e15',qQ5]
  exact⟨_,rfl,mk _ _ m15 (.inl rfl)⟩
theorem qwp (l:List Int) (hl:l.length≤9223372036854775807):∃p,q3A l=some p∧qzd p:=by
 obtain⟨p,h1,h2⟩:=qBy l hl
 unfold q3A
 rw[h1,qQ5]
 refine⟨_,rfl,⟨h2.sch,h2.id,h2.ver,h2.frm,h2.nam,?_,?_,h2.age,h2.need,h2.ex⟩⟩
 ·have:=h2.tot
  have e1:=Int.tmod_lt_of_pos p.Total (show(0:Int)<12 by omega)
  have e2:0≤Int.tmod p.Total 12:=Int.tmod_nonneg _ (by omega)
  show 0≤Int.tmod p.Total 12∧Int.tmod p.Total 12≤19
  omega
 ·have:=h2.own
  have e1:=Int.tmod_lt_of_pos p.Own (show(0:Int)<4 by omega)
  have e2:0≤Int.tmod p.Own 4:=Int.tmod_nonneg _ (by omega)
  show 0≤Int.tmod p.Own 4∧Int.tmod p.Own 4≤10
  omega
end
noncomputable section
open Go.RowKit
def qDE (a:Int):Bool := !decide (a<32) && !decide (126<a) && !(a==34)
theorem qta (s:ByteArray) (hs:s.size≤1000):q1f s=some ((qhK s).all qDE&&inF ((s.size:Nat):Int) 1 40):=by
 have hl:(qhK s).length=s.size:=by unfold qhK;rw[qQO,Array.length_toList];rfl
 have h:=qco (step:=q0p s (qhK s) (((qhK s).length:Nat):Int)) (qhK s) qDE (.inl ()) (.inr ()) (fun i a ha=>by
  have hi:=Jl ha
  unfold q0p qDE
  rw[if_pos (by omega),if_pos ⟨by omega,by omega⟩,qQ8,ha,qQ5,q4n hi (by omega)]
  by_cases h1:a<32
  ·rw[if_pos h1,qR6 h1];rfl
  ·rw[if_neg h1,decide_eq_false h1]
   by_cases h2:126<a
   ·rw[if_pos h2,qR6 h2];rfl
   ·rw[if_neg h2,decide_eq_false h2]
    cases a==34<;>rfl) (by
  unfold q0p
  rw[if_neg (by omega)])
 unfold q1f
 rw[if_pos (by omega),h,qQ5]
 cases hq:(qhK s).all qDE
 ·rw[if_neg (by decide),Sum.elim_inl];rfl
 ·rw[if_pos rfl,Sum.elim_inr,q3H];rfl
def nmB (s:ByteArray):Bool:=decide (s.size≤1000)&&((qhK s).all qDE&&inF ((s.size:Nat):Int) 1 40)
theorem qEj:nmL.all nmB=true:=by kernel_rfl
theorem qkH {s:ByteArray} (h:s∈nmL):q1f s=some true:=by
 have:=qQm.1 qEj s h
 unfold nmB at this
 rw[qQB,qR5] at this
 rw[qta s this.1,this.2]
theorem qiZ {n a b:Int} (h1:a≤n) (h2:n≤b):zB n a b=true:=by
 rw[q3H]
 unfold inF
 rw[qR6 h1,qR6 h2];rfl
theorem qtI {p:qf} (hs:1≤p.School∧p.School≤8) (hi:1≤p.Id∧p.Id≤999999) (hv:1≤p.Version∧p.Version≤20) (hf:0≤p.From∧p.From≤100000) (ht:0≤p.Total∧p.Total≤600) (ho:0≤p.Own∧p.Own≤600) (ha:0≤p.Age∧p.Age≤100)
  (hn:q1f p.Name=some true) (hnd:JQ p.Need=some 0) (hx:p.Exclude=[]∨∃a b,p.Exclude=[q05.mk a b]∧q1q a=true∧q1q b=true∧qyv a b<0):q0q p=some 0:=by
 have hex:p.Exclude.length≤1:=by
  rcases hx with e|⟨a,b,e,-⟩<;>rw[e]
  ·exact qQv _
  ·exact qQl _
 have hend:QY p p.Exclude ((p.Exclude.length:Nat):Int) ((p.Exclude.length:Nat):Int)=some (.inr (.inr ())):=by
  unfold QY
  rw[if_neg (by omega)]
 have hloop:zw (QY p p.Exclude ((p.Exclude.length:Nat):Int)) (0:Int)=some (.inr ()):=by
  rcases hx with e|⟨a,b,e,ma,mb,hlt⟩
  ·rw[e] at hend ⊢
   exact zu hend
  ·have e1:QY p p.Exclude ((p.Exclude.length:Nat):Int) (0:Int)=some (.inl 1):=by
    unfold QY
    rw[e]
    show(if(0:Int)<1 then _ else _)=_
    rw[if_pos (by decide),if_pos ⟨by simp,by simp⟩]
    show Option.bind (some (q05.mk a b)) _=_
    rw[qQ5]
    dsimp only
    rw[qfN,qQ5,qfN,qQ5,ma,mb,qbi,qQ5]
    rw[if_neg (by decide),if_neg (by decide),if_neg (by omega),if_pos ⟨by simp,by simp⟩,q7h _ (by simp),qQ5]
    rfl
   rw[zV e1]
   have:((p.Exclude.length:Nat):Int)=1:=by rw[e];rfl
   rw[this] at hend ⊢
   exact zu hend
 unfold q0q
 rw[qiZ (n:=p.School) (a:=1) (b:=8) hs.1 hs.2,qiZ (n:=p.Id) (a:=1) (b:=999999) hi.1 hi.2,qiZ (n:=p.Version) (a:=1) (b:=20) hv.1 hv.2,qiZ (n:=p.From) (a:=0) (b:=100000) hf.1 hf.2,qiZ (n:=p.Total) (a:=0) (b:=600) ht.1 ht.2,qiZ (n:=p.Own) (a:=0) (b:=600) ho.1 ho.2,qiZ (n:=p.Age) (a:=0) (b:=100) ha.1 ha.2,hn]
 simp only[Bool.not_true,Bool.false_eq_true,if_false,qQ5]
 rw[hnd,qQ5,if_neg (by decide),if_neg (by omega),hloop]
 rfl
theorem qiv {p:qf} (h:qzd p):q0q p=some 0:=by
 have hs:=h.sch;have hi:=h.id;have hv:=h.ver;have hf:=h.frm;have ht:=h.tot;have ho:=h.own
 have ha:0≤p.Age∧p.Age≤5:=by
  have:p.Age=0∨p.Age=2∨p.Age=5:=by have:=h.age;simpa using this
  omega
 refine qtI ⟨by omega,by omega⟩ ⟨by omega,by omega⟩ ⟨by omega,by omega⟩ ⟨by omega,by omega⟩ ⟨by omega,by omega⟩ ⟨by omega,by omega⟩ ⟨by omega,by omega⟩ (qkH h.nam) (qeU h.need) ?_
 rcases h.ex with e|⟨a,b,e,ma,mb,hp⟩
 ·exact .inl e
 ·refine .inr ⟨a,b,e,qba ma,qba mb,?_⟩
  have:=qkw a b
  rw[hp] at this
  simpa using this.symm
theorem qm1 {p:qf} (h:qzd p) {s:qg} (hs:qdy s=true):Qg p s=some 0:=by
 unfold Qg
 rw[qiv h,qQ5,if_neg (by decide),q6d,hs];rfl
end
noncomputable section
open Go.RowKit
set_option maxRecDepth 100000
def qpf (W:Nat):Nat→List (List Int)
 | 0=>[[]]
 | m+1=>(qpf W m).flatMap fun t=>(List.range (W+1)).map fun(i:Nat)=>((i:Int)-1)::t
theorem qhx (W:Nat):∀(lf:List Int),(∀y∈lf,-1≤y∧y<(W:Int))→lf∈qpf W lf.length
 | [],_=>qQW.2 rfl
 | y::lf,h=>by
  rw[qQg,qpf,List.mem_flatMap]
  have hy:=h y qQk
  refine⟨lf,qhx W lf fun z hz=>h z (qQd _ hz),qQQ.2 ⟨(y+1).toNat,qR2.2 (show(y+1).toNat<W+1 by omega),?_⟩⟩
  rw[show(((y+1).toNat:Nat):Int)-1=y by omega]
def qFZ (p:qf) (s:qg) (all:List qa) (day:Int) (X:Nat) (lf:List Int):Bool:=
 qf4 p (Qt X.testBit all) day&&decide (lf.length=rkF X.testBit all.length)&&(lf.all fun y=>decide (-1≤y)&&decide (y<(lvN p.Need:Int)))&&qi6 p.Need s (Qt X.testBit all) lf
theorem qpI {p:qf} {s:qg} {all:List qa} {day:Int} {X:Nat} {lf:List Int}:qFZ p s all day X lf=true↔qf4 p (Qt X.testBit all) day=true∧Perm p.Need s all X lf:=by
 unfold qFZ
 rw[qQB,qQB,qQB,qR5,qQm]
 constructor
 ·rintro⟨⟨⟨h1,h2⟩,h3⟩,h4⟩
  refine⟨h1,h2,fun j y hy=>?_,h4⟩
  have:=h3 y (qQ6 hy)
  rw[qQB,qR5,qR5] at this
  exact this
 ·rintro⟨h1,h2,h3,h4⟩
  refine⟨⟨⟨h1,h2⟩,fun y hy=>?_⟩,h4⟩
  obtain⟨j,hj⟩:=List.getElem?_of_mem hy
  have:=h3 j y hj
  rw[qR6 this.1,qR6 this.2];rfl
def qpy (p:qf) (s:qg) (all:List qa) (day:Int) (q:Nat→List Int→Bool):Bool:=
 (List.range (2 ^ all.length)).all fun Y=>(qpf (lvN p.Need) (rkF Y.testBit all.length)).all fun lf => !qFZ p s all day Y lf||q Y lf
theorem qkj {p:qf} {s:qg} {all:List qa} {day:Int} {q:Nat→List Int→Bool} (h:qpy p s all day q=true) {Y:Nat} {lf:List Int} (hY:Y<2 ^ all.length) (ht:qf4 p (Qt Y.testBit all) day=true) (hp:Perm p.Need s all Y lf):q Y lf=true:=by
 have h1:=qQm.1 h Y (qR2.2 hY)
 have hm:lf∈qpf (lvN p.Need) (rkF Y.testBit all.length):=by
  rw[←hp.len]
  refine qhx _ _ fun y hy=>?_
  obtain⟨j,hj⟩:=List.getElem?_of_mem hy
  exact hp.rng j y hj
 have h2:=qQm.1 h1 lf hm
 rw[qpI.2 ⟨ht,hp⟩] at h2
 simpa using h2
def qKD (N X:Nat) (w:List Int) (Y:Nat) (lf:List Int):Bool:=slL (q3O N X) (q3O N Y)||(X==Y&&(w==lf||q3d w lf))
def qv3 (p:qf) (s:qg) (l:List qa) (day:Int) (X:Nat) (w:List Int):Bool:=
 decide ((Qt (mO p day l) l).length≤10)&&decide (X<2 ^ (Qt (mO p day l) l).length)&&qFZ p s (Qt (mO p day l) l) day X w&&qpy p s (Qt (mO p day l) l) day (qKD (Qt (mO p day l) l).length X w)
theorem qvH {p:qf} {l:List qa} (h:Grd p l) (hl:l.length≤1000) (s:qg) (hck:Qg p s=some 0) (day:Int) {X:Nat} {w:List Int} (hg:qv3 p s l day X w=true):QK p s l day=some (⟨Qt X.testBit (q5G l.length (mO p day l)),w⟩,0):=by
 unfold qv3 at hg
 rw[qQB,qQB,qQB,qR5,qR5] at hg
 obtain⟨⟨⟨h1,h2⟩,h3⟩,h4⟩:=hg
 obtain⟨ht,hp⟩:=qpI.1 h3
 rcases qdf h hl s hck day with ⟨g1,-⟩|⟨-,-,g2⟩|⟨-,Y,v,g1,g2⟩
 ·omega
 ·exact absurd hp (g2 X w h2 ht)
 ·have a1:=qkj h4 g2.lt g2.tog g2.perm
  unfold qKD at a1
  rw[qQA,qQB,qQA,beq_iff_eq,beq_iff_eq] at a1
  have a2:=g2.min X w h2 ht hp
  have hsl:∀A B,slL A B=true→slL B A=true→False:=fun A B u v=>by
   have:=qdF u v
   rw[qfI] at this;cases this
  have hxl:∀A B,q3d A B=true→q3d B A=true→False:=fun A B u v=>by
   have:=q4c u v
   rw[q83] at this;cases this
  have key:Y=X∧v=w:=by
   rcases a1 with a1|⟨e,a1⟩
   ·rcases a2 with a2|⟨e,a2⟩
    ·exact(hsl _ _ a1 a2).elim
    ·subst e;rw[qfI] at a1;cases a1
   ·subst e
    rcases a2 with a2|⟨-,a2⟩
    ·rw[qfI] at a2;cases a2
    ·rcases a1 with e|a1
     ·exact⟨rfl,e.symm⟩
     ·rcases a2 with e|a2
      ·exact⟨rfl,e⟩
      ·exact(hxl _ _ a1 a2).elim
  obtain⟨rfl,rfl⟩:=key
  exact g1
def qIG (p:qf) (s:qg) (l:List qa) (day:Int):Bool:=decide ((Qt (mO p day l) l).length≤10)&&qpy p s (Qt (mO p day l) l) day fun _ _=>false
theorem qEu {p:qf} {l:List qa} (h:Grd p l) (hl:l.length≤1000) (s:qg) (hck:Qg p s=some 0) (day:Int) (hg:qIG p s l day=true):QK p s l day=some (⟨[],[]⟩,31):=by
 unfold qIG at hg
 rw[qQB,qR5] at hg
 rcases qdf h hl s hck day with ⟨g1,-⟩|⟨-,g1,-⟩|⟨-,Y,v,-,g2⟩
 ·omega
 ·exact g1
 ·have:=qkj hg.2 g2.lt g2.tog g2.perm
  cases this
theorem qqu (u:qG) (h1:u.Taken.length≤1000) (h2:u.Leaf.length≤1000):q3x u u=some true:=by
 have e1:=qco (step:=q0s u u) u.Taken (fun _=>true) (.inl ()) (.inr ()) (fun i a ha=>by
  have hi:=Jl ha
  unfold q0s
  rw[if_pos (by omega),if_pos ⟨by omega,by omega⟩,qQ8,ha,qQ5,if_pos ⟨by omega,by omega⟩,qQ5,if_neg (by simp),q4n hi (by omega)]
  rfl) (by
  unfold q0s
  rw[if_neg (by omega)])
 have e2:=qco (step:=q0u u u) u.Leaf (fun _=>true) (.inl ()) (.inr ()) (fun i a ha=>by
  have hi:=Jl ha
  unfold q0u
  rw[if_pos (by omega),if_pos ⟨by omega,by omega⟩,qQ8,ha,qQ5,if_pos ⟨by omega,by omega⟩,qQ5,if_neg (by simp),q4n hi (by omega)]
  rfl) (by
  unfold q0u
  rw[if_neg (by omega)])
 have ht:∀l:List Int,(l.all fun _=>true)=true:=fun l=>by simp
 rw[ht,if_pos rfl] at e1 e2
 unfold q3x
 rw[if_neg (by simp),if_neg (by simp),e1,qQ5,Sum.elim_inr,e2,qQ5,Sum.elim_inr]
end
noncomputable section
open Go.RowKit
set_option maxRecDepth 100000
abbrev cA1:qc:=qc.mk 1 (ByteArray.mk (List.toArray [65,49]))
abbrev cB1:qc:=qc.mk 1 (ByteArray.mk (List.toArray [66,49]))
abbrev mus:ByteArray:=ByteArray.mk (List.toArray [77,117,115,105,99])
abbrev nEx:qb:=qb.mk 1 0 60 [cA1,cB1] []
abbrev pEx (total age:Int) (x:List (q05 qc)):qf:=qf.mk 1 1 1 0 mus nEx total 0 age x
abbrev lEx:List qa:=[qa.mk cA1 5 55 100 [1000001] 0 [],qa.mk cB1 5 60 100 [1000002] 0 [],qa.mk cA1 6 80 100 [1000003] 0 []]
abbrev scP:qg:=⟨0,100,50⟩
theorem qkC:qH 1=scP:=by unfold qH;rfl
theorem q5F (t:Int):ZD t=some (pEx t 0 [],lEx):=by
 unfold ZD
 rw[zV (y:=([qa.mk cA1 5 55 100 [1000001] 0 []],1)) (by rfl),zV (y:=([qa.mk cA1 5 55 100 [1000001] 0 [],qa.mk cB1 5 60 100 [1000002] 0 []],2)) (by rfl),zV (y:=(lEx,3)) (by rfl),zu (e:=lEx) (by rfl)]
 rfl
def qLp (n:qb):Bool:=decide (hgN n≤100)&&decide ((ndN n).length≤9999)&&(ndN n).all (fun y=>decide (y.Set.length≤1000000))&&q6T n==0
theorem qAQ {n:qb} (h:qLp n=true):Rgt n:=by
 unfold qLp at h
 simp only[qQB,qR5,qQm,beq_iff_eq] at h
 exact⟨⟨h.1.1.1,h.1.1.2,h.1.2⟩,h.2⟩
theorem qbs:Rgt nEx:=qAQ (by kernel_rfl)
theorem qDX:JQ nEx=some 0:=by
 rw[q7W nEx qbs.sz.hg qbs.sz.nd qbs.sz.st]
 exact congrArg some qbs.ck
theorem qz2:∀b∈lEx,q8x b:=fun b hb=>by
 simp only[qQr,List.mem_nil_iff,or_false] at hb
 rcases hb with rfl|rfl|rfl<;>exact⟨by decide,by decide⟩
theorem qnp (t a:Int) (x:List (q05 qc)) (hx:x.length≤1000):Grd (pEx t a x) lEx:=⟨qbs,hx,qz2⟩
theorem qz0 (t a:Int) (ht:0≤t∧t≤600) (ha:0≤a∧a≤100) (x:List (q05 qc)) (hx:x=[]∨x=[q05.mk cA1 cB1]):Qg (pEx t a x) scP=some 0:=by
 unfold Qg
 rw[qtI (p:=pEx t a x) (show(1:Int)≤1∧(1:Int)≤8 by decide) (show(1:Int)≤1∧(1:Int)≤999999 by decide) (show(1:Int)≤1∧(1:Int)≤20 by decide) (show(0:Int)≤0∧(0:Int)≤100000 by decide) ht (show(0:Int)≤0∧(0:Int)≤600 by decide) ha (qkH (s:=mus) (by simp[nmL])) qDX (by
  rcases hx with e|e
  ·exact .inl e
  ·exact .inr ⟨cA1,cB1,e,by kernel_rfl,by kernel_rfl,of_decide_eq_true (by kernel_rfl)⟩),qQ5,if_neg (by decide),q6d]
 rfl
theorem qaj (t a:Int) (ht:0≤t∧t≤600) (ha:0≤a∧a≤100) (x:List (q05 qc)) (hx:x=[]∨x=[q05.mk cA1 cB1]) (X:Nat) (w tk:List Int) (hg:qv3 (pEx t a x) scP lEx 500 X w=true) (hk:Qt X.testBit (q5G lEx.length (mO (pEx t a x) 500 lEx))=tk) (h1:tk≠[]) (h2:tk.length≤10) (h3:w.length≤10):zf (pEx t a x) lEx tk w=some true:=by
 unfold zf
 have hxl:x.length≤1000:=by rcases hx with e|e<;>rw[e]<;>decide
 rw[qkC,qvH (qnp t a x hxl) (by decide) scP (qz0 t a ht ha x hx) 500 hg,qQ5,hk]
 have hl:tk.length≠0:=fun e=>h1 (qQo e)
 dsimp only
 rw[if_neg (by simpa using h1),if_pos (by decide),qqu _ (by show tk.length≤1000;omega) (by show w.length≤1000;omega),qQ5]
theorem qmM (t a:Int) (ht:0≤t∧t≤600) (ha:0≤a∧a≤100) (hg:qIG (pEx t a []) scP lEx 500=true):zf (pEx t a []) lEx [] []=some true:=by
 unfold zf
 rw[qkC,qEu (qnp t a [] (by decide)) (by decide) scP (qz0 t a ht ha [] (.inl rfl)) 500 hg,qQ5]
 rfl
theorem qNy:zf (pEx 11 0 []) lEx [1,2] [-1,0]=some true:=qaj 11 0 (by decide) (by decide) [] (.inl rfl) 6 [-1,0] [1,2] (by kernel_rfl) (by kernel_rfl) (by decide) (by decide) (by decide)
theorem qMx:zf (pEx 10 0 []) lEx [0,1] [-1,0]=some true:=qaj 10 0 (by decide) (by decide) [] (.inl rfl) 3 [-1,0] [0,1] (by kernel_rfl) (by kernel_rfl) (by decide) (by decide) (by decide)
theorem qNp:zf (pEx 5 0 []) lEx [1] [0]=some true:=qaj 5 0 (by decide) (by decide) [] (.inl rfl) 2 [0] [1] (by kernel_rfl) (by kernel_rfl) (by decide) (by decide) (by decide)
theorem qMm:zf (pEx 0 0 []) lEx [1] [0]=some true:=qaj 0 0 (by decide) (by decide) [] (.inl rfl) 2 [0] [1] (by kernel_rfl) (by kernel_rfl) (by decide) (by decide) (by decide)
theorem qO0:zf (pEx 12 0 []) lEx [] []=some true:=qmM 12 0 (by decide) (by decide) (by kernel_rfl)
theorem qOa:zf (pEx 11 3 []) lEx [] []=some true:=qmM 11 3 (by decide) (by decide) (by kernel_rfl)
theorem qP8:zf (pEx 6 0 [q05.mk cA1 cB1]) lEx [2] [0]=some true:=qaj 6 0 (by decide) (by decide) _ (.inr rfl) 4 [0] [2] (by kernel_rfl) (by kernel_rfl) (by decide) (by decide) (by decide)
theorem qpD (tk lf:List Int) (r:Int) (hv:∀(j:Nat) (y:Int),lf[j]?=some y → -1≤y∧y<(lvN nEx:Int)) (hr:(if qzg (pEx 11 0 []) lEx 500 (fun L=>qi6 nEx scP L lf) ⟨tk,lf⟩=true then 0 else 32)=r):qy (pEx 11 0 []) scP lEx 500 ⟨tk,lf⟩=some r:=by
 rw[qoi (qnp 11 0 [] (by decide)) (by decide) scP (qz0 11 0 (by decide) (by decide) [] (.inl rfl)) 500 ⟨tk,lf⟩ (fun L=>qi6 nEx scP L lf) (fun L h1 h2=>qh0 qbs h2 scP lf h1.symm hv),hr]
theorem qoX (a b:Int) (ha : -1≤a∧a<1) (hb : -1≤b∧b<1):∀(j:Nat) (y:Int),[a,b][j]?=some y → -1≤y∧y<(lvN nEx:Int)
 | 0,y,h=>by injection h with h;subst h;exact ha
 | 1,y,h=>by injection h with h;subst h;exact hb
 | j+2,y,h=>by cases h
theorem qNM:qy (pEx 11 0 []) scP lEx 500 ⟨[1,2],[0,-1]⟩=some 0:=qpD _ _ _ (qoX 0 (-1) (by decide) (by decide)) (by kernel_rfl)
theorem qMa:qy (pEx 11 0 []) scP lEx 500 ⟨[1,2],[0,0]⟩=some 32:=qpD _ _ _ (qoX 0 0 (by decide) (by decide)) (by kernel_rfl)
theorem qJF:qy (pEx 11 0 []) scP lEx 500 ⟨[0,2],[-1,0]⟩=some 32:=qpD _ _ _ (qoX (-1) 0 (by decide) (by decide)) (by kernel_rfl)
theorem qO7:ZS (pEx 11 3 []) (qa.mk cA1 5 55 100 [1000001] 0 []) 500=some true:=by kernel_rfl
theorem qOJ:ZS (pEx 11 0 []) (qa.mk cA1 5 55 100 [1000001] 0 []) 500=some false:=by kernel_rfl
theorem qHW:q1L ⟨[1],[0]⟩ ⟨[1],[0]⟩=some true:=by
 unfold q1L q0b
 rw[qdp _ _ (by decide),qdp _ _ (by decide)]
 rfl
theorem qi0:q1Z=some true:=by
 have h1:=qNy;have h2:=qMx;have h3:=qNp;have h4:=qMm;have h5:=qO0;have h6:=qOa;have h7:=qP8
 have h8:=qNM;have h9:=qMa;have h10:=qJF;have h11:=qO7;have h12:=qOJ;have h13:=qHW
 unfold q1Z
 rw[q5F,qQ5,q5F,qQ5,q5F,qQ5,q5F,qQ5,q5F,qQ5]
 dsimp only
 rw[h1,qQ5,if_pos rfl,h2,qQ5,if_pos rfl,h3,qQ5,if_pos rfl,h4,qQ5,if_pos rfl,h5,qQ5,if_pos rfl,h6,qQ5,if_pos rfl,h7,qQ5,qkC,h8,qQ5,if_pos (by decide),h9,qQ5,if_pos (by decide),h10,qQ5,if_pos rfl,if_pos (by decide)]
 rw[if_pos (by decide)]
 show Option.bind (some _) _=_
 rw[qQ5]
 rw[h11]
 simp only[qQ5,if_true]
 rw[if_pos (by decide)]
 show Option.bind (some _) _=_
 rw[qQ5,h12]
 simp only[qQ5]
 rw[h13]
 rfl
end
noncomputable section
open Go.RowKit
structure qcK (a:qa):Prop where
 src:a.Sources.length=1
 pth:a.Path.length≤1
 crd:3≤a.Credits∧a.Credits≤10
 day:0≤a.Day∧a.Day≤600
theorem qI8 (cs:List qc) (hc:1≤cs.length) (hc2:cs.length≤1000) (many:Int) (hm:many≤7) (l:List qa) (k:Nat) (hl:l.length=k) (hs:∀a∈l,qcK a) (hk:(k:Int)<many) {d:qi} (hd:q0M d) :
  ∃a d',qcK a∧q0M d'∧Zm cs many (l,d,(k:Int))=some (.inl (l++[a],d',((k+1:Nat):Int))):=by
 have hML:100000≤maxLen:=by unfold maxLen;omega
 obtain⟨v1,d1,e1,a1,b1,h1⟩:=qlU hd (most:=((cs.length:Nat):Int)) (by omega) (by omega)
 obtain⟨c,hc1,_⟩:=qmz cs v1 a1 b1
 obtain⟨v2,d2,e2,a2,b2,h2⟩:=qlU h1 (most:=4) (by omega) (by omega)
 obtain⟨cr,hcr,mcr⟩:=qmz [(5:Int),6,10,3] v2 a2 (by simpa using b2)
 obtain⟨v3,d3,e3,a3,b3,h3⟩:=qlU h2 (most:=7) (by omega) (by omega)
 obtain⟨gr,hgr,_⟩:=qmz [(50:Int),60,90,40,100,79,80] v3 a3 (by simpa using b3)
 obtain⟨v4,d4,e4,a4,b4,h4⟩:=qlU h3 (most:=600) (by omega) (by omega)
 obtain⟨v5,d5,e5,a5,b5,h5⟩:=qlU h4 (most:=8) (by omega) (by omega)
 have hw:w64 ((k:Int)+1)=((k+1:Nat):Int):=by rw[Z9 (by omega) (by omega)];omega
 have hcr2:3≤cr∧cr≤10:=by
  have:cr=5∨cr=6∨cr=10∨cr=3:=by simpa using mcr
  omega
 have hok:∀x,qcK ⟨c,cr,gr,v4,[x],0,[]⟩:=fun x=>⟨rfl,qQv _,hcr2,⟨a4,by show v4≤600;omega⟩⟩
 by_cases hz:v5=0∧0<k
 ·have hwk:w64 ((k:Int)-1)=((k-1:Nat):Int):=by rw[Z9 (by omega) (by omega)];omega
  obtain⟨p,hp⟩:∃p,l[k-1]?=some p:=⟨_,qQ7 (by omega)⟩
  have hps:=(hs p (qQ6 hp)).src
  obtain⟨x,hx⟩:∃x,p.Sources[0]?=some x:=⟨_,qQ7 (by omega)⟩
  refine⟨⟨c,cr,gr,v4,[x],0,[]⟩,d5,hok x,h5,?_⟩
  unfold Zm
  simp only
  rw[if_pos hk,e1,qQ5]
  simp only
  rw[if_pos ⟨a1,b1⟩,hc1,qQ5,e2,qQ5]
  simp only
  rw[if_pos ⟨a2,b2⟩,hcr,qQ5,e3,qQ5]
  simp only
  rw[if_pos ⟨a3,b3⟩,hgr,qQ5,e4,qQ5]
  simp only
  rw[e5,qQ5]
  simp only
  rw[if_pos (by simp[hz.1]),if_pos (by omega),hwk,if_pos ⟨by omega,by omega⟩,qQ8,hp,qQ5,if_pos (by omega),hx,qQ5,if_pos ⟨by omega,by omega⟩,hw]
 ·refine⟨⟨c,cr,gr,v4,[w64 (w64 (w64 ((1000000:Int)*c.School)+(k:Int))+(1:Int))],0,[]⟩,d5,hok _,h5,?_⟩
  unfold Zm
  simp only
  rw[if_pos hk,e1,qQ5]
  simp only
  rw[if_pos ⟨a1,b1⟩,hc1,qQ5,e2,qQ5]
  simp only
  rw[if_pos ⟨a2,b2⟩,hcr,qQ5,e3,qQ5]
  simp only
  rw[if_pos ⟨a3,b3⟩,hgr,qQ5,e4,qQ5]
  simp only
  rw[e5,qQ5]
  simp only
  by_cases h0:v5=0
  ·rw[if_pos (by simp[h0]),if_neg (by omega),if_pos ⟨by omega,by omega⟩,hw]
  ·rw[if_neg (by simpa using h0),if_pos ⟨by omega,by omega⟩,hw]
theorem qGU (cs:List ByteArray) (hc:1≤cs.length) (hc2:cs.length≤1000) (many:Int) (hm:many≤7) (l:List qa) (k:Nat) (hl:l.length=k) (hk:(k:Int)<many) {d:qi} (hd:q0M d) :
  ∃a d',qcK a∧q0M d'∧ZE many cs (l,d,(k:Int))=some (.inl (l++[a],d',((k+1:Nat):Int))):=by
 have hML:100000≤maxLen:=by unfold maxLen;omega
 obtain⟨v1,d1,e1,a1,b1,h1⟩:=q2y hd (most:=5) (by omega) (by omega)
 obtain⟨sc,hsc,_⟩:=qmz [(1:Int),1,1,2,3] v1 a1 (by simpa using b1)
 obtain⟨v2,d2,e2,a2,b2,h2⟩:=q2y h1 (most:=((cs.length:Nat):Int)) (by omega) (by omega)
 obtain⟨c,hc1,_⟩:=qmz cs v2 a2 b2
 obtain⟨v3,d3,e3,a3,b3,h3⟩:=q2y h2 (most:=3) (by omega) (by omega)
 obtain⟨cr,hcr,mcr⟩:=qmz [(5:Int),6,10] v3 a3 (by simpa using b3)
 obtain⟨v4,d4,e4,a4,b4,h4⟩:=q2y h3 (most:=11) (by omega) (by omega)
 obtain⟨v5,d5,e5,a5,b5,h5⟩:=q2y h4 (most:=12) (by omega) (by omega)
 obtain⟨v6,d6,e6,a6,b6,h6⟩:=q2y h5 (most:=4) (by omega) (by omega)
 obtain⟨v7,d7,e7,a7,b7,h7⟩:=q2y h6 (most:=2) (by omega) (by omega)
 obtain⟨v8,d8,e8,a8,b8,h8⟩:=q2y h7 (most:=3) (by omega) (by omega)
 have hw:w64 ((k:Int)+1)=((k+1:Nat):Int):=by rw[Z9 (by omega) (by omega)];omega
 have hcr2:3≤cr∧cr≤10:=by
  have:cr=5∨cr=6∨cr=10:=by simpa using mcr
  omega
 have wd:w64 (50*v5)=50*v5:=Z9 (by omega) (by omega)
 have hd5:0≤w64 (50*v5)∧w64 (50*v5)≤600:=by rw[wd];omega
 unfold ZE
 simp only
 rw[if_pos hk,e1,qQ5]
 simp only
 rw[if_pos ⟨a1,b1⟩,hsc,qQ5,e2,qQ5]
 simp only
 rw[if_pos ⟨a2,b2⟩,hc1,qQ5,e3,qQ5]
 simp only
 rw[if_pos ⟨a3,b3⟩,hcr,qQ5,e4,qQ5]
 simp only
 rw[e5,qQ5]
 simp only
 rw[e6,qQ5]
 simp only
 by_cases h0:v6=0
 ·rw[if_pos (by simp[h0]),e7,qQ5]
  simp only
  rw[e8,qQ5]
  simp only
  rw[if_pos ⟨by omega,by omega⟩,hw]
  exact⟨_,_,⟨rfl,qQl _,hcr2,hd5⟩,h8,rfl⟩
 ·rw[if_neg (by simpa using h0),if_pos ⟨by omega,by omega⟩,hw]
  exact⟨_,_,⟨rfl,qQv _,hcr2,hd5⟩,h6,rfl⟩
theorem qb7 {many:Nat} {F:(List qa×qi×Int)→Option ((List qa×qi×Int)⊕(List qa))}
  (hr:∀(l:List qa) (k:Nat) (d:qi),l.length=k→(∀a∈l,qcK a)→k<many→q0M d→∃a d',qcK a∧q0M d'∧F (l,d,(k:Int))=some (.inl (l++[a],d',((k+1:Nat):Int))))
  (he:∀l d,F (l,d,(many:Int))=some (.inr l)):∀(j k:Nat) (l:List qa) (d:qi),j+k=many→l.length=k→(∀a∈l,qcK a)→q0M d→∃l',zw F (l,d,(k:Int))=some l'∧l'.length=many∧∀a∈l',qcK a
 | 0,k,l,d,hk,hl,hs,hd=>by
  obtain rfl:k=many:=by omega
  exact⟨l,zu (he l d),hl,hs⟩
 | j+1,k,l,d,hk,hl,hs,hd=>by
  obtain⟨a,d',q1,q2,q3⟩:=hr l k d hl hs (by omega) hd
  rw[zV q3]
  refine qb7 hr he j (k+1) (l++[a]) d' (by omega) (by simp[hl]) (fun x hx=>?_) q2
  rcases qQz.1 hx with h|h
  ·exact hs x h
  ·rw[qQW.1 h];exact q1
theorem qp2 {n:qb} (h:q6u 3 6 n) (q:List Int) (hq:q.length≤9223372036854775807):∃l,q3G n q=some l∧l.length≤7∧∀a∈l,qcK a:=by
 obtain⟨cs,g1,g2⟩:=qm0 h
 obtain⟨v,d,e1,a1,b1,h1⟩:=qlU (d:=⟨q,0⟩) ⟨by show(0:Int)≤0;omega,by show(0:Int)≤(q.length:Int);omega,hq⟩ (most:=8) (by omega) (by omega)
 have hML:100000≤maxLen:=by unfold maxLen;omega
 obtain⟨m,rfl⟩:∃m:Nat,v=(m:Int):=⟨v.toNat,by omega⟩
 obtain⟨l',k1,k2,k3⟩:=qb7 (many:=m) (F:=Zm (cs++[qc.mk (1:Int) (ByteArray.mk (List.toArray [90]))]) (m:Int)) (fun l k d hl hs hk hd=>qI8 _ (by simp) (by simp;omega) (m:Int) (by omega) l k hl hs (by omega) hd) (fun l d=>by
  unfold Zm
  simp only
  rw[if_neg (by omega)]) m 0 [] d (by omega) rfl (fun a ha=>by cases ha) h1
 refine⟨l',?_,by omega,k3⟩
 unfold q3G
 rw[g1,qQ5,if_pos ⟨by omega,by omega⟩,e1,qQ5]
 simp only
 change Option.bind (zw _ ([],d,((0:Nat):Int))) _=_
 rw[k1];rfl
theorem qpb (q:List Int) (hq:q.length≤9223372036854775807):∃l,q3u q=some l∧l.length≤7∧∀a∈l,qcK a:=by
 obtain⟨v,d,e1,a1,b1,h1⟩:=q2y (d:=⟨q,0⟩) ⟨by show(0:Int)≤0;omega,by show(0:Int)≤(q.length:Int);omega,hq⟩ (most:=8) (by omega) (by omega)
 obtain⟨m,rfl⟩:∃m:Nat,v=(m:Int):=⟨v.toNat,by omega⟩
 obtain⟨l',k1,k2,k3⟩:=qb7 (many:=m) (F:=ZE (m:Int) Q6) (fun l k d hl hs hk hd=>qGU _ (by decide) (by decide) (m:Int) (by omega) l k hl (by omega) hd) (fun l d=>by
  unfold ZE
  simp only
  rw[if_neg (by omega)]) m 0 [] d (by omega) rfl (fun a ha=>by cases ha) h1
 refine⟨l',?_,by omega,k3⟩
 unfold q3u
 rw[e1,qQ5]
 simp only
 change Option.bind (zw _ ([],d,((0:Nat):Int))) _=_
 rw[k1];rfl
end
noncomputable section
open Go.RowKit
set_option maxRecDepth 100000
theorem q3E {α:Type} (ds:List α) (o s:Nat):ds.drop o=(ds.drop o).take s++ds.drop (o+s):=by
 rw[←qQT];exact(qQU s _).symm
theorem qor {X:Type} {E:X→List D} {W:X→Prop} {sz:Nat} (hz:0<sz):∀(m:Nat) (es:List D),es.length=m*sz→(∀i,i<m→∃x,(es.drop (i*sz)).take sz=E x∧W x)→∃l:List X,es=l.flatMap E∧l.length=m∧∀x∈l,W x
 | 0,es,hl,_=>⟨[],by rw[Nat.zero_mul] at hl;exact qQo hl,rfl,by simp⟩
 | m+1,es,hl,h=>by
  obtain⟨x,hx,wx⟩:=h 0 (by omega)
  obtain⟨l,g1,g2,g3⟩:=qor hz m (es.drop sz) (by rw[qQS,hl,Nat.add_mul];omega) fun i hi=>by
   obtain⟨y,hy,wy⟩:=h (i+1) (by omega)
   refine⟨y,?_,wy⟩
   rw[qQT,show sz+i*sz=(i+1)*sz by rw[Nat.add_mul,Nat.one_mul,Nat.add_comm]];exact hy
  refine⟨x::l,?_,by simp[g2],fun y hy=>?_⟩
  ·rw[Nat.zero_mul,List.drop_zero] at hx
   rw[qRa,←g1,←hx,qQU]
  ·rcases qQr.1 hy with rfl|hy
   ·exact wx
   ·exact g3 y hy
abbrev qJb:List TypeId:=[25,22,3,23,5,4,63,62,60,59]
theorem qtL:qKN Tryz.prog qJb=true:=by kernel_rfl
theorem ty3:∀(n:Nat) (ds:List D),q0t Tryz.prog n 3 ds→∃v:Int,ds=[D.int .i64 v]∧(Lit.int .i64 v).wf=true:=by
 intro n ds h
 cases n with
 | zero=>exact h.elim
 | succ n=>
  unfold q0t at h
  rw[Tryz.underlying3] at h
  obtain⟨z,h1,h2⟩:=h
  exact⟨z,h1,h2⟩
theorem cz3:Tryz.prog.cellsOf 3=1:=by kernel_rfl
theorem qJX:∀(n:Nat) (ds:List D),q0t Tryz.prog n 22 ds→∃v:List Int,ds=[D.sl 1 v.length (v.flatMap eI)]∧(v.length≤maxLen∧∀y∈v,(Lit.int .i64 y).wf=true):=by
 intro n ds h
 cases n with
 | zero=>exact h.elim
 | succ n=>
  unfold q0t at h
  rw[Tryz.underlying22] at h
  obtain⟨m,es,h1,h2,h3,h4⟩:=h
  rw[cz3] at h1 h3 h4
  obtain⟨l,g1,g2,g3⟩:=qor (E:=eI) (W:=fun y=>(Lit.int .i64 y).wf=true) (sz:=1) (by decide) m es h3 fun i hi=>by
   obtain⟨v,q1,q2⟩:=ty3 n _ (h4 i hi)
   exact⟨v,q1.trans (rfl),q2⟩
  refine⟨l,?_,by omega,g3⟩
  rw[h1,g1,g2]
theorem qKh:∀(n:Nat) (ds:List D),q0t Tryz.prog n 23 ds→∃v:Int,ds=[D.int .u16 v]∧(Lit.int .u16 v).wf=true:=by
 intro n ds h
 cases n with
 | zero=>exact h.elim
 | succ n=>
  unfold q0t at h
  rw[Tryz.underlying23] at h
  obtain⟨z,h1,h2⟩:=h
  exact⟨z,h1,h2⟩
theorem qL1:Tryz.prog.cellsOf 22=1:=by kernel_rfl
theorem qKv:Tryz.prog.cellsOf 23=1:=by kernel_rfl
theorem qNo:Tryz.prog.cellsOf 25=3:=by kernel_rfl
def q7c (x:q07):Prop:=(x.Programme.length≤maxLen∧∀y∈x.Programme,(Lit.int .i64 y).wf=true)∧(x.Had.length≤maxLen∧∀y∈x.Had,(Lit.int .i64 y).wf=true)∧(Lit.int .u16 x.Day).wf=true
theorem ty25:∀(n:Nat) (ds:List D),q0t Tryz.prog n 25 ds→∃v:q07,ds=[D.sl 1 v.Programme.length (v.Programme.flatMap eI),D.sl 1 v.Had.length (v.Had.flatMap eI),D.int .u16 v.Day]∧q7c v:=by
 intro n ds h
 cases n with
 | zero=>exact h.elim
 | succ n=>
  unfold q0t at h
  rw[Tryz.underlying25] at h
  obtain⟨hl,hf⟩:=h
  rw[qNo] at hl
  have h0:q0t Tryz.prog n 22 ((ds.drop 0).take (Tryz.prog.cellsOf 22)):=hf _ (qQ6 (i:=0) rfl)
  rw[qL1] at h0
  obtain⟨v0,e0,w0⟩:=qJX _ _ h0
  have c0:=q3E ds 0 1
  rw[e0] at c0
  have h1:q0t Tryz.prog n 22 ((ds.drop 1).take (Tryz.prog.cellsOf 22)):=hf _ (qQ6 (i:=1) rfl)
  rw[qL1] at h1
  obtain⟨v1,e1,w1⟩:=qJX _ _ h1
  have c1:=q3E ds 1 1
  rw[e1] at c1
  have h2:q0t Tryz.prog n 23 ((ds.drop 2).take (Tryz.prog.cellsOf 23)):=hf _ (qQ6 (i:=2) rfl)
  rw[qKv] at h2
  obtain⟨v2,e2,w2⟩:=qKh _ _ h2
  have c2:=q3E ds 2 1
  rw[e2] at c2
  have cl:ds.drop 3=[]:=qQM (by omega)
  refine⟨⟨v0,v1,v2⟩,?_,⟨w0,w1,w2⟩⟩
  have c:ds.drop 0=_:=c0
  simp only[Nat.reduceAdd] at c0 c1 c2 c
  rw[c1,c2,cl] at c
  exact c
theorem qqZ:∀(n:Nat) (ds:List D),q0t Tryz.prog n 59 ds→∃v:Int,ds=[D.int .i8 v]∧(Lit.int .i8 v).wf=true:=by
 intro n ds h
 cases n with
 | zero=>exact h.elim
 | succ n=>
  unfold q0t at h
  rw[Tryz.underlying59] at h
  obtain⟨z,h1,h2⟩:=h
  exact⟨z,h1,h2⟩
theorem qeR:Tryz.prog.cellsOf 59=1:=by kernel_rfl
theorem qLg:Tryz.prog.cellsOf 60=10:=by kernel_rfl
theorem qOw:∀(n:Nat) (ds:List D),q0t Tryz.prog n 60 ds→∃v:q6L Int,ds=[D.int .i8 v.a0,D.int .i8 v.a1,D.int .i8 v.a2,D.int .i8 v.a3,D.int .i8 v.a4,D.int .i8 v.a5,D.int .i8 v.a6,D.int .i8 v.a7,D.int .i8 v.a8,D.int .i8 v.a9]∧((Lit.int .i8 v.a0).wf=true∧(Lit.int .i8 v.a1).wf=true∧(Lit.int .i8 v.a2).wf=true∧(Lit.int .i8 v.a3).wf=true∧(Lit.int .i8 v.a4).wf=true∧(Lit.int .i8 v.a5).wf=true∧(Lit.int .i8 v.a6).wf=true∧(Lit.int .i8 v.a7).wf=true∧(Lit.int .i8 v.a8).wf=true∧(Lit.int .i8 v.a9).wf=true):=by
 intro n ds h
 cases n with
 | zero=>exact h.elim
 | succ n=>
  unfold q0t at h
  rw[Tryz.underlying60] at h
  obtain⟨hl,hf⟩:=h
  rw[qLg] at hl
  have h0:q0t Tryz.prog n 59 ((ds.drop 0).take (Tryz.prog.cellsOf 59)):=by
   have:=hf 0 (by decide)
   rwa [qeR] at this ⊢
  rw[qeR] at h0
  obtain⟨v0,e0,w0⟩:=qqZ _ _ h0
  have c0:=q3E ds 0 1
  rw[e0] at c0
  have h1:q0t Tryz.prog n 59 ((ds.drop 1).take (Tryz.prog.cellsOf 59)):=by
   have:=hf 1 (by decide)
   rwa [qeR] at this ⊢
  rw[qeR] at h1
  obtain⟨v1,e1,w1⟩:=qqZ _ _ h1
  have c1:=q3E ds 1 1
  rw[e1] at c1
  have h2:q0t Tryz.prog n 59 ((ds.drop 2).take (Tryz.prog.cellsOf 59)):=by
   have:=hf 2 (by decide)
   rwa [qeR] at this ⊢
  rw[qeR] at h2
  obtain⟨v2,e2,w2⟩:=qqZ _ _ h2
  have c2:=q3E ds 2 1
  rw[e2] at c2
  have h3:q0t Tryz.prog n 59 ((ds.drop 3).take (Tryz.prog.cellsOf 59)):=by
   have:=hf 3 (by decide)
   rwa [qeR] at this ⊢
  rw[qeR] at h3
  obtain⟨v3,e3,w3⟩:=qqZ _ _ h3
  have c3:=q3E ds 3 1
  rw[e3] at c3
  have h4:q0t Tryz.prog n 59 ((ds.drop 4).take (Tryz.prog.cellsOf 59)):=by
   have:=hf 4 (by decide)
   rwa [qeR] at this ⊢
  rw[qeR] at h4
  obtain⟨v4,e4,w4⟩:=qqZ _ _ h4
  have c4:=q3E ds 4 1
  rw[e4] at c4
  have h5:q0t Tryz.prog n 59 ((ds.drop 5).take (Tryz.prog.cellsOf 59)):=by
   have:=hf 5 (by decide)
   rwa [qeR] at this ⊢
  rw[qeR] at h5
  obtain⟨v5,e5,w5⟩:=qqZ _ _ h5
  have c5:=q3E ds 5 1
  rw[e5] at c5
  have h6:q0t Tryz.prog n 59 ((ds.drop 6).take (Tryz.prog.cellsOf 59)):=by
   have:=hf 6 (by decide)
   rwa [qeR] at this ⊢
  rw[qeR] at h6
  obtain⟨v6,e6,w6⟩:=qqZ _ _ h6
  have c6:=q3E ds 6 1
  rw[e6] at c6
  have h7:q0t Tryz.prog n 59 ((ds.drop 7).take (Tryz.prog.cellsOf 59)):=by
   have:=hf 7 (by decide)
   rwa [qeR] at this ⊢
  rw[qeR] at h7
  obtain⟨v7,e7,w7⟩:=qqZ _ _ h7
  have c7:=q3E ds 7 1
  rw[e7] at c7
  have h8:q0t Tryz.prog n 59 ((ds.drop 8).take (Tryz.prog.cellsOf 59)):=by
   have:=hf 8 (by decide)
   rwa [qeR] at this ⊢
  rw[qeR] at h8
  obtain⟨v8,e8,w8⟩:=qqZ _ _ h8
  have c8:=q3E ds 8 1
  rw[e8] at c8
  have h9:q0t Tryz.prog n 59 ((ds.drop 9).take (Tryz.prog.cellsOf 59)):=by
   have:=hf 9 (by decide)
   rwa [qeR] at this ⊢
  rw[qeR] at h9
  obtain⟨v9,e9,w9⟩:=qqZ _ _ h9
  have c9:=q3E ds 9 1
  rw[e9] at c9
  have cl:ds.drop 10=[]:=qQM (by omega)
  refine⟨⟨v0,v1,v2,v3,v4,v5,v6,v7,v8,v9⟩,?_,⟨w0,w1,w2,w3,w4,w5,w6,w7,w8,w9⟩⟩
  have c:ds.drop 0=_:=c0
  simp only[Nat.reduceAdd] at c0 c1 c2 c3 c4 c5 c6 c7 c8 c9 c
  rw[c1,c2,c3,c4,c5,c6,c7,c8,c9,cl] at c
  exact c
theorem qBG:Tryz.prog.cellsOf 62=11:=by kernel_rfl
def q4v (x:Qy):Prop:=(Lit.int .u16 x.Mask).wf=true∧((Lit.int .i8 x.Leaf.a0).wf=true∧(Lit.int .i8 x.Leaf.a1).wf=true∧(Lit.int .i8 x.Leaf.a2).wf=true∧(Lit.int .i8 x.Leaf.a3).wf=true∧(Lit.int .i8 x.Leaf.a4).wf=true∧(Lit.int .i8 x.Leaf.a5).wf=true∧(Lit.int .i8 x.Leaf.a6).wf=true∧(Lit.int .i8 x.Leaf.a7).wf=true∧(Lit.int .i8 x.Leaf.a8).wf=true∧(Lit.int .i8 x.Leaf.a9).wf=true)
theorem qLC:∀(n:Nat) (ds:List D),q0t Tryz.prog n 62 ds→∃v:Qy,ds=[D.int .u16 v.Mask,D.int .i8 v.Leaf.a0,D.int .i8 v.Leaf.a1,D.int .i8 v.Leaf.a2,D.int .i8 v.Leaf.a3,D.int .i8 v.Leaf.a4,D.int .i8 v.Leaf.a5,D.int .i8 v.Leaf.a6,D.int .i8 v.Leaf.a7,D.int .i8 v.Leaf.a8,D.int .i8 v.Leaf.a9]∧q4v v:=by
 intro n ds h
 cases n with
 | zero=>exact h.elim
 | succ n=>
  unfold q0t at h
  rw[Tryz.underlying62] at h
  obtain⟨hl,hf⟩:=h
  rw[qBG] at hl
  have h0:q0t Tryz.prog n 23 ((ds.drop 0).take (Tryz.prog.cellsOf 23)):=hf _ (qQ6 (i:=0) rfl)
  rw[qKv] at h0
  obtain⟨v0,e0,w0⟩:=qKh _ _ h0
  have c0:=q3E ds 0 1
  rw[e0] at c0
  have h1:q0t Tryz.prog n 60 ((ds.drop 1).take (Tryz.prog.cellsOf 60)):=hf _ (qQ6 (i:=1) rfl)
  rw[qLg] at h1
  obtain⟨v1,e1,w1⟩:=qOw _ _ h1
  have c1:=q3E ds 1 10
  rw[e1] at c1
  have cl:ds.drop 11=[]:=qQM (by omega)
  refine⟨⟨v0,v1⟩,?_,⟨w0,w1⟩⟩
  have c:ds.drop 0=_:=c0
  simp only[Nat.reduceAdd] at c0 c1 c
  rw[c1,cl] at c
  exact c
theorem qPo:Tryz.prog.cellsOf 63=22:=by kernel_rfl
theorem ty63:∀(n:Nat) (ds:List D),q0t Tryz.prog n 63 ds→∃v:q05 Qy,ds=[D.int .u16 v.a0.Mask,D.int .i8 v.a0.Leaf.a0,D.int .i8 v.a0.Leaf.a1,D.int .i8 v.a0.Leaf.a2,D.int .i8 v.a0.Leaf.a3,D.int .i8 v.a0.Leaf.a4,D.int .i8 v.a0.Leaf.a5,D.int .i8 v.a0.Leaf.a6,D.int .i8 v.a0.Leaf.a7,D.int .i8 v.a0.Leaf.a8,D.int .i8 v.a0.Leaf.a9,D.int .u16 v.a1.Mask,D.int .i8 v.a1.Leaf.a0,D.int .i8 v.a1.Leaf.a1,D.int .i8 v.a1.Leaf.a2,D.int .i8 v.a1.Leaf.a3,D.int .i8 v.a1.Leaf.a4,D.int .i8 v.a1.Leaf.a5,D.int .i8 v.a1.Leaf.a6,D.int .i8 v.a1.Leaf.a7,D.int .i8 v.a1.Leaf.a8,D.int .i8 v.a1.Leaf.a9]∧(q4v v.a0∧q4v v.a1):=by
 intro n ds h
 cases n with
 | zero=>exact h.elim
 | succ n=>
  unfold q0t at h
  rw[Tryz.underlying63] at h
  obtain⟨hl,hf⟩:=h
  rw[qPo] at hl
  have h0:q0t Tryz.prog n 62 ((ds.drop 0).take (Tryz.prog.cellsOf 62)):=by
   have:=hf 0 (by decide)
   rwa [qBG] at this ⊢
  rw[qBG] at h0
  obtain⟨v0,e0,w0⟩:=qLC _ _ h0
  have c0:=q3E ds 0 11
  rw[e0] at c0
  have h1:q0t Tryz.prog n 62 ((ds.drop 11).take (Tryz.prog.cellsOf 62)):=by
   have:=hf 1 (by decide)
   rwa [qBG] at this ⊢
  rw[qBG] at h1
  obtain⟨v1,e1,w1⟩:=qLC _ _ h1
  have c1:=q3E ds 11 11
  rw[e1] at c1
  have cl:ds.drop 22=[]:=qQM (by omega)
  refine⟨⟨v0,v1⟩,?_,⟨w0,w1⟩⟩
  have c:ds.drop 0=_:=c0
  simp only[Nat.reduceAdd] at c0 c1 c
  rw[c1,cl] at c
  exact c
end
noncomputable section
open Go.RowKit
theorem qAF {x:Int} (h:(Lit.int .u16 x).wf=true):0≤x∧x≤65535:=by
 unfold Lit.wf at h
 rw[qQB,qR5,qR5] at h
 exact h
structure C14 (c:q07) (p:qf) (l:List qa) (day:Int):Prop where
 pg:qzd p
 len:l.length≤7
 ach:∀a∈l,qcK a
 d0:0≤day
 d1:day<800
theorem qn1 {c:q07} (w:q7c c):∃p l day,q0o c=some (p,l,day)∧C14 c p l day:=by
 obtain⟨w1,w2,w3⟩:=w
 have hm:maxLen≤9223372036854775807:=by unfold maxLen;decide
 have hd:=qAF w3
 obtain⟨p,e1,hp⟩:=qwp c.Programme (by omega)
 obtain⟨l1,e2,hl1,ha1⟩:=qpb c.Had (by omega)
 obtain⟨l2,e3,hl2,ha2⟩:=qp2 hp.need c.Had (by omega)
 have hday:w64 c.Day=c.Day:=Z9 (by omega) (by omega)
 have h0:0≤Int.tmod (w64 c.Day) 800:=Int.tmod_nonneg _ (by omega)
 have h1:Int.tmod (w64 c.Day) 800<800:=Int.tmod_lt_of_pos _ (by omega)
 unfold q0o
 rw[e1,qQ5,e2,qQ5]
 by_cases hc:(Int.tmod c.Day 2==0)=true
 ·rw[if_pos hc,e3,qQ5]
  exact⟨_,_,_,rfl,hp,hl2,ha2,h0,h1⟩
 ·rw[if_neg hc]
  exact⟨_,_,_,rfl,hp,hl1,ha1,h0,h1⟩
theorem C14.grd {c:q07} {p:qf} {l:List qa} {day:Int} (h:C14 c p l day):Grd p l:=by
 refine⟨⟨⟨by have:=h.pg.need.hg;omega,by have h2:=h.pg.need.l2;have h4:=h.pg.need.nd;omega,qg3 h.pg.need.ok⟩,?_⟩,?_,fun b hb=>?_⟩
 ·have h1:=qeU h.pg.need
  rw[q7W p.Need (by have:=h.pg.need.hg;omega) (by have h2:=h.pg.need.l2;have h4:=h.pg.need.nd;omega) (qg3 h.pg.need.ok)] at h1
  injection h1
 ·rcases h.pg.ex with e|⟨a,b,e,-⟩<;>rw[e]
  ·exact qQv _
  ·show 1≤1000;omega
 ·have:=h.ach b hb
  exact⟨by rw[this.src];omega,by have:=this.pth;omega⟩
theorem C14.ck {c:q07} {p:qf} {l:List qa} {day:Int} (h:C14 c p l day):Qg p scP=some 0:=qm1 h.pg (by decide)
end
noncomputable section
open Go.RowKit
set_option maxRecDepth 20000
set_option maxHeartbeats 8000000
theorem lo5:okL 5 qre:=qV (qk bd5) (by kernel_rfl) (by kernel_rfl)
def cx5:=JA_ @qre.eq_1 (JA_ @Tryz.f5.eq_1 @bd5)
theorem qIg:lbO 5 8=qvA:=Qz (qk bd5) rfl
theorem qGY:okL 5 qvA:=zS lo5 (qQ6 (i:=0) (by kernel_rfl))
theorem qKy:okL 20 qk2:=qV (qk qFB) (by kernel_rfl) (by kernel_rfl)
def qKs:=JA_ @qk2.eq_1 (JA_ @Tryz.f20.eq_1 @qFB)
theorem qEb:lbO 20 3=qna:=Qz (qk qFB) rfl
theorem qDn:okL 20 qna:=zS qKy (qQ6 (i:=0) (by kernel_rfl))
theorem qEI:∀(m a0 a1 a2 a3 a4 a5 a6 a7 a8 a9:Int) (i:Nat),([C.d (D.int .u16 m),C.d (D.int .i8 a0),C.d (D.int .i8 a1),C.d (D.int .i8 a2),C.d (D.int .i8 a3),C.d (D.int .i8 a4),C.d (D.int .i8 a5),C.d (D.int .i8 a6),C.d (D.int .i8 a7),C.d (D.int .i8 a8),C.d (D.int .i8 a9)]:List C)[1+i]?=(([a0,a1,a2,a3,a4,a5,a6,a7,a8,a9]:List Int)[i]?).bind fun x=>some (C.d (D.int .i8 x)):=fun m a0 a1 a2 a3 a4 a5 a6 a7 a8 a9 i=>by
 rw[Nat.add_comm 1 i,qQu,show([C.d (D.int .i8 a0),C.d (D.int .i8 a1),C.d (D.int .i8 a2),C.d (D.int .i8 a3),C.d (D.int .i8 a4),C.d (D.int .i8 a5),C.d (D.int .i8 a6),C.d (D.int .i8 a7),C.d (D.int .i8 a8),C.d (D.int .i8 a9)]:List C)=([a0,a1,a2,a3,a4,a5,a6,a7,a8,a9]:List Int).map (fun x=>C.d (D.int .i8 x)) from rfl,qQj]
 cases([a0,a1,a2,a3,a4,a5,a6,a7,a8,a9]:List Int)[i]? <;> rfl
def QC (u:Qy) (n:Int):(List Int×List Int×Int)→Option ((List Int×List Int×Int)⊕(List Int×List Int))|(w3,w4,k)=>if k<n then if k<10 then if 0≤k then if(ZT Go.BinOp.and IntKind.u16 (Int.fdiv u.Mask (2 ^ min (Int.toNat k) (IntKind.bits IntKind.u16))) 1==1)=Bool.true then if w3.length+1≤maxLen∧(w3.length+1)*8≤140737488355328 then if 0≤k∧k<10 then Option.bind [u.Leaf.a0,u.Leaf.a1,u.Leaf.a2,u.Leaf.a3,u.Leaf.a4,u.Leaf.a5,u.Leaf.a6,u.Leaf.a7,u.Leaf.a8,u.Leaf.a9][Int.toNat k]? fun(a:Int)=>if w4.length+1≤maxLen∧(w4.length+1)*8≤140737488355328 then some (Sum.inl (w3++[k],w4++[Int.tmod (w64 a) 8],w64 (k+1))) else none else none else none else some (Sum.inl (w3,w4,w64 (k+1))) else none else some (Sum.inr (w3,w4)) else some (Sum.inr (w3,w4))
theorem q7a:∀(w3 w4:List Int) (q1R ZX ZY ZZ J0 J1 J2 J3 J4 J5 J6 n k:Int) (q1B Zo:Nat),q1B=w3.length→Zo=w4.length→XL2 evo 20 0 3 ⟨[(1,rI n),(2,rP 0),(4,rP 1),(5,rP 2),(6,rI k)],[(0,B.blk 62 [C.d (D.int .u16 q1R),C.d (D.int .i8 ZX),C.d (D.int .i8 ZY),C.d (D.int .i8 ZZ),C.d (D.int .i8 J0),C.d (D.int .i8 J1),C.d (D.int .i8 J2),C.d (D.int .i8 J3),C.d (D.int .i8 J4),C.d (D.int .i8 J5),C.d (D.int .i8 J6)]),(1,B.blk 48 [C.nils,C.nils]),(2,B.blk 48 [dO 3 1 q1B,dO 4 1 Zo]),(3,bR 3 1 eI w3),(4,bR 3 1 eI w4)],5,40⟩=(zw (QC (Qy.mk q1R (q6L.mk ZX ZY ZZ J0 J1 J2 J3 J4 J5 J6)) n) (w3,w4,k)).bind (fun(e:List Int×List Int)=>some (Exit.exit 0,⟨[(4,rP 0),(5,rP 1)],[(0,B.blk 48 [C.nils,C.nils]),(1,B.blk 48 [dO 2 1 e.1.length,dO 3 1 e.2.length]),(2,bR 3 1 eI e.1),(3,bR 3 1 eI e.2)],4,40⟩)):=
 by
 intro w3 w4 q1R ZX ZY ZZ J0 J1 J2 J3 J4 J5 J6 n k q1B Zo h0 h1
 subst h0 h1
 revert k;revert w4;revert w3;exact qFy qEb qDn (fun e=>by exact⟨_,rfl,fun h=>by cases h⟩) fun w3 w4 k=>by
  have:=qKs;have:=@qna.eq_1;have:=@QC.eq_1;have:=@qEI;exact gA
theorem q5y:∀  (q1R ZX ZY ZZ J0 J1 J2 J3 J4 J5 J6 n k:Int),XL2 evo 20 0 3 ⟨[(1,rI n),(2,rP 0),(4,rP 1),(5,rP 2),(6,rI k)],[(0,B.blk 62 [C.d (D.int .u16 q1R),C.d (D.int .i8 ZX),C.d (D.int .i8 ZY),C.d (D.int .i8 ZZ),C.d (D.int .i8 J0),C.d (D.int .i8 J1),C.d (D.int .i8 J2),C.d (D.int .i8 J3),C.d (D.int .i8 J4),C.d (D.int .i8 J5),C.d (D.int .i8 J6)]),(1,B.blk 48 [C.nils,C.nils]),(2,B.blk 48 [dO 3 1 0,dO 4 1 0]),(3,B.row 3 1 []),(4,B.row 3 1 [])],5,40⟩=(zw (QC (Qy.mk q1R (q6L.mk ZX ZY ZZ J0 J1 J2 J3 J4 J5 J6)) n) ([],[],k)).bind (fun(e:List Int×List Int)=>some (Exit.exit 0,⟨[(4,rP 0),(5,rP 1)],[(0,B.blk 48 [C.nils,C.nils]),(1,B.blk 48 [dO 2 1 e.1.length,dO 3 1 e.2.length]),(2,bR 3 1 eI e.1),(3,bR 3 1 eI e.2)],4,40⟩)):=by
 intro q1R ZX ZY ZZ J0 J1 J2 J3 J4 J5 J6 n k;have h:=q7a [] [] ((Qy.mk q1R (q6L.mk ZX ZY ZZ J0 J1 J2 J3 J4 J5 J6))).Mask ((Qy.mk q1R (q6L.mk ZX ZY ZZ J0 J1 J2 J3 J4 J5 J6))).Leaf.a0 ((Qy.mk q1R (q6L.mk ZX ZY ZZ J0 J1 J2 J3 J4 J5 J6))).Leaf.a1 ((Qy.mk q1R (q6L.mk ZX ZY ZZ J0 J1 J2 J3 J4 J5 J6))).Leaf.a2 ((Qy.mk q1R (q6L.mk ZX ZY ZZ J0 J1 J2 J3 J4 J5 J6))).Leaf.a3 ((Qy.mk q1R (q6L.mk ZX ZY ZZ J0 J1 J2 J3 J4 J5 J6))).Leaf.a4 ((Qy.mk q1R (q6L.mk ZX ZY ZZ J0 J1 J2 J3 J4 J5 J6))).Leaf.a5 ((Qy.mk q1R (q6L.mk ZX ZY ZZ J0 J1 J2 J3 J4 J5 J6))).Leaf.a6 ((Qy.mk q1R (q6L.mk ZX ZY ZZ J0 J1 J2 J3 J4 J5 J6))).Leaf.a7 ((Qy.mk q1R (q6L.mk ZX ZY ZZ J0 J1 J2 J3 J4 J5 J6))).Leaf.a8 ((Qy.mk q1R (q6L.mk ZX ZY ZZ J0 J1 J2 J3 J4 J5 J6))).Leaf.a9 n k _ _ rfl rfl
 first
  | exact h
  | (simp only[rL,dL,bR,bZ,Nat.reduceAdd] at h;exact h)
def zb (u:Qy) (n:Int):Option qG:=Option.bind (zw (QC u n) ([],([],0))) fun(a:Prod (List Int) (List Int))=>some (qG.mk a.1 a.2)
theorem q9G:∀(q1R ZX ZY ZZ J0 J1 J2 J3 J4 J5 J6 n:Int),ev 20 0 [R.agg [C.d (D.int .u16 q1R),C.d (D.int .i8 ZX),C.d (D.int .i8 ZY),C.d (D.int .i8 ZZ),C.d (D.int .i8 J0),C.d (D.int .i8 J1),C.d (D.int .i8 J2),C.d (D.int .i8 J3),C.d (D.int .i8 J4),C.d (D.int .i8 J5),C.d (D.int .i8 J6)],rI n] []=(zb (Qy.mk q1R (q6L.mk ZX ZY ZZ J0 J1 J2 J3 J4 J5 J6)) n).bind (fun(e:qG)=>some (R.agg [dL 1 eI e.Taken,dL 1 eI e.Leaf],[])):=
 fun q1R ZX ZY ZZ J0 J1 J2 J3 J4 J5 J6 n=>by
  rw[qU qFB qL7.2.2.2 qKy]
  have:=qKs;have:=@q5y;have:=@zb.eq_1;have:=@qEI;exact gA
theorem qLK:okL 24 qla:=qV (qk qFM) (by kernel_rfl) (by kernel_rfl)
def qLn:=JA_ @qla.eq_1 (JA_ @Tryz.f24.eq_1 @qFM)
theorem qCG:lbO 24 2=qqi:=Qz (qk qFM) rfl
theorem qC4:okL 24 qqi:=zS qLK (qQ6 (i:=0) (by kernel_rfl))
def Jm (a:List Int) (b:List Int):Int→Option (Int⊕(Bool⊕Unit))|i=>if i<((a.length:Nat):Int) then if i<((b.length:Nat):Int) then if 0≤i∧i<((a.length:Nat):Int) then Option.bind a[Int.toNat i]? fun(a2:Int)=>if 0≤i∧i<((b.length:Nat):Int) then Option.bind b[Int.toNat i]? fun(a3:Int)=>if(a2 != a3)=Bool.true then if 0≤i∧i<((a.length:Nat):Int) then Option.bind a[Int.toNat i]? fun(a4:Int)=>if 0≤i∧i<((b.length:Nat):Int) then Option.bind b[Int.toNat i]? fun(a5:Int)=>some (Sum.inr (Sum.inl (decide (a4<a5)))) else none else none else some (Sum.inl (w64 (i+1))) else none else none else some (Sum.inr (Sum.inr ())) else some (Sum.inr (Sum.inr ()))
theorem qa5:∀(a b:List Int) (i:Int),XL2 evo 24 0 2 ⟨[(0,rL 1 eI a),(1,rL 1 eI b),(5,rI i)],[],0,36⟩=(zw (Jm a b) i).bind (Sum.elim (fun(e:Bool)=>some (Exit.ret,⟨[(4,rB e)],[],0,36⟩)) (fun(e:Unit)=>some (Exit.exit 0,⟨[(4,R.any)],[],0,36⟩))):=
 fun a b i=>by
  revert i;exact qbL qCG qC4 (fun e=>by rcases e with _|_<;>exact⟨_,rfl,fun h=>by cases h⟩) fun x=>by
   have:=qLn;have:=@qqi.eq_1;have:=@Jm.eq_1;exact gA
def qx (a:List Int) (b:List Int):Option Bool:=Option.bind (zw (Jm a b) 0) fun(a2:Sum Bool Unit)=>Sum.elim (fun(a3:Bool)=>some a3) (fun(a4:Unit)=>some Bool.false) a2
theorem qcL:∀(a b:List Int),ev 24 0 [rL 1 eI a,rL 1 eI b] []=(qx a b).bind (fun(e:Bool)=>some (rB e,[])):=
 fun a b=>by
  rw[qU qFM qK5.2.2.2 qLK]
  have:=qLn;have:=@qa5;have:=@qx.eq_1;exact gA
def q0C (x0:q07) (x1:q05 Qy):Option Bool:=Option.bind q1Z fun(a:Bool)=>Option.bind (q0o x0) fun(a2:Prod qf (Prod (List qa) Int))=>Option.bind (QK a2.1 (qH 1) a2.2.1 a2.2.2) fun(a3:Prod qG Int)=>if(a3.2==0)=Bool.true then Option.bind (qy a2.1 (qH 1) a2.2.1 a2.2.2 a3.1) fun(a4:Int)=>if(a4 != 0)=Bool.true then some Bool.false else if(a3.2 != 0)=Bool.true then if(a3.2 != 31)=Bool.true then some Bool.false else if 0<w64 (((a3.1.Taken.length:Nat):Int)+((a3.1.Leaf.length:Nat):Int)) then some Bool.false else Option.bind (zb x1.a0 ((a2.2.1.length:Nat):Int)) fun(a5:qG)=>Option.bind (qy a2.1 (qH 1) a2.2.1 a2.2.2 a5) fun(a6:Int)=>if(a6 != 0)=Bool.true then Option.bind (zb x1.a1 ((a2.2.1.length:Nat):Int)) fun(a7:qG)=>Option.bind (qy a2.1 (qH 1) a2.2.1 a2.2.2 a7) fun(a8:Int)=>if(a8 != 0)=Bool.true then some a else if(a3.2 != 0)=Bool.true then some Bool.false else if((a7.Taken.length:Nat):Int)<((a3.1.Taken.length:Nat):Int) then some Bool.false else if(((a7.Taken.length:Nat):Int)==((a3.1.Taken.length:Nat):Int))=Bool.true then Option.bind (qx a7.Taken a3.1.Taken) fun(a9:Bool)=>if a9=Bool.true then some Bool.false else Option.bind (qx a3.1.Taken a7.Taken) fun(a10:Bool)=>if(!a10)=Bool.true then Option.bind (qx a7.Leaf a3.1.Leaf) fun(a11:Bool)=>if a11=Bool.true then some Bool.false else some a else some a else some a else if(a3.2 != 0)=Bool.true then some Bool.false else if((a5.Taken.length:Nat):Int)<((a3.1.Taken.length:Nat):Int) then some Bool.false else if(((a5.Taken.length:Nat):Int)==((a3.1.Taken.length:Nat):Int))=Bool.true then Option.bind (qx a5.Taken a3.1.Taken) fun(a12:Bool)=>if a12=Bool.true then some Bool.false else Option.bind (qx a3.1.Taken a5.Taken) fun(a13:Bool)=>if(!a13)=Bool.true then Option.bind (qx a5.Leaf a3.1.Leaf) fun(a14:Bool)=>if a14=Bool.true then some Bool.false else Option.bind (zb x1.a1 ((a2.2.1.length:Nat):Int)) fun(a15:qG)=>Option.bind (qy a2.1 (qH 1) a2.2.1 a2.2.2 a15) fun(a16:Int)=>if(a16 != 0)=Bool.true then some a else if(a3.2 != 0)=Bool.true then some Bool.false else if((a15.Taken.length:Nat):Int)<((a3.1.Taken.length:Nat):Int) then some Bool.false else if(((a15.Taken.length:Nat):Int)==((a3.1.Taken.length:Nat):Int))=Bool.true then Option.bind (qx a15.Taken a3.1.Taken) fun(a17:Bool)=>if a17=Bool.true then some Bool.false else Option.bind (qx a3.1.Taken a15.Taken) fun(a18:Bool)=>if(!a18)=Bool.true then Option.bind (qx a15.Leaf a3.1.Leaf) fun(a19:Bool)=>if a19=Bool.true then some Bool.false else some a else some a else some a else Option.bind (zb x1.a1 ((a2.2.1.length:Nat):Int)) fun(a20:qG)=>Option.bind (qy a2.1 (qH 1) a2.2.1 a2.2.2 a20) fun(a21:Int)=>if(a21 != 0)=Bool.true then some a else if(a3.2 != 0)=Bool.true then some Bool.false else if((a20.Taken.length:Nat):Int)<((a3.1.Taken.length:Nat):Int) then some Bool.false else if(((a20.Taken.length:Nat):Int)==((a3.1.Taken.length:Nat):Int))=Bool.true then Option.bind (qx a20.Taken a3.1.Taken) fun(a22:Bool)=>if a22=Bool.true then some Bool.false else Option.bind (qx a3.1.Taken a20.Taken) fun(a23:Bool)=>if(!a23)=Bool.true then Option.bind (qx a20.Leaf a3.1.Leaf) fun(a24:Bool)=>if a24=Bool.true then some Bool.false else some a else some a else some a else Option.bind (zb x1.a1 ((a2.2.1.length:Nat):Int)) fun(a25:qG)=>Option.bind (qy a2.1 (qH 1) a2.2.1 a2.2.2 a25) fun(a26:Int)=>if(a26 != 0)=Bool.true then some a else if(a3.2 != 0)=Bool.true then some Bool.false else if((a25.Taken.length:Nat):Int)<((a3.1.Taken.length:Nat):Int) then some Bool.false else if(((a25.Taken.length:Nat):Int)==((a3.1.Taken.length:Nat):Int))=Bool.true then Option.bind (qx a25.Taken a3.1.Taken) fun(a27:Bool)=>if a27=Bool.true then some Bool.false else Option.bind (qx a3.1.Taken a25.Taken) fun(a28:Bool)=>if(!a28)=Bool.true then Option.bind (qx a25.Leaf a3.1.Leaf) fun(a29:Bool)=>if a29=Bool.true then some Bool.false else some a else some a else some a else Option.bind (zb x1.a0 ((a2.2.1.length:Nat):Int)) fun(a30:qG)=>Option.bind (qy a2.1 (qH 1) a2.2.1 a2.2.2 a30) fun(a31:Int)=>if(a31 != 0)=Bool.true then Option.bind (zb x1.a1 ((a2.2.1.length:Nat):Int)) fun(a32:qG)=>Option.bind (qy a2.1 (qH 1) a2.2.1 a2.2.2 a32) fun(a33:Int)=>if(a33 != 0)=Bool.true then some a else if(a3.2 != 0)=Bool.true then some Bool.false else if((a32.Taken.length:Nat):Int)<((a3.1.Taken.length:Nat):Int) then some Bool.false else if(((a32.Taken.length:Nat):Int)==((a3.1.Taken.length:Nat):Int))=Bool.true then Option.bind (qx a32.Taken a3.1.Taken) fun(a34:Bool)=>if a34=Bool.true then some Bool.false else Option.bind (qx a3.1.Taken a32.Taken) fun(a35:Bool)=>if(!a35)=Bool.true then Option.bind (qx a32.Leaf a3.1.Leaf) fun(a36:Bool)=>if a36=Bool.true then some Bool.false else some a else some a else some a else if(a3.2 != 0)=Bool.true then some Bool.false else if((a30.Taken.length:Nat):Int)<((a3.1.Taken.length:Nat):Int) then some Bool.false else if(((a30.Taken.length:Nat):Int)==((a3.1.Taken.length:Nat):Int))=Bool.true then Option.bind (qx a30.Taken a3.1.Taken) fun(a37:Bool)=>if a37=Bool.true then some Bool.false else Option.bind (qx a3.1.Taken a30.Taken) fun(a38:Bool)=>if(!a38)=Bool.true then Option.bind (qx a30.Leaf a3.1.Leaf) fun(a39:Bool)=>if a39=Bool.true then some Bool.false else Option.bind (zb x1.a1 ((a2.2.1.length:Nat):Int)) fun(a40:qG)=>Option.bind (qy a2.1 (qH 1) a2.2.1 a2.2.2 a40) fun(a41:Int)=>if(a41 != 0)=Bool.true then some a else if(a3.2 != 0)=Bool.true then some Bool.false else if((a40.Taken.length:Nat):Int)<((a3.1.Taken.length:Nat):Int) then some Bool.false else if(((a40.Taken.length:Nat):Int)==((a3.1.Taken.length:Nat):Int))=Bool.true then Option.bind (qx a40.Taken a3.1.Taken) fun(a42:Bool)=>if a42=Bool.true then some Bool.false else Option.bind (qx a3.1.Taken a40.Taken) fun(a43:Bool)=>if(!a43)=Bool.true then Option.bind (qx a40.Leaf a3.1.Leaf) fun(a44:Bool)=>if a44=Bool.true then some Bool.false else some a else some a else some a else Option.bind (zb x1.a1 ((a2.2.1.length:Nat):Int)) fun(a45:qG)=>Option.bind (qy a2.1 (qH 1) a2.2.1 a2.2.2 a45) fun(a46:Int)=>if(a46 != 0)=Bool.true then some a else if(a3.2 != 0)=Bool.true then some Bool.false else if((a45.Taken.length:Nat):Int)<((a3.1.Taken.length:Nat):Int) then some Bool.false else if(((a45.Taken.length:Nat):Int)==((a3.1.Taken.length:Nat):Int))=Bool.true then Option.bind (qx a45.Taken a3.1.Taken) fun(a47:Bool)=>if a47=Bool.true then some Bool.false else Option.bind (qx a3.1.Taken a45.Taken) fun(a48:Bool)=>if(!a48)=Bool.true then Option.bind (qx a45.Leaf a3.1.Leaf) fun(a49:Bool)=>if a49=Bool.true then some Bool.false else some a else some a else some a else Option.bind (zb x1.a1 ((a2.2.1.length:Nat):Int)) fun(a50:qG)=>Option.bind (qy a2.1 (qH 1) a2.2.1 a2.2.2 a50) fun(a51:Int)=>if(a51 != 0)=Bool.true then some a else if(a3.2 != 0)=Bool.true then some Bool.false else if((a50.Taken.length:Nat):Int)<((a3.1.Taken.length:Nat):Int) then some Bool.false else if(((a50.Taken.length:Nat):Int)==((a3.1.Taken.length:Nat):Int))=Bool.true then Option.bind (qx a50.Taken a3.1.Taken) fun(a52:Bool)=>if a52=Bool.true then some Bool.false else Option.bind (qx a3.1.Taken a50.Taken) fun(a53:Bool)=>if(!a53)=Bool.true then Option.bind (qx a50.Leaf a3.1.Leaf) fun(a54:Bool)=>if a54=Bool.true then some Bool.false else some a else some a else some a else if(a3.2 != 0)=Bool.true then if(a3.2 != 31)=Bool.true then some Bool.false else if 0<w64 (((a3.1.Taken.length:Nat):Int)+((a3.1.Leaf.length:Nat):Int)) then some Bool.false else Option.bind (zb x1.a0 ((a2.2.1.length:Nat):Int)) fun(a55:qG)=>Option.bind (qy a2.1 (qH 1) a2.2.1 a2.2.2 a55) fun(a56:Int)=>if(a56 != 0)=Bool.true then Option.bind (zb x1.a1 ((a2.2.1.length:Nat):Int)) fun(a57:qG)=>Option.bind (qy a2.1 (qH 1) a2.2.1 a2.2.2 a57) fun(a58:Int)=>if(a58 != 0)=Bool.true then some a else if(a3.2 != 0)=Bool.true then some Bool.false else if((a57.Taken.length:Nat):Int)<((a3.1.Taken.length:Nat):Int) then some Bool.false else if(((a57.Taken.length:Nat):Int)==((a3.1.Taken.length:Nat):Int))=Bool.true then Option.bind (qx a57.Taken a3.1.Taken) fun(a59:Bool)=>if a59=Bool.true then some Bool.false else Option.bind (qx a3.1.Taken a57.Taken) fun(a60:Bool)=>if(!a60)=Bool.true then Option.bind (qx a57.Leaf a3.1.Leaf) fun(a61:Bool)=>if a61=Bool.true then some Bool.false else some a else some a else some a else if(a3.2 != 0)=Bool.true then some Bool.false else if((a55.Taken.length:Nat):Int)<((a3.1.Taken.length:Nat):Int) then some Bool.false else if(((a55.Taken.length:Nat):Int)==((a3.1.Taken.length:Nat):Int))=Bool.true then Option.bind (qx a55.Taken a3.1.Taken) fun(a62:Bool)=>if a62=Bool.true then some Bool.false else Option.bind (qx a3.1.Taken a55.Taken) fun(a63:Bool)=>if(!a63)=Bool.true then Option.bind (qx a55.Leaf a3.1.Leaf) fun(a64:Bool)=>if a64=Bool.true then some Bool.false else Option.bind (zb x1.a1 ((a2.2.1.length:Nat):Int)) fun(a65:qG)=>Option.bind (qy a2.1 (qH 1) a2.2.1 a2.2.2 a65) fun(a66:Int)=>if(a66 != 0)=Bool.true then some a else if(a3.2 != 0)=Bool.true then some Bool.false else if((a65.Taken.length:Nat):Int)<((a3.1.Taken.length:Nat):Int) then some Bool.false else if(((a65.Taken.length:Nat):Int)==((a3.1.Taken.length:Nat):Int))=Bool.true then Option.bind (qx a65.Taken a3.1.Taken) fun(a67:Bool)=>if a67=Bool.true then some Bool.false else Option.bind (qx a3.1.Taken a65.Taken) fun(a68:Bool)=>if(!a68)=Bool.true then Option.bind (qx a65.Leaf a3.1.Leaf) fun(a69:Bool)=>if a69=Bool.true then some Bool.false else some a else some a else some a else Option.bind (zb x1.a1 ((a2.2.1.length:Nat):Int)) fun(a70:qG)=>Option.bind (qy a2.1 (qH 1) a2.2.1 a2.2.2 a70) fun(a71:Int)=>if(a71 != 0)=Bool.true then some a else if(a3.2 != 0)=Bool.true then some Bool.false else if((a70.Taken.length:Nat):Int)<((a3.1.Taken.length:Nat):Int) then some Bool.false else if(((a70.Taken.length:Nat):Int)==((a3.1.Taken.length:Nat):Int))=Bool.true then Option.bind (qx a70.Taken a3.1.Taken) fun(a72:Bool)=>if a72=Bool.true then some Bool.false else Option.bind (qx a3.1.Taken a70.Taken) fun(a73:Bool)=>if(!a73)=Bool.true then Option.bind (qx a70.Leaf a3.1.Leaf) fun(a74:Bool)=>if a74=Bool.true then some Bool.false else some a else some a else some a else Option.bind (zb x1.a1 ((a2.2.1.length:Nat):Int)) fun(a75:qG)=>Option.bind (qy a2.1 (qH 1) a2.2.1 a2.2.2 a75) fun(a76:Int)=>if(a76 != 0)=Bool.true then some a else if(a3.2 != 0)=Bool.true then some Bool.false else if((a75.Taken.length:Nat):Int)<((a3.1.Taken.length:Nat):Int) then some Bool.false else if(((a75.Taken.length:Nat):Int)==((a3.1.Taken.length:Nat):Int))=Bool.true then Option.bind (qx a75.Taken a3.1.Taken) fun(a77:Bool)=>if a77=Bool.true then some Bool.false else Option.bind (qx a3.1.Taken a75.Taken) fun(a78:Bool)=>if(!a78)=Bool.true then Option.bind (qx a75.Leaf a3.1.Leaf) fun(a79:Bool)=>if a79=Bool.true then some Bool.false else some a else some a else some a else Option.bind (zb x1.a0 ((a2.2.1.length:Nat):Int)) fun(a80:qG)=>Option.bind (qy a2.1 (qH 1) a2.2.1 a2.2.2 a80) fun(a81:Int)=>if(a81 != 0)=Bool.true then Option.bind (zb x1.a1 ((a2.2.1.length:Nat):Int)) fun(a82:qG)=>Option.bind (qy a2.1 (qH 1) a2.2.1 a2.2.2 a82) fun(a83:Int)=>if(a83 != 0)=Bool.true then some a else if(a3.2 != 0)=Bool.true then some Bool.false else if((a82.Taken.length:Nat):Int)<((a3.1.Taken.length:Nat):Int) then some Bool.false else if(((a82.Taken.length:Nat):Int)==((a3.1.Taken.length:Nat):Int))=Bool.true then Option.bind (qx a82.Taken a3.1.Taken) fun(a84:Bool)=>if a84=Bool.true then some Bool.false else Option.bind (qx a3.1.Taken a82.Taken) fun(a85:Bool)=>if(!a85)=Bool.true then Option.bind (qx a82.Leaf a3.1.Leaf) fun(a86:Bool)=>if a86=Bool.true then some Bool.false else some a else some a else some a else if(a3.2 != 0)=Bool.true then some Bool.false else if((a80.Taken.length:Nat):Int)<((a3.1.Taken.length:Nat):Int) then some Bool.false else if(((a80.Taken.length:Nat):Int)==((a3.1.Taken.length:Nat):Int))=Bool.true then Option.bind (qx a80.Taken a3.1.Taken) fun(a87:Bool)=>if a87=Bool.true then some Bool.false else Option.bind (qx a3.1.Taken a80.Taken) fun(a88:Bool)=>if(!a88)=Bool.true then Option.bind (qx a80.Leaf a3.1.Leaf) fun(a89:Bool)=>if a89=Bool.true then some Bool.false else Option.bind (zb x1.a1 ((a2.2.1.length:Nat):Int)) fun(a90:qG)=>Option.bind (qy a2.1 (qH 1) a2.2.1 a2.2.2 a90) fun(a91:Int)=>if(a91 != 0)=Bool.true then some a else if(a3.2 != 0)=Bool.true then some Bool.false else if((a90.Taken.length:Nat):Int)<((a3.1.Taken.length:Nat):Int) then some Bool.false else if(((a90.Taken.length:Nat):Int)==((a3.1.Taken.length:Nat):Int))=Bool.true then Option.bind (qx a90.Taken a3.1.Taken) fun(a92:Bool)=>if a92=Bool.true then some Bool.false else Option.bind (qx a3.1.Taken a90.Taken) fun(a93:Bool)=>if(!a93)=Bool.true then Option.bind (qx a90.Leaf a3.1.Leaf) fun(a94:Bool)=>if a94=Bool.true then some Bool.false else some a else some a else some a else Option.bind (zb x1.a1 ((a2.2.1.length:Nat):Int)) fun(a95:qG)=>Option.bind (qy a2.1 (qH 1) a2.2.1 a2.2.2 a95) fun(a96:Int)=>if(a96 != 0)=Bool.true then some a else if(a3.2 != 0)=Bool.true then some Bool.false else if((a95.Taken.length:Nat):Int)<((a3.1.Taken.length:Nat):Int) then some Bool.false else if(((a95.Taken.length:Nat):Int)==((a3.1.Taken.length:Nat):Int))=Bool.true then Option.bind (qx a95.Taken a3.1.Taken) fun(a97:Bool)=>if a97=Bool.true then some Bool.false else Option.bind (qx a3.1.Taken a95.Taken) fun(a98:Bool)=>if(!a98)=Bool.true then Option.bind (qx a95.Leaf a3.1.Leaf) fun(a99:Bool)=>if a99=Bool.true then some Bool.false else some a else some a else some a else Option.bind (zb x1.a1 ((a2.2.1.length:Nat):Int)) fun(a100:qG)=>Option.bind (qy a2.1 (qH 1) a2.2.1 a2.2.2 a100) fun(a101:Int)=>if(a101 != 0)=Bool.true then some a else if(a3.2 != 0)=Bool.true then some Bool.false else if((a100.Taken.length:Nat):Int)<((a3.1.Taken.length:Nat):Int) then some Bool.false else if(((a100.Taken.length:Nat):Int)==((a3.1.Taken.length:Nat):Int))=Bool.true then Option.bind (qx a100.Taken a3.1.Taken) fun(a102:Bool)=>if a102=Bool.true then some Bool.false else Option.bind (qx a3.1.Taken a100.Taken) fun(a103:Bool)=>if(!a103)=Bool.true then Option.bind (qx a100.Leaf a3.1.Leaf) fun(a104:Bool)=>if a104=Bool.true then some Bool.false else some a else some a else some a
theorem q6M:∀(q7S qqP:List Int) (qqQ qeb q9d q9e q9f q9g q9h q9i q9j q9k q9l q9m qec q9n q9o q9p q9q q9r q9s q9t q9u q9v q9w:Int),ev 5 0 [R.agg [dL 1 eI q7S,dL 1 eI qqP,C.d (D.int .u16 qqQ)],R.agg [C.d (D.int .u16 qeb),C.d (D.int .i8 q9d),C.d (D.int .i8 q9e),C.d (D.int .i8 q9f),C.d (D.int .i8 q9g),C.d (D.int .i8 q9h),C.d (D.int .i8 q9i),C.d (D.int .i8 q9j),C.d (D.int .i8 q9k),C.d (D.int .i8 q9l),C.d (D.int .i8 q9m),C.d (D.int .u16 qec),C.d (D.int .i8 q9n),C.d (D.int .i8 q9o),C.d (D.int .i8 q9p),C.d (D.int .i8 q9q),C.d (D.int .i8 q9r),C.d (D.int .i8 q9s),C.d (D.int .i8 q9t),C.d (D.int .i8 q9u),C.d (D.int .i8 q9v),C.d (D.int .i8 q9w)]] []=(q0C (q07.mk q7S qqP qqQ) (q05.mk (Qy.mk qeb (q6L.mk q9d q9e q9f q9g q9h q9i q9j q9k q9l q9m)) (Qy.mk qec (q6L.mk q9n q9o q9p q9q q9r q9s q9t q9u q9v q9w)))).bind (fun(e:Bool)=>some (rB e,[])):=
 fun q7S qqP qqQ qeb q9d q9e q9f q9g q9h q9i q9j q9k q9l q9m qec q9n q9o q9p q9q q9r q9s q9t q9u q9v q9w=>by
  rw[qU bd5 pw5.2.2.2 lo5]
  have:=cx5;have:=@qb2;have:=@q8b;have:=@q5Y;have:=@q4P;have:=@q5k;have:=@q9G;have:=@qcL;have:=@q0C.eq_1;have:=fun(E:Orc) (k:Nat) (s:S)=>qyZ (E:=E) (k:=k) (s:=s) qIg qGY;have:=@qvA.eq_1;have:=@qoJ;have:=@qvu;have:=@qCl;have:=@qxI;have:=@qEs;have:=@qwl;have:=@qzK;exact gA
end

noncomputable section
open Go.RowKit
theorem qgG (a b:List Int) (hab:a.length=b.length) (ha:a.length≤1000):∀(m i:Nat),i+m=a.length→∃r,zw (Jm a b) (i:Int)=some r∧Sum.elim (fun x=>x) (fun _=>Bool.false) r=q3d (a.drop i) (b.drop i)
 | 0,i,h=>by
  have hs:Jm a b (i:Int)=some (.inr (.inr ())):=by
   unfold Jm
   rw[if_neg (by omega)]
  rw[qbn,hs,qQ5,Sum.elim_inr]
  refine⟨_,rfl,?_⟩
  rw[qQM (by omega),qQM (by omega),q3d]
  rfl
 | m+1,i,h=>by
  have h1:i<a.length:=by omega
  have h2:i<b.length:=by omega
  rw[List.drop_eq_getElem_cons h1,List.drop_eq_getElem_cons h2,q3d]
  have hs:Jm a b (i:Int)=if(a[i] != b[i])=true then some (.inr (.inl (decide (a[i]<b[i])))) else some (.inl ((i+1:Nat):Int)):=by
   unfold Jm
   have p1:(i:Int)<((a.length:Nat):Int):=by omega
   have p2:(i:Int)<((b.length:Nat):Int):=by omega
   have p3:(0:Int)≤(i:Int):=by omega
   simp only[if_pos p1,if_pos p2,if_pos (And.intro p3 p1),if_pos (And.intro p3 p2),qQ8,qQ7 h1,qQ7 h2,qQ5,Qk h1 (show a.length≤9223372036854775807 by omega)]
  rw[qbn,hs]
  by_cases he:a[i]=b[i]
  ·rw[if_neg (by simpa using he),qQ5,Sum.elim_inl,he]
   obtain⟨r,e1,e2⟩:=qgG a b hab ha m (i+1) (by omega)
   refine⟨r,e1,?_⟩
   rw[e2,decide_eq_false (by omega),beq_self_eq_true]
   rfl
  ·rw[if_pos (by simpa using he),qQ5,Sum.elim_inr]
   refine⟨_,rfl,?_⟩
   rw[Sum.elim_inl,beq_false_of_ne he,qR8,Bool.or_false]
theorem qj2 (a b:List Int) (hab:a.length=b.length) (ha:a.length≤1000):qx a b=some (q3d a b):=by
 obtain⟨r,e1,e2⟩:=qgG a b hab ha a.length 0 (by omega)
 unfold qx
 rw[show(0:Int)=((0:Nat):Int) from rfl,e1,qQ5]
 rw[List.drop_zero,List.drop_zero] at e2
 rw[←e2]
 cases r<;>rfl
theorem qgX {a b:List Int} (h:q3d a b=true):q3d b a=false:=by
 cases e:q3d b a
 ·rfl
 ·have:=q4c h e
  rw[q83] at this;cases this
theorem qyk {u x:qG} (h:uLe u x) (hl:x.Taken.length=u.Taken.length):q3d x.Taken u.Taken=false∧(q3d u.Taken x.Taken=false→q3d x.Leaf u.Leaf=false):=by
 rcases h with h|⟨h,h2⟩
 ·rw[qdI] at h
  rcases h with h|⟨-,h⟩
  ·omega
  ·exact⟨qgX h,fun e=>by rw[h] at e;cases e⟩
 ·rw[h]
  refine⟨q83 _,fun _=>?_⟩
  rcases h2 with h2|h2
  ·rw[h2];exact q83 _
  ·exact qgX h2
theorem qls (q:Qy) (n:Nat) (hn:n≤10):∀(m k:Nat) (A B:List Int),k+m=n→A.length≤k→B.length≤k→
  ∃A' B',zw (QC q (n:Int)) (A,(B,(k:Int)))=some (A',B')∧A'.length≤n∧B'.length≤n
 | 0,k,A,B,h,hA,hB=>by
  have hs:QC q (n:Int) (A,(B,(k:Int)))=some (.inr (A,B)):=by
   unfold QC
   dsimp only
   rw[if_neg (by omega)]
  refine⟨A,B,?_,by omega,by omega⟩
  rw[qbn,hs,qQ5,Sum.elim_inr]
 | m+1,k,A,B,h,hA,hB=>by
  have wk:w64 ((k:Int)+1)=((k+1:Nat):Int):=by rw[Z9 (by omega) (by omega)];rfl
  have hmA:A.length+1≤maxLen∧(A.length+1)*8≤140737488355328:=⟨by unfold maxLen;omega,by omega⟩
  have hmB:B.length+1≤maxLen∧(B.length+1)*8≤140737488355328:=⟨by unfold maxLen;omega,by omega⟩
  obtain⟨a,ha⟩:∃a:Int,[q.Leaf.a0,q.Leaf.a1,q.Leaf.a2,q.Leaf.a3,q.Leaf.a4,q.Leaf.a5,q.Leaf.a6,q.Leaf.a7,q.Leaf.a8,q.Leaf.a9][Int.toNat (k:Int)]?=some a:=⟨_,qQ7 (by show Int.toNat (k:Int)<10;omega)⟩
  obtain⟨A1,B1,hs,h1,h2⟩:∃A1 B1,QC q (n:Int) (A,(B,(k:Int)))=some (.inl (A1,(B1,((k+1:Nat):Int))))∧A1.length≤k+1∧B1.length≤k+1:=by
   unfold QC
   dsimp only
   rw[if_pos (by omega),if_pos (by omega),if_pos (by omega),wk]
   split
   ·have hk10:(0:Int)≤(k:Int)∧(k:Int)<10:=⟨by omega,by omega⟩
    simp only[if_pos hmA,if_pos hmB,if_pos hk10,ha,qQ5]
    exact⟨_,_,rfl,by rw[qQc,qQn];omega,by rw[qQc,qQn];omega⟩
   ·exact⟨_,_,rfl,by omega,by omega⟩
  obtain⟨A',B',e,r⟩:=qls q n hn m (k+1) A1 B1 (by omega) h1 h2
  refine⟨A',B',?_,r⟩
  rw[qbn,hs,qQ5,Sum.elim_inl]
  exact e
theorem qBB (q:Qy) (n:Nat) (hn:n≤10):∃y,zb q (n:Int)=some y∧y.Taken.length≤10∧y.Leaf.length≤10:=by
 obtain⟨A,B,e,h1,h2⟩:=qls q n hn n 0 [] [] (by omega) (qQl _) (qQl _)
 have e':zw (QC q (n:Int)) ([],([],(0:Int)))=some (A,B):=e
 unfold zb
 rw[e',qQ5]
 exact⟨_,rfl,by show A.length≤10;omega,by show B.length≤10;omega⟩
def qFq (p:qf) (l:List qa) (day:Int) (u:qG) (e:Int) (q:Qy) (K:Option Bool):Option Bool:=Option.bind (zb q ((l.length:Nat):Int)) fun(a:qG)=>Option.bind (qy p scP l day a) fun(c:Int)=>if(c != (0:Int))=Bool.true then K else if(e != (0:Int))=Bool.true then some Bool.false else if((a.Taken.length:Nat):Int)<((u.Taken.length:Nat):Int) then some Bool.false else if(((a.Taken.length:Nat):Int)==((u.Taken.length:Nat):Int))=Bool.true then Option.bind (qx a.Taken u.Taken) fun(x:Bool)=>if x=Bool.true then some Bool.false else Option.bind (qx u.Taken a.Taken) fun(y:Bool)=>if(!y)=Bool.true then Option.bind (qx a.Leaf u.Leaf) fun(z:Bool)=>if z=Bool.true then some Bool.false else K else K else K
theorem qug {c:q07} {p:qf} {l:List qa} {day:Int} (h:C14 c p l day) {u:qG} {e:Int}
  (hd:(e=31∧∀v,¬ qdx p scP l day v)∨(e=0∧qdx p scP l day u∧u.Taken.length≤10∧∀v,qdx p scP l day v→uLe u v)) (q:Qy) (K:Option Bool):qFq p l day u e q K=K:=by
 have hl:=h.len
 obtain⟨y,g1,g2,g3⟩:=qBB q l.length (by omega)
 obtain⟨r,g4,g5⟩:=qtw h.grd (by omega) scP h.ck day y (by omega)
 unfold qFq
 rw[g1,qQ5,g4,qQ5]
 by_cases hr:r=0
 ·have hy:=g5 hr
  rcases hd with ⟨-,hd⟩|⟨rfl,hu,hu10,hd⟩
  ·exact absurd hy (hd y)
  ·have hle:=hd y hy
   have hlen:=qwx hle
   rw[if_neg (by simpa using hr),if_neg (by decide),if_neg (by omega)]
   by_cases he:y.Taken.length=u.Taken.length
   ·obtain⟨n1,n2⟩:=qyk hle he
    rw[if_pos (by rw[he];exact beq_self_eq_true _),qj2 _ _ he (by omega),qQ5,n1,if_neg (by decide),qj2 _ _ he.symm (by omega),qQ5]
    cases hx:q3d u.Taken y.Taken
    ·rw[if_pos (by decide),qj2 _ _ (by rw[hy.len,hu.len,he]) (by omega),qQ5,n2 hx,if_neg (by decide)]
    ·rw[if_neg (by decide)]
   ·rw[if_neg (by simpa using fun e=>he (by omega))]
 ·rw[if_pos (by simpa using hr)]
theorem qcc (c:q07) (w:q7c c) (q:q05 Qy) (wq:q4v q.a0∧q4v q.a1):q0C c q=some true:=by
 obtain⟨p,l,day,e1,h⟩:=qn1 w
 have hl:=h.len
 unfold q0C
 rw[qi0,qQ5,e1,qQ5]
 dsimp only
 rw[qkC]
 rcases qwM h.grd (by omega) scP h.ck day with ⟨g1,n1⟩|⟨u,g1,u1,m1⟩
 ·rw[g1,qQ5]
  dsimp only
  rw[if_neg (by decide),if_pos (by decide),if_neg (by decide),if_neg (by decide)]
  have R:=qug h (u:=⟨[],[]⟩) (.inl ⟨rfl,n1⟩)
  have:=R q.a0 (qFq p l day ⟨[],[]⟩ 31 q.a1 (some true))
  exact this.trans (R q.a1 _)
 ·have hT:u.Taken.length≤10∧u.Leaf.length≤10:=by
   obtain⟨Y,h1,h2,h3,h4⟩:=u1.mask
   have h5:=q44 (q5G l.length (mO p day l)) Y.testBit
   have h6:=q4Q l.length (mO p day l)
   have h7:=qdP (mO p day l) l.length
   have h8:=u1.len
   rw[h2] at h8 ⊢
   omega
  rw[g1,qQ5]
  dsimp only
  rw[if_pos (by decide),qyO h.grd (by omega) scP h.ck day u1,qQ5,if_neg (by decide),if_neg (by decide)]
  have R:=qug h (u:=u) (.inr ⟨rfl,u1,hT.1,m1⟩)
  have:=R q.a0 (qFq p l day u 0 q.a1 (some true))
  exact this.trans (R q.a1 _)
end
end Go.Proofs.YtojflbfdcpkedaaGreat.Vc
namespace Go.Proofs.YtojflbfdcpkedaaGreat
open Go.Proofs.YtojflbfdcpkedaaGreat.Vc (qQd qQe qQh qQk qQq)
open Go.ChangeShapes Go.WideShapes Go.ChangeAt Go.RowKit Go.ChangeMaps
theorem own:ownKnob Tryz.prog.godebug=none:=by kernel_rfl
theorem qz5:laidOutB Tryz.prog=true:=by kernel_rfl
section
variable {H:Type} {enc:TypeId×Value→H} {P:Program} {W W':World}
theorem qfs {t e:TypeId} {n base:Nat} {r:Reach} {v:Value} (ht:P.underlying t=some (.array n e)) (h:Value.okWide P W r base t v):∃cs,v = .agg cs∧cs.size=P.cellsOf t:=by
 unfold Value.okWide at h
 rw[ht] at h
 obtain⟨cs,h1,h2,-⟩:=h
 exact⟨cs,h1,h2⟩
theorem qgL (hl:laidOutB P=true) (hb:Below W.heap.size W W'):∀{ts:List TypeId} {vs:List Value} {ds:List (DataW H)} {ps:List MemPlace},(∀t∈ts,P.readableRec t=true∧t<P.types.size)→
  DataW.TrodAll enc P W 0 (fun _=>true) true ts vs ds ps→(∀p∈ps,p.block<W.heap.size)→DataW.TrodAll enc P W' 0 (fun b=>decide (b<W.heap.size)) true ts vs ds ps
 | [],_,_,_,_,h,_=>by
  obtain⟨rfl,rfl,rfl⟩:=trodAll_nil h
  exact trodAll_mk0
 | t::ts,_,_,_,ht,h,hlt=>by
  obtain⟨v,vs,d,ds,p,q,rfl,rfl,rfl,h1,h2⟩:=trodAll_cons h
  exact trodAll_cons_mk (Below.trod hl (ht t qQk).1 (ht t qQk).2 h1 hb (fun x hx=>hlt x (qQh _ hx)))
   (qgL hl hb (fun u hu=>ht u (qQd _ hu)) h2 (fun x hx=>hlt x (qQe _ hx)))
theorem qs6 {f:Func} {s:ChangeSpec} {apart fresh handsOn:Bool} {args:Array Value} {ds gs:List (DataW H)} {before:List MemPlace} {tb:TypeId} (hl:laidOutB P=true)
  (hts:∀t∈f.params.toList,P.readableRec t=true∧t<P.types.size) (hr:f.resultTypes=#[tb]) (htb:P.underlying tb=some .bool) (hv:s.vars=[])
  (h1:(s.fn H (ds++gs)).results=[.lit (.bool true)]) (h2:(s.fn H (ds++gs)).args=ds) (h3:(s.fn H (ds++gs)).vars=[])
  (hW:DataW.Whole enc P f.params.toList s.vars apart W args.toList ds gs before) (hb:Below W.heap.size W W') :
  s.post enc P f apart fresh handsOn false W args (.bool true) W':=by
 have hlt:∀p∈before,p.block<W.heap.size:=fun p hp=>hW.lt p hp
 have hW2:=hW
 obtain⟨pa,pv,hA,hV,hp,-,-⟩:=hW2
 rw[hv] at hV
 obtain⟨rfl,rfl⟩:=trodVars_none hV
 rw[qQq] at hp
 subst hp
 refine⟨ds,[],before,[],before,[],hW,?_,?_,?_,?_,fun h=>by cases h⟩
 ·rw[h1,hr]
  exact trodAll_mk1 (shut_bool htb true)
 ·rw[h2]
  exact qgL hl hb hts hA hlt
 ·rw[h3,hv]
  exact hV
 ·exact World.keptBut_mono (fun p hp=>⟨hp,.inr (.inl hp)⟩) (hb.frame (·∈before))
end
end Go.Proofs.YtojflbfdcpkedaaGreat
namespace Go.Proofs.YtojflbfdcpkedaaGreat.Vc
end Go.Proofs.YtojflbfdcpkedaaGreat.Vc
