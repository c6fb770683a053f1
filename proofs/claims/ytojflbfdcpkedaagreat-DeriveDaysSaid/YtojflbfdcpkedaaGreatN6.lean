/- Part 6 of a proof. -/
import Derived.Test.YtojflbfdcpkedaaGreatN5
import Derived.KernelRfl
import Derived.Test.YtojflbfdcpkedaaGreatRows
import Derived.ChangeSlices
import Derived.OpenShut
import Derived.Carry
import Derived.ChangeSame
import Derived.ChangeMaps5
import Derived.WideShapes
import Derived.ProofKit
import Derived.Deep.DeepHandedRow
import Derived.Lib.LaidTab
import Derived.Stop.LaidErr
set_option linter.unusedVariables false
set_option linter.unusedSimpArgs false
set_option linter.defProp false
set_option linter.unusedSectionVars false
set_option linter.unnecessarySimpa false
namespace Go.Proofs.YtojflbfdcpkedaaGreat.Vc
noncomputable section
open Go.RowKit
theorem qCa {l:List qa} (hl:l.length≤16):2 ^ l.length≤65536:=qP0 (Nat.pow_le_pow_right (by decide) hl) (by decide)
theorem qA7 {l:List qa} (hl:l.length≤16):w64 ((1:Int)*(2:Int) ^ min l.length (IntKind.bits IntKind.i64))=((2 ^ l.length:Nat):Int):=by
 have:=qCa hl
 have h1:1≤2 ^ l.length:=Nat.one_le_two_pow
 rw[show min l.length (IntKind.bits IntKind.i64)=l.length from Nat.min_eq_left (by show l.length≤64;omega),Int.one_mul,show((2:Int) ^ l.length)=((2 ^ l.length:Nat):Int) by simp]
 exact QF (by omega) (by omega)
def mO (p:qf) (day:Int) (l:List qa) (k:Nat):Bool:=match l[k]? with
 | some a => !qdJ p a day
 | none=>false
theorem qgu (p:qf) (s:qg) (day b4:Int) (l:List qa) (hl:l.length≤1000):∀(j i:Nat) (w:List Int),j+i=l.length→w=Qp (mO p day l) (Zh i fun i=>(i:Int))→
  zy (Zb p s day b4 l l ((l.length:Nat):Int)) (w,(i:Int))=some (q5g l.length (mO p day l))
 | 0,i,w,hi,hw=>by
  have hi:i=l.length:=by omega
  subst hi hw
  refine zt ?_
  unfold Zb
  dsimp only
  rw[if_neg (by omega)];rfl
 | j+1,i,w,hi,hw=>by
  have hML:100000≤maxLen:=by unfold maxLen;omega
  have hil:i<l.length:=by omega
  have ha:l[i]?=some l[i]:=qOr hil
  have hwl:w.length≤i:=by rw[hw];have:=q3H (Zh i fun i=>(i:Int)) (mO p day l);rw[zF] at this;exact this
  have step:Zb p s day b4 l l ((l.length:Nat):Int) (w,(i:Int))=some (.inl (w++(if mO p day l i=true then[(i:Int)] else[]),((i+1:Nat):Int))):=by
   have hm:mO p day l i = !qdJ p l[i] day:=by unfold mO;rw[ha]
   unfold Zb
   dsimp only
   rw[if_pos (by omega),if_pos ⟨by omega,by omega⟩,qOs,ha,qOp,qt4,qOp,q4a hil (by omega),hm]
   cases qdJ p l[i] day
   ·rw[if_pos (by decide),if_pos ⟨by omega,by omega⟩,if_pos (by decide)]
   ·rw[if_neg (by decide),if_neg (by decide),qOK]
  rw[zW step]
  refine qgu p s day b4 l hl j (i+1) _ (by omega) ?_
  rw[qcS,q6U,zF,hw]
theorem qn1 (p:qf) (s:qg) (day b5:Int) (b6:List Int) (b7:List qa) (b8:List Bool) (b9:Int) {N:Nat} (hN:N≤1024):zy (QU p s day b5 b6 b7 b8 b9 ((N:Nat):Int)) ([],(0:Int))=some (Zh N fun i=>(i:Int)):=by
 have hML:100000≤maxLen:=by unfold maxLen;omega
 exact q2o (step:=QU p s day b5 b6 b7 b8 b9 ((N:Nat):Int)) (fun i=>(Zh i (fun i=>(i:Int)),(i:Int))) 0 N (qOP _) (fun i _ hi=>by
  unfold QU
  dsimp only
  rw[if_pos (by omega),if_pos (by rw[zF];exact⟨by omega,by omega⟩),qcS,q4a hi (by omega)]) (by
  unfold QU
  dsimp only
  rw[if_neg (by omega)])
structure Grd (p:qf) (l:List qa):Prop where
 rgt:Rgt p.Need
 exc:p.Exclude.length≤1000
 fit:∀b∈l,q8a b
theorem Grd.sel {p:qf} {l:List qa} (h:Grd p l) (m:Nat→Bool):Grd p (Qp m l):=⟨h.rgt,h.exc,fun b hb=>h.fit b (qcR _ _ _ hb)⟩
theorem qrH {p:qf} {all:List qa} (h:Grd p all) (hl:all.length≤10) (s:qg) (day b5:Int) {at0:List Int} (ha:at0.length=all.length) {X:Nat} (hX:X<2 ^ all.length) :
  ∃r,JD (X:Int) p s day b5 at0 all (Zh (2 ^ all.length) (QM [] s all p.Need 0))=some r∧
   ((r = .inl ()∧∀lf,qdw p (Qp X.testBit all) day=true→¬ Perm p.Need s all X lf)∨
     (∃w,r = .inr ⟨Qp X.testBit at0,w⟩∧qdw p (Qp X.testBit all) day=true∧Perm p.Need s all X w∧∀lf,Perm p.Need s all X lf→w=lf∨q4p w lf=true)):=by
 obtain⟨w,f,h1,h2,h3⟩:=qit h.rgt hl s hX
 have hs:=q3H all X.testBit
 unfold JD
 rw[q3V (N:=all.length) (by omega) hX,qOp]
 have hp:zP all (q3u all.length X)=some (Qp X.testBit all):=qnX (by omega) X.testBit
 have hi:ZW at0 (q3u all.length X)=some (Qp X.testBit at0):=by rw[←ha];exact qxC (by omega) X.testBit
 rw[hp,qOp,qsK p h.exc _ (by omega) (h.sel _).fit,qOp]
 cases ht:qdw p (Qp X.testBit all) day
 ·exact⟨_,rfl,.inl ⟨rfl,fun lf h=>by cases h⟩⟩
 ·rw[if_neg (by decide),h1,qOp]
  dsimp only
  cases hf:f
  ·rw[if_neg (by decide)]
   exact⟨_,rfl,.inl ⟨rfl,fun lf _=>(h3.2 hf).2 lf⟩⟩
  ·rw[if_pos rfl,hi,qOp]
   exact⟨_,rfl,.inr ⟨w,rfl,rfl,(h3.1 hf).1,(h3.1 hf).2⟩⟩
structure qp8 (p:qf) (s:qg) (all:List qa) (day:Int) (X:Nat) (w:List Int):Prop where
 lt:X<2 ^ all.length
 tog:qdw p (Qp X.testBit all) day=true
 perm:Perm p.Need s all X w
 min:∀Y lf,Y<2 ^ all.length→qdw p (Qp Y.testBit all) day=true→Perm p.Need s all Y lf→slL (q3u all.length X) (q3u all.length Y)=true∨(X=Y∧(w=lf∨q4p w lf=true))
theorem qns {p:qf} {all:List qa} (h:Grd p all) (hl:all.length≤10) (s:qg) (day b5 b9:Int) {at0:List Int} (ha:at0.length=all.length) :
  ∃r,zy (QB p s day b5 at0 all (Zh (2 ^ all.length) (QM [] s all p.Need 0)) b9 (msL all.length) (((msL all.length).length:Nat):Int)) (0:Int)=some r∧
   ((r = .inr ()∧∀Y lf,Y<2 ^ all.length→qdw p (Qp Y.testBit all) day=true→¬ Perm p.Need s all Y lf)∨(∃X w,r = .inl ⟨Qp X.testBit at0,w⟩∧qp8 p s all day X w)):=by
 obtain⟨-,hpw,hmem⟩:=qzF hl
 have h10:(2:Nat) ^ all.length≤1024:=qP0 (Nat.pow_le_pow_right (by decide) hl) (by decide)
 have hlen:(msL all.length).length≤1024:=by unfold msL;rw[q54,zF];exact h10
 have key:∀(r pre:List Int),pre++r=msL all.length→(∀y∈pre,∀(Y:Nat) (lf:List Int),y=(Y:Int)→qdw p (Qp Y.testBit all) day=true→¬ Perm p.Need s all Y lf)→
   ∃q,zy (QB p s day b5 at0 all (Zh (2 ^ all.length) (QM [] s all p.Need 0)) b9 (msL all.length) (((msL all.length).length:Nat):Int)) ((pre.length:Nat):Int)=some q∧
   ((q = .inr ()∧∀Y lf,Y<2 ^ all.length→qdw p (Qp Y.testBit all) day=true→¬ Perm p.Need s all Y lf)∨(∃X w,q = .inl ⟨Qp X.testBit at0,w⟩∧qp8 p s all day X w)):=by
  intro r
  induction r with
  | nil=>
   intro pre hpre hbad
   rw[qOK] at hpre
   refine⟨.inr (),zt ?_,.inl ⟨rfl,fun Y lf hY=>hbad (Y:Int) (by rw[hpre];exact(hmem _).2 ⟨Y,hY,rfl⟩) Y lf rfl⟩⟩
   unfold QB
   rw[hpre,if_neg (by omega)]
  | cons x r ih=>
   intro pre hpre hbad
   have hx:(msL all.length)[pre.length]?=some x:=by rw[←hpre,qP2 (qOF _),Nat.sub_self];rfl
   have hlt:=Ja hx
   obtain⟨X,hX,rfl⟩:=(hmem x).1 (qOq hx)
   obtain⟨q,h1,h2⟩:=qrH h hl s day b5 ha hX
   have step:QB p s day b5 at0 all (Zh (2 ^ all.length) (QM [] s all p.Need 0)) b9 (msL all.length) (((msL all.length).length:Nat):Int) ((pre.length:Nat):Int)=some (Sum.elim (fun _ => .inl ((pre.length+1:Nat):Int)) (fun u => .inr (.inl u)) q):=by
    unfold QB
    rw[if_pos (by omega),if_pos ⟨by omega,by omega⟩,qOs,hx,qOp,h1,qOp,q4a hlt (by omega)]
    cases q<;>rfl
   rcases h2 with ⟨rfl,hno⟩|⟨w,rfl,ht,hp,hmin⟩
   ·rw[Sum.elim_inl] at step
    rw[zW step]
    have:=ih (pre++[(X:Int)]) (by rw[qP5];exact hpre) (fun y hy Y lf e=>by
     rcases qOT.1 hy with hy|hy
     ·exact hbad y hy Y lf e
     ·have:=qPg.1 hy
      obtain rfl:X=Y:=by omega
      exact hno lf)
    rw[qOw] at this
    exact this
   ·rw[Sum.elim_inr] at step
    refine⟨_,zt step,.inr ⟨X,w,rfl,hX,ht,hp,fun Y lf hY hty hpy=>?_⟩⟩
    have hYm:(Y:Int)∈pre++(X:Int)::r:=by rw[hpre];exact(hmem _).2 ⟨Y,hY,rfl⟩
    rcases qOT.1 hYm with hy|hy
    ·exact absurd hpy (hbad (Y:Int) hy Y lf rfl hty)
    ·rcases qOL.1 hy with e|hy
     ·obtain rfl:Y=X:=by omega
      exact .inr ⟨rfl,hmin lf hpy⟩
     ·rw[←hpre,List.pairwise_append] at hpw
      have:=(List.pairwise_cons.1 hpw.2.1).1 (Y:Int) hy
      rw[qOs,qOs] at this
      exact .inl this
 exact key (msL all.length) [] rfl (fun y hy=>by cases hy)
theorem qcf {p:qf} {l:List qa} (h:Grd p l) (hl:l.length≤1000) (s:qg) (hck:Qe p s=some 0) (day:Int) :
  (10<(Qp (mO p day l) l).length∧zH p s l day=some (⟨[],[]⟩,2))∨
  ((Qp (mO p day l) l).length≤10∧zH p s l day=some (⟨[],[]⟩,31)∧∀Y lf,Y<2 ^ (Qp (mO p day l) l).length→qdw p (Qp Y.testBit (Qp (mO p day l) l)) day=true→¬ Perm p.Need s (Qp (mO p day l) l) Y lf)∨
  ((Qp (mO p day l) l).length≤10∧∃X w,zH p s l day=some (⟨Qp X.testBit (q5g l.length (mO p day l)),w⟩,0)∧qp8 p s (Qp (mO p day l) l) day X w):=by
 have hat:=qgu p s day 0 l hl l.length 0 [] (by omega) rfl
 have hlen:(q5g l.length (mO p day l)).length=(Qp (mO p day l) l).length:=by rw[q4r,q4L]
 unfold zH
 rw[hck,qOp,if_neg (by decide)]
 change (_∧Option.bind (zy _ ([],((0:Nat):Int))) _=_)∨(_∧Option.bind (zy _ ([],((0:Nat):Int))) _=_∧_)∨(_∧∃X w,Option.bind (zy _ ([],((0:Nat):Int))) _=_∧_)
 rw[hat,qOp,hlen]
 by_cases h10:10<(Qp (mO p day l) l).length
 ·rw[if_pos (by omega)]
  exact .inl ⟨h10,rfl⟩
 ·right
  rw[if_neg (by omega),qnX hl,qOp,qeL h.rgt s _ (by omega),qOp]
  dsimp only
  rw[if_neg (by decide)]
  have hN:(Qp (mO p day l) l).length≤10:=by omega
  have hp10:(2:Nat) ^ (Qp (mO p day l) l).length≤1024:=qP0 (Nat.pow_le_pow_right (by decide) hN) (by decide)
  obtain⟨hok,-,-⟩:=qzF hN
  obtain⟨r,h1,h2⟩:=qns (h.sel (mO p day l)) hN s day 0 (((Qp (mO p day l) l).length:Nat):Int) hlen
  have hm:q0w p s day 0 (q5g l.length (mO p day l)) (Qp (mO p day l) l) (Zh (2 ^ (Qp (mO p day l) l).length) (QM [] s (Qp (mO p day l) l) p.Need 0)) (((Qp (mO p day l) l).length:Nat):Int)=some r:=by
   unfold q0w
   rw[if_pos (by omega),qOs,qA7 (by omega),qn1 _ _ _ _ _ _ _ _ hp10,qOp,if_pos (by rw[zF];exact⟨Nat.two_pow_pos _,by omega,hok⟩)]
   change Option.bind (zy (QB p s day 0 _ _ _ _ (msL (Qp (mO p day l) l).length) (((msL (Qp (mO p day l) l).length).length:Nat):Int)) 0) _=_
   rw[h1,qOp]
   cases r<;>rfl
  rw[hm,qOp]
  rcases h2 with ⟨rfl,hno⟩|⟨X,w,rfl,hL⟩
  ·exact .inl ⟨hN,rfl,hno⟩
  ·exact .inr ⟨hN,X,w,rfl,hL⟩
end
noncomputable section
open Go.RowKit
def okG (N:Nat):Int→List Int→Bool
 | _,[]=>true
 | p,y::r=>decide (p<y)&&decide (0≤y)&&decide (y<(N:Int))&&okG N y r
theorem qiO {N:Nat}:∀{r:List Int} {p:Int},okG N p r=true→∀y∈r,∃k:Nat,k<N∧y=(k:Int)
 | [],_,_,y,h=>by cases h
 | x::r,p,h,y,hy=>by
  rw[okG,qOV,qOV,qOV,qPp,qPp,qPp] at h
  rcases qOL.1 hy with rfl|hy
  ·exact⟨y.toNat,by omega,by omega⟩
  ·exact qiO h.2 y hy
def q5V (l:List qa) (T:List Int):List qa:=T.filterMap fun y=>l[Int.toNat y]?
theorem qcP {l:List qa}:∀{T:List Int} {p:Int},okG l.length p T=true→(q5V l T).length=T.length
 | [],_,_=>rfl
 | x::r,p,h=>by
  obtain⟨k,hk,rfl⟩:=qiO h x qOE
  rw[okG,qOV] at h
  unfold q5V
  rw[List.filterMap_cons,qOs,qOr hk]
  show((q5V l r).length+1)=_
  rw[qcP h.2];rfl
theorem qnC {l:List qa} (h:∀b∈l,q8a b) (T:List Int):∀b∈q5V l T,q8a b:=fun b hb=>by
 obtain⟨y,-,hy⟩:=List.mem_filterMap.1 hb
 exact h b (qOq hy)
theorem qjm (p:qf) (s:qg) (u:qI) (l:List qa) (hl:l.length≤1000) (day:Int) (hT:u.Taken.length≤1000):∀(r:List Int) (i:Nat) (w:List qa) (pv:Int),r.length+i=u.Taken.length→(∀j,r[j]?=u.Taken[i+j]?)→w.length=i→((i=0∧pv = -1)∨(0<i∧u.Taken[i-1]?=some pv))→
  ∃e,zy (zO p s u l day u.Taken ((u.Taken.length:Nat):Int)) (w,(i:Int))=some e∧(okG l.length pv r=true→e = .inr (w++q5V l r))∧(okG l.length pv r=false→∃x,e = .inl x)
 | [],i,w,pv,hi,_,_,_=>by
  have hi:i=u.Taken.length:=by simpa using hi
  refine⟨.inr w,zt ?_,fun _=>by unfold q5V;rw[List.filterMap_nil,qOK],fun h=>by rw[okG] at h;cases h⟩
  unfold zO
  dsimp only
  rw[if_neg (by omega)]
 | y::r,i,w,pv,hi,hj,hw,hp=>by
  have hML:100000≤maxLen:=by unfold maxLen;omega
  have hil:i<u.Taken.length:=by simp only[qOA] at hi;omega
  have hy:u.Taken[i]?=some y:=by have:=hj 0;rw[Nat.add_zero] at this;exact this.symm
  have bad:zO p s u l day u.Taken ((u.Taken.length:Nat):Int) (w,(i:Int))=some (.inr (.inl w))→okG l.length pv (y::r)=false→∃e,zy (zO p s u l day u.Taken ((u.Taken.length:Nat):Int)) (w,(i:Int))=some e∧(okG l.length pv (y::r)=true→e = .inr (w++q5V l (y::r)))∧(okG l.length pv (y::r)=false→∃x,e = .inl x):=fun h1 h2=>
   ⟨_,zt h1,fun h=>(by rw[h2] at h;cases h),fun _=>⟨_,rfl⟩⟩
  by_cases h0:y<0
  ·refine bad ?_ ?_
   ·unfold zO
    dsimp only
    rw[if_pos (by omega),if_pos ⟨by omega,by omega⟩,qOs,hy,qOp,if_pos h0]
   ·rw[okG,decide_eq_false (by omega:¬ (0≤y))];simp
  ·by_cases h1:(l.length:Int)≤y
   ·refine bad ?_ ?_
    ·unfold zO
     dsimp only
     rw[if_pos (by omega),if_pos ⟨by omega,by omega⟩,qOs,hy,qOp,if_neg h0,if_pos h1]
    ·rw[okG,decide_eq_false (by omega:¬ (y<(l.length:Int)))];simp
   ·obtain⟨k,rfl⟩:∃k:Nat,y=(k:Int):=⟨y.toNat,by omega⟩
    have hk:k<l.length:=by omega
    have good:pv<(k:Int)→zO p s u l day u.Taken ((u.Taken.length:Nat):Int) (w,(i:Int))=some (.inl (w++[l[k]],((i+1:Nat):Int)))→∃e,zy (zO p s u l day u.Taken ((u.Taken.length:Nat):Int)) (w,(i:Int))=some e∧(okG l.length pv ((k:Int)::r)=true→e = .inr (w++q5V l ((k:Int)::r)))∧(okG l.length pv ((k:Int)::r)=false→∃x,e = .inl x):=fun hlt hstep=>by
     obtain⟨e,e1,e2,e3⟩:=qjm p s u l hl day hT r (i+1) (w++[l[k]]) (k:Int) (by simp only[qOA] at hi;omega) (fun j=>by have:=hj (j+1);rw[qOO] at this;rw[this];congr 1;omega) (by rw[qOw,hw];rfl) (.inr ⟨by omega,by rw[Nat.add_sub_cancel];exact hy⟩)
     refine⟨e,(zW hstep).trans e1,fun h=>?_,fun h=>?_⟩
     ·rw[okG,qOV] at h
      rw[e2 h.2]
      unfold q5V
      rw[List.filterMap_cons,qOs,qOr hk]
      simp
     ·rw[okG,qPq hlt,qPq (by omega:(0:Int)≤(k:Int)),qPq (by omega:(k:Int)<(l.length:Int))] at h
      exact e3 (by simpa using h)
    rcases hp with ⟨hp1,hp2⟩|⟨hp1,hp2⟩
    ·refine good (by omega) ?_
     unfold zO
     dsimp only
     rw[if_pos (by omega),if_pos ⟨by omega,by omega⟩,qOs,hy,qOp,if_neg h0,if_neg h1,if_neg (by omega),if_pos ⟨by omega,by omega⟩,qOs,qOr hk,qOp,if_pos ⟨by omega,by omega⟩,q4a hil (by omega)]
    ·have hwk:w64 ((i:Int)-1)=((i-1:Nat):Int):=by rw[QF (by omega) (by omega)];omega
     by_cases hlt:(k:Int)≤pv
     ·refine bad ?_ ?_
      ·unfold zO
       dsimp only
       rw[if_pos (by omega),if_pos ⟨by omega,by omega⟩,qOs,hy,qOp,if_neg h0,if_neg h1,if_pos (by omega),hwk,if_pos ⟨by omega,by omega⟩,qOs,hp2,qOp,if_pos hlt]
      ·rw[okG,decide_eq_false (by omega:¬ (pv<(k:Int)))];simp
     ·refine good (by omega) ?_
      unfold zO
      dsimp only
      rw[if_pos (by omega),if_pos ⟨by omega,by omega⟩,qOs,hy,qOp,if_neg h0,if_neg h1,if_pos (by omega),hwk,if_pos ⟨by omega,by omega⟩,qOs,hp2,qOp,if_neg hlt,if_pos ⟨by omega,by omega⟩,qOs,qOr hk,qOp,if_pos ⟨by omega,by omega⟩,q4a hil (by omega)]
def qE7 (p:qf) (l:List qa) (day:Int) (mF:List qa→Bool) (u:qI):Bool:=
 decide (u.Taken.length≤10)&&decide (u.Leaf.length=u.Taken.length)&&okG l.length (-1) u.Taken&&qdw p (q5V l u.Taken) day&&mF (q5V l u.Taken)
theorem qtk {p:qf} {l:List qa} (h:Grd p l) (hl:l.length≤1000) (s:qg) (hck:Qe p s=some 0) (day:Int) (u:qI) (mF:List qa→Bool)
  (hM:∀L:List qa,L.length=u.Leaf.length→L.length≤10→q2I p.Need s L u.Leaf=some (mF L)):qL p s l day u=some (if qE7 p l day mF u=true then 0 else 32):=by
 unfold qL qE7
 rw[hck,qOp,if_neg (by decide)]
 by_cases h10:10<u.Taken.length
 ·rw[if_pos (by omega),decide_eq_false (by omega:¬ u.Taken.length≤10)]
  simp
 ·rw[if_neg (by omega),qPq (by omega:u.Taken.length≤10)]
  by_cases hlen:u.Leaf.length=u.Taken.length
  ·rw[if_neg (by rw[hlen];simp),qPq hlen]
   obtain⟨e,e1,e2,e3⟩:=qjm p s u l hl day (by omega) u.Taken 0 [] (-1) (by omega) (fun j=>by rw[qON]) rfl (.inl ⟨rfl,rfl⟩)
   change Option.bind (zy _ ([],((0:Nat):Int))) _=_
   rw[e1,qOp]
   cases hok:okG l.length (-1) u.Taken
   ·obtain⟨x,rfl⟩:=e3 hok
    rw[Sum.elim_inl];simp
   ·rw[e2 hok,Sum.elim_inr,qOJ]
    have hpl:=qcP hok
    rw[qsK p h.exc _ (by omega) (qnC h.fit _),qOp]
    cases ht:qdw p (q5V l u.Taken) day
    ·simp
    ·rw[if_neg (by decide),hM _ (by omega) (by omega),qOp]
     cases mF (q5V l u.Taken)<;>simp
  ·rw[if_pos (by simpa using fun h=>hlen (by omega)),decide_eq_false hlen]
   simp
end
noncomputable section
open Go.RowKit
theorem qdY {N:Nat}:∀{r:List Int} {p:Int},okG N p r=true→∀y∈r,p<y
 | [],_,_,y,h=>by cases h
 | x::r,p,h,y,hy=>by
  rw[okG,qOV,qOV,qOV,qPp] at h
  rcases qOL.1 hy with rfl|hy
  ·exact h.1.1.1
  ·have:=qdY h.2 y hy
   have:=h.1.1.1
   omega
theorem q4B {N:Nat} {x p:Int} {r:List Int} (h:okG N p (x::r)=true):okG N x r=true:=by
 rw[okG,qOV] at h;exact h.2
theorem qjt {N:Nat}:∀{A B:List Int} {p q:Int},okG N p A=true→okG N q B=true→(∀y,y∈A↔y∈B)→A=B
 | [],[],_,_,_,_,_=>rfl
 | [],y::B,_,_,_,_,h=>by cases(h y).2 qOE
 | x::A,[],_,_,_,_,h=>by cases(h x).1 qOE
 | x::A,y::B,p,q,hA,hB,h=>by
  have e:x=y:=by
   rcases qOL.1 ((h x).1 qOE) with e|e
   ·exact e
   ·rcases qOL.1 ((h y).2 qOE) with e2|e2
    ·exact e2.symm
    ·have h1:=qdY (q4B hB) x e
     have h2:=qdY (q4B hA) y e2
     omega
  subst e
  rw[qjt (q4B hA) (q4B hB) fun z=>⟨fun hz=>?_,fun hz=>?_⟩]
  ·rcases qOL.1 ((h z).1 (qOx _ hz)) with e|e
   ·have:=qdY (q4B hA) z hz;omega
   ·exact e
  ·rcases qOL.1 ((h z).2 (qOx _ hz)) with e|e
   ·have:=qdY (q4B hB) z hz;omega
   ·exact e
theorem qvz {N:Nat} (m:Nat→Bool):∀(j k:Nat) (p:Int),k+j≤N→p<(k:Int)→okG N p (Qp m (Zh j fun i=>((k+i:Nat):Int)))=true:=by
 intro j
 induction j generalizing m with
 | zero=>intro k p _ _;rfl
 | succ j ih=>
  intro k p hk hp
  rw[qfN,Qp]
  have e2:(fun i=>((k+(i+1):Nat):Int))=fun i=>((k+1+i:Nat):Int):=funext fun i=>by rw[Nat.add_right_comm,qPj]
  rw[e2]
  cases m 0
  ·rw[if_neg (by decide),qOJ]
   exact ih _ (k+1) p (by omega) (by omega)
  ·rw[if_pos rfl,qPw,okG,ih _ (k+1) _ (by omega) (by rw[Nat.add_zero];omega),qPq (by rw[Nat.add_zero];exact hp),qPq (by omega),qPq (by omega)]
   rfl
theorem qeI (N:Nat) (m:Nat→Bool):okG N (-1) (q5g N m)=true:=by
 have:=qvz (N:=N) m N 0 (-1) (by omega) (by omega)
 simp only[qON] at this
 exact this
theorem qjj (N:Nat) (m q:Nat→Bool):∃m',Qp q (q5g N m)=q5g N m':=⟨_,q9a _ _ _⟩
def qJq {α:Type} (f:α→Bool) (o:Option α):Bool:=(o.map f).getD false
theorem qjn {α:Type} (f:α→Bool):∀l:List α,Qp (fun j=>qJq f l[j]?) l=l.filter f
 | []=>rfl
 | a::l=>by
  rw[Qp]
  have:=qjn f l
  simp only[qOO]
  rw[this,List.filter_cons]
  show(if f a=true then[a] else[])++_=_
  cases f a<;>rfl
theorem qCd {α β:Type} {f:α→Option β}:∀{T:List α} {L:List β},T.map f=L.map some→T.filterMap f=L
 | [],[],_=>rfl
 | x::T,y::L,h=>by
  rw[qOM,qOM] at h
  injection h with h1 h2
  rw[List.filterMap_cons,h1,qCd h2]
structure q8O (p:qf) (s:qg) (l:List qa) (day:Int) (u:qI):Prop where
 inc:okG l.length (-1) u.Taken=true
 len:u.Leaf.length=u.Taken.length
 tog:qdw p (q5V l u.Taken) day=true
 rng:∀(j:Nat) (y:Int),u.Leaf[j]?=some y → -1≤y∧y<(lvN p.Need:Int)
 met:qip p.Need s (q5V l u.Taken) u.Leaf=true
theorem qjX (l:List qa) (m q:Nat→Bool):q5V l (Qp q (q5g l.length m))=Qp q (Qp m l):=qCd (by rw[←q7y];unfold q5g;rw[←q7y,qhu,q7y,q7y])
theorem qlI (p:qf) (day:Int):∀(r done:List qa),tgL p day done r=true→∀a∈r,qdJ p a day=false
 | [],_,_,a,h=>by cases h
 | x::r,done,h,a,ha=>by
  rw[tgL,qOV,qOV,Bool.not_eq_true'] at h
  rcases qOL.1 ha with rfl|ha
  ·exact h.1.1
  ·exact qlI p day r _ h.2 a ha
theorem q8O.mask {p:qf} {s:qg} {l:List qa} {day:Int} {u:qI} (h:q8O p s l day u) :
  ∃Y,Y<2 ^ (Qp (mO p day l) l).length∧u.Taken=Qp Y.testBit (q5g l.length (mO p day l))∧qdw p (Qp Y.testBit (Qp (mO p day l) l)) day=true∧Perm p.Need s (Qp (mO p day l) l) Y u.Leaf:=by
 have hlen:(q5g l.length (mO p day l)).length=(Qp (mO p day l) l).length:=by rw[q4r,q4L]
 obtain⟨q,hq⟩:∃q:Nat→Bool,q=fun j=>qJq (fun x=>decide (x∈u.Taken)) (q5g l.length (mO p day l))[j]?:=⟨_,rfl⟩
 have hsel:Qp q (q5g l.length (mO p day l))=u.Taken:=by
  have e:Qp q (q5g l.length (mO p day l))=(q5g l.length (mO p day l)).filter fun x=>decide (x∈u.Taken):=by rw[hq];exact qjn _ _
  obtain⟨m',hm'⟩:=qjj l.length (mO p day l) q
  refine qjt (N:=l.length) (p := -1) (q := -1) (by rw[hm'];exact qeI _ _) h.inc fun y=>?_
  rw[e,qPl,qPp]
  refine⟨fun hy=>hy.2,fun hy=>⟨?_,hy⟩⟩
  obtain⟨k,hk,rfl⟩:=qiO h.inc y hy
  have hold:=h.tog
  unfold qdw at hold
  rw[qOV,qOV] at hold
  have hold:=qlI p day _ _ hold.1.1 l[k] (List.mem_filterMap.2 ⟨(k:Int),hy,by rw[qOs];exact qOr hk⟩)
  unfold q5g
  rw[qiE]
  exact⟨k,by unfold mO;rw[qOr hk];simp[hold],by rw[J2 _ hk]⟩
 have hbit:∀k,k<(q5g l.length (mO p day l)).length→(mkS q (Qp (mO p day l) l).length).testBit k=q k:=fun k hk=>by
  rw[qcD,qPq (by omega),qOW]
 have hT:u.Taken=Qp (mkS q (Qp (mO p day l) l).length).testBit (q5g l.length (mO p day l)):=by
  rw[←hsel]
  exact(q2O hbit).symm
 have hL:q5V l u.Taken=Qp (mkS q (Qp (mO p day l) l).length).testBit (Qp (mO p day l) l):=by rw[hT];exact qjX l _ _
 refine⟨_,qta _ _,hT,by rw[←hL];exact h.tog,?_,h.rng,by rw[←hL];exact h.met⟩
 rw[h.len,hT,q4L,hlen]
theorem qp8.use {p:qf} {s:qg} {l:List qa} {day:Int} {X:Nat} {w:List Int} (h:qp8 p s (Qp (mO p day l) l) day X w):q8O p s l day ⟨Qp X.testBit (q5g l.length (mO p day l)),w⟩:=by
 obtain⟨m',hm'⟩:=qjj l.length (mO p day l) X.testBit
 have hL:=qjX l (mO p day l) X.testBit
 refine⟨?_,?_,?_,h.perm.rng,?_⟩
 ·show okG l.length (-1) (Qp X.testBit (q5g l.length (mO p day l)))=true
  rw[hm'];exact qeI _ _
 ·show w.length=(Qp X.testBit (q5g l.length (mO p day l))).length
  rw[h.perm.len,q4L,q4L,q4r]
 ·show qdw p (q5V l (Qp X.testBit (q5g l.length (mO p day l)))) day=true
  rw[hL];exact h.tog
 ·show qip p.Need s (q5V l (Qp X.testBit (q5g l.length (mO p day l)))) w=true
  rw[hL];exact h.perm.met
theorem qlZ {N:Nat}:∀{A:List Int} {p:Int},okG N p A=true→∀(i j:Nat) (x y:Int),i<j→A[i]?=some x→A[j]?=some y→x<y
 | [],_,_,i,j,x,y,_,hx,_=>by simp at hx
 | a::A,p,h,0,j+1,x,y,_,hx,hy=>by
  injection hx with hx
  subst hx
  exact qdY (q4B h) y (qOq hy)
 | a::A,p,h,i+1,j+1,x,y,hij,hx,hy=>qlZ (q4B h) i j x y (by omega) hx hy
theorem qte (A:List Int) (X:Nat):Qp X.testBit A=(q3u A.length X).map fun y=>A.getD (Int.toNat y) 0:=by
 unfold q3u
 rw[←q7y]
 congr 1
 apply List.ext_getElem?
 intro j
 rw[qOD]
 by_cases hj:j<A.length
 ·rw[J2 _ hj,qOr hj,Option.map_some,qOs,List.getD_eq_getElem?_getD,qOr hj];rfl
 ·rw[qOX (by omega),qOX (by rw[zF];omega)];rfl
theorem qoQ {N:Nat} {A:List Int} {p:Int} (h:okG N p A=true) (X Y:Nat):slL (Qp X.testBit A) (Qp Y.testBit A)=slL (q3u A.length X) (q3u A.length Y):=by
 rw[qte,qte]
 refine qxw fun x hx y hy=>?_
 obtain⟨i,hi,rfl⟩:=mem_range hx
 obtain⟨j,hj,rfl⟩:=mem_range hy
 rw[qOs,qOs,List.getD_eq_getElem?_getD,List.getD_eq_getElem?_getD,qOr hi,qOr hj,Option.getD_some,Option.getD_some]
 rcases Nat.lt_trichotomy i j with g|g|g
 ·have:=qlZ h i j _ _ g (qOr hi) (qOr hj)
  exact⟨by omega,by omega⟩
 ·subst g
  exact⟨by omega,by omega⟩
 ·have:=qlZ h j i _ _ g (qOr hj) (qOr hi)
  exact⟨by omega,by omega⟩
def uLe (u v:qI):Prop:=slL u.Taken v.Taken=true∨(u.Taken=v.Taken∧(u.Leaf=v.Leaf∨q4p u.Leaf v.Leaf=true))
theorem qqj {u v:qI} (h:uLe u v) (h2:uLe v u):u=v:=by
 have hsl:∀A B,slL A B=true→slL B A=true→False:=fun A B a b=>by
  have:=q9T a b
  rw[q8j] at this;cases this
 have hxl:∀A B,q4p A B=true→q4p B A=true→False:=fun A B a b=>by
  have:=q3W a b
  rw[qbU] at this;cases this
 obtain⟨T,L⟩:=u
 obtain⟨T',L'⟩:=v
 rcases h with h|⟨e,h⟩
 ·rcases h2 with h2|⟨e,-⟩
  ·exact(hsl _ _ h h2).elim
  ·rw[e,q8j] at h;cases h
 ·simp only at e h
  subst e
  rcases h2 with h2|⟨-,h2⟩
  ·rw[q8j] at h2;cases h2
  ·rcases h with h|h
   ·rw[h]
   ·rcases h2 with h2|h2
    ·simp only at h2;rw[h2]
    ·exact(hxl _ _ h h2).elim
theorem qw3 {u v:qI} (h:uLe u v):u.Taken.length≤v.Taken.length:=by
 rcases h with h|⟨e,-⟩
 ·rw[qfu] at h;omega
 ·rw[e];exact qOF _
theorem qim {p:qf} {l:List qa} (h:Grd p l) (hl:l.length≤10) (s:qg) (hck:Qe p s=some 0) (day:Int) :
  (zH p s l day=some (⟨[],[]⟩,31)∧∀u,¬ q8O p s l day u)∨(∃u,zH p s l day=some (u,0)∧q8O p s l day u∧∀v,q8O p s l day v→uLe u v):=by
 have hs:=q3H l (mO p day l)
 rcases qcf h (by omega) s hck day with ⟨g,-⟩|⟨-,g,hno⟩|⟨-,X,w,g,hL⟩
 ·omega
 ·refine .inl ⟨g,fun u hu=>?_⟩
  obtain⟨Y,h1,h2,h3,h4⟩:=hu.mask
  exact hno Y _ h1 h3 h4
 ·refine .inr ⟨_,g,hL.use,fun v hv=>?_⟩
  obtain⟨Y,h1,h2,h3,h4⟩:=hv.mask
  have hlen:(q5g l.length (mO p day l)).length=(Qp (mO p day l) l).length:=by rw[q4r,q4L]
  rcases hL.min Y v.Leaf h1 h3 h4 with e|⟨e,e2⟩
  ·left
   rw[h2]
   show slL (Qp X.testBit (q5g l.length (mO p day l))) _=true
   rw[qoQ (qeI l.length (mO p day l)),hlen];exact e
  ·right
   subst e
   exact⟨h2.symm,e2⟩
theorem quO {p:qf} {l:List qa} (h:Grd p l) (hl:l.length≤10) (s:qg) (hck:Qe p s=some 0) (day:Int) {u:qI} (hu:q8O p s l day u):qL p s l day u=some 0:=by
 have hpl:=qcP hu.inc
 have hT:u.Taken.length≤10:=by
  obtain⟨Y,h1,h2,h3,h4⟩:=hu.mask
  have h5:=q3H (q5g l.length (mO p day l)) Y.testBit
  have h6:=q4r l.length (mO p day l)
  have h7:=qcY (mO p day l) l.length
  rw[h2];omega
 rw[qtk h (by omega) s hck day u (fun L=>qip p.Need s L u.Leaf) fun L h1 h2=>qgn h.rgt h2 s u.Leaf h1.symm hu.rng,if_pos]
 unfold qE7
 rw[qPq hT,qPq hu.len,hu.inc,hu.tog]
 exact hu.met
end
noncomputable section
open Go.RowKit
abbrev nmL:List ByteArray:=[ByteArray.mk (List.toArray [77,117,115,105,99]),ByteArray.mk (List.toArray [76,97,119]),ByteArray.mk (List.toArray [79,108,100,32,109,97,112,115])]
abbrev agL:List Int:=[(0:Int),(0:Int),(0:Int),(2:Int),(5:Int)]
structure qrI (p:qf):Prop where
 sch:p.School=1
 id:1≤p.Id∧p.Id≤3
 ver:1≤p.Version∧p.Version≤3
 frm:0≤p.From∧p.From≤400
 nam:p.Name∈nmL
 tot:0≤p.Total∧p.Total≤19
 own:0≤p.Own∧p.Own≤10
 age:p.Age∈agL
 need:q6b 3 6 p.Need
 ex:p.Exclude=[]∨∃a b,p.Exclude=[q01.mk a b]∧q5A a∧q5A b∧q40 a b=true
theorem qCG (l:List Int) (hl:l.length≤9223372036854775807):∃p,q1g l=some p∧qrI p:=by
 obtain⟨v1,d1,e1,a1,b1,h1⟩:=q2m (d:=⟨l,0⟩) ⟨by show(0:Int)≤0;omega,by show(0:Int)≤(l.length:Int);omega,hl⟩ (most:=3) (by omega) (by omega)
 obtain⟨v2,d2,e2,a2,b2,h2⟩:=q2m h1 (most:=3) (by omega) (by omega)
 obtain⟨v3,d3,e3,a3,b3,h3⟩:=q2m h2 (most:=5) (by omega) (by omega)
 obtain⟨v4,d4,e4,a4,b4,h4⟩:=q2m h3 (most:=3) (by omega) (by omega)
 obtain⟨v6,d6,e6,a6,b6,h6⟩:=q2m h4 (most:=20) (by omega) (by omega)
 obtain⟨v7,d7,e7,a7,b7,h7⟩:=q2m h6 (most:=3) (by omega) (by omega)
 obtain⟨v8,d8,e8,a8,b8,h8⟩:=q2m h7 (most:=6) (by omega) (by omega)
 obtain⟨v9,d9,e9,a9,b9,h9⟩:=q2m h8 (most:=5) (by omega) (by omega)
 obtain⟨v11,d11,e11,a11,b11,h11⟩:=q2m h9 (most:=3) (by omega) (by omega)
 obtain⟨c1,d12,e12,m12,h12⟩:=qh3 h11
 obtain⟨c2,d13,e13,m13,h13⟩:=qh3 h12
 obtain⟨n1,d14,e14,m14,h14⟩:=qoV 3 6 d13 (by omega) (by omega) h13
 obtain⟨n2,d15,e15,m15,h15⟩:=qoV 3 6 d11 (by omega) (by omega) h11
 obtain⟨nm,g5,q5⟩:=qly nmL v4 a4 (by show v4<((3:Nat):Int);omega)
 obtain⟨ag,g10,q10⟩:=qly agL v9 a9 (by show v9<((5:Nat):Int);omega)
 have w1:w64 (1+v1)=1+v1:=QF (by omega) (by omega)
 have w2:w64 (1+v2)=1+v2:=QF (by omega) (by omega)
 have w3:w64 (100*v3)=100*v3:=QF (by omega) (by omega)
 have hm:0≤v7*v8∧v7*v8≤10:=by
  have hv7:v7=0∨v7=1∨v7=2:=by omega
  rcases hv7 with rfl|rfl|rfl<;>omega
 have w4:w64 (v7*v8)=v7*v8:=QF (by omega) (by omega)
 have e14':ZN ((3:Int),((6:Int),d13))=some (n1,d14):=e14
 have e15':ZN ((3:Int),((6:Int),d11))=some (n2,d15):=e15
 have mk:∀(n:qb) (X:List (q01 qc)),q6b 3 6 n→(X=[]∨∃a b,X=[q01.mk a b]∧q5A a∧q5A b∧q40 a b=true)→qrI (qf.mk (1:Int) (1+v1) (1+v2) (100*v3) nm n v6 (v7*v8) ag X):=fun n X hn hX=>
  ⟨rfl,⟨by show 1≤1+v1;omega,by show 1+v1≤3;omega⟩,⟨by show 1≤1+v2;omega,by show 1+v2≤3;omega⟩,⟨by show 0≤100*v3;omega,by show 100*v3≤400;omega⟩,q5,⟨a6,by show v6≤19;omega⟩,hm,q10,hn,hX⟩
 unfold q1g
 rw[e1,qOp];dsimp only
 rw[e2,qOp];dsimp only
 rw[e3,qOp];dsimp only
 rw[e4,qOp];dsimp only
 rw[if_pos ⟨a4,b4⟩,g5,qOp,e6,qOp];dsimp only
 rw[e7,qOp];dsimp only
 rw[e8,qOp];dsimp only
 rw[e9,qOp];dsimp only
 rw[if_pos ⟨a9,b9⟩,g10,qOp,e11,qOp];dsimp only
 rw[w1,w2,w3,w4]
 by_cases h0:v11=0
 ·rw[if_pos (by simpa using h0),e12,qOp];dsimp only
  rw[e13,qOp];dsimp only
  by_cases hp:Qm c1 c2=true
  ·rw[if_pos hp,e14',qOp]
   exact⟨_,rfl,mk _ _ m14 (.inr ⟨c1,c2,rfl,m12,m13,hp⟩)⟩
  ·rw[if_neg hp,e14',qOp]
   exact⟨_,rfl,mk _ _ m14 (.inl rfl)⟩
 ·rw[if_neg (by simpa using h0),e15',qOp]
  exact⟨_,rfl,mk _ _ m15 (.inl rfl)⟩
theorem qu9 (l:List Int) (hl:l.length≤9223372036854775807):∃p,q3g l=some p∧qrI p:=by
 obtain⟨p,h1,h2⟩:=qCG l hl
 unfold q3g
 rw[h1,qOp]
 refine⟨_,rfl,⟨h2.sch,h2.id,h2.ver,h2.frm,h2.nam,?_,?_,h2.age,h2.need,h2.ex⟩⟩
 ·have:=h2.tot
  have e1:=Int.tmod_lt_of_pos p.Total (show(0:Int)<12 by omega)
  have e2:0≤Int.tmod p.Total 12:=Int.tmod_nonneg _ (by omega)
  show 0≤Int.tmod p.Total 12∧Int.tmod p.Total 12≤19
  omega
 ·have:=h2.own
  have e1:=Int.tmod_lt_of_pos p.Own (show(0:Int)<4 by omega)
  have e2:0≤Int.tmod p.Own 4:=Int.tmod_nonneg _ (by omega)
  show 0≤Int.tmod p.Own 4∧Int.tmod p.Own 4≤10
  omega
end
noncomputable section
open Go.RowKit
def qDA (a:Int):Bool := !decide (a<32) && !decide (126<a) && !(a==34)
theorem qr7 (s:ByteArray) (hs:s.size≤1000):q1f s=some ((qgR s).all qDA&&inF ((s.size:Nat):Int) 1 40):=by
 have hl:(qgR s).length=s.size:=by unfold qgR;rw[qP8,Array.length_toList];rfl
 have h:=qbX (step:=q07 s (qgR s) (((qgR s).length:Nat):Int)) (qgR s) qDA (.inl ()) (.inr ()) (fun i a ha=>by
  have hi:=Ja ha
  unfold q07 qDA
  rw[if_pos (by omega),if_pos ⟨by omega,by omega⟩,qOs,ha,qOp,q4a hi (by omega)]
  by_cases h1:a<32
  ·rw[if_pos h1,qPq h1];rfl
  ·rw[if_neg h1,decide_eq_false h1]
   by_cases h2:126<a
   ·rw[if_pos h2,qPq h2];rfl
   ·rw[if_neg h2,decide_eq_false h2]
    cases a==34<;>rfl) (by
  unfold q07
  rw[if_neg (by omega)])
 unfold q1f
 rw[if_pos (by omega),h,qOp]
 cases hq:(qgR s).all qDA
 ·rw[if_neg (by decide),Sum.elim_inl];rfl
 ·rw[if_pos rfl,Sum.elim_inr,q3i];rfl
def nmB (s:ByteArray):Bool:=decide (s.size≤1000)&&((qgR s).all qDA&&inF ((s.size:Nat):Int) 1 40)
theorem qz1:nmL.all nmB=true:=by kernel_rfl
theorem qj7 {s:ByteArray} (h:s∈nmL):q1f s=some true:=by
 have:=qOG.1 qz1 s h
 unfold nmB at this
 rw[qOV,qPp] at this
 rw[qr7 s this.1,this.2]
theorem qhS {n a b:Int} (h1:a≤n) (h2:n≤b):zx n a b=true:=by
 rw[q3i]
 unfold inF
 rw[qPq h1,qPq h2];rfl
theorem qt1 {p:qf} (hs:1≤p.School∧p.School≤8) (hi:1≤p.Id∧p.Id≤999999) (hv:1≤p.Version∧p.Version≤20) (hf:0≤p.From∧p.From≤100000) (ht:0≤p.Total∧p.Total≤600) (ho:0≤p.Own∧p.Own≤600) (ha:0≤p.Age∧p.Age≤100)
  (hn:q1f p.Name=some true) (hnd:Jz p.Need=some 0) (hx:p.Exclude=[]∨∃a b,p.Exclude=[q01.mk a b]∧q1e a=true∧q1e b=true∧qum a b<0):q08 p=some 0:=by
 have hex:p.Exclude.length≤1:=by
  rcases hx with e|⟨a,b,e,-⟩<;>rw[e]
  ·exact qOP _
  ·exact qOF _
 have hend:QT p p.Exclude ((p.Exclude.length:Nat):Int) ((p.Exclude.length:Nat):Int)=some (.inr (.inr ())):=by
  unfold QT
  rw[if_neg (by omega)]
 have hloop:zy (QT p p.Exclude ((p.Exclude.length:Nat):Int)) (0:Int)=some (.inr ()):=by
  rcases hx with e|⟨a,b,e,ma,mb,hlt⟩
  ·rw[e] at hend ⊢
   exact zt hend
  ·have e1:QT p p.Exclude ((p.Exclude.length:Nat):Int) (0:Int)=some (.inl 1):=by
    unfold QT
    rw[e]
    show(if(0:Int)<1 then _ else _)=_
    rw[if_pos (by decide),if_pos ⟨by simp,by simp⟩]
    show Option.bind (some (q01.mk a b)) _=_
    rw[qOp]
    dsimp only
    rw[qep,qOp,qep,qOp,ma,mb,qa7,qOp]
    rw[if_neg (by decide),if_neg (by decide),if_neg (by omega),if_pos ⟨by simp,by simp⟩,q71 _ (by simp),qOp]
    rfl
   rw[zW e1]
   have:((p.Exclude.length:Nat):Int)=1:=by rw[e];rfl
   rw[this] at hend ⊢
   exact zt hend
 unfold q08
 rw[qhS (n:=p.School) (a:=1) (b:=8) hs.1 hs.2,qhS (n:=p.Id) (a:=1) (b:=999999) hi.1 hi.2,qhS (n:=p.Version) (a:=1) (b:=20) hv.1 hv.2,qhS (n:=p.From) (a:=0) (b:=100000) hf.1 hf.2,qhS (n:=p.Total) (a:=0) (b:=600) ht.1 ht.2,qhS (n:=p.Own) (a:=0) (b:=600) ho.1 ho.2,qhS (n:=p.Age) (a:=0) (b:=100) ha.1 ha.2,hn]
 simp only[Bool.not_true,Bool.false_eq_true,if_false,qOp]
 rw[hnd,qOp,if_neg (by decide),if_neg (by omega),hloop]
 rfl
theorem qhb {p:qf} (h:qrI p):q08 p=some 0:=by
 have hs:=h.sch;have hi:=h.id;have hv:=h.ver;have hf:=h.frm;have ht:=h.tot;have ho:=h.own
 have ha:0≤p.Age∧p.Age≤5:=by
  have:p.Age=0∨p.Age=2∨p.Age=5:=by have:=h.age;simpa using this
  omega
 refine qt1 ⟨by omega,by omega⟩ ⟨by omega,by omega⟩ ⟨by omega,by omega⟩ ⟨by omega,by omega⟩ ⟨by omega,by omega⟩ ⟨by omega,by omega⟩ ⟨by omega,by omega⟩ (qj7 h.nam) (qdK h.need) ?_
 rcases h.ex with e|⟨a,b,e,ma,mb,hp⟩
 ·exact .inl e
 ·refine .inr ⟨a,b,e,qaq ma,qaq mb,?_⟩
  have:=qjb a b
  rw[hp] at this
  simpa using this.symm
theorem qec {p:qf} (h:qrI p) {s:qg} (hs:qct s=true):Qe p s=some 0:=by
 unfold Qe
 rw[qhb h,qOp,if_neg (by decide),q5K,hs];rfl
end
noncomputable section
open Go.RowKit
set_option maxRecDepth 100000
def qnK (W:Nat):Nat→List (List Int)
 | 0=>[[]]
 | m+1=>(qnK W m).flatMap fun t=>(List.range (W+1)).map fun(i:Nat)=>((i:Int)-1)::t
theorem qga (W:Nat):∀(lf:List Int),(∀y∈lf,-1≤y∧y<(W:Int))→lf∈qnK W lf.length
 | [],_=>qPg.2 rfl
 | y::lf,h=>by
  rw[qOA,qnK,List.mem_flatMap]
  have hy:=h y qOE
  refine⟨lf,qga W lf fun z hz=>h z (qOx _ hz),qPa.2 ⟨(y+1).toNat,qPm.2 (show(y+1).toNat<W+1 by omega),?_⟩⟩
  rw[show(((y+1).toNat:Nat):Int)-1=y by omega]
def qEA (p:qf) (s:qg) (all:List qa) (day:Int) (X:Nat) (lf:List Int):Bool:=
 qdw p (Qp X.testBit all) day&&decide (lf.length=rkF X.testBit all.length)&&(lf.all fun y=>decide (-1≤y)&&decide (y<(lvN p.Need:Int)))&&qip p.Need s (Qp X.testBit all) lf
theorem qoE {p:qf} {s:qg} {all:List qa} {day:Int} {X:Nat} {lf:List Int}:qEA p s all day X lf=true↔qdw p (Qp X.testBit all) day=true∧Perm p.Need s all X lf:=by
 unfold qEA
 rw[qOV,qOV,qOV,qPp,qOG]
 constructor
 ·rintro⟨⟨⟨h1,h2⟩,h3⟩,h4⟩
  refine⟨h1,h2,fun j y hy=>?_,h4⟩
  have:=h3 y (qOq hy)
  rw[qOV,qPp,qPp] at this
  exact this
 ·rintro⟨h1,h2,h3,h4⟩
  refine⟨⟨⟨h1,h2⟩,fun y hy=>?_⟩,h4⟩
  obtain⟨j,hj⟩:=List.getElem?_of_mem hy
  have:=h3 j y hj
  rw[qPq this.1,qPq this.2];rfl
def qoJ (p:qf) (s:qg) (all:List qa) (day:Int) (q:Nat→List Int→Bool):Bool:=
 (List.range (2 ^ all.length)).all fun Y=>(qnK (lvN p.Need) (rkF Y.testBit all.length)).all fun lf => !qEA p s all day Y lf||q Y lf
theorem qkf {p:qf} {s:qg} {all:List qa} {day:Int} {q:Nat→List Int→Bool} (h:qoJ p s all day q=true) {Y:Nat} {lf:List Int} (hY:Y<2 ^ all.length) (ht:qdw p (Qp Y.testBit all) day=true) (hp:Perm p.Need s all Y lf):q Y lf=true:=by
 have h1:=qOG.1 h Y (qPm.2 hY)
 have hm:lf∈qnK (lvN p.Need) (rkF Y.testBit all.length):=by
  rw[←hp.len]
  refine qga _ _ fun y hy=>?_
  obtain⟨j,hj⟩:=List.getElem?_of_mem hy
  exact hp.rng j y hj
 have h2:=qOG.1 h1 lf hm
 rw[qoE.2 ⟨ht,hp⟩] at h2
 simpa using h2
def qJV (N X:Nat) (w:List Int) (Y:Nat) (lf:List Int):Bool:=slL (q3u N X) (q3u N Y)||(X==Y&&(w==lf||q4p w lf))
def quB (p:qf) (s:qg) (l:List qa) (day:Int) (X:Nat) (w:List Int):Bool:=
 decide ((Qp (mO p day l) l).length≤10)&&decide (X<2 ^ (Qp (mO p day l) l).length)&&qEA p s (Qp (mO p day l) l) day X w&&qoJ p s (Qp (mO p day l) l) day (qJV (Qp (mO p day l) l).length X w)
theorem qvc {p:qf} {l:List qa} (h:Grd p l) (hl:l.length≤1000) (s:qg) (hck:Qe p s=some 0) (day:Int) {X:Nat} {w:List Int} (hg:quB p s l day X w=true):zH p s l day=some (⟨Qp X.testBit (q5g l.length (mO p day l)),w⟩,0):=by
 unfold quB at hg
 rw[qOV,qOV,qOV,qPp,qPp] at hg
 obtain⟨⟨⟨h1,h2⟩,h3⟩,h4⟩:=hg
 obtain⟨ht,hp⟩:=qoE.1 h3
 rcases qcf h hl s hck day with ⟨g1,-⟩|⟨-,-,g2⟩|⟨-,Y,v,g1,g2⟩
 ·omega
 ·exact absurd hp (g2 X w h2 ht)
 ·have a1:=qkf h4 g2.lt g2.tog g2.perm
  unfold qJV at a1
  rw[qOU,qOV,qOU,beq_iff_eq,beq_iff_eq] at a1
  have a2:=g2.min X w h2 ht hp
  have hsl:∀A B,slL A B=true→slL B A=true→False:=fun A B u v=>by
   have:=q9T u v
   rw[q8j] at this;cases this
  have hxl:∀A B,q4p A B=true→q4p B A=true→False:=fun A B u v=>by
   have:=q3W u v
   rw[qbU] at this;cases this
  have key:Y=X∧v=w:=by
   rcases a1 with a1|⟨e,a1⟩
   ·rcases a2 with a2|⟨e,a2⟩
    ·exact(hsl _ _ a1 a2).elim
    ·subst e;rw[q8j] at a1;cases a1
   ·subst e
    rcases a2 with a2|⟨-,a2⟩
    ·rw[q8j] at a2;cases a2
    ·rcases a1 with e|a1
     ·exact⟨rfl,e.symm⟩
     ·rcases a2 with e|a2
      ·exact⟨rfl,e⟩
      ·exact(hxl _ _ a1 a2).elim
  obtain⟨rfl,rfl⟩:=key
  exact g1
def qGI (p:qf) (s:qg) (l:List qa) (day:Int):Bool:=decide ((Qp (mO p day l) l).length≤10)&&qoJ p s (Qp (mO p day l) l) day fun _ _=>false
theorem qzx {p:qf} {l:List qa} (h:Grd p l) (hl:l.length≤1000) (s:qg) (hck:Qe p s=some 0) (day:Int) (hg:qGI p s l day=true):zH p s l day=some (⟨[],[]⟩,31):=by
 unfold qGI at hg
 rw[qOV,qPp] at hg
 rcases qcf h hl s hck day with ⟨g1,-⟩|⟨-,g1,-⟩|⟨-,Y,v,-,g2⟩
 ·omega
 ·exact g1
 ·have:=qkf hg.2 g2.lt g2.tog g2.perm
  cases this
theorem qcJ (u:qI) (h1:u.Taken.length≤1000) (h2:u.Leaf.length≤1000):q2a u u=some true:=by
 have e1:=qbX (step:=q0c u u) u.Taken (fun _=>true) (.inl ()) (.inr ()) (fun i a ha=>by
  have hi:=Ja ha
  unfold q0c
  rw[if_pos (by omega),if_pos ⟨by omega,by omega⟩,qOs,ha,qOp,if_pos ⟨by omega,by omega⟩,qOp,if_neg (by simp),q4a hi (by omega)]
  rfl) (by
  unfold q0c
  rw[if_neg (by omega)])
 have e2:=qbX (step:=q0b u u) u.Leaf (fun _=>true) (.inl ()) (.inr ()) (fun i a ha=>by
  have hi:=Ja ha
  unfold q0b
  rw[if_pos (by omega),if_pos ⟨by omega,by omega⟩,qOs,ha,qOp,if_pos ⟨by omega,by omega⟩,qOp,if_neg (by simp),q4a hi (by omega)]
  rfl) (by
  unfold q0b
  rw[if_neg (by omega)])
 have ht:∀l:List Int,(l.all fun _=>true)=true:=fun l=>by simp
 rw[ht,if_pos rfl] at e1 e2
 unfold q2a
 rw[if_neg (by simp),if_neg (by simp),e1,qOp,Sum.elim_inr,e2,qOp,Sum.elim_inr]
end
noncomputable section
open Go.RowKit
set_option maxRecDepth 100000
abbrev cA1:qc:=qc.mk 1 (ByteArray.mk (List.toArray [65,49]))
abbrev cB1:qc:=qc.mk 1 (ByteArray.mk (List.toArray [66,49]))
abbrev mus:ByteArray:=ByteArray.mk (List.toArray [77,117,115,105,99])
abbrev nEx:qb:=qb.mk 1 0 60 [cA1,cB1] []
abbrev pEx (total age:Int) (x:List (q01 qc)):qf:=qf.mk 1 1 1 0 mus nEx total 0 age x
abbrev lEx:List qa:=[qa.mk cA1 5 55 100 [1000001] 0 [],qa.mk cB1 5 60 100 [1000002] 0 [],qa.mk cA1 6 80 100 [1000003] 0 []]
abbrev scP:qg:=⟨0,100,50⟩
theorem qji:qT 1=scP:=by unfold qT;rfl
theorem q58 (t:Int):Zz t=some (pEx t 0 [],lEx):=by
 unfold Zz
 rw[zW (y:=([qa.mk cA1 5 55 100 [1000001] 0 []],1)) (by rfl),zW (y:=([qa.mk cA1 5 55 100 [1000001] 0 [],qa.mk cB1 5 60 100 [1000002] 0 []],2)) (by rfl),zW (y:=(lEx,3)) (by rfl),zt (e:=lEx) (by rfl)]
 rfl
def qIo (n:qb):Bool:=decide (hgN n≤100)&&decide ((ndN n).length≤9999)&&(ndN n).all (fun y=>decide (y.Set.length≤1000000))&&qdR n==0
theorem qyg {n:qb} (h:qIo n=true):Rgt n:=by
 unfold qIo at h
 simp only[qOV,qPp,qOG,beq_iff_eq] at h
 exact⟨⟨h.1.1.1,h.1.1.2,h.1.2⟩,h.2⟩
theorem qat:Rgt nEx:=qyg (by kernel_rfl)
theorem qAv:Jz nEx=some 0:=by
 rw[q9n nEx qat.sz.hg qat.sz.nd qat.sz.st]
 exact congrArg some qat.ck
theorem qu2:∀b∈lEx,q8a b:=fun b hb=>by
 simp only[qOL,List.mem_nil_iff,or_false] at hb
 rcases hb with rfl|rfl|rfl<;>exact⟨by decide,by decide⟩
theorem qoc (t a:Int) (x:List (q01 qc)) (hx:x.length≤1000):Grd (pEx t a x) lEx:=⟨qat,hx,qu2⟩
theorem quv (t a:Int) (ht:0≤t∧t≤600) (ha:0≤a∧a≤100) (x:List (q01 qc)) (hx:x=[]∨x=[q01.mk cA1 cB1]):Qe (pEx t a x) scP=some 0:=by
 unfold Qe
 rw[qt1 (p:=pEx t a x) (show(1:Int)≤1∧(1:Int)≤8 by decide) (show(1:Int)≤1∧(1:Int)≤999999 by decide) (show(1:Int)≤1∧(1:Int)≤20 by decide) (show(0:Int)≤0∧(0:Int)≤100000 by decide) ht (show(0:Int)≤0∧(0:Int)≤600 by decide) ha (qj7 (s:=mus) (by simp[nmL])) qAv (by
  rcases hx with e|e
  ·exact .inl e
  ·exact .inr ⟨cA1,cB1,e,by kernel_rfl,by kernel_rfl,of_decide_eq_true (by kernel_rfl)⟩),qOp,if_neg (by decide),q5K]
 rfl
theorem q9p (t a:Int) (ht:0≤t∧t≤600) (ha:0≤a∧a≤100) (x:List (q01 qc)) (hx:x=[]∨x=[q01.mk cA1 cB1]) (X:Nat) (w tk:List Int) (hg:quB (pEx t a x) scP lEx 500 X w=true) (hk:Qp X.testBit (q5g lEx.length (mO (pEx t a x) 500 lEx))=tk) (h1:tk≠[]) (h2:tk.length≤10) (h3:w.length≤10):zc (pEx t a x) lEx tk w=some true:=by
 unfold zc
 have hxl:x.length≤1000:=by rcases hx with e|e<;>rw[e]<;>decide
 rw[qji,qvc (qoc t a x hxl) (by decide) scP (quv t a ht ha x hx) 500 hg,qOp,hk]
 have hl:tk.length≠0:=fun e=>h1 (qOI e)
 dsimp only
 rw[if_neg (by simpa using h1),if_pos (by decide),qcJ _ (by show tk.length≤1000;omega) (by show w.length≤1000;omega),qOp]
theorem qlV (t a:Int) (ht:0≤t∧t≤600) (ha:0≤a∧a≤100) (hg:qGI (pEx t a []) scP lEx 500=true):zc (pEx t a []) lEx [] []=some true:=by
 unfold zc
 rw[qji,qzx (qoc t a [] (by decide)) (by decide) scP (quv t a ht ha [] (.inl rfl)) 500 hg,qOp]
 rfl
theorem qKE:zc (pEx 11 0 []) lEx [1,2] [-1,0]=some true:=q9p 11 0 (by decide) (by decide) [] (.inl rfl) 6 [-1,0] [1,2] (by kernel_rfl) (by kernel_rfl) (by decide) (by decide) (by decide)
theorem qNN:zc (pEx 10 0 []) lEx [0,1] [-1,0]=some true:=q9p 10 0 (by decide) (by decide) [] (.inl rfl) 3 [-1,0] [0,1] (by kernel_rfl) (by kernel_rfl) (by decide) (by decide) (by decide)
theorem qLw:zc (pEx 5 0 []) lEx [1] [0]=some true:=q9p 5 0 (by decide) (by decide) [] (.inl rfl) 2 [0] [1] (by kernel_rfl) (by kernel_rfl) (by decide) (by decide) (by decide)
theorem qLK:zc (pEx 0 0 []) lEx [1] [0]=some true:=q9p 0 0 (by decide) (by decide) [] (.inl rfl) 2 [0] [1] (by kernel_rfl) (by kernel_rfl) (by decide) (by decide) (by decide)
theorem qMD:zc (pEx 12 0 []) lEx [] []=some true:=qlV 12 0 (by decide) (by decide) (by kernel_rfl)
theorem qMZ:zc (pEx 11 3 []) lEx [] []=some true:=qlV 11 3 (by decide) (by decide) (by kernel_rfl)
theorem qKg:zc (pEx 6 0 [q01.mk cA1 cB1]) lEx [2] [0]=some true:=q9p 6 0 (by decide) (by decide) _ (.inr rfl) 4 [0] [2] (by kernel_rfl) (by kernel_rfl) (by decide) (by decide) (by decide)
theorem qoz (tk lf:List Int) (r:Int) (hv:∀(j:Nat) (y:Int),lf[j]?=some y → -1≤y∧y<(lvN nEx:Int)) (hr:(if qE7 (pEx 11 0 []) lEx 500 (fun L=>qip nEx scP L lf) ⟨tk,lf⟩=true then 0 else 32)=r):qL (pEx 11 0 []) scP lEx 500 ⟨tk,lf⟩=some r:=by
 rw[qtk (qoc 11 0 [] (by decide)) (by decide) scP (quv 11 0 (by decide) (by decide) [] (.inl rfl)) 500 ⟨tk,lf⟩ (fun L=>qip nEx scP L lf) (fun L h1 h2=>qgn qat h2 scP lf h1.symm hv),hr]
theorem qor (a b:Int) (ha : -1≤a∧a<1) (hb : -1≤b∧b<1):∀(j:Nat) (y:Int),[a,b][j]?=some y → -1≤y∧y<(lvN nEx:Int)
 | 0,y,h=>by injection h with h;subst h;exact ha
 | 1,y,h=>by injection h with h;subst h;exact hb
 | j+2,y,h=>by cases h
theorem qKc:qL (pEx 11 0 []) scP lEx 500 ⟨[1,2],[0,-1]⟩=some 0:=qoz _ _ _ (qor 0 (-1) (by decide) (by decide)) (by kernel_rfl)
theorem qLl:qL (pEx 11 0 []) scP lEx 500 ⟨[1,2],[0,0]⟩=some 32:=qoz _ _ _ (qor 0 0 (by decide) (by decide)) (by kernel_rfl)
theorem qG6:qL (pEx 11 0 []) scP lEx 500 ⟨[0,2],[-1,0]⟩=some 32:=qoz _ _ _ (qor (-1) 0 (by decide) (by decide)) (by kernel_rfl)
theorem qLk:Za (pEx 11 3 []) (qa.mk cA1 5 55 100 [1000001] 0 []) 500=some true:=by kernel_rfl
theorem qLs:Za (pEx 11 0 []) (qa.mk cA1 5 55 100 [1000001] 0 []) 500=some false:=by kernel_rfl
theorem qGf:q1v ⟨[1],[0]⟩ ⟨[1],[0]⟩=some true:=by
 unfold q1v JR
 rw[qc2 _ _ (by decide),qc2 _ _ (by decide)]
 rfl
theorem qhV:q1H=some true:=by
 have h1:=qKE;have h2:=qNN;have h3:=qLw;have h4:=qLK;have h5:=qMD;have h6:=qMZ;have h7:=qKg
 have h8:=qKc;have h9:=qLl;have h10:=qG6;have h11:=qLk;have h12:=qLs;have h13:=qGf
 unfold q1H
 rw[q58,qOp,q58,qOp,q58,qOp,q58,qOp,q58,qOp]
 dsimp only
 rw[h1,qOp,if_pos rfl,h2,qOp,if_pos rfl,h3,qOp,if_pos rfl,h4,qOp,if_pos rfl,h5,qOp,if_pos rfl,h6,qOp,if_pos rfl,h7,qOp,qji,h8,qOp,if_pos (by decide),h9,qOp,if_pos (by decide),h10,qOp,if_pos rfl,if_pos (by decide)]
 rw[if_pos (by decide)]
 show Option.bind (some _) _=_
 rw[qOp]
 rw[h11]
 simp only[qOp,if_true]
 rw[if_pos (by decide)]
 show Option.bind (some _) _=_
 rw[qOp,h12]
 simp only[qOp]
 rw[h13]
 rfl
end
noncomputable section
open Go.RowKit
structure qcT (a:qa):Prop where
 src:a.Sources.length=1
 pth:a.Path.length≤1
 crd:3≤a.Credits∧a.Credits≤10
 day:0≤a.Day∧a.Day≤600
theorem qF1 (cs:List qc) (hc:1≤cs.length) (hc2:cs.length≤1000) (many:Int) (hm:many≤7) (l:List qa) (k:Nat) (hl:l.length=k) (hs:∀a∈l,qcT a) (hk:(k:Int)<many) {d:qi} (hd:q0u d) :
  ∃a d',qcT a∧q0u d'∧Ze cs many (l,d,(k:Int))=some (.inl (l++[a],d',((k+1:Nat):Int))):=by
 have hML:100000≤maxLen:=by unfold maxLen;omega
 obtain⟨v1,d1,e1,a1,b1,h1⟩:=qkO hd (most:=((cs.length:Nat):Int)) (by omega) (by omega)
 obtain⟨c,hc1,_⟩:=qly cs v1 a1 b1
 obtain⟨v2,d2,e2,a2,b2,h2⟩:=qkO h1 (most:=4) (by omega) (by omega)
 obtain⟨cr,hcr,mcr⟩:=qly [(5:Int),6,10,3] v2 a2 (by simpa using b2)
 obtain⟨v3,d3,e3,a3,b3,h3⟩:=qkO h2 (most:=7) (by omega) (by omega)
 obtain⟨gr,hgr,_⟩:=qly [(50:Int),60,90,40,100,79,80] v3 a3 (by simpa using b3)
 obtain⟨v4,d4,e4,a4,b4,h4⟩:=qkO h3 (most:=600) (by omega) (by omega)
 obtain⟨v5,d5,e5,a5,b5,h5⟩:=qkO h4 (most:=8) (by omega) (by omega)
 have hw:w64 ((k:Int)+1)=((k+1:Nat):Int):=by rw[QF (by omega) (by omega)];omega
 have hcr2:3≤cr∧cr≤10:=by
  have:cr=5∨cr=6∨cr=10∨cr=3:=by simpa using mcr
  omega
 have hok:∀x,qcT ⟨c,cr,gr,v4,[x],0,[]⟩:=fun x=>⟨rfl,qOP _,hcr2,⟨a4,by show v4≤600;omega⟩⟩
 by_cases hz:v5=0∧0<k
 ·have hwk:w64 ((k:Int)-1)=((k-1:Nat):Int):=by rw[QF (by omega) (by omega)];omega
  obtain⟨p,hp⟩:∃p,l[k-1]?=some p:=⟨_,qOr (by omega)⟩
  have hps:=(hs p (qOq hp)).src
  obtain⟨x,hx⟩:∃x,p.Sources[0]?=some x:=⟨_,qOr (by omega)⟩
  refine⟨⟨c,cr,gr,v4,[x],0,[]⟩,d5,hok x,h5,?_⟩
  unfold Ze
  simp only
  rw[if_pos hk,e1,qOp]
  simp only
  rw[if_pos ⟨a1,b1⟩,hc1,qOp,e2,qOp]
  simp only
  rw[if_pos ⟨a2,b2⟩,hcr,qOp,e3,qOp]
  simp only
  rw[if_pos ⟨a3,b3⟩,hgr,qOp,e4,qOp]
  simp only
  rw[e5,qOp]
  simp only
  rw[if_pos (by simp[hz.1]),if_pos (by omega),hwk,if_pos ⟨by omega,by omega⟩,qOs,hp,qOp,if_pos (by omega),hx,qOp,if_pos ⟨by omega,by omega⟩,hw]
 ·refine⟨⟨c,cr,gr,v4,[w64 (w64 (w64 ((1000000:Int)*c.School)+(k:Int))+(1:Int))],0,[]⟩,d5,hok _,h5,?_⟩
  unfold Ze
  simp only
  rw[if_pos hk,e1,qOp]
  simp only
  rw[if_pos ⟨a1,b1⟩,hc1,qOp,e2,qOp]
  simp only
  rw[if_pos ⟨a2,b2⟩,hcr,qOp,e3,qOp]
  simp only
  rw[if_pos ⟨a3,b3⟩,hgr,qOp,e4,qOp]
  simp only
  rw[e5,qOp]
  simp only
  by_cases h0:v5=0
  ·rw[if_pos (by simp[h0]),if_neg (by omega),if_pos ⟨by omega,by omega⟩,hw]
  ·rw[if_neg (by simpa using h0),if_pos ⟨by omega,by omega⟩,hw]
theorem qFY (cs:List ByteArray) (hc:1≤cs.length) (hc2:cs.length≤1000) (many:Int) (hm:many≤7) (l:List qa) (k:Nat) (hl:l.length=k) (hk:(k:Int)<many) {d:qi} (hd:q0u d) :
  ∃a d',qcT a∧q0u d'∧Zy many cs (l,d,(k:Int))=some (.inl (l++[a],d',((k+1:Nat):Int))):=by
 have hML:100000≤maxLen:=by unfold maxLen;omega
 obtain⟨v1,d1,e1,a1,b1,h1⟩:=q2m hd (most:=5) (by omega) (by omega)
 obtain⟨sc,hsc,_⟩:=qly [(1:Int),1,1,2,3] v1 a1 (by simpa using b1)
 obtain⟨v2,d2,e2,a2,b2,h2⟩:=q2m h1 (most:=((cs.length:Nat):Int)) (by omega) (by omega)
 obtain⟨c,hc1,_⟩:=qly cs v2 a2 b2
 obtain⟨v3,d3,e3,a3,b3,h3⟩:=q2m h2 (most:=3) (by omega) (by omega)
 obtain⟨cr,hcr,mcr⟩:=qly [(5:Int),6,10] v3 a3 (by simpa using b3)
 obtain⟨v4,d4,e4,a4,b4,h4⟩:=q2m h3 (most:=11) (by omega) (by omega)
 obtain⟨v5,d5,e5,a5,b5,h5⟩:=q2m h4 (most:=12) (by omega) (by omega)
 obtain⟨v6,d6,e6,a6,b6,h6⟩:=q2m h5 (most:=4) (by omega) (by omega)
 obtain⟨v7,d7,e7,a7,b7,h7⟩:=q2m h6 (most:=2) (by omega) (by omega)
 obtain⟨v8,d8,e8,a8,b8,h8⟩:=q2m h7 (most:=3) (by omega) (by omega)
 have hw:w64 ((k:Int)+1)=((k+1:Nat):Int):=by rw[QF (by omega) (by omega)];omega
 have hcr2:3≤cr∧cr≤10:=by
  have:cr=5∨cr=6∨cr=10:=by simpa using mcr
  omega
 have wd:w64 (50*v5)=50*v5:=QF (by omega) (by omega)
 have hd5:0≤w64 (50*v5)∧w64 (50*v5)≤600:=by rw[wd];omega
 unfold Zy
 simp only
 rw[if_pos hk,e1,qOp]
 simp only
 rw[if_pos ⟨a1,b1⟩,hsc,qOp,e2,qOp]
 simp only
 rw[if_pos ⟨a2,b2⟩,hc1,qOp,e3,qOp]
 simp only
 rw[if_pos ⟨a3,b3⟩,hcr,qOp,e4,qOp]
 simp only
 rw[e5,qOp]
 simp only
 rw[e6,qOp]
 simp only
 by_cases h0:v6=0
 ·rw[if_pos (by simp[h0]),e7,qOp]
  simp only
  rw[e8,qOp]
  simp only
  rw[if_pos ⟨by omega,by omega⟩,hw]
  exact⟨_,_,⟨rfl,qOF _,hcr2,hd5⟩,h8,rfl⟩
 ·rw[if_neg (by simpa using h0),if_pos ⟨by omega,by omega⟩,hw]
  exact⟨_,_,⟨rfl,qOP _,hcr2,hd5⟩,h6,rfl⟩
theorem qan {many:Nat} {F:(List qa×qi×Int)→Option ((List qa×qi×Int)⊕(List qa))}
  (hr:∀(l:List qa) (k:Nat) (d:qi),l.length=k→(∀a∈l,qcT a)→k<many→q0u d→∃a d',qcT a∧q0u d'∧F (l,d,(k:Int))=some (.inl (l++[a],d',((k+1:Nat):Int))))
  (he:∀l d,F (l,d,(many:Int))=some (.inr l)):∀(j k:Nat) (l:List qa) (d:qi),j+k=many→l.length=k→(∀a∈l,qcT a)→q0u d→∃l',zy F (l,d,(k:Int))=some l'∧l'.length=many∧∀a∈l',qcT a
 | 0,k,l,d,hk,hl,hs,hd=>by
  obtain rfl:k=many:=by omega
  exact⟨l,zt (he l d),hl,hs⟩
 | j+1,k,l,d,hk,hl,hs,hd=>by
  obtain⟨a,d',q1,q2,q3⟩:=hr l k d hl hs (by omega) hd
  rw[zW q3]
  refine qan hr he j (k+1) (l++[a]) d' (by omega) (by simp[hl]) (fun x hx=>?_) q2
  rcases qOT.1 hx with h|h
  ·exact hs x h
  ·rw[qPg.1 h];exact q1
theorem qoq {n:qb} (h:q6b 3 6 n) (q:List Int) (hq:q.length≤9223372036854775807):∃l,q3j n q=some l∧l.length≤7∧∀a∈l,qcT a:=by
 obtain⟨cs,g1,g2⟩:=ql9 h
 obtain⟨v,d,e1,a1,b1,h1⟩:=qkO (d:=⟨q,0⟩) ⟨by show(0:Int)≤0;omega,by show(0:Int)≤(q.length:Int);omega,hq⟩ (most:=8) (by omega) (by omega)
 have hML:100000≤maxLen:=by unfold maxLen;omega
 obtain⟨m,rfl⟩:∃m:Nat,v=(m:Int):=⟨v.toNat,by omega⟩
 obtain⟨l',k1,k2,k3⟩:=qan (many:=m) (F:=Ze (cs++[qc.mk (1:Int) (ByteArray.mk (List.toArray [90]))]) (m:Int)) (fun l k d hl hs hk hd=>qF1 _ (by simp) (by simp;omega) (m:Int) (by omega) l k hl hs (by omega) hd) (fun l d=>by
  unfold Ze
  simp only
  rw[if_neg (by omega)]) m 0 [] d (by omega) rfl (fun a ha=>by cases ha) h1
 refine⟨l',?_,by omega,k3⟩
 unfold q3j
 rw[g1,qOp,if_pos ⟨by omega,by omega⟩,e1,qOp]
 simp only
 change Option.bind (zy _ ([],d,((0:Nat):Int))) _=_
 rw[k1];rfl
theorem qmY (q:List Int) (hq:q.length≤9223372036854775807):∃l,q3n q=some l∧l.length≤7∧∀a∈l,qcT a:=by
 obtain⟨v,d,e1,a1,b1,h1⟩:=q2m (d:=⟨q,0⟩) ⟨by show(0:Int)≤0;omega,by show(0:Int)≤(q.length:Int);omega,hq⟩ (most:=8) (by omega) (by omega)
 obtain⟨m,rfl⟩:∃m:Nat,v=(m:Int):=⟨v.toNat,by omega⟩
 obtain⟨l',k1,k2,k3⟩:=qan (many:=m) (F:=Zy (m:Int) Q2) (fun l k d hl hs hk hd=>qFY _ (by decide) (by decide) (m:Int) (by omega) l k hl (by omega) hd) (fun l d=>by
  unfold Zy
  simp only
  rw[if_neg (by omega)]) m 0 [] d (by omega) rfl (fun a ha=>by cases ha) h1
 refine⟨l',?_,by omega,k3⟩
 unfold q3n
 rw[e1,qOp]
 simp only
 change Option.bind (zy _ ([],d,((0:Nat):Int))) _=_
 rw[k1];rfl
end
noncomputable section
open Go.RowKit
set_option maxRecDepth 100000
theorem qo5 {α:Type} (ds:List α) (o s:Nat):ds.drop o=(ds.drop o).take s++ds.drop (o+s):=by
 rw[←qPd];exact(qPe s _).symm
theorem qmc {X:Type} {E:X→List D} {W:X→Prop} {sz:Nat} (hz:0<sz):∀(m:Nat) (es:List D),es.length=m*sz→(∀i,i<m→∃x,(es.drop (i*sz)).take sz=E x∧W x)→∃l:List X,es=l.flatMap E∧l.length=m∧∀x∈l,W x
 | 0,es,hl,_=>⟨[],by rw[Nat.zero_mul] at hl;exact qOI hl,rfl,by simp⟩
 | m+1,es,hl,h=>by
  obtain⟨x,hx,wx⟩:=h 0 (by omega)
  obtain⟨l,g1,g2,g3⟩:=qmc hz m (es.drop sz) (by rw[qPc,hl,Nat.add_mul];omega) fun i hi=>by
   obtain⟨y,hy,wy⟩:=h (i+1) (by omega)
   refine⟨y,?_,wy⟩
   rw[qPd,show sz+i*sz=(i+1)*sz by rw[Nat.add_mul,Nat.one_mul,Nat.add_comm]];exact hy
  refine⟨x::l,?_,by simp[g2],fun y hy=>?_⟩
  ·rw[Nat.zero_mul,List.drop_zero] at hx
   rw[qPu,←g1,←hx,qPe]
  ·rcases qOL.1 hy with rfl|hy
   ·exact wx
   ·exact g3 y hy
abbrev qGq:List TypeId:=[25,22,3,23]
theorem qsW:qJp Tryz.prog qGq=true:=by kernel_rfl
theorem ty3:∀(n:Nat) (ds:List D),q5O Tryz.prog n 3 ds→∃v:Int,ds=[D.int .i64 v]∧(Lit.int .i64 v).wf=true:=by
 intro n ds h
 cases n with
 | zero=>exact h.elim
 | succ n=>
  unfold q5O at h
  rw[Tryz.underlying3] at h
  obtain⟨z,h1,h2⟩:=h
  exact⟨z,h1,h2⟩
theorem cz3:Tryz.prog.cellsOf 3=1:=by kernel_rfl
theorem qK2:∀(n:Nat) (ds:List D),q5O Tryz.prog n 22 ds→∃v:List Int,ds=[D.sl 1 v.length (v.flatMap eI)]∧(v.length≤maxLen∧∀y∈v,(Lit.int .i64 y).wf=true):=by
 intro n ds h
 cases n with
 | zero=>exact h.elim
 | succ n=>
  unfold q5O at h
  rw[Tryz.underlying22] at h
  obtain⟨m,es,h1,h2,h3,h4⟩:=h
  rw[cz3] at h1 h3 h4
  obtain⟨l,g1,g2,g3⟩:=qmc (E:=eI) (W:=fun y=>(Lit.int .i64 y).wf=true) (sz:=1) (by decide) m es h3 fun i hi=>by
   obtain⟨v,q1,q2⟩:=ty3 n _ (h4 i hi)
   exact⟨v,q1.trans (rfl),q2⟩
  refine⟨l,?_,by omega,g3⟩
  rw[h1,g1,g2]
theorem ty23:∀(n:Nat) (ds:List D),q5O Tryz.prog n 23 ds→∃v:Int,ds=[D.int .u16 v]∧(Lit.int .u16 v).wf=true:=by
 intro n ds h
 cases n with
 | zero=>exact h.elim
 | succ n=>
  unfold q5O at h
  rw[Tryz.underlying23] at h
  obtain⟨z,h1,h2⟩:=h
  exact⟨z,h1,h2⟩
theorem qJd:Tryz.prog.cellsOf 22=1:=by kernel_rfl
theorem qNF:Tryz.prog.cellsOf 23=1:=by kernel_rfl
theorem qLm:Tryz.prog.cellsOf 25=3:=by kernel_rfl
def q6G (x:q0d):Prop:=(x.Programme.length≤maxLen∧∀y∈x.Programme,(Lit.int .i64 y).wf=true)∧(x.Had.length≤maxLen∧∀y∈x.Had,(Lit.int .i64 y).wf=true)∧(Lit.int .u16 x.Day).wf=true
theorem ty25:∀(n:Nat) (ds:List D),q5O Tryz.prog n 25 ds→∃v:q0d,ds=[D.sl 1 v.Programme.length (v.Programme.flatMap eI),D.sl 1 v.Had.length (v.Had.flatMap eI),D.int .u16 v.Day]∧q6G v:=by
 intro n ds h
 cases n with
 | zero=>exact h.elim
 | succ n=>
  unfold q5O at h
  rw[Tryz.underlying25] at h
  obtain⟨hl,hf⟩:=h
  rw[qLm] at hl
  have h0:q5O Tryz.prog n 22 ((ds.drop 0).take (Tryz.prog.cellsOf 22)):=hf _ (qOq (i:=0) rfl)
  rw[qJd] at h0
  obtain⟨v0,e0,w0⟩:=qK2 _ _ h0
  have c0:=qo5 ds 0 1
  rw[e0] at c0
  have h1:q5O Tryz.prog n 22 ((ds.drop 1).take (Tryz.prog.cellsOf 22)):=hf _ (qOq (i:=1) rfl)
  rw[qJd] at h1
  obtain⟨v1,e1,w1⟩:=qK2 _ _ h1
  have c1:=qo5 ds 1 1
  rw[e1] at c1
  have h2:q5O Tryz.prog n 23 ((ds.drop 2).take (Tryz.prog.cellsOf 23)):=hf _ (qOq (i:=2) rfl)
  rw[qNF] at h2
  obtain⟨v2,e2,w2⟩:=ty23 _ _ h2
  have c2:=qo5 ds 2 1
  rw[e2] at c2
  have cl:ds.drop 3=[]:=qP6 (by omega)
  refine⟨⟨v0,v1,v2⟩,?_,⟨w0,w1,w2⟩⟩
  have c:ds.drop 0=_:=c0
  simp only[Nat.reduceAdd] at c0 c1 c2 c
  rw[c1,c2,cl] at c
  exact c
end
noncomputable section
open Go.RowKit
theorem qsP {x:Int} (h:(Lit.int .u16 x).wf=true):0≤x∧x≤65535:=by
 unfold Lit.wf at h
 rw[qOV,qPp,qPp] at h
 exact h
structure C14 (c:q0d) (p:qf) (l:List qa) (day:Int):Prop where
 pg:qrI p
 len:l.length≤7
 ach:∀a∈l,qcT a
 d0:0≤day
 d1:day<800
theorem qoB {c:q0d} (w:q6G c):∃p l day,q09 c=some (p,l,day)∧C14 c p l day:=by
 obtain⟨w1,w2,w3⟩:=w
 have hm:maxLen≤9223372036854775807:=by unfold maxLen;decide
 have hd:=qsP w3
 obtain⟨p,e1,hp⟩:=qu9 c.Programme (by omega)
 obtain⟨l1,e2,hl1,ha1⟩:=qmY c.Had (by omega)
 obtain⟨l2,e3,hl2,ha2⟩:=qoq hp.need c.Had (by omega)
 have hday:w64 c.Day=c.Day:=QF (by omega) (by omega)
 have h0:0≤Int.tmod (w64 c.Day) 800:=Int.tmod_nonneg _ (by omega)
 have h1:Int.tmod (w64 c.Day) 800<800:=Int.tmod_lt_of_pos _ (by omega)
 unfold q09
 rw[e1,qOp,e2,qOp]
 by_cases hc:(Int.tmod c.Day 2==0)=true
 ·rw[if_pos hc,e3,qOp]
  exact⟨_,_,_,rfl,hp,hl2,ha2,h0,h1⟩
 ·rw[if_neg hc]
  exact⟨_,_,_,rfl,hp,hl1,ha1,h0,h1⟩
theorem C14.grd {c:q0d} {p:qf} {l:List qa} {day:Int} (h:C14 c p l day):Grd p l:=by
 refine⟨⟨⟨by have:=h.pg.need.hg;omega,by have h2:=h.pg.need.l2;have h4:=h.pg.need.nd;omega,qen h.pg.need.ok⟩,?_⟩,?_,fun b hb=>?_⟩
 ·have h1:=qdK h.pg.need
  rw[q9n p.Need (by have:=h.pg.need.hg;omega) (by have h2:=h.pg.need.l2;have h4:=h.pg.need.nd;omega) (qen h.pg.need.ok)] at h1
  injection h1
 ·rcases h.pg.ex with e|⟨a,b,e,-⟩<;>rw[e]
  ·exact qOP _
  ·show 1≤1000;omega
 ·have:=h.ach b hb
  exact⟨by rw[this.src];omega,by have:=this.pth;omega⟩
theorem C14.ck {c:q0d} {p:qf} {l:List qa} {day:Int} (h:C14 c p l day):Qe p scP=some 0:=qec h.pg (by decide)
theorem qmG {p:qf} {a:qa} {day:Int} (hd:0≤day∧day≤1000) (ha:0≤a.Day∧a.Day≤1000):qdJ p a day=(decide (0<p.Age)&&decide (p.Age<w64 (w64 (Int.tdiv day 100)-w64 (Int.tdiv a.Day 100)))):=by
 have ht:∀d:Int,0≤d∧d≤1000→q1a d=some (w64 (Int.tdiv d 100)):=fun d hd=>by
  have e1:=Int.tmod_lt_of_pos d (show(0:Int)<100 by omega)
  have e2:0≤Int.tmod d 100:=Int.tmod_nonneg _ hd.1
  have e3:w64 (Int.tmod d 100+100)=Int.tmod d 100+100:=QF (by omega) (by omega)
  have e4:Int.tmod (Int.tmod d 100+100) 100=Int.tmod d 100:=by
   rw[Int.tmod_eq_emod_of_nonneg (by omega),Int.tmod_eq_emod_of_nonneg hd.1];omega
  have e5:w64 (d-Int.tmod d 100)=d-Int.tmod d 100:=QF (by omega) (by omega)
  have e6:Int.tdiv (d-Int.tmod d 100) 100=Int.tdiv d 100:=by
   rw[Int.tmod_eq_emod_of_nonneg hd.1,Int.tdiv_eq_ediv_of_nonneg (by omega),Int.tdiv_eq_ediv_of_nonneg hd.1];omega
  unfold q1a q0m
  rw[if_neg (by omega),if_neg (by decide),if_neg (by decide),if_neg (by decide),e3,e4,e5,e6,qOp]
 unfold qdJ Za
 rw[ht day hd,ht a.Day ha]
 by_cases h:0<p.Age
 ·rw[if_pos h,qPq h,qOW];rfl
 ·rw[if_neg h,decide_eq_false h,qPs];rfl
end
noncomputable section
open Go.RowKit
set_option maxRecDepth 20000
set_option maxHeartbeats 8000000
theorem lo8:okL 8 qxP:=qW (qk bd8) (by kernel_rfl) (by kernel_rfl)
def cx8:=JA_ @qxP.eq_1 (JA_ @Tryz.f8.eq_1 @bd8)
def q0K (x0:q0d) (x1:Int):Option Bool:=Option.bind q1H fun(a:Bool)=>Option.bind (q09 x0) fun(a2:Prod qf (Prod (List qa) Int))=>if w64 (a2.2.2+1)=0 then none else Option.bind (zH a2.1 (qT 1) a2.2.1 a2.2.2) fun(a3:Prod qI Int)=>Option.bind (zH a2.1 (qT 1) a2.2.1 (w64 (a2.2.2-Int.tmod (w64 x1) (w64 (a2.2.2+1))))) fun(a4:Prod qI Int)=>if(a2.1.Age==0)=Bool.true then if(a3.2 != a4.2)=Bool.true then some Bool.false else Option.bind (q2a a3.1 a4.1) fun(a5:Bool)=>if(!a5)=Bool.true then some Bool.false else if(a3.2==0)=Bool.true then if(a4.2 != 0)=Bool.true then some Bool.false else Option.bind (qL a2.1 (qT 1) a2.2.1 (w64 (a2.2.2-Int.tmod (w64 x1) (w64 (a2.2.2+1)))) a3.1) fun(a6:Int)=>if(a6 != 0)=Bool.true then some Bool.false else if((a3.1.Taken.length:Nat):Int)<((a4.1.Taken.length:Nat):Int) then some Bool.false else Option.bind (zH (qf.mk a2.1.School a2.1.Id a2.1.Version a2.1.From a2.1.Name a2.1.Need a2.1.Total a2.1.Own 0 a2.1.Exclude) (qT 1) a2.2.1 a2.2.2) fun(a7:Prod qI Int)=>if a=Bool.true then if(a3.2 != 0)=Bool.true then some Bool.true else some (a7.2==0) else some Bool.false else Option.bind (zH (qf.mk a2.1.School a2.1.Id a2.1.Version a2.1.From a2.1.Name a2.1.Need a2.1.Total a2.1.Own 0 a2.1.Exclude) (qT 1) a2.2.1 a2.2.2) fun(a8:Prod qI Int)=>if a=Bool.true then if(a3.2 != 0)=Bool.true then some Bool.true else some (a8.2==0) else some Bool.false else if(a3.2==0)=Bool.true then if(a4.2 != 0)=Bool.true then some Bool.false else Option.bind (qL a2.1 (qT 1) a2.2.1 (w64 (a2.2.2-Int.tmod (w64 x1) (w64 (a2.2.2+1)))) a3.1) fun(a9:Int)=>if(a9 != 0)=Bool.true then some Bool.false else if((a3.1.Taken.length:Nat):Int)<((a4.1.Taken.length:Nat):Int) then some Bool.false else Option.bind (zH (qf.mk a2.1.School a2.1.Id a2.1.Version a2.1.From a2.1.Name a2.1.Need a2.1.Total a2.1.Own 0 a2.1.Exclude) (qT 1) a2.2.1 a2.2.2) fun(a10:Prod qI Int)=>if a=Bool.true then if(a3.2 != 0)=Bool.true then some Bool.true else some (a10.2==0) else some Bool.false else Option.bind (zH (qf.mk a2.1.School a2.1.Id a2.1.Version a2.1.From a2.1.Name a2.1.Need a2.1.Total a2.1.Own 0 a2.1.Exclude) (qT 1) a2.2.1 a2.2.2) fun(a11:Prod qI Int)=>if a=Bool.true then if(a3.2 != 0)=Bool.true then some Bool.true else some (a11.2==0) else some Bool.false
theorem q6C:∀(q7v qpM:List Int) (qpN x1:Int),ev 8 0 [R.agg [dL 1 eI q7v,dL 1 eI qpM,C.d (D.int .u16 qpN)],R.c (C.d (D.int .u16 x1))] []=(q0K (q0d.mk q7v qpM qpN) x1).bind (fun(e:Bool)=>some (rB e,[])):=
 fun q7v qpM qpN x1=>by
  rw[qS bd8 pw8.2.2.2 lo8]
  have:=cx8;have:=@qaN;have:=@q7P;have:=@q5R;have:=@q4y;have:=@q6L;have:=@q5l;have:=@q0K.eq_1;exact gA
end

noncomputable section
open Go.RowKit
theorem qs3 {p:qf} {a:qa} {day b:Int} (hd:0≤day∧day≤1000) (hb:0≤b∧b≤day) (ha:0≤a.Day∧a.Day≤1000) (h:qdJ p a day=false):qdJ p a b=false:=by
 rw[qmG hd ha] at h
 rw[qmG ⟨hb.1,by omega⟩ ha]
 have hw:∀x:Int,0≤x∧x≤1000→w64 (Int.tdiv x 100)=x / 100:=fun x hx=>by
  rw[Int.tdiv_eq_ediv_of_nonneg hx.1];exact QF (by omega) (by omega)
 rw[hw day hd,hw a.Day ha,QF (by omega) (by omega)] at h
 rw[hw b ⟨hb.1,by omega⟩,hw a.Day ha,QF (by omega) (by omega)]
 rw[Bool.and_eq_false_iff,decide_eq_false_iff_not,decide_eq_false_iff_not] at *
 rcases h with h|h
 ·exact .inl h
 ·right
  have:b / 100≤day / 100:=by omega
  omega
theorem qGU {p:qf} (hp:p.Age=0) (a:qa) (d:Int):qdJ p a d=false:=by
 unfold qdJ Za
 rw[if_neg (by omega)];rfl
theorem qtr {p q:qf} {d b:Int} (hx:q.Exclude=p.Exclude):∀(r done:List qa),(∀a∈r,qdJ p a d=false→qdJ q a b=false)→tgL p d done r=true→tgL q b done r=true
 | [],_,_,_=>rfl
 | a::r,done,ho,h=>by
  rw[tgL,qOV,qOV,Bool.not_eq_true'] at h ⊢
  refine⟨⟨ho a qOE h.1.1,?_⟩,qtr hx r _ (fun x hx'=>ho x (qOx _ hx')) h.2⟩
  rw[←h.1.2]
  refine congrArg (fun f=>done.all f) (funext fun y=>?_)
  unfold qg7
  rw[hx]
theorem q8O.to {p q:qf} {s:qg} {l:List qa} {d b:Int} {u:qI} (h:q8O p s l d u) (hx:q.Exclude=p.Exclude) (hn:q.Need=p.Need) (ht:q.Total=p.Total) (ho:q.Own=p.Own) (hs:q.School=p.School) (hold:∀a∈l,qdJ p a d=false→qdJ q a b=false):q8O q s l b u:=by
 refine⟨h.inc,h.len,?_,by rw[hn];exact h.rng,by rw[hn];exact h.met⟩
 have h1:=h.tog
 unfold qdw at h1 ⊢
 rw[qOV,qOV] at h1 ⊢
 have hw:qtu q=qtu p:=by funext o a;unfold qtu;rw[hs]
 rw[ht,ho,hw]
 refine⟨⟨qtr hx _ _ (fun a ha=>hold a ?_) h1.1.1,h1.1.2⟩,h1.2⟩
 obtain⟨y,-,hy⟩:=List.mem_filterMap.1 ha
 exact qOq hy
theorem qrI.age0 {p:qf} (h:qrI p):qrI (qf.mk p.School p.Id p.Version p.From p.Name p.Need p.Total p.Own 0 p.Exclude):=⟨h.sch,h.id,h.ver,h.frm,h.nam,h.tot,h.own,by show(0:Int)∈agL;simp[agL],h.need,h.ex⟩
theorem qcE (c:q0d) (w:q6G c) (x:Int) (wx:(Lit.int .u16 x).wf=true):q0K c x=some true:=by
 obtain⟨p,l,day,e1,h⟩:=qoB w
 have hl:=h.len
 have hd0:=h.d0
 have hd1:=h.d1
 have hx:=qsP wx
 have wd:w64 (day+1)=day+1:=QF (by omega) (by omega)
 have wx1:w64 x=x:=QF (by omega) (by omega)
 have t0:0≤Int.tmod x (day+1):=Int.tmod_nonneg _ hx.1
 have t1:Int.tmod x (day+1)<day+1:=Int.tmod_lt_of_pos x (by omega)
 obtain⟨b,hb⟩:∃b,b=day-Int.tmod x (day+1):=⟨_,rfl⟩
 have wb:w64 (day-Int.tmod x (day+1))=b:=by rw[hb];exact QF (by omega) (by omega)
 have hb0:0≤b∧b≤day:=by omega
 have hmono:∀u,q8O p scP l day u→q8O p scP l b u:=fun u hu=>hu.to rfl rfl rfl rfl rfl fun a ha=>qs3 ⟨hd0,by omega⟩ hb0 ⟨(h.ach a ha).day.1,by have:=(h.ach a ha).day.2;omega⟩
 obtain⟨q,hq⟩:∃q,q=qf.mk p.School p.Id p.Version p.From p.Name p.Need p.Total p.Own 0 p.Exclude:=⟨_,rfl⟩
 have hqa:q.Age=0:=by rw[hq]
 have hzero:∀u,q8O p scP l day u→q8O q scP l day u:=fun u hu=>hu.to (by rw[hq]) (by rw[hq]) (by rw[hq]) (by rw[hq]) (by rw[hq]) fun a _ _=>qGU hqa a day
 have hqg:Grd q l:=by have:=h.grd;rw[hq];exact⟨this.rgt,this.exc,this.fit⟩
 have hqk:Qe q scP=some 0:=by rw[hq];exact qec h.pg.age0 (by decide)
 have D1:=qim h.grd (by omega) scP h.ck day
 have D2:=qim h.grd (by omega) scP h.ck b
 have D3:=qim hqg (by omega) scP hqk day
 unfold q0K
 rw[qhV,qOp,e1,qOp]
 dsimp only
 rw[wd,wx1,wb,←hq,if_neg (by omega),qji]
 rcases D1 with ⟨g1,n1⟩|⟨u,g1,u1,m1⟩
 ·obtain⟨z,g3⟩:∃z,zH q scP l day=some z:=by
   rcases D3 with ⟨g3,-⟩|⟨v,g3,-,-⟩<;>exact⟨_,g3⟩
  obtain⟨y,g2,hy⟩:∃y,zH p scP l b=some y∧(p.Age=0→y=(⟨[],[]⟩,31)):=by
   rcases D2 with ⟨g2,-⟩|⟨v,g2,u2,-⟩
   ·exact⟨_,g2,fun _=>rfl⟩
   ·refine⟨_,g2,fun ha=>absurd (u2.to rfl rfl rfl rfl rfl fun a _ _=>qGU ha a day) (n1 v)⟩
  rw[g1,qOp,g2,qOp,g3,qOp]
  by_cases ha:p.Age=0
  ·rw[if_pos (by simpa using ha),hy ha]
   dsimp only
   rw[if_neg (by decide),qcJ _ (by decide) (by decide),qOp,if_neg (by decide),if_neg (by decide),if_pos rfl,if_pos (by decide)]
  ·rw[if_neg (by simpa using ha)]
   dsimp only
   rw[if_neg (by decide),if_pos rfl,if_pos (by decide)]
 ·have hT:u.Taken.length≤10∧u.Leaf.length≤10:=by
   obtain⟨Y,h1,h2,h3,h4⟩:=u1.mask
   have h5:=q3H (q5g l.length (mO p day l)) Y.testBit
   have h6:=q4r l.length (mO p day l)
   have h7:=qcY (mO p day l) l.length
   have h8:=u1.len
   rw[h2] at h8 ⊢
   omega
  have hchk:=quO h.grd (by omega) scP h.ck b (hmono u u1)
  rcases D2 with ⟨g2,n2⟩|⟨v,g2,u2,m2⟩
  ·exact absurd (hmono u u1) (n2 u)
  ·have hvl:=qw3 (m2 u (hmono u u1))
   rcases D3 with ⟨g3,n3⟩|⟨z,g3,-,-⟩
   ·exact absurd (hzero u u1) (n3 u)
   ·rw[g1,qOp,g2,qOp,g3,hchk]
    dsimp only
    simp only[qOp]
    have tail:(if((u.Taken.length:Nat):Int)<((v.Taken.length:Nat):Int) then some false else if true=true then if((0:Int) != 0)=true then some true else some ((0:Int)==0) else some false)=some true:=by
     rw[if_neg (by omega)];rfl
    by_cases ha:p.Age=0
    ·have huv:u=v:=qqj (m1 v (u2.to rfl rfl rfl rfl rfl fun a _ _=>qGU ha a day)) (m2 u (hmono u u1))
     subst huv
     rw[if_pos (by simpa using ha),if_neg (by decide),qcJ u (by omega) (by omega),qOp,if_neg (by decide),if_pos (by decide),if_neg (by decide),if_neg (by decide)]
     exact tail
    ·rw[if_neg (by simpa using ha),if_pos (by decide),if_neg (by decide),if_neg (by decide)]
     exact tail
end
end Go.Proofs.YtojflbfdcpkedaaGreat.Vc
namespace Go.Proofs.YtojflbfdcpkedaaGreat
open Go.Proofs.YtojflbfdcpkedaaGreat.Vc (qOx qOy qOB qOE qOK)
open Go.ChangeShapes Go.WideShapes Go.ChangeAt Go.RowKit Go.ChangeMaps
theorem own:ownKnob Tryz.prog.godebug=none:=by kernel_rfl
theorem qtH:laidOutB Tryz.prog=true:=by kernel_rfl
section
variable {H:Type} {enc:TypeId×Value→H} {P:Program} {W W':World}
theorem qfW (hl:laidOutB P=true) (hb:Below W.heap.size W W'):∀{ts:List TypeId} {vs:List Value} {ds:List (DataW H)} {ps:List MemPlace},(∀t∈ts,P.readableRec t=true∧t<P.types.size)→
  DataW.TrodAll enc P W 0 (fun _=>true) true ts vs ds ps→(∀p∈ps,p.block<W.heap.size)→DataW.TrodAll enc P W' 0 (fun b=>decide (b<W.heap.size)) true ts vs ds ps
 | [],_,_,_,_,h,_=>by
  obtain⟨rfl,rfl,rfl⟩:=trodAll_nil h
  exact trodAll_mk0
 | t::ts,_,_,_,ht,h,hlt=>by
  obtain⟨v,vs,d,ds,p,q,rfl,rfl,rfl,h1,h2⟩:=trodAll_cons h
  exact trodAll_cons_mk (Below.trod hl (ht t qOE).1 (ht t qOE).2 h1 hb (fun x hx=>hlt x (qOB _ hx)))
   (qfW hl hb (fun u hu=>ht u (qOx _ hu)) h2 (fun x hx=>hlt x (qOy _ hx)))
theorem qrQ {f:Func} {s:ChangeSpec} {apart fresh handsOn:Bool} {args:Array Value} {ds gs:List (DataW H)} {before:List MemPlace} {tb:TypeId} (hl:laidOutB P=true)
  (hts:∀t∈f.params.toList,P.readableRec t=true∧t<P.types.size) (hr:f.resultTypes=#[tb]) (htb:P.underlying tb=some .bool) (hv:s.vars=[])
  (h1:(s.fn H (ds++gs)).results=[.lit (.bool true)]) (h2:(s.fn H (ds++gs)).args=ds) (h3:(s.fn H (ds++gs)).vars=[])
  (hW:DataW.Whole enc P f.params.toList s.vars apart W args.toList ds gs before) (hb:Below W.heap.size W W') :
  s.post enc P f apart fresh handsOn false W args (.bool true) W':=by
 have hlt:∀p∈before,p.block<W.heap.size:=fun p hp=>hW.lt p hp
 have hW2:=hW
 obtain⟨pa,pv,hA,hV,hp,-,-⟩:=hW2
 rw[hv] at hV
 obtain⟨rfl,rfl⟩:=trodVars_none hV
 rw[qOK] at hp
 subst hp
 refine⟨ds,[],before,[],before,[],hW,?_,?_,?_,?_,fun h=>by cases h⟩
 ·rw[h1,hr]
  exact trodAll_mk1 (shut_bool htb true)
 ·rw[h2]
  exact qfW hl hb hts hA hlt
 ·rw[h3,hv]
  exact hV
 ·exact World.keptBut_mono (fun p hp=>⟨hp,.inr (.inl hp)⟩) (hb.frame (·∈before))
end
end Go.Proofs.YtojflbfdcpkedaaGreat
namespace Go.Proofs.YtojflbfdcpkedaaGreat.Vc
end Go.Proofs.YtojflbfdcpkedaaGreat.Vc
