/- Part 6 of a proof. -/
import Derived.Test.YtgejdfnidjnjcaaGreatM5
import Derived.KernelRfl
import Derived.Test.YtgejdfnidjnjcaaGreatRows
import Derived.ChangeSlices
import Derived.OpenShut
import Derived.Carry
import Derived.ChangeSame
import Derived.ChangeMaps5
import Derived.WideShapes
import Derived.ProofKit
import Derived.Deep.DeepHandedRow
import Derived.Lib.LaidTab
import Derived.Stop.LaidErr
set_option linter.unusedVariables false
set_option linter.unusedSimpArgs false
set_option linter.defProp false
set_option linter.unusedSectionVars false
set_option linter.unnecessarySimpa false
namespace Go.Proofs.YtgejdfnidjnjcaaGreat.Vc
open Go.RowKit
set_option linter.unusedVariables false
set_option linter.unusedSimpArgs false
def mkS (p:Nat→Bool):Nat→Nat
 | 0=>0
 | n+1=>mkS p n ||| (if p n=true then 2 ^ n else 0)
theorem qiM (p:Nat→Bool):∀(n k:Nat),(mkS p n).testBit k=(decide (k<n)&&p k)
 | 0,k=>by simp[mkS]
 | n+1,k=>by
  rw[mkS,Nat.testBit_or,qiM p n k]
  by_cases e:k=n
  ·subst e
   by_cases hp:p k=true
   ·rw[if_pos hp,Nat.testBit_two_pow];simp[hp]
   ·rw[if_neg hp];simp[Bool.eq_false_iff.2 hp]
  ·have h1:(if p n=true then 2 ^ n else 0).testBit k=false:=by
    split
    ·rw[Nat.testBit_two_pow];exact decide_eq_false (fun h=>e h.symm)
    ·exact Nat.zero_testBit k
   rw[h1,Bool.or_false]
   have:decide (k<n+1)=decide (k<n):=by
    by_cases h:k<n
    ·rw[decide_eq_true h,decide_eq_true (by omega)]
    ·rw[decide_eq_false h,decide_eq_false (by omega)]
   rw[this]
theorem qho (leaf:Int) (set:Nat):∀(d:List Int) (i:Nat),alG leaf set d i=true↔∀(k:Nat) (x:Int),d[k]?=some x→(set.testBit (i+k)=true↔x=leaf)
 | [],i=>by simp[alG]
 | y::d,i=>by
  rw[alG,Bool.and_eq_true,qho leaf set d (i+1),beq_iff_eq]
  constructor
  ·intro h k x hx
   cases k with
   | zero =>
    simp only[List.getElem?_cons_zero,Option.some.injEq] at hx
    subst hx
    rw[Nat.add_zero,h.1,beq_iff_eq]
   | succ k =>
    rw[List.getElem?_cons_succ] at hx
    have:=h.2 k x hx
    rwa [Nat.add_right_comm,Nat.add_assoc] at this
  ·intro h
   refine⟨?_,fun k x hx=>?_⟩
   ·have:=h 0 y (by simp)
    rw[Nat.add_zero] at this
    by_cases e:y=leaf
    ·rw[this.2 e,beq_iff_eq.2 e]
    ·rw[beq_eq_false_iff_ne.2 e];exact Bool.eq_false_iff.2 fun h2=>e (this.1 h2)
   ·have:=h (k+1) x (by rw[List.getElem?_cons_succ];exact hx)
    rwa [show i+1+k=i+(k+1) from by omega]
theorem qnX (d:List Int) (leaf set:Nat):alF d leaf set=true↔∀(k:Nat) (x:Int),d[k]?=some x→(set.testBit k=true↔x=(leaf:Int)):=by
 unfold alF
 rw[qho]
 simp only[Nat.zero_add]
theorem qif (d:List Int) (a b:Nat):foF d a b=true↔∃(k:Nat) (x:Int),d[k]?=some x∧(a:Int)≤x∧x<(b:Int):=by
 unfold foF
 rw[List.any_eq_true]
 constructor
 ·rintro⟨x,hx,h⟩
  obtain⟨k,hk⟩:=List.mem_iff_getElem?.1 hx
  rw[Bool.and_eq_true,decide_eq_true_eq,decide_eq_true_eq] at h
  exact⟨k,x,hk,h⟩
 ·rintro⟨k,x,hk,h⟩
  exact⟨x,List.mem_iff_getElem?.2 ⟨k,hk⟩,by rw[Bool.and_eq_true,decide_eq_true_eq,decide_eq_true_eq];exact h⟩
structure Asg (d:List Int) (a:Nat→Int) (lo w set:Nat):Prop where
 inn:∀k,set.testBit k=true→(lo:Int)≤a k∧a k<((lo+w:Nat):Int)
 out:∀k,set.testBit k=false→a k = -1
 com:∀k y,d[k]?=some y→∀x:Int,(lo:Int)≤x→x<((lo+w:Nat):Int)→(y=x↔a k=x)
theorem Asg.bit {d:List Int} {a:Nat→Int} {lo w set:Nat} (h:Asg d a lo w set) (k:Nat) (h1:(lo:Int)≤a k):set.testBit k=true:=by
 by_cases e:set.testBit k=true
 ·exact e
 ·have:=h.out k (Bool.eq_false_iff.2 e)
  omega
theorem q7a (s:qf) (l:List qa) (a b:Nat→Int) (al:Bool):∀(L:List qb) (nx:Nat),(∀k,k<l.length→∀x:Int,(nx:Int)≤x→x<((nx+lvL L:Nat):Int)→(a k=x↔b k=x))→q16 s l a al L nx=q16 s l b al L nx
 | [],nx,_=>by rw[q16,q16]
 | x::L,nx,h=>by
  rw[lvL] at h
  rw[q16,q16,q5T s l a b x nx (fun k hk y hy hy2=>h k hk y hy (by omega)),q7a s l a b al L (nx+lvN x) (fun k hk y hy hy2=>h k hk y (by omega) (by omega))]
theorem qe3 (s:qf) (l:List qa) (a:Nat→Int):∀(L:List qb) (nx:Nat),(q16 s l a true L nx).2.2=false→(q16 s l a true L nx).2.1=L.length
 | [],nx,_=>by rw[q16];rfl
 | x::L,nx,h=>by
  rw[q16] at h ⊢
  simp only at h ⊢
  rw[Bool.or_eq_false_iff] at h
  have hx:(q2v s l a x nx).2=true:=by
   have:=h.1
   rw[Bool.or_true,Bool.and_true] at this
   simpa using this
  rw[if_pos hx,qe3 s l a L _ h.2,List.length_cons]
  omega
theorem qcp (set:Nat):Zi set 0=set:=Nat.eq_of_testBit_eq fun i=>by rw[zr];simp
theorem q9H {t s:Nat} (h:t &&& s=t) {k:Nat} (hk:t.testBit k=true):s.testBit k=true:=by
 rw[←h,Nat.testBit_and,Bool.and_eq_true] at hk
 exact hk.2
theorem qeQ {t s:Nat} (h:∀k,t.testBit k=true→s.testBit k=true):t &&& s=t:=Nat.eq_of_testBit_eq fun i=>by
 rw[Nat.testBit_and]
 by_cases e:t.testBit i=true
 ·rw[e,h i e];rfl
 ·rw[Bool.eq_false_iff.2 e];rfl
theorem qlm (d:List Int) (s:qf) (l:List qa) (n:qb) (hk:n.Kind=1∨n.Kind=2) (nx set:Nat) (hlt:set<2 ^ l.length) (hl:l.length≤62) :
  Qd d s l n nx set=true↔∃a,Asg d a nx 1 set∧q9Z n (qeH n s l (fun j=>a j==(nx:Int)))=true:=by
 have key:∀a,Asg d a nx 1 set→qeH n s l (fun j=>a j==(nx:Int))=wgF n s set l 0 ld0:=fun a ha=>by
  rw[qbq]
  unfold qeH
  rw[q7u (p:=fun j=>a j==(nx:Int)) (q:=fun j=>set.testBit (0+j)) fun j hj=>?_]
  rw[Nat.zero_add]
  by_cases e:set.testBit j=true
  ·have:=ha.inn j e
   rw[e,beq_iff_eq]
   omega
  ·rw[Bool.eq_false_iff.2 e,ha.out j (Bool.eq_false_iff.2 e)]
   exact beq_eq_false_iff_ne.2 (by omega)
 unfold Qd
 rw[Bool.and_eq_true,Bool.and_eq_true,decide_eq_true_eq,qnX]
 constructor
 ·rintro⟨h0,h1,h2⟩
  have ha:Asg d (fun k=>if set.testBit k=true then(nx:Int) else -1) nx 1 set:={
   inn:=fun k hk=>by simp only[hk,if_true];omega
   out:=fun k hk=>by simp only[hk];rfl
   com:=fun k y hy x hx hx2=>by
    have e:x=nx:=by omega
    subst e
    rw[←h1 k y hy]
    show set.testBit k=true↔(if set.testBit k=true then(nx:Int) else -1)=(nx:Int)
    by_cases e:set.testBit k=true
    ·rw[if_pos e];exact⟨fun _=>rfl,fun _=>e⟩
    ·rw[if_neg e];exact⟨fun h=>absurd h e,fun h=>by omega⟩ }
  exact⟨_,ha,by rw[key _ ha];exact h2⟩
 ·rintro⟨a,ha,hm⟩
  rw[key a ha] at hm
  refine⟨fun e=>?_,fun k x hx=>?_,hm⟩
  ·have h3:q2R (fun j=>set.testBit (0+j)) l=[]:=List.eq_nil_of_length_eq_zero ((q8s _ _).2 fun k hk=>by rw[e];exact Nat.zero_testBit _)
   rw[qbq,h3] at hm
   unfold q9Z ld0 at hm
   simp only[List.foldl_nil] at hm
   split at hm<;>simp at hm
  ·constructor
   ·intro hb
    have:=ha.inn k hb
    exact(ha.com k x hx (nx:Int) (by omega) (by omega)).2 (by omega)
   ·intro e
    have:=(ha.com k x hx (nx:Int) (by omega) (by omega)).1 e
    exact ha.bit k (by omega)
theorem qqk (s:qf) (l:List qa) (hl:l.length≤62) (a:Nat→Int) (n:qb) (nx:Nat) (hf:∀y∈ndN n,q0H y) (h:∀k,¬((nx:Int)≤a k∧a k<((nx+lvN n:Nat):Int))):(q2v s l a n nx).1=true∧(q2v s l a n nx).2=false:=by
 have h1:=(q6h s l hl a n nx).2 fun k _=>h k
 refine⟨h1,Bool.eq_false_iff.2 fun e=>?_⟩
 rw[qdI s l a n nx hf e] at h1
 exact absurd h1 (by decide)
theorem q43 (d:List Int) (s:qf) (l:List qa) (hl:l.length≤62):∀(n:qb) (nx set:Nat),(∀y∈ndN n,q0H y)→set<2 ^ l.length →
  (qS d s l n nx set=true↔∃a,Asg d a nx (lvN n) set∧(q2v s l a n nx).2=true):=by
 intro n
 induction n using qb.rec (motive_2:=fun L=>∀(sk:Bool) (nx:Nat) (b:Nat→Int) (set:Nat),(∀y∈ndL L,q0H y)→set<2 ^ l.length →
   (0≤q4X d s l sk L nx b set→∃s1 a,s1 &&& set=s1∧0≤b s1∧Asg d a nx (lvL L) (Zi set s1)∧(q16 s l a (!sk) L nx).2.2=false∧q4X d s l sk L nx b set=b s1+((q16 s l a (!sk) L nx).2.1:Int)) ∧
   (∀s1 a,s1 &&& set=s1→0≤b s1→Asg d a nx (lvL L) (Zi set s1)→(q16 s l a (!sk) L nx).2.2=false→b s1+((q16 s l a (!sk) L nx).2.1:Int)≤q4X d s l sk L nx b set)) with
 | mk k n m S L ih =>
  intro nx set hf hlt
  have hn:=hf _ (qaU _)
  have hfL:∀y∈ndL L,q0H y:=fun y hy=>hf y (by rw[ndN];exact List.mem_cons_of_mem _ hy)
  rw[q9O,q2F]
  simp only[q5e]
  by_cases hk:k=1∨k=2
  ·rw[if_pos hk,if_pos hk]
   simp only[if_pos hk]
   exact qlm d s l _ hk nx set hlt hl
  ·rw[if_neg hk,if_neg hk]
   simp only[if_neg hk]
   have hk4:(!(k==4))=(k==3):=by
    rcases hn.kind with q|q|q|q<;>simp only at q<;>subst q<;>first|decide|exact absurd (by decide) hk
   obtain⟨i1,i2⟩:=ih (k==4) nx b0F set hfL hlt
   rw[hk4] at i1 i2
   rw[Bool.and_eq_true,decide_eq_true_eq,decide_eq_true_eq]
   constructor
   ·rintro⟨h0,h1⟩
    have hz:0≤q4X d s l (k==4) L nx b0F set:=by
     rcases hn.kind with q|q|q|q
     ·exact absurd (.inl q) hk
     ·exact absurd (.inr q) hk
     ·simp only at q
      rw[if_pos q] at h1
      omega
     ·have:=hn.some q
      simp only at q this
      rw[if_neg (by omega)] at h1
      omega
    obtain⟨s1,a,e1,e2,e3,e4,e5⟩:=i1 hz
    have hs1:s1=0:=by
     unfold b0F at e2
     by_cases e:s1=0
     ·exact e
     ·rw[if_neg e] at e2;omega
    subst hs1
    rw[qcp] at e3
    refine⟨a,e3,?_⟩
    rw[e4,Bool.not_false,Bool.true_and,decide_eq_true_eq]
    have hb0:b0F 0=0:=rfl
    rw[hb0] at e5
    by_cases q:k=3
    ·rw[if_pos q] at h1
     have:=(hn.all q).1
     simp only at this
     omega
    ·rw[if_neg q] at h1
     omega
   ·rintro⟨a,ha,hm⟩
    rw[Bool.and_eq_true,decide_eq_true_eq] at hm
    have hw:(q16 s l a (k==3) L nx).2.2=false:=by simpa using hm.1
    have hb0:b0F 0=0:=rfl
    have h2:=i2 0 a (Nat.zero_and _) (by rw[hb0];exact Int.le_refl _) (by rw[qcp];exact ha) hw
    rw[hb0] at h2
    have h3:(q2v s l a ⟨k,n,m,S,L⟩ nx).1=false:=qdI s l a _ nx hf (by rw[q5e,if_neg hk];simp only;rw[Bool.and_eq_true,decide_eq_true_eq];exact hm)
    refine⟨fun e=>?_,?_⟩
    ·have h4:(q2v s l a ⟨k,n,m,S,L⟩ nx).1=true:=(q6h s l hl a _ nx).2 fun j _ hj=>by
      have:=ha.bit j hj.1
      rw[e,Nat.zero_testBit] at this
      exact absurd this (by decide)
     rw[h3] at h4
     exact absurd h4 (by decide)
    ·by_cases q:k=3
     ·rw[if_pos q]
      have h5:(k==3)=true:=by rw[q];rfl
      rw[h5] at hw h2
      rw[qe3 s l a L nx hw] at h2
      omega
     ·rw[if_neg q]
      omega
 | nil =>
  rename_i sk nx b set hf hlt
  rw[lvL,q4X]
  refine⟨fun h=>⟨set,fun _ => -1,Nat.and_self _,h,⟨fun k hk=>?_,fun _ _=>rfl,fun k y hy x hx hx2=>by omega⟩,by rw[q16],by rw[q16];simp⟩,fun s1 a h1 h2 h3 h4=>?_⟩
  ·rw[zr] at hk
   cases h:set.testBit k<;>rw[h] at hk<;>simp at hk
  ·have:s1=set:=Nat.eq_of_testBit_eq fun i=>by
    by_cases e:(Zi set s1).testBit i=true
    ·have:=h3.inn i e
     omega
    ·rw[zr] at e
     by_cases e2:s1.testBit i=true
     ·rw[e2,q9H h1 e2]
     ·cases h:set.testBit i
      ·exact Bool.eq_false_iff.2 e2
      ·rw[h,Bool.eq_false_iff.2 e2] at e
       exact absurd rfl e
   subst this
   rw[q16]
   simp
 | cons x L h1 h2 =>
  rename_i sk nx b set hf hlt
  have hfx:∀y∈ndN x,q0H y:=fun y hy=>hf y (by rw[ndL];exact List.mem_append_left _ hy)
  have hfL:∀y∈ndL L,q0H y:=fun y hy=>hf y (by rw[ndL];exact List.mem_append_right _ hy)
  obtain⟨i1,i2⟩:=h2 sk (nx+lvN x) (stF (sk && !foF d nx (nx+lvN x)) (qS d s l x nx) b) set hfL hlt
  rw[lvL,q4X]
  simp only[q16]
  constructor
  ·intro h0
   obtain⟨s1,a1,e1,e2,e3,e4,e5⟩:=i1 h0
   have hI:=qhb (sk && !foF d nx (nx+lvN x)) (qS d s l x nx) b s1
   rcases hI.is with e|⟨t,t1,t2,t3,t4,e⟩
   ·have hsk:(sk && !foF d nx (nx+lvN x))=true:=by
     refine Classical.byContradiction fun hc=>?_
     rw[if_neg hc] at e
     omega
    rw[if_pos hsk] at e
    rw[Bool.and_eq_true] at hsk
    have hfo:¬ foF d nx (nx+lvN x)=true:=by simpa using hsk.2
    rw[qif] at hfo
    have hr:∀k,¬((nx:Int)≤a1 k∧a1 k<((nx+lvN x:Nat):Int)):=fun k hk=>by
     by_cases hb:(Zi set s1).testBit k=true
     ·have:=e3.inn k hb;omega
     ·have:=e3.out k (Bool.eq_false_iff.2 hb);omega
    obtain⟨v1,v2⟩:=qqk s l hl a1 x nx hfx hr
    refine⟨s1,a1,e1,by omega,⟨fun k hk=>by have:=e3.inn k hk;omega,e3.out,fun k y hy z hz hz2=>?_⟩,?_,?_⟩
    ·by_cases hz3:z<((nx+lvN x:Nat):Int)
     ·constructor
      ·intro e;subst e;exact absurd ⟨k,y,hy,hz,hz3⟩ hfo
      ·intro e;exact absurd ⟨by omega,by omega⟩ (hr k)
     ·exact e3.com k y hy z (by omega) (by omega)
    ·rw[v1,v2,e4,hsk.1];rfl
    ·rw[e5,e,v2];simp
   ·obtain⟨a2,ha2,hm2⟩:=(h1 nx t hfx (Nat.lt_of_le_of_lt (Nat.le_trans (by rw[←t2];exact Nat.and_le_right) (by rw[←e1];exact Nat.and_le_right)) hlt)).1 t3
    have hts:∀k,t.testBit k=true→s1.testBit k=true:=fun k hk=>q9H t2 hk
    have hss:∀k,s1.testBit k=true→set.testBit k=true:=fun k hk=>q9H e1 hk
    have hin:∀k,t.testBit k=true→(fun k=>if t.testBit k=true then a2 k else a1 k) k=a2 k:=fun k hk=>by show(if _ then _ else _)=_;rw[if_pos hk]
    have hnot:∀k,t.testBit k=false→(fun k=>if t.testBit k=true then a2 k else a1 k) k=a1 k:=fun k hk=>by show(if _ then _ else _)=_;rw[if_neg (by rw[hk];decide)]
    generalize (fun k=>if t.testBit k=true then a2 k else a1 k)=a at hin hnot
    have ht1:∀k,t.testBit k=true→a1 k = -1:=fun k hk=>e3.out k (by rw[zr,hts k hk];simp)
    have hu1:∀k,t.testBit k=false→a2 k = -1:=fun k hk=>ha2.out k hk
    have hc1:q2v s l a x nx=q2v s l a2 x nx:=q5T s l a a2 x nx fun k _ z hz hz2=>by
     cases hb:t.testBit k
     ·rw[hnot k hb,hu1 k hb]
      by_cases hb2:(Zi set s1).testBit k=true
      ·have:=e3.inn k hb2;omega
      ·have:=e3.out k (Bool.eq_false_iff.2 hb2);omega
     ·rw[hin k hb]
    have hc2:q16 s l a (!sk) L (nx+lvN x)=q16 s l a1 (!sk) L (nx+lvN x):=q7a s l a a1 (!sk) L (nx+lvN x) fun k _ z hz hz2=>by
     cases hb:t.testBit k
     ·rw[hnot k hb]
     ·rw[hin k hb,ht1 k hb]
      have:=ha2.inn k hb
      omega
    refine⟨Zi s1 t,a,?_,t4,⟨fun k hk=>?_,fun k hk=>?_,fun k y hy z hz hz2=>?_⟩,?_,?_⟩
    ·exact qeQ fun k hk=>hss k (by rw[zr,Bool.and_eq_true] at hk;exact hk.1)
    ·cases hb:t.testBit k
     ·rw[hnot k hb]
      have:(Zi set s1).testBit k=true:=by
       rw[zr,zr,hb] at hk
       rw[zr]
       simpa using hk
      have:=e3.inn k this
      omega
     ·rw[hin k hb]
      have:=ha2.inn k hb
      omega
    ·cases hb:t.testBit k
     ·rw[hnot k hb]
      refine e3.out k ?_
      rw[zr,zr,hb] at hk
      rw[zr]
      simpa using hk
     ·exfalso
      rw[zr,zr,hb,hss k (hts k hb)] at hk
      simp at hk
    ·by_cases hz3:z<((nx+lvN x:Nat):Int)
     ·rw[ha2.com k y hy z hz hz3]
      cases hb:t.testBit k
      ·rw[hnot k hb,hu1 k hb]
       by_cases hb2:(Zi set s1).testBit k=true
       ·have:=e3.inn k hb2;omega
       ·have:=e3.out k (Bool.eq_false_iff.2 hb2);omega
      ·rw[hin k hb]
     ·rw[e3.com k y hy z (by omega) (by omega)]
      cases hb:t.testBit k
      ·rw[hnot k hb]
      ·rw[hin k hb,ht1 k hb]
       have:=ha2.inn k hb
       omega
    ·rw[hc1,hc2,hm2,e4];rfl
    ·rw[e5,e,hc1,hc2,if_pos hm2];omega
  ·intro s1 a g1 g2 g3 g4
   rw[Bool.or_eq_false_iff] at g4
   obtain⟨g4,g5⟩:=g4
   have hss:∀k,s1.testBit k=true→set.testBit k=true:=fun k hk=>q9H g1 hk
   by_cases hm:(q2v s l a x nx).2=true
   ·have hlen:∀k,(nx:Int)≤a k→k<l.length:=fun k hk=>by
     have hb:=g3.bit k hk
     have:set.testBit k=true:=by rw[zr,Bool.and_eq_true] at hb;exact hb.1
     exact qjg hlt this
    obtain⟨t,tb⟩:∃t:Nat,∀k,t.testBit k=true↔((nx:Int)≤a k∧a k<((nx+lvN x:Nat):Int)):=⟨mkS (fun k=>decide ((nx:Int)≤a k)&&decide (a k<((nx+lvN x:Nat):Int))) l.length,fun k=>by
     rw[qiM,Bool.and_eq_true,Bool.and_eq_true,decide_eq_true_eq,decide_eq_true_eq,decide_eq_true_eq]
     exact⟨fun h=>h.2,fun h=>⟨hlen k h.1,h⟩⟩⟩
    have hdis:∀k,t.testBit k=true→set.testBit k=true∧s1.testBit k=false:=fun k hk=>by
     have hb:=g3.bit k ((tb k).1 hk).1
     rw[zr,Bool.and_eq_true] at hb
     exact⟨hb.1,by simpa using hb.2⟩
    obtain⟨a2,hin2,hnot2⟩:∃a2:Nat→Int,(∀k,t.testBit k=true→a2 k=a k)∧(∀k,t.testBit k=false→a2 k = -1):=⟨fun k=>if t.testBit k=true then a k else -1,fun k hk=>if_pos hk,fun k hk=>if_neg (by rw[hk];decide)⟩
    obtain⟨a1,hin1,hnot1⟩:∃a1:Nat→Int,(∀k,t.testBit k=true→a1 k = -1)∧(∀k,t.testBit k=false→a1 k=a k):=⟨fun k=>if t.testBit k=true then -1 else a k,fun k hk=>if_pos hk,fun k hk=>if_neg (by rw[hk];decide)⟩
    have hoff:∀k,t.testBit k=false→¬((nx:Int)≤a k∧a k<((nx+lvN x:Nat):Int)):=fun k hk h=>by
     rw[(tb k).2 h] at hk
     exact absurd hk (by decide)
    have hA2:Asg d a2 nx (lvN x) t:=⟨fun k hk=>by rw[hin2 k hk];exact(tb k).1 hk,hnot2,fun k y hy z hz hz2=>by
     rw[g3.com k y hy z hz (by omega)]
     cases hb:t.testBit k
     ·rw[hnot2 k hb]
      have:=hoff k hb
      omega
     ·rw[hin2 k hb]⟩
    have hc1:q2v s l a2 x nx=q2v s l a x nx:=q5T s l a2 a x nx fun k _ z hz hz2=>by
     cases hb:t.testBit k
     ·rw[hnot2 k hb]
      have:=hoff k hb
      omega
     ·rw[hin2 k hb]
    have hc2:q16 s l a1 (!sk) L (nx+lvN x)=q16 s l a (!sk) L (nx+lvN x):=q7a s l a1 a (!sk) L (nx+lvN x) fun k _ z hz hz2=>by
     cases hb:t.testBit k
     ·rw[hnot1 k hb]
     ·rw[hin1 k hb]
      have:=(tb k).1 hb
      omega
    have hown:qS d s l x nx t=true:=(h1 nx t hfx (Nat.lt_of_le_of_lt (Nat.le_trans (by rw[←qeQ (t:=t) (s:=set) fun k hk=>(hdis k hk).1];exact Nat.and_le_right) (Nat.le_refl _)) hlt)).2 ⟨a2,hA2,by rw[hc1];exact hm⟩
    have ht0:t≠0:=fun e=>by
     have h3:=qdI s l a x nx hfx hm
     have h4:=(q6h s l hl a x nx).2 fun k _ hk=>by
      have:=(tb k).2 hk
      rw[e,Nat.zero_testBit] at this
      exact absurd this (by decide)
     rw[h3] at h4
     exact absurd h4 (by decide)
    have hI:=qhb (sk && !foF d nx (nx+lvN x)) (qS d s l x nx) b (s1 ||| t)
    have hle:Zi (s1 ||| t) t=s1:=Nat.eq_of_testBit_eq fun k=>by
     rw[zr,Nat.testBit_or]
     cases hb:t.testBit k
     ·simp
     ·rw[(hdis k hb).2];rfl
    have hall:=hI.all t ht0 (qeQ fun k hk=>by rw[Nat.testBit_or,hk,Bool.or_true]) hown (by rw[hle];exact g2)
    rw[hle] at hall
    have:=i2 (s1 ||| t) a1 (qeQ fun k hk=>by
      rw[Nat.testBit_or,Bool.or_eq_true] at hk
      rcases hk with hk|hk
      ·exact hss k hk
      ·exact(hdis k hk).1) (by omega) ⟨fun k hk=>by
       rw[zr,Nat.testBit_or,Bool.and_eq_true] at hk
       have hb:t.testBit k=false:=by
        have:=hk.2
        cases h:t.testBit k
        ·rfl
        ·rw[h,Bool.or_true] at this;exact absurd this (by decide)
       have h5:=g3.inn k (by rw[zr,Bool.and_eq_true];refine⟨hk.1,?_⟩;have:=hk.2;rw[hb,Bool.or_false] at this;exact this)
       have h6:=hoff k hb
       rw[hnot1 k hb]
       omega,fun k hk=>by
       cases hb:t.testBit k
       ·rw[hnot1 k hb]
        refine g3.out k ?_
        rw[zr,Nat.testBit_or,hb,Bool.or_false] at hk
        rw[zr]
        exact hk
       ·exact hin1 k hb,fun k y hy z hz hz2=>by
       rw[g3.com k y hy z (by omega) (by omega)]
       cases hb:t.testBit k
       ·rw[hnot1 k hb]
       ·rw[hin1 k hb]
        have:=(tb k).1 hb
        omega⟩ (by rw[hc2];exact g5)
    rw[hc2] at this
    rw[if_pos hm]
    omega
   ·have hm':(q2v s l a x nx).2=false:=Bool.eq_false_iff.2 hm
    rw[hm',Bool.not_false,Bool.true_and,Bool.or_eq_false_iff] at g4
    have hem:(q2v s l a x nx).1=true:=by simpa using g4.1
    have hsk:sk=true:=by simpa using g4.2
    have hr:∀k,¬((nx:Int)≤a k∧a k<((nx+lvN x:Nat):Int)):=fun k hk=>by
     have hb:=g3.bit k hk.1
     have:set.testBit k=true:=by rw[zr,Bool.and_eq_true] at hb;exact hb.1
     have hkl:k<l.length:=qjg hlt this
     exact(q6h s l hl a x nx).1 hem k hkl hk
    have hfo:foF d nx (nx+lvN x)=false:=Bool.eq_false_iff.2 fun h=>by
     obtain⟨k,y,hy,h3,h4⟩:=(qif d nx (nx+lvN x)).1 h
     have:=(g3.com k y hy y h3 (by omega)).1 rfl
     exact hr k (by omega)
    have hI:=qhb (sk && !foF d nx (nx+lvN x)) (qS d s l x nx) b s1
    have hge:=hI.ge
    rw[hsk,hfo] at hge
    simp only[Bool.not_false,Bool.and_true,if_true] at hge
    have hge2:b s1≤stF (sk && !foF d nx (nx+lvN x)) (qS d s l x nx) b s1:=by rw[hsk,hfo];exact hge
    have:=i2 s1 a g1 (by omega) ⟨fun k hk=>by
      have h5:=g3.inn k hk
      have h6:=hr k
      omega,g3.out,fun k y hy z hz hz2=>g3.com k y hy z (by omega) (by omega)⟩ g5
    rw[hm']
    simp only[Bool.false_eq_true,if_false,Nat.zero_add]
    omega
end Go.Proofs.YtgejdfnidjnjcaaGreat.Vc
namespace Go.Proofs.YtgejdfnidjnjcaaGreat.Vc
open Go.RowKit
set_option linter.unusedVariables false
set_option linter.unusedSimpArgs false
structure q0z (n:qb) (l:List qa) (set:Nat):Prop where
 fit:∀y∈ndN n,q0H y
 nd:(ndN n).length≤9999
 st:∀y∈ndN n,y.Set.length≤1000000
 ll:l.length≤16
 lt:set<2 ^ l.length
theorem q0z.lt64 {n:qb} {l:List qa} {set:Nat} (h:q0z n l set):set<9223372036854775808:=by
 have h1:=h.lt
 have h2:(2:Nat) ^ l.length≤2 ^ 16:=Nat.pow_le_pow_right (by decide) h.ll
 have h3:(2:Nat) ^ 16=65536:=by decide
 omega
theorem q0z.lv {n:qb} {l:List qa} {set:Nat} (h:q0z n l set):lvN n≤9999:=Nat.le_trans (qa2 n) h.nd
theorem qix {n:qb} {l:List qa} {set:Nat} (h:q0z n l set) (s:qf) (d:List Int) (hd:d.length≤16):q0p n s l d=some (qQ (2 ^ l.length) (qS d s l n 0),d):=by
 have:=qiU d hd s l h.ll _ n (Nat.le_refl _) (by have:=h.nd;omega) h.st 0 (by have:=h.nd;omega)
 unfold q0p
 change Option.bind (qG (n,d,l,((0:Nat):Int),s)) _=_
 rw[this]
 rfl
theorem q2X {α:Type} {d:List α} {y z:α} {j:Nat} (h:(d++[y])[j]?=some z):d[j]?=some z∨(j=d.length∧z=y):=by
 by_cases hj:j<d.length
 ·rw[List.getElem?_append_left hj] at h
  exact .inl h
 ·rw[List.getElem?_append_right (by omega)] at h
  have:=ZF h
  rw[List.length_singleton] at this
  have e:j-d.length=0:=by omega
  rw[e] at h
  simp only[List.getElem?_cons_zero,Option.some.injEq] at h
  exact .inr ⟨by omega,h.symm⟩
theorem qkA {d:List Int} {a:Nat→Int} {w set:Nat} (h:Asg d a 0 w set):Asg (d++[a d.length]) a 0 w set:=⟨h.inn,h.out,fun k y hy x hx hx2=>by
 rcases q2X hy with e|⟨e1,e2⟩
 ·exact h.com k y e x hx hx2
 ·rw[e1,e2]⟩
theorem qhC {n:qb} {l:List qa} {set:Nat} (h:q0z n l set) (s:qf) (w4:List Int) (t49 t50:Int) (d:List Int) (hd:d.length+1≤16):∀(m x:Nat),x+m≤1000000 →
  (∃v:Nat,x≤v∧v≤x+m∧qS (d++[(v:Int)]) s l n 0 set=true) →
  ∃v:Nat,x≤v∧v≤x+m∧qS (d++[(v:Int)]) s l n 0 set=true∧(∀y:Nat,x≤y→y<v→qS (d++[(y:Int)]) s l n 0 set=false) ∧
   qq (ZB w4 n s l (set:Int) (d.length:Int) t49 t50) (d++[(x:Int)])=some (d++[(v:Int)]):=by
 have hstep:∀x:Nat,x≤1000000→ZB w4 n s l (set:Int) (d.length:Int) t49 t50 (d++[(x:Int)])=if qS (d++[(x:Int)]) s l n 0 set=true then some (.inr (d++[(x:Int)])) else some (.inl (d++[((x+1:Nat):Int)])):=by
  intro x hx
  have hlen:(d++[(x:Int)]).length=d.length+1:=by rw[List.length_append,List.length_singleton]
  have hg:(d++[(x:Int)])[d.length]?=some (x:Int):=by rw[List.getElem?_append_right (Nat.le_refl _),Nat.sub_self];rfl
  have hlt:=h.lt
  have hw:w64 ((x:Int)+1)=((x+1:Nat):Int):=zI (by omega) (by omega)
  have hset:(d++[(x:Int)]).set d.length ((x+1:Nat):Int)=d++[((x+1:Nat):Int)]:=by
   rw[List.set_append_right _ _ (Nat.le_refl _),Nat.sub_self]
   rfl
  unfold ZB
  simp only
  rw[qix h s _ (by omega),Option.bind_some]
  simp only
  rw[if_pos (by rw[qm];omega),Int.toNat_natCast,zY _ hlt,Option.bind_some]
  cases hs:qS (d++[(x:Int)]) s l n 0 set
  ·rw[if_pos (by decide),if_pos (by rw[hlen];omega),Int.toNat_natCast,hg,Option.bind_some,if_pos (by rw[hlen];omega),if_pos (by rw[hlen];omega),hw,hset]
   rfl
  ·rfl
 intro m
 induction m with
 | zero =>
  intro x hx hv
  obtain⟨v,h1,h2,h3⟩:=hv
  have e:v=x:=by omega
  subst e
  exact⟨v,Nat.le_refl _,by omega,h3,fun y _ _=>by omega,qz (by rw[hstep v (by omega),if_pos h3])⟩
 | succ m ih =>
  intro x hx hv
  by_cases hs:qS (d++[(x:Int)]) s l n 0 set=true
  ·exact⟨x,Nat.le_refl _,by omega,hs,fun y _ _=>by omega,qz (by rw[hstep x (by omega),if_pos hs])⟩
  ·obtain⟨v,h1,h2,h3⟩:=hv
   have hne:v≠x:=fun e=>hs (by rw[←e];exact h3)
   obtain⟨u,u1,u2,u3,u4,u5⟩:=ih (x+1) (by omega) ⟨v,by omega,by omega,h3⟩
   refine⟨u,by omega,by omega,u3,fun y hy hy2=>?_,?_⟩
   ·by_cases e:y=x
    ·subst e;exact Bool.eq_false_iff.2 hs
    ·exact u4 y (by omega) hy2
   ·rw[qL (by rw[hstep x (by omega),if_neg hs])]
    exact u5
structure q4Z (d:List Int) (s:qf) (l:List qa) (n:qb) (set:Nat):Prop where
 ok:qS d s l n 0 set=true
 val:∀(j:Nat) (y:Int),d[j]?=some y→if set.testBit j=true then 0≤y∧y<(lvN n:Int) else y = -1
 lst:∀(j:Nat) (x:Int),d[j]?=some x→set.testBit j=true→∀y:Nat,(y:Int)<x→qS (d.take j++[(y:Int)]) s l n 0 set=false
theorem q8Y {α:Type} {d:List α} {j:Nat} {x y:α} (h:d[j]?=some x):(d++[y]).take j=d.take j:=List.take_append_of_le_length (by have:=ZF h;omega)
theorem qat {n:qb} {l:List qa} {set:Nat} (h:q0z n l set) {s:qf} {d:List Int} (hf:q4Z d s l n set) (hd:d.length<l.length) :
  (set.testBit d.length=false→q4Z (d++[-1]) s l n set)∧(set.testBit d.length=true→∃v:Nat,v<lvN n∧qS (d++[(v:Int)]) s l n 0 set=true):=by
 have hll:=h.ll
 obtain⟨a,ha,hm⟩:=(q43 d s l (by omega) n 0 set h.fit h.lt).1 hf.ok
 have hs:=(q43 (d++[a d.length]) s l (by omega) n 0 set h.fit h.lt).2 ⟨a,qkA ha,hm⟩
 constructor
 ·intro hb
  rw[ha.out _ hb] at hs
  refine⟨hs,fun j y hy=>?_,fun j x hx hj y hy=>?_⟩
  ·rcases q2X hy with e|⟨e1,e2⟩
   ·exact hf.val j y e
   ·rw[e1,hb,if_neg (by decide)];exact e2
  ·rcases q2X hx with e|⟨e1,e2⟩
   ·rw[q8Y e];exact hf.lst j x e hj y hy
   ·rw[e1,hb] at hj;exact absurd hj (by decide)
 ·intro hb
  have:=ha.inn _ hb
  refine⟨(a d.length).toNat,by omega,?_⟩
  rw[show(((a d.length).toNat:Nat):Int)=a d.length from by omega]
  exact hs
theorem qcN {n:qb} {l:List qa} {set:Nat} (h:q0z n l set) (s:qf):∀(m:Nat) (d:List Int),d.length+m=l.length→q4Z d s l n set →
  ∃d',d'.length=l.length∧q4Z d' s l n set∧(∃e,d'=d++e)∧qq (QU n s l (set:Int) (l.length:Int)) (d,q2R set.testBit d,(d.length:Int))=some (q2R set.testBit d'):=by
 intro m
 induction m with
 | zero =>
  intro d hd hf
  refine⟨d,by omega,hf,⟨[],(List.append_nil _).symm⟩,qz ?_⟩
  unfold QU
  simp only
  rw[if_neg (by omega)]
 | succ m ih =>
  intro d hd hf
  have hll:=h.ll
  have hlt:=h.lt64
  have hML:100000≤Go.maxLen:=by unfold Go.maxLen;omega
  have hsel:=q4z d set.testBit
  obtain⟨f1,f2⟩:=qat h hf (by omega)
  have hw:w64 ((d.length:Int)+1)=((d.length+1:Nat):Int):=zI (by omega) (by omega)
  have hbit:(QT Go.BinOp.and Go.IntKind.i64 (Int.fdiv (set:Int) ((2:Int) ^ min (Int.toNat (d.length:Int)) (Go.IntKind.bits Go.IntKind.i64))) (1:Int)==(0:Int)) = !set.testBit d.length:=by
   rw[Int.toNat_natCast,qb7 set d.length (by omega),show(1:Int)=((1:Nat):Int) from rfl,q7k _ 1 (Nat.lt_of_le_of_lt (Nat.div_le_self _ _) hlt) (by decide),Nat.and_one_is_mod,Nat.testBit_eq_decide_div_mod_eq]
   have:set / 2 ^ d.length % 2<2:=Nat.mod_lt _ (by decide)
   by_cases e:set / 2 ^ d.length % 2=1
   ·rw[e];rfl
   ·have e0:set / 2 ^ d.length % 2=0:=by omega
    rw[e0];rfl
  have hset:∀y z:Int,(d++[y]).set d.length z=d++[z]:=fun y z=>by
   rw[List.set_append_right _ _ (Nat.le_refl _),Nat.sub_self]
   rfl
  cases hb:set.testBit d.length
  ·obtain⟨d',g1,g2,⟨e,g3⟩,g4⟩:=ih (d++[-1]) (by rw[List.length_append,List.length_singleton];omega) (f1 hb)
   refine⟨d',g1,g2,⟨[-1]++e,by rw[g3,List.append_assoc]⟩,?_⟩
   rw[q3R,hb,if_neg (by decide),List.append_nil,List.length_append,List.length_singleton] at g4
   rw[←g4]
   refine qL ?_
   unfold QU
   simp only
   rw[if_pos (by omega),if_pos ⟨by omega,by omega⟩,if_pos (by omega),hbit,hb,if_pos (by decide),hw]
  ·obtain⟨v0,hv0,hs0⟩:=f2 hb
   have hlv:=h.lv
   obtain⟨v,v1,v2,v3,v4,v5⟩:=qhC h s (q2R set.testBit d) (l.length:Int) (d.length:Int) d (by omega) v0 0 (by omega) ⟨v0,by omega,by omega,hs0⟩
   have hF:q4Z (d++[(v:Int)]) s l n set:=⟨v3,fun j y hy=>by
    rcases q2X hy with e|⟨e1,e2⟩
    ·exact hf.val j y e
    ·rw[e1,hb,if_pos rfl,e2];omega,fun j x hx hj y hy=>by
    rcases q2X hx with e|⟨e1,e2⟩
    ·rw[q8Y e];exact hf.lst j x e hj y hy
    ·rw[e1,List.take_left]
     exact v4 y (Nat.zero_le _) (by omega)⟩
   obtain⟨d',g1,g2,⟨e,g3⟩,g4⟩:=ih (d++[(v:Int)]) (by rw[List.length_append,List.length_singleton];omega) hF
   refine⟨d',g1,g2,⟨[(v:Int)]++e,by rw[g3,List.append_assoc]⟩,?_⟩
   rw[q3R,hb,if_pos rfl,List.length_append,List.length_singleton] at g4
   rw[←g4]
   refine qL ?_
   have hg:(d++[(v:Int)])[d.length]?=some (v:Int):=by rw[List.getElem?_append_right (Nat.le_refl _),Nat.sub_self];rfl
   unfold QU
   simp only
   rw[if_pos (by omega),if_pos ⟨by omega,by omega⟩,if_pos (by omega),hbit,hb,if_neg (by decide),if_pos ⟨by omega,by omega⟩,Int.toNat_natCast,if_pos (Nat.le_refl _),hset]
   rw[show(0:Int)=((0:Nat):Int) from rfl,v5,Option.bind_some,if_pos (by rw[List.length_append,List.length_singleton];omega),hg,Option.bind_some,if_pos ⟨by omega,by omega⟩,hw]
theorem qbT {n:qb} {l:List qa} {set:Nat} (h:q0z n l set) (s:qf) (hS:JP n s l=some (qQ (2 ^ l.length) (qS [] s l n 0),0)) :
  (qS [] s l n 0 set=false∧zb n s l (set:Int)=some ([],false)) ∨
  (qS [] s l n 0 set=true∧∃d,d.length=l.length∧q4Z d s l n set∧zb n s l (set:Int)=some (q2R set.testBit d,true)):=by
 have hlt:=h.lt
 have hll:=h.ll
 unfold zb
 rw[hS,Option.bind_some]
 simp only
 rw[if_neg (by decide),if_neg (by omega),if_neg (by rw[qm];omega),if_pos (by rw[qm];omega),Int.toNat_natCast,zY _ hlt,Option.bind_some]
 cases hs:qS [] s l n 0 set
 ·exact .inl ⟨rfl,by rw[if_pos (by decide)]⟩
 ·refine .inr ⟨rfl,?_⟩
  obtain⟨d',g1,g2,_,g4⟩:=qcN h s l.length [] (by simp) ⟨hs,fun j y hy=>by simp at hy,fun j x hx=>by simp at hx⟩
  refine⟨d',g1,g2,?_⟩
  rw[if_neg (by decide),if_pos ⟨by omega,by omega,by omega⟩]
  change Option.bind (qq _ ([],q2R set.testBit [],((([]:List Int).length:Nat):Int))) _=_
  rw[g4]
  rfl
end Go.Proofs.YtgejdfnidjnjcaaGreat.Vc
namespace Go.Proofs.YtgejdfnidjnjcaaGreat.Vc
open Go.RowKit
set_option linter.unusedVariables false
set_option linter.unusedSimpArgs false
theorem qj1 (n:qb) (hn:n.Set.length≤9223372036854775807) (s:qf) (l:List qa) (hl:l.length≤62) (d:List Int) (hd:d.length=l.length) (nx:Nat):q0x n s l d (nx:Int)=some (qeH n s l (fun j=>d.getD j (-1)==(nx:Int))):=by
 have h1:=q0f (ε:=qn) (step:=Z6 d (nx:Int) n s (qn.mk (0:Int) (0:Int) Bool.false) l (l.length:Int)) l (fun(b:qn) i=>(b,(i:Int))) (fun i b a => .inl (if(d.getD i (-1)==(nx:Int))=true then qg0 n s b a else b)) (fun b=>b) (fun b i a ha=>by
   have hi:=ZF ha
   have hw:w64 ((i:Int)+1)=((i+1:Nat):Int):=qs hi (by omega)
   have hb:JE (i:Int) d (nx:Int)=some (d.getD i (-1)==(nx:Int)):=by
    unfold JE
    rw[if_pos ⟨by omega,by omega⟩,Int.toNat_natCast,List.getElem?_eq_getElem (by omega),Option.bind_some,List.getD_eq_getElem?_getD,List.getElem?_eq_getElem (by omega)]
    rfl
   unfold Z6 qg0
   simp only
   rw[if_pos (by omega),if_pos ⟨by omega,by omega⟩,Int.toNat_natCast,ha,Option.bind_some,hw,hb,Option.bind_some]
   cases(d.getD i (-1)==(nx:Int))
   ·simp
   ·cases hf:b.fine
    ·simp
    ·simp[q9g n hn s a]) (fun b=>by
   unfold Z6
   simp only
   rw[if_neg (by omega)]) ld0
 unfold q0x qeH
 change Option.bind (qq _ (ld0,((0:Nat):Int))) _=_
 rw[h1,Option.bind_some]
 congr 1
 have:∀(l:List qa) (i:Nat) (b:qn),q1O (ε:=qn) (fun i (b:qn) (a:qa) => .inl (if(d.getD i (-1)==(nx:Int))=true then qg0 n s b a else b)) (fun b=>b) l i b=(q2R (fun j=>d.getD (i+j) (-1)==(nx:Int)) l).foldl (qg0 n s) b:=by
  intro l
  induction l with
  | nil=>intro i b;rfl
  | cons a l ih =>
   intro i b
   unfold q1O q2R
   rw[List.foldl_append]
   simp only[Nat.add_zero]
   rw[ih (i+1)]
   rw[show(fun j=>d.getD (i+1+j) (-1)==(nx:Int))=fun j=>d.getD (i+(j+1)) (-1)==(nx:Int) from funext fun j=>by rw[Nat.add_right_comm,Nat.add_assoc]]
   split<;>rfl
 rw[this l 0 ld0]
 simp only[Nat.zero_add]
end Go.Proofs.YtgejdfnidjnjcaaGreat.Vc
namespace Go.Proofs.YtgejdfnidjnjcaaGreat.Vc
open Go.RowKit
set_option linter.unusedVariables false
set_option linter.unusedSimpArgs false
mutual
def itN (d:Int):qb→List qj
 | ⟨k,n,m,S,L⟩=>⟨⟨k,n,m,S,L⟩,d⟩::itL (d+1) L
def itL (d:Int):List qb→List qj
 | []=>[]
 | x::L=>itN d x++itL d L
end
theorem qmu (d:Int) (n:qb):itN d n=⟨n,d⟩::itL (d+1) n.L:=by cases n;rw[itN]
theorem q6V:∀(n:qb) (d:Int),(itN d n).map (·.Need)=ndN n:=by
 intro n
 induction n using qb.rec (motive_2:=fun L=>∀d,(itL d L).map (·.Need)=ndL L) with
 | mk k n m S L ih=>intro d;rw[itN,ndN,List.map_cons,ih]
 | nil=>rw[itL,ndL];rfl
 | cons x L h1 h2=>rw[itL,ndL,List.map_append,h1,h2]
theorem q5F (n:qb) (d:Int):(itN d n).length=(ndN n).length:=by rw[←q6V n d,List.length_map]
theorem qbF (rF:(qb×Int×List qj)→Option (Unit⊕(List qj))) (deep:Int) (hd:1≤deep) (n:qb) (hL:n.L.length≤10000)
  (step:List qj×Int→Option ((List qj×Int)⊕(Unit⊕(List qj))))
  (hst:∀w (i:Nat),step (w,(i:Int))=if(i:Int)<((n.L.length:Nat):Int) then if(0:Int)≤i∧(i:Int)<((n.L.length:Nat):Int) then Option.bind n.L[Int.toNat i]? fun a2=>Option.bind (rF (a2,w64 (deep+1),w)) fun a3=>Sum.elim (fun _=>some (Sum.inr (Sum.inl ()))) (fun a5=>some (Sum.inl (a5,w64 ((i:Int)+1)))) a3 else none else some (.inr (.inr w)))
  (hP:∀y∈n.L,∀w,deep+1+hgN y≤101→w.length+(ndN y).length≤10000→rF (y,deep+1,w)=some (.inr (w++itN (deep+1) y))) :
  ∀(r:List qb) (i:Nat) (w:List qj),r.length+i=n.L.length→(∀j,r[j]?=n.L[i+j]?)→deep+1+hgL r≤101→w.length+(ndL r).length≤10000 →
  qq step (w,(i:Int))=some (.inr (w++itL (deep+1) r)):=by
 intro r
 induction r with
 | nil =>
  intro i w hi _ _ _
  have hi:i=n.L.length:=by simpa using hi
  subst hi
  refine qz ?_
  rw[hst,if_neg (by omega),itL,List.append_nil]
 | cons y r ih =>
  intro i w hi hr hh hw
  rw[hgL] at hh
  rw[ndL,List.length_append] at hw
  simp only[List.length_cons] at hi
  have hget:n.L[i]?=some y:=by have:=hr 0;simpa using this.symm
  have hlt:=ZF hget
  have hcall:=hP y (List.mem_of_getElem? hget) w (by omega) (by omega)
  have hstep:step (w,(i:Int))=some (.inl (w++itN (deep+1) y,((i+1:Nat):Int))):=by
   rw[hst,if_pos (by omega),if_pos ⟨by omega,by omega⟩,Int.toNat_natCast,hget,Option.bind_some,zI (by omega) (by omega),hcall,Option.bind_some,qs hlt (by omega)]
   rfl
  rw[qL hstep,ih (i+1) _ (by omega) (fun j=>by rw[show i+1+j=i+(j+1) by omega,←hr (j+1)];rfl) (by omega) (by rw[List.length_append,q5F];omega),itL,List.append_assoc]
theorem qly:∀(m:Nat) (y:qb),(ndN y).length≤m→∀(deep:Int) (w:List qj),1≤deep→deep+hgN y≤101→w.length+(ndN y).length≤10000→Qn (y,deep,w)=some (.inr (w++itN deep y)):=by
 intro m
 induction m with
 | zero=>intro y h;rw[zV] at h;simp at h
 | succ m ih =>
  intro y h deep w hd hh hw
  rw[zV,List.length_cons] at h hw
  rw[q7I] at hh
  have hsub:∀(L:List qb),(ndL L).length≤m→∀z∈L,∀(deep:Int) (w:List qj),1≤deep→deep+hgN z≤101→w.length+(ndN z).length≤10000→Qn (z,deep,w)=some (.inr (w++itN deep z)):=by
   intro L
   induction L with
   | nil=>intro _ z hz;simp at hz
   | cons x L ihl =>
    intro g z hz
    rw[ndL,List.length_append] at g
    rcases List.mem_cons.1 hz with rfl|hz
    ·exact ih _ (by omega)
    ·exact ihl (by omega) z hz
  have hP:=hsub y.L (by omega)
  have hl:=q7m y.L
  have hML:100000≤maxLen:=by unfold maxLen;omega
  rw[q7A,J0,if_neg (by omega),if_neg (by omega),if_pos ⟨by omega,by omega⟩]
  have h1:=qbF Qn deep hd y (by omega) (J5 Qn y deep) (fun w i=>by rfl) (fun z hz w g1 g2=>hP z hz (deep+1) w (by omega) g1 g2) y.L 0 (w++[⟨y,deep⟩]) (by simp) (by simp) (by omega) (by rw[List.length_append,List.length_singleton];omega)
  rw[show((0:Nat):Int)=0 from rfl] at h1
  rw[h1,Option.bind_some,Sum.elim_inr,qmu,List.append_assoc]
  rfl
theorem qaP (n:qb) (hh:hgN n≤100) (hn:(ndN n).length≤9999):Jy n 1=some (.inr (itN 1 n)):=by
 rw[q7I] at hh
 rw[zV,List.length_cons] at hn
 have hl:=q7m n.L
 unfold Jy
 rw[if_neg (by omega),if_pos (by unfold maxLen;omega)]
 have h1:=qbF Qn 1 (by omega) n (by omega) (JA n 1) (fun w i=>by rfl) (fun z hz w g1 g2=>qly _ z (Nat.le_refl _) (1+1) w (by omega) (by omega) g2) n.L 0 [⟨n,1⟩] (by simp) (by simp) (by omega) (by simp only[List.length_singleton];omega)
 rw[show((0:Nat):Int)=0 from rfl] at h1
 rw[h1,Option.bind_some,Sum.elim_inr,qmu]
 rfl
end Go.Proofs.YtgejdfnidjnjcaaGreat.Vc
namespace Go.Proofs.YtgejdfnidjnjcaaGreat.Vc
open Go.RowKit
set_option linter.unusedVariables false
set_option linter.unusedSimpArgs false
theorem qk5 (items:List qj) (out:List qc) (hl:out.length≤1000000) (t6:Int) (S:List qc) (k:Nat) (c:qc) (hc:S[k]?=some c) (hS:S.length≤1000000):qq (zJ items out t6 S (k:Int)) 0=some ((atF out c:Nat):Int):=by
 have hk:=ZF hc
 have h1:=q0f (ε:=Int) (step:=zJ items out t6 S (k:Int)) out (fun(_:Unit) i=>(i:Int)) (fun i _ x=>if q1N x c=true then .inl () else .inr (i:Int)) (fun _=>(out.length:Int)) (fun _ i x hx=>by
   have hi:=ZF hx
   unfold zJ
   rw[if_pos (by omega),if_pos ⟨by omega,by omega⟩,Int.toNat_natCast,hx,Option.bind_some,if_pos ⟨by omega,by omega⟩,Int.toNat_natCast,hc,Option.bind_some,qs hi (by omega)]
   show(if q1N x c=true then _ else _)=_
   cases q1N x c<;>simp) (fun _=>by
   unfold zJ
   rw[if_neg (by omega)]) ()
 rw[show((0:Nat):Int)=0 from rfl] at h1
 rw[h1]
 congr 1
 have:∀(l:List qc) (i:Nat) (n:Nat),i+l.length=n→q1O (ε:=Int) (fun i (_:Unit) (x:qc)=>if q1N x c=true then .inl () else .inr (i:Int)) (fun _=>(n:Int)) l i ()=((i+atF l c:Nat):Int):=by
  intro l
  induction l with
  | nil=>intro i n h;simp at h;unfold q1O atF;simp[h]
  | cons x l ih =>
   intro i n h
   simp only[List.length_cons] at h
   unfold q1O
   by_cases hx:q1N x c=true
   ·have e:atF (x::l) c=atF l c+1:=by unfold atF;rw[List.takeWhile_cons,if_pos hx];rfl
    simp only[hx,if_true]
    rw[ih (i+1) n (by omega),e]
    omega
   ·have e:atF (x::l) c=0:=by unfold atF;rw[List.takeWhile_cons,if_neg hx];rfl
    have hx':q1N x c=false:=by simpa using hx
    simp only[hx',Bool.false_eq_true,if_false]
    rw[e];rfl
 have:=this out 0 out.length (by simp)
 simpa using this
theorem qba (items:List qj) (out:List qc) (hl:out.length≤1000) (t6:Int) (S:List qc) (hS:S.length≤1000000) (k:Nat) (c:qc) (hc:S[k]?=some c) :
  zW items t6 S (out,(k:Int))=some (.inl (qdB out c,((k+1:Nat):Int))):=by
 have hk:=ZF hc
 have hML:100000≤maxLen:=by unfold maxLen;omega
 have hat:=qg3 out c
 unfold zW
 simp only
 rw[if_pos (by omega),qk5 items out (by omega) t6 S k c hc hS,Option.bind_some]
 have hwk:w64 ((k:Int)+1)=((k+1:Nat):Int):=by rw[zI (by omega) (by omega)];omega
 have hwa:w64 (((atF out c:Nat):Int)+1)=((atF out c+1:Nat):Int):=by rw[zI (by omega) (by omega)];omega
 rw[hwk,hwa]
 simp only[Int.toNat_natCast,List.length_take,List.length_drop,List.length_append,List.length_cons,List.length_nil]
 rw[hc]
 simp only[Option.bind_some]
 have hkk:(0:Int)≤(k:Int)∧(k:Int)<((S.length:Nat):Int):=⟨by omega,by omega⟩
 simp only[hkk,and_self,if_true]
 unfold qdB
 by_cases hlt:atF out c<out.length
 ·obtain⟨x,hx⟩:∃x,out[atF out c]?=some x:=⟨_,List.getElem?_eq_getElem hlt⟩
  rw[if_pos (by omega),if_pos ⟨by omega,by omega⟩,hx,Option.bind_some]
  simp only[Option.any_some]
  by_cases hc:ceq x c=true
  ·have hc2:=hc
   unfold ceq at hc2
   simp only[Bool.and_eq_true] at hc2
   rw[if_pos hc2,if_pos hc]
  ·have hc2:¬ ((x.School==c.School)=true∧(x.Code.toList==c.Code.toList)=true):=fun h=>hc (by unfold ceq;rw[h.1,h.2];rfl)
   rw[if_neg hc2,if_neg hc]
   repeat (first|rw[if_pos (by omega)]|rw[if_neg (by omega)])
   rw[qhz _ _ _ _ hlt]
 ·have he:atF out c=out.length:=by omega
  have hnone:out[out.length]?=none:=List.getElem?_eq_none (Nat.le_refl _)
  rw[he,hnone]
  simp only[Option.any_none,Bool.false_eq_true,if_false]
  repeat (first|rw[if_pos (by omega)]|rw[if_neg (by omega)])
  rw[qeU]
theorem qr9 (l:List qc):∀(out:List qc),(l.foldl qdB out).length≤out.length+l.length:=by
 induction l with
 | nil=>intro out;simp
 | cons c l ih =>
  intro out
  rw[List.foldl_cons,List.length_cons]
  have:=ih (qdB out c)
  have:=(qdu out c).2.1
  omega
theorem qdE (items:List qj) (t6:Int) (S:List qc) (hS:S.length≤100):∀(r:List qc) (k:Nat) (out:List qc),r.length+k=S.length→(∀j,r[j]?=S[k+j]?)→out.length+r.length≤1000→qq (zW items t6 S) (out,(k:Int))=some (r.foldl qdB out):=by
 intro r
 induction r with
 | nil =>
  intro k out hk _ _
  have hk:k=S.length:=by simpa using hk
  subst hk
  refine qz ?_
  unfold zW
  simp only
  rw[if_neg (by omega)]
  rfl
 | cons c r ih =>
  intro k out hk hr hl
  simp only[List.length_cons] at hk hl
  have hget:S[k]?=some c:=by have:=hr 0;simpa using this.symm
  rw[qL (qba items out (by omega) t6 S (by omega) k c hget),List.foldl_cons]
  have:=(qdu out c).2.1
  exact ih (k+1) _ (by omega) (fun j=>by rw[show k+1+j=k+(j+1) by omega,←hr (j+1)];rfl) (by omega)
theorem qd1 (items:List qj) (hn:items.length≤100) (hS:∀x∈items,x.Need.Set.length≤3):∀(r:List qj) (i:Nat) (out:List qc),r.length+i=items.length→(∀j,r[j]?=items[i+j]?)→out.length+3*r.length≤900→∃cs,qq (zX items) (out,(i:Int))=some cs∧cs.length≤900:=by
 intro r
 induction r with
 | nil =>
  intro i out hi _ hl
  have hi:i=items.length:=by simpa using hi
  subst hi
  refine⟨out,qz ?_,by simp at hl;omega⟩
  unfold zX
  simp only
  rw[if_neg (by omega)]
 | cons x r ih =>
  intro i out hi hr hl
  simp only[List.length_cons] at hi hl
  have hget:items[i]?=some x:=by have:=hr 0;simpa using this.symm
  have hlt:=ZF hget
  have hx:=hS x (List.mem_of_getElem? hget)
  have hs:=qdE items (i:Int) x.Need.Set (by omega) x.Need.Set 0 out (by simp) (by simp) (by omega)
  rw[show((0:Nat):Int)=0 from rfl] at hs
  have hp:=qr9 x.Need.Set out
  obtain⟨cs,h1,h2⟩:=ih (i+1) (x.Need.Set.foldl qdB out) (by omega) (fun j=>by rw[show i+1+j=i+(j+1) by omega,←hr (j+1)];rfl) (by omega)
  refine⟨cs,?_,h2⟩
  rw[qL (y:=(x.Need.Set.foldl qdB out,((i+1:Nat):Int))) (by
   unfold zX
   simp only
   rw[if_pos (by omega),if_pos ⟨by omega,by omega⟩,Int.toNat_natCast,hget,Option.bind_some,hs,Option.bind_some,qs hlt (by omega)])]
  exact h1
theorem qfh {n:qb} (h:q1u 3 6 n):∃cs,Js n=some cs∧cs.length≤900:=by
 have h1:=h.hg
 have h2:=h.l2
 have h3:=h.nd
 have hlen:=q5F n 1
 have hS:∀x∈itN 1 n,x.Need.Set.length≤3:=fun x hx=>by
  have hm:x.Need∈ndN n:=by rw[←q6V n 1];exact List.mem_map.2 ⟨x,hx,rfl⟩
  rcases h.ok _ hm with h|h
  ·exact h.s3
  ·rw[h.st];simp
 obtain⟨cs,g1,g2⟩:=qd1 (itN 1 n) (by omega) hS (itN 1 n) 0 [] (by simp) (by simp) (by simp;omega)
 refine⟨cs,?_,g2⟩
 unfold Js
 rw[qaP n (by omega) (by omega),Option.bind_some,Sum.elim_inr]
 rw[show((0:Nat):Int)=0 from rfl] at g1
 rw[g1,Option.bind_some]
theorem qmk (x m:Int) (h0:0<m) (h1:m≤1000000):∃v,q0L x m=some v∧0≤v∧v<m:=by
 have e1:=Int.tmod_lt_of_pos x h0
 have e2 : -m<Int.tmod x m:=by
  have:=Int.tmod_lt_of_pos (-x) h0
  rw[Int.neg_tmod] at this;omega
 have e3:w64 (Int.tmod x m+m)=Int.tmod x m+m:=zI (by omega) (by omega)
 refine⟨Int.tmod (Int.tmod x m+m) m,?_,Int.tmod_nonneg _ (by omega),Int.tmod_lt_of_pos _ h0⟩
 unfold q0L
 rw[if_neg (by omega),if_neg (by omega),e3]
theorem qfO {d:qi} (h:JZ d) {most:Int} (h0:0<most) (h1:most≤1000000):∃v d',zu most d=some (v,d')∧0≤v∧v<most∧JZ d':=by
 obtain⟨a,b,c⟩:=h
 unfold zu
 by_cases he:(d.L.length:Int)≤d.At
 ·exact⟨0,d,if_pos he,Int.le_refl _,h0,⟨a,b,c⟩⟩
 ·obtain⟨x,hx⟩:∃x,d.L[Int.toNat d.At]?=some x:=⟨_,List.getElem?_eq_getElem (by omega)⟩
  obtain⟨v,e1,e2,e3⟩:=qmk x most h0 h1
  have e6:w64 (d.At+1)=d.At+1:=zI (by omega) (by omega)
  have e7:w64 (d.At+1-1)=d.At:=by rw[zI (by omega) (by omega)];omega
  refine⟨v,⟨d.L,d.At+1⟩,?_,e2,e3,⟨by show 0≤d.At+1;omega,by show d.At+1≤d.L.length;omega,c⟩⟩
  rw[if_neg he,e6,e7,if_pos ⟨a,by omega⟩,hx,Option.bind_some,e1,Option.bind_some]
def quv (l:List qa):Prop:=∀a∈l,0<a.Sources.length
theorem qjy (cs:List qc) (hc:1≤cs.length) (hc2:cs.length≤1000) (many:Int) (hm:many≤7) (l:List qa) (k:Nat) (hl:l.length=k) (hs:quv l) (hk:(k:Int)<many) {d:qi} (hd:JZ d) :
  ∃a d',0<a.Sources.length∧(a.Credits=5∨a.Credits=6∨a.Credits=10∨a.Credits=3)∧JZ d'∧Q5 cs many (l,d,(k:Int))=some (.inl (l++[a],d',((k+1:Nat):Int))):=by
 have hML:100000≤maxLen:=by unfold maxLen;omega
 obtain⟨v1,d1,e1,a1,b1,h1⟩:=qfO hd (most:=((cs.length:Nat):Int)) (by omega) (by omega)
 obtain⟨c,hc1,_⟩:=qnp cs v1 a1 b1
 obtain⟨v2,d2,e2,a2,b2,h2⟩:=qfO h1 (most:=4) (by omega) (by omega)
 obtain⟨cr,hcr,mcr⟩:=qnp [(5:Int),6,10,3] v2 a2 (by simpa using b2)
 obtain⟨v3,d3,e3,a3,b3,h3⟩:=qfO h2 (most:=7) (by omega) (by omega)
 obtain⟨gr,hgr,_⟩:=qnp [(50:Int),60,90,40,100,79,80] v3 a3 (by simpa using b3)
 obtain⟨v4,d4,e4,a4,b4,h4⟩:=qfO h3 (most:=600) (by omega) (by omega)
 obtain⟨v5,d5,e5,a5,b5,h5⟩:=qfO h4 (most:=8) (by omega) (by omega)
 have hw:w64 ((k:Int)+1)=((k+1:Nat):Int):=by rw[zI (by omega) (by omega)];omega
 have hcr2:cr=5∨cr=6∨cr=10∨cr=3:=by simpa using mcr
 by_cases hz:v5=0∧0<k
 ·have hwk:w64 ((k:Int)-1)=((k-1:Nat):Int):=by rw[zI (by omega) (by omega)];omega
  obtain⟨p,hp⟩:∃p,l[k-1]?=some p:=⟨_,List.getElem?_eq_getElem (by omega)⟩
  have hps:=hs p (List.mem_of_getElem? hp)
  obtain⟨x,hx⟩:∃x,p.Sources[0]?=some x:=⟨_,List.getElem?_eq_getElem hps⟩
  refine⟨⟨c,cr,gr,v4,[x],0,[]⟩,d5,by simp,hcr2,h5,?_⟩
  unfold Q5
  simp only
  rw[if_pos hk,e1,Option.bind_some]
  simp only
  rw[if_pos ⟨a1,b1⟩,hc1,Option.bind_some,e2,Option.bind_some]
  simp only
  rw[if_pos ⟨a2,b2⟩,hcr,Option.bind_some,e3,Option.bind_some]
  simp only
  rw[if_pos ⟨a3,b3⟩,hgr,Option.bind_some,e4,Option.bind_some]
  simp only
  rw[e5,Option.bind_some]
  simp only
  rw[if_pos (by simp[hz.1]),if_pos (by omega),hwk,if_pos ⟨by omega,by omega⟩,Int.toNat_natCast,hp,Option.bind_some,if_pos (by omega),hx,Option.bind_some,if_pos ⟨by omega,by omega⟩,hw]
 ·refine⟨⟨c,cr,gr,v4,[w64 (w64 (w64 ((1000000:Int)*c.School)+(k:Int))+(1:Int))],0,[]⟩,d5,by simp,hcr2,h5,?_⟩
  unfold Q5
  simp only
  rw[if_pos hk,e1,Option.bind_some]
  simp only
  rw[if_pos ⟨a1,b1⟩,hc1,Option.bind_some,e2,Option.bind_some]
  simp only
  rw[if_pos ⟨a2,b2⟩,hcr,Option.bind_some,e3,Option.bind_some]
  simp only
  rw[if_pos ⟨a3,b3⟩,hgr,Option.bind_some,e4,Option.bind_some]
  simp only
  rw[e5,Option.bind_some]
  simp only
  by_cases h0:v5=0
  ·rw[if_pos (by simp[h0]),if_neg (by omega),if_pos ⟨by omega,by omega⟩,hw]
  ·rw[if_neg (by simpa using h0),if_pos ⟨by omega,by omega⟩,hw]
theorem qsv {n:qb} (h:q1u 3 6 n) (q:List Int) (hq:q.length≤9223372036854775807):∃l,q11 n q=some l∧l.length≤7∧∀a∈l,a.Credits=5∨a.Credits=6∨a.Credits=10∨a.Credits=3:=by
 obtain⟨cs,g1,g2⟩:=qfh h
 obtain⟨v,d,e1,a1,b1,h1⟩:=qfO (d:=⟨q,0⟩) ⟨by show(0:Int)≤0;omega,by show(0:Int)≤(q.length:Int);omega,hq⟩ (most:=8) (by omega) (by omega)
 have hML:100000≤maxLen:=by unfold maxLen;omega
 obtain⟨m,rfl⟩:∃m:Nat,v=(m:Int):=⟨v.toNat,by omega⟩
 have key:∀(j k:Nat) (l:List qa) (d:qi),j+k=m→l.length=k→quv l→(∀a∈l,a.Credits=5∨a.Credits=6∨a.Credits=10∨a.Credits=3)→JZ d→∃l',qq (Q5 (cs++[qc.mk (1:Int) (ByteArray.mk (List.toArray [90]))]) (m:Int)) (l,d,(k:Int))=some l'∧l'.length=m∧∀a∈l',a.Credits=5∨a.Credits=6∨a.Credits=10∨a.Credits=3:=by
  intro j
  induction j with
  | zero =>
   intro k l d hk hl hs hcr hd
   refine⟨l,qz ?_,by omega,hcr⟩
   unfold Q5
   simp only
   rw[if_neg (by omega)]
  | succ j ih =>
   intro k l d hk hl hs hcr hd
   obtain⟨a,d',q1,q2,q3,q4⟩:=qjy (cs++[qc.mk (1:Int) (ByteArray.mk (List.toArray [90]))]) (by simp) (by simp;omega) (m:Int) (by omega) l k hl hs (by omega) hd
   rw[qL q4]
   refine ih (k+1) (l++[a]) d' (by omega) (by simp[hl]) (fun x hx=>?_) (fun x hx=>?_) q3
   ·rcases List.mem_append.1 hx with h|h
    ·exact hs x h
    ·rw[List.mem_singleton.1 h];exact q1
   ·rcases List.mem_append.1 hx with h|h
    ·exact hcr x h
    ·rw[List.mem_singleton.1 h];exact q2
 obtain⟨l,q1,q2,q3⟩:=key m 0 [] d (by omega) rfl (fun a ha=>by simp at ha) (by simp) h1
 refine⟨l,?_,by omega,q3⟩
 unfold q11
 rw[g1,Option.bind_some,if_pos ⟨by omega,by omega⟩,e1,Option.bind_some]
 rw[show((0:Nat):Int)=0 from rfl] at q1
 simp only
 rw[q1,Option.bind_some]
end Go.Proofs.YtgejdfnidjnjcaaGreat.Vc
namespace Go.Proofs.YtgejdfnidjnjcaaGreat.Vc
open Go.RowKit
set_option linter.unusedVariables false
set_option linter.unusedSimpArgs false
structure qsI (c:JL):Prop where
 h1:c.Need.length≤9223372036854775807
 h2:c.L.length≤9223372036854775807
theorem qiJ {c:JL} (h:qsI c):∃n l,ZS c=some (n,l)∧q1u 3 6 n∧l.length≤7∧∀a∈l,a.Credits=5∨a.Credits=6∨a.Credits=10∨a.Credits=3:=by
 obtain⟨n,e1,hn⟩:=qqq c.Need h.h1
 obtain⟨l,e2,hl,hc⟩:=qsv hn c.L h.h2
 refine⟨n,l,?_,hn,hl,hc⟩
 unfold ZS
 rw[e1,Option.bind_some,e2,Option.bind_some]
end Go.Proofs.YtgejdfnidjnjcaaGreat.Vc
namespace Go.Proofs.YtgejdfnidjnjcaaGreat.Vc
open Go.RowKit
set_option linter.unusedVariables false
set_option linter.unusedSimpArgs false
theorem qkb:∀L:List qb,L.length≤(ndL L).length
 | []=>Nat.zero_le _
 | x::L=>by
  have:=qkb L
  rw[ndL,List.length_append,zV,List.length_cons,List.length_cons]
  omega
theorem qgh (s:qf) (l:List qa) (hl:l.length≤62) (d:List Int) (hd:d.length=l.length):∀(n:qb) (nx:Nat),(∀y∈ndN n,y.Set.length≤1000000)→nx+(ndN n).length≤100000 →
  ZE (n,s,l,d,(nx:Int))=some ((q2v s l (fun j=>d.getD j (-1)) n nx).1,(q2v s l (fun j=>d.getD j (-1)) n nx).2,s,l,d,((nx+lvN n:Nat):Int)):=by
 intro n
 induction n using qb.rec (motive_2:=fun L=>∀(b5:qb) (pre:List qb) (nx many:Nat) (em wr:Bool),(∀y∈ndL L,y.Set.length≤1000000)→nx+(ndL L).length≤100000→many+L.length≤200000→pre.length+L.length≤200000 →
   qq (Zb ZE b5 (pre++L) ((pre++L).length:Int)) (s,l,d,(nx:Int),em,(many:Int),wr,(pre.length:Int)) =
    some (s,l,d,((nx+lvL L:Nat):Int),em&&(q16 s l (fun j=>d.getD j (-1)) (b5.Kind==3) L nx).1,((many+(q16 s l (fun j=>d.getD j (-1)) (b5.Kind==3) L nx).2.1:Nat):Int),wr||(q16 s l (fun j=>d.getD j (-1)) (b5.Kind==3) L nx).2.2)) with
 | mk k n m S L ih =>
  intro nx hs hn
  rw[ndN,List.length_cons] at hn
  rw[q7R]
  unfold Jf
  simp only
  rw[q8D,q5e,lvN]
  have hlf:q5y ⟨k,n,m,S,L⟩=decide (k=1∨k=2):=by
   unfold q5y
   simp only
   by_cases h1:k=1
   ·subst h1;rfl
   ·by_cases h2:k=2
    ·subst h2;rfl
    ·rw[beq_eq_false_iff_ne.2 h1,beq_eq_false_iff_ne.2 h2,decide_eq_false (by omega)];rfl
  rw[hlf]
  by_cases hk:k=1∨k=2
  ·have hsz:=hs _ (qaU _)
   rw[if_pos (decide_eq_true hk),if_pos hk,if_pos hk,qj1 _ (by omega) s l hl d hd nx,Option.bind_some]
   simp only
   generalize qeH ⟨k,n,m,S,L⟩ s l (fun j=>d.getD j (-1)==(nx:Int))=x
   have hw:w64 ((nx:Int)+1)=((nx+1:Nat):Int):=zI (by omega) (by omega)
   rw[hw]
   unfold Jo
   by_cases h1:k=1
   ·subst h1
    have hx:qO x ⟨1,n,m,S,L⟩=q9Z ⟨1,n,m,S,L⟩ x:=by
     unfold qO q9Z
     rw[if_pos rfl]
     cases x.fine<;>simp
    rw[if_pos (by decide),Option.bind_some,Sum.elim_inl,hx]
   ·have hx:zg x ⟨k,n,m,S,L⟩=q9Z ⟨k,n,m,S,L⟩ x:=by
     unfold zg q9Z
     simp only
     rw[if_neg h1]
     cases x.fine
     ·simp
     ·by_cases h:0<x.many<;>simp[h]
    rw[if_neg (by rw[beq_eq_false_iff_ne.2 h1];decide),Option.bind_some,Sum.elim_inr,hx]
  ·have hln:=qkb L
   have h:=ih ⟨k,n,m,S,L⟩ [] nx 0 true false (fun y hy=>hs y (by rw[ndN];exact List.mem_cons_of_mem _ hy)) (by omega) (by omega) (by simp;omega)
   rw[if_neg (by rw[decide_eq_false hk];decide),if_neg hk,if_neg hk]
   simp only[List.nil_append] at h
   change Option.bind (qq _ (s,l,d,(nx:Int),true,((0:Nat):Int),false,((([]:List qb).length:Nat):Int))) _=_
   rw[h,Option.bind_some]
   simp only[Bool.true_and,Bool.false_or,Nat.zero_add]
   cases(q16 s l (fun j=>d.getD j (-1)) (k==3) L nx).2.2<;>simp
 | nil =>
  rename_i b5 pre nx many em wr hs hn hm hp
  rw[lvL,q16]
  refine qz ?_
  unfold Zb
  simp only
  rw[List.append_nil,if_neg (by omega)]
  simp
 | cons x L h1 h2 =>
  rename_i b5 pre nx many em wr hs hn hm hp
  rw[ndL,List.length_append] at hn
  rw[List.length_cons] at hm hp
  have hx:=h1 nx (fun y hy=>hs y (by rw[ndL];exact List.mem_append_left _ hy)) (by omega)
  have hlv:=qa2 x
  have hw:w64 ((pre.length:Int)+1)=((pre.length+1:Nat):Int):=zI (by omega) (by omega)
  have hw2:w64 ((many:Int)+1)=((many+1:Nat):Int):=zI (by omega) (by omega)
  have hL:=h2 b5 (pre++[x]) (nx+lvN x) (many+if(q2v s l (fun j=>d.getD j (-1)) x nx).2=true then 1 else 0) (em&&(q2v s l (fun j=>d.getD j (-1)) x nx).1) (wr||(!(q2v s l (fun j=>d.getD j (-1)) x nx).2&&(!(q2v s l (fun j=>d.getD j (-1)) x nx).1||(b5.Kind==3)))) (fun y hy=>hs y (by rw[ndL];exact List.mem_append_right _ hy)) (by omega) (by split<;>omega) (by rw[List.length_append,List.length_singleton];omega)
  rw[List.append_assoc,List.singleton_append,show(pre++[x]).length=pre.length+1 from by rw[List.length_append,List.length_singleton]] at hL
  have hg:(pre++x::L)[pre.length]?=some x:=by rw[List.getElem?_append_right (Nat.le_refl _),Nat.sub_self];rfl
  rw[q16,lvL]
  simp only
  rw[qL (y:=(s,l,d,((nx+lvN x:Nat):Int),em&&(q2v s l (fun j=>d.getD j (-1)) x nx).1,((many+(if(q2v s l (fun j=>d.getD j (-1)) x nx).2=true then 1 else 0):Nat):Int),wr||(!(q2v s l (fun j=>d.getD j (-1)) x nx).2&&(!(q2v s l (fun j=>d.getD j (-1)) x nx).1||(b5.Kind==3))),((pre.length+1:Nat):Int))) ?_,hL]
  ·simp only[Nat.add_assoc,Bool.and_assoc,Bool.or_assoc]
  ·unfold Zb
   simp only
   rw[if_pos (by rw[List.length_append,List.length_cons];omega),if_pos (by rw[List.length_append,List.length_cons];omega),Int.toNat_natCast,hg,Option.bind_some,hx,Option.bind_some]
   simp only
   rw[hw,hw2]
   generalize (q2v s l (fun j=>d.getD j (-1)) x nx).1=q1
   generalize (q2v s l (fun j=>d.getD j (-1)) x nx).2=q2
   cases em<;>cases wr<;>cases q1<;>cases q2<;>simp
end Go.Proofs.YtgejdfnidjnjcaaGreat.Vc
namespace Go.Proofs.YtgejdfnidjnjcaaGreat.Vc
open Go.RowKit
set_option linter.unusedVariables false
set_option linter.unusedSimpArgs false
theorem qcd:∀n:qb,(∀y∈ndN n,q0H y)→lvN n≤((ndN n).filter Qx).length:=by
 intro n
 induction n using qb.rec (motive_2:=fun L=>(∀y∈ndL L,q0H y)→lvL L≤((ndL L).filter Qx).length) with
 | mk k n m S L ih =>
  intro hf
  have h1:=ih fun y hy=>hf y (by rw[ndN];exact List.mem_cons_of_mem _ hy)
  rw[lvN,ndN,List.filter_cons]
  have hk:=(hf _ (qaU _)).kind
  simp only at hk
  by_cases h:k=1∨k=2
  ·rw[if_pos h,if_pos (by unfold Qx;simp only;rcases h with h|h<;>subst h<;>decide),List.length_cons]
   omega
  ·rw[if_neg h]
   split
   ·rw[List.length_cons];omega
   ·exact h1
 | nil=>rename_i hf;rw[lvL];exact Nat.zero_le _
 | cons x L h1 h2 =>
  rename_i hf
  have a:=h1 fun y hy=>hf y (by rw[ndL];exact List.mem_append_left _ hy)
  have b:=h2 fun y hy=>hf y (by rw[ndL];exact List.mem_append_right _ hy)
  rw[lvL,ndL,List.filter_append,List.length_append]
  omega
theorem qlf (d:List Int) (hd:d.length≤100) (v:Int) (h:∀(j:Nat) (y:Int),d[j]?=some y→ZU y v=false):zj d v=some false:=by
 have h1:=QC (step:=qU v d (d.length:Int)) (e := .inr ()) (fun i=>(i:Int)) 0 d.length (Nat.zero_le _) (fun i _ hi=>by
   obtain⟨y,hy⟩:∃y,d[i]?=some y:=⟨_,List.getElem?_eq_getElem hi⟩
   have hw:w64 ((i:Int)+1)=((i+1:Nat):Int):=qs (n:=100) (by omega) (by omega)
   unfold qU
   rw[if_pos (by omega),if_pos ⟨by omega,by omega⟩,Int.toNat_natCast,hy,Option.bind_some,h i y hy,if_neg (by decide),hw]) (by
   unfold qU
   rw[if_neg (by omega)])
 unfold zj Qm
 change Option.bind (Option.bind (qq _ ((0:Nat):Int)) _) _=_
 rw[h1]
 rfl
end Go.Proofs.YtgejdfnidjnjcaaGreat.Vc
namespace Go.Proofs.YtgejdfnidjnjcaaGreat.Vc
open Go.RowKit
set_option linter.unusedVariables false
set_option linter.unusedSimpArgs false
def qnA (W:Nat) (l:List Int):Nat:=l.foldl (fun acc y=>acc*W+(y+1).toNat) 0
theorem qca (W:Nat) (l:List Int) (y:Int):qnA W (l++[y])=qnA W l*W+(y+1).toNat:=by
 unfold qnA
 rw[List.foldl_append]
 rfl
def qoN (b:List Int) (set w:Nat):Prop:=∀(j:Nat) (y:Int),b[j]?=some y→if set.testBit j=true then 0≤y∧y<(w:Int) else y = -1
theorem qbX {n:qb} {l:List qa} {set:Nat} (h:q0z n l set) {b:List Int} (hb:b.length=l.length) (hv:qoN b set (lvN n)) (j:Nat):Asg (b.take j) (fun k=>b.getD k (-1)) 0 (lvN n) set:=by
 have hget:∀k y,b[k]?=some y→b.getD k (-1)=y:=fun k y hk=>by rw[List.getD_eq_getElem?_getD,hk];rfl
 refine⟨fun k hk=>?_,fun k hk=>?_,fun k y hy x hx hx2=>?_⟩
 ·have hl:=qjg h.lt hk
  obtain⟨y,hy⟩:∃y,b[k]?=some y:=⟨_,List.getElem?_eq_getElem (by omega)⟩
  have:=hv k y hy
  rw[if_pos hk] at this
  show _≤b.getD k (-1)∧b.getD k (-1)<_
  rw[hget k y hy]
  omega
 ·show b.getD k (-1) = -1
  by_cases hl:k<b.length
  ·have hy:=List.getElem?_eq_getElem hl
   have:=hv k _ hy
   rw[hk,if_neg (by decide)] at this
   rw[hget k _ hy,this]
  ·rw[List.getD_eq_getElem?_getD,List.getElem?_eq_none (by omega)];rfl
 ·rw[List.getElem?_take] at hy
  split at hy
  ·show y=x↔b.getD k (-1)=x
   rw[hget k y hy]
  ·cases hy
theorem qc5 {n:qb} {l:List qa} {set:Nat} (h:q0z n l set) {s:qf} {d b:List Int} (hd:d.length=l.length) (hf:q4Z d s l n set) (hb:b.length=l.length) (hv:qoN b set (lvN n))
  (hm:(q2v s l (fun k=>b.getD k (-1)) n 0).2=true):d=b∨qnA (lvN n+1) d<qnA (lvN n+1) b:=by
 have hll:=h.ll
 have key:∀j,j≤l.length→d.take j=b.take j∨qnA (lvN n+1) (d.take j)<qnA (lvN n+1) (b.take j):=by
  intro j
  induction j with
  | zero=>intro _;left;rw[List.take_zero,List.take_zero]
  | succ j ih =>
   intro hj
   obtain⟨x,hx⟩:∃x,d[j]?=some x:=⟨_,List.getElem?_eq_getElem (by omega)⟩
   obtain⟨z,hz⟩:∃z,b[j]?=some z:=⟨_,List.getElem?_eq_getElem (by omega)⟩
   have ed:d.take (j+1)=d.take j++[x]:=by rw[List.take_add_one,hx];rfl
   have eb:b.take (j+1)=b.take j++[z]:=by rw[List.take_add_one,hz];rfl
   have vx:=hf.val j x hx
   have vz:=hv j z hz
   have hA:=(q43 (b.take (j+1)) s l (by omega) n 0 set h.fit h.lt).2 ⟨_,qbX h hb hv (j+1),hm⟩
   rw[ed,eb,qca,qca]
   rw[eb] at hA
   rcases ih (by omega) with e|e
   ·by_cases hbit:set.testBit j=true
    ·rw[if_pos hbit] at vx vz
     rcases Int.lt_trichotomy z x with g|g|g
     ·exfalso
      have:=hf.lst j x hx hbit z.toNat (by omega)
      rw[e,show((z.toNat:Nat):Int)=z from by omega,hA] at this
      exact absurd this (by decide)
     ·left;rw[e,g]
     ·right;rw[e];omega
    ·rw[if_neg hbit] at vx vz
     left;rw[e,vx,vz]
   ·right
    have h1:(x+1).toNat<lvN n+1:=by split at vx<;>omega
    have:=Nat.mul_le_mul_right (lvN n+1) e
    rw[Nat.succ_mul] at this
    omega
 have:=key l.length (Nat.le_refl _)
 rwa [List.take_of_length_le (by omega),List.take_of_length_le (by omega)] at this
def qw0 (n:qb) (s:qf) (l:List qa) (b:List Int):Bool:=(q2v s l (fun k=>b.getD k (-1)) n 0).2
theorem qgr {n:qb} {l:List qa} {set:Nat} (h:q0z n l set) {s:qf} {b:List Int} (hb:b.length=l.length) (hv:qoN b set (lvN n)) (hm:qw0 n s l b=true):qS [] s l n 0 set=true:=by
 have:=qbX h hb hv 0
 rw[List.take_zero] at this
 exact(q43 [] s l (by have:=h.ll;omega) n 0 set h.fit h.lt).2 ⟨_,this,hm⟩
end Go.Proofs.YtgejdfnidjnjcaaGreat.Vc
namespace Go.Proofs.YtgejdfnidjnjcaaGreat.Vc
open Go.RowKit
set_option linter.unusedVariables false
set_option linter.unusedSimpArgs false
theorem q9f {n:qb} {l:List qa} {set:Nat} (h:q0z n l set) {s:qf} {d:List Int} (hd:d.length=l.length) (hf:q4Z d s l n set):qw0 n s l d=true:=by
 have hll:=h.ll
 obtain⟨a,ha,hm⟩:=(q43 d s l (by omega) n 0 set h.fit h.lt).1 hf.ok
 have hget:∀j,j<l.length→∃y,d[j]?=some y∧d.getD j (-1)=y:=fun j hj=>⟨d[j]'(by omega),List.getElem?_eq_getElem (by omega),by rw[List.getD_eq_getElem?_getD,List.getElem?_eq_getElem (by omega)];rfl⟩
 have hv:q2v s l (fun j=>d.getD j (-1)) n 0=q2v s l a n 0:=q5T s l _ a n 0 fun k hk x hx hx2=>by
  obtain⟨y,hy,e⟩:=hget k hk
  show d.getD k (-1)=x↔a k=x
  rw[e]
  exact ha.com k y hy x hx (by omega)
 unfold qw0
 rw[hv];exact hm
end Go.Proofs.YtgejdfnidjnjcaaGreat.Vc
namespace Go.Proofs.YtgejdfnidjnjcaaGreat.Vc
open Go.RowKit
set_option linter.unusedVariables false
set_option linter.unusedSimpArgs false
structure Szs (n:qb):Prop where
 hg:hgN n≤100
 nd:(ndN n).length≤9999
 st:∀y∈ndN n,y.Set.length≤1000000
structure Rgt (n:qb):Prop where
 sz:Szs n
 ck:q4j n=0
theorem qej:∀l:List qb,(qg1 l).getD 0=0→∀y∈l,q1L y=0
 | [],_,y,hy=>by cases hy
 | x::l,h,y,hy=>by
  unfold qg1 at h
  rw[List.findSome?_cons] at h
  by_cases hx:q1L x=0
  ·simp only[hx,ne_eq,not_true_eq_false,if_false] at h
   rcases List.mem_cons.1 hy with e|hy
   ·rw[e];exact hx
   ·exact qej l h y hy
  ·simp only[hx,ne_eq,not_false_eq_true,if_true,Option.getD_some] at h
theorem qlv {n:qb} (h:Rgt n):∀y∈ndN n,q1L y=0:=by
 have hc:=h.ck
 unfold q4j at hc
 split at hc
 ·exact absurd hc (by decide)
 split at hc
 ·exact absurd hc (by decide)
 split at hc
 ·exact absurd hc (by decide)
 exact qej _ hc
theorem qlO {y:qb} (h:q1L y=0):q0H y:=by
 unfold q1L at h
 by_cases e1:y.Kind=1
 ·exact⟨.inl e1,fun e=>by omega,fun e=>by omega⟩
 rw[if_neg e1] at h
 by_cases e2:y.Kind=2
 ·exact⟨.inr (.inl e2),fun e=>by omega,fun e=>by omega⟩
 rw[if_neg e2] at h
 by_cases e3:y.Kind=3
 ·rw[if_pos e3] at h
  split at h
  ·exact absurd h (by decide)
  ·rename_i hb
   have hb1:q3f y=true:=by
    cases hq:q3f y
    ·exact absurd (.inl hq) hb
    ·rfl
   have hb2:y.N=0:=Classical.byContradiction fun q=>hb (.inr q)
   unfold q3f at hb1
   simp only[Bool.and_eq_true] at hb1
   refine⟨.inr (.inr (.inl e3)),fun _=>⟨by omega,fun q=>?_⟩,fun e=>by omega⟩
   rw[q] at hb1
   exact absurd hb1.2 (by decide)
 rw[if_neg e3] at h
 by_cases e4:y.Kind=4
 ·rw[if_pos e4] at h
  split at h
  ·exact absurd h (by decide)
  ·split at h
   ·exact absurd h (by decide)
   ·rename_i hi
    have:inF y.N 1 y.L.length=true:=by simpa using hi
    unfold inF at this
    rw[Bool.and_eq_true,decide_eq_true_eq] at this
    exact⟨.inr (.inr (.inr e4)),fun e=>by omega,fun _=>this.1⟩
 ·rw[if_neg e4] at h
  exact absurd h (by decide)
theorem qdp {n:qb} (h:Rgt n):∀y∈ndN n,q0H y:=fun y hy=>qlO (qlv h y hy)
theorem q7y {n:qb} (h:Rgt n) {l:List qa} (hl:l.length≤10) {set:Nat} (hs:set<2 ^ l.length):q0z n l set:=⟨qdp h,h.sz.nd,h.sz.st,by omega,hs⟩
theorem q8x {n:qb} (h:Rgt n) (s:qf) (l:List qa) (hl:l.length≤10):JP n s l=some (qQ (2 ^ l.length) (qS [] s l n 0),0):=by
 have h4:=h.sz.nd
 unfold JP
 rw[q62 n h.sz.hg h.sz.nd h.sz.st,h.ck,Option.bind_some,if_neg (by decide),if_neg (by omega)]
 unfold q2S
 have:=qgJ [] rfl s l (by omega) _ n (Nat.le_refl _) (by omega) h.sz.st 0 (by omega)
 rw[show((0:Nat):Int)=0 from rfl] at this
 rw[this,Option.bind_some,Option.bind_some]
theorem qbC {n:qb} (h:Rgt n) {l:List qa} (hl:l.length≤10) (s:qf) (d:List Int) (hd:d.length=l.length) (hv:∀(j:Nat) (y:Int),d[j]?=some y → -1≤y∧y<(lvN n:Int)):ZX n s l d=some (qw0 n s l d):=by
 have hnd:=h.sz.nd
 have hlf:=qcd n (qdp h)
 unfold ZX
 rw[qbL n h.sz.hg hnd h.sz.st,Option.bind_some,q62 n h.sz.hg hnd h.sz.st,h.ck,Option.bind_some,if_neg (by decide),if_neg (by rw[hd];simp),qlf d (by omega) _ fun j y hy=>?_,Option.bind_some,if_neg (by decide)]
 ·change Option.bind (ZE (n,s,l,d,((0:Nat):Int))) _=_
  rw[qgh s l (by omega) d hd n 0 h.sz.st (by omega),Option.bind_some]
  rfl
 ·have:=hv j y hy
  unfold ZU
  rw[if_neg (by omega)];exact decide_eq_false (by omega)
theorem qfP {n:qb} {l:List qa} {set:Nat} (h:q0z n l set) {s:qf} {d b:List Int} (hd:d.length=l.length) (hf:q4Z d s l n set) (hb:b.length=l.length) (hg:q4Z b s l n set):d=b:=by
 rcases qc5 h hd hf hb hg.val (q9f h hb hg) with e|e
 ·exact e
 ·rcases qc5 h hb hg hd hf.val (q9f h hd hf) with e2|e2
  ·exact e2.symm
  ·omega
theorem qdC {n:qb} {l:List qa} {set:Nat} (h:q0z n l set) {s:qf} {d:List Int} (hd:d.length=l.length) (hf:q4Z d s l n set):qS [] s l n 0 set=true :=
 qgr h hd hf.val (q9f h hd hf)
theorem q9c {n:qb} (h:Rgt n) {l:List qa} (hl:l.length≤10) {set:Nat} (hs:set<2 ^ l.length) (s:qf) {d:List Int} (hd:d.length=l.length) (hf:q4Z d s l n set):zb n s l (set:Int)=some (q2R set.testBit d,true):=by
 have hG:=q7y h hl hs
 rcases qbT hG s (q8x h s l hl) with ⟨g1,_⟩|⟨_,b,g2,g3,g4⟩
 ·rw[qdC hG hd hf] at g1;cases g1
 ·rw[g4,qfP hG hd hf g2 g3]
theorem q9j {n:qb} (h:Rgt n) {l:List qa} (hl:l.length≤10) {set:Nat} (hs:set<2 ^ l.length) (s:qf) (hn:qS [] s l n 0 set=false):zb n s l (set:Int)=some ([],false):=by
 rcases qbT (q7y h hl hs) s (q8x h s l hl) with ⟨_,g⟩|⟨g,_⟩
 ·exact g
 ·rw[hn] at g;cases g
def qmg (d:List Int) (s:qf) (l:List qa) (n:qb) (set:Nat):Bool:=qS d s l n 0 set&&(List.range d.length).all fun j=>match d[j]? with
 | some x=>if set.testBit j=true then decide (0≤x)&&decide (x<(lvN n:Int))&&(List.range x.toNat).all (fun y => !qS (d.take j++[(y:Int)]) s l n 0 set) else x == -1
 | none=>true
theorem qf7 {d:List Int} {s:qf} {l:List qa} {n:qb} {set:Nat} (h:qmg d s l n set=true):q4Z d s l n set:=by
 unfold qmg at h
 rw[Bool.and_eq_true,List.all_eq_true] at h
 refine⟨h.1,fun j y hy=>?_,fun j x hx hj y hy=>?_⟩
 ·have:=h.2 j (List.mem_range.2 (ZF hy))
  rw[hy] at this
  dsimp only at this
  by_cases hb:set.testBit j=true
  ·rw[if_pos hb,Bool.and_eq_true,Bool.and_eq_true,decide_eq_true_eq,decide_eq_true_eq] at this
   rw[if_pos hb];exact this.1
  ·rw[if_neg hb] at this
   rw[if_neg hb];simpa using this
 ·have:=h.2 j (List.mem_range.2 (ZF hx))
  rw[hx] at this
  dsimp only at this
  rw[if_pos hj,Bool.and_eq_true,List.all_eq_true] at this
  have:=this.2 y (List.mem_range.2 (by omega))
  simpa using this
end Go.Proofs.YtgejdfnidjnjcaaGreat.Vc
namespace Go.Proofs.YtgejdfnidjnjcaaGreat.Vc
open Go.RowKit
set_option linter.unusedVariables false
set_option linter.unusedSimpArgs false
theorem qf9:∀(set sub:Nat),sub &&& set=sub→set-sub=Zi set sub:=by
 intro set
 induction set using Nat.strongRecOn with
 | ind set ih =>
  intro sub h
  by_cases h0:set=0
  ·subst h0
   rw[Nat.and_zero] at h
   subst h;rfl
  ·have e1:(sub / 2) &&& (set / 2)=sub / 2:=by rw[←Nat.and_div_two,h]
   have e2:=ih (set / 2) (by omega) (sub / 2) e1
   have g:∀x:Nat,x % 2=if x.testBit 0=true then 1 else 0:=fun x=>by
    rw[Nat.testBit_zero]
    by_cases q:x % 2=1
    ·rw[if_pos (by simpa using q),q]
    ·rw[if_neg (by simpa using q)];omega
   have hb:sub % 2≤set % 2:=by
    rw[g sub,g set]
    cases q:sub.testBit 0
    ·simp
    ·rw[q9H h q]
     exact Nat.le_refl _
   have hl:sub / 2≤set / 2:=by rw[←e1];exact Nat.and_le_right
   have d1:Zi set sub / 2=Zi (set / 2) (sub / 2):=by
    refine Nat.eq_of_testBit_eq fun i=>?_
    rw[Nat.testBit_div_two,zr,zr,Nat.testBit_div_two,Nat.testBit_div_two]
   have d2:Zi set sub % 2=set % 2-sub % 2:=by
    have gs:=g set
    have gt:=g sub
    rw[g (Zi set sub),zr]
    cases q1:set.testBit 0<;>cases q2:sub.testBit 0<;>rw[q1] at gs<;>rw[q2] at gt<;>simp at gs gt ⊢ <;> omega
   have m1:=Nat.div_add_mod (Zi set sub) 2
   have m2:=Nat.div_add_mod set 2
   have m3:=Nat.div_add_mod sub 2
   omega
theorem qnb (n:Int):QP n 1000=(decide (-1000≤n)&&decide (n≤1000)):=by
 unfold QP
 rw[show w64 ((0:Int)-1000) = -1000 from zI (by omega) (by omega)]
 by_cases h : -1000≤n
 ·rw[if_pos h,decide_eq_true h,Bool.true_and]
 ·rw[if_neg h,decide_eq_false h,Bool.false_and]
theorem q8N (s:qf):q4q s=true↔(-1000≤s.Worst∧s.Worst≤1000)∧(-1000≤s.Best∧s.Best≤1000)∧s.Worst≠s.Best∧min s.Worst s.Best≤s.Pass∧s.Pass≤max s.Worst s.Best:=by
 unfold q4q qcy
 simp only[Bool.and_eq_true,beq_iff_eq,bne_iff_ne]
 omega
theorem qva (s:qf):Zp s=if q4q s=true then 0 else 10:=by
 have hk:=q8N s
 unfold Zp
 simp only[qnb]
 by_cases h1:s.Worst=s.Best
 ·rw[if_pos (by rw[h1];simp),if_neg (fun q=>(hk.1 q).2.2.1 h1)]
 ·rw[if_neg (by simp;omega)]
  by_cases h2 : -1000≤min s.Worst s.Best∧min s.Worst s.Best≤1000
  ·rw[if_neg (by simp[h2.1,h2.2])]
   by_cases h3 : -1000≤max s.Worst s.Best∧max s.Worst s.Best≤1000
   ·rw[if_neg (by simp[h3.1,h3.2])]
    by_cases h4:s.Pass<min s.Worst s.Best
    ·rw[if_pos h4,if_neg (fun q=>by have:=hk.1 q;omega)]
    ·rw[if_neg h4]
     by_cases h5:max s.Worst s.Best<s.Pass
     ·rw[if_pos h5,if_neg (fun q=>by have:=hk.1 q;omega)]
     ·rw[if_neg h5,if_pos (hk.2 (by omega))]
   ·rw[if_pos (by rw[Bool.not_eq_true',Bool.and_eq_false_iff,decide_eq_false_iff_not,decide_eq_false_iff_not];omega),if_neg (fun q=>by have:=hk.1 q;omega)]
  ·rw[if_pos (by rw[Bool.not_eq_true',Bool.and_eq_false_iff,decide_eq_false_iff_not,decide_eq_false_iff_not];omega),if_neg (fun q=>by have:=hk.1 q;omega)]
theorem qhP (s:qf) (g m:Int):QM s g m=qbH s g m:=by
 unfold QM ZP qbH qbZ
 rw[qva]
 cases hs:q4q s
 ·rw[if_neg (show ¬ (false=true) by decide),if_neg (show ¬ (((10:Int)==0)=true) by decide)];rfl
 ·have hk:=(q8N s).1 hs
  rw[if_pos rfl,if_pos (show((0:Int)==0)=true by decide),Bool.true_and]
  have hl:(qcy g s.Worst s.Best==g)=(decide (min s.Worst s.Best≤g)&&decide (g≤max s.Worst s.Best)):=by
   rw[Bool.eq_iff_iff]
   unfold qcy
   simp only[Bool.and_eq_true,beq_iff_eq,decide_eq_true_eq]
   omega
  rw[hl]
  by_cases h1:min s.Worst s.Best≤g
  ·rw[if_pos h1,decide_eq_true h1,Bool.true_and]
   by_cases h2:g≤max s.Worst s.Best
   ·rw[decide_eq_true h2,if_neg (show ¬ ((!true)=true) by decide),Bool.true_and]
    by_cases h3:s.Worst<s.Best
    ·rw[if_pos h3,decide_eq_true h3,Bool.eq_iff_iff]
     simp only[Bool.or_eq_true,beq_iff_eq,decide_eq_true_eq]
     omega
    ·rw[if_neg h3,decide_eq_false h3,Bool.eq_iff_iff]
     simp only[Bool.or_eq_true,beq_iff_eq,decide_eq_true_eq,decide_eq_false_iff_not]
     omega
   ·rw[decide_eq_false h2,if_pos (show(!false)=true by decide),Bool.false_and]
  ·rw[if_neg h1,decide_eq_false h1,if_pos (show(!false)=true by decide)];rfl
theorem qdW (n:qb) (hn:n.Set.length≤1000000) (s:qf) (a:qa):q0h n s a=some (q7X n s a):=by
 have h:=qal (step:=ZQ n s a) n.Set (fun b k=>(b,(k:Int))) (fun b c=>b||ceq a.Course c) (fun b=>b) (fun b k c hc=>by
  have hi:=ZF hc
  have hws:w64 ((k:Int)+1)=((k+1:Nat):Int):=qs (n:=10000000) (by omega) (by omega)
  have he:(c.School==a.Course.School&&ByteArray.toList c.Code==ByteArray.toList a.Course.Code)=ceq a.Course c:=by
   unfold ceq
   rw[BEq.comm (a:=c.School),BEq.comm (a:=ByteArray.toList c.Code)]
  unfold ZQ
  dsimp only
  rw[if_pos (by omega),hws]
  cases b
  ·rw[if_neg (by decide),if_pos ⟨by omega,by omega⟩,Int.toNat_natCast,hc,Option.bind_some,he,Bool.false_or]
  ·rw[if_pos rfl,Bool.true_or]) (fun b=>by
  unfold ZQ
  dsimp only
  rw[if_neg (by omega)]) false
 have e:∀(w:List qc) (b:Bool),w.foldl (fun b c=>b||ceq a.Course c) b=(b||w.any (ceq a.Course)):=by
  intro w
  induction w with
  | nil=>intro b;simp
  | cons c w ih=>intro b;rw[List.foldl_cons,ih,List.any_cons,Bool.or_assoc]
 rw[e,Bool.false_or] at h
 unfold q0h q7X q5y
 change Option.bind (qq _ (false,((0:Nat):Int))) _=_
 rw[h,Option.bind_some,qhP]
 cases h1:(n.Kind==1)
 ·rw[if_neg (by decide)]
  cases h2:(n.Kind==2)
  ·rw[if_neg (by decide)];rfl
  ·rw[if_pos rfl]
   cases n.Set.any (ceq a.Course)<;>simp
 ·rw[if_pos rfl]
  cases n.Set.any (ceq a.Course)<;>simp
theorem qaI (n:qb) (s:qf) (set:Nat):∀(r:List qa) (k:Nat) (x:qn),x.fine=false→(wgF n s set r k x).fine=false
 | [],_,x,h=>h
 | a::r,k,x,h=>by
  rw[wgF]
  refine qaI n s set r (k+1) _ ?_
  split
  ·simp[h]
  ·exact h
end Go.Proofs.YtgejdfnidjnjcaaGreat.Vc
namespace Go.Proofs.YtgejdfnidjnjcaaGreat.Vc
open Go.RowKit
set_option linter.unusedVariables false
set_option linter.unusedSimpArgs false
theorem qlG (n:qb) (s:qf) (l:List qa) (hl:l.length≤16) {set:Nat} (h0:set≠0) (hs:set<2 ^ l.length):0<(wgF n s set l 0 ld0).many:=by
 rw[qbq]
 simp only[Nat.zero_add]
 have hle:=q4z l (fun j=>set.testBit j)
 rw[q9y n s _ ld0 (by decide) (by show(0:Int)+_≤_;omega)]
 show(0:Int)<0+_
 have:((q2R (fun j=>set.testBit j) l).length≠0):=fun e=>by
  have h:=(q8s l _).1 e
  refine h0 (Nat.eq_of_testBit_eq fun i=>?_)
  rw[Nat.zero_testBit]
  by_cases hi:i<l.length
  ·exact h i hi
  ·exact Nat.testBit_lt_two_pow (Nat.lt_of_lt_of_le hs (Nat.pow_le_pow_right (by decide) (by omega)))
 omega
section
variable (w2:List Bool) (W B P nx:Int) (l:List qa) (hl:l.length≤16) (n:qb) (hn:n.Set.length≤1000000)
include hl
theorem qkT (set:Int) (m c:Int) (i:Nat) (hi:i≤l.length):qq (qC w2 W B P l nx n set) (m,(c,(false,(i:Int))))=some (m,c,false):=by
 refine qz ?_
 unfold qC
 dsimp only
 by_cases h:(i:Int)<((l.length:Nat):Int)
 ·rw[if_pos h,if_neg (by decide)]
 ·rw[if_neg h]
include hn
theorem qob {set:Nat} (hs:set<9223372036854775808):∀(r:List qa) (i:Nat) (x:qn),r.length+i=l.length→(∀j,r[j]?=l[i+j]?)→x.fine=true →
  ∃e,qq (qC w2 W B P l nx n (set:Int)) (x.many,(x.credits,(true,(i:Int))))=some e∧e.2.2=(wgF n ⟨W,B,P⟩ set r i x).fine∧(e.2.2=true→e.1=(wgF n ⟨W,B,P⟩ set r i x).many∧e.2.1=(wgF n ⟨W,B,P⟩ set r i x).credits)
 | [],i,x,hi,_,hx=>by
  refine⟨_,qz (e:=(x.many,x.credits,true)) ?_,by rw[wgF];exact hx.symm,fun _=>⟨rfl,rfl⟩⟩
  unfold qC
  dsimp only
  rw[if_neg (by simp at hi;omega)]
 | a::r,i,x,hi,hr,hx=>by
  rw[List.length_cons] at hi
  have ha:l[i]?=some a:=by have:=hr 0;simpa using this.symm
  have hw:w64 ((i:Int)+1)=((i+1:Nat):Int):=qs (n:=100) (by omega) (by omega)
  have hr2:∀j,r[j]?=l[i+1+j]?:=fun j=>by
   have:=hr (j+1)
   rw[show i+1+j=i+(j+1) by omega,←this];rfl
  have hc:(0:Int)≤(i:Int)∧(i:Int)<((l.length:Nat):Int):=⟨by omega,by omega⟩
  rw[wgF]
  by_cases hb:set.testBit i=true
  ·have hstep:qC w2 W B P l nx n (set:Int) (x.many,(x.credits,(true,(i:Int))))=some (.inl (w64 (x.many+1),(w64 (x.credits+a.Credits),(q7X n ⟨W,B,P⟩ a,((i+1:Nat):Int))))):=by
    unfold qC
    dsimp only
    rw[if_pos hc.2,if_pos rfl,if_pos hc.1,Int.toNat_natCast,q5A set i hs (by omega),if_pos hb,if_pos hc,ha,Option.bind_some,if_pos hc,Option.bind_some,qdW n hn,Option.bind_some,hw]
   rw[if_pos hb,qL hstep]
   cases hf:q7X n ⟨W,B,P⟩ a
   ·refine⟨_,qkT w2 W B P nx l hl n _ _ _ _ (by omega),?_,fun h=>by cases h⟩
    exact(qaI n _ set r (i+1) _ (by simp)).symm
   ·rw[hx,Bool.true_and]
    exact qob hs r (i+1) ⟨w64 (x.many+1),w64 (x.credits+a.Credits),true⟩ (by omega) hr2 rfl
  ·have hstep:qC w2 W B P l nx n (set:Int) (x.many,(x.credits,(true,(i:Int))))=some (.inl (x.many,(x.credits,(true,((i+1:Nat):Int))))):=by
    unfold qC
    dsimp only
    rw[if_pos hc.2,if_pos rfl,if_pos hc.1,Int.toNat_natCast,q5A set i hs (by omega),if_neg hb,hw]
   rw[if_neg hb,qL hstep]
   exact qob hs r (i+1) x (by omega) hr2 hx
end
theorem qbQ (d:List Int) (s:qf) (l:List qa) (hl:l.length≤16) (n:qb) (nx i:Nat) (h0:i≠0) (hi:i<2 ^ l.length):Qd d s l n nx i=(alF d nx i&&(if n.Kind=1 then(wgF n s i l 0 ld0).fine&&(wgF n s i l 0 ld0).many==1 else(wgF n s i l 0 ld0).fine&&decide (n.N≤(wgF n s i l 0 ld0).credits))):=by
 have hp:=qlG n s l hl h0 hi
 unfold Qd q9Z
 rw[decide_eq_true h0,Bool.true_and,decide_eq_true hp,Bool.and_true]
theorem qcH {l:List qa} (hl:l.length≤16):2 ^ l.length≤65536:=Nat.le_trans (Nat.pow_le_pow_right (by decide) hl) (by decide)
theorem qvF {l:List qa} (hl:l.length≤16):w64 ((1:Int)*(2:Int) ^ min l.length (IntKind.bits IntKind.i64))=((2 ^ l.length:Nat):Int):=by
 have:=qcH hl
 have h1:1≤2 ^ l.length:=Nat.one_le_two_pow
 rw[show min l.length (IntKind.bits IntKind.i64)=l.length from Nat.min_eq_left (by show l.length≤64;omega),Int.one_mul,show((2:Int) ^ l.length)=((2 ^ l.length:Nat):Int) by simp]
 exact zI (by omega) (by omega)
theorem qcb (d:List Int) (s:qf) (l:List qa) (n:qb) (nx:Nat):qQ (2 ^ l.length) (fun k=>if 1≤k∧k<2 ^ l.length then Qd d s l n nx k else false)=qQ (2 ^ l.length) (Qd d s l n nx):=Qj fun k hk=>by
 by_cases h:k=0
 ·subst h;simp[Qd]
 ·rw[if_pos ⟨by omega,hk⟩]
theorem qbJ (W B P:Int) (l:List qa) (hl:l.length≤16) (n:qb) (hn:n.Set.length≤1000000) (nx:Nat) (hnx:nx≤1000000):QK n W B P l (nx:Int)=some (qQ (2 ^ l.length) (Qd [] ⟨W,B,P⟩ l n nx),((nx+1:Nat):Int)):=by
 have hN:=qcH hl
 have hN1:1≤2 ^ l.length:=Nat.one_le_two_pow
 have h1:=QC (step:=zA W B P l (nx:Int) n) (fun i=>(qQ (2 ^ l.length) (fun k=>if 1≤k∧k<i then Qd [] ⟨W,B,P⟩ l n nx k else false),(i:Int))) 1 (2 ^ l.length) hN1 (e:=qQ (2 ^ l.length) (Qd [] ⟨W,B,P⟩ l n nx)) (fun i h1 hi=>by
   have hw:w64 ((i:Int)+1)=((i+1:Nat):Int):=qs hi (by omega)
   have hc:qQ (2 ^ l.length) (q1R (fun k=>if 1≤k∧k<i then Qd [] ⟨W,B,P⟩ l n nx k else false) i (Qd [] ⟨W,B,P⟩ l n nx i))=qQ (2 ^ l.length) (fun k=>if 1≤k∧k<i+1 then Qd [] ⟨W,B,P⟩ l n nx k else false):=by
    rw[q8a (Qd [] ⟨W,B,P⟩ l n nx) false h1]
   have hv:=qbQ [] ⟨W,B,P⟩ l hl n nx i (by omega) hi
   rw[show alF [] nx i=true from rfl,Bool.true_and] at hv
   obtain⟨e,q1,q2,q3⟩:=qob (qQ (2 ^ l.length) (fun k=>if 1≤k∧k<i then Qd [] ⟨W,B,P⟩ l n nx k else false)) W B P (nx:Int) l hl n hn (set:=i) (by omega) l 0 ld0 (by simp) (by simp) rfl
   have q1':qq (qC (qQ (2 ^ l.length) (fun k=>if 1≤k∧k<i then Qd [] ⟨W,B,P⟩ l n nx k else false)) W B P l (nx:Int) n (i:Int)) ((0:Int),((0:Int),(true,(0:Int))))=some e:=q1
   have hag:Zt (i:Int) (nx:Int) W B P l (nx:Int)=some ():=by
    unfold Zt
    rw[qz (e:=()) (by unfold QE;rw[if_neg (by decide)]),Option.bind_some]
   generalize wgF n ⟨W,B,P⟩ i l 0 ld0=y at q2 q3 hv
   have hcl:(0:Int)≤(i:Int)∧(i:Int)<((2 ^ l.length:Nat):Int):=⟨by omega,by omega⟩
   unfold zA
   dsimp only
   rw[qm,if_pos hcl.2,hag,Option.bind_some,q1',Option.bind_some,hw]
   by_cases hk:n.Kind=1
   ·rw[if_pos hk] at hv
    rw[if_pos (by rw[hk];rfl)]
    cases hf:e.2.2
    ·rw[hf] at q2
     rw[←q2,Bool.false_and] at hv
     rw[if_neg (by decide),if_pos hcl,Int.toNat_natCast,if_pos (by omega),qM,←hc,hv]
    ·rw[hf] at q2
     rw[←q2,Bool.true_and,←(q3 hf).1] at hv
     rw[if_pos rfl,if_pos hcl,Int.toNat_natCast,if_pos (by omega),qM,←hc,hv]
   ·rw[if_neg hk] at hv
    rw[if_neg (by simpa using hk)]
    cases hf:e.2.2
    ·rw[hf] at q2
     rw[←q2,Bool.false_and] at hv
     rw[if_neg (by decide),if_pos hcl,Int.toNat_natCast,if_pos (by omega),qM,←hc,hv]
    ·rw[hf] at q2
     rw[←q2,Bool.true_and,←(q3 hf).2] at hv
     rw[if_pos rfl,if_pos hcl,Int.toNat_natCast,if_pos (by omega),qM,←hc,hv]) (by
   unfold zA
   dsimp only
   rw[qm,if_neg (by omega),qcb])
 have e:(fun k:Nat=>if 1≤k∧k<1 then Qd [] ⟨W,B,P⟩ l n nx k else false)=fun _=>false:=by funext k;rw[if_neg (by omega)]
 rw[e,←ZM] at h1
 have h1':qq (zA W B P l (nx:Int) n) (List.replicate (2 ^ l.length) false,(1:Int))=some (qQ (2 ^ l.length) (Qd [] ⟨W,B,P⟩ l n nx)):=h1
 unfold QK
 rw[qvF hl,if_pos (by omega),if_pos ⟨by omega,by omega,by omega⟩,Int.toNat_natCast,h1',Option.bind_some,qs (n:=10000000) (by omega) (by omega)]
section
variable {N:Nat} {best:Nat→Int} {M:Int} {rF:(qb×Int×Int×Int×List qa×Int)→Option (List Bool×Int×Int×Int×List qa×Int)} (W B P nx:Int) (l:List qa) (n:qb)
theorem qzd (hN:N≤65536) (hN1:1≤N):qq (zC rF W B P l nx n) (List.replicate N 0,(1:Int))=some (qQ N b0F):=by
 have h1:=QC (step:=zC rF W B P l nx n) (fun i=>(qQ N (fun k=>if 1≤k∧k<i then -1 else 0),(i:Int))) 1 N hN1 (e:=qQ N b0F) (fun i h1 hi=>by
   have hw:w64 ((i:Int)+1)=((i+1:Nat):Int):=qs hi (by omega)
   unfold zC
   dsimp only
   rw[qm,if_pos (by omega),if_pos ⟨by omega,by omega⟩,Int.toNat_natCast,if_pos (by omega),hw,qM]
   rw[q8a (fun _=>(-1:Int)) 0 h1]) (by
   unfold zC
   dsimp only
   rw[qm,if_neg (by omega)]
   congr 2
   refine Qj fun k hk=>?_
   unfold b0F
   by_cases h:k=0
   ·rw[if_pos h,if_neg (by omega)]
   ·rw[if_neg h,if_pos (by omega)])
 rw[ZM]
 have e:(fun k:Nat=>if 1≤k∧k<1 then(-1:Int) else 0)=fun _=>0:=by funext k;rw[if_neg (by omega)]
 rw[e] at h1
 exact h1
theorem qm2 (hN:N≤65536) (hN1:1≤N) (least:Int):qq (zo rF (qQ N best) W B P l nx least) (List.replicate N false,(1:Int))=some (qQ N (fun k=>decide (k≠0)&&decide (least≤best k))):=by
 have h1:=QC (step:=zo rF (qQ N best) W B P l nx least) (fun i=>(qQ N (fun k=>if 1≤k∧k<i then decide (least≤best k) else false),(i:Int))) 1 N hN1 (e:=qQ N (fun k=>decide (k≠0)&&decide (least≤best k))) (fun i h1 hi=>by
   have hw:w64 ((i:Int)+1)=((i+1:Nat):Int):=qs hi (by omega)
   unfold zo
   dsimp only
   rw[qm,qm,if_pos (by omega),if_pos ⟨by omega,by omega⟩,Int.toNat_natCast,zY best hi,Option.bind_some,if_pos ⟨by omega,by omega⟩,if_pos (by omega),hw,qM]
   rw[q8a (fun k=>decide (least≤best k)) false h1]) (by
   unfold zo
   dsimp only
   rw[qm,if_neg (by omega)]
   congr 2
   refine Qj fun k hk=>?_
   by_cases h:k=0
   ·subst h;simp
   ·rw[if_pos ⟨by omega,hk⟩];simp[h])
 rw[ZM]
 have e:(fun k:Nat=>if 1≤k∧k<1 then decide (least≤best k) else false)=fun _=>false:=by funext k;rw[if_neg (by omega)]
 rw[e] at h1
 exact h1
theorem q1V {α:Type} (g:Nat→α) (set:Nat):q1R g set (g set)=g:=by funext k;unfold q1R;split<;>simp_all
theorem qrf (hN:N≤65536) (hM:M≤1000000) (hb:Bnd best N M) (own:Nat→Bool) (t7:Int) (t10:Bool) {set:Nat} (hs:set<N):∀(f sub:Nat),sub≤f→sub &&& set=sub→∀(g:Nat→Int),
  qq (qI rF (qQ N best) W B P l nx n t7 (qQ N own) t10 (set:Int)) (qQ N g,(sub:Int))=some (qQ N (q1R g set (eaF own best set f sub (g set)))):=by
 have h0:∀(g:Nat→Int),qq (qI rF (qQ N best) W B P l nx n t7 (qQ N own) t10 (set:Int)) (qQ N g,((0:Nat):Int))=some (qQ N g):=fun g=>by
  refine qz ?_
  unfold qI
  dsimp only
  rw[if_neg (by decide)]
 intro f
 induction f with
 | zero =>
  intro sub hf _ g
  have:sub=0:=by omega
  subst this
  rw[h0]
  unfold eaF
  rw[q1V]
 | succ f ih =>
  intro sub hf hsub g
  unfold eaF
  by_cases hz:sub=0
  ·subst hz
   rw[h0,if_pos rfl,q1V]
  ·have ha:(sub-1) &&& set≤sub-1:=Nat.and_le_left
   have hle:sub≤set:=by rw[←hsub];exact Nat.and_le_right
   have hr:=q8F set sub
   have hbr:=hb (Zi set sub) (by omega)
   have hsl:=qf9 set sub hsub
   have hws:w64 ((set:Int)-(sub:Int))=((Zi set sub:Nat):Int):=by rw[zI (by omega) (by omega),←hsl];omega
   have hand:QT Go.BinOp.and Go.IntKind.i64 (w64 ((sub:Int)-1)) (set:Int)=(((sub-1) &&& set:Nat):Int):=by
    rw[zI (by omega) (by omega),show((sub:Int)-1)=((sub-1:Nat):Int) by omega,q7k _ _ (by omega) (by omega)]
   have hstep:qI rF (qQ N best) W B P l nx n t7 (qQ N own) t10 (set:Int) (qQ N g,(sub:Int))=some (.inl (qQ N (q1R g set (eaV own best set sub (g set))),(((sub-1) &&& set:Nat):Int))):=by
    unfold qI
    dsimp only
    rw[if_pos (by omega),qm,if_pos ⟨by omega,by omega⟩,Int.toNat_natCast,zY own (by omega),Option.bind_some,hand]
    cases ho:own sub
    ·have hv:eaV own best set sub (g set)=g set:=by unfold eaV;rw[if_neg (by simp[ho])]
     rw[if_neg (by decide),hv,q1V]
    ·rw[if_pos rfl,hws,qm,if_pos ⟨by omega,by omega⟩,Int.toNat_natCast,zY best (by omega),Option.bind_some]
     by_cases hq:0≤best (Zi set sub)
     ·have hv:eaV own best set sub (g set)=max (g set) (best (Zi set sub)+1):=by unfold eaV;rw[if_pos ⟨ho,hq⟩]
      rw[if_pos hq,qm,if_pos ⟨by omega,by omega⟩,Int.toNat_natCast,zY g hs,Option.bind_some,if_pos ⟨by omega,by omega⟩,Option.bind_some,if_pos ⟨by omega,by omega⟩,if_pos (by omega),zI (n:=best (Zi set sub)+1) (by omega) (by omega),qM,hv]
     ·have hv:eaV own best set sub (g set)=g set:=by unfold eaV;rw[if_neg (fun q=>hq q.2)]
      rw[if_neg hq,hv,q1V]
   have hsub2:((sub-1) &&& set) &&& set=(sub-1) &&& set:=by rw[Nat.and_assoc,Nat.and_self]
   rw[qL hstep,ih _ (by omega) hsub2,if_neg hz,q1x,q0r]
theorem qtb (hN:N≤65536) (hM:M≤1000000) (hb:Bnd best N M) (own:Nat→Bool) (t7:Int) (must:Bool) :
  qq (zP rF (qQ N best) W B P l nx n t7 (qQ N own) must) (List.replicate N 0,(0:Int))=some (qQ N (stF (n.Kind==4 && !must) own best)):=by
 have h1:=QC (step:=zP rF (qQ N best) W B P l nx n t7 (qQ N own) must) (fun i=>(qQ N (fun k=>if k<i then stF (n.Kind==4 && !must) own best k else 0),(i:Int))) 0 N (Nat.zero_le _) (e:=qQ N (stF (n.Kind==4 && !must) own best)) (fun i _ hi=>by
   have hbi:=hb i hi
   have hw:w64 ((i:Int)+1)=((i+1:Nat):Int):=qs hi (by omega)
   have hg:∀v:Int,v=(if(n.Kind==4 && !must)=true then best i else -1)→q1R (q1R (fun k=>if k<i then stF (n.Kind==4 && !must) own best k else 0) i v) i (eaF own best i i i (q1R (fun k=>if k<i then stF (n.Kind==4 && !must) own best k else 0) i v i))=fun k=>if k<i+1 then stF (n.Kind==4 && !must) own best k else 0:=fun v hv=>by
    funext k
    rw[q1x,q0r]
    unfold q1R
    by_cases hk:k=i
    ·subst hk
     rw[if_pos rfl,if_pos (by omega)]
     unfold stF
     rw[←hv]
    ·rw[if_neg hk]
     show(if k<i then stF (n.Kind==4 && !must) own best k else 0)=_
     by_cases h:k<i
     ·rw[if_pos h,if_pos (by omega)]
     ·rw[if_neg h,if_neg (by omega)]
   have hci:(0:Int)≤(i:Int)∧(i:Int)<((N:Nat):Int):=⟨by omega,by omega⟩
   have hin:∀v:Int,v=(if(n.Kind==4 && !must)=true then best i else -1)→qq (qI rF (qQ N best) W B P l nx n t7 (qQ N own) must (i:Int)) (qQ N (q1R (fun k=>if k<i then stF (n.Kind==4 && !must) own best k else 0) i v),(i:Int))=some (qQ N (fun k=>if k<i+1 then stF (n.Kind==4 && !must) own best k else 0)):=fun v hv=>by
    rw[qrf W B P nx l n hN hM hb own t7 must hi i i (Nat.le_refl _) (Nat.and_self _),hg v hv]
   unfold zP
   dsimp only
   rw[qm,qm,if_pos hci.2,if_pos hci,Int.toNat_natCast,if_pos (show i+1≤N by omega)]
   cases hk:(n.Kind==4)
   ·rw[hk] at hin
    rw[if_neg (by decide),qM,hin (-1) rfl,Option.bind_some,hw]
   ·rw[hk] at hin
    rw[if_pos rfl]
    cases must
    ·rw[if_pos (show(!false)=true by decide),if_pos hci,zY best hi,Option.bind_some,if_pos hci,if_pos (show i+1≤N by omega),qM,qM,q0r,hin (best i) rfl,Option.bind_some,hw]
    ·rw[if_neg (show ¬ ((!true)=true) by decide),qM,hin (-1) rfl,Option.bind_some,hw]) (by
   unfold zP
   dsimp only
   rw[qm,qm,if_neg (by omega)]
   congr 2
   exact Qj fun k hk=>if_pos hk)
 rw[ZM]
 have e:(fun k:Nat=>if k<0 then stF (n.Kind==4 && !must) own best k else 0)=fun _=>0:=by funext k;rw[if_neg (by omega)]
 rw[e] at h1
 exact h1
end
theorem qgb (W B P:Int) (l:List qa) (hl:l.length≤16) (n:qb) (hLn:n.L.length≤1000000)
  (hP:∀y∈n.L,∀nx:Nat,nx+(ndN y).length≤100000→zl (y,W,B,P,l,(nx:Int))=some (qQ (2 ^ l.length) (qS [] ⟨W,B,P⟩ l y nx),W,B,P,l,((nx+lvN y:Nat):Int))) :
  ∀(r:List qb) (i nx:Nat) (best:Nat→Int) (M:Int),r.length+i=n.L.length→(∀j,r[j]?=n.L[i+j]?)→nx+(ndL r).length≤100000→Bnd best (2 ^ l.length) M→0≤M→M+r.length≤100000 →
  qq (zy zl n) (qQ (2 ^ l.length) best,W,B,P,l,(nx:Int),(i:Int))=some (qQ (2 ^ l.length) (q4X [] ⟨W,B,P⟩ l (n.Kind==4) r nx best),W,B,P,l,((nx+lvL r:Nat):Int)):=by
 intro r
 induction r with
 | nil =>
  intro i nx best M hi _ _ _ _ _
  have hi:i=n.L.length:=by simpa using hi
  subst hi
  refine qz ?_
  unfold zy
  dsimp only
  rw[if_neg (by omega),lvL,Nat.add_zero]
  rfl
 | cons y r ih =>
  intro i nx best M hi hr hnx hb hM0 hM
  rw[ndL,List.length_append] at hnx
  have hlv:=qa2 y
  simp only[List.length_cons,Int.natCast_add,Int.natCast_one] at hM hi
  have hget:n.L[i]?=some y:=by have:=hr 0;simpa using this.symm
  have hlt:i<n.L.length:=ZF hget
  have hN:=qcH hl
  have hN1:1≤2 ^ l.length:=Nat.one_le_two_pow
  have hcall:=hP y (List.mem_of_getElem? hget) nx (by omega)
  have hw:w64 ((i:Int)+1)=((i+1:Nat):Int):=qs hlt (by omega)
  have hdec:Zg (nx:Int) ((nx+lvN y:Nat):Int) W B P l ((nx+lvN y:Nat):Int)=some ():=by
   unfold Zg
   rw[qz (e:=()) (by unfold Qp;rw[if_neg (by decide)]),Option.bind_some]
  have hfo:foF [] nx (nx+lvN y)=false:=rfl
  have hstep:zy zl n (qQ (2 ^ l.length) best,W,B,P,l,(nx:Int),(i:Int))=some (.inl (qQ (2 ^ l.length) (stF (n.Kind==4 && !foF [] nx (nx+lvN y)) (qS [] ⟨W,B,P⟩ l y nx) best),W,B,P,l,((nx+lvN y:Nat):Int),((i+1:Nat):Int))):=by
   unfold zy
   dsimp only
   rw[if_pos (by omega),if_pos ⟨by omega,by omega⟩,Int.toNat_natCast,hget,Option.bind_some,hcall,Option.bind_some]
   dsimp only
   rw[hdec,Option.bind_some,qm,if_pos ⟨by omega,by omega,by omega⟩,qtb (M:=M) W B P _ l n hN (by omega) hb,Option.bind_some,hw,hfo]
  rw[qL hstep,ih (i+1) _ _ (M+1) (by omega) (fun j=>by rw[show i+1+j=i+(j+1) by omega,←hr (j+1)];rfl) (by omega) (qaW hb (by omega)) (by omega) (by omega)]
  rw[lvL,←Nat.add_assoc]
  rfl
theorem qld (W B P:Int) (l:List qa) (hl:l.length≤16):∀(m:Nat) (n:qb),(ndN n).length≤m→(ndN n).length≤10000→(∀y∈ndN n,y.Set.length≤1000000)→∀nx:Nat,nx+(ndN n).length≤100000→zl (n,W,B,P,l,(nx:Int))=some (qQ (2 ^ l.length) (qS [] ⟨W,B,P⟩ l n nx),W,B,P,l,((nx+lvN n:Nat):Int)):=by
 intro m
 induction m with
 | zero=>intro n h;rw[zV] at h;simp at h
 | succ m ih =>
  intro n h1 h2 h3 nx hnx
  have hN:=qcH hl
  have hN1:1≤2 ^ l.length:=Nat.one_le_two_pow
  have hlv:=qa2 n
  have hset:=h3 n (by rw[zV];exact List.mem_cons_self)
  have hsub:∀(L:List qb),(ndL L).length≤m→(ndL L).length≤10000→(∀y∈ndL L,y.Set.length≤1000000)→∀y∈L,∀nx:Nat,nx+(ndN y).length≤100000→zl (y,W,B,P,l,(nx:Int))=some (qQ (2 ^ l.length) (qS [] ⟨W,B,P⟩ l y nx),W,B,P,l,((nx+lvN y:Nat):Int)):=by
   intro L
   induction L with
   | nil=>intro _ _ _ y hy;simp at hy
   | cons x L ihl =>
    intro g1 g2 g3 y hy
    rw[ndL,List.length_append] at g1 g2
    rw[ndL] at g3
    rcases List.mem_cons.1 hy with rfl|hy
    ·exact ih _ (by omega) (by omega) fun z hz=>g3 z (List.mem_append_left _ hz)
    ·exact ihl (by omega) (by omega) (fun z hz=>g3 z (List.mem_append_right _ hz)) y hy
  have e0:ndN n=n::ndL n.L:=zV n
  have hlen:(ndN n).length=(ndL n.L).length+1:=by rw[e0];rfl
  have hP:=hsub n.L (by omega) (by omega) fun y hy=>h3 y (by rw[e0];exact List.mem_cons_of_mem _ hy)
  have hLl:=qkb n.L
  rw[q4J,Zz,q4D]
  by_cases hk1:n.Kind=1
  ·rw[if_pos (by rw[hk1];rfl),if_pos (.inl hk1),qbJ W B P l hl n hset nx (by omega),Option.bind_some,q2F,if_pos (.inl hk1)]
  ·rw[if_neg (by simpa using hk1)]
   by_cases hk2:n.Kind=2
   ·rw[if_pos (by rw[hk2];rfl),if_pos (.inr hk2),qbJ W B P l hl n hset nx (by omega),Option.bind_some,q2F,if_pos (.inr hk2)]
   ·have hlf:¬ (n.Kind=1∨n.Kind=2):=by omega
    have e2:lvN n=lvL n.L:=by rw[q2F,if_neg hlf]
    have hb0:Bnd b0F (2 ^ l.length) 0:=fun k _=>by unfold b0F;split<;>omega
    have hch:=qgb W B P l hl n (by omega) hP n.L 0 nx b0F 0 (by simp) (by simp) (by omega) hb0 (by omega) (by omega)
    have hch':qq (zy zl n) (qQ (2 ^ l.length) b0F,W,B,P,l,(nx:Int),(0:Int))=some (qQ (2 ^ l.length) (q4X [] ⟨W,B,P⟩ l (n.Kind==4) n.L nx b0F),W,B,P,l,((nx+lvL n.L:Nat):Int)):=hch
    rw[if_neg (by simpa using hk2),if_neg hlf,if_pos (by omega),qvF hl,if_pos ⟨by omega,by omega,by omega⟩,Int.toNat_natCast,qzd W B P _ l n hN hN1,Option.bind_some,hch',Option.bind_some,e2]
    dsimp only
    by_cases hk3:n.Kind=3
    ·have k3:(n.Kind==3)=true:=by rw[hk3];rfl
     rw[if_pos k3,qm,if_pos ⟨by omega,by omega,by omega⟩,qm2 W B P _ l hN hN1,Option.bind_some]
     simp only[if_pos hk3]
    ·have k3:¬ ((n.Kind==3)=true):=by simpa using hk3
     rw[if_neg k3,qm,if_pos ⟨by omega,by omega,by omega⟩,qm2 W B P _ l hN hN1,Option.bind_some]
     simp only[if_neg hk3]
end Go.Proofs.YtgejdfnidjnjcaaGreat.Vc
namespace Go.Proofs.YtgejdfnidjnjcaaGreat.Vc
open Go.RowKit
set_option linter.unusedVariables false
set_option linter.unusedSimpArgs false
theorem q6i {ε:Type} {step:Int→Option (Int⊕ε)} (i0 n:Nat) (h0:i0≤n) (p:Nat→Bool) (e0 e1:ε) (h:∀i,i0≤i→i<n→step (i:Int)=some (if p i=true then .inl ((i+1:Nat):Int) else .inr e0)) (hn:step (n:Int)=some (.inr e1)) :
  qq step (i0:Int)=some (if(∀i,i<n→i0≤i→p i=true) then e1 else e0):=by
 have key:∀(j i:Nat),j+i=n→i0≤i→(∀k,k<i→i0≤k→p k=true)→qq step (i:Int)=some (if(∀i,i<n→i0≤i→p i=true) then e1 else e0):=by
  intro j
  induction j with
  | zero =>
   intro i hi _ hk
   rw[Nat.zero_add] at hi
   subst hi
   rw[qz hn,if_pos hk]
  | succ j ih =>
   intro i hi h1 hk
   have hs:=h i h1 (by omega)
   by_cases hp:p i=true
   ·rw[if_pos hp] at hs
    rw[qL hs]
    refine ih (i+1) (by omega) (by omega) fun k hk2 hk3=>?_
    rcases Nat.lt_or_ge k i with h1|h1
    ·exact hk k h1 hk3
    ·have:k=i:=by omega
     rw[this];exact hp
   ·rw[if_neg hp] at hs
    rw[qz hs,if_neg fun h2=>hp (h2 i (by omega) h1)]
 exact key (n-i0) i0 (by omega) (Nat.le_refl _) fun k hk hk2=>by omega
def atB {α:Type} (l:List α) (q:α→Bool) (i:Nat):Bool:=match l[i]? with
 | some a=>q a
 | none=>true
theorem q64 {α:Type} {l:List α} {q:α→Bool} {i:Nat} {a:α} (h:l[i]?=some a):atB l q i=q a:=by unfold atB;rw[h]
theorem q8P {α:Type} (l:List α) (q:α→Bool):(∀i,i<l.length→0≤i→atB l q i=true)↔l.all q=true:=by
 rw[List.all_eq_true]
 constructor
 ·intro h a ha
  obtain⟨i,hi⟩:=List.mem_iff_getElem?.1 ha
  have:=h i (ZF hi) (Nat.zero_le _)
  rwa [q64 hi] at this
 ·intro h i hi _
  have ha:l[i]?=some l[i]:=List.getElem?_eq_getElem hi
  rw[q64 ha]
  exact h _ (List.getElem_mem hi)
theorem qkG {s:ByteArray} (hs:s.size≤1000):q14 s=some (qcz s):=by
 have hlen:s.data.toList.length=s.size:=by rw[Array.length_toList];rfl
 have nd:∀(p:Prop) [Decidable p],((!decide p)=true)↔¬ p:=by intro p _;simp
 have h1:=q6i (step:=ZT s) 0 s.data.toList.length (Nat.zero_le _) (atB s.data.toList q2z) (.inl ()) (.inr ()) (fun i _ hi=>by
  have ha:s.data.toList[i]?=some s.data.toList[i]:=List.getElem?_eq_getElem hi
  rw[q64 ha]
  generalize s.data.toList[i]=a at ha
  have hw:w64 ((i:Int)+1)=((i+1:Nat):Int):=qs (n:=10000) (by omega) (by omega)
  have h0:(0:Int)≤(i:Int):=by omega
  have hok:q2z a=true↔((65≤a.toNat∧a.toNat≤90)∨(48≤a.toNat∧a.toNat≤57)):=by unfold q2z;simp;omega
  unfold ZT
  simp only[if_pos h0,Int.toNat_natCast,ha,Option.bind_some,hw,nd]
  rw[if_pos (show(i:Int)<((s.size:Nat):Int) by omega)]
  by_cases hq:q2z a=true
  ·rw[if_pos hq]
   have hq':=hok.1 hq
   repeat' split
   all_goals first|rfl|(exfalso;omega)
  ·rw[if_neg hq]
   have hq':¬ ((65≤a.toNat∧a.toNat≤90)∨(48≤a.toNat∧a.toNat≤57)):=fun q=>hq (hok.2 q)
   repeat' split
   all_goals first|rfl|(exfalso;omega)) (by
  unfold ZT
  rw[if_neg (by omega)])
 unfold q14 qcz
 change Option.bind (qq _ ((0:Nat):Int)) _=_
 rw[h1,Option.bind_some]
 by_cases hall:∀i,i<s.data.toList.length→0≤i→atB s.data.toList q2z i=true
 ·rw[if_pos hall,Sum.elim_inr,(q8P _ _).1 hall,Bool.and_true]
  by_cases h1:(1:Int)≤((ByteArray.size s:Nat):Int)
  ·rw[if_pos h1,decide_eq_true (show s.size≠0 by omega),Bool.true_and]
   congr 1
   rw[Bool.eq_iff_iff,decide_eq_true_eq,decide_eq_true_eq]
   omega
  ·rw[if_neg h1,decide_eq_false (show ¬ s.size≠0 by omega)];rfl
 ·rw[if_neg hall,Sum.elim_inl,Bool.eq_false_iff.2 fun q=>hall ((q8P _ _).2 q),Bool.and_false]
theorem qib {c:qc} (hs:c.Code.size≤1000):q0s c=some (Zs c):=by
 unfold q0s Zs inF
 rw[qkG hs,Option.bind_some]
 cases qcz c.Code
 ·simp
 ·by_cases h:1≤c.School<;>simp[h]
structure Sm (n:qb):Prop where
 sl:n.Set.length≤1000
 cs:∀c∈n.Set,c.Code.size≤1000
theorem qxW {n:qb} (h:Sm n):qq (Qt n) (0:Int)=some (if n.Set.all Zs=true then .inr () else .inl ()):=by
 have hl:=h.sl
 have h1:=q6i (step:=Qt n) 0 n.Set.length (Nat.zero_le _) (atB n.Set Zs) (.inl ()) (.inr ()) (fun i _ hi=>by
  have ha:n.Set[i]?=some n.Set[i]:=List.getElem?_eq_getElem hi
  have hc:=h.cs _ (List.getElem_mem hi)
  have hw:w64 ((i:Int)+1)=((i+1:Nat):Int):=qs (n:=10000) (by omega) (by omega)
  rw[q64 ha]
  unfold Qt
  rw[if_pos (by omega),if_pos ⟨by omega,by omega⟩,Int.toNat_natCast,ha,Option.bind_some,qib hc,Option.bind_some,hw]
  cases Zs n.Set[i]<;>rfl) (by
  unfold Qt
  rw[if_neg (by omega)])
 change qq _ ((0:Nat):Int)=_
 rw[h1]
 by_cases hall:∀i,i<n.Set.length→0≤i→atB n.Set Zs i=true
 ·rw[if_pos hall,if_pos ((q8P _ _).1 hall)]
 ·rw[if_neg hall,if_neg fun q=>hall ((q8P _ _).2 q)]
noncomputable def nxB (l:List qc) (i:Nat):Bool:=match l[i-1]?,l[i]? with
 | some a,some b=>q1N a b
 | _,_=>true
theorem qhT:∀l:List qc,(∀i,i<l.length→1≤i→nxB l i=true)↔qbh l=true
 | []=>⟨fun _=>rfl,fun _ i hi=>by simp at hi⟩
 | [x]=>⟨fun _=>rfl,fun _ i hi h1=>by simp at hi;omega⟩
 | x::y::l=>by
  rw[q1t,Bool.and_eq_true,←qhT (y::l)]
  constructor
  ·intro h
   refine⟨h 1 (by simp) (Nat.le_refl _),fun i hi h1=>?_⟩
   have:=h (i+1) (by simp at hi ⊢;omega) (by omega)
   unfold nxB at this ⊢
   rw[Nat.add_sub_cancel] at this
   obtain⟨j,rfl⟩:∃j,i=j+1:=⟨i-1,by omega⟩
   rw[Nat.add_sub_cancel]
   simpa using this
  ·rintro⟨h1,h2⟩ i hi hi1
   by_cases e:i=1
   ·subst e;exact h1
   ·have:=h2 (i-1) (by simp at hi ⊢;omega) (by omega)
    unfold nxB at this ⊢
    obtain⟨j,rfl⟩:∃j,i=j+2:=⟨i-2,by omega⟩
    simpa using this
theorem qyx {n:qb} (h:Sm n) (h1:1≤n.Set.length):qq (Qq n) (1:Int)=some (if qbh n.Set=true then .inr () else .inl ()):=by
 have hl:=h.sl
 have h2:=q6i (step:=Qq n) 1 n.Set.length h1 (nxB n.Set) (.inl ()) (.inr ()) (fun i hi0 hi=>by
  have ha:n.Set[i]?=some n.Set[i]:=List.getElem?_eq_getElem hi
  have hb:n.Set[i-1]?=some (n.Set[i-1]'(by omega)):=List.getElem?_eq_getElem (by omega)
  generalize n.Set[i]=a at ha
  generalize n.Set[i-1]'(by omega)=b at hb
  have hw:w64 ((i:Int)+1)=((i+1:Nat):Int):=qs (n:=10000) (by omega) (by omega)
  have hw2:w64 ((i:Int)-1)=((i-1:Nat):Int):=by rw[zI (by omega) (by omega)];omega
  have hnx:nxB n.Set i=qW b a:=by unfold nxB;rw[ha,hb];rfl
  rw[hnx]
  unfold Qq
  rw[if_pos (by omega),hw2,if_pos ⟨by omega,by omega⟩,Int.toNat_natCast,hb,Option.bind_some,if_pos ⟨by omega,by omega⟩,Int.toNat_natCast,ha,Option.bind_some,hw]
  cases qW b a<;>rfl) (by
  unfold Qq
  rw[if_neg (by omega)])
 change qq _ ((1:Nat):Int)=_
 rw[h2]
 by_cases hall:∀i,i<n.Set.length→1≤i→nxB n.Set i=true
 ·rw[if_pos hall,if_pos ((qhT _).1 hall)]
 ·rw[if_neg hall,if_neg fun q=>hall ((qhT _).2 q)]
theorem qjp (n a b:Int):Qh n a b=inF n a b:=by
 unfold Qh inF
 by_cases h:a≤n<;>simp[h]
theorem qbO {n:qb} (h:Sm n):(if(!(Qh n.Min (-(1000:Int)) (1000:Int)))=Bool.true then some (3:Int)
  else if(((n.Set.length:Nat):Int)==(0:Int))=Bool.true then some (2:Int)
  else if(12:Int)<((n.Set.length:Nat):Int) then some (2:Int)
  else Option.bind (qq (Qt n) (0:Int)) fun(a:Sum Unit Unit) =>
  Sum.elim (fun(a2:Unit)=>some (1:Int)) (fun(a3:Unit)=>Option.bind (qq (Qq n) (1:Int)) fun(a4:Sum Unit Unit) =>
   Sum.elim (fun(a5:Unit)=>some (7:Int)) (fun(a6:Unit)=>some (0:Int)) a4) a)=some (q03 n):=by
 unfold q03
 rw[qjp,qxW h,Option.bind_some]
 cases hm:inF n.Min (-1000) 1000
 ·simp
 ·rw[if_neg (by decide),if_neg (show ¬ (true=false) by decide)]
  by_cases h0:n.Set.length=0
  ·rw[if_pos (by rw[h0];rfl),if_pos (by unfold inF;rw[h0];rfl)]
  ·rw[if_neg (by rw[beq_iff_eq];omega)]
   by_cases h12:(12:Int)<((n.Set.length:Nat):Int)
   ·have hin:inF n.Set.length 1 12=false:=by unfold inF;rw[decide_eq_false (show ¬ ((n.Set.length:Int)≤12) by omega),Bool.and_false]
    rw[if_pos h12,if_pos hin]
   ·have hin:¬ (inF n.Set.length 1 12=false):=by unfold inF;rw[decide_eq_true (show(1:Int)≤(n.Set.length:Int) by omega),decide_eq_true (show((n.Set.length:Int)≤12) by omega)];decide
    rw[if_neg h12,if_neg hin,qyx h (by omega)]
    cases n.Set.all Zs
    ·rfl
    ·cases qbh n.Set<;>rfl
theorem qs3 {n:qb} (h:Sm n):q1r n=some (q1L n):=by
 have ct:=qbO h
 unfold q1r q1L
 have hL:(0:Int)<((n.L.length:Nat):Int)↔n.L≠[]:=by
  cases n.L<;>simp<;>omega
 by_cases e1:n.Kind=1
 ·rw[if_pos (by rw[e1];rfl),if_pos e1,ct]
  by_cases h1:n.N=0
  ·rw[if_neg (by rw[h1];decide)]
   by_cases h2:n.L=[]
   ·have hx:¬ (n.N≠0∨n.L≠[]):=by rintro(q|q);exact q h1;exact q h2
    rw[if_neg (fun q=>hL.1 q h2),if_neg hx]
   ·rw[if_pos (hL.2 h2),if_pos (.inr h2)]
  ·rw[if_pos (by simpa using h1),if_pos (.inl h1)]
 ·rw[if_neg (by simpa using e1),if_neg e1]
  by_cases e2:n.Kind=2
  ·rw[if_pos (by rw[e2];rfl),if_pos e2,ct,qjp]
   by_cases h2:n.L=[]
   ·have hx:¬ (n.L≠[]):=fun q=>q h2
    rw[if_neg (fun q=>hL.1 q h2),if_neg hx]
    cases inF n.N 1 600<;>rfl
   ·have hx:n.L≠[]:=h2
    rw[if_pos (hL.2 h2),if_pos hx]
  ·rw[if_neg (by simpa using e2),if_neg e2]
   have hbare:∀X:Option Int,(if(n.Min != (0:Int))=Bool.true then some (13:Int) else if(0:Int)<((n.Set.length:Nat):Int) then some (13:Int) else if(((n.L.length:Nat):Int)==(0:Int))=Bool.true then some (13:Int) else X)=if q3f n=true then X else some 13:=fun X=>by
    unfold q3f
    by_cases g1:n.Min=0
    ·rw[if_neg (by rw[g1];decide)]
     cases hS:n.Set with
     | cons a S=>rw[if_pos (by simp<;>omega),if_neg (by simp)]
     | nil =>
      rw[if_neg (by simp)]
      cases hl:n.L with
      | nil=>rw[if_pos (by simp),if_neg (by simp)]
      | cons a S=>rw[if_neg (by simp<;>omega),if_pos (by simp[g1])]
    ·rw[if_pos (by simpa using g1),if_neg (by simp[g1])]
   by_cases e3:n.Kind=3
   ·have k3:(n.Kind==(3:Int))=true:=by rw[e3];rfl
    have k4:¬ ((n.Kind==(4:Int))=true):=by rw[e3];decide
    rw[if_pos k3,if_pos e3,hbare,if_pos k3,if_neg k4]
    cases hb:q3f n
    ·rw[if_neg (by decide),if_pos (.inl rfl)]
    ·rw[if_pos rfl]
     by_cases h1:n.N=0
     ·have hx:¬ (true=false∨n.N≠0):=by rintro(q|q);cases q;exact q h1
      have hy:¬ ((n.N != (0:Int))=true):=by rw[h1];decide
      rw[if_neg hy,if_neg hx]
     ·have hx:true=false∨n.N≠0 := .inr h1
      have hy:(n.N != (0:Int))=true:=by simpa using h1
      rw[if_pos hy,if_pos hx]
   ·have k3:¬ ((n.Kind==(3:Int))=true):=by simpa using e3
    rw[if_neg k3,if_neg e3]
    by_cases e4:n.Kind=4
    ·have k4:(n.Kind==(4:Int))=true:=by rw[e4];rfl
     rw[if_pos k4,if_pos e4,hbare,if_neg k3,if_pos k4,qjp]
     cases q3f n
     ·rfl
     ·cases inF n.N 1 ((n.L.length:Nat):Int)<;>rfl
    ·rw[if_neg (by simpa using e4),if_neg e4]
theorem qla:∀(n:qb) (d m:Int),5<dpN d n m↔5<m∨∃x∈itN d n,(5:Int)<x.Deep:=by
 intro n
 induction n using qb.rec (motive_2:=fun L=>∀(d m:Int),5<dpL d L m↔5<m∨∃x∈itL d L,(5:Int)<x.Deep) with
 | mk k n m S L ih =>
  intro d mm
  rw[dpN,itN,ih]
  simp only[List.mem_cons,exists_eq_or_imp]
  have hm:5<max mm d↔5<mm∨5<d:=by omega
  rw[hm,or_assoc]
 | nil=>rename_i d m;rw[dpL,itL];simp
 | cons x L h1 h2 =>
  rename_i d m
  rw[dpL,itL,h2,h1]
  simp only[List.mem_append,or_and_right,exists_or,or_assoc]
theorem qec (n:qb):Zm n=Qx n:=by
 unfold Zm Qx
 cases h:(n.Kind != 3)<;>simp
theorem qef (l:List qj) (hl:l.length≤1000):∀(r:List qj) (i:Nat) (c:Nat),r.length+i=l.length→(∀j,r[j]?=l[i+j]?)→c≤i →
  ∃e,qq (Q8 l) ((c:Int),(i:Int))=some e∧(((∃x∈r,(5:Int)<x.Deep)∧∃z,e = .inl z)∨((¬ ∃x∈r,(5:Int)<x.Deep)∧e = .inr ((c+((r.map (·.Need)).filter Qx).length:Nat):Int)))
 | [],i,c,hi,_,hc=>by
  refine⟨_,qz (e := .inr (c:Int)) ?_,.inr ⟨by simp,by simp⟩⟩
  unfold Q8
  dsimp only
  rw[if_neg (by simp at hi;omega)]
 | x::r,i,c,hi,hr,hc=>by
  rw[List.length_cons] at hi
  have ha:l[i]?=some x:=by have:=hr 0;simpa using this.symm
  have hw:w64 ((i:Int)+1)=((i+1:Nat):Int):=qs (n:=10000) (by omega) (by omega)
  have hw2:w64 ((c:Int)+1)=((c+1:Nat):Int):=qs (n:=10000) (by omega) (by omega)
  have hr2:∀j,r[j]?=l[i+1+j]?:=fun j=>by
   have:=hr (j+1)
   rw[show i+1+j=i+(j+1) by omega,←this];rfl
  by_cases hd:(5:Int)<x.Deep
  ·refine⟨_,qz (e := .inl (c:Int)) ?_,.inl ⟨⟨x,List.mem_cons_self,hd⟩,_,rfl⟩⟩
   unfold Q8
   dsimp only
   rw[if_pos (by omega),if_pos ⟨by omega,by omega⟩,Int.toNat_natCast,ha,Option.bind_some,if_pos hd]
  ·have hstep:Q8 l ((c:Int),(i:Int))=some (.inl (((c+(if Qx x.Need=true then 1 else 0):Nat):Int),((i+1:Nat):Int))):=by
    unfold Q8
    dsimp only
    rw[if_pos (by omega),if_pos ⟨by omega,by omega⟩,Int.toNat_natCast,ha,Option.bind_some,if_neg hd,if_pos ⟨by omega,by omega⟩,Option.bind_some,qec,hw,hw2]
    cases Qx x.Need<;>rfl
   obtain⟨e,q1,q2⟩:=qef l hl r (i+1) (c+(if Qx x.Need=true then 1 else 0)) (by omega) hr2 (by split<;>omega)
   refine⟨e,by rw[qL hstep,q1],?_⟩
   rcases q2 with ⟨⟨y,hy,hy2⟩,q⟩|⟨q,q3⟩
   ·exact .inl ⟨⟨y,List.mem_cons_of_mem _ hy,hy2⟩,q⟩
   ·refine .inr ⟨?_,?_⟩
    ·rintro⟨y,hy,hy2⟩
     rcases List.mem_cons.1 hy with e|hy
     ·rw[e] at hy2;exact hd hy2
     ·exact q ⟨y,hy,hy2⟩
    ·rw[q3,List.map_cons,List.filter_cons]
     cases Qx x.Need
     ·simp
     ·simp;omega
theorem qcg {n:qb} (hz:Szs n) (hsm:∀y∈ndN n,Sm y):q0t n=some (q4j n):=by
 have hnd:=hz.nd
 unfold q0t q4j
 rw[qaP n hz.hg hz.nd,Option.bind_some,Sum.elim_inr,q5F]
 by_cases h24:24<(ndN n).length
 ·rw[if_pos (by omega),if_pos h24]
 ·rw[if_neg (by omega),if_neg h24]
  obtain⟨e,q1,q2⟩:=qef (itN 1 n) (by rw[q5F];omega) (itN 1 n) 0 0 (by simp) (by simp) (Nat.le_refl _)
  have q1':qq (Q8 (itN 1 n)) ((0:Int),(0:Int))=some e:=q1
  rw[q1',Option.bind_some]
  have hdp:=qla n 1 0
  rcases q2 with ⟨q,z,rfl⟩|⟨q,rfl⟩
  ·rw[Sum.elim_inl,if_pos (hdp.2 (.inr q))]
  ·have hdn:¬ 5<dpN 1 n 0:=fun h=>by rcases hdp.1 h with h|h;exact absurd h (by decide);exact q h
   rw[Sum.elim_inr,if_neg hdn,q6V,Nat.zero_add]
   have h15:=q8Q (ε:=Int⊕Unit) (step:=QH (itN 1 n)) (itN 1 n) (fun i=>(i:Int)) (fun x=>if q1L x.Need≠0 then some (.inl (q1L x.Need)) else none) (.inr ()) (fun i x hx=>by
    have hi:=ZF hx
    rw[q5F] at hi
    have hw:w64 ((i:Int)+1)=((i+1:Nat):Int):=qs (n:=100000) (by omega) (by omega)
    have hmem:x.Need∈ndN n:=by rw[←q6V n 1];exact List.mem_map.2 ⟨x,List.mem_of_getElem? hx,rfl⟩
    unfold QH
    rw[q5F,if_pos (by omega),if_pos ⟨by omega,by omega⟩,Int.toNat_natCast,hx,Option.bind_some,qs3 (hsm _ hmem),Option.bind_some,hw]
    by_cases h:q1L x.Need=0<;>simp[h]) (by
    unfold QH
    rw[if_neg (by omega)])
   have herr:∀l:List qj,(l.findSome? (fun x=>if q1L x.Need≠0 then some (Sum.inl (q1L x.Need)) else none):Option (Int⊕Unit))=(qg1 (l.map (·.Need))).map .inl:=by
    intro l
    unfold qg1
    induction l with
    | nil=>rfl
    | cons x l ih =>
     rw[List.findSome?_cons,List.map_cons,List.findSome?_cons]
     by_cases h:q1L x.Need=0
     ·simp only[h,ne_eq,not_true_eq_false,if_false];exact ih
     ·simp only[h,ne_eq,not_false_eq_true,if_true];rfl
   have h15':qq (QH (itN 1 n)) (0:Int)=some (((qg1 (ndN n)).map .inl).getD (.inr ())):=by
    rw[←q6V n 1,←herr];exact h15
   have hfl:((ndN n).filter Qx).length≤24:=Nat.le_trans (List.length_filter_le ..) (by omega)
   generalize ((ndN n).filter Qx).length=c at hfl
   by_cases h0:c=0
   ·have hc0:(((c:Nat):Int)==0)=true:=by rw[h0];rfl
    have hin:inF c 1 8=false:=by rw[h0];rfl
    rw[if_pos hc0,if_pos hin]
   ·have hc0:¬ ((((c:Nat):Int)==0)=true):=by rw[beq_iff_eq];omega
    rw[if_neg hc0]
    by_cases h8:(8:Int)<((c:Nat):Int)
    ·have hin:inF c 1 8=false:=by unfold inF;rw[decide_eq_false (show ¬ ((c:Int)≤8) by omega),Bool.and_false]
     rw[if_pos h8,if_pos hin]
    ·have hin:¬ (inF c 1 8=false):=by unfold inF;rw[decide_eq_true (show(1:Int)≤(c:Int) by omega),decide_eq_true (show((c:Int)≤8) by omega)];decide
     rw[if_neg h8,if_neg hin,h15',Option.bind_some]
     cases qg1 (ndN n)<;>rfl
end Go.Proofs.YtgejdfnidjnjcaaGreat.Vc
namespace Go.Proofs.YtgejdfnidjnjcaaGreat.Vc
open Go.RowKit
set_option linter.unusedVariables false
set_option linter.unusedSimpArgs false
theorem qjx (leaf:Int) (set:Nat):∀(d:List Int) (k:Nat),alG leaf set d k=true↔∀j,(h:j<d.length)→(set.testBit (k+j)==(d[j]==leaf))=true
 | [],k=>by simp[alG]
 | x::d,k=>by
  rw[alG,Bool.and_eq_true,qjx leaf set d (k+1)]
  constructor
  ·rintro⟨h1,h2⟩ j hj
   cases j with
   | zero=>simpa using h1
   | succ j=>have:=h2 j (by simpa using hj);rwa [show k+1+j=k+(j+1) by omega] at this
  ·intro h
   refine⟨h 0 (by simp),fun j hj=>?_⟩
   have:=h (j+1) (by simpa using hj)
   rwa [show k+(j+1)=k+1+j by omega] at this
def agB (d:List Int) (leaf:Int) (set j:Nat):Bool:=match d[j]? with
 | some x=>set.testBit j==(x==leaf)
 | none=>true
theorem qic (d:List Int) (hd:d.length≤16) (W B P lf:Int) (l:List qa) (nx set:Nat) (hs:set<9223372036854775808):QS (set:Int) (nx:Int) d W B P l lf=some (alF d nx set):=by
 have h:=q6i (step:=zF d W B P l lf (set:Int) (nx:Int)) 0 d.length (Nat.zero_le _) (agB d (nx:Int) set) (.inl ()) (.inr ()) (fun i _ hi=>by
  have hw:w64 ((i:Int)+1)=((i+1:Nat):Int):=qs (n:=100) (by omega) (by omega)
  have ha:d[i]?=some d[i]:=List.getElem?_eq_getElem hi
  have hag:agB d (nx:Int) set i=(set.testBit i==(d[i]==(nx:Int))):=by unfold agB;rw[ha]
  unfold zF
  rw[hag,if_pos (by omega),if_pos (by omega),if_pos ⟨by omega,by omega⟩,Int.toNat_natCast,ha,Option.bind_some,q5A set i hs (by omega),hw]
  cases(set.testBit i==(d[i]==(nx:Int)))<;>rfl) (by
  unfold zF
  rw[if_neg (by omega)])
 have hiff:(∀i,i<d.length→0≤i→agB d (nx:Int) set i=true)↔alF d nx set=true:=by
  unfold alF
  rw[qjx]
  constructor
  ·intro h j hj
   have:=h j hj (Nat.zero_le _)
   unfold agB at this
   rw[List.getElem?_eq_getElem hj] at this
   rwa [Nat.zero_add]
  ·intro h j hj _
   have:=h j hj
   unfold agB
   rw[List.getElem?_eq_getElem hj]
   rwa [Nat.zero_add] at this
 unfold QS
 change Option.bind (qq _ ((0:Nat):Int)) _=_
 rw[h,Option.bind_some]
 by_cases ha:∀i,i<d.length→0≤i→agB d (nx:Int) set i=true
 ·rw[if_pos ha,Sum.elim_inr,hiff.1 ha]
 ·rw[if_neg ha,Sum.elim_inl,Bool.eq_false_iff.2 fun q=>ha (hiff.2 q)]
theorem qfM (d:List Int) (hd:d.length≤16) (W B P lf:Int) (l:List qa) (a b:Nat):QD (a:Int) (b:Int) d W B P l lf=some (foF d a b):=by
 have h:=q6i (step:=zw d W B P l lf (a:Int) (b:Int)) 0 d.length (Nat.zero_le _) (atB d (fun x => !(decide ((a:Int)≤x)&&decide (x<(b:Int))))) (.inl ()) (.inr ()) (fun i _ hi=>by
  have hw:w64 ((i:Int)+1)=((i+1:Nat):Int):=qs (n:=100) (by omega) (by omega)
  have ha:d[i]?=some d[i]:=List.getElem?_eq_getElem hi
  rw[q64 ha]
  generalize d[i]=x at ha
  unfold zw
  rw[if_pos (by omega),if_pos ⟨by omega,by omega⟩,Int.toNat_natCast,ha,Option.bind_some,hw]
  by_cases h1:(a:Int)≤x
  ·rw[if_pos h1,if_pos ⟨by omega,by omega⟩,Option.bind_some,decide_eq_true h1,Bool.true_and]
   by_cases h2:x<(b:Int)
   ·rw[if_pos h2,decide_eq_true h2];rfl
   ·rw[if_neg h2,decide_eq_false h2];rfl
  ·rw[if_neg h1,decide_eq_false h1];rfl) (by
  unfold zw
  rw[if_neg (by omega)])
 have hiff:=q8P d (fun x => !(decide ((a:Int)≤x)&&decide (x<(b:Int))))
 have hfo:foF d a b = !(d.all (fun x => !(decide ((a:Int)≤x)&&decide (x<(b:Int))))):=by
  unfold foF
  rw[List.not_all_eq_any_not]
  congr 1
  funext x
  rw[Bool.not_not]
 unfold QD
 change Option.bind (qq _ ((0:Nat):Int)) _=_
 rw[h,Option.bind_some,hfo]
 by_cases ha:∀i,i<d.length→0≤i→atB d (fun x => !(decide ((a:Int)≤x)&&decide (x<(b:Int)))) i=true
 ·rw[if_pos ha,Sum.elim_inr,hiff.1 ha];rfl
 ·rw[if_neg ha,Sum.elim_inl,Bool.eq_false_iff.2 fun q=>ha (hiff.2 q)];rfl
section
variable (d:List Int) (w2:List Bool) (W B P nx:Int) (l:List qa) (hl:l.length≤16) (n:qb) (hn:n.Set.length≤1000000)
include hl
theorem qci (set:Int) (m c:Int) (i:Nat) (hi:i≤l.length):qq (qv d w2 W B P l nx n set) (m,(c,(false,(i:Int))))=some (m,c,false):=by
 refine qz ?_
 unfold qv
 dsimp only
 by_cases h:(i:Int)<((l.length:Nat):Int)
 ·rw[if_pos h,if_neg (by decide)]
 ·rw[if_neg h]
include hn
theorem qgo {set:Nat} (hs:set<9223372036854775808):∀(r:List qa) (i:Nat) (x:qn),r.length+i=l.length→(∀j,r[j]?=l[i+j]?)→x.fine=true →
  ∃e,qq (qv d w2 W B P l nx n (set:Int)) (x.many,(x.credits,(true,(i:Int))))=some e∧e.2.2=(wgF n ⟨W,B,P⟩ set r i x).fine∧(e.2.2=true→e.1=(wgF n ⟨W,B,P⟩ set r i x).many∧e.2.1=(wgF n ⟨W,B,P⟩ set r i x).credits)
 | [],i,x,hi,_,hx=>by
  refine⟨_,qz (e:=(x.many,x.credits,true)) ?_,by rw[wgF];exact hx.symm,fun _=>⟨rfl,rfl⟩⟩
  unfold qv
  dsimp only
  rw[if_neg (by simp at hi;omega)]
 | a::r,i,x,hi,hr,hx=>by
  rw[List.length_cons] at hi
  have ha:l[i]?=some a:=by have:=hr 0;simpa using this.symm
  have hw:w64 ((i:Int)+1)=((i+1:Nat):Int):=qs (n:=100) (by omega) (by omega)
  have hr2:∀j,r[j]?=l[i+1+j]?:=fun j=>by
   have:=hr (j+1)
   rw[show i+1+j=i+(j+1) by omega,←this];rfl
  have hc:(0:Int)≤(i:Int)∧(i:Int)<((l.length:Nat):Int):=⟨by omega,by omega⟩
  rw[wgF]
  by_cases hb:set.testBit i=true
  ·have hstep:qv d w2 W B P l nx n (set:Int) (x.many,(x.credits,(true,(i:Int))))=some (.inl (w64 (x.many+1),(w64 (x.credits+a.Credits),(q7X n ⟨W,B,P⟩ a,((i+1:Nat):Int))))):=by
    unfold qv
    dsimp only
    rw[if_pos hc.2,if_pos rfl,if_pos hc.1,Int.toNat_natCast,q5A set i hs (by omega),if_pos hb,if_pos hc,ha,Option.bind_some,if_pos hc,Option.bind_some,qdW n hn,Option.bind_some,hw]
   rw[if_pos hb,qL hstep]
   cases hf:q7X n ⟨W,B,P⟩ a
   ·refine⟨_,qci d w2 W B P nx l hl n _ _ _ _ (by omega),?_,fun h=>by cases h⟩
    exact(qaI n _ set r (i+1) _ (by simp)).symm
   ·rw[hx,Bool.true_and]
    exact qgo hs r (i+1) ⟨w64 (x.many+1),w64 (x.credits+a.Credits),true⟩ (by omega) hr2 rfl
  ·have hstep:qv d w2 W B P l nx n (set:Int) (x.many,(x.credits,(true,(i:Int))))=some (.inl (x.many,(x.credits,(true,((i+1:Nat):Int))))):=by
    unfold qv
    dsimp only
    rw[if_pos hc.2,if_pos rfl,if_pos hc.1,Int.toNat_natCast,q5A set i hs (by omega),if_neg hb,hw]
   rw[if_neg hb,qL hstep]
   exact qgo hs r (i+1) x (by omega) hr2 hx
end
theorem qaz (d:List Int) (hd:d.length≤16) (W B P:Int) (l:List qa) (hl:l.length≤16) (n:qb) (hn:n.Set.length≤1000000) (nx:Nat) (hnx:nx≤1000000):Qi n d W B P l (nx:Int)=some (qQ (2 ^ l.length) (Qd d ⟨W,B,P⟩ l n nx),((nx+1:Nat):Int)):=by
 have hN:=qcH hl
 have hN1:1≤2 ^ l.length:=Nat.one_le_two_pow
 have h1:=QC (step:=zm d W B P l (nx:Int) n) (fun i=>(qQ (2 ^ l.length) (fun k=>if 1≤k∧k<i then Qd d ⟨W,B,P⟩ l n nx k else false),(i:Int))) 1 (2 ^ l.length) hN1 (e:=qQ (2 ^ l.length) (Qd d ⟨W,B,P⟩ l n nx)) (fun i h1 hi=>by
   have hw:w64 ((i:Int)+1)=((i+1:Nat):Int):=qs hi (by omega)
   have hc:qQ (2 ^ l.length) (q1R (fun k=>if 1≤k∧k<i then Qd d ⟨W,B,P⟩ l n nx k else false) i (Qd d ⟨W,B,P⟩ l n nx i))=qQ (2 ^ l.length) (fun k=>if 1≤k∧k<i+1 then Qd d ⟨W,B,P⟩ l n nx k else false):=by
    rw[q8a (Qd d ⟨W,B,P⟩ l n nx) false h1]
   have hv:=qbQ d ⟨W,B,P⟩ l hl n nx i (by omega) hi
   obtain⟨e,q1,q2,q3⟩:=qgo d (qQ (2 ^ l.length) (fun k=>if 1≤k∧k<i then Qd d ⟨W,B,P⟩ l n nx k else false)) W B P (nx:Int) l hl n hn (set:=i) (by omega) l 0 ld0 (by simp) (by simp) rfl
   have q1':qq (qv d (qQ (2 ^ l.length) (fun k=>if 1≤k∧k<i then Qd d ⟨W,B,P⟩ l n nx k else false)) W B P l (nx:Int) n (i:Int)) ((0:Int),((0:Int),(true,(0:Int))))=some e:=q1
   have hag:=qic d hd W B P (nx:Int) l nx i (by omega)
   obtain⟨e2,p1,p2,p3⟩:∃e2,qq (qv d (qQ (2 ^ l.length) (fun k=>if 1≤k∧k<i then Qd d ⟨W,B,P⟩ l n nx k else false)) W B P l (nx:Int) n (i:Int)) ((0:Int),((0:Int),(alF d nx i,(0:Int))))=some e2∧e2.2.2=(alF d nx i&&e.2.2)∧(e2.2.2=true→e2.1=e.1∧e2.2.1=e.2.1):=by
    cases alF d nx i
    ·exact⟨_,qci d _ W B P nx l hl n _ _ _ 0 (by omega),rfl,fun h=>by cases h⟩
    ·exact⟨e,q1',by rw[Bool.true_and],fun _=>⟨rfl,rfl⟩⟩
   generalize wgF n ⟨W,B,P⟩ i l 0 ld0=y at q2 q3 hv
   have hcl:(0:Int)≤(i:Int)∧(i:Int)<((2 ^ l.length:Nat):Int):=⟨by omega,by omega⟩
   unfold zm
   dsimp only
   rw[qm,if_pos hcl.2,hag,Option.bind_some,p1,Option.bind_some,hw]
   by_cases hk:n.Kind=1
   ·rw[if_pos hk] at hv
    rw[if_pos (by rw[hk];rfl)]
    cases hf:e2.2.2
    ·have hv2:Qd d ⟨W,B,P⟩ l n nx i=false:=by
      rw[hf] at p2
      rw[hv,←q2]
      cases h1:alF d nx i
      ·rfl
      ·rw[h1,Bool.true_and] at p2
       rw[←p2];rfl
     rw[if_neg (by decide),if_pos hcl,Int.toNat_natCast,if_pos (by omega),qM,←hc,hv2]
    ·have hv2:Qd d ⟨W,B,P⟩ l n nx i=(e2.1==1):=by
      have:=p3 hf
      rw[hf] at p2
      have p4:=(Bool.and_eq_true _ _).mp p2.symm
      rw[hv,p4.1,←q2,p4.2,this.1,(q3 p4.2).1];rfl
     rw[if_pos rfl,if_pos hcl,Int.toNat_natCast,if_pos (by omega),qM,←hc,hv2]
   ·rw[if_neg hk] at hv
    rw[if_neg (by simpa using hk)]
    cases hf:e2.2.2
    ·have hv2:Qd d ⟨W,B,P⟩ l n nx i=false:=by
      rw[hf] at p2
      rw[hv,←q2]
      cases h1:alF d nx i
      ·rfl
      ·rw[h1,Bool.true_and] at p2
       rw[←p2];rfl
     rw[if_neg (by decide),if_pos hcl,Int.toNat_natCast,if_pos (by omega),qM,←hc,hv2]
    ·have hv2:Qd d ⟨W,B,P⟩ l n nx i=decide (n.N≤e2.2.1):=by
      have:=p3 hf
      rw[hf] at p2
      have p4:=(Bool.and_eq_true _ _).mp p2.symm
      rw[hv,p4.1,←q2,p4.2,this.2,(q3 p4.2).2];rfl
     rw[if_pos rfl,if_pos hcl,Int.toNat_natCast,if_pos (by omega),qM,←hc,hv2]) (by
   unfold zm
   dsimp only
   rw[qm,if_neg (by omega),qcb])
 have e:(fun k:Nat=>if 1≤k∧k<1 then Qd d ⟨W,B,P⟩ l n nx k else false)=fun _=>false:=by funext k;rw[if_neg (by omega)]
 rw[e,←ZM] at h1
 have h1':qq (zm d W B P l (nx:Int) n) (List.replicate (2 ^ l.length) false,(1:Int))=some (qQ (2 ^ l.length) (Qd d ⟨W,B,P⟩ l n nx)):=h1
 unfold Qi
 rw[qvF hl,if_pos (by omega),if_pos ⟨by omega,by omega,by omega⟩,Int.toNat_natCast,h1',Option.bind_some,qs (n:=10000000) (by omega) (by omega)]
section
variable {N:Nat} {best:Nat→Int} {M:Int} {rF:(qb×List Int×Int×Int×Int×List qa×Int)→Option (List Bool×List Int×Int×Int×Int×List qa×Int)} (d:List Int) (W B P nx:Int) (l:List qa) (n:qb)
theorem qsj (hN:N≤65536) (hN1:1≤N):qq (zD rF d W B P l nx n) (List.replicate N 0,(1:Int))=some (qQ N b0F):=by
 have h1:=QC (step:=zD rF d W B P l nx n) (fun i=>(qQ N (fun k=>if 1≤k∧k<i then -1 else 0),(i:Int))) 1 N hN1 (e:=qQ N b0F) (fun i h1 hi=>by
   have hw:w64 ((i:Int)+1)=((i+1:Nat):Int):=qs hi (by omega)
   unfold zD
   dsimp only
   rw[qm,if_pos (by omega),if_pos ⟨by omega,by omega⟩,Int.toNat_natCast,if_pos (by omega),hw,qM]
   rw[q8a (fun _=>(-1:Int)) 0 h1]) (by
   unfold zD
   dsimp only
   rw[qm,if_neg (by omega)]
   congr 2
   refine Qj fun k hk=>?_
   unfold b0F
   by_cases h:k=0
   ·rw[if_pos h,if_neg (by omega)]
   ·rw[if_neg h,if_pos (by omega)])
 rw[ZM]
 have e:(fun k:Nat=>if 1≤k∧k<1 then(-1:Int) else 0)=fun _=>0:=by funext k;rw[if_neg (by omega)]
 rw[e] at h1
 exact h1
theorem qig (hN:N≤65536) (hN1:1≤N) (least:Int):qq (zc rF d (qQ N best) W B P l nx least) (List.replicate N false,(1:Int))=some (qQ N (fun k=>decide (k≠0)&&decide (least≤best k))):=by
 have h1:=QC (step:=zc rF d (qQ N best) W B P l nx least) (fun i=>(qQ N (fun k=>if 1≤k∧k<i then decide (least≤best k) else false),(i:Int))) 1 N hN1 (e:=qQ N (fun k=>decide (k≠0)&&decide (least≤best k))) (fun i h1 hi=>by
   have hw:w64 ((i:Int)+1)=((i+1:Nat):Int):=qs hi (by omega)
   unfold zc
   dsimp only
   rw[qm,qm,if_pos (by omega),if_pos ⟨by omega,by omega⟩,Int.toNat_natCast,zY best hi,Option.bind_some,if_pos ⟨by omega,by omega⟩,if_pos (by omega),hw,qM]
   rw[q8a (fun k=>decide (least≤best k)) false h1]) (by
   unfold zc
   dsimp only
   rw[qm,if_neg (by omega)]
   congr 2
   refine Qj fun k hk=>?_
   by_cases h:k=0
   ·subst h;simp
   ·rw[if_pos ⟨by omega,hk⟩];simp[h])
 rw[ZM]
 have e:(fun k:Nat=>if 1≤k∧k<1 then decide (least≤best k) else false)=fun _=>false:=by funext k;rw[if_neg (by omega)]
 rw[e] at h1
 exact h1
theorem qoR (hN:N≤65536) (hM:M≤1000000) (hb:Bnd best N M) (own:Nat→Bool) (t7:Int) (t10:Bool) {set:Nat} (hs:set<N):∀(f sub:Nat),sub≤f→sub &&& set=sub→∀(g:Nat→Int),
  qq (qD rF d (qQ N best) W B P l nx n t7 (qQ N own) t10 (set:Int)) (qQ N g,(sub:Int))=some (qQ N (q1R g set (eaF own best set f sub (g set)))):=by
 have h0:∀(g:Nat→Int),qq (qD rF d (qQ N best) W B P l nx n t7 (qQ N own) t10 (set:Int)) (qQ N g,((0:Nat):Int))=some (qQ N g):=fun g=>by
  refine qz ?_
  unfold qD
  dsimp only
  rw[if_neg (by decide)]
 intro f
 induction f with
 | zero =>
  intro sub hf _ g
  have:sub=0:=by omega
  subst this
  rw[h0]
  unfold eaF
  rw[q1V]
 | succ f ih =>
  intro sub hf hsub g
  unfold eaF
  by_cases hz:sub=0
  ·subst hz
   rw[h0,if_pos rfl,q1V]
  ·have ha:(sub-1) &&& set≤sub-1:=Nat.and_le_left
   have hle:sub≤set:=by rw[←hsub];exact Nat.and_le_right
   have hr:=q8F set sub
   have hbr:=hb (Zi set sub) (by omega)
   have hsl:=qf9 set sub hsub
   have hws:w64 ((set:Int)-(sub:Int))=((Zi set sub:Nat):Int):=by rw[zI (by omega) (by omega),←hsl];omega
   have hand:QT Go.BinOp.and Go.IntKind.i64 (w64 ((sub:Int)-1)) (set:Int)=(((sub-1) &&& set:Nat):Int):=by
    rw[zI (by omega) (by omega),show((sub:Int)-1)=((sub-1:Nat):Int) by omega,q7k _ _ (by omega) (by omega)]
   have hstep:qD rF d (qQ N best) W B P l nx n t7 (qQ N own) t10 (set:Int) (qQ N g,(sub:Int))=some (.inl (qQ N (q1R g set (eaV own best set sub (g set))),(((sub-1) &&& set:Nat):Int))):=by
    unfold qD
    dsimp only
    rw[if_pos (by omega),qm,if_pos ⟨by omega,by omega⟩,Int.toNat_natCast,zY own (by omega),Option.bind_some,hand]
    cases ho:own sub
    ·have hv:eaV own best set sub (g set)=g set:=by unfold eaV;rw[if_neg (by simp[ho])]
     rw[if_neg (by decide),hv,q1V]
    ·rw[if_pos rfl,hws,qm,if_pos ⟨by omega,by omega⟩,Int.toNat_natCast,zY best (by omega),Option.bind_some]
     by_cases hq:0≤best (Zi set sub)
     ·have hv:eaV own best set sub (g set)=max (g set) (best (Zi set sub)+1):=by unfold eaV;rw[if_pos ⟨ho,hq⟩]
      rw[if_pos hq,qm,if_pos ⟨by omega,by omega⟩,Int.toNat_natCast,zY g hs,Option.bind_some,if_pos ⟨by omega,by omega⟩,Option.bind_some,if_pos ⟨by omega,by omega⟩,if_pos (by omega),zI (n:=best (Zi set sub)+1) (by omega) (by omega),qM,hv]
     ·have hv:eaV own best set sub (g set)=g set:=by unfold eaV;rw[if_neg (fun q=>hq q.2)]
      rw[if_neg hq,hv,q1V]
   have hsub2:((sub-1) &&& set) &&& set=(sub-1) &&& set:=by rw[Nat.and_assoc,Nat.and_self]
   rw[qL hstep,ih _ (by omega) hsub2,if_neg hz,q1x,q0r]
theorem qnE (hN:N≤65536) (hM:M≤1000000) (hb:Bnd best N M) (own:Nat→Bool) (t7:Int) (must:Bool) :
  qq (zp rF d (qQ N best) W B P l nx n t7 (qQ N own) must) (List.replicate N 0,(0:Int))=some (qQ N (stF (n.Kind==4 && !must) own best)):=by
 have h1:=QC (step:=zp rF d (qQ N best) W B P l nx n t7 (qQ N own) must) (fun i=>(qQ N (fun k=>if k<i then stF (n.Kind==4 && !must) own best k else 0),(i:Int))) 0 N (Nat.zero_le _) (e:=qQ N (stF (n.Kind==4 && !must) own best)) (fun i _ hi=>by
   have hbi:=hb i hi
   have hw:w64 ((i:Int)+1)=((i+1:Nat):Int):=qs hi (by omega)
   have hg:∀v:Int,v=(if(n.Kind==4 && !must)=true then best i else -1)→q1R (q1R (fun k=>if k<i then stF (n.Kind==4 && !must) own best k else 0) i v) i (eaF own best i i i (q1R (fun k=>if k<i then stF (n.Kind==4 && !must) own best k else 0) i v i))=fun k=>if k<i+1 then stF (n.Kind==4 && !must) own best k else 0:=fun v hv=>by
    funext k
    rw[q1x,q0r]
    unfold q1R
    by_cases hk:k=i
    ·subst hk
     rw[if_pos rfl,if_pos (by omega)]
     unfold stF
     rw[←hv]
    ·rw[if_neg hk]
     show(if k<i then stF (n.Kind==4 && !must) own best k else 0)=_
     by_cases h:k<i
     ·rw[if_pos h,if_pos (by omega)]
     ·rw[if_neg h,if_neg (by omega)]
   have hci:(0:Int)≤(i:Int)∧(i:Int)<((N:Nat):Int):=⟨by omega,by omega⟩
   have hin:∀v:Int,v=(if(n.Kind==4 && !must)=true then best i else -1)→qq (qD rF d (qQ N best) W B P l nx n t7 (qQ N own) must (i:Int)) (qQ N (q1R (fun k=>if k<i then stF (n.Kind==4 && !must) own best k else 0) i v),(i:Int))=some (qQ N (fun k=>if k<i+1 then stF (n.Kind==4 && !must) own best k else 0)):=fun v hv=>by
    rw[qoR d W B P nx l n hN hM hb own t7 must hi i i (Nat.le_refl _) (Nat.and_self _),hg v hv]
   unfold zp
   dsimp only
   rw[qm,qm,if_pos hci.2,if_pos hci,Int.toNat_natCast,if_pos (show i+1≤N by omega)]
   cases hk:(n.Kind==4)
   ·rw[hk] at hin
    rw[if_neg (by decide),qM,hin (-1) rfl,Option.bind_some,hw]
   ·rw[hk] at hin
    rw[if_pos rfl]
    cases must
    ·rw[if_pos (show(!false)=true by decide),if_pos hci,zY best hi,Option.bind_some,if_pos hci,if_pos (show i+1≤N by omega),qM,qM,q0r,hin (best i) rfl,Option.bind_some,hw]
    ·rw[if_neg (show ¬ ((!true)=true) by decide),qM,hin (-1) rfl,Option.bind_some,hw]) (by
   unfold zp
   dsimp only
   rw[qm,qm,if_neg (by omega)]
   congr 2
   exact Qj fun k hk=>if_pos hk)
 rw[ZM]
 have e:(fun k:Nat=>if k<0 then stF (n.Kind==4 && !must) own best k else 0)=fun _=>0:=by funext k;rw[if_neg (by omega)]
 rw[e] at h1
 exact h1
end
theorem qfA (d:List Int) (hd:d.length≤16) (W B P:Int) (l:List qa) (hl:l.length≤16) (n:qb) (hLn:n.L.length≤1000000)
  (hP:∀y∈n.L,∀nx:Nat,nx+(ndN y).length≤100000→qN (y,d,W,B,P,l,(nx:Int))=some (qQ (2 ^ l.length) (qS d ⟨W,B,P⟩ l y nx),d,W,B,P,l,((nx+lvN y:Nat):Int))) :
  ∀(r:List qb) (i nx:Nat) (best:Nat→Int) (M:Int),r.length+i=n.L.length→(∀j,r[j]?=n.L[i+j]?)→nx+(ndL r).length≤100000→Bnd best (2 ^ l.length) M→0≤M→M+r.length≤100000 →
  qq (zd qN n) (d,qQ (2 ^ l.length) best,W,B,P,l,(nx:Int),(i:Int))=some (d,qQ (2 ^ l.length) (q4X d ⟨W,B,P⟩ l (n.Kind==4) r nx best),W,B,P,l,((nx+lvL r:Nat):Int)):=by
 intro r
 induction r with
 | nil =>
  intro i nx best M hi _ _ _ _ _
  have hi:i=n.L.length:=by simpa using hi
  subst hi
  refine qz ?_
  unfold zd
  dsimp only
  rw[if_neg (by omega),lvL,Nat.add_zero]
  rfl
 | cons y r ih =>
  intro i nx best M hi hr hnx hb hM0 hM
  rw[ndL,List.length_append] at hnx
  have hlv:=qa2 y
  simp only[List.length_cons,Int.natCast_add,Int.natCast_one] at hM hi
  have hget:n.L[i]?=some y:=by have:=hr 0;simpa using this.symm
  have hlt:i<n.L.length:=ZF hget
  have hN:=qcH hl
  have hN1:1≤2 ^ l.length:=Nat.one_le_two_pow
  have hcall:=hP y (List.mem_of_getElem? hget) nx (by omega)
  have hw:w64 ((i:Int)+1)=((i+1:Nat):Int):=qs hlt (by omega)
  have hdec:=qfM d hd W B P ((nx+lvN y:Nat):Int) l nx (nx+lvN y)
  have hstep:zd qN n (d,qQ (2 ^ l.length) best,W,B,P,l,(nx:Int),(i:Int))=some (.inl (d,qQ (2 ^ l.length) (stF (n.Kind==4 && !foF d nx (nx+lvN y)) (qS d ⟨W,B,P⟩ l y nx) best),W,B,P,l,((nx+lvN y:Nat):Int),((i+1:Nat):Int))):=by
   unfold zd
   dsimp only
   rw[if_pos (by omega),if_pos ⟨by omega,by omega⟩,Int.toNat_natCast,hget,Option.bind_some,hcall,Option.bind_some]
   dsimp only
   rw[hdec,Option.bind_some,qm,if_pos ⟨by omega,by omega,by omega⟩,qnE (M:=M) d W B P _ l n hN (by omega) hb,Option.bind_some,hw]
  rw[qL hstep,ih (i+1) _ _ (M+1) (by omega) (fun j=>by rw[show i+1+j=i+(j+1) by omega,←hr (j+1)];rfl) (by omega) (qaW hb (by omega)) (by omega) (by omega)]
  rw[lvL,←Nat.add_assoc]
  rfl
theorem qgd (d:List Int) (hd:d.length≤16) (W B P:Int) (l:List qa) (hl:l.length≤16):∀(m:Nat) (n:qb),(ndN n).length≤m→(ndN n).length≤10000→(∀y∈ndN n,y.Set.length≤1000000)→∀nx:Nat,nx+(ndN n).length≤100000→qN (n,d,W,B,P,l,(nx:Int))=some (qQ (2 ^ l.length) (qS d ⟨W,B,P⟩ l n nx),d,W,B,P,l,((nx+lvN n:Nat):Int)):=by
 intro m
 induction m with
 | zero=>intro n h;rw[zV] at h;simp at h
 | succ m ih =>
  intro n h1 h2 h3 nx hnx
  have hN:=qcH hl
  have hN1:1≤2 ^ l.length:=Nat.one_le_two_pow
  have hlv:=qa2 n
  have hset:=h3 n (by rw[zV];exact List.mem_cons_self)
  have hsub:∀(L:List qb),(ndL L).length≤m→(ndL L).length≤10000→(∀y∈ndL L,y.Set.length≤1000000)→∀y∈L,∀nx:Nat,nx+(ndN y).length≤100000→qN (y,d,W,B,P,l,(nx:Int))=some (qQ (2 ^ l.length) (qS d ⟨W,B,P⟩ l y nx),d,W,B,P,l,((nx+lvN y:Nat):Int)):=by
   intro L
   induction L with
   | nil=>intro _ _ _ y hy;simp at hy
   | cons x L ihl =>
    intro g1 g2 g3 y hy
    rw[ndL,List.length_append] at g1 g2
    rw[ndL] at g3
    rcases List.mem_cons.1 hy with rfl|hy
    ·exact ih _ (by omega) (by omega) fun z hz=>g3 z (List.mem_append_left _ hz)
    ·exact ihl (by omega) (by omega) (fun z hz=>g3 z (List.mem_append_right _ hz)) y hy
  have e0:ndN n=n::ndL n.L:=zV n
  have hlen:(ndN n).length=(ndL n.L).length+1:=by rw[e0];rfl
  have hP:=hsub n.L (by omega) (by omega) fun y hy=>h3 y (by rw[e0];exact List.mem_cons_of_mem _ hy)
  have hLl:=qkb n.L
  rw[q3K,Z1,q4D]
  by_cases hk1:n.Kind=1
  ·rw[if_pos (by rw[hk1];rfl),if_pos (.inl hk1),qaz d hd W B P l hl n hset nx (by omega),Option.bind_some,q2F,if_pos (.inl hk1)]
  ·rw[if_neg (by simpa using hk1)]
   by_cases hk2:n.Kind=2
   ·rw[if_pos (by rw[hk2];rfl),if_pos (.inr hk2),qaz d hd W B P l hl n hset nx (by omega),Option.bind_some,q2F,if_pos (.inr hk2)]
   ·have hlf:¬ (n.Kind=1∨n.Kind=2):=by omega
    have e2:lvN n=lvL n.L:=by rw[q2F,if_neg hlf]
    have hb0:Bnd b0F (2 ^ l.length) 0:=fun k _=>by unfold b0F;split<;>omega
    have hch:=qfA d hd W B P l hl n (by omega) hP n.L 0 nx b0F 0 (by simp) (by simp) (by omega) hb0 (by omega) (by omega)
    have hch':qq (zd qN n) (d,qQ (2 ^ l.length) b0F,W,B,P,l,(nx:Int),(0:Int))=some (d,qQ (2 ^ l.length) (q4X d ⟨W,B,P⟩ l (n.Kind==4) n.L nx b0F),W,B,P,l,((nx+lvL n.L:Nat):Int)):=hch
    rw[if_neg (by simpa using hk2),if_neg hlf,if_pos (by omega),qvF hl,if_pos ⟨by omega,by omega,by omega⟩,Int.toNat_natCast,qsj d W B P _ l n hN hN1,Option.bind_some,hch',Option.bind_some,e2]
    dsimp only
    by_cases hk3:n.Kind=3
    ·have k3:(n.Kind==3)=true:=by rw[hk3];rfl
     rw[if_pos k3,qm,if_pos ⟨by omega,by omega,by omega⟩,qig d W B P _ l hN hN1,Option.bind_some]
     simp only[if_pos hk3]
    ·have k3:¬ ((n.Kind==3)=true):=by simpa using hk3
     rw[if_neg k3,qm,if_pos ⟨by omega,by omega,by omega⟩,qig d W B P _ l hN hN1,Option.bind_some]
     simp only[if_neg hk3]
end Go.Proofs.YtgejdfnidjnjcaaGreat.Vc
namespace Go.Proofs.YtgejdfnidjnjcaaGreat.Vc
open Go.RowKit
set_option linter.unusedVariables false
set_option linter.unusedSimpArgs false
set_option maxRecDepth 100000
abbrev exA:qc:=qc.mk 1 (ByteArray.mk (List.toArray [65,49]))
abbrev exB:qc:=qc.mk 1 (ByteArray.mk (List.toArray [66,49]))
abbrev nA:qb:=qb.mk 1 0 50 [exA] []
abbrev nB:qb:=qb.mk 2 10 0 [exA,exB] []
abbrev qxE:qb:=qb.mk 3 0 0 [] [nA,nB]
abbrev qfu:qb:=qb.mk 4 1 0 [] [nA,nB]
abbrev exL:List qa:=[qa.mk exA 5 60 0 [] 0 [],qa.mk exB 6 90 0 [] 0 [],qa.mk exA 5 40 0 [] 0 []]
def qzI (n:qb):Bool:=decide (hgN n≤100)&&decide ((ndN n).length≤9999)&&(ndN n).all (fun y=>decide (y.Set.length≤1000000))&&q4j n==0
theorem qdV {n:qb} (h:qzI n=true):Rgt n:=by
 unfold qzI at h
 simp only[Bool.and_eq_true,decide_eq_true_eq,List.all_eq_true,beq_iff_eq] at h
 exact⟨⟨h.1.1.1,h.1.1.2,h.1.2⟩,h.2⟩
theorem gtA:Rgt nA:=qdV (by kernel_rfl)
theorem gtB:Rgt nB:=qdV (by kernel_rfl)
theorem qtQ:Rgt qxE:=qdV (by kernel_rfl)
theorem qcm:Rgt qfu:=qdV (by kernel_rfl)
def inW (want:List Int) (i:Nat):Bool:=want.any fun a=>a==(i:Int)
theorem qtv (want:List Int) (hw:want.length≤100) (i:Nat) (ok:Bool) (t34:List Bool) (t35 t36:Int):qq (Z8 want (i:Int) ok t34 t35 t36 want ((want.length:Nat):Int)) (false,(0:Int))=some (inW want i):=by
 have h:=qal (step:=Z8 want (i:Int) ok t34 t35 t36 want ((want.length:Nat):Int)) want (fun b k=>(b,(k:Int))) (fun b a=>b||a==(i:Int)) (fun b=>b) (fun b k a ha=>by
  have hi:=ZF ha
  have hws:w64 ((k:Int)+1)=((k+1:Nat):Int):=qs (n:=1000) (by omega) (by omega)
  unfold Z8
  dsimp only
  rw[if_pos (by omega),if_pos ⟨by omega,by omega⟩,Int.toNat_natCast,ha,Option.bind_some,hws]
  cases b
  ·rw[if_neg (by decide),Bool.false_or]
  ·rw[if_pos rfl,Bool.true_or]) (fun b=>by
  unfold Z8
  dsimp only
  rw[if_neg (by omega)]) false
 have e:∀(w:List Int) (b:Bool),w.foldl (fun b a=>b||a==(i:Int)) b=(b||w.any fun a=>a==(i:Int)):=by
  intro w
  induction w with
  | nil=>intro b;simp
  | cons a w ih=>intro b;rw[List.foldl_cons,ih,List.any_cons,Bool.or_assoc]
 rw[e,Bool.false_or] at h
 exact h
theorem qaC {n:qb} (h:Rgt n) {want:List Int} (hw:want.length≤100) (hk:(List.range 8).all (fun i=>qS [] (qr 1) exL n 0 i==inW want i)=true):zz n want=some true:=by
 have hS:=q8x h (qr 1) exL (by decide)
 have hloop:=QC (step:=Zv want (qQ (2 ^ exL.length) (qS [] (qr 1) exL n 0)) (8:Int)) (e := .inr ()) (fun i=>(i:Int)) 0 8 (Nat.zero_le _) (fun i _ hi=>by
  have hws:w64 ((i:Int)+1)=((i+1:Nat):Int):=qs (n:=1000) (by omega) (by omega)
  have hki:=List.all_eq_true.1 hk i (List.mem_range.2 hi)
  have hki:qS [] (qr 1) exL n 0 i=inW want i:=by simpa using hki
  unfold Zv
  rw[if_pos (by omega),if_pos ⟨by omega,by rw[qm];show(i:Int)<((8:Nat):Int);omega⟩,Int.toNat_natCast,zY _ (show i<2 ^ exL.length from hi),Option.bind_some,qtv want hw,Option.bind_some,hki,if_neg (by simp),hws]) (by
  unfold Zv
  rw[if_neg (by decide)])
 unfold zz
 rw[hS,Option.bind_some]
 dsimp only
 rw[qm,if_neg (by decide),if_neg (by decide)]
 change Option.bind (qq (Zv want (qQ (2 ^ exL.length) (qS [] (qr 1) exL n 0)) (8:Int)) ((0:Nat):Int)) _=_
 rw[hloop,Option.bind_some,Sum.elim_inr]
theorem exd {d:List Int} (hd:d.length=3) {m:Int} (h:d.all (fun y=>decide (-1≤y)&&decide (y<m))=true):∀(j:Nat) (y:Int),d[j]?=some y → -1≤y∧y<m:=fun j y hy=>by
 have:=List.all_eq_true.1 h y (List.mem_of_getElem? hy)
 simpa using this
theorem q6D {l:List Int} (hl:l.length≤1000):zQ l l=some true:=by
 have:=QC (step:=QN l l) (e := .inr ()) (fun i=>(i:Int)) 0 l.length (Nat.zero_le _) (fun i _ hi=>by
  have hw:w64 ((i:Int)+1)=((i+1:Nat):Int):=qs (n:=10000) (by omega) (by omega)
  have hr:l[i]?=some l[i]:=List.getElem?_eq_getElem hi
  unfold QN
  rw[if_pos (by omega),if_pos ⟨by omega,by omega⟩,Int.toNat_natCast,hr,Option.bind_some,if_pos ⟨by omega,by omega⟩,Option.bind_some,if_neg (by simp),hw]) (by
  unfold QN
  rw[if_neg (by omega)])
 unfold zQ
 rw[if_neg (by simp)]
 change Option.bind (qq _ ((0:Nat):Int)) _=_
 rw[this]
 rfl
theorem qfT:q01=some true:=by
 have h1:zb qfu (qr 1) exL 7=some ([0,1,1],true):=q9c qcm (by decide) (set:=7) (by decide) _ (d:=[0,1,1]) rfl (qf7 (by kernel_rfl))
 have h2:zb qfu (qr 1) exL 3=some ([1,1],true):=q9c qcm (by decide) (set:=3) (by decide) _ (d:=[1,1,-1]) rfl (qf7 (by kernel_rfl))
 have h3:zb qxE (qr 1) exL 3=some ([],false):=q9j qtQ (by decide) (set:=3) (by decide) _ (by kernel_rfl)
 have f1:Zn nA (qr 1) (qa.mk exA 5 60 0 [] 0 [])=some true:=(q9g _ (by decide) _ _).trans (congrArg some (by kernel_rfl))
 have f2:Zn nA (qr 1) (qa.mk exB 6 90 0 [] 0 [])=some false:=(q9g _ (by decide) _ _).trans (congrArg some (by kernel_rfl))
 have f3:Zn nA (qr 1) (qa.mk exA 5 40 0 [] 0 [])=some false:=(q9g _ (by decide) _ _).trans (congrArg some (by kernel_rfl))
 have m1:ZX qfu (qr 1) exL [(0:Int),(-1),(-1)]=some true:=(qbC qcm (by decide) _ _ rfl (exd rfl (by kernel_rfl))).trans (congrArg some (by kernel_rfl))
 have m2:ZX qfu (qr 1) exL [(0:Int),1,(-1)]=some false:=(qbC qcm (by decide) _ _ rfl (exd rfl (by kernel_rfl))).trans (congrArg some (by kernel_rfl))
 have s1:zz nA [(1:Int)]=some true:=qaC gtA (by decide) (by kernel_rfl)
 have s2:zz nB [(3:Int),5,6,7]=some true:=qaC gtB (by decide) (by kernel_rfl)
 have s3:zz qxE [(7:Int)]=some true:=qaC qtQ (by decide) (by kernel_rfl)
 have s4:zz qfu [(1:Int),3,5,6,7]=some true:=qaC qcm (by decide) (by kernel_rfl)
 unfold q01
 rw[h1,h2,h3,f1,f2,f3,m1,m2,s1,s2,s3,s4]
 simp only[Option.bind_some]
 rw[q6D (by decide),q6D (by decide)]
 rfl
end Go.Proofs.YtgejdfnidjnjcaaGreat.Vc
namespace Go.Proofs.YtgejdfnidjnjcaaGreat.Vc
open Go.RowKit
set_option linter.unusedVariables false
set_option linter.unusedSimpArgs false
theorem qoV:∀(m:Nat) (n y:qb),(ndN n).length≤m→y∈ndN n→(ndN y).length≤(ndN n).length∧∀z∈ndN y,z∈ndN n:=by
 intro m
 induction m with
 | zero=>intro n y h;rw[zV] at h;simp at h
 | succ m ih =>
  intro n y h hy
  rw[zV] at hy
  rcases List.mem_cons.1 hy with rfl|hy
  ·exact⟨Nat.le_refl _,fun z hz=>hz⟩
  ·have hL:∀(L:List qb),(ndL L).length≤m→y∈ndL L→(ndN y).length≤(ndL L).length∧∀z∈ndN y,z∈ndL L:=by
    intro L
    induction L with
    | nil=>intro _ h;simp[ndL] at h
    | cons x L ihl =>
     intro g gy
     rw[ndL,List.length_append] at g
     rw[ndL] at gy ⊢
     rw[List.length_append]
     rcases List.mem_append.1 gy with gy|gy
     ·obtain⟨a,b⟩:=ih x y (by omega) gy
      exact⟨by omega,fun z hz=>List.mem_append_left _ (b z hz)⟩
     ·obtain⟨a,b⟩:=ihl (by omega) gy
      exact⟨by omega,fun z hz=>List.mem_append_right _ (b z hz)⟩
   have e0:=zV n
   have:(ndN n).length=(ndL n.L).length+1:=by rw[e0];rfl
   obtain⟨a,b⟩:=hL n.L (by omega) hy
   exact⟨by omega,fun z hz=>by rw[e0];exact List.mem_cons_of_mem _ (b z hz)⟩
theorem qu0 {n y:qb} (hy:y∈n.L):(ndN y).length<(ndN n).length∧∀z∈ndN y,z∈ndN n:=by
 have key:∀L:List qb,y∈L→(ndN y).length≤(ndL L).length∧∀z∈ndN y,z∈ndL L:=by
  intro L
  induction L with
  | nil=>intro h;cases h
  | cons x L ih =>
   intro h
   rw[ndL,List.length_append]
   rcases List.mem_cons.1 h with e|h
   ·subst e;exact⟨by omega,fun z hz=>List.mem_append_left _ hz⟩
   ·obtain⟨a,b⟩:=ih h
    exact⟨by omega,fun z hz=>List.mem_append_right _ (b z hz)⟩
 obtain⟨a,b⟩:=key n.L hy
 rw[zV n,List.length_cons]
 exact⟨by omega,fun z hz=>List.mem_cons_of_mem _ (b z hz)⟩
theorem qpy:∀(m:Nat) (n:qb),(ndN n).length≤m→(ndN n).length≤100000→(∀y∈ndN n,y.Set.length≤1000000)→Zl n=some n:=by
 intro m
 induction m with
 | zero=>intro n h;rw[zV] at h;simp at h
 | succ m ih =>
  intro n h1 h2 h3
  have hset:=h3 n (by rw[zV];exact List.mem_cons_self)
  have hP:∀y∈n.L,Zl y=some y:=fun y hy=>by
   obtain⟨a,b⟩:=qu0 hy
   exact ih y (by omega) (by omega) fun z hz=>h3 z (b z hz)
  have hl:=q7m n.L
  have e0:(ndN n).length=(ndL n.L).length+1:=by rw[zV];rfl
  have hn:(⟨n.Kind,n.N,n.Min,n.Set,n.L⟩:qb)=n:=by cases n;rfl
  have hML:10000000≤Go.maxLen:=by unfold Go.maxLen;omega
  rw[q9E,JQ,if_pos ⟨by omega,by omega⟩]
  have hL:qq (Zq Zl n.Set n 0 0 0 n.Kind n.N n.Min) (n.L.take 0,((0:Nat):Int))=some n.L:=by
   refine QC (fun i=>(n.L.take i,(i:Int))) 0 n.L.length (Nat.zero_le _) (fun i _ hi=>?_) ?_
   ·have hy:n.L[i]?=some n.L[i]:=List.getElem?_eq_getElem hi
    have ht:n.L.take (i+1)=n.L.take i++[n.L[i]]:=List.take_succ_eq_append_getElem hi
    have hq:=hP _ (List.getElem_mem hi)
    have htl:(n.L.take i).length=i:=by rw[List.length_take];omega
    rw[ht]
    generalize n.L[i]=y at hy hq
    unfold Zq
    simp only
    rw[if_pos (by omega),if_pos ⟨by omega,by omega⟩,Int.toNat_natCast,hy,Option.bind_some,hq,Option.bind_some,htl,if_pos ⟨by omega,by omega⟩,qs hi (by omega)]
   ·unfold Zq
    simp only
    rw[if_neg (by omega),List.take_length]
  rw[List.take_zero] at hL
  change Option.bind (qq _ ([],((0:Nat):Int))) _=_
  rw[hL,Option.bind_some,hn]
theorem qfr {n:qb} (h:Szs n):Jc n=some ((ndN n).filter Qx):=by
 have hnd:=h.nd
 have hc:∀y∈ndN n,Zl y=some y:=fun y hy=>by
  obtain⟨a,b⟩:=qoV _ n y (Nat.le_refl _) hy
  exact qpy _ y (Nat.le_refl _) (by omega) fun z hz=>h.st z (b z hz)
 have hML:10000000≤Go.maxLen:=by unfold Go.maxLen;omega
 unfold Jc
 rw[qaP n h.hg h.nd,Option.bind_some,Sum.elim_inr]
 have hit:=q6V n 1
 have hlen:=q5F n 1
 generalize itN 1 n=l at hit hlen
 rw[←hit] at hc ⊢
 have key:∀(r:List qj) (i:Nat) (b:List qb),r.length+i=l.length→(∀j,r[j]?=l[i+j]?)→b.length≤i→qq (zK l) (b,(i:Int))=some (b++(r.map (·.Need)).filter Qx):=by
  intro r
  induction r with
  | nil =>
   intro i b hi _ _
   have hi:i=l.length:=by simpa using hi
   subst hi
   refine qz ?_
   unfold zK
   simp
  | cons y r ih =>
   intro i b hi hr hb
   simp only[List.length_cons] at hi
   have hget:l[i]?=some y:=by have:=hr 0;simpa using this.symm
   have hlt:=ZF hget
   have hcy:=hc y.Need (List.mem_map.2 ⟨y,List.mem_of_getElem? hget,rfl⟩)
   have hstep:zK l (b,(i:Int))=some (.inl (if Qx y.Need=true then b++[y.Need] else b,((i+1:Nat):Int))):=by
    unfold zK
    simp only
    rw[if_pos (by omega),if_pos ⟨by omega,by omega⟩,Int.toNat_natCast,hget,Option.bind_some,qec,qs hlt (by omega)]
    cases h:Qx y.Need
    ·simp
    ·rw[if_pos rfl,if_pos ⟨by omega,by omega⟩,Option.bind_some,hcy,Option.bind_some,if_pos ⟨by omega,by omega⟩]
     simp
   have hb2:(if Qx y.Need=true then b++[y.Need] else b).length≤i+1:=by
    split
    ·rw[List.length_append,List.length_singleton];omega
    ·omega
   rw[qL hstep,ih (i+1) _ (by omega) (fun j=>by rw[show i+1+j=i+(j+1) by omega,←hr (j+1)];rfl) hb2,List.map_cons,List.filter_cons]
   cases Qx y.Need<;>simp
 have:=key l 0 [] (by simp) (by simp) (by simp)
 change Option.bind (qq _ ([],((0:Nat):Int))) _=_
 rw[this,Option.bind_some,List.nil_append]
theorem qjs {n:qb} (hz:Szs n) (hsm:∀y∈ndN n,Sm y) (s:qf) (l:List qa) (h:q4j n≠0):ZW n s l=some ([],q4j n):=by
 unfold ZW
 rw[qcg hz hsm,Option.bind_some,if_pos (by simpa using h)]
theorem qf1 {n:qb} (h:Rgt n) (hsm:∀y∈ndN n,Sm y) (s:qf) (l:List qa) (hl:l.length≤10):ZW n s l=some (qQ (2 ^ l.length) (qS [] s l n 0),0):=by
 have h4:=h.sz.nd
 have:=qld s.Worst s.Best s.Pass l (by omega) _ n (Nat.le_refl _) (by omega) h.sz.st 0 (by omega)
 unfold ZW
 rw[qcg h.sz hsm,h.ck,Option.bind_some,if_neg (by decide),if_neg (by omega)]
 rw[show((0:Nat):Int)=0 from rfl] at this
 rw[this,Option.bind_some]
theorem qiK {n:qb} {l:List qa} {set:Nat} (h:q0z n l set) (s:qf) (d:List Int) (hd:d.length≤16):qN (n,d,s.Worst,s.Best,s.Pass,l,(0:Int))=some (qQ (2 ^ l.length) (qS d s l n 0),d,s.Worst,s.Best,s.Pass,l,((0+lvN n:Nat):Int)) :=
 qgd d hd s.Worst s.Best s.Pass l h.ll _ n (Nat.le_refl _) (by have:=h.nd;omega) h.st 0 (by have:=h.nd;omega)
theorem qfY {n:qb} {l:List qa} {set:Nat} (h:q0z n l set) (s:qf) (w3:List Int) (hw3:w3.length≤16) (T:Nat) (hT:T≤1000000) (t15:Int) (d:List Int) (hd:d.length+1≤16):∀(m x:Nat),x+m<T →
  (∃v:Nat,x≤v∧v≤x+m∧qS (d++[(v:Int)]) s l n 0 set=true) →
  ∃v:Nat,x≤v∧v≤x+m∧qS (d++[(v:Int)]) s l n 0 set=true∧(∀y:Nat,x≤y→y<v→qS (d++[(y:Int)]) s l n 0 set=false) ∧
   qq (QZ d w3 n s l (set:Int) (T:Int) t15) (x:Int)=some (d++[(v:Int)],w3++[(v:Int)]):=by
 have hML:10000000≤Go.maxLen:=by unfold Go.maxLen;omega
 have hstep:∀x:Nat,x<T→QZ d w3 n s l (set:Int) (T:Int) t15 (x:Int)=if qS (d++[(x:Int)]) s l n 0 set=true then some (.inr (d++[(x:Int)],w3++[(x:Int)])) else some (.inl ((x+1:Nat):Int)):=by
  intro x hx
  have hlen:(d++[(x:Int)]).length=d.length+1:=by rw[List.length_append,List.length_singleton]
  have hlt:=h.lt
  have hw:w64 ((x:Int)+1)=((x+1:Nat):Int):=zI (by omega) (by omega)
  unfold QZ
  rw[if_pos (by omega),if_pos ⟨by omega,by omega⟩,if_pos ⟨by omega,by omega⟩,qiK h s _ (by omega),Option.bind_some]
  simp only
  rw[if_pos (by rw[qm];omega),Int.toNat_natCast,zY _ hlt,Option.bind_some]
  cases hs:qS (d++[(x:Int)]) s l n 0 set
  ·rw[if_neg (by decide),hw]
   rfl
  ·rw[if_pos rfl,if_pos ⟨by omega,by omega⟩]
   rfl
 intro m
 induction m with
 | zero =>
  intro x hx hv
  obtain⟨v,h1,h2,h3⟩:=hv
  have e:v=x:=by omega
  subst e
  exact⟨v,Nat.le_refl _,by omega,h3,fun y _ _=>by omega,qz (by rw[hstep v (by omega),if_pos h3])⟩
 | succ m ih =>
  intro x hx hv
  by_cases hs:qS (d++[(x:Int)]) s l n 0 set=true
  ·exact⟨x,Nat.le_refl _,by omega,hs,fun y _ _=>by omega,qz (by rw[hstep x (by omega),if_pos hs])⟩
  ·obtain⟨v,h1,h2,h3⟩:=hv
   have hne:v≠x:=fun e=>hs (by rw[←e];exact h3)
   obtain⟨u,u1,u2,u3,u4,u5⟩:=ih (x+1) (by omega) ⟨v,by omega,by omega,h3⟩
   refine⟨u,by omega,by omega,u3,fun y hy hy2=>?_,?_⟩
   ·by_cases e:y=x
    ·subst e;exact Bool.eq_false_iff.2 hs
    ·exact u4 y (by omega) hy2
   ·rw[qL (by rw[hstep x (by omega),if_neg hs])]
    exact u5
theorem qck {n:qb} {l:List qa} {set:Nat} (h:q0z n l set) (s:qf) (T:Nat) (hT:T≤1000000) (hlv:lvN n≤T):∀(m:Nat) (d:List Int),d.length+m=l.length→q4Z d s l n set →
  ∃d',d'.length=l.length∧q4Z d' s l n set∧qq (zT n s l (set:Int) (T:Int)) (d,q2R set.testBit d,(d.length:Int))=some (q2R set.testBit d'):=by
 intro m
 induction m with
 | zero =>
  intro d hd hf
  refine⟨d,by omega,hf,qz ?_⟩
  unfold zT
  simp only
  rw[if_neg (by omega)]
 | succ m ih =>
  intro d hd hf
  have hll:=h.ll
  have hlt:=h.lt64
  have hML:10000000≤Go.maxLen:=by unfold Go.maxLen;omega
  have hsel:=q4z d set.testBit
  obtain⟨f1,f2⟩:=qat h hf (by omega)
  have hw:w64 ((d.length:Int)+1)=((d.length+1:Nat):Int):=zI (by omega) (by omega)
  have hbit:(QT Go.BinOp.and Go.IntKind.i64 (Int.fdiv (set:Int) ((2:Int) ^ min (Int.toNat (d.length:Int)) (Go.IntKind.bits Go.IntKind.i64))) (1:Int)==(0:Int)) = !set.testBit d.length:=by
   rw[Int.toNat_natCast,qb7 set d.length (by omega),show(1:Int)=((1:Nat):Int) from rfl,q7k _ 1 (Nat.lt_of_le_of_lt (Nat.div_le_self _ _) hlt) (by decide),Nat.and_one_is_mod,Nat.testBit_eq_decide_div_mod_eq]
   have:set / 2 ^ d.length % 2<2:=Nat.mod_lt _ (by decide)
   by_cases e:set / 2 ^ d.length % 2=1
   ·rw[e];rfl
   ·have e0:set / 2 ^ d.length % 2=0:=by omega
    rw[e0];rfl
  cases hb:set.testBit d.length
  ·obtain⟨d',g1,g2,g4⟩:=ih (d++[-1]) (by rw[List.length_append,List.length_singleton];omega) (f1 hb)
   refine⟨d',g1,g2,?_⟩
   rw[q3R,hb,if_neg (by decide),List.append_nil,List.length_append,List.length_singleton] at g4
   rw[←g4]
   refine qL ?_
   unfold zT
   simp only
   rw[if_pos (by omega),if_pos (by omega),hbit,hb,if_pos (by decide),if_pos ⟨by omega,by omega⟩,hw]
  ·obtain⟨v0,hv0,hs0⟩:=f2 hb
   obtain⟨v,v1,v2,v3,v4,v5⟩:=qfY h s (q2R set.testBit d) (by omega) T hT (d.length:Int) d (by omega) v0 0 (by omega) ⟨v0,by omega,by omega,hs0⟩
   have hF:q4Z (d++[(v:Int)]) s l n set:=⟨v3,fun j y hy=>by
    rcases q2X hy with e|⟨e1,e2⟩
    ·exact hf.val j y e
    ·rw[e1,hb,if_pos rfl,e2];omega,fun j x hx hj y hy=>by
    rcases q2X hx with e|⟨e1,e2⟩
    ·rw[q8Y e];exact hf.lst j x e hj y hy
    ·rw[e1,List.take_left]
     exact v4 y (Nat.zero_le _) (by omega)⟩
   obtain⟨d',g1,g2,g4⟩:=ih (d++[(v:Int)]) (by rw[List.length_append,List.length_singleton];omega) hF
   refine⟨d',g1,g2,?_⟩
   rw[q3R,hb,if_pos rfl,List.length_append,List.length_singleton] at g4
   rw[←g4]
   refine qL ?_
   unfold zT
   simp only
   rw[if_pos (by omega),if_pos (by omega),hbit,hb,if_neg (by decide)]
   rw[show(0:Int)=((0:Nat):Int) from rfl,v5,Option.bind_some,hw]
theorem q9o {n:qb} (hz:Szs n) (hsm:∀y∈ndN n,Sm y) (s:qf) (l:List qa) (hl:l.length≤10) (x:Int):∃r,zb n s l x=some r∧QQ n s l x=some r∧r.1.length≤10:=by
 by_cases hc:q4j n=0
 ·have hR:Rgt n:=⟨hz,hc⟩
  have hS:=q8x hR s l hl
  have hS2:=qf1 hR hsm s l hl
  by_cases hx:x<0∨((2 ^ l.length:Nat):Int)≤x
  ·refine⟨([],false),?_,?_,by simp⟩
   ·unfold zb
    rw[hS,Option.bind_some]
    simp only
    rw[qm,if_neg (by decide)]
    by_cases h:x<0
    ·rw[if_pos h]
    ·rw[if_neg h,if_pos (by omega)]
   ·unfold QQ
    rw[hS2,Option.bind_some]
    simp only
    rw[qm,if_neg (by decide)]
    by_cases h:x<0
    ·rw[if_pos h]
    ·rw[if_neg h,if_pos (by omega)]
  ·obtain⟨set,rfl⟩:∃k:Nat,x=(k:Int):=⟨x.toNat,by omega⟩
   have hs:set<2 ^ l.length:=by omega
   have hG:=q7y hR hl hs
   have hpre:QQ n s l (set:Int)=(if(!qS [] s l n 0 set)=true then some ([],false) else Option.bind (Jc n) fun(a3:List qb)=>Option.bind (qq (zT n s l (set:Int) ((a3.length:Nat):Int)) ([],([],(0:Int)))) fun(a4:List Int)=>some (a4,true)):=by
    unfold QQ
    rw[hS2,Option.bind_some]
    simp only
    rw[if_neg (by decide),if_neg (by omega),if_neg (by rw[qm];omega),if_pos (by rw[qm];omega),Int.toNat_natCast,zY _ hs,Option.bind_some]
   cases hq:qS [] s l n 0 set
   ·exact⟨([],false),q9j hR hl hs s hq,by rw[hpre,hq,if_pos (by decide)],by simp⟩
   ·have hlv:=qcd n (qdp hR)
    have hfl:((ndN n).filter Qx).length≤9999:=Nat.le_trans (List.length_filter_le ..) hz.nd
    obtain⟨d',g1,g2,g4⟩:=qck hG s ((ndN n).filter Qx).length (by omega) hlv l.length [] (by simp) ⟨hq,fun j y hy=>by simp at hy,fun j x hx=>by simp at hx⟩
    refine⟨(q2R set.testBit d',true),q9c hR hl hs s g1 g2,?_,?_⟩
    ·rw[hpre,hq,if_neg (by decide),qfr hz,Option.bind_some]
     change Option.bind (qq _ ([],q2R set.testBit [],((([]:List Int).length:Nat):Int))) _=_
     rw[g4]
     rfl
    ·have:=q4z d' set.testBit
     show(q2R set.testBit d').length≤10
     omega
 ·refine⟨([],false),?_,?_,by simp⟩
  ·unfold zb JP
   rw[q62 n hz.hg hz.nd hz.st,Option.bind_some,if_pos (by simpa using hc),Option.bind_some]
   simp only
   rw[if_pos (by simpa using hc)]
  ·unfold QQ
   rw[qjs hz hsm s l hc,Option.bind_some]
   simp only
   rw[if_pos (by simpa using hc)]
end Go.Proofs.YtgejdfnidjnjcaaGreat.Vc
namespace Go.Proofs.YtgejdfnidjnjcaaGreat.Vc
open Go.RowKit
set_option linter.unusedVariables false
set_option linter.unusedSimpArgs false
def bdN:Nat→Nat
 | 0=>1
 | k+1=>1+3*bdN k
structure qbm (k:Nat) (n:qb):Prop where
 hg:hgN n≤k+1
 nd:(ndN n).length≤bdN k
 ok:∀y∈ndN n,y.Set.length≤3∧∀c∈y.Set,c.Code.size≤12
theorem qeV {k:Nat}:∀(L:List qb),(∀y∈L,qbm k y)→hgL L≤k+1∧(ndL L).length≤L.length*bdN k∧∀y∈ndL L,y.Set.length≤3∧∀c∈y.Set,c.Code.size≤12
 | [],_=>⟨by simp[hgL],by simp[ndL],by simp[ndL]⟩
 | x::L,h=>by
  obtain⟨a,b,c⟩:=qeV L fun y hy=>h y (List.mem_cons_of_mem _ hy)
  obtain⟨e,f,g⟩:=h x List.mem_cons_self
  refine⟨?_,?_,?_⟩
  ·rw[hgL];omega
  ·rw[ndL,List.length_append,List.length_cons,Nat.add_mul];omega
  ·rw[ndL]
   intro y hy
   rcases List.mem_append.1 hy with hy|hy
   ·exact g y hy
   ·exact c y hy
theorem qhe (rF:(qb×Int)→Option qb) (n:qb) (b1 b2 b3 b4 b5 b6 t1:Int):∀(j i:Nat) (w:List qc),j+i=3→w.length=i→(∀c∈w,c.Code.size≤12) →
  ∃S,qq (zS rF n b1 b2 b3 b4 b5 b6 t1) (w,(i:Int))=some S∧S.length≤3∧∀c∈S,c.Code.size≤12:=by
 have hML:10000000≤Go.maxLen:=by unfold Go.maxLen;omega
 intro j
 induction j with
 | zero =>
  intro i w hi hw hc
  refine⟨w,qz ?_,by omega,hc⟩
  unfold zS
  simp only
  by_cases h:(i:Int)<((n.Set.length:Nat):Int)
  ·rw[if_pos h,if_neg (by omega)]
  ·rw[if_neg h]
 | succ j ih =>
  intro i w hi hw hc
  by_cases h:i<n.Set.length
  ·have ha:n.Set[i]?=some n.Set[i]:=List.getElem?_eq_getElem h
   generalize n.Set[i]=a at ha
   have hx:(ByteArray.extract a.Code 0 (Int.toNat (min ((ByteArray.size a.Code:Nat):Int) (12:Int)))).size≤12:=by
    rw[ByteArray.size_extract];omega
   have hww:w64 ((i:Int)+1)=((i+1:Nat):Int):=qs (n:=100) (by omega) (by omega)
   obtain⟨S,g1,g2,g3⟩:=ih (i+1) (w++[qc.mk a.School (ByteArray.extract a.Code 0 (Int.toNat (min ((ByteArray.size a.Code:Nat):Int) (12:Int))))]) (by omega) (by rw[List.length_append,List.length_singleton];omega) (fun c hc2=>by
    rcases List.mem_append.1 hc2 with e|e
    ·exact hc c e
    ·rw[List.mem_singleton.1 e];exact hx)
   refine⟨S,?_,g2,g3⟩
   rw[←g1]
   refine qL ?_
   unfold zS
   simp only
   rw[if_pos (by omega),if_pos (by omega),if_pos ⟨by omega,by omega⟩,Int.toNat_natCast,ha,Option.bind_some,if_pos ⟨by omega,by omega⟩,if_pos ⟨by omega,by omega⟩,hww]
  ·refine⟨w,qz ?_,by omega,hc⟩
   unfold zS
   simp only
   rw[if_neg (by omega)]
theorem qka {rF:(qb×Int)→Option qb} {k:Nat} (hk:k≤100) (hr:∀y,∃z,rF (y,(k:Int))=some z∧qbm k z) (n:qb) (w3:List qc) (b1 b2 b3 b4 b5 b6:Int):∀(j i:Nat) (w:List qb),j+i=3→w.length=i→(∀y∈w,qbm k y) →
  ∃L,qq (Q4 rF w3 n b1 b2 b3 b4 b5 b6 ((k+1:Nat):Int)) (w,(i:Int))=some L∧L.length≤3∧∀y∈L,qbm k y:=by
 have hML:10000000≤Go.maxLen:=by unfold Go.maxLen;omega
 intro j
 induction j with
 | zero =>
  intro i w hi hw hc
  refine⟨w,qz ?_,by omega,hc⟩
  unfold Q4
  simp only
  by_cases h:(i:Int)<((n.L.length:Nat):Int)
  ·rw[if_pos h,if_neg (by omega)]
  ·rw[if_neg h]
 | succ j ih =>
  intro i w hi hw hc
  by_cases h:i<n.L.length
  ·have ha:n.L[i]?=some n.L[i]:=List.getElem?_eq_getElem h
   generalize n.L[i]=a at ha
   have hww:w64 ((i:Int)+1)=((i+1:Nat):Int):=qs (n:=100) (by omega) (by omega)
   have hwk:w64 (((k+1:Nat):Int)-1)=(k:Int):=by rw[zI (by omega) (by omega)];omega
   obtain⟨z,z1,z2⟩:=hr a
   obtain⟨S,g1,g2,g3⟩:=ih (i+1) (w++[z]) (by omega) (by rw[List.length_append,List.length_singleton];omega) (fun c hc2=>by
    rcases List.mem_append.1 hc2 with e|e
    ·exact hc c e
    ·rw[List.mem_singleton.1 e];exact z2)
   refine⟨S,?_,g2,g3⟩
   rw[←g1]
   refine qL ?_
   unfold Q4
   simp only
   rw[if_pos (by omega),if_pos (by omega),if_pos (by omega),if_pos ⟨by omega,by omega⟩,Int.toNat_natCast,ha,Option.bind_some,hwk,z1,Option.bind_some,if_pos ⟨by omega,by omega⟩,hww]
  ·refine⟨w,qz ?_,by omega,hc⟩
   unfold Q4
   simp only
   rw[if_neg (by omega)]
theorem quB:∀(k:Nat),k≤100→∀n:qb,∃z,QL (n,(k:Int))=some z∧qbm k z:=by
 intro k
 induction k with
 | zero =>
  intro _ n
  obtain⟨S,g1,g2,g3⟩:=qhe QL n 0 0 0 n.Kind n.N n.Min 0 3 0 [] (by omega) rfl (by simp)
  refine⟨⟨n.Kind,n.N,n.Min,S,[]⟩,?_,⟨by rw[q7I];simp[hgL],by rw[zV];simp[ndL,bdN],fun y hy=>?_⟩⟩
  ·rw[q5d,J9]
   have g1':qq (zS QL n 0 0 0 n.Kind n.N n.Min ((0:Nat):Int)) ([],(0:Int))=some S:=g1
   rw[g1',Option.bind_some]
   have h9:qq (Q4 QL S n 0 0 0 n.Kind n.N n.Min ((0:Nat):Int)) ([],(0:Int))=some []:=by
    refine qz ?_
    unfold Q4
    simp only
    by_cases h:(0:Int)<((n.L.length:Nat):Int)
    ·rw[if_pos h,if_pos (by decide),if_neg (by decide)]
    ·rw[if_neg h]
   rw[h9,Option.bind_some]
  ·rw[zV] at hy
   rw[show ndL ([]:List qb)=[] by rw[ndL],List.mem_singleton] at hy
   rw[hy]
   exact⟨g2,g3⟩
 | succ k ih =>
  intro hk n
  obtain⟨S,g1,g2,g3⟩:=qhe QL n 0 0 0 n.Kind n.N n.Min ((k+1:Nat):Int) 3 0 [] (by omega) rfl (by simp)
  obtain⟨L,f1,f2,f3⟩:=qka (k:=k) (by omega) (ih (by omega)) n S 0 0 0 n.Kind n.N n.Min 3 0 [] (by omega) rfl (by simp)
  obtain⟨a,b,c⟩:=qeV L f3
  refine⟨⟨n.Kind,n.N,n.Min,S,L⟩,?_,⟨by rw[q7I];simp only;omega,?_,fun y hy=>?_⟩⟩
  ·rw[q5d,J9]
   have g1':qq (zS QL n 0 0 0 n.Kind n.N n.Min ((k+1:Nat):Int)) ([],(0:Int))=some S:=g1
   have f1':qq (Q4 QL S n 0 0 0 n.Kind n.N n.Min ((k+1:Nat):Int)) ([],(0:Int))=some L:=f1
   rw[g1',Option.bind_some,f1',Option.bind_some]
  ·rw[zV,List.length_cons,bdN]
   simp only
   have:=Nat.mul_le_mul_right (bdN k) f2
   omega
  ·rw[zV] at hy
   rcases List.mem_cons.1 hy with e|hy
   ·rw[e];exact⟨g2,g3⟩
   ·exact c y hy
theorem qbm.szs {n:qb} (h:qbm 2 n):Szs n:=⟨by have:=h.hg;omega,by have:=h.nd;have:bdN 2=13:=rfl;omega,fun y hy=>by have:=(h.ok y hy).1;omega⟩
theorem qbm.sm {n:qb} (h:qbm 2 n):∀y∈ndN n,Sm y:=fun y hy=>⟨by have:=(h.ok y hy).1;omega,fun c hc=>by have:=(h.ok y hy).2 c hc;omega⟩
theorem qaO {n:qb} (h:q1u 3 6 n):Szs n:=⟨by have:=h.hg;omega,by have h2:=h.l2;have h4:=h.nd;omega,qeu h.ok⟩
theorem qkB {n:qb} (h:q1u 3 6 n):Rgt n:=⟨qaO h,by
 have hz:=qaO h
 have h1:=q62 n hz.hg hz.nd hz.st
 rw[qfy h,Option.some.injEq] at h1
 exact h1.symm⟩
theorem qq3 {n:qb} (h:q1u 3 6 n):∀y∈ndN n,Sm y:=fun y hy=>by
 rcases h.ok y hy with g|g
 ·refine⟨by have:=g.s3;omega,fun c hc=>?_⟩
  have hr:=qad (g.st.ok c hc)
  unfold Zs at hr
  rw[Bool.and_eq_true] at hr
  have h2:=hr.2
  unfold qcz at h2
  simp only[Bool.and_eq_true,decide_eq_true_eq] at h2
  omega
 ·exact⟨by rw[g.st];simp,fun c hc=>by rw[g.st] at hc;cases hc⟩
end Go.Proofs.YtgejdfnidjnjcaaGreat.Vc
namespace Go.Proofs.YtgejdfnidjnjcaaGreat.Vc
open Go.RowKit
set_option linter.unusedVariables false
set_option maxRecDepth 100000
theorem ZJ {α:Type} (ds:List α) (o s:Nat):ds.drop o=(ds.drop o).take s++ds.drop (o+s):=by
 rw[←List.drop_drop];exact(List.take_append_drop s _).symm
theorem q9B {X:Type} {E:X→List D} {W:X→Prop} {sz:Nat} (hz:0<sz):∀(m:Nat) (es:List D),es.length=m*sz→(∀i,i<m→∃x,(es.drop (i*sz)).take sz=E x∧W x)→∃l:List X,es=l.flatMap E∧l.length=m∧∀x∈l,W x
 | 0,es,hl,_=>⟨[],by rw[Nat.zero_mul] at hl;exact List.eq_nil_of_length_eq_zero hl,rfl,by simp⟩
 | m+1,es,hl,h=>by
  obtain⟨x,hx,wx⟩:=h 0 (by omega)
  obtain⟨l,g1,g2,g3⟩:=q9B hz m (es.drop sz) (by rw[List.length_drop,hl,Nat.add_mul];omega) fun i hi=>by
   obtain⟨y,hy,wy⟩:=h (i+1) (by omega)
   refine⟨y,?_,wy⟩
   rw[List.drop_drop,show sz+i*sz=(i+1)*sz by rw[Nat.add_mul,Nat.one_mul,Nat.add_comm]];exact hy
  refine⟨x::l,?_,by simp[g2],fun y hy=>?_⟩
  ·rw[Nat.zero_mul,List.drop_zero] at hx
   rw[List.flatMap_cons,←g1,←hx,List.take_append_drop]
  ·rcases List.mem_cons.1 hy with rfl|hy
   ·exact wx
   ·exact g3 y hy
abbrev qwu:List TypeId:=[26,22,3,24,23,35,30,27,51,9,28,32,33,53]
theorem qhl:qAy Tryz.prog qwu=true:=by kernel_rfl
theorem ty3:∀(n:Nat) (ds:List D),Q2 Tryz.prog n 3 ds→∃v:Int,ds=[D.int .i64 v]∧(Lit.int .i64 v).wf=true:=by
 intro n ds h
 cases n with
 | zero=>exact h.elim
 | succ n =>
  unfold Q2 at h
  rw[Tryz.underlying3] at h
  obtain⟨z,h1,h2⟩:=h
  exact⟨z,h1,h2⟩
theorem cz3:Tryz.prog.cellsOf 3=1:=by kernel_rfl
theorem qvK:∀(n:Nat) (ds:List D),Q2 Tryz.prog n 22 ds→∃v:List Int,ds=[D.sl 1 v.length (v.flatMap eI)]∧(v.length≤maxLen∧∀y∈v,(Lit.int .i64 y).wf=true):=by
 intro n ds h
 cases n with
 | zero=>exact h.elim
 | succ n =>
  unfold Q2 at h
  rw[Tryz.underlying22] at h
  obtain⟨m,es,h1,h2,h3,h4⟩:=h
  rw[cz3] at h1 h3 h4
  obtain⟨l,g1,g2,g3⟩:=q9B (E:=eI) (W:=fun y=>(Lit.int .i64 y).wf=true) (sz:=1) (by decide) m es h3 fun i hi=>by
   obtain⟨v,q1,q2⟩:=ty3 n _ (h4 i hi)
   exact⟨v,q1.trans (rfl),q2⟩
  refine⟨l,?_,by omega,g3⟩
  rw[h1,g1,g2]
theorem qtM:Tryz.prog.cellsOf 23=3:=by kernel_rfl
theorem qB3:∀(n:Nat) (ds:List D),Q2 Tryz.prog n 23 ds→∃v:qos Int,ds=[D.int .i64 v.a0,D.int .i64 v.a1,D.int .i64 v.a2]∧((Lit.int .i64 v.a0).wf=true∧(Lit.int .i64 v.a1).wf=true∧(Lit.int .i64 v.a2).wf=true):=by
 intro n ds h
 cases n with
 | zero=>exact h.elim
 | succ n =>
  unfold Q2 at h
  rw[Tryz.underlying23] at h
  obtain⟨hl,hf⟩:=h
  rw[qtM] at hl
  have h0:Q2 Tryz.prog n 3 ((ds.drop 0).take (Tryz.prog.cellsOf 3)):=by
   have:=hf 0 (by decide)
   rwa [cz3] at this ⊢
  rw[cz3] at h0
  obtain⟨v0,e0,w0⟩:=ty3 _ _ h0
  have c0:=ZJ ds 0 1
  rw[e0] at c0
  have h1:Q2 Tryz.prog n 3 ((ds.drop 1).take (Tryz.prog.cellsOf 3)):=by
   have:=hf 1 (by decide)
   rwa [cz3] at this ⊢
  rw[cz3] at h1
  obtain⟨v1,e1,w1⟩:=ty3 _ _ h1
  have c1:=ZJ ds 1 1
  rw[e1] at c1
  have h2:Q2 Tryz.prog n 3 ((ds.drop 2).take (Tryz.prog.cellsOf 3)):=by
   have:=hf 2 (by decide)
   rwa [cz3] at this ⊢
  rw[cz3] at h2
  obtain⟨v2,e2,w2⟩:=ty3 _ _ h2
  have c2:=ZJ ds 2 1
  rw[e2] at c2
  have cl:ds.drop 3=[]:=List.drop_eq_nil_of_le (by omega)
  refine⟨⟨v0,v1,v2⟩,?_,⟨w0,w1,w2⟩⟩
  have c:ds.drop 0=_:=c0
  simp only[Nat.reduceAdd] at c0 c1 c2 c
  rw[c1,c2,cl] at c
  exact c
theorem qAI:Tryz.prog.cellsOf 24=6:=by kernel_rfl
theorem qDY:∀(n:Nat) (ds:List D),Q2 Tryz.prog n 24 ds→∃v:qvD (qos Int),ds=[D.int .i64 v.a0.a0,D.int .i64 v.a0.a1,D.int .i64 v.a0.a2,D.int .i64 v.a1.a0,D.int .i64 v.a1.a1,D.int .i64 v.a1.a2]∧(((Lit.int .i64 v.a0.a0).wf=true∧(Lit.int .i64 v.a0.a1).wf=true∧(Lit.int .i64 v.a0.a2).wf=true)∧((Lit.int .i64 v.a1.a0).wf=true∧(Lit.int .i64 v.a1.a1).wf=true∧(Lit.int .i64 v.a1.a2).wf=true)):=by
 intro n ds h
 cases n with
 | zero=>exact h.elim
 | succ n =>
  unfold Q2 at h
  rw[Tryz.underlying24] at h
  obtain⟨hl,hf⟩:=h
  rw[qAI] at hl
  have h0:Q2 Tryz.prog n 23 ((ds.drop 0).take (Tryz.prog.cellsOf 23)):=by
   have:=hf 0 (by decide)
   rwa [qtM] at this ⊢
  rw[qtM] at h0
  obtain⟨v0,e0,w0⟩:=qB3 _ _ h0
  have c0:=ZJ ds 0 3
  rw[e0] at c0
  have h1:Q2 Tryz.prog n 23 ((ds.drop 3).take (Tryz.prog.cellsOf 23)):=by
   have:=hf 1 (by decide)
   rwa [qtM] at this ⊢
  rw[qtM] at h1
  obtain⟨v1,e1,w1⟩:=qB3 _ _ h1
  have c1:=ZJ ds 3 3
  rw[e1] at c1
  have cl:ds.drop 6=[]:=List.drop_eq_nil_of_le (by omega)
  refine⟨⟨v0,v1⟩,?_,⟨w0,w1⟩⟩
  have c:ds.drop 0=_:=c0
  simp only[Nat.reduceAdd] at c0 c1 c
  rw[c1,cl] at c
  exact c
theorem qvH:Tryz.prog.cellsOf 22=1:=by kernel_rfl
theorem qDO:Tryz.prog.cellsOf 26=8:=by kernel_rfl
def q7H (x:JL):Prop:=(x.Need.length≤maxLen∧∀y∈x.Need,(Lit.int .i64 y).wf=true)∧(x.L.length≤maxLen∧∀y∈x.L,(Lit.int .i64 y).wf=true)∧(((Lit.int .i64 x.Odd.a0.a0).wf=true∧(Lit.int .i64 x.Odd.a0.a1).wf=true∧(Lit.int .i64 x.Odd.a0.a2).wf=true)∧((Lit.int .i64 x.Odd.a1.a0).wf=true∧(Lit.int .i64 x.Odd.a1.a1).wf=true∧(Lit.int .i64 x.Odd.a1.a2).wf=true))
theorem ty26:∀(n:Nat) (ds:List D),Q2 Tryz.prog n 26 ds→∃v:JL,ds=[D.sl 1 v.Need.length (v.Need.flatMap eI),D.sl 1 v.L.length (v.L.flatMap eI),D.int .i64 v.Odd.a0.a0,D.int .i64 v.Odd.a0.a1,D.int .i64 v.Odd.a0.a2,D.int .i64 v.Odd.a1.a0,D.int .i64 v.Odd.a1.a1,D.int .i64 v.Odd.a1.a2]∧q7H v:=by
 intro n ds h
 cases n with
 | zero=>exact h.elim
 | succ n =>
  unfold Q2 at h
  rw[Tryz.underlying26] at h
  obtain⟨hl,hf⟩:=h
  rw[qDO] at hl
  have h0:Q2 Tryz.prog n 22 ((ds.drop 0).take (Tryz.prog.cellsOf 22)):=hf _ (List.mem_of_getElem? (i:=0) rfl)
  rw[qvH] at h0
  obtain⟨v0,e0,w0⟩:=qvK _ _ h0
  have c0:=ZJ ds 0 1
  rw[e0] at c0
  have h1:Q2 Tryz.prog n 22 ((ds.drop 1).take (Tryz.prog.cellsOf 22)):=hf _ (List.mem_of_getElem? (i:=1) rfl)
  rw[qvH] at h1
  obtain⟨v1,e1,w1⟩:=qvK _ _ h1
  have c1:=ZJ ds 1 1
  rw[e1] at c1
  have h2:Q2 Tryz.prog n 24 ((ds.drop 2).take (Tryz.prog.cellsOf 24)):=hf _ (List.mem_of_getElem? (i:=2) rfl)
  rw[qAI] at h2
  obtain⟨v2,e2,w2⟩:=qDY _ _ h2
  have c2:=ZJ ds 2 6
  rw[e2] at c2
  have cl:ds.drop 8=[]:=List.drop_eq_nil_of_le (by omega)
  refine⟨⟨v0,v1,v2⟩,?_,⟨w0,w1,w2⟩⟩
  have c:ds.drop 0=_:=c0
  simp only[Nat.reduceAdd] at c0 c1 c2 c
  rw[c1,c2,cl] at c
  exact c
def q2H (x:qb):Prop:=True
theorem ty9:∀(n:Nat) (ds:List D),Q2 Tryz.prog n 9 ds→∃v:ByteArray,ds=[D.str v]∧v.size≤maxLen:=by
 intro n ds h
 cases n with
 | zero=>exact h.elim
 | succ n =>
  unfold Q2 at h
  rw[Tryz.underlying9] at h
  obtain⟨s,h1,h2⟩:=h
  exact⟨s,h1,h2⟩
theorem cz9:Tryz.prog.cellsOf 9=1:=by kernel_rfl
theorem qyS:Tryz.prog.cellsOf 51=2:=by kernel_rfl
def q1U (x:qc):Prop:=(Lit.int .i64 x.School).wf=true∧x.Code.size≤maxLen
theorem qAX:∀(n:Nat) (ds:List D),Q2 Tryz.prog n 51 ds→∃v:qc,ds=[D.int .i64 v.School,D.str v.Code]∧q1U v:=by
 intro n ds h
 cases n with
 | zero=>exact h.elim
 | succ n =>
  unfold Q2 at h
  rw[Tryz.underlying51] at h
  obtain⟨hl,hf⟩:=h
  rw[qyS] at hl
  have h0:Q2 Tryz.prog n 3 ((ds.drop 0).take (Tryz.prog.cellsOf 3)):=hf _ (List.mem_of_getElem? (i:=0) rfl)
  rw[cz3] at h0
  obtain⟨v0,e0,w0⟩:=ty3 _ _ h0
  have c0:=ZJ ds 0 1
  rw[e0] at c0
  have h1:Q2 Tryz.prog n 9 ((ds.drop 1).take (Tryz.prog.cellsOf 9)):=hf _ (List.mem_of_getElem? (i:=1) rfl)
  rw[cz9] at h1
  obtain⟨v1,e1,w1⟩:=ty9 _ _ h1
  have c1:=ZJ ds 1 1
  rw[e1] at c1
  have cl:ds.drop 2=[]:=List.drop_eq_nil_of_le (by omega)
  refine⟨⟨v0,v1⟩,?_,⟨w0,w1⟩⟩
  have c:ds.drop 0=_:=c0
  simp only[Nat.reduceAdd] at c0 c1 c
  rw[c1,cl] at c
  exact c
theorem qC0:∀(n:Nat) (ds:List D),Q2 Tryz.prog n 27 ds→∃v:List qc,ds=[D.sl 2 v.length (v.flatMap qe)]∧(v.length≤maxLen∧∀y∈v,q1U y):=by
 intro n ds h
 cases n with
 | zero=>exact h.elim
 | succ n =>
  unfold Q2 at h
  rw[Tryz.underlying27] at h
  obtain⟨m,es,h1,h2,h3,h4⟩:=h
  rw[qyS] at h1 h3 h4
  obtain⟨l,g1,g2,g3⟩:=q9B (E:=qe) (W:=fun y=>q1U y) (sz:=2) (by decide) m es h3 fun i hi=>by
   obtain⟨v,q1,q2⟩:=qAX n _ (h4 i hi)
   exact⟨v,q1.trans ((Jr v).symm),q2⟩
  refine⟨l,?_,by omega,g3⟩
  rw[h1,g1,g2]
theorem qwP:Tryz.prog.cellsOf 30=5:=by kernel_rfl
theorem qz8:∀(n:Nat),(∀n',n'<n→∀(ds:List D),Q2 Tryz.prog n' 30 ds→∃v:qb,ds=[D.int .i64 v.Kind,D.int .i64 v.N,D.int .i64 v.Min,D.sl 2 v.Set.length (v.Set.flatMap qe),D.sl 5 v.L.length (v.L.flatMap qg)]∧q2H v)→∀(ds:List D),Q2 Tryz.prog n 28 ds→∃v:List qb,ds=[D.sl 5 v.length (v.flatMap qg)]∧(v.length≤maxLen∧∀y∈v,q2H y):=by
 intro n hE ds h
 cases n with
 | zero=>exact h.elim
 | succ n =>
  unfold Q2 at h
  rw[Tryz.underlying28] at h
  obtain⟨m,es,h1,h2,h3,h4⟩:=h
  rw[qwP] at h1 h3 h4
  obtain⟨l,g1,g2,g3⟩:=q9B (E:=qg) (W:=fun y=>q2H y) (sz:=5) (by decide) m es h3 fun i hi=>by
   obtain⟨v,q1,q2⟩:=hE n (Nat.lt_succ_self n) _ (h4 i hi)
   exact⟨v,q1.trans ((JM v).symm),q2⟩
  refine⟨l,?_,by omega,g3⟩
  rw[h1,g1,g2]
theorem qCA:Tryz.prog.cellsOf 27=1:=by kernel_rfl
theorem qBw:Tryz.prog.cellsOf 28=1:=by kernel_rfl
theorem qD0:∀(n:Nat) (ds:List D),Q2 Tryz.prog n 30 ds→∃v:qb,ds=[D.int .i64 v.Kind,D.int .i64 v.N,D.int .i64 v.Min,D.sl 2 v.Set.length (v.Set.flatMap qe),D.sl 5 v.L.length (v.L.flatMap qg)]∧q2H v:=by
 intro n
 induction n using Nat.strongRecOn with
 | _ n ih =>
 intro ds h
 cases n with
 | zero=>exact h.elim
 | succ n =>
  unfold Q2 at h
  rw[Tryz.underlying30] at h
  obtain⟨hl,hf⟩:=h
  rw[qwP] at hl
  have h0:Q2 Tryz.prog n 3 ((ds.drop 0).take (Tryz.prog.cellsOf 3)):=hf _ (List.mem_of_getElem? (i:=0) rfl)
  rw[cz3] at h0
  obtain⟨v0,e0,w0⟩:=ty3 _ _ h0
  have c0:=ZJ ds 0 1
  rw[e0] at c0
  have h1:Q2 Tryz.prog n 3 ((ds.drop 1).take (Tryz.prog.cellsOf 3)):=hf _ (List.mem_of_getElem? (i:=1) rfl)
  rw[cz3] at h1
  obtain⟨v1,e1,w1⟩:=ty3 _ _ h1
  have c1:=ZJ ds 1 1
  rw[e1] at c1
  have h2:Q2 Tryz.prog n 3 ((ds.drop 2).take (Tryz.prog.cellsOf 3)):=hf _ (List.mem_of_getElem? (i:=2) rfl)
  rw[cz3] at h2
  obtain⟨v2,e2,w2⟩:=ty3 _ _ h2
  have c2:=ZJ ds 2 1
  rw[e2] at c2
  have h3:Q2 Tryz.prog n 27 ((ds.drop 3).take (Tryz.prog.cellsOf 27)):=hf _ (List.mem_of_getElem? (i:=3) rfl)
  rw[qCA] at h3
  obtain⟨v3,e3,w3⟩:=qC0 _ _ h3
  have c3:=ZJ ds 3 1
  rw[e3] at c3
  have h4:Q2 Tryz.prog n 28 ((ds.drop 4).take (Tryz.prog.cellsOf 28)):=hf _ (List.mem_of_getElem? (i:=4) rfl)
  rw[qBw] at h4
  obtain⟨v4,e4,w4⟩:=qz8 _ (fun n' hn'=>ih n' (by omega)) _ h4
  have c4:=ZJ ds 4 1
  rw[e4] at c4
  have cl:ds.drop 5=[]:=List.drop_eq_nil_of_le (by omega)
  refine⟨⟨v0,v1,v2,v3,v4⟩,?_,trivial⟩
  have c:ds.drop 0=_:=c0
  simp only[Nat.reduceAdd] at c0 c1 c2 c3 c4 c
  rw[c1,c2,c3,c4,cl] at c
  exact c
theorem qzN:Tryz.prog.cellsOf 32=3:=by kernel_rfl
def q8R (x:qf):Prop:=(Lit.int .i64 x.Worst).wf=true∧(Lit.int .i64 x.Best).wf=true∧(Lit.int .i64 x.Pass).wf=true
theorem qE0:∀(n:Nat) (ds:List D),Q2 Tryz.prog n 32 ds→∃v:qf,ds=[D.int .i64 v.Worst,D.int .i64 v.Best,D.int .i64 v.Pass]∧q8R v:=by
 intro n ds h
 cases n with
 | zero=>exact h.elim
 | succ n =>
  unfold Q2 at h
  rw[Tryz.underlying32] at h
  obtain⟨hl,hf⟩:=h
  rw[qzN] at hl
  have h0:Q2 Tryz.prog n 3 ((ds.drop 0).take (Tryz.prog.cellsOf 3)):=hf _ (List.mem_of_getElem? (i:=0) rfl)
  rw[cz3] at h0
  obtain⟨v0,e0,w0⟩:=ty3 _ _ h0
  have c0:=ZJ ds 0 1
  rw[e0] at c0
  have h1:Q2 Tryz.prog n 3 ((ds.drop 1).take (Tryz.prog.cellsOf 3)):=hf _ (List.mem_of_getElem? (i:=1) rfl)
  rw[cz3] at h1
  obtain⟨v1,e1,w1⟩:=ty3 _ _ h1
  have c1:=ZJ ds 1 1
  rw[e1] at c1
  have h2:Q2 Tryz.prog n 3 ((ds.drop 2).take (Tryz.prog.cellsOf 3)):=hf _ (List.mem_of_getElem? (i:=2) rfl)
  rw[cz3] at h2
  obtain⟨v2,e2,w2⟩:=ty3 _ _ h2
  have c2:=ZJ ds 2 1
  rw[e2] at c2
  have cl:ds.drop 3=[]:=List.drop_eq_nil_of_le (by omega)
  refine⟨⟨v0,v1,v2⟩,?_,⟨w0,w1,w2⟩⟩
  have c:ds.drop 0=_:=c0
  simp only[Nat.reduceAdd] at c0 c1 c2 c
  rw[c1,c2,cl] at c
  exact c
theorem qzS:Tryz.prog.cellsOf 53=8:=by kernel_rfl
def JJ (x:qa):Prop:=q1U x.Course∧(Lit.int .i64 x.Credits).wf=true∧(Lit.int .i64 x.Grade).wf=true∧(Lit.int .i64 x.Day).wf=true∧(x.Sources.length≤maxLen∧∀y∈x.Sources,(Lit.int .i64 y).wf=true)∧(Lit.int .i64 x.Bundle).wf=true∧(x.Path.length≤maxLen∧∀y∈x.Path,(Lit.int .i64 y).wf=true)
theorem qDM:∀(n:Nat) (ds:List D),Q2 Tryz.prog n 53 ds→∃v:qa,ds=[D.int .i64 v.Course.School,D.str v.Course.Code,D.int .i64 v.Credits,D.int .i64 v.Grade,D.int .i64 v.Day,D.sl 1 v.Sources.length (v.Sources.flatMap eI),D.int .i64 v.Bundle,D.sl 1 v.Path.length (v.Path.flatMap eI)]∧JJ v:=by
 intro n ds h
 cases n with
 | zero=>exact h.elim
 | succ n =>
  unfold Q2 at h
  rw[Tryz.underlying53] at h
  obtain⟨hl,hf⟩:=h
  rw[qzS] at hl
  have h0:Q2 Tryz.prog n 51 ((ds.drop 0).take (Tryz.prog.cellsOf 51)):=hf _ (List.mem_of_getElem? (i:=0) rfl)
  rw[qyS] at h0
  obtain⟨v0,e0,w0⟩:=qAX _ _ h0
  have c0:=ZJ ds 0 2
  rw[e0] at c0
  have h1:Q2 Tryz.prog n 3 ((ds.drop 2).take (Tryz.prog.cellsOf 3)):=hf _ (List.mem_of_getElem? (i:=1) rfl)
  rw[cz3] at h1
  obtain⟨v1,e1,w1⟩:=ty3 _ _ h1
  have c1:=ZJ ds 2 1
  rw[e1] at c1
  have h2:Q2 Tryz.prog n 3 ((ds.drop 3).take (Tryz.prog.cellsOf 3)):=hf _ (List.mem_of_getElem? (i:=2) rfl)
  rw[cz3] at h2
  obtain⟨v2,e2,w2⟩:=ty3 _ _ h2
  have c2:=ZJ ds 3 1
  rw[e2] at c2
  have h3:Q2 Tryz.prog n 3 ((ds.drop 4).take (Tryz.prog.cellsOf 3)):=hf _ (List.mem_of_getElem? (i:=3) rfl)
  rw[cz3] at h3
  obtain⟨v3,e3,w3⟩:=ty3 _ _ h3
  have c3:=ZJ ds 4 1
  rw[e3] at c3
  have h4:Q2 Tryz.prog n 22 ((ds.drop 5).take (Tryz.prog.cellsOf 22)):=hf _ (List.mem_of_getElem? (i:=4) rfl)
  rw[qvH] at h4
  obtain⟨v4,e4,w4⟩:=qvK _ _ h4
  have c4:=ZJ ds 5 1
  rw[e4] at c4
  have h5:Q2 Tryz.prog n 3 ((ds.drop 6).take (Tryz.prog.cellsOf 3)):=hf _ (List.mem_of_getElem? (i:=5) rfl)
  rw[cz3] at h5
  obtain⟨v5,e5,w5⟩:=ty3 _ _ h5
  have c5:=ZJ ds 6 1
  rw[e5] at c5
  have h6:Q2 Tryz.prog n 22 ((ds.drop 7).take (Tryz.prog.cellsOf 22)):=hf _ (List.mem_of_getElem? (i:=6) rfl)
  rw[qvH] at h6
  obtain⟨v6,e6,w6⟩:=qvK _ _ h6
  have c6:=ZJ ds 7 1
  rw[e6] at c6
  have cl:ds.drop 8=[]:=List.drop_eq_nil_of_le (by omega)
  refine⟨⟨v0,v1,v2,v3,v4,v5,v6⟩,?_,⟨w0,w1,w2,w3,w4,w5,w6⟩⟩
  have c:ds.drop 0=_:=c0
  simp only[Nat.reduceAdd] at c0 c1 c2 c3 c4 c5 c6 c
  rw[c1,c2,c3,c4,c5,c6,cl] at c
  exact c
theorem qDQ:∀(n:Nat) (ds:List D),Q2 Tryz.prog n 33 ds→∃v:List qa,ds=[D.sl 8 v.length (v.flatMap qd)]∧(v.length≤maxLen∧∀y∈v,JJ y):=by
 intro n ds h
 cases n with
 | zero=>exact h.elim
 | succ n =>
  unfold Q2 at h
  rw[Tryz.underlying33] at h
  obtain⟨m,es,h1,h2,h3,h4⟩:=h
  rw[qzS] at h1 h3 h4
  obtain⟨l,g1,g2,g3⟩:=q9B (E:=qd) (W:=fun y=>JJ y) (sz:=8) (by decide) m es h3 fun i hi=>by
   obtain⟨v,q1,q2⟩:=qDM n _ (h4 i hi)
   exact⟨v,q1.trans ((Qv v).symm),q2⟩
  refine⟨l,?_,by omega,g3⟩
  rw[h1,g1,g2]
theorem qCU:Tryz.prog.cellsOf 33=1:=by kernel_rfl
theorem qDJ:Tryz.prog.cellsOf 35=9:=by kernel_rfl
def q97 (x:Q1):Prop:=q2H x.Need∧q8R x.Scale∧(x.L.length≤maxLen∧∀y∈x.L,JJ y)
theorem ty35:∀(n:Nat) (ds:List D),Q2 Tryz.prog n 35 ds→∃v:Q1,ds=[D.int .i64 v.Need.Kind,D.int .i64 v.Need.N,D.int .i64 v.Need.Min,D.sl 2 v.Need.Set.length (v.Need.Set.flatMap qe),D.sl 5 v.Need.L.length (v.Need.L.flatMap qg),D.int .i64 v.Scale.Worst,D.int .i64 v.Scale.Best,D.int .i64 v.Scale.Pass,D.sl 8 v.L.length (v.L.flatMap qd)]∧q97 v:=by
 intro n ds h
 cases n with
 | zero=>exact h.elim
 | succ n =>
  unfold Q2 at h
  rw[Tryz.underlying35] at h
  obtain⟨hl,hf⟩:=h
  rw[qDJ] at hl
  have h0:Q2 Tryz.prog n 30 ((ds.drop 0).take (Tryz.prog.cellsOf 30)):=hf _ (List.mem_of_getElem? (i:=0) rfl)
  rw[qwP] at h0
  obtain⟨v0,e0,w0⟩:=qD0 _ _ h0
  have c0:=ZJ ds 0 5
  rw[e0] at c0
  have h1:Q2 Tryz.prog n 32 ((ds.drop 5).take (Tryz.prog.cellsOf 32)):=hf _ (List.mem_of_getElem? (i:=1) rfl)
  rw[qzN] at h1
  obtain⟨v1,e1,w1⟩:=qE0 _ _ h1
  have c1:=ZJ ds 5 3
  rw[e1] at c1
  have h2:Q2 Tryz.prog n 33 ((ds.drop 8).take (Tryz.prog.cellsOf 33)):=hf _ (List.mem_of_getElem? (i:=2) rfl)
  rw[qCU] at h2
  obtain⟨v2,e2,w2⟩:=qDQ _ _ h2
  have c2:=ZJ ds 8 1
  rw[e2] at c2
  have cl:ds.drop 9=[]:=List.drop_eq_nil_of_le (by omega)
  refine⟨⟨v0,v1,v2⟩,?_,⟨w0,w1,w2⟩⟩
  have c:ds.drop 0=_:=c0
  simp only[Nat.reduceAdd] at c0 c1 c2 c
  rw[c1,c2,cl] at c
  exact c
end Go.Proofs.YtgejdfnidjnjcaaGreat.Vc
namespace Go.Proofs.YtgejdfnidjnjcaaGreat.Vc
open Go.RowKit
set_option linter.unusedVariables false
set_option linter.unusedSimpArgs false
theorem qit (l:List qa):q0e l=some (l.take 5):=by
 unfold q0e
 rw[if_pos ⟨by omega,by omega⟩]
 congr 1
 by_cases h:l.length≤5
 ·rw[show Int.toNat (min (l.length:Int) 5)-0=l.length by omega,List.take_length,List.take_of_length_le h]
 ·rw[show Int.toNat (min (l.length:Int) 5)-0=5 by omega]
theorem qin (set m:Int) (b0:Q1) (b1:qb) (t2:Int) (t7:Bool) (t9:List qa) (A:List Bool) (hA:A.length≤1000) (h0:0≤m) (h1:m<(A.length:Int)):∀(j i:Nat),j+i=A.length →
  ∃S,qq (z8 [set,m] b0 b1 t2 t7 t9 A ((A.length:Nat):Int)) (i:Int)=some S∧S.length≤3:=by
 have hML:10000000≤Go.maxLen:=by unfold Go.maxLen;omega
 intro j
 induction j with
 | zero =>
  intro i hi
  refine⟨[set,m],qz ?_,by simp⟩
  unfold z8
  rw[if_neg (by omega)]
 | succ j ih =>
  intro i hi
  have hw:w64 ((i:Int)+1)=((i+1:Nat):Int):=qs (n:=10000) (by omega) (by omega)
  have hwm:w64 ((i:Int)+m)=(i:Int)+m:=zI (by omega) (by omega)
  have hx0:0≤Int.tmod ((i:Int)+m) ((A.length:Nat):Int):=Int.tmod_nonneg _ (by omega)
  have hx1:Int.tmod ((i:Int)+m) ((A.length:Nat):Int)<((A.length:Nat):Int):=Int.tmod_lt_of_pos _ (by omega)
  have hstep:z8 [set,m] b0 b1 t2 t7 t9 A ((A.length:Nat):Int) (i:Int)=if A[Int.toNat (Int.tmod ((i:Int)+m) ((A.length:Nat):Int))]'(by omega)=true then some (.inr [set,m,Int.tmod ((i:Int)+m) ((A.length:Nat):Int)]) else some (.inl ((i+1:Nat):Int)):=by
   have ha:A[Int.toNat (Int.tmod ((i:Int)+m) ((A.length:Nat):Int))]?=some (A[Int.toNat (Int.tmod ((i:Int)+m) ((A.length:Nat):Int))]'(by omega)):=List.getElem?_eq_getElem _
   generalize A[Int.toNat (Int.tmod ((i:Int)+m) ((A.length:Nat):Int))]'(by omega)=a at ha
   have h2:(1:Int)<((([set,m]:List Int).length:Nat):Int):=by show(1:Int)<2;decide
   have h3:([set,m]:List Int)[1]?=some m:=rfl
   have h4:¬ (((A.length:Nat):Int)=0):=by omega
   unfold z8
   rw[if_pos (by omega),if_pos h2,h3,Option.bind_some,if_neg h4,hwm,if_pos ⟨hx0,hx1⟩,ha,Option.bind_some]
   cases a
   ·rw[if_neg (by decide),if_neg (by decide),hw]
   ·rw[if_pos rfl,if_pos h2,Option.bind_some,if_neg h4,if_pos ⟨by show 2+1≤_;omega,by show(2+1)*8≤_;omega⟩,hwm,if_pos rfl]
    rfl
  by_cases hq:A[Int.toNat (Int.tmod ((i:Int)+m) ((A.length:Nat):Int))]'(by omega)=true
  ·exact⟨_,qz (by rw[hstep,if_pos hq]),by simp⟩
  ·obtain⟨S,g1,g2⟩:=ih (i+1) (by omega)
   exact⟨S,by rw[qL (by rw[hstep,if_neg hq]),g1],g2⟩
theorem qgI {n:qb} (hz:Szs n) (hsm:∀y∈ndN n,Sm y) (l:List qa) (hl:l.length≤10) (b0:Q1) (t2:Int) (t7:Bool) (S:List Int) (hS:S.length≤3):qq (zB S b0 n t2 t7 l ((S.length:Nat):Int)) (0:Int)=some (.inr ()):=by
 have:=QC (step:=zB S b0 n t2 t7 l ((S.length:Nat):Int)) (e := .inr ()) (fun i=>(i:Int)) 0 S.length (Nat.zero_le _) (fun i _ hi=>by
  have hw:w64 ((i:Int)+1)=((i+1:Nat):Int):=qs (n:=10000) (by omega) (by omega)
  have hr:S[i]?=some S[i]:=List.getElem?_eq_getElem hi
  obtain⟨r,r1,r2,r3⟩:=q9o hz hsm (qr 1) l hl S[i]
  unfold zB
  rw[if_pos (by omega),if_pos ⟨by omega,by omega⟩,Int.toNat_natCast,hr,Option.bind_some,r1,Option.bind_some,r2,Option.bind_some,if_neg (by simp),q6D (by omega),Option.bind_some,if_neg (by decide),hw]) (by
  unfold zB
  rw[if_neg (by omega)])
 exact this
theorem q9r (x0:JL) (w0:q7H x0) (x1:Q1) (w1:q97 x1) (x2:Int) (w2:(Lit.int .i64 x2).wf=true):Jg x0 x1 x2=some true:=by
 obtain⟨h1,h2,_⟩:=w0
 obtain⟨n,l0,e1,hn,hl0,_⟩:=qiJ (c:=x0) ⟨h1.1,h2.1⟩
 have hl:(l0.take 5).length≤5:=by rw[List.length_take];omega
 have hl2:(x1.L.take 5).length≤5:=by rw[List.length_take];omega
 have hz:=qaO hn
 have hsm:=qq3 hn
 unfold Jg
 rw[qfT,Option.bind_some,e1,Option.bind_some]
 simp only
 rw[qit,Option.bind_some,qit]
 generalize l0.take 5=l at hl
 generalize x1.L.take 5=l2 at hl2
 have hp:2 ^ l.length≤32:=Nat.pow_le_pow_right (by decide) hl
 have hp1:1≤2 ^ l.length:=Nat.one_le_two_pow
 rw[qf1 (qkB hn) hsm _ l (by omega),Option.bind_some]
 simp only
 have hA:(qQ (2 ^ l.length) (qS [] (qr 1) l n 0)).length=2 ^ l.length:=qm _ _
 generalize qQ (2 ^ l.length) (qS [] (qr 1) l n 0)=A at hA
 obtain⟨m,m1,m2,m3⟩:=qmk x2 ((A.length:Nat):Int) (by omega) (by omega)
 rw[m1,Option.bind_some]
 obtain⟨S,s1,s2⟩:=qin x2 m x1 n x2 true l A (by omega) m2 m3 A.length 0 (by omega)
 have s1':qq (z8 [x2,m] x1 n x2 true l A ((A.length:Nat):Int)) (0:Int)=some S:=s1
 rw[s1',Option.bind_some,qgI hz hsm l (by omega) x1 x2 true S s2,Option.bind_some,Sum.elim_inr]
 obtain⟨z,z1,z2⟩:=quB 2 (by decide) x1.Need
 have z1':QL (x1.Need,(2:Int))=some z:=z1
 obtain⟨r,r1,r2,r3⟩:=q9o z2.szs z2.sm x1.Scale l2 (by omega) (QT Go.BinOp.and Go.IntKind.i64 x2 (31:Int))
 rw[z1',Option.bind_some,Option.bind_some,r1,Option.bind_some,Option.bind_some,r2,Option.bind_some,if_pos trivial,if_pos (by simp),q6D (by omega)]
 rfl
end Go.Proofs.YtgejdfnidjnjcaaGreat.Vc
namespace Go.Proofs.YtgejdfnidjnjcaaGreat
open Go.ChangeShapes Go.WideShapes Go.ChangeAt Go.RowKit Go.ChangeMaps
theorem own:ownKnob Tryz.prog.godebug=none:=by kernel_rfl
theorem qoZ:laidOutB Tryz.prog=true:=by kernel_rfl
section
variable {H:Type} {enc:TypeId×Value→H} {P:Program} {W W':World}
theorem qbI (hl:laidOutB P=true) (hb:Below W.heap.size W W'):∀{ts:List TypeId} {vs:List Value} {ds:List (DataW H)} {ps:List MemPlace},(∀t∈ts,P.readableRec t=true∧t<P.types.size) →
  DataW.TrodAll enc P W 0 (fun _=>true) true ts vs ds ps→(∀p∈ps,p.block<W.heap.size)→DataW.TrodAll enc P W' 0 (fun b=>decide (b<W.heap.size)) true ts vs ds ps
 | [],_,_,_,_,h,_=>by
  obtain⟨rfl,rfl,rfl⟩:=trodAll_nil h
  exact trodAll_mk0
 | t::ts,_,_,_,ht,h,hlt=>by
  obtain⟨v,vs,d,ds,p,q,rfl,rfl,rfl,h1,h2⟩:=trodAll_cons h
  exact trodAll_cons_mk (Below.trod hl (ht t List.mem_cons_self).1 (ht t List.mem_cons_self).2 h1 hb (fun x hx=>hlt x (List.mem_append_left _ hx)))
   (qbI hl hb (fun u hu=>ht u (List.mem_cons_of_mem _ hu)) h2 (fun x hx=>hlt x (List.mem_append_right _ hx)))
theorem qke {f:Func} {s:ChangeSpec} {apart fresh handsOn:Bool} {args:Array Value} {ds gs:List (DataW H)} {before:List MemPlace} {tb:TypeId} (hl:laidOutB P=true)
  (hts:∀t∈f.params.toList,P.readableRec t=true∧t<P.types.size) (hr:f.resultTypes=#[tb]) (htb:P.underlying tb=some .bool) (hv:s.vars=[])
  (h1:(s.fn H (ds++gs)).results=[.lit (.bool true)]) (h2:(s.fn H (ds++gs)).args=ds) (h3:(s.fn H (ds++gs)).vars=[])
  (hW:DataW.Whole enc P f.params.toList s.vars apart W args.toList ds gs before) (hb:Below W.heap.size W W') :
  s.post enc P f apart fresh handsOn false W args (.bool true) W':=by
 have hlt:∀p∈before,p.block<W.heap.size:=fun p hp=>hW.lt p hp
 have hW2:=hW
 obtain⟨pa,pv,hA,hV,hp,-,-⟩:=hW2
 rw[hv] at hV
 obtain⟨rfl,rfl⟩:=trodVars_none hV
 rw[List.append_nil] at hp
 subst hp
 refine⟨ds,[],before,[],before,[],hW,?_,?_,?_,?_,fun h=>by cases h⟩
 ·rw[h1,hr]
  exact trodAll_mk1 (shut_bool htb true)
 ·rw[h2]
  exact qbI hl hb hts hA hlt
 ·rw[h3,hv]
  exact hV
 ·exact World.keptBut_mono (fun p hp=>⟨hp,.inr (.inl hp)⟩) (hb.frame (·∈before))
end
end Go.Proofs.YtgejdfnidjnjcaaGreat
