/- Part 4 of a proof. -/
import Derived.Test.YtcdegieiflmaeaaA3
import Derived.KernelRfl
set_option linter.unusedVariables false
set_option linter.unusedSimpArgs false
set_option linter.defProp false
set_option linter.unusedSectionVars false
set_option linter.unnecessarySimpa false
namespace Go.Proofs.Ytcdegieiflmaeaa.Vc
noncomputable section
open Go.RowKit
set_option maxRecDepth 20000
def mpE {κ ν:Type} (kE:κ→Value) (vE:ν→R):List (κ×ν)→Nat→List (Value×R×Nat)
 | [],_=>[]
 | p::M,i=>(kE p.1,vE p.2,i)::mpE kE vE M (i+1)
def mpB {κ ν:Type} (kE:κ→Value) (vE:ν→R) (M:List (κ×ν)):AO := .mp (mpE kE vE M 0) M.length
def qrr (k:IntKind) (n:Int):Value := .int k n
def Q5 (s:ByteArray):Value := .string s
def qnP (b:Bool):Value := .bool b
section
variable {κ ν:Type} [DecidableEq κ]
def q66 (M:List (κ×ν)) (k:κ):Nat:=match M with
 | []=>0
 | p::M=>if k=p.1 then 0 else q66 M k+1
def Z5 (z:ν) (M:List (κ×ν)) (k:κ):ν:=match M with
 | []=>z
 | p::M=>if k=p.1 then p.2 else Z5 z M k
def J8 (M:List (κ×ν)) (k:κ):Bool:=match M with
 | []=>false
 | p::M=>if k=p.1 then true else J8 M k
def q1M (M:List (κ×ν)) (k:κ) (v:ν):List (κ×ν):=match M with
 | []=>[(k,v)]
 | p::M=>if k=p.1 then(k,v)::M else p::q1M M k v
end
section
variable {κ ν:Type} {kE:κ→Value} {vE:ν→R}
theorem qiD:∀(M:List (κ×ν)) (i:Nat),(mpE kE vE M i).length=M.length
 | [],_=>rfl
 | p::M,i=>by rw[mpE,qtf,qiD M,qtf]
theorem qip {q:Value×R×Nat}:∀{M:List (κ×ν)} {i:Nat},q∈mpE kE vE M i→∃p∈M,q.1=kE p.1∧q.2.1=vE p.2
 | [],_,h=>by simp[mpE] at h
 | p::M,i,h=>by
  rw[mpE] at h
  rcases qtq.1 h with rfl|h
  ·exact⟨p,qtj,rfl,rfl⟩
  ·obtain⟨p',h1,h2⟩:=qip h
   exact⟨p',qtc _ h1,h2⟩
theorem q5L {f:Value×R×Nat→Bool} (hf:∀k r i,f (kE k,r,i)=true):∀(M:List (κ×ν)) (i:Nat),(mpE kE vE M i).all f=true
 | [],_=>rfl
 | p::M,i=>by rw[mpE,List.all_cons,hf,q5L hf M];rfl
theorem q3S {f:R→R} (hf:∀v,f (vE v)=vE v) (M:List (κ×ν)):AO.mapR f (mpB kE vE M)=mpB kE vE M:=by
 have:∀(M:List (κ×ν)) (i:Nat),(mpE kE vE M i).map (fun e=>(e.1,f e.2.1,e.2.2))=mpE kE vE M i:=by
  intro M
  induction M with
  | nil=>intro i;rfl
  | cons p M ih=>intro i;rw[mpE,qtr,ih,hf]
 unfold mpB
 show AO.mp _ _=_
 rw[this]
theorem qh3 {f:R→Bool} (hf:∀v,f (vE v)=true) (M:List (κ×ν)):(mpB kE vE M).Rs.all f=true:=by
 have:∀(M:List (κ×ν)) (i:Nat),((mpE kE vE M i).map (·.2.1)).all f=true:=by
  intro M
  induction M with
  | nil=>intro i;rfl
  | cons p M ih=>intro i;rw[mpE,qtr,List.all_cons,ih,hf];rfl
 exact this M 0
theorem q8q {f:R→List Nat} (hf:∀v,f (vE v)=[]) (M:List (κ×ν)):(mpB kE vE M).Rs.flatMap f=[]:=by
 have:∀(M:List (κ×ν)) (i:Nat),((mpE kE vE M i).map (·.2.1)).flatMap f=[]:=by
  intro M
  induction M with
  | nil=>intro i;rfl
  | cons p M ih=>intro i;rw[mpE,qtr,qu7,ih,hf];rfl
 exact this M 0
variable [DecidableEq κ] (hk:∀a b,kq (kE a) (kE b)=decide (a=b))
include hk
theorem qcC (k:κ):∀(M:List (κ×ν)) (i:Nat) (z:ν),fnd (kE k) (mpE kE vE M i) i=if J8 M k=true then some (i+q66 M k,vE (Z5 z M k),i+q66 M k) else none
 | [],i,z=>rfl
 | p::M,i,z=>by
  rw[mpE,fnd]
  simp only[hk,J8,q66,Z5,qu2]
  by_cases h:k=p.1
  ·simp[h]
  ·simp only[if_neg h]
   rw[qcC k M (i+1) z]
   split
   ·rw[show i+1+q66 M k=i+(q66 M k+1) by omega]
   ·rfl
theorem qlC (z:ν) (ok:Bool) (k:κ) (M:List (κ×ν)):lkq ok (vE z) (fnd (kE k) (mpE kE vE M 0) 0)=some (tt2 (vE (Z5 z M k)) ok (J8 M k)):=by
 rw[qcC hk k M 0 z]
 cases hm:J8 M k
 ·have:Z5 z M k=z:=by
   clear hk
   induction M with
   | nil=>rfl
   | cons p M ih=>
    rw[J8] at hm
    rw[Z5]
    split
    ·rename_i h;rw[if_pos h] at hm;cases hm
    ·rename_i h;rw[if_neg h] at hm;exact ih hm
  rw[this];rfl
 ·rfl
end
section
variable {κ ν:Type} {kE:κ→Value} {vE:ν→R} [DecidableEq κ]
theorem q93 (k:κ) (v:ν):∀(M:List (κ×ν)) (i:Nat),J8 M k=true→(mpE kE vE M i).set (q66 M k) (kE k,vE v,i+q66 M k)=mpE kE vE (q1M M k v) i∧(q1M M k v).length=M.length
 | [],_,h=>by cases h
 | p::M,i,h=>by
  rw[J8] at h
  by_cases hp:k=p.1
  ·simp only[mpE,q66,q1M,if_pos hp]
   exact⟨rfl,rfl⟩
  ·rw[if_neg hp] at h
   obtain⟨a,b⟩:=q93 k v M (i+1) h
   simp only[mpE,q66,q1M,if_neg hp,qtf,List.set_cons_succ]
   rw[show i+(q66 M k+1)=i+1+q66 M k by omega,a,b]
   exact⟨rfl,rfl⟩
theorem q8J (k:κ) (v:ν):∀(M:List (κ×ν)) (i:Nat),J8 M k=false→mpE kE vE M i++[(kE k,vE v,i+M.length)]=mpE kE vE (q1M M k v) i∧(q1M M k v).length=M.length+1
 | [],i,_=>⟨rfl,rfl⟩
 | p::M,i,h=>by
  rw[J8] at h
  by_cases hp:k=p.1
  ·rw[if_pos hp] at h;cases h
  ·rw[if_neg hp] at h
   obtain⟨a,b⟩:=q8J k v M (i+1) h
   simp only[mpE,q1M,if_neg hp,qtf,qu8]
   rw[show i+(M.length+1)=i+1+M.length by omega,a,b]
   exact⟨rfl,rfl⟩
theorem qdI (k:κ) (v:ν):∀(M:List (κ×ν)),q66 (q1M M k v) k=q66 M k∧J8 (q1M M k v) k=true∧(J8 M k=false→q66 M k=M.length)
 | []=>by simp[q1M,q66,J8]
 | p::M=>by
  obtain⟨a,b,c⟩:=qdI k v M
  by_cases hp:k=p.1
  ·simp[q1M,q66,J8,if_pos hp]
  ·simp only[q1M,q66,J8,if_neg hp,qtf]
   exact⟨by rw[a],b,fun h=>by rw[c h]⟩
end
def mpq:B→Option (List (Value×R×Nat))
 | .ob (.mp es _)=>some es
 | _=>none
def mpo (s:S):R→Option (List (Value×R×Nat))
 | .c .nilm=>some []
 | .c (.hd .map id)=>mpq (s.blk id)
 | _=>none
theorem qf2 (s:S) (x:Operand):q2i s x=mpo s (s.ev x):=by
 unfold q2i mpo mpq
 generalize s.ev x=r
 cases r with
 | c c=>
  cases c with
  | hd k id=>cases k<;>rfl
  | _=>rfl
 | _=>rfl
theorem qps {κ ν:Type} (kE:κ→Value) (vE:ν→R) (M:List (κ×ν)):mpq (.ob (mpB kE vE M))=some (mpE kE vE M 0):=rfl
def mup (kt:Kd) (kv:Value) (r:R):B→Option B
 | .ob (.mp es ck)=>if plK kt kv=true∧es.all (fun q=>plK kt q.1)=true then
   (match fnd kv es 0 with
    | some q=>some (.ob (.mp (es.set q.1 (kv,r,q.2.2)) ck))
    | none=>some (.ob (.mp (es++[(kv,r,ck)]) (ck+1)))) else none
 | _=>none
def qs2 (n:Int) (r:R):B→Option B
 | .ob (.mp es ck)=>(fnb n es 0).bind fun i=>(es[i]?).bind fun e=>some (.ob (.mp (es.set i (e.1,r,e.2.2)) ck))
 | _=>none
def xmu (T:Ty) (s:S) (t:TypeId) (m:R) (kv:Option Value) (r:R):Option (R×S):=
 match T.k t,m,kv with
 | .mp kt _,.c (.hd .map id),some kv=>(mup (T.k kt) kv r (s.blk id)).bind fun b=>some (.any,s.up [(id,b)])
 | _,_,_=>none
theorem qjc (T:Ty) (s:S) (t:TypeId) (m:R) (kv:Option Value) (r:R):xmu T s t m kv r =
 match T.k t,m,kv with
 | .mp kt _,.c (.hd .map id),some kv=>(mup (T.k kt) kv r (s.blk id)).bind fun b=>some (.any,s.up [(id,b)])
 | _,_,_=>none:=rfl
theorem q9H (T:Ty) (s:S) (t:TypeId) (m k x:Operand):q0Z T s t m k x=xmu T s t (s.ev m) (s.ev k).key (s.ev x):=by
 unfold q0Z xmu mup
 generalize T.k t=kd
 generalize s.ev m=r
 generalize (s.ev k).key=kv
 cases kd with
 | mp kt e=>
  cases r with
  | c c=>
   cases c with
   | hd h id=>
    cases h with
    | map=>
     cases kv with
     | none=>rfl
     | some kv=>
      simp only
      generalize s.blk id=b
      cases b with
      | ob o=>
       cases o with
       | mp es ck=>
        simp only
        split
        ·cases fnd kv es 0<;>rfl
        ·rfl
       | _=>rfl
      | _=>rfl
    | _=>rfl
   | _=>rfl
  | _=>rfl
 | _=>rfl
def xes (s:S) (m st r:R):Option (R×S):=
 match m,st with
 | .c (.hd .map id),.c (.d (.int _ n))=>(qs2 n r (s.blk id)).bind fun b=>some (.any,s.up [(id,b)])
 | _,_=>none
section
variable {κ ν:Type} {kE:κ→Value} {vE:ν→R} [DecidableEq κ] (hk:∀a b,kq (kE a) (kE b)=decide (a=b)) {kt:Kd} (hp:∀a,plK kt (kE a)=true)
include hk hp
theorem qm4 (k:κ) (v:ν) (M:List (κ×ν)):mup kt (kE k) (vE v) (.ob (mpB kE vE M))=some (.ob (mpB kE vE (q1M M k v))):=by
 unfold mpB mup
 simp only
 rw[if_pos ⟨hp k,q5L (fun k r i=>hp k) M 0⟩,qcC hk k M 0 v]
 cases hm:J8 M k
 ·obtain⟨a,b⟩:=q8J (kE:=kE) (vE:=vE) k v M 0 hm
  simp only[Bool.false_eq_true,if_false]
  rw[qts] at a
  rw[a,b]
 ·obtain⟨a,b⟩:=q93 (kE:=kE) (vE:=vE) k v M 0 hm
  simp only[if_true]
  rw[qts] at a ⊢
  rw[a,b]
end
theorem qd1 {κ ν:Type} {kE:κ→Value} {vE:ν→R} {s:S} {sel:List Nat} (h:∀v,qaG s sel (vE v)=vE v) (M:List (κ×ν)):cvA s sel (mpB kE vE M)=some (mpB kE vE M):=by
 have:∀(M:List (κ×ν)) (i:Nat),(mpE kE vE M i).map (fun e=>(e.1,qaG s sel e.2.1,e.2.2))=mpE kE vE M i:=by
  intro M
  induction M with
  | nil=>intro i;rfl
  | cons p M ih=>intro i;rw[mpE,qtr,ih,h]
 show some (AO.mp ((mpE kE vE M 0).map fun e=>(e.1,qaG s sel e.2.1,e.2.2)) M.length)=_
 rw[this];rfl
theorem q8g (a b:ByteArray):kq (Q5 a) (Q5 b)=decide (a=b):=rfl
def mpc:B→Option Nat
 | .ob (.mp _ ck)=>some ck
 | _=>none
theorem qoY {κ ν:Type} (kE:κ→Value) (vE:ν→R) (M:List (κ×ν)):mpc (.ob (mpB kE vE M))=some M.length:=rfl
def xrg (s:S) (p:Nat) (kd:Kd) (r:R):Option (R×S):=
 match kd,r with
 | .str,.c (.d (.str b))=>some (.c (.hd .iter p),s.up [(p,.ob (.si b 0))])
 | .mp _ _,.c .nilm=>some (.c (.hd .iter p),s.up [(p,.ob (.mi (.c .nilm) 0 []))])
 | .mp _ _,.c (.hd .map id)=>(mpc (s.blk id)).bind fun ck=>some (.c (.hd .iter p),s.up [(p,.ob (.mi (.c (.hd .map id)) ck []))])
 | _,_=>none
theorem qbM (T:Ty) (s:S) (p:Nat) (t:TypeId) (x:Operand):q1R T s p t x=xrg s p (T.k t) (s.ev x):=by
 unfold q1R xrg
 split
 ·rename_i h1 h2;rw[h1,h2]
 ·rename_i h1 h2;rw[h1,h2]
 ·rename_i id h1 h2
  rw[h1,h2]
  simp only
  generalize s.blk id=b
  cases b with
  | ob o=>cases o<;>rfl
  | _=>rfl
 ·rename_i h1 h2 h3
  split
  ·rename_i q1 q2;exact absurd q2 (h1 _ q1)
  ·rename_i q1 q2;exact absurd q2 (h2 _ _ q1)
  ·rename_i q1 q2;exact absurd q2 (h3 _ _ _ q1)
  ·rfl
def qof (s:S) (b:B) (ck x:Nat):Option (R×S):=(mpq b).bind fun es=>(mpc b).bind fun c=>if c=ck then(q5M es x).bind fun r=>some (r,s) else none
def qoD (s:S):B→Option (R×S)
 | .ob (.mi (.c (.hd .map mid)) ck (x::_))=>qof s (s.blk mid) ck x
 | _=>none
def xen (s:S):R→Option (R×S)
 | .c (.hd .iter id)=>qoD s (s.blk id)
 | _=>none
theorem qbg (s:S) (it:Operand):q54 s it=xen s (s.ev it):=by
 unfold q54 xen
 generalize s.ev it=r
 cases r with
 | c c=>
  cases c with
  | hd k id=>
   cases k with
   | iter=>
    simp only
    generalize s.blk id=b
    cases b with
    | ob o=>
     cases o with
     | mi m ck l=>
      cases m with
      | c c=>
       cases c with
       | hd k mid=>
        cases k with
        | map=>
         cases l with
         | nil=>rfl
         | cons x l=>
          simp only[qoD,qof]
          generalize s.blk mid=b2
          cases b2 with
          | ob o=>
           cases o with
           | mp es c=>
            simp only[mpq,mpc,qt4]
            split
            ·cases q5M es x<;>rfl
            ·rfl
           | _=>rfl
          | _=>rfl
        | _=>rfl
       | _=>rfl
      | _=>rfl
     | _=>rfl
    | _=>rfl
   | _=>rfl
  | _=>rfl
 | _=>rfl
def qmY (s:S) (id:Nat):B→Option (R×S)
 | .ob (.m1 (some e) m since seen)=>some (.tup [.c (.d (.bool true)),kR e.1,e.2.1],s.up [(id,.ob (.mi m since (e.2.2::seen)))])
 | .ob (.m1 none m since seen)=>some (.tup [.c (.d (.bool false))],s.up [(id,.ob (.mi m since seen))])
 | _=>none
def xnm (s:S):R→Option (R×S)
 | .c (.hd .iter id)=>qmY s id (s.blk id)
 | _=>none
theorem qcT (s:S) (it:Operand):q1L s it=xnm s (s.ev it):=by
 unfold q1L xnm qmY
 rfl
theorem qaL (b:ByteArray):kR (Q5 b) = .c (.d (.str b)):=rfl
theorem qg4 (k:IntKind) (n:Int):kR (qrr k n) = .c (.d (.int k n)):=rfl
theorem qcX (b:Bool):kR (qnP b) = .c (.d (.bool b)):=rfl
theorem qaT {κ ν:Type} {kE:κ→Value} {vE:ν→R} (hk:∀a b,kE a=kE b→a=b) (hv:∀a b,vE a=vE b→a=b):∀(M M':List (κ×ν)) (i:Nat),mpE kE vE M i=mpE kE vE M' i→M=M'
 | [],[],_,_=>rfl
 | [],_::_,_,h=>by cases h
 | _::_,[],_,h=>by cases h
 | (a,v)::M,(b,w)::M',i,h=>by
  unfold mpE at h
  simp only[List.cons.injEq,Prod.mk.injEq] at h
  obtain⟨⟨h1,h2,_⟩,h3⟩:=h
  rw[hk _ _ h1,hv _ _ h2,qaT hk hv M M' _ h3]
theorem qcu {κ ν:Type} {kE:κ→Value} {vE:ν→R} (hk:∀a b,kE a=kE b→a=b) (hv:∀a b,vE a=vE b→a=b) (M M':List (κ×ν)):(B.ob (mpB kE vE M)=B.ob (mpB kE vE M'))=(M=M'):=
 propext ⟨fun h=>by
  injection h with h
  unfold mpB at h
  injection h with h
  exact qaT hk hv M M' 0 h,fun h=>by rw[h]⟩
section
variable {κ ν:Type}
def anyO (g:κ→ν→Option Bool):List (κ×ν)→Option Bool
 | []=>some false
 | q::M=>(g q.1 q.2).bind fun b=>(anyO g M).bind fun c=>some (b||c)
theorem q2d {g:κ→ν→Option Bool}:∀{M:List (κ×ν)} {b:Bool},anyO g M=some b→(∀q∈M,∃c,g q.1 q.2=some c)∧(b=true↔∃q∈M,g q.1 q.2=some true)
 | [],b,h=>by injection h with h;subst h;simp
 | q::M,b,h=>by
  unfold anyO at h
  obtain⟨c,h1,h⟩:=qt9.1 h
  obtain⟨d,h2,h⟩:=qt9.1 h
  injection h with h
  subst h
  obtain⟨h3,h4⟩:=q2d h2
  refine⟨fun p hp=>?_,?_⟩
  ·rcases qtq.1 hp with rfl|hp
   ·exact⟨c,h1⟩
   ·exact h3 p hp
  ·rw[qtz,h4]
   constructor
   ·rintro(rfl|⟨p,hp,h5⟩)
    ·exact⟨q,qtj,h1⟩
    ·exact⟨p,qtc _ hp,h5⟩
   ·rintro⟨p,hp,h5⟩
    rcases qtq.1 hp with rfl|hp
    ·rw[h1] at h5;injection h5 with h5;exact .inl h5
    ·exact .inr ⟨p,hp,h5⟩
theorem q5z {g:κ→ν→Option Bool}:∀{M:List (κ×ν)},(∀q∈M,∃c,g q.1 q.2=some c)→∃b,anyO g M=some b
 | [],_=>⟨false,rfl⟩
 | q::M,h=>by
  obtain⟨c,h1⟩:=h q qtj
  obtain⟨b,h2⟩:=q5z fun p hp=>h p (qtc _ hp)
  exact⟨c||b,by unfold anyO;rw[h1,qt4,h2];rfl⟩
theorem q3o {kE:κ→Value} {vE:ν→R} {e:Value×R×Nat}:∀{M:List (κ×ν)} {i:Nat},e∈mpE kE vE M i→∃q∈M,e.1=kE q.1∧e.2.1=vE q.2∧i≤e.2.2∧e.2.2<i+M.length∧q5M (mpE kE vE M i) e.2.2=some (.tup [kR (kE q.1),vE q.2])
 | [],_,h=>by simp[mpE] at h
 | p::M,i,h=>by
  rw[mpE] at h
  rcases qtq.1 h with rfl|h
  ·refine⟨p,qtj,rfl,rfl,qtk _,by simp,?_⟩
   unfold q5M
   rw[mpE,List.find?_cons]
   simp
  ·obtain⟨q,h1,h2,h3,h4,h5,h6⟩:=q3o h
   refine⟨q,qtc _ h1,h2,h3,by omega,by simp;omega,?_⟩
   unfold q5M at h6 ⊢
   rw[mpE,List.find?_cons]
   have:(i==e.2.2)=false:=by simp;omega
   simp only[this]
   exact h6
theorem q8M {kE:κ→Value} {vE:ν→R} {q:κ×ν}:∀{M:List (κ×ν)} {i:Nat},q∈M→∃j,(kE q.1,vE q.2,j)∈mpE kE vE M i
 | [],_,h=>by simp at h
 | p::M,i,h=>by
  rw[mpE]
  rcases qtq.1 h with rfl|h
  ·exact⟨i,qtj⟩
  ·obtain⟨j,hj⟩:=q8M (kE:=kE) (vE:=vE) (i:=i+1) h
   exact⟨j,qtc _ hj⟩
theorem q61 {kE:κ→Value} {vE:ν→R}:∀(M:List (κ×ν)) (i:Nat),(mpE kE vE M i).map (·.2.2)=List.range' i M.length
 | [],_=>rfl
 | p::M,i=>by rw[mpE,qtr,q61 M,qtf,List.range'_succ]
theorem qhr {E:Orc} {f k key:Nat} {c:Code} {it:Operand} (hc:lbO f key=c) (hl:okL f c) {kE:κ→Value} {vE:ν→R} {M:List (κ×ν)} {st:B→S} {id mid:Nat} {x z:Exit×S} {g:κ→ν→Option Bool}
  (hok:∀a,kOk (kE a)=true) (hit:∀b,(st b).ev it = .c (.hd .iter id)) (hid:∀b,(st b).blk id=b) (hmid:∀b,(st b).blk mid = .ob (mpB kE vE M)) (hne:mid≠id) (hgh:∀b b',(st b).gh id b'=st b')
  (hx:x.1 ≠ .normal) (hz:z.1 ≠ .normal)
  (hr:∀(a:κ) (v:ν) (j:Nat) (l:List Nat),q5M (mpE kE vE M 0) j=some (.tup [kR (kE a),vE v])→lz2 f k key (XE2 E f k c (st (.ob (.m1 (some (kE a,vE v,j)) (.c (.hd .map mid)) M.length l))))=(g a v).bind fun b=>if b=true then some x else some (.normal,st (.ob (.mi (.c (.hd .map mid)) M.length (j::l)))))
  (hn:∀(l:List Nat),lz2 f k key (XE2 E f k c (st (.ob (.m1 none (.c (.hd .map mid)) M.length l))))=some z) :
  XM2 E f k key it (st (.ob (.mi (.c (.hd .map mid)) M.length [])))=(anyO g M).bind fun b=>some (if b=true then x else z):=by
 have hF:∀s,(XEo E f k (lbO f key) s).bind (lpx pol f key k)=lz2 f k key (XE2 E f k c s):=fun s=>by rw[hc,q8t c hl];rfl
 have hHd:mHd it (st (.ob (.mi (.c (.hd .map mid)) M.length [])))=some (id,.c (.hd .map mid),M.length,mpE kE vE M 0):=by
  unfold mHd
  rw[hit]
  simp only[hid]
  have h1:mOf (st (.ob (.mi (.c (.hd .map mid)) M.length []))) id (.c (.hd .map mid)) M.length=some (mpE kE vE M 0):=by
   unfold mOf
   simp only[if_neg hne,hmid,mpB,if_true]
  rw[h1,qt4,if_pos]
  refine⟨by rw[q61];exact List.nodup_range',qtl.2 fun e he=>?_⟩
  obtain⟨q,-,h2,-,-,h3,-⟩:=q3o he
  rw[h2,hok,qu5,qu2];omega
 have hg1:∀e l,(st (.ob (.mi (.c (.hd .map mid)) M.length []))).m1 id (.c (.hd .map mid)) M.length e l=st (.ob (.m1 e (.c (.hd .map mid)) M.length l)):=fun e l=>hgh _ _
 have hg2:∀l,(st (.ob (.mi (.c (.hd .map mid)) M.length []))).mi id (.c (.hd .map mid)) M.length l=st (.ob (.mi (.c (.hd .map mid)) M.length l)):=fun l=>hgh _ _
 have hent:∀e∈mpE kE vE M 0,∃q∈M,∀l,(XEo E f k (lbO f key) ((st (.ob (.mi (.c (.hd .map mid)) M.length []))).m1 id (.c (.hd .map mid)) M.length (some e) l)).bind (lpx pol f key k)=(g q.1 q.2).bind fun b=>if b=true then some x else some (.normal,(st (.ob (.mi (.c (.hd .map mid)) M.length []))).mi id (.c (.hd .map mid)) M.length (e.2.2::l)):=fun e he=>by
  obtain⟨q,h1,h2,h3,-,-,h4⟩:=q3o he
  refine⟨q,h1,fun l=>?_⟩
  rw[hF,hg1,hg2]
  obtain⟨e1,e2,e3⟩:=e
  simp only at h2 h3 h4
  subst h2 h3
  exact hr q.1 q.2 e3 l h4
 refine q4i (fun r h=>?_) (fun r h=>?_)
 ·obtain⟨id',m',ck',es',h1,h2⟩:=q3F h
  rw[hHd] at h1
  injection h1 with h1
  injection h1 with h3 h1
  injection h1 with h4 h1
  injection h1 with h5 h6
  subst h3 h4 h5 h6
  have hall:∀q∈M,∃b,g q.1 q.2=some b:=fun q hq=>by
   obtain⟨j,hj⟩:=q8M (kE:=kE) (vE:=vE) (i:=0) hq
   obtain⟨q',h1,h3,-,-,-,h4⟩:=q3o hj
   have hF1:(XEo E f k (lbO f key) ((st (.ob (.mi (.c (.hd .map mid)) M.length []))).m1 id (.c (.hd .map mid)) M.length (some (kE q.1,vE q.2,j)) [])).bind (lpx pol f key k)=(g q.1 q.2).bind fun b=>if b=true then some x else some (.normal,(st (.ob (.mi (.c (.hd .map mid)) M.length []))).mi id (.c (.hd .map mid)) M.length (j::[])):=by
    rw[hF,hg1,hg2]
    refine hr q.1 q.2 j [] ?_
    obtain⟨q2,g1,g2,g3,g4,g5,g6⟩:=q3o hj
    rw[g6]
    simp only at g2 g3
    rw[←g2,←g3]
   cases hgq:g q.1 q.2 with
   | some b=>exact⟨b,rfl⟩
   | none=>
    rw[hgq] at hF1
    rcases h2.ent _ hj with h5|h5
    ·have:=(h5 [] (ZK _ _)).symm.trans hF1;cases this
    ·have:=(h5 [] (ZK _ _)).symm.trans hF1;cases this
  obtain⟨b,hb⟩:=q5z hall
  rw[hb,qt4]
  obtain⟨-,hb2⟩:=q2d hb
  congr 1
  rcases h2.fin with ⟨e,he,h5⟩|h5
  ·obtain⟨q,h6,h7⟩:=hent e he
   have h8:=(h7 []).symm.trans (h5 [] (ZK _ _))
   obtain⟨c',hc'⟩:=hall q h6
   rw[hc',qt4] at h8
   cases c' with
   | true=>
    rw[if_pos rfl] at h8
    injection h8 with h8
    rw[if_pos (hb2.2 ⟨q,h6,hc'⟩),h8]
   | false=>
    rw[if_neg (by simp)] at h8
    injection h8 with h8
    exact absurd (by rw[←h8]) h2.ne
  ·have h6:=h5 [] (ZK _ _)
   rw[hF,hg1,hn] at h6
   injection h6 with h6
   cases hbb:b with
   | false=>rw[if_neg (by simp),h6]
   | true=>
    obtain⟨q,hq,hq2⟩:=hb2.1 hbb
    obtain⟨j,hj⟩:=q8M (kE:=kE) (vE:=vE) (i:=0) hq
    have hF1:(XEo E f k (lbO f key) ((st (.ob (.mi (.c (.hd .map mid)) M.length []))).m1 id (.c (.hd .map mid)) M.length (some (kE q.1,vE q.2,j)) [])).bind (lpx pol f key k)=some x:=by
     rw[hF,hg1]
     obtain⟨q2,g1,g2,g3,g4,g5,g6⟩:=q3o hj
     have:=hr q.1 q.2 j [] (by rw[g6];simp only at g2 g3;rw[←g2,←g3])
     rw[this,hq2];rfl
    rw[if_pos rfl]
    rcases h2.ent _ hj with h7|h7
    ·have:=(h7 [] (ZK _ _)).symm.trans hF1
     injection this with this
     exact absurd (by rw[←this]) hx
    ·have:=(h7 [] (ZK _ _)).symm.trans hF1
     injection this with this
     first
      | exact this
      | exact this.symm
 ·obtain⟨b,hb,h⟩:=qt9.1 h
  injection h with h
  subst h
  obtain⟨hall,hb2⟩:=q2d hb
  refine qc8 hHd ⟨?_,fun e he=>?_,?_⟩
  ·split
   ·exact hx
   ·exact hz
  ·obtain⟨q,h6,h7⟩:=hent e he
   obtain⟨c',hc'⟩:=hall q h6
   cases c' with
   | false=>exact .inl fun l _=>by rw[h7 l,hc'];rfl
   | true=>exact .inr fun l _=>by rw[h7 l,hc',if_pos (hb2.2 ⟨q,h6,hc'⟩)];rfl
  ·cases hbb:b with
   | false=>exact .inr fun l _=>by rw[hF,hg1,hn];rfl
   | true=>
    obtain⟨q,hq,hq2⟩:=hb2.1 hbb
    obtain⟨j,hj⟩:=q8M (kE:=kE) (vE:=vE) (i:=0) hq
    refine .inl ⟨_,hj,fun l _=>?_⟩
    rw[hF,hg1]
    obtain⟨q2,g1,g2,g3,g4,g5,g6⟩:=q3o hj
    have:=hr q.1 q.2 j l (by rw[g6];simp only at g2 g3;rw[←g2,←g3])
    rw[this,hq2];rfl
theorem q9d {E:Orc} {f k key:Nat} {c:Code} {it:Operand} (hc:lbO f key=c) (hl:okL f c) {kE:κ→Value} {vE:ν→R} {M:List (κ×ν)} {st:B→S} {id mid:Nat} {x z:Exit×S} {g:κ→ν→Option Bool}
  (hok:∀a,kOk (kE a)=true) (hit:∀b,(st b).ev it = .c (.hd .iter id)) (hid:∀b,(st b).blk id=b) (hmid:∀b,(st b).blk mid = .ob (mpB kE vE M)) (hne:mid≠id) (hgh:∀b b',(st b).gh id b'=st b')
  (hx:x.1 ≠ .normal) (hz:z.1 ≠ .normal)
  (hr:∀(a:κ) (v:ν) (j:Nat) (l:List Nat),q5M (mpE kE vE M 0) j=some (.tup [kR (kE a),vE v])→lz2 f k key (XE2 E f k c (st (.ob (.m1 (some (kE a,vE v,j)) (.c (.hd .map mid)) M.length l))))=(g a v).bind fun b=>if b=true then some x else some (.normal,st (.ob (.mi (.c (.hd .map mid)) M.length (j::l)))))
  (hn:∀(l:List Nat),lz2 f k key (XE2 E f k c (st (.ob (.m1 none (.c (.hd .map mid)) M.length l))))=some z) :
  XM2 E f k key it (st (.ob (.mi (.c (.hd .map mid)) M.length [])))=(anyO g M).bind fun b=>if b=true then some x else some z:=by
 rw[qhr hc hl hok hit hid hmid hne hgh hx hz hr hn]
 congr 1
 funext b
 cases b<;>rfl
theorem qk.anyO {g h:κ→ν→Option Bool} (hg:∀a v,qk (g a v) (h a v)):∀M:List (κ×ν),qk (Vc.anyO g M) (Vc.anyO h M)
 | []=>qk.refl _
 | q::M=>qk.bind (hg _ _) fun _=>qk.bind (qk.anyO hg M) fun _=>qk.refl _
end
end
noncomputable section
open Go.RowKit
theorem q87 {ν:Type} {vE:ν→R}:∀(M:List (ByteArray×ν)) (i:Nat),q74 (mpE Q5 vE M i)=some (M.map Prod.fst)
 | [],_=>rfl
 | p::M,i=>by
  rw[mpE]
  show(qpk (Q5 p.1)).bind _=_
  rw[q87 M];rfl
theorem qpC {ν:Type} {vE:ν→R} (M:List (ByteArray×ν)):skO (mpB Q5 vE M)=some (M.map Prod.fst):=by
 show(if((mpE Q5 vE M 0).map (·.2.2)).Nodup∧(mpE Q5 vE M 0).all (fun e=>decide (e.2.2<M.length))=true then q74 (mpE Q5 vE M 0) else none)=_
 rw[if_pos,q87]
 refine⟨by rw[q61];exact List.nodup_range',qtl.2 fun e he=>?_⟩
 obtain⟨q,-,-,-,-,h3,-⟩:=q3o he
 simpa using h3
theorem q50:∀l:List ByteArray,l.map D.str=l.flatMap eS
 | []=>rfl
 | x::l=>by rw[qu7,qtr,q50 l];rfl
theorem qk1 {ν:Type} {vE:ν→R} (g t:Nat) (M:List (ByteArray×ν)):qk2 g 2 [.c (.fn g [] [.ptr 0 0])] [(0,.blk t [.hd .map 1]),(1,.ob (mpB Q5 vE M))] =
  if qiW (M.map Prod.fst)=true then some (.c (.d (.sl 1 (Jv (M.map Prod.fst)).length ((Jv (M.map Prod.fst)).flatMap eS))),[(0,.blk t [.hd .map 1]),(1,.ob (mpB Q5 vE M))]) else none:=by
 show(if g=g then(skO (mpB Q5 vE M)).bind _ else none)=_
 rw[if_pos rfl,qpC,qt4,q50,(Z8 _).length_eq]
theorem q4T {α β:Type} {E:α→List β} {z:Nat} (hE:∀x,(E x).length=z):∀(l:List α) (i:Nat),i<l.length→(l.flatMap E).take (i*z)++(l.flatMap E).drop ((i+1)*z)=(l.eraseIdx i).flatMap E
 | [],_,h=>by simp at h
 | x::l,0,_=>by
  rw[qu7,Nat.zero_mul,List.take_zero,qto,qts,Nat.one_mul,←hE x,List.drop_left];rfl
 | x::l,i+1,h=>by
  rw[qu7,List.eraseIdx_cons_succ,qu7,←q4T hE l i (by simpa using h)]
  have e1:(i+1)*z=(E x).length+i*z:=by rw[hE,Nat.add_mul];omega
  have e2:(i+1+1)*z=(E x).length+(i+1)*z:=by rw[hE,Nat.add_mul (i+1)];omega
  rw[e2,List.drop_append,e1,List.take_append]
  simp[Nat.add_sub_cancel_left,qu9,List.drop_of_length_le]
theorem qhn {α:Type} {E:α→List D} {e z:Nat} (hE:∀x,(E x).length=z) {n:Nat} (l:List α) (i j:Int) (hn:n=l.length):q9x e z 0 [.c (.own 0 z 0 n),.c (.d (.int .i64 i)),.c (.d (.int .i64 j))] [(0,.row e z ((l.flatMap E).map C.d))] =
  if 0≤i∧j=i+1∧i<l.length then some (.c (.own 0 z 0 (l.eraseIdx i.toNat).length),[(0,.row e z (((l.eraseIdx i.toNat).flatMap E).map C.d))]) else none:=by
 subst hn
 show qmS e z z z e l.length i j _=_
 unfold qmS
 have h1:((l.flatMap E).map C.d).length=l.length*z:=by
  rw[qtL]
  induction l with
  | nil=>simp
  | cons x l ih=>rw[qu7,qtb,ih,hE,qtf,Nat.add_mul];omega
 have h2:((l.flatMap E).map C.d).all C.known=true:=by rw[List.all_map];exact qtl.2 fun x _=>rfl
 have h3:((l.flatMap E).map C.d).all (C.far 0)=true:=by rw[List.all_map];exact qtl.2 fun x _=>rfl
 by_cases hc:0≤i∧j=i+1∧i<(l.length:Int)
 ·rw[if_pos ⟨rfl,rfl,rfl,h1,h2,h3,hc⟩,if_pos hc]
  have hi:i.toNat<l.length:=by omega
  rw[←List.map_take,←List.map_drop,←List.map_append,q4T hE l _ hi,List.length_eraseIdx,if_pos hi]
 ·rw[if_neg (fun h=>hc h.2.2.2.2.2.2),if_neg hc]
end
noncomputable section
open Go.RowKit
def C.pl:C→Bool
 | .d _=>true
 | .ow _ _ _ _=>true
 | _=>false
section
variable {α:Type} {E:α→List C} {n:Nat}
theorem qdv (h:∀x,(E x).all C.pl=true) (v:List α) {c:C} (hc:c∈v.flatMap E):c.pl=true:=by
 obtain⟨x,-,hx⟩:=List.mem_flatMap.1 hc
 exact qtl.1 (h x) c hx
theorem q8f (h:∀x,(E x).all C.pl=true) {f:C→C} (hf:∀c,c.pl=true→f c=c) (v:List α):(v.flatMap E).map f=v.flatMap E:=
 (List.map_congr_left fun c hc=>hf c (qdv h v hc)).trans (List.map_id _)
theorem qg5 (h:∀x,(E x).all C.pl=true) {p:C→Bool} (hf:∀c,c.pl=true→p c=true) (v:List α):(v.flatMap E).all p=true:=
 qtl.2 fun c hc=>hf c (qdv h v hc)
theorem qlX (h:∀x,(E x).all C.pl=true) {p:C→Bool} (hf:∀c,c.pl=true→p c=false) (v:List α):(v.flatMap E).any p=false:=
 List.any_eq_false.2 fun c hc=>by rw[hf c (qdv h v hc)];decide
theorem qmo (h:∀x,(E x).all C.pl=true) {f:C→List Nat} (hf:∀c,c.pl=true→f c=[]) (v:List α):(v.flatMap E).flatMap f=[]:=
 List.flatMap_eq_nil_iff.2 fun c hc=>hf c (qdv h v hc)
theorem qfH (h:∀x,(E x).length=n):∀l:List α,(l.flatMap E).length=l.length*n
 | []=>by simp
 | x::l=>by rw[qu7,qtb,h,qfH h l,qtf,Nat.add_mul];omega
theorem qd4 (h:∀x,(E x).length=n) {o:Nat} (ho:o<n):∀(v:List α) (i:Nat),(v.flatMap E)[i*n+o]?=(v[i]?).bind fun x=>(E x)[o]?
 | [],i=>by simp
 | x::v,0=>by
  rw[qu7,Nat.zero_mul,qts,qtH (by rw[h];exact ho)];rfl
 | x::v,i+1=>by
  rw[qu7,show(i+1)*n+o=(E x).length+(i*n+o) by rw[h,Nat.add_mul];omega,qtG (by omega),show(E x).length+(i*n+o)-(E x).length=i*n+o by omega,qd4 h ho v i]
  rfl
theorem q94 (h:∀x,(E x).length=n) {fo:Nat} {d:C} (g:α→α) (hf:fo<n) (hg:∀x,E (g x)=(E x).set fo d):∀(v:List α) (i:Nat),(v.flatMap E).set (i*n+fo) d=(v.modify i g).flatMap E
 | [],i=>by simp
 | y::v,0=>by
  rw[qu7,Nat.zero_mul,qts,List.set_append_left _ _ (by rw[h];exact hf),←hg]
  simp
 | y::v,i+1=>by
  rw[qu7,show(i+1)*n+fo=(E y).length+(i*n+fo) by rw[h,Nat.add_mul];omega,List.set_append_right _ _ (by omega),show(E y).length+(i*n+fo)-(E y).length=i*n+fo by omega,q94 h g hf hg v i]
  simp
theorem qfK (v:List α) (x:α):v.flatMap E++E x=(v++[x]).flatMap E:=by simp
theorem ql4 {F:α→List D} (h:∀x,(E x).map C.uw=(F x).map C.d):∀v:List α,(v.flatMap E).map C.uw=(v.flatMap F).map C.d
 | []=>rfl
 | x::v=>by rw[qu7,qu7,List.map_append,List.map_append,h,ql4 h v]
theorem qpE {T:Ty} {t:TypeId} {cs:List C} {off:Nat} (hk:∀fs,T.k t ≠ .st fs) (ha:∀n e,T.k t ≠ .arr n e) (ho:T.k t ≠ .other):ld T cs off t=(cs[off]?).map .c:=by
 unfold ld
 split
 ·rename_i h;exact absurd h (hk _)
 ·rename_i h;exact absurd h (ha _ _)
 ·rename_i h;exact absurd h ho
 ·rfl
theorem qaK (zs0:List (Option (Nat×Nat))):∀(zs:List (Option (Nat×Nat))) (xs ys:List C),xs.all C.pl=true→zs.length=xs.length→q4k zs0 zs (xs++ys)=xs++q4k zs0 [] ys
 | [],[],ys,_,_=>rfl
 | [],d::ds,ys,_,h=>by cases h
 | z::zs,[],ys,_,h=>by cases h
 | z::zs,d::ds,ys,hp,h=>by
  rw[List.all_cons,qtA] at hp
  rw[qu8,q4k,qaK zs0 zs ds ys hp.2 (by simpa using h)]
  have:qdl z d=d:=by
   rcases q5q z d with e|⟨e,-⟩
   ·exact e
   ·rw[e] at hp;cases hp.1
  rw[this];rfl
theorem qfZ (hp:∀x,(E x).all C.pl=true) (h:∀x,(E x).length=n+1) (zs0:List (Option (Nat×Nat))) (h0:zs0.length=n+1):∀(v:List α) (ys:List C),q4k zs0 [] (v.flatMap E++ys)=v.flatMap E++q4k zs0 [] ys
 | [],ys=>rfl
 | x::v,ys=>by
  have hx:=h x
  have hpx:=hp x
  rw[qu7,qtJ,qtJ,←qfZ hp h zs0 h0 v ys]
  cases hE:E x with
  | nil=>rw[hE] at hx;cases hx
  | cons d ds=>
   rw[hE] at hx hpx
   rw[List.all_cons,qtA] at hpx
   rw[qu8,q4k,qaK zs0 zs0.tail ds _ hpx.2 (by rw[List.length_tail];simp at hx;omega)]
   have:qdl (zs0.headD none) d=d:=by
    rcases q5q (zs0.headD none) d with e|⟨e,-⟩
    ·exact e
    ·rw[e] at hpx;cases hpx.1
   rw[this];rfl
end
theorem qpO (k:Nat) (c:C) (h:c.pl=true):c.fg k=c:=by cases c<;>first|rfl|cases h
theorem qpG (ids:List Nat) (c:C) (h:c.pl=true):cn ids c=c:=by cases c<;>first|rfl|cases h
theorem qoB (c:C) (h:c.pl=true):c.kw=c:=by cases c<;>first|rfl|cases h
theorem qox (k e sz:Nat) (ds:List D) (c:C) (h:c.pl=true):c.ab k e sz ds=c:=by cases c<;>first|rfl|cases h
theorem qjW (k:Nat) (c:C) (h:c.pl=true):c.far k=true:=by cases c<;>first|rfl|cases h
theorem qhy (X:List Nat) (c:C) (h:c.pl=true):c.farF X=true:=by cases c<;>first|rfl|cases h
theorem qic (c:C) (h:c.pl=true):c.isNils=false:=by cases c<;>first|rfl|cases h
theorem qih (c:C) (h:c.pl=true):c.refs=[]:=by cases c<;>first|rfl|cases h
theorem qhY (c:C) (h:c.pl=true):c.rows=[]:=by cases c<;>first|rfl|cases h
theorem qdA (f:C→C) (xs ys:List C):(xs++ys).map f=xs.map f++ys.map f:=List.map_append
theorem qeQ (f:C→C):∀(ys cs:List C) (o:Nat),(spr cs o ys).map f=spr (cs.map f) o (ys.map f):=fun ys cs o=>(q4q f ys cs o).symm
theorem qe5 (a b:C) (cs:List C) (o:Nat):spr (spr cs o [a]) o [b]=spr cs o [b]:=by
 show(cs.set o a).set o b=cs.set o b
 rw[List.set_set]
theorem qf4 (cs:List C) (o:Nat) (c:C):((spr cs o [c])[o]?).map R.c=(cs[o]?).bind fun _=>some (R.c c):=by
 show((cs.set o c)[o]?).map R.c=_
 rcases Nat.lt_or_ge o cs.length with h|h
 ·rw[qu0 h,qt6 h];rfl
 ·rw[qtC (by rw[qtO];exact h),qtC h];rfl
theorem q9h (ys cs:List C) (o:Nat):(spr cs o ys).length=cs.length:=q1Z ys cs o
theorem qjg (ds:List D):(ds.map C.d).map C.uw=ds.map C.d:=by rw[List.map_map];rfl
theorem qlS (k e sz:Nat) (es ds:List D):(ds.map C.d).map (C.ab k e sz es)=ds.map C.d:=by rw[List.map_map];rfl
end
noncomputable section
open Go.RowKit
def bx0:=JA_ @S.uwD.eq_1 (JA_ @S.tkD.eq_1 (JA_ @S.tkP.eq_1 (JA_ @S.tkP.eq_2 (JA_ @qmr.eq_1 (JA_ @qmr.eq_2 (JA_ @qmr.eq_10 (JA_ @tkL.eq_1 (JA_ @tkL.eq_2 (JA_ @S.frk.eq_1 (JA_ @qkP.eq_1 (JA_ @qbt.eq_1 (JA_ @qex (JA_ @qe0 (JA_ @adL.eq_1 (JA_ @adS.eq_1 (JA_ @adP.eq_1 (JA_ @adP.eq_2 (JA_ @qqd.eq_1 (JA_ @qnh.eq_1 (JA_ @S.wk.eq_1 (JA_ @q8j.eq_1 (JA_ @q8j.eq_2 (JA_ @qnY.eq_1 (JA_ @S.abR.eq_1 (JA_ @uwR.eq_1 (@uwR.eq_2))))))))))))))))))))))))))
def bx1:=JA_ @ldO.eq_1 (JA_ @ldT.eq_1 (JA_ @ldT.eq_2 (JA_ @ldT.eq_10 (JA_ @ldP.eq_1 (JA_ @ldU.eq_1 (JA_ @stO.eq_1 (JA_ @qmH.eq_1 (JA_ @qmH.eq_2 (JA_ @qmL.eq_1 (JA_ @qg1.eq_1 (JA_ @S.fnB.eq_1 (JA_ @S.uwB.eq_1 (JA_ @Kd.isSl0.eq_1 (JA_ @tkS.eq_1 (JA_ @B.kw.eq_1 (JA_ @B.kw.eq_2 (JA_ @C.kw.eq_2 (JA_ @R.nw.eq_1 (JA_ @R.nw.eq_2 (JA_ @R.nw0.eq_1 (JA_ @R.nw0.eq_2 (JA_ @R.nw0.eq_4 (JA_ @C.nw.eq_2 (@C.nw.eq_3))))))))))))))))))))))))
def bx2:=JA_ @C.dn0.eq_3 (JA_ @S.uw.eq_1 (JA_ @B.uw.eq_1 (JA_ @B.uw.eq_2 (JA_ @B.uw.eq_4 (JA_ @C.uw.eq_1 (JA_ @C.uw.eq_2 (JA_ @S.dzo.eq_1 (JA_ @qaP.eq_1 (JA_ @qaP.eq_2 (JA_ @q4k.eq_1 (JA_ @q4k.eq_2 (JA_ @q4k.eq_3 (JA_ @qdl.eq_1 (JA_ @qdl.eq_2 (JA_ @S.abL.eq_1 (JA_ @S.abL.eq_2 (JA_ @S.ab1.eq_1 (JA_ @ab2.eq_1 (JA_ @qj4.eq_1 (JA_ @qj4.eq_2 (JA_ @qj8.eq_2 (JA_ @abS.eq_1 (JA_ @B.ab.eq_1 (JA_ @B.ab.eq_2 (JA_ @B.ab.eq_4 (JA_ @C.ab.eq_1 (JA_ @C.ab.eq_2 (JA_ @qcQ.eq_1 (JA_ @q2o.eq_1 (JA_ @abAt.eq_1 (JA_ @C.noow.eq_2 (@qey.eq_1))))))))))))))))))))))))))))))))
def bx3:=JA_ @qey.eq_2 (JA_ @S.strip.eq_1 (JA_ @q1O.eq_1 (JA_ @q1O.eq_2 (JA_ @R.isA.eq_2 (JA_ @qqA.eq_1 (JA_ @qn4.eq_1 (JA_ @qcZ.eq_1 (JA_ @qcf.eq_1 (JA_ @S.ly.eq_1 (JA_ @alC.eq_1 (JA_ @alC.eq_2 (JA_ @alX.eq_2 (JA_ @ipX.eq_1 (JA_ @qmC.eq_1 (JA_ @qmC.eq_2 (JA_ @ipA.eq_1 (JA_ @ipS.eq_1 (JA_ @ipS.eq_2 (JA_ @ipF.eq_1 (JA_ @qke.eq_1 (@qke.eq_2)))))))))))))))))))))
def bx4:=JA_ @q6W.eq_1 (JA_ @qes.eq_1 (JA_ @qes.eq_2 (JA_ @zmk.eq_1 (JA_ @zmk.eq_2 (JA_ @S.fin.eq_1 (JA_ @S.fn1.eq_1 (JA_ @S.inr.eq_1 (JA_ @prx.eq_1 (JA_ @APr.of_run (JA_ @pr0.eq_1 (JA_ @List.isEmpty_nil.{0} (JA_ @List.isEmpty_cons.{0} (JA_ @wbC.eq_1 (JA_ @B.beq.eq_1 (JA_ @C.beqL.eq_1 (JA_ @C.beqL.eq_2 (JA_ @C.beq0.eq_1 (JA_ @D.beq.eq_1 (@D.beq.eq_4)))))))))))))))))))
def bx5:=JA_ @qnX.eq_1 (JA_ @dzc.eq_2 (JA_ @dzc.eq_3 (JA_ @C.isNils.eq_1 (JA_ @C.isNils.eq_2 (JA_ @qf8 (JA_ @List.any_append.{0} (JA_ @q0h.eq_1 (JA_ @q3t.eq_1 (JA_ @q3t.eq_2 (JA_ @qfh.eq_1 (JA_ @fpA.eq_1 (JA_ @q9k.eq_1 (JA_ @S.kill.eq_1 (JA_ @qif.eq_1 (JA_ @qif.eq_2 (JA_ @qal.eq_1 (JA_ @qkt.eq_1 (JA_ @okX.eq_1 (JA_ @okX.eq_2 (JA_ @okK.eq_1 (JA_ @okN.eq_1 (JA_ @okN.eq_2 (JA_ @qgm.eq_1 (JA_ @qgm.eq_2 (JA_ @qiY.eq_1 (JA_ @qiY.eq_2 (JA_ @q2F.eq_1 (JA_ @qat.eq_1 (@q0B.eq_1)))))))))))))))))))))))))))))
def bx6:=JA_ @qav.eq_1 (JA_ @q2x.eq_1 (@q58.eq_1))
def bx7:=JA_ @qbV.eq_1 (JA_ @D.key.eq_3 (JA_ @R.key.eq_1 (JA_ @plK.eq_2 (JA_ @zR.eq_1 (JA_ @tt2.eq_1 (JA_ @B.isOb.eq_2 (JA_ @AO.mapR.eq_3 (JA_ @AO.mapR.eq_4 (JA_ @AO.Rs.eq_3 (JA_ @AO.Rs.eq_4 (@R.refs0.eq_1)))))))))))
def bx8:=JA_ @xgd.eq_1 (JA_ @xgF.eq_1 (JA_ @xo.eq_1 (JA_ @xo.eq_2 (JA_ @xo.eq_3 (JA_ @xo.eq_4 (JA_ @xo.eq_5 (JA_ @xo.eq_6 (JA_ @xo.eq_7 (JA_ @xo.eq_8 (JA_ @xo.eq_9 (JA_ @xo.eq_10 (JA_ @xo.eq_11 (JA_ @xo.eq_12 (JA_ @xo.eq_13 (JA_ @xo.eq_14 (JA_ @xo.eq_16 (JA_ @xo.eq_17 (JA_ @xo.eq_19 (JA_ @xo.eq_21 (JA_ @xo.eq_22 (JA_ @xo.eq_23 (JA_ @xo.eq_24 (JA_ @xo.eq_25 (JA_ @xo.eq_29 (JA_ @xo.eq_30 (JA_ @xo.eq_31 (JA_ @xCl.eq_1 (JA_ @pre.eq_1 (JA_ @pre.eq_2 (@pre.eq_3))))))))))))))))))))))))))))))
def bx9:=JA_ @q3Z.eq_1 (JA_ @JK.eq_1 (JA_ @q4R.eq_1 (JA_ @q81.eq_1 (JA_ @q7a.eq_1 (JA_ @q1d.eq_1 (JA_ @q0x.eq_2 (JA_ @q0x.eq_3 (JA_ @qns.eq_1 (JA_ @q9U.eq_1 (JA_ @q9U.eq_2 (JA_ @cvR.eq_1 (JA_ @cvR.eq_2 (JA_ @cvL.eq_1 (JA_ @cvL.eq_2 (JA_ @qdi.eq_1 (JA_ @qdi.eq_2 (JA_ @cv.eq_1 (JA_ @cv.eq_2 (JA_ @cv0.eq_1 (JA_ @cv0.eq_5 (JA_ @cv0.eq_8 (JA_ @cv0.eq_9 (JA_ @cv0.eq_10 (JA_ @cvG.eq_1 (JA_ @cvG.eq_2 (JA_ @cvB.eq_1 (JA_ @cvB.eq_2 (@cvB.eq_3))))))))))))))))))))))))))))
def qsp:=JA_ @vis.eq_1 (JA_ @q3y.eq_1 (JA_ @q3y.eq_2 (JA_ @q1c (JA_ @qhm.eq_1 (JA_ @pos.eq_1 (JA_ @pos.eq_2 (JA_ @qfn.eq_1 (JA_ @q5Y.eq_1 (JA_ @q8u.eq_1 (JA_ @qmB.eq_1 (JA_ @q0G.eq_1 (JA_ @q00.eq_1 (JA_ @q1o.eq_1 (JA_ @q3P.eq_1 (JA_ @q15.eq_1 (JA_ @q9n.eq_1 (JA_ @q9n.eq_2 (JA_ @q9n.eq_4 (JA_ @q9n.eq_5 (JA_ @q9n.eq_10 (JA_ @q9n.eq_11 (JA_ @q9n.eq_12 (JA_ @q9n.eq_13 (JA_ @q9n.eq_14 (JA_ @q9n.eq_15 (JA_ @qfS.eq_1 (JA_ @qfS.eq_2 (@qfS.eq_3))))))))))))))))))))))))))))
def qrn:=JA_ @qfS.eq_6 (JA_ @qfS.eq_7 (JA_ @qmJ.eq_1 (JA_ @qmA.eq_1 (JA_ @qna.eq_1 (JA_ @qn3.eq_1 (JA_ @qf6.eq_1 (JA_ @q8V.eq_1 (JA_ @ZW.eq_1 (JA_ @q2m.eq_1 (JA_ @q20.eq_1 (JA_ @Kd.isSl.eq_1 (JA_ @nrm.eq_1 (JA_ @qgd.eq_1 (JA_ @qoW.eq_1 (JA_ @rng.eq_1 (JA_ @rng.eq_2 (JA_ @rwAll.eq_1 (JA_ @rwAll.eq_2 (@rw1.eq_1)))))))))))))))))))
def qs5:=JA_ @rw1.eq_2 (JA_ @cn.eq_1 (JA_ @cn.eq_2 (JA_ @cn0.eq_1 (JA_ @cn0.eq_2 (JA_ @cn0.eq_3 (JA_ @cn0.eq_5 (JA_ @cnR.eq_2 (JA_ @q9T.eq_1 (JA_ @q9T.eq_2 (JA_ @q9T.eq_3 (JA_ @cnB.eq_1 (JA_ @cnB.eq_2 (JA_ @cnB.eq_3 (JA_ @cnH.eq_1 (JA_ @cnH.eq_2 (JA_ @qm0 (JA_ @qV.eq_1 (JA_ @qV.eq_2 (JA_ @qko.eq_1 (JA_ @q9z.eq_1 (JA_ @q4A.eq_1 (JA_ @q9F.eq_1 (JA_ @q4G.eq_1 (JA_ @q6Z.eq_1 (JA_ @q4C.eq_1 (JA_ @q4C.eq_2 (JA_ @S.frz.eq_1 (JA_ @S.frz.eq_2 (@S.frz1.eq_1)))))))))))))))))))))))))))))
def qsH:=JA_ @fz.eq_2 (JA_ @fz0.eq_1 (JA_ @fz0.eq_2 (JA_ @fz0.eq_5 (JA_ @fzR.eq_2 (JA_ @qdj.eq_1 (JA_ @qdj.eq_2 (JA_ @qdj.eq_3 (JA_ @fzB.eq_1 (JA_ @fzB.eq_2 (JA_ @fzB.eq_4 (JA_ @qkC (JA_ @dz.eq_1 (JA_ @dz.eq_2 (JA_ @dzL.eq_1 (JA_ @dzL.eq_2 (JA_ @dzR.eq_1 (JA_ @dzR.eq_2 (JA_ @q9I.eq_1 (JA_ @q9I.eq_2 (JA_ @one.eq_1 (JA_ @one.eq_2 (JA_ @rvs.eq_1 (JA_ @rvs.eq_2 (JA_ @qge.eq_1 (JA_ @qge.eq_2 (JA_ @tt.eq_1 (JA_ @ff.eq_1 (JA_ @q3O.eq_1 (JA_ @q3O.eq_2 (JA_ @C.ref0.eq_1 (JA_ @C.ref0.eq_2 (JA_ @C.ref0.eq_3 (@C.ref0.eq_4)))))))))))))))))))))))))))))))))
def qsN:=JA_ @C.refs.eq_1 (JA_ @C.refs.eq_2 (JA_ @B.refs.eq_1 (JA_ @B.refs.eq_2 (JA_ @B.refs.eq_3 (JA_ @B.refs.eq_4 (JA_ @R.refs.eq_1 (JA_ @R.refs.eq_2 (JA_ @R.refs.eq_4 (JA_ @C.rows0.eq_1 (JA_ @C.rows0.eq_2 (JA_ @C.rows.eq_1 (JA_ @C.rows.eq_2 (JA_ @R.rows.eq_1 (JA_ @R.rows.eq_2 (JA_ @C.ptrs0.eq_1 (JA_ @C.ptrs0.eq_2 (JA_ @C.ptrs0.eq_3 (JA_ @C.ptrs.eq_1 (JA_ @C.ptrs.eq_2 (JA_ @R.ptrs.eq_1 (JA_ @R.ptrs.eq_2 (JA_ @B.isBlk.eq_1 (JA_ @B.isBlk.eq_2 (JA_ @B.isBlk.eq_3 (JA_ @R.scl.eq_1 (JA_ @R.scl.eq_2 (JA_ @R.scl0.eq_1 (JA_ @R.scl0.eq_2 (JA_ @C.scl.eq_1 (JA_ @C.scl.eq_2 (JA_ @C.scl0.eq_1 (JA_ @C.scl0.eq_4 (@B.scl.eq_1)))))))))))))))))))))))))))))))))
def qsj:=JA_ @B.scl.eq_2 (JA_ @B.scl.eq_3 (JA_ @C.dat.eq_2 (JA_ @C.dat0.eq_1 (JA_ @C.dat0.eq_5 (JA_ @C.dat0.eq_8 (JA_ @ren.eq_1 (JA_ @R.rn.eq_1 (JA_ @R.rn.eq_2 (JA_ @R.rn0.eq_1 (JA_ @R.rn0.eq_2 (JA_ @C.rn.eq_1 (JA_ @C.rn.eq_2 (JA_ @C.rn0.eq_1 (JA_ @C.rn0.eq_2 (JA_ @C.rn0.eq_3 (JA_ @C.rn0.eq_6 (JA_ @B.rn.eq_1 (JA_ @B.rn.eq_2 (JA_ @B.rn.eq_3 (JA_ @qjq (JA_ @S.aft.eq_1 (JA_ @S.fgL.eq_1 (JA_ @S.fgL.eq_2 (JA_ @C.fgL.eq_1 (JA_ @C.fgL.eq_3 (JA_ @C.fgL.eq_4 (@C.fgL.eq_5)))))))))))))))))))))))))))
def qs0:=JA_ @R.fgL.eq_1 (JA_ @R.fgL.eq_2 (JA_ @B.fgL.eq_1 (JA_ @B.fgL.eq_2 (JA_ @B.fgL.eq_4 (JA_ @C.farL.eq_1 (JA_ @C.farL.eq_3 (JA_ @C.farL.eq_5 (JA_ @R.farL.eq_1 (JA_ @B.farL.eq_1 (JA_ @B.farL.eq_2 (JA_ @qmK.eq_3 (JA_ @S.ev.eq_1 (JA_ @S.ev.eq_2 (JA_ @S.ev.eq_3 (JA_ @S.get.eq_1 (JA_ @S.blk.eq_1 (JA_ @S.put.eq_1 (JA_ @S.put.eq_2 (JA_ @S.up.eq_1 (JA_ @S.bd.eq_1 (JA_ @S.bd.eq_2 (@S.seq.eq_1))))))))))))))))))))))
def qrV:=JA_ @S.cell1.eq_1 (JA_ @lk.eq_1 (JA_ @lk.eq_2 (JA_ @Zv.eq_1 (JA_ @Zv.eq_2 (JA_ @Zv.eq_3 (JA_ @Zv.eq_5 (JA_ @Zv.eq_6 (JA_ @Zv.eq_7 (JA_ @q1g.eq_1 (JA_ @q1g.eq_2 (JA_ @qhG (JA_ @ldx.eq_1 (JA_ @bld.eq_1 (JA_ @bld.eq_2 (JA_ @spl.eq_1 (JA_ @spl.eq_2 (JA_ @J1.eq_1 (JA_ @Ty.foff.eq_1 (JA_ @R.cells.eq_1 (JA_ @R.cells.eq_2 (JA_ @R.parts.eq_1 (JA_ @R.parts.eq_2 (JA_ @B.cells.eq_1 (JA_ @B.cells.eq_2 (JA_ @B.live.eq_1 (JA_ @B.live.eq_2 (JA_ @C.known.eq_3 (JA_ @C.far.eq_1 (@C.far.eq_3)))))))))))))))))))))))))))))
def qsh:=JA_ @C.far.eq_5 (JA_ @S.fg.eq_1 (JA_ @R.fg.eq_1 (JA_ @R.fg.eq_2 (JA_ @R.fg.eq_4 (JA_ @B.fg.eq_1 (JA_ @B.fg.eq_2 (JA_ @B.fg.eq_4 (JA_ @C.fg.eq_1 (JA_ @C.fg.eq_3 (JA_ @C.fg.eq_4 (JA_ @C.fg.eq_5 (JA_ @D1.eq_1 (JA_ @q0N.eq_1 (JA_ @q0N.eq_3 (JA_ @q0N.eq_4 (JA_ @q0N.eq_6 (JA_ @q0N.eq_7 (JA_ @q0N.eq_8 (JA_ @q0N.eq_9 (JA_ @q0N.eq_10 (JA_ @q0N.eq_11 (JA_ @q0N.eq_14 (JA_ @q0N.eq_15 (JA_ @q0N.eq_17 (JA_ @q0N.eq_23 (@q0N.eq_24))))))))))))))))))))))))))
def qt1:=JA_ @qcj.eq_1 (JA_ @qcj.eq_5 (JA_ @qcj.eq_6 (JA_ @q4w.eq_3 (JA_ @q4w.eq_5 (JA_ @q4w.eq_6 (JA_ @qbA.eq_1 (JA_ @qbA.eq_3 (JA_ @qbA.eq_4 (JA_ @qbA.eq_5 (JA_ @fpC.eq_1 (JA_ @qkB.eq_1 (JA_ @qlP.eq_1 (JA_ @qn0.eq_1 (JA_ @C.lt0.eq_4 (JA_ @C.ltn.eq_2 (JA_ @R.lt0.eq_1 (JA_ @R.ltn.eq_2 (JA_ @B.ltn.eq_1 (JA_ @q18.eq_1 (JA_ @Fp.none?.eq_1 (JA_ @okP.eq_1 (@okP.eq_2))))))))))))))))))))))
def qrC:=JA_ @qf5 (JA_ @qdB (JA_ @qhg (JA_ @qdH (JA_ @qdG (JA_ @qfm (JA_ @qi2 (JA_ @qdr (JA_ @qeZ (JA_ @qec (JA_ @q9f (JA_ @qh5 (JA_ @qdJ (JA_ @qdx (JA_ @qgB (JA_ @qfq (JA_ @qeB (JA_ @qen (JA_ @qgP (JA_ @qdM (JA_ @qfg (JA_ @qdX (JA_ @qil (JA_ @qem (JA_ @qgs (JA_ @qaC (JA_ @qgF (JA_ @qep (JA_ @qeE (JA_ @qj9 (JA_ @qiU (@C.farF.eq_2)))))))))))))))))))))))))))))))
def qrs:=JA_ @Op.operands.eq_1 (JA_ @Op.operands.eq_4 (JA_ @Op.operands.eq_7 (JA_ @Op.operands.eq_8 (JA_ @Op.operands.eq_9 (JA_ @Op.operands.eq_14 (JA_ @Op.operands.eq_23 (JA_ @Op.operands.eq_24 (JA_ @Op.operands.eq_25 (JA_ @Op.operands.eq_26 (JA_ @Op.operands.eq_27 (JA_ @Op.operands.eq_29 (JA_ @Op.operands.eq_36 (@Op.operands.eq_40)))))))))))))
def qsd:=JA_ @qjE (JA_ @qlB (JA_ @qlW.eq_1 (JA_ @qlW.eq_2 (JA_ @Option.toList_some.{0} (JA_ @Option.toList_none.{0} (JA_ @List.getElem?_nil.{0} (JA_ @List.drop_zero.{0} (JA_ @Int.cast_ofNat_Int (JA_ @Int.le_refl (JA_ @qtk (JA_ @Option.bind_assoc.{0,0,0} (JA_ @List.any_nil.{0} (JA_ @List.any_cons.{0} (JA_ @List.getD_cons_zero.{0} (JA_ @List.getD_cons_succ.{0} (JA_ @true_and (JA_ @and_true (JA_ @false_and (JA_ @qtS.{0} (JA_ @Prod.mk.injEq.{0,0} (JA_ @qt4.{0,0} (JA_ @Option.bind_none.{0,0} (JA_ @Option.map_some.{0,0} (JA_ @Option.map_none.{0,0} (JA_ @Option.getD_some.{0} (JA_ @Option.getD_none.{0} (JA_ @ne_eq.{1} (@not_false_eq_true))))))))))))))))))))))))))))
def qrj:=JA_ @or_false (JA_ @Bool.false_eq_true (JA_ @qtr.{0,0} (JA_ @List.map_nil.{0,0} (JA_ @List.all_cons.{0} (JA_ @List.all_nil.{0} (JA_ @qu5 (JA_ @qtB (JA_ @Bool.and_false (JA_ @Bool.false_and (JA_ @qtA (JA_ @Bool.or_true (JA_ @Bool.true_or (JA_ @Bool.or_false (JA_ @Bool.false_or (JA_ @qtf.{0} (JA_ @qtM.{0} (JA_ @qtL.{0,0} (JA_ @qte.{0} (JA_ @qtt.{0} (JA_ @qu6.{0,0} (JA_ @List.foldl_nil.{0,0} (JA_ @qu8.{0} (JA_ @qto.{0} (JA_ @qtp.{0} (JA_ @Nat.max_def (JA_ @decide_true (JA_ @decide_false (JA_ @decide_not (JA_ @qu2 (JA_ @qtu (JA_ @Nat.zero_mul (JA_ @Nat.mul_one (JA_ @Nat.one_mul (JA_ @Nat.add_zero (JA_ @qts (JA_ @qt7 (JA_ @List.mapM_cons.{0,0,0} (@List.mapM_nil.{0,0,0}))))))))))))))))))))))))))))))))))))))
def qsY:=JA_ @List.drop_succ_cons.{0} (JA_ @List.drop_nil.{0} (JA_ @List.take_succ_cons.{0} (JA_ @List.take_zero.{0} (JA_ @List.replicate_succ.{0} (JA_ @List.replicate_zero.{0} (JA_ @List.set_cons_zero.{0} (JA_ @List.set_cons_succ.{0} (JA_ @and_self (JA_ @Bool.not_true (JA_ @Bool.not_false (JA_ @List.contains_cons.{0} (JA_ @List.contains_nil.{0} (JA_ @qu7.{0,0} (JA_ @List.flatMap_nil.{0,0} (JA_ @List.filter_cons.{0} (JA_ @List.filter_nil.{0} (JA_ @List.eraseDups_cons.{0} (JA_ @List.eraseDups_nil.{0} (JA_ @List.nodup_cons.{0} (JA_ @List.nodup_nil.{0} (JA_ @qtq.{0} (JA_ @List.not_mem_nil.{0} (JA_ @List.headD_cons.{0} (JA_ @List.headD_nil.{0} (JA_ @List.tail_cons.{0} (JA_ @List.tail_nil.{0} (JA_ @beq_self_eq_true.{0} (JA_ @ZF (JA_ @List.range_succ (JA_ @List.range_zero (JA_ @ite_self.{1} (JA_ @qdA (JA_ @qeQ (JA_ @qe5 (JA_ @q9h (@qjg))))))))))))))))))))))))))))))))))))
def qsk:=JA_ @qlS (JA_ @frA.eq_1 (JA_ @R.dat.eq_1 (JA_ @R.dat.eq_2 (JA_ @qhv (JA_ @qhq (JA_ @qjS (JA_ @qim (JA_ @qle (JA_ @qgQ (JA_ @qiE (JA_ @qk9 (JA_ @qfs (JA_ @q6e (JA_ @qf2 (JA_ @mpo.eq_2 (JA_ @qps (@q9H)))))))))))))))))
def qrI:=JA_ @qjc (JA_ @qhc (JA_ @qm7 (JA_ @qiy (JA_ @qmm (JA_ @qdE (JA_ @qhM (JA_ @qce (JA_ @qi5 (JA_ @qhl (JA_ @qdD (JA_ @qeI (JA_ @Jy.eq_1 (@Jy.eq_2)))))))))))))
def qru:=JA_ @qgj.eq_2 (JA_ @hdG.eq_1 (JA_ @qkh.eq_1 (JA_ @qkh.eq_2 (JA_ @qbM (JA_ @xrg.eq_1 (JA_ @xrg.eq_3 (JA_ @qoY (JA_ @qbg (JA_ @xen.eq_1 (JA_ @qoD.eq_1 (JA_ @qof.eq_1 (JA_ @qcT (JA_ @xnm.eq_1 (JA_ @qmY.eq_1 (JA_ @qmY.eq_2 (JA_ @qaL (JA_ @q9G (JA_ @qiF (JA_ @qdO (JA_ @qeP (JA_ @qgq (@qeF))))))))))))))))))))))
def qrB:=JA_ @qgu (JA_ @qeX (JA_ @q9w (JA_ @qhA (JA_ @qdT (JA_ @qev (JA_ @qgZ (JA_ @qe1 (JA_ @qiG (JA_ @qdV (JA_ @qiT (JA_ @qit (JA_ @qdY (JA_ @qrv (JA_ @qry (JA_ @qoS (JA_ @qpv (JA_ @qp9 (JA_ @qld (JA_ @qjO (JA_ @qlQ (JA_ @qot (JA_ @qms (JA_ @ql1 (JA_ @qlb (JA_ @qhS (JA_ @qi4 (JA_ @qky (JA_ @qgW (@qkq)))))))))))))))))))))))))))))
def qsU:=JA_ @qlZ (JA_ @Sum.elim_inl.{0,1,0} (JA_ @Sum.elim_inr.{0,1,0} (JA_ @qhp (JA_ @qbE (JA_ @qa7 (JA_ @qek (JA_ @qlY.eq_1 (JA_ @qbv (JA_ @qgJ (JA_ @qht (JA_ @qha (JA_ @qiq (@q75)))))))))))))
def qrF:=JA_ @q6l (JA_ @qk7 (JA_ @qnm.eq_1 (JA_ @qtb.{0} (JA_ @qtO.{0} (JA_ @List.length_modify.{0} (JA_ @q9o (JA_ @qdc (JA_ @List.take_nil.{0} (JA_ @qaQ (@qk1))))))))))
theorem qsW (a0 a1 a2 a3:Int) (i:Nat):([C.d (D.int .i64 a0),C.d (D.int .i64 a1),C.d (D.int .i64 a2),C.d (D.int .i64 a3)]:List C)[i]?=([a0,a1,a2,a3][i]?).bind fun x=>some (C.d (D.int .i64 x)):=by rw[show([C.d (D.int .i64 a0),C.d (D.int .i64 a1),C.d (D.int .i64 a2),C.d (D.int .i64 a3)]:List C)=[a0,a1,a2,a3].map (fun x=>C.d (D.int .i64 x)) from rfl,qti];cases([a0,a1,a2,a3]:List Int)[i]? <;> rfl
theorem qsL (a0 a1 a2 a3 a4 a5:Int) (i:Nat):([C.d (D.int .i64 a0),C.d (D.int .i64 a1),C.d (D.int .i64 a2),C.d (D.int .i64 a3),C.d (D.int .i64 a4),C.d (D.int .i64 a5)]:List C)[i]?=([a0,a1,a2,a3,a4,a5][i]?).bind fun x=>some (C.d (D.int .i64 x)):=by rw[show([C.d (D.int .i64 a0),C.d (D.int .i64 a1),C.d (D.int .i64 a2),C.d (D.int .i64 a3),C.d (D.int .i64 a4),C.d (D.int .i64 a5)]:List C)=[a0,a1,a2,a3,a4,a5].map (fun x=>C.d (D.int .i64 x)) from rfl,qti];cases([a0,a1,a2,a3,a4,a5]:List Int)[i]? <;> rfl
theorem qrJ (a0 a1 a2 a3 a4 a5 a6 a7:ByteArray) (i:Nat):([C.d (D.str a0),C.d (D.str a1),C.d (D.str a2),C.d (D.str a3),C.d (D.str a4),C.d (D.str a5),C.d (D.str a6),C.d (D.str a7)]:List C)[i]?=([a0,a1,a2,a3,a4,a5,a6,a7][i]?).bind fun x=>some (C.d (D.str x)):=by rw[show([C.d (D.str a0),C.d (D.str a1),C.d (D.str a2),C.d (D.str a3),C.d (D.str a4),C.d (D.str a5),C.d (D.str a6),C.d (D.str a7)]:List C)=[a0,a1,a2,a3,a4,a5,a6,a7].map (fun x=>C.d (D.str x)) from rfl,qti];cases([a0,a1,a2,a3,a4,a5,a6,a7]:List ByteArray)[i]? <;> rfl
theorem qk5 (k:Nat):(6=min k 6)=(6≤k):=by apply propext;omega
theorem qjF (k:Nat):(min k 6≤6)=True:=eq_true (Nat.min_le_right ..)
theorem qnx (a0 a1 a2 a3 a4 a5:Int) (k:Nat):(if 6≤k then some [D.int .i64 a0,D.int .i64 a1,D.int .i64 a2,D.int .i64 a3,D.int .i64 a4,D.int .i64 a5] else some ((List.take (min k 6) [a0,a1,a2,a3,a4,a5]).flatMap eI))=some ((List.take k [a0,a1,a2,a3,a4,a5]).flatMap eI):=by
 split
 ·rename_i h;rw[qu9 (show[a0,a1,a2,a3,a4,a5].length≤k from h)];rfl
 ·rename_i h;rw[show min k 6=k by omega]
theorem qgM (a0 a1 a2 a3 a4 a5:ByteArray) (k:Nat):(List.take (min k 6) [D.str a0,D.str a1,D.str a2,D.str a3,D.str a4,D.str a5]:List D)=(List.take (min k 6) [a0,a1,a2,a3,a4,a5]).flatMap eS:=by rw[show([D.str a0,D.str a1,D.str a2,D.str a3,D.str a4,D.str a5]:List D)=[a0,a1,a2,a3,a4,a5].map (fun x=>D.str x) from rfl,←List.map_take];generalize List.take (min k 6) [a0,a1,a2,a3,a4,a5]=l;induction l with
 | nil=>rfl
 | cons a l ih=>rw[qtr,ih];rfl
theorem qgf (a0 a1 a2 a3 a4 a5:ByteArray) (k:Nat):(if 6≤k then some [D.str a0,D.str a1,D.str a2,D.str a3,D.str a4,D.str a5] else some ((List.take (min k 6) [a0,a1,a2,a3,a4,a5]).flatMap eS))=some ((List.take k [a0,a1,a2,a3,a4,a5]).flatMap eS):=by
 split
 ·rename_i h;rw[qu9 (show[a0,a1,a2,a3,a4,a5].length≤k from h)];rfl
 ·rename_i h;rw[show min k 6=k by omega]
theorem qhX (a0 a1 a2 a3 a4 a5:ByteArray) (k:Nat):D.sl 1 (min k 6) ((List.take k [a0,a1,a2,a3,a4,a5]).flatMap eS)=D.sl 1 (List.take k [a0,a1,a2,a3,a4,a5]).length ((List.take k [a0,a1,a2,a3,a4,a5]).flatMap eS):=by rw[qtx];rfl
def bz0:=JA_ @qsW (JA_ @qsL (@qrJ))
def bz2:=JA_ @qk5 (JA_ @qjF (JA_ @qgM (JA_ @qgf (@qhX))))
end
noncomputable section
open Go.RowKit
structure q6Q (α:Type) where
 a0:α
 a1:α
 a2:α
structure qa where
 Code:ByteArray
 Credits:Int
 Places:Int
 Slots:List Int
 Needs:List ByteArray
def qb (x:qa):List D:=[D.str x.Code,D.int .i64 x.Credits,D.int .i64 x.Places,D.sl 1 x.Slots.length (x.Slots.flatMap eI),D.sl 1 x.Needs.length (x.Needs.flatMap eS)]
theorem Q3 (x:qa):qb x=[D.str x.Code,D.int .i64 x.Credits,D.int .i64 x.Places,D.sl 1 x.Slots.length (x.Slots.flatMap eI),D.sl 1 x.Needs.length (x.Needs.flatMap eS)]:=rfl
theorem q0Y (x:qa):(qb x).length=5:=rfl
theorem q4g (x:qa):qa.mk x.Code x.Credits x.Places x.Slots x.Needs=x:=rfl
structure qh where
 L:List Int
 At:Int
theorem q3w (x:qh):qh.mk x.L x.At=x:=rfl
theorem qad:∀x:Int,(eI x).length=1:=fun _=>rfl
theorem qoR (v:List Int):(v.flatMap eI).length=v.length:=by rw[q2A qad,Nat.mul_one]
theorem qeH (v:List Int) (i:Nat):ld T ((v.flatMap eI).map C.d) (i) 3=(v[i]?).bind fun x=>some (.c (.d (D.int .i64 x))):=by rw[q5X qad v i _ (by decide)];cases v[i]? with|none=>rfl|some x=>rfl
theorem qnI (v:List Int) (a:Int):(v.flatMap eI).map C.d++[C.d (D.int .i64 a)]=((v++[a]).flatMap eI).map C.d:=by have h:=q7d (E:=eI) v a;exact h
theorem q0i:∀x:qa,(qb x).length=5:=q0Y
theorem qlU (v:List qa):(v.flatMap qb).length=v.length*5:=by rw[q2A q0i]
theorem q9s (v:List qa) (i:Nat):ld T ((v.flatMap qb).map C.d) (i*5) 35=(v[i]?).bind fun x=>some (.agg [.d (D.str x.Code),.d (D.int .i64 x.Credits),.d (D.int .i64 x.Places),.d (D.sl 1 x.Slots.length (x.Slots.flatMap eI)),.d (D.sl 1 x.Needs.length (x.Needs.flatMap eS))]):=by rw[q88 q0i v i _ (by decide) (by decide)];cases v[i]? with|none=>rfl|some x=>rw[qt4,qt4,Q3];rfl
theorem qbQ (v:List qa) (i:Nat):ld T ((v.flatMap qb).map C.d) (i*5) 9=(v[i]?).bind fun x=>some (.c (.d (D.str x.Code))):=by rw[q88 q0i v i _ (by decide) (by decide)];cases v[i]? with|none=>rfl|some x=>rw[qt4,qt4,Q3];rfl
theorem qm9 (v:List qa) (a_Code:ByteArray) (a_Credits:Int) (a_Places:Int) (a_Slots:List Int) (a_Needs:List ByteArray):(v.flatMap qb).map C.d++[C.d (D.str a_Code),C.d (D.int .i64 a_Credits),C.d (D.int .i64 a_Places),C.d (D.sl 1 a_Slots.length (a_Slots.flatMap eI)),C.d (D.sl 1 a_Needs.length (a_Needs.flatMap eS))]=((v++[(qa.mk a_Code a_Credits a_Places a_Slots a_Needs)]).flatMap qb).map C.d:=by have h:=q7d (E:=qb) v (qa.mk a_Code a_Credits a_Places a_Slots a_Needs);rw[Q3] at h;exact h
theorem qgh (v:List qa) (i:Nat) (a_Code:ByteArray) (a_Credits:Int) (a_Places:Int) (a_Slots:List Int) (a_Needs:List ByteArray):spr ((v.flatMap qb).map C.d) (i*5) [C.d (D.str a_Code),C.d (D.int .i64 a_Credits),C.d (D.int .i64 a_Places),C.d (D.sl 1 a_Slots.length (a_Slots.flatMap eI)),C.d (D.sl 1 a_Needs.length (a_Needs.flatMap eS))]=((v.set i (qa.mk a_Code a_Credits a_Places a_Slots a_Needs)).flatMap qb).map C.d:=by have h:=qix q0i v i (qa.mk a_Code a_Credits a_Places a_Slots a_Needs);rw[Q3] at h;exact h
theorem qeU (v:List qa) (i:Nat) (b:List Int):spr ((v.flatMap qb).map C.d) (i*5+3) [C.d (D.sl 1 b.length (b.flatMap eI))]=((v.modify i fun x=>{ x with Slots:=b }).flatMap qb).map C.d:=by have h:=qcL q0i (fo:=3) (d:=D.sl 1 b.length (b.flatMap eI)) (fun x=>{ x with Slots:=b }) (by decide) (fun x=>by rw[Q3,Q3];rfl) v i;rw[←h];exact(q4q C.d [D.sl 1 b.length (b.flatMap eI)] _ _)
theorem qaM (v:List qa) (i:Nat) (w:List Int) (z:Int):spr ((v.flatMap qb).map C.d) (i*5+3) [C.d (D.sl 1 (w.length+1) ((w++[z]).flatMap eI))]=((v.modify i fun x=>{ x with Slots:=(w++[z]) }).flatMap qb).map C.d:=by have h:=qeU v i (w++[z]);rw[qtb,qtm] at h;exact h
theorem q5t (v:List qa) (i:Nat) (b:List ByteArray):spr ((v.flatMap qb).map C.d) (i*5+4) [C.d (D.sl 1 b.length (b.flatMap eS))]=((v.modify i fun x=>{ x with Needs:=b }).flatMap qb).map C.d:=by have h:=qcL q0i (fo:=4) (d:=D.sl 1 b.length (b.flatMap eS)) (fun x=>{ x with Needs:=b }) (by decide) (fun x=>by rw[Q3,Q3];rfl) v i;rw[←h];exact(q4q C.d [D.sl 1 b.length (b.flatMap eS)] _ _)
theorem qcb (v:List qa) (i:Nat) (w:List ByteArray) (z:ByteArray):spr ((v.flatMap qb).map C.d) (i*5+4) [C.d (D.sl 1 (w.length+1) ((w++[z]).flatMap eS))]=((v.modify i fun x=>{ x with Needs:=(w++[z]) }).flatMap qb).map C.d:=by have h:=q5t v i (w++[z]);rw[qtb,qtm] at h;exact h
theorem qbq (v:List qa) (i:Nat) (z:ByteArray):spr ((v.flatMap qb).map C.d) (i*5+4) [C.d (D.sl 1 1 [D.str z])]=((v.modify i fun x=>{ x with Needs:=[z] }).flatMap qb).map C.d:=q5t v i [z]
theorem qee (s:S) (v:List qa) (lo hi:Option Operand):xsl T s 25 (.c (.d (.sl 5 v.length (v.flatMap qb)))) lo hi=qlY s qb 5 v (s.bd lo 0) (s.bd hi v.length):=qfC q0i v lo hi (by rfl) (by rfl) (by decide)
theorem qas:∀x:(List qa),((eL 5 qb) x).length=1:=fun _=>rfl
theorem q9j (v:List (List qa)) (i:Nat):ld T ((v.flatMap (eL 5 qb)).map C.d) (i) 25=(v[i]?).bind fun x=>some (.c (.d (D.sl 5 x.length (x.flatMap qb)))):=by rw[q5X qas v i _ (by decide)];cases v[i]? with|none=>rfl|some x=>rfl
theorem q8Y:∀x:ByteArray,(eS x).length=1:=fun _=>rfl
theorem qpc (v:List ByteArray):(v.flatMap eS).length=v.length:=by rw[q2A q8Y,Nat.mul_one]
theorem qdC (v:List ByteArray) (i:Nat):ld T ((v.flatMap eS).map C.d) (i) 9=(v[i]?).bind fun x=>some (.c (.d (D.str x))):=by rw[q5X q8Y v i _ (by decide)];cases v[i]? with|none=>rfl|some x=>rfl
theorem qou (v:List ByteArray) (a:ByteArray):(v.flatMap eS).map C.d++[C.d (D.str a)]=((v++[a]).flatMap eS).map C.d:=by have h:=q7d (E:=eS) v a;exact h
theorem qiK (s:S) (v:List ByteArray) (lo hi:Option Operand):xsl T s 33 (.c (.d (.sl 1 v.length (v.flatMap eS)))) lo hi=qlY s eS 1 v (s.bd lo 0) (s.bd hi v.length):=qfC q8Y v lo hi (by rfl) (by rfl) (by decide)
theorem qkV:∀x:Int,(eU8 x).length=1:=fun _=>rfl
def ql (x:qa):List C:=[C.d (D.str x.Code),C.d (D.int .i64 x.Credits),C.d (D.int .i64 x.Places),C.ow 3 1 x.Slots.length (x.Slots.flatMap eI),C.ow 9 1 x.Needs.length (x.Needs.flatMap eS)]
theorem q0k:∀x:qa,(ql x).length=5:=fun _=>rfl
theorem JV:∀x:qa,(ql x).all C.pl=true:=fun _=>rfl
theorem qij (v:List qa):(v.flatMap ql).length=v.length*5:=by rw[qfH q0k]
theorem qiQ (v:List qa) (k:Nat):(v.flatMap ql).map (C.fg k)=v.flatMap ql:=q8f JV (qpO k) v
theorem qhH (v:List qa) (ids:List Nat):(v.flatMap ql).map (cn ids)=v.flatMap ql:=q8f JV (qpG ids) v
theorem qh7 (v:List qa)  : (v.flatMap ql).map (C.kw)=v.flatMap ql:=q8f JV (qoB) v
theorem qig (v:List qa) (k e sz:Nat) (ds:List D):(v.flatMap ql).map (C.ab k e sz ds)=v.flatMap ql:=q8f JV (qox k e sz ds) v
theorem qfo (v:List qa) (k:Nat):(v.flatMap ql).all (C.far k)=true:=qg5 JV (qjW k) v
theorem qab (v:List qa) (X:List Nat):(v.flatMap ql).all (C.farF X)=true:=qg5 JV (qhy X) v
theorem qb1 (v:List qa):(v.flatMap ql).any C.isNils=false:=qlX JV qic v
theorem qcd (v:List qa):(v.flatMap ql).flatMap C.refs=[]:=qmo JV qih v
theorem qbb (v:List qa):(v.flatMap ql).flatMap C.rows=[]:=qmo JV qhY v
theorem qi3 (v:List qa):(v.flatMap ql).map C.uw=(v.flatMap qb).map C.d:=ql4 (E:=ql) (F:=qb) (fun _=>rfl) v
theorem qeT (v:List qa) (ys:List C):q4k [none,none,none,some (3,1),some (9,1)] [] (v.flatMap ql++ys)=v.flatMap ql++q4k [none,none,none,some (3,1),some (9,1)] [] ys:=qfZ JV q0k [none,none,none,some (3,1),some (9,1)] rfl v ys
theorem qgV (v:List qa) (a_Code:ByteArray) (a_Credits:Int) (a_Places:Int) (a_Slots:List Int) (a_Needs:List ByteArray):v.flatMap ql++[C.d (D.str a_Code),C.d (D.int .i64 a_Credits),C.d (D.int .i64 a_Places),C.ow 3 1 a_Slots.length (a_Slots.flatMap eI),C.ow 9 1 a_Needs.length (a_Needs.flatMap eS)]=(v++[(qa.mk a_Code a_Credits a_Places a_Slots a_Needs)]).flatMap ql:=qfK (E:=ql) v (qa.mk a_Code a_Credits a_Places a_Slots a_Needs)
theorem qfl (v:List qa) (a_Code:ByteArray) (a_Credits:Int) (a_Places:Int):v.flatMap ql++[C.d (D.str a_Code),C.d (D.int .i64 a_Credits),C.d (D.int .i64 a_Places),C.ow 3 1 0 [],C.ow 9 1 0 []]=(v++[(qa.mk a_Code a_Credits a_Places [] [])]).flatMap ql:=qfK (E:=ql) v (qa.mk a_Code a_Credits a_Places [] [])
theorem qaj (v:List qa) (i:Nat) (b:ByteArray):spr (v.flatMap ql) (i*5) [C.d (D.str b)]=(v.modify i fun x=>{ x with Code:=b }).flatMap ql:=by have h:=q94 q0k (fo:=0) (d:=C.d (D.str b)) (fun x=>{ x with Code:=b }) (by decide) (fun x=>by rfl) v i;rw[Nat.add_zero] at h;exact h
theorem qd2 (v:List qa) (i:Nat) (b:Int):spr (v.flatMap ql) (i*5+1) [C.d (D.int .i64 b)]=(v.modify i fun x=>{ x with Credits:=b }).flatMap ql:=by have h:=q94 q0k (fo:=1) (d:=C.d (D.int .i64 b)) (fun x=>{ x with Credits:=b }) (by decide) (fun x=>by rfl) v i;exact h
theorem qcI (v:List qa) (i:Nat) (b:Int):spr (v.flatMap ql) (i*5+2) [C.d (D.int .i64 b)]=(v.modify i fun x=>{ x with Places:=b }).flatMap ql:=by have h:=q94 q0k (fo:=2) (d:=C.d (D.int .i64 b)) (fun x=>{ x with Places:=b }) (by decide) (fun x=>by rfl) v i;exact h
theorem qae (v:List qa) (i:Nat):(v.flatMap ql)[i*5+3]?=(v[i]?).bind fun x=>some (C.ow 3 1 x.Slots.length (x.Slots.flatMap eI)):=by have h:=qd4 q0k (show 3<5 by decide) v i;exact h
theorem qby (v:List qa) (i:Nat):(v.flatMap ql)[i*5+4]?=(v[i]?).bind fun x=>some (C.ow 9 1 x.Needs.length (x.Needs.flatMap eS)):=by have h:=qd4 q0k (show 4<5 by decide) v i;exact h
theorem qeh (cs:List C) (o:Nat) (c:C):ld T (spr cs o [c]) o 33=(cs[o]?).bind fun _=>some (R.c c):=by rw[qpE (by rw[k33];simp) (by rw[k33];simp) (by rw[k33];simp),qf4]
theorem q6H (v w:List Int):(v.flatMap eI=w.flatMap eI)=(v=w):=propext ⟨fun h=>(q0j qad (by decide) (fun x y h=>by injection h with h;injection h) _ _) h,fun h=>by rw[h]⟩
theorem q6D (v w:List ByteArray):(v.flatMap eS=w.flatMap eS)=(v=w):=propext ⟨fun h=>(q0j q8Y (by decide) (fun x y h=>by injection h with h;injection h) _ _) h,fun h=>by rw[h]⟩
theorem q1f:∀x y:qa,qb x=qb y→x=y:=by
 rintro⟨a_0,a_1,a_2,a_3,a_4⟩ ⟨b_0,b_1,b_2,b_3,b_4⟩ h
 simp only[Q3,List.cons.injEq,D.int.injEq,D.bool.injEq,D.str.injEq,D.sl.injEq,true_and,and_true,q6H,q6D] at h
 simp only[h]
theorem q5n (v w:List qa):(v.flatMap qb=w.flatMap qb)=(v=w):=propext ⟨fun h=>(q0j q0i (by decide) q1f _ _) h,fun h=>by rw[h]⟩
theorem q5p (v w:List (List qa)):(v.flatMap (eL 5 qb)=w.flatMap (eL 5 qb))=(v=w):=propext ⟨fun h=>(q0j qas (by decide) (fun x y h=>by injection h with h;injection h with _ _ h;exact(q0j q0i (by decide) q1f _ _) h) _ _) h,fun h=>by rw[h]⟩
theorem q7Y (v w:List Int):(v.flatMap eU8=w.flatMap eU8)=(v=w):=propext ⟨fun h=>(q0j qkV (by decide) (fun x y h=>by injection h with h;injection h) _ _) h,fun h=>by rw[h]⟩
def QJ (v:Bool):R:=R.c (C.d (D.bool v))
theorem q8z (M M':List (ByteArray×Bool)):(B.ob (mpB Q5 QJ M)=B.ob (mpB Q5 QJ M'))=(M=M'):=qcu (fun a b h=>by injection h) (fun a b h=>by simp only[QJ,R.c.injEq,C.d.injEq,D.int.injEq,D.bool.injEq,D.str.injEq,D.sl.injEq,true_and,and_true,q6H,q6D,q5n,q5p,q7Y] at h;simp only[h]) M M'
theorem qlz (f:Nat→Nat) (M:List (ByteArray×Bool)):AO.mapR (R.rn0 f) (mpB Q5 QJ M)=mpB Q5 QJ M:=q3S (vE:=QJ) (fun v=>rfl) M
theorem qlK (ids:List Nat) (M:List (ByteArray×Bool)):AO.mapR (q9T ids) (mpB Q5 QJ M)=mpB Q5 QJ M:=q3S (vE:=QJ) (fun v=>rfl) M
theorem qkY (M:List (ByteArray×Bool)):(mpB Q5 QJ M).Rs.all (R.scl0)=true:=qh3 (fun v=>rfl) M
theorem qkN (M:List (ByteArray×Bool)):(mpB Q5 QJ M).Rs.flatMap R.refs0=[]:=q8q (fun v=>rfl) M
theorem qhO (s:S) (sel:List Nat) (M:List (ByteArray×Bool)):cvA s sel (mpB Q5 QJ M)=some (mpB Q5 QJ M):=qd1 (fun v=>rfl) M
theorem qf0 (M:List (ByteArray×Bool)):((mpE Q5 QJ M 0).all fun q=>plK Kd.str q.1)=true:=q5L (fun k r i=>rfl) M 0
theorem qgX (ok:Bool) (k:ByteArray) (M:List (ByteArray×Bool)):lkq ok (R.c (C.d (D.bool false))) (fnd (Value.string k) (mpE Q5 QJ M 0) 0)=some (tt2 (R.c (C.d (D.bool (Z5 false M k)))) ok (J8 M k)):=qlC (vE:=QJ) (kE:=Q5) (q8g) (false) ok k M
theorem qid (k:ByteArray) (v:Bool) (M:List (ByteArray×Bool)):mup Kd.str (Value.string k) (R.c (C.d (D.bool v))) (.ob (mpB Q5 QJ M))=some (.ob (mpB Q5 QJ (q1M M k v))):=qm4 (vE:=QJ) (kE:=Q5) (q8g) (fun a=>rfl) k v M
theorem qka (s:S) (p:Nat):JE T s p 46 none=some (.c (.hd .map p),s.up [(p,.ob (mpB Q5 QJ ([]:List (ByteArray×Bool))))]):=rfl
def zz (v:List ByteArray):R:=R.c (C.d (D.sl 1 v.length (v.flatMap eS)))
theorem q7Q (M M':List (ByteArray×List ByteArray)):(B.ob (mpB Q5 zz M)=B.ob (mpB Q5 zz M'))=(M=M'):=qcu (fun a b h=>by injection h) (fun a b h=>by simp only[zz,R.c.injEq,C.d.injEq,D.int.injEq,D.bool.injEq,D.str.injEq,D.sl.injEq,true_and,and_true,q6H,q6D,q5n,q5p,q7Y] at h;simp only[h]) M M'
theorem ql9 (f:Nat→Nat) (M:List (ByteArray×List ByteArray)):AO.mapR (R.rn0 f) (mpB Q5 zz M)=mpB Q5 zz M:=q3S (vE:=zz) (fun v=>rfl) M
theorem qkZ (ids:List Nat) (M:List (ByteArray×List ByteArray)):AO.mapR (q9T ids) (mpB Q5 zz M)=mpB Q5 zz M:=q3S (vE:=zz) (fun v=>rfl) M
theorem qjd (M:List (ByteArray×List ByteArray)):(mpB Q5 zz M).Rs.flatMap R.refs0=[]:=q8q (fun v=>rfl) M
theorem qhE (s:S) (sel:List Nat) (M:List (ByteArray×List ByteArray)):cvA s sel (mpB Q5 zz M)=some (mpB Q5 zz M):=qd1 (fun v=>rfl) M
theorem qeo (M:List (ByteArray×List ByteArray)):((mpE Q5 zz M 0).all fun q=>plK Kd.str q.1)=true:=q5L (fun k r i=>rfl) M 0
theorem qhN (ok:Bool) (k:ByteArray) (M:List (ByteArray×List ByteArray)):lkq ok (R.c (C.d (D.sl 1 0 []))) (fnd (Value.string k) (mpE Q5 zz M 0) 0)=some (tt2 (R.c (C.d (D.sl 1 (Z5 [] M k).length ((Z5 [] M k).flatMap eS)))) ok (J8 M k)):=qlC (vE:=zz) (kE:=Q5) (q8g) ([]) ok k M
theorem qhs (k:ByteArray) (v:List ByteArray) (M:List (ByteArray×List ByteArray)):mup Kd.str (Value.string k) (R.c (C.d (D.sl 1 v.length (v.flatMap eS)))) (.ob (mpB Q5 zz M))=some (.ob (mpB Q5 zz (q1M M k v))):=qm4 (vE:=zz) (kE:=Q5) (q8g) (fun a=>rfl) k v M
theorem qjw (s:S) (p:Nat):JE T s p 65 none=some (.c (.hd .map p),s.up [(p,.ob (mpB Q5 zz ([]:List (ByteArray×List ByteArray))))]):=rfl
theorem qhB (l:List qa) (i j:Int):q9x 35 5 0 [.c (.own 0 5 0 l.length),.c (.d (.int .i64 i)),.c (.d (.int .i64 j))] [(0,.row 35 5 ((l.flatMap qb).map C.d))]=if 0≤i∧j=i+1∧i<l.length then some (.c (.own 0 5 0 (l.eraseIdx i.toNat).length),[(0,.row 35 5 (((l.eraseIdx i.toNat).flatMap qb).map C.d))]) else none:=qhn q0Y l i j rfl
end
noncomputable section
open Go.RowKit
def by0:=JA_ @k3 (JA_ @z3 (JA_ @b3 (JA_ @o3 (JA_ @q3 (JA_ @k4 (JA_ @o4 (JA_ @q4 (JA_ @k5 (@z5)))))))))
def by1:=JA_ @k9 (JA_ @z9 (JA_ @b9 (JA_ @o9 (@q9))))
def by2:=JA_ @q21 (JA_ @k22 (JA_ @z22 (JA_ @q22 (JA_ @k23 (JA_ @z23 (JA_ @q23 (JA_ @k25 (@z25))))))))
def by3:=JA_ @q25 (JA_ @k30 (JA_ @q31 (JA_ @k33 (@z33))))
def by4:=JA_ @o33 (JA_ @q33 (JA_ @k35 (JA_ @z35 (JA_ @b35 (JA_ @o35 (JA_ @q35 (@q36)))))))
def by5:=JA_ @k46 (JA_ @z46 (JA_ @o46 (@q46)))
def by6:=JA_ @k52 (@q57)
def by7:=JA_ @k59 (JA_ @o59 (JA_ @k65 (JA_ @z65 (JA_ @o65 (@q65)))))
def by8:=JA_ @q70 (@q73)
def by9:=JA_ @q78 (JA_ @k81 (JA_ @z81 (@o81)))
def qsz:=@q84
def qsb:=@qlr
def qsm:=JA_ @qsv (JA_ @qrh (@qsC))
def qrk:=JA_ @qoH (JA_ @qo2 (JA_ @qnB (JA_ @qnj (JA_ @qpL (JA_ @qpn (JA_ @qo4 (JA_ @qnA (@qom))))))))
def qsg:=JA_ @qno (JA_ @qnK (@qnC))
def qt2:=JA_ @qpz (JA_ @qni (JA_ @qpb (@qpo)))
def qsI:=JA_ @qnz (@qnZ)
def qs3:=JA_ @pw6 (JA_ @pw8 (JA_ @qqr (JA_ @qqo (JA_ @qra (JA_ @qrb (JA_ @qqX (@qqh)))))))
def qrz:=JA_ @qqq (JA_ @qqx (JA_ @qrd (JA_ @qpP (JA_ @qqZ (JA_ @qqy (JA_ @qpT (JA_ @qq5 (JA_ @qqM (JA_ @qqV (JA_ @qr5 (JA_ @qr8 (JA_ @qq2 (JA_ @qpW (JA_ @qoa (JA_ @qq6 (JA_ @qqE (JA_ @qqe (JA_ @qrf (JA_ @qre (JA_ @qqI (JA_ @qoc (JA_ @qqQ (JA_ @qqC (JA_ @qq4 (JA_ @qqW (JA_ @qq3 (JA_ @qnM (JA_ @qqu (@qqG)))))))))))))))))))))))))))))
def qsA:=JA_ @qqL (JA_ @qqH (JA_ @qqs (JA_ @qod (JA_ @qqi (JA_ @qmG (JA_ @qqm (JA_ @qqa (JA_ @qqf (JA_ @qr4 (JA_ @qqT (JA_ @qqb (JA_ @qpJ (@qqp)))))))))))))
def qs8:=JA_ @qp2 (JA_ @qoG (JA_ @qoq (JA_ @qnu (JA_ @qnw (JA_ @qpN (JA_ @qny (JA_ @qoA (JA_ @qnG (JA_ @qoo (JA_ @qoC (JA_ @qo7 (JA_ @qoz (JA_ @qoF (JA_ @qpa (JA_ @qpd (JA_ @qnJ (JA_ @qp7 (@qnT))))))))))))))))))
def qsO:=JA_ @qnl (JA_ @qpB (JA_ @qpp (JA_ @qoP (JA_ @qo8 (JA_ @qpA (JA_ @qpl (JA_ @qoX (JA_ @qow (JA_ @qpm (JA_ @qoj (JA_ @qob (JA_ @qpy (JA_ @qnr (@qov))))))))))))))
def qrL:=JA_ @qkA (JA_ @qjU (JA_ @qoU (JA_ @qol (JA_ @qhe (JA_ @qh0 (JA_ @qj5 (JA_ @qgS (JA_ @qme (JA_ @qgI (JA_ @qh6 (JA_ @qkM (JA_ @qmn (@qjp)))))))))))))
def qrM:=JA_ @qmu (JA_ @qjJ (JA_ @qjY (JA_ @qjN (JA_ @qlA (JA_ @qmc (JA_ @qlD (JA_ @ql6 (JA_ @qlV (JA_ @qjK (JA_ @qlN (JA_ @qla (@qlR))))))))))))
def qst:=JA_ @qok (@qlw)
def qsx:=JA_ @qhd (JA_ @qhR (JA_ @qgG (JA_ @qkO (JA_ @qhk (JA_ @qkD (JA_ @qjv (JA_ @qlL (JA_ @qlG (JA_ @qmd (JA_ @qmv (JA_ @qmi (JA_ @qjn (@qjb)))))))))))))
def qs7:=JA_ @qoe (JA_ @qkr (JA_ @qgx (JA_ @qiz (JA_ @qgA (JA_ @qku (JA_ @qhj (JA_ @qkJ (JA_ @qjH (JA_ @qls (JA_ @qk8 (JA_ @qlx (@qkc))))))))))))
def qrN:=JA_ @qjo (JA_ @qlJ (@qkm))
def bt0:=JA_ @qoR (JA_ @qeH (JA_ @qnI (JA_ @qlU (JA_ @q9s (JA_ @qbQ (JA_ @qm9 (@qgh)))))))
def bt1:=JA_ @qaM (JA_ @q5t (JA_ @qcb (JA_ @qbq (JA_ @qee (JA_ @q9j (JA_ @qpc (@qdC)))))))
def bt2:=JA_ @qou (JA_ @qiK (JA_ @qlz (JA_ @qlK (@qkY))))
def bt3:=JA_ @qkN (JA_ @qhO (JA_ @qf0 (JA_ @qgX (JA_ @qid (JA_ @qka (JA_ @ql9 (JA_ @qkZ (JA_ @qjd (JA_ @qhE (JA_ @qeo (JA_ @qhN (JA_ @qhs (JA_ @qjw (JA_ @qhB (JA_ @qij (JA_ @qiQ (JA_ @qhH (JA_ @qh7 (JA_ @qig (JA_ @qfo (JA_ @qab (JA_ @qb1 (JA_ @qcd (@qbb))))))))))))))))))))))))
def bt4:=JA_ @qi3 (JA_ @qeT (JA_ @qgV (JA_ @qfl (JA_ @qaj (JA_ @qd2 (JA_ @qcI (JA_ @qae (JA_ @qby (JA_ @qeh (JA_ @q4g (@q3w)))))))))))
def bA:=JA_ @bx0 (JA_ @bx1 (JA_ @bx2 (JA_ @bx3 (JA_ @bx4 (JA_ @bx5 (JA_ @bx6 (JA_ @bx7 (JA_ @bx8 (JA_ @bx9 (JA_ @qsp (JA_ @qrn (JA_ @qs5 (JA_ @qsH (JA_ @qsN (JA_ @qsj (JA_ @qs0 (JA_ @qrV (JA_ @qsh (JA_ @qt1 (JA_ @qrC (JA_ @qrs (JA_ @qsd (JA_ @qrj (JA_ @qsY (JA_ @qsk (JA_ @qrI (JA_ @qru (JA_ @qrB (JA_ @qsU (JA_ @qrF (JA_ @bz0 (JA_ @bz2 (JA_ @by0 (JA_ @by1 (JA_ @by2 (JA_ @by3 (JA_ @by4 (JA_ @by5 (JA_ @by6 (JA_ @by7 (JA_ @by8 (JA_ @by9 (JA_ @qsz (JA_ @qsb (JA_ @qsm (JA_ @qrk (JA_ @qsg (JA_ @qt2 (JA_ @qsI (JA_ @qs3 (JA_ @qrz (JA_ @qsA (JA_ @qs8 (JA_ @qsO (JA_ @qrL (JA_ @qrM (JA_ @qst (JA_ @qsx (JA_ @qs7 (JA_ @qrN (JA_ @bt0 (JA_ @bt1 (JA_ @bt2 (JA_ @bt3 (@bt4)))))))))))))))))))))))))))))))))))))))))))))))))))))))))))))))))
def bZ:=JA_ @qtb.{0} (JA_ @qtO.{0} (JA_ @List.length_modify.{0} (JA_ @qtf.{0} (JA_ @qtM.{0} (JA_ @qts (JA_ @qu7.{0,0} (JA_ @List.flatMap_nil.{0,0} (JA_ @qtr.{0,0} (JA_ @List.map_nil.{0,0} (JA_ @eS.eq_1 (JA_ @qu8.{0} (JA_ @qto.{0} (JA_ @qtp.{0} (@List.flatMap_append.{0,0}))))))))))))))
theorem gA {P:Prop} (h:P:=by simp -implicitDefEqProofs (maxSteps:=10000000) only[bA,Int.reduceToNat,Int.reduceLT,Int.reduceLE,Int.reduceAdd,Int.reduceSub,Int.reduceMul,Int.reduceNeg,Int.reduceEq,Int.reduceNe,Int.reduceBEq,Int.reduceBNe,Nat.reduceLT,Nat.reduceAdd,Nat.reduceMul,Nat.reduceSub,Nat.reduceEqDiff,Nat.reduceLeDiff,Nat.reduceBEq,Nat.reduceBNe,↓reduceIte,reduceCtorEq,pure,bind,w64,zG,Jb,Option.or_some,Option.or_none,Option.none_or,Option.some_or, *]<;>simp only[rL,dL,bR,bZ,Nat.reduceAdd]):P:=h
end
noncomputable section
open Go.RowKit
section
variable {τ ε:Type} {step:τ→Option (τ⊕ε)}
theorem zS {x y:τ} (h:step x=some (.inl y)):zE step x=zE step y:=by
 rw[qc6,h];rfl
theorem zg {x:τ} {e:ε} (h:step x=some (.inr e)):zE step x=some e:=by
 rw[qc6,h];rfl
theorem qe6 {e:ε} (st:Nat→τ) (i0 n:Nat) (h0:i0≤n) (h:∀i,i0≤i→i<n→step (st i)=some (.inl (st (i+1)))) (hn:step (st n)=some (.inr e)):zE step (st i0)=some e:=by
 have key:∀j i,j+i=n→i0≤i→zE step (st i)=some e:=by
  intro j
  induction j with
  | zero=>intro i hi _;rw[qts] at hi;subst hi;exact zg hn
  | succ j ih=>intro i hi h1;rw[zS (h i h1 (by omega))];exact ih (i+1) (by omega) (by omega)
 exact key (n-i0) i0 (by omega) (qtk _)
def q9r {α β ε:Type} (g:β→α→β⊕ε) (fin:β→ε):List α→β→ε
 | [],b=>fin b
 | a::l,b=>match g b a with
  | .inl b'=>q9r g fin l b'
  | .inr e=>e
theorem q9p {α β:Type} (l:List α) (st:β→Nat→τ) (g:β→α→β⊕ε) (fin:β→ε)
  (h:∀b i a,l[i]?=some a→step (st b i)=some (match g b a with | .inl b' => .inl (st b' (i+1)) | .inr e => .inr e)) (hn:∀b,step (st b l.length)=some (.inr (fin b))) (b:β):zE step (st b 0)=some (q9r g fin l b):=by
 have key:∀(r:List α) (i:Nat) (b:β),r.length+i=l.length→(∀j,r[j]?=l[i+j]?)→zE step (st b i)=some (q9r g fin r b):=by
  intro r
  induction r with
  | nil=>
   intro i b hi _
   have hi:i=l.length:=by simpa using hi
   subst hi;exact zg (hn b)
  | cons a r ih=>
   intro i b hi hr
   have ha:l[i]?=some a:=by have:=hr 0;simpa using this.symm
   have h1:=h b i a ha
   unfold q9r
   cases hg:g b a with
   | inl b'=>
    rw[hg] at h1
    rw[zS h1]
    refine ih (i+1) b' (by simp at hi;omega) fun j=>?_
    have:=hr (j+1)
    rw[show i+1+j=i+(j+1) by omega,←this];rfl
   | inr e=>
    rw[hg] at h1
    exact zg h1
 exact key l 0 b (by simp) (by simp)
theorem qcy {α:Type} (l:List α) (st:Nat→τ) (p:α→Option ε) (d:ε)
  (h:∀i a,l[i]?=some a→step (st i)=some (match p a with|some e => .inr e|none => .inl (st (i+1)))) (hn:step (st l.length)=some (.inr d)):zE step (st 0)=some ((l.findSome? p).getD d):=by
 have h1:=q9p (ε:=ε) (β:=Unit) l (fun _ i=>st i) (fun _ a=>match p a with|some e => .inr e|none => .inl ()) (fun _=>d) (fun b i a ha=>by
  rw[h i a ha];cases p a<;>rfl) (fun _=>hn) ()
 rw[h1]
 congr 1
 have:∀l:List α,q9r (ε:=ε) (fun(_:Unit) a=>match p a with|some e => .inr e|none => .inl ()) (fun _=>d) l ()=(l.findSome? p).getD d:=by
  intro l
  induction l with
  | nil=>rfl
  | cons a l ih=>
   unfold q9r
   rw[List.findSome?_cons]
   cases p a with
   | none=>simpa using ih
   | some e=>rfl
 exact this l
end
theorem Zz {α:Type} {l:List α} {i:Nat} {a:α} (h:l[i]?=some a):i<l.length:=(qt8.1 h).1
theorem J9 {n:Int} (h0 : -9223372036854775808≤n) (h1:n≤9223372036854775807):w64 n=n:=wi n h0 h1
theorem Q6 {i n:Nat} (h:i<n) (hn:n≤9223372036854775807):w64 ((i:Int)+1)=((i+1:Nat):Int):=by
 rw[J9 (by omega) (by omega)];omega
end
noncomputable section
open Go.RowKit
section
variable {τ ε:Type} {step:τ→Option (τ⊕ε)}
theorem qdS {I:τ→Prop} {J:ε→Prop} (hs:∀x y,I x→step x=some (.inl y)→I y) (he:∀x e,I x→step x=some (.inr e)→J e) {x:τ} {e:ε} (h0:I x) (h:zE step x=some e):J e:=by
 obtain⟨n,hn⟩:=q2f h
 clear h
 induction n generalizing x with
 | zero=>cases hn
 | succ n ih=>
  unfold itT at hn
  obtain⟨r,h1,h2⟩:=qt9.1 hn
  cases r with
  | inl y=>exact ih (hs x y h0 h1) h2
  | inr z=>injection h2 with h2;subst h2;exact he x z h0 h1
end
section
variable {σ ε:Type} {f k:Nat} {enc:σ→List R×List (Nat×B)} {ex:ε→R×List (Nat×B)}
theorem qdy (hp:pol.pr f=none) (hi:∀y z,enc y=enc z→y=z) (hj:∀d e,ex d=ex e→d=e) {step:(σ→Option ε)→σ→Option ε} (hs:q6M f k enc ex step) {Q:σ→ε→Prop}
  (hQ:∀F:σ→Option ε,(∀y e,F y=some e→Q y e)→∀y e,step F y=some e→Q y e) (y:σ) (e:ε) (h:q4z f k enc ex y=some e):Q y e:=by
 have key:∀(n:Nat) (y:σ) (z:R×List (Nat×B)),xf Try.prog T pol (D1 Try.prog T pol) n (.fn f) k (enc y).1 (enc y).2=some z→∃e,z=ex e∧Q y e:=by
  intro n
  induction n with
  | zero=>intro y z h;cases h
  | succ n ih=>
   intro y z h
   obtain⟨F,hF,hFQ⟩:∃F:σ→Option ε,(∀y z,xf Try.prog T pol (D1 Try.prog T pol) n (.fn f) k (enc y).1 (enc y).2=some z→(F y).bind (fun e=>some (ex e))=some z)∧∀y e,F y=some e→Q y e:=by
    refine⟨fun y=>open Classical in if h:∃e,xf Try.prog T pol (D1 Try.prog T pol) n (.fn f) k (enc y).1 (enc y).2=some (ex e)∧Q y e then some (Classical.choose h) else none,fun y z hz=>?_,fun y e he=>?_⟩
    ·obtain⟨e,rfl,hq⟩:=ih y z hz
     have hex:∃e,xf Try.prog T pol (D1 Try.prog T pol) n (.fn f) k (enc y).1 (enc y).2=some (ex e)∧Q y e:=⟨e,hz,hq⟩
     simp only[dif_pos hex,qt4]
     rw[←(Classical.choose_spec hex).1,hz]
    ·by_cases hex:∃e,xf Try.prog T pol (D1 Try.prog T pol) n (.fn f) k (enc y).1 (enc y).2=some (ex e)∧Q y e
     ·simp only[dif_pos hex] at he
      injection he with he
      rw[←he]
      exact(Classical.choose_spec hex).2
     ·simp only[dif_neg hex] at he
      cases he
   have hle:OLe (xf Try.prog T pol (D1 Try.prog T pol) n) (ovr f k enc ex F):=by
    intro g k' args G x hx
    unfold ovr
    split
    ·rename_i hh
     obtain⟨⟨rfl,rfl⟩,hy⟩:=hh
     have e1:=Classical.choose_spec hy
     refine hF _ _ ?_
     rw[e1];exact hx
    ·exact qaX q4c _ _ _ _ _ hx
   have h2:∃bd,qO Try.prog pol f=some bd∧q2h Try.prog T pol (D1 Try.prog T pol) (xf Try.prog T pol (D1 Try.prog T pol) n) (iter n) f k (enc y).1 (enc y).2 bd=some z:=by
    have h3:fnx Try.prog T pol (D1 Try.prog T pol) (xf Try.prog T pol (D1 Try.prog T pol) n) (iter n) f k (enc y).1 (enc y).2=some z:=h
    unfold fnx at h3
    rw[hp] at h3
    exact qt9.1 h3
   obtain⟨bd,hb,hx⟩:=h2
   have h4:=q53 hle (iter n) (q7K n) hb hx
   rw[hs _ F (qbd hi F) (q82 F) (qfE F) y] at h4
   obtain⟨e,h6,h5⟩:=qt9.1 h4
   injection h5 with h5
   exact⟨e,h5.symm,hQ F hFQ y e h6⟩
 have hv:=q9a hp hi hs y
 rw[h,qt4] at hv
 obtain⟨n,hn⟩:=q30 (show EE Try.prog T pol (D1 Try.prog T pol) (.fn f) k (enc y).1 (enc y).2=some (ex e) from hv)
 obtain⟨e',h1,h2⟩:=key n y _ hn
 rw[hj _ _ h1]
 exact h2
end
end
noncomputable section
open Go.RowKit
set_option maxRecDepth 20000
set_option maxHeartbeats 8000000
theorem qro:okL 33 qc7:=zl (qd qp5) (by kernel_rfl) (by kernel_rfl)
def qrY:=JA_ @qc7.eq_1 (JA_ @Try.f33.eq_1 @qp5)
theorem q2k:ev 33 0 [] []=some (rO 0 5 4,[(0,B.row 35 5 [dS (ByteArray.mk (List.toArray [65,49])),C.d (D.int IntKind.i64 5),C.d (D.int IntKind.i64 30),C.d (D.sl 1 2 [D.int IntKind.i64 1,D.int IntKind.i64 2]),C.d (D.sl 1 0 []),dS (ByteArray.mk (List.toArray [66,49])),C.d (D.int IntKind.i64 6),C.d (D.int IntKind.i64 10),C.d (D.sl 1 1 [D.int IntKind.i64 2]),C.d (D.sl 1 1 [D.str (ByteArray.mk (List.toArray [65,49]))]),dS (ByteArray.mk (List.toArray [66,50])),C.d (D.int IntKind.i64 3),C.d (D.int IntKind.i64 0),C.d (D.sl 1 0 []),C.d (D.sl 1 0 []),dS (ByteArray.mk (List.toArray [67,49])),C.d (D.int IntKind.i64 10),C.d (D.int IntKind.i64 200),C.d (D.sl 1 1 [D.int IntKind.i64 40]),C.d (D.sl 1 2 [D.str (ByteArray.mk (List.toArray [66,49])),D.str (ByteArray.mk (List.toArray [66,50]))])])]):=
 by
  rw[z8 qp5 qqM.2.2.2 qro]
  have:=qrY;exact gA
theorem qmZ:okL 12 q4U:=zl (qd qj2) (by kernel_rfl) (by kernel_rfl)
def qj1:=JA_ @q4U.eq_1 (JA_ @Try.f12.eq_1 @qj2)
theorem qm3:lbO 12 4=qaA:=QA (qd qj2) rfl
theorem qj7:okL 12 qaA:=zY qmZ (qt5 (i:=0) (by kernel_rfl))
theorem qgL:lbO 12 18=q5H:=QA (qd qj2) rfl
theorem qgi:okL 12 q5H:=zY qmZ (qt5 (i:=1) (by kernel_rfl))
theorem qgR:lbO 12 23=q5r:=QA (qd qj2) rfl
theorem qiV:okL 12 q5r:=zY qmZ (qt5 (i:=2) (by kernel_rfl))
theorem qrt:okL 14 qbp:=zl (qd qng) (by kernel_rfl) (by kernel_rfl)
def qt0:=JA_ @qbp.eq_1 (JA_ @Try.f14.eq_1 @qng)
theorem qrE:okL 46 qaO:=zl (qd qnH) (by kernel_rfl) (by kernel_rfl)
def qri:=JA_ @qaO.eq_1 (JA_ @Try.f46.eq_1 @qnH)
theorem qr1:okL 66 q7W:=zl (qd qmR) (by kernel_rfl) (by kernel_rfl)
def qr0:=JA_ @q7W.eq_1 (JA_ @Try.f66.eq_1 @qmR)
theorem qjD:lbO 66 2=qd3:=QA (qd qmR) rfl
theorem qm6:okL 66 qd3:=zY qr1 (qt5 (i:=0) (by kernel_rfl))
theorem qsB:okL 45 qbz:=zl (qd qnW) (by kernel_rfl) (by kernel_rfl)
def qrZ:=JA_ @qbz.eq_1 (JA_ @Try.f45.eq_1 @qnW)
def ZJ (c:Int):Option Bool:=if c<65 then if c<48 then some Bool.true else some (decide (57<c)) else if 90<c then if c<48 then some Bool.true else some (decide (57<c)) else some Bool.false
def zI (c:Int):Bool:=if c<65 then if c<48 then Bool.true else decide (57<c) else if 90<c then if c<48 then Bool.true else decide (57<c) else Bool.false
theorem q1Y (c:Int):ZJ c=some (zI c):=by
 unfold ZJ zI
 simp only[q1r]
theorem q2e:∀(c:Int),ev 45 0 [R.c (C.d (D.int .i32 c))] []=some (rB (zI c),[]):=
 fun c=>by
  have h:ev 45 0 [R.c (C.d (D.int .i32 c))] []=(ZJ c).bind (fun(e:Bool)=>some (rB e,[])):=by
   rw[z8 qnW qrf.2.2.2 qsB]
   have:=qrZ;have:=@ZJ.eq_1;exact gA
  rw[q1Y] at h
  exact h
def qI (it0_s:ByteArray) (truth:Bool):Nat→Option (Nat⊕(Int⊕Unit))|it0_p=>if it0_p<ByteArray.size it0_s then if(zI (((@Go.Utf8.decode it0_s it0_p).1:Nat):Int)==truth)=Bool.true then some (Sum.inr (Sum.inl ((it0_p:Nat):Int))) else some (Sum.inl (it0_p+(@Go.Utf8.decode it0_s it0_p).2)) else some (Sum.inr (Sum.inr ()))
theorem JU:∀(it0_s:ByteArray) (it0_p:Nat) (truth:Bool),XL2 evo 66 0 2 ⟨[(1,R.c (C.fn 45 [] [])),(2,rB truth),(10,R.c (C.hd .iter 0))],[(0,B.ob (AO.si it0_s it0_p))],1,21⟩=(zE (qI it0_s truth) it0_p).bind (Sum.elim (fun(e:Int)=>some (Exit.ret,⟨[(6,rI e)],[],0,21⟩)) (fun(e:Unit)=>some (Exit.exit 0,⟨[(6,R.any)],[],0,21⟩))):=
 fun it0_s it0_p truth=>by
  revert it0_p;exact q5U qjD qm6 (fun e=>by rcases e with _|_<;>exact⟨_,rfl,fun h=>by cases h⟩) fun x=>by
   have:=qr0;have:=@qd3.eq_1;have:=@q2e;have:=@qI.eq_1;exact gA
def zX (s:ByteArray) (truth:Bool):Option Int:=Option.bind (zE (qI s truth) 0) fun(a:Sum Int Unit)=>Sum.elim (fun(a2:Int)=>some a2) (fun(a3:Unit)=>some (-1)) a
theorem q0K:∀(s:ByteArray) (truth:Bool),ev 66 0 [rS s,R.c (C.fn 45 [] []),rB truth] []=(zX s truth).bind (fun(e:Int)=>some (rI e,[])):=
 fun s truth=>by
  rw[z8 qmR qqf.2.2.2 qr1]
  have:=qr0;have:=@JU;have:=@zX.eq_1;exact gA
def Zq (fu:Nat) (s:ByteArray) (truth:Bool):Option Int:=Option.bind (itT (qI s truth) fu 0) fun(a:Sum Int Unit)=>Sum.elim (fun(a2:Int)=>some a2) (fun(a3:Unit)=>some (-1)) a
theorem q0Q (fu:Nat) (s:ByteArray) (truth:Bool):qk (Zq fu s truth) (zX s truth):=by
 unfold Zq zX
 repeat (first
  | with_reducible exact qk.refl _
  | with_reducible exact qk.none _
  | with_reducible refine qk.bind ?_ (fun _=>?_)
  | with_reducible refine qk.ite ?_ ?_
  | with_reducible refine qk.sum (fun _=>?_) (fun _=>?_)
  | with_reducible refine qk.lim (fun _=>?_))
def Q2 (s:ByteArray):Option Int:=Option.bind (zX s Bool.true) fun(e0:Int)=>some e0
theorem q0L:∀(s:ByteArray),ev 46 0 [rS s,R.c (C.fn 45 [] [])] []=(Q2 s).bind (fun(e:Int)=>some (rI e,[])):=
 fun s=>by
  rw[z8 qnH qre.2.2.2 qrE]
  have:=qri;have:=@q0K;have:=@Q2.eq_1;exact gA
def Zu (fu:Nat) (s:ByteArray):Option Int:=Option.bind (Zq fu s Bool.true) fun(e0:Int)=>some e0
theorem q0H (fu:Nat) (s:ByteArray):qk (Zu fu s) (Q2 s):=by
 unfold Zu Q2
 repeat (first
  | with_reducible exact qk.refl _
  | with_reducible exact qk.none _
  | with_reducible apply q0Q
  | with_reducible refine qk.bind ?_ (fun _=>?_)
  | with_reducible refine qk.ite ?_ ?_
  | with_reducible refine qk.sum (fun _=>?_) (fun _=>?_)
  | with_reducible refine qk.lim (fun _=>?_))
def zo (s:ByteArray):Option Bool:=if(!(ByteArray.toList s==ByteArray.toList (ByteArray.mk (List.toArray []))))=Bool.true then if((ByteArray.size s:Nat):Int)≤8 then Option.bind (Q2 s) fun(a:Int)=>some (decide (a<0)) else some Bool.false else some Bool.false
theorem q0C:∀(s:ByteArray),ev 14 0 [rS s] []=(zo s).bind (fun(e:Bool)=>some (rB e,[])):=
 fun s=>by
  rw[z8 qng qrb.2.2.2 qrt]
  have:=qt0;have:=@q0L;have:=@zo.eq_1;exact gA
def Zd (fu:Nat) (s:ByteArray):Option Bool:=if(!(ByteArray.toList s==ByteArray.toList (ByteArray.mk (List.toArray []))))=Bool.true then if((ByteArray.size s:Nat):Int)≤8 then Option.bind (Zu fu s) fun(a:Int)=>some (decide (a<0)) else some Bool.false else some Bool.false
theorem q0F (fu:Nat) (s:ByteArray):qk (Zd fu s) (zo s):=by
 unfold Zd zo
 repeat (first
  | with_reducible exact qk.refl _
  | with_reducible exact qk.none _
  | with_reducible apply q0H
  | with_reducible refine qk.bind ?_ (fun _=>?_)
  | with_reducible refine qk.ite ?_ ?_
  | with_reducible refine qk.sum (fun _=>?_) (fun _=>?_)
  | with_reducible refine qk.lim (fun _=>?_))
theorem qsK:okL 38 q9W:=zl (qd qo5) (by kernel_rfl) (by kernel_rfl)
def qrx:=JA_ @q9W.eq_1 (JA_ @Try.f38.eq_1 @qo5)
theorem qqY:okL 55 qbw:=zl (qd qmM) (by kernel_rfl) (by kernel_rfl)
def qqK:=JA_ @qbw.eq_1 (JA_ @Try.f55.eq_1 @qmM)
theorem qoN:okL 70 q8w:=zl (qd ql7) (by kernel_rfl) (by kernel_rfl)
def qnc:=JA_ @q8w.eq_1 (JA_ @Try.f70.eq_1 @ql7)
theorem qfL:lbO 70 2=q7R:=QA (qd ql7) rfl
theorem qfN:okL 70 q7R:=zY qoN (qt5 (i:=0) (by kernel_rfl))
theorem qsF:okL 58 qc9:=zl (qd qoy) (by kernel_rfl) (by kernel_rfl)
def qrq:=JA_ @qc9.eq_1 (JA_ @Try.f58.eq_1 @qoy)
def Z9 (n:Int):Option Bool:=if n<1 then some Bool.true else some (decide (40<n))
def Q0 (n:Int):Bool:=if n<1 then Bool.true else decide (40<n)
theorem q19 (n:Int):Z9 n=some (Q0 n):=by
 unfold Z9 Q0
 simp only[q1r]
theorem q1s:∀(n:Int),ev 58 0 [rI n] []=some (rB (Q0 n),[]):=
 fun n=>by
  have h:ev 58 0 [rI n] []=(Z9 n).bind (fun(e:Bool)=>some (rB e,[])):=by
   rw[z8 qoy qqL.2.2.2 qsF]
   have:=qrq;have:=@Z9.eq_1;exact gA
  rw[q19] at h
  exact h
def qA (s:List Int) (t7:Int):Int→Option (Int⊕(Int⊕Unit))|t8=>if t8<t7 then if 0≤t8∧t8<((s.length:Nat):Int) then Option.bind s[Int.toNat t8]? fun(a:Int)=>if Q0 a=Bool.true then some (Sum.inr (Sum.inl t8)) else some (Sum.inl (w64 (t8+1))) else none else some (Sum.inr (Sum.inr ()))
theorem ZQ:∀(s:List Int) (t7 t8:Int),XL2 evo 70 0 2 ⟨[(0,rL 1 eI s),(1,R.c (C.fn 58 [] [])),(7,rI t7),(8,rI t8)],[],0,19⟩=(zE (qA s t7) t8).bind (Sum.elim (fun(e:Int)=>some (Exit.ret,⟨[(4,rI e)],[],0,19⟩)) (fun(e:Unit)=>some (Exit.exit 0,⟨[(4,R.any)],[],0,19⟩))):=
 fun s t7 t8=>by
  revert t8;exact q5U qfL qfN (fun e=>by rcases e with _|_<;>exact⟨_,rfl,fun h=>by cases h⟩) fun x=>by
   have:=qnc;have:=@q7R.eq_1;have:=@q1s;have:=@qA.eq_1;exact gA
def qX (s:List Int):Option Int:=Option.bind (zE (qA s ((s.length:Nat):Int)) 0) fun(a:Sum Int Unit)=>Sum.elim (fun(a2:Int)=>some a2) (fun(a3:Unit)=>some (-1)) a
theorem Je:∀(s:List Int),ev 70 0 [rL 1 eI s,R.c (C.fn 58 [] [])] []=(qX s).bind (fun(e:Int)=>some (rI e,[])):=
 fun s=>by
  rw[z8 ql7 qpJ.2.2.2 qoN]
  have:=qnc;have:=@ZQ;have:=@qX.eq_1;exact gA
def Qn (fu:Nat) (s:List Int):Option Int:=Option.bind (itT (qA s ((s.length:Nat):Int)) fu 0) fun(a:Sum Int Unit)=>Sum.elim (fun(a2:Int)=>some a2) (fun(a3:Unit)=>some (-1)) a
theorem Jc (fu:Nat) (s:List Int):qk (Qn fu s) (qX s):=by
 unfold Qn qX
 repeat (first
  | with_reducible exact qk.refl _
  | with_reducible exact qk.none _
  | with_reducible refine qk.bind ?_ (fun _=>?_)
  | with_reducible refine qk.ite ?_ ?_
  | with_reducible refine qk.sum (fun _=>?_) (fun _=>?_)
  | with_reducible refine qk.lim (fun _=>?_))
def qz (s:List Int):Option Bool:=Option.bind (qX s) fun(a:Int)=>some (decide (0≤a))
theorem ZP:∀(s:List Int),ev 55 0 [rL 1 eI s,R.c (C.fn 58 [] [])] []=(qz s).bind (fun(e:Bool)=>some (rB e,[])):=
 fun s=>by
  rw[z8 qmM qnM.2.2.2 qqY]
  have:=qqK;have:=@Je;have:=@qz.eq_1;exact gA
def Q8 (fu:Nat) (s:List Int):Option Bool:=Option.bind (Qn fu s) fun(a:Int)=>some (decide (0≤a))
theorem ZN (fu:Nat) (s:List Int):qk (Q8 fu s) (qz s):=by
 unfold Q8 qz
 repeat (first
  | with_reducible exact qk.refl _
  | with_reducible exact qk.none _
  | with_reducible apply Jc
  | with_reducible refine qk.bind ?_ (fun _=>?_)
  | with_reducible refine qk.ite ?_ ?_
  | with_reducible refine qk.sum (fun _=>?_) (fun _=>?_)
  | with_reducible refine qk.lim (fun _=>?_))
theorem qql:okL 59 q9b:=zl (qd qnd) (by kernel_rfl) (by kernel_rfl)
def qpZ:=JA_ @q9b.eq_1 (JA_ @Try.f59.eq_1 @qnd)
theorem qlc:lbO 59 2=qbG:=QA (qd qnd) rfl
theorem qlf:okL 59 qbG:=zY qql (qt5 (i:=0) (by kernel_rfl))
def qB (l:List Int):Int→Option (Int⊕(Unit⊕Unit))|k=>if k<((l.length:Nat):Int) then if 0≤w64 (k-1)∧w64 (k-1)<((l.length:Nat):Int) then Option.bind l[Int.toNat (w64 (k-1))]? fun(a:Int)=>if 0≤k∧k<((l.length:Nat):Int) then Option.bind l[Int.toNat k]? fun(a2:Int)=>if a2≤a then some (Sum.inr (Sum.inl ())) else some (Sum.inl (w64 (k+1))) else none else none else some (Sum.inr (Sum.inr ()))
theorem Jd:∀(l:List Int) (k:Int),XL2 evo 59 0 2 ⟨[(0,rL 1 eI l),(3,rI k)],[],0,20⟩=(zE (qB l) k).bind (Sum.elim (fun(e:Unit)=>some (Exit.ret,⟨[(2,rB Bool.false)],[],0,20⟩)) (fun(e:Unit)=>some (Exit.exit 0,⟨[(2,R.any)],[],0,20⟩))):=
 fun l k=>by
  revert k;exact q5U qlc qlf (fun e=>by rcases e with _|_<;>exact⟨_,rfl,fun h=>by cases h⟩) fun x=>by
   have:=qpZ;have:=@qbG.eq_1;have:=@qB.eq_1;exact gA
def qZ (l:List Int):Option Bool:=Option.bind (zE (qB l) 1) fun(a:Sum Unit Unit)=>Sum.elim (fun(a2:Unit)=>some Bool.false) (fun(a3:Unit)=>some Bool.true) a
theorem JD:∀(l:List Int),ev 59 0 [rL 1 eI l] []=(qZ l).bind (fun(e:Bool)=>some (rB e,[])):=
 fun l=>by
  rw[z8 qnd qqH.2.2.2 qql]
  have:=qpZ;have:=@Jd;have:=@qZ.eq_1;exact gA
def QF (fu:Nat) (l:List Int):Option Bool:=Option.bind (itT (qB l) fu 1) fun(a:Sum Unit Unit)=>Sum.elim (fun(a2:Unit)=>some Bool.false) (fun(a3:Unit)=>some Bool.true) a
theorem JA (fu:Nat) (l:List Int):qk (QF fu l) (qZ l):=by
 unfold QF qZ
 repeat (first
  | with_reducible exact qk.refl _
  | with_reducible exact qk.none _
  | with_reducible refine qk.bind ?_ (fun _=>?_)
  | with_reducible refine qk.ite ?_ ?_
  | with_reducible refine qk.sum (fun _=>?_) (fun _=>?_)
  | with_reducible refine qk.lim (fun _=>?_))
theorem qrc:okL 60 q8c:=zl (qd qmz) (by kernel_rfl) (by kernel_rfl)
def qqj:=JA_ @q8c.eq_1 (JA_ @Try.f60.eq_1 @qmz)
theorem qkG:lbO 60 2=qbR:=QA (qd qmz) rfl
theorem ql2:okL 60 qbR:=zY qrc (qt5 (i:=0) (by kernel_rfl))
def qu (l:List ByteArray):Int→Option (Int⊕(Unit⊕Unit))|k=>if k<((l.length:Nat):Int) then if 0≤w64 (k-1)∧w64 (k-1)<((l.length:Nat):Int) then Option.bind l[Int.toNat (w64 (k-1))]? fun(a:ByteArray)=>if 0≤k∧k<((l.length:Nat):Int) then Option.bind l[Int.toNat k]? fun(a2:ByteArray)=>if(!(Op.bytesLess (ByteArray.toList a) (ByteArray.toList a2)))=Bool.true then some (Sum.inr (Sum.inl ())) else some (Sum.inl (w64 (k+1))) else none else none else some (Sum.inr (Sum.inr ()))
theorem ZO:∀(l:List ByteArray) (k:Int),XL2 evo 60 0 2 ⟨[(0,rL 1 eS l),(3,rI k)],[],0,20⟩=(zE (qu l) k).bind (Sum.elim (fun(e:Unit)=>some (Exit.ret,⟨[(2,rB Bool.false)],[],0,20⟩)) (fun(e:Unit)=>some (Exit.exit 0,⟨[(2,R.any)],[],0,20⟩))):=
 fun l k=>by
  revert k;exact q5U qkG ql2 (fun e=>by rcases e with _|_<;>exact⟨_,rfl,fun h=>by cases h⟩) fun x=>by
   have:=qqj;have:=@qbR.eq_1;have:=@qu.eq_1;exact gA
def qK (l:List ByteArray):Option Bool:=Option.bind (zE (qu l) 1) fun(a:Sum Unit Unit)=>Sum.elim (fun(a2:Unit)=>some Bool.false) (fun(a3:Unit)=>some Bool.true) a
theorem Jk:∀(l:List ByteArray),ev 60 0 [rL 1 eS l] []=(qK l).bind (fun(e:Bool)=>some (rB e,[])):=
 fun l=>by
  rw[z8 qmz qqs.2.2.2 qrc]
  have:=qqj;have:=@ZO;have:=@qK.eq_1;exact gA
def Qm (fu:Nat) (l:List ByteArray):Option Bool:=Option.bind (itT (qu l) fu 1) fun(a:Sum Unit Unit)=>Sum.elim (fun(a2:Unit)=>some Bool.false) (fun(a3:Unit)=>some Bool.true) a
theorem Jg (fu:Nat) (l:List ByteArray):qk (Qm fu l) (qK l):=by
 unfold Qm qK
 repeat (first
  | with_reducible exact qk.refl _
  | with_reducible exact qk.none _
  | with_reducible refine qk.bind ?_ (fun _=>?_)
  | with_reducible refine qk.ite ?_ ?_
  | with_reducible refine qk.sum (fun _=>?_) (fun _=>?_)
  | with_reducible refine qk.lim (fun _=>?_))
def zC (o:qa):Option Int:=if o.Credits<1 then some 3 else if 60<o.Credits then some 3 else if o.Places<0 then some 3 else if 200<o.Places then some 3 else Option.bind (qz o.Slots) fun(a:Bool)=>if a=Bool.true then some 3 else Option.bind (qZ o.Slots) fun(a2:Bool)=>if(!a2)=Bool.true then some 7 else if 5<((o.Needs.length:Nat):Int) then some 2 else Option.bind (qK o.Needs) fun(a3:Bool)=>if(!a3)=Bool.true then some 7 else some 0
theorem q2C:∀(o_Code:ByteArray) (o_Credits o_Places:Int) (o_Slots:List Int) (o_Needs:List ByteArray),ev 38 0 [R.agg [dS o_Code,dI o_Credits,dI o_Places,dL 1 eI o_Slots,dL 1 eS o_Needs]] []=(zC (qa.mk o_Code o_Credits o_Places o_Slots o_Needs)).bind (fun(e:Int)=>some (rI e,[])):=
 fun o_Code o_Credits o_Places o_Slots o_Needs=>by
  rw[z8 qo5 qq2.2.2.2 qsK]
  have:=qrx;have:=@ZP;have:=@JD;have:=@Jk;have:=@zC.eq_1;exact gA
def Qz (fu:Nat) (o:qa):Option Int:=if o.Credits<1 then some 3 else if 60<o.Credits then some 3 else if o.Places<0 then some 3 else if 200<o.Places then some 3 else Option.bind (Q8 fu o.Slots) fun(a:Bool)=>if a=Bool.true then some 3 else Option.bind (QF fu o.Slots) fun(a2:Bool)=>if(!a2)=Bool.true then some 7 else if 5<((o.Needs.length:Nat):Int) then some 2 else Option.bind (Qm fu o.Needs) fun(a3:Bool)=>if(!a3)=Bool.true then some 7 else some 0
theorem q2L (fu:Nat) (o:qa):qk (Qz fu o) (zC o):=by
 unfold Qz zC
 repeat (first
  | with_reducible exact qk.refl _
  | with_reducible exact qk.none _
  | with_reducible apply ZN
  | with_reducible apply JA
  | with_reducible apply Jg
  | with_reducible refine qk.bind ?_ (fun _=>?_)
  | with_reducible refine qk.ite ?_ ?_
  | with_reducible refine qk.sum (fun _=>?_) (fun _=>?_)
  | with_reducible refine qk.lim (fun _=>?_))
def qW (t0:List qa) (t13:List qa) (t14:Int):Int→Option (Int⊕(Int⊕Unit))|t15=>if t15<t14 then if 0≤t15∧t15<((t13.length:Nat):Int) then Option.bind t13[Int.toNat t15]? fun(a:qa)=>Option.bind (zo a.Code) fun(a2:Bool)=>if(!a2)=Bool.true then some (Sum.inr (Sum.inl 12)) else if 0<t15 then if 0≤w64 (t15-1)∧w64 (t15-1)<((t0.length:Nat):Int) then Option.bind t0[Int.toNat (w64 (t15-1))]? fun(a3:qa)=>if(ByteArray.toList a3.Code==ByteArray.toList a.Code)=Bool.true then some (Sum.inr (Sum.inl 6)) else if 0<t15 then if 0≤w64 (t15-1)∧w64 (t15-1)<((t0.length:Nat):Int) then Option.bind t0[Int.toNat (w64 (t15-1))]? fun(a4:qa)=>if(!(Op.bytesLess (ByteArray.toList a4.Code) (ByteArray.toList a.Code)||ByteArray.toList a4.Code==ByteArray.toList a.Code))=Bool.true then some (Sum.inr (Sum.inl 7)) else Option.bind (zC a) fun(a5:Int)=>if(a5 != 0)=Bool.true then some (Sum.inr (Sum.inl a5)) else some (Sum.inl (w64 (t15+1))) else none else Option.bind (zC a) fun(a6:Int)=>if(a6 != 0)=Bool.true then some (Sum.inr (Sum.inl a6)) else some (Sum.inl (w64 (t15+1))) else none else if 0<t15 then if 0≤w64 (t15-1)∧w64 (t15-1)<((t0.length:Nat):Int) then Option.bind t0[Int.toNat (w64 (t15-1))]? fun(a7:qa)=>if(!(Op.bytesLess (ByteArray.toList a7.Code) (ByteArray.toList a.Code)||ByteArray.toList a7.Code==ByteArray.toList a.Code))=Bool.true then some (Sum.inr (Sum.inl 7)) else Option.bind (zC a) fun(a8:Int)=>if(a8 != 0)=Bool.true then some (Sum.inr (Sum.inl a8)) else some (Sum.inl (w64 (t15+1))) else none else Option.bind (zC a) fun(a9:Int)=>if(a9 != 0)=Bool.true then some (Sum.inr (Sum.inl a9)) else some (Sum.inl (w64 (t15+1))) else none else some (Sum.inr (Sum.inr ()))
theorem q1J:∀(t0 t13:List qa) (t14 t15:Int),XL2 evo 12 0 4 ⟨[(0,rL 5 qb t0),(13,rL 5 qb t13),(14,rI t14),(15,rI t15)],[],0,81⟩=(zE (qW t0 t13 t14) t15).bind (Sum.elim (fun(e:Int)=>some (Exit.ret,⟨[(0,rL 5 qb t0),(2,rI e)],[],0,81⟩)) (fun(e:Unit)=>some (Exit.exit 0,⟨[(0,rL 5 qb t0),(2,R.any)],[],0,81⟩))):=
 fun t0 t13 t14 t15=>by
  revert t15;exact q5U qm3 qj7 (fun e=>by rcases e with _|_<;>exact⟨_,rfl,fun h=>by cases h⟩) fun x=>by
   have:=qj1;have:=@qaA.eq_1;have:=@q0C;have:=@q2C;have:=@qW.eq_1;exact gA
def ZZ (fu:Nat) (t0:List qa) (t13:List qa) (t14:Int):Int→Option (Int⊕(Int⊕Unit))|t15=>if t15<t14 then if 0≤t15∧t15<((t13.length:Nat):Int) then Option.bind t13[Int.toNat t15]? fun(a:qa)=>Option.bind (Zd fu a.Code) fun(a2:Bool)=>if(!a2)=Bool.true then some (Sum.inr (Sum.inl 12)) else if 0<t15 then if 0≤w64 (t15-1)∧w64 (t15-1)<((t0.length:Nat):Int) then Option.bind t0[Int.toNat (w64 (t15-1))]? fun(a3:qa)=>if(ByteArray.toList a3.Code==ByteArray.toList a.Code)=Bool.true then some (Sum.inr (Sum.inl 6)) else if 0<t15 then if 0≤w64 (t15-1)∧w64 (t15-1)<((t0.length:Nat):Int) then Option.bind t0[Int.toNat (w64 (t15-1))]? fun(a4:qa)=>if(!(Op.bytesLess (ByteArray.toList a4.Code) (ByteArray.toList a.Code)||ByteArray.toList a4.Code==ByteArray.toList a.Code))=Bool.true then some (Sum.inr (Sum.inl 7)) else Option.bind (Qz fu a) fun(a5:Int)=>if(a5 != 0)=Bool.true then some (Sum.inr (Sum.inl a5)) else some (Sum.inl (w64 (t15+1))) else none else Option.bind (Qz fu a) fun(a6:Int)=>if(a6 != 0)=Bool.true then some (Sum.inr (Sum.inl a6)) else some (Sum.inl (w64 (t15+1))) else none else if 0<t15 then if 0≤w64 (t15-1)∧w64 (t15-1)<((t0.length:Nat):Int) then Option.bind t0[Int.toNat (w64 (t15-1))]? fun(a7:qa)=>if(!(Op.bytesLess (ByteArray.toList a7.Code) (ByteArray.toList a.Code)||ByteArray.toList a7.Code==ByteArray.toList a.Code))=Bool.true then some (Sum.inr (Sum.inl 7)) else Option.bind (Qz fu a) fun(a8:Int)=>if(a8 != 0)=Bool.true then some (Sum.inr (Sum.inl a8)) else some (Sum.inl (w64 (t15+1))) else none else Option.bind (Qz fu a) fun(a9:Int)=>if(a9 != 0)=Bool.true then some (Sum.inr (Sum.inl a9)) else some (Sum.inl (w64 (t15+1))) else none else some (Sum.inr (Sum.inr ()))
theorem q1u (fu:Nat) (t0 t13:List qa) (t14:Int):∀x,qk (ZZ fu t0 t13 t14 x) (qW t0 t13 t14 x):=by
 rintro t15
 unfold ZZ qW
 try dsimp only
 repeat (first
  | with_reducible exact qk.refl _
  | with_reducible exact qk.none _
  | with_reducible apply q0F
  | with_reducible apply q2L
  | with_reducible refine qk.bind ?_ (fun _=>?_)
  | with_reducible refine qk.ite ?_ ?_
  | with_reducible refine qk.sum (fun _=>?_) (fun _=>?_)
  | with_reducible refine qk.lim (fun _=>?_))
theorem qr7:okL 39 q8A:=zl (qd qmF) (by kernel_rfl) (by kernel_rfl)
def qq8:=JA_ @q8A.eq_1 (JA_ @Try.f39.eq_1 @qmF)
theorem qkz:lbO 39 3=qcU:=QA (qd qmF) rfl
theorem qlu:okL 39 qcU:=zY qr7 (qt5 (i:=0) (by kernel_rfl))
def zc (t9:List qa) (t10:Int):((List (ByteArray×(List ByteArray)))×Int)→Option (((List (ByteArray×(List ByteArray)))×Int)⊕((List (ByteArray×(List ByteArray)))))|(m0,t11)=>if t11<t10 then if 0≤t11∧t11<((t9.length:Nat):Int) then Option.bind t9[Int.toNat t11]? fun(a:qa)=>if(!(J8 m0 a.Code))=Bool.true then some (Sum.inl (q1M m0 a.Code a.Needs,w64 (t11+1))) else some (Sum.inl (m0,w64 (t11+1))) else none else some (Sum.inr m0)
theorem q1C:∀(m0:List (ByteArray×(List ByteArray))) (t9:List qa) (t10 t11:Int),XL2 evo 39 0 3 ⟨[(3,R.c (C.hd .map 0)),(9,rL 5 qb t9),(10,rI t10),(11,rI t11)],[(0,B.ob (mpB Q5 zz m0))],1,31⟩=(zE (zc t9 t10) (m0,t11)).bind (fun(e:(List (ByteArray×(List ByteArray))))=>some (Exit.exit 0,⟨[(3,R.c (C.hd .map 0))],[(0,B.ob (mpB Q5 zz e))],1,31⟩)):=
 fun m0 t9 t10 t11=>by
  revert t11;revert m0;exact qjx qkz qlu (fun e=>by exact⟨_,rfl,fun h=>by cases h⟩) fun m0 t11=>by
   have:=qq8;have:=@qcU.eq_1;have:=@zc.eq_1;exact gA
def Qg (l:List qa):Option ((List (ByteArray×(List ByteArray)))):=Option.bind (zE (zc l ((l.length:Nat):Int)) ([],0)) fun(a:List (Prod ByteArray (List ByteArray)))=>some a
theorem q05:∀(l:List qa),ev 39 0 [rL 5 qb l] []=(Qg l).bind (fun(e:(List (ByteArray×(List ByteArray))))=>some (R.c (C.hd .map 0),[(0,B.ob (mpB Q5 zz e))])):=
 fun l=>by
  rw[z8 qmF qpW.2.2.2 qr7]
  have:=qq8;have:=@q1C;have:=@Qg.eq_1;exact gA
def J4 (fu:Nat) (l:List qa):Option ((List (ByteArray×(List ByteArray)))):=Option.bind (itT (zc l ((l.length:Nat):Int)) fu ([],0)) fun(a:List (Prod ByteArray (List ByteArray)))=>some a
theorem q0b (fu:Nat) (l:List qa):qk (J4 fu l) (Qg l):=by
 unfold J4 Qg
 repeat (first
  | with_reducible exact qk.refl _
  | with_reducible exact qk.none _
  | with_reducible refine qk.bind ?_ (fun _=>?_)
  | with_reducible refine qk.ite ?_ ?_
  | with_reducible refine qk.sum (fun _=>?_) (fun _=>?_)
  | with_reducible refine qk.lim (fun _=>?_))
theorem qpV:okL 40 qbX:=zl (qd qn1) (by kernel_rfl) (by kernel_rfl)
def qqk:=JA_ @qbX.eq_1 (JA_ @Try.f40.eq_1 @qn1)
theorem qor:okL 61 q8Z:=zl (qd qjT) (by kernel_rfl) (by kernel_rfl)
def qmx:=JA_ @q8Z.eq_1 (JA_ @Try.f61.eq_1 @qjT)
theorem qg0:lbO 61 2=q8s:=QA (qd qjT) rfl
theorem qfW:okL 61 q8s:=zY qor (qt5 (i:=0) (by kernel_rfl))
theorem qsi:okL 41 qb5:=zl (qd qnv) (by kernel_rfl) (by kernel_rfl)
def qs4:=JA_ @qb5.eq_1 (JA_ @Try.f41.eq_1 @qnv)
def Zn (c:ByteArray) (m1:List (ByteArray×(List ByteArray))):Option Bool:=
 some (!(J8 m1 c))
def Qo (c:ByteArray) (m1:List (ByteArray×(List ByteArray))):Bool:=
 (!(J8 m1 c))
theorem q1H (c:ByteArray) (m1:List (ByteArray×(List ByteArray))):Zn c m1=some (Qo c m1):=by
 unfold Zn Qo
 simp only[q1r]
theorem q2c:∀(c:ByteArray) (m1:List (ByteArray×(List ByteArray))),ev 41 2 [rS c,rP 0] [(0,B.blk 65 [C.hd .map 1]),(1,B.ob (mpB Q5 zz m1))]=some (rB (Qo c m1),[(0,B.blk 65 [C.hd .map 1]),(1,B.ob (mpB Q5 zz m1))]):=
 fun c m1=>by
  have h:ev 41 2 [rS c,rP 0] [(0,B.blk 65 [C.hd .map 1]),(1,B.ob (mpB Q5 zz m1))]=(Zn c m1).bind (fun(e:Bool)=>some (rB e,[(0,B.blk 65 [C.hd .map 1]),(1,B.ob (mpB Q5 zz m1))])):=by
   rw[z8 qnv qq6.2.2.2 qsi]
   have:=qs4;have:=@Zn.eq_1;exact gA
  rw[q1H] at h
  exact h
def qt (m1:List (ByteArray×(List ByteArray))) (s:List ByteArray) (t7:Int):Int→Option (Int⊕(Int⊕Unit))|t8=>if t8<t7 then if 0≤t8∧t8<((s.length:Nat):Int) then Option.bind s[Int.toNat t8]? fun(a:ByteArray)=>if Qo a m1=Bool.true then some (Sum.inr (Sum.inl t8)) else some (Sum.inl (w64 (t8+1))) else none else some (Sum.inr (Sum.inr ()))
theorem Zc:∀(m1:List (ByteArray×(List ByteArray))) (s:List ByteArray) (t7 t8:Int),XL2 evo 61 2 2 ⟨[(0,rL 1 eS s),(1,R.c (C.fn 41 [] [dP 0])),(7,rI t7),(8,rI t8)],[(0,B.blk 65 [C.hd .map 1]),(1,B.ob (mpB Q5 zz m1))],2,19⟩=(zE (qt m1 s t7) t8).bind (Sum.elim (fun(e:Int)=>some (Exit.ret,⟨[(4,rI e)],[(0,B.blk 65 [C.hd .map 1]),(1,B.ob (mpB Q5 zz m1))],2,19⟩)) (fun(e:Unit)=>some (Exit.exit 0,⟨[(4,R.any)],[(0,B.blk 65 [C.hd .map 1]),(1,B.ob (mpB Q5 zz m1))],2,19⟩))):=
 fun m1 s t7 t8=>by
  revert t8;exact q5U qg0 qfW (fun e=>by rcases e with _|_<;>exact⟨_,rfl,fun h=>by cases h⟩) fun x=>by
   have:=qmx;have:=@q8s.eq_1;have:=@q2c;have:=@qt.eq_1;exact gA
def qE (s:List ByteArray) (m1:List (ByteArray×(List ByteArray))):Option Int:=Option.bind (zE (qt m1 s ((s.length:Nat):Int)) 0) fun(a:Sum Int Unit)=>Sum.elim (fun(a2:Int)=>some a2) (fun(a3:Unit)=>some (-1)) a
theorem Zp:∀(s:List ByteArray) (m1:List (ByteArray×(List ByteArray))),ev 61 2 [rL 1 eS s,R.c (C.fn 41 [] [dP 0])] [(0,B.blk 65 [C.hd .map 1]),(1,B.ob (mpB Q5 zz m1))]=(qE s m1).bind (fun(e:Int)=>some (rI e,[(0,B.blk 65 [C.hd .map 1]),(1,B.ob (mpB Q5 zz m1))])):=
 fun s m1=>by
  rw[z8 qjT qod.2.2.2 qor]
  have:=qmx;have:=@Zc;have:=@qE.eq_1;exact gA
def zQ (fu:Nat) (s:List ByteArray) (m1:List (ByteArray×(List ByteArray))):Option Int:=Option.bind (itT (qt m1 s ((s.length:Nat):Int)) fu 0) fun(a:Sum Int Unit)=>Sum.elim (fun(a2:Int)=>some a2) (fun(a3:Unit)=>some (-1)) a
theorem Zs (fu:Nat) (s:List ByteArray) (m1:List (ByteArray×(List ByteArray))):qk (zQ fu s m1) (qE s m1):=by
 unfold zQ qE
 repeat (first
  | with_reducible exact qk.refl _
  | with_reducible exact qk.none _
  | with_reducible refine qk.bind ?_ (fun _=>?_)
  | with_reducible refine qk.ite ?_ ?_
  | with_reducible refine qk.sum (fun _=>?_) (fun _=>?_)
  | with_reducible refine qk.lim (fun _=>?_))
def qq (s:List ByteArray) (m1:List (ByteArray×(List ByteArray))):Option Bool:=Option.bind (qE s m1) fun(a:Int)=>some (decide (0≤a))
theorem Z6:∀(s:List ByteArray) (m1:List (ByteArray×(List ByteArray))),ev 40 2 [rL 1 eS s,R.c (C.fn 41 [] [dP 0])] [(0,B.blk 65 [C.hd .map 1]),(1,B.ob (mpB Q5 zz m1))]=(qq s m1).bind (fun(e:Bool)=>some (rB e,[(0,B.blk 65 [C.hd .map 1]),(1,B.ob (mpB Q5 zz m1))])):=
 fun s m1=>by
  rw[z8 qn1 qoa.2.2.2 qpV]
  have:=qqk;have:=@Zp;have:=@qq.eq_1;exact gA
def zF (fu:Nat) (s:List ByteArray) (m1:List (ByteArray×(List ByteArray))):Option Bool:=Option.bind (zQ fu s m1) fun(a:Int)=>some (decide (0≤a))
theorem Zb (fu:Nat) (s:List ByteArray) (m1:List (ByteArray×(List ByteArray))):qk (zF fu s m1) (qq s m1):=by
 unfold zF qq
 repeat (first
  | with_reducible exact qk.refl _
  | with_reducible exact qk.none _
  | with_reducible apply Zs
  | with_reducible refine qk.bind ?_ (fun _=>?_)
  | with_reducible refine qk.ite ?_ ?_
  | with_reducible refine qk.sum (fun _=>?_) (fun _=>?_)
  | with_reducible refine qk.lim (fun _=>?_))
def Q7 (m1:List (ByteArray×(List ByteArray))):Option Bool:=anyO (fun(a:ByteArray) (v:List ByteArray)=>Option.bind (qq v m1) fun(a2:Bool)=>if a2=Bool.true then some true else some false) m1
theorem q0V:∀(m1:List (ByteArray×(List ByteArray))),XM2 evo 12 0 18 (@Operand.tmp 62) ⟨[(6,rP 0),(62,R.c (C.hd .iter 2))],[(0,B.blk 65 [C.hd .map 1]),(1,B.ob (mpB Q5 zz m1)),(2,B.ob (AO.mi (R.c (C.hd HK.map 1)) m1.length []))],3,81⟩=(Q7 m1).bind (fun e=>if e=true then some (Exit.ret,⟨[(2,rI 5),(6,rP 0)],[(0,B.blk 65 [C.hd .map 1]),(1,B.ob (mpB Q5 zz m1))],2,81⟩) else some (Exit.exit 3,⟨[(2,R.any),(6,rP 0)],[(0,B.blk 65 [C.hd .map 1]),(1,B.ob (mpB Q5 zz m1))],2,81⟩)):=
 fun m1=>by
  have h:=q9d (E:=evo) (f:=12) (k:=0) (key:=18) (it:=@Operand.tmp 62) qgL qgi (kE:=Q5) (vE:=zz) (M:=m1) (st:=fun b=>(⟨[(6,rP 0),(62,R.c (C.hd .iter 2))],[(0,B.blk 65 [C.hd .map 1]),(1,B.ob (mpB Q5 zz m1)),(2,b)],3,81⟩:S)) (id:=2) (mid:=1) (x:=(Exit.ret,⟨[(2,rI 5),(6,rP 0)],[(0,B.blk 65 [C.hd .map 1]),(1,B.ob (mpB Q5 zz m1))],2,81⟩)) (z:=(Exit.exit 3,⟨[(2,R.any),(6,rP 0)],[(0,B.blk 65 [C.hd .map 1]),(1,B.ob (mpB Q5 zz m1))],2,81⟩)) (g:=fun a v=>Option.bind (qq v m1) fun(a2:Bool) =>     if a2=Bool.true then some true     else some false) (fun _=>rfl) (fun _=>rfl) (fun _=>rfl) (fun _=>rfl) (by decide) (fun _ _=>rfl) (by intro h;cases h) (by intro h;cases h) (fun a v j l hE=>by
   simp only[qaL,qg4,qcX,zz] at hE
   have:=qj1;have:=@q5H.eq_1;have:=@zz;have:=@hE;have:=@Z6;exact gA) (fun l=>by
   have:=qj1;have:=@q5H.eq_1;have:=@zz;exact gA)
  exact h
def ZH (fu:Nat) (m1:List (ByteArray×(List ByteArray))):Option Bool:=anyO (fun(a:ByteArray) (v:List ByteArray)=>Option.bind (zF fu v m1) fun(a2:Bool)=>if a2=Bool.true then some true else some false) m1
theorem q0X (fu:Nat) (m1:List (ByteArray×(List ByteArray))):qk (ZH fu m1) (Q7 m1):=by
 unfold ZH Q7
 refine qk.anyO (fun _ _=>?_) _
 repeat (first
  | with_reducible exact qk.refl _
  | with_reducible exact qk.none _
  | with_reducible apply Zb
  | with_reducible refine qk.bind ?_ (fun _=>?_)
  | with_reducible refine qk.ite ?_ ?_
  | with_reducible refine qk.sum (fun _=>?_) (fun _=>?_)
  | with_reducible refine qk.lim (fun _=>?_))
theorem qrg:okL 43 qar:=zl (qd qp0) (by kernel_rfl) (by kernel_rfl)
def qsP:=JA_ @qar.eq_1 (JA_ @Try.f43.eq_1 @qp0)
theorem qpX:okL 63 q7O:=zl (qd qmy) (by kernel_rfl) (by kernel_rfl)
def qpR:=JA_ @q7O.eq_1 (JA_ @Try.f63.eq_1 @qmy)
theorem qm5:lbO 63 1=qcN:=QA (qd qmy) rfl
theorem qma:okL 63 qcN:=zY qpX (qt5 (i:=0) (by kernel_rfl))
def zj (x:(ByteArray×(List (ByteArray×(List ByteArray)))×(List (ByteArray×Bool)))):List R×List (Nat×B):=([R.c (C.d (D.str x.1)),R.c (C.ptr 0 0),R.c (C.ptr 2 0),R.c (C.ptr 4 0)],[(0,B.blk 65 [C.hd .map 1]),(1,B.ob (mpB Q5 zz x.2.1)),(2,B.blk 46 [C.hd .map 3]),(3,B.ob (mpB Q5 QJ x.2.2)),(4,B.blk 81 [C.fn 63 [] [C.ptr 0 0,C.ptr 2 0,C.ptr 4 0]])])
def zx:((List (ByteArray×(List ByteArray)))×(List (ByteArray×Bool)))→R×List (Nat×B):=fun(e:(List (ByteArray×(List ByteArray)))×(List (ByteArray×Bool)))=>(R.tup [],[(0,B.blk 65 [C.hd .map 1]),(1,B.ob (mpB Q5 zz e.1)),(2,B.blk 46 [C.hd .map 3]),(3,B.ob (mpB Q5 QJ e.2)),(4,B.blk 81 [C.fn 63 [] [C.ptr 0 0,C.ptr 2 0,C.ptr 4 0]])])
def qr (rF:(ByteArray×(List (ByteArray×(List ByteArray)))×(List (ByteArray×Bool)))→Option ((List (ByteArray×(List ByteArray)))×(List (ByteArray×Bool)))) (t9:List ByteArray) (t10:Int):((List (ByteArray×(List ByteArray)))×(List (ByteArray×Bool))×Int)→Option (((List (ByteArray×(List ByteArray)))×(List (ByteArray×Bool))×Int)⊕((List (ByteArray×(List ByteArray)))×(List (ByteArray×Bool))))|(m1,m3,t11)=>if t11<t10 then if 0≤t11∧t11<((t9.length:Nat):Int) then Option.bind t9[Int.toNat t11]? fun(a2:ByteArray)=>if(!(Z5 Bool.false m3 a2))=Bool.true then Option.bind (rF (a2,(m1,q1M m3 a2 Bool.true))) fun(a3:Prod (List (Prod ByteArray (List ByteArray))) (List (Prod ByteArray Bool)))=>some (Sum.inl (a3.1,a3.2,w64 (t11+1))) else some (Sum.inl (m1,m3,w64 (t11+1))) else none else some (Sum.inr (m1,m3))
theorem q0o (rE:Orc) (rF:(ByteArray×(List (ByteArray×(List ByteArray)))×(List (ByteArray×Bool)))→Option ((List (ByteArray×(List ByteArray)))×(List (ByteArray×Bool)))) (hF:∀y,rE (.fn 63) 5 (zj y).1 (zj y).2=(rF y).bind fun e=>some (zx e)) (hM:∀g k a G,g≠63→rE (.fn g) k a G=ev g k a G) (hR:∀g asg bd k a G,rE (.rd g asg bd) k a G=evr g asg bd k a G):∀(m1:List (ByteArray×(List ByteArray))) (m3:List (ByteArray×Bool)) (t9:List ByteArray) (t10 t11:Int),XL2 rE 63 5 1 ⟨[(2,rP 2),(3,rP 4),(9,rL 1 eS t9),(10,rI t10),(11,rI t11)],[(0,B.blk 65 [C.hd .map 1]),(1,B.ob (mpB Q5 zz m1)),(2,B.blk 46 [C.hd .map 3]),(3,B.ob (mpB Q5 QJ m3)),(4,B.blk 81 [C.fn 63 [] [dP 0,dP 2,dP 4]])],5,25⟩=(zE (qr rF t9 t10) (m1,m3,t11)).bind (fun(e:(List (ByteArray×(List ByteArray)))×(List (ByteArray×Bool)))=>some (Exit.exit 0,⟨[],[(0,B.blk 65 [C.hd .map 1]),(1,B.ob (mpB Q5 zz e.1)),(2,B.blk 46 [C.hd .map 3]),(3,B.ob (mpB Q5 QJ e.2)),(4,B.blk 81 [C.fn 63 [] [dP 0,dP 2,dP 4]])],5,25⟩)):=
 fun m1 m3 t9 t10 t11=>by
  revert t11;revert m3;revert m1;exact qsT qm5 qma (fun e=>by exact⟨_,rfl,fun h=>by cases h⟩) fun m1 m3 t11=>by
   have hF':∀(c:ByteArray) (m1:List (ByteArray×(List ByteArray))) (m3:List (ByteArray×Bool)),rE (.fn 63) 5 [rS c,rP 0,rP 2,rP 4] [(0,B.blk 65 [C.hd .map 1]),(1,B.ob (mpB Q5 zz m1)),(2,B.blk 46 [C.hd .map 3]),(3,B.ob (mpB Q5 QJ m3)),(4,B.blk 81 [C.fn 63 [] [dP 0,dP 2,dP 4]])]=(rF (c,m1,m3)).bind (fun e=>some (R.tup [],[(0,B.blk 65 [C.hd .map 1]),(1,B.ob (mpB Q5 zz e.1)),(2,B.blk 46 [C.hd .map 3]),(3,B.ob (mpB Q5 QJ e.2)),(4,B.blk 81 [C.fn 63 [] [dP 0,dP 2,dP 4]])])):=fun c m1 m3=>hF (c,m1,m3)
   have:=qpR;have:=@qcN.eq_1;have:=@qr.eq_1;exact gA
def Zk (fu:Nat) (rF:(ByteArray×(List (ByteArray×(List ByteArray)))×(List (ByteArray×Bool)))→Option ((List (ByteArray×(List ByteArray)))×(List (ByteArray×Bool)))) (t9:List ByteArray) (t10:Int):((List (ByteArray×(List ByteArray)))×(List (ByteArray×Bool))×Int)→Option (((List (ByteArray×(List ByteArray)))×(List (ByteArray×Bool))×Int)⊕((List (ByteArray×(List ByteArray)))×(List (ByteArray×Bool))))|(m1,m3,t11)=>if t11<t10 then if 0≤t11∧t11<((t9.length:Nat):Int) then Option.bind t9[Int.toNat t11]? fun(a2:ByteArray)=>if(!(Z5 Bool.false m3 a2))=Bool.true then Option.bind (rF (a2,(m1,q1M m3 a2 Bool.true))) fun(a3:Prod (List (Prod ByteArray (List ByteArray))) (List (Prod ByteArray Bool)))=>some (Sum.inl (a3.1,a3.2,w64 (t11+1))) else some (Sum.inl (m1,m3,w64 (t11+1))) else none else some (Sum.inr (m1,m3))
theorem q0A (fu:Nat) (rF rF2:(ByteArray×(List (ByteArray×(List ByteArray)))×(List (ByteArray×Bool)))→Option ((List (ByteArray×(List ByteArray)))×(List (ByteArray×Bool)))) (hF:∀y,qk (rF y) (rF2 y)) (t9:List ByteArray) (t10:Int):∀x,qk (Zk fu rF t9 t10 x) (qr rF2 t9 t10 x):=by
 rintro⟨m1,m3,t11⟩
 unfold Zk qr
 try dsimp only
 repeat (first
  | with_reducible exact qk.refl _
  | with_reducible exact qk.none _
  | exact hF _
  | with_reducible refine qk.bind ?_ (fun _=>?_)
  | with_reducible refine qk.ite ?_ ?_
  | with_reducible refine qk.sum (fun _=>?_) (fun _=>?_)
  | with_reducible refine qk.lim (fun _=>?_))
def zW (rF:(ByteArray×(List (ByteArray×(List ByteArray)))×(List (ByteArray×Bool)))→Option ((List (ByteArray×(List ByteArray)))×(List (ByteArray×Bool)))):(ByteArray×(List (ByteArray×(List ByteArray)))×(List (ByteArray×Bool)))→Option ((List (ByteArray×(List ByteArray)))×(List (ByteArray×Bool)))|(c,m1,m3)=>Option.bind (zE (qr rF (Z5 [] m1 c) (((Z5 [] m1 c).length:Nat):Int)) (m1,(m3,0))) fun(a2:Prod (List (Prod ByteArray (List ByteArray))) (List (Prod ByteArray Bool)))=>some (a2.1,a2.2)
theorem Zl:q6M 63 5 zj zx zW:=by
 intro rE rF hF hM hR x
 obtain⟨c,m1,m3⟩:=x
 show q7r rE 63 5 [rS c,rP 0,rP 2,rP 4] [(0,B.blk 65 [C.hd .map 1]),(1,B.ob (mpB Q5 zz m1)),(2,B.blk 46 [C.hd .map 3]),(3,B.ob (mpB Q5 QJ m3)),(4,B.blk 81 [C.fn 63 [] [dP 0,dP 2,dP 4]])]=_
 have hF':∀(c:ByteArray) (m1:List (ByteArray×(List ByteArray))) (m3:List (ByteArray×Bool)),rE (.fn 63) 5 [rS c,rP 0,rP 2,rP 4] [(0,B.blk 65 [C.hd .map 1]),(1,B.ob (mpB Q5 zz m1)),(2,B.blk 46 [C.hd .map 3]),(3,B.ob (mpB Q5 QJ m3)),(4,B.blk 81 [C.fn 63 [] [dP 0,dP 2,dP 4]])]=(rF (c,m1,m3)).bind (fun e=>some (R.tup [],[(0,B.blk 65 [C.hd .map 1]),(1,B.ob (mpB Q5 zz e.1)),(2,B.blk 46 [C.hd .map 3]),(3,B.ob (mpB Q5 QJ e.2)),(4,B.blk 81 [C.fn 63 [] [dP 0,dP 2,dP 4]])])):=fun c m1 m3=>hF (c,m1,m3)
 rw[q8D qmy qpX]
 have:=qpR;have:=q0o rE rF hF hM hR;have:=@zW.eq_1;have:=@zx.eq_1;exact gA
theorem Qy:∀x y,zj x=zj y→x=y:=by
 rintro⟨a0,a1,a2⟩ ⟨b0,b1,b2⟩ h
 simp only[zj,Prod.mk.injEq,List.cons.injEq,R.c.injEq,R.agg.injEq,R.tup.injEq,C.d.injEq,C.own.injEq,C.ptr.injEq,C.eptr.injEq,D.int.injEq,D.bool.injEq,D.str.injEq,D.sl.injEq,B.blk.injEq,B.row.injEq,q8L,q6H,q6D,q5n,q5p,q7Y,q8z,q7Q,true_and,and_true,qto] at h
 simp only[h]
theorem ZG:∀x y,zx x=zx y→x=y:=by
 rintro⟨a0,a1⟩ ⟨b0,b1⟩ h
 simp only[zx,Prod.mk.injEq,List.cons.injEq,R.c.injEq,R.agg.injEq,R.tup.injEq,C.d.injEq,C.own.injEq,C.ptr.injEq,C.eptr.injEq,D.int.injEq,D.bool.injEq,D.str.injEq,D.sl.injEq,B.blk.injEq,B.row.injEq,q8L,q6H,q6D,q5n,q5p,q7Y,q8z,q7Q,true_and,and_true,qto] at h
 simp only[h]
def qM:(ByteArray×(List (ByteArray×(List ByteArray)))×(List (ByteArray×Bool)))→Option ((List (ByteArray×(List ByteArray)))×(List (ByteArray×Bool))):=q4z 63 5 zj zx
theorem Jm (x:(ByteArray×(List (ByteArray×(List ByteArray)))×(List (ByteArray×Bool)))):qM x=zW qM x:=qlo qmG.2.2.2 Qy ZG Zl x
theorem q0W (c:ByteArray) (m1:List (ByteArray×(List ByteArray))) (m3:List (ByteArray×Bool)):ev 63 5 [rS c,rP 0,rP 2,rP 4] [(0,B.blk 65 [C.hd .map 1]),(1,B.ob (mpB Q5 zz m1)),(2,B.blk 46 [C.hd .map 3]),(3,B.ob (mpB Q5 QJ m3)),(4,B.blk 81 [C.fn 63 [] [dP 0,dP 2,dP 4]])]=(qM (c,m1,m3)).bind (fun(e:(List (ByteArray×(List ByteArray)))×(List (ByteArray×Bool)))=>some (R.tup [],[(0,B.blk 65 [C.hd .map 1]),(1,B.ob (mpB Q5 zz e.1)),(2,B.blk 46 [C.hd .map 3]),(3,B.ob (mpB Q5 QJ e.2)),(4,B.blk 81 [C.fn 63 [] [dP 0,dP 2,dP 4]])])):=(q9a qmG.2.2.2 Qy Zl (c,m1,m3))
theorem q1F:∀(c:ByteArray) (m1:List (ByteArray×(List ByteArray))) (m3:List (ByteArray×Bool)),ev 63 5 [rS c,rP 0,rP 2,rP 4] [(0,B.blk 65 [C.hd .map 1]),(1,B.ob (mpB Q5 zz m1)),(2,B.blk 46 [C.hd .map 3]),(3,B.ob (mpB Q5 QJ m3)),(4,B.blk 81 [C.fn 63 [] [dP 0,dP 2,dP 4]])]=(qM (c,m1,m3)).bind (fun(e:(List (ByteArray×(List ByteArray)))×(List (ByteArray×Bool)))=>some (R.tup [],[(0,B.blk 65 [C.hd .map 1]),(1,B.ob (mpB Q5 zz e.1)),(2,B.blk 46 [C.hd .map 3]),(3,B.ob (mpB Q5 QJ e.2)),(4,B.blk 81 [C.fn 63 [] [dP 0,dP 2,dP 4]])])):=
 fun c m1 m3=>q0W c m1 m3
def QU (fu:Nat) (rF:(ByteArray×(List (ByteArray×(List ByteArray)))×(List (ByteArray×Bool)))→Option ((List (ByteArray×(List ByteArray)))×(List (ByteArray×Bool)))):(ByteArray×(List (ByteArray×(List ByteArray)))×(List (ByteArray×Bool)))→Option ((List (ByteArray×(List ByteArray)))×(List (ByteArray×Bool)))|(c,m1,m3)=>Option.bind (itT (Zk fu rF (Z5 [] m1 c) (((Z5 [] m1 c).length:Nat):Int)) fu (m1,(m3,0))) fun(a2:Prod (List (Prod ByteArray (List ByteArray))) (List (Prod ByteArray Bool)))=>some (a2.1,a2.2)
theorem JS (fu:Nat) (rF rF2:(ByteArray×(List (ByteArray×(List ByteArray)))×(List (ByteArray×Bool)))→Option ((List (ByteArray×(List ByteArray)))×(List (ByteArray×Bool)))) (hF:∀y,qk (rF y) (rF2 y)):∀x,qk (QU fu rF x) (zW rF2 x):=by
 rintro⟨c,m1,m3⟩
 unfold QU zW
 try dsimp only
 repeat (first
  | with_reducible exact qk.refl _
  | with_reducible exact qk.none _
  | exact hF _
  | (with_reducible refine q0A _ _ _ hF ..)
  | with_reducible refine qk.bind ?_ (fun _=>?_)
  | with_reducible refine qk.ite ?_ ?_
  | with_reducible refine qk.sum (fun _=>?_) (fun _=>?_)
  | with_reducible refine qk.lim (fun _=>?_))
def q09 (fu:Nat) (x:(ByteArray×(List (ByteArray×(List ByteArray)))×(List (ByteArray×Bool)))):Option ((List (ByteArray×(List ByteArray)))×(List (ByteArray×Bool))):=itR (QU fu) fu x
theorem q1t (fu:Nat) (x:(ByteArray×(List (ByteArray×(List ByteArray)))×(List (ByteArray×Bool)))):qk (q09 fu x) (qM x):=qk.rec Jm (JS fu) fu x
theorem qrG:okL 65 qcB:=zl (qd qnt) (by kernel_rfl) (by kernel_rfl)
def qrP:=JA_ @qcB.eq_1 (JA_ @Try.f65.eq_1 @qnt)
def qP (m0:List (ByteArray×Bool)):Option Unit:=
 some ()
def zU (m0:List (ByteArray×Bool)):Unit:=
 ()
theorem QE (m0:List (ByteArray×Bool)):qP m0=some (zU m0):=by
 unfold qP zU
 simp only[q1r]
theorem QL:∀(m0:List (ByteArray×Bool)),ev 65 1 [R.c (C.hd .map 0)] [(0,B.ob (mpB Q5 QJ m0))]=some (R.c (C.fn 74 [] [dP 1]),[(0,B.ob (mpB Q5 QJ m0)),(1,B.blk 46 [C.hd .map 0])]):=
 fun m0=>by
  have h:ev 65 1 [R.c (C.hd .map 0)] [(0,B.ob (mpB Q5 QJ m0))]=(qP m0).bind (fun(e:Unit)=>some (R.c (C.fn 74 [] [dP 1]),[(0,B.ob (mpB Q5 QJ m0)),(1,B.blk 46 [C.hd .map 0])])):=by
   rw[z8 qnt qqa.2.2.2 qrG]
   have:=qrP;have:=@qP.eq_1;exact gA
  rw[QE] at h
  exact h
def zV (m1:List (ByteArray×Bool)):Option (List ByteArray):=if @qiW (List.map (@Prod.fst ByteArray Bool) m1)=Bool.true then some (@Jv (List.map (@Prod.fst ByteArray Bool) m1)) else none
theorem JO:∀(m1:List (ByteArray×Bool)),ev 64 2 [R.c (C.fn 74 [] [dP 0])] [(0,B.blk 46 [C.hd .map 1]),(1,B.ob (mpB Q5 QJ m1))]=(zV m1).bind (fun(e:List ByteArray)=>some (rL 1 eS e,[(0,B.blk 46 [C.hd .map 1]),(1,B.ob (mpB Q5 QJ m1))])):=
 fun m1=>by
  rw[q9A,qqm.2.2.2]
  have:=@zV.eq_1;exact gA
theorem q0J (x:(ByteArray×(List (ByteArray×(List ByteArray)))×(List (ByteArray×Bool)))) (e:(List (ByteArray×(List ByteArray)))×(List (ByteArray×Bool))) (h:qM x=some e):e.1=x.2.1:=
 qdy qmG.2.2.2 Qy ZG Zl (Q:=fun x e=>e.1=x.2.1) (fun F hF y e he=>by
  obtain⟨c,m1,m3⟩:=y
  obtain⟨a,h1,h2⟩:=qt9.1 (show Option.bind (zE (qr F (Z5 [] m1 c) (((Z5 [] m1 c).length:Nat):Int)) (m1,(m3,0))) (fun a2=>some (a2.1,a2.2))=some e from he)
  injection h2 with h2
  have h3:=qdS (I:=fun x:(List (ByteArray×(List ByteArray)))×(List (ByteArray×Bool))×Int=>x.1=m1) (J:=fun e:(List (ByteArray×(List ByteArray)))×(List (ByteArray×Bool))=>e.1=m1) (fun x y hx hs=>by
   obtain⟨b,m,t⟩:=x
   obtain rfl:b=m1:=hx
   unfold qr at hs
   dsimp only at hs
   split at hs
   ·split at hs
    ·obtain⟨d,-,hs⟩:=qt9.1 hs
     split at hs
     ·obtain⟨r,hr,hs⟩:=qt9.1 hs
      injection hs with hs;injection hs with hs
      rw[←hs];exact hF _ _ hr
     ·injection hs with hs;injection hs with hs
      rw[←hs]
    ·cases hs
   ·cases hs) (fun x e hx hs=>by
   obtain⟨b,m,t⟩:=x
   obtain rfl:b=m1:=hx
   unfold qr at hs
   dsimp only at hs
   split at hs
   ·split at hs
    ·obtain⟨d,-,hs⟩:=qt9.1 hs
     split at hs
     ·obtain⟨r,hr,hs⟩:=qt9.1 hs
      cases hs
     ·cases hs
    ·cases hs
   ·injection hs with hs;injection hs with hs
    rw[←hs]) rfl h1
  rw[←h2];exact h3) x e h
def qH (code:ByteArray) (m0:List (ByteArray×(List ByteArray))):Option (List ByteArray×(List (ByteArray×(List ByteArray)))):=Option.bind (qM (code,(m0,[]))) fun(a:Prod (List (Prod ByteArray (List ByteArray))) (List (Prod ByteArray Bool)))=>Option.bind (zV a.2) fun(a2:List ByteArray)=>some (a2,a.1)
theorem JL:∀(code:ByteArray) (m0:List (ByteArray×(List ByteArray))),ev 43 1 [R.c (C.hd .map 0),rS code] [(0,B.ob (mpB Q5 zz m0))]=(qH code m0).bind (fun(e:List ByteArray×(List (ByteArray×(List ByteArray))))=>some (rL 1 eS e.1,[(0,B.ob (mpB Q5 zz e.2))])):=
 fun code m0=>by
  rw[z8 qp0 qqe.2.2.2 qrg]
  have:=qsP;have:=@q1F;have:=@QL;have:=@JO;have:=@qH.eq_1;exact gA
theorem q1B (code:ByteArray) (m0:List (ByteArray×(List ByteArray))) (r:List ByteArray×(List (ByteArray×(List ByteArray)))) (h:qH code m0=some r):r.2=m0:=by
 unfold qH at h
 obtain⟨a,h1,h⟩:=qt9.1 h
 obtain⟨b,h2,h⟩:=qt9.1 h
 injection h with h
 rw[←h];exact q0J _ _ h1
theorem q2w:∀(code:ByteArray) (m0:List (ByteArray×(List ByteArray))),ev 43 1 [R.c (C.hd .map 0),rS code] [(0,B.ob (mpB Q5 zz m0))]=(qH code m0).bind (fun(e:List ByteArray×(List (ByteArray×(List ByteArray))))=>some (rL 1 eS e.1,[(0,B.ob (mpB Q5 zz m0))])):=fun code m0=>by
 rw[JL]
 cases h:qH code m0 with
 | none=>rfl
 | some r=>rw[qt4,qt4,q1B _ _ _ h]
def ZL (fu:Nat) (code:ByteArray) (m0:List (ByteArray×(List ByteArray))):Option (List ByteArray×(List (ByteArray×(List ByteArray)))):=Option.bind (q09 fu (code,(m0,[]))) fun(a:Prod (List (Prod ByteArray (List ByteArray))) (List (Prod ByteArray Bool)))=>Option.bind (zV a.2) fun(a2:List ByteArray)=>some (a2,a.1)
theorem JG (fu:Nat) (code:ByteArray) (m0:List (ByteArray×(List ByteArray))):qk (ZL fu code m0) (qH code m0):=by
 unfold ZL qH
 repeat (first
  | with_reducible exact qk.refl _
  | with_reducible exact qk.none _
  | with_reducible apply q1t
  | with_reducible refine qk.bind ?_ (fun _=>?_)
  | with_reducible refine qk.ite ?_ ?_
  | with_reducible refine qk.sum (fun _=>?_) (fun _=>?_)
  | with_reducible refine qk.lim (fun _=>?_))
theorem qs6:okL 42 qcS:=zl (qd qpM) (by kernel_rfl) (by kernel_rfl)
def qsn:=JA_ @qcS.eq_1 (JA_ @Try.f42.eq_1 @qpM)
theorem qr3:okL 62 q8R:=zl (qd qmQ) (by kernel_rfl) (by kernel_rfl)
def qr9:=JA_ @q8R.eq_1 (JA_ @Try.f62.eq_1 @qmQ)
theorem qm1:lbO 62 2=qbC:=QA (qd qmQ) rfl
theorem qjP:okL 62 qbC:=zY qr3 (qt5 (i:=0) (by kernel_rfl))
def qw (s:List ByteArray) (v:ByteArray) (t7:Int):Int→Option (Int⊕(Int⊕Unit))|t8=>if t8<t7 then if 0≤t8∧t8<((s.length:Nat):Int) then Option.bind s[Int.toNat t8]? fun(a:ByteArray)=>if(ByteArray.toList v==ByteArray.toList a)=Bool.true then some (Sum.inr (Sum.inl t8)) else some (Sum.inl (w64 (t8+1))) else none else some (Sum.inr (Sum.inr ()))
theorem ZA:∀(s:List ByteArray) (v:ByteArray) (t7 t8:Int),XL2 evo 62 0 2 ⟨[(0,rL 1 eS s),(1,rS v),(7,rI t7),(8,rI t8)],[],0,19⟩=(zE (qw s v t7) t8).bind (Sum.elim (fun(e:Int)=>some (Exit.ret,⟨[(4,rI e)],[],0,19⟩)) (fun(e:Unit)=>some (Exit.exit 0,⟨[(4,R.any)],[],0,19⟩))):=
 fun s v t7 t8=>by
  revert t8;exact q5U qm1 qjP (fun e=>by rcases e with _|_<;>exact⟨_,rfl,fun h=>by cases h⟩) fun x=>by
   have:=qr9;have:=@qbC.eq_1;have:=@qw.eq_1;exact gA
def qR (s:List ByteArray) (v:ByteArray):Option Int:=Option.bind (zE (qw s v ((s.length:Nat):Int)) 0) fun(a:Sum Int Unit)=>Sum.elim (fun(a2:Int)=>some a2) (fun(a3:Unit)=>some (-1)) a
theorem ZU:∀(s:List ByteArray) (v:ByteArray),ev 62 0 [rL 1 eS s,rS v] []=(qR s v).bind (fun(e:Int)=>some (rI e,[])):=
 fun s v=>by
  rw[z8 qmQ qqi.2.2.2 qr3]
  have:=qr9;have:=@ZA;have:=@qR.eq_1;exact gA
def Qc (fu:Nat) (s:List ByteArray) (v:ByteArray):Option Int:=Option.bind (itT (qw s v ((s.length:Nat):Int)) fu 0) fun(a:Sum Int Unit)=>Sum.elim (fun(a2:Int)=>some a2) (fun(a3:Unit)=>some (-1)) a
theorem J0 (fu:Nat) (s:List ByteArray) (v:ByteArray):qk (Qc fu s v) (qR s v):=by
 unfold Qc qR
 repeat (first
  | with_reducible exact qk.refl _
  | with_reducible exact qk.none _
  | with_reducible refine qk.bind ?_ (fun _=>?_)
  | with_reducible refine qk.ite ?_ ?_
  | with_reducible refine qk.sum (fun _=>?_) (fun _=>?_)
  | with_reducible refine qk.lim (fun _=>?_))
def qm (s:List ByteArray) (v:ByteArray):Option Bool:=Option.bind (qR s v) fun(a:Int)=>some (decide (0≤a))
theorem Qk:∀(s:List ByteArray) (v:ByteArray),ev 42 0 [rL 1 eS s,rS v] []=(qm s v).bind (fun(e:Bool)=>some (rB e,[])):=
 fun s v=>by
  rw[z8 qpM qqE.2.2.2 qs6]
  have:=qsn;have:=@ZU;have:=@qm.eq_1;exact gA
def zr (fu:Nat) (s:List ByteArray) (v:ByteArray):Option Bool:=Option.bind (Qc fu s v) fun(a:Int)=>some (decide (0≤a))
theorem Ql (fu:Nat) (s:List ByteArray) (v:ByteArray):qk (zr fu s v) (qm s v):=by
 unfold zr qm
 repeat (first
  | with_reducible exact qk.refl _
  | with_reducible exact qk.none _
  | with_reducible apply J0
  | with_reducible refine qk.bind ?_ (fun _=>?_)
  | with_reducible refine qk.ite ?_ ?_
  | with_reducible refine qk.sum (fun _=>?_) (fun _=>?_)
  | with_reducible refine qk.lim (fun _=>?_))
def Qp (m1:List (ByteArray×(List ByteArray))):Option Bool:=anyO (fun(a:ByteArray) (v:List ByteArray)=>Option.bind (qH a m1) fun(a2:Prod (List ByteArray) (List (Prod ByteArray (List ByteArray))))=>Option.bind (qm a2.1 a) fun(a3:Bool)=>if a3=Bool.true then some true else some false) m1
theorem q0U:∀(m1:List (ByteArray×(List ByteArray))),XM2 evo 12 0 23 (@Operand.tmp 71) ⟨[(6,rP 0),(71,R.c (C.hd .iter 2))],[(0,B.blk 65 [C.hd .map 1]),(1,B.ob (mpB Q5 zz m1)),(2,B.ob (AO.mi (R.c (C.hd HK.map 1)) m1.length []))],3,81⟩=(Qp m1).bind (fun e=>if e=true then some (Exit.ret,⟨[(2,rI 14)],[],0,81⟩) else some (Exit.exit 5,⟨[(2,R.any)],[],0,81⟩)):=
 fun m1=>by
  have h:=q9d (E:=evo) (f:=12) (k:=0) (key:=23) (it:=@Operand.tmp 71) qgR qiV (kE:=Q5) (vE:=zz) (M:=m1) (st:=fun b=>(⟨[(6,rP 0),(71,R.c (C.hd .iter 2))],[(0,B.blk 65 [C.hd .map 1]),(1,B.ob (mpB Q5 zz m1)),(2,b)],3,81⟩:S)) (id:=2) (mid:=1) (x:=(Exit.ret,⟨[(2,rI 14)],[],0,81⟩)) (z:=(Exit.exit 5,⟨[(2,R.any)],[],0,81⟩)) (g:=fun a v=>Option.bind (qH a m1) fun(a2:Prod (List ByteArray) (List (Prod ByteArray (List ByteArray)))) =>     Option.bind (qm a2.1 a) fun(a3:Bool) =>     if a3=Bool.true then some true     else some false) (fun _=>rfl) (fun _=>rfl) (fun _=>rfl) (fun _=>rfl) (by decide) (fun _ _=>rfl) (by intro h;cases h) (by intro h;cases h) (fun a v j l hE=>by
   simp only[qaL,qg4,qcX,zz] at hE
   have:=qj1;have:=@q5r.eq_1;have:=@zz;have:=@hE;have:=@q2w;have:=@Qk;exact gA) (fun l=>by
   have:=qj1;have:=@q5r.eq_1;have:=@zz;exact gA)
  exact h
def ZI (fu:Nat) (m1:List (ByteArray×(List ByteArray))):Option Bool:=anyO (fun(a:ByteArray) (v:List ByteArray)=>Option.bind (ZL fu a m1) fun(a2:Prod (List ByteArray) (List (Prod ByteArray (List ByteArray))))=>Option.bind (zr fu a2.1 a) fun(a3:Bool)=>if a3=Bool.true then some true else some false) m1
theorem q13 (fu:Nat) (m1:List (ByteArray×(List ByteArray))):qk (ZI fu m1) (Qp m1):=by
 unfold ZI Qp
 refine qk.anyO (fun _ _=>?_) _
 repeat (first
  | with_reducible exact qk.refl _
  | with_reducible exact qk.none _
  | with_reducible apply JG
  | with_reducible apply Ql
  | with_reducible refine qk.bind ?_ (fun _=>?_)
  | with_reducible refine qk.ite ?_ ?_
  | with_reducible refine qk.sum (fun _=>?_) (fun _=>?_)
  | with_reducible refine qk.lim (fun _=>?_))
def qG (x0:List qa):Option Int:=if 60<((x0.length:Nat):Int) then some 2 else Option.bind (zE (qW x0 x0 ((x0.length:Nat):Int)) 0) fun(a:Sum Int Unit)=>Sum.elim (fun(a2:Int)=>some a2) (fun(a3:Unit)=>Option.bind (Qg x0) fun(a4:List (Prod ByteArray (List ByteArray)))=>Option.bind (Q7 a4) fun(a5:Bool)=>if a5=Bool.true then some 5 else Option.bind (Qp a4) fun(a6:Bool)=>if a6=Bool.true then some 14 else some 0) a
theorem QB:∀(x0:List qa),ev 12 0 [rL 5 qb x0] []=(qG x0).bind (fun(e:Int)=>some (rI e,[])):=
 fun x0=>by
  rw[z8 qj2 qra.2.2.2 qmZ]
  have:=qj1;have:=@q1J;have:=@q05;have:=@q0V;have:=@q0U;have:=@qG.eq_1;exact gA
theorem q1G:∀(x00_Code:ByteArray) (x00_Credits x00_Places x00_Slots0 x00_Slots1:Int) (x01_Code:ByteArray) (x01_Credits x01_Places x01_Slots0:Int) (x01_Needs0 x02_Code:ByteArray) (x02_Credits x02_Places:Int) (x03_Code:ByteArray) (x03_Credits x03_Places x03_Slots0:Int) (x03_Needs0 x03_Needs1:ByteArray) , ev 12 0 [R.c (C.d (D.sl 5 4 [D.str x00_Code,D.int .i64 x00_Credits,D.int .i64 x00_Places,D.sl 1 2 [D.int .i64 x00_Slots0,D.int .i64 x00_Slots1],D.sl 1 0 [],D.str x01_Code,D.int .i64 x01_Credits,D.int .i64 x01_Places,D.sl 1 1 [D.int .i64 x01_Slots0],D.sl 1 1 [D.str x01_Needs0],D.str x02_Code,D.int .i64 x02_Credits,D.int .i64 x02_Places,D.sl 1 0 [],D.sl 1 0 [],D.str x03_Code,D.int .i64 x03_Credits,D.int .i64 x03_Places,D.sl 1 1 [D.int .i64 x03_Slots0],D.sl 1 2 [D.str x03_Needs0,D.str x03_Needs1]]))] []=(qG [(qa.mk x00_Code x00_Credits x00_Places [x00_Slots0,x00_Slots1] []),(qa.mk x01_Code x01_Credits x01_Places [x01_Slots0] [x01_Needs0]),(qa.mk x02_Code x02_Credits x02_Places [] []),(qa.mk x03_Code x03_Credits x03_Places [x03_Slots0] [x03_Needs0,x03_Needs1])]).bind (fun(e:Int)=>some (rI e,[])):=by
 intro x00_Code x00_Credits x00_Places x00_Slots0 x00_Slots1 x01_Code x01_Credits x01_Places x01_Slots0 x01_Needs0 x02_Code x02_Credits x02_Places x03_Code x03_Credits x03_Places x03_Slots0 x03_Needs0 x03_Needs1;have h:=QB [(qa.mk x00_Code x00_Credits x00_Places [x00_Slots0,x00_Slots1] []),(qa.mk x01_Code x01_Credits x01_Places [x01_Slots0] [x01_Needs0]),(qa.mk x02_Code x02_Credits x02_Places [] []),(qa.mk x03_Code x03_Credits x03_Places [x03_Slots0] [x03_Needs0,x03_Needs1])]
 first
  | exact h
  | (simp only[rL,dL,bR,bZ,Nat.reduceAdd] at h;exact h)
theorem q1I:∀(x00_Code:ByteArray) (x00_Credits x00_Places x00_Slots0 x00_Slots1:Int) (x00_Needs0 x01_Code:ByteArray) (x01_Credits x01_Places x01_Slots0:Int) (x01_Needs0 x02_Code:ByteArray) (x02_Credits x02_Places:Int) (x03_Code:ByteArray) (x03_Credits x03_Places x03_Slots0:Int) (x03_Needs0 x03_Needs1:ByteArray) , ev 12 0 [R.c (C.d (D.sl 5 4 [D.str x00_Code,D.int .i64 x00_Credits,D.int .i64 x00_Places,D.sl 1 2 [D.int .i64 x00_Slots0,D.int .i64 x00_Slots1],D.sl 1 1 [D.str x00_Needs0],D.str x01_Code,D.int .i64 x01_Credits,D.int .i64 x01_Places,D.sl 1 1 [D.int .i64 x01_Slots0],D.sl 1 1 [D.str x01_Needs0],D.str x02_Code,D.int .i64 x02_Credits,D.int .i64 x02_Places,D.sl 1 0 [],D.sl 1 0 [],D.str x03_Code,D.int .i64 x03_Credits,D.int .i64 x03_Places,D.sl 1 1 [D.int .i64 x03_Slots0],D.sl 1 2 [D.str x03_Needs0,D.str x03_Needs1]]))] []=(qG [(qa.mk x00_Code x00_Credits x00_Places [x00_Slots0,x00_Slots1] [x00_Needs0]),(qa.mk x01_Code x01_Credits x01_Places [x01_Slots0] [x01_Needs0]),(qa.mk x02_Code x02_Credits x02_Places [] []),(qa.mk x03_Code x03_Credits x03_Places [x03_Slots0] [x03_Needs0,x03_Needs1])]).bind (fun(e:Int)=>some (rI e,[])):=by
 intro x00_Code x00_Credits x00_Places x00_Slots0 x00_Slots1 x00_Needs0 x01_Code x01_Credits x01_Places x01_Slots0 x01_Needs0 x02_Code x02_Credits x02_Places x03_Code x03_Credits x03_Places x03_Slots0 x03_Needs0 x03_Needs1;have h:=QB [(qa.mk x00_Code x00_Credits x00_Places [x00_Slots0,x00_Slots1] [x00_Needs0]),(qa.mk x01_Code x01_Credits x01_Places [x01_Slots0] [x01_Needs0]),(qa.mk x02_Code x02_Credits x02_Places [] []),(qa.mk x03_Code x03_Credits x03_Places [x03_Slots0] [x03_Needs0,x03_Needs1])]
 first
  | exact h
  | (simp only[rL,dL,bR,bZ,Nat.reduceAdd] at h;exact h)
theorem q1D:∀(x00_Code:ByteArray) (x00_Credits x00_Places x00_Slots0 x00_Slots1:Int) (x01_Code:ByteArray) (x01_Credits x01_Places x01_Slots0:Int) (x01_Needs0 x02_Code:ByteArray) (x02_Credits x02_Places:Int) (x02_Needs0 x03_Code:ByteArray) (x03_Credits x03_Places x03_Slots0:Int) (x03_Needs0 x03_Needs1:ByteArray) , ev 12 0 [R.c (C.d (D.sl 5 4 [D.str x00_Code,D.int .i64 x00_Credits,D.int .i64 x00_Places,D.sl 1 2 [D.int .i64 x00_Slots0,D.int .i64 x00_Slots1],D.sl 1 0 [],D.str x01_Code,D.int .i64 x01_Credits,D.int .i64 x01_Places,D.sl 1 1 [D.int .i64 x01_Slots0],D.sl 1 1 [D.str x01_Needs0],D.str x02_Code,D.int .i64 x02_Credits,D.int .i64 x02_Places,D.sl 1 0 [],D.sl 1 1 [D.str x02_Needs0],D.str x03_Code,D.int .i64 x03_Credits,D.int .i64 x03_Places,D.sl 1 1 [D.int .i64 x03_Slots0],D.sl 1 2 [D.str x03_Needs0,D.str x03_Needs1]]))] []=(qG [(qa.mk x00_Code x00_Credits x00_Places [x00_Slots0,x00_Slots1] []),(qa.mk x01_Code x01_Credits x01_Places [x01_Slots0] [x01_Needs0]),(qa.mk x02_Code x02_Credits x02_Places [] [x02_Needs0]),(qa.mk x03_Code x03_Credits x03_Places [x03_Slots0] [x03_Needs0,x03_Needs1])]).bind (fun(e:Int)=>some (rI e,[])):=by
 intro x00_Code x00_Credits x00_Places x00_Slots0 x00_Slots1 x01_Code x01_Credits x01_Places x01_Slots0 x01_Needs0 x02_Code x02_Credits x02_Places x02_Needs0 x03_Code x03_Credits x03_Places x03_Slots0 x03_Needs0 x03_Needs1;have h:=QB [(qa.mk x00_Code x00_Credits x00_Places [x00_Slots0,x00_Slots1] []),(qa.mk x01_Code x01_Credits x01_Places [x01_Slots0] [x01_Needs0]),(qa.mk x02_Code x02_Credits x02_Places [] [x02_Needs0]),(qa.mk x03_Code x03_Credits x03_Places [x03_Slots0] [x03_Needs0,x03_Needs1])]
 first
  | exact h
  | (simp only[rL,dL,bR,bZ,Nat.reduceAdd] at h;exact h)
def Qe (fu:Nat) (x0:List qa):Option Int:=if 60<((x0.length:Nat):Int) then some 2 else Option.bind (itT (ZZ fu x0 x0 ((x0.length:Nat):Int)) fu 0) fun(a:Sum Int Unit)=>Sum.elim (fun(a2:Int)=>some a2) (fun(a3:Unit)=>Option.bind (J4 fu x0) fun(a4:List (Prod ByteArray (List ByteArray)))=>Option.bind (ZH fu a4) fun(a5:Bool)=>if a5=Bool.true then some 5 else Option.bind (ZI fu a4) fun(a6:Bool)=>if a6=Bool.true then some 14 else some 0) a
theorem q0c (fu:Nat) (x0:List qa):qk (Qe fu x0) (qG x0):=by
 unfold Qe qG
 repeat (first
  | with_reducible exact qk.refl _
  | with_reducible exact qk.none _
  | with_reducible apply q1u
  | with_reducible apply q0b
  | with_reducible apply q0X
  | with_reducible apply q13
  | with_reducible refine qk.bind ?_ (fun _=>?_)
  | with_reducible refine qk.ite ?_ ?_
  | with_reducible refine qk.sum (fun _=>?_) (fun _=>?_)
  | with_reducible refine qk.lim (fun _=>?_))
theorem qse:okL 23 qa6:=zl (qd qo0) (by kernel_rfl) (by kernel_rfl)
def qso:=JA_ @qa6.eq_1 (JA_ @Try.f23.eq_1 @qo0)
def qp (l:List qa) (code:ByteArray):Option (List ByteArray):=Option.bind (Qg l) fun(a:List (Prod ByteArray (List ByteArray)))=>Option.bind (qH code a) fun(a2:Prod (List ByteArray) (List (Prod ByteArray (List ByteArray))))=>some a2.1
theorem Ze:∀(l:List qa) (code:ByteArray),ev 23 0 [rL 5 qb l,rS code] []=(qp l code).bind (fun(e:List ByteArray)=>some (rL 1 eS e,[])):=
 fun l code=>by
  rw[z8 qo0 qrd.2.2.2 qse]
  have:=qso;have:=@q05;have:=@JL;have:=@qp.eq_1;exact gA
theorem q1z:∀(l0_Code:ByteArray) (l0_Credits l0_Places l0_Slots0 l0_Slots1:Int) (l1_Code:ByteArray) (l1_Credits l1_Places l1_Slots0:Int) (l1_Needs0 l2_Code:ByteArray) (l2_Credits l2_Places:Int) (l3_Code:ByteArray) (l3_Credits l3_Places l3_Slots0:Int) (l3_Needs0 l3_Needs1 code:ByteArray),ev 23 0 [R.c (C.d (D.sl 5 4 [D.str l0_Code,D.int .i64 l0_Credits,D.int .i64 l0_Places,D.sl 1 2 [D.int .i64 l0_Slots0,D.int .i64 l0_Slots1],D.sl 1 0 [],D.str l1_Code,D.int .i64 l1_Credits,D.int .i64 l1_Places,D.sl 1 1 [D.int .i64 l1_Slots0],D.sl 1 1 [D.str l1_Needs0],D.str l2_Code,D.int .i64 l2_Credits,D.int .i64 l2_Places,D.sl 1 0 [],D.sl 1 0 [],D.str l3_Code,D.int .i64 l3_Credits,D.int .i64 l3_Places,D.sl 1 1 [D.int .i64 l3_Slots0],D.sl 1 2 [D.str l3_Needs0,D.str l3_Needs1]])),rS code] []=(qp [(qa.mk l0_Code l0_Credits l0_Places [l0_Slots0,l0_Slots1] []),(qa.mk l1_Code l1_Credits l1_Places [l1_Slots0] [l1_Needs0]),(qa.mk l2_Code l2_Credits l2_Places [] []),(qa.mk l3_Code l3_Credits l3_Places [l3_Slots0] [l3_Needs0,l3_Needs1])] code).bind (fun(e:List ByteArray)=>some (rL 1 eS e,[])):=by
 intro l0_Code l0_Credits l0_Places l0_Slots0 l0_Slots1 l1_Code l1_Credits l1_Places l1_Slots0 l1_Needs0 l2_Code l2_Credits l2_Places l3_Code l3_Credits l3_Places l3_Slots0 l3_Needs0 l3_Needs1 code;have h:=Ze [(qa.mk l0_Code l0_Credits l0_Places [l0_Slots0,l0_Slots1] []),(qa.mk l1_Code l1_Credits l1_Places [l1_Slots0] [l1_Needs0]),(qa.mk l2_Code l2_Credits l2_Places [] []),(qa.mk l3_Code l3_Credits l3_Places [l3_Slots0] [l3_Needs0,l3_Needs1])] code
 first
  | exact h
  | (simp only[rL,dL,bR,bZ,Nat.reduceAdd] at h;exact h)
def qF (fu:Nat) (l:List qa) (code:ByteArray):Option (List ByteArray):=Option.bind (J4 fu l) fun(a:List (Prod ByteArray (List ByteArray)))=>Option.bind (ZL fu code a) fun(a2:Prod (List ByteArray) (List (Prod ByteArray (List ByteArray))))=>some a2.1
theorem q3h (fu:Nat) (l:List qa) (code:ByteArray):qk (qF fu l code) (qp l code):=by
 unfold qF qp
 repeat (first
  | with_reducible exact qk.refl _
  | with_reducible exact qk.none _
  | with_reducible apply q0b
  | with_reducible apply JG
  | with_reducible refine qk.bind ?_ (fun _=>?_)
  | with_reducible refine qk.ite ?_ ?_
  | with_reducible refine qk.sum (fun _=>?_) (fun _=>?_)
  | with_reducible refine qk.lim (fun _=>?_))
theorem qqD:okL 16 q8S:=zl (qd qnb) (by kernel_rfl) (by kernel_rfl)
def qqB:=JA_ @q8S.eq_1 (JA_ @Try.f16.eq_1 @qnb)
theorem ql3:lbO 16 4=qai:=QA (qd qnb) rfl
theorem qjy:okL 16 qai:=zY qqD (qt5 (i:=0) (by kernel_rfl))
def zd (a:List ByteArray) (b:List ByteArray):Int→Option (Int⊕(Unit⊕Unit))|k=>if k<((a.length:Nat):Int) then if 0≤k∧k<((a.length:Nat):Int) then Option.bind a[Int.toNat k]? fun(a2:ByteArray)=>if 0≤k∧k<((b.length:Nat):Int) then Option.bind b[Int.toNat k]? fun(a3:ByteArray)=>if(!(ByteArray.toList a2==ByteArray.toList a3))=Bool.true then some (Sum.inr (Sum.inl ())) else some (Sum.inl (w64 (k+1))) else none else none else some (Sum.inr (Sum.inr ()))
theorem q0z:∀(a b:List ByteArray) (k:Int),XL2 evo 16 0 4 ⟨[(0,rL 1 eS a),(1,rL 1 eS b),(5,rI k)],[],0,26⟩=(zE (zd a b) k).bind (Sum.elim (fun(e:Unit)=>some (Exit.ret,⟨[(4,rB Bool.false)],[],0,26⟩)) (fun(e:Unit)=>some (Exit.exit 0,⟨[(4,R.any)],[],0,26⟩))):=
 fun a b k=>by
  revert k;exact q5U ql3 qjy (fun e=>by rcases e with _|_<;>exact⟨_,rfl,fun h=>by cases h⟩) fun x=>by
   have:=qqB;have:=@qai.eq_1;have:=@zd.eq_1;exact gA
def qi (a:List ByteArray) (b:List ByteArray):Option Bool:=if(((a.length:Nat):Int) != ((b.length:Nat):Int))=Bool.true then some Bool.false else Option.bind (zE (zd a b) 0) fun(a2:Sum Unit Unit)=>Sum.elim (fun(a3:Unit)=>some Bool.false) (fun(a4:Unit)=>some Bool.true) a2
theorem Qw:∀(a b:List ByteArray),ev 16 0 [rL 1 eS a,rL 1 eS b] []=(qi a b).bind (fun(e:Bool)=>some (rB e,[])):=
 fun a b=>by
  rw[z8 qnb qqX.2.2.2 qqD]
  have:=qqB;have:=@q0z;have:=@qi.eq_1;exact gA
theorem q0p:∀(b0 b1 b2:ByteArray) (a:List ByteArray),ev 16 0 [rL 1 eS a,R.c (C.d (D.sl 1 3 [D.str b0,D.str b1,D.str b2]))] []=(qi a [b0,b1,b2]).bind (fun(e:Bool)=>some (rB e,[])):=by
 intro b0 b1 b2 a;have h:=Qw a [b0,b1,b2]
 first
  | exact h
  | (simp only[rL,dL,bR,bZ,Nat.reduceAdd] at h;exact h)
theorem q0n:∀(b0 b1 b2 b3:ByteArray) (a:List ByteArray),ev 16 0 [rL 1 eS a,R.c (C.d (D.sl 1 4 [D.str b0,D.str b1,D.str b2,D.str b3]))] []=(qi a [b0,b1,b2,b3]).bind (fun(e:Bool)=>some (rB e,[])):=by
 intro b0 b1 b2 b3 a;have h:=Qw a [b0,b1,b2,b3]
 first
  | exact h
  | (simp only[rL,dL,bR,bZ,Nat.reduceAdd] at h;exact h)
theorem q0r:∀  (a:List ByteArray),ev 16 0 [rL 1 eS a,R.c (C.d (D.sl 1 0 []))] []=(qi a []).bind (fun(e:Bool)=>some (rB e,[])):=by
 intro a;have h:=Qw a []
 first
  | exact h
  | (simp only[rL,dL,bR,bZ,Nat.reduceAdd] at h;exact h)
def qN (fu:Nat) (a:List ByteArray) (b:List ByteArray):Option Bool:=if(((a.length:Nat):Int) != ((b.length:Nat):Int))=Bool.true then some Bool.false else Option.bind (itT (zd a b) fu 0) fun(a2:Sum Unit Unit)=>Sum.elim (fun(a3:Unit)=>some Bool.false) (fun(a4:Unit)=>some Bool.true) a2
theorem q1x (fu:Nat) (a b:List ByteArray):qk (qN fu a b) (qi a b):=by
 unfold qN qi
 repeat (first
  | with_reducible exact qk.refl _
  | with_reducible exact qk.none _
  | with_reducible refine qk.bind ?_ (fun _=>?_)
  | with_reducible refine qk.ite ?_ ?_
  | with_reducible refine qk.sum (fun _=>?_) (fun _=>?_)
  | with_reducible refine qk.lim (fun _=>?_))
theorem qqz:okL 17 q80:=zl (qd qmX) (by kernel_rfl) (by kernel_rfl)
def qpU:=JA_ @q80.eq_1 (JA_ @Try.f17.eq_1 @qmX)
theorem qkl:lbO 17 5=qc0:=QA (qd qmX) rfl
theorem qkj:okL 17 qc0:=zY qqz (qt5 (i:=0) (by kernel_rfl))
def za (s:List qa):Option Unit:=if s.length≤maxLen∧s.length*80≤140737488355328 then some () else none
theorem Zi:∀(s:List qa),ev 47 0 [rL 5 qb s] []=(za s).bind (fun(e:Unit)=>some (rO 0 5 s.length,[(0,bR 35 5 qb s)])):=
 fun s=>by
  rw[q9A,qqI.2.2.2]
  have:=@za.eq_1;exact gA
theorem qnD:okL 48 q8C:=zl (qd qkK) (by kernel_rfl) (by kernel_rfl)
def qmP:=JA_ @q8C.eq_1 (JA_ @Try.f48.eq_1 @qkK)
theorem qfz:lbO 48 2=q7U:=QA (qd qkK) rfl
theorem qfG:okL 48 q7U:=zY qnD (qt5 (i:=0) (by kernel_rfl))
theorem qs1:okL 49 qda:=zl (qd qoE) (by kernel_rfl) (by kernel_rfl)
def qsw:=JA_ @qda.eq_1 (JA_ @Try.f49.eq_1 @qoE)
theorem qsy:okL 50 qaR:=zl (qd qnQ) (by kernel_rfl) (by kernel_rfl)
def qsq:=JA_ @qaR.eq_1 (JA_ @Try.f50.eq_1 @qnQ)
theorem qsQ:okL 67 qcz:=zl (qd qpi) (by kernel_rfl) (by kernel_rfl)
def qsX:=JA_ @qcz.eq_1 (JA_ @Try.f67.eq_1 @qpi)
def Zm (c:ByteArray) (v:List ByteArray):Option Bool:=Option.bind (qm v c) fun(a:Bool)=>some (!a)
theorem q3c:∀(c:ByteArray) (v:List ByteArray),ev 67 1 [rS c,rP 0] [(0,B.blk 33 [dL 1 eS v])]=(Zm c v).bind (fun(e:Bool)=>some (rB e,[(0,B.blk 33 [dL 1 eS v])])):=
 fun c v=>by
  rw[z8 qpi qr4.2.2.2 qsQ]
  have:=qsX;have:=@Qk;have:=@Zm.eq_1;exact gA
def JT (fu:Nat) (c:ByteArray) (v:List ByteArray):Option Bool:=Option.bind (zr fu v c) fun(a:Bool)=>some (!a)
theorem q3e (fu:Nat) (c:ByteArray) (v:List ByteArray):qk (JT fu c v) (Zm c v):=by
 unfold JT Zm
 repeat (first
  | with_reducible exact qk.refl _
  | with_reducible exact qk.none _
  | with_reducible apply Ql
  | with_reducible refine qk.bind ?_ (fun _=>?_)
  | with_reducible refine qk.ite ?_ ?_
  | with_reducible refine qk.sum (fun _=>?_) (fun _=>?_)
  | with_reducible refine qk.lim (fun _=>?_))
def qC (b0:List ByteArray) (s:List ByteArray) (t7:Int):Int→Option (Int⊕(Int⊕Unit))|t8=>if t8<t7 then if 0≤t8∧t8<((s.length:Nat):Int) then Option.bind s[Int.toNat t8]? fun(a:ByteArray)=>Option.bind (Zm a b0) fun(a2:Bool)=>if a2=Bool.true then some (Sum.inr (Sum.inl t8)) else some (Sum.inl (w64 (t8+1))) else none else some (Sum.inr (Sum.inr ()))
theorem Z0:∀(b0 s:List ByteArray) (t7 t8:Int),XL2 evo 61 1 2 ⟨[(0,rL 1 eS s),(1,R.c (C.fn 67 [] [dP 0])),(7,rI t7),(8,rI t8)],[(0,B.blk 33 [dL 1 eS b0])],1,19⟩=(zE (qC b0 s t7) t8).bind (Sum.elim (fun(e:Int)=>some (Exit.ret,⟨[(4,rI e)],[(0,B.blk 33 [dL 1 eS b0])],1,19⟩)) (fun(e:Unit)=>some (Exit.exit 0,⟨[(4,R.any)],[(0,B.blk 33 [dL 1 eS b0])],1,19⟩))):=
 fun b0 s t7 t8=>by
  revert t8;exact q5U qg0 qfW (fun e=>by rcases e with _|_<;>exact⟨_,rfl,fun h=>by cases h⟩) fun x=>by
   have:=qmx;have:=@q8s.eq_1;have:=@q3c;have:=@qC.eq_1;exact gA
def zw (fu:Nat) (b0:List ByteArray) (s:List ByteArray) (t7:Int):Int→Option (Int⊕(Int⊕Unit))|t8=>if t8<t7 then if 0≤t8∧t8<((s.length:Nat):Int) then Option.bind s[Int.toNat t8]? fun(a:ByteArray)=>Option.bind (JT fu a b0) fun(a2:Bool)=>if a2=Bool.true then some (Sum.inr (Sum.inl t8)) else some (Sum.inl (w64 (t8+1))) else none else some (Sum.inr (Sum.inr ()))
theorem QY (fu:Nat) (b0 s:List ByteArray) (t7:Int):∀x,qk (zw fu b0 s t7 x) (qC b0 s t7 x):=by
 rintro t8
 unfold zw qC
 try dsimp only
 repeat (first
  | with_reducible exact qk.refl _
  | with_reducible exact qk.none _
  | with_reducible apply q3e
  | with_reducible refine qk.bind ?_ (fun _=>?_)
  | with_reducible refine qk.ite ?_ ?_
  | with_reducible refine qk.sum (fun _=>?_) (fun _=>?_)
  | with_reducible refine qk.lim (fun _=>?_))
def qJ (s:List ByteArray) (b0:List ByteArray):Option Int:=Option.bind (zE (qC b0 s ((s.length:Nat):Int)) 0) fun(a:Sum Int Unit)=>Sum.elim (fun(a2:Int)=>some a2) (fun(a3:Unit)=>some (-1)) a
theorem Zf:∀(s b0:List ByteArray),ev 61 1 [rL 1 eS s,R.c (C.fn 67 [] [dP 0])] [(0,B.blk 33 [dL 1 eS b0])]=(qJ s b0).bind (fun(e:Int)=>some (rI e,[(0,B.blk 33 [dL 1 eS b0])])):=
 fun s b0=>by
  rw[z8 qjT qod.2.2.2 qor]
  have:=qmx;have:=@Z0;have:=@qJ.eq_1;exact gA
def zK (fu:Nat) (s:List ByteArray) (b0:List ByteArray):Option Int:=Option.bind (itT (zw fu b0 s ((s.length:Nat):Int)) fu 0) fun(a:Sum Int Unit)=>Sum.elim (fun(a2:Int)=>some a2) (fun(a3:Unit)=>some (-1)) a
theorem Zg (fu:Nat) (s b0:List ByteArray):qk (zK fu s b0) (qJ s b0):=by
 unfold zK qJ
 repeat (first
  | with_reducible exact qk.refl _
  | with_reducible exact qk.none _
  | with_reducible apply QY
  | with_reducible refine qk.bind ?_ (fun _=>?_)
  | with_reducible refine qk.ite ?_ ?_
  | with_reducible refine qk.sum (fun _=>?_) (fun _=>?_)
  | with_reducible refine qk.lim (fun _=>?_))
def qD (s:List ByteArray) (b0:List ByteArray):Option Bool:=Option.bind (qJ s b0) fun(a:Int)=>some (decide (0≤a))
theorem QZ:∀(s b0:List ByteArray),ev 40 1 [rL 1 eS s,R.c (C.fn 67 [] [dP 0])] [(0,B.blk 33 [dL 1 eS b0])]=(qD s b0).bind (fun(e:Bool)=>some (rB e,[(0,B.blk 33 [dL 1 eS b0])])):=
 fun s b0=>by
  rw[z8 qn1 qoa.2.2.2 qpV]
  have:=qqk;have:=@Zf;have:=@qD.eq_1;exact gA
def zy (fu:Nat) (s:List ByteArray) (b0:List ByteArray):Option Bool:=Option.bind (zK fu s b0) fun(a:Int)=>some (decide (0≤a))
theorem QX (fu:Nat) (s b0:List ByteArray):qk (zy fu s b0) (qD s b0):=by
 unfold zy qD
 repeat (first
  | with_reducible exact qk.refl _
  | with_reducible exact qk.none _
  | with_reducible apply Zg
  | with_reducible refine qk.bind ?_ (fun _=>?_)
  | with_reducible refine qk.ite ?_ ?_
  | with_reducible refine qk.sum (fun _=>?_) (fun _=>?_)
  | with_reducible refine qk.lim (fun _=>?_))
def Zw (l:List ByteArray) (in0:List ByteArray):Option Bool:=Option.bind (qD l in0) fun(a:Bool)=>some (!a)
theorem q14:∀(l in0:List ByteArray),ev 50 0 [rL 1 eS l,rL 1 eS in0] []=(Zw l in0).bind (fun(e:Bool)=>some (rB e,[])):=
 fun l in0=>by
  rw[z8 qnQ qqC.2.2.2 qsy]
  have:=qsq;have:=@QZ;have:=@Zw.eq_1;exact gA
def JJ (fu:Nat) (l:List ByteArray) (in0:List ByteArray):Option Bool:=Option.bind (zy fu l in0) fun(a:Bool)=>some (!a)
theorem q1h (fu:Nat) (l in0:List ByteArray):qk (JJ fu l in0) (Zw l in0):=by
 unfold JJ Zw
 repeat (first
  | with_reducible exact qk.refl _
  | with_reducible exact qk.none _
  | with_reducible apply QX
  | with_reducible refine qk.bind ?_ (fun _=>?_)
  | with_reducible refine qk.ite ?_ ?_
  | with_reducible refine qk.sum (fun _=>?_) (fun _=>?_)
  | with_reducible refine qk.lim (fun _=>?_))
def QM (o:qa) (w1:List ByteArray):Option Bool:=Option.bind (Zw o.Needs w1) fun(a:Bool)=>some a
theorem q2b:∀(o_Code:ByteArray) (o_Credits o_Places:Int) (o_Slots:List Int) (o_Needs w1:List ByteArray) (w1_len:Nat),w1_len=w1.length→ev 49 1 [R.agg [dS o_Code,dI o_Credits,dI o_Places,dL 1 eI o_Slots,dL 1 eS o_Needs],rP 0] [(0,B.blk 33 [dO 1 1 w1_len]),(1,bR 9 1 eS w1)]=(QM (qa.mk o_Code o_Credits o_Places o_Slots o_Needs) w1).bind (fun(e:Bool)=>some (rB e,[(0,B.blk 33 [dO 1 1 w1.length]),(1,bR 9 1 eS w1)])):=
 by
 intro o_Code o_Credits o_Places o_Slots o_Needs w1 w1_len h0
 subst h0
 rw[z8 qoE qqQ.2.2.2 qs1]
 have:=qsw;have:=@q14;have:=@QM.eq_1;exact gA
def Jl (fu:Nat) (o:qa) (w1:List ByteArray):Option Bool:=Option.bind (JJ fu o.Needs w1) fun(a:Bool)=>some a
theorem q28 (fu:Nat) (o:qa) (w1:List ByteArray):qk (Jl fu o w1) (QM o w1):=by
 unfold Jl QM
 repeat (first
  | with_reducible exact qk.refl _
  | with_reducible exact qk.none _
  | with_reducible apply q1h
  | with_reducible refine qk.bind ?_ (fun _=>?_)
  | with_reducible refine qk.ite ?_ ?_
  | with_reducible refine qk.sum (fun _=>?_) (fun _=>?_)
  | with_reducible refine qk.lim (fun _=>?_))
def qv (w1:List ByteArray) (s:List qa) (t7:Int):Int→Option (Int⊕(Int⊕Unit))|t8=>if t8<t7 then if 0≤t8∧t8<((s.length:Nat):Int) then Option.bind s[Int.toNat t8]? fun(a:qa)=>Option.bind (QM a w1) fun(a2:Bool)=>if a2=Bool.true then some (Sum.inr (Sum.inl t8)) else some (Sum.inl (w64 (t8+1))) else none else some (Sum.inr (Sum.inr ()))
theorem QD:∀(w1:List ByteArray) (s:List qa) (t7 t8:Int) (w1_len:Nat),w1_len=w1.length→XL2 evo 48 1 2 ⟨[(0,rL 5 qb s),(1,R.c (C.fn 49 [] [dP 0])),(7,rI t7),(8,rI t8)],[(0,B.blk 33 [dO 1 1 w1_len]),(1,bR 9 1 eS w1)],2,19⟩=(zE (qv w1 s t7) t8).bind (Sum.elim (fun(e:Int)=>some (Exit.ret,⟨[(4,rI e)],[(0,B.blk 33 [dO 1 1 w1.length]),(1,bR 9 1 eS w1)],2,19⟩)) (fun(e:Unit)=>some (Exit.exit 0,⟨[(4,R.any)],[(0,B.blk 33 [dO 1 1 w1.length]),(1,bR 9 1 eS w1)],2,19⟩))):=
 by
 intro w1 s t7 t8 w1_len h0
 subst h0
 revert t8;exact q5U qfz qfG (fun e=>by rcases e with _|_<;>exact⟨_,rfl,fun h=>by cases h⟩) fun x=>by
  have:=qmP;have:=@q7U.eq_1;have:=@q2b;have:=@qv.eq_1;exact gA
def zf (fu:Nat) (w1:List ByteArray) (s:List qa) (t7:Int):Int→Option (Int⊕(Int⊕Unit))|t8=>if t8<t7 then if 0≤t8∧t8<((s.length:Nat):Int) then Option.bind s[Int.toNat t8]? fun(a:qa)=>Option.bind (Jl fu a w1) fun(a2:Bool)=>if a2=Bool.true then some (Sum.inr (Sum.inl t8)) else some (Sum.inl (w64 (t8+1))) else none else some (Sum.inr (Sum.inr ()))
theorem QC (fu:Nat) (w1:List ByteArray) (s:List qa) (t7:Int):∀x,qk (zf fu w1 s t7 x) (qv w1 s t7 x):=by
 rintro t8
 unfold zf qv
 try dsimp only
 repeat (first
  | with_reducible exact qk.refl _
  | with_reducible exact qk.none _
  | with_reducible apply q28
  | with_reducible refine qk.bind ?_ (fun _=>?_)
  | with_reducible refine qk.ite ?_ ?_
  | with_reducible refine qk.sum (fun _=>?_) (fun _=>?_)
  | with_reducible refine qk.lim (fun _=>?_))
def qx (s:List qa) (w1:List ByteArray):Option Int:=Option.bind (zE (qv w1 s ((s.length:Nat):Int)) 0) fun(a:Sum Int Unit)=>Sum.elim (fun(a2:Int)=>some a2) (fun(a3:Unit)=>some (-1)) a
theorem QS:∀(s:List qa) (w1:List ByteArray) (w1_len:Nat),w1_len=w1.length→ev 48 1 [rL 5 qb s,R.c (C.fn 49 [] [dP 0])] [(0,B.blk 33 [dO 1 1 w1_len]),(1,bR 9 1 eS w1)]=(qx s w1).bind (fun(e:Int)=>some (rI e,[(0,B.blk 33 [dO 1 1 w1.length]),(1,bR 9 1 eS w1)])):=
 by
 intro s w1 w1_len h0
 subst h0
 rw[z8 qkK qoc.2.2.2 qnD]
 have:=qmP;have:=@QD;have:=@qx.eq_1;exact gA
def zu (fu:Nat) (s:List qa) (w1:List ByteArray):Option Int:=Option.bind (itT (zf fu w1 s ((s.length:Nat):Int)) fu 0) fun(a:Sum Int Unit)=>Sum.elim (fun(a2:Int)=>some a2) (fun(a3:Unit)=>some (-1)) a
theorem QV (fu:Nat) (s:List qa) (w1:List ByteArray):qk (zu fu s w1) (qx s w1):=by
 unfold zu qx
 repeat (first
  | with_reducible exact qk.refl _
  | with_reducible exact qk.none _
  | with_reducible apply QC
  | with_reducible refine qk.bind ?_ (fun _=>?_)
  | with_reducible refine qk.ite ?_ ?_
  | with_reducible refine qk.sum (fun _=>?_) (fun _=>?_)
  | with_reducible refine qk.lim (fun _=>?_))
def z6 (i:Int) (j:Int) (s:List qa):Option (List qa):=if 0≤i∧j=i+1∧i<((s.length:Nat):Int) then some (@List.eraseIdx qa s (Int.toNat i)) else none
theorem Za:∀(i j:Int) (s:List qa) (s_len:Nat),s_len=s.length→ev 51 0 [rO 0 5 s_len,rI i,rI j] [(0,bR 35 5 qb s)]=(z6 i j s).bind (fun(e:List qa)=>some (rO 0 5 e.length,[(0,bR 35 5 qb e)])):=
 by
 intro i j s s_len h0
 subst h0
 rw[q9A,qq4.2.2.2]
 have:=@z6.eq_1;exact gA
def Qh:(List ByteArray×List qa)→Option ((List ByteArray×List qa)⊕(List ByteArray))|(w1,left)=>if 0<((left.length:Nat):Int) then Option.bind (qx left w1) fun(a:Int)=>if List.all (List.map C.d (List.flatMap eS w1)) C.scl=Bool.true then if 0≤a∧a<((left.length:Nat):Int) then Option.bind left[Int.toNat a]? fun(a2:qa)=>if w1.length+1≤maxLen∧(w1.length+1)*16≤140737488355328 then Option.bind (z6 a (w64 (a+1)) left) fun(a3:List qa)=>some (Sum.inl (w1++[a2.Code],a3)) else none else none else none else some (Sum.inr w1)
theorem q1A:∀(w1:List ByteArray) (left:List qa) (left_len w1_len:Nat),left_len=left.length→w1_len=w1.length→XL2 evo 17 0 5 ⟨[(3,rP 0),(4,rO 2 5 left_len)],[(0,B.blk 33 [dO 1 1 w1_len]),(1,bR 9 1 eS w1),(2,bR 35 5 qb left)],3,31⟩=(zE Qh (w1,left)).bind (fun(e:List ByteArray)=>some (Exit.exit 0,⟨[(3,rP 0)],[(0,B.blk 33 [dO 1 1 e.length]),(1,bR 9 1 eS e)],2,31⟩)):=
 by
 intro w1 left left_len w1_len h0 h1
 subst h0 h1
 revert left;revert w1;exact qjx qkl qkj (fun e=>by exact⟨_,rfl,fun h=>by cases h⟩) fun w1 left=>by
  have:=qpU;have:=@qc0.eq_1;have:=@QS;have:=@Za;have:=@Qh.eq_1;exact gA
theorem q0w:∀  (left:List qa) (left_len:Nat),left_len=left.length→XL2 evo 17 0 5 ⟨[(3,rP 0),(4,rO 2 5 left_len)],[(0,B.blk 33 [dO 1 1 0]),(1,B.row 9 1 []),(2,bR 35 5 qb left)],3,31⟩=(zE Qh ([],left)).bind (fun(e:List ByteArray)=>some (Exit.exit 0,⟨[(3,rP 0)],[(0,B.blk 33 [dO 1 1 e.length]),(1,bR 9 1 eS e)],2,31⟩)):=by
 intro left left_len h0;subst h0;have h:=q1A [] left _ _ rfl rfl
 first
  | exact h
  | (simp only[rL,dL,bR,bZ,Nat.reduceAdd] at h;exact h)
def ZY (fu:Nat):(List ByteArray×List qa)→Option ((List ByteArray×List qa)⊕(List ByteArray))|(w1,left)=>if 0<((left.length:Nat):Int) then Option.bind (zu fu left w1) fun(a:Int)=>if List.all (List.map C.d (List.flatMap eS w1)) C.scl=Bool.true then if 0≤a∧a<((left.length:Nat):Int) then Option.bind left[Int.toNat a]? fun(a2:qa)=>if w1.length+1≤maxLen∧(w1.length+1)*16≤140737488355328 then Option.bind (z6 a (w64 (a+1)) left) fun(a3:List qa)=>some (Sum.inl (w1++[a2.Code],a3)) else none else none else none else some (Sum.inr w1)
theorem q1w (fu:Nat):∀x,qk (ZY fu  x) (Qh  x):=by
 rintro⟨w1,left⟩
 unfold ZY Qh
 try dsimp only
 repeat (first
  | with_reducible exact qk.refl _
  | with_reducible exact qk.none _
  | with_reducible apply QV
  | with_reducible refine qk.bind ?_ (fun _=>?_)
  | with_reducible refine qk.ite ?_ ?_
  | with_reducible refine qk.sum (fun _=>?_) (fun _=>?_)
  | with_reducible refine qk.lim (fun _=>?_))
def zL (l:List qa):Option (List ByteArray):=Option.bind (qG l) fun(a:Int)=>if(a != 0)=Bool.true then some [] else Option.bind (za l) fun(a2:Unit)=>Option.bind (zE Qh ([],l)) fun(a3:List ByteArray)=>some a3
theorem q3k:∀(l:List qa),ev 17 0 [rL 5 qb l] []=(zL l).bind (fun(e:List ByteArray)=>some (rL 1 eS e,[])):=
 fun l=>by
  rw[z8 qmX qqh.2.2.2 qqz]
  have:=qpU;have:=@QB;have:=@Zi;have:=@q0w;have:=@zL.eq_1;exact gA
theorem q1v:∀(l0_Code:ByteArray) (l0_Credits l0_Places l0_Slots0 l0_Slots1:Int) (l1_Code:ByteArray) (l1_Credits l1_Places l1_Slots0:Int) (l1_Needs0 l2_Code:ByteArray) (l2_Credits l2_Places:Int) (l3_Code:ByteArray) (l3_Credits l3_Places l3_Slots0:Int) (l3_Needs0 l3_Needs1:ByteArray) , ev 17 0 [R.c (C.d (D.sl 5 4 [D.str l0_Code,D.int .i64 l0_Credits,D.int .i64 l0_Places,D.sl 1 2 [D.int .i64 l0_Slots0,D.int .i64 l0_Slots1],D.sl 1 0 [],D.str l1_Code,D.int .i64 l1_Credits,D.int .i64 l1_Places,D.sl 1 1 [D.int .i64 l1_Slots0],D.sl 1 1 [D.str l1_Needs0],D.str l2_Code,D.int .i64 l2_Credits,D.int .i64 l2_Places,D.sl 1 0 [],D.sl 1 0 [],D.str l3_Code,D.int .i64 l3_Credits,D.int .i64 l3_Places,D.sl 1 1 [D.int .i64 l3_Slots0],D.sl 1 2 [D.str l3_Needs0,D.str l3_Needs1]]))] []=(zL [(qa.mk l0_Code l0_Credits l0_Places [l0_Slots0,l0_Slots1] []),(qa.mk l1_Code l1_Credits l1_Places [l1_Slots0] [l1_Needs0]),(qa.mk l2_Code l2_Credits l2_Places [] []),(qa.mk l3_Code l3_Credits l3_Places [l3_Slots0] [l3_Needs0,l3_Needs1])]).bind (fun(e:List ByteArray)=>some (rL 1 eS e,[])):=by
 intro l0_Code l0_Credits l0_Places l0_Slots0 l0_Slots1 l1_Code l1_Credits l1_Places l1_Slots0 l1_Needs0 l2_Code l2_Credits l2_Places l3_Code l3_Credits l3_Places l3_Slots0 l3_Needs0 l3_Needs1;have h:=q3k [(qa.mk l0_Code l0_Credits l0_Places [l0_Slots0,l0_Slots1] []),(qa.mk l1_Code l1_Credits l1_Places [l1_Slots0] [l1_Needs0]),(qa.mk l2_Code l2_Credits l2_Places [] []),(qa.mk l3_Code l3_Credits l3_Places [l3_Slots0] [l3_Needs0,l3_Needs1])]
 first
  | exact h
  | (simp only[rL,dL,bR,bZ,Nat.reduceAdd] at h;exact h)
def Qs (fu:Nat) (l:List qa):Option (List ByteArray):=Option.bind (Qe fu l) fun(a:Int)=>if(a != 0)=Bool.true then some [] else Option.bind (za l) fun(a2:Unit)=>Option.bind (itT (ZY fu) fu ([],l)) fun(a3:List ByteArray)=>some a3
theorem q39 (fu:Nat) (l:List qa):qk (Qs fu l) (zL l):=by
 unfold Qs zL
 repeat (first
  | with_reducible exact qk.refl _
  | with_reducible exact qk.none _
  | with_reducible apply q0c
  | with_reducible apply q1w
  | with_reducible refine qk.bind ?_ (fun _=>?_)
  | with_reducible refine qk.ite ?_ ?_
  | with_reducible refine qk.sum (fun _=>?_) (fun _=>?_)
  | with_reducible refine qk.lim (fun _=>?_))
theorem qrw:okL 25 qd7:=zl (qd qnN) (by kernel_rfl) (by kernel_rfl)
def qsV:=JA_ @qd7.eq_1 (JA_ @Try.f25.eq_1 @qnN)
theorem qsD:okL 20 qbx:=zl (qd qp8) (by kernel_rfl) (by kernel_rfl)
def qsE:=JA_ @qbx.eq_1 (JA_ @Try.f20.eq_1 @qp8)
theorem qsR:okL 52 qb2:=zl (qd qoO) (by kernel_rfl) (by kernel_rfl)
def qsG:=JA_ @qb2.eq_1 (JA_ @Try.f52.eq_1 @qoO)
def ZM (o:qa) (v:ByteArray):Option Bool:=
 some (ByteArray.toList o.Code==ByteArray.toList v)
def Qx (o:qa) (v:ByteArray):Bool:=
 ByteArray.toList o.Code==ByteArray.toList v
theorem q1X (o:qa) (v:ByteArray):ZM o v=some (Qx o v):=by
 unfold ZM Qx
 simp only[q1r]
theorem q2s:∀(o_Code:ByteArray) (o_Credits o_Places:Int) (o_Slots:List Int) (o_Needs:List ByteArray) (v:ByteArray),ev 52 1 [R.agg [dS o_Code,dI o_Credits,dI o_Places,dL 1 eI o_Slots,dL 1 eS o_Needs],rP 0] [(0,B.blk 9 [dS v])]=some (rB (Qx (qa.mk o_Code o_Credits o_Places o_Slots o_Needs) v),[(0,B.blk 9 [dS v])]):=
 fun o_Code o_Credits o_Places o_Slots o_Needs v=>by
  have h:ev 52 1 [R.agg [dS o_Code,dI o_Credits,dI o_Places,dL 1 eI o_Slots,dL 1 eS o_Needs],rP 0] [(0,B.blk 9 [dS v])]=(ZM (qa.mk o_Code o_Credits o_Places o_Slots o_Needs) v).bind (fun(e:Bool)=>some (rB e,[(0,B.blk 9 [dS v])])):=by
   rw[z8 qoO qqW.2.2.2 qsR]
   have:=qsG;have:=@ZM.eq_1;exact gA
  rw[q1X] at h
  exact h
def qn (b0:ByteArray) (s:List qa) (t7:Int):Int→Option (Int⊕(Int⊕Unit))|t8=>if t8<t7 then if 0≤t8∧t8<((s.length:Nat):Int) then Option.bind s[Int.toNat t8]? fun(a:qa)=>if Qx a b0=Bool.true then some (Sum.inr (Sum.inl t8)) else some (Sum.inl (w64 (t8+1))) else none else some (Sum.inr (Sum.inr ()))
theorem Qu:∀(b0:ByteArray) (s:List qa) (t7 t8:Int),XL2 evo 48 1 2 ⟨[(0,rL 5 qb s),(1,R.c (C.fn 52 [] [dP 0])),(7,rI t7),(8,rI t8)],[(0,B.blk 9 [dS b0])],1,19⟩=(zE (qn b0 s t7) t8).bind (Sum.elim (fun(e:Int)=>some (Exit.ret,⟨[(4,rI e)],[(0,B.blk 9 [dS b0])],1,19⟩)) (fun(e:Unit)=>some (Exit.exit 0,⟨[(4,R.any)],[(0,B.blk 9 [dS b0])],1,19⟩))):=
 fun b0 s t7 t8=>by
  revert t8;exact q5U qfz qfG (fun e=>by rcases e with _|_<;>exact⟨_,rfl,fun h=>by cases h⟩) fun x=>by
   have:=qmP;have:=@q7U.eq_1;have:=@q2s;have:=@qn.eq_1;exact gA
def qs (s:List qa) (b0:ByteArray):Option Int:=Option.bind (zE (qn b0 s ((s.length:Nat):Int)) 0) fun(a:Sum Int Unit)=>Sum.elim (fun(a2:Int)=>some a2) (fun(a3:Unit)=>some (-1)) a
theorem QG:∀(s:List qa) (b0:ByteArray),ev 48 1 [rL 5 qb s,R.c (C.fn 52 [] [dP 0])] [(0,B.blk 9 [dS b0])]=(qs s b0).bind (fun(e:Int)=>some (rI e,[(0,B.blk 9 [dS b0])])):=
 fun s b0=>by
  rw[z8 qkK qoc.2.2.2 qnD]
  have:=qmP;have:=@Qu;have:=@qs.eq_1;exact gA
def zi (fu:Nat) (s:List qa) (b0:ByteArray):Option Int:=Option.bind (itT (qn b0 s ((s.length:Nat):Int)) fu 0) fun(a:Sum Int Unit)=>Sum.elim (fun(a2:Int)=>some a2) (fun(a3:Unit)=>some (-1)) a
theorem QH (fu:Nat) (s:List qa) (b0:ByteArray):qk (zi fu s b0) (qs s b0):=by
 unfold zi qs
 repeat (first
  | with_reducible exact qk.refl _
  | with_reducible exact qk.none _
  | with_reducible refine qk.bind ?_ (fun _=>?_)
  | with_reducible refine qk.ite ?_ ?_
  | with_reducible refine qk.sum (fun _=>?_) (fun _=>?_)
  | with_reducible refine qk.lim (fun _=>?_))
theorem qsu:okL 53 qak:=zl (qd qpr) (by kernel_rfl) (by kernel_rfl)
def qsr:=JA_ @qak.eq_1 (JA_ @Try.f53.eq_1 @qpr)
def Qj (s:List Int):Option Unit:=if s.length≤maxLen∧s.length*8≤140737488355328 then some () else none
theorem JM:∀(s:List Int),ev 68 0 [rL 1 eI s] []=(Qj s).bind (fun(e:Unit)=>some (rL 1 eI s,[])):=
 fun s=>by
  rw[q9A,qqT.2.2.2]
  have:=@Qj.eq_1;exact gA
def zJ (s:List ByteArray):Option Unit:=if s.length≤maxLen∧s.length*16≤140737488355328 then some () else none
theorem J2:∀(s:List ByteArray),ev 69 0 [rL 1 eS s] []=(zJ s).bind (fun(e:Unit)=>some (rL 1 eS s,[])):=
 fun s=>by
  rw[q9A,qqb.2.2.2]
  have:=@zJ.eq_1;exact gA
def QR (o:qa):Option Unit:=Option.bind (Qj o.Slots) fun(a:Unit)=>Option.bind (zJ o.Needs) fun(a2:Unit)=>some ()
theorem q32:∀(o_Code:ByteArray) (o_Credits o_Places:Int) (o_Slots:List Int) (o_Needs:List ByteArray),ev 53 0 [R.agg [dS o_Code,dI o_Credits,dI o_Places,dL 1 eI o_Slots,dL 1 eS o_Needs]] []=(QR (qa.mk o_Code o_Credits o_Places o_Slots o_Needs)).bind (fun(e:Unit)=>some (R.agg [dS o_Code,dI o_Credits,dI o_Places,dL 1 eI o_Slots,dL 1 eS o_Needs],[])):=
 fun o_Code o_Credits o_Places o_Slots o_Needs=>by
  rw[z8 qpr qq3.2.2.2 qsu]
  have:=qsr;have:=@JM;have:=@J2;have:=@QR.eq_1;exact gA
def Qd (l:List qa) (code:ByteArray):Option (qa×Bool):=Option.bind (qs l code) fun(a:Int)=>if a<0 then some (qa.mk (ByteArray.mk (List.toArray [])) 0 0 [] [],Bool.false) else if 0≤a∧a<((l.length:Nat):Int) then Option.bind l[Int.toNat a]? fun(a2:qa)=>Option.bind (QR a2) fun(a3:Unit)=>some (a2,Bool.true) else none
theorem q0D:∀(l:List qa) (code:ByteArray),ev 20 0 [rL 5 qb l,rS code] []=(Qd l code).bind (fun(e:qa×Bool)=>some (R.tup [R.agg [dS e.1.Code,dI e.1.Credits,dI e.1.Places,dL 1 eI e.1.Slots,dL 1 eS e.1.Needs],rB e.2],[])):=
 fun l code=>by
  rw[z8 qp8 qqx.2.2.2 qsD]
  have:=qsE;have:=@QG;have:=@q32;have:=@Qd.eq_1;exact gA
def q0v (fu:Nat) (l:List qa) (code:ByteArray):Option (qa×Bool):=Option.bind (zi fu l code) fun(a:Int)=>if a<0 then some (qa.mk (ByteArray.mk (List.toArray [])) 0 0 [] [],Bool.false) else if 0≤a∧a<((l.length:Nat):Int) then Option.bind l[Int.toNat a]? fun(a2:qa)=>Option.bind (QR a2) fun(a3:Unit)=>some (a2,Bool.true) else none
theorem q3v (fu:Nat) (l:List qa) (code:ByteArray):qk (q0v fu l code) (Qd l code):=by
 unfold q0v Qd
 repeat (first
  | with_reducible exact qk.refl _
  | with_reducible exact qk.none _
  | with_reducible apply QH
  | with_reducible refine qk.bind ?_ (fun _=>?_)
  | with_reducible refine qk.ite ?_ ?_
  | with_reducible refine qk.sum (fun _=>?_) (fun _=>?_)
  | with_reducible refine qk.lim (fun _=>?_))
def qc (l:List qa) (code:ByteArray) (has:List ByteArray):Option Bool:=Option.bind (Qd l code) fun(a:Prod qa Bool)=>if a.2=Bool.true then Option.bind (Zw a.1.Needs has) fun(e0:Bool)=>some e0 else some Bool.false
theorem Ju:∀(l:List qa) (code:ByteArray) (has:List ByteArray),ev 25 0 [rL 5 qb l,rS code,rL 1 eS has] []=(qc l code has).bind (fun(e:Bool)=>some (rB e,[])):=
 fun l code has=>by
  rw[z8 qnN qpP.2.2.2 qrw]
  have:=qsV;have:=@q0D;have:=@q14;have:=@qc.eq_1;exact gA
theorem q2n:∀(l0_Code:ByteArray) (l0_Credits l0_Places l0_Slots0 l0_Slots1:Int) (l1_Code:ByteArray) (l1_Credits l1_Places l1_Slots0:Int) (l1_Needs0 l2_Code:ByteArray) (l2_Credits l2_Places:Int) (l3_Code:ByteArray) (l3_Credits l3_Places l3_Slots0:Int) (l3_Needs0 l3_Needs1 has0 code:ByteArray),ev 25 0 [R.c (C.d (D.sl 5 4 [D.str l0_Code,D.int .i64 l0_Credits,D.int .i64 l0_Places,D.sl 1 2 [D.int .i64 l0_Slots0,D.int .i64 l0_Slots1],D.sl 1 0 [],D.str l1_Code,D.int .i64 l1_Credits,D.int .i64 l1_Places,D.sl 1 1 [D.int .i64 l1_Slots0],D.sl 1 1 [D.str l1_Needs0],D.str l2_Code,D.int .i64 l2_Credits,D.int .i64 l2_Places,D.sl 1 0 [],D.sl 1 0 [],D.str l3_Code,D.int .i64 l3_Credits,D.int .i64 l3_Places,D.sl 1 1 [D.int .i64 l3_Slots0],D.sl 1 2 [D.str l3_Needs0,D.str l3_Needs1]])),rS code,R.c (C.d (D.sl 1 1 [D.str has0]))] []=(qc [(qa.mk l0_Code l0_Credits l0_Places [l0_Slots0,l0_Slots1] []),(qa.mk l1_Code l1_Credits l1_Places [l1_Slots0] [l1_Needs0]),(qa.mk l2_Code l2_Credits l2_Places [] []),(qa.mk l3_Code l3_Credits l3_Places [l3_Slots0] [l3_Needs0,l3_Needs1])] code [has0]).bind (fun(e:Bool)=>some (rB e,[])):=by
 intro l0_Code l0_Credits l0_Places l0_Slots0 l0_Slots1 l1_Code l1_Credits l1_Places l1_Slots0 l1_Needs0 l2_Code l2_Credits l2_Places l3_Code l3_Credits l3_Places l3_Slots0 l3_Needs0 l3_Needs1 has0 code;have h:=Ju [(qa.mk l0_Code l0_Credits l0_Places [l0_Slots0,l0_Slots1] []),(qa.mk l1_Code l1_Credits l1_Places [l1_Slots0] [l1_Needs0]),(qa.mk l2_Code l2_Credits l2_Places [] []),(qa.mk l3_Code l3_Credits l3_Places [l3_Slots0] [l3_Needs0,l3_Needs1])] code [has0]
 first
  | exact h
  | (simp only[rL,dL,bR,bZ,Nat.reduceAdd] at h;exact h)
theorem q2E:∀(l0_Code:ByteArray) (l0_Credits l0_Places l0_Slots0 l0_Slots1:Int) (l1_Code:ByteArray) (l1_Credits l1_Places l1_Slots0:Int) (l1_Needs0 l2_Code:ByteArray) (l2_Credits l2_Places:Int) (l3_Code:ByteArray) (l3_Credits l3_Places l3_Slots0:Int) (l3_Needs0 l3_Needs1 has0 has1 code:ByteArray),ev 25 0 [R.c (C.d (D.sl 5 4 [D.str l0_Code,D.int .i64 l0_Credits,D.int .i64 l0_Places,D.sl 1 2 [D.int .i64 l0_Slots0,D.int .i64 l0_Slots1],D.sl 1 0 [],D.str l1_Code,D.int .i64 l1_Credits,D.int .i64 l1_Places,D.sl 1 1 [D.int .i64 l1_Slots0],D.sl 1 1 [D.str l1_Needs0],D.str l2_Code,D.int .i64 l2_Credits,D.int .i64 l2_Places,D.sl 1 0 [],D.sl 1 0 [],D.str l3_Code,D.int .i64 l3_Credits,D.int .i64 l3_Places,D.sl 1 1 [D.int .i64 l3_Slots0],D.sl 1 2 [D.str l3_Needs0,D.str l3_Needs1]])),rS code,R.c (C.d (D.sl 1 2 [D.str has0,D.str has1]))] []=(qc [(qa.mk l0_Code l0_Credits l0_Places [l0_Slots0,l0_Slots1] []),(qa.mk l1_Code l1_Credits l1_Places [l1_Slots0] [l1_Needs0]),(qa.mk l2_Code l2_Credits l2_Places [] []),(qa.mk l3_Code l3_Credits l3_Places [l3_Slots0] [l3_Needs0,l3_Needs1])] code [has0,has1]).bind (fun(e:Bool)=>some (rB e,[])):=by
 intro l0_Code l0_Credits l0_Places l0_Slots0 l0_Slots1 l1_Code l1_Credits l1_Places l1_Slots0 l1_Needs0 l2_Code l2_Credits l2_Places l3_Code l3_Credits l3_Places l3_Slots0 l3_Needs0 l3_Needs1 has0 has1 code;have h:=Ju [(qa.mk l0_Code l0_Credits l0_Places [l0_Slots0,l0_Slots1] []),(qa.mk l1_Code l1_Credits l1_Places [l1_Slots0] [l1_Needs0]),(qa.mk l2_Code l2_Credits l2_Places [] []),(qa.mk l3_Code l3_Credits l3_Places [l3_Slots0] [l3_Needs0,l3_Needs1])] code [has0,has1]
 first
  | exact h
  | (simp only[rL,dL,bR,bZ,Nat.reduceAdd] at h;exact h)
theorem q2u:∀(l0_Code:ByteArray) (l0_Credits l0_Places l0_Slots0 l0_Slots1:Int) (l1_Code:ByteArray) (l1_Credits l1_Places l1_Slots0:Int) (l1_Needs0 l2_Code:ByteArray) (l2_Credits l2_Places:Int) (l3_Code:ByteArray) (l3_Credits l3_Places l3_Slots0:Int) (l3_Needs0 l3_Needs1 code:ByteArray),ev 25 0 [R.c (C.d (D.sl 5 4 [D.str l0_Code,D.int .i64 l0_Credits,D.int .i64 l0_Places,D.sl 1 2 [D.int .i64 l0_Slots0,D.int .i64 l0_Slots1],D.sl 1 0 [],D.str l1_Code,D.int .i64 l1_Credits,D.int .i64 l1_Places,D.sl 1 1 [D.int .i64 l1_Slots0],D.sl 1 1 [D.str l1_Needs0],D.str l2_Code,D.int .i64 l2_Credits,D.int .i64 l2_Places,D.sl 1 0 [],D.sl 1 0 [],D.str l3_Code,D.int .i64 l3_Credits,D.int .i64 l3_Places,D.sl 1 1 [D.int .i64 l3_Slots0],D.sl 1 2 [D.str l3_Needs0,D.str l3_Needs1]])),rS code,R.c (C.d (D.sl 1 0 []))] []=(qc [(qa.mk l0_Code l0_Credits l0_Places [l0_Slots0,l0_Slots1] []),(qa.mk l1_Code l1_Credits l1_Places [l1_Slots0] [l1_Needs0]),(qa.mk l2_Code l2_Credits l2_Places [] []),(qa.mk l3_Code l3_Credits l3_Places [l3_Slots0] [l3_Needs0,l3_Needs1])] code []).bind (fun(e:Bool)=>some (rB e,[])):=by
 intro l0_Code l0_Credits l0_Places l0_Slots0 l0_Slots1 l1_Code l1_Credits l1_Places l1_Slots0 l1_Needs0 l2_Code l2_Credits l2_Places l3_Code l3_Credits l3_Places l3_Slots0 l3_Needs0 l3_Needs1 code;have h:=Ju [(qa.mk l0_Code l0_Credits l0_Places [l0_Slots0,l0_Slots1] []),(qa.mk l1_Code l1_Credits l1_Places [l1_Slots0] [l1_Needs0]),(qa.mk l2_Code l2_Credits l2_Places [] []),(qa.mk l3_Code l3_Credits l3_Places [l3_Slots0] [l3_Needs0,l3_Needs1])] code []
 first
  | exact h
  | (simp only[rL,dL,bR,bZ,Nat.reduceAdd] at h;exact h)
def qe (fu:Nat) (l:List qa) (code:ByteArray) (has:List ByteArray):Option Bool:=Option.bind (q0v fu l code) fun(a:Prod qa Bool)=>if a.2=Bool.true then Option.bind (JJ fu a.1.Needs has) fun(e0:Bool)=>some e0 else some Bool.false
theorem q48 (fu:Nat) (l:List qa) (code:ByteArray) (has:List ByteArray):qk (qe fu l code has) (qc l code has):=by
 unfold qe qc
 repeat (first
  | with_reducible exact qk.refl _
  | with_reducible exact qk.none _
  | with_reducible apply q3v
  | with_reducible apply q1h
  | with_reducible refine qk.bind ?_ (fun _=>?_)
  | with_reducible refine qk.ite ?_ ?_
  | with_reducible refine qk.sum (fun _=>?_) (fun _=>?_)
  | with_reducible refine qk.lim (fun _=>?_))
theorem qrS:okL 27 qcW:=zl (qd qnV) (by kernel_rfl) (by kernel_rfl)
def qrX:=JA_ @qcW.eq_1 (JA_ @Try.f27.eq_1 @qnV)
theorem qs9:okL 56 qcg:=zl (qd qoi) (by kernel_rfl) (by kernel_rfl)
def qrK:=JA_ @qcg.eq_1 (JA_ @Try.f56.eq_1 @qoi)
theorem qss:okL 57 qaI:=zl (qd qnL) (by kernel_rfl) (by kernel_rfl)
def qrD:=JA_ @qaI.eq_1 (JA_ @Try.f57.eq_1 @qnL)
theorem qqN:okL 71 q8r:=zl (qd qmO) (by kernel_rfl) (by kernel_rfl)
def qq9:=JA_ @q8r.eq_1 (JA_ @Try.f71.eq_1 @qmO)
theorem ql5:lbO 71 2=qaz:=QA (qd qmO) rfl
theorem qjV:okL 71 qaz:=zY qqN (qt5 (i:=0) (by kernel_rfl))
def Q4 (s:List Int) (v:Int) (t7:Int):Int→Option (Int⊕(Int⊕Unit))|t8=>if t8<t7 then if 0≤t8∧t8<((s.length:Nat):Int) then Option.bind s[Int.toNat t8]? fun(a:Int)=>if(v==a)=Bool.true then some (Sum.inr (Sum.inl t8)) else some (Sum.inl (w64 (t8+1))) else none else some (Sum.inr (Sum.inr ()))
theorem Jq:∀(s:List Int) (v t7 t8:Int),XL2 evo 71 0 2 ⟨[(0,rL 1 eI s),(1,rI v),(7,rI t7),(8,rI t8)],[],0,19⟩=(zE (Q4 s v t7) t8).bind (Sum.elim (fun(e:Int)=>some (Exit.ret,⟨[(4,rI e)],[],0,19⟩)) (fun(e:Unit)=>some (Exit.exit 0,⟨[(4,R.any)],[],0,19⟩))):=
 fun s v t7 t8=>by
  revert t8;exact q5U ql5 qjV (fun e=>by rcases e with _|_<;>exact⟨_,rfl,fun h=>by cases h⟩) fun x=>by
   have:=qq9;have:=@qaz.eq_1;have:=@Q4.eq_1;exact gA
def zT (s:List Int) (v:Int):Option Int:=Option.bind (zE (Q4 s v ((s.length:Nat):Int)) 0) fun(a:Sum Int Unit)=>Sum.elim (fun(a2:Int)=>some a2) (fun(a3:Unit)=>some (-1)) a
theorem JY:∀(s:List Int) (v:Int),ev 71 0 [rL 1 eI s,rI v] []=(zT s v).bind (fun(e:Int)=>some (rI e,[])):=
 fun s v=>by
  rw[z8 qmO qqp.2.2.2 qqN]
  have:=qq9;have:=@Jq;have:=@zT.eq_1;exact gA
def QW (fu:Nat) (s:List Int) (v:Int):Option Int:=Option.bind (itT (Q4 s v ((s.length:Nat):Int)) fu 0) fun(a:Sum Int Unit)=>Sum.elim (fun(a2:Int)=>some a2) (fun(a3:Unit)=>some (-1)) a
theorem JP (fu:Nat) (s:List Int) (v:Int):qk (QW fu s v) (zT s v):=by
 unfold QW zT
 repeat (first
  | with_reducible exact qk.refl _
  | with_reducible exact qk.none _
  | with_reducible refine qk.bind ?_ (fun _=>?_)
  | with_reducible refine qk.ite ?_ ?_
  | with_reducible refine qk.sum (fun _=>?_) (fun _=>?_)
  | with_reducible refine qk.lim (fun _=>?_))
def zA (s:List Int) (v:Int):Option Bool:=Option.bind (zT s v) fun(a:Int)=>some (decide (0≤a))
theorem Jp:∀(s:List Int) (v:Int),ev 57 0 [rL 1 eI s,rI v] []=(zA s v).bind (fun(e:Bool)=>some (rB e,[])):=
 fun s v=>by
  rw[z8 qnL qqG.2.2.2 qss]
  have:=qrD;have:=@JY;have:=@zA.eq_1;exact gA
def Qt (fu:Nat) (s:List Int) (v:Int):Option Bool:=Option.bind (QW fu s v) fun(a:Int)=>some (decide (0≤a))
theorem Jo (fu:Nat) (s:List Int) (v:Int):qk (Qt fu s v) (zA s v):=by
 unfold Qt zA
 repeat (first
  | with_reducible exact qk.refl _
  | with_reducible exact qk.none _
  | with_reducible apply JP
  | with_reducible refine qk.bind ?_ (fun _=>?_)
  | with_reducible refine qk.ite ?_ ?_
  | with_reducible refine qk.sum (fun _=>?_) (fun _=>?_)
  | with_reducible refine qk.lim (fun _=>?_))
end
noncomputable section
open Go.RowKit
set_option maxRecDepth 20000
set_option maxHeartbeats 8000000
def QN (n:Int) (v:qa):Option Bool:=Option.bind (zA v.Slots n) fun(a:Bool)=>some a
theorem q1S:∀(n:Int) (v_Code:ByteArray) (v_Credits v_Places:Int) (v_Slots:List Int) (v_Needs:List ByteArray),ev 56 1 [rI n,rP 0] [(0,B.blk 35 [dS v_Code,dI v_Credits,dI v_Places,dL 1 eI v_Slots,dL 1 eS v_Needs])]=(QN n (qa.mk v_Code v_Credits v_Places v_Slots v_Needs)).bind (fun(e:Bool)=>some (rB e,[(0,B.blk 35 [dS v_Code,dI v_Credits,dI v_Places,dL 1 eI v_Slots,dL 1 eS v_Needs])])):=
 fun n v_Code v_Credits v_Places v_Slots v_Needs=>by
  rw[z8 qoi qqu.2.2.2 qs9]
  have:=qrK;have:=@Jp;have:=@QN.eq_1;exact gA
def Jj (fu:Nat) (n:Int) (v:qa):Option Bool:=Option.bind (Qt fu v.Slots n) fun(a:Bool)=>some a
theorem q24 (fu:Nat) (n:Int) (v:qa):qk (Jj fu n v) (QN n v):=by
 unfold Jj QN
 repeat (first
  | with_reducible exact qk.refl _
  | with_reducible exact qk.none _
  | with_reducible apply Jo
  | with_reducible refine qk.bind ?_ (fun _=>?_)
  | with_reducible refine qk.ite ?_ ?_
  | with_reducible refine qk.sum (fun _=>?_) (fun _=>?_)
  | with_reducible refine qk.lim (fun _=>?_))
def qS (b0:qa) (s:List Int) (t7:Int):Int→Option (Int⊕(Int⊕Unit))|t8=>if t8<t7 then if 0≤t8∧t8<((s.length:Nat):Int) then Option.bind s[Int.toNat t8]? fun(a:Int)=>Option.bind (QN a b0) fun(a2:Bool)=>if a2=Bool.true then some (Sum.inr (Sum.inl t8)) else some (Sum.inl (w64 (t8+1))) else none else some (Sum.inr (Sum.inr ()))
theorem ZC:∀(b0_Code:ByteArray) (b0_Credits b0_Places:Int) (b0_Slots:List Int) (b0_Needs:List ByteArray) (s:List Int) (t7 t8:Int),XL2 evo 70 1 2 ⟨[(0,rL 1 eI s),(1,R.c (C.fn 56 [] [dP 0])),(7,rI t7),(8,rI t8)],[(0,B.blk 35 [dS b0_Code,dI b0_Credits,dI b0_Places,dL 1 eI b0_Slots,dL 1 eS b0_Needs])],1,19⟩=(zE (qS (qa.mk b0_Code b0_Credits b0_Places b0_Slots b0_Needs) s t7) t8).bind (Sum.elim (fun(e:Int)=>some (Exit.ret,⟨[(4,rI e)],[(0,B.blk 35 [dS b0_Code,dI b0_Credits,dI b0_Places,dL 1 eI b0_Slots,dL 1 eS b0_Needs])],1,19⟩)) (fun(e:Unit)=>some (Exit.exit 0,⟨[(4,R.any)],[(0,B.blk 35 [dS b0_Code,dI b0_Credits,dI b0_Places,dL 1 eI b0_Slots,dL 1 eS b0_Needs])],1,19⟩))):=
 fun b0_Code b0_Credits b0_Places b0_Slots b0_Needs s t7 t8=>by
  revert t8;exact q5U qfL qfN (fun e=>by rcases e with _|_<;>exact⟨_,rfl,fun h=>by cases h⟩) fun x=>by
   have:=qnc;have:=@q7R.eq_1;have:=@q1S;have:=@qS.eq_1;exact gA
def zZ (fu:Nat) (b0:qa) (s:List Int) (t7:Int):Int→Option (Int⊕(Int⊕Unit))|t8=>if t8<t7 then if 0≤t8∧t8<((s.length:Nat):Int) then Option.bind s[Int.toNat t8]? fun(a:Int)=>Option.bind (Jj fu a b0) fun(a2:Bool)=>if a2=Bool.true then some (Sum.inr (Sum.inl t8)) else some (Sum.inl (w64 (t8+1))) else none else some (Sum.inr (Sum.inr ()))
theorem ZB (fu:Nat) (b0:qa) (s:List Int) (t7:Int):∀x,qk (zZ fu b0 s t7 x) (qS b0 s t7 x):=by
 rintro t8
 unfold zZ qS
 try dsimp only
 repeat (first
  | with_reducible exact qk.refl _
  | with_reducible exact qk.none _
  | with_reducible apply q24
  | with_reducible refine qk.bind ?_ (fun _=>?_)
  | with_reducible refine qk.ite ?_ ?_
  | with_reducible refine qk.sum (fun _=>?_) (fun _=>?_)
  | with_reducible refine qk.lim (fun _=>?_))
def zh (s:List Int) (b0:qa):Option Int:=Option.bind (zE (qS b0 s ((s.length:Nat):Int)) 0) fun(a:Sum Int Unit)=>Sum.elim (fun(a2:Int)=>some a2) (fun(a3:Unit)=>some (-1)) a
theorem ZX:∀(s:List Int) (b0_Code:ByteArray) (b0_Credits b0_Places:Int) (b0_Slots:List Int) (b0_Needs:List ByteArray),ev 70 1 [rL 1 eI s,R.c (C.fn 56 [] [dP 0])] [(0,B.blk 35 [dS b0_Code,dI b0_Credits,dI b0_Places,dL 1 eI b0_Slots,dL 1 eS b0_Needs])]=(zh s (qa.mk b0_Code b0_Credits b0_Places b0_Slots b0_Needs)).bind (fun(e:Int)=>some (rI e,[(0,B.blk 35 [dS b0_Code,dI b0_Credits,dI b0_Places,dL 1 eI b0_Slots,dL 1 eS b0_Needs])])):=
 fun s b0_Code b0_Credits b0_Places b0_Slots b0_Needs=>by
  rw[z8 ql7 qpJ.2.2.2 qoN]
  have:=qnc;have:=@ZC;have:=@zh.eq_1;exact gA
def Qb (fu:Nat) (s:List Int) (b0:qa):Option Int:=Option.bind (itT (zZ fu b0 s ((s.length:Nat):Int)) fu 0) fun(a:Sum Int Unit)=>Sum.elim (fun(a2:Int)=>some a2) (fun(a3:Unit)=>some (-1)) a
theorem ZT (fu:Nat) (s:List Int) (b0:qa):qk (Qb fu s b0) (zh s b0):=by
 unfold Qb zh
 repeat (first
  | with_reducible exact qk.refl _
  | with_reducible exact qk.none _
  | with_reducible apply ZB
  | with_reducible refine qk.bind ?_ (fun _=>?_)
  | with_reducible refine qk.ite ?_ ?_
  | with_reducible refine qk.sum (fun _=>?_) (fun _=>?_)
  | with_reducible refine qk.lim (fun _=>?_))
def qT (s:List Int) (b0:qa):Option Bool:=Option.bind (zh s b0) fun(a:Int)=>some (decide (0≤a))
theorem ZE:∀(s:List Int) (b0_Code:ByteArray) (b0_Credits b0_Places:Int) (b0_Slots:List Int) (b0_Needs:List ByteArray),ev 55 1 [rL 1 eI s,R.c (C.fn 56 [] [dP 0])] [(0,B.blk 35 [dS b0_Code,dI b0_Credits,dI b0_Places,dL 1 eI b0_Slots,dL 1 eS b0_Needs])]=(qT s (qa.mk b0_Code b0_Credits b0_Places b0_Slots b0_Needs)).bind (fun(e:Bool)=>some (rB e,[(0,B.blk 35 [dS b0_Code,dI b0_Credits,dI b0_Places,dL 1 eI b0_Slots,dL 1 eS b0_Needs])])):=
 fun s b0_Code b0_Credits b0_Places b0_Slots b0_Needs=>by
  rw[z8 qmM qnM.2.2.2 qqY]
  have:=qqK;have:=@ZX;have:=@qT.eq_1;exact gA
def Q1 (fu:Nat) (s:List Int) (b0:qa):Option Bool:=Option.bind (Qb fu s b0) fun(a:Int)=>some (decide (0≤a))
theorem ZD (fu:Nat) (s:List Int) (b0:qa):qk (Q1 fu s b0) (qT s b0):=by
 unfold Q1 qT
 repeat (first
  | with_reducible exact qk.refl _
  | with_reducible exact qk.none _
  | with_reducible apply ZT
  | with_reducible refine qk.bind ?_ (fun _=>?_)
  | with_reducible refine qk.ite ?_ ?_
  | with_reducible refine qk.sum (fun _=>?_) (fun _=>?_)
  | with_reducible refine qk.lim (fun _=>?_))
def qg (a:qa) (b:qa):Option Bool:=Option.bind (qT a.Slots b) fun(a2:Bool)=>some a2
theorem JZ:∀(a_Code:ByteArray) (a_Credits a_Places:Int) (a_Slots:List Int) (a_Needs:List ByteArray) (b_Code:ByteArray) (b_Credits b_Places:Int) (b_Slots:List Int) (b_Needs:List ByteArray),ev 27 0 [R.agg [dS a_Code,dI a_Credits,dI a_Places,dL 1 eI a_Slots,dL 1 eS a_Needs],R.agg [dS b_Code,dI b_Credits,dI b_Places,dL 1 eI b_Slots,dL 1 eS b_Needs]] []=(qg (qa.mk a_Code a_Credits a_Places a_Slots a_Needs) (qa.mk b_Code b_Credits b_Places b_Slots b_Needs)).bind (fun(e:Bool)=>some (rB e,[])):=
 fun a_Code a_Credits a_Places a_Slots a_Needs b_Code b_Credits b_Places b_Slots b_Needs=>by
  rw[z8 qnV qqZ.2.2.2 qrS]
  have:=qrX;have:=@ZE;have:=@qg.eq_1;exact gA
theorem q1E:∀(a_Code:ByteArray) (a_Credits a_Places a_Slots0 a_Slots1:Int) (b_Code:ByteArray) (b_Credits b_Places b_Slots0:Int) (b_Needs0:ByteArray) , ev 27 0 [R.agg [dS a_Code,dI a_Credits,dI a_Places,C.d (D.sl 1 2 [D.int .i64 a_Slots0,D.int .i64 a_Slots1]),C.d (D.sl 1 0 [])],R.agg [dS b_Code,dI b_Credits,dI b_Places,C.d (D.sl 1 1 [D.int .i64 b_Slots0]),C.d (D.sl 1 1 [D.str b_Needs0])]] []=(qg (qa.mk a_Code a_Credits a_Places [a_Slots0,a_Slots1] []) (qa.mk b_Code b_Credits b_Places [b_Slots0] [b_Needs0])).bind (fun(e:Bool)=>some (rB e,[])):=by
 intro a_Code a_Credits a_Places a_Slots0 a_Slots1 b_Code b_Credits b_Places b_Slots0 b_Needs0;have h:=JZ ((qa.mk a_Code a_Credits a_Places [a_Slots0,a_Slots1] [])).Code ((qa.mk a_Code a_Credits a_Places [a_Slots0,a_Slots1] [])).Credits ((qa.mk a_Code a_Credits a_Places [a_Slots0,a_Slots1] [])).Places ((qa.mk a_Code a_Credits a_Places [a_Slots0,a_Slots1] [])).Slots ((qa.mk a_Code a_Credits a_Places [a_Slots0,a_Slots1] [])).Needs ((qa.mk b_Code b_Credits b_Places [b_Slots0] [b_Needs0])).Code ((qa.mk b_Code b_Credits b_Places [b_Slots0] [b_Needs0])).Credits ((qa.mk b_Code b_Credits b_Places [b_Slots0] [b_Needs0])).Places ((qa.mk b_Code b_Credits b_Places [b_Slots0] [b_Needs0])).Slots ((qa.mk b_Code b_Credits b_Places [b_Slots0] [b_Needs0])).Needs
 first
  | exact h
  | (simp only[rL,dL,bR,bZ,Nat.reduceAdd] at h;exact h)
theorem q1K:∀(a_Code:ByteArray) (a_Credits a_Places a_Slots0:Int) (a_Needs0 b_Code:ByteArray) (b_Credits b_Places:Int) , ev 27 0 [R.agg [dS a_Code,dI a_Credits,dI a_Places,C.d (D.sl 1 1 [D.int .i64 a_Slots0]),C.d (D.sl 1 1 [D.str a_Needs0])],R.agg [dS b_Code,dI b_Credits,dI b_Places,C.d (D.sl 1 0 []),C.d (D.sl 1 0 [])]] []=(qg (qa.mk a_Code a_Credits a_Places [a_Slots0] [a_Needs0]) (qa.mk b_Code b_Credits b_Places [] [])).bind (fun(e:Bool)=>some (rB e,[])):=by
 intro a_Code a_Credits a_Places a_Slots0 a_Needs0 b_Code b_Credits b_Places;have h:=JZ ((qa.mk a_Code a_Credits a_Places [a_Slots0] [a_Needs0])).Code ((qa.mk a_Code a_Credits a_Places [a_Slots0] [a_Needs0])).Credits ((qa.mk a_Code a_Credits a_Places [a_Slots0] [a_Needs0])).Places ((qa.mk a_Code a_Credits a_Places [a_Slots0] [a_Needs0])).Slots ((qa.mk a_Code a_Credits a_Places [a_Slots0] [a_Needs0])).Needs ((qa.mk b_Code b_Credits b_Places [] [])).Code ((qa.mk b_Code b_Credits b_Places [] [])).Credits ((qa.mk b_Code b_Credits b_Places [] [])).Places ((qa.mk b_Code b_Credits b_Places [] [])).Slots ((qa.mk b_Code b_Credits b_Places [] [])).Needs
 first
  | exact h
  | (simp only[rL,dL,bR,bZ,Nat.reduceAdd] at h;exact h)
def qj (fu:Nat) (a:qa) (b:qa):Option Bool:=Option.bind (Q1 fu a.Slots b) fun(a2:Bool)=>some a2
theorem q2Y (fu:Nat) (a b:qa):qk (qj fu a b) (qg a b):=by
 unfold qj qg
 repeat (first
  | with_reducible exact qk.refl _
  | with_reducible exact qk.none _
  | with_reducible apply ZD
  | with_reducible refine qk.bind ?_ (fun _=>?_)
  | with_reducible refine qk.ite ?_ ?_
  | with_reducible refine qk.sum (fun _=>?_) (fun _=>?_)
  | with_reducible refine qk.lim (fun _=>?_))
end

noncomputable section
open Go.RowKit
theorem q5y {α:Type} (l:List α) (q:α→Bool) (step:Int→Option (Int⊕(Int⊕Unit)))
  (h:∀(i:Nat) a,l[i]?=some a→step (i:Int)=some (if q a=true then .inr (.inl (i:Int)) else .inl ((i+1:Nat):Int)))
  (hn:step ((l.length:Nat):Int)=some (.inr (.inr ()))) :
  ∃r:Int⊕Unit,zE step 0=some r∧((∃(i:Nat) (a:α),r = .inl (i:Int)∧l[i]?=some a∧q a=true∧∀j b,j<i→l[j]?=some b→q b=false)∨(r = .inr ()∧∀a∈l,q a=false)):=by
 have key:∀(n i:Nat),n+i=l.length→(∀j b,j<i→l[j]?=some b→q b=false)→∃r:Int⊕Unit,zE step (i:Int)=some r∧((∃(i:Nat) (a:α),r = .inl (i:Int)∧l[i]?=some a∧q a=true∧∀j b,j<i→l[j]?=some b→q b=false)∨(r = .inr ()∧∀a∈l,q a=false)):=by
  intro n
  induction n with
  | zero=>
   intro i hi hlo
   obtain rfl:i=l.length:=by omega
   refine⟨.inr (),zg hn,.inr ⟨rfl,fun a ha=>?_⟩⟩
   obtain⟨j,hj,rfl⟩:=List.mem_iff_getElem.1 ha
   exact hlo j _ hj (qt6 hj)
  | succ n ih=>
   intro i hi hlo
   have hlt:i<l.length:=by omega
   have ha:=qt6 hlt
   have hs:=h i _ ha
   cases hq:q l[i] with
   | true=>
    rw[hq,if_pos rfl] at hs
    exact⟨_,zg hs,.inl ⟨i,_,rfl,ha,hq,hlo⟩⟩
   | false=>
    rw[hq,if_neg (by decide)] at hs
    rw[zS hs]
    refine ih (i+1) (by omega) fun j b hj hb=>?_
    by_cases e:j<i
    ·exact hlo j b e hb
    ·obtain rfl:j=i:=by omega
     rw[ha] at hb;injection hb with hb;subst hb;exact hq
 exact key l.length 0 (by omega) (fun j b hj _=>by omega)
theorem q7b {α:Type} {l:List α} {q:α→Bool} {r:Int⊕Unit} (h:(∃(i:Nat) (a:α),r = .inl (i:Int)∧l[i]?=some a∧q a=true∧∀j b,j<i→l[j]?=some b→q b=false)∨(r = .inr ()∧∀a∈l,q a=false)) :
  ∃n:Int,Sum.elim (fun(a2:Int)=>some a2) (fun(a3:Unit)=>some (-(1:Int))) r=some n∧decide ((0:Int)≤n)=l.any q:=by
 rcases h with ⟨i,a,rfl,h1,h2,_⟩|⟨rfl,h1⟩
 ·refine⟨_,rfl,?_⟩
  rw[qu3 (by omega)]
  exact(qtX.2 ⟨a,qt5 h1,h2⟩).symm
 ·refine⟨_,rfl,?_⟩
  rw[decide_eq_false (by decide)]
  symm;rw[List.any_eq_false];intro a ha;rw[h1 a ha];decide
end
noncomputable section
open Go.RowKit
set_option maxRecDepth 20000
set_option maxHeartbeats 8000000
theorem qqc:okL 29 q8d:=zl (qd qmT) (by kernel_rfl) (by kernel_rfl)
def qqF:=JA_ @q8d.eq_1 (JA_ @Try.f29.eq_1 @qmT)
theorem qmf:lbO 29 2=qc3:=QA (qd qmT) rfl
theorem qjX:okL 29 qc3:=zY qqc (qt5 (i:=0) (by kernel_rfl))
def zm (l:List ByteArray):Int→Option (Int⊕(Unit⊕Unit))|k=>if k<((l.length:Nat):Int) then if 0≤w64 (k-1)∧w64 (k-1)<((l.length:Nat):Int) then Option.bind l[Int.toNat (w64 (k-1))]? fun(a:ByteArray)=>if 0≤k∧k<((l.length:Nat):Int) then Option.bind l[Int.toNat k]? fun(a2:ByteArray)=>if(!(Op.bytesLess (ByteArray.toList a) (ByteArray.toList a2)))=Bool.true then some (Sum.inr (Sum.inl ())) else some (Sum.inl (w64 (k+1))) else none else none else some (Sum.inr (Sum.inr ()))
theorem q02:∀(l:List ByteArray) (k:Int),XL2 evo 29 0 2 ⟨[(0,rL 1 eS l),(3,rI k)],[],0,20⟩=(zE (zm l) k).bind (Sum.elim (fun(e:Unit)=>some (Exit.ret,⟨[(2,rB Bool.false)],[],0,20⟩)) (fun(e:Unit)=>some (Exit.exit 0,⟨[(2,R.any)],[],0,20⟩))):=
 fun l k=>by
  revert k;exact q5U qmf qjX (fun e=>by rcases e with _|_<;>exact⟨_,rfl,fun h=>by cases h⟩) fun x=>by
   have:=qqF;have:=@qc3.eq_1;have:=@zm.eq_1;exact gA
def Qq (l:List ByteArray):Option Bool:=Option.bind (zE (zm l) 1) fun(a:Sum Unit Unit)=>Sum.elim (fun(a2:Unit)=>some Bool.false) (fun(a3:Unit)=>some Bool.true) a
theorem q0S:∀(l:List ByteArray),ev 29 0 [rL 1 eS l] []=(Qq l).bind (fun(e:Bool)=>some (rB e,[])):=
 fun l=>by
  rw[z8 qmT qqy.2.2.2 qqc]
  have:=qqF;have:=@q02;have:=@Qq.eq_1;exact gA
theorem qrl:okL 36 qb9:=zl (qd qoL) (by kernel_rfl) (by kernel_rfl)
def qsf:=JA_ @qb9.eq_1 (JA_ @Try.f36.eq_1 @qoL)
def Zy (o:qa):Option (ByteArray×Int×Int×List Int×List ByteArray):=if o.Slots.length≤maxLen∧o.Slots.length*8≤140737488355328 then if o.Needs.length≤maxLen∧o.Needs.length*16≤140737488355328 then some (o.Code,o.Credits,o.Places,o.Slots,o.Needs) else none else none
theorem q4n:∀(o_Code:ByteArray) (o_Credits o_Places:Int) (o_Slots:List Int) (o_Needs:List ByteArray),ev 36 0 [R.agg [dS o_Code,dI o_Credits,dI o_Places,dL 1 eI o_Slots,dL 1 eS o_Needs]] []=(Zy (qa.mk o_Code o_Credits o_Places o_Slots o_Needs)).bind (fun(e:ByteArray×Int×Int×List Int×List ByteArray)=>some (R.agg [dS e.1,dI e.2.1,dI e.2.2.1,dO 0 1 e.2.2.2.1.length,dO 1 1 e.2.2.2.2.length],[(0,bR 3 1 eI e.2.2.2.1),(1,bR 9 1 eS e.2.2.2.2)])):=
 fun o_Code o_Credits o_Places o_Slots o_Needs=>by
  rw[z8 qoL qr5.2.2.2 qrl]
  have:=qsf;have:=@Zy.eq_1;exact gA
def Z4 (b0_Code:ByteArray) (b0_Credits:Int) (b0_Places:Int) (l:List qa) (code:ByteArray):Int→Option (Int⊕((List Int×List ByteArray×ByteArray×Int×Int)⊕Unit))|k=>if k<((l.length:Nat):Int) then if 0≤k∧k<((l.length:Nat):Int) then Option.bind l[Int.toNat k]? fun(a:qa)=>if(ByteArray.toList a.Code==ByteArray.toList code)=Bool.true then if 0≤k∧k<((l.length:Nat):Int) then Option.bind l[Int.toNat k]? fun(a2:qa)=>Option.bind (Zy a2) fun(a3:Prod ByteArray (Prod Int (Prod Int (Prod (List Int) (List ByteArray)))))=>some (Sum.inr (Sum.inl (a3.2.2.2.1,a3.2.2.2.2,a3.1,a3.2.1,a3.2.2.1))) else none else some (Sum.inl (w64 (k+1))) else none else some (Sum.inr (Sum.inr ()))
def J7 (l:List qa) (code:ByteArray):Option (qa×Bool):=Option.bind (zE (Z4 (ByteArray.mk (List.toArray [])) 0 0 l code) 0) fun(a:Sum (Prod (List Int) (Prod (List ByteArray) (Prod ByteArray (Prod Int Int)))) Unit)=>Sum.elim (fun(a2:Prod (List Int) (Prod (List ByteArray) (Prod ByteArray (Prod Int Int))))=>some (qa.mk a2.2.2.1 a2.2.2.2.1 a2.2.2.2.2 a2.1 a2.2.1,Bool.true)) (fun(a3:Unit)=>some (qa.mk (ByteArray.mk (List.toArray [])) 0 0 [] [],Bool.false)) a
theorem qpY:okL 30 q8i:=zl (qd qn7) (by kernel_rfl) (by kernel_rfl)
def qqU:=JA_ @q8i.eq_1 (JA_ @Try.f30.eq_1 @qn7)
theorem qkF:lbO 30 2=qd9:=QA (qd qn7) rfl
theorem qk0:okL 30 qd9:=zY qpY (qt5 (i:=0) (by kernel_rfl))
def QP (l:List ByteArray) (s:ByteArray):Int→Option (Int⊕(Unit⊕Unit))|k=>if k<((l.length:Nat):Int) then if 0≤k∧k<((l.length:Nat):Int) then Option.bind l[Int.toNat k]? fun(a:ByteArray)=>if(ByteArray.toList a==ByteArray.toList s)=Bool.true then some (Sum.inr (Sum.inl ())) else some (Sum.inl (w64 (k+1))) else none else some (Sum.inr (Sum.inr ()))
theorem q3d:∀(l:List ByteArray) (s:ByteArray) (k:Int),XL2 evo 30 0 2 ⟨[(0,rL 1 eS l),(1,rS s),(5,rI k)],[],0,18⟩=(zE (QP l s) k).bind (Sum.elim (fun(e:Unit)=>some (Exit.ret,⟨[(4,rB Bool.true)],[],0,18⟩)) (fun(e:Unit)=>some (Exit.exit 0,⟨[(4,R.any)],[],0,18⟩))):=
 fun l s k=>by
  revert k;exact q5U qkF qk0 (fun e=>by rcases e with _|_<;>exact⟨_,rfl,fun h=>by cases h⟩) fun x=>by
   have:=qqU;have:=@qd9.eq_1;have:=@QP.eq_1;exact gA
def Z2 (l:List ByteArray) (s:ByteArray):Option Bool:=Option.bind (zE (QP l s) 0) fun(a:Sum Unit Unit)=>Sum.elim (fun(a2:Unit)=>some Bool.true) (fun(a3:Unit)=>some Bool.false) a
theorem q1N:∀(l:List ByteArray) (s:ByteArray),ev 30 0 [rL 1 eS l,rS s] []=(Z2 l s).bind (fun(e:Bool)=>some (rB e,[])):=
 fun l s=>by
  rw[z8 qn7 qpT.2.2.2 qpY]
  have:=qqU;have:=@q3d;have:=@Z2.eq_1;exact gA
theorem qqJ:okL 31 q8n:=zl (qd qmE) (by kernel_rfl) (by kernel_rfl)
def qqP:=JA_ @q8n.eq_1 (JA_ @Try.f31.eq_1 @qmE)
theorem qjh:lbO 31 4=qcO:=QA (qd qmE) rfl
theorem qjL:okL 31 qcO:=zY qqJ (qt5 (i:=0) (by kernel_rfl))
def QO (l:List ByteArray) (s:ByteArray):Int→Option (Int⊕Int)|at0=>if 0<at0 then if 0≤w64 (at0-1)∧w64 (at0-1)<((l.length:Nat):Int) then Option.bind l[Int.toNat (w64 (at0-1))]? fun(a:ByteArray)=>if(!(Op.bytesLess (ByteArray.toList a) (ByteArray.toList s)||ByteArray.toList a==ByteArray.toList s))=Bool.true then some (Sum.inl (w64 (at0-1))) else some (Sum.inr at0) else none else some (Sum.inr at0)
theorem q2V:∀(l:List ByteArray) (s:ByteArray) (at0:Int),XL2 evo 31 0 4 ⟨[(0,rL 1 eS l),(1,rS s),(5,rI at0)],[],0,39⟩=(zE (QO l s) at0).bind (fun(e:Int)=>some (Exit.exit 0,⟨[(0,rL 1 eS l),(1,rS s),(5,rI e)],[],0,39⟩)):=
 fun l s at0=>by
  revert at0;exact q5U qjh qjL (fun e=>by exact⟨_,rfl,fun h=>by cases h⟩) fun x=>by
   have:=qqP;have:=@qcO.eq_1;have:=@QO.eq_1;exact gA
def Qr (l:List ByteArray) (s:ByteArray):Option (List ByteArray):=Option.bind (Z2 l s) fun(a:Bool)=>if a=Bool.true then some l else Option.bind (zE (QO l s) ((l.length:Nat):Int)) fun(a2:Int)=>if 0≤a2∧a2≤((l.length:Nat):Int) then if(List.take (Int.toNat a2-0) l).length≤maxLen∧(List.take (Int.toNat a2-0) l).length*16≤140737488355328 then if(List.take (Int.toNat a2-0) l).length+1≤maxLen∧((List.take (Int.toNat a2-0) l).length+1)*16≤140737488355328 then if 0≤a2∧a2≤((l.length:Nat):Int) then if(List.take (Int.toNat a2-0) l).length+1+(List.take (l.length-Int.toNat a2) (List.drop (Int.toNat a2) l)).length≤maxLen∧((List.take (Int.toNat a2-0) l).length+1+(List.take (l.length-Int.toNat a2) (List.drop (Int.toNat a2) l)).length)*16≤140737488355328 then some ((List.take (Int.toNat a2-0) l++[s])++List.take (l.length-Int.toNat a2) (List.drop (Int.toNat a2) l)) else none else none else none else none else none
theorem JN:∀(l:List ByteArray) (s:ByteArray),ev 31 0 [rL 1 eS l,rS s] []=(Qr l s).bind (fun(e:List ByteArray)=>some (rL 1 eS e,[])):=
 fun l s=>by
  rw[z8 qmE qq5.2.2.2 qqJ]
  have:=qqP;have:=@q1N;have:=@q2V;have:=@Qr.eq_1;exact gA
theorem q3m:∀  (s:ByteArray),ev 31 0 [R.c (C.d (D.sl 1 0 [])),rS s] []=(Qr [] s).bind (fun(e:List ByteArray)=>some (rL 1 eS e,[])):=by
 intro s;have h:=JN [] s
 first
  | exact h
  | (simp only[rL,dL,bR,bZ,Nat.reduceAdd] at h;exact h)
def q3u (l:List ByteArray):(List ByteArray×Int)→Option ((List ByteArray×Int)⊕(List ByteArray))|(out,k)=>if k<((l.length:Nat):Int) then if k<7 then if 0≤k∧k<((l.length:Nat):Int) then Option.bind l[Int.toNat k]? fun(a:ByteArray)=>if 0≤k∧k<((l.length:Nat):Int) then Option.bind l[Int.toNat k]? fun(a2:ByteArray)=>if 0≤min ((ByteArray.size a2:Nat):Int) 12∧min ((ByteArray.size a2:Nat):Int) 12≤((ByteArray.size a:Nat):Int) then if out.length+1≤maxLen∧(out.length+1)*16≤140737488355328 then some (Sum.inl (out++[ByteArray.extract a 0 (Int.toNat (min ((ByteArray.size a2:Nat):Int) 12))],w64 (k+1))) else none else none else none else none else some (Sum.inr out) else some (Sum.inr out)
def q5h (l:List ByteArray):Option (List ByteArray):=Option.bind (zE (q3u l) ([],0)) fun(a:List ByteArray)=>some a
def qdm (l:List qa):(List qa×Int)→Option ((List qa×Int)⊕(List qa))|(out,k)=>if k<((l.length:Nat):Int) then if k<6 then if 0≤k∧k<((l.length:Nat):Int) then Option.bind l[Int.toNat k]? fun(a:qa)=>if 0≤min ((ByteArray.size a.Code:Nat):Int) 12∧min ((ByteArray.size a.Code:Nat):Int) 12≤((ByteArray.size a.Code:Nat):Int) then if 0≤min ((a.Slots.length:Nat):Int) 6∧min ((a.Slots.length:Nat):Int) 6≤((a.Slots.length:Nat):Int) then Option.bind (q5h a.Needs) fun(a2:List ByteArray)=>if out.length+1≤maxLen∧(out.length+1)*80≤140737488355328 then some (Sum.inl (out++[qa.mk (ByteArray.extract a.Code 0 (Int.toNat (min ((ByteArray.size a.Code:Nat):Int) 12))) a.Credits a.Places (List.take (Int.toNat (min ((a.Slots.length:Nat):Int) 6)-0) a.Slots) a2],w64 (k+1))) else none else none else none else none else some (Sum.inr out) else some (Sum.inr out)
theorem qmN:okL 10 q4W:=zl (qd qiX) (by kernel_rfl) (by kernel_rfl)
def qne:=JA_ @q4W.eq_1 (JA_ @Try.f10.eq_1 @qiX)
theorem qlI:lbO 10 5=qcc:=QA (qd qiX) rfl
theorem qjC:okL 10 qcc:=zY qmN (qt5 (i:=0) (by kernel_rfl))
theorem qhx:lbO 10 10=q71:=QA (qd qiX) rfl
theorem qhZ:okL 10 q71:=zY qmN (qt5 (i:=1) (by kernel_rfl))
theorem qii:lbO 10 16=q7l:=QA (qd qiX) rfl
theorem qhU:okL 10 q7l:=zY qmN (qt5 (i:=2) (by kernel_rfl))
theorem qrO:okL 19 qb6:=zl (qd qoQ) (by kernel_rfl) (by kernel_rfl)
def qsl:=JA_ @qb6.eq_1 (JA_ @Try.f19.eq_1 @qoQ)
def Jr:Option (List ByteArray):=
 some [ByteArray.mk (List.toArray [65,49]),ByteArray.mk (List.toArray [66,49]),ByteArray.mk (List.toArray [66,50]),ByteArray.mk (List.toArray [67,49]),ByteArray.mk (List.toArray [68,49]),ByteArray.mk (List.toArray [69,57])]
def qf:List ByteArray:=
 [ByteArray.mk (List.toArray [65,49]),ByteArray.mk (List.toArray [66,49]),ByteArray.mk (List.toArray [66,50]),ByteArray.mk (List.toArray [67,49]),ByteArray.mk (List.toArray [68,49]),ByteArray.mk (List.toArray [69,57])]
theorem q2O:Jr=some (qf):=by
 unfold Jr qf
 simp only[q1r]
theorem q0E:ev 19 0 [] []=some (R.c (C.d (D.sl 1 (qf).length ((qf).flatMap eS))),[]):=
 by
  have h:ev 19 0 [] []=(Jr).bind (fun(e:List ByteArray)=>some (rL 1 eS e,[])):=by
   rw[z8 qoQ qqq.2.2.2 qrO]
   have:=qsl;have:=@Jr.eq_1;exact gA
  rw[q2O] at h
  exact h
theorem qrm:okL 35 q9V:=zl (qd qnn) (by kernel_rfl) (by kernel_rfl)
def qrR:=JA_ @q9V.eq_1 (JA_ @Try.f35.eq_1 @qnn)
theorem qrQ:okL 37 qd5:=zl (qd qnS) (by kernel_rfl) (by kernel_rfl)
def qrT:=JA_ @qd5.eq_1 (JA_ @Try.f37.eq_1 @qnS)
def Z1 (n:Int) (m:Int):Option Int:=if m=0 then none else if m=0 then none else some (Int.tmod (w64 (Int.tmod n m+m)) m)
theorem q1Q:∀(n m:Int),ev 37 0 [rI n,rI m] []=(Z1 n m).bind (fun(e:Int)=>some (rI e,[])):=
 fun n m=>by
  rw[z8 qnS qr8.2.2.2 qrQ]
  have:=qrT;have:=@Z1.eq_1;exact gA
def zb (n:Int) (d:qh):Option (Int×qh):=if((d.L.length:Nat):Int)≤d.At then some (0,d) else if 0≤w64 (w64 (d.At+1)-1)∧w64 (w64 (d.At+1)-1)<((d.L.length:Nat):Int) then Option.bind d.L[Int.toNat (w64 (w64 (d.At+1)-1))]? fun(a:Int)=>Option.bind (Z1 a n) fun(a2:Int)=>some (a2,qh.mk d.L (w64 (d.At+1))) else none
theorem Zh:∀(n:Int) (d_L:List Int) (d_At:Int),ev 35 1 [rP 0,rI n] [(0,B.blk 59 [dL 1 eI d_L,dI d_At])]=(zb n (qh.mk d_L d_At)).bind (fun(e:Int×qh)=>some (rI e.1,[(0,B.blk 59 [dL 1 eI e.2.L,dI e.2.At])])):=
 fun n d_L d_At=>by
  rw[z8 qnn qqV.2.2.2 qrm]
  have:=qrR;have:=@q1Q;have:=@zb.eq_1;exact gA
def zn (w1:List qa) (b2_Code:ByteArray) (b2_Credits:Int) (b2_Places:Int) (t5:List ByteArray) (t6:Int):(List Int×qh×Int)→Option ((List Int×qh×Int)⊕(List Int×qh))|(w3,b0,t8)=>if 0<t8 then if w3.length+1≤maxLen∧(w3.length+1)*8≤140737488355328 then Option.bind (zb 2 b0) fun(a:Prod Int qh)=>if(a.1==1)=Bool.true then if 0≤w64 (((w3.length+1:Nat):Int)-1)∧w64 (((w3.length+1:Nat):Int)-1)<((w3.length+1:Nat):Int) then Option.bind (w3++[t8])[Int.toNat (w64 (((w3.length+1:Nat):Int)-1))]? fun(a2:Int)=>if a2<4 then if 0≤w64 (((w3.length+1:Nat):Int)-1)∧w64 (((w3.length+1:Nat):Int)-1)<((w3.length+1:Nat):Int) then Option.bind (w3++[t8])[Int.toNat (w64 (((w3.length+1:Nat):Int)-1))]? fun(a3:Int)=>some (Sum.inl (w3++[t8],a.2,w64 (a3+1))) else none else some (Sum.inl (w3++[t8],a.2,0)) else none else some (Sum.inl (w3++[t8],a.2,0)) else none else some (Sum.inr (w3,b0))
theorem q1T:∀(w1:List qa) (w3 b0_L:List Int) (b0_At:Int) (b2_Code:ByteArray) (b2_Credits b2_Places:Int) (t5:List ByteArray) (t6 t8:Int) (w1_len w3_len:Nat),w1_len=w1.length→w3_len=w3.length→XL2 evo 10 0 10 ⟨[(3,rP 0),(4,rO 1 5 w1_len),(5,rL 1 eS t5),(6,rI t6),(7,rP 2),(8,rI t8)],[(0,B.blk 59 [dL 1 eI b0_L,dI b0_At]),(1,bR 35 5 qb w1),(2,B.blk 35 [dS b2_Code,dI b2_Credits,dI b2_Places,dO 3 1 w3_len,C.nils]),(3,bR 3 1 eI w3)],4,101⟩=(zE (zn w1 b2_Code b2_Credits b2_Places t5 t6) (w3,(qh.mk b0_L b0_At),t8)).bind (fun(e:List Int×qh)=>some (Exit.exit 2,⟨[(3,rP 0),(4,rO 1 5 w1.length),(5,rL 1 eS t5),(6,rI t6),(7,rP 2)],[(0,B.blk 59 [dL 1 eI e.2.L,dI e.2.At]),(1,bR 35 5 qb w1),(2,B.blk 35 [dS b2_Code,dI b2_Credits,dI b2_Places,dO 3 1 e.1.length,C.nils]),(3,bR 3 1 eI e.1)],4,101⟩)):=
 by
 intro w1 w3 b0_L b0_At b2_Code b2_Credits b2_Places t5 t6 t8 w1_len w3_len h0 h1
 subst h0 h1
 have h:=q62 (E:=evo) (f:=10) (k:=0) (st:=fun x:List Int×qh×Int=>(⟨[(3,rP 0),(4,rO 1 5 w1.length),(5,rL 1 eS t5),(6,rI t6),(7,rP 2),(8,rI x.2.2)],[(0,B.blk 59 [dL 1 eI x.2.1.L,dI x.2.1.At]),(1,bR 35 5 qb w1),(2,B.blk 35 [dS b2_Code,dI b2_Credits,dI b2_Places,dO 3 1 x.1.length,C.nils]),(3,bR 3 1 eI x.1)],4,101⟩:S)) (ex:=fun(e:List Int×qh)=>(Exit.exit 2,⟨[(3,rP 0),(4,rO 1 5 w1.length),(5,rL 1 eS t5),(6,rI t6),(7,rP 2)],[(0,B.blk 59 [dL 1 eI e.2.L,dI e.2.At]),(1,bR 35 5 qb w1),(2,B.blk 35 [dS b2_Code,dI b2_Credits,dI b2_Places,dO 3 1 e.1.length,C.nils]),(3,bR 3 1 eI e.1)],4,101⟩)) (step:=(zn w1 b2_Code b2_Credits b2_Places t5 t6)) qhx qhZ (fun e h=>by cases h) (fun x=>by
  obtain⟨w3,b0,t8⟩:=x;have:=qne;have:=@q71.eq_1;have:=@Zh;have:=@zn.eq_1;exact gA) (w3,(qh.mk b0_L b0_At),t8)
 exact h
theorem q0P:∀  (w1:List qa) (b0_L:List Int) (b0_At:Int) (b2_Code:ByteArray) (b2_Credits b2_Places:Int) (t5:List ByteArray) (t6 t8:Int) (w1_len:Nat),w1_len=w1.length→XL2 evo 10 0 10 ⟨[(3,rP 0),(4,rO 1 5 w1_len),(5,rL 1 eS t5),(6,rI t6),(7,rP 2),(8,rI t8)],[(0,B.blk 59 [dL 1 eI b0_L,dI b0_At]),(1,bR 35 5 qb w1),(2,B.blk 35 [dS b2_Code,dI b2_Credits,dI b2_Places,dO 3 1 0,C.nils]),(3,B.row 3 1 [])],4,101⟩=(zE (zn w1 b2_Code b2_Credits b2_Places t5 t6) ([],(qh.mk b0_L b0_At),t8)).bind (fun(e:List Int×qh)=>some (Exit.exit 2,⟨[(3,rP 0),(4,rO 1 5 w1.length),(5,rL 1 eS t5),(6,rI t6),(7,rP 2)],[(0,B.blk 59 [dL 1 eI e.2.L,dI e.2.At]),(1,bR 35 5 qb w1),(2,B.blk 35 [dS b2_Code,dI b2_Credits,dI b2_Places,dO 3 1 e.1.length,C.nils]),(3,bR 3 1 eI e.1)],4,101⟩)):=by
 intro w1 b0_L b0_At b2_Code b2_Credits b2_Places t5 t6 t8 w1_len h0;subst h0;have h:=q1T w1 [] ((qh.mk b0_L b0_At)).L ((qh.mk b0_L b0_At)).At b2_Code b2_Credits b2_Places t5 t6 t8 _ _ rfl rfl
 first
  | exact h
  | (simp only[rL,dL,bR,bZ,Nat.reduceAdd] at h;exact h)
def zD (w1:List qa) (w3:List Int) (b2_Code:ByteArray) (b2_Credits:Int) (b2_Places:Int) (t5:List ByteArray) (t6:Int):(List ByteArray×qh×Int)→Option ((List ByteArray×qh×Int)⊕(List ByteArray×qh))|(w4,b0,t9)=>if t9<((w1.length:Nat):Int) then Option.bind (zb 3 b0) fun(a:Prod Int qh)=>if(a.1==0)=Bool.true then if((w4.length:Nat):Int)<2 then if 0≤t9∧t9<((w1.length:Nat):Int) then Option.bind w1[Int.toNat t9]? fun(a2:qa)=>if w4.length+1≤maxLen∧(w4.length+1)*16≤140737488355328 then some (Sum.inl (w4++[a2.Code],a.2,w64 (t9+1))) else none else none else some (Sum.inl (w4,a.2,w64 (t9+1))) else some (Sum.inl (w4,a.2,w64 (t9+1))) else some (Sum.inr (w4,b0))
theorem q1W:∀(w1:List qa) (w3:List Int) (w4:List ByteArray) (b0_L:List Int) (b0_At:Int) (b2_Code:ByteArray) (b2_Credits b2_Places:Int) (t5:List ByteArray) (t6 t9:Int) (w1_len w3_len w4_len:Nat),w1_len=w1.length→w3_len=w3.length→w4_len=w4.length→XL2 evo 10 0 16 ⟨[(3,rP 0),(4,rO 1 5 w1_len),(5,rL 1 eS t5),(6,rI t6),(7,rP 2),(9,rI t9)],[(0,B.blk 59 [dL 1 eI b0_L,dI b0_At]),(1,bR 35 5 qb w1),(2,B.blk 35 [dS b2_Code,dI b2_Credits,dI b2_Places,dO 3 1 w3_len,dO 4 1 w4_len]),(3,bR 3 1 eI w3),(4,bR 9 1 eS w4)],5,101⟩=(zE (zD w1 w3 b2_Code b2_Credits b2_Places t5 t6) (w4,(qh.mk b0_L b0_At),t9)).bind (fun(e:List ByteArray×qh)=>some (Exit.exit 4,⟨[(3,rP 0),(4,rO 1 5 w1.length),(5,rL 1 eS t5),(6,rI t6),(7,rP 2)],[(0,B.blk 59 [dL 1 eI e.2.L,dI e.2.At]),(1,bR 35 5 qb w1),(2,B.blk 35 [dS b2_Code,dI b2_Credits,dI b2_Places,dO 3 1 w3.length,dO 4 1 e.1.length]),(3,bR 3 1 eI w3),(4,bR 9 1 eS e.1)],5,101⟩)):=
 by
 intro w1 w3 w4 b0_L b0_At b2_Code b2_Credits b2_Places t5 t6 t9 w1_len w3_len w4_len h0 h1 h2
 subst h0 h1 h2
 have h:=q62 (E:=evo) (f:=10) (k:=0) (st:=fun x:List ByteArray×qh×Int=>(⟨[(3,rP 0),(4,rO 1 5 w1.length),(5,rL 1 eS t5),(6,rI t6),(7,rP 2),(9,rI x.2.2)],[(0,B.blk 59 [dL 1 eI x.2.1.L,dI x.2.1.At]),(1,bR 35 5 qb w1),(2,B.blk 35 [dS b2_Code,dI b2_Credits,dI b2_Places,dO 3 1 w3.length,dO 4 1 x.1.length]),(3,bR 3 1 eI w3),(4,bR 9 1 eS x.1)],5,101⟩:S)) (ex:=fun(e:List ByteArray×qh)=>(Exit.exit 4,⟨[(3,rP 0),(4,rO 1 5 w1.length),(5,rL 1 eS t5),(6,rI t6),(7,rP 2)],[(0,B.blk 59 [dL 1 eI e.2.L,dI e.2.At]),(1,bR 35 5 qb w1),(2,B.blk 35 [dS b2_Code,dI b2_Credits,dI b2_Places,dO 3 1 w3.length,dO 4 1 e.1.length]),(3,bR 3 1 eI w3),(4,bR 9 1 eS e.1)],5,101⟩)) (step:=(zD w1 w3 b2_Code b2_Credits b2_Places t5 t6)) qii qhU (fun e h=>by cases h) (fun x=>by
  obtain⟨w4,b0,t9⟩:=x;have:=qne;have:=@q7l.eq_1;have:=@Zh;have:=@zD.eq_1;exact gA) (w4,(qh.mk b0_L b0_At),t9)
 exact h
theorem q0I:∀  (w1:List qa) (w3 b0_L:List Int) (b0_At:Int) (b2_Code:ByteArray) (b2_Credits b2_Places:Int) (t5:List ByteArray) (t6 t9:Int) (w1_len w3_len:Nat),w1_len=w1.length→w3_len=w3.length→XL2 evo 10 0 16 ⟨[(3,rP 0),(4,rO 1 5 w1_len),(5,rL 1 eS t5),(6,rI t6),(7,rP 2),(9,rI t9)],[(0,B.blk 59 [dL 1 eI b0_L,dI b0_At]),(1,bR 35 5 qb w1),(2,B.blk 35 [dS b2_Code,dI b2_Credits,dI b2_Places,dO 3 1 w3_len,dO 4 1 0]),(3,bR 3 1 eI w3),(4,B.row 9 1 [])],5,101⟩=(zE (zD w1 w3 b2_Code b2_Credits b2_Places t5 t6) ([],(qh.mk b0_L b0_At),t9)).bind (fun(e:List ByteArray×qh)=>some (Exit.exit 4,⟨[(3,rP 0),(4,rO 1 5 w1.length),(5,rL 1 eS t5),(6,rI t6),(7,rP 2)],[(0,B.blk 59 [dL 1 eI e.2.L,dI e.2.At]),(1,bR 35 5 qb w1),(2,B.blk 35 [dS b2_Code,dI b2_Credits,dI b2_Places,dO 3 1 w3.length,dO 4 1 e.1.length]),(3,bR 3 1 eI w3),(4,bR 9 1 eS e.1)],5,101⟩)):=by
 intro w1 w3 b0_L b0_At b2_Code b2_Credits b2_Places t5 t6 t9 w1_len w3_len h0 h1;subst h0 h1;have h:=q1W w1 w3 [] ((qh.mk b0_L b0_At)).L ((qh.mk b0_L b0_At)).At b2_Code b2_Credits b2_Places t5 t6 t9 _ _ _ rfl rfl rfl
 first
  | exact h
  | (simp only[rL,dL,bR,bZ,Nat.reduceAdd] at h;exact h)
def z7 (t5:List ByteArray):(List qa×qh×Int)→Option ((List qa×qh×Int)⊕(List qa))|(w1,b0,t6)=>if t6<((t5.length:Nat):Int) then Option.bind (zb 5 b0) fun(a:Prod Int qh)=>if(a.1==4)=Bool.true then some (Sum.inl (w1,a.2,w64 (t6+1))) else if 0≤t6∧t6<((t5.length:Nat):Int) then Option.bind t5[Int.toNat t6]? fun(a2:ByteArray)=>Option.bind (zb 6 a.2) fun(a3:Prod Int qh)=>if 0≤a3.1∧a3.1<6 then Option.bind [(5:Int),6,3,10,5,20][Int.toNat a3.1]? fun(a4:Int)=>Option.bind (zb 6 a3.2) fun(a5:Prod Int qh)=>if 0≤a5.1∧a5.1<6 then Option.bind [(2:Int),1,0,30,200,3][Int.toNat a5.1]? fun(a6:Int)=>Option.bind (zb 4 a5.2) fun(a7:Prod Int qh)=>Option.bind (zE (zn w1 a2 a4 a6 t5 t6) ([],(a7.2,a7.1))) fun(a8:Prod (List Int) qh)=>Option.bind (zE (zD w1 a8.1 a2 a4 a6 t5 t6) ([],(a8.2,0))) fun(a9:Prod (List ByteArray) qh)=>if w1.length+1≤maxLen∧(w1.length+1)*80≤140737488355328 then some (Sum.inl (w1++[qa.mk a2 a4 a6 a8.1 a9.1],a9.2,w64 (t6+1))) else none else none else none else none else some (Sum.inr w1)
theorem q2l:∀(w1:List qa) (b0_L:List Int) (b0_At:Int) (t5:List ByteArray) (t6:Int) (w1_len:Nat),w1_len=w1.length→XL2 evo 10 0 5 ⟨[(3,rP 0),(4,rO 1 5 w1_len),(5,rL 1 eS t5),(6,rI t6)],[(0,B.blk 59 [dL 1 eI b0_L,dI b0_At]),(1,bR 35 5 qb w1)],2,101⟩=(zE (z7 t5) (w1,(qh.mk b0_L b0_At),t6)).bind (fun(e:List qa)=>some (Exit.exit 0,⟨[(4,rO 0 5 e.length)],[(0,bR 35 5 qb e)],1,101⟩)):=
 by
 intro w1 b0_L b0_At t5 t6 w1_len h0
 subst h0
 have h:=q62 (E:=evo) (f:=10) (k:=0) (st:=fun x:List qa×qh×Int=>(⟨[(3,rP 0),(4,rO 1 5 x.1.length),(5,rL 1 eS t5),(6,rI x.2.2)],[(0,B.blk 59 [dL 1 eI x.2.1.L,dI x.2.1.At]),(1,bR 35 5 qb x.1)],2,101⟩:S)) (ex:=fun(e:List qa)=>(Exit.exit 0,⟨[(4,rO 0 5 e.length)],[(0,bR 35 5 qb e)],1,101⟩)) (step:=(z7 t5)) qlI qjC (fun e h=>by cases h) (fun x=>by
  obtain⟨w1,b0,t6⟩:=x;have:=qne;have:=@qcc.eq_1;have:=@Zh;have:=@q0P;have:=@q0I;have:=@z7.eq_1;exact gA) (w1,(qh.mk b0_L b0_At),t6)
 exact h
theorem q0R:∀  (b0_L:List Int) (b0_At:Int) (t5:List ByteArray) (t6:Int),XL2 evo 10 0 5 ⟨[(3,rP 0),(4,rO 1 5 0),(5,rL 1 eS t5),(6,rI t6)],[(0,B.blk 59 [dL 1 eI b0_L,dI b0_At]),(1,B.row 35 5 [])],2,101⟩=(zE (z7 t5) ([],(qh.mk b0_L b0_At),t6)).bind (fun(e:List qa)=>some (Exit.exit 0,⟨[(4,rO 0 5 e.length)],[(0,bR 35 5 qb e)],1,101⟩)):=by
 intro b0_L b0_At t5 t6;have h:=q2l [] ((qh.mk b0_L b0_At)).L ((qh.mk b0_L b0_At)).At t5 t6 _ rfl
 first
  | exact h
  | (simp only[rL,dL,bR,bZ,Nat.reduceAdd] at h;exact h)
def Zx (x0:List Int):Option (List qa):=Option.bind (zE (z7 qf) ([],(qh.mk x0 0,0))) fun(a:List qa)=>some a
theorem q4b:∀(x0:List Int),ev 10 0 [rL 1 eI x0] []=(Zx x0).bind (fun(e:List qa)=>some (rL 5 qb e,[])):=
 fun x0=>by
  rw[z8 qiX qqr.2.2.2 qmN]
  have:=qne;have:=@q0E;have:=@q0R;have:=@Zx.eq_1;exact gA
def zP (l:List qa) (next:List ByteArray):(List ByteArray×List ByteArray×Int)→Option ((List ByteArray×List ByteArray×Int)⊕(List ByteArray×List ByteArray))|(more,out,k)=>if k<((next.length:Nat):Int) then if 0≤k∧k<((next.length:Nat):Int) then Option.bind next[Int.toNat k]? fun(a:ByteArray)=>Option.bind (Z2 out a) fun(a2:Bool)=>if(!a2)=Bool.true then if 0≤k∧k<((next.length:Nat):Int) then Option.bind next[Int.toNat k]? fun(a3:ByteArray)=>Option.bind (Qr out a3) fun(a4:List ByteArray)=>if 0≤k∧k<((next.length:Nat):Int) then Option.bind next[Int.toNat k]? fun(a5:ByteArray)=>Option.bind (J7 l a5) fun(a6:Prod qa Bool)=>if more.length+a6.1.Needs.length≤maxLen∧(more.length+a6.1.Needs.length)*16≤140737488355328 then some (Sum.inl (more++a6.1.Needs,a4,w64 (k+1))) else none else none else none else some (Sum.inl (more,out,w64 (k+1))) else none else some (Sum.inr (more,out))
def JH (next:List ByteArray) (l:List qa):(List ByteArray×List ByteArray×Int)→Option ((List ByteArray×List ByteArray×Int)⊕(List ByteArray×List ByteArray))|(more,out,k)=>if k<((next.length:Nat):Int) then if 0≤k∧k<((next.length:Nat):Int) then Option.bind next[Int.toNat k]? fun(a:ByteArray)=>Option.bind (Z2 out a) fun(a2:Bool)=>if(!a2)=Bool.true then if 0≤k∧k<((next.length:Nat):Int) then Option.bind next[Int.toNat k]? fun(a3:ByteArray)=>Option.bind (Qr out a3) fun(a4:List ByteArray)=>if 0≤k∧k<((next.length:Nat):Int) then Option.bind next[Int.toNat k]? fun(a5:ByteArray)=>Option.bind (J7 l a5) fun(a6:Prod qa Bool)=>if more.length+a6.1.Needs.length≤maxLen∧(more.length+a6.1.Needs.length)*16≤140737488355328 then some (Sum.inl (more++a6.1.Needs,a4,w64 (k+1))) else none else none else none else some (Sum.inl (more,out,w64 (k+1))) else none else some (Sum.inr (more,out))
def zM (l:List qa):(List ByteArray×List ByteArray)→Option ((List ByteArray×List ByteArray)⊕(List ByteArray))|(next,out)=>if 0<((next.length:Nat):Int) then Option.bind (zE (JH next l) ([],(out,0))) fun(a:Prod (List ByteArray) (List ByteArray))=>some (Sum.inl (a.1,a.2)) else some (Sum.inr out)
def JF (l:List qa) (out:List ByteArray) (next:List ByteArray):Option (List ByteArray):=if 0<((next.length:Nat):Int) then Option.bind (zE (zP l next) ([],(out,0))) fun(a:Prod (List ByteArray) (List ByteArray))=>Option.bind (zE (zM l) (a.1,a.2)) fun(e0:List ByteArray)=>some e0 else some out
def q0q (l:List qa) (code:ByteArray):Option (List ByteArray):=Option.bind (J7 l code) fun(a:Prod qa Bool)=>Option.bind (JF l [] a.1.Needs) fun(a2:List ByteArray)=>some a2
theorem qoM:okL 11 q6g:=zl (qd qkE) (by kernel_rfl) (by kernel_rfl)
def qpf:=JA_ @q6g.eq_1 (JA_ @Try.f11.eq_1 @qkE)
theorem qjI:lbO 11 3=qa2:=QA (qd qkE) rfl
theorem qli:okL 11 qa2:=zY qoM (qt5 (i:=0) (by kernel_rfl))
theorem qiJ:lbO 11 33=q7g:=QA (qd qkE) rfl
theorem qio:okL 11 q7g:=zY qoM (qt5 (i:=1) (by kernel_rfl))
def Qf (b0:q6Q Int) (t0:List qa):(List qa×Int)→Option ((List qa×Int)⊕(List qa))|(w1,t6)=>if t6<((t0.length:Nat):Int) then if 0≤t6∧t6<((t0.length:Nat):Int) then Option.bind t0[Int.toNat t6]? fun(a:qa)=>Option.bind (Zy a) fun(a2:Prod ByteArray (Prod Int (Prod Int (Prod (List Int) (List ByteArray)))))=>if w1.length+1≤maxLen∧(w1.length+1)*80≤140737488355328 then some (Sum.inl (w1++[qa.mk a2.1 a2.2.1 a2.2.2.1 a2.2.2.2.1 a2.2.2.2.2],w64 (t6+1))) else none else none else some (Sum.inr w1)
theorem q3n:∀(w1:List qa) (b0_0 b0_1 b0_2:Int) (t0:List qa) (t6:Int) (w1_len:Nat),w1_len=w1.length→XL2 evo 11 0 3 ⟨[(0,rL 5 qb t0),(3,rP 0),(5,rO 1 5 w1_len),(6,rI t6)],[(0,B.blk 23 [dI b0_0,dI b0_1,dI b0_2]),(1,B.row 35 5 (w1.flatMap ql))],2,186⟩=(zE (Qf (q6Q.mk b0_0 b0_1 b0_2) t0) (w1,t6)).bind (fun(e:List qa)=>some (Exit.exit 0,⟨[(3,rP 0),(5,rO 1 5 e.length)],[(0,B.blk 23 [dI b0_0,dI b0_1,dI b0_2]),(1,B.row 35 5 (e.flatMap ql))],2,186⟩)):=
 by
 intro w1 b0_0 b0_1 b0_2 t0 t6 w1_len h0
 subst h0
 revert t6;revert w1;exact qjx qjI qli (fun e=>by exact⟨_,rfl,fun h=>by cases h⟩) fun w1 t6=>by
  have:=qpf;have:=@qa2.eq_1;have:=@q4n;have:=@Qf.eq_1;exact gA
theorem q1y:∀  (b0_0 b0_1 b0_2:Int) (t0:List qa) (t6:Int),XL2 evo 11 0 3 ⟨[(0,rL 5 qb t0),(3,rP 0),(5,rO 1 5 0),(6,rI t6)],[(0,B.blk 23 [dI b0_0,dI b0_1,dI b0_2]),(1,B.row 35 5 [])],2,186⟩=(zE (Qf (q6Q.mk b0_0 b0_1 b0_2) t0) ([],t6)).bind (fun(e:List qa)=>some (Exit.exit 0,⟨[(3,rP 0),(5,rO 1 5 e.length)],[(0,B.blk 23 [dI b0_0,dI b0_1,dI b0_2]),(1,B.row 35 5 (e.flatMap ql))],2,186⟩)):=by
 intro b0_0 b0_1 b0_2 t0 t6;have h:=q3n [] ((q6Q.mk b0_0 b0_1 b0_2)).a0 ((q6Q.mk b0_0 b0_1 b0_2)).a1 ((q6Q.mk b0_0 b0_1 b0_2)).a2 t0 t6 _ rfl
 first
  | exact h
  | (simp only[rL,dL,bR,bZ,Nat.reduceAdd] at h;exact h)
def Qi (t7:Int):(List qa)→Option ((List qa)⊕(List qa))|w0=>if((w0.length:Nat):Int)<w64 (60+Int.tmod t7 2) then if ByteArray.size (ByteArray.mk (List.toArray [89]))+ByteArray.size (strOf [IntKind.wrap IntKind.u8 (w64 (65+w64 (Int.tdiv ((w0.length:Nat):Int) 10))),IntKind.wrap IntKind.u8 (w64 (48+Int.tmod ((w0.length:Nat):Int) 10))])≤9223372036854775807 then if w0.length+1≤maxLen∧(w0.length+1)*80≤140737488355328 then some (Sum.inl (w0++[qa.mk (ByteArray.mk (List.toArray [89])++strOf [IntKind.wrap IntKind.u8 (w64 (65+w64 (Int.tdiv ((w0.length:Nat):Int) 10))),IntKind.wrap IntKind.u8 (w64 (48+Int.tmod ((w0.length:Nat):Int) 10))]) 1 0 [] []])) else none else none else some (Sum.inr w0)
theorem q2G:∀(w0:List qa) (t7:Int) (w0_len:Nat),w0_len=w0.length→XL2 evo 11 0 33 ⟨[(5,rO 0 5 w0_len),(7,rI t7)],[(0,B.row 35 5 (w0.flatMap ql))],1,186⟩=(zE (Qi t7) w0).bind (fun(e:List qa)=>some (Exit.exit 3,⟨[(5,rO 0 5 e.length)],[(0,B.row 35 5 (e.flatMap ql))],1,186⟩)):=
 by
 intro w0 t7 w0_len h0
 subst h0
 revert w0;exact q5U qiJ qio (fun e=>by exact⟨_,rfl,fun h=>by cases h⟩) fun x=>by
  have:=qpf;have:=@q7g.eq_1;have:=@Qi.eq_1;exact gA
def Zr (x0:List qa) (x1:q6Q Int):Option (List qa):=Option.bind (zE (Qf x1 x0) ([],0)) fun(a:List qa)=>if(((a.length:Nat):Int)==0)=Bool.true then some a else Option.bind (Z1 x1.a1 72) fun(a2:Int)=>Option.bind (Z1 x1.a2 ((a.length:Nat):Int)) fun(a3:Int)=>if 0≤a3∧a3<((a.length:Nat):Int) then Option.bind (Z1 x1.a0 11) fun(a4:Int)=>if(a4==0)=Bool.true then if 0≤Int.tmod a2 8∧Int.tmod a2 8<8 then Option.bind [ByteArray.mk (List.toArray []),ByteArray.mk (List.toArray [97]),ByteArray.mk (List.toArray [65,66,67,68,69,70,71,72,73]),ByteArray.mk (List.toArray [65,49]),ByteArray.mk (List.toArray [66,50]),ByteArray.mk (List.toArray [90]),ByteArray.mk (List.toArray [65,66,67,68,69,70,71,72]),ByteArray.mk (List.toArray [65,32,49])][Int.toNat (Int.tmod a2 8)]? fun(a5:ByteArray)=>if Int.toNat a3*5+1≤a.length*5 then some (List.modify a (Int.toNat a3) (fun(x:qa)=>qa.mk a5 x.Credits x.Places x.Slots x.Needs)) else none else none else if(a4==1)=Bool.true then if Int.toNat a3*5+1+1≤a.length*5 then some (List.modify a (Int.toNat a3) (fun(x2:qa)=>qa.mk x2.Code (w64 (a2-5)) x2.Places x2.Slots x2.Needs)) else none else if(a4==2)=Bool.true then if 0≤Int.tmod a2 4∧Int.tmod a2 4<4 then Option.bind [(-1),0,200,201][Int.toNat (Int.tmod a2 4)]? fun(a6:Int)=>if Int.toNat a3*5+2+1≤a.length*5 then some (List.modify a (Int.toNat a3) (fun(x3:qa)=>qa.mk x3.Code x3.Credits a6 x3.Slots x3.Needs)) else none else none else if(a4==3)=Bool.true then Option.bind a[Int.toNat a3]? fun(a7:qa)=>if a7.Slots.length+1≤maxLen∧(a7.Slots.length+1)*8≤140737488355328 then if Int.toNat a3*5+3<a.length*5 then some (List.modify a (Int.toNat a3) (fun(x4:qa)=>qa.mk x4.Code x4.Credits x4.Places (a7.Slots++[w64 (a2-20)]) x4.Needs)) else none else none else if(a4==4)=Bool.true then Option.bind a[Int.toNat a3]? fun(a8:qa)=>if a8.Slots.length+1≤maxLen∧(a8.Slots.length+1)*8≤140737488355328 then if Int.toNat a3*5+3<a.length*5 then some (List.modify a (Int.toNat a3) (fun(x5:qa)=>qa.mk x5.Code x5.Credits x5.Places (a8.Slots++[w64 (40+Int.tmod a2 2)]) x5.Needs)) else none else none else if(a4==5)=Bool.true then Option.bind a[Int.toNat a3]? fun(a9:qa)=>Option.bind a[Int.toNat a3]? fun(a10:qa)=>if 0≤Int.tmod a2 6∧Int.tmod a2 6<((qf.length:Nat):Int) then Option.bind qf[Int.toNat (Int.tmod a2 6)]? fun(a11:ByteArray)=>if a9.Needs.length+1≤maxLen∧(a9.Needs.length+1)*16≤140737488355328 then if((if(!(List.all (@spr (List.flatMap ql a) (Int.toNat a3*5+4) [C.own 2 1 0 a9.Needs.length]) (@C.farF [2])))=Bool.true then Bool.true else Bool.false)||List.all (@spr (List.flatMap ql a) (Int.toNat a3*5+4) [C.own 2 1 0 a9.Needs.length]) (@C.farF [2]))=Bool.true then if Int.toNat a3*5+4<a.length*5 then some (List.modify a (Int.toNat a3) (fun(x6:qa)=>qa.mk x6.Code x6.Credits x6.Places x6.Slots (a9.Needs++[a11]))) else none else none else none else none else if(a4==6)=Bool.true then if 0≤Int.tmod a2 6∧Int.tmod a2 6<((qf.length:Nat):Int) then Option.bind qf[Int.toNat (Int.tmod a2 6)]? fun(a12:ByteArray)=>if Int.toNat a3*5+4<a.length*5 then some (List.modify a (Int.toNat a3) (fun(x7:qa)=>qa.mk x7.Code x7.Credits x7.Places x7.Slots [a12])) else none else none else if(a4==7)=Bool.true then Option.bind a[Int.toNat a3]? fun(a13:qa)=>if a13.Needs.length+1≤maxLen∧(a13.Needs.length+1)*16≤140737488355328 then if Int.toNat a3*5+4<a.length*5 then some (List.modify a (Int.toNat a3) (fun(x8:qa)=>qa.mk x8.Code x8.Credits x8.Places x8.Slots (a13.Needs++[ByteArray.mk (List.toArray [90])]))) else none else none else if(a4==8)=Bool.true then if 0≤Int.tmod a2 7∧Int.tmod a2 7≤6 then if Int.toNat a3*5+4<a.length*5 then some (List.modify a (Int.toNat a3) (fun(x9:qa)=>qa.mk x9.Code x9.Credits x9.Places x9.Slots (List.take (Int.toNat (Int.tmod a2 7)) [ByteArray.mk (List.toArray [65,49]),ByteArray.mk (List.toArray [66,49]),ByteArray.mk (List.toArray [66,50]),ByteArray.mk (List.toArray [67,49]),ByteArray.mk (List.toArray [68,49]),ByteArray.mk (List.toArray [69,57])]))) else none else none else if(a4==9)=Bool.true then if((a.length:Nat):Int)=0 then none else if 0≤Int.tmod a2 ((a.length:Nat):Int)∧Int.tmod a2 ((a.length:Nat):Int)<((a.length:Nat):Int) then Option.bind a[Int.toNat (Int.tmod a2 ((a.length:Nat):Int))]? fun(a14:qa)=>Option.bind a[Int.toNat a3]? fun(a15:qa)=>if Int.toNat a3*5+5≤a.length*5 then if 0≤Int.tmod a2 ((a.length:Nat):Int)∧Int.tmod a2 ((a.length:Nat):Int)<((a.length:Nat):Int) then if Int.toNat (Int.tmod a2 ((a.length:Nat):Int))*5+5≤a.length*5 then some (List.set (List.set a (Int.toNat a3) a14) (Int.toNat (Int.tmod a2 ((a.length:Nat):Int))) a15) else none else none else none else none else if(a4==10)=Bool.true then Option.bind (zE (Qi a2) a) fun(a16:List qa)=>some a16 else some a else none
theorem q4B:∀(x0:List qa) (x1_0 x1_1 x1_2:Int),ev 11 0 [rL 5 qb x0,R.agg [dI x1_0,dI x1_1,dI x1_2]] []=(Zr x0 (q6Q.mk x1_0 x1_1 x1_2)).bind (fun(e:List qa)=>some (rL 5 qb e,[])):=
 fun x0 x1_0 x1_1 x1_2=>by
  rw[z8 qkE qqo.2.2.2 qoM]
  have:=qpf;have:=@q1y;have:=@q1Q;have:=@q0E;have:=@q2G;have:=@Zr.eq_1;exact gA
end


noncomputable section
open Go.RowKit
def qhD (d:qh):Prop:=d.L.length≤maxLen∧0≤d.At∧d.At≤(d.L.length:Int)
theorem q8e (a n:Int) (h0:0<n) (h1:n≤1000):∃v,Z1 a n=some v∧0≤v∧v<n:=by
 unfold Z1
 rw[if_neg (by omega),if_neg (by omega)]
 refine⟨_,rfl,?_⟩
 have h2 : -n<Int.tmod a n:=Int.lt_tmod_of_pos a h0
 have h3:Int.tmod a n<n:=Int.tmod_lt_of_pos a h0
 rw[J9 (by omega) (by omega)]
 exact⟨Int.tmod_nonneg _ (by omega),Int.tmod_lt_of_pos _ h0⟩
theorem q2P {d:qh} (hd:qhD d) (n:Int) (h0:0<n) (h1:n≤1000):∃v d',zb n d=some (v,d')∧0≤v∧v<n∧qhD d':=by
 obtain⟨h2,h3,h4⟩:=hd
 unfold maxLen at h2
 unfold zb
 by_cases h:((d.L.length:Nat):Int)≤d.At
 ·rw[if_pos h]
  exact⟨_,_,rfl,Int.le_refl _,h0,by unfold maxLen;exact h2,h3,h4⟩
 ·rw[if_neg h,J9 (n:=d.At+1) (by omega) (by omega),J9 (n:=d.At+1-1) (by omega) (by omega),if_pos (by omega),qt6 (show(d.At+1-1).toNat<d.L.length by omega),qt4]
  obtain⟨v,h5,h6,h7⟩:=q8e (d.L[(d.At+1-1).toNat]'(by omega)) n h0 h1
  rw[h5]
  exact⟨v,_,rfl,h6,h7,by unfold maxLen;exact h2,by show(0:Int)≤d.At+1;omega,by show d.At+1≤(d.L.length:Int);omega⟩
def qq7 (l:List Int):Prop:=l.length≤6∧(∀x∈l,1≤x∧x≤40)∧l.Pairwise (· < ·)
theorem q7L {α:Type} {r:α→α→Prop} {l:List α} {a:α} (h:l.Pairwise r) (h2:∀x∈l,r x a):(l++[a]).Pairwise r:=by
 rw[List.pairwise_append]
 exact⟨h,List.pairwise_singleton _ _,fun x hx y hy=>by rw[qtT] at hy;subst hy;exact h2 x hx⟩
theorem qm8 (w1:List qa) (b2_Code:ByteArray) (b2_Credits b2_Places:Int) (t5:List ByteArray) (t6:Int) :
  ∀(n:Nat) (w3:List Int) (b0:qh) (t8:Int),qhD b0→0≤t8→t8≤4→(t8=0∨t8+n=5)→w3.length≤4→(0<t8→(w3.length:Int)<t8)→(∀x∈w3,1≤x∧x≤4)→w3.Pairwise (· < ·)→(0<t8→∀x∈w3,x<t8)→
   ∃w b,zE (zn w1 b2_Code b2_Credits b2_Places t5 t6) (w3,(b0,t8))=some (w,b)∧qq7 w∧qhD b:=by
 intro n
 induction n with
 | zero=>
  intro w3 b0 t8 hb h0 h4 ht hl hl2 hx hp hlt
  obtain rfl:t8=0:=by omega
  exact⟨w3,b0,zg (by unfold zn;rfl),⟨by omega,fun x h=>by have:=hx x h;omega,hp⟩,hb⟩
 | succ n ih=>
  intro w3 b0 t8 hb h0 h4 ht hl hl2 hx hp hlt
  by_cases h:0<t8
  ·have hl3:=hl2 h
   have hlt:=hlt h
   obtain⟨v,d,h5,h6,h7,h8⟩:=q2P hb 2 (by omega) (by omega)
   have hx':∀x∈w3++[t8],1≤x∧x≤4:=fun x h=>by
    rcases qty.1 h with h|h
    ·exact hx x h
    ·rw[qtT] at h;subst h;omega
   have hp':(w3++[t8]).Pairwise (· < ·):=q7L hp hlt
   have hidx:w64 (((w3.length+1:Nat):Int)-1)=(w3.length:Int):=by rw[J9 (by omega) (by omega)];omega
   have hget:(w3++[t8])[w3.length]?=some t8:=by simp
   have hs:zn w1 b2_Code b2_Credits b2_Places t5 t6 (w3,(b0,t8))=some (.inl (w3++[t8],(d,if v=1∧t8<4 then t8+1 else 0))):=by
    unfold zn
    simp only[]
    rw[if_pos h,if_pos (by unfold maxLen;omega),h5,qt4]
    simp only[hidx,qt7,hget,qt4]
    by_cases hv:v=1
    ·subst hv
     rw[if_pos (by decide),if_pos (by omega)]
     by_cases h9:t8<4
     ·rw[if_pos h9,if_pos (by omega),if_pos ⟨rfl,h9⟩,J9 (by omega) (by omega)]
     ·rw[if_neg h9,if_neg (by omega)]
    ·rw[if_neg (by simpa using hv),if_neg (by omega)]
   rw[zS hs]
   by_cases h9:v=1∧t8<4
   ·rw[if_pos h9]
    exact ih _ d (t8+1) h8 (by omega) (by omega) (by omega) (by simp;omega) (fun _=>by simp;omega) hx' hp' (fun _ x hx=>by
     rcases qty.1 hx with hx|hx
     ·have:=hlt x hx;omega
     ·rw[qtT] at hx;omega)
   ·rw[if_neg h9]
    exact ih _ d 0 h8 (by omega) (by omega) (.inl rfl) (by simp;omega) (fun h=>by omega) hx' hp' (fun h=>by omega)
  ·obtain rfl:t8=0:=by omega
   exact⟨w3,b0,zg (by unfold zn;rfl),⟨by omega,fun x h=>by have:=hx x h;omega,hp⟩,hb⟩
def blt (a b:ByteArray):Prop:=Op.bytesLess a.toList b.toList=true
def qsc (M:List qa) (i:Nat) (o:qa):Prop:=
 o.Code∈qf∧1≤o.Credits∧o.Credits≤60∧0≤o.Places∧o.Places≤200∧qq7 o.Slots∧o.Needs.length≤2∧o.Needs.Pairwise blt∧∀c∈o.Needs,∃j p,j<i∧M[j]?=some p∧p.Code=c
def q4Q (M:List qa):Prop:=M.length≤6∧(∀i o,M[i]?=some o→qsc M i o)∧M.Pairwise fun a b=>blt a.Code b.Code
theorem qkb (w1:List qa) (hw:w1.length≤6) (hp:w1.Pairwise fun a b=>blt a.Code b.Code) (w3:List Int) (b2_Code:ByteArray) (b2_Credits b2_Places:Int) (t5:List ByteArray) (t6:Int) :
  ∀(n i:Nat) (w4:List ByteArray) (b0:qh),n+i=w1.length→qhD b0→w4.length≤2→w4.Pairwise blt→(∀c∈w4,∃j p,j<i∧w1[j]?=some p∧p.Code=c)→
   ∃w b,zE (zD w1 w3 b2_Code b2_Credits b2_Places t5 t6) (w4,(b0,(i:Int)))=some (w,b)∧qhD b∧w.length≤2∧w.Pairwise blt∧∀c∈w,∃j p,j<w1.length∧w1[j]?=some p∧p.Code=c:=by
 intro n
 induction n with
 | zero=>
  intro i w4 b0 hi hb hl hpw hin
  obtain rfl:i=w1.length:=by omega
  exact⟨w4,b0,zg (by unfold zD;simp only[];rw[if_neg (by omega)]),hb,hl,hpw,hin⟩
 | succ n ih=>
  intro i w4 b0 hi hb hl hpw hin
  have hlt:i<w1.length:=by omega
  obtain⟨v,d,h5,h6,h7,h8⟩:=q2P hb 3 (by omega) (by omega)
  have hs:zD w1 w3 b2_Code b2_Credits b2_Places t5 t6 (w4,(b0,(i:Int)))=some (.inl (if v=0∧w4.length<2 then w4++[w1[i].Code] else w4,(d,((i+1:Nat):Int)))):=by
   unfold zD
   simp only[]
   rw[if_pos (by omega),h5,qt4]
   simp only[qt7,qt6 hlt,qt4,Q6 hlt (by omega)]
   by_cases hv:v=0
   ·subst hv
    rw[if_pos (by decide)]
    by_cases h9:w4.length<2
    ·rw[if_pos (by omega),if_pos (by omega),if_pos (by unfold maxLen;omega),if_pos ⟨rfl,h9⟩]
    ·rw[if_neg (by omega),if_neg (by omega)]
   ·rw[if_neg (by simpa using hv),if_neg (by omega)]
  rw[zS hs]
  have hin':∀c∈w4,∃j p,j<i+1∧w1[j]?=some p∧p.Code=c:=fun c hc=>by
   obtain⟨j,p,h1,h2⟩:=hin c hc
   exact⟨j,p,by omega,h2⟩
  by_cases h9:v=0∧w4.length<2
  ·rw[if_pos h9]
   refine ih (i+1) _ d (by omega) h8 (by simp;omega) (q7L hpw fun c hc=>?_) (fun c hc=>?_)
   ·obtain⟨j,p,h1,h2,rfl⟩:=hin c hc
    have hj:=Zz h2
    rw[qt6 hj] at h2
    injection h2 with h2
    subst h2
    exact(List.pairwise_iff_getElem.1 hp) j i hj hlt h1
   ·rcases qty.1 hc with hc|hc
    ·exact hin' c hc
    ·rw[qtT] at hc;subst hc
     exact⟨i,_,by omega,qt6 hlt,rfl⟩
  ·rw[if_neg h9]
   exact ih (i+1) _ d (by omega) h8 hl hpw hin'
theorem qe8:qf.Pairwise blt:=by
 unfold qf
 show List.Pairwise (fun(a b:ByteArray)=>Op.bytesLess a.toList b.toList=true) _
 decide +kernel
theorem q2v:qf.length=6:=rfl
theorem qpK:∀(n i:Nat) (w1:List qa) (b0:qh),n+i=6→qhD b0→w1.length≤i→q4Q w1→(∀o∈w1,∃j,j<i∧qf[j]?=some o.Code)→
  ∃w,zE (z7 qf) (w1,(b0,(i:Int)))=some w∧q4Q w:=by
 intro n
 induction n with
 | zero=>
  intro i w1 b0 hi hb hl hm hc
  obtain rfl:i=6:=by omega
  exact⟨w1,zg (by unfold z7;simp only[];rw[q2v,if_neg (by omega)]),hm⟩
 | succ n ih=>
  intro i w1 b0 hi hb hl hm hc
  have hlt:i<qf.length:=by rw[q2v];omega
  have hc':∀o∈w1,∃j,j<i+1∧qf[j]?=some o.Code:=fun o ho=>by
   obtain⟨j,h1,h2⟩:=hc o ho
   exact⟨j,by omega,h2⟩
  obtain⟨v1,d1,h11,h12,h13,h14⟩:=q2P hb 5 (by omega) (by omega)
  by_cases hv:v1=4
  ·have hs:z7 qf (w1,(b0,(i:Int)))=some (.inl (w1,(d1,((i+1:Nat):Int)))):=by
    unfold z7
    simp only[]
    rw[if_pos (by omega),h11,qt4,if_pos (by subst hv;rfl),Q6 hlt (by rw[q2v];omega)]
   rw[zS hs]
   exact ih (i+1) w1 d1 (by omega) h14 (by omega) hm hc'
  ·obtain⟨v2,d2,h21,h22,h23,h24⟩:=q2P h14 6 (by omega) (by omega)
   obtain⟨v3,d3,h31,h32,h33,h34⟩:=q2P h24 6 (by omega) (by omega)
   obtain⟨v4,d4,h41,h42,h43,h44⟩:=q2P h34 4 (by omega) (by omega)
   obtain⟨cr,hcr,hcr1,hcr2⟩:∃cr,[(5:Int),(6:Int),(3:Int),(10:Int),(5:Int),(20:Int)][Int.toNat v2]?=some cr∧1≤cr∧cr≤60:=by
    have:v2=0∨v2=1∨v2=2∨v2=3∨v2=4∨v2=5:=by omega
    rcases this with rfl|rfl|rfl|rfl|rfl|rfl<;>exact⟨_,rfl,by decide,by decide⟩
   obtain⟨pl,hpl,hpl1,hpl2⟩:∃cr,[(2:Int),(1:Int),(0:Int),(30:Int),(200:Int),(3:Int)][Int.toNat v3]?=some cr∧0≤cr∧cr≤200:=by
    have:v3=0∨v3=1∨v3=2∨v3=3∨v3=4∨v3=5:=by omega
    rcases this with rfl|rfl|rfl|rfl|rfl|rfl<;>exact⟨_,rfl,by decide,by decide⟩
   obtain⟨sl,d5,h51,h52,h53⟩:=qm8 w1 qf[i] cr pl qf (i:Int) (5-v4.toNat) [] d4 v4 h44 h42 (by omega) (by omega) (by decide) (fun h=>by simpa using h) (fun x hx=>by cases hx) List.Pairwise.nil (fun _ x hx=>by cases hx)
   obtain⟨nd,d6,h61,h62,h63,h64,h65⟩:=qkb w1 hm.1 hm.2.2 sl qf[i] cr pl qf (i:Int) w1.length 0 [] d5 (by omega) h53 (by decide) List.Pairwise.nil (fun x hx=>by cases hx)
   have hs:z7 qf (w1,(b0,(i:Int)))=some (.inl (w1++[⟨qf[i],cr,pl,sl,nd⟩],(d6,((i+1:Nat):Int)))):=by
    unfold z7
    simp only[]
    rw[if_pos (by omega),h11,qt4,if_neg (by simpa using hv),if_pos (by omega),qt7,qt6 hlt,qt4,h21,qt4]
    simp only[]
    rw[if_pos (by omega),hcr,qt4,h31,qt4]
    simp only[]
    rw[if_pos (by omega),hpl,qt4,h41,qt4]
    simp only[]
    rw[h51,qt4]
    simp only[]
    rw[show(0:Int)=((0:Nat):Int) from rfl,h61,qt4,if_pos (by unfold maxLen;have:=hm.1;omega),Q6 hlt (by rw[q2v];omega)]
   rw[zS hs]
   have hmem:∀o∈w1,blt o.Code qf[i]:=fun o ho=>by
    obtain⟨j,h1,h2⟩:=hc o ho
    have hj:=Zz h2
    rw[qt6 hj] at h2
    injection h2 with h2
    rw[←h2]
    exact(List.pairwise_iff_getElem.1 qe8) j i hj hlt h1
   refine ih (i+1) _ d6 (by omega) h62 (by simp;omega) ⟨by simp;omega,fun j o hj=>?_,?_⟩ (fun o ho=>?_)
   ·by_cases e:j<w1.length
    ·rw[qtH e] at hj
     obtain⟨a1,a2,a3,a4,a5,a6,a7,a8,a9⟩:=hm.2.1 j o hj
     refine⟨a1,a2,a3,a4,a5,a6,a7,a8,fun c hc=>?_⟩
     obtain⟨k,p,b1,b2,b3⟩:=a9 c hc
     exact⟨k,p,b1,by rw[qtH (Zz b2)];exact b2,b3⟩
    ·have hj2:=Zz hj
     simp only[qtb,qtf,qtM] at hj2
     obtain rfl:j=w1.length:=by omega
     simp only[List.getElem?_concat_length,qtS] at hj
     subst hj
     refine⟨qtU hlt,hcr1,hcr2,hpl1,hpl2,h52,h63,h64,fun c hc=>?_⟩
     obtain⟨k,p,b1,b2,b3⟩:=h65 c hc
     exact⟨k,p,b1,by rw[qtH b1];exact b2,b3⟩
   ·exact q7L hm.2.2 hmem
   ·rcases qty.1 ho with ho|ho
    ·exact hc' o ho
    ·rw[qtT] at ho;subst ho
     exact⟨i,by omega,qt6 hlt⟩
theorem qiC (x0:List Int) (h:x0.length≤maxLen):∃M,Zx x0=some M∧q4Q M:=by
 obtain⟨w,h1,h2⟩:=qpK 6 0 [] ⟨x0,0⟩ rfl ⟨h,Int.le_refl _,by show(0:Int)≤(x0.length:Int);omega⟩ (by decide) ⟨by decide,fun i o hi=>by simp at hi,List.Pairwise.nil⟩ (fun o ho=>by cases ho)
 refine⟨w,?_,h2⟩
 unfold Zx
 have h1:zE (z7 qf) ([],(qh.mk x0 (0:Int),(0:Int)))=some w:=h1
 rw[h1];rfl
end
noncomputable section
open Go.RowKit
theorem qfR {a b:ByteArray} (h:a.toList=b.toList):a=b:=by
 rw[ByteArray.toList_eq,ByteArray.toList_eq] at h
 cases a with|mk a=>cases b with|mk b=>
 congr 1
 exact Array.toList_inj.1 h
theorem q7D (a b:ByteArray):(a.toList==b.toList)=decide (a=b):=by
 by_cases h:a=b
 ·subst h;simp
 ·rw[decide_eq_false h,beq_eq_false_iff_ne];exact fun e=>h (qfR e)
theorem q1U {a:ByteArray} (h:blt a a):False:=by
 unfold blt at h
 rw[q6p,qu2] at h
 exact List.lt_irrefl _ h
theorem qjR {a b:ByteArray} (h:blt a b):a≠b:=fun e=>by subst e;exact q1U h
section
variable {κ ν:Type} [DecidableEq κ]
theorem q0t {m:List (κ×ν)} {k:κ}:J8 m k=true↔k∈m.map Prod.fst:=by
 induction m with
 | nil=>simp[J8]
 | cons p m ih=>
  unfold J8
  by_cases h:k=p.1
  ·simp[h]
  ·simp[h,ih]
theorem q8I {m:List (κ×ν)} {k:κ} (v:ν) (h:J8 m k=false):q1M m k v=m++[(k,v)]:=by
 induction m with
 | nil=>rfl
 | cons p m ih=>
  unfold J8 at h
  unfold q1M
  by_cases e:k=p.1
  ·rw[if_pos e] at h;cases h
  ·rw[if_neg e] at h
   rw[if_neg e,ih h];rfl
theorem qeW (m:List (κ×ν)) (k:κ) (v:ν):(q1M m k v).map Prod.fst=if k∈m.map Prod.fst then m.map Prod.fst else m.map Prod.fst++[k]:=by
 induction m with
 | nil=>rfl
 | cons p m ih=>
  unfold q1M
  by_cases e:k=p.1
  ·rw[if_pos e,if_pos (by simp[e])];simp[e]
  ·rw[if_neg e,qtr,ih,qtr]
   by_cases h:k∈m.map Prod.fst
   ·rw[if_pos h,if_pos (qtc _ h)]
   ·rw[if_neg h,if_neg (fun h'=>(qtq.1 h').elim e h)];rfl
theorem qdQ {m:List (κ×ν)} (z:ν) {k:κ} {v:ν} (hn:(m.map Prod.fst).Nodup) (h:(k,v)∈m):Z5 z m k=v:=by
 induction m with
 | nil=>cases h
 | cons p m ih=>
  rw[qtr,List.nodup_cons] at hn
  unfold Z5
  rcases qtq.1 h with rfl|h
  ·rw[if_pos rfl]
  ·rw[if_neg (fun e=>hn.1 (by rw[←e];exact qtN.2 ⟨_,h,rfl⟩)),ih hn.2 h]
theorem q5e {m:List (κ×ν)} {z:ν} {k:κ} (h:k ∉ m.map Prod.fst):Z5 z m k=z:=by
 induction m with
 | nil=>rfl
 | cons p m ih=>
  unfold Z5
  rw[if_neg (fun e=>h (by rw[e];exact qtj)),ih (fun h'=>h (qtc _ h'))]
theorem q2M {l t:List κ} (hn:l.Nodup) (h:∀x∈l,x∈t):l.length≤t.length:=by
 induction l generalizing t with
 | nil=>simp
 | cons x l ih=>
  rw[List.nodup_cons] at hn
  have hx:=h x qtj
  have:=ih (t:=t.erase x) hn.2 fun y hy=>(List.mem_erase_of_ne (fun e=>hn.1 (by rw[←e];exact hy))).2 (h y (qtc _ hy))
  rw[List.length_erase_of_mem hx] at this
  have:=List.length_pos_of_mem hx
  simp only[qtf];omega
end
end
noncomputable section
open Go.RowKit
def KpS (m3:List (ByteArray×Bool)):Prop:=(m3.map Prod.fst).Nodup∧∀k∈m3.map Prod.fst,k∈qf
theorem KpS.put {m3:List (ByteArray×Bool)} (h:KpS m3) {d:ByteArray} (hd:d∈qf):KpS (q1M m3 d true):=by
 unfold KpS
 rw[qeW]
 by_cases e:d∈m3.map Prod.fst
 ·rw[if_pos e];exact h
 ·rw[if_neg e]
  refine⟨?_,fun k hk=>?_⟩
  ·rw[List.nodup_append]
   exact⟨h.1,by simp,fun a ha b hb=>by rw[qtT] at hb;subst hb;exact fun e'=>e (by rw[←e'];exact ha)⟩
  ·rcases qty.1 hk with hk|hk
   ·exact h.2 k hk
   ·rw[qtT] at hk;subst hk;exact hd
theorem qcw {l:List ByteArray} (hl:l.length≤1000000) (v:ByteArray):qm l v=some (l.any fun a=>decide (v=a)):=by
 obtain⟨r,h1,h2⟩:=q5y l (fun a=>decide (v=a)) (qw l v ((l.length:Nat):Int))
  (fun i a ha=>by
   have:=Zz ha
   unfold qw
   rw[if_pos (by omega),if_pos (by omega),qt7,ha,qt4,q7D]
   cases(decide (v=a)) with
   | true=>rfl
   | false=>rw[if_neg (by decide),if_neg (by decide),Q6 this (by omega)])
  (by unfold qw;rw[if_neg (by omega)])
 obtain⟨n,h3,h4⟩:=q7b h2
 unfold qm qR
 rw[h1,qt4,h3,qt4,h4]
end
noncomputable section
open Go.RowKit
end
noncomputable section
open Go.RowKit
def q3p (b:UInt8):Bool:=(48≤b.toNat&&b.toNat≤57)||(65≤b.toNat&&b.toNat≤90)
theorem qfp (s:ByteArray) (i:Nat) (h:(s.get! i).toNat<128):Utf8.decode s i=((s.get! i).toNat,1):=by
 unfold Utf8.decode
 simp only[Nat.add_zero]
 rw[if_pos h]
theorem qgN (s:ByteArray) (i:Nat) (h:¬ (s.get! i).toNat<128):128≤(Utf8.decode s i).1:=by
 unfold Utf8.decode
 simp only[Nat.add_zero]
 rw[if_neg h]
 have hr:128≤Utf8.runeError:=by decide
 split
 ·split
  ·assumption
  ·exact hr
 ·split
  ·split
   ·rename_i h;simp only[ge_iff_le,qtA,qu2] at h;omega
   ·exact hr
  ·split
   ·split
    ·rename_i h;simp only[ge_iff_le,qtA,qu2] at h;omega
    ·exact hr
   ·exact hr
theorem q4Y (b:UInt8) (h:b.toNat<128):zI (b.toNat:Int) = !q3p b:=by
 unfold zI q3p
 by_cases h1:b.toNat<65
 ·rw[if_pos (by omega)]
  by_cases h2:b.toNat<48
  ·rw[if_pos (by omega)]
   have e1:decide (48≤b.toNat)=false:=decide_eq_false (by omega)
   have e2:decide (65≤b.toNat)=false:=decide_eq_false (by omega)
   simp[e1,e2]
  ·rw[if_neg (by omega)]
   have e1:decide (48≤b.toNat)=true:=qu3 (by omega)
   have e2:decide (65≤b.toNat)=false:=decide_eq_false (by omega)
   by_cases h3:b.toNat≤57
   ·have e3:decide (b.toNat≤57)=true:=qu3 h3
    have e4:decide ((57:Int)<b.toNat)=false:=decide_eq_false (by omega)
    simp[e1,e2,e3,e4]
   ·have e3:decide (b.toNat≤57)=false:=decide_eq_false h3
    have e4:decide ((57:Int)<b.toNat)=true:=qu3 (by omega)
    simp[e1,e2,e3,e4]
 ·rw[if_neg (by omega)]
  have e0:decide (b.toNat≤57)=false:=decide_eq_false (by omega)
  have e1:decide (65≤b.toNat)=true:=qu3 (by omega)
  by_cases h2:90<b.toNat
  ·rw[if_pos (by omega),if_neg (by omega)]
   have e3:decide (b.toNat≤90)=false:=decide_eq_false (by omega)
   have e4:decide ((57:Int)<b.toNat)=true:=qu3 (by omega)
   simp[e0,e1,e3,e4]
  ·rw[if_neg (by omega)]
   have e3:decide (b.toNat≤90)=true:=qu3 (by omega)
   simp[e0,e1,e3]
theorem qbD (n:Nat) (h:128≤n):zI (n:Int)=true:=by
 unfold zI
 rw[if_neg (by omega),if_pos (by omega),if_neg (by omega)]
 exact qu3 (by omega)
theorem qeL (s:ByteArray) (i:Nat) (h:i<s.size):s.get! i=s.data.toList.getD i 0:=by
 obtain⟨⟨l⟩⟩:=s
 have h':i<l.length:=h
 show(Array.mk l)[i]! = l.getD i 0
 simp[h',List.getD]
theorem q6U (s:ByteArray):∀(r:List UInt8) (p:Nat),r.length+p=s.size→(∀j,r[j]?=s.data.toList[p+j]?)→∃e,zE (qI s true) p=some e∧((∃i:Int,e = .inl i∧0≤i∧r.all q3p=false)∨(e = .inr ()∧r.all q3p=true)):=by
 intro r
 induction r with
 | nil=>
  intro p hp _
  have hp:p=s.size:=by simpa using hp
  subst hp
  refine⟨.inr (),zg ?_,.inr ⟨rfl,rfl⟩⟩
  unfold qI
  rw[if_neg (by omega)]
 | cons b r ih=>
  intro p hp hr
  simp only[qtf] at hp
  have hb:s.data.toList[p]?=some b:=by have:=hr 0;simpa using this.symm
  have hg:s.get! p=b:=by rw[qeL s p (by omega),List.getD,hb];rfl
  by_cases h:b.toNat<128
  ·have hd:=qfp s p (by rw[hg];exact h)
   rw[hg] at hd
   cases ho:q3p b
   ·refine⟨.inl (p:Int),zg ?_,.inl ⟨_,rfl,by omega,by simp[ho]⟩⟩
    unfold qI
    rw[if_pos (by omega),hd,q4Y b h,ho]
    rfl
   ·obtain⟨e,h1,h2⟩:=ih (p+1) (by omega) (fun j=>by rw[show p+1+j=p+(j+1) by omega,←hr (j+1)];rfl)
    refine⟨e,?_,by rw[List.all_cons,ho,qtB];exact h2⟩
    rw[zS (y:=p+1) (by
     unfold qI
     rw[if_pos (by omega),hd,q4Y b h,ho]
     rfl)]
    exact h1
  ·have hbig:=qgN s p (by rw[hg];exact h)
   have hbad:q3p b=false:=by
    unfold q3p
    have e1:decide (b.toNat≤57)=false:=decide_eq_false (by omega)
    have e2:decide (b.toNat≤90)=false:=decide_eq_false (by omega)
    simp[e1,e2]
   refine⟨.inl (p:Int),zg ?_,.inl ⟨_,rfl,by omega,by simp[hbad]⟩⟩
   unfold qI
   rw[if_pos (by omega),qbD _ hbig]
   rfl
def q7n (s:ByteArray):Bool:=decide (s.size≠0)&&decide (s.size≤8)&&s.data.toList.all q3p
theorem q9R (s:ByteArray):(s.toList==ByteArray.toList (ByteArray.mk (List.toArray [])))=decide (s.size=0):=by
 rw[ByteArray.toList_eq,ByteArray.toList_eq]
 obtain⟨⟨l⟩⟩:=s
 show(l==[])=decide (l.length=0)
 cases l<;>simp
theorem qhW (s:ByteArray):zo s=some (q7n s):=by
 unfold zo q7n
 rw[q9R]
 by_cases h0:s.size=0
 ·simp[h0]
 ·have e0:decide (s.size=0)=false:=decide_eq_false h0
  have e1:decide (s.size≠0)=true:=qu3 h0
  rw[e0,e1,if_pos (by rfl)]
  by_cases h8:s.size≤8
  ·have e2:decide (s.size≤8)=true:=qu3 h8
   obtain⟨e,h1,h2⟩:=q6U s s.data.toList 0 (by simp) (by simp)
   rw[if_pos (by omega),e2]
   unfold Q2 zX
   rw[h1,qt4]
   rcases h2 with ⟨i,rfl,hi,ha⟩|⟨rfl,ha⟩
   ·rw[Sum.elim_inl,qt4,qt4,ha]
    have:decide (i<0)=false:=decide_eq_false (by omega)
    rw[this];rfl
   ·rw[Sum.elim_inr,qt4,qt4,ha]
    rfl
  ·have e2:decide (s.size≤8)=false:=decide_eq_false h8
   rw[if_neg (by omega),e2]
   rfl
theorem q8P {ε:Type} {step:Int→Option (Int⊕ε)} (i0 n:Nat) (h0:i0≤n) (p:Nat→Bool) (e0 e1:ε) (h:∀i,i0≤i→i<n→step (i:Int)=some (if p i=true then .inl ((i+1:Nat):Int) else .inr e0)) (hn:step (n:Int)=some (.inr e1)) :
  zE step (i0:Int)=some (if(∀i,i<n→i0≤i→p i=true) then e1 else e0):=by
 have key:∀(j i:Nat),j+i=n→i0≤i→(∀k,k<i→i0≤k→p k=true)→zE step (i:Int)=some (if(∀i,i<n→i0≤i→p i=true) then e1 else e0):=by
  intro j
  induction j with
  | zero=>
   intro i hi _ hk
   rw[qts] at hi
   subst hi
   rw[zg hn,if_pos hk]
  | succ j ih=>
   intro i hi h1 hk
   have hs:=h i h1 (by omega)
   by_cases hp:p i=true
   ·rw[if_pos hp] at hs
    rw[zS hs]
    refine ih (i+1) (by omega) (by omega) fun k hk2 hk3=>?_
    rcases Nat.lt_or_ge k i with h1|h1
    ·exact hk k h1 hk3
    ·have:k=i:=by omega
     rw[this];exact hp
   ·rw[if_neg hp] at hs
    rw[zg hs,if_neg fun h2=>hp (h2 i (by omega) h1)]
 exact key (n-i0) i0 (by omega) (qtk _) fun k hk hk2=>by omega
def atB {α:Type} (l:List α) (q:α→Bool) (i:Nat):Bool:=match l[i]? with
 | some a=>q a
 | none=>true
theorem q5a {α:Type} {l:List α} {q:α→Bool} {i:Nat} {a:α} (h:l[i]?=some a):atB l q i=q a:=by unfold atB;rw[h]
theorem qiI {α:Type} (l:List α) (q:α→Bool):(∀i,i<l.length→0≤i→atB l q i=true)↔l.all q=true:=by
 rw[qtl]
 constructor
 ·intro h a ha
  obtain⟨i,hi⟩:=List.mem_iff_getElem?.1 ha
  have:=h i (Zz hi) (qtu _)
  rwa [q5a hi] at this
 ·intro h i hi _
  have ha:l[i]?=some l[i]:=qt6 hi
  rw[q5a ha]
  exact h _ (qtU hi)
end
noncomputable section
open Go.RowKit
theorem qcJ {κ:Type} {p q:κ→Bool} (h:∀x,q x=true→p x=true):∀U:List κ,(U.filter q).length≤(U.filter p).length
 | []=>qtk _
 | x::U=>by
  have:=qcJ h U
  rw[List.filter_cons,List.filter_cons]
  by_cases hq:q x=true
  ·rw[if_pos hq,if_pos (h x hq),qtf,qtf];omega
  ·rw[if_neg hq]
   split
   ·rw[qtf];omega
   ·exact this
theorem qax {κ:Type} {p q:κ→Bool} (h:∀x,q x=true→p x=true) {d:κ} (hp:p d=true) (hq:q d=false):∀U:List κ,d∈U→(U.filter q).length<(U.filter p).length
 | x::U,hd=>by
  rw[List.filter_cons,List.filter_cons]
  rcases qtq.1 hd with rfl|hd
  ·rw[if_neg (by rw[hq];decide),if_pos hp,qtf]
   have:=qcJ h U
   omega
  ·have:=qax h hp hq U hd
   by_cases hx:q x=true
   ·rw[if_pos hx,if_pos (h x hx),qtf,qtf];omega
   ·rw[if_neg hx]
    split
    ·rw[qtf];omega
    ·exact this
inductive Rc (m:List (ByteArray×List ByteArray)):ByteArray→ByteArray→Prop
 | one {c d:ByteArray}:d∈Z5 [] m c→Rc m c d
 | tail {c d e:ByteArray}:Rc m c d→e∈Z5 [] m d→Rc m c e
theorem Rc.head {m:List (ByteArray×List ByteArray)} {c d e:ByteArray} (h:d∈Z5 [] m c) (h2:Rc m d e):Rc m c e:=by
 induction h2 with
 | one h3=>exact .tail (.one h) h3
 | tail _ h3 ih=>exact .tail ih h3
theorem qay {m:List (ByteArray×List ByteArray)} (c:ByteArray):Z5 [] m c=[]∨∃q∈m,Z5 [] m c=q.2:=by
 induction m with
 | nil=>exact .inl rfl
 | cons p m ih=>
  unfold Z5
  by_cases h:c=p.1
  ·rw[if_pos h];exact .inr ⟨p,qtj,rfl⟩
  ·rw[if_neg h]
   rcases ih with e|⟨q,hq,e⟩
   ·exact .inl e
   ·exact .inr ⟨q,qtc _ hq,e⟩
def uni (m:List (ByteArray×List ByteArray)):List ByteArray:=m.flatMap Prod.snd
theorem JW {m:List (ByteArray×List ByteArray)} {c d:ByteArray} (h:d∈Z5 [] m c):d∈uni m:=by
 rcases qay (m:=m) c with e|⟨q,hq,e⟩
 ·rw[e] at h;cases h
 ·rw[e] at h;exact List.mem_flatMap.2 ⟨q,hq,h⟩
abbrev ks (m3:List (ByteArray×Bool)):List ByteArray:=m3.map Prod.fst
structure Sn (m3:List (ByteArray×Bool)):Prop where
 nd:(ks m3).Nodup
 tr:∀q∈m3,q.2=true
theorem Sn.get {m3:List (ByteArray×Bool)} (h:Sn m3) (d:ByteArray):Z5 false m3 d=true↔d∈ks m3:=by
 by_cases hd:d∈ks m3
 ·obtain⟨⟨k,v⟩,hq,e⟩:=qtN.1 hd
  have hv:=h.tr _ hq
  simp only at e hv
  subst e hv
  rw[qdQ false h.nd hq]
  exact⟨fun _=>hd,fun _=>rfl⟩
 ·rw[q5e hd]
  exact⟨fun e=>absurd e (by decide),fun e=>absurd e hd⟩
theorem Sn.put {m3:List (ByteArray×Bool)} (h:Sn m3) {d:ByteArray} (hd:d ∉ ks m3):Sn (q1M m3 d true)∧ks (q1M m3 d true)=ks m3++[d]:=by
 have hm:J8 m3 d=false:=by
  cases e:J8 m3 d
  ·rfl
  ·exact absurd (q0t.1 e) hd
 have e:q1M m3 d true=m3++[(d,true)]:=q8I true hm
 have e2:ks (q1M m3 d true)=ks m3++[d]:=by rw[e];unfold ks;simp
 refine⟨⟨?_,fun q hq=>?_⟩,e2⟩
 ·rw[e2,List.nodup_append]
  exact⟨h.nd,by simp,fun a ha b hb=>by rw[qtT] at hb;subst hb;exact fun e'=>hd (by rw[←e'];exact ha)⟩
 ·rw[e] at hq
  rcases qty.1 hq with hq|hq
  ·exact h.tr q hq
  ·rw[qtT.1 hq]
def ms (m:List (ByteArray×List ByteArray)) (m3:List (ByteArray×Bool)):Nat:=((uni m).filter fun x => !J8 m3 x).length
theorem qjr {m3:List (ByteArray×Bool)} {x:ByteArray}:(!J8 m3 x)=true↔x ∉ ks m3:=by
 rw[Bool.not_eq_true',←qu4]
 exact not_congr q0t
theorem qpq {m:List (ByteArray×List ByteArray)} {a b:List (ByteArray×Bool)} (h:∀x∈ks a,x∈ks b):ms m b≤ms m a:=
 qcJ (fun x hx=>qjr.2 fun e=>qjr.1 hx (h x e)) _
theorem qoZ {m:List (ByteArray×List ByteArray)} {a b:List (ByteArray×Bool)} (h:∀x∈ks a,x∈ks b) {d:ByteArray} (h1:d ∉ ks a) (h2:d∈ks b) (hu:d∈uni m):ms m b<ms m a:=
 qax (fun x hx=>qjr.2 fun e=>qjr.1 hx (h x e)) (qjr.2 h1) (by rw[q0t.2 h2];rfl) _ hu
theorem qdg {m:List (ByteArray×List ByteArray)} (hN:∀q∈m,q.2.length≤1000000):∀(n:Nat) (c:ByteArray) (m3:List (ByteArray×Bool)),ms m m3≤n→Sn m3→
  ∃m4,qM (c,(m,m3))=some (m,m4)∧Sn m4∧(∀x∈ks m3,x∈ks m4)∧(∀d∈Z5 [] m c,d∈ks m4)∧∀x∈ks m4,x∈ks m3∨(Rc m c x∧∀y∈Z5 [] m x,y∈ks m4):=by
 intro n
 induction n using Nat.strongRecOn with
 | ind n ih=>
  intro c m3 hms hs3
  have hlen:(Z5 [] m c).length≤1000000:=by
   rcases qay (m:=m) c with e|⟨q,hq,e⟩<;>rw[e]
   ·exact qtu _
   ·exact hN q hq
  have key:∀(j t:Nat) (m3:List (ByteArray×Bool)),j+t=(Z5 [] m c).length→ms m m3≤n→Sn m3→
    ∃m4,zE (qr qM (Z5 [] m c) (((Z5 [] m c).length:Nat):Int)) (m,(m3,(t:Int)))=some (m,m4)∧Sn m4∧(∀x∈ks m3,x∈ks m4)∧(∀d∈(Z5 [] m c).drop t,d∈ks m4)∧∀x∈ks m4,x∈ks m3∨(Rc m c x∧∀y∈Z5 [] m x,y∈ks m4):=by
   intro j
   induction j with
   | zero=>
    intro t m3 ht _ hs3
    refine⟨m3,zg ?_,hs3,fun x h=>h,fun d hd=>?_,fun x h => .inl h⟩
    ·unfold qr
     dsimp only
     rw[if_neg (by omega)]
    ·rw[qtK (by omega)] at hd;cases hd
   | succ j ihj=>
    intro t m3 ht hms hs3
    have hlt:t<(Z5 [] m c).length:=by omega
    have hin:(Z5 [] m c)[t]∈Z5 [] m c:=qtU hlt
    by_cases hb:(Z5 [] m c)[t]∈ks m3
    ·have hg:Z5 false m3 (Z5 [] m c)[t]=true:=(hs3.get _).2 hb
     have hs:qr qM (Z5 [] m c) (((Z5 [] m c).length:Nat):Int) (m,(m3,(t:Int)))=some (.inl (m,(m3,((t+1:Nat):Int)))):=by
      unfold qr
      dsimp only
      rw[if_pos (by omega),if_pos (by omega),qt7,qt6 hlt,qt4,hg,if_neg (by decide),Q6 hlt (by omega)]
     rw[zS hs]
     obtain⟨m4,g1,g2,g3,g4,g5⟩:=ihj (t+1) m3 (by omega) hms hs3
     refine⟨m4,g1,g2,g3,fun d hd=>?_,g5⟩
     rw[List.drop_eq_getElem_cons hlt] at hd
     rcases qtq.1 hd with rfl|hd
     ·exact g3 _ hb
     ·exact g4 d hd
    ·have hg:Z5 false m3 (Z5 [] m c)[t]=false:=q5e hb
     obtain⟨hs4,ek⟩:=hs3.put hb
     have hsub:∀x∈ks m3,x∈ks (q1M m3 (Z5 [] m c)[t] true):=fun x hx=>by rw[ek];exact qtg _ hx
     have hnew:(Z5 [] m c)[t]∈ks (q1M m3 (Z5 [] m c)[t] true):=by rw[ek];exact qtd _ (qtT.2 rfl)
     have hlt2:=qoZ (m:=m) hsub hb hnew (JW hin)
     obtain⟨m4,g1,g2,g3,g4,g5⟩:=ih (ms m (q1M m3 (Z5 [] m c)[t] true)) (by omega) (Z5 [] m c)[t] (q1M m3 (Z5 [] m c)[t] true) (qtk _) hs4
     have hs:qr qM (Z5 [] m c) (((Z5 [] m c).length:Nat):Int) (m,(m3,(t:Int)))=some (.inl (m,(m4,((t+1:Nat):Int)))):=by
      unfold qr
      dsimp only
      rw[if_pos (by omega),if_pos (by omega),qt7,qt6 hlt,qt4,hg,if_pos (by decide),g1,qt4,Q6 hlt (by omega)]
     rw[zS hs]
     have hms4:ms m m4≤n:=by
      have:=qpq (m:=m) (a:=m3) (b:=m4) fun x hx=>g3 x (hsub x hx)
      omega
     obtain⟨m5,k1,k2,k3,k4,k5⟩:=ihj (t+1) m4 (by omega) hms4 g2
     refine⟨m5,k1,k2,fun x hx=>k3 x (g3 x (hsub x hx)),fun d hd=>?_,fun x hx=>?_⟩
     ·rw[List.drop_eq_getElem_cons hlt] at hd
      rcases qtq.1 hd with rfl|hd
      ·exact k3 _ (g3 _ hnew)
      ·exact k4 d hd
     ·rcases k5 x hx with h|h
      ·rcases g5 x h with h|⟨h,h'⟩
       ·rw[ek] at h
        rcases qty.1 h with h|h
        ·exact .inl h
        ·rw[qtT] at h
         subst h
         exact .inr ⟨.one hin,fun y hy=>k3 y (g4 y hy)⟩
       ·exact .inr ⟨.head hin h,fun y hy=>k3 y (h' y hy)⟩
      ·exact .inr h
  obtain⟨m4,g1,g2,g3,g4,g5⟩:=key _ 0 m3 rfl hms hs3
  refine⟨m4,?_,g2,g3,fun d hd=>g4 d (by rw[List.drop_zero];exact hd),g5⟩
  rw[Jm]
  show Option.bind (zE (qr qM (Z5 [] m c) (((Z5 [] m c).length:Nat):Int)) (m,(m3,((0:Nat):Int)))) _=_
  rw[g1];rfl
theorem q4N {m:List (ByteArray×List ByteArray)} (hN:∀q∈m,q.2.length≤1000000) (c:ByteArray) (hz:∀d∈uni m,d.size≤maxLen) (hu:(uni m).length≤1000000) :
  ∃l,qH c m=some (Jv l,m)∧l.Nodup∧∀x,x∈l↔Rc m c x:=by
 obtain⟨m4,g1,g2,-,g4,g5⟩:=qdg hN _ c [] (qtk _) ⟨List.Pairwise.nil,fun q hq=>by cases hq⟩
 have hmem:∀x,x∈ks m4↔Rc m c x:=fun x=>by
  refine⟨fun hx=>?_,fun hx=>?_⟩
  ·rcases g5 x hx with h|h
   ·cases h
   ·exact h.1
  ·induction hx with
   | one h=>exact g4 _ h
   | tail _ h ih=>
    rcases g5 _ ih with h' | h'
    ·cases h'
    ·exact h'.2 _ h
 have hin:∀x∈ks m4,x∈uni m:=fun x hx=>by
  cases(hmem x).1 hx with
  | one h=>exact JW h
  | tail _ h=>exact JW h
 have hlen:=q2M g2.nd hin
 have hok:qiW (ks m4)=true:=by
  unfold qiW
  rw[qtA,qtA,qu2,qu2,qtl]
  exact⟨⟨g2.nd,fun k hk=>qu3 (hz k (hin k hk))⟩,by omega⟩
 refine⟨ks m4,?_,g2.nd,hmem⟩
 unfold qH
 rw[g1,qt4]
 dsimp only
 unfold zV
 rw[if_pos hok]
 rfl
end
noncomputable section
open Go.RowKit
def q6T {α:Type} (lt:α→α→Bool):List α→Bool
 | a::b::l=>lt a b&&q6T lt (b::l)
 | _=>true
theorem q2r {α:Type} (lt:α→α→Bool) (l:List α) (step:Int→Option (Int⊕(Unit⊕Unit)))
  (h:∀(i:Nat) a b,l[i]?=some a→l[i+1]?=some b→step ((i+1:Nat):Int)=some (if lt a b=true then .inl ((i+2:Nat):Int) else .inr (.inl ())))
  (hn:∀i:Nat,l.length≤i→step (i:Int)=some (.inr (.inr ()))) :
  ∀(n i:Nat),n+i=l.length→zE step ((i+1:Nat):Int)=some (if q6T lt (l.drop i)=true then .inr () else .inl ())
 | 0,i,hi=>by
  rw[zg (hn (i+1) (by omega)),qtK (by omega)];rfl
 | n+1,i,hi=>by
  have h1:i<l.length:=by omega
  by_cases h2:i+1<l.length
  ·have hs:=h i _ _ (qt6 h1) (qt6 h2)
   rw[List.drop_eq_getElem_cons h1,List.drop_eq_getElem_cons h2,q6T]
   cases hb:lt l[i] l[i+1]
   ·rw[hb,if_neg (by decide)] at hs
    rw[zg hs,Bool.false_and,if_neg (by decide)]
   ·rw[hb,if_pos rfl] at hs
    rw[zS hs,qtB,←List.drop_eq_getElem_cons h2]
    exact q2r lt l step h hn n (i+1) (by omega)
  ·rw[zg (hn (i+1) (by omega)),List.drop_eq_getElem_cons h1,qtK (by omega)];rfl
theorem qgg {l:List Int} (hl:l.length≤1000000):qZ l=some (q6T (fun a b=>decide (a<b)) l):=by
 have h:=q2r (fun a b:Int=>decide (a<b)) l (qB l) (fun i a b ha hb=>by
  have h1:=Zz ha
  have h2:=Zz hb
  have w1:w64 (((i+1:Nat):Int)-1)=(i:Int):=by rw[J9 (by omega) (by omega)];omega
  have w2:w64 (((i+1:Nat):Int)+1)=((i+2:Nat):Int):=by rw[J9 (by omega) (by omega)];omega
  unfold qB
  rw[if_pos (by omega),w1,if_pos (by omega),qt7,ha,qt4,if_pos (by omega),qt7,hb,qt4,w2]
  by_cases h:a<b
  ·rw[if_neg (by omega),if_pos (qu3 h)]
  ·rw[if_pos (by omega),if_neg (by rw[decide_eq_false h];decide)]) (fun i hi=>by
  unfold qB
  rw[if_neg (by omega)]) l.length 0 (by omega)
 rw[List.drop_zero] at h
 unfold qZ
 have h':zE (qB l) 1=_:=h
 rw[h',qt4]
 cases q6T (fun a b:Int=>decide (a<b)) l<;>rfl
abbrev bl (a b:ByteArray):Bool:=Op.bytesLess a.toList b.toList
theorem qik {l:List ByteArray} (hl:l.length≤1000000):qK l=some (q6T bl l):=by
 have h:=q2r bl l (qu l) (fun i a b ha hb=>by
  have h1:=Zz ha
  have h2:=Zz hb
  have w1:w64 (((i+1:Nat):Int)-1)=(i:Int):=by rw[J9 (by omega) (by omega)];omega
  have w2:w64 (((i+1:Nat):Int)+1)=((i+2:Nat):Int):=by rw[J9 (by omega) (by omega)];omega
  unfold qu
  rw[if_pos (by omega),w1,if_pos (by omega),qt7,ha,qt4,if_pos (by omega),qt7,hb,qt4,w2]
  cases h:bl a b
  ·rw[if_pos (by rw[show Op.bytesLess a.toList b.toList=false from h];decide),if_neg (by decide)]
  ·rw[if_neg (by rw[show Op.bytesLess a.toList b.toList=true from h];decide),if_pos rfl]) (fun i hi=>by
  unfold qu
  rw[if_neg (by omega)]) l.length 0 (by omega)
 rw[List.drop_zero] at h
 unfold qK
 have h':zE (qu l) 1=_:=h
 rw[h',qt4]
 cases q6T bl l<;>rfl
def farF (n:Int):Bool:=decide (n<1)||decide (40<n)
theorem qji (n:Int):Q0 n=farF n:=by
 unfold Q0 farF
 by_cases h:n<1
 ·rw[if_pos h,qu3 h,Bool.true_or]
 ·rw[if_neg h,decide_eq_false h,Bool.false_or]
theorem qgK {l:List Int} (hl:l.length≤1000000):qz l=some (l.any farF):=by
 obtain⟨r,h1,h2⟩:=q5y l farF (qA l ((l.length:Nat):Int))
  (fun i a ha=>by
   have:=Zz ha
   unfold qA
   rw[if_pos (by omega),if_pos (by omega),qt7,ha,qt4,qji]
   cases farF a with
   | true=>rfl
   | false=>rw[if_neg (by decide),if_neg (by decide),Q6 this (by omega)])
  (by unfold qA;rw[if_neg (by omega)])
 obtain⟨n,h3,h4⟩:=q7b h2
 unfold qz qX
 rw[h1,qt4,h3,qt4,h4]
def qfB (o:qa):Int:=
 if o.Credits<1∨60<o.Credits∨o.Places<0∨200<o.Places∨o.Slots.any farF=true then 3
 else if q6T (fun a b=>decide (a<b)) o.Slots=false then 7
 else if 5<o.Needs.length then 2
 else if q6T bl o.Needs=false then 7
 else 0
structure qn9 (o:qa):Prop where
 sl:o.Slots.length≤1000000
 nd:o.Needs.length≤1000000
theorem qbi {o:qa} (h:qn9 o):zC o=some (qfB o):=by
 unfold zC qfB
 rw[qgK h.sl,qgg h.sl,qik h.nd]
 by_cases h1:o.Credits<1
 ·rw[if_pos h1,if_pos (.inl h1)]
 by_cases h2:60<o.Credits
 ·rw[if_neg h1,if_pos h2,if_pos (.inr (.inl h2))]
 by_cases h3:o.Places<0
 ·rw[if_neg h1,if_neg h2,if_pos h3,if_pos (.inr (.inr (.inl h3)))]
 by_cases h4:200<o.Places
 ·rw[if_neg h1,if_neg h2,if_neg h3,if_pos h4,if_pos (.inr (.inr (.inr (.inl h4))))]
 rw[if_neg h1,if_neg h2,if_neg h3,if_neg h4,qt4]
 by_cases h5:o.Slots.any farF=true
 ·rw[if_pos h5,if_pos (.inr (.inr (.inr (.inr h5))))]
 have hn:¬ (o.Credits<1∨60<o.Credits∨o.Places<0∨200<o.Places∨o.Slots.any farF=true):=by
  rintro(h|h|h|h|h)
  ·exact h1 h
  ·exact h2 h
  ·exact h3 h
  ·exact h4 h
  ·exact h5 h
 rw[if_neg h5,if_neg hn,qt4]
 cases h6:q6T (fun a b:Int=>decide (a<b)) o.Slots
 ·rw[if_pos (by decide),if_pos rfl]
 rw[if_neg (show ¬ ((!true)=true) by decide),if_neg (show ¬ (true=false) by decide)]
 by_cases h7:5<o.Needs.length
 ·rw[if_pos (by omega),if_pos h7]
 rw[if_neg (by omega),if_neg h7,qt4]
 cases h8:q6T bl o.Needs
 ·rw[if_pos (by decide),if_pos rfl]
 ·rw[if_neg (show ¬ ((!true)=true) by decide),if_neg (show ¬ (true=false) by decide)]
def qaD (p:Option qa) (a:qa):Int:=
 if q7n a.Code=false then 12
 else match p with
  | none=>qfB a
  | some p=>if p.Code=a.Code then 6 else if bl p.Code a.Code=false then 7 else qfB a
def ckF:Option qa→List qa→Int
 | _,[]=>0
 | p,a::l=>if qaD p a≠0 then qaD p a else ckF (some a) l
theorem qfJ {L:List qa} (hL:L.length≤1000000) (hz:∀o∈L,qn9 o) (hc:∀o∈L,zo o.Code=some (q7n o.Code)):∀(n i:Nat) (p:Option qa),n+i=L.length→(p=if i=0 then none else L[i-1]?)→
  zE (qW L L ((L.length:Nat):Int)) (i:Int)=some (if ckF p (L.drop i)=0 then .inr () else .inl (ckF p (L.drop i)))
 | 0,i,p,hi,_=>by
  have hs:qW L L ((L.length:Nat):Int) (i:Int)=some (.inr (.inr ())):=by
   unfold qW
   dsimp only
   rw[if_neg (by omega)]
  rw[zg hs,qtK (by omega),ckF,if_pos rfl]
 | n+1,i,p,hi,hp=>by
  have h1:i<L.length:=by omega
  have hin:L[i]∈L:=qtU h1
  have w1:w64 ((i:Int)+1)=((i+1:Nat):Int):=Q6 h1 (by omega)
  rw[List.drop_eq_getElem_cons h1,ckF]
  have hs:qW L L ((L.length:Nat):Int) (i:Int)=some (if qaD p L[i]≠0 then .inr (.inl (qaD p L[i])) else .inl ((i+1:Nat):Int)):=by
   unfold qW qaD
   dsimp only
   rw[if_pos (by omega),if_pos (by omega),qt7,qt6 h1,qt4,hc _ hin,qt4]
   cases hcd:q7n L[i].Code
   ·rw[if_pos (show(!false)=true by decide),if_pos rfl,if_pos (by decide)]
   ·have t1:¬ ((!true)=true):=by decide
    have t2:¬ (true=false):=by decide
    have t3:¬ (false=true):=by decide
    have t4:(!false)=true:=by decide
    have fin:∀x:Int,(if(x != 0)=true then some (Sum.inr (Sum.inl x)) else some (Sum.inl ((i+1:Nat):Int)):Option (Int⊕(Int⊕Unit)))=some (if x≠0 then .inr (.inl x) else .inl ((i+1:Nat):Int)):=fun x=>by
     by_cases hx:x=0
     ·rw[if_neg (by rw[hx];decide),if_neg (by rw[hx];decide)]
     ·rw[if_pos (by simpa using hx),if_pos hx]
    simp only[if_neg t1,if_neg t2,qbi (hz _ hin)]
    by_cases h0:i=0
    ·rw[if_pos h0] at hp
     subst hp
     have q1:¬ (0:Int)<(i:Int):=by omega
     simp only[if_neg q1,qt4,w1]
     exact fin _
    ·rw[if_neg h0] at hp
     have h2:i-1<L.length:=by omega
     rw[qt6 h2] at hp
     subst hp
     have q1:(0:Int)<(i:Int):=by omega
     have w2:w64 ((i:Int)-1)=((i-1:Nat):Int):=by rw[J9 (by omega) (by omega)];omega
     have q2:(0:Int)≤((i-1:Nat):Int)∧((i-1:Nat):Int)<((L.length:Nat):Int):=⟨by omega,by omega⟩
     simp only[if_pos q1,w2,if_pos q2,qt7,qt6 h2,qt4,w1,q7D]
     by_cases he:L[i-1].Code=L[i].Code
     ·have hd:=qu3 he
      simp only[hd,if_pos he,if_true]
      rw[if_pos (show(6:Int)≠0 by decide)]
     ·have hd:=decide_eq_false he
      simp only[hd,if_neg he,if_neg t3,Bool.or_false]
      cases hb:Op.bytesLess L[i-1].Code.toList L[i].Code.toList
      ·rw[if_pos t4,if_pos (show bl L[i-1].Code L[i].Code=false from hb),if_pos (show(7:Int)≠0 by decide)]
      ·rw[if_neg t1,if_neg (show ¬ (bl L[i-1].Code L[i].Code=false) by rw[show bl L[i-1].Code L[i].Code=true from hb];decide)]
       exact fin _
  by_cases he:qaD p L[i]=0
  ·rw[if_neg (show ¬ (qaD p L[i]≠0) from fun e=>e he)] at hs
   rw[zS hs,if_neg (show ¬ (qaD p L[i]≠0) from fun e=>e he)]
   exact qfJ hL hz hc n (i+1) (some L[i]) (by omega) (by rw[if_neg (by omega),Nat.add_sub_cancel,qt6 h1])
  ·rw[if_pos he] at hs
   rw[zg hs,if_pos he,if_neg he]
end
noncomputable section
open Go.RowKit
section
variable {κ ν:Type} [DecidableEq κ]
theorem q3Q {m:List (κ×ν)} {k c:κ} {v:ν}:J8 (m++[(k,v)]) c=true↔J8 m c=true∨c=k:=by
 rw[q0t,q0t,List.map_append,qty,qtr,List.map_nil,qtT]
theorem q7S (z:ν) (k c:κ) (v:ν):∀m:List (κ×ν),Z5 z (m++[(k,v)]) c=if J8 m c=true then Z5 z m c else if c=k then v else z
 | []=>rfl
 | p::m=>by
  rw[qu8,Z5,J8,Z5]
  by_cases h:c=p.1
  ·rw[if_pos h,if_pos h,if_pos h,if_pos rfl]
  ·rw[if_neg h,if_neg h,if_neg h,q7S z k c v m]
end
def ixm:List qa→List (ByteArray×List ByteArray)→List (ByteArray×List ByteArray)
 | [],m=>m
 | o::L,m=>ixm L (if J8 m o.Code=true then m else m++[(o.Code,o.Needs)])
def q6f:List qa→ByteArray→List ByteArray
 | [],_=>[]
 | o::L,c=>if c=o.Code then o.Needs else q6f L c
theorem q4H {L:List qa} (hL:L.length≤1000000):Qg L=some (ixm L []):=by
 have key:∀(n i:Nat) (m:List (ByteArray×List ByteArray)),n+i=L.length→zE (zc L ((L.length:Nat):Int)) (m,(i:Int))=some (ixm (L.drop i) m):=by
  intro n
  induction n with
  | zero=>
   intro i m hi
   have hs:zc L ((L.length:Nat):Int) (m,(i:Int))=some (.inr m):=by
    unfold zc
    dsimp only
    rw[if_neg (by omega)]
   rw[zg hs,qtK (by omega),ixm]
  | succ n ih=>
   intro i m hi
   have h1:i<L.length:=by omega
   have w1:w64 ((i:Int)+1)=((i+1:Nat):Int):=Q6 h1 (by omega)
   have hs:zc L ((L.length:Nat):Int) (m,(i:Int))=some (.inl (if J8 m L[i].Code=true then m else m++[(L[i].Code,L[i].Needs)],((i+1:Nat):Int))):=by
    unfold zc
    dsimp only
    rw[if_pos (by omega),if_pos (by omega),qt7,qt6 h1,qt4,w1]
    cases hm:J8 m L[i].Code
    ·rw[if_pos (show(!false)=true by decide),if_neg (show ¬ (false=true) by decide),q8I _ hm]
    ·rw[if_neg (show ¬ ((!true)=true) by decide),if_pos rfl]
   rw[zS hs,List.drop_eq_getElem_cons h1,ixm]
   exact ih (i+1) _ (by omega)
 have h:=key L.length 0 [] (by omega)
 rw[List.drop_zero] at h
 have h':zE (zc L ((L.length:Nat):Int)) ([],(0:Int))=some (ixm L []):=h
 unfold Qg
 rw[h',qt4]
theorem q7C:∀(L:List qa) (m:List (ByteArray×List ByteArray)) (c:ByteArray),J8 (ixm L m) c=true↔J8 m c=true∨c∈L.map (·.Code)
 | [],m,c=>by simp[ixm]
 | o::L,m,c=>by
  rw[ixm,q7C L,qtr,qtq]
  by_cases h:J8 m o.Code=true
  ·rw[if_pos h]
   refine⟨fun h'=>h'.elim .inl fun h' => .inr (.inr h'),fun h'=>?_⟩
   rcases h' with h' | rfl|h'
   ·exact .inl h'
   ·exact .inl h
   ·exact .inr h'
  ·rw[if_neg h,q3Q]
   exact or_assoc
theorem qcA:∀(L:List qa) (m:List (ByteArray×List ByteArray)) (c:ByteArray),Z5 [] (ixm L m) c=if J8 m c=true then Z5 [] m c else q6f L c
 | [],m,c=>by
  rw[ixm,q6f]
  split
  ·rfl
  ·rename_i h
   exact q5e fun e=>h (q0t.2 e)
 | o::L,m,c=>by
  rw[ixm,qcA L,q6f]
  by_cases h:J8 m o.Code=true
  ·rw[if_pos h]
   by_cases hc:J8 m c=true
   ·rw[if_pos hc,if_pos hc]
   ·rw[if_neg hc,if_neg hc,if_neg (fun e=>hc (by rw[e];exact h))]
  ·rw[if_neg h,q7S]
   by_cases hc:J8 m c=true
   ·rw[if_pos (q3Q.2 (.inl hc)),if_pos hc,if_pos hc]
   ·by_cases he:c=o.Code
    ·rw[if_pos (q3Q.2 (.inr he)),if_neg hc,if_neg hc,if_pos he,if_pos he]
    ·rw[if_neg (fun e=>(q3Q.1 e).elim hc he),if_neg hc,if_neg he]
theorem q2R:∀(L:List qa) (m:List (ByteArray×List ByteArray)) {q:ByteArray×List ByteArray},q∈ixm L m→q∈m∨∃o∈L,q=(o.Code,o.Needs)
 | [],m,q,h => .inl h
 | o::L,m,q,h=>by
  rw[ixm] at h
  rcases q2R L _ h with h|⟨p,hp,e⟩
  ·split at h
   ·exact .inl h
   ·rcases qty.1 h with h|h
    ·exact .inl h
    ·exact .inr ⟨o,qtj,qtT.1 h⟩
  ·exact .inr ⟨p,qtc _ hp,e⟩
theorem qcv {κ ν:Type} {g:κ→ν→Option Bool} {f:κ×ν→Bool}:∀{M:List (κ×ν)},(∀q∈M,g q.1 q.2=some (f q))→anyO g M=some (M.any f)
 | [],_=>rfl
 | q::M,h=>by
  unfold anyO
  rw[h q qtj,qt4,qcv fun p hp=>h p (qtc _ hp),qt4,List.any_cons]
theorem q7v {l:List ByteArray} (hl:l.length≤1000000) (m:List (ByteArray×List ByteArray)):qq l m=some (l.any fun c => !J8 m c):=by
 obtain⟨r,h1,h2⟩:=q5y l (fun c => !J8 m c) (qt m l ((l.length:Nat):Int))
  (fun i a ha=>by
   have:=Zz ha
   unfold qt Qo
   rw[if_pos (by omega),if_pos (by omega),qt7,ha,qt4]
   cases(!J8 m a) with
   | true=>rfl
   | false=>rw[if_neg (by decide),if_neg (by decide),Q6 this (by omega)])
  (by unfold qt;rw[if_neg (by omega)])
 obtain⟨n,h3,h4⟩:=q7b h2
 unfold qq qE
 rw[h1,qt4,h3,qt4,h4]
theorem qgU {m:List (ByteArray×List ByteArray)} (hN:∀q∈m,q.2.length≤1000000):Q7 m=some (m.any fun q=>q.2.any fun c => !J8 m c):=by
 unfold Q7
 refine qcv fun q hq=>?_
 rw[q7v (hN q hq),qt4]
 cases(q.2.any fun c => !J8 m c)<;>rfl
theorem qgT {m:List (ByteArray×List ByteArray)} (hN:∀q∈m,q.2.length≤1000000) (hz:∀d∈uni m,d.size≤maxLen) (hu:(uni m).length≤1000000):∃b,Qp m=some b∧(b=true↔∃q∈m,Rc m q.1 q.1):=by
 have hq:∀q:ByteArray×List ByteArray,∃b:Bool,(Option.bind (qH q.1 m) fun(a2:Prod (List ByteArray) (List (Prod ByteArray (List ByteArray))))=>
   Option.bind (qm a2.1 q.1) fun(a3:Bool)=>if a3=Bool.true then some true else some false)=some b∧(b=true↔Rc m q.1 q.1):=fun q=>by
  obtain⟨l,h1,h2,h3⟩:=q4N hN q.1 hz hu
  have hlen:(Jv l).length≤1000000:=by
   rw[(Z8 l).length_eq]
   have:∀x∈l,x∈uni m:=fun x hx=>by
    cases(h3 x).1 hx with
    | one h=>exact JW h
    | tail _ h=>exact JW h
   have:=q2M h2 this
   omega
  refine⟨(Jv l).any fun a=>decide (q.1=a),?_,?_⟩
  ·rw[h1,qt4]
   dsimp only
   rw[qcw hlen,qt4]
   cases((Jv l).any fun a=>decide (q.1=a))<;>rfl
  ·rw[qtX,←h3]
   constructor
   ·rintro⟨x,hx,e⟩
    rw[qu2] at e
    subst e
    exact(Z8 l).mem_iff.1 hx
   ·intro h
    exact⟨q.1,(Z8 l).mem_iff.2 h,qu3 rfl⟩
 obtain⟨b,hb⟩:=q5z (g:=fun(a:ByteArray) (v:List ByteArray)=>Option.bind (qH a m) fun(a2:Prod (List ByteArray) (List (Prod ByteArray (List ByteArray))))=>
   Option.bind (qm a2.1 a) fun(a3:Bool)=>if a3=Bool.true then some true else some false) (M:=m) fun q _=>by
  obtain⟨b,h,-⟩:=hq q
  exact⟨b,h⟩
 refine⟨b,hb,?_⟩
 rw[(q2d hb).2]
 constructor
 ·rintro⟨q,h1,h2⟩
  obtain⟨c,h3,h4⟩:=hq q
  rw[h3] at h2
  injection h2 with h2
  exact⟨q,h1,h4.1 h2⟩
 ·rintro⟨q,h1,h2⟩
  obtain⟨c,h3,h4⟩:=hq q
  exact⟨q,h1,by rw[h3,h4.2 h2]⟩
end
noncomputable section
open Go.RowKit
theorem qiH {p:Option qa} {a:qa} (h:qaD p a=0):qfB a=0:=by
 unfold qaD at h
 split at h
 ·exact absurd h (by decide)
 ·split at h
  ·exact h
  ·split at h
   ·exact absurd h (by decide)
   ·split at h
    ·exact absurd h (by decide)
    ·exact h
theorem qiw {p:Option qa} {a:qa} {l:List qa} (h:ckF p (a::l)=0):qaD p a=0∧ckF (some a) l=0:=by
 rw[ckF] at h
 split at h
 ·rename_i h';exact absurd h h'
 ·rename_i h';exact⟨Classical.byContradiction fun e=>h' e,h⟩
theorem qg8:∀{l:List qa} {p:Option qa},ckF p l=0→∀o∈l,qfB o=0
 | a::l,p,h,o,ho=>by
  obtain⟨h1,h2⟩:=qiw h
  rcases qtq.1 ho with rfl|ho
  ·exact qiH h1
  ·exact qg8 h2 o ho
theorem qa0 {o:qa} (h:qfB o=0):o.Needs.length≤5:=by
 unfold qfB at h
 split at h
 ·exact absurd h (by decide)
 ·split at h
  ·exact absurd h (by decide)
  ·split at h
   ·exact absurd h (by decide)
   ·omega
theorem q5x:∀(L:List qa) (m:List (ByteArray×List ByteArray)),(ixm L m).length≤m.length+L.length
 | [],m=>qtk _
 | o::L,m=>by
  rw[ixm]
  have:=q5x L (if J8 m o.Code=true then m else m++[(o.Code,o.Needs)])
  rw[qtf]
  split at this
  ·rename_i h;rw[if_pos h];omega
  ·rename_i h;rw[if_neg h];rw[qtb,qtm] at this;omega
theorem q5S {k:Nat}:∀{m:List (ByteArray×List ByteArray)},(∀q∈m,q.2.length≤k)→(uni m).length≤m.length*k
 | [],_=>qtu _
 | q::m,h=>by
  have h1:=q5S fun p hp=>h p (qtc _ hp)
  have h2:=h q qtj
  show(q.2++uni m).length≤_
  rw[qtb,qtf,Nat.add_mul,Nat.one_mul];omega
abbrev ix (L:List qa):=ixm L []
def qmD (L:List qa):Prop:=∃q∈ix L,∃c∈q.2,c ∉ L.map (·.Code)
def qn8 (L:List qa):Prop:=∃c∈L.map (·.Code),Rc (ix L) c c
open Classical in
def qj0 (L:List qa):Int:=if 60<L.length then 2 else if ckF none L≠0 then ckF none L else if qmD L then 5 else if qn8 L then 14 else 0
theorem qfV {L:List qa} {c:ByteArray}:(∃q∈ix L,q.1=c)↔c∈L.map (·.Code):=by
 have h:=q7C L [] c
 rw[q0t,qtN] at h
 rw[show(∃q∈ix L,q.1=c)↔(J8 ([]:List (ByteArray×List ByteArray)) c=true∨c∈L.map (·.Code)) from h]
 exact⟨fun h=>h.elim (fun e=>by cases e) fun e=>e,.inr⟩
theorem qde {L:List qa} (hL:L.length≤1000000) (hz:∀o∈L,qn9 o) (hc:∀o∈L,zo o.Code=some (q7n o.Code)) (hs:∀o∈L,∀d∈o.Needs,d.size≤maxLen):qG L=some (qj0 L):=by
 unfold qG qj0
 by_cases h60:60<L.length
 ·rw[if_pos (by omega),if_pos h60]
 rw[if_neg (by omega),if_neg h60]
 have h4:=qfJ hL hz hc L.length 0 none (by omega) rfl
 rw[List.drop_zero] at h4
 have h4':zE (qW L L ((L.length:Nat):Int)) 0=_:=h4
 rw[h4',qt4]
 by_cases hk:ckF none L=0
 ·rw[if_pos hk,if_neg (show ¬ (ckF none L≠0) from fun e=>e hk),Sum.elim_inr,q4H hL,qt4]
  have hq5:∀q∈ix L,q.2.length≤5:=fun q hq=>by
   rcases q2R L [] hq with h|⟨o,ho,e⟩
   ·cases h
   ·rw[e];exact qa0 (qg8 hk o ho)
  have hN:∀q∈ix L,q.2.length≤1000000:=fun q hq=>by have:=hq5 q hq;omega
  have hil:(ix L).length≤L.length:=by have:=q5x L [];simpa using this
  have hul:=q5S hq5
  have hu:(uni (ix L)).length≤1000000:=by
   have:(ix L).length*5≤60*5:=Nat.mul_le_mul_right 5 (by omega)
   omega
  have hzz:∀d∈uni (ix L),d.size≤maxLen:=fun d hd=>by
   obtain⟨q,hq,hdq⟩:=List.mem_flatMap.1 hd
   rcases q2R L [] hq with h|⟨o,ho,e⟩
   ·cases h
   ·rw[e] at hdq;exact hs o ho d hdq
  obtain⟨b,h23,hb⟩:=qgT hN hzz hu
  have hh:∀c,(!J8 (ix L) c)=true↔c ∉ L.map (·.Code):=fun c=>by
   rw[Bool.not_eq_true',←qu4]
   refine not_congr ((q7C L [] c).trans ⟨fun h=>h.elim (fun e=>by cases e) fun e=>e,.inr⟩)
  have hmiss:((ix L).any fun q=>q.2.any fun c => !J8 (ix L) c)=true↔qmD L:=by
   rw[qtX]
   constructor
   ·rintro⟨q,h1,h2⟩
    rw[qtX] at h2
    obtain⟨c,h3,h4⟩:=h2
    exact⟨q,h1,c,h3,(hh c).1 h4⟩
   ·rintro⟨q,h1,c,h3,h4⟩
    exact⟨q,h1,qtX.2 ⟨c,h3,(hh c).2 h4⟩⟩
  have hcirc:b=true↔qn8 L:=by
   rw[hb]
   constructor
   ·rintro⟨q,h1,h2⟩
    exact⟨q.1,qfV.1 ⟨q,h1,rfl⟩,h2⟩
   ·rintro⟨c,h1,h2⟩
    obtain⟨q,h3,rfl⟩:=qfV.2 h1
    exact⟨q,h3,h2⟩
  rw[qgU hN,qt4]
  by_cases hm:qmD L
  ·rw[if_pos (hmiss.2 hm),if_pos hm]
  ·rw[if_neg (fun e=>hm (hmiss.1 e)),if_neg hm,h23,qt4]
   by_cases hci:qn8 L
   ·rw[if_pos (hcirc.2 hci),if_pos hci]
   ·rw[if_neg (fun e=>hci (hcirc.1 e)),if_neg hci]
 ·rw[if_neg hk,if_pos hk,Sum.elim_inl]
theorem qbS {L:List qa} (hL:L.length≤1000) (hn:∀o∈L,o.Needs.length≤1000) (hs:∀o∈L,∀d∈o.Needs,d.size≤maxLen) (c:ByteArray):∃l,qp L c=some (Jv l)∧l.Nodup∧(∀x,x∈l↔Rc (ix L) c x)∧∀x∈l,x∈uni (ix L):=by
 have hN:∀q∈ix L,q.2.length≤1000:=fun q hq=>by
  rcases q2R L [] hq with h|⟨o,ho,e⟩
  ·cases h
  ·rw[e];exact hn o ho
 have hil:(ix L).length≤L.length:=by have:=q5x L [];simpa using this
 have hul:=q5S hN
 have hu:(uni (ix L)).length≤1000000:=by
  have:(ix L).length*1000≤1000*1000:=Nat.mul_le_mul_right 1000 (by omega)
  omega
 have hzz:∀d∈uni (ix L),d.size≤maxLen:=fun d hd=>by
  obtain⟨q,hq,hdq⟩:=List.mem_flatMap.1 hd
  rcases q2R L [] hq with h|⟨o,ho,e⟩
  ·cases h
  ·rw[e] at hdq;exact hs o ho d hdq
 obtain⟨l,h1,h2,h3⟩:=q4N (fun q hq=>by have:=hN q hq;omega) c hzz hu
 refine⟨l,?_,h2,h3,fun x hx=>?_⟩
 ·unfold qp
  rw[q4H (by omega),qt4,h1];rfl
 ·cases(h3 x).1 hx with
  | one h=>exact JW h
  | tail _ h=>exact JW h
end
noncomputable section
open Go.RowKit
theorem q1e {a b c:ByteArray} (h:blt a b) (h2:blt b c):blt a c:=by
 unfold blt at *
 rw[q6p,qu2] at *
 exact List.lt_trans h h2
theorem qbP:∀{l:List ByteArray},l.Pairwise blt→q6T bl l=true
 | [],_=>rfl
 | [a],_=>rfl
 | a::b::l,h=>by
  obtain⟨h1,h2⟩:=List.pairwise_cons.1 h
  rw[q6T,qbP h2,qu5]
  exact h1 b qtj
theorem q6Y:∀{a b:List ByteArray},a.Pairwise blt→b.Pairwise blt→(∀x,x∈a↔x∈b)→a=b
 | [],[],_,_,_=>rfl
 | [],y::b,_,_,h=>by cases(h y).2 qtj
 | x::a,[],_,_,h=>by cases(h x).1 qtj
 | x::a,y::b,hA,hB,h=>by
  obtain⟨a1,a2⟩:=List.pairwise_cons.1 hA
  obtain⟨b1,b2⟩:=List.pairwise_cons.1 hB
  have e:x=y:=by
   rcases qtq.1 ((h x).1 qtj) with e|e
   ·exact e
   ·rcases qtq.1 ((h y).2 qtj) with e2|e2
    ·exact e2.symm
    ·exact(q1U (q1e (b1 x e) (a1 y e2))).elim
  subst e
  rw[q6Y a2 b2 fun z=>⟨fun hz=>?_,fun hz=>?_⟩]
  ·rcases qtq.1 ((h z).1 (qtc _ hz)) with e|e
   ·exact(q1U (by have:=a1 z hz;rw[e] at this;exact this)).elim
   ·exact e
  ·rcases qtq.1 ((h z).2 (qtc _ hz)) with e|e
   ·exact(q1U (by have:=b1 z hz;rw[e] at this;exact this)).elim
   ·exact e
theorem qfP:∀(x y:List UInt8),Op.bytesLess x y=true∨x=y∨Op.bytesLess y x=true
 | [],[] => .inr (.inl rfl)
 | [],_::_ => .inl rfl
 | _::_,[] => .inr (.inr rfl)
 | a::x,b::y=>by
  simp only[Op.bytesLess]
  by_cases h1:a<b
  ·simp[h1]
  ·by_cases h2:b<a
   ·simp[h1,h2]
   ·have:a=b:=by
     apply UInt8.toNat_inj.1
     have h1':¬ a.toNat<b.toNat:=h1
     have h2':¬ b.toNat<a.toNat:=h2
     omega
    subst this
    rcases qfP x y with h|h|h<;>simp[h]
theorem q7f (a b:ByteArray):blt a b∨a=b∨blt b a:=by
 rcases qfP a.toList b.toList with h|h|h
 ·exact .inl h
 ·exact .inr (.inl (qfR h))
 ·exact .inr (.inr h)
theorem qeR {l:List ByteArray} (h:l.Nodup):(Jv l).Pairwise blt:=by
 have h2:(Jv l).Nodup:=(Z8 l).nodup_iff.2 h
 refine((q1a l).and h2).imp fun {a b} hab=>?_
 rcases q7f a b with e|e|e
 ·exact e
 ·exact absurd e hab.2
 ·exact absurd e hab.1
theorem qjj {l:List ByteArray} (h:l.Pairwise blt) {s:ByteArray} {k:Nat} (h1:∀x∈l.take k,blt x s) (h2:∀x∈l.drop k,blt s x):(l.take k++s::l.drop k).Pairwise blt:=by
 have h3:(l.take k++l.drop k).Pairwise blt:=by rw[qtR];exact h
 obtain⟨p1,p2,p3⟩:=List.pairwise_append.1 h3
 refine List.pairwise_append.2 ⟨p1,List.pairwise_cons.2 ⟨h2,p2⟩,fun x hx y hy=>?_⟩
 rcases qtq.1 hy with rfl|hy
 ·exact h1 x hx
 ·exact p3 x hx y hy
theorem qir {l:List ByteArray} {s:ByteArray} {k:Nat} {x:ByteArray}:x∈l.take k++s::l.drop k↔x=s∨x∈l:=by
 rw[qty,qtq]
 constructor
 ·rintro(h|h|h)
  ·exact .inr (List.mem_of_mem_take h)
  ·exact .inl h
  ·exact .inr (List.mem_of_mem_drop h)
 ·rintro(h|h)
  ·exact .inr (.inl h)
  ·rw[←qtR k l,qty] at h
   exact h.elim .inl fun h => .inr (.inr h)
def plS (s:ByteArray):List ByteArray→Nat | []=>0|x::l=>if bl s x=true then 0 else plS s l+1
theorem qac (s:ByteArray):∀l,plS s l≤l.length
 | []=>qtk _
 | x::l=>by
  rw[plS]
  split
  ·exact qtu _
  ·have:=qac s l;rw[qtf];omega
theorem q5u {s:ByteArray}:∀{l:List ByteArray},s ∉ l→∀x∈l.take (plS s l),blt x s
 | [],_,x,hx=>by cases hx
 | y::l,hs,x,hx=>by
  rw[plS] at hx
  split at hx
  ·cases hx
  ·rename_i hn
   rw[List.take_succ_cons] at hx
   rcases qtq.1 hx with rfl|hx
   ·rcases q7f x s with e|e|e
    ·exact e
    ·exact absurd (by rw[e];exact qtj) hs
    ·exact absurd e hn
   ·exact q5u (fun e=>hs (qtc _ e)) x hx
theorem q5m {s:ByteArray}:∀{l:List ByteArray},l.Pairwise blt→∀x∈l.drop (plS s l),blt s x
 | [],_,x,hx=>by simp at hx
 | y::l,h,x,hx=>by
  obtain⟨h1,h2⟩:=List.pairwise_cons.1 h
  rw[plS] at hx
  split at hx
  ·rename_i hy
   rw[List.drop_zero] at hx
   rcases qtq.1 hx with rfl|hx
   ·exact hy
   ·exact q1e hy (h1 x hx)
  ·rw[List.drop_succ_cons] at hx
   exact q5m h2 x hx
def q9y (l:List ByteArray) (s:ByteArray):List ByteArray:=l.take (plS s l)++s::l.drop (plS s l)
theorem qbl {l:List ByteArray} (h:l.Pairwise blt) {s:ByteArray} (hs:s ∉ l):(q9y l s).Pairwise blt:=qjj h (q5u hs) (q5m h)
theorem q0y {l:List ByteArray} {s x:ByteArray}:x∈q9y l s↔x=s∨x∈l:=qir
structure BI (m:List (ByteArray×List ByteArray)) (c:ByteArray) (out more r:List ByteArray):Prop where
 pw:out.Pairwise blt
 ro:∀x∈out,Rc m c x
 rm:∀x∈more,Rc m c x
 rr:∀x∈r,Rc m c x
 cl:∀x∈out,∀y∈Z5 [] m x,y∈out∨y∈more∨y∈r
 c0:∀y∈Z5 [] m c,y∈out∨y∈more∨y∈r
theorem BI.old {m:List (ByteArray×List ByteArray)} {c n:ByteArray} {out more r:List ByteArray} (h:BI m c out more (n::r)) (hn:n∈out):BI m c out more r:=by
 refine⟨h.pw,h.ro,h.rm,fun x hx=>h.rr x (qtc _ hx),fun x hx y hy=>?_,fun y hy=>?_⟩
 ·rcases h.cl x hx y hy with e|e|e
  ·exact .inl e
  ·exact .inr (.inl e)
  ·rcases qtq.1 e with rfl|e
   ·exact .inl hn
   ·exact .inr (.inr e)
 ·rcases h.c0 y hy with e|e|e
  ·exact .inl e
  ·exact .inr (.inl e)
  ·rcases qtq.1 e with rfl|e
   ·exact .inl hn
   ·exact .inr (.inr e)
theorem BI.new {m:List (ByteArray×List ByteArray)} {c n:ByteArray} {out more r:List ByteArray} (h:BI m c out more (n::r)) (hn:n ∉ out):BI m c (q9y out n) (more++Z5 [] m n) r:=by
 have hrn:=h.rr n qtj
 have up:∀y,(y∈out∨y∈more∨y∈n::r)→y∈q9y out n∨y∈more++Z5 [] m n∨y∈r:=fun y hy=>by
  rcases hy with e|e|e
  ·exact .inl (q0y.2 (.inr e))
  ·exact .inr (.inl (qtg _ e))
  ·rcases qtq.1 e with e|e
   ·exact .inl (q0y.2 (.inl e))
   ·exact .inr (.inr e)
 refine⟨qbl h.pw hn,fun x hx=>?_,fun x hx=>?_,fun x hx=>h.rr x (qtc _ hx),fun x hx y hy=>?_,fun y hy=>up y (h.c0 y hy)⟩
 ·rcases q0y.1 hx with e|e
  ·rw[e];exact hrn
  ·exact h.ro x e
 ·rcases qty.1 hx with e|e
  ·exact h.rm x e
  ·exact .tail hrn e
 ·rcases q0y.1 hx with e|e
  ·rw[e] at hy
   exact .inr (.inl (qtd _ hy))
  ·exact up y (h.cl x e y hy)
theorem BI.turn {m:List (ByteArray×List ByteArray)} {c:ByteArray} {out more:List ByteArray} (h:BI m c out more []):BI m c out [] more:=by
 have up:∀y,(y∈out∨y∈more∨y∈[])→(y∈out∨y∈[]∨y∈more):=fun y hy=>by
  rcases hy with e|e|e
  ·exact .inl e
  ·exact .inr (.inr e)
  ·exact(List.not_mem_nil e).elim
 exact⟨h.pw,h.ro,fun x hx=>(List.not_mem_nil hx).elim,h.rm,fun x hx y hy=>up y (h.cl x hx y hy),fun y hy=>up y (h.c0 y hy)⟩
theorem BI.done {m:List (ByteArray×List ByteArray)} {c:ByteArray} {out:List ByteArray} (h:BI m c out [] []):out.Pairwise blt∧∀x,x∈out↔Rc m c x:=by
 refine⟨h.pw,fun x=>⟨h.ro x,fun hx=>?_⟩⟩
 induction hx with
 | one e=>
  rcases h.c0 _ e with e|e|e
  ·exact e
  ·cases e
  ·cases e
 | tail _ e ih=>
  rcases h.cl _ ih _ e with e|e|e
  ·exact e
  ·cases e
  ·cases e
theorem BI.start (m:List (ByteArray×List ByteArray)) (c:ByteArray):BI m c [] [] (Z5 [] m c):=
 ⟨.nil,fun x hx=>(List.not_mem_nil hx).elim,fun x hx=>(List.not_mem_nil hx).elim,fun x hx => .one hx,fun x hx=>(List.not_mem_nil hx).elim,fun y hy => .inr (.inr hy)⟩
def inB (out:List ByteArray) (x:ByteArray):Bool:=out.any fun a=>decide (x=a)
theorem q0g {out:List ByteArray} {x:ByteArray}:inB out x=true↔x∈out:=by
 unfold inB
 rw[qtX]
 exact⟨fun⟨a,h1,h2⟩=>by rw[qu2] at h2;rw[h2];exact h1,fun h=>⟨x,h,qu3 rfl⟩⟩
def mo (m:List (ByteArray×List ByteArray)) (out:List ByteArray):Nat:=((uni m).filter fun x => !inB out x).length
theorem qpF {m:List (ByteArray×List ByteArray)} {out:List ByteArray} {n:ByteArray} (hn:n ∉ out) (hu:n∈uni m):mo m (q9y out n)<mo m out:=by
 have hnb:∀{o:List ByteArray} {x:ByteArray},(!inB o x)=true↔x ∉ o:=fun {o x}=>by
  rw[Bool.not_eq_true',←qu4];exact not_congr q0g
 unfold mo
 exact qax (p:=fun x => !inB out x) (q:=fun x => !inB (q9y out n) x) (d:=n) (fun x hx=>hnb.2 fun e=>hnb.1 hx (q0y.2 (.inr e))) (hnb.2 hn) (by show(!inB (q9y out n) n)=false;rw[q0g.2 (q0y.2 (.inl rfl))];rfl) _ hu
end
noncomputable section
open Go.RowKit
theorem q85 {L:List qa} (c:ByteArray):Z5 [] (ix L) c=q6f L c:=by
 rw[show ix L=ixm L [] from rfl,qcA,if_neg (fun e=>by cases e)]
end
noncomputable section
open Go.RowKit
open Classical in
end
noncomputable section
open Go.RowKit
def qlF (L:List qa) (c:ByteArray):Option qa:=L.find? fun o=>decide (o.Code=c)
def zO:qa:=⟨ByteArray.mk (List.toArray []),0,0,[],[]⟩
def qdt (L:List qa) (c:ByteArray):qa×Bool:=match qlF L c with|some o=>(o,true)|none=>(zO,false)
theorem q4L {α:Type} {q:α→Bool}:∀{l:List α} {i:Nat} {a:α},l[i]?=some a→q a=true→(∀j b,j<i→l[j]?=some b→q b=false)→l.find? q=some a
 | [],i,a,h,_,_=>by simp at h
 | x::l,0,a,h,hq,_=>by
  simp at h;subst h
  rw[List.find?_cons,hq]
 | x::l,i+1,a,h,hq,hlo=>by
  have hx:=hlo 0 x (by omega) (by simp)
  rw[List.find?_cons,hx]
  exact q4L (by simpa using h) hq fun j b hj hb=>hlo (j+1) b (by omega) (by simpa using hb)
theorem qd0 {α:Type} {q:α→Bool} {l:List α} (h:∀a∈l,q a=false):l.find? q=none:=by
 rw[List.find?_eq_none];intro a ha;rw[h a ha];decide
theorem qaa {o:qa} (h:o.Slots.length≤1000000∧o.Needs.length≤1000000):QR o=some ():=by
 unfold QR Qj zJ
 rw[if_pos (by unfold maxLen;omega),qt4,if_pos (by unfold maxLen;omega),qt4]
theorem qeY {L:List qa} (hL:L.length≤1000000) (hs:∀o∈L,o.Slots.length≤1000000∧o.Needs.length≤1000000) (c:ByteArray):Qd L c=some (qdt L c):=by
 obtain⟨r,g1,g2⟩:=q5y L (fun x=>decide (x.Code=c)) (qn c L ((L.length:Nat):Int))
  (fun i a ha=>by
   have:=Zz ha
   unfold qn
   rw[if_pos (by omega),if_pos (by omega),qt7,ha,qt4,Qx,q7D]
   cases(decide (a.Code=c)) with
   | true=>rfl
   | false=>rw[if_neg (by decide),if_neg (by decide),Q6 this (by omega)])
  (by unfold qn;rw[if_neg (by omega)])
 unfold Qd qs qdt qlF
 rw[g1,qt4]
 rcases g2 with ⟨i,a,rfl,b1,b2,b3⟩|⟨rfl,b1⟩
 ·rw[q4L (q:=fun x:qa=>decide (x.Code=c)) b1 b2 b3,Sum.elim_inl,qt4,if_neg (by omega),if_pos (by have:=Zz b1;omega),qt7,b1,qt4,qaa (hs a (qt5 b1)),qt4]
 ·rw[qd0 (q:=fun x:qa=>decide (x.Code=c)) b1,Sum.elim_inr,qt4,if_pos (by decide)];rfl
theorem q0d (c:ByteArray):∀L:List qa,(qdt L c).1.Needs=q6f L c
 | []=>rfl
 | o::L=>by
  have ih:=q0d c L
  unfold qdt qlF at *
  rw[List.find?_cons,q6f]
  by_cases h:o.Code=c
  ·rw[qu3 h,if_pos h.symm]
  ·rw[decide_eq_false h,if_neg (fun e=>h e.symm)];exact ih
theorem qeg {L:List qa} {c:ByteArray}:(qdt L c).1∈L∨(qdt L c).1=zO:=by
 unfold qdt qlF
 cases h:L.find? (fun o=>decide (o.Code=c)) with
 | some o=>exact .inl (List.mem_of_find?_eq_some h)
 | none=>exact .inr rfl
open Classical in
theorem qet {L:List qa} (h:qj0 L=0):ckF none L=0∧L.length≤60∧¬ qmD L∧¬ qn8 L:=by
 unfold qj0 at h
 split at h
 ·exact absurd h (by decide)
 ·split at h
  ·rename_i h1;exact absurd h h1
  ·rename_i h1
   split at h
   ·exact absurd h (by decide)
   ·split at h
    ·exact absurd h (by decide)
    ·rename_i h2 h3 h4
     exact⟨Classical.byContradiction fun e=>h1 e,by omega,h3,h4⟩
def OrO (L:List qa) (w:List ByteArray):Prop:=w.Nodup∧∀c∈w,c∈L.map (·.Code)
theorem OrO.add {L:List qa} {w:List ByteArray} (h:OrO L w) {o:qa} (ho:o∈L) (hn:o.Code ∉ w):OrO L (w++[o.Code]):=by
 refine⟨List.nodup_append.2 ⟨h.1,List.nodup_cons.2 ⟨List.not_mem_nil,List.nodup_nil⟩,fun a ha b hb=>?_⟩,fun c hc=>?_⟩
 ·rw[qtT] at hb;subst hb
  exact fun e=>hn (e ▸ ha)
 ·rcases qty.1 hc with e|e
  ·exact h.2 c e
  ·rw[qtT] at e;rw[e];exact qtN.2 ⟨o,ho,rfl⟩
end
noncomputable section
open Go.RowKit
theorem q8G {α:Type} (l:List α) (q:α→Bool) (step:Int→Option (Int⊕(Unit⊕Unit)))
  (h:∀(i:Nat) a,l[i]?=some a→step (i:Int)=some (if q a=true then .inr (.inl ()) else .inl ((i+1:Nat):Int)))
  (hn:step ((l.length:Nat):Int)=some (.inr (.inr ()))):zE step 0=some (if l.any q=true then .inl () else .inr ()):=by
 have h1:=q8P (step:=step) 0 l.length (qtu _) (atB l fun a => !q a) (.inl ()) (.inr ()) (fun i _ hi=>by
  have ha:=qt6 hi
  rw[h i _ ha,q5a ha]
  cases q l[i]<;>rfl) hn
 have h2:zE step 0=_:=h1
 rw[h2]
 congr 1
 have h3:=qiI l fun a => !q a
 by_cases ha:l.any q=true
 ·rw[if_pos ha,if_neg]
  intro e
  have e2:=h3.1 e
  obtain⟨a,h4,h5⟩:=qtX.1 ha
  have:=qtl.1 e2 a h4
  rw[h5] at this;cases this
 ·rw[if_neg ha,if_pos]
  refine h3.2 (qtl.2 fun a h4=>?_)
  cases h5:q a with
  | false=>rfl
  | true=>exact absurd (qtX.2 ⟨a,h4,h5⟩) ha
theorem qcx {α:Type} [DecidableEq α] {a b:List α} (hl:a.length=b.length):(∀i,i<a.length→0≤i→decide (a[i]?=b[i]?)=true)↔a=b:=by
 constructor
 ·intro h
  refine List.ext_getElem? fun i=>?_
  by_cases hi:i<a.length
  ·exact of_decide_eq_true (h i hi (qtu _))
  ·rw[qtC (by omega),qtC (by omega)]
 ·rintro rfl i _ _
  exact qu3 rfl
theorem qkv {a b:Nat} (h:a=b):¬ ((((a:Nat):Int) != ((b:Nat):Int))=true):=by rw[h];simp
theorem qis {a b:Nat} (h:¬ a=b):(((a:Nat):Int) != ((b:Nat):Int))=true:=by rw[bne_iff_ne];omega
theorem qcV {a b:List ByteArray} (hl:a.length≤1000000000):qi a b=some (decide (a=b)):=by
 unfold qi
 by_cases h:a.length=b.length
 ·rw[if_neg (qkv h)]
  have h1:=q8P (step:=zd a b) 0 a.length (qtu _) (fun i=>decide (a[i]?=b[i]?)) (.inl ()) (.inr ()) (fun i _ hi=>by
   have ha:=qt6 hi
   have hb:=qt6 (l:=b) (i:=i) (by omega)
   unfold zd
   rw[if_pos (by omega),if_pos (by omega),qt7,ha,qt4,if_pos (by omega),hb,qt4,q7D,Q6 hi (by omega)]
   by_cases e:a[i]=b[i]
   ·simp[e]
   ·simp[e]) (by unfold zd;rw[if_neg (by omega)])
  have h2:zE (zd a b) 0=_:=h1
  rw[h2,qt4]
  by_cases e:a=b
  ·rw[if_pos ((qcx h).2 e),Sum.elim_inr,qu3 e]
  ·rw[if_neg (fun q=>e ((qcx h).1 q)),Sum.elim_inl,decide_eq_false e]
 ·rw[if_pos (qis h),decide_eq_false (fun e=>h (by rw[e]))]
theorem q7z {l:List ByteArray} (hl:l.length≤1000000) (s:ByteArray):Z2 l s=some (inB l s):=by
 unfold Z2
 rw[q8G l (fun a=>decide (s=a)) (QP l s) (fun i a ha=>by
  have:=Zz ha
  unfold QP
  rw[if_pos (by omega),if_pos (by omega),qt7,ha,qt4,q7D,Q6 this (by omega)]
  by_cases e:a=s
  ·simp[e]
  ·have e':¬ s=a:=fun q=>e q.symm
   simp[e,e']) (by unfold QP;rw[if_neg (by omega)]),qt4]
 show _=some (l.any fun a=>decide (s=a))
 cases(l.any fun a=>decide (s=a))<;>rfl
theorem q6j {o:qa} (h:o.Slots.length≤1000000∧o.Needs.length≤1000000):Zy o=some (o.Code,o.Credits,o.Places,o.Slots,o.Needs):=by
 unfold Zy
 rw[if_pos (by unfold maxLen;omega),if_pos (by unfold maxLen;omega)]
theorem q6I {L:List qa} (hL:L.length≤1000000) (hs:∀o∈L,o.Slots.length≤1000000∧o.Needs.length≤1000000) (c:ByteArray):J7 L c=some (qdt L c):=by
 have h1:=qcy (ε:=(List Int×List ByteArray×ByteArray×Int×Int)⊕Unit) (step:=Z4 (ByteArray.mk (List.toArray [])) (0:Int) (0:Int) L c) L (fun i=>(i:Int)) (fun o=>if o.Code=c then some (.inl (o.Slots,o.Needs,o.Code,o.Credits,o.Places)) else none) (.inr ()) (fun i a ha=>by
  have:=Zz ha
  unfold Z4
  rw[if_pos (by omega),if_pos (by omega),qt7,ha,qt4,q7D,if_pos (show(0:Int)≤(i:Int)∧(i:Int)<((L.length:Nat):Int) by omega),qt4,q6j (hs a (qt5 ha)),qt4,Q6 this (by omega)]
  by_cases e:a.Code=c
  ·rw[qu3 e,if_pos rfl,if_pos e]
  ·rw[decide_eq_false e,if_neg (by decide),if_neg e]) (by unfold Z4;rw[if_neg (by omega)])
 have h2:zE (Z4 (ByteArray.mk (List.toArray [])) (0:Int) (0:Int) L c) 0=_:=h1
 unfold J7 qdt qlF
 rw[h2,qt4]
 have h3:∀l:List qa,l.findSome? (fun o=>if o.Code=c then some ((.inl (o.Slots,o.Needs,o.Code,o.Credits,o.Places):(List Int×List ByteArray×ByteArray×Int×Int)⊕Unit)) else none)=(l.find? fun o=>decide (o.Code=c)).map fun o => .inl (o.Slots,o.Needs,o.Code,o.Credits,o.Places):=by
  intro l
  induction l with
  | nil=>rfl
  | cons o l ih=>
   rw[List.findSome?_cons,List.find?_cons]
   by_cases e:o.Code=c
   ·rw[if_pos e,qu3 e];rfl
   ·rw[if_neg e,decide_eq_false e];exact ih
 rw[h3]
 cases L.find? (fun o=>decide (o.Code=c)) with
 | some o=>rfl
 | none=>rfl
theorem nbl {a s:ByteArray} (h:a≠s):(!(Op.bytesLess a.toList s.toList||a.toList==s.toList))=bl s a:=by
 rw[q7D,decide_eq_false h,Bool.or_false]
 rcases q7f a s with e|e|e
 ·have h1:Op.bytesLess a.toList s.toList=true:=e
  have h2:bl s a=false:=qtw.2 fun q=>q1U (q1e e q)
  rw[h1,h2];rfl
 ·exact absurd e h
 ·have h1:bl s a=true:=e
  have h2:Op.bytesLess a.toList s.toList=false:=qtw.2 fun q=>q1U (q1e e q)
  rw[h1,h2];rfl
theorem q7Z {l:List ByteArray} (hp:l.Pairwise blt) {s:ByteArray} (hs:s ∉ l) (hl:l.length≤1000000):∀n:Nat,n+plS s l≤l.length→zE (QO l s) ((n+plS s l:Nat):Int)=some ((plS s l:Nat):Int)
 | 0,hn=>by
  refine zg ?_
  unfold QO
  rw[qts]
  by_cases h0:plS s l=0
  ·rw[if_neg (by omega)]
  ·have h1:plS s l-1<l.length:=by omega
   have ha:=qt6 h1
   have hw:w64 (((plS s l:Nat):Int)-1)=((plS s l-1:Nat):Int):=by rw[J9 (by omega) (by omega)];omega
   have hm:l[plS s l-1]∈l.take (plS s l):=List.mem_iff_getElem?.2 ⟨plS s l-1,by rw[qtD (by omega)];exact ha⟩
   have hb:=q5u hs _ hm
   rw[if_pos (by omega),hw,if_pos (by omega),qt7,ha,qt4,nbl (fun e=>hs (by rw[←e];exact qtU h1)),if_neg (show ¬ (bl s l[plS s l-1]=true) from fun q=>q1U (q1e hb q))]
 | n+1,hn=>by
  have h1:n+plS s l<l.length:=by omega
  have ha:=qt6 h1
  have hw:w64 (((n+1+plS s l:Nat):Int)-1)=((n+plS s l:Nat):Int):=by rw[J9 (by omega) (by omega)];omega
  have hm:l[n+plS s l]∈l.drop (plS s l):=List.mem_iff_getElem?.2 ⟨n,by rw[List.getElem?_drop,Nat.add_comm];exact ha⟩
  have hb:=q5m hp _ hm
  rw[zS (y:=((n+plS s l:Nat):Int)) (by
   unfold QO
   rw[if_pos (by omega),hw,if_pos (by omega),qt7,ha,qt4,nbl (fun e=>hs (by rw[←e];exact qtU h1)),if_pos (show bl s l[n+plS s l]=true from hb)])]
  exact q7Z hp hs hl n (by omega)
def q5Q (l:List ByteArray) (s:ByteArray):List ByteArray:=if inB l s=true then l else q9y l s
theorem q5F {l:List ByteArray} (hp:l.Pairwise blt) (hl:l.length≤1000000) (s:ByteArray):Qr l s=some (q5Q l s):=by
 unfold Qr q5Q
 rw[q7z hl,qt4]
 cases h:inB l s with
 | true=>rw[if_pos rfl,if_pos rfl]
 | false=>
  have hs:s ∉ l:=fun e=>by rw[q0g.2 e] at h;cases h
  have h1:=qac s l
  have h2:=q7Z hp hs hl (l.length-plS s l) (by omega)
  rw[show l.length-plS s l+plS s l=l.length by omega] at h2
  have e1:(l.drop (plS s l)).take (l.length-plS s l)=l.drop (plS s l):=qu9 (by rw[qtP];omega)
  rw[if_neg (by decide),if_neg (by decide),h2,qt4,qt7,qtV,e1]
  rw[if_pos (by omega),if_pos (by rw[qtx];unfold maxLen;omega),if_pos (by rw[qtx];unfold maxLen;omega),if_pos (by omega),if_pos (by rw[qtx,qtP];unfold maxLen;omega)]
  unfold q9y
  rw[qtJ];rfl
theorem q4y {l:List ByteArray} (hp:l.Pairwise blt) (s:ByteArray):(q5Q l s).Pairwise blt:=by
 unfold q5Q
 split
 ·exact hp
 ·rename_i h;exact qbl hp fun e=>h (q0g.2 e)
theorem q2q {l:List ByteArray} {s x:ByteArray}:x∈q5Q l s↔x=s∨x∈l:=by
 unfold q5Q
 split
 ·rename_i h
  exact⟨.inr,fun e=>e.elim (fun e=>e ▸ q0g.1 h) id⟩
 ·exact q0y
theorem qcG {l:List ByteArray} (hl:l.length≤1000000):Qq l=some (q6T bl l):=by
 have h:=q2r bl l (zm l) (fun i a b ha hb=>by
  have h1:=Zz ha
  have h2:=Zz hb
  have w1:w64 (((i+1:Nat):Int)-1)=(i:Int):=by rw[J9 (by omega) (by omega)];omega
  have w2:w64 (((i+1:Nat):Int)+1)=((i+2:Nat):Int):=by rw[J9 (by omega) (by omega)];omega
  unfold zm
  rw[if_pos (by omega),w1,if_pos (by omega),qt7,ha,qt4,if_pos (by omega),qt7,hb,qt4,w2]
  cases h:bl a b
  ·rw[if_pos (by rw[show Op.bytesLess a.toList b.toList=false from h];decide),if_neg (by decide)]
  ·rw[if_neg (by rw[show Op.bytesLess a.toList b.toList=true from h];decide),if_pos rfl]) (fun i hi=>by
  unfold zm
  rw[if_neg (by omega)]) l.length 0 (by omega)
 rw[List.drop_zero] at h
 unfold Qq
 have h':zE (zm l) 1=_:=h
 rw[h',qt4]
 cases q6T bl l<;>rfl
end
end Go.Proofs.Ytcdegieiflmaeaa.Vc
