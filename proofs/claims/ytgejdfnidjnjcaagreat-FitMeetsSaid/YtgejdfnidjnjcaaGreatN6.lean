/- Part 6 of a proof. -/
import Derived.Test.YtgejdfnidjnjcaaGreatN5
import Derived.KernelRfl
import Derived.Test.YtgejdfnidjnjcaaGreatRows
import Derived.ChangeSlices
import Derived.OpenShut
import Derived.Carry
import Derived.ChangeSame
import Derived.ChangeMaps5
import Derived.WideShapes
import Derived.ProofKit
import Derived.Deep.DeepHandedRow
import Derived.Lib.LaidTab
import Derived.Stop.LaidErr
set_option linter.unusedVariables false
set_option linter.unusedSimpArgs false
set_option linter.defProp false
set_option linter.unusedSectionVars false
set_option linter.unnecessarySimpa false
namespace Go.Proofs.YtgejdfnidjnjcaaGreat.Vc
open Go.RowKit
theorem qqY (items:List ql) (out:List qc) (hl:out.length≤1000000) (t6:Int) (S:List qc) (k:Nat) (c:qc) (hc:S[k]?=some c) (hS:S.length≤1000000):qX (Z1 items out t6 S (k:Int)) 0=some ((atF out c:Nat):Int):=by
 have hk:=q08 hc
 have h1:=q20 (ε:=Int) (step:=Z1 items out t6 S (k:Int)) out (fun(_:Unit) i=>(i:Int)) (fun i _ x=>if q4M x c=true then .inl () else .inr (i:Int)) (fun _=>(out.length:Int)) (fun _ i x hx=>by
   have hi:=q08 hx
   unfold Z1
   rw[if_pos (by omega),if_pos ⟨by omega,by omega⟩,Int.toNat_natCast,hx,Option.bind_some,if_pos ⟨by omega,by omega⟩,Int.toNat_natCast,hc,Option.bind_some,qY hi (by omega)]
   show(if q4M x c=true then _ else _)=_
   cases q4M x c<;>simp) (fun _=>by
   unfold Z1
   rw[if_neg (by omega)]) ()
 rw[show((0:Nat):Int)=0 from rfl] at h1
 rw[h1]
 congr 1
 have:∀(l:List qc) (i:Nat) (n:Nat),i+l.length=n→q4c (ε:=Int) (fun i (_:Unit) (x:qc)=>if q4M x c=true then .inl () else .inr (i:Int)) (fun _=>(n:Int)) l i ()=((i+atF l c:Nat):Int):=by
  intro l
  induction l with
  | nil=>intro i n h;simp at h;unfold q4c atF;simp[h]
  | cons x l ih=>
   intro i n h
   simp only[List.length_cons] at h
   unfold q4c
   by_cases hx:q4M x c=true
   ·have e:atF (x::l) c=atF l c+1:=by unfold atF;rw[List.takeWhile_cons,if_pos hx];rfl
    simp only[hx,if_true]
    rw[ih (i+1) n (by omega),e]
    omega
   ·have e:atF (x::l) c=0:=by unfold atF;rw[List.takeWhile_cons,if_neg hx];rfl
    have hx':q4M x c=false:=by simpa using hx
    simp only[hx',Bool.false_eq_true,if_false]
    rw[e];rfl
 have:=this out 0 out.length (by simp)
 simpa using this
theorem qfg (items:List ql) (out:List qc) (hl:out.length≤1000) (t6:Int) (S:List qc) (hS:S.length≤1000000) (k:Nat) (c:qc) (hc:S[k]?=some c) :
  Zi items t6 S (out,(k:Int))=some (.inl (qhS out c,((k+1:Nat):Int))):=by
 have hk:=q08 hc
 have hML:100000≤maxLen:=by unfold maxLen;omega
 have hat:=qmj out c
 unfold Zi
 simp only
 rw[if_pos (by omega),qqY items out (by omega) t6 S k c hc hS,Option.bind_some]
 have hwk:w64 ((k:Int)+1)=((k+1:Nat):Int):=by rw[QP (by omega) (by omega)];omega
 have hwa:w64 (((atF out c:Nat):Int)+1)=((atF out c+1:Nat):Int):=by rw[QP (by omega) (by omega)];omega
 rw[hwk,hwa]
 simp only[Int.toNat_natCast,List.length_take,List.length_drop,List.length_append,List.length_cons,List.length_nil]
 rw[hc]
 simp only[Option.bind_some]
 have hkk:(0:Int)≤(k:Int)∧(k:Int)<((S.length:Nat):Int):=⟨by omega,by omega⟩
 simp only[hkk,and_self,if_true]
 unfold qhS
 by_cases hlt:atF out c<out.length
 ·obtain⟨x,hx⟩:∃x,out[atF out c]?=some x:=⟨_,List.getElem?_eq_getElem hlt⟩
  rw[if_pos (by omega),if_pos ⟨by omega,by omega⟩,hx,Option.bind_some]
  simp only[Option.any_some]
  by_cases hc:ceq x c=true
  ·have hc2:=hc
   unfold ceq at hc2
   simp only[Bool.and_eq_true] at hc2
   rw[if_pos hc2,if_pos hc]
  ·have hc2:¬ ((x.School==c.School)=true∧(x.Code.toList==c.Code.toList)=true):=fun h=>hc (by unfold ceq;rw[h.1,h.2];rfl)
   rw[if_neg hc2,if_neg hc]
   repeat (first|rw[if_pos (by omega)]|rw[if_neg (by omega)])
   rw[qmO _ _ _ _ hlt]
 ·have he:atF out c=out.length:=by omega
  have hnone:out[out.length]?=none:=List.getElem?_eq_none (Nat.le_refl _)
  rw[he,hnone]
  simp only[Option.any_none,Bool.false_eq_true,if_false]
  repeat (first|rw[if_pos (by omega)]|rw[if_neg (by omega)])
  rw[qjK]
theorem qwn (l:List qc):∀(out:List qc),(l.foldl qhS out).length≤out.length+l.length:=by
 induction l with
 | nil=>intro out;simp
 | cons c l ih=>
  intro out
  rw[List.foldl_cons,List.length_cons]
  have:=ih (qhS out c)
  have:=(qhi out c).2.1
  omega
theorem qi9 (items:List ql) (t6:Int) (S:List qc) (hS:S.length≤100):∀(r:List qc) (k:Nat) (out:List qc),r.length+k=S.length→(∀j,r[j]?=S[k+j]?)→out.length+r.length≤1000→qX (Zi items t6 S) (out,(k:Int))=some (r.foldl qhS out):=by
 intro r
 induction r with
 | nil=>
  intro k out hk _ _
  have hk:k=S.length:=by simpa using hk
  subst hk
  refine zr ?_
  unfold Zi
  simp only
  rw[if_neg (by omega)]
  rfl
 | cons c r ih=>
  intro k out hk hr hl
  simp only[List.length_cons] at hk hl
  have hget:S[k]?=some c:=by have:=hr 0;simpa using this.symm
  rw[zI (qfg items out (by omega) t6 S (by omega) k c hget),List.foldl_cons]
  have:=(qhi out c).2.1
  exact ih (k+1) _ (by omega) (fun j=>by rw[show k+1+j=k+(j+1) by omega,←hr (j+1)];rfl) (by omega)
theorem qh5 (items:List ql) (hn:items.length≤100) (hS:∀x∈items,x.Need.Set.length≤3):∀(r:List ql) (i:Nat) (out:List qc),r.length+i=items.length→(∀j,r[j]?=items[i+j]?)→out.length+3*r.length≤900→∃cs,qX (Zj items) (out,(i:Int))=some cs∧cs.length≤900:=by
 intro r
 induction r with
 | nil=>
  intro i out hi _ hl
  have hi:i=items.length:=by simpa using hi
  subst hi
  refine⟨out,zr ?_,by simp at hl;omega⟩
  unfold Zj
  simp only
  rw[if_neg (by omega)]
 | cons x r ih=>
  intro i out hi hr hl
  simp only[List.length_cons] at hi hl
  have hget:items[i]?=some x:=by have:=hr 0;simpa using this.symm
  have hlt:=q08 hget
  have hx:=hS x (List.mem_of_getElem? hget)
  have hs:=qi9 items (i:Int) x.Need.Set (by omega) x.Need.Set 0 out (by simp) (by simp) (by omega)
  rw[show((0:Nat):Int)=0 from rfl] at hs
  have hp:=qwn x.Need.Set out
  obtain⟨cs,h1,h2⟩:=ih (i+1) (x.Need.Set.foldl qhS out) (by omega) (fun j=>by rw[show i+1+j=i+(j+1) by omega,←hr (j+1)];rfl) (by omega)
  refine⟨cs,?_,h2⟩
  rw[zI (y:=(x.Need.Set.foldl qhS out,((i+1:Nat):Int))) (by
   unfold Zj
   simp only
   rw[if_pos (by omega),if_pos ⟨by omega,by omega⟩,Int.toNat_natCast,hget,Option.bind_some,hs,Option.bind_some,qY hlt (by omega)])]
  exact h1
theorem qks {n:qb} (h:q4o 3 6 n):∃cs,q1y n=some cs∧cs.length≤900:=by
 have h1:=h.hg
 have h2:=h.l2
 have h3:=h.nd
 have hlen:=q9m n 1
 have hS:∀x∈itN 1 n,x.Need.Set.length≤3:=fun x hx=>by
  have hm:x.Need∈ndN n:=by rw[←qbk n 1];exact List.mem_map.2 ⟨x,hx,rfl⟩
  rcases h.ok _ hm with h|h
  ·exact h.s3
  ·rw[h.st];simp
 obtain⟨cs,g1,g2⟩:=qh5 (itN 1 n) (by omega) hS (itN 1 n) 0 [] (by simp) (by simp) (by simp;omega)
 refine⟨cs,?_,g2⟩
 unfold q1y
 rw[qfu n (by omega) (by omega),Option.bind_some,Sum.elim_inr]
 rw[show((0:Nat):Int)=0 from rfl] at g1
 rw[g1,Option.bind_some]
theorem qjc (x m:Int) (h0:0<m) (h1:m≤1000000):∃v,q1E x m=some v∧0≤v∧v<m:=by
 have e1:=Int.tmod_lt_of_pos x h0
 have e2 : -m<Int.tmod x m:=by
  have:=Int.tmod_lt_of_pos (-x) h0
  rw[Int.neg_tmod] at this;omega
 have e3:w64 (Int.tmod x m+m)=Int.tmod x m+m:=QP (by omega) (by omega)
 refine⟨Int.tmod (Int.tmod x m+m) m,?_,Int.tmod_nonneg _ (by omega),Int.tmod_lt_of_pos _ h0⟩
 unfold q1E
 rw[if_neg (by omega),if_neg (by omega),e3]
theorem qkr {d:qj} (h:q2r d) {most:Int} (h0:0<most) (h1:most≤1000000):∃v d',QL most d=some (v,d')∧0≤v∧v<most∧q2r d':=by
 obtain⟨a,b,c⟩:=h
 unfold QL
 by_cases he:(d.L.length:Int)≤d.At
 ·exact⟨0,d,if_pos he,Int.le_refl _,h0,⟨a,b,c⟩⟩
 ·obtain⟨x,hx⟩:∃x,d.L[Int.toNat d.At]?=some x:=⟨_,List.getElem?_eq_getElem (by omega)⟩
  obtain⟨v,e1,e2,e3⟩:=qjc x most h0 h1
  have e6:w64 (d.At+1)=d.At+1:=QP (by omega) (by omega)
  have e7:w64 (d.At+1-1)=d.At:=by rw[QP (by omega) (by omega)];omega
  refine⟨v,⟨d.L,d.At+1⟩,?_,e2,e3,⟨by show 0≤d.At+1;omega,by show d.At+1≤d.L.length;omega,c⟩⟩
  rw[if_neg he,e6,e7,if_pos ⟨a,by omega⟩,hx,Option.bind_some,e1,Option.bind_some]
def qyW (l:List qa):Prop:=∀a∈l,0<a.Sources.length
theorem qlr (cs:List qc) (hc:1≤cs.length) (hc2:cs.length≤1000) (many:Int) (hm:many≤7) (l:List qa) (k:Nat) (hl:l.length=k) (hs:qyW l) (hk:(k:Int)<many) {d:qj} (hd:q2r d) :
  ∃a d',0<a.Sources.length∧(a.Credits=5∨a.Credits=6∨a.Credits=10∨a.Credits=3)∧q2r d'∧Zq cs many (l,d,(k:Int))=some (.inl (l++[a],d',((k+1:Nat):Int))):=by
 have hML:100000≤maxLen:=by unfold maxLen;omega
 obtain⟨v1,d1,e1,a1,b1,h1⟩:=qkr hd (most:=((cs.length:Nat):Int)) (by omega) (by omega)
 obtain⟨c,hc1,_⟩:=qtp cs v1 a1 b1
 obtain⟨v2,d2,e2,a2,b2,h2⟩:=qkr h1 (most:=4) (by omega) (by omega)
 obtain⟨cr,hcr,mcr⟩:=qtp [(5:Int),6,10,3] v2 a2 (by simpa using b2)
 obtain⟨v3,d3,e3,a3,b3,h3⟩:=qkr h2 (most:=7) (by omega) (by omega)
 obtain⟨gr,hgr,_⟩:=qtp [(50:Int),60,90,40,100,79,80] v3 a3 (by simpa using b3)
 obtain⟨v4,d4,e4,a4,b4,h4⟩:=qkr h3 (most:=600) (by omega) (by omega)
 obtain⟨v5,d5,e5,a5,b5,h5⟩:=qkr h4 (most:=8) (by omega) (by omega)
 have hw:w64 ((k:Int)+1)=((k+1:Nat):Int):=by rw[QP (by omega) (by omega)];omega
 have hcr2:cr=5∨cr=6∨cr=10∨cr=3:=by simpa using mcr
 by_cases hz:v5=0∧0<k
 ·have hwk:w64 ((k:Int)-1)=((k-1:Nat):Int):=by rw[QP (by omega) (by omega)];omega
  obtain⟨p,hp⟩:∃p,l[k-1]?=some p:=⟨_,List.getElem?_eq_getElem (by omega)⟩
  have hps:=hs p (List.mem_of_getElem? hp)
  obtain⟨x,hx⟩:∃x,p.Sources[0]?=some x:=⟨_,List.getElem?_eq_getElem hps⟩
  refine⟨⟨c,cr,gr,v4,[x],0,[]⟩,d5,by simp,hcr2,h5,?_⟩
  unfold Zq
  simp only
  rw[if_pos hk,e1,Option.bind_some]
  simp only
  rw[if_pos ⟨a1,b1⟩,hc1,Option.bind_some,e2,Option.bind_some]
  simp only
  rw[if_pos ⟨a2,b2⟩,hcr,Option.bind_some,e3,Option.bind_some]
  simp only
  rw[if_pos ⟨a3,b3⟩,hgr,Option.bind_some,e4,Option.bind_some]
  simp only
  rw[e5,Option.bind_some]
  simp only
  rw[if_pos (by simp[hz.1]),if_pos (by omega),hwk,if_pos ⟨by omega,by omega⟩,Int.toNat_natCast,hp,Option.bind_some,if_pos (by omega),hx,Option.bind_some,if_pos ⟨by omega,by omega⟩,hw]
 ·refine⟨⟨c,cr,gr,v4,[w64 (w64 (w64 ((1000000:Int)*c.School)+(k:Int))+(1:Int))],0,[]⟩,d5,by simp,hcr2,h5,?_⟩
  unfold Zq
  simp only
  rw[if_pos hk,e1,Option.bind_some]
  simp only
  rw[if_pos ⟨a1,b1⟩,hc1,Option.bind_some,e2,Option.bind_some]
  simp only
  rw[if_pos ⟨a2,b2⟩,hcr,Option.bind_some,e3,Option.bind_some]
  simp only
  rw[if_pos ⟨a3,b3⟩,hgr,Option.bind_some,e4,Option.bind_some]
  simp only
  rw[e5,Option.bind_some]
  simp only
  by_cases h0:v5=0
  ·rw[if_pos (by simp[h0]),if_neg (by omega),if_pos ⟨by omega,by omega⟩,hw]
  ·rw[if_neg (by simpa using h0),if_pos ⟨by omega,by omega⟩,hw]
theorem qx6 {n:qb} (h:q4o 3 6 n) (q:List Int) (hq:q.length≤9223372036854775807):∃l,q3K n q=some l∧l.length≤7∧∀a∈l,a.Credits=5∨a.Credits=6∨a.Credits=10∨a.Credits=3:=by
 obtain⟨cs,g1,g2⟩:=qks h
 obtain⟨v,d,e1,a1,b1,h1⟩:=qkr (d:=⟨q,0⟩) ⟨by show(0:Int)≤0;omega,by show(0:Int)≤(q.length:Int);omega,hq⟩ (most:=8) (by omega) (by omega)
 have hML:100000≤maxLen:=by unfold maxLen;omega
 obtain⟨m,rfl⟩:∃m:Nat,v=(m:Int):=⟨v.toNat,by omega⟩
 have key:∀(j k:Nat) (l:List qa) (d:qj),j+k=m→l.length=k→qyW l→(∀a∈l,a.Credits=5∨a.Credits=6∨a.Credits=10∨a.Credits=3)→q2r d→∃l',qX (Zq (cs++[qc.mk (1:Int) (ByteArray.mk (List.toArray [90]))]) (m:Int)) (l,d,(k:Int))=some l'∧l'.length=m∧∀a∈l',a.Credits=5∨a.Credits=6∨a.Credits=10∨a.Credits=3:=by
  intro j
  induction j with
  | zero=>
   intro k l d hk hl hs hcr hd
   refine⟨l,zr ?_,by omega,hcr⟩
   unfold Zq
   simp only
   rw[if_neg (by omega)]
  | succ j ih=>
   intro k l d hk hl hs hcr hd
   obtain⟨a,d',q1,q2,q3,q4⟩:=qlr (cs++[qc.mk (1:Int) (ByteArray.mk (List.toArray [90]))]) (by simp) (by simp;omega) (m:Int) (by omega) l k hl hs (by omega) hd
   rw[zI q4]
   refine ih (k+1) (l++[a]) d' (by omega) (by simp[hl]) (fun x hx=>?_) (fun x hx=>?_) q3
   ·rcases List.mem_append.1 hx with h|h
    ·exact hs x h
    ·rw[List.mem_singleton.1 h];exact q1
   ·rcases List.mem_append.1 hx with h|h
    ·exact hcr x h
    ·rw[List.mem_singleton.1 h];exact q2
 obtain⟨l,q1,q2,q3⟩:=key m 0 [] d (by omega) rfl (fun a ha=>by simp at ha) (by simp) h1
 refine⟨l,?_,by omega,q3⟩
 unfold q3K
 rw[g1,Option.bind_some,if_pos ⟨by omega,by omega⟩,e1,Option.bind_some]
 rw[show((0:Nat):Int)=0 from rfl] at q1
 simp only
 rw[q1,Option.bind_some]
end Go.Proofs.YtgejdfnidjnjcaaGreat.Vc
namespace Go.Proofs.YtgejdfnidjnjcaaGreat.Vc
open Go.RowKit
structure qA1 (c:q1W):Prop where
 h1:c.Need.length≤9223372036854775807
 h2:c.L.length≤9223372036854775807
theorem qlD {c:q1W} (h:qA1 c):∃n l,q0R c=some (n,l)∧q4o 3 6 n∧l.length≤7∧∀a∈l,a.Credits=5∨a.Credits=6∨a.Credits=10∨a.Credits=3:=by
 obtain⟨n,e1,hn⟩:=qv3 c.Need h.h1
 obtain⟨l,e2,hl,hc⟩:=qx6 hn c.L h.h2
 refine⟨n,l,?_,hn,hl,hc⟩
 unfold q0R
 rw[e1,Option.bind_some,e2,Option.bind_some]
end Go.Proofs.YtgejdfnidjnjcaaGreat.Vc
namespace Go.Proofs.YtgejdfnidjnjcaaGreat.Vc
open Go.RowKit
theorem qoj:∀L:List qb,L.length≤(ndL L).length
 | []=>Nat.zero_le _
 | x::L=>by
  have:=qoj L
  rw[ndL,List.length_append,Zg,List.length_cons,List.length_cons]
  omega
theorem qga (s:qf) (l:List qa) (hl:l.length≤62) (d:List Int) (hd:d.length=l.length):∀(n:qb) (nx:Nat),(∀y∈ndN n,y.Set.length≤1000000)→nx+(ndN n).length≤100000→
  q0b (n,s,l,d,(nx:Int))=some ((q3y s l (fun j=>d.getD j (-1)) n nx).1,(q3y s l (fun j=>d.getD j (-1)) n nx).2,s,l,d,((nx+lvN n:Nat):Int)):=by
 intro n
 induction n using qb.rec (motive_2:=fun L=>∀(b5:qb) (pre:List qb) (nx many:Nat) (em wr:Bool),(∀y∈ndL L,y.Set.length≤1000000)→nx+(ndL L).length≤100000→many+L.length≤200000→pre.length+L.length≤200000→
   qX (JN q0b b5 (pre++L) ((pre++L).length:Int)) (s,l,d,(nx:Int),em,(many:Int),wr,(pre.length:Int)) =
    some (s,l,d,((nx+lvL L:Nat):Int),em&&(q3i s l (fun j=>d.getD j (-1)) (b5.Kind==3) L nx).1,((many+(q3i s l (fun j=>d.getD j (-1)) (b5.Kind==3) L nx).2.1:Nat):Int),wr||(q3i s l (fun j=>d.getD j (-1)) (b5.Kind==3) L nx).2.2)) with
 | mk k n m S L ih=>
  intro nx hs hn
  rw[ndN,List.length_cons] at hn
  rw[qbQ]
  unfold q1p
  simp only
  rw[qcz,q7q,lvN]
  have hlf:q9g ⟨k,n,m,S,L⟩=decide (k=1∨k=2):=by
   unfold q9g
   simp only
   by_cases h1:k=1
   ·subst h1;rfl
   ·by_cases h2:k=2
    ·subst h2;rfl
    ·rw[beq_eq_false_iff_ne.2 h1,beq_eq_false_iff_ne.2 h2,decide_eq_false (by omega)];rfl
  rw[hlf]
  by_cases hk:k=1∨k=2
  ·have hsz:=hs _ (qdO _)
   rw[if_pos (decide_eq_true hk),if_pos hk,if_pos hk,qlH _ (by omega) s l hl d hd nx,Option.bind_some]
   simp only
   generalize qfF ⟨k,n,m,S,L⟩ s l (fun j=>d.getD j (-1)==(nx:Int))=x
   have hw:w64 ((nx:Int)+1)=((nx+1:Nat):Int):=QP (by omega) (by omega)
   rw[hw]
   unfold q1I
   by_cases h1:k=1
   ·subst h1
    have hx:zZ x ⟨1,n,m,S,L⟩=qdj ⟨1,n,m,S,L⟩ x:=by
     unfold zZ qdj
     rw[if_pos rfl]
     cases x.fine<;>simp
    rw[if_pos (by decide),Option.bind_some,Sum.elim_inl,hx]
   ·have hx:Qr x ⟨k,n,m,S,L⟩=qdj ⟨k,n,m,S,L⟩ x:=by
     unfold Qr qdj
     simp only
     rw[if_neg h1]
     cases x.fine
     ·simp
     ·by_cases h:0<x.many<;>simp[h]
    rw[if_neg (by rw[beq_eq_false_iff_ne.2 h1];decide),Option.bind_some,Sum.elim_inr,hx]
  ·have hln:=qoj L
   have h:=ih ⟨k,n,m,S,L⟩ [] nx 0 true false (fun y hy=>hs y (by rw[ndN];exact List.mem_cons_of_mem _ hy)) (by omega) (by omega) (by simp;omega)
   rw[if_neg (by rw[decide_eq_false hk];decide),if_neg hk,if_neg hk]
   simp only[List.nil_append] at h
   change Option.bind (qX _ (s,l,d,(nx:Int),true,((0:Nat):Int),false,((([]:List qb).length:Nat):Int))) _=_
   rw[h,Option.bind_some]
   simp only[Bool.true_and,Bool.false_or,Nat.zero_add]
   cases(q3i s l (fun j=>d.getD j (-1)) (k==3) L nx).2.2<;>simp
 | nil=>
  rename_i b5 pre nx many em wr hs hn hm hp
  rw[lvL,q3i]
  refine zr ?_
  unfold JN
  simp only
  rw[List.append_nil,if_neg (by omega)]
  simp
 | cons x L h1 h2=>
  rename_i b5 pre nx many em wr hs hn hm hp
  rw[ndL,List.length_append] at hn
  rw[List.length_cons] at hm hp
  have hx:=h1 nx (fun y hy=>hs y (by rw[ndL];exact List.mem_append_left _ hy)) (by omega)
  have hlv:=qdw x
  have hw:w64 ((pre.length:Int)+1)=((pre.length+1:Nat):Int):=QP (by omega) (by omega)
  have hw2:w64 ((many:Int)+1)=((many+1:Nat):Int):=QP (by omega) (by omega)
  have hL:=h2 b5 (pre++[x]) (nx+lvN x) (many+if(q3y s l (fun j=>d.getD j (-1)) x nx).2=true then 1 else 0) (em&&(q3y s l (fun j=>d.getD j (-1)) x nx).1) (wr||(!(q3y s l (fun j=>d.getD j (-1)) x nx).2&&(!(q3y s l (fun j=>d.getD j (-1)) x nx).1||(b5.Kind==3)))) (fun y hy=>hs y (by rw[ndL];exact List.mem_append_right _ hy)) (by omega) (by split<;>omega) (by rw[List.length_append,List.length_singleton];omega)
  rw[List.append_assoc,List.singleton_append,show(pre++[x]).length=pre.length+1 from by rw[List.length_append,List.length_singleton]] at hL
  have hg:(pre++x::L)[pre.length]?=some x:=by rw[List.getElem?_append_right (Nat.le_refl _),Nat.sub_self];rfl
  rw[q3i,lvL]
  simp only
  rw[zI (y:=(s,l,d,((nx+lvN x:Nat):Int),em&&(q3y s l (fun j=>d.getD j (-1)) x nx).1,((many+(if(q3y s l (fun j=>d.getD j (-1)) x nx).2=true then 1 else 0):Nat):Int),wr||(!(q3y s l (fun j=>d.getD j (-1)) x nx).2&&(!(q3y s l (fun j=>d.getD j (-1)) x nx).1||(b5.Kind==3))),((pre.length+1:Nat):Int))) ?_,hL]
  ·simp only[Nat.add_assoc,Bool.and_assoc,Bool.or_assoc]
  ·unfold JN
   simp only
   rw[if_pos (by rw[List.length_append,List.length_cons];omega),if_pos (by rw[List.length_append,List.length_cons];omega),Int.toNat_natCast,hg,Option.bind_some,hx,Option.bind_some]
   simp only
   rw[hw,hw2]
   generalize (q3y s l (fun j=>d.getD j (-1)) x nx).1=q1
   generalize (q3y s l (fun j=>d.getD j (-1)) x nx).2=q2
   cases em<;>cases wr<;>cases q1<;>cases q2<;>simp
end Go.Proofs.YtgejdfnidjnjcaaGreat.Vc
namespace Go.Proofs.YtgejdfnidjnjcaaGreat.Vc
open Go.RowKit
theorem qgK:∀n:qb,(∀y∈ndN n,q3v y)→lvN n≤((ndN n).filter Zh).length:=by
 intro n
 induction n using qb.rec (motive_2:=fun L=>(∀y∈ndL L,q3v y)→lvL L≤((ndL L).filter Zh).length) with
 | mk k n m S L ih=>
  intro hf
  have h1:=ih fun y hy=>hf y (by rw[ndN];exact List.mem_cons_of_mem _ hy)
  rw[lvN,ndN,List.filter_cons]
  have hk:=(hf _ (qdO _)).kind
  simp only at hk
  by_cases h:k=1∨k=2
  ·rw[if_pos h,if_pos (by unfold Zh;simp only;rcases h with h|h<;>subst h<;>decide),List.length_cons]
   omega
  ·rw[if_neg h]
   split
   ·rw[List.length_cons];omega
   ·exact h1
 | nil=>rename_i hf;rw[lvL];exact Nat.zero_le _
 | cons x L h1 h2=>
  rename_i hf
  have a:=h1 fun y hy=>hf y (by rw[ndL];exact List.mem_append_left _ hy)
  have b:=h2 fun y hy=>hf y (by rw[ndL];exact List.mem_append_right _ hy)
  rw[lvL,ndL,List.filter_append,List.length_append]
  omega
theorem qjq (d:List Int) (hd:d.length≤100) (v:Int) (h:∀(j:Nat) (y:Int),d[j]?=some y→QG y v=false):zN d v=some false:=by
 have h1:=J3 (step:=zx v d (d.length:Int)) (e := .inr ()) (fun i=>(i:Int)) 0 d.length (Nat.zero_le _) (fun i _ hi=>by
   obtain⟨y,hy⟩:∃y,d[i]?=some y:=⟨_,List.getElem?_eq_getElem hi⟩
   have hw:w64 ((i:Int)+1)=((i+1:Nat):Int):=qY (n:=100) (by omega) (by omega)
   unfold zx
   rw[if_pos (by omega),if_pos ⟨by omega,by omega⟩,Int.toNat_natCast,hy,Option.bind_some,h i y hy,if_neg (by decide),hw]) (by
   unfold zx
   rw[if_neg (by omega)])
 unfold zN QT
 change Option.bind (Option.bind (qX _ ((0:Nat):Int)) _) _=_
 rw[h1]
 rfl
end Go.Proofs.YtgejdfnidjnjcaaGreat.Vc
namespace Go.Proofs.YtgejdfnidjnjcaaGreat.Vc
open Go.RowKit
def qsI (W:Nat) (l:List Int):Nat:=l.foldl (fun acc y=>acc*W+(y+1).toNat) 0
theorem qgw (W:Nat) (l:List Int) (y:Int):qsI W (l++[y])=qsI W l*W+(y+1).toNat:=by
 unfold qsI
 rw[List.foldl_append]
 rfl
def qtz (b:List Int) (set w:Nat):Prop:=∀(j:Nat) (y:Int),b[j]?=some y→if set.testBit j=true then 0≤y∧y<(w:Int) else y = -1
theorem qgA {n:qb} {l:List qa} {set:Nat} (h:q31 n l set) {b:List Int} (hb:b.length=l.length) (hv:qtz b set (lvN n)) (j:Nat):Asg (b.take j) (fun k=>b.getD k (-1)) 0 (lvN n) set:=by
 have hget:∀k y,b[k]?=some y→b.getD k (-1)=y:=fun k y hk=>by rw[List.getD_eq_getElem?_getD,hk];rfl
 refine⟨fun k hk=>?_,fun k hk=>?_,fun k y hy x hx hx2=>?_⟩
 ·have hl:=qlo h.lt hk
  obtain⟨y,hy⟩:∃y,b[k]?=some y:=⟨_,List.getElem?_eq_getElem (by omega)⟩
  have:=hv k y hy
  rw[if_pos hk] at this
  show _≤b.getD k (-1)∧b.getD k (-1)<_
  rw[hget k y hy]
  omega
 ·show b.getD k (-1) = -1
  by_cases hl:k<b.length
  ·have hy:=List.getElem?_eq_getElem hl
   have:=hv k _ hy
   rw[hk,if_neg (by decide)] at this
   rw[hget k _ hy,this]
  ·rw[List.getD_eq_getElem?_getD,List.getElem?_eq_none (by omega)];rfl
 ·rw[List.getElem?_take] at hy
  split at hy
  ·show y=x↔b.getD k (-1)=x
   rw[hget k y hy]
  ·cases hy
theorem qgf {n:qb} {l:List qa} {set:Nat} (h:q31 n l set) {s:qf} {d b:List Int} (hd:d.length=l.length) (hf:q8p d s l n set) (hb:b.length=l.length) (hv:qtz b set (lvN n))
  (hm:(q3y s l (fun k=>b.getD k (-1)) n 0).2=true):d=b∨qsI (lvN n+1) d<qsI (lvN n+1) b:=by
 have hll:=h.ll
 have key:∀j,j≤l.length→d.take j=b.take j∨qsI (lvN n+1) (d.take j)<qsI (lvN n+1) (b.take j):=by
  intro j
  induction j with
  | zero=>intro _;left;rw[List.take_zero,List.take_zero]
  | succ j ih=>
   intro hj
   obtain⟨x,hx⟩:∃x,d[j]?=some x:=⟨_,List.getElem?_eq_getElem (by omega)⟩
   obtain⟨z,hz⟩:∃z,b[j]?=some z:=⟨_,List.getElem?_eq_getElem (by omega)⟩
   have ed:d.take (j+1)=d.take j++[x]:=by rw[List.take_add_one,hx];rfl
   have eb:b.take (j+1)=b.take j++[z]:=by rw[List.take_add_one,hz];rfl
   have vx:=hf.val j x hx
   have vz:=hv j z hz
   have hA:=(q7t (b.take (j+1)) s l (by omega) n 0 set h.fit h.lt).2 ⟨_,qgA h hb hv (j+1),hm⟩
   rw[ed,eb,qgw,qgw]
   rw[eb] at hA
   rcases ih (by omega) with e|e
   ·by_cases hbit:set.testBit j=true
    ·rw[if_pos hbit] at vx vz
     rcases Int.lt_trichotomy z x with g|g|g
     ·exfalso
      have:=hf.lst j x hx hbit z.toNat (by omega)
      rw[e,show((z.toNat:Nat):Int)=z from by omega,hA] at this
      exact absurd this (by decide)
     ·left;rw[e,g]
     ·right;rw[e];omega
    ·rw[if_neg hbit] at vx vz
     left;rw[e,vx,vz]
   ·right
    have h1:(x+1).toNat<lvN n+1:=by split at vx<;>omega
    have:=Nat.mul_le_mul_right (lvN n+1) e
    rw[Nat.succ_mul] at this
    omega
 have:=key l.length (Nat.le_refl _)
 rwa [List.take_of_length_le (by omega),List.take_of_length_le (by omega)] at this
def qBg (n:qb) (s:qf) (l:List qa) (b:List Int):Bool:=(q3y s l (fun k=>b.getD k (-1)) n 0).2
theorem qnR {n:qb} {l:List qa} {set:Nat} (h:q31 n l set) {s:qf} {b:List Int} (hb:b.length=l.length) (hv:qtz b set (lvN n)) (hm:qBg n s l b=true):Q1 [] s l n 0 set=true:=by
 have:=qgA h hb hv 0
 rw[List.take_zero] at this
 exact(q7t [] s l (by have:=h.ll;omega) n 0 set h.fit h.lt).2 ⟨_,this,hm⟩
end Go.Proofs.YtgejdfnidjnjcaaGreat.Vc
namespace Go.Proofs.YtgejdfnidjnjcaaGreat.Vc
open Go.RowKit
theorem qdi {n:qb} {l:List qa} {set:Nat} (h:q31 n l set) {s:qf} {d:List Int} (hd:d.length=l.length) (hf:q8p d s l n set):qBg n s l d=true:=by
 have hll:=h.ll
 obtain⟨a,ha,hm⟩:=(q7t d s l (by omega) n 0 set h.fit h.lt).1 hf.ok
 have hget:∀j,j<l.length→∃y,d[j]?=some y∧d.getD j (-1)=y:=fun j hj=>⟨d[j]'(by omega),List.getElem?_eq_getElem (by omega),by rw[List.getD_eq_getElem?_getD,List.getElem?_eq_getElem (by omega)];rfl⟩
 have hv:q3y s l (fun j=>d.getD j (-1)) n 0=q3y s l a n 0:=q9X s l _ a n 0 fun k hk x hx hx2=>by
  obtain⟨y,hy,e⟩:=hget k hk
  show d.getD k (-1)=x↔a k=x
  rw[e]
  exact ha.com k y hy x hx (by omega)
 unfold qBg
 rw[hv];exact hm
end Go.Proofs.YtgejdfnidjnjcaaGreat.Vc
namespace Go.Proofs.YtgejdfnidjnjcaaGreat.Vc
open Go.RowKit
structure Szs (n:qb):Prop where
 hg:hgN n≤100
 nd:(ndN n).length≤9999
 st:∀y∈ndN n,y.Set.length≤1000000
structure Rgt (n:qb):Prop where
 sz:Szs n
 ck:q2H n=0
theorem qj5:∀l:List qb,(qkI l).getD 0=0→∀y∈l,q4Q y=0
 | [],_,y,hy=>by cases hy
 | x::l,h,y,hy=>by
  unfold qkI at h
  rw[List.findSome?_cons] at h
  by_cases hx:q4Q x=0
  ·simp only[hx,ne_eq,not_true_eq_false,if_false] at h
   rcases List.mem_cons.1 hy with e|hy
   ·rw[e];exact hx
   ·exact qj5 l h y hy
  ·simp only[hx,ne_eq,not_false_eq_true,if_true,Option.getD_some] at h
theorem qp0 {n:qb} (h:Rgt n):∀y∈ndN n,q4Q y=0:=by
 have hc:=h.ck
 unfold q2H at hc
 split at hc
 ·exact absurd hc (by decide)
 split at hc
 ·exact absurd hc (by decide)
 split at hc
 ·exact absurd hc (by decide)
 exact qj5 _ hc
theorem qoY {y:qb} (h:q4Q y=0):q3v y:=by
 unfold q4Q at h
 by_cases e1:y.Kind=1
 ·exact⟨.inl e1,fun e=>by omega,fun e=>by omega⟩
 rw[if_neg e1] at h
 by_cases e2:y.Kind=2
 ·exact⟨.inr (.inl e2),fun e=>by omega,fun e=>by omega⟩
 rw[if_neg e2] at h
 by_cases e3:y.Kind=3
 ·rw[if_pos e3] at h
  split at h
  ·exact absurd h (by decide)
  ·rename_i hb
   have hb1:q65 y=true:=by
    cases hq:q65 y
    ·exact absurd (.inl hq) hb
    ·rfl
   have hb2:y.N=0:=Classical.byContradiction fun q=>hb (.inr q)
   unfold q65 at hb1
   simp only[Bool.and_eq_true] at hb1
   refine⟨.inr (.inr (.inl e3)),fun _=>⟨by omega,fun q=>?_⟩,fun e=>by omega⟩
   rw[q] at hb1
   exact absurd hb1.2 (by decide)
 rw[if_neg e3] at h
 by_cases e4:y.Kind=4
 ·rw[if_pos e4] at h
  split at h
  ·exact absurd h (by decide)
  ·split at h
   ·exact absurd h (by decide)
   ·rename_i hi
    have:inF y.N 1 y.L.length=true:=by simpa using hi
    unfold inF at this
    rw[Bool.and_eq_true,decide_eq_true_eq] at this
    exact⟨.inr (.inr (.inr e4)),fun e=>by omega,fun _=>this.1⟩
 ·rw[if_neg e4] at h
  exact absurd h (by decide)
theorem qhT {n:qb} (h:Rgt n):∀y∈ndN n,q3v y:=fun y hy=>qoY (qp0 h y hy)
theorem qbo {n:qb} (h:Rgt n) {l:List qa} (hl:l.length≤10) {set:Nat} (hs:set<2 ^ l.length):q31 n l set:=⟨qhT h,h.sz.nd,h.sz.st,by omega,hs⟩
theorem qcr {n:qb} (h:Rgt n) (s:qf) (l:List qa) (hl:l.length≤10):q1P n s l=some (Q3 (2 ^ l.length) (Q1 [] s l n 0),0):=by
 have h4:=h.sz.nd
 unfold q1P
 rw[q84 n h.sz.hg h.sz.nd h.sz.st,h.ck,Option.bind_some,if_neg (by decide),if_neg (by omega)]
 unfold q6m
 have:=qmD [] rfl s l (by omega) _ n (Nat.le_refl _) (by omega) h.sz.st 0 (by omega)
 rw[show((0:Nat):Int)=0 from rfl] at this
 rw[this,Option.bind_some,Option.bind_some]
theorem qgc {n:qb} (h:Rgt n) {l:List qa} (hl:l.length≤10) (s:qf) (d:List Int) (hd:d.length=l.length) (hv:∀(j:Nat) (y:Int),d[j]?=some y → -1≤y∧y<(lvN n:Int)):J0 n s l d=some (qBg n s l d):=by
 have hnd:=h.sz.nd
 have hlf:=qgK n (qhT h)
 unfold J0
 rw[qcW n h.sz.hg hnd h.sz.st,Option.bind_some,q84 n h.sz.hg hnd h.sz.st,h.ck,Option.bind_some,if_neg (by decide),if_neg (by rw[hd];simp),qjq d (by omega) _ fun j y hy=>?_,Option.bind_some,if_neg (by decide)]
 ·change Option.bind (q0b (n,s,l,d,((0:Nat):Int))) _=_
  rw[qga s l (by omega) d hd n 0 h.sz.st (by omega),Option.bind_some]
  rfl
 ·have:=hv j y hy
  unfold QG
  rw[if_neg (by omega)];exact decide_eq_false (by omega)
theorem qkF {n:qb} {l:List qa} {set:Nat} (h:q31 n l set) {s:qf} {d b:List Int} (hd:d.length=l.length) (hf:q8p d s l n set) (hb:b.length=l.length) (hg:q8p b s l n set):d=b:=by
 rcases qgf h hd hf hb hg.val (qdi h hb hg) with e|e
 ·exact e
 ·rcases qgf h hb hg hd hf.val (qdi h hd hf) with e2|e2
  ·exact e2.symm
  ·omega
theorem qid {n:qb} {l:List qa} {set:Nat} (h:q31 n l set) {s:qf} {d:List Int} (hd:d.length=l.length) (hf:q8p d s l n set):Q1 [] s l n 0 set=true:=
 qnR h hd hf.val (qdi h hd hf)
theorem qdd {n:qb} (h:Rgt n) {l:List qa} (hl:l.length≤10) {set:Nat} (hs:set<2 ^ l.length) (s:qf) {d:List Int} (hd:d.length=l.length) (hf:q8p d s l n set):Qw n s l (set:Int)=some (q5x set.testBit d,true):=by
 have hG:=qbo h hl hs
 rcases qgP hG s (qcr h s l hl) with ⟨g1,_⟩|⟨_,b,g2,g3,g4⟩
 ·rw[qid hG hd hf] at g1;cases g1
 ·rw[g4,qkF hG hd hf g2 g3]
theorem qcT {n:qb} (h:Rgt n) {l:List qa} (hl:l.length≤10) {set:Nat} (hs:set<2 ^ l.length) (s:qf) (hn:Q1 [] s l n 0 set=false):Qw n s l (set:Int)=some ([],false):=by
 rcases qgP (qbo h hl hs) s (qcr h s l hl) with ⟨_,g⟩|⟨g,_⟩
 ·exact g
 ·rw[hn] at g;cases g
def qrn (d:List Int) (s:qf) (l:List qa) (n:qb) (set:Nat):Bool:=Q1 d s l n 0 set&&(List.range d.length).all fun j=>match d[j]? with
 | some x=>if set.testBit j=true then decide (0≤x)&&decide (x<(lvN n:Int))&&(List.range x.toNat).all (fun y => !Q1 (d.take j++[(y:Int)]) s l n 0 set) else x == -1
 | none=>true
theorem qjt {d:List Int} {s:qf} {l:List qa} {n:qb} {set:Nat} (h:qrn d s l n set=true):q8p d s l n set:=by
 unfold qrn at h
 rw[Bool.and_eq_true,List.all_eq_true] at h
 refine⟨h.1,fun j y hy=>?_,fun j x hx hj y hy=>?_⟩
 ·have:=h.2 j (List.mem_range.2 (q08 hy))
  rw[hy] at this
  dsimp only at this
  by_cases hb:set.testBit j=true
  ·rw[if_pos hb,Bool.and_eq_true,Bool.and_eq_true,decide_eq_true_eq,decide_eq_true_eq] at this
   rw[if_pos hb];exact this.1
  ·rw[if_neg hb] at this
   rw[if_neg hb];simpa using this
 ·have:=h.2 j (List.mem_range.2 (q08 hx))
  rw[hx] at this
  dsimp only at this
  rw[if_pos hj,Bool.and_eq_true,List.all_eq_true] at this
  have:=this.2 y (List.mem_range.2 (by omega))
  simpa using this
end Go.Proofs.YtgejdfnidjnjcaaGreat.Vc
namespace Go.Proofs.YtgejdfnidjnjcaaGreat.Vc
open Go.RowKit
theorem qiu:∀(set sub:Nat),sub &&& set=sub→set-sub=q09 set sub:=by
 intro set
 induction set using Nat.strongRecOn with
 | ind set ih=>
  intro sub h
  by_cases h0:set=0
  ·subst h0
   rw[Nat.and_zero] at h
   subst h;rfl
  ·have e1:(sub / 2) &&& (set / 2)=sub / 2:=by rw[←Nat.and_div_two,h]
   have e2:=ih (set / 2) (by omega) (sub / 2) e1
   have g:∀x:Nat,x % 2=if x.testBit 0=true then 1 else 0:=fun x=>by
    rw[Nat.testBit_zero]
    by_cases q:x % 2=1
    ·rw[if_pos (by simpa using q),q]
    ·rw[if_neg (by simpa using q)];omega
   have hb:sub % 2≤set % 2:=by
    rw[g sub,g set]
    cases q:sub.testBit 0
    ·simp
    ·rw[qdn h q]
     exact Nat.le_refl _
   have hl:sub / 2≤set / 2:=by rw[←e1];exact Nat.and_le_right
   have d1:q09 set sub / 2=q09 (set / 2) (sub / 2):=by
    refine Nat.eq_of_testBit_eq fun i=>?_
    rw[Nat.testBit_div_two,QI,QI,Nat.testBit_div_two,Nat.testBit_div_two]
   have d2:q09 set sub % 2=set % 2-sub % 2:=by
    have gs:=g set
    have gt:=g sub
    rw[g (q09 set sub),QI]
    cases q1:set.testBit 0<;>cases q2:sub.testBit 0<;>rw[q1] at gs<;>rw[q2] at gt<;>simp at gs gt ⊢ <;> omega
   have m1:=Nat.div_add_mod (q09 set sub) 2
   have m2:=Nat.div_add_mod set 2
   have m3:=Nat.div_add_mod sub 2
   omega
theorem quE (n:Int):Js n 1000=(decide (-1000≤n)&&decide (n≤1000)):=by
 unfold Js
 rw[show w64 ((0:Int)-1000) = -1000 from QP (by omega) (by omega)]
 by_cases h : -1000≤n
 ·rw[if_pos h,decide_eq_true h,Bool.true_and]
 ·rw[if_neg h,decide_eq_false h,Bool.false_and]
theorem qd1 (s:qf):q7w s=true↔(-1000≤s.Worst∧s.Worst≤1000)∧(-1000≤s.Best∧s.Best≤1000)∧s.Worst≠s.Best∧min s.Worst s.Best≤s.Pass∧s.Pass≤max s.Worst s.Best:=by
 unfold q7w qg1
 simp only[Bool.and_eq_true,beq_iff_eq,bne_iff_ne]
 omega
theorem qzw (s:qf):q0n s=if q7w s=true then 0 else 10:=by
 have hk:=qd1 s
 unfold q0n
 simp only[quE]
 by_cases h1:s.Worst=s.Best
 ·rw[if_pos (by rw[h1];simp),if_neg (fun q=>(hk.1 q).2.2.1 h1)]
 ·rw[if_neg (by simp;omega)]
  by_cases h2 : -1000≤min s.Worst s.Best∧min s.Worst s.Best≤1000
  ·rw[if_neg (by simp[h2.1,h2.2])]
   by_cases h3 : -1000≤max s.Worst s.Best∧max s.Worst s.Best≤1000
   ·rw[if_neg (by simp[h3.1,h3.2])]
    by_cases h4:s.Pass<min s.Worst s.Best
    ·rw[if_pos h4,if_neg (fun q=>by have:=hk.1 q;omega)]
    ·rw[if_neg h4]
     by_cases h5:max s.Worst s.Best<s.Pass
     ·rw[if_pos h5,if_neg (fun q=>by have:=hk.1 q;omega)]
     ·rw[if_neg h5,if_pos (hk.2 (by omega))]
   ·rw[if_pos (by rw[Bool.not_eq_true',Bool.and_eq_false_iff,decide_eq_false_iff_not,decide_eq_false_iff_not];omega),if_neg (fun q=>by have:=hk.1 q;omega)]
  ·rw[if_pos (by rw[Bool.not_eq_true',Bool.and_eq_false_iff,decide_eq_false_iff_not,decide_eq_false_iff_not];omega),if_neg (fun q=>by have:=hk.1 q;omega)]
theorem qoy (s:qf) (g m:Int):Jj s g m=qgQ s g m:=by
 unfold Jj q0P qgQ qgR
 rw[qzw]
 cases hs:q7w s
 ·rw[if_neg (show ¬ (false=true) by decide),if_neg (show ¬ (((10:Int)==0)=true) by decide)];rfl
 ·have hk:=(qd1 s).1 hs
  rw[if_pos rfl,if_pos (show((0:Int)==0)=true by decide),Bool.true_and]
  have hl:(qg1 g s.Worst s.Best==g)=(decide (min s.Worst s.Best≤g)&&decide (g≤max s.Worst s.Best)):=by
   rw[Bool.eq_iff_iff]
   unfold qg1
   simp only[Bool.and_eq_true,beq_iff_eq,decide_eq_true_eq]
   omega
  rw[hl]
  by_cases h1:min s.Worst s.Best≤g
  ·rw[if_pos h1,decide_eq_true h1,Bool.true_and]
   by_cases h2:g≤max s.Worst s.Best
   ·rw[decide_eq_true h2,if_neg (show ¬ ((!true)=true) by decide),Bool.true_and]
    by_cases h3:s.Worst<s.Best
    ·rw[if_pos h3,decide_eq_true h3,Bool.eq_iff_iff]
     simp only[Bool.or_eq_true,beq_iff_eq,decide_eq_true_eq]
     omega
    ·rw[if_neg h3,decide_eq_false h3,Bool.eq_iff_iff]
     simp only[Bool.or_eq_true,beq_iff_eq,decide_eq_true_eq,decide_eq_false_iff_not]
     omega
   ·rw[decide_eq_false h2,if_pos (show(!false)=true by decide),Bool.false_and]
  ·rw[if_neg h1,decide_eq_false h1,if_pos (show(!false)=true by decide)];rfl
theorem qeZ (n:qb) (hn:n.Set.length≤1000000) (s:qf) (a:qa):q1M n s a=some (qc4 n s a):=by
 have h:=qet (step:=q0O n s a) n.Set (fun b k=>(b,(k:Int))) (fun b c=>b||ceq a.Course c) (fun b=>b) (fun b k c hc=>by
  have hi:=q08 hc
  have hws:w64 ((k:Int)+1)=((k+1:Nat):Int):=qY (n:=10000000) (by omega) (by omega)
  have he:(c.School==a.Course.School&&ByteArray.toList c.Code==ByteArray.toList a.Course.Code)=ceq a.Course c:=by
   unfold ceq
   rw[BEq.comm (a:=c.School),BEq.comm (a:=ByteArray.toList c.Code)]
  unfold q0O
  dsimp only
  rw[if_pos (by omega),hws]
  cases b
  ·rw[if_neg (by decide),if_pos ⟨by omega,by omega⟩,Int.toNat_natCast,hc,Option.bind_some,he,Bool.false_or]
  ·rw[if_pos rfl,Bool.true_or]) (fun b=>by
  unfold q0O
  dsimp only
  rw[if_neg (by omega)]) false
 have e:∀(w:List qc) (b:Bool),w.foldl (fun b c=>b||ceq a.Course c) b=(b||w.any (ceq a.Course)):=by
  intro w
  induction w with
  | nil=>intro b;simp
  | cons c w ih=>intro b;rw[List.foldl_cons,ih,List.any_cons,Bool.or_assoc]
 rw[e,Bool.false_or] at h
 unfold q1M qc4 q9g
 change Option.bind (qX _ (false,((0:Nat):Int))) _=_
 rw[h,Option.bind_some,qoy]
 cases h1:(n.Kind==1)
 ·rw[if_neg (by decide)]
  cases h2:(n.Kind==2)
  ·rw[if_neg (by decide)];rfl
  ·rw[if_pos rfl]
   cases n.Set.any (ceq a.Course)<;>simp
 ·rw[if_pos rfl]
  cases n.Set.any (ceq a.Course)<;>simp
theorem qfr (n:qb) (s:qf) (set:Nat):∀(r:List qa) (k:Nat) (x:qJ),x.fine=false→(wgF n s set r k x).fine=false
 | [],_,x,h=>h
 | a::r,k,x,h=>by
  rw[wgF]
  refine qfr n s set r (k+1) _ ?_
  split
  ·simp[h]
  ·exact h
end Go.Proofs.YtgejdfnidjnjcaaGreat.Vc
namespace Go.Proofs.YtgejdfnidjnjcaaGreat.Vc
open Go.RowKit
theorem qp4 (n:qb) (s:qf) (l:List qa) (hl:l.length≤16) {set:Nat} (h0:set≠0) (hs:set<2 ^ l.length):0<(wgF n s set l 0 ld0).many:=by
 rw[qfq]
 simp only[Nat.zero_add]
 have hle:=q86 l (fun j=>set.testBit j)
 rw[qdM n s _ ld0 (by decide) (by show(0:Int)+_≤_;omega)]
 show(0:Int)<0+_
 have:((q5x (fun j=>set.testBit j) l).length≠0):=fun e=>by
  have h:=(qcv l _).1 e
  refine h0 (Nat.eq_of_testBit_eq fun i=>?_)
  rw[Nat.zero_testBit]
  by_cases hi:i<l.length
  ·exact h i hi
  ·exact Nat.testBit_lt_two_pow (Nat.lt_of_lt_of_le hs (Nat.pow_le_pow_right (by decide) (by omega)))
 omega
section
variable (w2:List Bool) (W B P nx:Int) (l:List qa) (hl:l.length≤16) (n:qb) (hn:n.Set.length≤1000000)
include hl
theorem qpU (set:Int) (m c:Int) (i:Nat) (hi:i≤l.length):qX (zF w2 W B P l nx n set) (m,(c,(false,(i:Int))))=some (m,c,false):=by
 refine zr ?_
 unfold zF
 dsimp only
 by_cases h:(i:Int)<((l.length:Nat):Int)
 ·rw[if_pos h,if_neg (by decide)]
 ·rw[if_neg h]
include hn
theorem qvn {set:Nat} (hs:set<9223372036854775808):∀(r:List qa) (i:Nat) (x:qJ),r.length+i=l.length→(∀j,r[j]?=l[i+j]?)→x.fine=true→
  ∃e,qX (zF w2 W B P l nx n (set:Int)) (x.many,(x.credits,(true,(i:Int))))=some e∧e.2.2=(wgF n ⟨W,B,P⟩ set r i x).fine∧(e.2.2=true→e.1=(wgF n ⟨W,B,P⟩ set r i x).many∧e.2.1=(wgF n ⟨W,B,P⟩ set r i x).credits)
 | [],i,x,hi,_,hx=>by
  refine⟨_,zr (e:=(x.many,x.credits,true)) ?_,by rw[wgF];exact hx.symm,fun _=>⟨rfl,rfl⟩⟩
  unfold zF
  dsimp only
  rw[if_neg (by simp at hi;omega)]
 | a::r,i,x,hi,hr,hx=>by
  rw[List.length_cons] at hi
  have ha:l[i]?=some a:=by have:=hr 0;simpa using this.symm
  have hw:w64 ((i:Int)+1)=((i+1:Nat):Int):=qY (n:=100) (by omega) (by omega)
  have hr2:∀j,r[j]?=l[i+1+j]?:=fun j=>by
   have:=hr (j+1)
   rw[show i+1+j=i+(j+1) by omega,←this];rfl
  have hc:(0:Int)≤(i:Int)∧(i:Int)<((l.length:Nat):Int):=⟨by omega,by omega⟩
  rw[wgF]
  by_cases hb:set.testBit i=true
  ·have hstep:zF w2 W B P l nx n (set:Int) (x.many,(x.credits,(true,(i:Int))))=some (.inl (w64 (x.many+1),(w64 (x.credits+a.Credits),(qc4 n ⟨W,B,P⟩ a,((i+1:Nat):Int))))):=by
    unfold zF
    dsimp only
    rw[if_pos hc.2,if_pos rfl,if_pos hc.1,Int.toNat_natCast,q8W set i hs (by omega),if_pos hb,if_pos hc,ha,Option.bind_some,if_pos hc,Option.bind_some,qeZ n hn,Option.bind_some,hw]
   rw[if_pos hb,zI hstep]
   cases hf:qc4 n ⟨W,B,P⟩ a
   ·refine⟨_,qpU w2 W B P nx l hl n _ _ _ _ (by omega),?_,fun h=>by cases h⟩
    exact(qfr n _ set r (i+1) _ (by simp)).symm
   ·rw[hx,Bool.true_and]
    exact qvn hs r (i+1) ⟨w64 (x.many+1),w64 (x.credits+a.Credits),true⟩ (by omega) hr2 rfl
  ·have hstep:zF w2 W B P l nx n (set:Int) (x.many,(x.credits,(true,(i:Int))))=some (.inl (x.many,(x.credits,(true,((i+1:Nat):Int))))):=by
    unfold zF
    dsimp only
    rw[if_pos hc.2,if_pos rfl,if_pos hc.1,Int.toNat_natCast,q8W set i hs (by omega),if_neg hb,hw]
   rw[if_neg hb,zI hstep]
   exact qvn hs r (i+1) x (by omega) hr2 hx
end
theorem qgd (d:List Int) (s:qf) (l:List qa) (hl:l.length≤16) (n:qb) (nx i:Nat) (h0:i≠0) (hi:i<2 ^ l.length):Zx d s l n nx i=(alF d nx i&&(if n.Kind=1 then(wgF n s i l 0 ld0).fine&&(wgF n s i l 0 ld0).many==1 else(wgF n s i l 0 ld0).fine&&decide (n.N≤(wgF n s i l 0 ld0).credits))):=by
 have hp:=qp4 n s l hl h0 hi
 unfold Zx qdj
 rw[decide_eq_true h0,Bool.true_and,decide_eq_true hp,Bool.and_true]
theorem qhR {l:List qa} (hl:l.length≤16):2 ^ l.length≤65536:=Nat.le_trans (Nat.pow_le_pow_right (by decide) hl) (by decide)
theorem qBk {l:List qa} (hl:l.length≤16):w64 ((1:Int)*(2:Int) ^ min l.length (IntKind.bits IntKind.i64))=((2 ^ l.length:Nat):Int):=by
 have:=qhR hl
 have h1:1≤2 ^ l.length:=Nat.one_le_two_pow
 rw[show min l.length (IntKind.bits IntKind.i64)=l.length from Nat.min_eq_left (by show l.length≤64;omega),Int.one_mul,show((2:Int) ^ l.length)=((2 ^ l.length:Nat):Int) by simp]
 exact QP (by omega) (by omega)
theorem qgY (d:List Int) (s:qf) (l:List qa) (n:qb) (nx:Nat):Q3 (2 ^ l.length) (fun k=>if 1≤k∧k<2 ^ l.length then Zx d s l n nx k else false)=Q3 (2 ^ l.length) (Zx d s l n nx):=ZN fun k hk=>by
 by_cases h:k=0
 ·subst h;simp[Zx]
 ·rw[if_pos ⟨by omega,hk⟩]
theorem qgB (W B P:Int) (l:List qa) (hl:l.length≤16) (n:qb) (hn:n.Set.length≤1000000) (nx:Nat) (hnx:nx≤1000000):Ji n W B P l (nx:Int)=some (Q3 (2 ^ l.length) (Zx [] ⟨W,B,P⟩ l n nx),((nx+1:Nat):Int)):=by
 have hN:=qhR hl
 have hN1:1≤2 ^ l.length:=Nat.one_le_two_pow
 have h1:=J3 (step:=QS W B P l (nx:Int) n) (fun i=>(Q3 (2 ^ l.length) (fun k=>if 1≤k∧k<i then Zx [] ⟨W,B,P⟩ l n nx k else false),(i:Int))) 1 (2 ^ l.length) hN1 (e:=Q3 (2 ^ l.length) (Zx [] ⟨W,B,P⟩ l n nx)) (fun i h1 hi=>by
   have hw:w64 ((i:Int)+1)=((i+1:Nat):Int):=qY hi (by omega)
   have hc:Q3 (2 ^ l.length) (q4Y (fun k=>if 1≤k∧k<i then Zx [] ⟨W,B,P⟩ l n nx k else false) i (Zx [] ⟨W,B,P⟩ l n nx i))=Q3 (2 ^ l.length) (fun k=>if 1≤k∧k<i+1 then Zx [] ⟨W,B,P⟩ l n nx k else false):=by
    rw[qbR (Zx [] ⟨W,B,P⟩ l n nx) false h1]
   have hv:=qgd [] ⟨W,B,P⟩ l hl n nx i (by omega) hi
   rw[show alF [] nx i=true from rfl,Bool.true_and] at hv
   obtain⟨e,q1,q2,q3⟩:=qvn (Q3 (2 ^ l.length) (fun k=>if 1≤k∧k<i then Zx [] ⟨W,B,P⟩ l n nx k else false)) W B P (nx:Int) l hl n hn (set:=i) (by omega) l 0 ld0 (by simp) (by simp) rfl
   have q1':qX (zF (Q3 (2 ^ l.length) (fun k=>if 1≤k∧k<i then Zx [] ⟨W,B,P⟩ l n nx k else false)) W B P l (nx:Int) n (i:Int)) ((0:Int),((0:Int),(true,(0:Int))))=some e:=q1
   have hag:q0r (i:Int) (nx:Int) W B P l (nx:Int)=some ():=by
    unfold q0r
    rw[zr (e:=()) (by unfold Jh;rw[if_neg (by decide)]),Option.bind_some]
   generalize wgF n ⟨W,B,P⟩ i l 0 ld0=y at q2 q3 hv
   have hcl:(0:Int)≤(i:Int)∧(i:Int)<((2 ^ l.length:Nat):Int):=⟨by omega,by omega⟩
   unfold QS
   dsimp only
   rw[qM,if_pos hcl.2,hag,Option.bind_some,q1',Option.bind_some,hw]
   by_cases hk:n.Kind=1
   ·rw[if_pos hk] at hv
    rw[if_pos (by rw[hk];rfl)]
    cases hf:e.2.2
    ·rw[hf] at q2
     rw[←q2,Bool.false_and] at hv
     rw[if_neg (by decide),if_pos hcl,Int.toNat_natCast,if_pos (by omega),zX,←hc,hv]
    ·rw[hf] at q2
     rw[←q2,Bool.true_and,←(q3 hf).1] at hv
     rw[if_pos rfl,if_pos hcl,Int.toNat_natCast,if_pos (by omega),zX,←hc,hv]
   ·rw[if_neg hk] at hv
    rw[if_neg (by simpa using hk)]
    cases hf:e.2.2
    ·rw[hf] at q2
     rw[←q2,Bool.false_and] at hv
     rw[if_neg (by decide),if_pos hcl,Int.toNat_natCast,if_pos (by omega),zX,←hc,hv]
    ·rw[hf] at q2
     rw[←q2,Bool.true_and,←(q3 hf).2] at hv
     rw[if_pos rfl,if_pos hcl,Int.toNat_natCast,if_pos (by omega),zX,←hc,hv]) (by
   unfold QS
   dsimp only
   rw[qM,if_neg (by omega),qgY])
 have e:(fun k:Nat=>if 1≤k∧k<1 then Zx [] ⟨W,B,P⟩ l n nx k else false)=fun _=>false:=by funext k;rw[if_neg (by omega)]
 rw[e,←q0K] at h1
 have h1':qX (QS W B P l (nx:Int) n) (List.replicate (2 ^ l.length) false,(1:Int))=some (Q3 (2 ^ l.length) (Zx [] ⟨W,B,P⟩ l n nx)):=h1
 unfold Ji
 rw[qBk hl,if_pos (by omega),if_pos ⟨by omega,by omega,by omega⟩,Int.toNat_natCast,h1',Option.bind_some,qY (n:=10000000) (by omega) (by omega)]
section
variable {N:Nat} {best:Nat→Int} {M:Int} {rF:(qb×Int×Int×Int×List qa×Int)→Option (List Bool×Int×Int×Int×List qa×Int)} (W B P nx:Int) (l:List qa) (n:qb)
theorem qDZ (hN:N≤65536) (hN1:1≤N):qX (QR rF W B P l nx n) (List.replicate N 0,(1:Int))=some (Q3 N b0F):=by
 have h1:=J3 (step:=QR rF W B P l nx n) (fun i=>(Q3 N (fun k=>if 1≤k∧k<i then -1 else 0),(i:Int))) 1 N hN1 (e:=Q3 N b0F) (fun i h1 hi=>by
   have hw:w64 ((i:Int)+1)=((i+1:Nat):Int):=qY hi (by omega)
   unfold QR
   dsimp only
   rw[qM,if_pos (by omega),if_pos ⟨by omega,by omega⟩,Int.toNat_natCast,if_pos (by omega),hw,zX]
   rw[qbR (fun _=>(-1:Int)) 0 h1]) (by
   unfold QR
   dsimp only
   rw[qM,if_neg (by omega)]
   congr 2
   refine ZN fun k hk=>?_
   unfold b0F
   by_cases h:k=0
   ·rw[if_pos h,if_neg (by omega)]
   ·rw[if_neg h,if_pos (by omega)])
 rw[q0K]
 have e:(fun k:Nat=>if 1≤k∧k<1 then(-1:Int) else 0)=fun _=>0:=by funext k;rw[if_neg (by omega)]
 rw[e] at h1
 exact h1
theorem qrB (hN:N≤65536) (hN1:1≤N) (least:Int):qX (Qx rF (Q3 N best) W B P l nx least) (List.replicate N false,(1:Int))=some (Q3 N (fun k=>decide (k≠0)&&decide (least≤best k))):=by
 have h1:=J3 (step:=Qx rF (Q3 N best) W B P l nx least) (fun i=>(Q3 N (fun k=>if 1≤k∧k<i then decide (least≤best k) else false),(i:Int))) 1 N hN1 (e:=Q3 N (fun k=>decide (k≠0)&&decide (least≤best k))) (fun i h1 hi=>by
   have hw:w64 ((i:Int)+1)=((i+1:Nat):Int):=qY hi (by omega)
   unfold Qx
   dsimp only
   rw[qM,qM,if_pos (by omega),if_pos ⟨by omega,by omega⟩,Int.toNat_natCast,Zb best hi,Option.bind_some,if_pos ⟨by omega,by omega⟩,if_pos (by omega),hw,zX]
   rw[qbR (fun k=>decide (least≤best k)) false h1]) (by
   unfold Qx
   dsimp only
   rw[qM,if_neg (by omega)]
   congr 2
   refine ZN fun k hk=>?_
   by_cases h:k=0
   ·subst h;simp
   ·rw[if_pos ⟨by omega,hk⟩];simp[h])
 rw[q0K]
 have e:(fun k:Nat=>if 1≤k∧k<1 then decide (least≤best k) else false)=fun _=>false:=by funext k;rw[if_neg (by omega)]
 rw[e] at h1
 exact h1
theorem q54 {α:Type} (g:Nat→α) (set:Nat):q4Y g set (g set)=g:=by funext k;unfold q4Y;split<;>simp_all
theorem qAx (hN:N≤65536) (hM:M≤1000000) (hb:Bnd best N M) (own:Nat→Bool) (t7:Int) (t10:Bool) {set:Nat} (hs:set<N):∀(f sub:Nat),sub≤f→sub &&& set=sub→∀(g:Nat→Int),
  qX (zS rF (Q3 N best) W B P l nx n t7 (Q3 N own) t10 (set:Int)) (Q3 N g,(sub:Int))=some (Q3 N (q4Y g set (eaF own best set f sub (g set)))):=by
 have h0:∀(g:Nat→Int),qX (zS rF (Q3 N best) W B P l nx n t7 (Q3 N own) t10 (set:Int)) (Q3 N g,((0:Nat):Int))=some (Q3 N g):=fun g=>by
  refine zr ?_
  unfold zS
  dsimp only
  rw[if_neg (by decide)]
 intro f
 induction f with
 | zero=>
  intro sub hf _ g
  have:sub=0:=by omega
  subst this
  rw[h0]
  unfold eaF
  rw[q54]
 | succ f ih=>
  intro sub hf hsub g
  unfold eaF
  by_cases hz:sub=0
  ·subst hz
   rw[h0,if_pos rfl,q54]
  ·have ha:(sub-1) &&& set≤sub-1:=Nat.and_le_left
   have hle:sub≤set:=by rw[←hsub];exact Nat.and_le_right
   have hr:=qcx set sub
   have hbr:=hb (q09 set sub) (by omega)
   have hsl:=qiu set sub hsub
   have hws:w64 ((set:Int)-(sub:Int))=((q09 set sub:Nat):Int):=by rw[QP (by omega) (by omega),←hsl];omega
   have hand:JH Go.BinOp.and Go.IntKind.i64 (w64 ((sub:Int)-1)) (set:Int)=(((sub-1) &&& set:Nat):Int):=by
    rw[QP (by omega) (by omega),show((sub:Int)-1)=((sub-1:Nat):Int) by omega,qaK _ _ (by omega) (by omega)]
   have hstep:zS rF (Q3 N best) W B P l nx n t7 (Q3 N own) t10 (set:Int) (Q3 N g,(sub:Int))=some (.inl (Q3 N (q4Y g set (eaV own best set sub (g set))),(((sub-1) &&& set:Nat):Int))):=by
    unfold zS
    dsimp only
    rw[if_pos (by omega),qM,if_pos ⟨by omega,by omega⟩,Int.toNat_natCast,Zb own (by omega),Option.bind_some,hand]
    cases ho:own sub
    ·have hv:eaV own best set sub (g set)=g set:=by unfold eaV;rw[if_neg (by simp[ho])]
     rw[if_neg (by decide),hv,q54]
    ·rw[if_pos rfl,hws,qM,if_pos ⟨by omega,by omega⟩,Int.toNat_natCast,Zb best (by omega),Option.bind_some]
     by_cases hq:0≤best (q09 set sub)
     ·have hv:eaV own best set sub (g set)=max (g set) (best (q09 set sub)+1):=by unfold eaV;rw[if_pos ⟨ho,hq⟩]
      rw[if_pos hq,qM,if_pos ⟨by omega,by omega⟩,Int.toNat_natCast,Zb g hs,Option.bind_some,if_pos ⟨by omega,by omega⟩,Option.bind_some,if_pos ⟨by omega,by omega⟩,if_pos (by omega),QP (n:=best (q09 set sub)+1) (by omega) (by omega),zX,hv]
     ·have hv:eaV own best set sub (g set)=g set:=by unfold eaV;rw[if_neg (fun q=>hq q.2)]
      rw[if_neg hq,hv,q54]
   have hsub2:((sub-1) &&& set) &&& set=(sub-1) &&& set:=by rw[Nat.and_assoc,Nat.and_self]
   rw[zI hstep,ih _ (by omega) hsub2,if_neg hz,q4C,q2P]
theorem qAn (hN:N≤65536) (hM:M≤1000000) (hb:Bnd best N M) (own:Nat→Bool) (t7:Int) (must:Bool) :
  qX (Z7 rF (Q3 N best) W B P l nx n t7 (Q3 N own) must) (List.replicate N 0,(0:Int))=some (Q3 N (stF (n.Kind==4 && !must) own best)):=by
 have h1:=J3 (step:=Z7 rF (Q3 N best) W B P l nx n t7 (Q3 N own) must) (fun i=>(Q3 N (fun k=>if k<i then stF (n.Kind==4 && !must) own best k else 0),(i:Int))) 0 N (Nat.zero_le _) (e:=Q3 N (stF (n.Kind==4 && !must) own best)) (fun i _ hi=>by
   have hbi:=hb i hi
   have hw:w64 ((i:Int)+1)=((i+1:Nat):Int):=qY hi (by omega)
   have hg:∀v:Int,v=(if(n.Kind==4 && !must)=true then best i else -1)→q4Y (q4Y (fun k=>if k<i then stF (n.Kind==4 && !must) own best k else 0) i v) i (eaF own best i i i (q4Y (fun k=>if k<i then stF (n.Kind==4 && !must) own best k else 0) i v i))=fun k=>if k<i+1 then stF (n.Kind==4 && !must) own best k else 0:=fun v hv=>by
    funext k
    rw[q4C,q2P]
    unfold q4Y
    by_cases hk:k=i
    ·subst hk
     rw[if_pos rfl,if_pos (by omega)]
     unfold stF
     rw[←hv]
    ·rw[if_neg hk]
     show(if k<i then stF (n.Kind==4 && !must) own best k else 0)=_
     by_cases h:k<i
     ·rw[if_pos h,if_pos (by omega)]
     ·rw[if_neg h,if_neg (by omega)]
   have hci:(0:Int)≤(i:Int)∧(i:Int)<((N:Nat):Int):=⟨by omega,by omega⟩
   have hin:∀v:Int,v=(if(n.Kind==4 && !must)=true then best i else -1)→qX (zS rF (Q3 N best) W B P l nx n t7 (Q3 N own) must (i:Int)) (Q3 N (q4Y (fun k=>if k<i then stF (n.Kind==4 && !must) own best k else 0) i v),(i:Int))=some (Q3 N (fun k=>if k<i+1 then stF (n.Kind==4 && !must) own best k else 0)):=fun v hv=>by
    rw[qAx W B P nx l n hN hM hb own t7 must hi i i (Nat.le_refl _) (Nat.and_self _),hg v hv]
   unfold Z7
   dsimp only
   rw[qM,qM,if_pos hci.2,if_pos hci,Int.toNat_natCast,if_pos (show i+1≤N by omega)]
   cases hk:(n.Kind==4)
   ·rw[hk] at hin
    rw[if_neg (by decide),zX,hin (-1) rfl,Option.bind_some,hw]
   ·rw[hk] at hin
    rw[if_pos rfl]
    cases must
    ·rw[if_pos (show(!false)=true by decide),if_pos hci,Zb best hi,Option.bind_some,if_pos hci,if_pos (show i+1≤N by omega),zX,zX,q2P,hin (best i) rfl,Option.bind_some,hw]
    ·rw[if_neg (show ¬ ((!true)=true) by decide),zX,hin (-1) rfl,Option.bind_some,hw]) (by
   unfold Z7
   dsimp only
   rw[qM,qM,if_neg (by omega)]
   congr 2
   exact ZN fun k hk=>if_pos hk)
 rw[q0K]
 have e:(fun k:Nat=>if k<0 then stF (n.Kind==4 && !must) own best k else 0)=fun _=>0:=by funext k;rw[if_neg (by omega)]
 rw[e] at h1
 exact h1
end
theorem qnn (W B P:Int) (l:List qa) (hl:l.length≤16) (n:qb) (hLn:n.L.length≤1000000)
  (hP:∀y∈n.L,∀nx:Nat,nx+(ndN y).length≤100000→Qt (y,W,B,P,l,(nx:Int))=some (Q3 (2 ^ l.length) (Q1 [] ⟨W,B,P⟩ l y nx),W,B,P,l,((nx+lvN y:Nat):Int))) :
  ∀(r:List qb) (i nx:Nat) (best:Nat→Int) (M:Int),r.length+i=n.L.length→(∀j,r[j]?=n.L[i+j]?)→nx+(ndL r).length≤100000→Bnd best (2 ^ l.length) M→0≤M→M+r.length≤100000→
  qX (QO Qt n) (Q3 (2 ^ l.length) best,W,B,P,l,(nx:Int),(i:Int))=some (Q3 (2 ^ l.length) (q8m [] ⟨W,B,P⟩ l (n.Kind==4) r nx best),W,B,P,l,((nx+lvL r:Nat):Int)):=by
 intro r
 induction r with
 | nil=>
  intro i nx best M hi _ _ _ _ _
  have hi:i=n.L.length:=by simpa using hi
  subst hi
  refine zr ?_
  unfold QO
  dsimp only
  rw[if_neg (by omega),lvL,Nat.add_zero]
  rfl
 | cons y r ih=>
  intro i nx best M hi hr hnx hb hM0 hM
  rw[ndL,List.length_append] at hnx
  have hlv:=qdw y
  simp only[List.length_cons,Int.natCast_add,Int.natCast_one] at hM hi
  have hget:n.L[i]?=some y:=by have:=hr 0;simpa using this.symm
  have hlt:i<n.L.length:=q08 hget
  have hN:=qhR hl
  have hN1:1≤2 ^ l.length:=Nat.one_le_two_pow
  have hcall:=hP y (List.mem_of_getElem? hget) nx (by omega)
  have hw:w64 ((i:Int)+1)=((i+1:Nat):Int):=qY hlt (by omega)
  have hdec:q0a (nx:Int) ((nx+lvN y:Nat):Int) W B P l ((nx+lvN y:Nat):Int)=some ():=by
   unfold q0a
   rw[zr (e:=()) (by unfold ZZ;rw[if_neg (by decide)]),Option.bind_some]
  have hfo:foF [] nx (nx+lvN y)=false:=rfl
  have hstep:QO Qt n (Q3 (2 ^ l.length) best,W,B,P,l,(nx:Int),(i:Int))=some (.inl (Q3 (2 ^ l.length) (stF (n.Kind==4 && !foF [] nx (nx+lvN y)) (Q1 [] ⟨W,B,P⟩ l y nx) best),W,B,P,l,((nx+lvN y:Nat):Int),((i+1:Nat):Int))):=by
   unfold QO
   dsimp only
   rw[if_pos (by omega),if_pos ⟨by omega,by omega⟩,Int.toNat_natCast,hget,Option.bind_some,hcall,Option.bind_some]
   dsimp only
   rw[hdec,Option.bind_some,qM,if_pos ⟨by omega,by omega,by omega⟩,qAn (M:=M) W B P _ l n hN (by omega) hb,Option.bind_some,hw,hfo]
  rw[zI hstep,ih (i+1) _ _ (M+1) (by omega) (fun j=>by rw[show i+1+j=i+(j+1) by omega,←hr (j+1)];rfl) (by omega) (qf7 hb (by omega)) (by omega) (by omega)]
  rw[lvL,←Nat.add_assoc]
  rfl
theorem qpu (W B P:Int) (l:List qa) (hl:l.length≤16):∀(m:Nat) (n:qb),(ndN n).length≤m→(ndN n).length≤10000→(∀y∈ndN n,y.Set.length≤1000000)→∀nx:Nat,nx+(ndN n).length≤100000→Qt (n,W,B,P,l,(nx:Int))=some (Q3 (2 ^ l.length) (Q1 [] ⟨W,B,P⟩ l n nx),W,B,P,l,((nx+lvN n:Nat):Int)):=by
 intro m
 induction m with
 | zero=>intro n h;rw[Zg] at h;simp at h
 | succ m ih=>
  intro n h1 h2 h3 nx hnx
  have hN:=qhR hl
  have hN1:1≤2 ^ l.length:=Nat.one_le_two_pow
  have hlv:=qdw n
  have hset:=h3 n (by rw[Zg];exact List.mem_cons_self)
  have hsub:∀(L:List qb),(ndL L).length≤m→(ndL L).length≤10000→(∀y∈ndL L,y.Set.length≤1000000)→∀y∈L,∀nx:Nat,nx+(ndN y).length≤100000→Qt (y,W,B,P,l,(nx:Int))=some (Q3 (2 ^ l.length) (Q1 [] ⟨W,B,P⟩ l y nx),W,B,P,l,((nx+lvN y:Nat):Int)):=by
   intro L
   induction L with
   | nil=>intro _ _ _ y hy;simp at hy
   | cons x L ihl=>
    intro g1 g2 g3 y hy
    rw[ndL,List.length_append] at g1 g2
    rw[ndL] at g3
    rcases List.mem_cons.1 hy with rfl|hy
    ·exact ih _ (by omega) (by omega) fun z hz=>g3 z (List.mem_append_left _ hz)
    ·exact ihl (by omega) (by omega) (fun z hz=>g3 z (List.mem_append_right _ hz)) y hy
  have e0:ndN n=n::ndL n.L:=Zg n
  have hlen:(ndN n).length=(ndL n.L).length+1:=by rw[e0];rfl
  have hP:=hsub n.L (by omega) (by omega) fun y hy=>h3 y (by rw[e0];exact List.mem_cons_of_mem _ hy)
  have hLl:=qoj n.L
  rw[q8q,q0u,q8b]
  by_cases hk1:n.Kind=1
  ·rw[if_pos (by rw[hk1];rfl),if_pos (.inl hk1),qgB W B P l hl n hset nx (by omega),Option.bind_some,q5S,if_pos (.inl hk1)]
  ·rw[if_neg (by simpa using hk1)]
   by_cases hk2:n.Kind=2
   ·rw[if_pos (by rw[hk2];rfl),if_pos (.inr hk2),qgB W B P l hl n hset nx (by omega),Option.bind_some,q5S,if_pos (.inr hk2)]
   ·have hlf:¬ (n.Kind=1∨n.Kind=2):=by omega
    have e2:lvN n=lvL n.L:=by rw[q5S,if_neg hlf]
    have hb0:Bnd b0F (2 ^ l.length) 0:=fun k _=>by unfold b0F;split<;>omega
    have hch:=qnn W B P l hl n (by omega) hP n.L 0 nx b0F 0 (by simp) (by simp) (by omega) hb0 (by omega) (by omega)
    have hch':qX (QO Qt n) (Q3 (2 ^ l.length) b0F,W,B,P,l,(nx:Int),(0:Int))=some (Q3 (2 ^ l.length) (q8m [] ⟨W,B,P⟩ l (n.Kind==4) n.L nx b0F),W,B,P,l,((nx+lvL n.L:Nat):Int)):=hch
    rw[if_neg (by simpa using hk2),if_neg hlf,if_pos (by omega),qBk hl,if_pos ⟨by omega,by omega,by omega⟩,Int.toNat_natCast,qDZ W B P _ l n hN hN1,Option.bind_some,hch',Option.bind_some,e2]
    dsimp only
    by_cases hk3:n.Kind=3
    ·have k3:(n.Kind==3)=true:=by rw[hk3];rfl
     rw[if_pos k3,qM,if_pos ⟨by omega,by omega,by omega⟩,qrB W B P _ l hN hN1,Option.bind_some]
     simp only[if_pos hk3]
    ·have k3:¬ ((n.Kind==3)=true):=by simpa using hk3
     rw[if_neg k3,qM,if_pos ⟨by omega,by omega,by omega⟩,qrB W B P _ l hN hN1,Option.bind_some]
     simp only[if_neg hk3]
end Go.Proofs.YtgejdfnidjnjcaaGreat.Vc
namespace Go.Proofs.YtgejdfnidjnjcaaGreat.Vc
open Go.RowKit
theorem q89 {ε:Type} {step:Int→Option (Int⊕ε)} (i0 n:Nat) (h0:i0≤n) (p:Nat→Bool) (e0 e1:ε) (h:∀i,i0≤i→i<n→step (i:Int)=some (if p i=true then .inl ((i+1:Nat):Int) else .inr e0)) (hn:step (n:Int)=some (.inr e1)) :
  qX step (i0:Int)=some (if(∀i,i<n→i0≤i→p i=true) then e1 else e0):=by
 have key:∀(j i:Nat),j+i=n→i0≤i→(∀k,k<i→i0≤k→p k=true)→qX step (i:Int)=some (if(∀i,i<n→i0≤i→p i=true) then e1 else e0):=by
  intro j
  induction j with
  | zero=>
   intro i hi _ hk
   rw[Nat.zero_add] at hi
   subst hi
   rw[zr hn,if_pos hk]
  | succ j ih=>
   intro i hi h1 hk
   have hs:=h i h1 (by omega)
   by_cases hp:p i=true
   ·rw[if_pos hp] at hs
    rw[zI hs]
    refine ih (i+1) (by omega) (by omega) fun k hk2 hk3=>?_
    rcases Nat.lt_or_ge k i with h1|h1
    ·exact hk k h1 hk3
    ·have:k=i:=by omega
     rw[this];exact hp
   ·rw[if_neg hp] at hs
    rw[zr hs,if_neg fun h2=>hp (h2 i (by omega) h1)]
 exact key (n-i0) i0 (by omega) (Nat.le_refl _) fun k hk hk2=>by omega
def atB {α:Type} (l:List α) (q:α→Bool) (i:Nat):Bool:=match l[i]? with
 | some a=>q a
 | none=>true
theorem q81 {α:Type} {l:List α} {q:α→Bool} {i:Nat} {a:α} (h:l[i]?=some a):atB l q i=q a:=by unfold atB;rw[h]
theorem qaR {α:Type} (l:List α) (q:α→Bool):(∀i,i<l.length→0≤i→atB l q i=true)↔l.all q=true:=by
 rw[List.all_eq_true]
 constructor
 ·intro h a ha
  obtain⟨i,hi⟩:=List.mem_iff_getElem?.1 ha
  have:=h i (q08 hi) (Nat.zero_le _)
  rwa [q81 hi] at this
 ·intro h i hi _
  have ha:l[i]?=some l[i]:=List.getElem?_eq_getElem hi
  rw[q81 ha]
  exact h _ (List.getElem_mem hi)
theorem qpP {s:ByteArray} (hs:s.size≤1000):q3J s=some (qgv s):=by
 have hlen:s.data.toList.length=s.size:=by rw[Array.length_toList];rfl
 have nd:∀(p:Prop) [Decidable p],((!decide p)=true)↔¬ p:=by intro p _;simp
 have h1:=q89 (step:=q0Q s) 0 s.data.toList.length (Nat.zero_le _) (atB s.data.toList q5M) (.inl ()) (.inr ()) (fun i _ hi=>by
  have ha:s.data.toList[i]?=some s.data.toList[i]:=List.getElem?_eq_getElem hi
  rw[q81 ha]
  generalize s.data.toList[i]=a at ha
  have hw:w64 ((i:Int)+1)=((i+1:Nat):Int):=qY (n:=10000) (by omega) (by omega)
  have h0:(0:Int)≤(i:Int):=by omega
  have hok:q5M a=true↔((65≤a.toNat∧a.toNat≤90)∨(48≤a.toNat∧a.toNat≤57)):=by unfold q5M;simp;omega
  unfold q0Q
  simp only[if_pos h0,Int.toNat_natCast,ha,Option.bind_some,hw,nd]
  rw[if_pos (show(i:Int)<((s.size:Nat):Int) by omega)]
  by_cases hq:q5M a=true
  ·rw[if_pos hq]
   have hq':=hok.1 hq
   repeat' split
   all_goals first|rfl|(exfalso;omega)
  ·rw[if_neg hq]
   have hq':¬ ((65≤a.toNat∧a.toNat≤90)∨(48≤a.toNat∧a.toNat≤57)):=fun q=>hq (hok.2 q)
   repeat' split
   all_goals first|rfl|(exfalso;omega)) (by
  unfold q0Q
  rw[if_neg (by omega)])
 unfold q3J qgv
 change Option.bind (qX _ ((0:Nat):Int)) _=_
 rw[h1,Option.bind_some]
 by_cases hall:∀i,i<s.data.toList.length→0≤i→atB s.data.toList q5M i=true
 ·rw[if_pos hall,Sum.elim_inr,(qaR _ _).1 hall,Bool.and_true]
  by_cases h1:(1:Int)≤((ByteArray.size s:Nat):Int)
  ·rw[if_pos h1,decide_eq_true (show s.size≠0 by omega),Bool.true_and]
   congr 1
   rw[Bool.eq_iff_iff,decide_eq_true_eq,decide_eq_true_eq]
   omega
  ·rw[if_neg h1,decide_eq_false (show ¬ s.size≠0 by omega)];rfl
 ·rw[if_neg hall,Sum.elim_inl,Bool.eq_false_iff.2 fun q=>hall ((qaR _ _).2 q),Bool.and_false]
theorem qlE {c:qc} (hs:c.Code.size≤1000):q2X c=some (q0q c):=by
 unfold q2X q0q inF
 rw[qpP hs,Option.bind_some]
 cases qgv c.Code
 ·simp
 ·by_cases h:1≤c.School<;>simp[h]
structure Sm (n:qb):Prop where
 sl:n.Set.length≤1000
 cs:∀c∈n.Set,c.Code.size≤1000
theorem qCC {n:qb} (h:Sm n):qX (ZY n) (0:Int)=some (if n.Set.all q0q=true then .inr () else .inl ()):=by
 have hl:=h.sl
 have h1:=q89 (step:=ZY n) 0 n.Set.length (Nat.zero_le _) (atB n.Set q0q) (.inl ()) (.inr ()) (fun i _ hi=>by
  have ha:n.Set[i]?=some n.Set[i]:=List.getElem?_eq_getElem hi
  have hc:=h.cs _ (List.getElem_mem hi)
  have hw:w64 ((i:Int)+1)=((i+1:Nat):Int):=qY (n:=10000) (by omega) (by omega)
  rw[q81 ha]
  unfold ZY
  rw[if_pos (by omega),if_pos ⟨by omega,by omega⟩,Int.toNat_natCast,ha,Option.bind_some,qlE hc,Option.bind_some,hw]
  cases q0q n.Set[i]<;>rfl) (by
  unfold ZY
  rw[if_neg (by omega)])
 change qX _ ((0:Nat):Int)=_
 rw[h1]
 by_cases hall:∀i,i<n.Set.length→0≤i→atB n.Set q0q i=true
 ·rw[if_pos hall,if_pos ((qaR _ _).1 hall)]
 ·rw[if_neg hall,if_neg fun q=>hall ((qaR _ _).2 q)]
noncomputable def nxB (l:List qc) (i:Nat):Bool:=match l[i-1]?,l[i]? with
 | some a,some b=>q4M a b
 | _,_=>true
theorem qny:∀l:List qc,(∀i,i<l.length→1≤i→nxB l i=true)↔qfC l=true
 | []=>⟨fun _=>rfl,fun _ i hi=>by simp at hi⟩
 | [x]=>⟨fun _=>rfl,fun _ i hi h1=>by simp at hi;omega⟩
 | x::y::l=>by
  rw[q4s,Bool.and_eq_true,←qny (y::l)]
  constructor
  ·intro h
   refine⟨h 1 (by simp) (Nat.le_refl _),fun i hi h1=>?_⟩
   have:=h (i+1) (by simp at hi ⊢;omega) (by omega)
   unfold nxB at this ⊢
   rw[Nat.add_sub_cancel] at this
   obtain⟨j,rfl⟩:∃j,i=j+1:=⟨i-1,by omega⟩
   rw[Nat.add_sub_cancel]
   simpa using this
  ·rintro⟨h1,h2⟩ i hi hi1
   by_cases e:i=1
   ·subst e;exact h1
   ·have:=h2 (i-1) (by simp at hi ⊢;omega) (by omega)
    unfold nxB at this ⊢
    obtain⟨j,rfl⟩:∃j,i=j+2:=⟨i-2,by omega⟩
    simpa using this
theorem qC6 {n:qb} (h:Sm n) (h1:1≤n.Set.length):qX (ZX n) (1:Int)=some (if qfC n.Set=true then .inr () else .inl ()):=by
 have hl:=h.sl
 have h2:=q89 (step:=ZX n) 1 n.Set.length h1 (nxB n.Set) (.inl ()) (.inr ()) (fun i hi0 hi=>by
  have ha:n.Set[i]?=some n.Set[i]:=List.getElem?_eq_getElem hi
  have hb:n.Set[i-1]?=some (n.Set[i-1]'(by omega)):=List.getElem?_eq_getElem (by omega)
  generalize n.Set[i]=a at ha
  generalize n.Set[i-1]'(by omega)=b at hb
  have hw:w64 ((i:Int)+1)=((i+1:Nat):Int):=qY (n:=10000) (by omega) (by omega)
  have hw2:w64 ((i:Int)-1)=((i-1:Nat):Int):=by rw[QP (by omega) (by omega)];omega
  have hnx:nxB n.Set i=Q8 b a:=by unfold nxB;rw[ha,hb];rfl
  rw[hnx]
  unfold ZX
  rw[if_pos (by omega),hw2,if_pos ⟨by omega,by omega⟩,Int.toNat_natCast,hb,Option.bind_some,if_pos ⟨by omega,by omega⟩,Int.toNat_natCast,ha,Option.bind_some,hw]
  cases Q8 b a<;>rfl) (by
  unfold ZX
  rw[if_neg (by omega)])
 change qX _ ((1:Nat):Int)=_
 rw[h2]
 by_cases hall:∀i,i<n.Set.length→1≤i→nxB n.Set i=true
 ·rw[if_pos hall,if_pos ((qny _).1 hall)]
 ·rw[if_neg hall,if_neg fun q=>hall ((qny _).2 q)]
theorem qmi (n a b:Int):ZH n a b=inF n a b:=by
 unfold ZH inF
 by_cases h:a≤n<;>simp[h]
theorem qgi {n:qb} (h:Sm n):(if(!(ZH n.Min (-(1000:Int)) (1000:Int)))=Bool.true then some (3:Int)
  else if(((n.Set.length:Nat):Int)==(0:Int))=Bool.true then some (2:Int)
  else if(12:Int)<((n.Set.length:Nat):Int) then some (2:Int)
  else Option.bind (qX (ZY n) (0:Int)) fun(a:Sum Unit Unit)=>
  Sum.elim (fun(a2:Unit)=>some (1:Int)) (fun(a3:Unit)=>Option.bind (qX (ZX n) (1:Int)) fun(a4:Sum Unit Unit)=>
   Sum.elim (fun(a5:Unit)=>some (7:Int)) (fun(a6:Unit)=>some (0:Int)) a4) a)=some (q2u n):=by
 unfold q2u
 rw[qmi,qCC h,Option.bind_some]
 cases hm:inF n.Min (-1000) 1000
 ·simp
 ·rw[if_neg (by decide),if_neg (show ¬ (true=false) by decide)]
  by_cases h0:n.Set.length=0
  ·rw[if_pos (by rw[h0];rfl),if_pos (by unfold inF;rw[h0];rfl)]
  ·rw[if_neg (by rw[beq_iff_eq];omega)]
   by_cases h12:(12:Int)<((n.Set.length:Nat):Int)
   ·have hin:inF n.Set.length 1 12=false:=by unfold inF;rw[decide_eq_false (show ¬ ((n.Set.length:Int)≤12) by omega),Bool.and_false]
    rw[if_pos h12,if_pos hin]
   ·have hin:¬ (inF n.Set.length 1 12=false):=by unfold inF;rw[decide_eq_true (show(1:Int)≤(n.Set.length:Int) by omega),decide_eq_true (show((n.Set.length:Int)≤12) by omega)];decide
    rw[if_neg h12,if_neg hin,qC6 h (by omega)]
    cases n.Set.all q0q
    ·rfl
    ·cases qfC n.Set<;>rfl
theorem qyY {n:qb} (h:Sm n):q4v n=some (q4Q n):=by
 have ct:=qgi h
 unfold q4v q4Q
 have hL:(0:Int)<((n.L.length:Nat):Int)↔n.L≠[]:=by
  cases n.L<;>simp<;>omega
 by_cases e1:n.Kind=1
 ·rw[if_pos (by rw[e1];rfl),if_pos e1,ct]
  by_cases h1:n.N=0
  ·rw[if_neg (by rw[h1];decide)]
   by_cases h2:n.L=[]
   ·have hx:¬ (n.N≠0∨n.L≠[]):=by rintro(q|q);exact q h1;exact q h2
    rw[if_neg (fun q=>hL.1 q h2),if_neg hx]
   ·rw[if_pos (hL.2 h2),if_pos (.inr h2)]
  ·rw[if_pos (by simpa using h1),if_pos (.inl h1)]
 ·rw[if_neg (by simpa using e1),if_neg e1]
  by_cases e2:n.Kind=2
  ·rw[if_pos (by rw[e2];rfl),if_pos e2,ct,qmi]
   by_cases h2:n.L=[]
   ·have hx:¬ (n.L≠[]):=fun q=>q h2
    rw[if_neg (fun q=>hL.1 q h2),if_neg hx]
    cases inF n.N 1 600<;>rfl
   ·have hx:n.L≠[]:=h2
    rw[if_pos (hL.2 h2),if_pos hx]
  ·rw[if_neg (by simpa using e2),if_neg e2]
   have hbare:∀X:Option Int,(if(n.Min != (0:Int))=Bool.true then some (13:Int) else if(0:Int)<((n.Set.length:Nat):Int) then some (13:Int) else if(((n.L.length:Nat):Int)==(0:Int))=Bool.true then some (13:Int) else X)=if q65 n=true then X else some 13:=fun X=>by
    unfold q65
    by_cases g1:n.Min=0
    ·rw[if_neg (by rw[g1];decide)]
     cases hS:n.Set with
     | cons a S=>rw[if_pos (by simp<;>omega),if_neg (by simp)]
     | nil=>
      rw[if_neg (by simp)]
      cases hl:n.L with
      | nil=>rw[if_pos (by simp),if_neg (by simp)]
      | cons a S=>rw[if_neg (by simp<;>omega),if_pos (by simp[g1])]
    ·rw[if_pos (by simpa using g1),if_neg (by simp[g1])]
   by_cases e3:n.Kind=3
   ·have k3:(n.Kind==(3:Int))=true:=by rw[e3];rfl
    have k4:¬ ((n.Kind==(4:Int))=true):=by rw[e3];decide
    rw[if_pos k3,if_pos e3,hbare,if_pos k3,if_neg k4]
    cases hb:q65 n
    ·rw[if_neg (by decide),if_pos (.inl rfl)]
    ·rw[if_pos rfl]
     by_cases h1:n.N=0
     ·have hx:¬ (true=false∨n.N≠0):=by rintro(q|q);cases q;exact q h1
      have hy:¬ ((n.N != (0:Int))=true):=by rw[h1];decide
      rw[if_neg hy,if_neg hx]
     ·have hx:true=false∨n.N≠0 := .inr h1
      have hy:(n.N != (0:Int))=true:=by simpa using h1
      rw[if_pos hy,if_pos hx]
   ·have k3:¬ ((n.Kind==(3:Int))=true):=by simpa using e3
    rw[if_neg k3,if_neg e3]
    by_cases e4:n.Kind=4
    ·have k4:(n.Kind==(4:Int))=true:=by rw[e4];rfl
     rw[if_pos k4,if_pos e4,hbare,if_neg k3,if_pos k4,qmi]
     cases q65 n
     ·rfl
     ·cases inF n.N 1 ((n.L.length:Nat):Int)<;>rfl
    ·rw[if_neg (by simpa using e4),if_neg e4]
theorem qqy:∀(n:qb) (d m:Int),5<dpN d n m↔5<m∨∃x∈itN d n,(5:Int)<x.Deep:=by
 intro n
 induction n using qb.rec (motive_2:=fun L=>∀(d m:Int),5<dpL d L m↔5<m∨∃x∈itL d L,(5:Int)<x.Deep) with
 | mk k n m S L ih=>
  intro d mm
  rw[dpN,itN,ih]
  simp only[List.mem_cons,exists_eq_or_imp]
  have hm:5<max mm d↔5<mm∨5<d:=by omega
  rw[hm,or_assoc]
 | nil=>rename_i d m;rw[dpL,itL];simp
 | cons x L h1 h2=>
  rename_i d m
  rw[dpL,itL,h2,h1]
  simp only[List.mem_append,or_and_right,exists_or,or_assoc]
theorem qiW (n:qb):q0h n=Zh n:=by
 unfold q0h Zh
 cases h:(n.Kind != 3)<;>simp
theorem qjg (l:List ql) (hl:l.length≤1000):∀(r:List ql) (i:Nat) (c:Nat),r.length+i=l.length→(∀j,r[j]?=l[i+j]?)→c≤i→
  ∃e,qX (Zu l) ((c:Int),(i:Int))=some e∧(((∃x∈r,(5:Int)<x.Deep)∧∃z,e = .inl z)∨((¬ ∃x∈r,(5:Int)<x.Deep)∧e = .inr ((c+((r.map (·.Need)).filter Zh).length:Nat):Int)))
 | [],i,c,hi,_,hc=>by
  refine⟨_,zr (e := .inr (c:Int)) ?_,.inr ⟨by simp,by simp⟩⟩
  unfold Zu
  dsimp only
  rw[if_neg (by simp at hi;omega)]
 | x::r,i,c,hi,hr,hc=>by
  rw[List.length_cons] at hi
  have ha:l[i]?=some x:=by have:=hr 0;simpa using this.symm
  have hw:w64 ((i:Int)+1)=((i+1:Nat):Int):=qY (n:=10000) (by omega) (by omega)
  have hw2:w64 ((c:Int)+1)=((c+1:Nat):Int):=qY (n:=10000) (by omega) (by omega)
  have hr2:∀j,r[j]?=l[i+1+j]?:=fun j=>by
   have:=hr (j+1)
   rw[show i+1+j=i+(j+1) by omega,←this];rfl
  by_cases hd:(5:Int)<x.Deep
  ·refine⟨_,zr (e := .inl (c:Int)) ?_,.inl ⟨⟨x,List.mem_cons_self,hd⟩,_,rfl⟩⟩
   unfold Zu
   dsimp only
   rw[if_pos (by omega),if_pos ⟨by omega,by omega⟩,Int.toNat_natCast,ha,Option.bind_some,if_pos hd]
  ·have hstep:Zu l ((c:Int),(i:Int))=some (.inl (((c+(if Zh x.Need=true then 1 else 0):Nat):Int),((i+1:Nat):Int))):=by
    unfold Zu
    dsimp only
    rw[if_pos (by omega),if_pos ⟨by omega,by omega⟩,Int.toNat_natCast,ha,Option.bind_some,if_neg hd,if_pos ⟨by omega,by omega⟩,Option.bind_some,qiW,hw,hw2]
    cases Zh x.Need<;>rfl
   obtain⟨e,q1,q2⟩:=qjg l hl r (i+1) (c+(if Zh x.Need=true then 1 else 0)) (by omega) hr2 (by split<;>omega)
   refine⟨e,by rw[zI hstep,q1],?_⟩
   rcases q2 with ⟨⟨y,hy,hy2⟩,q⟩|⟨q,q3⟩
   ·exact .inl ⟨⟨y,List.mem_cons_of_mem _ hy,hy2⟩,q⟩
   ·refine .inr ⟨?_,?_⟩
    ·rintro⟨y,hy,hy2⟩
     rcases List.mem_cons.1 hy with e|hy
     ·rw[e] at hy2;exact hd hy2
     ·exact q ⟨y,hy,hy2⟩
    ·rw[q3,List.map_cons,List.filter_cons]
     cases Zh x.Need
     ·simp
     ·simp;omega
theorem qdI {n:qb} (hz:Szs n) (hsm:∀y∈ndN n,Sm y):q1U n=some (q2H n):=by
 have hnd:=hz.nd
 unfold q1U q2H
 rw[qfu n hz.hg hz.nd,Option.bind_some,Sum.elim_inr,q9m]
 by_cases h24:24<(ndN n).length
 ·rw[if_pos (by omega),if_pos h24]
 ·rw[if_neg (by omega),if_neg h24]
  obtain⟨e,q1,q2⟩:=qjg (itN 1 n) (by rw[q9m];omega) (itN 1 n) 0 0 (by simp) (by simp) (Nat.le_refl _)
  have q1':qX (Zu (itN 1 n)) ((0:Int),(0:Int))=some e:=q1
  rw[q1',Option.bind_some]
  have hdp:=qqy n 1 0
  rcases q2 with ⟨q,z,rfl⟩|⟨q,rfl⟩
  ·rw[Sum.elim_inl,if_pos (hdp.2 (.inr q))]
  ·have hdn:¬ 5<dpN 1 n 0:=fun h=>by rcases hdp.1 h with h|h;exact absurd h (by decide);exact q h
   rw[Sum.elim_inr,if_neg hdn,qbk,Nat.zero_add]
   have h15:=qda (ε:=Int⊕Unit) (step:=Jk (itN 1 n)) (itN 1 n) (fun i=>(i:Int)) (fun x=>if q4Q x.Need≠0 then some (.inl (q4Q x.Need)) else none) (.inr ()) (fun i x hx=>by
    have hi:=q08 hx
    rw[q9m] at hi
    have hw:w64 ((i:Int)+1)=((i+1:Nat):Int):=qY (n:=100000) (by omega) (by omega)
    have hmem:x.Need∈ndN n:=by rw[←qbk n 1];exact List.mem_map.2 ⟨x,List.mem_of_getElem? hx,rfl⟩
    unfold Jk
    rw[q9m,if_pos (by omega),if_pos ⟨by omega,by omega⟩,Int.toNat_natCast,hx,Option.bind_some,qyY (hsm _ hmem),Option.bind_some,hw]
    by_cases h:q4Q x.Need=0<;>simp[h]) (by
    unfold Jk
    rw[if_neg (by omega)])
   have herr:∀l:List ql,(l.findSome? (fun x=>if q4Q x.Need≠0 then some (Sum.inl (q4Q x.Need)) else none):Option (Int⊕Unit))=(qkI (l.map (·.Need))).map .inl:=by
    intro l
    unfold qkI
    induction l with
    | nil=>rfl
    | cons x l ih=>
     rw[List.findSome?_cons,List.map_cons,List.findSome?_cons]
     by_cases h:q4Q x.Need=0
     ·simp only[h,ne_eq,not_true_eq_false,if_false];exact ih
     ·simp only[h,ne_eq,not_false_eq_true,if_true];rfl
   have h15':qX (Jk (itN 1 n)) (0:Int)=some (((qkI (ndN n)).map .inl).getD (.inr ())):=by
    rw[←qbk n 1,←herr];exact h15
   have hfl:((ndN n).filter Zh).length≤24:=Nat.le_trans (List.length_filter_le ..) (by omega)
   generalize ((ndN n).filter Zh).length=c at hfl
   by_cases h0:c=0
   ·have hc0:(((c:Nat):Int)==0)=true:=by rw[h0];rfl
    have hin:inF c 1 8=false:=by rw[h0];rfl
    rw[if_pos hc0,if_pos hin]
   ·have hc0:¬ ((((c:Nat):Int)==0)=true):=by rw[beq_iff_eq];omega
    rw[if_neg hc0]
    by_cases h8:(8:Int)<((c:Nat):Int)
    ·have hin:inF c 1 8=false:=by unfold inF;rw[decide_eq_false (show ¬ ((c:Int)≤8) by omega),Bool.and_false]
     rw[if_pos h8,if_pos hin]
    ·have hin:¬ (inF c 1 8=false):=by unfold inF;rw[decide_eq_true (show(1:Int)≤(c:Int) by omega),decide_eq_true (show((c:Int)≤8) by omega)];decide
     rw[if_neg h8,if_neg hin,h15',Option.bind_some]
     cases qkI (ndN n)<;>rfl
end Go.Proofs.YtgejdfnidjnjcaaGreat.Vc
namespace Go.Proofs.YtgejdfnidjnjcaaGreat.Vc
open Go.RowKit
theorem qo1 (leaf:Int) (set:Nat):∀(d:List Int) (k:Nat),alG leaf set d k=true↔∀j,(h:j<d.length)→(set.testBit (k+j)==(d[j]==leaf))=true
 | [],k=>by simp[alG]
 | x::d,k=>by
  rw[alG,Bool.and_eq_true,qo1 leaf set d (k+1)]
  constructor
  ·rintro⟨h1,h2⟩ j hj
   cases j with
   | zero=>simpa using h1
   | succ j=>have:=h2 j (by simpa using hj);rwa [show k+1+j=k+(j+1) by omega] at this
  ·intro h
   refine⟨h 0 (by simp),fun j hj=>?_⟩
   have:=h (j+1) (by simpa using hj)
   rwa [show k+(j+1)=k+1+j by omega] at this
def agB (d:List Int) (leaf:Int) (set j:Nat):Bool:=match d[j]? with
 | some x=>set.testBit j==(x==leaf)
 | none=>true
theorem qon (d:List Int) (hd:d.length≤16) (W B P lf:Int) (l:List qa) (nx set:Nat) (hs:set<9223372036854775808):Jx (set:Int) (nx:Int) d W B P l lf=some (alF d nx set):=by
 have h:=q89 (step:=QY d W B P l lf (set:Int) (nx:Int)) 0 d.length (Nat.zero_le _) (agB d (nx:Int) set) (.inl ()) (.inr ()) (fun i _ hi=>by
  have hw:w64 ((i:Int)+1)=((i+1:Nat):Int):=qY (n:=100) (by omega) (by omega)
  have ha:d[i]?=some d[i]:=List.getElem?_eq_getElem hi
  have hag:agB d (nx:Int) set i=(set.testBit i==(d[i]==(nx:Int))):=by unfold agB;rw[ha]
  unfold QY
  rw[hag,if_pos (by omega),if_pos (by omega),if_pos ⟨by omega,by omega⟩,Int.toNat_natCast,ha,Option.bind_some,q8W set i hs (by omega),hw]
  cases(set.testBit i==(d[i]==(nx:Int)))<;>rfl) (by
  unfold QY
  rw[if_neg (by omega)])
 have hiff:(∀i,i<d.length→0≤i→agB d (nx:Int) set i=true)↔alF d nx set=true:=by
  unfold alF
  rw[qo1]
  constructor
  ·intro h j hj
   have:=h j hj (Nat.zero_le _)
   unfold agB at this
   rw[List.getElem?_eq_getElem hj] at this
   rwa [Nat.zero_add]
  ·intro h j hj _
   have:=h j hj
   unfold agB
   rw[List.getElem?_eq_getElem hj]
   rwa [Nat.zero_add] at this
 unfold Jx
 change Option.bind (qX _ ((0:Nat):Int)) _=_
 rw[h,Option.bind_some]
 by_cases ha:∀i,i<d.length→0≤i→agB d (nx:Int) set i=true
 ·rw[if_pos ha,Sum.elim_inr,hiff.1 ha]
 ·rw[if_neg ha,Sum.elim_inl,Bool.eq_false_iff.2 fun q=>ha (hiff.2 q)]
theorem qkt (d:List Int) (hd:d.length≤16) (W B P lf:Int) (l:List qa) (a b:Nat):Jg (a:Int) (b:Int) d W B P l lf=some (foF d a b):=by
 have h:=q89 (step:=QK d W B P l lf (a:Int) (b:Int)) 0 d.length (Nat.zero_le _) (atB d (fun x => !(decide ((a:Int)≤x)&&decide (x<(b:Int))))) (.inl ()) (.inr ()) (fun i _ hi=>by
  have hw:w64 ((i:Int)+1)=((i+1:Nat):Int):=qY (n:=100) (by omega) (by omega)
  have ha:d[i]?=some d[i]:=List.getElem?_eq_getElem hi
  rw[q81 ha]
  generalize d[i]=x at ha
  unfold QK
  rw[if_pos (by omega),if_pos ⟨by omega,by omega⟩,Int.toNat_natCast,ha,Option.bind_some,hw]
  by_cases h1:(a:Int)≤x
  ·rw[if_pos h1,if_pos ⟨by omega,by omega⟩,Option.bind_some,decide_eq_true h1,Bool.true_and]
   by_cases h2:x<(b:Int)
   ·rw[if_pos h2,decide_eq_true h2];rfl
   ·rw[if_neg h2,decide_eq_false h2];rfl
  ·rw[if_neg h1,decide_eq_false h1];rfl) (by
  unfold QK
  rw[if_neg (by omega)])
 have hiff:=qaR d (fun x => !(decide ((a:Int)≤x)&&decide (x<(b:Int))))
 have hfo:foF d a b = !(d.all (fun x => !(decide ((a:Int)≤x)&&decide (x<(b:Int))))):=by
  unfold foF
  rw[List.not_all_eq_any_not]
  congr 1
  funext x
  rw[Bool.not_not]
 unfold Jg
 change Option.bind (qX _ ((0:Nat):Int)) _=_
 rw[h,Option.bind_some,hfo]
 by_cases ha:∀i,i<d.length→0≤i→atB d (fun x => !(decide ((a:Int)≤x)&&decide (x<(b:Int)))) i=true
 ·rw[if_pos ha,Sum.elim_inr,hiff.1 ha];rfl
 ·rw[if_neg ha,Sum.elim_inl,Bool.eq_false_iff.2 fun q=>ha (hiff.2 q)];rfl
section
variable (d:List Int) (w2:List Bool) (W B P nx:Int) (l:List qa) (hl:l.length≤16) (n:qb) (hn:n.Set.length≤1000000)
include hl
theorem qgT (set:Int) (m c:Int) (i:Nat) (hi:i≤l.length):qX (zp d w2 W B P l nx n set) (m,(c,(false,(i:Int))))=some (m,c,false):=by
 refine zr ?_
 unfold zp
 dsimp only
 by_cases h:(i:Int)<((l.length:Nat):Int)
 ·rw[if_pos h,if_neg (by decide)]
 ·rw[if_neg h]
include hn
theorem qn4 {set:Nat} (hs:set<9223372036854775808):∀(r:List qa) (i:Nat) (x:qJ),r.length+i=l.length→(∀j,r[j]?=l[i+j]?)→x.fine=true→
  ∃e,qX (zp d w2 W B P l nx n (set:Int)) (x.many,(x.credits,(true,(i:Int))))=some e∧e.2.2=(wgF n ⟨W,B,P⟩ set r i x).fine∧(e.2.2=true→e.1=(wgF n ⟨W,B,P⟩ set r i x).many∧e.2.1=(wgF n ⟨W,B,P⟩ set r i x).credits)
 | [],i,x,hi,_,hx=>by
  refine⟨_,zr (e:=(x.many,x.credits,true)) ?_,by rw[wgF];exact hx.symm,fun _=>⟨rfl,rfl⟩⟩
  unfold zp
  dsimp only
  rw[if_neg (by simp at hi;omega)]
 | a::r,i,x,hi,hr,hx=>by
  rw[List.length_cons] at hi
  have ha:l[i]?=some a:=by have:=hr 0;simpa using this.symm
  have hw:w64 ((i:Int)+1)=((i+1:Nat):Int):=qY (n:=100) (by omega) (by omega)
  have hr2:∀j,r[j]?=l[i+1+j]?:=fun j=>by
   have:=hr (j+1)
   rw[show i+1+j=i+(j+1) by omega,←this];rfl
  have hc:(0:Int)≤(i:Int)∧(i:Int)<((l.length:Nat):Int):=⟨by omega,by omega⟩
  rw[wgF]
  by_cases hb:set.testBit i=true
  ·have hstep:zp d w2 W B P l nx n (set:Int) (x.many,(x.credits,(true,(i:Int))))=some (.inl (w64 (x.many+1),(w64 (x.credits+a.Credits),(qc4 n ⟨W,B,P⟩ a,((i+1:Nat):Int))))):=by
    unfold zp
    dsimp only
    rw[if_pos hc.2,if_pos rfl,if_pos hc.1,Int.toNat_natCast,q8W set i hs (by omega),if_pos hb,if_pos hc,ha,Option.bind_some,if_pos hc,Option.bind_some,qeZ n hn,Option.bind_some,hw]
   rw[if_pos hb,zI hstep]
   cases hf:qc4 n ⟨W,B,P⟩ a
   ·refine⟨_,qgT d w2 W B P nx l hl n _ _ _ _ (by omega),?_,fun h=>by cases h⟩
    exact(qfr n _ set r (i+1) _ (by simp)).symm
   ·rw[hx,Bool.true_and]
    exact qn4 hs r (i+1) ⟨w64 (x.many+1),w64 (x.credits+a.Credits),true⟩ (by omega) hr2 rfl
  ·have hstep:zp d w2 W B P l nx n (set:Int) (x.many,(x.credits,(true,(i:Int))))=some (.inl (x.many,(x.credits,(true,((i+1:Nat):Int))))):=by
    unfold zp
    dsimp only
    rw[if_pos hc.2,if_pos rfl,if_pos hc.1,Int.toNat_natCast,q8W set i hs (by omega),if_neg hb,hw]
   rw[if_neg hb,zI hstep]
   exact qn4 hs r (i+1) x (by omega) hr2 hx
end
theorem qeJ (d:List Int) (hd:d.length≤16) (W B P:Int) (l:List qa) (hl:l.length≤16) (n:qb) (hn:n.Set.length≤1000000) (nx:Nat) (hnx:nx≤1000000):ZM n d W B P l (nx:Int)=some (Q3 (2 ^ l.length) (Zx d ⟨W,B,P⟩ l n nx),((nx+1:Nat):Int)):=by
 have hN:=qhR hl
 have hN1:1≤2 ^ l.length:=Nat.one_le_two_pow
 have h1:=J3 (step:=Qu d W B P l (nx:Int) n) (fun i=>(Q3 (2 ^ l.length) (fun k=>if 1≤k∧k<i then Zx d ⟨W,B,P⟩ l n nx k else false),(i:Int))) 1 (2 ^ l.length) hN1 (e:=Q3 (2 ^ l.length) (Zx d ⟨W,B,P⟩ l n nx)) (fun i h1 hi=>by
   have hw:w64 ((i:Int)+1)=((i+1:Nat):Int):=qY hi (by omega)
   have hc:Q3 (2 ^ l.length) (q4Y (fun k=>if 1≤k∧k<i then Zx d ⟨W,B,P⟩ l n nx k else false) i (Zx d ⟨W,B,P⟩ l n nx i))=Q3 (2 ^ l.length) (fun k=>if 1≤k∧k<i+1 then Zx d ⟨W,B,P⟩ l n nx k else false):=by
    rw[qbR (Zx d ⟨W,B,P⟩ l n nx) false h1]
   have hv:=qgd d ⟨W,B,P⟩ l hl n nx i (by omega) hi
   obtain⟨e,q1,q2,q3⟩:=qn4 d (Q3 (2 ^ l.length) (fun k=>if 1≤k∧k<i then Zx d ⟨W,B,P⟩ l n nx k else false)) W B P (nx:Int) l hl n hn (set:=i) (by omega) l 0 ld0 (by simp) (by simp) rfl
   have q1':qX (zp d (Q3 (2 ^ l.length) (fun k=>if 1≤k∧k<i then Zx d ⟨W,B,P⟩ l n nx k else false)) W B P l (nx:Int) n (i:Int)) ((0:Int),((0:Int),(true,(0:Int))))=some e:=q1
   have hag:=qon d hd W B P (nx:Int) l nx i (by omega)
   obtain⟨e2,p1,p2,p3⟩:∃e2,qX (zp d (Q3 (2 ^ l.length) (fun k=>if 1≤k∧k<i then Zx d ⟨W,B,P⟩ l n nx k else false)) W B P l (nx:Int) n (i:Int)) ((0:Int),((0:Int),(alF d nx i,(0:Int))))=some e2∧e2.2.2=(alF d nx i&&e.2.2)∧(e2.2.2=true→e2.1=e.1∧e2.2.1=e.2.1):=by
    cases alF d nx i
    ·exact⟨_,qgT d _ W B P nx l hl n _ _ _ 0 (by omega),rfl,fun h=>by cases h⟩
    ·exact⟨e,q1',by rw[Bool.true_and],fun _=>⟨rfl,rfl⟩⟩
   generalize wgF n ⟨W,B,P⟩ i l 0 ld0=y at q2 q3 hv
   have hcl:(0:Int)≤(i:Int)∧(i:Int)<((2 ^ l.length:Nat):Int):=⟨by omega,by omega⟩
   unfold Qu
   dsimp only
   rw[qM,if_pos hcl.2,hag,Option.bind_some,p1,Option.bind_some,hw]
   by_cases hk:n.Kind=1
   ·rw[if_pos hk] at hv
    rw[if_pos (by rw[hk];rfl)]
    cases hf:e2.2.2
    ·have hv2:Zx d ⟨W,B,P⟩ l n nx i=false:=by
      rw[hf] at p2
      rw[hv,←q2]
      cases h1:alF d nx i
      ·rfl
      ·rw[h1,Bool.true_and] at p2
       rw[←p2];rfl
     rw[if_neg (by decide),if_pos hcl,Int.toNat_natCast,if_pos (by omega),zX,←hc,hv2]
    ·have hv2:Zx d ⟨W,B,P⟩ l n nx i=(e2.1==1):=by
      have:=p3 hf
      rw[hf] at p2
      have p4:=(Bool.and_eq_true _ _).mp p2.symm
      rw[hv,p4.1,←q2,p4.2,this.1,(q3 p4.2).1];rfl
     rw[if_pos rfl,if_pos hcl,Int.toNat_natCast,if_pos (by omega),zX,←hc,hv2]
   ·rw[if_neg hk] at hv
    rw[if_neg (by simpa using hk)]
    cases hf:e2.2.2
    ·have hv2:Zx d ⟨W,B,P⟩ l n nx i=false:=by
      rw[hf] at p2
      rw[hv,←q2]
      cases h1:alF d nx i
      ·rfl
      ·rw[h1,Bool.true_and] at p2
       rw[←p2];rfl
     rw[if_neg (by decide),if_pos hcl,Int.toNat_natCast,if_pos (by omega),zX,←hc,hv2]
    ·have hv2:Zx d ⟨W,B,P⟩ l n nx i=decide (n.N≤e2.2.1):=by
      have:=p3 hf
      rw[hf] at p2
      have p4:=(Bool.and_eq_true _ _).mp p2.symm
      rw[hv,p4.1,←q2,p4.2,this.2,(q3 p4.2).2];rfl
     rw[if_pos rfl,if_pos hcl,Int.toNat_natCast,if_pos (by omega),zX,←hc,hv2]) (by
   unfold Qu
   dsimp only
   rw[qM,if_neg (by omega),qgY])
 have e:(fun k:Nat=>if 1≤k∧k<1 then Zx d ⟨W,B,P⟩ l n nx k else false)=fun _=>false:=by funext k;rw[if_neg (by omega)]
 rw[e,←q0K] at h1
 have h1':qX (Qu d W B P l (nx:Int) n) (List.replicate (2 ^ l.length) false,(1:Int))=some (Q3 (2 ^ l.length) (Zx d ⟨W,B,P⟩ l n nx)):=h1
 unfold ZM
 rw[qBk hl,if_pos (by omega),if_pos ⟨by omega,by omega,by omega⟩,Int.toNat_natCast,h1',Option.bind_some,qY (n:=10000000) (by omega) (by omega)]
section
variable {N:Nat} {best:Nat→Int} {M:Int} {rF:(qb×List Int×Int×Int×Int×List qa×Int)→Option (List Bool×List Int×Int×Int×Int×List qa×Int)} (d:List Int) (W B P nx:Int) (l:List qa) (n:qb)
theorem qyw (hN:N≤65536) (hN1:1≤N):qX (QQ rF d W B P l nx n) (List.replicate N 0,(1:Int))=some (Q3 N b0F):=by
 have h1:=J3 (step:=QQ rF d W B P l nx n) (fun i=>(Q3 N (fun k=>if 1≤k∧k<i then -1 else 0),(i:Int))) 1 N hN1 (e:=Q3 N b0F) (fun i h1 hi=>by
   have hw:w64 ((i:Int)+1)=((i+1:Nat):Int):=qY hi (by omega)
   unfold QQ
   dsimp only
   rw[qM,if_pos (by omega),if_pos ⟨by omega,by omega⟩,Int.toNat_natCast,if_pos (by omega),hw,zX]
   rw[qbR (fun _=>(-1:Int)) 0 h1]) (by
   unfold QQ
   dsimp only
   rw[qM,if_neg (by omega)]
   congr 2
   refine ZN fun k hk=>?_
   unfold b0F
   by_cases h:k=0
   ·rw[if_pos h,if_neg (by omega)]
   ·rw[if_neg h,if_pos (by omega)])
 rw[q0K]
 have e:(fun k:Nat=>if 1≤k∧k<1 then(-1:Int) else 0)=fun _=>0:=by funext k;rw[if_neg (by omega)]
 rw[e] at h1
 exact h1
theorem qkP (hN:N≤65536) (hN1:1≤N) (least:Int):qX (Qh rF d (Q3 N best) W B P l nx least) (List.replicate N false,(1:Int))=some (Q3 N (fun k=>decide (k≠0)&&decide (least≤best k))):=by
 have h1:=J3 (step:=Qh rF d (Q3 N best) W B P l nx least) (fun i=>(Q3 N (fun k=>if 1≤k∧k<i then decide (least≤best k) else false),(i:Int))) 1 N hN1 (e:=Q3 N (fun k=>decide (k≠0)&&decide (least≤best k))) (fun i h1 hi=>by
   have hw:w64 ((i:Int)+1)=((i+1:Nat):Int):=qY hi (by omega)
   unfold Qh
   dsimp only
   rw[qM,qM,if_pos (by omega),if_pos ⟨by omega,by omega⟩,Int.toNat_natCast,Zb best hi,Option.bind_some,if_pos ⟨by omega,by omega⟩,if_pos (by omega),hw,zX]
   rw[qbR (fun k=>decide (least≤best k)) false h1]) (by
   unfold Qh
   dsimp only
   rw[qM,if_neg (by omega)]
   congr 2
   refine ZN fun k hk=>?_
   by_cases h:k=0
   ·subst h;simp
   ·rw[if_pos ⟨by omega,hk⟩];simp[h])
 rw[q0K]
 have e:(fun k:Nat=>if 1≤k∧k<1 then decide (least≤best k) else false)=fun _=>false:=by funext k;rw[if_neg (by omega)]
 rw[e] at h1
 exact h1
theorem qt9 (hN:N≤65536) (hM:M≤1000000) (hb:Bnd best N M) (own:Nat→Bool) (t7:Int) (t10:Bool) {set:Nat} (hs:set<N):∀(f sub:Nat),sub≤f→sub &&& set=sub→∀(g:Nat→Int),
  qX (zH rF d (Q3 N best) W B P l nx n t7 (Q3 N own) t10 (set:Int)) (Q3 N g,(sub:Int))=some (Q3 N (q4Y g set (eaF own best set f sub (g set)))):=by
 have h0:∀(g:Nat→Int),qX (zH rF d (Q3 N best) W B P l nx n t7 (Q3 N own) t10 (set:Int)) (Q3 N g,((0:Nat):Int))=some (Q3 N g):=fun g=>by
  refine zr ?_
  unfold zH
  dsimp only
  rw[if_neg (by decide)]
 intro f
 induction f with
 | zero=>
  intro sub hf _ g
  have:sub=0:=by omega
  subst this
  rw[h0]
  unfold eaF
  rw[q54]
 | succ f ih=>
  intro sub hf hsub g
  unfold eaF
  by_cases hz:sub=0
  ·subst hz
   rw[h0,if_pos rfl,q54]
  ·have ha:(sub-1) &&& set≤sub-1:=Nat.and_le_left
   have hle:sub≤set:=by rw[←hsub];exact Nat.and_le_right
   have hr:=qcx set sub
   have hbr:=hb (q09 set sub) (by omega)
   have hsl:=qiu set sub hsub
   have hws:w64 ((set:Int)-(sub:Int))=((q09 set sub:Nat):Int):=by rw[QP (by omega) (by omega),←hsl];omega
   have hand:JH Go.BinOp.and Go.IntKind.i64 (w64 ((sub:Int)-1)) (set:Int)=(((sub-1) &&& set:Nat):Int):=by
    rw[QP (by omega) (by omega),show((sub:Int)-1)=((sub-1:Nat):Int) by omega,qaK _ _ (by omega) (by omega)]
   have hstep:zH rF d (Q3 N best) W B P l nx n t7 (Q3 N own) t10 (set:Int) (Q3 N g,(sub:Int))=some (.inl (Q3 N (q4Y g set (eaV own best set sub (g set))),(((sub-1) &&& set:Nat):Int))):=by
    unfold zH
    dsimp only
    rw[if_pos (by omega),qM,if_pos ⟨by omega,by omega⟩,Int.toNat_natCast,Zb own (by omega),Option.bind_some,hand]
    cases ho:own sub
    ·have hv:eaV own best set sub (g set)=g set:=by unfold eaV;rw[if_neg (by simp[ho])]
     rw[if_neg (by decide),hv,q54]
    ·rw[if_pos rfl,hws,qM,if_pos ⟨by omega,by omega⟩,Int.toNat_natCast,Zb best (by omega),Option.bind_some]
     by_cases hq:0≤best (q09 set sub)
     ·have hv:eaV own best set sub (g set)=max (g set) (best (q09 set sub)+1):=by unfold eaV;rw[if_pos ⟨ho,hq⟩]
      rw[if_pos hq,qM,if_pos ⟨by omega,by omega⟩,Int.toNat_natCast,Zb g hs,Option.bind_some,if_pos ⟨by omega,by omega⟩,Option.bind_some,if_pos ⟨by omega,by omega⟩,if_pos (by omega),QP (n:=best (q09 set sub)+1) (by omega) (by omega),zX,hv]
     ·have hv:eaV own best set sub (g set)=g set:=by unfold eaV;rw[if_neg (fun q=>hq q.2)]
      rw[if_neg hq,hv,q54]
   have hsub2:((sub-1) &&& set) &&& set=(sub-1) &&& set:=by rw[Nat.and_assoc,Nat.and_self]
   rw[zI hstep,ih _ (by omega) hsub2,if_neg hz,q4C,q2P]
theorem qtG (hN:N≤65536) (hM:M≤1000000) (hb:Bnd best N M) (own:Nat→Bool) (t7:Int) (must:Bool) :
  qX (QC rF d (Q3 N best) W B P l nx n t7 (Q3 N own) must) (List.replicate N 0,(0:Int))=some (Q3 N (stF (n.Kind==4 && !must) own best)):=by
 have h1:=J3 (step:=QC rF d (Q3 N best) W B P l nx n t7 (Q3 N own) must) (fun i=>(Q3 N (fun k=>if k<i then stF (n.Kind==4 && !must) own best k else 0),(i:Int))) 0 N (Nat.zero_le _) (e:=Q3 N (stF (n.Kind==4 && !must) own best)) (fun i _ hi=>by
   have hbi:=hb i hi
   have hw:w64 ((i:Int)+1)=((i+1:Nat):Int):=qY hi (by omega)
   have hg:∀v:Int,v=(if(n.Kind==4 && !must)=true then best i else -1)→q4Y (q4Y (fun k=>if k<i then stF (n.Kind==4 && !must) own best k else 0) i v) i (eaF own best i i i (q4Y (fun k=>if k<i then stF (n.Kind==4 && !must) own best k else 0) i v i))=fun k=>if k<i+1 then stF (n.Kind==4 && !must) own best k else 0:=fun v hv=>by
    funext k
    rw[q4C,q2P]
    unfold q4Y
    by_cases hk:k=i
    ·subst hk
     rw[if_pos rfl,if_pos (by omega)]
     unfold stF
     rw[←hv]
    ·rw[if_neg hk]
     show(if k<i then stF (n.Kind==4 && !must) own best k else 0)=_
     by_cases h:k<i
     ·rw[if_pos h,if_pos (by omega)]
     ·rw[if_neg h,if_neg (by omega)]
   have hci:(0:Int)≤(i:Int)∧(i:Int)<((N:Nat):Int):=⟨by omega,by omega⟩
   have hin:∀v:Int,v=(if(n.Kind==4 && !must)=true then best i else -1)→qX (zH rF d (Q3 N best) W B P l nx n t7 (Q3 N own) must (i:Int)) (Q3 N (q4Y (fun k=>if k<i then stF (n.Kind==4 && !must) own best k else 0) i v),(i:Int))=some (Q3 N (fun k=>if k<i+1 then stF (n.Kind==4 && !must) own best k else 0)):=fun v hv=>by
    rw[qt9 d W B P nx l n hN hM hb own t7 must hi i i (Nat.le_refl _) (Nat.and_self _),hg v hv]
   unfold QC
   dsimp only
   rw[qM,qM,if_pos hci.2,if_pos hci,Int.toNat_natCast,if_pos (show i+1≤N by omega)]
   cases hk:(n.Kind==4)
   ·rw[hk] at hin
    rw[if_neg (by decide),zX,hin (-1) rfl,Option.bind_some,hw]
   ·rw[hk] at hin
    rw[if_pos rfl]
    cases must
    ·rw[if_pos (show(!false)=true by decide),if_pos hci,Zb best hi,Option.bind_some,if_pos hci,if_pos (show i+1≤N by omega),zX,zX,q2P,hin (best i) rfl,Option.bind_some,hw]
    ·rw[if_neg (show ¬ ((!true)=true) by decide),zX,hin (-1) rfl,Option.bind_some,hw]) (by
   unfold QC
   dsimp only
   rw[qM,qM,if_neg (by omega)]
   congr 2
   exact ZN fun k hk=>if_pos hk)
 rw[q0K]
 have e:(fun k:Nat=>if k<0 then stF (n.Kind==4 && !must) own best k else 0)=fun _=>0:=by funext k;rw[if_neg (by omega)]
 rw[e] at h1
 exact h1
end
theorem qkE (d:List Int) (hd:d.length≤16) (W B P:Int) (l:List qa) (hl:l.length≤16) (n:qb) (hLn:n.L.length≤1000000)
  (hP:∀y∈n.L,∀nx:Nat,nx+(ndN y).length≤100000→zY (y,d,W,B,P,l,(nx:Int))=some (Q3 (2 ^ l.length) (Q1 d ⟨W,B,P⟩ l y nx),d,W,B,P,l,((nx+lvN y:Nat):Int))) :
  ∀(r:List qb) (i nx:Nat) (best:Nat→Int) (M:Int),r.length+i=n.L.length→(∀j,r[j]?=n.L[i+j]?)→nx+(ndL r).length≤100000→Bnd best (2 ^ l.length) M→0≤M→M+r.length≤100000→
  qX (Qm zY n) (d,Q3 (2 ^ l.length) best,W,B,P,l,(nx:Int),(i:Int))=some (d,Q3 (2 ^ l.length) (q8m d ⟨W,B,P⟩ l (n.Kind==4) r nx best),W,B,P,l,((nx+lvL r:Nat):Int)):=by
 intro r
 induction r with
 | nil=>
  intro i nx best M hi _ _ _ _ _
  have hi:i=n.L.length:=by simpa using hi
  subst hi
  refine zr ?_
  unfold Qm
  dsimp only
  rw[if_neg (by omega),lvL,Nat.add_zero]
  rfl
 | cons y r ih=>
  intro i nx best M hi hr hnx hb hM0 hM
  rw[ndL,List.length_append] at hnx
  have hlv:=qdw y
  simp only[List.length_cons,Int.natCast_add,Int.natCast_one] at hM hi
  have hget:n.L[i]?=some y:=by have:=hr 0;simpa using this.symm
  have hlt:i<n.L.length:=q08 hget
  have hN:=qhR hl
  have hN1:1≤2 ^ l.length:=Nat.one_le_two_pow
  have hcall:=hP y (List.mem_of_getElem? hget) nx (by omega)
  have hw:w64 ((i:Int)+1)=((i+1:Nat):Int):=qY hlt (by omega)
  have hdec:=qkt d hd W B P ((nx+lvN y:Nat):Int) l nx (nx+lvN y)
  have hstep:Qm zY n (d,Q3 (2 ^ l.length) best,W,B,P,l,(nx:Int),(i:Int))=some (.inl (d,Q3 (2 ^ l.length) (stF (n.Kind==4 && !foF d nx (nx+lvN y)) (Q1 d ⟨W,B,P⟩ l y nx) best),W,B,P,l,((nx+lvN y:Nat):Int),((i+1:Nat):Int))):=by
   unfold Qm
   dsimp only
   rw[if_pos (by omega),if_pos ⟨by omega,by omega⟩,Int.toNat_natCast,hget,Option.bind_some,hcall,Option.bind_some]
   dsimp only
   rw[hdec,Option.bind_some,qM,if_pos ⟨by omega,by omega,by omega⟩,qtG (M:=M) d W B P _ l n hN (by omega) hb,Option.bind_some,hw]
  rw[zI hstep,ih (i+1) _ _ (M+1) (by omega) (fun j=>by rw[show i+1+j=i+(j+1) by omega,←hr (j+1)];rfl) (by omega) (qf7 hb (by omega)) (by omega) (by omega)]
  rw[lvL,←Nat.add_assoc]
  rfl
theorem qkO (d:List Int) (hd:d.length≤16) (W B P:Int) (l:List qa) (hl:l.length≤16):∀(m:Nat) (n:qb),(ndN n).length≤m→(ndN n).length≤10000→(∀y∈ndN n,y.Set.length≤1000000)→∀nx:Nat,nx+(ndN n).length≤100000→zY (n,d,W,B,P,l,(nx:Int))=some (Q3 (2 ^ l.length) (Q1 d ⟨W,B,P⟩ l n nx),d,W,B,P,l,((nx+lvN n:Nat):Int)):=by
 intro m
 induction m with
 | zero=>intro n h;rw[Zg] at h;simp at h
 | succ m ih=>
  intro n h1 h2 h3 nx hnx
  have hN:=qhR hl
  have hN1:1≤2 ^ l.length:=Nat.one_le_two_pow
  have hlv:=qdw n
  have hset:=h3 n (by rw[Zg];exact List.mem_cons_self)
  have hsub:∀(L:List qb),(ndL L).length≤m→(ndL L).length≤10000→(∀y∈ndL L,y.Set.length≤1000000)→∀y∈L,∀nx:Nat,nx+(ndN y).length≤100000→zY (y,d,W,B,P,l,(nx:Int))=some (Q3 (2 ^ l.length) (Q1 d ⟨W,B,P⟩ l y nx),d,W,B,P,l,((nx+lvN y:Nat):Int)):=by
   intro L
   induction L with
   | nil=>intro _ _ _ y hy;simp at hy
   | cons x L ihl=>
    intro g1 g2 g3 y hy
    rw[ndL,List.length_append] at g1 g2
    rw[ndL] at g3
    rcases List.mem_cons.1 hy with rfl|hy
    ·exact ih _ (by omega) (by omega) fun z hz=>g3 z (List.mem_append_left _ hz)
    ·exact ihl (by omega) (by omega) (fun z hz=>g3 z (List.mem_append_right _ hz)) y hy
  have e0:ndN n=n::ndL n.L:=Zg n
  have hlen:(ndN n).length=(ndL n.L).length+1:=by rw[e0];rfl
  have hP:=hsub n.L (by omega) (by omega) fun y hy=>h3 y (by rw[e0];exact List.mem_cons_of_mem _ hy)
  have hLl:=qoj n.L
  rw[q74,JJ,q8b]
  by_cases hk1:n.Kind=1
  ·rw[if_pos (by rw[hk1];rfl),if_pos (.inl hk1),qeJ d hd W B P l hl n hset nx (by omega),Option.bind_some,q5S,if_pos (.inl hk1)]
  ·rw[if_neg (by simpa using hk1)]
   by_cases hk2:n.Kind=2
   ·rw[if_pos (by rw[hk2];rfl),if_pos (.inr hk2),qeJ d hd W B P l hl n hset nx (by omega),Option.bind_some,q5S,if_pos (.inr hk2)]
   ·have hlf:¬ (n.Kind=1∨n.Kind=2):=by omega
    have e2:lvN n=lvL n.L:=by rw[q5S,if_neg hlf]
    have hb0:Bnd b0F (2 ^ l.length) 0:=fun k _=>by unfold b0F;split<;>omega
    have hch:=qkE d hd W B P l hl n (by omega) hP n.L 0 nx b0F 0 (by simp) (by simp) (by omega) hb0 (by omega) (by omega)
    have hch':qX (Qm zY n) (d,Q3 (2 ^ l.length) b0F,W,B,P,l,(nx:Int),(0:Int))=some (d,Q3 (2 ^ l.length) (q8m d ⟨W,B,P⟩ l (n.Kind==4) n.L nx b0F),W,B,P,l,((nx+lvL n.L:Nat):Int)):=hch
    rw[if_neg (by simpa using hk2),if_neg hlf,if_pos (by omega),qBk hl,if_pos ⟨by omega,by omega,by omega⟩,Int.toNat_natCast,qyw d W B P _ l n hN hN1,Option.bind_some,hch',Option.bind_some,e2]
    dsimp only
    by_cases hk3:n.Kind=3
    ·have k3:(n.Kind==3)=true:=by rw[hk3];rfl
     rw[if_pos k3,qM,if_pos ⟨by omega,by omega,by omega⟩,qkP d W B P _ l hN hN1,Option.bind_some]
     simp only[if_pos hk3]
    ·have k3:¬ ((n.Kind==3)=true):=by simpa using hk3
     rw[if_neg k3,qM,if_pos ⟨by omega,by omega,by omega⟩,qkP d W B P _ l hN hN1,Option.bind_some]
     simp only[if_neg hk3]
end Go.Proofs.YtgejdfnidjnjcaaGreat.Vc
namespace Go.Proofs.YtgejdfnidjnjcaaGreat.Vc
open Go.RowKit
set_option maxRecDepth 100000
abbrev exA:qc:=qc.mk 1 (ByteArray.mk (List.toArray [65,49]))
abbrev exB:qc:=qc.mk 1 (ByteArray.mk (List.toArray [66,49]))
abbrev nA:qb:=qb.mk 1 0 50 [exA] []
abbrev nB:qb:=qb.mk 2 10 0 [exA,exB] []
abbrev qCh:qb:=qb.mk 3 0 0 [] [nA,nB]
abbrev qkp:qb:=qb.mk 4 1 0 [] [nA,nB]
abbrev exL:List qa:=[qa.mk exA 5 60 0 [] 0 [],qa.mk exB 6 90 0 [] 0 [],qa.mk exA 5 40 0 [] 0 []]
def qGf (n:qb):Bool:=decide (hgN n≤100)&&decide ((ndN n).length≤9999)&&(ndN n).all (fun y=>decide (y.Set.length≤1000000))&&q2H n==0
theorem qjp {n:qb} (h:qGf n=true):Rgt n:=by
 unfold qGf at h
 simp only[Bool.and_eq_true,decide_eq_true_eq,List.all_eq_true,beq_iff_eq] at h
 exact⟨⟨h.1.1.1,h.1.1.2,h.1.2⟩,h.2⟩
theorem gtA:Rgt nA:=qjp (by kernel_rfl)
theorem gtB:Rgt nB:=qjp (by kernel_rfl)
theorem qz8:Rgt qCh:=qjp (by kernel_rfl)
theorem qgj:Rgt qkp:=qjp (by kernel_rfl)
def inW (want:List Int) (i:Nat):Bool:=want.any fun a=>a==(i:Int)
theorem qAg (want:List Int) (hw:want.length≤100) (i:Nat) (ok:Bool) (t34:List Bool) (t35 t36:Int):qX (q02 want (i:Int) ok t34 t35 t36 want ((want.length:Nat):Int)) (false,(0:Int))=some (inW want i):=by
 have h:=qet (step:=q02 want (i:Int) ok t34 t35 t36 want ((want.length:Nat):Int)) want (fun b k=>(b,(k:Int))) (fun b a=>b||a==(i:Int)) (fun b=>b) (fun b k a ha=>by
  have hi:=q08 ha
  have hws:w64 ((k:Int)+1)=((k+1:Nat):Int):=qY (n:=1000) (by omega) (by omega)
  unfold q02
  dsimp only
  rw[if_pos (by omega),if_pos ⟨by omega,by omega⟩,Int.toNat_natCast,ha,Option.bind_some,hws]
  cases b
  ·rw[if_neg (by decide),Bool.false_or]
  ·rw[if_pos rfl,Bool.true_or]) (fun b=>by
  unfold q02
  dsimp only
  rw[if_neg (by omega)]) false
 have e:∀(w:List Int) (b:Bool),w.foldl (fun b a=>b||a==(i:Int)) b=(b||w.any fun a=>a==(i:Int)):=by
  intro w
  induction w with
  | nil=>intro b;simp
  | cons a w ih=>intro b;rw[List.foldl_cons,ih,List.any_cons,Bool.or_assoc]
 rw[e,Bool.false_or] at h
 exact h
theorem qf1 {n:qb} (h:Rgt n) {want:List Int} (hw:want.length≤100) (hk:(List.range 8).all (fun i=>Q1 [] (qN 1) exL n 0 i==inW want i)=true):QN n want=some true:=by
 have hS:=qcr h (qN 1) exL (by decide)
 have hloop:=J3 (step:=q0p want (Q3 (2 ^ exL.length) (Q1 [] (qN 1) exL n 0)) (8:Int)) (e := .inr ()) (fun i=>(i:Int)) 0 8 (Nat.zero_le _) (fun i _ hi=>by
  have hws:w64 ((i:Int)+1)=((i+1:Nat):Int):=qY (n:=1000) (by omega) (by omega)
  have hki:=List.all_eq_true.1 hk i (List.mem_range.2 hi)
  have hki:Q1 [] (qN 1) exL n 0 i=inW want i:=by simpa using hki
  unfold q0p
  rw[if_pos (by omega),if_pos ⟨by omega,by rw[qM];show(i:Int)<((8:Nat):Int);omega⟩,Int.toNat_natCast,Zb _ (show i<2 ^ exL.length from hi),Option.bind_some,qAg want hw,Option.bind_some,hki,if_neg (by simp),hws]) (by
  unfold q0p
  rw[if_neg (by decide)])
 unfold QN
 rw[hS,Option.bind_some]
 dsimp only
 rw[qM,if_neg (by decide),if_neg (by decide)]
 change Option.bind (qX (q0p want (Q3 (2 ^ exL.length) (Q1 [] (qN 1) exL n 0)) (8:Int)) ((0:Nat):Int)) _=_
 rw[hloop,Option.bind_some,Sum.elim_inr]
theorem exd {d:List Int} (hd:d.length=3) {m:Int} (h:d.all (fun y=>decide (-1≤y)&&decide (y<m))=true):∀(j:Nat) (y:Int),d[j]?=some y → -1≤y∧y<m:=fun j y hy=>by
 have:=List.all_eq_true.1 h y (List.mem_of_getElem? hy)
 simpa using this
theorem qg8 {l:List Int} (hl:l.length≤1000):Jc l l=some true:=by
 have:=J3 (step:=Jl l l) (e := .inr ()) (fun i=>(i:Int)) 0 l.length (Nat.zero_le _) (fun i _ hi=>by
  have hw:w64 ((i:Int)+1)=((i+1:Nat):Int):=qY (n:=10000) (by omega) (by omega)
  have hr:l[i]?=some l[i]:=List.getElem?_eq_getElem hi
  unfold Jl
  rw[if_pos (by omega),if_pos ⟨by omega,by omega⟩,Int.toNat_natCast,hr,Option.bind_some,if_pos ⟨by omega,by omega⟩,Option.bind_some,if_neg (by simp),hw]) (by
  unfold Jl
  rw[if_neg (by omega)])
 unfold Jc
 rw[if_neg (by simp)]
 change Option.bind (qX _ ((0:Nat):Int)) _=_
 rw[this]
 rfl
theorem qjY:q2m=some true:=by
 have h1:Qw qkp (qN 1) exL 7=some ([0,1,1],true):=qdd qgj (by decide) (set:=7) (by decide) _ (d:=[0,1,1]) rfl (qjt (by kernel_rfl))
 have h2:Qw qkp (qN 1) exL 3=some ([1,1],true):=qdd qgj (by decide) (set:=3) (by decide) _ (d:=[1,1,-1]) rfl (qjt (by kernel_rfl))
 have h3:Qw qCh (qN 1) exL 3=some ([],false):=qcT qz8 (by decide) (set:=3) (by decide) _ (by kernel_rfl)
 have f1:q0l nA (qN 1) (qa.mk exA 5 60 0 [] 0 [])=some true:=(qdt _ (by decide) _ _).trans (congrArg some (by kernel_rfl))
 have f2:q0l nA (qN 1) (qa.mk exB 6 90 0 [] 0 [])=some false:=(qdt _ (by decide) _ _).trans (congrArg some (by kernel_rfl))
 have f3:q0l nA (qN 1) (qa.mk exA 5 40 0 [] 0 [])=some false:=(qdt _ (by decide) _ _).trans (congrArg some (by kernel_rfl))
 have m1:J0 qkp (qN 1) exL [(0:Int),(-1),(-1)]=some true:=(qgc qgj (by decide) _ _ rfl (exd rfl (by kernel_rfl))).trans (congrArg some (by kernel_rfl))
 have m2:J0 qkp (qN 1) exL [(0:Int),1,(-1)]=some false:=(qgc qgj (by decide) _ _ rfl (exd rfl (by kernel_rfl))).trans (congrArg some (by kernel_rfl))
 have s1:QN nA [(1:Int)]=some true:=qf1 gtA (by decide) (by kernel_rfl)
 have s2:QN nB [(3:Int),5,6,7]=some true:=qf1 gtB (by decide) (by kernel_rfl)
 have s3:QN qCh [(7:Int)]=some true:=qf1 qz8 (by decide) (by kernel_rfl)
 have s4:QN qkp [(1:Int),3,5,6,7]=some true:=qf1 qgj (by decide) (by kernel_rfl)
 unfold q2m
 rw[h1,h2,h3,f1,f2,f3,m1,m2,s1,s2,s3,s4]
 simp only[Option.bind_some]
 rw[qg8 (by decide),qg8 (by decide)]
 rfl
end Go.Proofs.YtgejdfnidjnjcaaGreat.Vc
namespace Go.Proofs.YtgejdfnidjnjcaaGreat.Vc
open Go.RowKit
theorem qtN:∀(m:Nat) (n y:qb),(ndN n).length≤m→y∈ndN n→(ndN y).length≤(ndN n).length∧∀z∈ndN y,z∈ndN n:=by
 intro m
 induction m with
 | zero=>intro n y h;rw[Zg] at h;simp at h
 | succ m ih=>
  intro n y h hy
  rw[Zg] at hy
  rcases List.mem_cons.1 hy with rfl|hy
  ·exact⟨Nat.le_refl _,fun z hz=>hz⟩
  ·have hL:∀(L:List qb),(ndL L).length≤m→y∈ndL L→(ndN y).length≤(ndL L).length∧∀z∈ndN y,z∈ndL L:=by
    intro L
    induction L with
    | nil=>intro _ h;simp[ndL] at h
    | cons x L ihl=>
     intro g gy
     rw[ndL,List.length_append] at g
     rw[ndL] at gy ⊢
     rw[List.length_append]
     rcases List.mem_append.1 gy with gy|gy
     ·obtain⟨a,b⟩:=ih x y (by omega) gy
      exact⟨by omega,fun z hz=>List.mem_append_left _ (b z hz)⟩
     ·obtain⟨a,b⟩:=ihl (by omega) gy
      exact⟨by omega,fun z hz=>List.mem_append_right _ (b z hz)⟩
   have e0:=Zg n
   have:(ndN n).length=(ndL n.L).length+1:=by rw[e0];rfl
   obtain⟨a,b⟩:=hL n.L (by omega) hy
   exact⟨by omega,fun z hz=>by rw[e0];exact List.mem_cons_of_mem _ (b z hz)⟩
theorem qx7 {n y:qb} (hy:y∈n.L):(ndN y).length<(ndN n).length∧∀z∈ndN y,z∈ndN n:=by
 have key:∀L:List qb,y∈L→(ndN y).length≤(ndL L).length∧∀z∈ndN y,z∈ndL L:=by
  intro L
  induction L with
  | nil=>intro h;cases h
  | cons x L ih=>
   intro h
   rw[ndL,List.length_append]
   rcases List.mem_cons.1 h with e|h
   ·subst e;exact⟨by omega,fun z hz=>List.mem_append_left _ hz⟩
   ·obtain⟨a,b⟩:=ih h
    exact⟨by omega,fun z hz=>List.mem_append_right _ (b z hz)⟩
 obtain⟨a,b⟩:=key n.L hy
 rw[Zg n,List.length_cons]
 exact⟨by omega,fun z hz=>List.mem_cons_of_mem _ (b z hz)⟩
theorem quG:∀(m:Nat) (n:qb),(ndN n).length≤m→(ndN n).length≤100000→(∀y∈ndN n,y.Set.length≤1000000)→q0i n=some n:=by
 intro m
 induction m with
 | zero=>intro n h;rw[Zg] at h;simp at h
 | succ m ih=>
  intro n h1 h2 h3
  have hset:=h3 n (by rw[Zg];exact List.mem_cons_self)
  have hP:∀y∈n.L,q0i y=some y:=fun y hy=>by
   obtain⟨a,b⟩:=qx7 hy
   exact ih y (by omega) (by omega) fun z hz=>h3 z (b z hz)
  have hl:=qb6 n.L
  have e0:(ndN n).length=(ndL n.L).length+1:=by rw[Zg];rfl
  have hn:(⟨n.Kind,n.N,n.Min,n.Set,n.L⟩:qb)=n:=by cases n;rfl
  have hML:10000000≤Go.maxLen:=by unfold Go.maxLen;omega
  rw[qdz,q1V,if_pos ⟨by omega,by omega⟩]
  have hL:qX (q0o q0i n.Set n 0 0 0 n.Kind n.N n.Min) (n.L.take 0,((0:Nat):Int))=some n.L:=by
   refine J3 (fun i=>(n.L.take i,(i:Int))) 0 n.L.length (Nat.zero_le _) (fun i _ hi=>?_) ?_
   ·have hy:n.L[i]?=some n.L[i]:=List.getElem?_eq_getElem hi
    have ht:n.L.take (i+1)=n.L.take i++[n.L[i]]:=List.take_succ_eq_append_getElem hi
    have hq:=hP _ (List.getElem_mem hi)
    have htl:(n.L.take i).length=i:=by rw[List.length_take];omega
    rw[ht]
    generalize n.L[i]=y at hy hq
    unfold q0o
    simp only
    rw[if_pos (by omega),if_pos ⟨by omega,by omega⟩,Int.toNat_natCast,hy,Option.bind_some,hq,Option.bind_some,htl,if_pos ⟨by omega,by omega⟩,qY hi (by omega)]
   ·unfold q0o
    simp only
    rw[if_neg (by omega),List.take_length]
  rw[List.take_zero] at hL
  change Option.bind (qX _ ([],((0:Nat):Int))) _=_
  rw[hL,Option.bind_some,hn]
theorem qer {n:qb} (h:Szs n):q0F n=some ((ndN n).filter Zh):=by
 have hnd:=h.nd
 have hc:∀y∈ndN n,q0i y=some y:=fun y hy=>by
  obtain⟨a,b⟩:=qtN _ n y (Nat.le_refl _) hy
  exact quG _ y (Nat.le_refl _) (by omega) fun z hz=>h.st z (b z hz)
 have hML:10000000≤Go.maxLen:=by unfold Go.maxLen;omega
 unfold q0F
 rw[qfu n h.hg h.nd,Option.bind_some,Sum.elim_inr]
 have hit:=qbk n 1
 have hlen:=q9m n 1
 generalize itN 1 n=l at hit hlen
 rw[←hit] at hc ⊢
 have key:∀(r:List ql) (i:Nat) (b:List qb),r.length+i=l.length→(∀j,r[j]?=l[i+j]?)→b.length≤i→qX (Z5 l) (b,(i:Int))=some (b++(r.map (·.Need)).filter Zh):=by
  intro r
  induction r with
  | nil=>
   intro i b hi _ _
   have hi:i=l.length:=by simpa using hi
   subst hi
   refine zr ?_
   unfold Z5
   simp
  | cons y r ih=>
   intro i b hi hr hb
   simp only[List.length_cons] at hi
   have hget:l[i]?=some y:=by have:=hr 0;simpa using this.symm
   have hlt:=q08 hget
   have hcy:=hc y.Need (List.mem_map.2 ⟨y,List.mem_of_getElem? hget,rfl⟩)
   have hstep:Z5 l (b,(i:Int))=some (.inl (if Zh y.Need=true then b++[y.Need] else b,((i+1:Nat):Int))):=by
    unfold Z5
    simp only
    rw[if_pos (by omega),if_pos ⟨by omega,by omega⟩,Int.toNat_natCast,hget,Option.bind_some,qiW,qY hlt (by omega)]
    cases h:Zh y.Need
    ·simp
    ·rw[if_pos rfl,if_pos ⟨by omega,by omega⟩,Option.bind_some,hcy,Option.bind_some,if_pos ⟨by omega,by omega⟩]
     simp
   have hb2:(if Zh y.Need=true then b++[y.Need] else b).length≤i+1:=by
    split
    ·rw[List.length_append,List.length_singleton];omega
    ·omega
   rw[zI hstep,ih (i+1) _ (by omega) (fun j=>by rw[show i+1+j=i+(j+1) by omega,←hr (j+1)];rfl) hb2,List.map_cons,List.filter_cons]
   cases Zh y.Need<;>simp
 have:=key l 0 [] (by simp) (by simp) (by simp)
 change Option.bind (qX _ ([],((0:Nat):Int))) _=_
 rw[this,Option.bind_some,List.nil_append]
theorem qoe {n:qb} (hz:Szs n) (hsm:∀y∈ndN n,Sm y) (s:qf) (l:List qa) (h:q2H n≠0):q0U n s l=some ([],q2H n):=by
 unfold q0U
 rw[qdI hz hsm,Option.bind_some,if_pos (by simpa using h)]
theorem qj0 {n:qb} (h:Rgt n) (hsm:∀y∈ndN n,Sm y) (s:qf) (l:List qa) (hl:l.length≤10):q0U n s l=some (Q3 (2 ^ l.length) (Q1 [] s l n 0),0):=by
 have h4:=h.sz.nd
 have:=qpu s.Worst s.Best s.Pass l (by omega) _ n (Nat.le_refl _) (by omega) h.sz.st 0 (by omega)
 unfold q0U
 rw[qdI h.sz hsm,h.ck,Option.bind_some,if_neg (by decide),if_neg (by omega)]
 rw[show((0:Nat):Int)=0 from rfl] at this
 rw[this,Option.bind_some]
theorem qlK {n:qb} {l:List qa} {set:Nat} (h:q31 n l set) (s:qf) (d:List Int) (hd:d.length≤16):zY (n,d,s.Worst,s.Best,s.Pass,l,(0:Int))=some (Q3 (2 ^ l.length) (Q1 d s l n 0),d,s.Worst,s.Best,s.Pass,l,((0+lvN n:Nat):Int)):=
 qkO d hd s.Worst s.Best s.Pass l h.ll _ n (Nat.le_refl _) (by have:=h.nd;omega) h.st 0 (by have:=h.nd;omega)
theorem qkv {n:qb} {l:List qa} {set:Nat} (h:q31 n l set) (s:qf) (w3:List Int) (hw3:w3.length≤16) (T:Nat) (hT:T≤1000000) (t15:Int) (d:List Int) (hd:d.length+1≤16):∀(m x:Nat),x+m<T→
  (∃v:Nat,x≤v∧v≤x+m∧Q1 (d++[(v:Int)]) s l n 0 set=true)→
  ∃v:Nat,x≤v∧v≤x+m∧Q1 (d++[(v:Int)]) s l n 0 set=true∧(∀y:Nat,x≤y→y<v→Q1 (d++[(y:Int)]) s l n 0 set=false)∧
   qX (JM d w3 n s l (set:Int) (T:Int) t15) (x:Int)=some (d++[(v:Int)],w3++[(v:Int)]):=by
 have hML:10000000≤Go.maxLen:=by unfold Go.maxLen;omega
 have hstep:∀x:Nat,x<T→JM d w3 n s l (set:Int) (T:Int) t15 (x:Int)=if Q1 (d++[(x:Int)]) s l n 0 set=true then some (.inr (d++[(x:Int)],w3++[(x:Int)])) else some (.inl ((x+1:Nat):Int)):=by
  intro x hx
  have hlen:(d++[(x:Int)]).length=d.length+1:=by rw[List.length_append,List.length_singleton]
  have hlt:=h.lt
  have hw:w64 ((x:Int)+1)=((x+1:Nat):Int):=QP (by omega) (by omega)
  unfold JM
  rw[if_pos (by omega),if_pos ⟨by omega,by omega⟩,if_pos ⟨by omega,by omega⟩,qlK h s _ (by omega),Option.bind_some]
  simp only
  rw[if_pos (by rw[qM];omega),Int.toNat_natCast,Zb _ hlt,Option.bind_some]
  cases hs:Q1 (d++[(x:Int)]) s l n 0 set
  ·rw[if_neg (by decide),hw]
   rfl
  ·rw[if_pos rfl,if_pos ⟨by omega,by omega⟩]
   rfl
 intro m
 induction m with
 | zero=>
  intro x hx hv
  obtain⟨v,h1,h2,h3⟩:=hv
  have e:v=x:=by omega
  subst e
  exact⟨v,Nat.le_refl _,by omega,h3,fun y _ _=>by omega,zr (by rw[hstep v (by omega),if_pos h3])⟩
 | succ m ih=>
  intro x hx hv
  by_cases hs:Q1 (d++[(x:Int)]) s l n 0 set=true
  ·exact⟨x,Nat.le_refl _,by omega,hs,fun y _ _=>by omega,zr (by rw[hstep x (by omega),if_pos hs])⟩
  ·obtain⟨v,h1,h2,h3⟩:=hv
   have hne:v≠x:=fun e=>hs (by rw[←e];exact h3)
   obtain⟨u,u1,u2,u3,u4,u5⟩:=ih (x+1) (by omega) ⟨v,by omega,by omega,h3⟩
   refine⟨u,by omega,by omega,u3,fun y hy hy2=>?_,?_⟩
   ·by_cases e:y=x
    ·subst e;exact Bool.eq_false_iff.2 hs
    ·exact u4 y (by omega) hy2
   ·rw[zI (by rw[hstep x (by omega),if_neg hs])]
    exact u5
theorem qg7 {n:qb} {l:List qa} {set:Nat} (h:q31 n l set) (s:qf) (T:Nat) (hT:T≤1000000) (hlv:lvN n≤T):∀(m:Nat) (d:List Int),d.length+m=l.length→q8p d s l n set→
  ∃d',d'.length=l.length∧q8p d' s l n set∧qX (Zd n s l (set:Int) (T:Int)) (d,q5x set.testBit d,(d.length:Int))=some (q5x set.testBit d'):=by
 intro m
 induction m with
 | zero=>
  intro d hd hf
  refine⟨d,by omega,hf,zr ?_⟩
  unfold Zd
  simp only
  rw[if_neg (by omega)]
 | succ m ih=>
  intro d hd hf
  have hll:=h.ll
  have hlt:=h.lt64
  have hML:10000000≤Go.maxLen:=by unfold Go.maxLen;omega
  have hsel:=q86 d set.testBit
  obtain⟨f1,f2⟩:=qeM h hf (by omega)
  have hw:w64 ((d.length:Int)+1)=((d.length+1:Nat):Int):=QP (by omega) (by omega)
  have hbit:(JH Go.BinOp.and Go.IntKind.i64 (Int.fdiv (set:Int) ((2:Int) ^ min (Int.toNat (d.length:Int)) (Go.IntKind.bits Go.IntKind.i64))) (1:Int)==(0:Int)) = !set.testBit d.length:=by
   rw[Int.toNat_natCast,qf0 set d.length (by omega),show(1:Int)=((1:Nat):Int) from rfl,qaK _ 1 (Nat.lt_of_le_of_lt (Nat.div_le_self _ _) hlt) (by decide),Nat.and_one_is_mod,Nat.testBit_eq_decide_div_mod_eq]
   have:set / 2 ^ d.length % 2<2:=Nat.mod_lt _ (by decide)
   by_cases e:set / 2 ^ d.length % 2=1
   ·rw[e];rfl
   ·have e0:set / 2 ^ d.length % 2=0:=by omega
    rw[e0];rfl
  cases hb:set.testBit d.length
  ·obtain⟨d',g1,g2,g4⟩:=ih (d++[-1]) (by rw[List.length_append,List.length_singleton];omega) (f1 hb)
   refine⟨d',g1,g2,?_⟩
   rw[q7l,hb,if_neg (by decide),List.append_nil,List.length_append,List.length_singleton] at g4
   rw[←g4]
   refine zI ?_
   unfold Zd
   simp only
   rw[if_pos (by omega),if_pos (by omega),hbit,hb,if_pos (by decide),if_pos ⟨by omega,by omega⟩,hw]
  ·obtain⟨v0,hv0,hs0⟩:=f2 hb
   obtain⟨v,v1,v2,v3,v4,v5⟩:=qkv h s (q5x set.testBit d) (by omega) T hT (d.length:Int) d (by omega) v0 0 (by omega) ⟨v0,by omega,by omega,hs0⟩
   have hF:q8p (d++[(v:Int)]) s l n set:=⟨v3,fun j y hy=>by
    rcases q60 hy with e|⟨e1,e2⟩
    ·exact hf.val j y e
    ·rw[e1,hb,if_pos rfl,e2];omega,fun j x hx hj y hy=>by
    rcases q60 hx with e|⟨e1,e2⟩
    ·rw[qdU e];exact hf.lst j x e hj y hy
    ·rw[e1,List.take_left]
     exact v4 y (Nat.zero_le _) (by omega)⟩
   obtain⟨d',g1,g2,g4⟩:=ih (d++[(v:Int)]) (by rw[List.length_append,List.length_singleton];omega) hF
   refine⟨d',g1,g2,?_⟩
   rw[q7l,hb,if_pos rfl,List.length_append,List.length_singleton] at g4
   rw[←g4]
   refine zI ?_
   unfold Zd
   simp only
   rw[if_pos (by omega),if_pos (by omega),hbit,hb,if_neg (by decide)]
   rw[show(0:Int)=((0:Nat):Int) from rfl,v5,Option.bind_some,hw]
theorem qhQ {n:qb} (hz:Szs n) (hsm:∀y∈ndN n,Sm y) (s:qf) (l:List qa) (hl:l.length≤10) (x:Int):∃r,Qw n s l x=some r∧q0j n s l x=some r∧r.1.length≤10:=by
 by_cases hc:q2H n=0
 ·have hR:Rgt n:=⟨hz,hc⟩
  have hS:=qcr hR s l hl
  have hS2:=qj0 hR hsm s l hl
  by_cases hx:x<0∨((2 ^ l.length:Nat):Int)≤x
  ·refine⟨([],false),?_,?_,by simp⟩
   ·unfold Qw
    rw[hS,Option.bind_some]
    simp only
    rw[qM,if_neg (by decide)]
    by_cases h:x<0
    ·rw[if_pos h]
    ·rw[if_neg h,if_pos (by omega)]
   ·unfold q0j
    rw[hS2,Option.bind_some]
    simp only
    rw[qM,if_neg (by decide)]
    by_cases h:x<0
    ·rw[if_pos h]
    ·rw[if_neg h,if_pos (by omega)]
  ·obtain⟨set,rfl⟩:∃k:Nat,x=(k:Int):=⟨x.toNat,by omega⟩
   have hs:set<2 ^ l.length:=by omega
   have hG:=qbo hR hl hs
   have hpre:q0j n s l (set:Int)=(if(!Q1 [] s l n 0 set)=true then some ([],false) else Option.bind (q0F n) fun(a3:List qb)=>Option.bind (qX (Zd n s l (set:Int) ((a3.length:Nat):Int)) ([],([],(0:Int)))) fun(a4:List Int)=>some (a4,true)):=by
    unfold q0j
    rw[hS2,Option.bind_some]
    simp only
    rw[if_neg (by decide),if_neg (by omega),if_neg (by rw[qM];omega),if_pos (by rw[qM];omega),Int.toNat_natCast,Zb _ hs,Option.bind_some]
   cases hq:Q1 [] s l n 0 set
   ·exact⟨([],false),qcT hR hl hs s hq,by rw[hpre,hq,if_pos (by decide)],by simp⟩
   ·have hlv:=qgK n (qhT hR)
    have hfl:((ndN n).filter Zh).length≤9999:=Nat.le_trans (List.length_filter_le ..) hz.nd
    obtain⟨d',g1,g2,g4⟩:=qg7 hG s ((ndN n).filter Zh).length (by omega) hlv l.length [] (by simp) ⟨hq,fun j y hy=>by simp at hy,fun j x hx=>by simp at hx⟩
    refine⟨(q5x set.testBit d',true),qdd hR hl hs s g1 g2,?_,?_⟩
    ·rw[hpre,hq,if_neg (by decide),qer hz,Option.bind_some]
     change Option.bind (qX _ ([],q5x set.testBit [],((([]:List Int).length:Nat):Int))) _=_
     rw[g4]
     rfl
    ·have:=q86 d' set.testBit
     show(q5x set.testBit d').length≤10
     omega
 ·refine⟨([],false),?_,?_,by simp⟩
  ·unfold Qw q1P
   rw[q84 n hz.hg hz.nd hz.st,Option.bind_some,if_pos (by simpa using hc),Option.bind_some]
   simp only
   rw[if_pos (by simpa using hc)]
  ·unfold q0j
   rw[qoe hz hsm s l hc,Option.bind_some]
   simp only
   rw[if_pos (by simpa using hc)]
end Go.Proofs.YtgejdfnidjnjcaaGreat.Vc
namespace Go.Proofs.YtgejdfnidjnjcaaGreat.Vc
open Go.RowKit
def bdN:Nat→Nat
 | 0=>1
 | k+1=>1+3*bdN k
structure qd4 (k:Nat) (n:qb):Prop where
 hg:hgN n≤k+1
 nd:(ndN n).length≤bdN k
 ok:∀y∈ndN n,y.Set.length≤3∧∀c∈y.Set,c.Code.size≤12
theorem qjD {k:Nat}:∀(L:List qb),(∀y∈L,qd4 k y)→hgL L≤k+1∧(ndL L).length≤L.length*bdN k∧∀y∈ndL L,y.Set.length≤3∧∀c∈y.Set,c.Code.size≤12
 | [],_=>⟨by simp[hgL],by simp[ndL],by simp[ndL]⟩
 | x::L,h=>by
  obtain⟨a,b,c⟩:=qjD L fun y hy=>h y (List.mem_cons_of_mem _ hy)
  obtain⟨e,f,g⟩:=h x List.mem_cons_self
  refine⟨?_,?_,?_⟩
  ·rw[hgL];omega
  ·rw[ndL,List.length_append,List.length_cons,Nat.add_mul];omega
  ·rw[ndL]
   intro y hy
   rcases List.mem_append.1 hy with hy|hy
   ·exact g y hy
   ·exact c y hy
theorem qlm (rF:(qb×Int)→Option qb) (n:qb) (b1 b2 b3 b4 b5 b6 t1:Int):∀(j i:Nat) (w:List qc),j+i=3→w.length=i→(∀c∈w,c.Code.size≤12)→
  ∃S,qX (Za rF n b1 b2 b3 b4 b5 b6 t1) (w,(i:Int))=some S∧S.length≤3∧∀c∈S,c.Code.size≤12:=by
 have hML:10000000≤Go.maxLen:=by unfold Go.maxLen;omega
 intro j
 induction j with
 | zero=>
  intro i w hi hw hc
  refine⟨w,zr ?_,by omega,hc⟩
  unfold Za
  simp only
  by_cases h:(i:Int)<((n.Set.length:Nat):Int)
  ·rw[if_pos h,if_neg (by omega)]
  ·rw[if_neg h]
 | succ j ih=>
  intro i w hi hw hc
  by_cases h:i<n.Set.length
  ·have ha:n.Set[i]?=some n.Set[i]:=List.getElem?_eq_getElem h
   generalize n.Set[i]=a at ha
   have hx:(ByteArray.extract a.Code 0 (Int.toNat (min ((ByteArray.size a.Code:Nat):Int) (12:Int)))).size≤12:=by
    rw[ByteArray.size_extract];omega
   have hww:w64 ((i:Int)+1)=((i+1:Nat):Int):=qY (n:=100) (by omega) (by omega)
   obtain⟨S,g1,g2,g3⟩:=ih (i+1) (w++[qc.mk a.School (ByteArray.extract a.Code 0 (Int.toNat (min ((ByteArray.size a.Code:Nat):Int) (12:Int))))]) (by omega) (by rw[List.length_append,List.length_singleton];omega) (fun c hc2=>by
    rcases List.mem_append.1 hc2 with e|e
    ·exact hc c e
    ·rw[List.mem_singleton.1 e];exact hx)
   refine⟨S,?_,g2,g3⟩
   rw[←g1]
   refine zI ?_
   unfold Za
   simp only
   rw[if_pos (by omega),if_pos (by omega),if_pos ⟨by omega,by omega⟩,Int.toNat_natCast,ha,Option.bind_some,if_pos ⟨by omega,by omega⟩,if_pos ⟨by omega,by omega⟩,hww]
  ·refine⟨w,zr ?_,by omega,hc⟩
   unfold Za
   simp only
   rw[if_neg (by omega)]
theorem qqf {rF:(qb×Int)→Option qb} {k:Nat} (hk:k≤100) (hr:∀y,∃z,rF (y,(k:Int))=some z∧qd4 k z) (n:qb) (w3:List qc) (b1 b2 b3 b4 b5 b6:Int):∀(j i:Nat) (w:List qb),j+i=3→w.length=i→(∀y∈w,qd4 k y)→
  ∃L,qX (Zr rF w3 n b1 b2 b3 b4 b5 b6 ((k+1:Nat):Int)) (w,(i:Int))=some L∧L.length≤3∧∀y∈L,qd4 k y:=by
 have hML:10000000≤Go.maxLen:=by unfold Go.maxLen;omega
 intro j
 induction j with
 | zero=>
  intro i w hi hw hc
  refine⟨w,zr ?_,by omega,hc⟩
  unfold Zr
  simp only
  by_cases h:(i:Int)<((n.L.length:Nat):Int)
  ·rw[if_pos h,if_neg (by omega)]
  ·rw[if_neg h]
 | succ j ih=>
  intro i w hi hw hc
  by_cases h:i<n.L.length
  ·have ha:n.L[i]?=some n.L[i]:=List.getElem?_eq_getElem h
   generalize n.L[i]=a at ha
   have hww:w64 ((i:Int)+1)=((i+1:Nat):Int):=qY (n:=100) (by omega) (by omega)
   have hwk:w64 (((k+1:Nat):Int)-1)=(k:Int):=by rw[QP (by omega) (by omega)];omega
   obtain⟨z,z1,z2⟩:=hr a
   obtain⟨S,g1,g2,g3⟩:=ih (i+1) (w++[z]) (by omega) (by rw[List.length_append,List.length_singleton];omega) (fun c hc2=>by
    rcases List.mem_append.1 hc2 with e|e
    ·exact hc c e
    ·rw[List.mem_singleton.1 e];exact z2)
   refine⟨S,?_,g2,g3⟩
   rw[←g1]
   refine zI ?_
   unfold Zr
   simp only
   rw[if_pos (by omega),if_pos (by omega),if_pos (by omega),if_pos ⟨by omega,by omega⟩,Int.toNat_natCast,ha,Option.bind_some,hwk,z1,Option.bind_some,if_pos ⟨by omega,by omega⟩,hww]
  ·refine⟨w,zr ?_,by omega,hc⟩
   unfold Zr
   simp only
   rw[if_neg (by omega)]
theorem qzQ:∀(k:Nat),k≤100→∀n:qb,∃z,ZW (n,(k:Int))=some z∧qd4 k z:=by
 intro k
 induction k with
 | zero=>
  intro _ n
  obtain⟨S,g1,g2,g3⟩:=qlm ZW n 0 0 0 n.Kind n.N n.Min 0 3 0 [] (by omega) rfl (by simp)
  refine⟨⟨n.Kind,n.N,n.Min,S,[]⟩,?_,⟨by rw[qbE];simp[hgL],by rw[Zg];simp[ndL,bdN],fun y hy=>?_⟩⟩
  ·rw[q8H,q1c]
   have g1':qX (Za ZW n 0 0 0 n.Kind n.N n.Min ((0:Nat):Int)) ([],(0:Int))=some S:=g1
   rw[g1',Option.bind_some]
   have h9:qX (Zr ZW S n 0 0 0 n.Kind n.N n.Min ((0:Nat):Int)) ([],(0:Int))=some []:=by
    refine zr ?_
    unfold Zr
    simp only
    by_cases h:(0:Int)<((n.L.length:Nat):Int)
    ·rw[if_pos h,if_pos (by decide),if_neg (by decide)]
    ·rw[if_neg h]
   rw[h9,Option.bind_some]
  ·rw[Zg] at hy
   rw[show ndL ([]:List qb)=[] by rw[ndL],List.mem_singleton] at hy
   rw[hy]
   exact⟨g2,g3⟩
 | succ k ih=>
  intro hk n
  obtain⟨S,g1,g2,g3⟩:=qlm ZW n 0 0 0 n.Kind n.N n.Min ((k+1:Nat):Int) 3 0 [] (by omega) rfl (by simp)
  obtain⟨L,f1,f2,f3⟩:=qqf (k:=k) (by omega) (ih (by omega)) n S 0 0 0 n.Kind n.N n.Min 3 0 [] (by omega) rfl (by simp)
  obtain⟨a,b,c⟩:=qjD L f3
  refine⟨⟨n.Kind,n.N,n.Min,S,L⟩,?_,⟨by rw[qbE];simp only;omega,?_,fun y hy=>?_⟩⟩
  ·rw[q8H,q1c]
   have g1':qX (Za ZW n 0 0 0 n.Kind n.N n.Min ((k+1:Nat):Int)) ([],(0:Int))=some S:=g1
   have f1':qX (Zr ZW S n 0 0 0 n.Kind n.N n.Min ((k+1:Nat):Int)) ([],(0:Int))=some L:=f1
   rw[g1',Option.bind_some,f1',Option.bind_some]
  ·rw[Zg,List.length_cons,bdN]
   simp only
   have:=Nat.mul_le_mul_right (bdN k) f2
   omega
  ·rw[Zg] at hy
   rcases List.mem_cons.1 hy with e|hy
   ·rw[e];exact⟨g2,g3⟩
   ·exact c y hy
theorem qd4.sm {n:qb} (h:qd4 2 n):∀y∈ndN n,Sm y:=fun y hy=>⟨by have:=(h.ok y hy).1;omega,fun c hc=>by have:=(h.ok y hy).2 c hc;omega⟩
theorem qeU {n:qb} (h:q4o 3 6 n):Szs n:=⟨by have:=h.hg;omega,by have h2:=h.l2;have h4:=h.nd;omega,qiq h.ok⟩
theorem qpi {n:qb} (h:q4o 3 6 n):Rgt n:=⟨qeU h,by
 have hz:=qeU h
 have h1:=q84 n hz.hg hz.nd hz.st
 rw[qkc h,Option.some.injEq] at h1
 exact h1.symm⟩
theorem qtT {n:qb} (h:q4o 3 6 n):∀y∈ndN n,Sm y:=fun y hy=>by
 rcases h.ok y hy with g|g
 ·refine⟨by have:=g.s3;omega,fun c hc=>?_⟩
  have hr:=qes (g.st.ok c hc)
  unfold q0q at hr
  rw[Bool.and_eq_true] at hr
  have h2:=hr.2
  unfold qgv at h2
  simp only[Bool.and_eq_true,decide_eq_true_eq] at h2
  omega
 ·exact⟨by rw[g.st];simp,fun c hc=>by rw[g.st] at hc;cases hc⟩
end Go.Proofs.YtgejdfnidjnjcaaGreat.Vc
namespace Go.Proofs.YtgejdfnidjnjcaaGreat.Vc
open Go.RowKit
theorem qqT (d:List Int) (hd:d.length≤100) (v:Int):∀(j i:Nat),j+i=d.length→(∃k y,i≤k∧d[k]?=some y∧QG y v=true)→∃r:Nat,qX (zx v d ((d.length:Nat):Int)) (i:Int)=some (.inl (r:Int)):=by
 intro j
 induction j with
 | zero=>
  rintro i hi ⟨k,y,h1,h2,_⟩
  have:=q08 h2
  omega
 | succ j ih=>
  rintro i hi ⟨k,y,h1,h2,h3⟩
  have ha:d[i]?=some (d[i]'(by omega)):=List.getElem?_eq_getElem (by omega)
  generalize d[i]'(by omega)=a at ha
  have hw:w64 ((i:Int)+1)=((i+1:Nat):Int):=qY (n:=1000) (by omega) (by omega)
  by_cases hq:QG a v=true
  ·refine⟨i,zr ?_⟩
   unfold zx
   rw[if_pos (by omega),if_pos ⟨by omega,by omega⟩,Int.toNat_natCast,ha,Option.bind_some,if_pos hq]
  ·have hk:i+1≤k:=by
    rcases Nat.lt_or_ge i k with h|h
    ·exact h
    ·have e:k=i:=by omega
     subst e
     rw[h2,Option.some.injEq] at ha
     subst ha
     exact absurd h3 hq
   obtain⟨r,g⟩:=ih (i+1) (by omega) ⟨k,y,hk,h2,h3⟩
   refine⟨r,?_⟩
   rw[zI,g]
   unfold zx
   rw[if_pos (by omega),if_pos ⟨by omega,by omega⟩,Int.toNat_natCast,ha,Option.bind_some,if_neg hq,hw]
noncomputable def qmq (n:qb) (d:List Int):Bool:=d.any fun y=>QG y ((((ndN n).filter Zh).length:Nat):Int)
theorem qgn (n:qb) (d:List Int) (hd:d.length≤100):zN d ((((ndN n).filter Zh).length:Nat):Int)=some (qmq n d):=by
 cases h:qmq n d
 ·refine qjq d hd _ fun j y hy=>?_
  unfold qmq at h
  rw[List.any_eq_false] at h
  have:=h y (List.mem_of_getElem? hy)
  simpa using this
 ·unfold qmq at h
  rw[List.any_eq_true] at h
  obtain⟨y,hy,h3⟩:=h
  obtain⟨k,hk⟩:=List.mem_iff_getElem?.1 hy
  obtain⟨r,g⟩:=qqT d hd _ d.length 0 (by omega) ⟨k,y,Nat.zero_le _,hk,h3⟩
  unfold zN QT
  change Option.bind (Option.bind (qX _ ((0:Nat):Int)) _) _=_
  rw[g,Option.bind_some,Sum.elim_inl,Option.bind_some,decide_eq_true (by omega)]
noncomputable def qj8 (n:qb) (s:qf) (l:List qa) (d:List Int):Bool:=if q2H n≠0 then false else if d.length≠l.length then false else if qmq n d=true then false else(q3y s l (fun j=>d.getD j (-1)) n 0).2
theorem qdx {n:qb} (hz:Szs n) (s:qf) (l:List qa) (hl:l.length≤10) (d:List Int) (hd:d.length≤100):J0 n s l d=some (qj8 n s l d):=by
 have hnd:=hz.nd
 unfold J0 qj8
 rw[qcW n hz.hg hnd hz.st,Option.bind_some,q84 n hz.hg hnd hz.st,Option.bind_some]
 by_cases hc:q2H n=0
 ·have c1:¬ (q2H n≠0):=fun q=>q hc
  have c2:¬ ((q2H n != 0)=true):=by rw[hc];decide
  rw[if_neg c1,if_neg c2]
  by_cases hq:d.length=l.length
  ·have c3:¬ (d.length≠l.length):=fun q=>q hq
   have c4:¬ ((((d.length:Nat):Int) != ((l.length:Nat):Int))=true):=by rw[hq];simp
   rw[if_neg c3,if_neg c4,qgn n d hd,Option.bind_some]
   cases ho:qmq n d
   ·rw[if_neg (by decide),if_neg (by decide)]
    change Option.bind (q0b (n,s,l,d,((0:Nat):Int))) _=_
    rw[qga s l (by omega) d hq n 0 hz.st (by omega),Option.bind_some]
   ·rw[if_pos rfl,if_pos rfl]
  ·have c4:(((d.length:Nat):Int) != ((l.length:Nat):Int))=true:=by rw[bne_iff_ne];omega
   rw[if_pos c4,if_pos hq]
 ·have c2:(q2H n != 0)=true:=by simpa using hc
  rw[if_pos c2,if_pos hc]
end Go.Proofs.YtgejdfnidjnjcaaGreat.Vc
namespace Go.Proofs.YtgejdfnidjnjcaaGreat.Vc
open Go.RowKit
set_option maxRecDepth 20000
set_option maxHeartbeats 8000000
theorem lo5:okL 5 qhJ:=zb (qh bd5) (by kernel_rfl) (by kernel_rfl)
def cx5:=JA_ @qhJ.eq_1 (JA_ @Tryz.f5.eq_1 @bd5)
theorem qEr:lbO 5 7=qt7:=Q9 (qh bd5) rfl
theorem qCM:okL 5 qt7:=zB lo5 (List.mem_of_getElem? (i:=0) (by kernel_rfl))
theorem qyF:lbO 5 15=qlS:=Q9 (qh bd5) rfl
theorem qzl:okL 5 qlS:=zB lo5 (List.mem_of_getElem? (i:=1) (by kernel_rfl))
theorem qAO:lbO 5 23=qni:=Q9 (qh bd5) rfl
theorem qxr:okL 5 qni:=zB lo5 (List.mem_of_getElem? (i:=2) (by kernel_rfl))
theorem qxM:lbO 5 30=qmn:=Q9 (qh bd5) rfl
theorem qAF:okL 5 qmn:=zB lo5 (List.mem_of_getElem? (i:=3) (by kernel_rfl))
noncomputable def Z3 (b0:qV) (b1:qb) (b2:qf) (t2:List Int) (t7:Bool) (t9:List qa) (t38:List Int) (t39:Int):(List Int×Int)→Option ((List Int×Int)⊕(List Int))|(w3,t40)=>if t40<t39 then if 0≤t40∧t40<((t38.length:Nat):Int) then Option.bind t38[Int.toNat t40]? fun(a:Int)=>Option.bind (q1E a 7) fun(a2:Int)=>if w3.length+1≤Go.maxLen∧(w3.length+1)*8≤140737488355328 then some (Sum.inl (w3++[w64 (a2-1)],w64 (t40+1))) else none else none else some (Sum.inr w3)
theorem q6Q:∀(w3:List Int) (qp qA qt:Int) (qu:List qc) (qB:List qb) (qk qn qo:Int) (zq:List qa) (qv QJ qC:Int) (zf:List qc) (q06:List qb) (zA zV zW:Int) (t2:List Int) (t7:Bool) (t9:List qa) (t38:List Int) (t39 t40:Int) (zw:Nat),zw=w3.length→XL2 evo 5 0 7 ⟨[(2,rL 1 eI t2),(4,rP 0),(7,rB t7),(8,rP 1),(9,rL 8 qd t9),(10,rP 2),(11,rO 3 1 zw),(38,rL 1 eI t38),(39,rI t39),(40,rI t40)],[(0,B.blk 35 [dI qp,dI qA,dI qt,dL 2 qe qu,dL 5 qg qB,dI qk,dI qn,dI qo,dL 8 qd zq]),(1,B.blk 30 [dI qv,dI QJ,dI qC,dL 2 qe zf,dL 5 qg q06]),(2,B.blk 32 [dI zA,dI zV,dI zW]),(3,bR 3 1 eI w3)],4,170⟩=(qX (Z3 (qV.mk (qb.mk qp qA qt qu qB) (qf.mk qk qn qo) zq) (qb.mk qv QJ qC zf q06) (qf.mk zA zV zW) t2 t7 t9 t38 t39) (w3,t40)).bind (fun(e:List Int)=>some (Go.Exit.exit 0,⟨[(2,rL 1 eI t2),(4,rP 0),(7,rB t7),(8,rP 1),(9,rL 8 qd t9),(10,rP 2),(11,rO 3 1 e.length)],[(0,B.blk 35 [dI qp,dI qA,dI qt,dL 2 qe qu,dL 5 qg qB,dI qk,dI qn,dI qo,dL 8 qd zq]),(1,B.blk 30 [dI qv,dI QJ,dI qC,dL 2 qe zf,dL 5 qg q06]),(2,B.blk 32 [dI zA,dI zV,dI zW]),(3,bR 3 1 eI e)],4,170⟩)):=
 by
 intro w3 qp qA qt qu qB qk qn qo zq qv QJ qC zf q06 zA zV zW t2 t7 t9 t38 t39 t40 zw h0
 subst h0
 revert t40;revert w3;exact q6v qEr qCM (fun e=>by exact⟨_,rfl,fun h=>by cases h⟩) fun w3 t40=>by
  have:=cx5;have:=@qt7.eq_1;have:=@q5j;have:=@Z3.eq_1;exact gA
theorem q5e:∀  (qp qA qt:Int) (qu:List qc) (qB:List qb) (qk qn qo:Int) (zq:List qa) (qv QJ qC:Int) (zf:List qc) (q06:List qb) (zA zV zW:Int) (t2:List Int) (t7:Bool) (t9:List qa) (t38:List Int) (t39 t40:Int),XL2 evo 5 0 7 ⟨[(2,rL 1 eI t2),(4,rP 0),(7,rB t7),(8,rP 1),(9,rL 8 qd t9),(10,rP 2),(11,rO 3 1 0),(38,rL 1 eI t38),(39,rI t39),(40,rI t40)],[(0,B.blk 35 [dI qp,dI qA,dI qt,dL 2 qe qu,dL 5 qg qB,dI qk,dI qn,dI qo,dL 8 qd zq]),(1,B.blk 30 [dI qv,dI QJ,dI qC,dL 2 qe zf,dL 5 qg q06]),(2,B.blk 32 [dI zA,dI zV,dI zW]),(3,B.row 3 1 [])],4,170⟩=(qX (Z3 (qV.mk (qb.mk qp qA qt qu qB) (qf.mk qk qn qo) zq) (qb.mk qv QJ qC zf q06) (qf.mk zA zV zW) t2 t7 t9 t38 t39) ([],t40)).bind (fun(e:List Int)=>some (Go.Exit.exit 0,⟨[(2,rL 1 eI t2),(4,rP 0),(7,rB t7),(8,rP 1),(9,rL 8 qd t9),(10,rP 2),(11,rO 3 1 e.length)],[(0,B.blk 35 [dI qp,dI qA,dI qt,dL 2 qe qu,dL 5 qg qB,dI qk,dI qn,dI qo,dL 8 qd zq]),(1,B.blk 30 [dI qv,dI QJ,dI qC,dL 2 qe zf,dL 5 qg q06]),(2,B.blk 32 [dI zA,dI zV,dI zW]),(3,bR 3 1 eI e)],4,170⟩)):=by
 intro qp qA qt qu qB qk qn qo zq qv QJ qC zf q06 zA zV zW t2 t7 t9 t38 t39 t40;have h:=q6Q [] ((qV.mk (qb.mk qp qA qt qu qB) (qf.mk qk qn qo) zq)).Need.Kind ((qV.mk (qb.mk qp qA qt qu qB) (qf.mk qk qn qo) zq)).Need.N ((qV.mk (qb.mk qp qA qt qu qB) (qf.mk qk qn qo) zq)).Need.Min ((qV.mk (qb.mk qp qA qt qu qB) (qf.mk qk qn qo) zq)).Need.Set ((qV.mk (qb.mk qp qA qt qu qB) (qf.mk qk qn qo) zq)).Need.L ((qV.mk (qb.mk qp qA qt qu qB) (qf.mk qk qn qo) zq)).Scale.Worst ((qV.mk (qb.mk qp qA qt qu qB) (qf.mk qk qn qo) zq)).Scale.Best ((qV.mk (qb.mk qp qA qt qu qB) (qf.mk qk qn qo) zq)).Scale.Pass ((qV.mk (qb.mk qp qA qt qu qB) (qf.mk qk qn qo) zq)).L ((qb.mk qv QJ qC zf q06)).Kind ((qb.mk qv QJ qC zf q06)).N ((qb.mk qv QJ qC zf q06)).Min ((qb.mk qv QJ qC zf q06)).Set ((qb.mk qv QJ qC zf q06)).L ((qf.mk zA zV zW)).Worst ((qf.mk zA zV zW)).Best ((qf.mk zA zV zW)).Pass t2 t7 t9 t38 t39 t40 _ rfl
 first
  | exact h
  | (simp only[rL,dL,bR,bZ,Nat.reduceAdd] at h;exact h)
theorem qIO:okL 22 qmG:=zb (qh qDD) (by kernel_rfl) (by kernel_rfl)
def qJx:=JA_ @qmG.eq_1 (JA_ @Tryz.f22.eq_1 @qDD)
noncomputable def q1d (n:qb) (l:List qa) (set0:Int):Option (List Int):=Option.bind (q0j n (qN 1) l set0) fun(a:Prod (List Int) Bool)=>some a.1
theorem q92:∀(qi n_N qs:Int) (qx:List qc) (n_L:List qb) (l:List qa) (set0:Int),ev 22 0 [R.agg [dI qi,dI n_N,dI qs,dL 2 qe qx,dL 5 qg n_L],rL 8 qd l,rI set0] []=(q1d (qb.mk qi n_N qs qx n_L) l set0).bind (fun(e:List Int)=>some (rL 1 eI e,[])):=
 fun qi n_N qs qx n_L l set0=>by
  rw[zc qDD qFw.2.2.2 qIO]
  have:=qJx;have:=@q4d;have:=@qb5;have:=@q1d.eq_1;exact gA
theorem qFm:okL 21 qiH:=zb (qh qBa) (by kernel_rfl) (by kernel_rfl)
def qFI:=JA_ @qiH.eq_1 (JA_ @Tryz.f21.eq_1 @qBa)
theorem qxE:lbO 21 4=qkR:=Q9 (qh qBa) rfl
theorem qzA:okL 21 qkR:=zB qFm (List.mem_of_getElem? (i:=0) (by kernel_rfl))
noncomputable def Zc (set0:Int) (leaf:List Int) (t11:Int):(List Int×Int×Int)→Option ((List Int×Int×Int)⊕(List Int))|(out,k,t12)=>if t12<t11 then if 0≤t12 then if(JH Go.BinOp.and Go.IntKind.i64 (Int.fdiv set0 (2 ^ min (Int.toNat t12) (Go.IntKind.bits Go.IntKind.i64))) 1==0)=Bool.true then if out.length+1≤Go.maxLen∧(out.length+1)*8≤140737488355328 then some (Sum.inl (out++[(-1)],k,w64 (t12+1))) else none else if k<((leaf.length:Nat):Int) then if 0≤k∧k<((leaf.length:Nat):Int) then Option.bind leaf[Int.toNat k]? fun(a:Int)=>if out.length+1≤Go.maxLen∧(out.length+1)*8≤140737488355328 then some (Sum.inl (out++[a],w64 (k+1),w64 (t12+1))) else none else none else if out.length+1≤Go.maxLen∧(out.length+1)*8≤140737488355328 then some (Sum.inl (out++[(-2)],k,w64 (t12+1))) else none else none else some (Sum.inr out)
theorem q8x:∀(out:List Int) (set0:Int) (leaf:List Int) (k t11 t12:Int) (QE:Nat),QE=out.length→XL2 evo 21 0 4 ⟨[(1,rI set0),(2,rL 1 eI leaf),(7,rO 0 1 QE),(8,rI k),(11,rI t11),(12,rI t12)],[(0,bR 3 1 eI out)],1,43⟩=(qX (Zc set0 leaf t11) (out,k,t12)).bind (fun(e:List Int)=>some (Go.Exit.exit 0,⟨[(7,rO 0 1 e.length)],[(0,bR 3 1 eI e)],1,43⟩)):=
 by
 intro out set0 leaf k t11 t12 QE h0
 subst h0
 revert t12;revert k;revert out;exact qEu qxE qzA (fun e=>by exact⟨_,rfl,fun h=>by cases h⟩) fun out k t12=>by
  have:=qFI;have:=@qkR.eq_1;have:=@Zc.eq_1;exact gA
theorem q61:∀  (set0:Int) (leaf:List Int) (k t11 t12:Int),XL2 evo 21 0 4 ⟨[(1,rI set0),(2,rL 1 eI leaf),(7,rO 0 1 0),(8,rI k),(11,rI t11),(12,rI t12)],[(0,B.row 3 1 [])],1,43⟩=(qX (Zc set0 leaf t11) ([],k,t12)).bind (fun(e:List Int)=>some (Go.Exit.exit 0,⟨[(7,rO 0 1 e.length)],[(0,bR 3 1 eI e)],1,43⟩)):=by
 intro set0 leaf k t11 t12;have h:=q8x [] set0 leaf k t11 t12 _ rfl
 first
  | exact h
  | (simp only[rL,dL,bR,bZ,Nat.reduceAdd] at h;exact h)
noncomputable def q2s (l:List qa) (set0:Int) (leaf:List Int):Option (List Int):=Option.bind (qX (Zc set0 leaf ((l.length:Nat):Int)) ([],(0,0))) fun(a:List Int)=>some a
theorem qaO:∀(l:List qa) (set0:Int) (leaf:List Int),ev 21 0 [rL 8 qd l,rI set0,rL 1 eI leaf] []=(q2s l set0 leaf).bind (fun(e:List Int)=>some (rL 1 eI e,[])):=
 fun l set0 leaf=>by
  rw[zc qBa qFJ.2.2.2 qFm]
  have:=qFI;have:=@q61;have:=@q2s.eq_1;exact gA
theorem qG6:okL 24 qjE:=zb (qh qBB) (by kernel_rfl) (by kernel_rfl)
def qF8:=JA_ @qjE.eq_1 (JA_ @Tryz.f24.eq_1 @qBB)
theorem qvW:lbO 24 5=qnO:=Q9 (qh qBB) rfl
theorem qxd:okL 24 qnO:=zB qG6 (List.mem_of_getElem? (i:=0) (by kernel_rfl))
noncomputable def JW (n:qb) (s:qf) (l:List qa) (leaf:List Int) (leaves:Int):Int→Option (Int⊕(Unit⊕Unit))|k=>if k<((leaf.length:Nat):Int) then if 0≤k∧k<((leaf.length:Nat):Int) then Option.bind leaf[Int.toNat k]? fun(a:Int)=>if a<(-1) then some (Sum.inr (Sum.inl ())) else if 0≤k∧k<((leaf.length:Nat):Int) then Option.bind leaf[Int.toNat k]? fun(a2:Int)=>if leaves≤a2 then some (Sum.inr (Sum.inl ())) else some (Sum.inl (w64 (k+1))) else none else none else some (Sum.inr (Sum.inr ()))
theorem q95:∀(qi n_N qs:Int) (qx:List qc) (n_L:List qb) (qz qO qP:Int) (l:List qa) (leaf:List Int) (leaves k:Int),XL2 evo 24 0 5 ⟨[(2,rL 8 qd l),(3,rL 1 eI leaf),(4,rP 0),(5,rP 1),(9,rI leaves),(10,rI k)],[(0,B.blk 30 [dI qi,dI n_N,dI qs,dL 2 qe qx,dL 5 qg n_L]),(1,B.blk 32 [dI qz,dI qO,dI qP])],2,53⟩=(qX (JW (qb.mk qi n_N qs qx n_L) (qf.mk qz qO qP) l leaf leaves) k).bind (Sum.elim (fun(e:Unit)=>some (Go.Exit.ret,⟨[(2,rL 8 qd l),(3,rL 1 eI leaf),(4,rP 0),(5,rP 1),(8,rB Bool.false)],[(0,B.blk 30 [dI qi,dI n_N,dI qs,dL 2 qe qx,dL 5 qg n_L]),(1,B.blk 32 [dI qz,dI qO,dI qP])],2,53⟩)) (fun(e:Unit)=>some (Go.Exit.exit 0,⟨[(2,rL 8 qd l),(3,rL 1 eI leaf),(4,rP 0),(5,rP 1),(8,R.any)],[(0,B.blk 30 [dI qi,dI n_N,dI qs,dL 2 qe qx,dL 5 qg n_L]),(1,B.blk 32 [dI qz,dI qO,dI qP])],2,53⟩))):=
 fun qi n_N qs qx n_L qz qO qP l leaf leaves k=>by
  revert k;exact qaQ qvW qxd (fun e=>by rcases e with _|_<;>exact⟨_,rfl,fun h=>by cases h⟩) fun x=>by
   have:=qF8;have:=@qnO.eq_1;have:=@JW.eq_1;exact gA
theorem qCF:okL 51 qgV:=zb (qh qwr) (by kernel_rfl) (by kernel_rfl)
def qCt:=JA_ @qgV.eq_1 (JA_ @Tryz.f51.eq_1 @qwr)
theorem qAa:lbO 51 6=qnK:=Q9 (qh qwr) rfl
theorem qzx:okL 51 qnK:=zB qCF (List.mem_of_getElem? (i:=0) (by kernel_rfl))
theorem qtZ:lbO 51 20=qhD:=Q9 (qh qwr) rfl
theorem qtP:okL 51 qhD:=zB qCF (List.mem_of_getElem? (i:=1) (by kernel_rfl))
noncomputable def Q4 (x:(qb×qy)):List R×List (Nat×B):=([R.c (C.ptr 0 0),R.agg [C.d (D.int .i64 x.1.Kind),C.d (D.int .i64 x.1.N),C.d (D.int .i64 x.1.Min),C.d (D.sl 2 x.1.Set.length (x.1.Set.flatMap qe)),C.d (D.sl 5 x.1.L.length (x.1.L.flatMap qg))]],[(0,B.blk 98 [C.d (D.int .i64 x.2.S.Worst),C.d (D.int .i64 x.2.S.Best),C.d (D.int .i64 x.2.S.Pass),C.d (D.sl 8 x.2.L.length (x.2.L.flatMap qd)),C.d (D.sl 1 x.2.Leaf.length (x.2.Leaf.flatMap eI)),C.d (D.int .i64 x.2.Next)])])
noncomputable def Qn:(z7×qy)→R×List (Nat×B):=fun(e:z7×qy)=>(R.agg [C.d (D.bool e.1.Empty),C.d (D.bool e.1.Met)],[(0,B.blk 98 [C.d (D.int .i64 e.2.S.Worst),C.d (D.int .i64 e.2.S.Best),C.d (D.int .i64 e.2.S.Pass),C.d (D.sl 8 e.2.L.length (e.2.L.flatMap qd)),C.d (D.sl 1 e.2.Leaf.length (e.2.Leaf.flatMap eI)),C.d (D.int .i64 e.2.Next)])])
noncomputable def Qa (rF:(qb×qy)→Option (z7×qy)) (b0:qy) (b1:qb) (b2:z7):(Int×Int×Bool×Int)→Option ((Int×Int×Bool×Int)⊕(Int×Int×Bool))|(t5,t6,t7,t8)=>if t8<((b0.L.length:Nat):Int) then if 0≤t8∧t8<((b0.Leaf.length:Nat):Int) then Option.bind b0.Leaf[Int.toNat t8]? fun(a2:Int)=>if(a2==b0.Next)=Bool.true then if 0≤t8∧t8<((b0.L.length:Nat):Int) then Option.bind b0.L[Int.toNat t8]? fun(a3:qa)=>if t7=Bool.true then if 0≤t8∧t8<((b0.L.length:Nat):Int) then Option.bind b0.L[Int.toNat t8]? fun(a4:qa)=>Option.bind (q1M b1 b0.S a4) fun(a5:Bool)=>some (Sum.inl (w64 (t5+1),w64 (t6+a3.Credits),a5,w64 (t8+1))) else none else some (Sum.inl (w64 (t5+1),w64 (t6+a3.Credits),Bool.false,w64 (t8+1))) else none else some (Sum.inl (t5,t6,t7,w64 (t8+1))) else none else some (Sum.inr (t5,t6,t7))
theorem q4A (rE:Orc) (rF:(qb×qy)→Option (z7×qy)) (hF:∀y,rE (.fn 51) 1 (Q4 y).1 (Q4 y).2=(rF y).bind fun e=>some (Qn e)) (hM:∀g k a G,g≠51→rE (.fn g) k a G=ev g k a G) (hR:∀g asg bd k a G,rE (.rd g asg bd) k a G=evr g asg bd k a G):∀(qm qq qr:Int) (zq:List qa) (qD:List Int) (q6s qv QJ qC:Int) (zf:List qc) (q06:List qb) (q2A q6H:Bool) (t5 t6:Int) (t7:Bool) (t8:Int),XL2 rE 51 1 6 ⟨[(0,rP 0),(3,rP 1),(4,rP 2),(5,rI t5),(6,rI t6),(7,rB t7),(8,rI t8)],[(0,B.blk 98 [dI qm,dI qq,dI qr,dL 8 qd zq,dL 1 eI qD,dI q6s]),(1,B.blk 30 [dI qv,dI QJ,dI qC,dL 2 qe zf,dL 5 qg q06]),(2,B.blk 100 [dB q2A,dB q6H])],3,147⟩=(qX (Qa rF (qy.mk (qf.mk qm qq qr) zq qD q6s) (qb.mk qv QJ qC zf q06) (z7.mk q2A q6H)) (t5,t6,t7,t8)).bind (fun(e:Int×Int×Bool)=>some (Go.Exit.exit 0,⟨[(0,rP 0),(3,rP 1),(4,rP 2),(5,rI e.1),(6,rI e.2.1),(7,rB e.2.2)],[(0,B.blk 98 [dI qm,dI qq,dI qr,dL 8 qd zq,dL 1 eI qD,dI q6s]),(1,B.blk 30 [dI qv,dI QJ,dI qC,dL 2 qe zf,dL 5 qg q06]),(2,B.blk 100 [dB q2A,dB q6H])],3,147⟩)):=
 fun qm qq qr zq qD q6s qv QJ qC zf q06 q2A q6H t5 t6 t7 t8=>by
  revert t8;revert t7;revert t6;revert t5;exact qAK qAa qzx (fun e=>by exact⟨_,rfl,fun h=>by cases h⟩) fun t5 t6 t7 t8=>by
   have hF':∀(qI q03 zd:Int) (ze:List qc) (JB:List qb) (J8 q0f q0g:Int) (v_L:List qa) (q3g:List Int) (q3h:Int),rE (.fn 51) 1 [rP 0,R.agg [dI qI,dI q03,dI zd,dL 2 qe ze,dL 5 qg JB]] [(0,B.blk 98 [dI J8,dI q0f,dI q0g,dL 8 qd v_L,dL 1 eI q3g,dI q3h])]=(rF ((qb.mk qI q03 zd ze JB),(qy.mk (qf.mk J8 q0f q0g) v_L q3g q3h))).bind (fun e=>some (R.agg [dB e.1.Empty,dB e.1.Met],[(0,B.blk 98 [dI e.2.S.Worst,dI e.2.S.Best,dI e.2.S.Pass,dL 8 qd e.2.L,dL 1 eI e.2.Leaf,dI e.2.Next])])):=fun qI q03 zd ze JB J8 q0f q0g v_L q3g q3h=>hF ((qb.mk qI q03 zd ze JB),(qy.mk (qf.mk J8 q0f q0g) v_L q3g q3h))
   have:=qCt;have:=@qnK.eq_1;have:=@q4q;have:=@Qa.eq_1;exact gA
noncomputable def QB (rF:(qb×qy)→Option (z7×qy)) (b1:qb) (b2:z7):(qy×Bool×Int×Bool×Int)→Option ((qy×Bool×Int×Bool×Int)⊕(qy×Bool×Int×Bool))|(b0,t9,t10,t11,t12)=>if t12<((b1.L.length:Nat):Int) then if 0≤t12∧t12<((b1.L.length:Nat):Int) then Option.bind b1.L[Int.toNat t12]? fun(a2:qb)=>Option.bind (rF (a2,b0)) fun(a3:Prod z7 qy)=>if t9=Bool.true then if a3.1.Met=Bool.true then some (Sum.inl (a3.2,a3.1.Empty,w64 (t10+1),t11,w64 (t12+1))) else if t11=Bool.true then some (Sum.inl (a3.2,a3.1.Empty,t10,Bool.true,w64 (t12+1))) else if(!a3.1.Empty)=Bool.true then some (Sum.inl (a3.2,a3.1.Empty,t10,Bool.true,w64 (t12+1))) else some (Sum.inl (a3.2,a3.1.Empty,t10,b1.Kind==3,w64 (t12+1))) else if a3.1.Met=Bool.true then some (Sum.inl (a3.2,Bool.false,w64 (t10+1),t11,w64 (t12+1))) else if t11=Bool.true then some (Sum.inl (a3.2,Bool.false,t10,Bool.true,w64 (t12+1))) else if(!a3.1.Empty)=Bool.true then some (Sum.inl (a3.2,Bool.false,t10,Bool.true,w64 (t12+1))) else some (Sum.inl (a3.2,Bool.false,t10,b1.Kind==3,w64 (t12+1))) else none else some (Sum.inr (b0,t9,t10,t11))
theorem q4P (rE:Orc) (rF:(qb×qy)→Option (z7×qy)) (hF:∀y,rE (.fn 51) 1 (Q4 y).1 (Q4 y).2=(rF y).bind fun e=>some (Qn e)) (hM:∀g k a G,g≠51→rE (.fn g) k a G=ev g k a G) (hR:∀g asg bd k a G,rE (.rd g asg bd) k a G=evr g asg bd k a G):∀(qm qq qr:Int) (zq:List qa) (qD:List Int) (q6s qv QJ qC:Int) (zf:List qc) (q06:List qb) (q2A q6H t9:Bool) (t10:Int) (t11:Bool) (t12:Int),XL2 rE 51 1 20 ⟨[(0,rP 0),(3,rP 1),(4,rP 2),(9,rB t9),(10,rI t10),(11,rB t11),(12,rI t12)],[(0,B.blk 98 [dI qm,dI qq,dI qr,dL 8 qd zq,dL 1 eI qD,dI q6s]),(1,B.blk 30 [dI qv,dI QJ,dI qC,dL 2 qe zf,dL 5 qg q06]),(2,B.blk 100 [dB q2A,dB q6H])],3,147⟩=(qX (QB rF (qb.mk qv QJ qC zf q06) (z7.mk q2A q6H)) ((qy.mk (qf.mk qm qq qr) zq qD q6s),t9,t10,t11,t12)).bind (fun(e:qy×Bool×Int×Bool)=>some (Go.Exit.exit 2,⟨[(3,rP 1),(4,rP 2),(9,rB e.2.1),(10,rI e.2.2.1),(11,rB e.2.2.2)],[(0,B.blk 98 [dI e.1.S.Worst,dI e.1.S.Best,dI e.1.S.Pass,dL 8 qd e.1.L,dL 1 eI e.1.Leaf,dI e.1.Next]),(1,B.blk 30 [dI qv,dI QJ,dI qC,dL 2 qe zf,dL 5 qg q06]),(2,B.blk 100 [dB q2A,dB q6H])],3,147⟩)):=
 fun qm qq qr zq qD q6s qv QJ qC zf q06 q2A q6H t9 t10 t11 t12=>by
  have h:=q3T (E:=rE) (f:=51) (k:=1) (st:=fun x:qy×Bool×Int×Bool×Int=>(⟨[(0,rP 0),(3,rP 1),(4,rP 2),(9,rB x.2.1),(10,rI x.2.2.1),(11,rB x.2.2.2.1),(12,rI x.2.2.2.2)],[(0,B.blk 98 [dI x.1.S.Worst,dI x.1.S.Best,dI x.1.S.Pass,dL 8 qd x.1.L,dL 1 eI x.1.Leaf,dI x.1.Next]),(1,B.blk 30 [dI qv,dI QJ,dI qC,dL 2 qe zf,dL 5 qg q06]),(2,B.blk 100 [dB q2A,dB q6H])],3,147⟩:S)) (ex:=fun(e:qy×Bool×Int×Bool)=>(Go.Exit.exit 2,⟨[(3,rP 1),(4,rP 2),(9,rB e.2.1),(10,rI e.2.2.1),(11,rB e.2.2.2)],[(0,B.blk 98 [dI e.1.S.Worst,dI e.1.S.Best,dI e.1.S.Pass,dL 8 qd e.1.L,dL 1 eI e.1.Leaf,dI e.1.Next]),(1,B.blk 30 [dI qv,dI QJ,dI qC,dL 2 qe zf,dL 5 qg q06]),(2,B.blk 100 [dB q2A,dB q6H])],3,147⟩)) (step:=(QB rF (qb.mk qv QJ qC zf q06) (z7.mk q2A q6H))) qtZ qtP (fun e h=>by cases h) (fun x=>by
   obtain⟨b0,t9,t10,t11,t12⟩:=x;have hF':∀(qI q03 zd:Int) (ze:List qc) (JB:List qb) (J8 q0f q0g:Int) (v_L:List qa) (q3g:List Int) (q3h:Int),rE (.fn 51) 1 [rP 0,R.agg [dI qI,dI q03,dI zd,dL 2 qe ze,dL 5 qg JB]] [(0,B.blk 98 [dI J8,dI q0f,dI q0g,dL 8 qd v_L,dL 1 eI q3g,dI q3h])]=(rF ((qb.mk qI q03 zd ze JB),(qy.mk (qf.mk J8 q0f q0g) v_L q3g q3h))).bind (fun e=>some (R.agg [dB e.1.Empty,dB e.1.Met],[(0,B.blk 98 [dI e.2.S.Worst,dI e.2.S.Best,dI e.2.S.Pass,dL 8 qd e.2.L,dL 1 eI e.2.Leaf,dI e.2.Next])])):=fun qI q03 zd ze JB J8 q0f q0g v_L q3g q3h=>hF ((qb.mk qI q03 zd ze JB),(qy.mk (qf.mk J8 q0f q0g) v_L q3g q3h))
   have:=qCt;have:=@qhD.eq_1;have:=@QB.eq_1;exact gA) ((qy.mk (qf.mk qm qq qr) zq qD q6s),t9,t10,t11,t12)
  exact h
noncomputable def JG (rF:(qb×qy)→Option (z7×qy)):(qb×qy)→Option (z7×qy)|(x1,v)=>if(x1.Kind==1)=Bool.true then Option.bind (qX (Qa rF v x1 (z7.mk Bool.false Bool.false)) (0,(0,(Bool.true,0)))) fun(a2:Prod Int (Prod Int Bool))=>if(x1.Kind==1)=Bool.true then if a2.2.2=Bool.true then some (z7.mk (a2.1==0) (a2.1==1),qy.mk v.S v.L v.Leaf (w64 (v.Next+1))) else some (z7.mk (a2.1==0) Bool.false,qy.mk v.S v.L v.Leaf (w64 (v.Next+1))) else if a2.2.2=Bool.true then if 0<a2.1 then some (z7.mk (a2.1==0) (decide (x1.N≤a2.2.1)),qy.mk v.S v.L v.Leaf (w64 (v.Next+1))) else some (z7.mk (a2.1==0) Bool.false,qy.mk v.S v.L v.Leaf (w64 (v.Next+1))) else some (z7.mk (a2.1==0) Bool.false,qy.mk v.S v.L v.Leaf (w64 (v.Next+1))) else if(x1.Kind==2)=Bool.true then Option.bind (qX (Qa rF v x1 (z7.mk Bool.false Bool.false)) (0,(0,(Bool.true,0)))) fun(a3:Prod Int (Prod Int Bool))=>if(x1.Kind==1)=Bool.true then if a3.2.2=Bool.true then some (z7.mk (a3.1==0) (a3.1==1),qy.mk v.S v.L v.Leaf (w64 (v.Next+1))) else some (z7.mk (a3.1==0) Bool.false,qy.mk v.S v.L v.Leaf (w64 (v.Next+1))) else if a3.2.2=Bool.true then if 0<a3.1 then some (z7.mk (a3.1==0) (decide (x1.N≤a3.2.1)),qy.mk v.S v.L v.Leaf (w64 (v.Next+1))) else some (z7.mk (a3.1==0) Bool.false,qy.mk v.S v.L v.Leaf (w64 (v.Next+1))) else some (z7.mk (a3.1==0) Bool.false,qy.mk v.S v.L v.Leaf (w64 (v.Next+1))) else Option.bind (qX (QB rF x1 (z7.mk Bool.false Bool.false)) (v,(Bool.true,(0,(Bool.false,0))))) fun(a4:Prod qy (Prod Bool (Prod Int Bool)))=>if(!a4.2.2.2)=Bool.true then some (z7.mk a4.2.1 (decide (x1.N≤a4.2.2.1)),a4.1) else some (z7.mk a4.2.1 Bool.false,a4.1)
theorem q3o:q4u 51 1 Q4 Qn JG:=by
 intro rE rF hF hM hR x
 obtain⟨x1,v⟩:=x
 show q78 rE 51 1 [rP 0,R.agg [dI x1.Kind,dI x1.N,dI x1.Min,dL 2 qe x1.Set,dL 5 qg x1.L]] [(0,B.blk 98 [dI v.S.Worst,dI v.S.Best,dI v.S.Pass,dL 8 qd v.L,dL 1 eI v.Leaf,dI v.Next])]=_
 have hF':∀(qI q03 zd:Int) (ze:List qc) (JB:List qb) (J8 q0f q0g:Int) (v_L:List qa) (q3g:List Int) (q3h:Int),rE (.fn 51) 1 [rP 0,R.agg [dI qI,dI q03,dI zd,dL 2 qe ze,dL 5 qg JB]] [(0,B.blk 98 [dI J8,dI q0f,dI q0g,dL 8 qd v_L,dL 1 eI q3g,dI q3h])]=(rF ((qb.mk qI q03 zd ze JB),(qy.mk (qf.mk J8 q0f q0g) v_L q3g q3h))).bind (fun e=>some (R.agg [dB e.1.Empty,dB e.1.Met],[(0,B.blk 98 [dI e.2.S.Worst,dI e.2.S.Best,dI e.2.S.Pass,dL 8 qd e.2.L,dL 1 eI e.2.Leaf,dI e.2.Next])])):=fun qI q03 zd ze JB J8 q0f q0g v_L q3g q3h=>hF ((qb.mk qI q03 zd ze JB),(qy.mk (qf.mk J8 q0f q0g) v_L q3g q3h))
 rw[q1R qwr qCF]
 have:=qCt;have:=q4A rE rF hF hM hR;have:=q4P rE rF hF hM hR;have:=@JG.eq_1;have:=@Qn.eq_1;exact gA
theorem q2f:∀x y,Q4 x=Q4 y→x=y:=by
 rintro⟨⟨qoU,qoV,qr5,qr6,qr7⟩,⟨⟨qAV,qAW,qAX⟩,qBP,qF6,qKI⟩⟩ ⟨⟨qoW,qoX,qr8,qr9,qra⟩,⟨⟨qAY,qAZ,qB0⟩,qBQ,qF7,qKJ⟩⟩ h
 simp only[Q4,Prod.mk.injEq,List.cons.injEq,R.c.injEq,R.agg.injEq,R.tup.injEq,C.d.injEq,C.own.injEq,C.ptr.injEq,C.eptr.injEq,D.int.injEq,D.bool.injEq,D.str.injEq,D.sl.injEq,B.blk.injEq,B.row.injEq,ZR,q0x,Je,Jm,q01,JX,JY,q1b,JV,q16,q18,ZS,true_and,and_true,List.nil_append] at h
 simp only[h]
theorem q5p:∀x y,Qn x=Qn y→x=y:=by
 rintro⟨⟨qoU,qoV⟩,⟨⟨qAV,qAW,qAX⟩,qBP,qF6,qKI⟩⟩ ⟨⟨qoW,qoX⟩,⟨⟨qAY,qAZ,qB0⟩,qBQ,qF7,qKJ⟩⟩ h
 simp only[Qn,Prod.mk.injEq,List.cons.injEq,R.c.injEq,R.agg.injEq,R.tup.injEq,C.d.injEq,C.own.injEq,C.ptr.injEq,C.eptr.injEq,D.int.injEq,D.bool.injEq,D.str.injEq,D.sl.injEq,B.blk.injEq,B.row.injEq,ZR,q0x,Je,Jm,q01,JX,JY,q1b,JV,q16,q18,ZS,true_and,and_true,List.nil_append] at h
 simp only[h]
noncomputable def QA:(qb×qy)→Option (z7×qy):=q5W 51 1 Q4 Qn
theorem q71 (x:(qb×qy)):QA x=JG QA x:=q6D qC5.2.2.2 q2f q5p q3o x
theorem q6e (x1:qb) (v:qy):ev 51 1 [rP 0,R.agg [dI x1.Kind,dI x1.N,dI x1.Min,dL 2 qe x1.Set,dL 5 qg x1.L]] [(0,B.blk 98 [dI v.S.Worst,dI v.S.Best,dI v.S.Pass,dL 8 qd v.L,dL 1 eI v.Leaf,dI v.Next])]=(QA (x1,v)).bind (fun(e:z7×qy)=>some (R.agg [dB e.1.Empty,dB e.1.Met],[(0,B.blk 98 [dI e.2.S.Worst,dI e.2.S.Best,dI e.2.S.Pass,dL 8 qd e.2.L,dL 1 eI e.2.Leaf,dI e.2.Next])])):=(q56 qC5.2.2.2 q2f q3o (x1,v))
theorem q6V:∀(qI q03 zd:Int) (ze:List qc) (JB:List qb) (J8 q0f q0g:Int) (v_L:List qa) (q3g:List Int) (q3h:Int),ev 51 1 [rP 0,R.agg [dI qI,dI q03,dI zd,dL 2 qe ze,dL 5 qg JB]] [(0,B.blk 98 [dI J8,dI q0f,dI q0g,dL 8 qd v_L,dL 1 eI q3g,dI q3h])]=(QA ((qb.mk qI q03 zd ze JB),(qy.mk (qf.mk J8 q0f q0g) v_L q3g q3h))).bind (fun(e:z7×qy)=>some (R.agg [dB e.1.Empty,dB e.1.Met],[(0,B.blk 98 [dI e.2.S.Worst,dI e.2.S.Best,dI e.2.S.Pass,dL 8 qd e.2.L,dL 1 eI e.2.Leaf,dI e.2.Next])])):=
 fun qI q03 zd ze JB J8 q0f q0g v_L q3g q3h=>q6e (qb.mk qI q03 zd ze JB) (qy.mk (qf.mk J8 q0f q0g) v_L q3g q3h)
noncomputable def q14 (n:qb) (s:qf) (l:List qa) (leaf:List Int):Option Bool:=Option.bind (q1U n) fun(a:Int)=>if(a != 0)=Bool.true then some Bool.false else if(((leaf.length:Nat):Int) != ((l.length:Nat):Int))=Bool.true then some Bool.false else Option.bind (q0F n) fun(a2:List qb)=>Option.bind (qX (JW n s l leaf ((a2.length:Nat):Int)) 0) fun(a3:Sum Unit Unit)=>Sum.elim (fun(a4:Unit)=>some Bool.false) (fun(a5:Unit)=>Option.bind (QA (n,qy.mk s l leaf 0)) fun(a6:Prod z7 qy)=>some a6.1.Met) a3
theorem q6C:∀(qi n_N qs:Int) (qx:List qc) (n_L:List qb) (qz qO qP:Int) (l:List qa) (leaf:List Int),ev 24 0 [R.agg [dI qi,dI n_N,dI qs,dL 2 qe qx,dL 5 qg n_L],R.agg [dI qz,dI qO,dI qP],rL 8 qd l,rL 1 eI leaf] []=(q14 (qb.mk qi n_N qs qx n_L) (qf.mk qz qO qP) l leaf).bind (fun(e:Bool)=>some (rB e,[])):=
 fun qi n_N qs qx n_L qz qO qP l leaf=>by
  rw[zc qBB qGk.2.2.2 qG6]
  have:=qF8;have:=@q6F;have:=@q5O;have:=@q95;have:=@q6V;have:=@q14.eq_1;exact gA
noncomputable def Q2 (w3:List (List Int)) (w4:List (List Int)) (b0:qV) (b1:qb) (b2:qf) (t7:Bool) (t9:List qa) (t15:List qa) (t110:Int):Int→Option (Int⊕(Unit⊕Unit))|t111=>if t111<t110 then if 0≤t111∧t111<((w4.length:Nat):Int) then Option.bind w4[Int.toNat t111]? fun(a:List Int)=>Option.bind (J0 b1 b2 t15 a) fun(a2:Bool)=>Option.bind (q14 b1 b2 t15 a) fun(a3:Bool)=>if(!(a2==a3))=Bool.true then some (Sum.inr (Sum.inl ())) else some (Sum.inl (w64 (t111+1))) else none else some (Sum.inr (Sum.inr ()))
theorem q68:∀(w3 w4:List (List Int)) (qp qA qt:Int) (qu:List qc) (qB:List qb) (qk qn qo:Int) (zq:List qa) (qv QJ qC:Int) (zf:List qc) (q06:List qb) (zA zV zW:Int) (t7:Bool) (t9 t15:List qa) (t110 t111:Int) (zw Qj:Nat),zw=w3.length→Qj=w4.length→XL2 evo 5 0 23 ⟨[(4,rP 0),(7,rB t7),(8,rP 1),(9,rL 8 qd t9),(10,rP 2),(14,rO 3 1 zw),(15,rL 8 qd t15),(109,rO 4 1 Qj),(110,rI t110),(111,rI t111)],[(0,B.blk 35 [dI qp,dI qA,dI qt,dL 2 qe qu,dL 5 qg qB,dI qk,dI qn,dI qo,dL 8 qd zq]),(1,B.blk 30 [dI qv,dI QJ,dI qC,dL 2 qe zf,dL 5 qg q06]),(2,B.blk 32 [dI zA,dI zV,dI zW]),(3,bR 22 1 (eL 1 eI) w3),(4,bR 22 1 (eL 1 eI) w4)],5,170⟩=(qX (Q2 w3 w4 (qV.mk (qb.mk qp qA qt qu qB) (qf.mk qk qn qo) zq) (qb.mk qv QJ qC zf q06) (qf.mk zA zV zW) t7 t9 t15 t110) t111).bind (Sum.elim (fun(e:Unit)=>some (Go.Exit.ret,⟨[(4,rP 0),(6,rB Bool.false),(7,rB t7),(8,rP 1),(9,rL 8 qd t9),(10,rP 2),(14,rO 3 1 w3.length)],[(0,B.blk 35 [dI qp,dI qA,dI qt,dL 2 qe qu,dL 5 qg qB,dI qk,dI qn,dI qo,dL 8 qd zq]),(1,B.blk 30 [dI qv,dI QJ,dI qC,dL 2 qe zf,dL 5 qg q06]),(2,B.blk 32 [dI zA,dI zV,dI zW]),(3,bR 22 1 (eL 1 eI) w3)],4,170⟩)) (fun(e:Unit)=>some (Go.Exit.exit 4,⟨[(4,rP 0),(6,R.any),(7,rB t7),(8,rP 1),(9,rL 8 qd t9),(10,rP 2),(14,rO 3 1 w3.length)],[(0,B.blk 35 [dI qp,dI qA,dI qt,dL 2 qe qu,dL 5 qg qB,dI qk,dI qn,dI qo,dL 8 qd zq]),(1,B.blk 30 [dI qv,dI QJ,dI qC,dL 2 qe zf,dL 5 qg q06]),(2,B.blk 32 [dI zA,dI zV,dI zW]),(3,bR 22 1 (eL 1 eI) w3)],4,170⟩))):=
 by
 intro w3 w4 qp qA qt qu qB qk qn qo zq qv QJ qC zf q06 zA zV zW t7 t9 t15 t110 t111 zw Qj h0 h1
 subst h0 h1
 revert t111;exact qaQ qAO qxr (fun e=>by rcases e with _|_<;>exact⟨_,rfl,fun h=>by cases h⟩) fun x=>by
  have:=cx5;have:=@qni.eq_1;have:=@q5d;have:=@q6C;have:=@Q2.eq_1;exact gA
theorem q4N:∀(w40 w41:List Int) (w3:List (List Int)) (qp qA qt:Int) (qu:List qc) (qB:List qb) (qk qn qo:Int) (zq:List qa) (qv QJ qC:Int) (zf:List qc) (q06:List qb) (zA zV zW:Int) (t7:Bool) (t9 t15:List qa) (t110 t111:Int) (zw qii qij:Nat),zw=w3.length→qii=w40.length→qij=w41.length→XL2 evo 5 0 23 ⟨[(4,rP 0),(7,rB t7),(8,rP 1),(9,rL 8 qd t9),(10,rP 2),(14,rO 3 1 zw),(15,rL 8 qd t15),(109,rO 4 1 2),(110,rI t110),(111,rI t111)],[(0,B.blk 35 [dI qp,dI qA,dI qt,dL 2 qe qu,dL 5 qg qB,dI qk,dI qn,dI qo,dL 8 qd zq]),(1,B.blk 30 [dI qv,dI QJ,dI qC,dL 2 qe zf,dL 5 qg q06]),(2,B.blk 32 [dI zA,dI zV,dI zW]),(3,bR 22 1 (eL 1 eI) w3),(4,B.row 22 1 [C.d (D.sl 1 qii (w40.flatMap eI)),C.d (D.sl 1 qij (w41.flatMap eI))])],5,170⟩=(qX (Q2 w3 [w40,w41] (qV.mk (qb.mk qp qA qt qu qB) (qf.mk qk qn qo) zq) (qb.mk qv QJ qC zf q06) (qf.mk zA zV zW) t7 t9 t15 t110) t111).bind (Sum.elim (fun(e:Unit)=>some (Go.Exit.ret,⟨[(4,rP 0),(6,rB Bool.false),(7,rB t7),(8,rP 1),(9,rL 8 qd t9),(10,rP 2),(14,rO 3 1 w3.length)],[(0,B.blk 35 [dI qp,dI qA,dI qt,dL 2 qe qu,dL 5 qg qB,dI qk,dI qn,dI qo,dL 8 qd zq]),(1,B.blk 30 [dI qv,dI QJ,dI qC,dL 2 qe zf,dL 5 qg q06]),(2,B.blk 32 [dI zA,dI zV,dI zW]),(3,bR 22 1 (eL 1 eI) w3)],4,170⟩)) (fun(e:Unit)=>some (Go.Exit.exit 4,⟨[(4,rP 0),(6,R.any),(7,rB t7),(8,rP 1),(9,rL 8 qd t9),(10,rP 2),(14,rO 3 1 w3.length)],[(0,B.blk 35 [dI qp,dI qA,dI qt,dL 2 qe qu,dL 5 qg qB,dI qk,dI qn,dI qo,dL 8 qd zq]),(1,B.blk 30 [dI qv,dI QJ,dI qC,dL 2 qe zf,dL 5 qg q06]),(2,B.blk 32 [dI zA,dI zV,dI zW]),(3,bR 22 1 (eL 1 eI) w3)],4,170⟩))):=by
 intro w40 w41 w3 qp qA qt qu qB qk qn qo zq qv QJ qC zf q06 zA zV zW t7 t9 t15 t110 t111 zw qii qij h0 h1 h2;subst h0 h1 h2;have h:=q68 w3 [w40,w41] ((qV.mk (qb.mk qp qA qt qu qB) (qf.mk qk qn qo) zq)).Need.Kind ((qV.mk (qb.mk qp qA qt qu qB) (qf.mk qk qn qo) zq)).Need.N ((qV.mk (qb.mk qp qA qt qu qB) (qf.mk qk qn qo) zq)).Need.Min ((qV.mk (qb.mk qp qA qt qu qB) (qf.mk qk qn qo) zq)).Need.Set ((qV.mk (qb.mk qp qA qt qu qB) (qf.mk qk qn qo) zq)).Need.L ((qV.mk (qb.mk qp qA qt qu qB) (qf.mk qk qn qo) zq)).Scale.Worst ((qV.mk (qb.mk qp qA qt qu qB) (qf.mk qk qn qo) zq)).Scale.Best ((qV.mk (qb.mk qp qA qt qu qB) (qf.mk qk qn qo) zq)).Scale.Pass ((qV.mk (qb.mk qp qA qt qu qB) (qf.mk qk qn qo) zq)).L ((qb.mk qv QJ qC zf q06)).Kind ((qb.mk qv QJ qC zf q06)).N ((qb.mk qv QJ qC zf q06)).Min ((qb.mk qv QJ qC zf q06)).Set ((qb.mk qv QJ qC zf q06)).L ((qf.mk zA zV zW)).Worst ((qf.mk zA zV zW)).Best ((qf.mk zA zV zW)).Pass t7 t9 t15 t110 t111 _ _ rfl rfl
 first
  | exact h
  | (simp only[rL,dL,bR,bZ,Nat.reduceAdd] at h;exact h)
noncomputable def Qp (w3:List (List Int)) (b0:qV) (b1:qb) (b2:qf) (t2:List Int) (t7:Bool) (t9:List qa) (t15:List qa) (t70:List Bool) (t71:Int):Int→Option (Int⊕(Unit⊕Unit))|t72=>if t72<t71 then if 0≤t72∧t72<((t70.length:Nat):Int) then Option.bind t70[Int.toNat t72]? fun(a:Bool)=>if a=Bool.true then Option.bind (q1d b1 t15 t72) fun(a2:List Int)=>Option.bind (q2s t15 t72 a2) fun(a3:List Int)=>if a3.length≤Go.maxLen∧a3.length*8≤140737488355328 then if 0<((t2.length:Nat):Int) then if 0<((t2.length:Nat):Int) then Option.bind t2[0]? fun(a4:Int)=>Option.bind (q1E a4 ((a3.length:Nat):Int)) fun(a5:Int)=>if 0≤w64 (((t2.length:Nat):Int)-1)∧w64 (((t2.length:Nat):Int)-1)<((t2.length:Nat):Int) then Option.bind t2[Int.toNat (w64 (((t2.length:Nat):Int)-1))]? fun(a6:Int)=>Option.bind (q1E a6 7) fun(a7:Int)=>if 0≤a5∧a5<((a3.length:Nat):Int) then if Int.toNat a5+1≤a3.length then Option.bind (qX (Q2 w3 [a3,List.set a3 (Int.toNat a5) (w64 (a7-1))] b0 b1 b2 t7 t9 t15 2) 0) fun(a8:Sum Unit Unit)=>Sum.elim (fun(e0:Unit)=>some (Sum.inr (Sum.inl ()))) (fun(a9:Unit)=>some (Sum.inr (Sum.inr ()))) a8 else none else none else none else none else Option.bind (qX (Q2 w3 [a3,a3] b0 b1 b2 t7 t9 t15 2) 0) fun(a10:Sum Unit Unit)=>Sum.elim (fun(e02:Unit)=>some (Sum.inr (Sum.inl ()))) (fun(a11:Unit)=>some (Sum.inr (Sum.inr ()))) a10 else none else some (Sum.inl (w64 (t72+1))) else none else some (Sum.inr (Sum.inr ()))
theorem q6d:∀(w3:List (List Int)) (qp qA qt:Int) (qu:List qc) (qB:List qb) (qk qn qo:Int) (zq:List qa) (qv QJ qC:Int) (zf:List qc) (q06:List qb) (zA zV zW:Int) (t2:List Int) (t7:Bool) (t9 t15:List qa) (t70:List Bool) (t71 t72:Int) (zw:Nat),zw=w3.length→XL2 evo 5 0 15 ⟨[(2,rL 1 eI t2),(4,rP 0),(7,rB t7),(8,rP 1),(9,rL 8 qd t9),(10,rP 2),(14,rO 3 1 zw),(15,rL 8 qd t15),(70,rL 1 eB t70),(71,rI t71),(72,rI t72)],[(0,B.blk 35 [dI qp,dI qA,dI qt,dL 2 qe qu,dL 5 qg qB,dI qk,dI qn,dI qo,dL 8 qd zq]),(1,B.blk 30 [dI qv,dI QJ,dI qC,dL 2 qe zf,dL 5 qg q06]),(2,B.blk 32 [dI zA,dI zV,dI zW]),(3,bR 22 1 (eL 1 eI) w3)],4,170⟩=(qX (Qp w3 (qV.mk (qb.mk qp qA qt qu qB) (qf.mk qk qn qo) zq) (qb.mk qv QJ qC zf q06) (qf.mk zA zV zW) t2 t7 t9 t15 t70 t71) t72).bind (Sum.elim (fun(e:Unit)=>some (Go.Exit.ret,⟨[(4,rP 0),(6,rB Bool.false),(7,rB t7),(8,rP 1),(9,rL 8 qd t9),(10,rP 2),(14,rO 3 1 w3.length)],[(0,B.blk 35 [dI qp,dI qA,dI qt,dL 2 qe qu,dL 5 qg qB,dI qk,dI qn,dI qo,dL 8 qd zq]),(1,B.blk 30 [dI qv,dI QJ,dI qC,dL 2 qe zf,dL 5 qg q06]),(2,B.blk 32 [dI zA,dI zV,dI zW]),(3,bR 22 1 (eL 1 eI) w3)],4,170⟩)) (fun(e:Unit)=>some (Go.Exit.exit 2,⟨[(4,rP 0),(6,R.any),(7,rB t7),(8,rP 1),(9,rL 8 qd t9),(10,rP 2),(14,rO 3 1 w3.length)],[(0,B.blk 35 [dI qp,dI qA,dI qt,dL 2 qe qu,dL 5 qg qB,dI qk,dI qn,dI qo,dL 8 qd zq]),(1,B.blk 30 [dI qv,dI QJ,dI qC,dL 2 qe zf,dL 5 qg q06]),(2,B.blk 32 [dI zA,dI zV,dI zW]),(3,bR 22 1 (eL 1 eI) w3)],4,170⟩))):=
 by
 intro w3 qp qA qt qu qB qk qn qo zq qv QJ qC zf q06 zA zV zW t2 t7 t9 t15 t70 t71 t72 zw h0
 subst h0
 revert t72;exact qaQ qyF qzl (fun e=>by rcases e with _|_<;>exact⟨_,rfl,fun h=>by cases h⟩) fun x=>by
  have:=cx5;have:=@qlS.eq_1;have:=@q92;have:=@qaO;have:=@q5j;have:=@q4N;have:=@Qp.eq_1;exact gA
theorem q4I:∀(w30 w31 w32:List Int) (qp qA qt:Int) (qu:List qc) (qB:List qb) (qk qn qo:Int) (zq:List qa) (qv QJ qC:Int) (zf:List qc) (q06:List qb) (zA zV zW:Int) (t2:List Int) (t7:Bool) (t9 t15:List qa) (t70:List Bool) (t71 t72:Int) (q9r q9s q9t:Nat),q9r=w30.length→q9s=w31.length→q9t=w32.length→XL2 evo 5 0 15 ⟨[(2,rL 1 eI t2),(4,rP 0),(7,rB t7),(8,rP 1),(9,rL 8 qd t9),(10,rP 2),(14,rO 3 1 3),(15,rL 8 qd t15),(70,rL 1 eB t70),(71,rI t71),(72,rI t72)],[(0,B.blk 35 [dI qp,dI qA,dI qt,dL 2 qe qu,dL 5 qg qB,dI qk,dI qn,dI qo,dL 8 qd zq]),(1,B.blk 30 [dI qv,dI QJ,dI qC,dL 2 qe zf,dL 5 qg q06]),(2,B.blk 32 [dI zA,dI zV,dI zW]),(3,B.row 22 1 [C.d (D.sl 1 q9r (w30.flatMap eI)),C.d (D.sl 1 q9s (w31.flatMap eI)),C.d (D.sl 1 q9t (w32.flatMap eI))])],4,170⟩=(qX (Qp [w30,w31,w32] (qV.mk (qb.mk qp qA qt qu qB) (qf.mk qk qn qo) zq) (qb.mk qv QJ qC zf q06) (qf.mk zA zV zW) t2 t7 t9 t15 t70 t71) t72).bind (Sum.elim (fun(e:Unit)=>some (Go.Exit.ret,⟨[(4,rP 0),(6,rB Bool.false),(7,rB t7),(8,rP 1),(9,rL 8 qd t9),(10,rP 2),(14,R.c (C.own 3 1 0 [w30,w31,w32].length))],[(0,B.blk 35 [dI qp,dI qA,dI qt,dL 2 qe qu,dL 5 qg qB,dI qk,dI qn,dI qo,dL 8 qd zq]),(1,B.blk 30 [dI qv,dI QJ,dI qC,dL 2 qe zf,dL 5 qg q06]),(2,B.blk 32 [dI zA,dI zV,dI zW]),(3,B.row 22 1 (([w30,w31,w32].flatMap (eL 1 eI)).map C.d))],4,170⟩)) (fun(e:Unit)=>some (Go.Exit.exit 2,⟨[(4,rP 0),(6,R.any),(7,rB t7),(8,rP 1),(9,rL 8 qd t9),(10,rP 2),(14,R.c (C.own 3 1 0 [w30,w31,w32].length))],[(0,B.blk 35 [dI qp,dI qA,dI qt,dL 2 qe qu,dL 5 qg qB,dI qk,dI qn,dI qo,dL 8 qd zq]),(1,B.blk 30 [dI qv,dI QJ,dI qC,dL 2 qe zf,dL 5 qg q06]),(2,B.blk 32 [dI zA,dI zV,dI zW]),(3,B.row 22 1 (([w30,w31,w32].flatMap (eL 1 eI)).map C.d))],4,170⟩))):=by
 intro w30 w31 w32 qp qA qt qu qB qk qn qo zq qv QJ qC zf q06 zA zV zW t2 t7 t9 t15 t70 t71 t72 q9r q9s q9t h0 h1 h2;subst h0 h1 h2;have h:=q6d [w30,w31,w32] ((qV.mk (qb.mk qp qA qt qu qB) (qf.mk qk qn qo) zq)).Need.Kind ((qV.mk (qb.mk qp qA qt qu qB) (qf.mk qk qn qo) zq)).Need.N ((qV.mk (qb.mk qp qA qt qu qB) (qf.mk qk qn qo) zq)).Need.Min ((qV.mk (qb.mk qp qA qt qu qB) (qf.mk qk qn qo) zq)).Need.Set ((qV.mk (qb.mk qp qA qt qu qB) (qf.mk qk qn qo) zq)).Need.L ((qV.mk (qb.mk qp qA qt qu qB) (qf.mk qk qn qo) zq)).Scale.Worst ((qV.mk (qb.mk qp qA qt qu qB) (qf.mk qk qn qo) zq)).Scale.Best ((qV.mk (qb.mk qp qA qt qu qB) (qf.mk qk qn qo) zq)).Scale.Pass ((qV.mk (qb.mk qp qA qt qu qB) (qf.mk qk qn qo) zq)).L ((qb.mk qv QJ qC zf q06)).Kind ((qb.mk qv QJ qC zf q06)).N ((qb.mk qv QJ qC zf q06)).Min ((qb.mk qv QJ qC zf q06)).Set ((qb.mk qv QJ qC zf q06)).L ((qf.mk zA zV zW)).Worst ((qf.mk zA zV zW)).Best ((qf.mk zA zV zW)).Pass t2 t7 t9 t15 t70 t71 t72 _ rfl
 first
  | exact h
  | (simp only[rL,dL,bR,bZ,Nat.reduceAdd] at h;exact h)
end Go.Proofs.YtgejdfnidjnjcaaGreat.Vc

namespace Go.Proofs.YtgejdfnidjnjcaaGreat.Vc
open Go.RowKit
theorem qhC {n:qb} (hz:Szs n) (hsm:∀y∈ndN n,Sm y) (l:List qa) (hl:l.length≤10) (x:Int):∃r:List Int,q1d n l x=some r∧r.length≤10:=by
 obtain⟨r,_,r2,r3⟩:=qhQ hz hsm (qN 1) l hl x
 refine⟨r.1,?_,r3⟩
 unfold q1d
 rw[r2,Option.bind_some]
theorem qjX (l:List qa) (hl:l.length≤16) (set:Int) (leaf:List Int) (hf:leaf.length≤16):∃d,q2s l set leaf=some d∧d.length=l.length:=by
 have hML:100000≤Go.maxLen:=by unfold Go.maxLen;omega
 have key:∀(j i k:Nat) (out:List Int),j+i=l.length→out.length=i→k≤i→∃d,qX (Zc set leaf ((l.length:Nat):Int)) (out,(k:Int),(i:Int))=some d∧d.length=l.length:=by
  intro j
  induction j with
  | zero=>
   intro i k out hi ho _
   refine⟨out,zr ?_,by omega⟩
   unfold Zc
   simp only
   rw[if_neg (by omega)]
  | succ j ih=>
   intro i k out hi ho hk
   have hw:w64 ((i:Int)+1)=((i+1:Nat):Int):=qY (n:=1000) (by omega) (by omega)
   have hwk:w64 ((k:Int)+1)=((k+1:Nat):Int):=qY (n:=1000) (by omega) (by omega)
   have hap:∀x:Int,(out++[x]).length=i+1:=fun x=>by rw[List.length_append,List.length_singleton,ho]
   have hcase:(∃x,Zc set leaf ((l.length:Nat):Int) (out,(k:Int),(i:Int))=some (.inl (out++[x],(k:Int),((i+1:Nat):Int))))∨(∃x,Zc set leaf ((l.length:Nat):Int) (out,(k:Int),(i:Int))=some (.inl (out++[x],((k+1:Nat):Int),((i+1:Nat):Int)))):=by
    unfold Zc
    simp only
    have hlen:out.length+1≤Go.maxLen∧(out.length+1)*8≤140737488355328:=⟨by omega,by omega⟩
    rw[if_pos (show(i:Int)<((l.length:Nat):Int) by omega),if_pos (show(0:Int)≤(i:Int) by omega),hw,hwk]
    generalize (JH Go.BinOp.and Go.IntKind.i64 (Int.fdiv set ((2:Int) ^ min (Int.toNat (i:Int)) (Go.IntKind.bits Go.IntKind.i64))) (1:Int)==(0:Int))=q
    cases q
    ·rw[if_neg (by decide)]
     by_cases h:(k:Int)<((leaf.length:Nat):Int)
     ·have hg:leaf[k]?=some (leaf[k]'(by omega)):=List.getElem?_eq_getElem (by omega)
      rw[if_pos h,if_pos ⟨by omega,h⟩,Int.toNat_natCast,hg,Option.bind_some,if_pos hlen]
      exact .inr ⟨_,rfl⟩
     ·rw[if_neg h,if_pos hlen]
      exact .inl ⟨_,rfl⟩
    ·rw[if_pos rfl,if_pos hlen]
     exact .inl ⟨_,rfl⟩
   rcases hcase with ⟨x,hx⟩|⟨x,hx⟩
   ·obtain⟨d,d1,d2⟩:=ih (i+1) k (out++[x]) (by omega) (hap x) (by omega)
    exact⟨d,by rw[zI hx,d1],d2⟩
   ·obtain⟨d,d1,d2⟩:=ih (i+1) (k+1) (out++[x]) (by omega) (hap x) (by omega)
    exact⟨d,by rw[zI hx,d1],d2⟩
 obtain⟨d,d1,d2⟩:=key l.length 0 0 [] (by omega) rfl (Nat.le_refl _)
 refine⟨d,?_,d2⟩
 unfold q2s
 change Option.bind (qX _ ([],((0:Nat):Int),((0:Nat):Int))) _=_
 rw[d1,Option.bind_some]
end Go.Proofs.YtgejdfnidjnjcaaGreat.Vc
namespace Go.Proofs.YtgejdfnidjnjcaaGreat.Vc
open Go.RowKit
theorem qnF {ε:Type} (n:qb) (s:qf) (d:List Int) (nx:Int) (e:qJ→ε):∀(l:List qa) (i:Nat) (b:qJ),q4c (ε:=ε) (fun i (b:qJ) (a:qa) => .inl (if(d.getD i (-1)==nx)=true then qh0 n s b a else b)) e l i b=e ((q5x (fun j=>d.getD (i+j) (-1)==nx) l).foldl (qh0 n s) b):=by
 intro l
 induction l with
 | nil=>intro i b;rfl
 | cons a l ih=>
  intro i b
  unfold q4c q5x
  rw[List.foldl_append]
  simp only[Nat.add_zero]
  rw[ih (i+1)]
  rw[show(fun j=>d.getD (i+1+j) (-1)==nx)=fun j=>d.getD (i+(j+1)) (-1)==nx from funext fun j=>by rw[Nat.add_right_comm,Nat.add_assoc]]
  split<;>rfl
theorem qAv (n:qb) (hn:n.Set.length≤1000000) (c:qy) (hl:c.L.length≤62) (hd:c.Leaf.length=c.L.length) (b2:z7) (rF:(qb×qy)→Option (z7×qy)):qX (Qa rF c n b2) ((0:Int),((0:Int),(true,(0:Int))))=some ((qfF n c.S c.L (fun j=>c.Leaf.getD j (-1)==c.Next)).many,(qfF n c.S c.L (fun j=>c.Leaf.getD j (-1)==c.Next)).credits,(qfF n c.S c.L (fun j=>c.Leaf.getD j (-1)==c.Next)).fine):=by
 have h1:=q20 (ε:=Int×Int×Bool) (step:=Qa rF c n b2) c.L (fun(b:qJ) i=>(b.many,b.credits,b.fine,(i:Int))) (fun i b a => .inl (if(c.Leaf.getD i (-1)==c.Next)=true then qh0 n c.S b a else b)) (fun b=>(b.many,b.credits,b.fine)) (fun b i a ha=>by
   have hi:=q08 ha
   have hw:w64 ((i:Int)+1)=((i+1:Nat):Int):=qY hi (by omega)
   have hg:c.Leaf[i]?=some (c.Leaf.getD i (-1)):=by rw[List.getD_eq_getElem?_getD,List.getElem?_eq_getElem (by omega)];rfl
   have hc:(0:Int)≤(i:Int)∧(i:Int)<((c.L.length:Nat):Int):=⟨by omega,by omega⟩
   unfold Qa qh0
   simp only
   rw[if_pos hc.2,if_pos ⟨by omega,by omega⟩,Int.toNat_natCast,hg,Option.bind_some,hw]
   cases(c.Leaf.getD i (-1)==c.Next)
   ·simp
   ·rw[if_pos rfl,if_pos hc,ha,Option.bind_some,if_pos hc,Option.bind_some,qeZ n hn,Option.bind_some]
    cases hf:b.fine<;>simp) (fun b=>by
   unfold Qa
   simp only
   rw[if_neg (by omega)]) ld0
 rw[qnF] at h1
 simp only[Nat.zero_add] at h1
 exact h1
theorem qq8 (s:qf) (l:List qa) (hl:l.length≤62) (d:List Int) (hd:d.length=l.length):∀(n:qb) (nx:Nat),(∀y∈ndN n,y.Set.length≤1000000)→nx+(ndN n).length≤100000→
  QA (n,qy.mk s l d (nx:Int))=some (z7.mk (q3y s l (fun j=>d.getD j (-1)) n nx).1 (q3y s l (fun j=>d.getD j (-1)) n nx).2,qy.mk s l d ((nx+lvN n:Nat):Int)):=by
 intro n
 induction n using qb.rec (motive_2:=fun L=>∀(b1:qb) (b2:z7) (pre:List qb) (nx many:Nat) (em wr:Bool),b1.L=pre++L→(∀y∈ndL L,y.Set.length≤1000000)→nx+(ndL L).length≤100000→many+L.length≤200000→pre.length+L.length≤200000→
   qX (QB QA b1 b2) (qy.mk s l d (nx:Int),em,(many:Int),wr,(pre.length:Int)) =
    some (qy.mk s l d ((nx+lvL L:Nat):Int),em&&(q3i s l (fun j=>d.getD j (-1)) (b1.Kind==3) L nx).1,((many+(q3i s l (fun j=>d.getD j (-1)) (b1.Kind==3) L nx).2.1:Nat):Int),wr||(q3i s l (fun j=>d.getD j (-1)) (b1.Kind==3) L nx).2.2)) with
 | mk k n m S L ih=>
  intro nx hs hn
  rw[ndN,List.length_cons] at hn
  have hsz:=hs _ (qdO _)
  have hw:w64 ((nx:Int)+1)=((nx+1:Nat):Int):=QP (by omega) (by omega)
  have h6:=qAv ⟨k,n,m,S,L⟩ hsz (qy.mk s l d (nx:Int)) hl hd (z7.mk false false) QA
  rw[q71]
  unfold JG
  simp only
  simp only at h6
  rw[q7q,lvN]
  by_cases h1:k=1
  ·have c1:(k==(1:Int))=true:=by rw[h1];rfl
   have h12:k=1∨k=2 := .inl h1
   rw[if_pos c1,h6,Option.bind_some,if_pos h12,if_pos h12]
   simp only
   generalize qfF ⟨k,n,m,S,L⟩ s l (fun j=>d.getD j (-1)==(nx:Int))=x
   unfold qdj
   rw[if_pos c1,if_pos h1,hw]
   cases x.fine<;>simp
  ·have c1:¬ ((k==(1:Int))=true):=by simpa using h1
   by_cases h2:k=2
   ·have c2:(k==(2:Int))=true:=by rw[h2];rfl
    have h12:k=1∨k=2 := .inr h2
    rw[if_neg c1,if_pos c2,h6,Option.bind_some,if_pos h12,if_pos h12]
    simp only
    generalize qfF ⟨k,n,m,S,L⟩ s l (fun j=>d.getD j (-1)==(nx:Int))=x
    unfold qdj
    rw[if_neg c1,if_neg h1,hw]
    cases x.fine
    ·simp
    ·by_cases h:0<x.many<;>simp[h]
   ·have c2:¬ ((k==(2:Int))=true):=by simpa using h2
    have hln:=qoj L
    have hk:¬ (k=1∨k=2):=by omega
    have h:=ih ⟨k,n,m,S,L⟩ (z7.mk false false) [] nx 0 true false rfl (fun y hy=>hs y (by rw[ndN];exact List.mem_cons_of_mem _ hy)) (by omega) (by omega) (by simp;omega)
    rw[if_neg c1,if_neg c2,if_neg hk,if_neg hk]
    change Option.bind (qX _ (qy.mk s l d (nx:Int),true,((0:Nat):Int),false,((([]:List qb).length:Nat):Int))) _=_
    rw[h,Option.bind_some]
    simp only[Bool.true_and,Bool.false_or,Nat.zero_add]
    cases(q3i s l (fun j=>d.getD j (-1)) (k==3) L nx).2.2<;>simp
 | nil=>
  rename_i b1 b2 pre nx many em wr hL hs hn hm hp
  rw[lvL,q3i]
  refine zr ?_
  unfold QB
  simp only
  rw[hL,List.append_nil,if_neg (by omega)]
  simp
 | cons x L h1 h2=>
  rename_i b1 b2 pre nx many em wr hL hs hn hm hp
  rw[ndL,List.length_append] at hn
  rw[List.length_cons] at hm hp
  have hx:=h1 nx (fun y hy=>hs y (by rw[ndL];exact List.mem_append_left _ hy)) (by omega)
  have hlv:=qdw x
  have hw:w64 ((pre.length:Int)+1)=((pre.length+1:Nat):Int):=QP (by omega) (by omega)
  have hw2:w64 ((many:Int)+1)=((many+1:Nat):Int):=QP (by omega) (by omega)
  have hLL:=h2 b1 b2 (pre++[x]) (nx+lvN x) (many+if(q3y s l (fun j=>d.getD j (-1)) x nx).2=true then 1 else 0) (em&&(q3y s l (fun j=>d.getD j (-1)) x nx).1) (wr||(!(q3y s l (fun j=>d.getD j (-1)) x nx).2&&(!(q3y s l (fun j=>d.getD j (-1)) x nx).1||(b1.Kind==3)))) (by rw[hL,List.append_assoc,List.singleton_append]) (fun y hy=>hs y (by rw[ndL];exact List.mem_append_right _ hy)) (by omega) (by split<;>omega) (by rw[List.length_append,List.length_singleton];omega)
  rw[show(pre++[x]).length=pre.length+1 from by rw[List.length_append,List.length_singleton]] at hLL
  have hg:b1.L[pre.length]?=some x:=by rw[hL,List.getElem?_append_right (Nat.le_refl _),Nat.sub_self];rfl
  have hlt:pre.length<b1.L.length:=q08 hg
  rw[q3i,lvL]
  simp only
  rw[zI (y:=(qy.mk s l d ((nx+lvN x:Nat):Int),em&&(q3y s l (fun j=>d.getD j (-1)) x nx).1,((many+(if(q3y s l (fun j=>d.getD j (-1)) x nx).2=true then 1 else 0):Nat):Int),wr||(!(q3y s l (fun j=>d.getD j (-1)) x nx).2&&(!(q3y s l (fun j=>d.getD j (-1)) x nx).1||(b1.Kind==3))),((pre.length+1:Nat):Int))),hLL]
  ·simp only[Nat.add_assoc,Bool.and_assoc,Bool.or_assoc]
  ·unfold QB
   simp only
   rw[if_pos (by omega),if_pos ⟨by omega,by omega⟩,Int.toNat_natCast,hg,Option.bind_some,hx,Option.bind_some]
   simp only
   rw[hw,hw2]
   generalize (q3y s l (fun j=>d.getD j (-1)) x nx).1=q1
   generalize (q3y s l (fun j=>d.getD j (-1)) x nx).2=q2
   cases em<;>cases wr<;>cases q1<;>cases q2<;>simp
theorem qqX (n:qb) (s:qf) (l:List qa) (d:List Int) (hd:d.length≤100):qX (JW n s l d ((((ndN n).filter Zh).length:Nat):Int)) (0:Int)=some (if qmq n d=true then .inl () else .inr ()):=by
 have h1:=q89 (step:=JW n s l d ((((ndN n).filter Zh).length:Nat):Int)) 0 d.length (Nat.zero_le _) (atB d (fun y => !QG y ((((ndN n).filter Zh).length:Nat):Int))) (.inl ()) (.inr ()) (fun i _ hi=>by
  have ha:d[i]?=some d[i]:=List.getElem?_eq_getElem hi
  have hw:w64 ((i:Int)+1)=((i+1:Nat):Int):=qY (n:=1000) (by omega) (by omega)
  rw[q81 ha]
  generalize d[i]=y at ha
  generalize ((((ndN n).filter Zh).length:Nat):Int)=v
  unfold JW QG
  rw[if_pos (by omega),if_pos ⟨by omega,by omega⟩,Int.toNat_natCast,ha,Option.bind_some,hw]
  by_cases h:y < -1
  ·rw[if_pos h,if_pos h]
   rfl
  ·rw[if_neg h,if_neg h,if_pos ⟨by omega,by omega⟩,Option.bind_some]
   by_cases h2:v≤y<;>simp[h2]) (by
  unfold JW
  rw[if_neg (by omega)])
 change qX _ ((0:Nat):Int)=_
 rw[h1]
 have e:(∀i,i<d.length→0≤i→atB d (fun y => !QG y ((((ndN n).filter Zh).length:Nat):Int)) i=true)↔qmq n d=false:=by
  rw[qaR,List.all_eq_true]
  unfold qmq
  rw[List.any_eq_false]
  constructor
  ·intro h y hy
   have:=h y hy
   simpa using this
  ·intro h y hy
   have:=h y hy
   simpa using this
 cases ho:qmq n d
 ·rw[if_pos (e.2 ho),if_neg (by decide)]
 ·rw[if_neg (fun q=>by have:=e.1 q;rw[ho] at this;cases this),if_pos rfl]
theorem qdJ {n:qb} (hz:Szs n) (hsm:∀y∈ndN n,Sm y) (s:qf) (l:List qa) (hl:l.length≤10) (d:List Int) (hd:d.length≤100):q14 n s l d=some (qj8 n s l d):=by
 have hnd:=hz.nd
 unfold q14 qj8
 rw[qdI hz hsm,Option.bind_some]
 by_cases hc:q2H n=0
 ·have c1:¬ (q2H n≠0):=fun q=>q hc
  have c2:¬ ((q2H n != 0)=true):=by rw[hc];decide
  rw[if_neg c1,if_neg c2]
  by_cases hq:d.length=l.length
  ·have c3:¬ (d.length≠l.length):=fun q=>q hq
   have c4:¬ ((((d.length:Nat):Int) != ((l.length:Nat):Int))=true):=by rw[hq];simp
   rw[if_neg c3,if_neg c4,qer hz,Option.bind_some,qqX n s l d hd,Option.bind_some]
   cases ho:qmq n d
   ·rw[if_neg (by decide),if_neg (by decide),Sum.elim_inr]
    change Option.bind (QA (n,qy.mk s l d ((0:Nat):Int))) _=_
    rw[qq8 s l (by omega) d hq n 0 hz.st (by omega),Option.bind_some]
   ·rw[if_pos rfl,if_pos rfl,Sum.elim_inl]
  ·have c4:(((d.length:Nat):Int) != ((l.length:Nat):Int))=true:=by rw[bne_iff_ne];omega
   rw[if_pos c4,if_pos hq]
 ·have c2:(q2H n != 0)=true:=by simpa using hc
  rw[if_pos c2,if_pos hc]
end Go.Proofs.YtgejdfnidjnjcaaGreat.Vc
namespace Go.Proofs.YtgejdfnidjnjcaaGreat.Vc
open Go.RowKit
theorem qr1 (b0:qV) (b1:qb) (b2:qf) (t2:List Int) (t7:Bool) (t9:List qa) (l:List Int) (hl:l.length≤100):∀(j i:Nat) (w:List Int),j+i=l.length→w.length=i→
  ∃S,qX (Z3 b0 b1 b2 t2 t7 t9 l ((l.length:Nat):Int)) (w,(i:Int))=some S∧S.length=l.length:=by
 have hML:10000000≤Go.maxLen:=by unfold Go.maxLen;omega
 intro j
 induction j with
 | zero=>
  intro i w hi hw
  refine⟨w,zr ?_,by omega⟩
  unfold Z3
  simp only
  rw[if_neg (by omega)]
 | succ j ih=>
  intro i w hi hw
  have ha:l[i]?=some (l[i]'(by omega)):=List.getElem?_eq_getElem (by omega)
  generalize l[i]'(by omega)=a at ha
  obtain⟨m,m1,m2,m3⟩:=qjc a 7 (by decide) (by decide)
  have hww:w64 ((i:Int)+1)=((i+1:Nat):Int):=qY (n:=10000) (by omega) (by omega)
  obtain⟨S,s1,s2⟩:=ih (i+1) (w++[w64 (m-1)]) (by omega) (by rw[List.length_append,List.length_singleton];omega)
  refine⟨S,?_,s2⟩
  rw[←s1]
  refine zI ?_
  unfold Z3
  simp only
  rw[if_pos (by omega),if_pos ⟨by omega,by omega⟩,Int.toNat_natCast,ha,Option.bind_some,m1,Option.bind_some,if_pos ⟨by omega,by omega⟩,hww]
theorem qeK {n:qb} (hz:Szs n) (hsm:∀y∈ndN n,Sm y) (s:qf) (l:List qa) (hl:l.length≤10) (w3 w4:List (List Int)) (h4:∀y∈w4,y.length≤100) (h5:w4.length≤100) (b0:qV) (t7:Bool) (t9:List qa):qX (Q2 w3 w4 b0 n s t7 t9 l ((w4.length:Nat):Int)) (0:Int)=some (.inr ()):=by
 have:=J3 (step:=Q2 w3 w4 b0 n s t7 t9 l ((w4.length:Nat):Int)) (e := .inr ()) (fun i=>(i:Int)) 0 w4.length (Nat.zero_le _) (fun i _ hi=>by
  have hw:w64 ((i:Int)+1)=((i+1:Nat):Int):=qY (n:=10000) (by omega) (by omega)
  have hr:w4[i]?=some w4[i]:=List.getElem?_eq_getElem hi
  have hd:=h4 _ (List.getElem_mem hi)
  generalize w4[i]=d at hr hd
  unfold Q2
  rw[if_pos (by omega),if_pos ⟨by omega,by omega⟩,Int.toNat_natCast,hr,Option.bind_some,qdx hz s l hl d hd,Option.bind_some,qdJ hz hsm s l hl d hd,Option.bind_some,if_neg (by simp),hw]) (by
  unfold Q2
  rw[if_neg (by omega)])
 exact this
theorem qoC {n:qb} (hz:Szs n) (hsm:∀y∈ndN n,Sm y) (s:qf) (l:List qa) (hl:l.length≤10) (w3:List (List Int)) (b0:qV) (t2:List Int) (ht2:t2.length≤100) (t7:Bool) (t9:List qa) (A:List Bool) (hA:A.length≤10000) (hne:∀i:Nat,A[i]?=some true→1≤l.length):∀(j i:Nat),j+i=A.length→
  qX (Qp w3 b0 n s t2 t7 t9 l A ((A.length:Nat):Int)) (i:Int)=some (.inr ()):=by
 have hML:10000000≤Go.maxLen:=by unfold Go.maxLen;omega
 intro j
 induction j with
 | zero=>
  intro i hi
  refine zr ?_
  unfold Qp
  rw[if_neg (by omega)]
 | succ j ih=>
  intro i hi
  have hw:w64 ((i:Int)+1)=((i+1:Nat):Int):=qY (n:=100000) (by omega) (by omega)
  have ha:A[i]?=some (A[i]'(by omega)):=List.getElem?_eq_getElem (by omega)
  generalize A[i]'(by omega)=a at ha
  cases a
  ·rw[zI (y:=((i+1:Nat):Int)) (by
    unfold Qp
    rw[if_pos (by omega),if_pos ⟨by omega,by omega⟩,Int.toNat_natCast,ha,Option.bind_some,if_neg (by decide),hw])]
   exact ih (i+1) (by omega)
  ·have hl1:=hne i ha
   obtain⟨r,r1,r2⟩:=qhC hz hsm l hl (i:Int)
   obtain⟨d,d1,d2⟩:=qjX l (by omega) (i:Int) r (by omega)
   refine zr ?_
   have hdl:d.length≤Go.maxLen∧d.length*8≤140737488355328:=⟨by omega,by omega⟩
   unfold Qp
   rw[if_pos (by omega),if_pos ⟨by omega,by omega⟩,Int.toNat_natCast,ha,Option.bind_some,if_pos rfl,r1,Option.bind_some,d1,Option.bind_some,if_pos hdl]
   by_cases h0:(0:Int)<((t2.length:Nat):Int)
   ·have hg:t2[0]?=some (t2[0]'(by omega)):=List.getElem?_eq_getElem (by omega)
    generalize t2[0]'(by omega)=x at hg
    have hwl:w64 (((t2.length:Nat):Int)-1)=((t2.length-1:Nat):Int):=by rw[QP (by omega) (by omega)];omega
    have hg2:t2[t2.length-1]?=some (t2[t2.length-1]'(by omega)):=List.getElem?_eq_getElem (by omega)
    generalize t2[t2.length-1]'(by omega)=y at hg2
    obtain⟨m,m1,m2,m3⟩:=qjc x ((d.length:Nat):Int) (by omega) (by omega)
    obtain⟨q,q1,q2,q3⟩:=qjc y 7 (by decide) (by decide)
    have hmm:Int.toNat m+1≤d.length:=by omega
    have hL:=qeK hz hsm s l hl w3 [d,List.set d (Int.toNat m) (w64 (q-1))] (fun z hz=>by
     rcases List.mem_cons.1 hz with e|e
     ·rw[e];omega
     ·rw[List.mem_singleton.1 e,List.length_set];omega) (by simp) b0 t7 t9
    have hL':qX (Q2 w3 [d,List.set d (Int.toNat m) (w64 (q-1))] b0 n s t7 t9 l (2:Int)) (0:Int)=some (.inr ()):=hL
    rw[if_pos h0,if_pos h0,hg,Option.bind_some,m1,Option.bind_some,hwl,if_pos ⟨by omega,by omega⟩,Int.toNat_natCast,hg2,Option.bind_some,q1,Option.bind_some,if_pos ⟨m2,m3⟩,if_pos hmm,hL',Option.bind_some,Sum.elim_inr]
   ·have hL:=qeK hz hsm s l hl w3 [d,d] (fun z hz=>by
     rcases List.mem_cons.1 hz with e|e
     ·rw[e];omega
     ·rw[List.mem_singleton.1 e];omega) (by simp) b0 t7 t9
    have hL':qX (Q2 w3 [d,d] b0 n s t7 t9 l (2:Int)) (0:Int)=some (.inr ()):=hL
    rw[if_neg h0,hL',Option.bind_some,Sum.elim_inr]
end Go.Proofs.YtgejdfnidjnjcaaGreat.Vc
namespace Go.Proofs.YtgejdfnidjnjcaaGreat.Vc
open Go.RowKit
set_option maxRecDepth 20000
set_option maxHeartbeats 8000000
noncomputable def Qo (w3:List (List Int)) (b0:qV) (b1:qb) (b2:qf) (t7:Bool) (t9:List qa) (t129:Int):Int→Option (Int⊕(Unit⊕Unit))|t130=>if t130<t129 then if 0≤t130∧t130<((w3.length:Nat):Int) then Option.bind w3[Int.toNat t130]? fun(a:List Int)=>Option.bind (J0 b1 b2 t9 a) fun(a2:Bool)=>Option.bind (q14 b1 b2 t9 a) fun(a3:Bool)=>if(!(a2==a3))=Bool.true then some (Sum.inr (Sum.inl ())) else Option.bind (ZW (b0.Need,3)) fun(a4:qb)=>Option.bind (q2D b0.L) fun(a5:List qa)=>Option.bind (J0 a4 b0.Scale a5 a) fun(a6:Bool)=>Option.bind (ZW (b0.Need,3)) fun(a7:qb)=>Option.bind (q2D b0.L) fun(a8:List qa)=>Option.bind (q14 a7 b0.Scale a8 a) fun(a9:Bool)=>if(!(a6==a9))=Bool.true then some (Sum.inr (Sum.inl ())) else some (Sum.inl (w64 (t130+1))) else none else some (Sum.inr (Sum.inr ()))
theorem q6g:∀(w3:List (List Int)) (qp qA qt:Int) (qu:List qc) (qB:List qb) (qk qn qo:Int) (zq:List qa) (qv QJ qC:Int) (zf:List qc) (q06:List qb) (zA zV zW:Int) (t7:Bool) (t9:List qa) (t129 t130:Int) (zw:Nat),zw=w3.length→XL2 evo 5 0 30 ⟨[(4,rP 0),(7,rB t7),(8,rP 1),(9,rL 8 qd t9),(10,rP 2),(128,rO 3 1 zw),(129,rI t129),(130,rI t130)],[(0,B.blk 35 [dI qp,dI qA,dI qt,dL 2 qe qu,dL 5 qg qB,dI qk,dI qn,dI qo,dL 8 qd zq]),(1,B.blk 30 [dI qv,dI QJ,dI qC,dL 2 qe zf,dL 5 qg q06]),(2,B.blk 32 [dI zA,dI zV,dI zW]),(3,bR 22 1 (eL 1 eI) w3)],4,170⟩=(qX (Qo w3 (qV.mk (qb.mk qp qA qt qu qB) (qf.mk qk qn qo) zq) (qb.mk qv QJ qC zf q06) (qf.mk zA zV zW) t7 t9 t129) t130).bind (Sum.elim (fun(e:Unit)=>some (Go.Exit.ret,⟨[(6,rB Bool.false),(7,rB t7)],[],0,170⟩)) (fun(e:Unit)=>some (Go.Exit.exit 6,⟨[(6,R.any),(7,rB t7)],[],0,170⟩))):=
 by
 intro w3 qp qA qt qu qB qk qn qo zq qv QJ qC zf q06 zA zV zW t7 t9 t129 t130 zw h0
 subst h0
 revert t130;exact qaQ qxM qAF (fun e=>by rcases e with _|_<;>exact⟨_,rfl,fun h=>by cases h⟩) fun x=>by
  have:=cx5;have:=@qmn.eq_1;have:=@q5d;have:=@q6C;have:=@qec;have:=@q8C;have:=@Qo.eq_1;exact gA
theorem q4K:∀(w30 w31 w32:List Int) (qp qA qt:Int) (qu:List qc) (qB:List qb) (qk qn qo:Int) (zq:List qa) (qv QJ qC:Int) (zf:List qc) (q06:List qb) (zA zV zW:Int) (t7:Bool) (t9:List qa) (t129 t130:Int) (q9r q9s q9t:Nat),q9r=w30.length→q9s=w31.length→q9t=w32.length→XL2 evo 5 0 30 ⟨[(4,rP 0),(7,rB t7),(8,rP 1),(9,rL 8 qd t9),(10,rP 2),(128,rO 3 1 3),(129,rI t129),(130,rI t130)],[(0,B.blk 35 [dI qp,dI qA,dI qt,dL 2 qe qu,dL 5 qg qB,dI qk,dI qn,dI qo,dL 8 qd zq]),(1,B.blk 30 [dI qv,dI QJ,dI qC,dL 2 qe zf,dL 5 qg q06]),(2,B.blk 32 [dI zA,dI zV,dI zW]),(3,B.row 22 1 [C.d (D.sl 1 q9r (w30.flatMap eI)),C.d (D.sl 1 q9s (w31.flatMap eI)),C.d (D.sl 1 q9t (w32.flatMap eI))])],4,170⟩=(qX (Qo [w30,w31,w32] (qV.mk (qb.mk qp qA qt qu qB) (qf.mk qk qn qo) zq) (qb.mk qv QJ qC zf q06) (qf.mk zA zV zW) t7 t9 t129) t130).bind (Sum.elim (fun(e:Unit)=>some (Go.Exit.ret,⟨[(6,rB Bool.false),(7,rB t7)],[],0,170⟩)) (fun(e:Unit)=>some (Go.Exit.exit 6,⟨[(6,R.any),(7,rB t7)],[],0,170⟩))):=by
 intro w30 w31 w32 qp qA qt qu qB qk qn qo zq qv QJ qC zf q06 zA zV zW t7 t9 t129 t130 q9r q9s q9t h0 h1 h2;subst h0 h1 h2;have h:=q6g [w30,w31,w32] ((qV.mk (qb.mk qp qA qt qu qB) (qf.mk qk qn qo) zq)).Need.Kind ((qV.mk (qb.mk qp qA qt qu qB) (qf.mk qk qn qo) zq)).Need.N ((qV.mk (qb.mk qp qA qt qu qB) (qf.mk qk qn qo) zq)).Need.Min ((qV.mk (qb.mk qp qA qt qu qB) (qf.mk qk qn qo) zq)).Need.Set ((qV.mk (qb.mk qp qA qt qu qB) (qf.mk qk qn qo) zq)).Need.L ((qV.mk (qb.mk qp qA qt qu qB) (qf.mk qk qn qo) zq)).Scale.Worst ((qV.mk (qb.mk qp qA qt qu qB) (qf.mk qk qn qo) zq)).Scale.Best ((qV.mk (qb.mk qp qA qt qu qB) (qf.mk qk qn qo) zq)).Scale.Pass ((qV.mk (qb.mk qp qA qt qu qB) (qf.mk qk qn qo) zq)).L ((qb.mk qv QJ qC zf q06)).Kind ((qb.mk qv QJ qC zf q06)).N ((qb.mk qv QJ qC zf q06)).Min ((qb.mk qv QJ qC zf q06)).Set ((qb.mk qv QJ qC zf q06)).L ((qf.mk zA zV zW)).Worst ((qf.mk zA zV zW)).Best ((qf.mk zA zV zW)).Pass t7 t9 t129 t130 _ rfl
 first
  | exact h
  | (simp only[rL,dL,bR,bZ,Nat.reduceAdd] at h;exact h)
noncomputable def q2t (x0:q1W) (x1:qV) (x2:List Int):Option Bool:=Option.bind q2m fun(a:Bool)=>Option.bind (q0R x0) fun(a2:Prod qb (List qa))=>if 0≤min ((x2.length:Nat):Int) 8∧min ((x2.length:Nat):Int) 8≤((x2.length:Nat):Int) then Option.bind (qX (Z3 x1 a2.1 (qN 1) (List.take (Int.toNat (min ((x2.length:Nat):Int) 8)-0) x2) a a2.2 (List.take (Int.toNat (min ((x2.length:Nat):Int) 8)-0) x2) (((List.take (Int.toNat (min ((x2.length:Nat):Int) 8)-0) x2).length:Nat):Int)) ([],0)) fun(a3:List Int)=>if 0≤min ((a3.length:Nat):Int) ((a2.2.length:Nat):Int)∧min ((a3.length:Nat):Int) ((a2.2.length:Nat):Int)≤((a3.length:Nat):Int) then Option.bind (q2D a2.2) fun(a4:List qa)=>Option.bind (q0U a2.1 (qN 1) a4) fun(a5:Prod (List Bool) Int)=>Option.bind (qX (Qp [List.take (Int.toNat (min ((x2.length:Nat):Int) 8)-0) x2,a3,List.take (Int.toNat (min ((a3.length:Nat):Int) ((a2.2.length:Nat):Int))) a3] x1 a2.1 (qN 1) (List.take (Int.toNat (min ((x2.length:Nat):Int) 8)-0) x2) a a2.2 a4 a5.1 ((a5.1.length:Nat):Int)) 0) fun(a6:Sum Unit Unit)=>Sum.elim (fun(a7:Unit)=>some Bool.false) (fun(a8:Unit)=>Option.bind (qX (Qo [List.take (Int.toNat (min ((x2.length:Nat):Int) 8)-0) x2,a3,List.take (Int.toNat (min ((a3.length:Nat):Int) ((a2.2.length:Nat):Int))) a3] x1 a2.1 (qN 1) a a2.2 3) 0) fun(a9:Sum Unit Unit)=>Sum.elim (fun(a10:Unit)=>some Bool.false) (fun(a11:Unit)=>some a) a9) a6 else none else none
theorem q8M:∀(qik Zf:List Int) (qbv qbw qbx qby qbz qbA q7X qe6 q9u:Int) (q9v:List qc) (qe7:List qb) (q5w q6t q6u:Int) (JB:List qa) (x2:List Int),ev 5 0 [R.agg [dL 1 eI qik,dL 1 eI Zf,dI qbv,dI qbw,dI qbx,dI qby,dI qbz,dI qbA],R.agg [dI q7X,dI qe6,dI q9u,dL 2 qe q9v,dL 5 qg qe7,dI q5w,dI q6t,dI q6u,dL 8 qd JB],rL 1 eI x2] []=(q2t (q1W.mk qik Zf (qBD.mk (qti.mk qbv qbw qbx) (qti.mk qby qbz qbA))) (qV.mk (qb.mk q7X qe6 q9u q9v qe7) (qf.mk q5w q6t q6u) JB) x2).bind (fun(e:Bool)=>some (rB e,[])):=
 fun qik Zf qbv qbw qbx qby qbz qbA q7X qe6 q9u q9v qe7 q5w q6t q6u JB x2=>by
  rw[zc bd5 pw5.2.2.2 lo5]
  have:=cx5;have:=@eL.eq_1;have:=@qaM;have:=@q8y;have:=@q4d;have:=@q5e;have:=@q8C;have:=@q7i;have:=@q4I;have:=@q4K;have:=@q2t.eq_1;exact gA
end Go.Proofs.YtgejdfnidjnjcaaGreat.Vc

namespace Go.Proofs.YtgejdfnidjnjcaaGreat.Vc
open Go.RowKit
set_option maxRecDepth 100000
theorem q0G {α:Type} (ds:List α) (o s:Nat):ds.drop o=(ds.drop o).take s++ds.drop (o+s):=by
 rw[←List.drop_drop];exact(List.take_append_drop s _).symm
theorem qd5 {X:Type} {E:X→List D} {W:X→Prop} {sz:Nat} (hz:0<sz):∀(m:Nat) (es:List D),es.length=m*sz→(∀i,i<m→∃x,(es.drop (i*sz)).take sz=E x∧W x)→∃l:List X,es=l.flatMap E∧l.length=m∧∀x∈l,W x
 | 0,es,hl,_=>⟨[],by rw[Nat.zero_mul] at hl;exact List.eq_nil_of_length_eq_zero hl,rfl,by simp⟩
 | m+1,es,hl,h=>by
  obtain⟨x,hx,wx⟩:=h 0 (by omega)
  obtain⟨l,g1,g2,g3⟩:=qd5 hz m (es.drop sz) (by rw[List.length_drop,hl,Nat.add_mul];omega) fun i hi=>by
   obtain⟨y,hy,wy⟩:=h (i+1) (by omega)
   refine⟨y,?_,wy⟩
   rw[List.drop_drop,show sz+i*sz=(i+1)*sz by rw[Nat.add_mul,Nat.one_mul,Nat.add_comm]];exact hy
  refine⟨x::l,?_,by simp[g2],fun y hy=>?_⟩
  ·rw[Nat.zero_mul,List.drop_zero] at hx
   rw[List.flatMap_cons,←g1,←hx,List.take_append_drop]
  ·rcases List.mem_cons.1 hy with rfl|hy
   ·exact wx
   ·exact g3 y hy
abbrev qDM:List TypeId:=[26,22,3,24,23,35,30,27,51,9,28,32,33,53]
theorem qnd:qFd Tryz.prog qDM=true:=by kernel_rfl
theorem ty3:∀(n:Nat) (ds:List D),Zp Tryz.prog n 3 ds→∃v:Int,ds=[D.int .i64 v]∧(Lit.int .i64 v).wf=true:=by
 intro n ds h
 cases n with
 | zero=>exact h.elim
 | succ n=>
  unfold Zp at h
  rw[Tryz.underlying3] at h
  obtain⟨z,h1,h2⟩:=h
  exact⟨z,h1,h2⟩
theorem cz3:Tryz.prog.cellsOf 3=1:=by kernel_rfl
theorem ty22:∀(n:Nat) (ds:List D),Zp Tryz.prog n 22 ds→∃v:List Int,ds=[D.sl 1 v.length (v.flatMap eI)]∧(v.length≤maxLen∧∀y∈v,(Lit.int .i64 y).wf=true):=by
 intro n ds h
 cases n with
 | zero=>exact h.elim
 | succ n=>
  unfold Zp at h
  rw[Tryz.underlying22] at h
  obtain⟨m,es,h1,h2,h3,h4⟩:=h
  rw[cz3] at h1 h3 h4
  obtain⟨l,g1,g2,g3⟩:=qd5 (E:=eI) (W:=fun y=>(Lit.int .i64 y).wf=true) (sz:=1) (by decide) m es h3 fun i hi=>by
   obtain⟨v,q1,q2⟩:=ty3 n _ (h4 i hi)
   exact⟨v,q1.trans (rfl),q2⟩
  refine⟨l,?_,by omega,g3⟩
  rw[h1,g1,g2]
theorem qx0:Tryz.prog.cellsOf 23=3:=by kernel_rfl
theorem qFq:∀(n:Nat) (ds:List D),Zp Tryz.prog n 23 ds→∃v:qti Int,ds=[D.int .i64 v.a0,D.int .i64 v.a1,D.int .i64 v.a2]∧((Lit.int .i64 v.a0).wf=true∧(Lit.int .i64 v.a1).wf=true∧(Lit.int .i64 v.a2).wf=true):=by
 intro n ds h
 cases n with
 | zero=>exact h.elim
 | succ n=>
  unfold Zp at h
  rw[Tryz.underlying23] at h
  obtain⟨hl,hf⟩:=h
  rw[qx0] at hl
  have h0:Zp Tryz.prog n 3 ((ds.drop 0).take (Tryz.prog.cellsOf 3)):=by
   have:=hf 0 (by decide)
   rwa [cz3] at this ⊢
  rw[cz3] at h0
  obtain⟨v0,e0,w0⟩:=ty3 _ _ h0
  have c0:=q0G ds 0 1
  rw[e0] at c0
  have h1:Zp Tryz.prog n 3 ((ds.drop 1).take (Tryz.prog.cellsOf 3)):=by
   have:=hf 1 (by decide)
   rwa [cz3] at this ⊢
  rw[cz3] at h1
  obtain⟨v1,e1,w1⟩:=ty3 _ _ h1
  have c1:=q0G ds 1 1
  rw[e1] at c1
  have h2:Zp Tryz.prog n 3 ((ds.drop 2).take (Tryz.prog.cellsOf 3)):=by
   have:=hf 2 (by decide)
   rwa [cz3] at this ⊢
  rw[cz3] at h2
  obtain⟨v2,e2,w2⟩:=ty3 _ _ h2
  have c2:=q0G ds 2 1
  rw[e2] at c2
  have cl:ds.drop 3=[]:=List.drop_eq_nil_of_le (by omega)
  refine⟨⟨v0,v1,v2⟩,?_,⟨w0,w1,w2⟩⟩
  have c:ds.drop 0=_:=c0
  simp only[Nat.reduceAdd] at c0 c1 c2 c
  rw[c1,c2,cl] at c
  exact c
theorem qFa:Tryz.prog.cellsOf 24=6:=by kernel_rfl
theorem qJG:∀(n:Nat) (ds:List D),Zp Tryz.prog n 24 ds→∃v:qBD (qti Int),ds=[D.int .i64 v.a0.a0,D.int .i64 v.a0.a1,D.int .i64 v.a0.a2,D.int .i64 v.a1.a0,D.int .i64 v.a1.a1,D.int .i64 v.a1.a2]∧(((Lit.int .i64 v.a0.a0).wf=true∧(Lit.int .i64 v.a0.a1).wf=true∧(Lit.int .i64 v.a0.a2).wf=true)∧((Lit.int .i64 v.a1.a0).wf=true∧(Lit.int .i64 v.a1.a1).wf=true∧(Lit.int .i64 v.a1.a2).wf=true)):=by
 intro n ds h
 cases n with
 | zero=>exact h.elim
 | succ n=>
  unfold Zp at h
  rw[Tryz.underlying24] at h
  obtain⟨hl,hf⟩:=h
  rw[qFa] at hl
  have h0:Zp Tryz.prog n 23 ((ds.drop 0).take (Tryz.prog.cellsOf 23)):=by
   have:=hf 0 (by decide)
   rwa [qx0] at this ⊢
  rw[qx0] at h0
  obtain⟨v0,e0,w0⟩:=qFq _ _ h0
  have c0:=q0G ds 0 3
  rw[e0] at c0
  have h1:Zp Tryz.prog n 23 ((ds.drop 3).take (Tryz.prog.cellsOf 23)):=by
   have:=hf 1 (by decide)
   rwa [qx0] at this ⊢
  rw[qx0] at h1
  obtain⟨v1,e1,w1⟩:=qFq _ _ h1
  have c1:=q0G ds 3 3
  rw[e1] at c1
  have cl:ds.drop 6=[]:=List.drop_eq_nil_of_le (by omega)
  refine⟨⟨v0,v1⟩,?_,⟨w0,w1⟩⟩
  have c:ds.drop 0=_:=c0
  simp only[Nat.reduceAdd] at c0 c1 c
  rw[c1,cl] at c
  exact c
theorem qB9:Tryz.prog.cellsOf 22=1:=by kernel_rfl
theorem qI4:Tryz.prog.cellsOf 26=8:=by kernel_rfl
def qbH (x:q1W):Prop:=(x.Need.length≤maxLen∧∀y∈x.Need,(Lit.int .i64 y).wf=true)∧(x.L.length≤maxLen∧∀y∈x.L,(Lit.int .i64 y).wf=true)∧(((Lit.int .i64 x.Odd.a0.a0).wf=true∧(Lit.int .i64 x.Odd.a0.a1).wf=true∧(Lit.int .i64 x.Odd.a0.a2).wf=true)∧((Lit.int .i64 x.Odd.a1.a0).wf=true∧(Lit.int .i64 x.Odd.a1.a1).wf=true∧(Lit.int .i64 x.Odd.a1.a2).wf=true))
theorem ty26:∀(n:Nat) (ds:List D),Zp Tryz.prog n 26 ds→∃v:q1W,ds=[D.sl 1 v.Need.length (v.Need.flatMap eI),D.sl 1 v.L.length (v.L.flatMap eI),D.int .i64 v.Odd.a0.a0,D.int .i64 v.Odd.a0.a1,D.int .i64 v.Odd.a0.a2,D.int .i64 v.Odd.a1.a0,D.int .i64 v.Odd.a1.a1,D.int .i64 v.Odd.a1.a2]∧qbH v:=by
 intro n ds h
 cases n with
 | zero=>exact h.elim
 | succ n=>
  unfold Zp at h
  rw[Tryz.underlying26] at h
  obtain⟨hl,hf⟩:=h
  rw[qI4] at hl
  have h0:Zp Tryz.prog n 22 ((ds.drop 0).take (Tryz.prog.cellsOf 22)):=hf _ (List.mem_of_getElem? (i:=0) rfl)
  rw[qB9] at h0
  obtain⟨v0,e0,w0⟩:=ty22 _ _ h0
  have c0:=q0G ds 0 1
  rw[e0] at c0
  have h1:Zp Tryz.prog n 22 ((ds.drop 1).take (Tryz.prog.cellsOf 22)):=hf _ (List.mem_of_getElem? (i:=1) rfl)
  rw[qB9] at h1
  obtain⟨v1,e1,w1⟩:=ty22 _ _ h1
  have c1:=q0G ds 1 1
  rw[e1] at c1
  have h2:Zp Tryz.prog n 24 ((ds.drop 2).take (Tryz.prog.cellsOf 24)):=hf _ (List.mem_of_getElem? (i:=2) rfl)
  rw[qFa] at h2
  obtain⟨v2,e2,w2⟩:=qJG _ _ h2
  have c2:=q0G ds 2 6
  rw[e2] at c2
  have cl:ds.drop 8=[]:=List.drop_eq_nil_of_le (by omega)
  refine⟨⟨v0,v1,v2⟩,?_,⟨w0,w1,w2⟩⟩
  have c:ds.drop 0=_:=c0
  simp only[Nat.reduceAdd] at c0 c1 c2 c
  rw[c1,c2,cl] at c
  exact c
def q5T (x:qb):Prop:=True
theorem ty9:∀(n:Nat) (ds:List D),Zp Tryz.prog n 9 ds→∃v:ByteArray,ds=[D.str v]∧v.size≤maxLen:=by
 intro n ds h
 cases n with
 | zero=>exact h.elim
 | succ n=>
  unfold Zp at h
  rw[Tryz.underlying9] at h
  obtain⟨s,h1,h2⟩:=h
  exact⟨s,h1,h2⟩
theorem cz9:Tryz.prog.cellsOf 9=1:=by kernel_rfl
theorem qDR:Tryz.prog.cellsOf 51=2:=by kernel_rfl
def q59 (x:qc):Prop:=(Lit.int .i64 x.School).wf=true∧x.Code.size≤maxLen
theorem qFu:∀(n:Nat) (ds:List D),Zp Tryz.prog n 51 ds→∃v:qc,ds=[D.int .i64 v.School,D.str v.Code]∧q59 v:=by
 intro n ds h
 cases n with
 | zero=>exact h.elim
 | succ n=>
  unfold Zp at h
  rw[Tryz.underlying51] at h
  obtain⟨hl,hf⟩:=h
  rw[qDR] at hl
  have h0:Zp Tryz.prog n 3 ((ds.drop 0).take (Tryz.prog.cellsOf 3)):=hf _ (List.mem_of_getElem? (i:=0) rfl)
  rw[cz3] at h0
  obtain⟨v0,e0,w0⟩:=ty3 _ _ h0
  have c0:=q0G ds 0 1
  rw[e0] at c0
  have h1:Zp Tryz.prog n 9 ((ds.drop 1).take (Tryz.prog.cellsOf 9)):=hf _ (List.mem_of_getElem? (i:=1) rfl)
  rw[cz9] at h1
  obtain⟨v1,e1,w1⟩:=ty9 _ _ h1
  have c1:=q0G ds 1 1
  rw[e1] at c1
  have cl:ds.drop 2=[]:=List.drop_eq_nil_of_le (by omega)
  refine⟨⟨v0,v1⟩,?_,⟨w0,w1⟩⟩
  have c:ds.drop 0=_:=c0
  simp only[Nat.reduceAdd] at c0 c1 c
  rw[c1,cl] at c
  exact c
theorem qHW:∀(n:Nat) (ds:List D),Zp Tryz.prog n 27 ds→∃v:List qc,ds=[D.sl 2 v.length (v.flatMap qe)]∧(v.length≤maxLen∧∀y∈v,q59 y):=by
 intro n ds h
 cases n with
 | zero=>exact h.elim
 | succ n=>
  unfold Zp at h
  rw[Tryz.underlying27] at h
  obtain⟨m,es,h1,h2,h3,h4⟩:=h
  rw[qDR] at h1 h3 h4
  obtain⟨l,g1,g2,g3⟩:=qd5 (E:=qe) (W:=fun y=>q59 y) (sz:=2) (by decide) m es h3 fun i hi=>by
   obtain⟨v,q1,q2⟩:=qFu n _ (h4 i hi)
   exact⟨v,q1.trans ((q1F v).symm),q2⟩
  refine⟨l,?_,by omega,g3⟩
  rw[h1,g1,g2]
theorem qEI:Tryz.prog.cellsOf 30=5:=by kernel_rfl
theorem qDd:∀(n:Nat),(∀n',n'<n→∀(ds:List D),Zp Tryz.prog n' 30 ds→∃v:qb,ds=[D.int .i64 v.Kind,D.int .i64 v.N,D.int .i64 v.Min,D.sl 2 v.Set.length (v.Set.flatMap qe),D.sl 5 v.L.length (v.L.flatMap qg)]∧q5T v)→∀(ds:List D),Zp Tryz.prog n 28 ds→∃v:List qb,ds=[D.sl 5 v.length (v.flatMap qg)]∧(v.length≤maxLen∧∀y∈v,q5T y):=by
 intro n hE ds h
 cases n with
 | zero=>exact h.elim
 | succ n=>
  unfold Zp at h
  rw[Tryz.underlying28] at h
  obtain⟨m,es,h1,h2,h3,h4⟩:=h
  rw[qEI] at h1 h3 h4
  obtain⟨l,g1,g2,g3⟩:=qd5 (E:=qg) (W:=fun y=>q5T y) (sz:=5) (by decide) m es h3 fun i hi=>by
   obtain⟨v,q1,q2⟩:=hE n (Nat.lt_succ_self n) _ (h4 i hi)
   exact⟨v,q1.trans ((q1Y v).symm),q2⟩
  refine⟨l,?_,by omega,g3⟩
  rw[h1,g1,g2]
theorem qIx:Tryz.prog.cellsOf 27=1:=by kernel_rfl
theorem qJe:Tryz.prog.cellsOf 28=1:=by kernel_rfl
theorem qJw:∀(n:Nat) (ds:List D),Zp Tryz.prog n 30 ds→∃v:qb,ds=[D.int .i64 v.Kind,D.int .i64 v.N,D.int .i64 v.Min,D.sl 2 v.Set.length (v.Set.flatMap qe),D.sl 5 v.L.length (v.L.flatMap qg)]∧q5T v:=by
 intro n
 induction n using Nat.strongRecOn with
 | _ n ih=>
 intro ds h
 cases n with
 | zero=>exact h.elim
 | succ n=>
  unfold Zp at h
  rw[Tryz.underlying30] at h
  obtain⟨hl,hf⟩:=h
  rw[qEI] at hl
  have h0:Zp Tryz.prog n 3 ((ds.drop 0).take (Tryz.prog.cellsOf 3)):=hf _ (List.mem_of_getElem? (i:=0) rfl)
  rw[cz3] at h0
  obtain⟨v0,e0,w0⟩:=ty3 _ _ h0
  have c0:=q0G ds 0 1
  rw[e0] at c0
  have h1:Zp Tryz.prog n 3 ((ds.drop 1).take (Tryz.prog.cellsOf 3)):=hf _ (List.mem_of_getElem? (i:=1) rfl)
  rw[cz3] at h1
  obtain⟨v1,e1,w1⟩:=ty3 _ _ h1
  have c1:=q0G ds 1 1
  rw[e1] at c1
  have h2:Zp Tryz.prog n 3 ((ds.drop 2).take (Tryz.prog.cellsOf 3)):=hf _ (List.mem_of_getElem? (i:=2) rfl)
  rw[cz3] at h2
  obtain⟨v2,e2,w2⟩:=ty3 _ _ h2
  have c2:=q0G ds 2 1
  rw[e2] at c2
  have h3:Zp Tryz.prog n 27 ((ds.drop 3).take (Tryz.prog.cellsOf 27)):=hf _ (List.mem_of_getElem? (i:=3) rfl)
  rw[qIx] at h3
  obtain⟨v3,e3,w3⟩:=qHW _ _ h3
  have c3:=q0G ds 3 1
  rw[e3] at c3
  have h4:Zp Tryz.prog n 28 ((ds.drop 4).take (Tryz.prog.cellsOf 28)):=hf _ (List.mem_of_getElem? (i:=4) rfl)
  rw[qJe] at h4
  obtain⟨v4,e4,w4⟩:=qDd _ (fun n' hn'=>ih n' (by omega)) _ h4
  have c4:=q0G ds 4 1
  rw[e4] at c4
  have cl:ds.drop 5=[]:=List.drop_eq_nil_of_le (by omega)
  refine⟨⟨v0,v1,v2,v3,v4⟩,?_,trivial⟩
  have c:ds.drop 0=_:=c0
  simp only[Nat.reduceAdd] at c0 c1 c2 c3 c4 c
  rw[c1,c2,c3,c4,cl] at c
  exact c
theorem qFM:Tryz.prog.cellsOf 32=3:=by kernel_rfl
def qd6 (x:qf):Prop:=(Lit.int .i64 x.Worst).wf=true∧(Lit.int .i64 x.Best).wf=true∧(Lit.int .i64 x.Pass).wf=true
theorem qId:∀(n:Nat) (ds:List D),Zp Tryz.prog n 32 ds→∃v:qf,ds=[D.int .i64 v.Worst,D.int .i64 v.Best,D.int .i64 v.Pass]∧qd6 v:=by
 intro n ds h
 cases n with
 | zero=>exact h.elim
 | succ n=>
  unfold Zp at h
  rw[Tryz.underlying32] at h
  obtain⟨hl,hf⟩:=h
  rw[qFM] at hl
  have h0:Zp Tryz.prog n 3 ((ds.drop 0).take (Tryz.prog.cellsOf 3)):=hf _ (List.mem_of_getElem? (i:=0) rfl)
  rw[cz3] at h0
  obtain⟨v0,e0,w0⟩:=ty3 _ _ h0
  have c0:=q0G ds 0 1
  rw[e0] at c0
  have h1:Zp Tryz.prog n 3 ((ds.drop 1).take (Tryz.prog.cellsOf 3)):=hf _ (List.mem_of_getElem? (i:=1) rfl)
  rw[cz3] at h1
  obtain⟨v1,e1,w1⟩:=ty3 _ _ h1
  have c1:=q0G ds 1 1
  rw[e1] at c1
  have h2:Zp Tryz.prog n 3 ((ds.drop 2).take (Tryz.prog.cellsOf 3)):=hf _ (List.mem_of_getElem? (i:=2) rfl)
  rw[cz3] at h2
  obtain⟨v2,e2,w2⟩:=ty3 _ _ h2
  have c2:=q0G ds 2 1
  rw[e2] at c2
  have cl:ds.drop 3=[]:=List.drop_eq_nil_of_le (by omega)
  refine⟨⟨v0,v1,v2⟩,?_,⟨w0,w1,w2⟩⟩
  have c:ds.drop 0=_:=c0
  simp only[Nat.reduceAdd] at c0 c1 c2 c
  rw[c1,c2,cl] at c
  exact c
theorem qFC:Tryz.prog.cellsOf 53=8:=by kernel_rfl
def q1Z (x:qa):Prop:=q59 x.Course∧(Lit.int .i64 x.Credits).wf=true∧(Lit.int .i64 x.Grade).wf=true∧(Lit.int .i64 x.Day).wf=true∧(x.Sources.length≤maxLen∧∀y∈x.Sources,(Lit.int .i64 y).wf=true)∧(Lit.int .i64 x.Bundle).wf=true∧(x.Path.length≤maxLen∧∀y∈x.Path,(Lit.int .i64 y).wf=true)
theorem qIB:∀(n:Nat) (ds:List D),Zp Tryz.prog n 53 ds→∃v:qa,ds=[D.int .i64 v.Course.School,D.str v.Course.Code,D.int .i64 v.Credits,D.int .i64 v.Grade,D.int .i64 v.Day,D.sl 1 v.Sources.length (v.Sources.flatMap eI),D.int .i64 v.Bundle,D.sl 1 v.Path.length (v.Path.flatMap eI)]∧q1Z v:=by
 intro n ds h
 cases n with
 | zero=>exact h.elim
 | succ n=>
  unfold Zp at h
  rw[Tryz.underlying53] at h
  obtain⟨hl,hf⟩:=h
  rw[qFC] at hl
  have h0:Zp Tryz.prog n 51 ((ds.drop 0).take (Tryz.prog.cellsOf 51)):=hf _ (List.mem_of_getElem? (i:=0) rfl)
  rw[qDR] at h0
  obtain⟨v0,e0,w0⟩:=qFu _ _ h0
  have c0:=q0G ds 0 2
  rw[e0] at c0
  have h1:Zp Tryz.prog n 3 ((ds.drop 2).take (Tryz.prog.cellsOf 3)):=hf _ (List.mem_of_getElem? (i:=1) rfl)
  rw[cz3] at h1
  obtain⟨v1,e1,w1⟩:=ty3 _ _ h1
  have c1:=q0G ds 2 1
  rw[e1] at c1
  have h2:Zp Tryz.prog n 3 ((ds.drop 3).take (Tryz.prog.cellsOf 3)):=hf _ (List.mem_of_getElem? (i:=2) rfl)
  rw[cz3] at h2
  obtain⟨v2,e2,w2⟩:=ty3 _ _ h2
  have c2:=q0G ds 3 1
  rw[e2] at c2
  have h3:Zp Tryz.prog n 3 ((ds.drop 4).take (Tryz.prog.cellsOf 3)):=hf _ (List.mem_of_getElem? (i:=3) rfl)
  rw[cz3] at h3
  obtain⟨v3,e3,w3⟩:=ty3 _ _ h3
  have c3:=q0G ds 4 1
  rw[e3] at c3
  have h4:Zp Tryz.prog n 22 ((ds.drop 5).take (Tryz.prog.cellsOf 22)):=hf _ (List.mem_of_getElem? (i:=4) rfl)
  rw[qB9] at h4
  obtain⟨v4,e4,w4⟩:=ty22 _ _ h4
  have c4:=q0G ds 5 1
  rw[e4] at c4
  have h5:Zp Tryz.prog n 3 ((ds.drop 6).take (Tryz.prog.cellsOf 3)):=hf _ (List.mem_of_getElem? (i:=5) rfl)
  rw[cz3] at h5
  obtain⟨v5,e5,w5⟩:=ty3 _ _ h5
  have c5:=q0G ds 6 1
  rw[e5] at c5
  have h6:Zp Tryz.prog n 22 ((ds.drop 7).take (Tryz.prog.cellsOf 22)):=hf _ (List.mem_of_getElem? (i:=6) rfl)
  rw[qB9] at h6
  obtain⟨v6,e6,w6⟩:=ty22 _ _ h6
  have c6:=q0G ds 7 1
  rw[e6] at c6
  have cl:ds.drop 8=[]:=List.drop_eq_nil_of_le (by omega)
  refine⟨⟨v0,v1,v2,v3,v4,v5,v6⟩,?_,⟨w0,w1,w2,w3,w4,w5,w6⟩⟩
  have c:ds.drop 0=_:=c0
  simp only[Nat.reduceAdd] at c0 c1 c2 c3 c4 c5 c6 c
  rw[c1,c2,c3,c4,c5,c6,cl] at c
  exact c
theorem qHz:∀(n:Nat) (ds:List D),Zp Tryz.prog n 33 ds→∃v:List qa,ds=[D.sl 8 v.length (v.flatMap qd)]∧(v.length≤maxLen∧∀y∈v,q1Z y):=by
 intro n ds h
 cases n with
 | zero=>exact h.elim
 | succ n=>
  unfold Zp at h
  rw[Tryz.underlying33] at h
  obtain⟨m,es,h1,h2,h3,h4⟩:=h
  rw[qFC] at h1 h3 h4
  obtain⟨l,g1,g2,g3⟩:=qd5 (E:=qd) (W:=fun y=>q1Z y) (sz:=8) (by decide) m es h3 fun i hi=>by
   obtain⟨v,q1,q2⟩:=qIB n _ (h4 i hi)
   exact⟨v,q1.trans ((J9 v).symm),q2⟩
  refine⟨l,?_,by omega,g3⟩
  rw[h1,g1,g2]
theorem qI7:Tryz.prog.cellsOf 33=1:=by kernel_rfl
theorem qIc:Tryz.prog.cellsOf 35=9:=by kernel_rfl
def qdo (x:qV):Prop:=q5T x.Need∧qd6 x.Scale∧(x.L.length≤maxLen∧∀y∈x.L,q1Z y)
theorem ty35:∀(n:Nat) (ds:List D),Zp Tryz.prog n 35 ds→∃v:qV,ds=[D.int .i64 v.Need.Kind,D.int .i64 v.Need.N,D.int .i64 v.Need.Min,D.sl 2 v.Need.Set.length (v.Need.Set.flatMap qe),D.sl 5 v.Need.L.length (v.Need.L.flatMap qg),D.int .i64 v.Scale.Worst,D.int .i64 v.Scale.Best,D.int .i64 v.Scale.Pass,D.sl 8 v.L.length (v.L.flatMap qd)]∧qdo v:=by
 intro n ds h
 cases n with
 | zero=>exact h.elim
 | succ n=>
  unfold Zp at h
  rw[Tryz.underlying35] at h
  obtain⟨hl,hf⟩:=h
  rw[qIc] at hl
  have h0:Zp Tryz.prog n 30 ((ds.drop 0).take (Tryz.prog.cellsOf 30)):=hf _ (List.mem_of_getElem? (i:=0) rfl)
  rw[qEI] at h0
  obtain⟨v0,e0,w0⟩:=qJw _ _ h0
  have c0:=q0G ds 0 5
  rw[e0] at c0
  have h1:Zp Tryz.prog n 32 ((ds.drop 5).take (Tryz.prog.cellsOf 32)):=hf _ (List.mem_of_getElem? (i:=1) rfl)
  rw[qFM] at h1
  obtain⟨v1,e1,w1⟩:=qId _ _ h1
  have c1:=q0G ds 5 3
  rw[e1] at c1
  have h2:Zp Tryz.prog n 33 ((ds.drop 8).take (Tryz.prog.cellsOf 33)):=hf _ (List.mem_of_getElem? (i:=2) rfl)
  rw[qI7] at h2
  obtain⟨v2,e2,w2⟩:=qHz _ _ h2
  have c2:=q0G ds 8 1
  rw[e2] at c2
  have cl:ds.drop 9=[]:=List.drop_eq_nil_of_le (by omega)
  refine⟨⟨v0,v1,v2⟩,?_,⟨w0,w1,w2⟩⟩
  have c:ds.drop 0=_:=c0
  simp only[Nat.reduceAdd] at c0 c1 c2 c
  rw[c1,c2,cl] at c
  exact c
end Go.Proofs.YtgejdfnidjnjcaaGreat.Vc
namespace Go.Proofs.YtgejdfnidjnjcaaGreat.Vc
open Go.RowKit
theorem qd4.szs3 {n:qb} (h:qd4 3 n):Szs n:=⟨by have:=h.hg;omega,by have:=h.nd;have:bdN 3=40:=rfl;omega,fun y hy=>by have:=(h.ok y hy).1;omega⟩
theorem qd4.sm3 {n:qb} (h:qd4 3 n):∀y∈ndN n,Sm y:=fun y hy=>⟨by have:=(h.ok y hy).1;omega,fun c hc=>by have:=(h.ok y hy).2 c hc;omega⟩
theorem qlX (l:List qa):q2D l=some (l.take 5):=by
 unfold q2D
 rw[if_pos ⟨by omega,by omega⟩]
 congr 1
 by_cases h:l.length≤5
 ·rw[show Int.toNat (min (l.length:Int) 5)-0=l.length by omega,List.take_length,List.take_of_length_le h]
 ·rw[show Int.toNat (min (l.length:Int) 5)-0=5 by omega]
theorem qlu {n:qb} (hz:Szs n) (hsm:∀y∈ndN n,Sm y) (s:qf) (l:List qa) (hl:l.length≤10) (raw:qV) (w3:List (List Int)) (h4:∀y∈w3,y.length≤100) (h5:w3.length≤100) (t7:Bool):qX (Qo w3 raw n s t7 l ((w3.length:Nat):Int)) (0:Int)=some (.inr ()):=by
 obtain⟨z,z1,z2⟩:=qzQ 3 (by decide) raw.Need
 have z1':ZW (raw.Need,(3:Int))=some z:=z1
 have hl2:(raw.L.take 5).length≤10:=by rw[List.length_take];omega
 have:=J3 (step:=Qo w3 raw n s t7 l ((w3.length:Nat):Int)) (e := .inr ()) (fun i=>(i:Int)) 0 w3.length (Nat.zero_le _) (fun i _ hi=>by
  have hw:w64 ((i:Int)+1)=((i+1:Nat):Int):=qY (n:=10000) (by omega) (by omega)
  have hr:w3[i]?=some w3[i]:=List.getElem?_eq_getElem hi
  have hd:=h4 _ (List.getElem_mem hi)
  generalize w3[i]=d at hr hd
  unfold Qo
  rw[if_pos (by omega),if_pos ⟨by omega,by omega⟩,Int.toNat_natCast,hr,Option.bind_some,qdx hz s l hl d hd,Option.bind_some,qdJ hz hsm s l hl d hd,Option.bind_some,if_neg (by simp),z1',Option.bind_some,qlX,Option.bind_some,qdx z2.szs3 raw.Scale _ hl2 d hd,Option.bind_some,Option.bind_some,Option.bind_some,qdJ z2.szs3 z2.sm3 raw.Scale _ hl2 d hd,Option.bind_some,if_neg (by simp),hw]) (by
  unfold Qo
  rw[if_neg (by omega)])
 exact this
theorem qqh (s:qf) (l:List qa) (n:qb) (i:Nat) (h:(Q3 (2 ^ l.length) (Q1 [] s l n 0))[i]?=some true):1≤l.length:=by
 rcases Nat.eq_zero_or_pos l.length with e|e
 ·have hi:=q08 h
  rw[qM,e] at hi
  have:i=0:=by omega
  subst this
  rw[Zb _ (by rw[e];decide)] at h
  have h0:Q1 [] s l n 0 0=false:=by
   rw[qaq]
   unfold Zx
   split<;>simp
  rw[h0] at h
  cases h
 ·exact e
theorem qfH (x0:q1W) (w0:qbH x0) (x1:qV) (w1:qdo x1) (x2:List Int) (w2:x2.length≤maxLen∧∀y∈x2,(Lit.int .i64 y).wf=true):q2t x0 x1 x2=some true:=by
 obtain⟨h1,h2,_⟩:=w0
 obtain⟨n,l0,e1,hn,hl0,_⟩:=qlD (c:=x0) ⟨h1.1,h2.1⟩
 have hl:(l0.take 5).length≤5:=by rw[List.length_take];omega
 have hz:=qeU hn
 have hsm:=qtT hn
 have hL:(List.take (Int.toNat (min ((x2.length:Nat):Int) (8:Int))-0) x2).length≤8:=by rw[List.length_take];omega
 unfold q2t
 rw[qjY,Option.bind_some,e1,Option.bind_some]
 simp only
 rw[if_pos (show(0:Int)≤min ((x2.length:Nat):Int) (8:Int)∧min ((x2.length:Nat):Int) (8:Int)≤((x2.length:Nat):Int) from ⟨by omega,by omega⟩)]
 generalize List.take (Int.toNat (min ((x2.length:Nat):Int) (8:Int))-0) x2=f at hL
 obtain⟨S,s1,s2⟩:=qr1 x1 n (qN 1) f true l0 f (by omega) f.length 0 [] (by omega) rfl
 have s1':qX (Z3 x1 n (qN 1) f true l0 f ((f.length:Nat):Int)) ([],(0:Int))=some S:=s1
 rw[s1',Option.bind_some,if_pos (show(0:Int)≤min ((S.length:Nat):Int) ((l0.length:Nat):Int)∧min ((S.length:Nat):Int) ((l0.length:Nat):Int)≤((S.length:Nat):Int) from ⟨by omega,by omega⟩),qlX,Option.bind_some]
 have hS3:(List.take (Int.toNat (min ((S.length:Nat):Int) ((l0.length:Nat):Int))) S).length≤8:=by rw[List.length_take];omega
 generalize List.take (Int.toNat (min ((S.length:Nat):Int) ((l0.length:Nat):Int))) S=g at hS3
 generalize l0.take 5=l at hl
 have hp:2 ^ l.length≤32:=Nat.pow_le_pow_right (by decide) hl
 rw[qj0 (qpi hn) hsm _ l (by omega),Option.bind_some]
 simp only
 have hne:=qqh (qN 1) l n
 have hA:(Q3 (2 ^ l.length) (Q1 [] (qN 1) l n 0)).length=2 ^ l.length:=qM _ _
 generalize Q3 (2 ^ l.length) (Q1 [] (qN 1) l n 0)=A at hA hne
 have hw:∀y∈[f,S,g],y.length≤100:=fun y hy=>by
  rcases List.mem_cons.1 hy with e|hy
  ·rw[e];omega
  rcases List.mem_cons.1 hy with e|hy
  ·rw[e];omega
  ·rw[List.mem_singleton.1 hy];omega
 have r1:=qoC hz hsm (qN 1) l (by omega) [f,S,g] x1 f (by omega) true l0 A (by omega) hne A.length 0 (by omega)
 have r1':qX (Qp [f,S,g] x1 n (qN 1) f true l0 l A ((A.length:Nat):Int)) (0:Int)=some (.inr ()):=r1
 have r2:=qlu hz hsm (qN 1) l0 (by omega) x1 [f,S,g] hw (by simp) true
 have r2':qX (Qo [f,S,g] x1 n (qN 1) true l0 (3:Int)) (0:Int)=some (.inr ()):=r2
 rw[r1',Option.bind_some,Sum.elim_inr,r2',Option.bind_some,Sum.elim_inr]
end Go.Proofs.YtgejdfnidjnjcaaGreat.Vc
namespace Go.Proofs.YtgejdfnidjnjcaaGreat
open Go.ChangeShapes Go.WideShapes Go.ChangeAt Go.RowKit Go.ChangeMaps
theorem own:ownKnob Tryz.prog.godebug=none:=by kernel_rfl
theorem quf:laidOutB Tryz.prog=true:=by kernel_rfl
section
variable {H:Type} {enc:TypeId×Value→H} {P:Program} {W W':World}
theorem qgs (hl:laidOutB P=true) (hb:Below W.heap.size W W'):∀{ts:List TypeId} {vs:List Value} {ds:List (DataW H)} {ps:List MemPlace},(∀t∈ts,P.readableRec t=true∧t<P.types.size)→
  DataW.TrodAll enc P W 0 (fun _=>true) true ts vs ds ps→(∀p∈ps,p.block<W.heap.size)→DataW.TrodAll enc P W' 0 (fun b=>decide (b<W.heap.size)) true ts vs ds ps
 | [],_,_,_,_,h,_=>by
  obtain⟨rfl,rfl,rfl⟩:=trodAll_nil h
  exact trodAll_mk0
 | t::ts,_,_,_,ht,h,hlt=>by
  obtain⟨v,vs,d,ds,p,q,rfl,rfl,rfl,h1,h2⟩:=trodAll_cons h
  exact trodAll_cons_mk (Below.trod hl (ht t List.mem_cons_self).1 (ht t List.mem_cons_self).2 h1 hb (fun x hx=>hlt x (List.mem_append_left _ hx)))
   (qgs hl hb (fun u hu=>ht u (List.mem_cons_of_mem _ hu)) h2 (fun x hx=>hlt x (List.mem_append_right _ hx)))
theorem qpT {f:Func} {s:ChangeSpec} {apart fresh handsOn:Bool} {args:Array Value} {ds gs:List (DataW H)} {before:List MemPlace} {tb:TypeId} (hl:laidOutB P=true)
  (hts:∀t∈f.params.toList,P.readableRec t=true∧t<P.types.size) (hr:f.resultTypes=#[tb]) (htb:P.underlying tb=some .bool) (hv:s.vars=[])
  (h1:(s.fn H (ds++gs)).results=[.lit (.bool true)]) (h2:(s.fn H (ds++gs)).args=ds) (h3:(s.fn H (ds++gs)).vars=[])
  (hW:DataW.Whole enc P f.params.toList s.vars apart W args.toList ds gs before) (hb:Below W.heap.size W W') :
  s.post enc P f apart fresh handsOn false W args (.bool true) W':=by
 have hlt:∀p∈before,p.block<W.heap.size:=fun p hp=>hW.lt p hp
 have hW2:=hW
 obtain⟨pa,pv,hA,hV,hp,-,-⟩:=hW2
 rw[hv] at hV
 obtain⟨rfl,rfl⟩:=trodVars_none hV
 rw[List.append_nil] at hp
 subst hp
 refine⟨ds,[],before,[],before,[],hW,?_,?_,?_,?_,fun h=>by cases h⟩
 ·rw[h1,hr]
  exact trodAll_mk1 (shut_bool htb true)
 ·rw[h2]
  exact qgs hl hb hts hA hlt
 ·rw[h3,hv]
  exact hV
 ·exact World.keptBut_mono (fun p hp=>⟨hp,.inr (.inl hp)⟩) (hb.frame (·∈before))
end
end Go.Proofs.YtgejdfnidjnjcaaGreat
