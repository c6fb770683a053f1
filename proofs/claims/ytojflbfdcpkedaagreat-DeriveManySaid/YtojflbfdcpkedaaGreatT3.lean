/- Part 3 of a proof. -/
import Derived.Test.YtojflbfdcpkedaaGreatT2
import Derived.Calls
import Derived.Laws.AppendOwn
import Derived.Sort.Grow
import Derived.Deep.Draws
import Derived.Shelf.SlSortCmp.Kit1
import Derived.Shelf.SlSortCmp.Whole1
import Derived.Shelf.Small.Bits
import Derived.Shelf.Strconv.Itoa0
import Derived.Shelf.SlSortCmp.Insertion
import Derived.Shelf.SlSortCmp.SiftDown1
import Derived.Shelf.SlSortCmp.HeapSort1
import Derived.Shelf.SlSortCmp.Insertion1
import Derived.Shelf.SlSortCmp.Median1
import Derived.Shelf.SlSortCmp.Pivot1
import Derived.Shelf.SlSortCmp.ReverseRange1
import Derived.Shelf.SlSortCmp.PartialInsertion1
import Derived.Shelf.SlSortCmp.PartitionEqual1
import Derived.Shelf.SlSortCmp.Partition1
import Derived.Shelf.SlSortCmp.Pdq1
import Derived.Test.YtojflbfdcpkedaaGreatProg
import Derived.TacticsInMore
import Derived.Below
import Derived.Shelf.SlMaps.Clone
import Derived.Shelf.SlIter.Sorted
import Derived.Shelf.RegionOpenPlain
import Derived.WalkKit
import Derived.Deep.LoopGhost
import Derived.Deep.RegionLaw
import Derived.Lib.Walk
import Derived.Sort.WalkB12
import Derived.Lib.SliceRun
set_option linter.unusedVariables false
set_option linter.unusedSimpArgs false
set_option linter.defProp false
set_option linter.unusedSectionVars false
set_option linter.unnecessarySimpa false
namespace Go.Proofs.YtojflbfdcpkedaaGreat.Vc
noncomputable section
open Go.RowKit
def stT (ops:List Oper) (tx:Nat→Tx) (s0:S) (p:Nat→Bool):Nat→S
 | 0=>s0
 | i+1=>if p i=true then(((stT ops tx s0 p i).up (tx i).1.2).kill (tx i).2.ks).put (q8p ops i) (tx i).1.1 else stT ops tx s0 p i
section comb
variable {ops:List Oper} {tx:Nat→Tx} {s0:S}
theorem q91 {p q:Nat→Bool} {d:Nat}:∀k,(∀i,i<k→q8p ops i=some d∨d∈(tx i).2.ks→p i=q i)→(stT ops tx s0 p k).get d=(stT ops tx s0 q k).get d
 | 0,_=>rfl
 | k+1,h=>by
  have ih:=q91 k (fun i hi=>h i (by omega))
  have key:∀(p:Nat→Bool),(stT ops tx s0 p (k+1)).get d=if p k=true then(if q8p ops k=some d then(tx k).1.1 else if d∈(tx k).2.ks then .any else(stT ops tx s0 p k).get d) else(stT ops tx s0 p k).get d:=fun p=>by
   show(if p k=true then _ else _:S).get d=_
   by_cases hp:p k=true
   ·rw[if_pos hp,if_pos hp,S.put_get,S.kill_get,S.up_get]
   ·rw[if_neg hp,if_neg hp]
  rw[key,key,ih]
  by_cases hd:q8p ops k=some d∨d∈(tx k).2.ks
  ·rw[h k (by omega) hd]
  ·rw[if_neg (fun h=>hd (.inl h)),if_neg (fun h=>hd (.inr h))]
   split<;>split<;>rfl
theorem q7H {p q:Nat→Bool} {x:Nat}:∀k,(∀i,i<k→(∃b,(x,b)∈(tx i).1.2)→p i=q i)→(stT ops tx s0 p k).blk x=(stT ops tx s0 q k).blk x
 | 0,_=>rfl
 | k+1,h=>by
  have ih:=q7H k (fun i hi=>h i (by omega))
  have key:∀(p:Nat→Bool),(stT ops tx s0 p (k+1)).blk x=if p k=true then lk (tx k).1.2 x ((stT ops tx s0 p k).blk x) else(stT ops tx s0 p k).blk x:=fun p=>by
   show(if p k=true then _ else _:S).blk x=_
   split
   ·rw[S.put_blk,S.kill_blk,qaf]
   ·rfl
  rw[key,key,ih]
  by_cases hd:∃b,(x,b)∈(tx k).1.2
  ·rw[h k (by omega) hd]
  ·rw[q3P _ x _ (fun b hb=>hd ⟨b,hb⟩)]
   split<;>split<;>rfl
theorem qn5 {p:Nat→Bool} {j:Nat}:∀k,j≤k→stT ops tx s0 (fun i=>p i&&decide (i<j)) k=stT ops tx s0 p j
 | 0,h=>by
  have:j=0:=by omega
  subst this;rfl
 | k+1,h=>by
  have heq:∀l,l≤j→stT ops tx s0 (fun i=>p i&&decide (i<j)) l=stT ops tx s0 p l:=by
   intro l
   induction l with
   | zero=>intro _;rfl
   | succ l ih=>
    intro hl
    unfold stT
    rw[ih (by omega)]
    have:decide (l<j)=true:=qMe (by omega)
    simp only[this,qMg]
  by_cases hj:j=k+1
  ·subst hj;exact heq _ (qLt _)
  ·have ih:=qn5 (p:=p) (j:=j) k (by omega)
   have e1:∀q:Nat→Bool,stT ops tx s0 q (k+1)=if q k=true then(((stT ops tx s0 q k).up (tx k).1.2).kill (tx k).2.ks).put (q8p ops k) (tx k).1.1 else stT ops tx s0 q k:=fun _=>rfl
   rw[e1,if_neg (by simp;omega)]
   exact ih
theorem qil {α:Type} {Pr:α→Prop} {i:Nat} {z:α} (hz:Pr z):∀{t:List (Nat×α)},(∀u∈t,u.1=i→Pr u.2)→Pr (lk t i z)
 | [],_=>hz
 | (j,x)::t,h=>by
  unfold lk
  split
  ·rename_i hj;exact h (j,x) qLs hj
  ·exact qil hz (fun u hu=>h u (qLl _ hu))
theorem qnM {fp:Fp} (h0:qxC fp s0=true) (p:Nat→Bool):∀k,(∀i,i<k→p i=true→qkH ops fp i (tx i)=true)→(∀d,d ∉ fp.ks→((stT ops tx s0 p k).get d).fgL fp.X=(stT ops tx s0 p k).get d)∧∀x,x ∉ fp.wb→((stT ops tx s0 p k).blk x).fgL fp.X=(stT ops tx s0 p k).blk x
 | 0,_=>by
  simp only[qxC,qLJ,qLu,qLI] at h0
  refine⟨fun d hd=>?_,fun x hx=>?_⟩
  ·refine qil (Pr:=fun r:R=>r.fgL fp.X=r) rfl (fun u hu he=>?_)
   rcases h0.1 u hu with h|h
   ·exact absurd (by simpa using h) (he ▸ hd)
   ·exact qDP h
  ·refine qil (Pr:=fun r:B=>r.fgL fp.X=r) rfl (fun u hu he=>?_)
   rcases h0.2 u hu with h|h
   ·exact absurd (by simpa using h) (he ▸ hx)
   ·exact qG0 h
 | k+1,h1=>by
  obtain⟨g1,g2⟩:=qnM h0 p k (fun i hi=>h1 i (by omega))
  unfold stT
  split
  ·rename_i hp
   have hx:=h1 k (by omega) hp
   simp only[qkH,qLJ,qLu,qLI] at hx
   refine⟨fun d hdk=>?_,fun x hxw=>?_⟩
   ·rw[S.put_get,S.kill_get,S.up_get]
    split
    ·rename_i hd
     rcases hx.1 with h|h
     ·exact qDP h
     ·rw[hd] at h
      exact absurd (by simpa using h) hdk
    ·split
     ·rfl
     ·exact g1 d hdk
   ·rw[S.put_blk,S.kill_blk,qaf]
    refine qil (Pr:=fun r:B=>r.fgL fp.X=r) (g2 x hxw) (fun u hu he=>?_)
    rcases hx.2 u hu with h|h
    ·exact absurd (by simpa using h) (he ▸ hxw)
    ·exact qG0 h
  ·exact⟨g1,g2⟩
theorem ql3 {A:List (List Nat)} {fp:Fp} {j:Nat}:∀{l:List Tx} {i:Nat},qv8 ops A fp j i l=true→∀(k:Nat) (y:Tx),l[k]?=some y→i+k=j∨j∈A.getD (i+k) []∨qkH ops fp (i+k) y=true
 | [],i,_,k,y,hk=>by simp at hk
 | x::l,i,h,k,y,hk=>by
  simp only[qv8,qLJ,qLI,beq_iff_eq,qLS] at h
  cases k with
  | zero=>
   simp only[qLn,qM3] at hk
   subst hk
   rcases h.1 with (h|h)|h
   ·exact .inl h
   ·exact .inr (.inl h)
   ·exact .inr (.inr h)
  | succ k=>
   have:=ql3 h.2 k y (by simpa using hk)
   rw[show i+1+k=i+(k+1) by omega] at this
   exact this
theorem qri {A:List (List Nat)} {l0:List Tx}:∀{l:List Tx} {j:Nat},okX ops A s0 l0 j l=true→∀(k:Nat) (x:Tx),l[k]?=some x→x.2.X=[]∨(qxC x.2 s0=true∧qv8 ops A x.2 (j+k) 0 l0=true)
 | [],j,_,k,x,hk=>by simp at hk
 | y::l,j,h,k,x,hk=>by
  simp only[okX,qLJ] at h
  cases k with
  | zero=>
   simp only[qLn,qM3] at hk
   subst hk
   have h1:=h.1
   split at h1
   ·rename_i he;exact .inl (by simpa using he)
   ·simp only[qLJ] at h1;exact .inr h1
  | succ k=>
   have:=qri h.2 k x (by simpa using hk)
   rw[show j+1+k=j+(k+1) by omega] at this
   exact this
theorem qnE {A:List (List Nat)} {j:Nat} {y:Tx}:∀{l:List Tx} {i:Nat},qsS ops A j y i l=true→∀(k:Nat) (x:Tx),l[k]?=some x→i+k<j→q8h ops (i+k) j x y=true→i+k∈A.getD j []
 | [],i,_,k,x,hk=>by simp at hk
 | z::l,i,h,k,x,hk=>by
  simp only[qsS,qLJ,qLI,Bool.not_eq_true',qLS,decide_eq_false_iff_not] at h
  cases k with
  | zero=>
   simp only[qLn,qM3] at hk
   subst hk
   intro h1 h2
   rcases h.1 with (h|h)|h
   ·exact absurd h1 h
   ·rw[Nat.add_zero] at h2;rw[h] at h2;cases h2
   ·exact h
  | succ k=>
   have:=qnE h.2 k x (by simpa using hk)
   rw[show i+1+k=i+(k+1) by omega] at this
   exact this
theorem qmE {A:List (List Nat)} {l0:List Tx}:∀{l:List Tx} {j:Nat},qw5 ops A l0 j l=true→∀(k:Nat) (y:Tx),l[k]?=some y→qsS ops A (j+k) y 0 l0=true
 | [],j,_,k,y,hk=>by simp at hk
 | z::l,j,h,k,y,hk=>by
  simp only[qw5,qLJ] at h
  cases k with
  | zero=>simp only[qLn,qM3] at hk;subst hk;exact h.1
  | succ k=>
   have:=qmE h.2 k y (by simpa using hk)
   rw[show j+1+k=j+(k+1) by omega] at this
   exact this
theorem qzJ {A:List (List Nat)} {l:List Tx} (h:okK ops A l=true) {i j:Nat} {x y:Tx} (hij:i<j) (hx:l[i]?=some x) (hy:l[j]?=some y) (hc:q8h ops i j x y=true):i∈A.getD j []:=by
 unfold okK at h
 rw[qLI] at h
 rcases h with h|h
 ·rw[qLu] at h
  have h1:=h x (qLe hx)
  have h2:=h y (qLe hy)
  rw[List.isEmpty_iff] at h1 h2
  unfold q8h at hc
  rw[h1,h2] at hc
  cases hc
 ·have h1:=qmE h j y hy
  rw[qLB] at h1
  have h2:=qnE h1 i x hx
  rw[qLB] at h2
  exact h2 hij hc
theorem qf0 {i d:Nat} {o:Oper} (ho:ops[i]?=some o) (h:d∈q5l ops o∨o.dst=some d):(qmc ops i).contains d=true:=by
 unfold qmc
 rw[ho]
 simp only[qLS,qLH]
 rcases h with h|h
 ·exact .inl h
 ·exact .inr (by rw[h];simp)
theorem qjU {a b:Fp} (h:a.none?=true):q63 a b=false:=by
 simp only[Fp.none?,qLJ,List.isEmpty_iff] at h
 simp[q63,h.1,h.2]
theorem qr7 {A:List (List Nat)}:∀{l:List Tx} {j:Nat} {prev:List (Nat×Fp)},okP A j prev l=true→
  (∀(k:Nat) (x:Tx),l[k]?=some x→(∀q∈prev,q63 q.2 x.2=true→q.1∈A.getD (j+k) [])∧∀(i:Nat) (y:Tx),i<k→l[i]?=some y→q63 y.2 x.2=true→j+i∈A.getD (j+k) [])
 | [],j,prev,_,k,x,hk=>by simp at hk
 | x0::l,j,prev,h,k,x,hk=>by
  simp only[okP,qLJ,qLu] at h
  cases k with
  | zero=>
   simp only[qLn,qM3] at hk
   subst hk
   refine⟨fun q hq hc=>?_,fun i y hi=>by omega⟩
   have h1:=h.1 q hq
   rw[if_pos hc] at h1
   simpa using h1
  | succ k=>
   obtain⟨g1,g2⟩:=qr7 h.2 k x (by simpa using hk)
   have e1:j+1+k=j+(k+1):=by omega
   rw[e1] at g1 g2
   refine⟨fun q hq hc=>?_,fun i y hi hy hc=>?_⟩
   ·refine g1 q ?_ hc
    split
    ·exact hq
    ·exact qLl _ hq
   ·cases i with
    | zero=>
     simp only[qLn,qM3] at hy
     subst hy
     by_cases hn:x0.2.none?=true
     ·rw[qjU hn] at hc;cases hc
     ·refine g1 (j,x0.2) ?_ hc
      rw[if_neg hn];exact qLs
    | succ i=>
     have:=g2 i y (by omega) (by simpa using hy) hc
     rw[show j+(i+1)=j+1+i by omega];exact this
end comb
section
variable {P:Program} {T:Ty} {po:Pol} {E:Orc} {cx:Cx}
theorem qz6 (hA:Ag P T) (hE:Snd P E) {ops:Array Oper} {Q:Exit→Act→World→Prop} {q:Nat} {o:Oper} {s s':S} {ρ:Pl} {a:Act} {w:World} (hq:ops[q]?=some o) (hs:Sim cx ρ s a w) (h:xr P T po E ops.toList (ops.toList.drop q) s=some s') :
  wpOpIn (FW cx.ro) 0 P ops Q q (fun a' w'=>∃ρ' s1,Sim cx ρ' s1 a' w'∧xr P T po E ops.toList (ops.toList.drop (q+1)) s1=some s') a w:=by
 have hd:ops.toList.drop q=o::ops.toList.drop (q+1):=by
  have hlt:q<ops.toList.length:=by have:=(Array.getElem?_eq_some_iff.1 hq).1;simpa using this
  rw[List.drop_eq_getElem_cons hlt]
  congr 1
  have:=(Array.getElem?_eq_some_iff.1 hq).2
  simpa using this
 rw[hd] at h
 unfold xr at h
 obtain⟨s1,h1,h2⟩:=qLi.1 h
 unfold wpOpIn
 rw[hq]
 simp only
 have key:∀(s0:S) (act:Bool),Sim cx ρ s0 a w→Region.wanted o (yielded ops a.tmps)=act→xst P T po E o act s0=some s1→
   if Region.wanted o (yielded ops a.tmps)=true then o.wpIn (FW cx.ro) 0 P a w (fun a' w'=>∃ρ' s1,Sim cx ρ' s1 a' w'∧xr P T po E ops.toList (ops.toList.drop (q+1)) s1=some s') Q else(∀f,o.about P w a.eval=some f→(FW cx.ro).fn f)∧(fun a' w'=>∃ρ' s1,Sim cx ρ' s1 a' w'∧xr P T po E ops.toList (ops.toList.drop (q+1)) s1=some s') (a.put o.dst undef) w:=by
  intro s0 act h3 h4 h5
  have:=qr6 (next:=fun a' w'=>∃ρ' s1,Sim cx ρ' s1 a' w'∧xr P T po E ops.toList (ops.toList.drop (q+1)) s1=some s') (Q:=Q) hA hE h3 h5 (fun ρ' a' w' h6=>⟨ρ',s1,h6,h2⟩)
  rw[h4]
  split
  ·rename_i ha;rw[if_pos ha] at this;exact this
  ·rename_i ha;rw[if_neg ha] at this;exact⟨qdS,this⟩
 unfold xgd at h1
 cases hi:ipA T E s o with
 | some y=>
  rw[hi] at h1
  replace h1:y=some s1:=h1
  subst h1
  obtain⟨i1,i2⟩:=qrf (next:=fun a' w'=>∃ρ' s1,Sim cx ρ' s1 a' w'∧xr P T po E ops.toList (List.drop (q+1) ops.toList) s1=some s') (Q:=Q) hA hE hs hi (fun ρ' a' w' h6=>⟨ρ',_,h6,h2⟩)
  rw[if_pos (by unfold Region.wanted;rw[i1])]
  exact i2
 | none=>
 rw[hi] at h1
 replace h1:qfO P T po E ops.toList o s=some s1:=h1
 unfold qfO at h1
 split at h1
 ·rename_i hg
  exact key s true hs (by unfold Region.wanted;rw[hg]) h1
 ·rename_i j want hg
  split at h1
  ·rename_i d hd
   split at h1
   ·rename_i b hb
    have hgd:gd ops.toList s o.guard=some (b==want):=by unfold gd;rw[hg];simp only[hd,hb]
    have hw:=q4v hs hgd
    split at h1
    ·rename_i hbt
     subst hbt
     exact key _ want (hs.lit hb) (by rw[hw];cases want<;>rfl) h1
    ·rename_i hbf
     have hbf:b=false:=by cases b<;>simp at hbf ⊢
     subst hbf
     exact key _ (!want) (hs.lit hb) (by rw[hw];cases want<;>rfl) h1
   ·rename_i hb
    have hgd:gd ops.toList s o.guard=some false:=by unfold gd;rw[hg];simp only[hd,hb]
    exact key s false hs (q4v hs hgd) h1
   ·cases h1
  ·cases h1
theorem qls {lim i:Nat}:∀{l:List Tx} {j:Nat},qxk lim i j l=true→∀(k:Nat) (x:Tx),l[k]?=some x→i≠j+k→∀u∈x.1.2,u.1<lim
 | [],_,_,k,x,hk=>by simp at hk
 | y::l,j,h,k,x,hk=>by
  unfold qxk at h
  rw[qLJ] at h
  intro hne u hu
  cases k with
  | zero=>
   simp only[qLn,qM3] at hk
   subst hk
   have h1:=h.1
   rw[qLI] at h1
   rcases h1 with h1|h1
   ·exact absurd (by simpa using h1) hne
   ·have:=qLu.1 h1 u hu
    rwa [Nat.blt_eq] at this
  | succ k=>exact qls h.2 k x (by simpa using hk) (by omega) u hu
theorem qqW {L:List Tx}:∀{l:List Tx} {j:Nat},okN L j l=true→∀(k:Nat) (x:Tx),l[k]?=some x→∀lim,x.2.nw=[lim]→qxk lim (j+k) 0 L=true
 | [],_,_,k,x,hk=>by simp at hk
 | y::l,j,h,k,x,hk=>by
  unfold okN at h
  rw[qLJ] at h
  intro lim hl
  cases k with
  | zero=>
   simp only[qLn,qM3] at hk
   subst hk
   have h1:=h.1
   rw[hl] at h1
   exact h1
  | succ k=>
   have:=qqW h.2 k x (by simpa using hk) lim hl
   rwa [show j+1+k=j+(k+1) by omega] at this
theorem qER (hA:Ag P T) (hE:Snd P E) {id:Nat} {ops:Array Oper} {Q':Exit→S→Prop} {s s':S} {m:Nat} {A:List (List Nat)} (hm:P.follows .mixedOrders=true) (hchk:qvt ops.toList m A=true)
  (h:xdp P T po E ops.toList A s m ops.toList s []=some s') (hQ:Q' .normal s'):J P cx (.region id ops true) Q' s:=by
 intro ρ a w hs
 obtain⟨Sq,tx,r0,r1,⟨r2,r3,rk,rn⟩,r4⟩:=qkV hA hE m 0 ops.toList s s' [] rfl h
 rw[qLx] at r2 r3 rk rn
 rw[qLB] at r4
 -- the checks
 simp only[qvt,qLJ,qLu,qMa,qMd] at hchk
 obtain⟨⟨⟨⟨c1,c2⟩,c3⟩,c5⟩,c6⟩:=hchk
 have hlen:ops.toList.length=ops.size:=by simp
 have hget:∀(i:Nat) (o:Oper),ops[i]?=some o→ops.toList[i]?=some o:=fun i o h=>by rw[Array.getElem?_toList];exact h
 have hget':∀(i:Nat) (o:Oper),ops.toList[i]?=some o→ops[i]?=some o:=fun i o h=>by rw[Array.getElem?_toList] at h;exact h
 have hlt:∀(i:Nat) (o:Oper),ops[i]?=some o→i<ops.toList.length:=fun i o h=>by rw[hlen];exact(Array.getElem?_eq_some_iff.1 h).1
 obtain⟨An,hAn⟩:∃An,An=qGj ops.toList:=⟨_,rfl⟩
 rw[←hAn] at c1 c3 c5 c6
 have d1:∀(i:Nat) (o:Oper),ops[i]?=some o→(∀k∈q1g o,k<i)∧∀k∈An.getD i [],k∈q1g o∨∃d∈q1g o,k∈An.getD d []:=fun i o ho=>by
  have:=c1 i (hlt i o ho)
  rw[hget i o ho] at this
  simp only[qLJ,qLu,qMd,qLI,qLS,qM8] at this
  exact this
 have hanc:∀E,Run ops E→∀(i:Nat) (o:Oper),ops[i]?=some o→(∀k∈q1g o,k∈E)→∀k∈An.getD i [],k∈E:=by
  intro E hr i
  induction i using Nat.strongRecOn with
  | _ i ih=>
   intro o ho hE k hk
   rcases(d1 i o ho).2 k hk with h1|⟨d,h1,h2⟩
   ·exact hE k h1
   ·have hdE:=hE d h1
    have hdl:=hr.lt d hdE
    exact ih d ((d1 i o ho).1 d h1) ops[d] (qLE hdl) (fun k' hk'=>hr.closed d hdE _ (qLE hdl) k' hk') k h2
 have hancE:∀E,Run ops E→∀j∈E,∀k∈An.getD j [],k∈E:=fun E hr j hj k hk=>by
  have hjl:=hr.lt j hj
  exact hanc E hr j ops[j] (qLE hjl) (fun k' hk'=>hr.closed j hj _ (qLE hjl) k' hk') k hk
 have hmn:m≤ops.size:=by rw[←hlen];exact c2
 have hop:∀i,i<m→∃o,ops[i]?=some o:=fun i hi=>⟨_,qLE (by omega)⟩
 have hst:∀j (o:Oper),j<m→ops[j]?=some o→Stp P ops.toList o (Sq j) (Sq (j+1)) (tx j):=fun j o hj ho=>by
  obtain⟨o',q1,q2⟩:=r1 j hj
  rw[qLB,hget j o ho] at q1
  injection q1 with q1
  subst q1;exact q2
 have htx:∀i,i<m→((List.range m).map tx)[i]?=some (tx i):=fun i hi=>by simp[hi]
 -- what meets is in order
 have cB:∀i j,i<j→j<m→q63 (tx i).2 (tx j).2=true→i∈An.getD j []:=fun i j hij hj hc=>by
  have:=(qr7 r2 j (tx j) (htx j hj)).2 i (tx i) hij (htx i (by omega)) hc
  rw[qLB,qLB] at this
  have h6:=c6 j hj i this
  simpa using h6
 have cS:∀i j,i<j→j<m→qhZ ops.toList i j=true→i∈An.getD j []:=fun i j hij hj hc=>by
  have:=c3 j hj i hij
  simp only[qLI,Bool.not_eq_true',qLS] at this
  rcases this with h1|h1
  ·rw[hc] at h1;cases h1
  ·exact h1
 have hdst:∀(j:Nat) (o:Oper),ops[j]?=some o→q8p ops.toList j=o.dst:=fun j o ho=>by unfold q8p;rw[hget j o ho];rfl
 -- a writer and a reader of one slot; two writers of one slot
 have cS1:∀(i j:Nat) (o o':Oper) (d:Nat),i<j→j<m→ops[i]?=some o→ops[j]?=some o'→o.dst=some d→(d∈q5l ops.toList o'∨o'.dst=some d)→i∈An.getD j []:=fun i j o o' d hij hj ho ho' hd hx=>by
  refine cS i j hij hj ?_
  unfold qhZ
  rw[hget i o ho,hget j o' ho']
  simp only[hd,qLI,qLS,qMd]
  exact .inl hx
 have cS2:∀(i j:Nat) (o o':Oper) (d:Nat),i<j→j<m→ops[i]?=some o→ops[j]?=some o'→o'.dst=some d→d∈q5l ops.toList o→i∈An.getD j []:=fun i j o o' d hij hj ho ho' hd hx=>by
  refine cS i j hij hj ?_
  unfold qhZ
  rw[hget i o ho,hget j o' ho']
  simp only[hd,qLI,qLS]
  exact .inr hx
 -- far
 have hAnlt:∀(i:Nat) (o:Oper),ops[i]?=some o→∀k∈An.getD i [],k<i:=by
  intro i
  induction i using Nat.strongRecOn with
  | _ i ih=>
   intro o ho k hk
   rcases(d1 i o ho).2 k hk with h1|⟨d,h1,h2⟩
   ·exact(d1 i o ho).1 k h1
   ·have hd:=(d1 i o ho).1 d h1
    have hdl:d<ops.size:=by have:=hlt i o ho;rw[hlen] at this;omega
    have:=ih d hd ops[d] (qLE hdl) k h2
    omega
 have cK:∀i j,i<j→j<m→q8h ops.toList i j (tx i) (tx j)=true→i∈An.getD j []:=fun i j hij hj hc=>by
  have:=qzJ rk hij (htx i (by omega)) (htx j hj) hc
  have h6:=c6 j hj i this
  simpa using h6
 have cK1:∀(i j:Nat) (o':Oper) (d:Nat),i<j→j<m→ops[j]?=some o'→d∈(tx i).2.ks→(d∈q5l ops.toList o'∨o'.dst=some d)→i∈An.getD j []:=fun i j o' d hij hj ho' hd hx=>by
  refine cK i j hij hj ?_
  simp only[q8h,qLI,qM8]
  exact .inl ⟨d,hd,.inl (qf0 (hget j o' ho') hx)⟩
 have cK2:∀(i j:Nat) (o:Oper) (d:Nat),i<j→j<m→ops[i]?=some o→d∈(tx j).2.ks→(d∈q5l ops.toList o∨o.dst=some d)→i∈An.getD j []:=fun i j o d hij hj ho hd hx=>by
  refine cK i j hij hj ?_
  simp only[q8h,qLI,qM8]
  exact .inr ⟨d,hd,qf0 (hget i o ho) hx⟩
 have cK3:∀(i j:Nat) (d:Nat),i<j→j<m→d∈(tx i).2.ks→d∈(tx j).2.ks→i∈An.getD j []:=fun i j d hij hj hd hd'=>by
  refine cK i j hij hj ?_
  simp only[q8h,qLI,qM8,qLS]
  exact .inl ⟨d,hd,.inr hd'⟩
 have hfar:∀c,c<m→∀(p:Nat→Bool) (k:Nat),k≤m→(∀i,i<k→p i=true→i≠c∧c ∉ An.getD i [])→qo4 (tx c).2 (stT ops.toList tx s p k):=fun c hc p k hk hp=>by
  rcases qri r3 c (tx c) (htx c hc) with h1|⟨h1,h2⟩
  ·exact .inl h1
  ·refine .inr (qnM h1 p k (fun i hi hpi=>?_))
   obtain⟨p1,p2⟩:=hp i hi hpi
   have h3:=ql3 h2 i (tx i) (htx i (by omega))
   rw[qLB,qLB] at h3
   rcases h3 with h3|h3|h3
   ·exact absurd h3 p1
   ·exact absurd (by simpa using c6 i (by omega) c h3) p2
   ·exact h3
 have farext:∀{fp:Fp} {t t':S},(∀d,t'.get d=t.get d)→(∀x,t'.blk x=t.blk x)→qo4 fp t→qo4 fp t':=fun h1 h2 h=>by
  rcases h with h|h
  ·exact .inl h
  ·exact .inr ⟨fun d hd=>by rw[h1];exact h.1 d hd,fun x hx=>by rw[h2];exact h.2 x hx⟩
 -- the text's states
 obtain⟨tp,htp⟩:∃tp:Nat→Bool,tp=fun _=>true:=⟨_,rfl⟩
 have htext:∀j,j≤m→(∀d,(Sq j).get d=(stT ops.toList tx s tp j).get d)∧(∀x,(Sq j).blk x=(stT ops.toList tx s tp j).blk x)∧(Sq j).n=s.n∧Nb (Sq j):=by
  intro j
  induction j with
  | zero=>intro _;rw[r0];exact⟨fun _=>rfl,fun _=>rfl,rfl,hs.nx⟩
  | succ j ih=>
   intro hj
   obtain⟨i1,i2,i3,i4⟩:=ih (by omega)
   obtain⟨o,ho⟩:=hop j (by omega)
   have hstp:=hst j o (by omega) ho
   obtain⟨e1,e2⟩:=hstp.eff (farext i1 i2 (hfar j (by omega) tp j (by omega) (fun i hi _=>⟨by omega,fun hj'=>by
    obtain⟨oi,hoi⟩:=hop i (by omega)
    have:=hAnlt i oi hoi j hj'
    omega⟩)))
   have hs1:stT ops.toList tx s tp (j+1)=(((stT ops.toList tx s tp j).up (tx j).1.2).kill (tx j).2.ks).put (q8p ops.toList j) (tx j).1.1:=by
    show(if tp j=true then _ else _)=_
    rw[htp,if_pos rfl]
   refine⟨fun d=>?_,fun x=>?_,hstp.n.trans i3,hstp.nb i4⟩
   ·rw[e1,hs1,S.put_get,S.kill_get,S.up_get,hdst j o ho,i1]
   ·rw[e2,hs1,S.put_blk,S.kill_blk,qaf,i2]
 -- the state behind some operations
 let pE:List Nat→Nat→Bool:=fun E i=>decide (i∈E)
 have hcut:∀j,j≤m→stT ops.toList tx s (fun i=>tp i&&decide (i<j)) m=stT ops.toList tx s tp j:=fun j hj=>qn5 m hj
 have htpd:∀i j,(tp i&&decide (i<j))=decide (i<j):=fun i j=>by rw[htp];simp
 have hkeywb:∀i,i<m→∀x,(∃b,(x,b)∈(tx i).1.2)→x∈(tx i).2.wb:=fun i hi x ⟨b,hb⟩=>by
  obtain⟨o,ho⟩:=hop i hi
  exact(hst i o hi ho).us _ hb
 have htp1:∀j,stT ops.toList tx s tp (j+1)=(((stT ops.toList tx s tp j).up (tx j).1.2).kill (tx j).2.ks).put (q8p ops.toList j) (tx j).1.1:=fun j=>by
  show(if tp j=true then _ else _)=_
  rw[htp,if_pos rfl]
 -- all of the prefix done: the text's state
 have hfull:∀L ρ t a w,(∀i,i∈L↔i<m)→(∀d,t.get d=(stT ops.toList tx s (pE L) m).get d)→(∀x,t.blk x=(stT ops.toList tx s (pE L) m).blk x)→t.n=s.n→Sim cx ρ t a w→Sim cx ρ (Sq m) a w:=by
  intro L ρ t a w hL h1 h2 h3 hsim
  obtain⟨i1,i2,i3,i4⟩:=htext m (qLt _)
  have e:∀i,i<m→pE L i=(tp i&&decide (i<m)):=fun i hi=>by rw[htpd];simp[pE,hL]
  refine hsim.ext (fun d=>?_) (fun x=>?_) (i3.trans h3.symm) i4
  ·rw[i1,h1,q91 m (fun i hi _=>e i hi),hcut m (qLt _)]
  ·rw[i2,h2,q7H m (fun i hi _=>e i hi),hcut m (qLt _)]
 refine qjo hm (fun i o ho k hk=>(d1 i o ho).1 k hk)
  (fun L a w=>∃ρ t,Sim cx ρ t a w∧(((∀i∈L,i<m)∧(∀d,t.get d=(stT ops.toList tx s (pE L) m).get d)∧(∀x,t.blk x=(stT ops.toList tx s (pE L) m).blk x)∧t.n=s.n)∨∃q,m≤q∧(∀i,i∈L↔i<q)∧xr P T po E ops.toList (ops.toList.drop q) t=some s')) ?_ ?_ ⟨ρ,s,hs.drew,.inl ⟨fun i h=>by simp at h,fun d=>?_,fun x=>?_,rfl⟩⟩
 rotate_left 2
 ·have:(stT ops.toList tx s (pE []) m).get d=(stT ops.toList tx s (fun i=>tp i&&decide (i<0)) m).get d:=q91 m (fun i _ _=>by simp[pE])
  rw[this,hcut 0 (qLD _)];rfl
 ·have:(stT ops.toList tx s (pE []) m).blk x=(stT ops.toList tx s (fun i=>tp i&&decide (i<0)) m).blk x:=q7H m (fun i _ _=>by simp[pE])
  rw[this,hcut 0 (qLD _)];rfl
 ·rintro L a w i o hr ⟨ρ,t,hsim,hcase⟩ hiL ho hdeps
  have hsuf:∀q t,m≤q→(∀j,j∈L↔j<q)→Sim cx ρ t a w→xr P T po E ops.toList (ops.toList.drop q) t=some s'→i=q→
    wpOpIn (FW cx.ro) 0 P ops (fun e a' w'=>∃s' ρ',Q' e s'∧Sim cx ρ' s' a' w') i (fun a' w'=>∃ρ t,Sim cx ρ t a' w'∧(((∀k∈i::L,k<m)∧(∀d,t.get d=(stT ops.toList tx s (pE (i::L)) m).get d)∧(∀x,t.blk x=(stT ops.toList tx s (pE (i::L)) m).blk x)∧t.n=s.n)∨∃q,m≤q∧(∀k,k∈i::L↔k<q)∧xr P T po E ops.toList (ops.toList.drop q) t=some s')) a w:=by
   intro q t hq hL hs' hv hiq
   subst hiq
   refine wpOpIn_mono (fun a' w' ⟨ρ',s'',g1,g2⟩=>?_) (qz6 hA hE ho hs' hv)
   exact⟨ρ',s'',g1,.inr ⟨i+1,by omega,fun k=>by rw[qLz,hL];omega,g2⟩⟩
  have hin:i<ops.size:=(Array.getElem?_eq_some_iff.1 ho).1
  have h5:m≤i→∀j,j<i→j∈L:=fun hmi j hj=>by
   have:=c5 i (by rw[hlen];exact hin)
   simp only[qLI,qMd,qLu,qMa,qLS] at this
   rcases this with h|h
   ·omega
   ·exact hanc L hr i o ho hdeps j (h j hj)
  rcases hcase with ⟨hLm,t1,t2,t3⟩|⟨q,hq,hL,hv⟩
  ·by_cases him:i<m
   ·have hstp:=hst i o him ho
    obtain⟨q1,q2,q3,q4⟩:=htext i (by omega)
    -- before and behind
    have hbefore:∀k,i∈An.getD k []→k∈L→False:=fun k hk hkL=>hiL (hancE L hr k hkL i hk)
    have hafter:∀k,k∈An.getD i []→k∈L:=fun k hk=>hanc L hr i o ho hdeps k hk
    have hslot:∀d∈q5l ops.toList o,t.get d=(Sq i).get d:=fun d hd=>by
     rw[t1,q1,←hcut i (by omega)]
     refine q91 m (fun k hk hkd=>?_)
     rw[htpd]
     obtain⟨ok,hok⟩:=hop k hk
     rw[hdst k ok hok] at hkd
     rcases Nat.lt_trichotomy k i with h|h|h
     ·rw[qMe h]
      refine qMe (hafter k ?_)
      rcases hkd with hkd|hkd
      ·exact cS1 k i ok o d h him hok ho hkd (.inl hd)
      ·exact cK1 k i o d h him ho hkd (.inl hd)
     ·subst h;simp[pE,hiL]
     ·rw[decide_eq_false (by omega)]
      refine decide_eq_false fun hkL=>hbefore k ?_ hkL
      rcases hkd with hkd|hkd
      ·exact cS2 i k o ok d h hk ho hok hkd hd
      ·exact cK2 i k o d h hk ho hkd (.inl hd)
    have hblk:∀x,x∈(tx i).2.rb∨x∈(tx i).2.wb→t.blk x=(Sq i).blk x:=fun x hx=>by
     rw[t2,q2,←hcut i (by omega)]
     refine q7H m (fun k hk hkx=>?_)
     rw[htpd]
     have hkw:=hkeywb k hk x hkx
     rcases Nat.lt_trichotomy k i with h|h|h
     ·rw[qMe h]
      refine qMe (hafter k (cB k i h him ?_))
      simp only[q63,qLI,qM8,qLS]
      exact .inl ⟨x,hkw,hx⟩
     ·subst h;simp[pE,hiL]
     ·rw[decide_eq_false (by omega)]
      refine decide_eq_false fun hkL=>hbefore k (cB i k h hk ?_) hkL
      simp only[q63,qLI,qM8,qLS]
      rcases hx with hx|hx
      ·exact .inr ⟨x,hx,hkw⟩
      ·exact .inl ⟨x,hx,.inr hkw⟩
    have hev:∀y∈o.op.operands.toList,t.ev y=(Sq i).ev y:=fun y hy=>qyy (fun x hx=>hslot x (by
     unfold q5l qlq
     exact qLp _ (List.mem_flatMap.2 ⟨y,hy,hx⟩)))
    have hgd:gd ops.toList t o.guard=gd ops.toList (Sq i) o.guard:=by
     unfold gd
     cases hgu:o.guard with
     | none=>rfl
     | some jw=>
      obtain⟨j,want⟩:=jw
      simp only
      cases hd:(ops.toList[j]?).bind (·.dst) with
      | none=>rfl
      | some d=>
       simp only
       rw[hslot d (by unfold q5l;rw[hgu];exact qLm _ (by show d∈(q8p ops.toList j).toList;unfold q8p;rw[hd];simp))]
    have hnew:∀k∈i::L,k<m:=fun k hk=>by
     rcases qLz.1 hk with rfl|hk
     ·exact him
     ·exact hLm k hk
    have hdok:∀d,o.dst=some d→d<t.n:=fun d hd=>by rw[t3,←q3];exact hstp.dst d hd
    -- the state behind it
    have fin:∀(ρ':Pl) (t':S) (a':Act) (w':World),(∀d,t'.get d=if o.dst=some d then(tx i).1.1 else if d∈(tx i).2.ks then .any else t.get d)→(∀x,t'.blk x=lk (tx i).1.2 x (t.blk x))→t'.n=t.n→Sim cx ρ' t' a' w'→
      ∃ρ t,Sim cx ρ t a' w'∧(((∀k∈i::L,k<m)∧(∀d,t.get d=(stT ops.toList tx s (pE (i::L)) m).get d)∧(∀x,t.blk x=(stT ops.toList tx s (pE (i::L)) m).blk x)∧t.n=s.n)∨∃q,m≤q∧(∀k,k∈i::L↔k<q)∧xr P T po E ops.toList (ops.toList.drop q) t=some s'):=by
     intro ρ' t' a' w' g1 g2 g3 g4
     refine⟨ρ',t',g4,.inl ⟨hnew,fun d=>?_,fun x=>?_,g3.trans t3⟩⟩
     ·rw[g1]
      have eq1:o.dst=some d∨d∈(tx i).2.ks→(stT ops.toList tx s (pE (i::L)) m).get d=(stT ops.toList tx s (fun k=>tp k&&decide (k<i+1)) m).get d:=fun hdi=>q91 m (fun k hk hkd=>by
       rw[htpd]
       obtain⟨ok,hok⟩:=hop k hk
       rw[hdst k ok hok] at hkd
       rcases Nat.lt_trichotomy k i with h|h|h
       ·rw[qMe (show k<i+1 by omega)]
        refine qMe (qLl _ (hafter k ?_))
        rcases hdi with hd|hd
        ·rcases hkd with hkd|hkd
         ·exact cS1 k i ok o d h him hok ho hkd (.inr hd)
         ·exact cK1 k i o d h him ho hkd (.inr hd)
        ·rcases hkd with hkd|hkd
         ·exact cK2 k i ok d h him hok hd (.inr hkd)
         ·exact cK3 k i d h him hkd hd
       ·subst h;simp[pE]
       ·rw[decide_eq_false (by omega)]
        refine decide_eq_false fun hkL=>?_
        rcases qLz.1 hkL with h' | h'
        ·omega
        ·refine hbefore k ?_ h'
         rcases hdi with hd|hd
         ·rcases hkd with hkd|hkd
          ·exact cS1 i k o ok d h hk ho hok hd (.inr hkd)
          ·exact cK2 i k o d h hk ho hkd (.inr hd)
         ·rcases hkd with hkd|hkd
          ·exact cK1 i k ok d h hk hok hd (.inr hkd)
          ·exact cK3 i k d h hk hd hkd)
      by_cases hd:o.dst=some d
      ·rw[if_pos hd,eq1 (.inl hd),hcut (i+1) (by omega),htp1,S.put_get,hdst i o ho,if_pos hd]
      ·rw[if_neg hd]
       by_cases hdk:d∈(tx i).2.ks
       ·rw[if_pos hdk,eq1 (.inr hdk),hcut (i+1) (by omega),htp1,S.put_get,hdst i o ho,if_neg hd,S.kill_get,if_pos hdk]
       ·rw[if_neg hdk,t1]
        refine q91 m (fun k hk hkd=>?_)
        have hki:k≠i:=fun e=>by
         subst e
         rcases hkd with hkd|hkd
         ·exact hd (by rw[←hdst k o ho];exact hkd)
         ·exact hdk hkd
        simp[pE,hki]
     ·rw[g2]
      by_cases hx:∃b,(x,b)∈(tx i).1.2
      ·have hiw:=hkeywb i him x hx
       have e1:(stT ops.toList tx s (pE (i::L)) m).blk x=(stT ops.toList tx s (fun k=>tp k&&decide (k<i+1)) m).blk x:=q7H m (fun k hk hkx=>by
        rw[htpd]
        have hkw:=hkeywb k hk x hkx
        rcases Nat.lt_trichotomy k i with h|h|h
        ·rw[qMe (show k<i+1 by omega)]
         refine qMe (qLl _ (hafter k (cB k i h him ?_)))
         simp only[q63,qLI,qM8,qLS]
         exact .inl ⟨x,hkw,.inr hiw⟩
        ·subst h;simp[pE]
        ·rw[decide_eq_false (by omega)]
         refine decide_eq_false fun hkL=>?_
         rcases qLz.1 hkL with h' | h'
         ·omega
         ·refine hbefore k (cB i k h hk ?_) h'
          simp only[q63,qLI,qM8,qLS]
          exact .inl ⟨x,hiw,.inr hkw⟩)
       rw[e1,hcut (i+1) (by omega),htp1,S.put_blk,S.kill_blk,qaf]
       exact qfc _ x _ _ hx
      ·rw[q3P _ x _ (fun b hb=>hx ⟨b,hb⟩),t2]
       refine q7H m (fun k hk hkx=>?_)
       have hki:k≠i:=fun e=>hx (e ▸ hkx)
       simp[pE,hki]
    obtain⟨b,hb,hf,ht⟩:=hstp.run
    unfold wpOpIn
    rw[ho]
    simp only
    cases b with
    | false=>
     rw[if_neg (by rw[q4v hsim (hgd.trans hb)];simp)]
     have hx:=hf rfl
     refine⟨qdS,fin ρ (t.put o.dst (.tup [])) _ _ (fun d=>?_) (fun x=>?_) (S.put_n _ _ _) (hsim.put hdok RR.un)⟩
     ·rw[S.put_get,hx];simp
     ·rw[S.put_blk,hx];rfl
    | true=>
     rw[if_pos (q4v hsim (hgd.trans hb))]
     have hloc:=ht rfl q4
     have hnew:(tx i).2.nw≠[]→∀x,t.live x→x<(Sq i).nx:=fun hne x hx=>by
      have hnw:=hstp.nwp.resolve_left hne
      have hN:=qqW rn i (tx i) (htx i him) _ hnw
      rw[qLB] at hN
      by_cases hkx:∃k,k<m∧k≠i∧∃b,(x,b)∈(tx k).1.2
      ·obtain⟨k,hk,hki,b,hb⟩:=hkx
       exact qls hN k (tx k) (htx k hk) (by omega) _ hb
      ·have e:t.blk x=(Sq i).blk x:=by
        rw[t2,q2,←hcut i (by omega)]
        refine q7H m (fun k hk hb=>?_)
        rw[htpd]
        have hki:k=i:=by
         by_cases h:k=i
         ·exact h
         ·exact absurd ⟨k,hk,h,hb⟩ hkx
        subst hki;simp[pE,hiL]
       refine q4 x ?_
       unfold S.live at hx ⊢
       rw[←e];exact hx
     refine(hloc cx ρ t a w _ _ hev hblk (farext t1 t2 (hfar i him (pE L) m (qLt _) (fun k hk hkL=>?_))) hnew hsim ?_)
     ·have hkL:k∈L:=of_decide_eq_true hkL
      exact⟨fun e=>hiL (e ▸ hkL),fun h=>hbefore k h hkL⟩
     intro ρ' t' v w' g1 g2 g3 g4 g5
     refine fin ρ' ((t'.kill (tx i).2.ks).put o.dst (tx i).1.1) _ _ (fun d=>?_) (fun x=>?_) (by rw[S.put_n];exact g3) ((g4.kill _).put (fun d hd=>by show d<t'.n;rw[g3];exact hdok d hd) g5)
     ·rw[S.put_get,S.kill_get]
      by_cases hdk:d∈(tx i).2.ks
      ·simp only[if_pos hdk]
      ·simp only[if_neg hdk,g1 d hdk]
     ·rw[S.put_blk,S.kill_blk,g2]
   ·have hi:i=m:=by
     rcases Nat.lt_or_ge m i with h|h
     ·have:=hLm m (h5 (by omega) m h);omega
     ·omega
    have hL:∀j,j∈L↔j<m:=fun j=>⟨fun hj=>hLm j hj,fun hj=>h5 (by omega) j (by omega)⟩
    exact hsuf m _ (qLt _) hL (hfull L ρ t a w hL t1 t2 t3 hsim) r4 hi
  ·have hiq:i=q:=by
    have h1:¬ i<q:=fun h=>hiL ((hL i).2 h)
    have h2:∀j,j<i→j<q:=fun j hj=>(hL j).1 (h5 (by omega) j hj)
    rcases Nat.lt_or_ge q i with h|h
    ·have:=h2 q h;omega
    ·omega
   exact hsuf q t hq hL hsim hv hiq
 ·rintro L a w hr ⟨ρ,t,hsim,hcase⟩ hall
  rcases hcase with ⟨hLm,t1,t2,t3⟩|⟨q,hq,hL,hv⟩
  ·have hmn':ops.size≤m:=by
    rcases Nat.lt_or_ge m ops.size with h|h
    ·have:=hLm m (hall m h);omega
    ·exact h
   have hL:∀j,j∈L↔j<m:=fun j=>⟨fun hj=>hLm j hj,fun hj=>hall j (by omega)⟩
   have hd:ops.toList.drop m=[]:=qLU (by rw[hlen];exact hmn')
   rw[hd] at r4
   injection r4 with r4
   exact⟨_,ρ,hQ,r4 ▸ hfull L ρ t a w hL t1 t2 t3 hsim⟩
  ·have hqn:ops.size≤q:=by
    rcases Nat.lt_or_ge q ops.size with h|h
    ·have:=(hL q).1 (hall q h);omega
    ·exact h
   have hd:ops.toList.drop q=[]:=qLU (by rw[hlen];exact hqn)
   rw[hd] at hv
   injection hv with hv
   exact⟨_,ρ,hQ,hv ▸ hsim⟩
theorem qmZ:∀{r:R},r.isA=true→r = .any
 | .any,_=>rfl
theorem qli:∀{l:List (Nat×R)},qw8 l=true→∀i,lk l i .any = .any
 | [],_,i=>rfl
 | x::l,h,i=>by
  unfold qw8 at h
  split at h
  ·rename_i hx
   show(if x.1=i then x.2 else lk l i .any)=_
   rw[qli h i,qmZ hx]
   split<;>rfl
  ·cases h
theorem qiv:∀(l:List (Nat×R)) (i:Nat),lk (q7c l) i .any=lk l i .any
 | [],i=>rfl
 | x::l,i=>by
  unfold q7c
  have ih:=qiv l i
  have e:lk (x::q7c l) i .any=lk (x::l) i .any:=by
   show(if x.1=i then x.2 else lk (q7c l) i .any)=(if x.1=i then x.2 else lk l i .any)
   rw[ih]
  split
  ·rename_i hx
   split
   ·rename_i hl
    show R.any=(if x.1=i then x.2 else lk l i .any)
    rw[qli hl i,qmZ hx]
    split<;>rfl
   ·exact e
  ·exact e
theorem Sim.strip {cx:Cx} {ρ:Pl} {s:S} {a:Act} {w:World} (h:Sim cx ρ s a w):Sim cx ρ s.strip a w:=
 ⟨h.hd,h.size,fun i=>by
  show RR w s.live ρ _ (lk (q7c s.tm) i .any)
  rw[qiv]
  exact h.tm i,h.hp,h.hp0,h.out,h.inj,h.nx,h.kept,h.oldF,h.pin,h.sameF,h.sep⟩
theorem qDA (hA:Ag P T) (hm:P.follows .mixedOrders=true):DOk P po (D1 P T po):=fun _ _ _ hE _ _ _ _ _ _ _ hq h hQ ρ a w hs=>qER hA hE hm hq h hQ ρ a w hs.strip
end
section
variable {P:Program} {T:Ty} {po:Pol}
theorem qaS {E E':Orc} (hE:OLe E E') {o:Oper} {act:Bool} {s:S} {x:S×Tx} (h:xsF P T po E o act s=some x):xsF P T po E' o act s=some x:=by
 unfold xsF at h ⊢
 by_cases hc:act=true
 ·rw[if_pos hc] at h ⊢
  cases hal:alC po s o.op with
  | some gr=>rw[hal] at h;exact QC (fun _ h=>QC (fun _ h=>hE _ _ _ _ _ h) (fun _ _ h=>h) h) (fun _ _ h=>h) h
  | none=>rw[hal] at h;exact QC (fun _ h=>qnA hE h) (fun _ _ h=>h) h
 ·rw[if_neg hc] at h ⊢;exact h
theorem qph {E E':Orc} (hE:OLe E E') {ops:List Oper} {o:Oper} {s:S} {x:S×Tx} (h:xgF P T po E ops o s=some x):xgF P T po E' ops o s=some x:=by
 unfold xgF at h ⊢
 split at h
 ·exact qaS hE h
 ·split at h
  ·split at h
   ·split at h
    ·rename_i hb;rw[if_pos hb];exact qaS hE h
    ·rename_i hb;rw[if_neg hb];exact qaS hE h
   ·exact qaS hE h
   ·cases h
  ·cases h
theorem qhM {E E':Orc} (hE:OLe E E') {ops:List Oper} {A:List (List Nat)} {s0:S}:∀(m:Nat) (l:List Oper) (s s':S) (acc:List Tx),xdp P T po E ops A s0 m l s acc=some s'→xdp P T po E' ops A s0 m l s acc=some s'
 | 0,l,s,s',acc,h=>by
  unfold xdp at h ⊢
  split at h
  ·rename_i hc;rw[if_pos hc];exact qhf hE l h
  ·cases h
 | _+1,[],_,_,_,h=>by cases h
 | m+1,o::l,s,s',acc,h=>QC (fun _ h=>qph hE h) (fun _ _ h=>qhM hE m l _ _ _ h) h
theorem qbr:qdr (D1 P T po):=fun _ _ hE _ _ _ _ _ _ h=>qhM hE _ _ _ _ _ h
section
variable {D:DRs} (hM:qdr D)
include hM
theorem qaC {o:Oper} {act:Bool} {s:S}:∀x,xsF P T po (EE P T po D) o act s=some x→∃n,∀m,n≤m→xsF P T po (xf P T po D m) o act s=some x:=fun x h=>by
 unfold xsF at h ⊢
 by_cases hc:act=true
 ·simp only[if_pos hc] at h ⊢
  cases hal:alC po s o.op with
  | some gr=>rw[hal] at h;exact QI (fun a h=>QI (qby hM) (fun _=>QZ) h) (fun _=>QZ) h
  | none=>rw[hal] at h;exact QI (qlT hM) (fun _=>QZ) h
 ·simp only[if_neg hc] at h ⊢;exact⟨0,fun _ _=>h⟩
theorem qow {ops:List Oper} {o:Oper} {s:S}:∀x,xgF P T po (EE P T po D) ops o s=some x→∃n,∀m,n≤m→xgF P T po (xf P T po D m) ops o s=some x:=fun x h=>by
 unfold xgF at h ⊢
 split at h
 ·exact qaC hM _ h
 ·split at h
  ·split at h
   ·split at h
    ·rename_i hb;simp only[if_pos hb];exact qaC hM _ h
    ·rename_i hb;simp only[if_neg hb];exact qaC hM _ h
   ·exact qaC hM _ h
   ·cases h
  ·cases h
theorem qiC {ops:List Oper} {A:List (List Nat)} {s0:S}:∀(k:Nat) (l:List Oper) (s:S) (acc:List Tx) (x:S),xdp P T po (EE P T po D) ops A s0 k l s acc=some x→∃n,∀m,n≤m→xdp P T po (xf P T po D m) ops A s0 k l s acc=some x
 | 0,l,s,acc,x,h=>by
  unfold xdp at h ⊢
  split at h
  ·rename_i hc;simp only[if_pos hc];exact qhc hM l s x h
  ·cases h
 | _+1,[],_,_,_,h=>by cases h
 | k+1,o::l,s,acc,x,h=>QI (qow hM) (fun q b h=>qiC k l q.1 _ b h) h
end
theorem qnR:qxH P T po (D1 P T po):=fun f k id ops s s' h=>by
 obtain⟨n,hn⟩:=qiC qbr _ _ _ _ _ h
 exact⟨n,hn n (qLt n)⟩
end
def Qd (k:Nat):Code→Option Code
 | .loop c=>if zX c=k then some c else Qd k c
 | .seq a b=>(Qd k a).or (Qd k b)
 | .cond _ a b=>(Qd k a).or (Qd k b)
 | .block _ c=>Qd k c
 | .scope c=>Qd k c
 | .rangeFunc _ _ a b=>(Qd k a).or (Qd k b)
 | _=>none
def roundOf (k:Nat):Code→Option (Code×Code)
 | .rangeFunc _ _ a b=>if zX b=k then some (a,b) else none
 | .loop c=>roundOf k c
 | .seq a b=>(roundOf k a).or (roundOf k b)
 | .cond _ a b=>(roundOf k a).or (roundOf k b)
 | .block _ c=>roundOf k c
 | .scope c=>roundOf k c
 | _=>none
end
noncomputable section
open Go.RowKit
def qo3:Operand := .const (.slice none 0 0)
def qf8 (t bt:TypeId):Code:=
 (Code.region 0 #[{ dst:=some 2,op := .assign qo3,type:=t,pos := "slices.go:355", after:=#[],guard:=none }] false).seq
  (((Code.region 1 #[{ dst:=some 3,op := .move (.tmp 0),type:=t,pos := "slices.go:357", after:=#[],guard:=none },
    { dst:=some 4,op := .binOp .eql t (.tmp 3) qo3 t,type:=bt,pos := "slices.go:357", after:=#[{ on:=0,ground := .data }],guard:=none }] false).seq
   (Code.cond (.tmp 4) ((Code.region 2 #[{ dst:=some 2,op := .assign qo3,type:=t,pos := "slices.go:358", after:=#[],guard:=none }] false).seq Code.ret) Code.skip)).seq
   ((Code.region 3 #[{ dst:=some 5,op := .buildSlice t 0 #[],type:=t,pos := "slices.go:362", after:=#[],guard:=none },
     { dst:=some 6,op := .move (.tmp 0),type:=t,pos := "slices.go:362", after:=#[],guard:=none },
     { dst:=some 7,op := .call { callee := .builtin .append,args:=#[.tmp 5,.tmp 6],argTypes:=#[t,t] },type:=t,pos := "slices.go:362", after:=#[{ on:=0,ground := .data },{ on:=1,ground := .data }],guard:=none },
     { dst:=some 2,op := .assign (.tmp 7),type:=t,pos := "slices.go:362", after:=#[{ on:=2,ground := .data },{ on:=2,ground := .chain },{ on:=0,ground := .phase },{ on:=1,ground := .phase },{ on:=2,ground := .phase }],guard:=none }] false).seq
    Code.ret))
section
variable {P:Program} {T:Ty} {cx:Cx} {ρ:Pl} {s:S} {a:Act} {w:World}
def po1 (z:Nat) (ro:Bool:=false):Pol:={ q:=fun _=>[z],ow:=fun _=>[],fz:=fun _=>false,kp:=fun _ _=>[],kx:=fun _ _=>[],rw:=fun _ _=>[],ro:=fun _=>ro,dm:=fun _ _=>0,an:=fun _ _=>[],rk:=fun _ _=>[],pr:=fun _=>none }
def E0:Orc:=fun _ _ _ _=>none
theorem qwr:Snd P E0:=⟨fun _ _ _ _ _ _ h=>(by cases h),fun _ _ _ _ _ _ _ _ h=>(by cases h)⟩
theorem qEB {q:Nat→List Oper→Bool} {k:Nat}:qBn P q k (fun _ _ _=>none):=fun _ _ _ _ _ _ _ _ h=>by cases h
def XD0 (P:Program) (T:Ty) (z:Nat) (c:Code) (s:S):XS:=XD P T (po1 z) E0 (fun _ _ _=>none) (iter 0) 0 0 c s
theorem qcB (hA:Ag P T) {z:Nat} {c:Code} {s s':S} {e:Exit} {Q:Exit→S→Prop} (hq:q7d (fun _ _=>false) false c=true) (hk:cx.k=0) (h:XD0 P T z c s=some (e,s')) (hQ:Q e s'):J P cx c Q s:=
 qqq (n:=0) hA qwr qEB c s s' e cx Q hq hk (fun h=>by cases h) h hQ
theorem J.nilTest (hA:Ag P T) {id:Nat} {m o:Oper} {x d:Nat} {t t' e:TypeId} {sz n:Nat} {ds:List D} {Q:Exit→S→Prop} (hm:m.op = .move (.tmp x)) (hmg:m.guard=none) (hmd:m.dst=some d) (ho:o.op = .binOp .eql t (.tmp d) qo3 t') (hog:o.guard=none)
  (hk:T.k t = .sl e) (hx:s.get x = .c (.d (.sl sz n ds))) (hd:d<s.n) (hod:∀d',o.dst=some d'→d'<s.n)
  (hQ:∀b:Bool,(b=true→n=0∧ds=[])→Q .normal ((s.put (some d) (.c (.d (.sl sz n ds)))).put o.dst (.c (.d (.bool b))))):J P cx (.region id #[m,o] false) Q s:=by
 intro ρ a w hs
 refine wpIn_region_list ?_
 show wpListIn (FW cx.ro) 0 P #[m,o] _ [m,o] a w
 unfold wpListIn
 rw[if_pos (by unfold Region.wanted;rw[hmg])]
 have h1:ox P T s s.nx m.op (fun r s'=>r=s.get x∧s'=s):=by rw[hm];exact⟨rfl,rfl⟩
 refine qbl hA (fun h=>by have:=hs.nx _ h;omega) hs h1 ?_
 rintro r s2 ρ1 v w1 ⟨rfl,rfl⟩ hs1 hv
 have hs2:=hs1.put (dst:=m.dst) (fun d' hd'=>by rw[hmd] at hd';injection hd' with hd';rw[←hd'];exact hd) hv
 rw[hmd,hx] at hs2
 unfold wpListIn
 rw[if_pos (by unfold Region.wanted;rw[hog])]
 obtain⟨d0,i,z,ht⟩:=hA.at_ (t:=t) (by rw[hk];simp)
 have hkd:=q5A (ht.kd.trans hk)
 subst hkd
 rw[hx] at hv
 obtain⟨A,cap,q1,q2,q3,q4,q5,q6⟩:=hv.inv_sl
 refine qCz cx.ro ?_ (fun c hc=>by rw[ho] at hc;cases hc)
 have hev:(a.put m.dst v).eval (.tmp d)=v:=by
  rw[hmd]
  show(a.tmps.setIfInBounds d v).getD d undef=v
  have hlt:d<a.tmps.size:=by rw[hs1.size];exact hd
  simp[qLj,hlt]
 have he:execOp (a.put m.dst v).eval o=(do pure (.value (←(do eqGuard .eql t (.tmp d) qo3 ((a.put m.dst v).eval (.tmp d)) ((a.put m.dst v).eval qo3);binOp .eql t ((a.put m.dst v).eval (.tmp d)) ((a.put m.dst v).eval qo3))))):=by unfold execOp;simp only[ho]
 have hr:(do eqGuard .eql t (.tmp d) qo3 ((a.put m.dst v).eval (.tmp d)) ((a.put m.dst v).eval qo3);binOp .eql t ((a.put m.dst v).eval (.tmp d)) ((a.put m.dst v).eval qo3):Sem Value).run P w1 = .ok (.bool A.isNone) w1:=by
  rw[hev,q1,eqGuard_at_slice]
  show(do binOp .eql t (.slice A n cap) (.slice none 0 0):Sem Value).run P w1=_
  simp only[binOp,Sem.run_bind]
  unfold Op.equal Op.maxDepth Op.equalIn
  simp only[Sem.run_bind,run_underlying ht.ud,Result.andThen_ok]
  cases A<;>rfl
 refine Ql he hr ?_
 unfold wpListIn
 rw[hmd]
 refine⟨_,ρ1,hQ A.isNone (fun hb=>?_),hs2.put hod (.c _ _ (.d _ _ (.bool _)))⟩
 rcases q6 with q6|⟨b,off,f,q6,-⟩
 ·subst q6
  rw[Nat.zero_mul] at q5
  exact⟨rfl,qLw q5⟩
 ·rw[q6] at hb;cases hb
theorem qp2 (hA:Ag P T) {f:FuncId} {fn:Func} {t e bt:TypeId} (hf:P.funcs[f]?=some fn) (hb:fn.body=some (qf8 t bt)) (hname:(fn.name == "runtime.NumGoroutine")=false) (hn:fn.ntmps=8) (hr:fn.results.toList=[.tmp 2])
  (hk:T.k t = .sl e) (he:T.k e ≠ .other) (hz:0<T.sz e) (hzl:(T.zero e).length=T.sz e) {n:Nat} {ds:List D} (hl:ds.length=n*T.sz e) (hm1:n≤maxLen) (hm2:n*T.by_ e≤140737488355328) :
  AC P f [.c (.d (.sl (T.sz e) n ds))] [] 0 fun r hp=>r = .c (.d (.sl (T.sz e) n ds))∧hp=[]:=by
 refine AC.enter2 hA hf hb hname (by rw[hn];show(1:Nat)≤8;omega) (fun cx hk0 hro=>?_)
 rw[hn,hr]
 have fin:∀(s:S) (r:R),s.get 2=r→qct (po1 (T.sz e)) 0 0 [t] s [r]=some (.c (.d (.sl (T.sz e) n ds)),[])→∃rs,rvs T s [.tmp 2]=some rs∧
   ∀ρ a w,Sim cx ρ s a w→∃rs' hp' nx' ρ',(one rs' = .c (.d (.sl (T.sz e) n ds))∧hp'=[])∧Sim cx ρ' (q2j hp' nx') qcs w∧rs'.length=rs.length∧∀(j:Nat) (r r':R) (v:Value),rs[j]?=some r→rs'[j]?=some r'→RR w s.live ρ v r→RR w (q2j hp' nx').live ρ' v r':=by
  intro s r hr h
  refine⟨[r],by simp[rvs,qvY,hr],fun ρ a w hs=>?_⟩
  obtain⟨rs',nx',ρ',g1,g2,g3,g4⟩:=qaD hk0 h hs
  exact⟨rs',[],nx',ρ',⟨g1.symm,rfl⟩,g2,g3,g4⟩
 unfold qf8
 refine J.seq (qcB (z:=T.sz e) hA (by rfl) hk0 (s':=⟨[(2,.c .nils),(0,.c (.d (.sl (T.sz e) n ds)))],[],0,8⟩) (e := .normal) (by rfl) ?_)
 refine J.seq (J.seq (J.nilTest hA rfl rfl rfl rfl rfl hk (by rfl) (by show(3:Nat)<8;omega) (fun d' h=>by injection h with h;subst h;show(4:Nat)<8;omega) (fun b hb0=>?_)))
 cases b with
 | true=>
  obtain⟨rfl,rfl⟩:=hb0 rfl
  refine J.cond (by rfl) (fun _=>?_) (fun h=>by cases h)
  refine qcB (z:=T.sz e) hA (by rfl) hk0 (s':=⟨[(2,.c .nils),(4,.c (.d (.bool true))),(3,.c (.d (.sl (T.sz e) 0 []))),(2,.c .nils),(0,.c (.d (.sl (T.sz e) 0 [])))],[],0,8⟩) (e := .ret) (by rfl) ?_
  refine⟨.inr rfl,fin _ _ rfl ?_⟩
  have hz0:T.sz e≠0:=by omega
  simp[qct,qjL,qcl,qgO,po1,q6s,R.rows,C.rows,C.rows0,S.frz,qcj,qjJ,dzR,dz,one,q4Z,rng,R.refs,C.refs,C.ref0,cnR,qo6,cn,cn0,cnH,S.get,lk,hz0,S.blk,B.isBlk,R.ptrs,S.frz1,fzR,qo2,fz,fz0,fzB,vis,q6h,hl,List.eraseDups_cons,pos,B.cells]
 | false=>
  refine J.cond (by rfl) (fun h=>by cases h) (fun _=>?_)
  refine J.skip ?_
  have hall:(ds.map C.d).all C.known=true:=by rw[List.all_map];exact qLu.2 fun x _=>rfl
  have hfar:(ds.map C.d).all (C.far 0)=true:=by rw[List.all_map];exact qLu.2 fun x _=>rfl
  have hdat:(ds.map C.d).all C.dat=true:=by rw[List.all_map];exact qLu.2 fun x _=>rfl
  have hfg:(ds.map C.d).map (C.fg 0)=ds.map C.d:=by rw[List.map_map];rfl
  refine qcB (z:=T.sz e) hA (by rfl) hk0 (s':=⟨[(2,.c (.own 0 (T.sz e) 0 n)),(7,.c (.own 0 (T.sz e) 0 n)),(6,.c (.d (.sl (T.sz e) n ds))),(5,.c .any),(4,.c (.d (.bool false))),(3,.c (.d (.sl (T.sz e) n ds))),(2,.c .nils),(0,.c (.d (.sl (T.sz e) n ds)))],[(0,.row e (T.sz e) (ds.map C.d)),(0,.row e (T.sz e) [])],1,8⟩) (e := .ret) ?_ ?_
  ·simp[XD0,XD,xr,xgd,qfO,qpy,ipA,ipS,ipF,ipX,xst,pre,qBp,qbq,q6s,R.rows,S.frz,xo,xCl,q2l,bld,q7g,S.seq,S.ev,S.get,lk,S.put,S.up,S.fg,R.fg,C.fg,B.fg,S.blk,hk,he,hz,hzl,hl,hm1,hm2,hall,hfar,qcS,sqD,q50,tt,C.known,C.far]
  ·refine⟨.inr rfl,fin _ _ rfl ?_⟩
   have hz0:T.sz e≠0:=by omega
   simp[qct,qjL,qcl,qgO,po1,q6s,R.rows,C.rows,C.rows0,S.frz,qcj,qjJ,dzR,dz,one,q4Z,rng,R.refs,C.refs,C.ref0,cnR,qo6,cn,cn0,cnH,S.get,lk,hz0,S.blk,B.isBlk,R.ptrs,S.frz1,fzR,qo2,fz,fz0,fzB,vis,q6h,hl,List.eraseDups_cons,pos,B.cells]
theorem qlH (hA:Ag P T) {f:FuncId} {fn:Func} {t e bt:TypeId} (hf:P.funcs[f]?=some fn) (hb:fn.body=some (qf8 t bt)) (hname:(fn.name == "runtime.NumGoroutine")=false) (hn:fn.ntmps=8) (hr:fn.results.toList=[.tmp 2])
  (hk:T.k t = .sl e) (he:T.k e ≠ .other) (hz:0<T.sz e) (hzl:(T.zero e).length=T.sz e) {n:Nat} {ds:List D} (hl:ds.length=n*T.sz e) (hm1:n≤maxLen) (hm2:n*T.by_ e≤140737488355328) :
  AC P f [.c (.d (.sl (T.sz e) n ds))] [] 0 fun r hp=>r = .c (.own 0 (T.sz e) 0 n)∧hp=[(0,.row e (T.sz e) (ds.map C.d))]:=by
 refine AC.enter2 hA hf hb hname (by rw[hn];show(1:Nat)≤8;omega) (fun cx hk0 hro=>?_)
 rw[hn,hr]
 have fin:∀(s:S) (r:R),s.get 2=r→qct (po1 (T.sz e) true) 0 0 [t] s [r]=some (.c (.own 0 (T.sz e) 0 n),[(0,.row e (T.sz e) (ds.map C.d))])→∃rs,rvs T s [.tmp 2]=some rs∧
   ∀ρ a w,Sim cx ρ s a w→∃rs' hp' nx' ρ',(one rs' = .c (.own 0 (T.sz e) 0 n)∧hp'=[(0,.row e (T.sz e) (ds.map C.d))])∧Sim cx ρ' (q2j hp' nx') qcs w∧rs'.length=rs.length∧∀(j:Nat) (r r':R) (v:Value),rs[j]?=some r→rs'[j]?=some r'→RR w s.live ρ v r→RR w (q2j hp' nx').live ρ' v r':=by
  intro s r hr h
  refine⟨[r],by simp[rvs,qvY,hr],fun ρ a w hs=>?_⟩
  obtain⟨rs',nx',ρ',g1,g2,g3,g4⟩:=qaD hk0 h hs
  exact⟨rs',_,nx',ρ',⟨g1.symm,rfl⟩,g2,g3,g4⟩
 unfold qf8
 refine J.seq (qcB (z:=T.sz e) hA (by rfl) hk0 (s':=⟨[(2,.c .nils),(0,.c (.d (.sl (T.sz e) n ds)))],[],0,8⟩) (e := .normal) (by rfl) ?_)
 refine J.seq (J.seq (J.nilTest hA rfl rfl rfl rfl rfl hk (by rfl) (by show(3:Nat)<8;omega) (fun d' h=>by injection h with h;subst h;show(4:Nat)<8;omega) (fun b hb0=>?_)))
 cases b with
 | true=>
  obtain⟨rfl,rfl⟩:=hb0 rfl
  refine J.cond (by rfl) (fun _=>?_) (fun h=>by cases h)
  refine qcB (z:=T.sz e) hA (by rfl) hk0 (s':=⟨[(2,.c .nils),(4,.c (.d (.bool true))),(3,.c (.d (.sl (T.sz e) 0 []))),(2,.c .nils),(0,.c (.d (.sl (T.sz e) 0 [])))],[],0,8⟩) (e := .ret) (by rfl) ?_
  refine⟨.inr rfl,[.c .nils],rfl,fun ρ a w hs=>?_⟩
  obtain⟨ids,nx',ρ',g1,g2,g3⟩:=qi3 (rs:=[]) (r' := .tup []) (hp':=[]) hk0 rfl hs
  obtain⟨ρ2,g4,g5⟩:=Sim.rerow (id:=0) (w':=w) (v := .slice none 0 0) (v' := .slice none 0 0) (e:=e) (sz:=T.sz e) (n:=0) (cs:=[]) (us:=[]) g2 (.inr ⟨rfl,fun h=>by unfold S.live S.blk q2j at h;simp[lk,B.live] at h⟩) (World.grownBy.refl w _) (.inl rfl) ⟨by simp,.inl ⟨rfl,rfl⟩⟩ hz (by simp) (by rw[hk0];omega) (fun j c hj=>by simp at hj)
  have hblk:∀i,(q2j [(0,B.row e (T.sz e) [])] 1).blk i=(((q2j [] nx').fg 0).up [(0,B.row e (T.sz e) [])]).blk i:=fun i=>rfl
  have hlive:(q2j [(0,B.row e (T.sz e) [])] 1).live=(((q2j [] nx').fg 0).up [(0,B.row e (T.sz e) [])]).live:=by funext i;unfold S.live;rw[hblk]
  refine⟨[.c (.own 0 (T.sz e) 0 0)],[(0,B.row e (T.sz e) [])],1,ρ2,⟨rfl,rfl⟩,g4.ext (fun i=>rfl) hblk rfl (fun i hi=>?_),rfl,fun j r r' v hj hj' hv=>?_⟩
  ·unfold S.live S.blk q2j at hi
   show i<1
   rcases Nat.lt_or_ge i 1 with h|h
   ·exact h
   ·simp[lk,show ¬ 0=i by omega,B.live] at hi
  ·cases j with
   | zero=>
    simp only[qLn,qM3] at hj hj'
    subst hj hj'
    rw[hv.inv_nils,hlive]
    exact g5
   | succ j=>simp at hj
 | false=>
  refine J.cond (by rfl) (fun h=>by cases h) (fun _=>?_)
  refine J.skip ?_
  have hall:(ds.map C.d).all C.known=true:=by rw[List.all_map];exact qLu.2 fun x _=>rfl
  have hfar:(ds.map C.d).all (C.far 0)=true:=by rw[List.all_map];exact qLu.2 fun x _=>rfl
  have hdat:(ds.map C.d).all C.dat=true:=by rw[List.all_map];exact qLu.2 fun x _=>rfl
  have hfg:(ds.map C.d).map (C.fg 0)=ds.map C.d:=by rw[List.map_map];rfl
  refine qcB (z:=T.sz e) hA (by rfl) hk0 (s':=⟨[(2,.c (.own 0 (T.sz e) 0 n)),(7,.c (.own 0 (T.sz e) 0 n)),(6,.c (.d (.sl (T.sz e) n ds))),(5,.c .any),(4,.c (.d (.bool false))),(3,.c (.d (.sl (T.sz e) n ds))),(2,.c .nils),(0,.c (.d (.sl (T.sz e) n ds)))],[(0,.row e (T.sz e) (ds.map C.d)),(0,.row e (T.sz e) [])],1,8⟩) (e := .ret) ?_ ?_
  ·simp[XD0,XD,xr,xgd,qfO,qpy,ipA,ipS,ipF,ipX,xst,pre,qBp,qbq,q6s,R.rows,S.frz,xo,xCl,q2l,bld,q7g,S.seq,S.ev,S.get,lk,S.put,S.up,S.fg,R.fg,C.fg,B.fg,S.blk,hk,he,hz,hzl,hl,hm1,hm2,hall,hfar,qcS,sqD,q50,tt,C.known,C.far]
  ·refine⟨.inr rfl,fin _ _ rfl ?_⟩
   have hz0:T.sz e≠0:=by omega
   have hcn:∀ids,(ds.map C.d).map (cn ids)=ds.map C.d:=fun ids=>by rw[List.map_map];rfl
   simp[cnB,B.live,B.refs,hcn,hdat,qct,qjL,qcl,qgO,po1,q6s,R.rows,C.rows,C.rows0,S.frz,qcj,qjJ,dzR,dz,one,q4Z,rng,R.refs,C.refs,C.ref0,cnR,qo6,cn,cn0,cnH,S.get,lk,hz0,S.blk,B.isBlk,R.ptrs,S.frz1,fzR,qo2,fz,fz0,fzB,vis,q6h,hl,List.eraseDups_cons,pos,B.cells]
def q7f (T:Ty) (e:TypeId) (own:Bool):List R→Option (R×List (Nat×B))
 | [.c (.d (.sl z n ds))]=>if z=T.sz e∧ds.length=n*z∧n≤maxLen∧n*T.by_ e≤140737488355328 then(if own=true then some (.c (.own 0 z 0 n),[(0,.row e z (ds.map C.d))]) else some (.c (.d (.sl z n ds)),[])) else none
 | _=>none
theorem qcZ (hA:Ag P T) {f:FuncId} {fn:Func} {t e bt:TypeId} (hf:P.funcs[f]?=some fn) (hb:fn.body=some (qf8 t bt)) (hname:(fn.name == "runtime.NumGoroutine")=false) (hn:fn.ntmps=8) (hr:fn.results.toList=[.tmp 2])
  (hk:T.k t = .sl e) (he:T.k e ≠ .other) (hz:0<T.sz e) (hzl:(T.zero e).length=T.sz e) {own:Bool} {args:List R} {r:R} {G':List (Nat×B)} (h:q7f T e own args=some (r,G')):AC P f args [] 0 fun r' hp'=>r'=r∧hp'=G':=by
 unfold q7f at h
 split at h
 ·split at h
  ·rename_i hc
   obtain⟨rfl,h1,h2,h3⟩:=hc
   split at h
   ·injection h with h
    injection h with h4 h5
    subst h4 h5
    exact qlH hA hf hb hname hn hr hk he hz hzl h1 h2 h3
   ·injection h with h
    injection h with h4 h5
    subst h4 h5
    exact qp2 hA hf hb hname hn hr hk he hz hzl h1 h2 h3
  ·cases h
 ·cases h
end
end
end Go.Proofs.YtojflbfdcpkedaaGreat.Vc
namespace Go
open Go.Proofs.YtojflbfdcpkedaaGreat.Vc (qLt qLO)
theorem World.ask_drawn {α:Type}:∀(a:Ask α) (w:World),w.drawn≤(w.ask a).2.drawn
 | .done a,w=>by unfold World.ask;exact qLt _
 | .ask what r k,w=>by
  unfold World.ask
  dsimp only
  split
  ·exact World.ask_drawn (k 0) w
  ·exact qLO (Nat.le_succ _) (World.ask_drawn _ { w with drawn:=w.drawn+1 })
theorem World.sys_drawn (w:World) (c:Sys):w.drawn≤(w.sys c).2.drawn:=by
 unfold World.sys
 split
 ·exact qLt _
 ·rename_i r os w' h
  have:=World.ask_drawn (Kernel.perform c w.os) w
  rw[h] at this
  exact this
theorem World.setCell_drawn (w:World) (a:Addr) (v:Value):(w.setCell a v).drawn=w.drawn:=rfl
theorem World.freeze_drawn (w:World) (a:Addr) (n:Nat):(w.freeze a n).drawn=w.drawn:=by unfold World.freeze;split<;>rfl
theorem World.viewStore_drawn {p:Program} {w:World} {at_:Addr} {u:TypeId} {k:Addr} {v:Value} {b:Bool} {r:World×List Addr} (h:w.viewStore p at_ u k v b = .ok r):r.1.drawn=w.drawn:=by
 unfold World.viewStore at h
 simp only[bind,Except.bind,pure,Except.pure,throw,throwThe,MonadExceptOf.throw] at h
 repeat (split at h<;>try (cases h;done))
 all_goals (injection h with h;subst h;rfl)
theorem World.farStore_drawn {p:Program} {w:World} {a:Addr} {v:Value} {b:Bool} {r:World×List Addr} (h:w.farStore p a v b = .ok r):r.1.drawn=w.drawn:=by
 unfold World.farStore at h
 split at h
 ·split at h
  ·rename_i h2
   injection h with h;subst h
   exact World.viewStore_drawn h2
  ·cases h
 ·cases h
def Result.world {α:Type}:Result α→World
 | .ok _ w=>w
 | .halt _ w=>w
theorem Sem.run_drawn {α:Type} (p:Program) (s:Sem α):∀w:World,w.drawn≤(s.run p w).world.drawn:=by
 induction s with
 | pure a=>intro w;exact qLt _
 | load m a k ih=>
  intro w
  simp only[Sem.run]
  split
  ·exact ih _ w
  ·split
   ·exact ih _ w
   ·exact qLt _
 | store m a v k ih=>
  intro w
  have key:w.drawn≤(match w.cell? a with
   | some _=>if w.frozen? a then .halt (.unsupported (.unsafePointer "a write to bytes that a string shares")) w else k.run p (w.setCell a v)
   | none=>match w.farStore p a v (m == .atomic) with
    | .ok (w,_)=>k.run p w
    | .error h => .halt h w:Result α).world.drawn:=by
   split
   ·split
    ·exact qLt _
    ·exact ih (w.setCell a v)
   ·split
    ·rename_i h
     have h1:=World.farStore_drawn h
     dsimp only at h1
     rw[←h1];exact ih _
    ·exact qLt _
  cases v<;>first|exact key|exact qLt _
 | new o k ih=>intro w;simp only[Sem.run];exact ih _ { w with heap:=w.heap.push o }
 | shape r k ih=>intro w;simp only[Sem.run];exact ih _ w
 | freeze a n k ih=>intro w;simp only[Sem.run];rw[←World.freeze_drawn w a n];exact ih _
 | frozen a k ih=>intro w;simp only[Sem.run];exact ih _ w
 | getObj r k ih=>
  intro w;simp only[Sem.run]
  split
  ·exact qLt _
  ·exact ih _ w
  ·exact qLt _
 | setObj r o k ih=>
  intro w;simp only[Sem.run]
  split
  ·exact qLt _
  ·exact ih { w with heap:=w.heap.setIfInBounds r o }
  ·exact qLt _
 | choose q k ih=>
  intro w;simp only[Sem.run]
  split
  ·exact ih _ w
  ·exact qLO (Nat.le_succ _) (ih _ { w with drawn:=w.drawn+1 })
 | sys c k ih=>intro w;simp only[Sem.run];exact qLO (World.sys_drawn w c) (ih _ _)
 | program k ih=>intro w;simp only[Sem.run];exact ih _ w
 | mark m k ih=>intro w;simp only[Sem.run];exact ih w
 | halt h=>intro w;exact qLt _
theorem ZR {α:Type} {p:Program} {s:Sem α} {w w':World} {a:α} (h:s.run p w = .ok a w'):w.drawn≤w'.drawn:=by
 have:=Sem.run_drawn p s w
 rw[h] at this;exact this
theorem ZO {α:Type} {p:Program} {s:Sem α} {w w':World} {a:Halt} (h:s.run p w = .halt a w'):w.drawn≤w'.drawn:=by
 have:=Sem.run_drawn p s w
 rw[h] at this;exact this
def GStep.world:GStep→World
 | .go _ w _=>w
 | .comm _ _ _ _ w _=>w
 | .spawn _ _ w _=>w
 | .count _ w _=>w
 | .timer _ _ w _=>w
 | .alone _ _ w _=>w
 | .newcoro _ _ _ w _=>w
 | .coroswitch _ _ _ w _=>w
 | .collect _ w _=>w
 | .watch _ w _=>w
 | .ended _ w _=>w
theorem GStep.after_world (es:Array Event) (s:GStep):(GStep.after es s).world=s.world:=by cases s<;>rfl
def GM (w:World) (s:GStep):Prop:=w.drawn≤s.world.drawn
theorem GM.after {w:World} {s:GStep} {es:Array Event} (h:GM w s):GM w (GStep.after es s):=by unfold GM;rw[GStep.after_world];exact h
theorem GM.of {w w':World} {s:GStep} (h:GM w' s) (hw:w.drawn≤w'.drawn):GM w s:=qLO hw h
theorem qij {c:Prop} [Decidable c] {w:World} {a b:GStep} (h1:GM w a) (h2:GM w b):GM w (if c then a else b):=by split<;>assumption
theorem qjR (w:World) (fd:Nat) (t:ByteArray) (o:Outcome):GM w (endWith w fd t o):=by
 unfold endWith
 have h:=World.sys_drawn w (.write fd t)
 dsimp only
 split<;>rename_i hh<;>rw[hh] at h
 ·split<;>exact h
 ·exact h
 ·exact h
theorem qBB (fr:Frame) (l:List ByteArray) (m:String) (b:Bool) (w:World):GM w (dieOf fr l m b w):=qLt _
theorem q3s (fr:Frame) (m:String) (w:World):GM w (endThrow fr m w):=qLt _
theorem q76 (p:Program) (fr:Frame) (v:Value) (w:World):GM w (endPrinting p fr v w):=by
 unfold endPrinting
 dsimp only
 split<;>exact qLt _
theorem qb3 (p:Program) (fr:Frame) (cs:List Frame) (d:Option Dying) (m:String) (w:World):GM w (endFatal p fr cs d m w):=by
 unfold endFatal
 dsimp only
 split
 ·rename_i h;exact ZR h
 ·rename_i h;exact ZO h
 ·rename_i h;exact ZO h
theorem qjV (p:Program) (fr:Frame) (d:Dying) (f:Fatal) (w:World):GM w (writeOn p fr d f w):=by
 unfold writeOn
 dsimp only
 split
 ·exact qLt _
 ·rw[Sem.runT_eq]
  split<;>rename_i h<;>injection h with h<;>first|exact ZR h|exact ZO h
theorem qzl (p:Program) (fr:Frame) (d:Dying) (w:World):GM w (die p fr d w):=by
 unfold die
 split
 ·exact qjV ..
 ·split
  ·split
   ·exact qLt _
   ·exact qjR ..
  ·dsimp only
   split
   ·exact qLt _
   ·split
    ·rename_i h;exact ZR h
    ·rename_i h;exact ZO h
   ·rw[Sem.runT_eq]
    refine GM.after ?_
    split<;>first
     | (rename_i h;exact ZR h)
     | (rename_i h;exact ZO h)
     | (rename_i h;exact(q76 ..).of (ZO h))
     | exact qLt _
   ·exact qLt _
theorem q3C (p:Program) (main:Bool) (fr:Frame) (cs:List Frame) (d:Option Dying) (v:Value) (w:World):GM w (doReturn p main fr cs d v w):=by
 unfold doReturn
 repeat' split
 all_goals exact qLt _
theorem qb0 (p:Program) (fr:Frame) (cs:List Frame) (d:Option Dying) (f:Deferred) (w:World):GM w (callDeferred p fr cs d f w):=by
 unfold callDeferred
 refine qij (qLt _) ?_
 rw[Sem.runT_eq]
 refine GM.after ?_
 split<;>first
  | (rename_i h;exact ZR h)
  | (rename_i h;exact ZO h)
  | (rename_i h;exact(qb3 ..).of (ZO h))
  | (rename_i h;exact(q3s ..).of (ZO h))
  | (rename_i h;split<;>exact ZR h)
theorem qkF (p:Program) (main:Bool) (fr:Frame) (cs:List Frame) (d:Option Dying) (w:World):GM w (unwind p main fr cs d w):=by
 unfold unwind
 split
 ·rw[Sem.runT_eq]
  refine GM.after ?_
  split<;>first
   | (rename_i h;exact ZR h)
   | (rename_i h;exact ZO h)
 ·exact qb0 ..
 ·split
  ·exact qLt _
  ·split
   ·exact qLt _
   ·split
    ·exact qLt _
    ·split
     ·split
      ·exact qLt _
      ·split<;>first
        | (rename_i h;exact ZR h)
        | (rename_i h;exact ZO h)
     ·split
      ·exact q76 ..
      ·exact qLt _
  ·split
   ·exact q3C ..
   ·rw[Sem.runT_eq]
    refine GM.after ?_
    split<;>first
     | (rename_i h;exact(q3C ..).of (ZR h))
     | (rename_i h;exact ZO h)
theorem qpZ (p:Program) (fr:Frame) (cs:List Frame) (d:Option Dying) (g:Nat) (w:World):GM w (early p fr cs d g w):=by
 have hn:∀w:World,GM w (match w.heap[g]? with
   | some (.pending c elem) => .go { frame:=fr,callers:=cs,status := .running,dying:=d } { w with heap:=w.heap.setIfInBounds g (.cells c elem) }
   | _ => .ended (.stuck "early: the variable does not wait" (fr.pos p)) w):=fun w=>by
  split<;>exact qLt _
 unfold early
 dsimp only
 split
 ·exact hn w
 ·split
  ·exact qLt _
  ·split
   ·exact hn w
   ·split
    ·exact hn w
    ·split
     ·exact qLt _
     ·exact qLt _
     ·exact qLt _
     ·exact hn w
     ·split
      ·exact qLt _
      ·split
       ·exact hn w
       ·split<;>rename_i h
        ·exact(hn _).of (ZR h)
        ·exact ZR h
        ·exact ZO h
theorem q8w (p:Program) (listen:Bool) (fr:Frame) (cs:List Frame) (d:Option Dying) (s:Sem Next) (w:World):GM w (stepG.apply p listen fr cs d s w):=by
 cases listen
 all_goals
  simp only[stepG.apply,Sem.runT_eq,if_true,Bool.false_eq_true,if_false]
  refine GM.after ?_
  split<;>rename_i h<;>first
   | exact ZR h
   | exact ZO h
   | exact(qb3 ..).of (ZO h)
   | exact(q3s ..).of (ZO h)
   | exact(qpZ ..).of (ZO h)
   | exact qij ((q3s ..).of (ZR h)) (ZR h)
   | (split<;>exact ZR h)
theorem qvb (p:Program) (listen:Bool) (fr:Frame) (cs:List Frame) (d:Option Dying) (w:World):GM w (stepG.oper p listen fr cs d w):=by
 unfold stepG.oper
 split
 ·exact qLt _
 ·split<;>exact q8w ..
set_option maxHeartbeats 4000000 in
theorem qsm (p:Program) (main listen:Bool) (fr:Frame) (cs:List Frame) (d:Option Dying) (w:World):GM w (stepG.exec p main listen fr cs d w):=by
 have hleave:∀jump:Option Code,GM w (match fr.roundOf with
   | none=>if jump matches none|some .ret then .go { frame:={ fr with mode := .returning },callers:=cs,status := .running,dying:=d } w else .ended (.stuck "exit, goto: no such block or label" (fr.pos p)) w
   | some l=>
    let (r,es):=(Instr.endRound l jump).runT p w #[]
    GStep.after (seen p fr.fn es) <| match r with
    | .ok v w=>doReturn p main fr cs d v w
    | .halt _ w => .ended (.stuck "range over a function: no such loop" (fr.pos p)) w):=fun jump=>by
  split
  ·exact qij (qLt _) (qLt _)
  ·rw[Sem.runT_eq]
   refine GM.after ?_
   split<;>rename_i h
   ·exact(q3C ..).of (ZR h)
   ·exact ZO h
 unfold stepG.exec
 dsimp only
 split
 all_goals first
  | exact qLt _
  | exact hleave _
  | exact q8w ..
  | skip
 all_goals try simp only[Option.elim,Sem.runT_eq]
 case h_15=>
  refine GM.after ?_
  split
  ·rename_i h
   exact GM.of (q8w p listen _ _ _ _ _) (ZR h)
  ·rename_i h
   exact ZO h
 all_goals repeat' first
  | exact qLt _
  | exact q8w ..
  | exact qvb ..
  | refine GM.after ?_
  | refine qij ?_ ?_
  | (rename_i h;exact ZR h)
  | (rename_i h;exact ZO h)
  | (rename_i h;exact(q3C ..).of (ZR h))
  | (rename_i h;refine GM.of ?_ (ZR h);first|exact q8w .. | exact q3C ..)
  | split
theorem qpb (p:Program) (main:Bool) (g:Goroutine) (w:World) (listen:Bool):GM w (stepG p main g w listen):=by
 unfold stepG
 dsimp only
 split
 ·exact qzl ..
 ·exact qsm ..
 ·exact qkF ..
def SM (w:World):Stepped→Prop
 | .next m=>w.drawn≤m.world.drawn
 | _=>True
theorem SM.of {w w':World} {s:Stepped} (h:SM w' s) (hw:w.drawn≤w'.drawn):SM w s:=by
 cases s with
 | next m=>exact qLO hw h
 | _=>trivial
theorem qy4 {c:Prop} [Decidable c] {w:World} {a b:Stepped} (h1:SM w a) (h2:SM w b):SM w (if c then a else b):=by split<;>assumption
theorem qmg (p:Program) (gs:Array Goroutine) (rest:Rest) (w:World):SM w (look p gs rest w):=by
 unfold look
 split
 ·dsimp only
  refine qy4 trivial ?_
  split
  ·trivial
  ·split
   ·rename_i h;have h':=ZR h;exact h'
   ·trivial
   ·trivial
 ·trivial
theorem qqt (p:Program) (m:Machine) (k:Nat):SM m.world (serve p m k):=by
 unfold serve
 split
 ·trivial
 ·exact qLt _
 ·dsimp only
  split
  ·trivial
  ·exact qLt _
theorem qhr (w:World) (c:Nat):(drain w c).2.drawn=w.drawn:=by
 unfold drain
 split<;>rfl
theorem q9S (m:Machine) (k:Nat) (t:Timer) (a b:Nat):(retime m k t a b).2.world.drawn=m.world.drawn:=by
 unfold retime
 cases t.chan with
 | none=>rfl
 | some c=>exact qhr m.world c
theorem qda {m:Machine} {op:TimerOp} {v:Value} {m':Machine} (h:timerOp m op = .ok (v,m')):m'.world.drawn=m.world.drawn:=by
 unfold timerOp at h
 split at h
 ·split at h
  ·injection h with h;injection h with _ h;subst h;rfl
  ·split at h
   ·split at h
    ·cases h
    ·injection h with h;injection h with _ h;subst h;rfl
   ·cases h
 ·unfold timerOp.named at h
  split at h
  ·injection h with h
   have:=congrArg (fun q=>q.2.world.drawn) h
   dsimp only at this
   rw[←this];exact q9S ..
  ·cases h
 ·split at h
  ·rename_i m1 hm
   have h1:m1.world.drawn=m.world.drawn:=by
    unfold timerOp.opened at hm
    split at hm
    ·split at hm
     ·injection hm with hm;subst hm;rfl
     ·cases hm
    ·injection hm with hm;subst hm;rfl
   unfold timerOp.named at h
   split at h
   ·injection h with h
    have:=congrArg (fun q=>q.2.world.drawn) h
    dsimp only at this
    rw[←this];exact(q9S ..).trans h1
   ·cases h
  ·cases h
 ·dsimp only at h
  injection h with h;injection h with _ h;subst h;rfl
theorem qco (p:Program) (rest:Rest) (gs:Array Goroutine) (i:Nat) (g:Goroutine) (cases:Array CommCase) (b:Bool) (shape:CommShape) (w:World):SM w (communicate p rest gs i g cases b shape w).1:=by
 unfold communicate
 dsimp only
 split
 ·trivial
 ·split
  ·split
   ·split
    ·rename_i h
     unfold waitingAt at h
     split at h
     ·split at h
      ·injection h with h;subst h;exact qLt _
      ·cases h
     ·injection h with h;subst h;exact qLt _
    ·trivial
   ·exact qLt _
  ·split
   ·trivial
   ·rename_i h
    refine SM.of ?_ (ZR h)
    split
    ·split
     ·rename_i h;have h':=ZO h;exact h'
     ·trivial
    ·exact qLt _
    ·exact qLt _
    ·split
     ·exact qLt _
     ·split
      ·rename_i h;have h':=ZR h;exact h'
      ·trivial
    ·exact qLt _
    ·exact qLt _
    ·trivial
theorem qsK (p:Program) (m:Machine) (i:Nat) (listen:Bool):SM m.world (runT p m i listen).1:=by
 unfold runT
 dsimp only
 generalize hg:(m.gs.swapAt! i { (default:Goroutine) with status := .finished })=q
 obtain⟨g,gs⟩:=q
 dsimp only
 have hS:=qpb p (i==0) g m.world listen
 generalize stepG p (i==0) g m.world listen=s at hS
 cases s with
 | ended o w es=>trivial
 | comm g cases b shape w es=>exact(qco ..).of hS
 | go g w es=>exact hS
 | spawn g c w es=>exact hS
 | count g w es=>
  dsimp only
  split
  ·trivial
  ·exact hS
 | alone g on w es=>exact hS
 | collect g w es=>exact(qmg ..).of hS
 | watch g w es=>exact hS
 | newcoro g c d w es=>exact hS
 | coroswitch g c ex w es=>
  dsimp only
  split
  ·exact hS
  ·split
   ·rename_i h
    have h':=q3s g.frame "coroswitch on exited coro" w
    rw[h] at h'
    exact qLO hS h'
   ·trivial
  ·trivial
 | timer g op w es=>
  dsimp only
  split
  ·rename_i h
   have h':=qda h
   show m.world.drawn≤_
   rw[show ∀(a:Machine) (b:Array Goroutine),({ a with gs:=b }:Machine).world.drawn=a.world.drawn from fun _ _=>rfl,h']
   exact hS
  ·split
   ·rename_i msg _ _ _ _ _ h
    have h':=q3s g.frame msg w
    rw[h] at h'
    exact qLO hS h'
   ·trivial
  ·trivial
  ·trivial
def MM (w:World):Move→Prop
 | .goroutine m _=>w.drawn≤m.world.drawn
 | .machine s _=>SM w s
theorem MM.of {w w':World} {s:Move} (h:MM w' s) (hw:w.drawn≤w'.drawn):MM w s:=by
 cases s with
 | goroutine m i=>exact qLO hw h
 | machine s o=>exact SM.of h hw
theorem qdZ (p:Program) (m:Machine):MM m.world (askOn p m):=by
 unfold askOn
 dsimp only
 split
 ·trivial
 ·rename_i h
  have h0:=ZR h
  split
  ·exact(qqt p _ _).of h0
  ·split
   ·split
    ·exact h0
    ·split
     ·exact h0
     ·split<;>trivial
   ·split
    ·split
     ·trivial
     ·rename_i h1
      have h1':=ZR h1
      split
      ·exact qLO h0 h1'
      ·split
       ·trivial
       ·rename_i h2;exact qLO (qLO h0 h1') (ZR h2)
    ·split
     ·trivial
     ·rename_i h2
      have h2':=ZR h2
      split
      ·trivial
      ·rename_i h1
       have h1':=ZR h1
       split
       ·exact qLO (qLO h0 h2') h1'
       ·split
        ·trivial
        ·rename_i h3;exact qLO (qLO (qLO h0 h2') h1') (ZR h3)
     ·rename_i h2;have h2':=ZR h2;exact qLO h0 h2'
     ·rename_i h2
      have h2':=ZR h2
      split
      ·trivial
      ·rename_i h1
       have h1':=ZR h1
       split
       ·exact qLO (qLO h0 h2') h1'
       ·split
        ·trivial
        ·rename_i h3;exact qLO (qLO (qLO h0 h2') h1') (ZR h3)
theorem qry (p:Program) (m:Machine):MM m.world (ask p m):=by
 unfold ask
 split
 ·split
  ·trivial
  ·rename_i h
   refine MM.of (w':=_) ?_ (ZR h)
   have hl:=qmg p m.gs m.rest ‹World›
   split
   ·rename_i h2;rw[h2] at hl;exact(qdZ p _).of hl
   ·exact hl
  ·rename_i h
   exact(qdZ p _).of (ZR h)
 ·exact qdZ p m
theorem qu9 (p:Program) (m:Machine):MM m.world (move p m):=by
 unfold move
 split
 ·split
  ·exact qLt _
  ·trivial
 ·split
  ·split
   ·exact qLt _
   ·exact qry p _
  ·exact qry p m
theorem qtQ (p:Program) (m:Machine):SM m.world (step p m):=by
 unfold step stepT
 have h:=qu9 p m
 split
 ·rename_i h2;rw[h2] at h;exact(qsK ..).of h
 ·rename_i h2;rw[h2] at h;exact h
theorem qcO (p:Program):∀(n:Nat) (m m':Machine),runN p n m = .next m'→m.world.drawn≤m'.world.drawn
 | 0,m,m',h=>by unfold runN at h;injection h with h;subst h;exact qLt _
 | n+1,m,m',h=>by
  unfold runN at h
  have hs:=qtQ p m
  split at h
  ·rename_i h2
   rw[h2] at hs
   exact qLO hs (qcO p n _ _ h)
  ·rename_i h2
   exact absurd h (h2 _)
theorem Steps.drawn {P:Program} {m m':Machine} (h:Steps P m m'):m.world.drawn≤m'.world.drawn:=by
 obtain⟨n,hn⟩:=h
 exact qcO P n m m' hn
theorem Calls.drawn {P:Program} {f:FuncId} {args:Array Value} {w:World} {R:Ending→World→Prop} (h:Calls P f args w R):Calls P f args w fun e w'=>R e w'∧(e ≠ .outgrown→w.drawn≤w'.drawn):=fun cs=>by
 obtain⟨e,w',fr,h1,h2,h3⟩:=h cs
 refine⟨e,w',fr,⟨h1,fun he=>?_⟩,h2,h3⟩
 cases e with
 | outgrown=>exact absurd rfl he
 | returned v=>exact Steps.drawn h2
 | panicked c=>exact Steps.drawn h2
end Go
namespace Go.Proofs.YtojflbfdcpkedaaGreat.Vc
end Go.Proofs.YtojflbfdcpkedaaGreat.Vc
namespace Go
open Go.Sort
theorem qu2 {w w':World} (h:w.grownBy w' none) (hd:w.drawn≤w'.drawn):∃q os',w'=grow (w.drewN q) os':=by
 refine⟨w'.drawn-w.drawn,w'.heap.extract w.heap.size w'.heap.size,?_⟩
 obtain⟨h1,h2,h3,h4,h5⟩:=h
 unfold grow World.drewN
 obtain⟨heap',tape',drawn',os',output'⟩:=w'
 obtain⟨heap,tape,drawn,os,output⟩:=w
 dsimp only at *
 subst h1 h2 h3
 congr 1
 ·apply Array.ext_getElem?
  intro k
  rw[Array.getElem?_append]
  split
  ·rename_i hk
   exact h5 k hk (by intro e;cases e)
  ·rename_i hk
   rw[Array.getElem?_extract]
   by_cases hk2:k<heap'.size
   ·rw[if_pos (by omega),show heap.size+(k-heap.size)=k by omega]
   ·rw[if_neg (by omega)]
    exact Array.getElem?_eq_none (by omega)
 ·omega
end Go
namespace Go.Proofs.YtojflbfdcpkedaaGreat.Vc
noncomputable section
open Go.RowKit
structure OrB (f:Int→Int→Option Int) (zs:List Int):Prop where
 ir:∀x∈zs,ltB f x x=false
 tot:∀x∈zs,∀y∈zs,x=y∨ltB f x y=true∨ltB f y x=true
 tr:∀x∈zs,∀y∈zs,∀z∈zs,ltB f x y=true→ltB f y z=true→ltB f x z=true
theorem qkP {f:Int→Int→Option Int} {zs:List Int} (h:okB f zs=true):OrB f zs:=by
 unfold okB at h
 rw[qLJ,qLJ,qLJ] at h
 obtain⟨⟨⟨-,h2⟩,h3⟩,h4⟩:=h
 refine⟨fun x hx=>?_,fun x hx y hy=>?_,fun x hx y hy z hz a b=>?_⟩
 ·simpa using qLu.1 h2 x hx
 ·have:=qLu.1 (qLu.1 h3 x hx) y hy
  rw[qLI,qLI,qMd,or_assoc] at this
  exact this
 ·have:=qLu.1 (qLu.1 (qLu.1 h4 x hx) y hy) z hz
  rw[a,b] at this
  simpa using this
theorem OrB.asym {f:Int→Int→Option Int} {zs:List Int} (h:OrB f zs) {x y:Int} (hx:x∈zs) (hy:y∈zs) (a:ltB f x y=true):ltB f y x=false:=by
 cases b:ltB f y x with
 | false=>rfl
 | true=>have:=h.tr x hx y hy x hx a b;rw[h.ir x hx] at this;cases this
theorem OrB.anti {f:Int→Int→Option Int} {zs:List Int} (h:OrB f zs) {x y:Int} (hx:x∈zs) (hy:y∈zs) (a:ltB f x y=false) (b:ltB f y x=false):x=y:=by
 rcases h.tot x hx y hy with e|e|e
 ·exact e
 ·rw[e] at a;cases a
 ·rw[e] at b;cases b
theorem OrB.ntr {f:Int→Int→Option Int} {zs:List Int} (h:OrB f zs) {x y z:Int} (hx:x∈zs) (hy:y∈zs) (hz:z∈zs) (a:ltB f x y=false) (b:ltB f y z=false):ltB f x z=false:=by
 cases c:ltB f x z with
 | false=>rfl
 | true=>
  rcases h.tot x hx y hy with e|e|e
  ·subst e;rw[b] at c;cases c
  ·rw[a] at e;cases e
  ·have:=h.tr y hy x hx z hz e c
   rw[b] at this;cases this
theorem qer (f:Int→Int→Option Int) (x:Int):∀l:List Int,(qeo f x l).Perm (x::l)
 | [] => .refl _
 | y::l=>by
  unfold qeo
  split
  ·exact((qer f x l).cons y).trans (.swap x y l)
  ·exact .refl _
theorem qcR (f:Int→Int→Option Int):∀l:List Int,(q0C f l).Perm l
 | [] => .refl _
 | x::l=>by
  unfold q0C
  exact(qer f x _).trans ((qcR f l).cons x)
theorem qbC {f:Int→Int→Option Int} {zs:List Int} (h:OrB f zs) {x:Int} (hx:x∈zs):∀{l:List Int},(∀y∈l,y∈zs)→l.Pairwise (fun a b=>ltB f b a=false)→(qeo f x l).Pairwise fun a b=>ltB f b a=false
 | [],_,_=>by simp[qeo]
 | y::l,hl,hp=>by
  have hy:=hl y qLs
  unfold qeo
  obtain⟨h1,h2⟩:=List.pairwise_cons.1 hp
  split
  ·rename_i hyx
   refine List.pairwise_cons.2 ⟨fun z hz=>?_,qbC h hx (fun z hz=>hl z (qLl _ hz)) h2⟩
   rcases(qay f x l z).1 hz with rfl|hz
   ·exact h.asym hy hx hyx
   ·exact h1 z hz
  ·rename_i hyx
   rw[Bool.not_eq_true] at hyx
   refine List.pairwise_cons.2 ⟨fun z hz=>?_,hp⟩
   rcases qLz.1 hz with rfl|hz
   ·exact hyx
   ·exact h.ntr (hl z (qLl _ hz)) hy hx (h1 z hz) hyx
theorem q9X {f:Int→Int→Option Int} {zs:List Int} (h:OrB f zs):∀{l:List Int},(∀y∈l,y∈zs)→(q0C f l).Pairwise fun a b=>ltB f b a=false
 | [],_ => .nil
 | x::l,hl=>by
  unfold q0C
  exact qbC h (hl x qLs) (fun y hy=>hl y (qLl _ ((q2I f l y).1 hy))) (q9X h fun y hy=>hl y (qLl _ hy))
theorem qcQ {f:Int→Int→Option Int} {zs:List Int} (h:OrB f zs):∀{l m:List Int},(∀y∈l,y∈zs)→l.Perm m→l.Pairwise (fun a b=>ltB f b a=false)→m.Pairwise (fun a b=>ltB f b a=false)→l=m
 | [],m,_,hp,_,_=>(List.nil_perm.1 hp).symm
 | x::l,m,hz,hp,hl,hm=>by
  cases m with
  | nil=>exact absurd (List.perm_nil.1 hp) (by simp)
  | cons y m=>
   obtain⟨h1,h2⟩:=List.pairwise_cons.1 hl
   obtain⟨h3,h4⟩:=List.pairwise_cons.1 hm
   have hxy:x=y:=by
    have a1:y∈x::l:=hp.mem_iff.2 qLs
    have a2:x∈y::m:=hp.mem_iff.1 qLs
    rcases qLz.1 a1 with e|a1'
    ·exact e.symm
    rcases qLz.1 a2 with e|a2'
    ·exact e
    exact h.anti (hz x qLs) (hz y a1) (h3 x a2') (h1 y a1')
   subst hxy
   rw[qcQ h (fun y hy=>hz y (qLl _ hy)) (List.Perm.cons_inv hp) h2 h4]
abbrev El (zs:List Int):={x:Int // x∈zs}
def enE (zs:List Int) (x:El zs):Value := .int .i64 x.1
def cfE (f:Int→Int→Option Int) (zs:List Int) (x y:El zs):Int:=(f x.1 y.1).getD 0
theorem qBC {f:Int→Int→Option Int} {zs:List Int} (h:okB f zs=true) (x y:El zs):ltOf (cfE f zs) x y=ltB f x.1 y.1:=by
 unfold ltOf cfE ltB
 obtain⟨c,hc⟩:=q8n h x.1 x.2 y.1 y.2
 rw[hc];rfl
theorem qDM {f:Int→Int→Option Int} {zs:List Int} (h:okB f zs=true):Go.Sort.SWO (ltOf (cfE f zs)):=by
 have ho:=qkP h
 refine⟨fun x=>?_,fun x y z a b=>?_,fun x y z a b=>?_⟩
 ·rw[qBC h];exact ho.ir x.1 x.2
 ·rw[qBC h] at *;exact ho.tr _ x.2 _ y.2 _ z.2 a b
 ·rw[qBC h] at *;exact ho.ntr x.2 y.2 z.2 a b
theorem qCH {P:Program} {g:FuncId} {f:Int→Int→Option Int} {zs:List Int} [Inhabited (El zs)] (hc:∀x∈zs,∀y∈zs,∀W:World,Calls P g #[.int .i64 x,.int .i64 y] W fun e' W'=>(∃v,f x y=some v∧e' = .returned (.int .i64 v))∧W.grownBy W' none) (blk off size:Nat) (w:World):CmpLays1 P g #[] (enE zs) (cfE f zs) blk off size w:=by
 intro m os dk hs x y
 generalize sortWorld (enE zs) w blk off m dk os=W
 have e:(#[enE zs x,enE zs y] ++ #[]:Array Value)=#[.int .i64 x.1,.int .i64 y.1]:=by simp[enE]
 rw[e]
 refine(Calls.drawn (hc x.1 x.2 y.1 y.2 W)).mono ?_
 rintro e W' ⟨⟨⟨v,h1,rfl⟩,hg⟩,hd⟩
 refine⟨?_,qu2 hg (hd (by intro h;cases h))⟩
 unfold cfE
 rw[h1];rfl
theorem qpx {f:Int→Int→Option Int} {zs:List Int} [Inhabited (El zs)] (h:okB f zs=true) {d':Array (El zs)} (hp:Go.Sort.PermIn 0 zs.attach.toArray.size zs.attach.toArray d') (hs:Go.Sort.SortedIn (ltOf (cfE f zs)) 0 zs.attach.toArray.size d') :
  d'.toList.map (·.1)=q0C f zs∧d'.size=zs.length:=by
 have hsz:zs.attach.toArray.size=zs.length:=by simp
 obtain⟨p1,-,p3⟩:=hp
 have hd:d'.size=zs.length:=p1.trans hsz
 have e1:d'.extract 0 zs.attach.toArray.size=d':=by
  rw[←p1];exact Array.extract_size
 have e2:zs.attach.toArray.extract 0 zs.attach.toArray.size=zs.attach.toArray:=Array.extract_size
 rw[e1,e2] at p3
 have p4:(d'.toList.map (·.1)).Perm zs:=by
  have:=p3.map (·.1)
  simpa using this
 refine⟨?_,hd⟩
 refine qcQ (qkP h) (zs:=zs) (fun y hy=>p4.mem_iff.1 hy) (p4.trans (qcR f zs).symm) ?_ (q9X (qkP h) fun y hy=>hy)
 rw[List.pairwise_map,List.pairwise_iff_getElem]
 intro i j hi hj hij
 have:=hs i j (qLD _) hij (by rw[hsz,←hd];simpa using hj)
 rw[qBC h] at this
 rw[getElem!_pos d' i (by simpa using hi),getElem!_pos d' j (by simpa using hj)] at this
 simpa using this
theorem qh5 {zs:List Int} [Inhabited (El zs)] {w:World} {b m:Nat} {d':Array (El zs)} {os:Array Obj} {cur:Array Value} {e:TypeId} (hb:w.heap[b]?=some (.cells cur e (0,0))) (hd:d'.size≤cur.size) :
  w.grownBy (sortWorld (enE zs) w b 0 m d' os) (some b)∧∃cur':Array Value,(sortWorld (enE zs) w b 0 m d' os).heap[b]?=some (.cells cur' e (0,0))∧cur'.size=cur.size∧cur'.toList.take d'.size=d'.toList.map (enE zs):=by
 have hlt:b<w.heap.size:=(Array.getElem?_eq_some_iff.1 hb).1
 have hh:(sortWorld (enE zs) w b 0 m d' os).heap=(w.heap.modify b (Go.Sort.onCells (Go.Sort.putCells (enE zs) 0 d')))++os:=rfl
 refine⟨⟨rfl,rfl,rfl,?_,fun k hk hn=>?_⟩,Go.Sort.putCells (enE zs) 0 d' cur,?_,?_,?_⟩
 ·rw[hh];simp
 ·rw[hh,Array.getElem?_append_left (by simpa using hk),Array.getElem?_modify,if_neg (fun e=>hn (by rw[e]))]
 ·rw[hh,Array.getElem?_append_left (by simpa using hlt),Array.getElem?_modify,if_pos rfl,hb];rfl
 ·unfold Go.Sort.putCells;simp
 ·apply List.ext_getElem
  ·unfold Go.Sort.putCells;simp;omega
  ·intro i hi hi2
   have hi3:i<d'.size:=by simpa using hi2
   unfold Go.Sort.putCells
   simp[hi3]
theorem qrS {P:Program} {f:FuncId} {fn:Func} {e:TypeId} (hf:P.funcs[f]?=some fn) (hname:(fn.name == "runtime.NumGoroutine")=false) (hb:fn.body.isNone=false)
  (h1:∀(zs:List Int) [Inhabited (El zs)] (cf:El zs→El zs→Int),Go.Sort.SWO (ltOf cf)→∀(g:Nat) (blk cap:Nat) (d:Array (El zs)) (w:World),(∀args w,(callFunc g args).run P w = .ok (.enter g args) w)→CmpLays1 P g #[] (enE zs) cf blk 0 d.size w→Go.Sort.Holds (enE zs) w blk 0 d→blk<w.heap.size→d.size<4611686018427387904→
   Calls P f #[.slice (some ⟨blk,0,none⟩) d.size cap,.func (.func g) #[] #[]] w fun e w'=>e = .returned (.tuple #[])∧∃d' n os,Go.Sort.PermIn 0 d.size d d'∧Go.Sort.SortedIn (ltOf cf) 0 d.size d'∧w'=sortWorld (enE zs) w blk 0 n d' os):qBm P f e:=by
 refine⟨⟨fn,hf,hname,hb⟩,fun c fc b cap zs w cur q1 htk c2 c3 c4 heg hcmp=>?_⟩
 have hzl:zs.length≤cur.size:=by
  have:=congrArg List.length htk
  simp only[qLG,qLW,Array.length_toList] at this
  omega
 have hcell:∀(i:Nat) (h:i<zs.length),cur[i]?=some (.int .i64 zs[i]):=fun i hi=>by
  have h3:(cur.toList.take zs.length)[i]?=some (.int .i64 zs[i]):=by rw[htk,qLr,qLf hi];rfl
  rw[qLM hi,Array.getElem?_toList] at h3
  exact h3
 haveI:Inhabited (El zs):=⟨⟨zs[0]'(by omega),qM5 _⟩⟩
 have hds:zs.attach.toArray.size=zs.length:=by simp
 have hdj:∀j (h:j<zs.length),enE zs zs.attach.toArray[j]! = .int .i64 zs[j]:=fun j hj=>by
  rw[getElem!_pos _ j (by rw[hds];exact hj)]
  simp[enE]
 have hblk:b<w.heap.size:=(Array.getElem?_eq_some_iff.1 q1).1
 have hH:Go.Sort.Holds (enE zs) w b 0 zs.attach.toArray:=fun j hj=>by
  rw[hds] at hj
  rw[hdj j hj]
  refine⟨?_,?_⟩
  ·simp[World.cell?,q1,hcell j hj]
  ·simp[World.frozen?,q1]
 have hcall:=h1 zs (cfE fc zs) (qDM c4) c b cap zs.attach.toArray w heg (qCH hcmp b 0 _ w) hH hblk (by rw[hds];omega)
 rw[hds] at hcall
 refine hcall.mono fun e2 w'=>?_
 rintro⟨rfl,d',nn,os,hP,hS,rfl⟩
 rw[←hds] at hP hS
 obtain⟨s1,s2⟩:=qpx c4 hP hS
 obtain⟨hg,cur',r1,r2,r3⟩:=qh5 (m:=nn) (os:=os) (d':=d') q1 (by omega)
 refine⟨rfl,hg,cur',r1,r2,?_⟩
 rw[←s2,r3,←s1,List.map_map];rfl
end
noncomputable section
open Go.Shelf Go.RowKit Go.Sort
def qao:Go.Shelf.Ren:=⟨fun | 6=>63 | 15=>109 | 14=>108 | 28=>154 | 29=>155 | 20=>146 | 21=>147 | 22=>148 | 23=>149 | 24=>150 | 25=>151 | 26=>152 | 27=>153 | 46=>172 | 47=>173 | 48=>174 | 49=>175 | 50=>176 | 57=>183|n=>n,fun | 22=>22 | 24=>3 | 25=>120 | 3=>3 | 39=>122 | 0=>0 | 53=>169 | 55=>171 | 4=>4 | 46=>188 | 45=>187 | 50=>192 | 5=>5 | 9=>9 | 66=>204 | 70=>208 | 76=>215 | 77=>216|n=>n,fun|n=>n⟩
theorem qf3:Go.Proofs.SlLaysF.n6 Tryz.prog qao:={
 mixed:=by kernel_rfl
 f6:=⟨Tryz.f63.name,by decide,Tryz.func63.trans (congrArg some (by kernel_rfl))⟩
 f14:=⟨Tryz.f108.name,by decide,Tryz.func108.trans (congrArg some (by kernel_rfl))⟩
 f15:=Tryz.func109.trans (congrArg some (by kernel_rfl))
 f20:=⟨Tryz.f146.name,by decide,Tryz.func146.trans (congrArg some (by kernel_rfl))⟩
 f21:=⟨Tryz.f147.name,by decide,Tryz.func147.trans (congrArg some (by kernel_rfl))⟩
 f22:=⟨Tryz.f148.name,by decide,Tryz.func148.trans (congrArg some (by kernel_rfl))⟩
 f23:=⟨Tryz.f149.name,by decide,Tryz.func149.trans (congrArg some (by kernel_rfl))⟩
 f24:=⟨Tryz.f150.name,by decide,Tryz.func150.trans (congrArg some (by kernel_rfl))⟩
 f25:=⟨Tryz.f151.name,by decide,Tryz.func151.trans (congrArg some (by kernel_rfl))⟩
 f26:=⟨Tryz.f152.name,by decide,Tryz.func152.trans (congrArg some (by kernel_rfl))⟩
 f27:=⟨Tryz.f153.name,by decide,Tryz.func153.trans (congrArg some (by kernel_rfl))⟩
 f28:=Tryz.func154.trans (congrArg some (by kernel_rfl))
 f29:=Tryz.func155.trans (congrArg some (by kernel_rfl))
 f46:=⟨Tryz.f172.name,by decide,Tryz.func172.trans (congrArg some (by kernel_rfl))⟩
 f47:=Tryz.func173.trans (congrArg some (by kernel_rfl))
 f48:=Tryz.func174.trans (congrArg some (by kernel_rfl))
 f49:=⟨Tryz.f175.name,by decide,Tryz.func175.trans (congrArg some (by kernel_rfl))⟩
 f50:=⟨Tryz.f176.name,by decide,Tryz.func176.trans (congrArg some (by kernel_rfl))⟩
 f57:=⟨Tryz.f183.name,by decide,Tryz.func183.trans (congrArg some (by kernel_rfl))⟩
 t0:=Tryz.underlying0
 a0:=Tryz.isAgg0
 z0:=Tryz.sizeOf0
 v0:=Tryz.zeroValue0
 t3:=Tryz.underlying3
 a3:=Tryz.isAgg3
 z3:=Tryz.sizeOf3
 v3:=Tryz.zeroValue3
 t4:=Tryz.underlying4
 a4:=Tryz.isAgg4
 z4:=Tryz.sizeOf4
 v4:=Tryz.zeroValue4
 t5:=Tryz.underlying5
 a5:=Tryz.isAgg5
 z5:=Tryz.sizeOf5
 v5:=Tryz.zeroValue5
 t9:=Tryz.underlying9
 a9:=Tryz.isAgg9
 z9:=Tryz.sizeOf9
 v9:=Tryz.zeroValue9
 t22:=Tryz.underlying22
 a22:=Tryz.isAgg22
 z22:=Tryz.sizeOf22
 v22:=Tryz.zeroValue22
 a24:=Tryz.isAgg3
 z24:=Tryz.sizeOf3
 t25:=Tryz.underlying120
 a25:=Tryz.isAgg120
 z25:=Tryz.sizeOf120
 v25:=Tryz.zeroValue120
 t39:=Tryz.underlying122
 a39:=Tryz.isAgg122
 z39:=Tryz.sizeOf122
 v39:=Tryz.zeroValue122
 t45:=Tryz.underlying187
 a45:=Tryz.isAgg187
 z45:=Tryz.sizeOf187
 v45:=Tryz.zeroValue187
 t46:=Tryz.underlying188
 a46:=Tryz.isAgg188
 z46:=Tryz.sizeOf188
 v46:=Tryz.zeroValue188
 t50:=Tryz.underlying192
 a50:=Tryz.isAgg192
 z50:=Tryz.sizeOf192
 v50:=Tryz.zeroValue192
 t53:=Tryz.underlying169
 a53:=Tryz.isAgg169
 z53:=Tryz.sizeOf169
 v53:=Tryz.zeroValue169
 t55:=Tryz.underlying171
 a55:=Tryz.isAgg171
 z55:=Tryz.sizeOf171
 v55:=Tryz.zeroValue171
 t66:=Tryz.underlying204
 a66:=Tryz.isAgg204
 z66:=Tryz.sizeOf204
 v66:=Tryz.zeroValue204
 t70:=Tryz.underlying208
 a70:=Tryz.isAgg208
 z70:=Tryz.sizeOf208
 v70:=Tryz.zeroValue208
 t76:=Tryz.underlying215
 a76:=Tryz.isAgg215
 z76:=Tryz.sizeOf215
 v76:=Tryz.zeroValue215
 t77:=Tryz.underlying216
 a77:=Tryz.isAgg216
 z77:=Tryz.sizeOf216
 v77:=Tryz.zeroValue216 }
theorem qKm:qBm Tryz.prog 63 3:=qrS (fn:=Tryz.f63) (by kernel_rfl) (by kernel_rfl) (by kernel_rfl) (fun zs _ cf hO g blk cap d w eg hc hH hb hs=>Any.slices_SortFunc qf3 (enE zs) (fun _=>rfl) cf hO g #[] blk 0 cap d w eg hc hH hb hs)
end
noncomputable section
def br {α:Type} (n k:Nat) (a b:α):α:=bif Nat.blt n k then a else b
def tk (t:TypeId):Kd:=bif Nat.blt t 234 then(br t 117 (br t 58 (br t 29 (br t 14 (br t 7 (br t 3 (br t 1 .other (br t 2 .fn (.int .i64))) (br t 5 (br t 4 (.int .i64) .bool) (.int .u8))) (br t 10 (br t 8 (.st [(0,2),(1,3),(2,4),(3,6)]) (br t 9 (.st [(0,2),(1,3),(2,4),(3,6)]) .str)) (br t 12 .str (br t 13 (.int .u64) (.st [(0,9),(1,12)]))))) (br t 21 (br t 17 (br t 15 (.st [(0,9),(1,12)]) (br t 16 (.ptr 220) (.ptr 223))) (br t 19 (br t 18 (.ptr 232) (.st [(0,17)])) (br t 20 (.st [(0,17)]) .other))) (br t 25 (br t 23 (br t 22 (.int .i32) (.sl 3)) (br t 24 (.int .u16) (.st [(0,22),(1,22),(2,23)]))) (br t 27 (br t 26 (.st [(0,22),(1,22),(2,23)]) (.sl 57)) (.st [(0,3),(1,3),(2,3)]))))) (br t 43 (br t 36 (br t 32 (br t 30 (.arr 3 3) (.st [(0,26),(1,3),(2,28),(5,29)])) (br t 34 (br t 33 .fn (.sl 55)) (br t 35 (.sl 36) (.st [(0,3),(1,3),(2,3),(3,33),(4,34)])))) (br t 39 (br t 37 (.st [(0,3),(1,3),(2,3),(3,33),(4,34)]) (br t 38 (.sl 70) (.st [(0,3),(1,3),(2,3),(3,3),(4,9),(5,36),(10,3),(11,3),(12,3),(13,37)]))) (br t 41 (br t 40 (.st [(0,3),(1,3),(2,3),(3,3),(4,9),(5,36),(10,3),(11,3),(12,3),(13,37)]) .other) .fn))) (br t 50 (br t 46 (br t 44 .fn (br t 45 .fn (.arr 3 39))) (br t 48 (br t 47 (.arr 3 26) (.st [(0,22),(1,22)])) (br t 49 (.st [(0,22),(1,22)]) (.int .i64)))) (br t 54 (br t 52 (br t 51 .other .fn) .fn) (br t 56 (.st [(0,3),(1,9)]) (.st [(0,55),(2,3),(3,3),(4,3),(5,22),(6,3),(7,22)])))))) (br t 87 (br t 72 (br t 65 (br t 61 (br t 59 .fn (br t 60 (.int .i8) (.arr 10 59))) (br t 63 (.st [(0,23),(1,60)]) (br t 64 (.arr 2 62) .fn))) (br t 68 (br t 66 (.arr 5 48) .fn) (br t 70 .fn (br t 71 (.arr 2 55) .fn)))) (br t 79 (br t 75 .fn (br t 77 (br t 76 .fn (.sl 5)) (br t 78 .fn .other))) (br t 83 .fn (br t 85 (br t 84 .fn (.ptr 36)) (br t 86 (.sl 9) .fn))))) (br t 102 (br t 94 (br t 90 (br t 88 .fn (br t 89 (.sl 4) .other)) .fn) (br t 98 (br t 96 .fn (br t 97 .other .fn)) .fn)) (br t 109 (br t 105 (br t 103 .fn (br t 104 (.arr 3 9) (.ptr 106))) (br t 107 (.st [(0,22),(1,3)]) (br t 108 .fn (.ptr 109)))) (br t 113 (br t 111 (br t 110 (.st [(0,22),(1,3)]) .fn) .fn) (br t 115 .fn (br t 116 (.sl 4) .fn))))))) (br t 175 (br t 146 (br t 131 (br t 124 (br t 120 .fn (br t 122 .fn (br t 123 (.int .u64) .fn))) (br t 127 .fn (br t 129 (br t 128 .fn (.ptr 130)) (.st [(0,28),(3,26),(4,22),(5,3)])))) (br t 138 (br t 134 .fn (br t 136 .fn (br t 137 .fn (.st [(0,3),(1,3),(2,4)])))) (br t 142 (br t 140 (br t 139 (.st [(0,3),(1,3),(2,4)]) .fn) .fn) (br t 144 (br t 143 .other .fn) .fn)))) (br t 160 (br t 153 (br t 149 (br t 147 (.sl 150) (br t 148 .other .fn)) (br t 151 (.st [(0,36),(5,3)]) .fn)) (br t 156 .fn (br t 158 (br t 157 .other .fn) (br t 159 (.mp 3 161) .fn)))) (br t 167 (br t 163 (br t 161 (.st [(0,113)]) (br t 162 (.st [(0,113)]) .other)) (br t 165 (br t 164 .fn (.sl 3)) .fn)) (br t 171 (br t 169 .fn (br t 170 (.int .u32) .fn)) (br t 173 (br t 172 (.int .u64) .fn) .fn))))) (br t 204 (br t 189 (br t 182 (br t 178 (br t 176 (.ptr 177) (.st [(0,28),(3,26),(4,22),(5,3)])) (br t 180 (.st [(0,4),(1,4)]) .fn)) (br t 185 .fn (br t 187 .fn (br t 188 (.int .i64) .other)))) (br t 196 (br t 192 .fn (br t 194 (br t 193 .other .fn) .fn)) .fn)) (br t 219 (br t 211 (br t 207 (br t 205 (.int .u64) .fn) (br t 209 (br t 208 .fn (.ptr 3)) .fn)) (br t 215 .fn (br t 217 (br t 216 (.ptr 204) .other) .fn))) (br t 226 (br t 222 (br t 220 (.st [(0,17),(1,17),(2,17),(3,9)]) (br t 221 (.st [(0,17),(1,17),(2,17),(3,9)]) (.arr 0 16))) (br t 224 (.st [(0,221)]) (br t 225 .fn (.int .u8)))) (br t 230 (br t 228 (br t 227 (.int .u8) .fn) (br t 229 (.ptr 5) (.int .i32))) (br t 232 (br t 231 (.int .i32) (.st [(0,12),(1,12),(2,169),(3,225),(4,5),(5,5),(6,226),(7,227),(8,228),(9,229),(10,230)])) (br t 233 (.st [(0,12),(1,12),(2,169),(3,225),(4,5),(5,5),(6,226),(7,227),(8,228),(9,229),(10,230)]) .other)))))))) else .other
def tz (t:TypeId):Nat:=bif Nat.blt t 234 then(br t 117 (br t 58 (br t 29 (br t 14 (br t 7 (br t 3 (br t 1 0 1) 1) (br t 10 (br t 8 4 (br t 9 4 1)) (br t 12 1 (br t 13 1 2)))) (br t 21 (br t 17 (br t 15 2 1) (br t 19 1 (br t 20 1 0))) (br t 25 (br t 23 1 (br t 24 1 3)) (br t 27 (br t 26 3 1) 3)))) (br t 43 (br t 36 (br t 32 (br t 30 3 8) (br t 34 1 (br t 35 1 5))) (br t 39 (br t 37 5 (br t 38 1 14)) (br t 41 (br t 40 14 0) 1))) (br t 50 (br t 46 (br t 44 1 (br t 45 1 42)) (br t 48 (br t 47 3 2) (br t 49 2 1))) (br t 54 (br t 52 (br t 51 0 1) 1) (br t 56 2 8))))) (br t 87 (br t 72 (br t 65 (br t 61 (br t 59 1 (br t 60 1 10)) (br t 63 11 (br t 64 22 1))) (br t 68 (br t 66 10 1) (br t 70 1 (br t 71 4 1)))) (br t 79 (br t 75 1 (br t 77 1 (br t 78 1 0))) 1)) (br t 102 (br t 94 (br t 90 (br t 88 1 (br t 89 1 0)) 1) (br t 98 (br t 96 1 (br t 97 0 1)) 1)) (br t 109 (br t 105 (br t 103 1 (br t 104 3 1)) (br t 107 2 1)) (br t 113 (br t 111 (br t 110 2 1) 1) 1))))) (br t 175 (br t 146 (br t 131 (br t 124 1 (br t 127 1 (br t 129 1 6))) (br t 138 (br t 134 1 (br t 136 1 (br t 137 1 3))) (br t 142 (br t 140 (br t 139 3 1) 1) (br t 144 (br t 143 0 1) 1)))) (br t 160 (br t 153 (br t 149 (br t 147 1 (br t 148 0 1)) (br t 151 6 1)) (br t 156 1 (br t 158 (br t 157 0 1) 1))) (br t 167 (br t 163 (br t 161 1 (br t 162 1 0)) 1) 1))) (br t 204 (br t 189 (br t 182 (br t 178 (br t 176 1 6) (br t 180 2 1)) (br t 185 1 (br t 187 1 (br t 188 1 0)))) (br t 196 (br t 192 1 (br t 194 (br t 193 0 1) 1)) 1)) (br t 219 (br t 211 1 (br t 215 1 (br t 217 (br t 216 1 0) 1))) (br t 226 (br t 222 (br t 220 4 (br t 221 4 0)) (br t 224 0 1)) (br t 230 1 (br t 232 (br t 231 1 11) (br t 233 11 0)))))))) else 0
def tb (t:TypeId):Nat:=bif Nat.blt t 234 then(br t 117 (br t 58 (br t 29 (br t 14 (br t 7 (br t 3 (br t 1 0 8) (br t 5 (br t 4 8 1) 1)) (br t 10 (br t 8 24 (br t 9 24 16)) (br t 12 16 (br t 13 8 24)))) (br t 21 (br t 17 (br t 15 24 8) (br t 19 8 (br t 20 8 0))) (br t 25 (br t 23 (br t 22 4 24) (br t 24 2 56)) (br t 27 (br t 26 56 24) 24)))) (br t 43 (br t 36 (br t 32 (br t 30 24 80) (br t 34 (br t 33 8 24) (br t 35 24 72))) (br t 39 (br t 37 72 (br t 38 24 168)) (br t 41 (br t 40 168 0) 8))) (br t 50 (br t 46 (br t 44 8 (br t 45 8 504)) (br t 48 (br t 47 72 48) (br t 49 48 8))) (br t 54 (br t 52 (br t 51 0 8) 8) (br t 56 24 104))))) (br t 87 (br t 72 (br t 65 (br t 61 (br t 59 8 (br t 60 1 10)) (br t 63 12 (br t 64 24 8))) (br t 68 (br t 66 240 8) (br t 70 8 (br t 71 48 8)))) (br t 79 (br t 75 8 (br t 77 (br t 76 8 24) (br t 78 8 0))) (br t 83 8 (br t 85 8 (br t 86 24 8))))) (br t 102 (br t 94 (br t 90 (br t 88 8 (br t 89 24 0)) 8) (br t 98 (br t 96 8 (br t 97 0 8)) 8)) (br t 109 (br t 105 (br t 103 8 (br t 104 48 8)) (br t 107 32 8)) (br t 113 (br t 111 (br t 110 32 8) 8) (br t 115 8 (br t 116 24 8))))))) (br t 175 (br t 146 (br t 131 (br t 124 8 (br t 127 8 (br t 129 8 80))) (br t 138 (br t 134 8 (br t 136 8 (br t 137 8 24))) (br t 142 (br t 140 (br t 139 24 8) 8) (br t 144 (br t 143 0 8) 8)))) (br t 160 (br t 153 (br t 149 (br t 147 24 (br t 148 0 8)) (br t 151 80 8)) (br t 156 8 (br t 158 (br t 157 0 8) 8))) (br t 167 (br t 163 (br t 161 8 (br t 162 8 0)) (br t 165 (br t 164 8 24) 8)) (br t 171 (br t 169 8 (br t 170 4 8)) 8)))) (br t 204 (br t 189 (br t 182 (br t 178 (br t 176 8 80) (br t 180 2 8)) (br t 185 8 (br t 187 8 (br t 188 8 0)))) (br t 196 (br t 192 8 (br t 194 (br t 193 0 8) 8)) 8)) (br t 219 (br t 211 8 (br t 215 8 (br t 217 (br t 216 8 0) 8))) (br t 226 (br t 222 (br t 220 40 (br t 221 40 0)) (br t 224 0 (br t 225 8 1))) (br t 230 (br t 228 (br t 227 1 8) (br t 229 8 4)) (br t 232 (br t 231 4 48) (br t 233 48 0)))))))) else 0
def t0 (t:TypeId):List C:=bif Nat.blt t 234 then(br t 117 (br t 58 (br t 29 (br t 14 (br t 7 (br t 3 (br t 1 [] (br t 2 [.nilf] [.d (.int .i64 0)])) (br t 5 (br t 4 [.d (.int .i64 0)] [.d (.bool false)]) [.d (.int .u8 0)])) (br t 10 (br t 8 [.d (.int .i64 0),.d (.int .i64 0),.d (.bool false),.d (.int .u8 0)] (br t 9 [.d (.int .i64 0),.d (.int .i64 0),.d (.bool false),.d (.int .u8 0)] [.d (.str ⟨#[]⟩)])) (br t 12 [.d (.str ⟨#[]⟩)] (br t 13 [.d (.int .u64 0)] [.d (.str ⟨#[]⟩),.d (.int .u64 0)])))) (br t 21 (br t 17 (br t 15 [.d (.str ⟨#[]⟩),.d (.int .u64 0)] [.nilp]) (br t 19 [.nilp] (br t 20 [.nilp] []))) (br t 25 (br t 23 (br t 22 [.d (.int .i32 0)] [.nils]) (br t 24 [.d (.int .u16 0)] [.nils,.nils,.d (.int .u16 0)])) (br t 27 (br t 26 [.nils,.nils,.d (.int .u16 0)] [.nils]) [.d (.int .i64 0),.d (.int .i64 0),.d (.int .i64 0)])))) (br t 43 (br t 36 (br t 32 (br t 30 [.d (.int .i64 0),.d (.int .i64 0),.d (.int .i64 0)] [.nils,.d (.int .i64 0),.d (.int .i64 0),.d (.int .i64 0),.d (.int .i64 0),.d (.int .i64 0),.d (.int .i64 0),.d (.int .i64 0)]) (br t 34 (br t 33 [.nilf] [.nils]) (br t 35 [.nils] [.d (.int .i64 0),.d (.int .i64 0),.d (.int .i64 0),.nils,.nils]))) (br t 39 (br t 37 [.d (.int .i64 0),.d (.int .i64 0),.d (.int .i64 0),.nils,.nils] (br t 38 [.nils] [.d (.int .i64 0),.d (.int .i64 0),.d (.int .i64 0),.d (.int .i64 0),.d (.str ⟨#[]⟩),.d (.int .i64 0),.d (.int .i64 0),.d (.int .i64 0),.nils,.nils,.d (.int .i64 0),.d (.int .i64 0),.d (.int .i64 0),.nils])) (br t 41 (br t 40 [.d (.int .i64 0),.d (.int .i64 0),.d (.int .i64 0),.d (.int .i64 0),.d (.str ⟨#[]⟩),.d (.int .i64 0),.d (.int .i64 0),.d (.int .i64 0),.nils,.nils,.d (.int .i64 0),.d (.int .i64 0),.d (.int .i64 0),.nils] []) [.nilf]))) (br t 50 (br t 46 (br t 44 [.nilf] (br t 45 [.nilf] [.d (.int .i64 0),.d (.int .i64 0),.d (.int .i64 0),.d (.int .i64 0),.d (.str ⟨#[]⟩),.d (.int .i64 0),.d (.int .i64 0),.d (.int .i64 0),.nils,.nils,.d (.int .i64 0),.d (.int .i64 0),.d (.int .i64 0),.nils,.d (.int .i64 0),.d (.int .i64 0),.d (.int .i64 0),.d (.int .i64 0),.d (.str ⟨#[]⟩),.d (.int .i64 0),.d (.int .i64 0),.d (.int .i64 0),.nils,.nils,.d (.int .i64 0),.d (.int .i64 0),.d (.int .i64 0),.nils,.d (.int .i64 0),.d (.int .i64 0),.d (.int .i64 0),.d (.int .i64 0),.d (.str ⟨#[]⟩),.d (.int .i64 0),.d (.int .i64 0),.d (.int .i64 0),.nils,.nils,.d (.int .i64 0),.d (.int .i64 0),.d (.int .i64 0),.nils])) (br t 48 (br t 47 [.nils,.nils,.nils] [.nils,.nils]) (br t 49 [.nils,.nils] [.d (.int .i64 0)]))) (br t 54 (br t 52 (br t 51 [] [.nilf]) [.nilf]) (br t 56 [.d (.int .i64 0),.d (.str ⟨#[]⟩)] [.d (.int .i64 0),.d (.str ⟨#[]⟩),.d (.int .i64 0),.d (.int .i64 0),.d (.int .i64 0),.nils,.d (.int .i64 0),.nils]))))) (br t 87 (br t 72 (br t 65 (br t 61 (br t 59 [.nilf] (br t 60 [.d (.int .i8 0)] [.d (.int .i8 0),.d (.int .i8 0),.d (.int .i8 0),.d (.int .i8 0),.d (.int .i8 0),.d (.int .i8 0),.d (.int .i8 0),.d (.int .i8 0),.d (.int .i8 0),.d (.int .i8 0)])) (br t 63 [.d (.int .u16 0),.d (.int .i8 0),.d (.int .i8 0),.d (.int .i8 0),.d (.int .i8 0),.d (.int .i8 0),.d (.int .i8 0),.d (.int .i8 0),.d (.int .i8 0),.d (.int .i8 0),.d (.int .i8 0)] (br t 64 [.d (.int .u16 0),.d (.int .i8 0),.d (.int .i8 0),.d (.int .i8 0),.d (.int .i8 0),.d (.int .i8 0),.d (.int .i8 0),.d (.int .i8 0),.d (.int .i8 0),.d (.int .i8 0),.d (.int .i8 0),.d (.int .u16 0),.d (.int .i8 0),.d (.int .i8 0),.d (.int .i8 0),.d (.int .i8 0),.d (.int .i8 0),.d (.int .i8 0),.d (.int .i8 0),.d (.int .i8 0),.d (.int .i8 0),.d (.int .i8 0)] [.nilf]))) (br t 68 (br t 66 [.nils,.nils,.nils,.nils,.nils,.nils,.nils,.nils,.nils,.nils] [.nilf]) (br t 70 [.nilf] (br t 71 [.d (.int .i64 0),.d (.str ⟨#[]⟩),.d (.int .i64 0),.d (.str ⟨#[]⟩)] [.nilf])))) (br t 79 (br t 75 [.nilf] (br t 77 (br t 76 [.nilf] [.nils]) (br t 78 [.nilf] []))) (br t 83 [.nilf] (br t 85 (br t 84 [.nilf] [.nilp]) (br t 86 [.nils] [.nilf]))))) (br t 102 (br t 94 (br t 90 (br t 88 [.nilf] (br t 89 [.nils] [])) [.nilf]) (br t 98 (br t 96 [.nilf] (br t 97 [] [.nilf])) [.nilf])) (br t 109 (br t 105 (br t 103 [.nilf] (br t 104 [.d (.str ⟨#[]⟩),.d (.str ⟨#[]⟩),.d (.str ⟨#[]⟩)] [.nilp])) (br t 107 [.nils,.d (.int .i64 0)] (br t 108 [.nilf] [.nilp]))) (br t 113 (br t 111 (br t 110 [.nils,.d (.int .i64 0)] [.nilf]) [.nilf]) (br t 115 [.nilf] (br t 116 [.nils] [.nilf]))))))) (br t 175 (br t 146 (br t 131 (br t 124 (br t 120 [.nilf] (br t 122 [.nilf] (br t 123 [.d (.int .u64 0)] [.nilf]))) (br t 127 [.nilf] (br t 129 (br t 128 [.nilf] [.nilp]) [.d (.int .i64 0),.d (.int .i64 0),.d (.int .i64 0),.nils,.nils,.d (.int .i64 0)]))) (br t 138 (br t 134 [.nilf] (br t 136 [.nilf] (br t 137 [.nilf] [.d (.int .i64 0),.d (.int .i64 0),.d (.bool false)]))) (br t 142 (br t 140 (br t 139 [.d (.int .i64 0),.d (.int .i64 0),.d (.bool false)] [.nilf]) [.nilf]) (br t 144 (br t 143 [] [.nilf]) [.nilf])))) (br t 160 (br t 153 (br t 149 (br t 147 [.nils] (br t 148 [] [.nilf])) (br t 151 [.d (.int .i64 0),.d (.int .i64 0),.d (.int .i64 0),.nils,.nils,.d (.int .i64 0)] [.nilf])) (br t 156 [.nilf] (br t 158 (br t 157 [] [.nilf]) (br t 159 [.nilm] [.nilf])))) (br t 167 (br t 163 (br t 161 [.nilf] (br t 162 [.nilf] [])) (br t 165 (br t 164 [.nilf] [.nils]) [.nilf])) (br t 171 (br t 169 [.nilf] (br t 170 [.d (.int .u32 0)] [.nilf])) (br t 173 (br t 172 [.d (.int .u64 0)] [.nilf]) [.nilf]))))) (br t 204 (br t 189 (br t 182 (br t 178 (br t 176 [.nilp] [.d (.int .i64 0),.d (.int .i64 0),.d (.int .i64 0),.nils,.nils,.d (.int .i64 0)]) (br t 180 [.d (.bool false),.d (.bool false)] [.nilf])) (br t 185 [.nilf] (br t 187 [.nilf] (br t 188 [.d (.int .i64 0)] [])))) (br t 196 (br t 192 [.nilf] (br t 194 (br t 193 [] [.nilf]) [.nilf])) [.nilf])) (br t 219 (br t 211 (br t 207 (br t 205 [.d (.int .u64 0)] [.nilf]) (br t 209 (br t 208 [.nilf] [.nilp]) [.nilf])) (br t 215 [.nilf] (br t 217 (br t 216 [.nilp] []) [.nilf]))) (br t 226 (br t 222 (br t 220 [.nilp,.nilp,.nilp,.d (.str ⟨#[]⟩)] (br t 221 [.nilp,.nilp,.nilp,.d (.str ⟨#[]⟩)] [])) (br t 224 [] (br t 225 [.nilf] [.d (.int .u8 0)]))) (br t 230 (br t 228 (br t 227 [.d (.int .u8 0)] [.nilf]) (br t 229 [.nilp] [.d (.int .i32 0)])) (br t 232 (br t 231 [.d (.int .i32 0)] [.d (.int .u64 0),.d (.int .u64 0),.d (.int .u32 0),.d (.int .u8 0),.d (.int .u8 0),.d (.int .u8 0),.d (.int .u8 0),.nilf,.nilp,.d (.int .i32 0),.d (.int .i32 0)]) (br t 233 [.d (.int .u64 0),.d (.int .u64 0),.d (.int .u32 0),.d (.int .u8 0),.d (.int .u8 0),.d (.int .u8 0),.d (.int .u8 0),.nilf,.nilp,.d (.int .i32 0),.d (.int .i32 0)] [])))))))) else[]
def tip:FuncId→Option (List Int→List Int)
 | _=>none
def tsf:FuncId→Option TypeId
 | 63=>some 3
 | _=>none
def T:Ty:=⟨tk,tz,tb,t0,tip,tsf⟩
theorem qFq:(List.range 234).all (fun t=>decide (T.k t = .other)||Ty.okAt Tryz.prog T t)=true:=by kernel_rfl
theorem qzZ (t:Nat) (h:234≤t):T.k t = .other:=by
 have hb:Nat.blt t 234=false:=by
  cases h':Nat.blt t 234 with
  | false=>rfl
  | true=>exact absurd (Nat.le_of_ble_eq_true h') (by omega)
 show tk t = .other
 unfold tk
 rw[hb]
 rfl
theorem qIH:∀t,T.k t = .other∨Ty.okAt Tryz.prog T t=true:=fun t=>by
 rcases Nat.lt_or_ge t 234 with h|h
 ·have:=qLu.1 qFq t (qMa.2 h)
  simp only[qLI,qMd] at this
  exact this
 ·exact .inl (qzZ t h)
theorem qJE:∀g h,T.ip g=some h→qGz Tryz.prog g h:=by
 intro g h hg
 replace hg:tip g=some h:=hg
 unfold tip at hg
 cases hg
theorem qJl:∀g e,T.sf g=some e→qBm Tryz.prog g e:=by
 intro g e hg
 replace hg:tsf g=some e:=hg
 unfold tsf at hg
 split at hg
 ·injection hg with hg;subst hg;exact qKm
 ·cases hg
theorem qBu:Ag Tryz.prog T:=⟨qIH,qJE,qJl⟩
theorem k3:T.k 3 = .int .i64:=rfl
theorem k4:T.k 4 = .bool:=rfl
theorem k5:T.k 5 = .int .u8:=rfl
theorem k9:T.k 9 = .str:=rfl
theorem k22:T.k 22 = .sl 3:=rfl
theorem k26:T.k 26 = .sl 57:=rfl
theorem k28:T.k 28 = .st [(0,3),(1,3),(2,3)]:=rfl
theorem k29:T.k 29 = .arr 3 3:=rfl
theorem k33:T.k 33 = .sl 55:=rfl
theorem k34:T.k 34 = .sl 36:=rfl
theorem k36:T.k 36 = .st [(0,3),(1,3),(2,3),(3,33),(4,34)]:=rfl
theorem k37:T.k 37 = .sl 70:=rfl
theorem k39:T.k 39 = .st [(0,3),(1,3),(2,3),(3,3),(4,9),(5,36),(10,3),(11,3),(12,3),(13,37)]:=rfl
theorem k48:T.k 48 = .st [(0,22),(1,22)]:=rfl
theorem k49:T.k 49 = .int .i64:=rfl
theorem k55:T.k 55 = .st [(0,3),(1,9)]:=rfl
theorem k57:T.k 57 = .st [(0,55),(2,3),(3,3),(4,3),(5,22),(6,3),(7,22)]:=rfl
theorem k70:T.k 70 = .arr 2 55:=rfl
theorem k76:T.k 76 = .sl 5:=rfl
theorem k85:T.k 85 = .sl 9:=rfl
theorem k88:T.k 88 = .sl 4:=rfl
theorem qKd:T.k 103 = .arr 3 9:=rfl
theorem qI2:T.k 106 = .st [(0,22),(1,3)]:=rfl
theorem qIJ:T.k 113 = .fn:=rfl
theorem qJ2:T.k 114 = .fn:=rfl
theorem qI3:T.k 115 = .sl 4:=rfl
theorem qKp:T.k 122 = .int .u64:=rfl
theorem qJx:T.k 135 = .fn:=rfl
theorem qK5:T.k 136 = .fn:=rfl
theorem qIf:T.k 138 = .st [(0,3),(1,3),(2,4)]:=rfl
theorem qHK:T.k 158 = .mp 3 161:=rfl
theorem qJH:T.k 161 = .st [(0,113)]:=rfl
theorem qIC:T.k 163 = .fn:=rfl
theorem qKw:T.k 164 = .sl 3:=rfl
theorem qIp:T.k 171 = .int .u64:=rfl
theorem z3:T.sz 3=1:=rfl
theorem z4:T.sz 4=1:=rfl
theorem z5:T.sz 5=1:=rfl
theorem z9:T.sz 9=1:=rfl
theorem z22:T.sz 22=1:=rfl
theorem z24:T.sz 24=3:=rfl
theorem z25:T.sz 25=3:=rfl
theorem z26:T.sz 26=1:=rfl
theorem z28:T.sz 28=3:=rfl
theorem z29:T.sz 29=3:=rfl
theorem z33:T.sz 33=1:=rfl
theorem z34:T.sz 34=1:=rfl
theorem z36:T.sz 36=5:=rfl
theorem z37:T.sz 37=1:=rfl
theorem z39:T.sz 39=14:=rfl
theorem z45:T.sz 45=42:=rfl
theorem z46:T.sz 46=3:=rfl
theorem z48:T.sz 48=2:=rfl
theorem z49:T.sz 49=1:=rfl
theorem z53:T.sz 53=1:=rfl
theorem z55:T.sz 55=2:=rfl
theorem z57:T.sz 57=8:=rfl
theorem z66:T.sz 66=1:=rfl
theorem z70:T.sz 70=4:=rfl
theorem z76:T.sz 76=1:=rfl
theorem z77:T.sz 77=1:=rfl
theorem z88:T.sz 88=1:=rfl
theorem qKy:T.sz 103=3:=rfl
theorem qIQ:T.sz 113=1:=rfl
theorem qHp:T.sz 115=1:=rfl
theorem qI6:T.sz 135=1:=rfl
theorem qJk:T.sz 136=1:=rfl
theorem qHt:T.sz 138=3:=rfl
theorem qIW:T.sz 161=1:=rfl
theorem qJq:T.sz 163=1:=rfl
theorem qHw:T.sz 164=1:=rfl
theorem b3:T.by_ 3=8:=rfl
theorem b4:T.by_ 4=1:=rfl
theorem b10:T.by_ 10=16:=rfl
theorem b11:T.by_ 11=16:=rfl
theorem b12:T.by_ 12=8:=rfl
theorem b36:T.by_ 36=72:=rfl
theorem b55:T.by_ 55=24:=rfl
theorem b57:T.by_ 57=104:=rfl
theorem o3:T.zero 3=[.d (.int .i64 0)]:=rfl
theorem o4:T.zero 4=[.d (.bool false)]:=rfl
theorem o22:T.zero 22=[.nils]:=rfl
theorem o26:T.zero 26=[.nils]:=rfl
theorem o28:T.zero 28=[.d (.int .i64 0),.d (.int .i64 0),.d (.int .i64 0)]:=rfl
theorem o29:T.zero 29=[.d (.int .i64 0),.d (.int .i64 0),.d (.int .i64 0)]:=rfl
theorem o34:T.zero 34=[.nils]:=rfl
theorem o36:T.zero 36=[.d (.int .i64 0),.d (.int .i64 0),.d (.int .i64 0),.nils,.nils]:=rfl
theorem o39:T.zero 39=[.d (.int .i64 0),.d (.int .i64 0),.d (.int .i64 0),.d (.int .i64 0),.d (.str ⟨#[]⟩),.d (.int .i64 0),.d (.int .i64 0),.d (.int .i64 0),.nils,.nils,.d (.int .i64 0),.d (.int .i64 0),.d (.int .i64 0),.nils]:=rfl
theorem o48:T.zero 48=[.nils,.nils]:=rfl
theorem o49:T.zero 49=[.d (.int .i64 0)]:=rfl
theorem o55:T.zero 55=[.d (.int .i64 0),.d (.str ⟨#[]⟩)]:=rfl
theorem o57:T.zero 57=[.d (.int .i64 0),.d (.str ⟨#[]⟩),.d (.int .i64 0),.d (.int .i64 0),.d (.int .i64 0),.nils,.d (.int .i64 0),.nils]:=rfl
theorem o70:T.zero 70=[.d (.int .i64 0),.d (.str ⟨#[]⟩),.d (.int .i64 0),.d (.str ⟨#[]⟩)]:=rfl
theorem o88:T.zero 88=[.nils]:=rfl
theorem qJf:T.zero 103=[.d (.str ⟨#[]⟩),.d (.str ⟨#[]⟩),.d (.str ⟨#[]⟩)]:=rfl
theorem qIk:T.zero 106=[.nils,.d (.int .i64 0)]:=rfl
theorem qIa:T.zero 115=[.nils]:=rfl
theorem qKb:T.zero 135=[.nilf]:=rfl
theorem qHV:T.zero 136=[.nilf]:=rfl
theorem qJG:T.zero 138=[.d (.int .i64 0),.d (.int .i64 0),.d (.bool false)]:=rfl
theorem qIv:T.zero 161=[.nilf]:=rfl
theorem qHs:T.zero 163=[.nilf]:=rfl
theorem qKA:T.zero 164=[.nils]:=rfl
end
noncomputable section
open Go.RowKit
def pq (t:TypeId):List Nat:=bif Nat.blt t 178 then(br t 89 (br t 44 (br t 22 [] (br t 33 (br t 27 (br t 24 (br t 23 [1] []) (br t 25 [1,1,0] (br t 26 [1,1,0] [8]))) (br t 30 [] (br t 31 [8,0,0,0,0,0,0,0] (br t 32 [8,0,0,0,0,0,0,0] [])))) (br t 38 (br t 35 (br t 34 [2] [5]) (br t 36 [0,0,0,2,5] (br t 37 [0,0,0,2,5] [4]))) (br t 41 (br t 39 [0,0,0,0,0,0,0,0,2,5,0,0,0,4] (br t 40 [0,0,0,0,0,0,0,0,2,5,0,0,0,4] [])) [])))) (br t 66 (br t 55 (br t 49 (br t 46 (br t 45 [] [0,0,0,0,0,0,0,0,2,5,0,0,0,4,0,0,0,0,0,0,0,0,2,5,0,0,0,4,0,0,0,0,0,0,0,0,2,5,0,0,0,4]) (br t 47 [8,8,8] [1,1])) []) (br t 60 (br t 57 (br t 56 [] [0,0,0,0,0,1,0,1]) (br t 58 [0,0,0,0,0,1,0,1] [])) (br t 63 [] (br t 64 [] (br t 65 [] [1,1,1,1,1,1,1,1,1,1]))))) (br t 77 (br t 71 [] (br t 74 [] (br t 75 [] (br t 76 [] [1])))) (br t 83 [] (br t 86 (br t 84 [] (br t 85 [] [1])) (br t 87 [] (br t 88 [] [1]))))))) (br t 133 (br t 111 (br t 100 [] (br t 105 [] (br t 108 (br t 106 [1,0] (br t 107 [1,0] [])) (br t 109 [] (br t 110 [1,0] []))))) (br t 122 (br t 116 (br t 113 [] (br t 114 [] (br t 115 [] [1]))) []) (br t 127 [] (br t 130 (br t 128 [] (br t 129 [] [0,0,0,8,1,0])) (br t 131 [0,0,0,8,1,0] []))))) (br t 155 (br t 144 [] (br t 149 (br t 146 [] (br t 147 [6] [])) (br t 152 (br t 150 [0,0,0,2,5,0] (br t 151 [0,0,0,2,5,0] [])) []))) (br t 166 (br t 160 [] (br t 163 [] (br t 164 [] (br t 165 [1] [])))) (br t 172 [] (br t 175 [] (br t 176 [] [0,0,0,8,1,0]))))))) else[]
def pow (t:FuncId):List Nat:=bif Nat.blt t 96 then(br t 48 [] (br t 72 [] (br t 84 [] (br t 90 [] (br t 93 [] (br t 94 [] (br t 95 [] [0]))))))) else[]
def pfz (f:FuncId):Bool:=([11,12,14,15,16,20,26,28,30,31,32,34,35,36,37,39,40,42,43,45,51,53,54,61,72,76,79,82,89,94,102,103,104,124,128,130,136,139]:List Nat).contains f
def pro (f:FuncId):Bool:=([54,95,162]:List Nat).contains f
def pkp (t:FuncId) (k:Nat):List Nat:=bif Nat.blt t 183 then(br t 91 (br t 45 (br t 22 (br t 11 (br t 5 (br t 2 [] (br t 3 [] (br t 4 (br k 18 (br k 9 [] (br k 13 (br k 11 (br k 10 [] [3,5,6,7,8,10,12,13,14]) []) (br k 15 [] (br k 16 [] (br k 17 [] [3,5,6,7,8,10,12,13,14,19]))))) []) (br k 12 (br k 6 [] (br k 9 [] (br k 10 [] (br k 11 [] [7,8,9,10,11,12,16,17])))) [])))) (br t 8 (br t 6 (br k 9 (br k 4 [] (br k 6 [] (br k 7 [] (br k 8 [] [3,5,6,7,8,9,10,11,12])))) []) (br t 7 (br k 28 (br k 14 (br k 7 [] (br k 10 (br k 8 [] (br k 9 [3,4,5,6,7,9,10,11] [])) [])) (br k 21 (br k 17 [] (br k 19 [] (br k 20 [] [3,4,5,6,7,9,10,11,13,14]))) (br k 24 [] (br k 26 [] (br k 27 [] [3,4,5,6,7,9,10,11,13,14,15,16]))))) []) (br k 17 (br k 8 [] (br k 12 [] (br k 14 [] (br k 15 [] (br k 16 [] [5,10,12,13,14,16,17]))))) []))) (br t 9 [] (br t 10 (br k 9 (br k 4 [] (br k 6 [] (br k 7 [] (br k 8 [] [2,7,8,9,10,11,12])))) []) [])))) (br t 16 (br t 13 (br t 12 [] (br k 31 (br k 15 (br k 7 (br k 3 [] (br k 5 (br k 4 [3,4,5,6] []) [])) (br k 11 (br k 9 [] (br k 10 [] [4,5,7,9])) [])) (br k 23 [] (br k 27 [] (br k 29 [] (br k 30 [] [4,5,6,7,8]))))) [])) (br t 14 [] (br t 15 (br k 4 (br k 2 [] (br k 3 [] [0,3,4])) []) (br k 7 (br k 3 [] (br k 5 [] (br k 6 [] [2,4,5,7,8,9,11,28,29,30]))) [])))) (br t 19 (br t 17 (br k 27 (br k 13 (br k 6 [] (br k 9 (br k 7 [] (br k 8 [2,3,4,5,8,11,12,13] [])) [])) (br k 20 [] (br k 23 (br k 21 [2,3,4,5,8,11,12,14,16,17,18] []) (br k 25 [] (br k 26 [] [2,3,4,5,8,11,12,14,16,17,18,19,20,21]))))) []) (br t 18 (br k 10 (br k 5 (br k 2 [] (br k 3 [] (br k 4 [] [2,3,5]))) (br k 7 [] (br k 8 [] (br k 9 [] [2,3,6])))) []) [])) (br t 20 [] (br t 21 (br k 4 (br k 2 [] (br k 3 [] [1,2,4,5,6])) []) (br k 9 (br k 4 [] (br k 6 [] (br k 7 [] (br k 8 [] [2,3,5,6,9,12,35,36,37])))) [])))))) (br t 33 (br t 27 (br t 24 [] (br t 25 (br k 3 (br k 1 [] (br k 2 [] [0,1,5])) []) (br t 26 (br k 6 (br k 3 (br k 1 [] (br k 2 [] [0,1,5])) (br k 4 [] (br k 5 [] [0,1,5,6]))) []) []))) (br t 30 (br t 28 [] (br t 29 (br k 6 (br k 3 [] (br k 4 [] (br k 5 [] [2,4,5,6,7,8,9]))) []) [])) (br t 31 (br k 7 (br k 3 [] (br k 5 [] (br k 6 [] [3,4,5,6,7]))) []) (br t 32 (br k 7 (br k 3 [] (br k 5 [] (br k 6 [] [5,6,7,8,9]))) []) (br k 6 (br k 3 [] (br k 4 [] (br k 5 [] [1,2,3,4]))) []))))) (br t 39 (br t 36 (br t 34 [] (br t 35 (br k 3 (br k 1 [] (br k 2 [] [0,4,7,8,9])) []) [])) (br t 37 [] (br t 38 (br k 3 (br k 1 [] (br k 2 [] [0,2,3])) []) (br k 9 (br k 4 (br k 2 [] (br k 3 [] [1,2,3,7,12,13,14])) (br k 6 [] (br k 7 [] (br k 8 [] [1,2,3,7,9,12,13,14,25,26,27])))) [])))) (br t 42 (br t 40 (br k 10 (br k 5 (br k 2 [] (br k 3 [2,3,4,5,6,10,11,12] [])) (br k 7 [] (br k 8 [] (br k 9 [] [2,3,4,5,6,10,11,12,13,15,46,47,48])))) []) (br t 41 (br k 3 (br k 1 [] (br k 2 [] [0,4,7,8,9])) []) [])) (br t 43 [] (br t 44 (br k 4 (br k 2 [] (br k 3 [] [0,1,5,6])) []) (br k 9 (br k 4 (br k 2 [] (br k 3 [] [1,2,3,7,8,9])) (br k 6 [] (br k 7 [] (br k 8 [] [1,2,3,7,8,9,10])))) []))))))) (br t 68 (br t 56 (br t 50 (br t 47 (br t 46 (br k 13 (br k 6 (br k 3 [] (br k 4 [] (br k 5 [2,3,4,5,6,12,13,14] []))) (br k 9 [] (br k 11 [] (br k 12 [] [2,3,4,5,6,12,13,14,15,17,18,19])))) []) []) (br t 48 [] (br t 49 [] (br k 6 (br k 3 [] (br k 4 [] (br k 5 [] [2,3,5,6,9,11,12]))) [])))) (br t 53 [] (br t 54 [] (br t 55 (br k 12 (br k 6 (br k 3 [] (br k 4 [] (br k 5 [3,5,6] []))) (br k 9 (br k 7 [] (br k 8 [] [3,5,6,7,8])) (br k 10 [] (br k 11 [] [3,5,6,7,8,9])))) []) [])))) (br t 62 (br t 59 (br t 57 (br k 14 (br k 7 [] (br k 10 [] (br k 12 [] (br k 13 [] [1,62,63,64])))) []) (br t 58 (br k 3 (br k 1 [] (br k 2 [] [1,9,10,11])) []) (br k 7 (br k 3 [] (br k 5 [] (br k 6 [] [6,37,38,39]))) []))) []) (br t 65 (br t 63 (br k 9 (br k 4 (br k 2 [] (br k 3 [0,3,8,9] [])) (br k 6 [] (br k 7 [] (br k 8 [] [0,19,20,21])))) []) []) (br t 66 (br k 4 (br k 2 [] (br k 3 [] [3,6,7,8])) []) [])))) (br t 79 (br t 73 (br t 70 (br t 69 (br k 3 (br k 1 [] (br k 2 [] [0,1,9,10,11])) []) []) (br t 71 [] (br t 72 (br k 4 (br k 2 [] (br k 3 [] [3,6,7,8])) []) (br k 15 (br k 7 [] (br k 11 (br k 9 [] (br k 10 [2,3,4,5,12,13,14,15,49,50] [])) (br k 13 [] (br k 14 [] [2,3,4,5,12,13,14,15,16,49,50])))) [])))) (br t 76 (br t 74 (br k 21 (br k 10 [] (br k 15 (br k 12 [] (br k 13 [] (br k 14 [1,4] []))) (br k 18 [] (br k 19 [] (br k 20 [] [1,4,5]))))) []) (br t 75 [] (br k 16 (br k 8 (br k 4 [] (br k 6 [] (br k 7 [3,5,6] []))) (br k 12 [] (br k 14 [] (br k 15 [] [3,7])))) []))) (br t 77 (br k 33 (br k 16 (br k 8 (br k 4 [] (br k 6 (br k 5 [] [0,3,5,6]) [])) (br k 12 (br k 10 (br k 9 [] [0,3,5,7]) []) [])) (br k 24 (br k 20 (br k 18 (br k 17 [0,3,5,7,9,10,11,12] []) []) (br k 22 [] (br k 23 [0,3,5,7,9,10,11,12,13] []))) (br k 28 [] (br k 30 [] (br k 31 [] (br k 32 [] [5,14,15,16])))))) []) (br t 78 [] (br k 3 (br k 1 [] (br k 2 [] [3,4,5,7])) []))))) (br t 85 (br t 82 (br t 80 (br k 13 (br k 6 [] (br k 9 (br k 7 [] (br k 8 [2,3,4,5,12,13,14,15] [])) (br k 11 [] (br k 12 [] [2,3,4,5,12,13,14,15,16])))) []) []) (br t 83 (br k 4 (br k 2 [] (br k 3 [] [2,14,15,16])) []) [])) (br t 88 (br t 86 (br k 9 (br k 4 [] (br k 6 [] (br k 7 [] (br k 8 [] [5,6,7,10,11,35,36,37])))) []) (br t 87 [] (br k 4 (br k 2 [] (br k 3 [] [3,4,5,8,9,13,14,15])) []))) (br t 89 [] (br t 90 [] (br k 6 (br k 3 [] (br k 4 [] (br k 5 [] [2,3,4,5,9,10]))) [])))))))) (br t 137 (br t 114 (br t 102 (br t 96 (br t 93 (br t 92 (br k 5 (br k 2 [] (br k 3 [] (br k 4 [] [0,1,12,13]))) []) []) (br t 94 [] (br t 95 (br k 10 (br k 5 [] (br k 7 [] (br k 8 [] (br k 9 [] [0,1,2,6,7,8,9,10])))) []) (br k 6 (br k 3 [] (br k 4 [] (br k 5 [] [0,2,4,8]))) [])))) (br t 99 (br t 97 [] (br t 98 [] (br k 3 (br k 1 [] (br k 2 [] [0,6,7,8])) []))) [])) (br t 108 (br t 105 (br t 103 [] (br t 104 [] (br k 39 (br k 19 (br k 9 (br k 4 [] (br k 6 (br k 5 [] [1,2,3,4,7,9,10,11]) [])) (br k 14 [] (br k 16 (br k 15 [3,5,6,7,9,12,13] []) (br k 17 [] (br k 18 [] [3,5,6,7,9,12,72,73,74]))))) (br k 29 (br k 24 [] (br k 26 (br k 25 [] [3,5,6,7,9,12,17,18,19,72,73,74,96,97]) [])) (br k 34 [] (br k 36 [] (br k 37 [] (br k 38 [] [9,12,21,22])))))) []))) (br t 106 [] (br t 107 (br k 2 (br k 1 [] [1,2,6]) []) []))) (br t 111 (br t 109 (br k 3 (br k 1 [] (br k 2 [] [0,1,2,3,4,10,11])) []) []) []))) (br t 125 (br t 119 (br t 116 (br t 115 (br k 3 (br k 1 [] (br k 2 [] [0,3,7,8])) []) (br k 3 (br k 1 [] (br k 2 [] [0,1,8,9,10])) [])) []) (br t 122 (br t 120 (br k 5 (br k 2 [] (br k 3 [] (br k 4 [] [0,3]))) []) []) (br t 123 [] (br t 124 (br k 29 (br k 14 [] (br k 21 [] (br k 25 (br k 23 [] (br k 24 [1,3] [])) (br k 27 [] (br k 28 [] [1,4]))))) []) (br k 10 (br k 5 (br k 2 [] (br k 3 [] (br k 4 [0,3,5,6] []))) (br k 7 [] (br k 8 [] (br k 9 [] [0,3,5,6,7,8,9,10])))) []))))) (br t 131 (br t 128 (br t 126 (br k 3 (br k 1 [] (br k 2 [] [0,1,2,7])) []) (br t 127 (br k 6 (br k 3 (br k 1 [] (br k 2 [] [0,1,5])) (br k 4 [] (br k 5 [] [0,1,5,6]))) []) (br k 5 (br k 2 [] (br k 3 [] (br k 4 [] [0,1,5]))) []))) (br t 129 (br k 5 (br k 2 [] (br k 3 [] (br k 4 [] [3,5,6]))) []) (br t 130 [] (br k 4 (br k 2 [] (br k 3 [] [1,2,14,15,16])) [])))) (br t 134 (br t 132 (br k 3 (br k 1 [] (br k 2 [] [0,1,7,8])) []) []) (br t 135 [] (br t 136 (br k 21 (br k 10 (br k 5 [] (br k 7 (br k 6 [] [0,3,4,5,6,7,8]) [])) (br k 15 [] (br k 18 [] (br k 19 [] (br k 20 [] [0,3,4,9,10,11,12]))))) []) (br k 9 (br k 4 [] (br k 6 (br k 5 [0,3,4,5] []) (br k 7 [] (br k 8 [] [0,3,4,5,6,7])))) []))))))) (br t 160 (br t 148 (br t 142 [] (br t 145 (br t 143 (br k 8 (br k 4 [] (br k 6 [] (br k 7 [] [1,22,23,24]))) []) []) (br t 146 [] (br t 147 (br k 5 (br k 2 (br k 1 [] [0,1,2,3,8]) (br k 3 [] (br k 4 [] [0,1,2,3,8,9]))) []) (br k 9 (br k 4 [] (br k 6 (br k 5 [0,3,8,9,10,11] []) (br k 7 [] (br k 8 [] [0,3,8,9,12])))) []))))) (br t 154 (br t 151 (br t 149 (br k 6 (br k 3 [] (br k 4 [] (br k 5 [] [0,1,8,9,10,11]))) []) (br t 150 [] (br k 3 (br k 1 [] (br k 2 [] [0,8,9])) []))) (br t 152 (br k 21 (br k 10 (br k 5 (br k 2 [] (br k 3 [] (br k 4 [0,1,2,3,9,10] []))) (br k 7 (br k 6 [0,1,2,3,9,10] []) [])) (br k 15 (br k 12 [] (br k 13 [] (br k 14 [] [0,1,2,3,9,10,11]))) (br k 18 [] (br k 19 [] (br k 20 [] [0,1,2,3,9,10,12]))))) []) (br t 153 (br k 6 (br k 3 [] (br k 4 [0,1,4,11,12] (br k 5 [] [0,1,4,11,12]))) []) (br k 16 (br k 8 (br k 4 (br k 2 [] (br k 3 [] [0,1,4,12,13])) (br k 6 (br k 5 [] [0,1,4,12,13]) [])) (br k 12 [] (br k 14 (br k 13 [] [0,1,4,12,13]) (br k 15 [] [0,1,4,12,13])))) [])))) (br t 157 [] (br t 158 [] (br t 159 (br k 3 (br k 1 [] (br k 2 [] [0,3])) []) (br k 3 (br k 1 [] (br k 2 [] [0,1,2,7])) [])))))) (br t 171 (br t 165 (br t 162 (br t 161 (br k 4 (br k 2 [] (br k 3 [] [3,4,5,7,8])) []) []) []) (br t 168 [] (br t 169 [] (br t 170 (br k 5 (br k 2 [] (br k 3 [] (br k 4 [] [1,2,15,16,17]))) []) [])))) (br t 177 (br t 174 (br t 172 [] (br t 173 (br k 2 (br k 1 [] [0,2,3,4,10]) []) [])) []) (br t 180 (br t 178 (br k 3 (br k 1 [] (br k 2 [] [0,1,7,8])) []) (br t 179 [] (br k 3 (br k 1 [] (br k 2 [] [0,3,7,8])) []))) (br t 181 [] (br t 182 (br k 3 (br k 1 [] (br k 2 [] [1,2,10])) []) (br k 3 (br k 1 [] (br k 2 [] [0,1,7,8])) []))))))))) else[]
def pkx (t:FuncId) (k:Nat):List Nat:=bif Nat.blt t 183 then(br t 91 (br t 45 (br t 22 (br t 11 (br t 5 (br t 2 [] (br t 3 [] (br t 4 (br k 18 (br k 9 [] (br k 13 (br k 11 (br k 10 [] [3,4,5,6,7]) []) (br k 15 [] (br k 16 [] (br k 17 [] [3,4,5,6,7,8,10,12,13,14]))))) []) (br k 12 (br k 6 [] (br k 9 [] (br k 10 [] (br k 11 [] [6,7])))) [])))) (br t 8 (br t 6 (br k 9 (br k 4 [] (br k 6 [] (br k 7 [] (br k 8 [] [4,5])))) []) (br t 7 (br k 28 (br k 14 (br k 7 [] (br k 10 (br k 8 [] (br k 9 [2,3,4,9,10] [])) [])) (br k 21 (br k 17 [] (br k 19 [] (br k 20 [] [2,3,4,5,6,7,9,10,11]))) (br k 24 [] (br k 26 [] (br k 27 [] [2,3,4,5,6,7,9,10,11,13,14]))))) []) (br k 17 (br k 8 [] (br k 12 [] (br k 14 [] (br k 15 [] (br k 16 [] [4,5,12,13,14,16]))))) []))) (br t 9 [] (br t 10 (br k 9 (br k 4 [] (br k 6 [] (br k 7 [] (br k 8 [] [7,8,10,11])))) []) [])))) (br t 16 (br t 13 (br t 12 [] (br k 31 (br k 15 (br k 7 (br k 3 [] (br k 5 (br k 4 [3,4,5,6] []) [])) (br k 11 (br k 9 [] (br k 10 [] [4,5])) [])) (br k 23 [] (br k 27 [] (br k 29 [] (br k 30 [] [4,5]))))) [])) (br t 14 [] (br t 15 (br k 4 (br k 2 [] (br k 3 [] [3])) []) (br k 7 (br k 3 [] (br k 5 [] (br k 6 [] [2,4,5,7,8,9,11]))) [])))) (br t 19 (br t 17 (br k 27 (br k 13 (br k 6 [] (br k 9 (br k 7 [] (br k 8 [2,3,4,5,8,11,12] [])) [])) (br k 20 [] (br k 23 (br k 21 [8,16,17] []) (br k 25 [] (br k 26 [] [2,3,4,5,8,11,12,14,16,17,18,19,20]))))) []) (br t 18 (br k 10 (br k 5 (br k 2 [] (br k 3 [] (br k 4 [] [2,3,4]))) (br k 7 [] (br k 8 [] (br k 9 [] [4])))) []) [])) (br t 20 [] (br t 21 (br k 4 (br k 2 [] (br k 3 [] [4,5])) []) (br k 9 (br k 4 [] (br k 6 [] (br k 7 [] (br k 8 [] [3,5,6,9,10,12])))) [])))))) (br t 33 (br t 27 (br t 24 [] (br t 25 (br k 3 (br k 1 [] (br k 2 [] [4])) []) (br t 26 (br k 6 (br k 3 (br k 1 [] (br k 2 [] [4])) (br k 4 [] (br k 5 [] [0,1,4,5]))) []) []))) (br t 30 (br t 28 [] (br t 29 (br k 6 (br k 3 [] (br k 4 [] (br k 5 [] [2,4,8]))) []) [])) (br t 31 (br k 7 (br k 3 [] (br k 5 [] (br k 6 [] [6]))) []) (br t 32 (br k 7 (br k 3 [] (br k 5 [] (br k 6 [] [7]))) []) (br k 6 (br k 3 [] (br k 4 [] (br k 5 [] [2,3]))) []))))) (br t 39 (br t 36 (br t 34 [] (br t 35 (br k 3 (br k 1 [] (br k 2 [] [4])) []) [])) (br t 37 [] (br t 38 (br k 3 (br k 1 [] (br k 2 [] [2])) []) (br k 9 (br k 4 (br k 2 [] (br k 3 [] [1,3,6,7])) (br k 6 [] (br k 7 [] (br k 8 [] [1,2,3,6,7,9,12,13,14])))) [])))) (br t 42 (br t 40 (br k 10 (br k 5 (br k 2 [] (br k 3 [10,11] [])) (br k 7 [] (br k 8 [] (br k 9 [] [2,3,4,5,6,10,11,12,15])))) []) (br t 41 (br k 3 (br k 1 [] (br k 2 [] [4])) []) [])) (br t 43 [] (br t 44 (br k 4 (br k 2 [] (br k 3 [] [5])) []) (br k 9 (br k 4 (br k 2 [] (br k 3 [] [3,6,7,8])) (br k 6 [] (br k 7 [] (br k 8 [] [1,2,3,6,7,8,9])))) []))))))) (br t 68 (br t 56 (br t 50 (br t 47 (br t 46 (br k 13 (br k 6 (br k 3 [] (br k 4 [] (br k 5 [12,13] []))) (br k 9 [] (br k 11 [] (br k 12 [] [2,3,4,5,6,12,13,14,17])))) []) []) (br t 48 [] (br t 49 [] (br k 6 (br k 3 [] (br k 4 [] (br k 5 [] [3,5,6,9,10,11]))) [])))) (br t 53 [] (br t 54 [] (br t 55 (br k 12 (br k 6 (br k 3 [] (br k 4 [] (br k 5 [5] []))) (br k 9 (br k 7 [] (br k 8 [] [3,5,6])) (br k 10 [] (br k 11 [] [3,5,6,7,8,9])))) []) [])))) (br t 62 (br t 59 (br t 57 (br k 14 (br k 7 [] (br k 10 [] (br k 12 [] (br k 13 [] [2])))) []) (br t 58 (br k 3 (br k 1 [] (br k 2 [] [1,2])) []) (br k 7 (br k 3 [] (br k 5 [] (br k 6 [] [2]))) []))) []) (br t 65 (br t 63 (br k 9 (br k 4 (br k 2 [] (br k 3 [0,3] [])) []) []) []) (br t 66 (br k 4 (br k 2 [] (br k 3 [] [2,3])) []) [])))) (br t 79 (br t 73 (br t 70 (br t 69 (br k 3 (br k 1 [] (br k 2 [] [0,1,4])) []) []) (br t 71 [] (br t 72 (br k 4 (br k 2 [] (br k 3 [] [3])) []) (br k 15 (br k 7 [] (br k 11 (br k 9 [] (br k 10 [15] [])) (br k 13 [] (br k 14 [] [2,3,4,5,12,13,14,15,16,49,50])))) [])))) (br t 76 (br t 74 (br k 21 (br k 10 [] (br k 15 (br k 12 [] (br k 13 [] (br k 14 [2] []))) (br k 18 [] (br k 19 [] (br k 20 [] [1,2,4]))))) []) (br t 75 [] (br k 16 (br k 8 (br k 4 [] (br k 6 [] (br k 7 [2,3,5] []))) (br k 12 [] (br k 14 [] (br k 15 [] [2])))) []))) (br t 77 (br k 33 (br k 16 (br k 8 (br k 4 [] (br k 6 (br k 5 [] [0,3,5]) [])) (br k 12 (br k 10 (br k 9 [] [3,5]) []) [])) (br k 24 (br k 20 (br k 18 (br k 17 [0,3,7,11] []) []) (br k 22 [] (br k 23 [0,3,5,7,9,10,11,12] []))) (br k 28 [] (br k 30 [] (br k 31 [] (br k 32 [] [15])))))) []) (br t 78 [] (br k 3 (br k 1 [] (br k 2 [] [6])) []))))) (br t 85 (br t 82 (br t 80 (br k 13 (br k 6 [] (br k 9 (br k 7 [] (br k 8 [14] [])) (br k 11 [] (br k 12 [] [2,3,4,5,12,13,14,15])))) []) []) (br t 83 (br k 4 (br k 2 [] (br k 3 [] [2])) []) [])) (br t 88 (br t 86 (br k 9 (br k 4 [] (br k 6 [] (br k 7 [] (br k 8 [] [6,7,10,11])))) []) (br t 87 [] (br k 4 (br k 2 [] (br k 3 [] [8,9])) []))) (br t 89 [] (br t 90 [] (br k 6 (br k 3 [] (br k 4 [] (br k 5 [] [2,3,4,5,8]))) [])))))))) (br t 137 (br t 114 (br t 102 (br t 96 (br t 93 (br t 92 (br k 5 (br k 2 [] (br k 3 [] (br k 4 [] [4]))) []) []) (br t 94 [] (br t 95 (br k 10 (br k 5 [] (br k 7 [] (br k 8 [] (br k 9 [] [0,6,7,8,9])))) []) (br k 6 (br k 3 [] (br k 4 [] (br k 5 [] [0,6,7]))) [])))) (br t 99 (br t 97 [] (br t 98 [] (br k 3 (br k 1 [] (br k 2 [] [0,2])) []))) [])) (br t 108 (br t 105 (br t 103 [] (br t 104 [] (br k 39 (br k 19 (br k 9 (br k 4 [] (br k 6 (br k 5 [] [3,9]) [])) (br k 14 [] (br k 16 (br k 15 [3,5,6,7,9,12] []) (br k 17 [] (br k 18 [] [7,9,12]))))) (br k 29 (br k 24 [] (br k 26 (br k 25 [] [3,5,6,7,9,12,19,72,73,74]) [])) (br k 34 [] (br k 36 [] (br k 37 [] (br k 38 [] [9])))))) []))) (br t 106 [] (br t 107 (br k 2 [] []) []))) (br t 111 (br t 109 (br k 3 [] []) []) []))) (br t 125 (br t 119 (br t 116 (br t 115 (br k 3 (br k 1 [] (br k 2 [] [4])) []) (br k 3 (br k 1 [] (br k 2 [] [5])) [])) []) (br t 122 (br t 120 (br k 5 (br k 2 [] (br k 3 [] (br k 4 [] [2]))) []) []) (br t 123 [] (br t 124 (br k 29 (br k 14 [] (br k 21 [] (br k 25 (br k 23 [] (br k 24 [1,2] [])) (br k 27 [] (br k 28 [] [2]))))) []) (br k 10 (br k 5 (br k 2 [] (br k 3 [] (br k 4 [0,5] []))) (br k 7 [] (br k 8 [] (br k 9 [] [0,3,5,6,7,8,9])))) []))))) (br t 131 (br t 128 (br t 126 (br k 3 (br k 1 [] (br k 2 [] [6])) []) (br t 127 (br k 6 (br k 3 (br k 1 [] (br k 2 [] [4])) (br k 4 [] (br k 5 [] [0,1,4,5]))) []) (br k 5 (br k 2 [] (br k 3 [] (br k 4 [] [4]))) []))) (br t 129 (br k 5 (br k 2 [] (br k 3 [] (br k 4 [] [5]))) []) (br t 130 [] (br k 4 (br k 2 [] (br k 3 [] [1,2])) [])))) (br t 134 (br t 132 (br k 3 (br k 1 [] (br k 2 [] [4])) []) []) (br t 135 [] (br t 136 (br k 21 (br k 10 (br k 5 [] (br k 7 (br k 6 [] [0,3,4,5,6,7]) [])) (br k 15 [] (br k 18 [] (br k 19 [] (br k 20 [] [3,4,9,10,11]))))) []) (br k 9 (br k 4 [] (br k 6 (br k 5 [4] []) (br k 7 [] (br k 8 [] [0,3,4,5,6,7])))) []))))))) (br t 160 (br t 148 (br t 142 [] (br t 145 (br t 143 (br k 8 (br k 4 [] (br k 6 [] (br k 7 [] [2]))) []) []) (br t 146 [] (br t 147 (br k 5 (br k 2 [] (br k 3 [] (br k 4 [] [0,1,2,3,8]))) []) (br k 9 (br k 4 [] (br k 6 (br k 5 [0,3,8,9,10] []) [])) []))))) (br t 154 (br t 151 (br t 149 (br k 6 [] []) (br t 150 [] (br k 3 [] []))) (br t 152 (br k 21 (br k 10 (br k 5 (br k 2 [] (br k 3 [] (br k 4 [8] []))) (br k 7 (br k 6 [0,1,2,3,9,10] []) [])) (br k 15 (br k 12 [] (br k 13 [] (br k 14 [] [0,1,2,3,9,10]))) (br k 18 [] (br k 19 [] (br k 20 [] [0,1,2,3,9,10]))))) []) (br t 153 (br k 6 (br k 3 [] (br k 4 [11] (br k 5 [] [0,1,4,11,12]))) []) (br k 16 (br k 8 (br k 4 (br k 2 [] (br k 3 [] [0,1,4,12,13])) (br k 6 (br k 5 [] [0,1,4,12,13]) [])) (br k 12 [] (br k 14 (br k 13 [] [0,1,13]) (br k 15 [] [0,1,4,12,13])))) [])))) (br t 157 [] (br t 158 [] (br t 159 (br k 3 (br k 1 [] (br k 2 [] [0,2])) []) (br k 3 (br k 1 [] (br k 2 [] [6])) [])))))) (br t 171 (br t 165 (br t 162 (br t 161 (br k 4 (br k 2 [] (br k 3 [] [3,4,5,7])) []) []) []) (br t 168 [] (br t 169 [] (br t 170 (br k 5 (br k 2 [] (br k 3 [] (br k 4 [] [6]))) []) [])))) (br t 177 (br t 174 (br t 172 [] (br t 173 (br k 2 [] []) [])) []) (br t 180 (br t 178 (br k 3 (br k 1 [] (br k 2 [] [4])) []) (br t 179 [] (br k 3 (br k 1 [] (br k 2 [] [4])) []))) (br t 181 [] (br t 182 (br k 3 (br k 1 [] (br k 2 [] [6])) []) (br k 3 (br k 1 [] (br k 2 [] [4])) []))))))))) else[]
def prw (t:FuncId) (k:Nat):List Rw:=bif Nat.blt t 137 then(br t 68 (br t 34 (br t 17 (br t 8 (br t 4 [] (br t 6 [] (br t 7 [] (br k 17 (br k 8 [] (br k 12 [] (br k 14 [] (br k 15 [] (br k 16 [] [.slot 16 3 1]))))) [])))) (br t 12 (br t 10 (br t 9 [] (br k 9 (br k 4 [] (br k 6 [] (br k 7 [] (br k 8 [] [.slot 10 57 8])))) [])) []) (br t 14 (br t 13 (br k 11 (br k 5 [] (br k 8 [] (br k 9 [] (br k 10 [] [.cell 5 4 36 5])))) []) []) (br t 15 (br k 4 (br k 2 [] (br k 3 [] [.slot 3 57 8])) []) (br t 16 (br k 7 (br k 3 [] (br k 5 [] (br k 6 [] [.cell 11 0 3 1]))) []) (br k 27 (br k 13 (br k 6 [] (br k 9 (br k 7 [] (br k 8 [.slot 11 3 1,.slot 12 57 8] [])) [])) (br k 20 [] (br k 23 (br k 21 [.dcell 16 0 1,.dcell 16 1 1] []) (br k 25 [] (br k 26 [] [.slot 20 57 8]))))) [])))))) (br t 25 (br t 21 (br t 19 [] (br t 20 [] (br k 4 (br k 2 [] (br k 3 [] [.cell 5 0 3 1,.cell 5 1 3 1])) []))) (br t 23 (br t 22 (br k 9 (br k 4 [] (br k 6 [] (br k 7 [] (br k 8 [] [.slot 12 57 8])))) []) []) [])) (br t 29 (br t 27 [] (br t 28 [] (br k 6 (br k 3 [] (br k 4 [] (br k 5 [] [.slot 8 57 8]))) []))) (br t 31 (br t 30 [] (br k 7 (br k 3 [] (br k 5 [] (br k 6 [] [.slot 6 57 8]))) [])) (br t 32 (br k 7 (br k 3 [] (br k 5 [] (br k 6 [] [.slot 7 57 8]))) []) (br t 33 (br k 6 (br k 3 [] (br k 4 [] (br k 5 [] [.cell 3 4 36 5]))) []) [])))))) (br t 51 (br t 42 (br t 38 (br t 36 (br t 35 (br k 3 (br k 1 [] (br k 2 [] [.slot 4 57 8])) []) []) (br t 37 [] (br k 3 (br k 1 [] (br k 2 [] [.slot 2 3 1])) []))) (br t 40 (br t 39 [] (br k 10 (br k 5 (br k 2 [] (br k 3 [.slot 10 3 1] [])) (br k 7 [] (br k 8 [] (br k 9 [] [.slot 15 3 1])))) [])) (br t 41 (br k 3 (br k 1 [] (br k 2 [] [.slot 4 3 1])) []) []))) (br t 46 (br t 44 (br t 43 [] (br k 4 (br k 2 [] (br k 3 [] [.slot 5 3 1])) [])) (br t 45 [] (br k 13 (br k 6 (br k 3 [] (br k 4 [] (br k 5 [.slot 12 3 1] []))) (br k 9 [] (br k 11 [] (br k 12 [] [.slot 17 3 1])))) []))) (br t 48 [] (br t 49 [] (br t 50 (br k 6 (br k 3 [] (br k 4 [] (br k 5 [] [.slot 11 57 8]))) []) []))))) (br t 59 (br t 55 (br t 53 [] (br t 54 [] (br k 9 (br k 4 [] (br k 6 (br k 5 [.slot 5 55 2] []) (br k 7 [] (br k 8 [] [.slot 5 55 2])))) []))) []) (br t 63 (br t 61 [] (br t 62 [] (br k 3 (br k 1 [] (br k 2 [] [.slot 3 3 1])) []))) [])))) (br t 102 (br t 85 (br t 76 (br t 72 [] (br t 74 (br t 73 (br k 10 (br k 5 [] (br k 7 [] (br k 8 [] (br k 9 [] [.cell 12 0 3 1,.slot 15 3 1])))) []) []) [])) (br t 80 (br t 78 [] (br t 79 [] (br k 13 (br k 6 [] (br k 9 (br k 7 [] (br k 8 [.slot 13 3 1,.slot 14 3 1] [])) (br k 11 [] (br k 12 [] [.slot 14 3 1])))) []))) (br t 82 [] (br t 83 (br k 4 (br k 2 [] (br k 3 [] [.slot 2 36 5])) []) [])))) (br t 93 [] (br t 97 (br t 95 (br t 94 [] (br k 10 (br k 5 [] (br k 7 [] (br k 8 [] (br k 9 [] [.cell 9 4 36 5])))) [])) []) []))) (br t 119 [] (br t 128 [] (br t 132 (br t 130 (br t 129 (br k 5 (br k 2 [] (br k 3 [] (br k 4 [] [.slot 5 36 5]))) []) []) []) (br t 134 [] (br t 135 [] (br t 136 [] (br k 5 (br k 2 [] (br k 3 [] (br k 4 [] [.slot 4 55 2]))) []))))))))) else[]
def pdm (t:FuncId) (k:Nat):Nat:=bif Nat.blt t 184 then(br t 92 (br t 46 (br t 23 (br t 11 (br t 5 (br t 2 0 (br t 3 0 (br t 4 (br k 20 (br k 10 0 (br k 15 (br k 12 0 (br k 13 14 (br k 14 14 0))) (br k 17 0 (br k 18 0 (br k 19 0 19))))) 0) (br k 14 (br k 7 (br k 3 0 (br k 5 0 (br k 6 10 0))) (br k 10 (br k 8 16 (br k 9 16 13)) (br k 12 0 (br k 13 0 27)))) 0)))) (br t 8 (br t 6 0 (br t 7 (br k 30 (br k 15 (br k 7 (br k 3 0 (br k 5 (br k 4 10 0) 0)) 0) (br k 22 0 (br k 26 0 (br k 28 0 (br k 29 0 22))))) 0) (br k 8 (br k 4 0 (br k 6 0 (br k 7 0 9))) 0))) (br t 9 0 (br t 10 (br k 16 (br k 8 0 (br k 12 0 (br k 14 0 (br k 15 0 9)))) 0) (br k 13 (br k 6 0 (br k 9 (br k 7 5 0) (br k 11 0 (br k 12 0 26)))) 0))))) (br t 17 (br t 14 (br t 12 (br k 6 (br k 3 0 (br k 4 0 (br k 5 0 8))) 0) (br t 13 (br k 33 (br k 16 (br k 8 (br k 4 0 (br k 6 (br k 5 0 24) 0)) (br k 12 0 (br k 14 (br k 13 12 0) 0))) (br k 24 (br k 20 0 (br k 22 0 (br k 23 15 0))) (br k 28 (br k 26 0 (br k 27 0 8)) (br k 30 0 (br k 31 0 (br k 32 0 14)))))) 0) 0)) (br t 15 0 (br t 16 (br k 21 (br k 10 0 (br k 15 0 (br k 18 0 (br k 19 0 (br k 20 0 5))))) 0) (br k 10 (br k 5 0 (br k 7 0 (br k 8 0 (br k 9 0 6)))) 0)))) (br t 20 (br t 18 (br k 12 (br k 6 0 (br k 9 (br k 7 10 0) (br k 10 0 (br k 11 0 10)))) 0) (br k 2 (br k 1 0 12) 0)) (br t 21 (br k 8 (br k 4 0 (br k 6 0 (br k 7 0 9))) 0) 0)))) (br t 34 (br t 28 (br t 25 (br t 24 0 (br k 6 (br k 3 0 (br k 4 0 8)) 0)) (br t 26 (br k 8 (br k 4 0 (br k 6 0 (br k 7 0 8))) 0) 0)) (br t 31 (br t 29 (br k 8 (br k 4 0 (br k 6 0 (br k 7 0 16))) 0) (br t 30 (br k 2 (br k 1 0 9) 0) (br k 9 (br k 4 0 (br k 6 0 (br k 7 0 (br k 8 0 26)))) 0))) (br t 32 (br k 9 (br k 4 0 (br k 6 0 (br k 7 0 (br k 8 0 21)))) 0) (br t 33 (br k 8 (br k 4 0 (br k 6 0 (br k 7 0 9))) 0) 0)))) (br t 40 (br t 37 0 (br t 38 0 (br t 39 (br k 17 (br k 8 0 (br k 12 0 (br k 14 0 (br k 15 0 (br k 16 0 9))))) 0) (br k 14 (br k 7 0 (br k 10 0 (br k 12 0 (br k 13 0 9)))) 0)))) (br t 43 0 (br t 44 0 (br t 45 (br k 15 (br k 7 (br k 3 0 (br k 5 0 (br k 6 6 0))) (br k 11 (br k 9 0 (br k 10 0 8)) (br k 13 (br k 12 14 0) (br k 14 0 12)))) 0) 0)))))) (br t 69 (br t 57 (br t 51 0 (br t 54 (br t 52 (br k 3 (br k 1 0 (br k 2 0 28)) 0) (br t 53 (br k 4 (br k 2 (br k 1 0 9) (br k 3 0 15)) 0) 0)) (br t 55 (br k 16 (br k 8 0 (br k 12 (br k 10 0 (br k 11 0 13)) (br k 14 (br k 13 0 13) (br k 15 0 7)))) 0) (br t 56 (br k 5 (br k 2 (br k 1 0 9) (br k 3 0 (br k 4 0 12))) 0) (br k 20 (br k 10 0 (br k 15 0 (br k 17 0 (br k 18 0 (br k 19 0 5))))) 0))))) (br t 63 (br t 60 (br t 58 (br k 8 (br k 4 0 (br k 6 0 (br k 7 0 15))) 0) 0) 0) 0)) (br t 80 (br t 74 (br t 71 0 (br t 72 0 (br t 73 0 (br k 23 (br k 11 0 (br k 17 0 (br k 20 (br k 18 12 0) (br k 21 0 (br k 22 0 10))))) 0)))) (br t 77 (br t 75 0 (br t 76 0 (br k 26 (br k 13 0 (br k 19 0 (br k 22 0 (br k 24 0 (br k 25 0 14))))) 0))) (br t 78 0 (br t 79 0 (br k 15 (br k 7 0 (br k 11 0 (br k 13 0 (br k 14 0 8)))) 0))))) (br t 86 (br t 83 0 (br t 84 0 (br t 85 0 (br k 17 (br k 8 (br k 4 0 (br k 6 (br k 5 9 0) 0)) (br k 12 0 (br k 14 0 (br k 15 0 (br k 16 0 10))))) 0)))) (br t 89 (br t 87 0 (br t 88 0 (br k 2 (br k 1 0 5) 0))) (br t 90 0 (br t 91 0 (br k 7 (br k 3 0 (br k 5 0 (br k 6 0 8))) 0)))))))) (br t 138 (br t 115 (br t 103 (br t 97 (br t 94 0 (br t 95 (br k 12 (br k 6 (br k 3 0 (br k 4 0 (br k 5 10 7))) (br k 9 0 (br k 10 0 (br k 11 0 10)))) 0) 0)) (br t 100 0 (br t 101 (br k 2 (br k 1 0 9) 0) (br t 102 0 (br k 8 (br k 4 0 (br k 6 0 (br k 7 8 3))) 0))))) (br t 109 (br t 106 (br t 104 0 (br t 105 (br k 30 (br k 15 (br k 7 0 (br k 11 (br k 9 (br k 8 16 0) 0) 0)) (br k 22 0 (br k 26 0 (br k 28 0 (br k 29 0 6))))) 0) 0)) (br t 107 0 (br t 108 (br k 2 (br k 1 0 12) 0) (br k 18 (br k 9 0 (br k 13 0 (br k 15 0 (br k 16 0 (br k 17 0 13))))) 0)))) (br t 112 0 (br t 113 0 (br t 114 0 (br k 5 (br k 2 0 (br k 3 0 (br k 4 0 5))) 0)))))) (br t 126 (br t 120 0 (br t 123 0 (br t 124 (br k 31 (br k 15 0 (br k 23 0 (br k 27 0 (br k 29 0 (br k 30 0 11))))) 0) (br t 125 (br k 15 (br k 7 0 (br k 11 0 (br k 13 0 (br k 14 0 12)))) 0) 0)))) (br t 132 (br t 129 (br t 127 (br k 8 (br k 4 0 (br k 6 0 (br k 7 0 8))) 0) (br t 128 (br k 7 (br k 3 0 (br k 5 0 (br k 6 0 8))) 0) 0)) (br t 130 0 (br t 131 (br k 6 (br k 3 (br k 1 0 (br k 2 7 0)) (br k 4 0 (br k 5 0 5))) 0) 0))) (br t 135 0 (br t 136 (br k 12 (br k 6 0 (br k 9 (br k 7 0 (br k 8 0 11)) (br k 10 0 (br k 11 0 14)))) 0) (br t 137 (br k 13 (br k 6 0 (br k 9 (br k 7 0 (br k 8 0 10)) (br k 11 (br k 10 0 10) (br k 12 0 7)))) 0) 0)))))) (br t 161 (br t 149 (br t 143 (br t 140 0 (br t 141 0 (br t 142 0 (br k 10 (br k 5 0 (br k 7 0 (br k 8 0 (br k 9 0 10)))) 0)))) (br t 146 0 (br t 147 (br k 7 (br k 3 0 (br k 5 (br k 4 0 14) (br k 6 0 16))) 0) (br k 11 (br k 5 0 (br k 8 0 (br k 9 0 (br k 10 0 18)))) 0)))) (br t 155 (br t 152 (br t 150 0 (br t 151 (br k 4 (br k 2 0 (br k 3 0 14)) 0) (br k 24 (br k 12 (br k 6 (br k 3 0 (br k 4 0 (br k 5 0 14))) (br k 9 0 (br k 10 0 (br k 11 0 16)))) (br k 18 (br k 15 0 (br k 16 0 (br k 17 10 16))) (br k 21 0 (br k 22 0 (br k 23 10 16))))) 0))) (br t 153 (br k 9 (br k 4 (br k 2 (br k 1 0 14) (br k 3 0 13)) (br k 6 (br k 5 0 13) (br k 7 0 (br k 8 0 14)))) 0) (br t 154 (br k 22 (br k 11 (br k 5 (br k 2 (br k 1 0 14) (br k 3 0 (br k 4 13 0))) (br k 8 (br k 6 13 0) (br k 9 14 (br k 10 0 14)))) (br k 16 (br k 13 0 (br k 14 13 (br k 15 0 13))) (br k 19 (br k 17 0 (br k 18 0 14)) (br k 20 0 (br k 21 0 14))))) 0) 0))) (br t 158 0 (br t 159 0 (br t 160 (br k 5 (br k 2 0 (br k 3 0 (br k 4 0 14))) 0) (br k 6 (br k 3 0 (br k 4 0 (br k 5 0 9))) 0)))))) (br t 172 0 (br t 178 (br t 175 (br t 173 (br k 7 (br k 3 0 (br k 5 (br k 4 19 0) (br k 6 13 22))) 0) (br t 174 0 (br k 4 (br k 2 (br k 1 0 7) 7) 0))) 0) (br t 181 (br t 179 0 (br t 180 (br k 5 (br k 2 0 (br k 3 0 (br k 4 0 5))) 0) 0)) (br t 182 0 (br t 183 0 (br k 2 (br k 1 0 9) 0))))))))) else 0
def pan (t:FuncId) (k:Nat):List (List Nat):=bif Nat.blt t 184 then(br t 92 (br t 46 (br t 23 (br t 11 (br t 5 (br t 2 [] (br t 3 [] (br t 4 (br k 20 (br k 10 [] (br k 15 (br k 12 [] (br k 13 [[],[],[],[],[],[],[],[],[2,3,6],[],[],[],[],[2,3,6,8,12]] (br k 14 [[],[],[],[],[],[],[],[],[2,3,6],[],[],[],[],[2,3,6,8,12]] []))) (br k 17 [] (br k 18 [] (br k 19 [] [[],[],[],[],[],[],[3],[],[],[0,3,6,8],[],[],[],[],[],[],[13],[],[]]))))) []) (br k 14 (br k 7 (br k 3 [] (br k 5 [] (br k 6 [[],[],[],[0,1,2],[],[],[],[0,1,2,3,4,5,6],[0,2,3,4,6,7],[]] []))) (br k 10 (br k 8 [[],[],[],[],[],[4],[],[],[],[],[],[],[],[],[13],[]] (br k 9 [[],[],[],[],[],[],[],[],[],[],[],[],[],[],[],[]] [[],[],[],[],[],[],[3],[],[],[3,6,8],[],[],[]])) (br k 12 [] (br k 13 [] [[],[],[],[],[],[],[],[0,1,6],[],[],[],[],[],[],[],[0,1,6,7,8,9,14],[],[],[0,1,6,7,8,9,14,15],[],[],[0,1,6,7,8,9,14,15],[0,1,6,7,8,9,14,15,18,21],[0,1,6,7,8,9,14,15],[],[],[0,1,6,7,8,9,14,15]])))) [])))) (br t 8 (br t 6 [] (br t 7 (br k 30 (br k 15 (br k 7 (br k 3 [] (br k 5 (br k 4 [[],[],[],[],[0,1],[],[],[],[],[0,1,4,8]] []) [])) []) (br k 22 [] (br k 26 [] (br k 28 [] (br k 29 [] [[],[],[],[],[1],[],[],[],[],[],[],[],[],[1,4,6,8],[],[],[1,4,6,8,13],[],[1,4,6,8],[],[1,4,6,8],[]]))))) []) (br k 8 (br k 4 [] (br k 6 [] (br k 7 [] [[],[],[],[],[0,1,2,3],[],[],[],[]]))) []))) (br t 9 [] (br t 10 (br k 16 (br k 8 [] (br k 12 [] (br k 14 [] (br k 15 [] [[],[],[],[0,1],[],[],[],[],[0,1,3,7]])))) []) (br k 13 (br k 6 [] (br k 9 (br k 7 [[],[],[],[],[0,2,3]] []) (br k 11 [] (br k 12 [] [[],[],[],[],[],[],[],[],[],[5,8],[],[],[5,8,9],[],[],[5,8,9],[5,8,9,12,15],[],[],[],[5,8,9,12,15,16],[5,8,9,12,15,16],[],[5,8,9,12,15,16],[5,8,9,12,15,16],[]])))) []))))) (br t 17 (br t 14 (br t 12 (br k 6 (br k 3 [] (br k 4 [] (br k 5 [] [[],[],[],[],[3],[],[0],[]]))) []) (br t 13 (br k 33 (br k 16 (br k 8 (br k 4 [] (br k 6 (br k 5 [] [[],[],[],[],[],[],[],[],[],[],[],[],[],[],[],[],[],[],[],[],[],[],[],[]]) [])) (br k 12 [] (br k 14 (br k 13 [[],[],[],[],[],[],[],[0,1,2,3,4,5,6],[1,3,6,7],[1,3,6,7],[1,3,6,7],[1,3,6,7]] []) []))) (br k 24 (br k 20 [] (br k 22 [] (br k 23 [[],[],[],[],[],[],[],[],[],[0,1,2,3,4,5,6,7,8],[3,5,8,9],[3,5,8,9],[3,5,8,9],[3,5,8,9],[3,5,8,9]] []))) (br k 28 (br k 26 [] (br k 27 [] [[],[],[],[],[],[],[],[4]])) (br k 30 [] (br k 31 [] (br k 32 [] [[],[],[],[],[],[],[],[],[7],[7,8],[],[],[7,8,9],[1,2,3,4,5,6,7,8,9,10,11,12]])))))) []) [])) (br t 15 [] (br t 16 (br k 21 (br k 10 [] (br k 15 [] (br k 18 [] (br k 19 [] (br k 20 [] [[],[],[],[1],[]]))))) []) (br k 10 (br k 5 [] (br k 7 [] (br k 8 [] (br k 9 [] [[],[],[],[],[],[]])))) [])))) (br t 20 (br t 18 (br k 12 (br k 6 [] (br k 9 (br k 7 [[],[],[],[],[1],[],[],[],[],[6]] []) (br k 10 [] (br k 11 [] [[],[],[],[],[1],[],[],[],[],[6]])))) []) (br k 2 (br k 1 [] [[],[],[],[],[],[1],[],[1],[1,5,7],[],[],[1]]) [])) (br t 21 (br k 8 (br k 4 [] (br k 6 [] (br k 7 [] [[],[],[],[],[],[],[5],[],[5,6]]))) []) [])))) (br t 34 (br t 28 (br t 25 (br t 24 [] (br k 6 (br k 3 [] (br k 4 [] [[],[],[],[],[],[],[],[]])) [])) (br t 26 (br k 8 (br k 4 [] (br k 6 [] (br k 7 [] [[],[],[],[],[],[],[],[]]))) []) [])) (br t 31 (br t 29 (br k 8 (br k 4 [] (br k 6 [] (br k 7 [] [[],[],[],[],[3],[],[],[],[],[],[],[],[],[],[],[3,4,7,10,13]]))) []) (br t 30 (br k 2 (br k 1 [] [[],[],[],[0,1],[],[],[],[],[0,1,3,7]]) []) (br k 9 (br k 4 [] (br k 6 [] (br k 7 [] (br k 8 [] [[],[],[],[],[0,2],[],[],[],[],[2],[],[2,9],[],[],[],[2,9],[],[2,9,13,15],[],[2,9,15],[],[],[2,9,15,19],[],[],[]])))) []))) (br t 32 (br k 9 (br k 4 [] (br k 6 [] (br k 7 [] (br k 8 [] [[],[],[],[],[],[],[4],[],[],[4],[],[4,7,9],[],[],[4,9],[],[4,9,12,14],[],[4,9,14],[],[]])))) []) (br t 33 (br k 8 (br k 4 [] (br k 6 [] (br k 7 [] [[],[],[],[],[],[],[3],[3,6],[3,6,7]]))) []) [])))) (br t 40 (br t 37 [] (br t 38 [] (br t 39 (br k 17 (br k 8 [] (br k 12 [] (br k 14 [] (br k 15 [] (br k 16 [] [[],[],[],[],[],[],[],[],[1,3]]))))) []) (br k 14 (br k 7 [] (br k 10 [] (br k 12 [] (br k 13 [] [[],[],[],[],[3],[0,1,2,3,4],[],[],[3,4,5]])))) [])))) (br t 43 [] (br t 44 [] (br t 45 (br k 15 (br k 7 (br k 3 [] (br k 5 [] (br k 6 [[],[],[],[],[],[]] []))) (br k 11 (br k 9 [] (br k 10 [] [[],[],[],[],[],[],[],[]])) (br k 13 (br k 12 [[],[],[],[],[],[],[],[],[],[],[],[],[],[]] []) (br k 14 [] [[],[],[],[],[],[],[],[],[],[],[],[]])))) []) [])))))) (br t 69 (br t 57 (br t 51 [] (br t 54 (br t 52 (br k 3 (br k 1 [] (br k 2 [] [[],[],[],[],[1],[],[],[1,4],[],[],[],[1,4,7],[],[1,4,7,9,11],[],[1,4,7,11],[],[1,4,7,11,15],[],[1,4,7,11,15,17],[],[],[],[1,4,7,11,15,17,19],[],[1,4,7,11,15,17,19,21,23],[],[]])) []) (br t 53 (br k 4 (br k 2 (br k 1 [] [[],[],[],[],[],[],[],[],[]]) (br k 3 [] [[],[],[],[],[],[],[],[],[],[3,7],[],[],[],[],[]])) []) [])) (br t 55 (br k 16 (br k 8 [] (br k 12 (br k 10 [] (br k 11 [] [[],[],[],[],[],[],[],[],[],[],[],[],[]])) (br k 14 (br k 13 [] [[],[],[],[],[],[],[],[],[],[],[],[],[]]) (br k 15 [] [[],[],[],[],[],[],[]])))) []) (br t 56 (br k 5 (br k 2 (br k 1 [] [[],[],[],[],[],[],[],[],[]]) (br k 3 [] (br k 4 [] [[],[],[],[],[],[],[],[],[],[],[3,7],[]]))) []) (br k 20 (br k 10 [] (br k 15 [] (br k 17 [] (br k 18 [] (br k 19 [] [[],[],[],[],[]]))))) []))))) (br t 63 (br t 60 (br t 58 (br k 8 (br k 4 [] (br k 6 [] (br k 7 [] [[],[],[],[],[],[],[],[1,3],[],[1,3],[],[1,3],[1,3,7,9,11],[],[1,3]]))) []) []) []) [])) (br t 80 (br t 74 (br t 71 [] (br t 72 [] (br t 73 [] (br k 23 (br k 11 [] (br k 17 [] (br k 20 (br k 18 [[],[],[],[],[],[1],[],[],[],[],[],[7]] []) (br k 21 [] (br k 22 [] [[],[],[],[],[1],[],[],[],[],[6]]))))) [])))) (br t 77 (br t 75 [] (br t 76 [] (br k 26 (br k 13 [] (br k 19 [] (br k 22 [] (br k 24 [] (br k 25 [] [[],[],[],[],[],[],[],[],[],[],[],[],[],[]]))))) []))) (br t 78 [] (br t 79 [] (br k 15 (br k 7 [] (br k 11 [] (br k 13 [] (br k 14 [] [[],[],[],[],[2,3],[],[],[2,3,4,5,6]])))) []))))) (br t 86 (br t 83 [] (br t 84 [] (br t 85 [] (br k 17 (br k 8 (br k 4 [] (br k 6 (br k 5 [[],[],[],[],[],[4],[],[],[4,5,6,7]] []) [])) (br k 12 [] (br k 14 [] (br k 15 [] (br k 16 [] [[],[],[],[],[],[],[],[],[],[]]))))) [])))) (br t 89 (br t 87 [] (br t 88 [] (br k 2 (br k 1 [] [[],[],[],[0],[]]) []))) (br t 90 [] (br t 91 [] (br k 7 (br k 3 [] (br k 5 [] (br k 6 [] [[],[],[],[],[],[],[],[]]))) [])))))))) (br t 138 (br t 115 (br t 103 (br t 97 (br t 94 [] (br t 95 (br k 12 (br k 6 (br k 3 [] (br k 4 [] (br k 5 [[],[],[],[],[],[1],[],[1,3,5],[],[1,5]] [[],[],[],[],[0,2],[],[2]]))) (br k 9 [] (br k 10 [] (br k 11 [] [[],[],[],[],[],[],[],[],[],[8]])))) []) [])) (br t 100 [] (br t 101 (br k 2 (br k 1 [] [[],[],[],[],[1,3],[],[],[],[]]) []) (br t 102 [] (br k 8 (br k 4 [] (br k 6 [] (br k 7 [[],[],[1],[0,1,2],[],[],[],[0,1,2,3]] [[],[],[0]]))) []))))) (br t 109 (br t 106 (br t 104 [] (br t 105 (br k 30 (br k 15 (br k 7 [] (br k 11 (br k 9 (br k 8 [[],[],[],[],[],[2,3,4],[],[],[2,3,4,5],[2,3,4,5],[2,3,4,5],[],[2,3,4,5,8,9,10],[2,3,4,5],[2,3,4,5,8,9,10,12,13],[]] []) []) [])) (br k 22 [] (br k 26 [] (br k 28 [] (br k 29 [] [[],[],[],[],[],[2,3]]))))) []) [])) (br t 107 [] (br t 108 (br k 2 (br k 1 [] [[],[],[],[],[],[2,3],[],[],[],[6],[],[]]) []) (br k 18 (br k 9 [] (br k 13 [] (br k 15 [] (br k 16 [] (br k 17 [] [[],[],[],[],[],[],[],[],[],[],[],[],[]]))))) [])))) (br t 112 [] (br t 113 [] (br t 114 [] (br k 5 (br k 2 [] (br k 3 [] (br k 4 [] [[],[],[],[],[]]))) [])))))) (br t 126 (br t 120 [] (br t 123 [] (br t 124 (br k 31 (br k 15 [] (br k 23 [] (br k 27 [] (br k 29 [] (br k 30 [] [[],[],[],[],[],[1],[],[],[],[],[7]]))))) []) (br t 125 (br k 15 (br k 7 [] (br k 11 [] (br k 13 [] (br k 14 [] [[],[],[],[],[],[],[],[],[],[],[],[8]])))) []) [])))) (br t 132 (br t 129 (br t 127 (br k 8 (br k 4 [] (br k 6 [] (br k 7 [] [[],[],[],[],[],[],[],[]]))) []) (br t 128 (br k 7 (br k 3 [] (br k 5 [] (br k 6 [] [[],[],[],[],[],[],[],[]]))) []) [])) (br t 130 [] (br t 131 (br k 6 (br k 3 (br k 1 [] (br k 2 [[],[],[1],[],[],[1,2,4],[]] [])) (br k 4 [] (br k 5 [] [[],[],[],[],[3]]))) []) []))) (br t 135 [] (br t 136 (br k 12 (br k 6 [] (br k 9 (br k 7 [] (br k 8 [] [[],[],[],[],[],[],[3],[],[],[],[]])) (br k 10 [] (br k 11 [] [[],[],[],[],[],[],[],[],[],[],[],[],[],[10]])))) []) (br t 137 (br k 13 (br k 6 [] (br k 9 (br k 7 [] (br k 8 [] [[],[],[],[],[],[],[],[],[],[]])) (br k 11 (br k 10 [] [[],[],[],[],[],[],[],[],[],[]]) (br k 12 [] [[],[],[],[],[],[],[]])))) []) [])))))) (br t 161 (br t 149 (br t 143 (br t 140 [] (br t 141 [] (br t 142 [] (br k 10 (br k 5 [] (br k 7 [] (br k 8 [] (br k 9 [] [[],[],[],[],[],[],[],[],[4],[]])))) [])))) (br t 146 [] (br t 147 (br k 7 (br k 3 [] (br k 5 (br k 4 [] [[],[],[],[],[],[],[],[],[],[],[],[],[],[]]) (br k 6 [] [[],[],[],[],[],[],[],[],[],[],[],[],[],[],[],[9,13]]))) []) (br k 11 (br k 5 [] (br k 8 [] (br k 9 [] (br k 10 [] [[],[],[],[],[],[],[],[],[],[],[],[],[],[],[],[],[],[11,15]])))) [])))) (br t 155 (br t 152 (br t 150 [] (br t 151 (br k 4 (br k 2 [] (br k 3 [] [[],[],[],[],[],[],[],[],[],[],[],[],[],[7,11]])) []) (br k 24 (br k 12 (br k 6 (br k 3 [] (br k 4 [] (br k 5 [] [[],[],[],[],[],[],[],[],[],[],[],[],[],[]]))) (br k 9 [] (br k 10 [] (br k 11 [] [[],[],[],[],[],[],[],[],[],[],[],[],[],[],[],[9,13]])))) (br k 18 (br k 15 [] (br k 16 [] (br k 17 [[],[],[],[],[],[],[],[],[],[]] [[],[],[],[],[],[],[],[],[],[],[],[],[],[],[],[9,13]]))) (br k 21 [] (br k 22 [] (br k 23 [[],[],[],[],[],[],[],[],[],[]] [[],[],[],[],[],[],[],[],[],[],[],[],[],[],[],[9,13]]))))) []))) (br t 153 (br k 9 (br k 4 (br k 2 (br k 1 [] [[],[],[],[],[],[],[],[],[],[],[],[],[],[7,11]]) (br k 3 [] [[],[],[],[],[],[],[],[],[],[],[],[],[]])) (br k 6 (br k 5 [] [[],[],[],[],[],[],[],[],[],[],[],[],[]]) (br k 7 [] (br k 8 [] [[],[],[],[],[],[],[],[],[],[],[],[],[],[7,11]])))) []) (br t 154 (br k 22 (br k 11 (br k 5 (br k 2 (br k 1 [] [[],[],[],[],[],[],[],[],[],[],[],[],[],[7,11]]) (br k 3 [] (br k 4 [[],[],[],[],[],[],[],[],[],[],[],[],[]] []))) (br k 8 (br k 6 [[],[],[],[],[],[],[],[],[],[],[],[],[]] []) (br k 9 [[],[],[],[],[],[],[],[],[],[],[],[],[],[7,11]] (br k 10 [] [[],[],[],[],[],[],[],[],[],[],[],[],[],[7,11]])))) (br k 16 (br k 13 [] (br k 14 [[],[],[],[],[],[],[],[],[],[],[],[],[]] (br k 15 [] [[],[],[],[],[],[],[],[],[],[],[],[],[]]))) (br k 19 (br k 17 [] (br k 18 [] [[],[],[],[],[],[],[],[],[],[],[],[],[],[7,11]])) (br k 20 [] (br k 21 [] [[],[],[],[],[],[],[],[],[],[],[],[],[],[7,11]]))))) []) []))) (br t 158 [] (br t 159 [] (br t 160 (br k 5 (br k 2 [] (br k 3 [] (br k 4 [] [[],[],[],[],[],[],[],[],[],[],[],[8],[],[]]))) []) (br k 6 (br k 3 [] (br k 4 [] (br k 5 [] [[],[],[],[],[],[],[3],[],[]]))) [])))))) (br t 172 [] (br t 178 (br t 175 (br t 173 (br k 7 (br k 3 [] (br k 5 (br k 4 [[],[],[],[],[],[],[],[],[],[],[],[],[],[],[],[],[],[],[]] []) (br k 6 [[],[],[],[],[],[],[],[],[],[],[],[],[]] [[],[],[],[],[],[],[],[],[],[],[],[],[],[],[],[],[],[],[],[],[],[13,19]]))) []) (br t 174 [] (br k 4 (br k 2 (br k 1 [] [[],[],[],[],[],[],[]]) [[],[],[],[],[],[],[]]) []))) []) (br t 181 (br t 179 [] (br t 180 (br k 5 (br k 2 [] (br k 3 [] (br k 4 [] [[],[],[],[],[]]))) []) [])) (br t 182 [] (br t 183 [] (br k 2 (br k 1 [] [[],[],[],[],[],[],[],[],[]]) []))))))))) else[]
def prk (t:FuncId) (k:Nat):List Nat:=bif Nat.blt t 103 then(br t 51 (br t 25 (br t 12 (br t 6 [] (br t 9 [] (br t 10 (br k 16 (br k 8 [] (br k 12 [] (br k 14 [] (br k 15 [] [10])))) []) []))) (br t 18 (br t 15 [] (br t 16 (br k 20 (br k 10 [] (br k 15 [] (br k 17 [] (br k 18 [] (br k 19 [] [4,5,7,8,9,11,14,15]))))) []) [])) [])) []) (br t 77 [] (br t 90 [] (br t 96 [] (br t 99 [] (br t 101 [] (br t 102 [] (br k 5 (br k 2 [] (br k 3 [] (br k 4 [] [2,3,4]))) [])))))))) else[]
def ppr:FuncId→Option APr
 | 161=>some (.of (pr0 (q7f T 55 false)))
 | 162=>some (.of (pr0 (q7f T 36 true)))
 | _=>none
def pol:Pol:=⟨pq,pow,pfz,pkp,pkx,prw,pro,pdm,pan,prk,ppr⟩
abbrev Pw (f:Nat) (a:List Nat) (b c:Bool) (d:Option APr):Prop:=pol.ow f=a∧pol.fz f=b∧pol.ro f=c∧pol.pr f=d
abbrev Dr (f k a:Nat) (b:List (List Nat)):Prop:=pol.dm f k=a∧pol.an f k=b
abbrev Kp (f k:Nat) (a:List Nat) (b:List Rw) (c:List Nat):Prop:=pol.kp f k=a∧pol.rw f k=b∧pol.kx f k=c
theorem qCc:T.ip 13=none:=rfl
theorem qF2:T.ip 26=none:=rfl
theorem qFf:T.ip 27=none:=rfl
theorem qFc:T.ip 28=none:=rfl
theorem qCL:T.sf 33=none:=rfl
theorem qCN:T.sf 34=none:=rfl
theorem qDR:T.ip 36=none:=rfl
theorem qCx:T.ip 37=none:=rfl
theorem qDY:T.sf 40=none:=rfl
theorem qEz:T.sf 50=none:=rfl
theorem qEe:T.ip 51=none:=rfl
theorem qCi:T.sf 52=none:=rfl
theorem qDh:T.ip 56=none:=rfl
theorem qF4:T.ip 57=none:=rfl
theorem qEg:T.ip 58=none:=rfl
theorem qDd:T.sf 63=some 3:=rfl
theorem qEj:T.ip 65=none:=rfl
theorem qDr:T.sf 66=none:=rfl
theorem qE7:T.ip 67=none:=rfl
theorem qDJ:T.sf 68=none:=rfl
theorem qFg:T.sf 69=none:=rfl
theorem qEb:T.sf 70=none:=rfl
theorem qFm:T.sf 80=none:=rfl
theorem qDw:T.ip 82=none:=rfl
theorem qDj:T.sf 83=none:=rfl
theorem qDH:T.ip 86=none:=rfl
theorem qDs:T.ip 89=none:=rfl
theorem qDl:T.sf 91=none:=rfl
theorem qEo:T.ip 92=none:=rfl
theorem qEn:T.sf 93=none:=rfl
theorem qFs:T.ip 98=none:=rfl
theorem qEc:T.ip 99=none:=rfl
theorem qwq:T.sf 100=none:=rfl
theorem qzu:T.ip 102=none:=rfl
theorem qAu:T.ip 110=none:=rfl
theorem qxD:T.ip 112=none:=rfl
theorem qAb:T.sf 114=none:=rfl
theorem qwJ:T.ip 129=none:=rfl
theorem qzV:T.ip 130=none:=rfl
theorem qx5:T.sf 131=none:=rfl
theorem qza:T.sf 138=none:=rfl
theorem qzQ:T.ip 139=none:=rfl
theorem qys:T.ip 140=none:=rfl
theorem qzg:T.ip 141=none:=rfl
theorem qzC:T.ip 142=none:=rfl
theorem qAl:T.ip 143=none:=rfl
theorem qyX:T.sf 157=none:=rfl
theorem qB4:T.ip 165=none:=rfl
theorem qxZ:T.ip 167=none:=rfl
theorem qyS:T.sf 170=none:=rfl
theorem qwv:T.ip 171=none:=rfl
theorem qzd:T.sf 177=none:=rfl
theorem qwu:T.sf 179=none:=rfl
theorem qzz:T.sf 180=none:=rfl
theorem qxN:T.sf 182=none:=rfl
theorem qAT:pol.rk 9 15=[10]:=rfl
theorem qBg:pol.rk 10 6=[]:=rfl
theorem qt5:pol.rk 10 12=[]:=rfl
theorem quR:pol.rk 15 20=[]:=rfl
theorem qyK:pol.rk 17 6=[]:=rfl
theorem qtP:pol.rk 17 11=[]:=rfl
theorem qB6:pol.rk 18 1=[]:=rfl
theorem qAr:pol.rk 28 7=[]:=rfl
theorem qzY:pol.rk 29 1=[]:=rfl
theorem qu6:pol.rk 38 16=[]:=rfl
theorem qs7:pol.rk 39 13=[]:=rfl
theorem qxz:pol.rk 51 2=[]:=rfl
theorem qz4:pol.rk 52 1=[]:=rfl
theorem qw9:pol.rk 52 3=[]:=rfl
theorem qt2:pol.rk 56 19=[]:=rfl
theorem qzw:pol.rk 57 7=[]:=rfl
theorem qyR:pol.rk 85 4=[]:=rfl
theorem qs5:pol.rk 85 16=[]:=rfl
theorem qyk:pol.rk 88 1=[]:=rfl
theorem qyh:pol.rk 91 6=[]:=rfl
theorem qxJ:pol.rk 94 4=[]:=rfl
theorem qyp:pol.rk 94 5=[]:=rfl
theorem qs9:pol.rk 94 11=[]:=rfl
theorem qtS:pol.rk 100 1=[]:=rfl
theorem qso:pol.rk 102 6=[]:=rfl
theorem qs1:pol.rk 102 7=[]:=rfl
theorem qsr:pol.rk 104 7=[]:=rfl
theorem qpH:pol.rk 104 29=[]:=rfl
theorem qrL:pol.rk 107 1=[]:=rfl
theorem qtc:pol.rk 114 4=[]:=rfl
theorem qrB:pol.rk 130 1=[]:=rfl
theorem qrN:pol.rk 130 5=[]:=rfl
theorem qv2:pol.rk 136 8=[]:=rfl
theorem qq5:pol.rk 136 10=[]:=rfl
theorem qqk:pol.rk 136 12=[]:=rfl
theorem qua:pol.rk 142 9=[]:=rfl
theorem qse:pol.rk 179 4=[]:=rfl
theorem qvQ:pol.rk 15 19=[4,5,7,8,9,11,14,15]:=rfl
theorem qtC:pol.rk 102 4=[2,3,4]:=rfl
theorem qzi:Dr 9 15 9 [[],[],[],[0,1],[],[],[],[],[0,1,3,7]]:=⟨rfl,rfl⟩
theorem qAy:Dr 10 6 5 [[],[],[],[],[0,2,3]]:=⟨rfl,rfl⟩
theorem qsd:Dr 10 12 26 [[],[],[],[],[],[],[],[],[],[5,8],[],[],[5,8,9],[],[],[5,8,9],[5,8,9,12,15],[],[],[],[5,8,9,12,15,16],[5,8,9,12,15,16],[],[5,8,9,12,15,16],[5,8,9,12,15,16],[]]:=⟨rfl,rfl⟩
theorem qvn:Dr 15 20 5 [[],[],[],[1],[]]:=⟨rfl,rfl⟩
theorem qxu:Dr 17 6 10 [[],[],[],[],[1],[],[],[],[],[6]]:=⟨rfl,rfl⟩
theorem quO:Dr 17 11 10 [[],[],[],[],[1],[],[],[],[],[6]]:=⟨rfl,rfl⟩
theorem qyN:Dr 18 1 12 [[],[],[],[],[],[1],[],[1],[1,5,7],[],[],[1]]:=⟨rfl,rfl⟩
theorem qwF:Dr 28 7 16 [[],[],[],[],[3],[],[],[],[],[],[],[],[],[],[],[3,4,7,10,13]]:=⟨rfl,rfl⟩
theorem qwE:Dr 29 1 9 [[],[],[],[0,1],[],[],[],[],[0,1,3,7]]:=⟨rfl,rfl⟩
theorem qrO:Dr 38 16 9 [[],[],[],[],[],[],[],[],[1,3]]:=⟨rfl,rfl⟩
theorem qu3:Dr 39 13 9 [[],[],[],[],[3],[0,1,2,3,4],[],[],[3,4,5]]:=⟨rfl,rfl⟩
theorem qyI:Dr 51 2 28 [[],[],[],[],[1],[],[],[1,4],[],[],[],[1,4,7],[],[1,4,7,9,11],[],[1,4,7,11],[],[1,4,7,11,15],[],[1,4,7,11,15,17],[],[],[],[1,4,7,11,15,17,19],[],[1,4,7,11,15,17,19,21,23],[],[]]:=⟨rfl,rfl⟩
theorem qBb:Dr 52 1 9 [[],[],[],[],[],[],[],[],[]]:=⟨rfl,rfl⟩
theorem qx2:Dr 52 3 15 [[],[],[],[],[],[],[],[],[],[3,7],[],[],[],[],[]]:=⟨rfl,rfl⟩
theorem qtr:Dr 56 19 5 [[],[],[],[],[]]:=⟨rfl,rfl⟩
theorem qy6:Dr 57 7 15 [[],[],[],[],[],[],[],[1,3],[],[1,3],[],[1,3],[1,3,7,9,11],[],[1,3]]:=⟨rfl,rfl⟩
theorem qA4:Dr 85 4 9 [[],[],[],[],[],[4],[],[],[4,5,6,7]]:=⟨rfl,rfl⟩
theorem qth:Dr 85 16 10 [[],[],[],[],[],[],[],[],[],[]]:=⟨rfl,rfl⟩
theorem qzx:Dr 88 1 5 [[],[],[],[0],[]]:=⟨rfl,rfl⟩
theorem qxt:Dr 91 6 8 [[],[],[],[],[],[],[],[]]:=⟨rfl,rfl⟩
theorem qxb:Dr 94 4 10 [[],[],[],[],[],[1],[],[1,3,5],[],[1,5]]:=⟨rfl,rfl⟩
theorem qAY:Dr 94 5 7 [[],[],[],[],[0,2],[],[2]]:=⟨rfl,rfl⟩
theorem qtv:Dr 94 11 10 [[],[],[],[],[],[],[],[],[],[8]]:=⟨rfl,rfl⟩
theorem qtg:Dr 100 1 9 [[],[],[],[],[1,3],[],[],[],[]]:=⟨rfl,rfl⟩
theorem quJ:Dr 102 6 8 [[],[],[1],[0,1,2],[],[],[],[0,1,2,3]]:=⟨rfl,rfl⟩
theorem qte:Dr 102 7 3 [[],[],[0]]:=⟨rfl,rfl⟩
theorem qtl:Dr 104 7 16 [[],[],[],[],[],[2,3,4],[],[],[2,3,4,5],[2,3,4,5],[2,3,4,5],[],[2,3,4,5,8,9,10],[2,3,4,5],[2,3,4,5,8,9,10,12,13],[]]:=⟨rfl,rfl⟩
theorem qqT:Dr 104 29 6 [[],[],[],[],[],[2,3]]:=⟨rfl,rfl⟩
theorem qrH:Dr 107 1 12 [[],[],[],[],[],[2,3],[],[],[],[6],[],[]]:=⟨rfl,rfl⟩
theorem qsi:Dr 114 4 5 [[],[],[],[],[]]:=⟨rfl,rfl⟩
theorem qud:Dr 130 1 7 [[],[],[1],[],[],[1,2,4],[]]:=⟨rfl,rfl⟩
theorem qv3:Dr 130 5 5 [[],[],[],[],[3]]:=⟨rfl,rfl⟩
theorem quZ:Dr 136 8 10 [[],[],[],[],[],[],[],[],[],[]]:=⟨rfl,rfl⟩
theorem qqn:Dr 136 10 10 [[],[],[],[],[],[],[],[],[],[]]:=⟨rfl,rfl⟩
theorem qoZ:Dr 136 12 7 [[],[],[],[],[],[],[]]:=⟨rfl,rfl⟩
theorem quV:Dr 142 9 10 [[],[],[],[],[],[],[],[],[4],[]]:=⟨rfl,rfl⟩
theorem qsG:Dr 179 4 5 [[],[],[],[],[]]:=⟨rfl,rfl⟩
theorem q22:pol.q 22=[1]:=rfl
theorem q26:pol.q 26=[8]:=rfl
theorem q33:pol.q 33=[2]:=rfl
theorem q34:pol.q 34=[5]:=rfl
theorem q36:pol.q 36=[0,0,0,2,5]:=rfl
theorem q37:pol.q 37=[4]:=rfl
theorem q39:pol.q 39=[0,0,0,0,0,0,0,0,2,5,0,0,0,4]:=rfl
theorem q48:pol.q 48=[1,1]:=rfl
theorem q57:pol.q 57=[0,0,0,0,0,1,0,1]:=rfl
theorem q85:pol.q 85=[1]:=rfl
theorem q88:pol.q 88=[1]:=rfl
theorem qKa:pol.q 115=[1]:=rfl
theorem qKf:pol.q 164=[1]:=rfl
theorem q3:pol.q 3=[]:=rfl
theorem q4:pol.q 4=[]:=rfl
theorem q5:pol.q 5=[]:=rfl
theorem q9:pol.q 9=[]:=rfl
theorem q10:pol.q 10=[]:=rfl
theorem q21:pol.q 21=[]:=rfl
theorem q28:pol.q 28=[]:=rfl
theorem q49:pol.q 49=[]:=rfl
theorem q55:pol.q 55=[]:=rfl
theorem q70:pol.q 70=[]:=rfl
theorem q92:pol.q 92=[]:=rfl
theorem qK3:pol.q 104=[]:=rfl
theorem qHF:pol.q 114=[]:=rfl
theorem qHo:pol.q 117=[]:=rfl
theorem qHZ:pol.q 120=[]:=rfl
theorem qK9:pol.q 122=[]:=rfl
theorem qJb:pol.q 138=[]:=rfl
theorem qJ5:pol.q 140=[]:=rfl
theorem qIL:pol.q 153=[]:=rfl
theorem qHR:pol.q 158=[]:=rfl
theorem qKk:pol.q 166=[]:=rfl
theorem qJv:pol.q 171=[]:=rfl
theorem qI9:pol.q 184=[]:=rfl
theorem qHx:pol.q 199=[]:=rfl
theorem qJt:pol.q 201=[]:=rfl
def qpW:Code:=(Tryz.f9.body).getD .skip
theorem bd9:qL Tryz.prog pol 9=some ⟨qpW,75,[.tmp 6],[4]⟩:=by kernel_rfl
theorem pw9:Pw 9 [] false false none:=⟨rfl,rfl,rfl,rfl⟩
def qlN:Code:=(Tryz.f10.body).getD .skip
theorem qDz:qL Tryz.prog pol 10=some ⟨qlN,145,[.tmp 0],[4]⟩:=by kernel_rfl
theorem qGl:Pw 10 [] false false none:=⟨rfl,rfl,rfl,rfl⟩
def qnB:Code:=(Tryz.f13.body).getD .skip
theorem qCm:qL Tryz.prog pol 13=some ⟨qnB,11,[.cell 2 28],[28]⟩:=by kernel_rfl
theorem qGR:Pw 13 [] false false none:=⟨rfl,rfl,rfl,rfl⟩
def qcP:Code:=(Tryz.f15.body).getD .skip
theorem qw3:qL Tryz.prog pol 15=some ⟨qcP,93,[.cell 8 48,.cell 9 49],[48,49]⟩:=by kernel_rfl
theorem qG3:Pw 15 [] true false none:=⟨rfl,rfl,rfl,rfl⟩
def qeK:Code:=(Tryz.f17.body).getD .skip
theorem qxS:qL Tryz.prog pol 17=some ⟨qeK,59,[.tmp 4],[4]⟩:=by kernel_rfl
theorem qGN:Pw 17 [] false false none:=⟨rfl,rfl,rfl,rfl⟩
def qnK:Code:=(Tryz.f18.body).getD .skip
theorem qEd:qL Tryz.prog pol 18=some ⟨qnK,21,[.tmp 6],[4]⟩:=by kernel_rfl
theorem qGs:Pw 18 [] false false none:=⟨rfl,rfl,rfl,rfl⟩
def qj3:Code:=(Tryz.f21.body).getD .skip
theorem qBU:qL Tryz.prog pol 21=some ⟨qj3,87,[.tmp 10],[49]⟩:=by kernel_rfl
theorem qGO:Pw 21 [] false false none:=⟨rfl,rfl,rfl,rfl⟩
def qkI:Code:=(Tryz.f23.body).getD .skip
theorem qDU:qL Tryz.prog pol 23=some ⟨qkI,17,[.tmp 4],[4]⟩:=by kernel_rfl
theorem qGL:Pw 23 [] false false none:=⟨rfl,rfl,rfl,rfl⟩
def qkN:Code:=(Tryz.f26.body).getD .skip
theorem qDv:qL Tryz.prog pol 26=some ⟨qkN,15,[.cell 2 39],[39]⟩:=by kernel_rfl
theorem qGg:Pw 26 [] true false none:=⟨rfl,rfl,rfl,rfl⟩
def qmX:Code:=(Tryz.f27.body).getD .skip
theorem qCu:qL Tryz.prog pol 27=some ⟨qmX,5,[.cell 2 55],[55]⟩:=by kernel_rfl
theorem qFG:Pw 27 [] false false none:=⟨rfl,rfl,rfl,rfl⟩
def qhL:Code:=(Tryz.f28.body).getD .skip
theorem qBN:qL Tryz.prog pol 28=some ⟨qhL,42,[.cell 2 39,.tmp 3],[39,26]⟩:=by kernel_rfl
theorem qG2:Pw 28 [] true false none:=⟨rfl,rfl,rfl,rfl⟩
def qn2:Code:=(Tryz.f29.body).getD .skip
theorem qFi:qL Tryz.prog pol 29=some ⟨qn2,42,[.tmp 8],[4]⟩:=by kernel_rfl
theorem qGo:Pw 29 [] false false none:=⟨rfl,rfl,rfl,rfl⟩
def qnm:Code:=(Tryz.f33.body).getD .skip
theorem qEO:qL Tryz.prog pol 33=some ⟨qnm,13,[.tmp 4],[49]⟩:=by kernel_rfl
theorem qGm:Pw 33 [] false false none:=⟨rfl,rfl,rfl,rfl⟩
def qiu:Code:=(Tryz.f34.body).getD .skip
theorem qBQ:qL Tryz.prog pol 34=some ⟨qiu,22,[.tmp 4],[26]⟩:=by kernel_rfl
theorem qGw:Pw 34 [] true false none:=⟨rfl,rfl,rfl,rfl⟩
def qlC:Code:=(Tryz.f35.body).getD .skip
theorem qE8:qL Tryz.prog pol 35=some ⟨qlC,25,[.tmp 6,.tmp 7],[88,49]⟩:=by kernel_rfl
theorem qGQ:Pw 35 [] true false none:=⟨rfl,rfl,rfl,rfl⟩
def qk4:Code:=(Tryz.f36.body).getD .skip
theorem qEJ:qL Tryz.prog pol 36=some ⟨qk4,4,[.tmp 2],[92]⟩:=by kernel_rfl
theorem qFO:Pw 36 [] true false none:=⟨rfl,rfl,rfl,rfl⟩
def qio:Code:=(Tryz.f37.body).getD .skip
theorem qBl:qL Tryz.prog pol 37=some ⟨qio,20,[.tmp 2],[22]⟩:=by kernel_rfl
theorem qGZ:Pw 37 [] true false none:=⟨rfl,rfl,rfl,rfl⟩
def qfb:Code:=(Tryz.f38.body).getD .skip
theorem qAZ:qL Tryz.prog pol 38=some ⟨qfb,83,[.tmp 6],[4]⟩:=by kernel_rfl
theorem qFR:Pw 38 [] false false none:=⟨rfl,rfl,rfl,rfl⟩
def qfg:Code:=(Tryz.f39.body).getD .skip
theorem qyd:qL Tryz.prog pol 39=some ⟨qfg,80,[.tmp 10,.tmp 11],[22,4]⟩:=by kernel_rfl
theorem qGf:Pw 39 [] true false none:=⟨rfl,rfl,rfl,rfl⟩
def qit:Code:=(Tryz.f40.body).getD .skip
theorem qBv:qL Tryz.prog pol 40=some ⟨qit,22,[.tmp 4],[22]⟩:=by kernel_rfl
theorem qGv:Pw 40 [] true false none:=⟨rfl,rfl,rfl,rfl⟩
def qmi:Code:=(Tryz.f46.body).getD .skip
theorem qE6:qL Tryz.prog pol 46=some ⟨qmi,11,[.tmp 2],[3]⟩:=by kernel_rfl
theorem qGB:Pw 46 [] false false none:=⟨rfl,rfl,rfl,rfl⟩
def qn1:Code:=(Tryz.f48.body).getD .skip
theorem qEI:qL Tryz.prog pol 48=some ⟨qn1,40,[.tmp 8],[4]⟩:=by kernel_rfl
theorem qGD:Pw 48 [] false false none:=⟨rfl,rfl,rfl,rfl⟩
def qki:Code:=(Tryz.f50.body).getD .skip
theorem qF3:qL Tryz.prog pol 50=some ⟨qki,8,[.tmp 4],[4]⟩:=by kernel_rfl
theorem qFY:Pw 50 [] false false none:=⟨rfl,rfl,rfl,rfl⟩
def qmr:Code:=(Tryz.f51.body).getD .skip
theorem qDO:qL Tryz.prog pol 51=some ⟨qmr,56,[.cell 2 39],[39]⟩:=by kernel_rfl
theorem qGd:Pw 51 [] true false none:=⟨rfl,rfl,rfl,rfl⟩
def qk9:Code:=(Tryz.f52.body).getD .skip
theorem qCV:qL Tryz.prog pol 52=some ⟨qk9,40,[.tmp 4],[3]⟩:=by kernel_rfl
theorem qGU:Pw 52 [] false false none:=⟨rfl,rfl,rfl,rfl⟩
def qll:Code:=(Tryz.f53.body).getD .skip
theorem qEM:qL Tryz.prog pol 53=some ⟨qll,2,[.tmp 0],[85]⟩:=by kernel_rfl
theorem qFP:Pw 53 [] true false none:=⟨rfl,rfl,rfl,rfl⟩
def qhP:Code:=(Tryz.f56.body).getD .skip
theorem qBI:qL Tryz.prog pol 56=some ⟨qhP,95,[.tmp 2],[49]⟩:=by kernel_rfl
theorem qGP:Pw 56 [] false false none:=⟨rfl,rfl,rfl,rfl⟩
def qhD:Code:=(Tryz.f57.body).getD .skip
theorem qBs:qL Tryz.prog pol 57=some ⟨qhD,37,[.tmp 2],[49]⟩:=by kernel_rfl
theorem qFz:Pw 57 [] false false none:=⟨rfl,rfl,rfl,rfl⟩
def qiD:Code:=(Tryz.f58.body).getD .skip
theorem qBH:qL Tryz.prog pol 58=some ⟨qiD,60,[.tmp 2],[49]⟩:=by kernel_rfl
theorem qH2:Pw 58 [] false false none:=⟨rfl,rfl,rfl,rfl⟩
def qn6:Code:=(Tryz.f59.body).getD .skip
theorem qDy:qL Tryz.prog pol 59=some ⟨qn6,5,[.tmp 4],[4]⟩:=by kernel_rfl
theorem qGu:Pw 59 [] false false none:=⟨rfl,rfl,rfl,rfl⟩
def qkq:Code:=(Tryz.f60.body).getD .skip
theorem qF0:qL Tryz.prog pol 60=some ⟨qkq,5,[.tmp 4],[4]⟩:=by kernel_rfl
theorem qFM:Pw 60 [] false false none:=⟨rfl,rfl,rfl,rfl⟩
def qlt:Code:=(Tryz.f61.body).getD .skip
theorem qBY:qL Tryz.prog pol 61=some ⟨qlt,17,[.tmp 10],[115]⟩:=by kernel_rfl
theorem qFn:Pw 61 [] true false none:=⟨rfl,rfl,rfl,rfl⟩
def qeL:Code:=(Tryz.f62.body).getD .skip
theorem qz8:qL Tryz.prog pol 62=some ⟨qeL,30,[],[]⟩:=by kernel_rfl
theorem qGy:Pw 62 [] false false none:=⟨rfl,rfl,rfl,rfl⟩
theorem qJS:Pw 63 [] false false none:=⟨rfl,rfl,rfl,rfl⟩
def qmD:Code:=(Tryz.f64.body).getD .skip
theorem qCG:qL Tryz.prog pol 64=some ⟨qmD,19,[.tmp 4],[3]⟩:=by kernel_rfl
theorem qGi:Pw 64 [] false false none:=⟨rfl,rfl,rfl,rfl⟩
def qi7:Code:=(Tryz.f65.body).getD .skip
theorem qBw:qL Tryz.prog pol 65=some ⟨qi7,18,[.tmp 2],[3]⟩:=by kernel_rfl
theorem qFL:Pw 65 [] false false none:=⟨rfl,rfl,rfl,rfl⟩
def qnQ:Code:=(Tryz.f66.body).getD .skip
theorem qEA:qL Tryz.prog pol 66=some ⟨qnQ,20,[.tmp 4],[3]⟩:=by kernel_rfl
theorem qFU:Pw 66 [] false false none:=⟨rfl,rfl,rfl,rfl⟩
def qla:Code:=(Tryz.f67.body).getD .skip
theorem qCC:qL Tryz.prog pol 67=some ⟨qla,8,[.tmp 2],[3]⟩:=by kernel_rfl
theorem qHb:Pw 67 [] false false none:=⟨rfl,rfl,rfl,rfl⟩
def qie:Code:=(Tryz.f68.body).getD .skip
theorem qBt:qL Tryz.prog pol 68=some ⟨qie,36,[.tmp 4],[3]⟩:=by kernel_rfl
theorem qFD:Pw 68 [] false false none:=⟨rfl,rfl,rfl,rfl⟩
def qkw:Code:=(Tryz.f69.body).getD .skip
theorem qDT:qL Tryz.prog pol 69=some ⟨qkw,37,[.tmp 4],[4]⟩:=by kernel_rfl
theorem qFA:Pw 69 [] false false none:=⟨rfl,rfl,rfl,rfl⟩
def qkJ:Code:=(Tryz.f70.body).getD .skip
theorem qEZ:qL Tryz.prog pol 70=some ⟨qkJ,9,[.tmp 4],[4]⟩:=by kernel_rfl
theorem qFZ:Pw 70 [] false false none:=⟨rfl,rfl,rfl,rfl⟩
def qir:Code:=(Tryz.f71.body).getD .skip
theorem qBZ:qL Tryz.prog pol 71=some ⟨qir,18,[.tmp 2],[3]⟩:=by kernel_rfl
theorem qH9:Pw 71 [] false false none:=⟨rfl,rfl,rfl,rfl⟩
def qeX:Code:=(Tryz.f72.body).getD .skip
theorem qxM:qL Tryz.prog pol 72=some ⟨qeX,89,[.tmp 8,.tmp 9],[22,4]⟩:=by kernel_rfl
theorem qGr:Pw 72 [] true false none:=⟨rfl,rfl,rfl,rfl⟩
def qm5:Code:=(Tryz.f80.body).getD .skip
theorem qFp:qL Tryz.prog pol 80=some ⟨qm5,16,[.tmp 4],[3]⟩:=by kernel_rfl
theorem qGY:Pw 80 [] false false none:=⟨rfl,rfl,rfl,rfl⟩
def qi9:Code:=(Tryz.f82.body).getD .skip
theorem qBV:qL Tryz.prog pol 82=some ⟨qi9,29,[.tmp 2],[34]⟩:=by kernel_rfl
theorem qGa:Pw 82 [] true false none:=⟨rfl,rfl,rfl,rfl⟩
def qmh:Code:=(Tryz.f83.body).getD .skip
theorem qBe:qL Tryz.prog pol 83=some ⟨qmh,9,[.tmp 4],[4]⟩:=by kernel_rfl
theorem qBq:Pw 83 [] false false none:=⟨rfl,rfl,rfl,rfl⟩
def qmv:Code:=(Tryz.f84.body).getD .skip
theorem qEa:qL Tryz.prog pol 84=some ⟨qmv,11,[.tmp 3],[4]⟩:=by kernel_rfl
theorem qH1:Pw 84 [] false false none:=⟨rfl,rfl,rfl,rfl⟩
def qiH:Code:=(Tryz.f85.body).getD .skip
theorem qBA:qL Tryz.prog pol 85=some ⟨qiH,78,[.tmp 7,.tmp 8],[4,4]⟩:=by kernel_rfl
theorem qDL:Pw 85 [] false false none:=⟨rfl,rfl,rfl,rfl⟩
def qn0:Code:=(Tryz.f86.body).getD .skip
theorem qE3:qL Tryz.prog pol 86=some ⟨qn0,11,[.tmp 2],[4]⟩:=by kernel_rfl
theorem qHd:Pw 86 [] false false none:=⟨rfl,rfl,rfl,rfl⟩
def qiy:Code:=(Tryz.f87.body).getD .skip
theorem qAI:qL Tryz.prog pol 87=some ⟨qiy,44,[.cell 8 138],[138]⟩:=by kernel_rfl
theorem qDp:Pw 87 [] false false none:=⟨rfl,rfl,rfl,rfl⟩
def qkD:Code:=(Tryz.f88.body).getD .skip
theorem qD2:qL Tryz.prog pol 88=some ⟨qkD,11,[.tmp 4],[4]⟩:=by kernel_rfl
theorem qFT:Pw 88 [] false false none:=⟨rfl,rfl,rfl,rfl⟩
def qml:Code:=(Tryz.f89.body).getD .skip
theorem qFj:qL Tryz.prog pol 89=some ⟨qml,5,[.tmp 2],[140]⟩:=by kernel_rfl
theorem qGx:Pw 89 [] true false none:=⟨rfl,rfl,rfl,rfl⟩
def qi0:Code:=(Tryz.f91.body).getD .skip
theorem qBG:qL Tryz.prog pol 91=some ⟨qi0,26,[.tmp 4],[4]⟩:=by kernel_rfl
theorem qG8:Pw 91 [] false false none:=⟨rfl,rfl,rfl,rfl⟩
def qkc:Code:=(Tryz.f92.body).getD .skip
theorem qDn:qL Tryz.prog pol 92=some ⟨qkc,20,[.cell 2 55],[55]⟩:=by kernel_rfl
theorem qGq:Pw 92 [] false false none:=⟨rfl,rfl,rfl,rfl⟩
def qmw:Code:=(Tryz.f93.body).getD .skip
theorem qDE:qL Tryz.prog pol 93=some ⟨qmw,24,[.tmp 4],[4]⟩:=by kernel_rfl
theorem qGE:Pw 93 [] false false none:=⟨rfl,rfl,rfl,rfl⟩
def qhK:Code:=(Tryz.f94.body).getD .skip
theorem qBL:qL Tryz.prog pol 94=some ⟨qhK,77,[.cell 6 36],[36]⟩:=by kernel_rfl
theorem qCU:Pw 94 [] true false none:=⟨rfl,rfl,rfl,rfl⟩
def qnL:Code:=(Tryz.f97.body).getD .skip
theorem qDB:qL Tryz.prog pol 97=some ⟨qnL,15,[.tmp 6],[4]⟩:=by kernel_rfl
theorem qGS:Pw 97 [] false false none:=⟨rfl,rfl,rfl,rfl⟩
def qiW:Code:=(Tryz.f98.body).getD .skip
theorem qBz:qL Tryz.prog pol 98=some ⟨qiW,26,[.tmp 2],[4]⟩:=by kernel_rfl
theorem qGA:Pw 98 [] false false none:=⟨rfl,rfl,rfl,rfl⟩
def qlM:Code:=(Tryz.f99.body).getD .skip
theorem qEv:qL Tryz.prog pol 99=some ⟨qlM,11,[.tmp 2],[4]⟩:=by kernel_rfl
theorem qFF:Pw 99 [] false false none:=⟨rfl,rfl,rfl,rfl⟩
def qgy:Code:=(Tryz.f100.body).getD .skip
theorem qvv:qL Tryz.prog pol 100=some ⟨qgy,17,[.tmp 4],[3]⟩:=by kernel_rfl
theorem qxI:Pw 100 [] false false none:=⟨rfl,rfl,rfl,rfl⟩
def qh8:Code:=(Tryz.f101.body).getD .skip
theorem qt4:qL Tryz.prog pol 101=some ⟨qh8,16,[.tmp 6],[3]⟩:=by kernel_rfl
theorem qzF:Pw 101 [] false false none:=⟨rfl,rfl,rfl,rfl⟩
def qb4:Code:=(Tryz.f102.body).getD .skip
theorem qnW:qL Tryz.prog pol 102=some ⟨qb4,27,[.cell 2 34,.cell 3 3,.cell 4 4],[34,3,4]⟩:=by kernel_rfl
theorem qyW:Pw 102 [] true false none:=⟨rfl,rfl,rfl,rfl⟩
def qhu:Code:=(Tryz.f103.body).getD .skip
theorem qto:qL Tryz.prog pol 103=some ⟨qhu,10,[.tmp 0],[158]⟩:=by kernel_rfl
theorem qwx:Pw 103 [] true false none:=⟨rfl,rfl,rfl,rfl⟩
def q5R:Code:=(Tryz.f104.body).getD .skip
theorem qdh:qL Tryz.prog pol 104=some ⟨q5R,142,[.tmp 8],[115]⟩:=by kernel_rfl
theorem qnI:Pw 104 [] true false none:=⟨rfl,rfl,rfl,rfl⟩
def qgr:Code:=(Tryz.f105.body).getD .skip
theorem qvh:qL Tryz.prog pol 105=some ⟨qgr,9,[.tmp 3],[4]⟩:=by kernel_rfl
theorem qwz:Pw 105 [] false false none:=⟨rfl,rfl,rfl,rfl⟩
def qdR:Code:=(Tryz.f106.body).getD .skip
theorem qpM:qL Tryz.prog pol 106=some ⟨qdR,20,[],[]⟩:=by kernel_rfl
theorem qxa:Pw 106 [] false false none:=⟨rfl,rfl,rfl,rfl⟩
def qgA:Code:=(Tryz.f107.body).getD .skip
theorem qtf:qL Tryz.prog pol 107=some ⟨qgA,32,[],[]⟩:=by kernel_rfl
theorem qwc:Pw 107 [] false false none:=⟨rfl,rfl,rfl,rfl⟩
def qgV:Code:=(Tryz.f110.body).getD .skip
theorem qv7:qL Tryz.prog pol 110=some ⟨qgV,6,[.tmp 2],[4]⟩:=by kernel_rfl
theorem qx8:Pw 110 [] false false none:=⟨rfl,rfl,rfl,rfl⟩
def qgI:Code:=(Tryz.f112.body).getD .skip
theorem qtq:qL Tryz.prog pol 112=some ⟨qgI,35,[.tmp 2],[3]⟩:=by kernel_rfl
theorem qB5:Pw 112 [] false false none:=⟨rfl,rfl,rfl,rfl⟩
def qfP:Code:=(Tryz.f113.body).getD .skip
theorem qt3:qL Tryz.prog pol 113=some ⟨qfP,8,[.tmp 4],[4]⟩:=by kernel_rfl
theorem qxA:Pw 113 [] false false none:=⟨rfl,rfl,rfl,rfl⟩
def qe3:Code:=(Tryz.f114.body).getD .skip
theorem qoO:qL Tryz.prog pol 114=some ⟨qe3,19,[.tmp 4],[3]⟩:=by kernel_rfl
theorem qAL:Pw 114 [] false false none:=⟨rfl,rfl,rfl,rfl⟩
def qdz:Code:=(Tryz.f115.body).getD .skip
theorem qqN:qL Tryz.prog pol 115=some ⟨qdz,25,[.tmp 5],[4]⟩:=by kernel_rfl
theorem qAj:Pw 115 [] false false none:=⟨rfl,rfl,rfl,rfl⟩
def qgL:Code:=(Tryz.f116.body).getD .skip
theorem qsy:qL Tryz.prog pol 116=some ⟨qgL,9,[.tmp 5],[4]⟩:=by kernel_rfl
theorem qy8:Pw 116 [] false false none:=⟨rfl,rfl,rfl,rfl⟩
def qfE:Code:=(Tryz.f117.body).getD .skip
theorem qvi:qL Tryz.prog pol 117=some ⟨qfE,13,[.tmp 4],[4]⟩:=by kernel_rfl
theorem qzm:Pw 117 [] false false none:=⟨rfl,rfl,rfl,rfl⟩
def qgv:Code:=(Tryz.f129.body).getD .skip
theorem qt0:qL Tryz.prog pol 129=some ⟨qgv,11,[.tmp 2],[4]⟩:=by kernel_rfl
theorem qy1:Pw 129 [] false false none:=⟨rfl,rfl,rfl,rfl⟩
def qea:Code:=(Tryz.f130.body).getD .skip
theorem qoT:qL Tryz.prog pol 130=some ⟨qea,29,[.cell 2 36],[36]⟩:=by kernel_rfl
theorem qvH:Pw 130 [] true false none:=⟨rfl,rfl,rfl,rfl⟩
def qdM:Code:=(Tryz.f131.body).getD .skip
theorem qjC:qL Tryz.prog pol 131=some ⟨qdM,19,[.tmp 4],[3]⟩:=by kernel_rfl
theorem qq9:Pw 131 [] false false none:=⟨rfl,rfl,rfl,rfl⟩
def qge:Code:=(Tryz.f132.body).getD .skip
theorem qvp:qL Tryz.prog pol 132=some ⟨qge,24,[.tmp 6],[4]⟩:=by kernel_rfl
theorem qAJ:Pw 132 [] false false none:=⟨rfl,rfl,rfl,rfl⟩
def qfG:Code:=(Tryz.f133.body).getD .skip
theorem quM:qL Tryz.prog pol 133=some ⟨qfG,12,[.tmp 4],[4]⟩:=by kernel_rfl
theorem qwK:Pw 133 [] false false none:=⟨rfl,rfl,rfl,rfl⟩
def qg7:Code:=(Tryz.f134.body).getD .skip
theorem qvG:qL Tryz.prog pol 134=some ⟨qg7,19,[.tmp 4],[4]⟩:=by kernel_rfl
theorem qwM:Pw 134 [] false false none:=⟨rfl,rfl,rfl,rfl⟩
def qb5:Code:=(Tryz.f136.body).getD .skip
theorem qlZ:qL Tryz.prog pol 136=some ⟨qb5,61,[.tmp 2],[33]⟩:=by kernel_rfl
theorem qxr:Pw 136 [] true false none:=⟨rfl,rfl,rfl,rfl⟩
def qhn:Code:=(Tryz.f137.body).getD .skip
theorem qsM:qL Tryz.prog pol 137=some ⟨qhn,17,[.tmp 2],[4]⟩:=by kernel_rfl
theorem qyn:Pw 137 [] false false none:=⟨rfl,rfl,rfl,rfl⟩
def qg3:Code:=(Tryz.f138.body).getD .skip
theorem quY:qL Tryz.prog pol 138=some ⟨qg3,20,[.tmp 4],[3]⟩:=by kernel_rfl
theorem qAD:Pw 138 [] false false none:=⟨rfl,rfl,rfl,rfl⟩
def qfT:Code:=(Tryz.f139.body).getD .skip
theorem qss:qL Tryz.prog pol 139=some ⟨qfT,4,[.tmp 2],[184]⟩:=by kernel_rfl
theorem qz7:Pw 139 [] true false none:=⟨rfl,rfl,rfl,rfl⟩
def qgm:Code:=(Tryz.f140.body).getD .skip
theorem qvA:qL Tryz.prog pol 140=some ⟨qgm,18,[.tmp 2],[4]⟩:=by kernel_rfl
theorem qxQ:Pw 140 [] false false none:=⟨rfl,rfl,rfl,rfl⟩
def qgt:Code:=(Tryz.f141.body).getD .skip
theorem qsH:qL Tryz.prog pol 141=some ⟨qgt,14,[.tmp 2],[49]⟩:=by kernel_rfl
theorem qwp:Pw 141 [] false false none:=⟨rfl,rfl,rfl,rfl⟩
def qdk:Code:=(Tryz.f142.body).getD .skip
theorem qoF:qL Tryz.prog pol 142=some ⟨qdk,43,[.tmp 2],[49]⟩:=by kernel_rfl
theorem qzD:Pw 142 [] false false none:=⟨rfl,rfl,rfl,rfl⟩
def qgl:Code:=(Tryz.f143.body).getD .skip
theorem quN:qL Tryz.prog pol 143=some ⟨qgl,13,[.tmp 2],[49]⟩:=by kernel_rfl
theorem qwN:Pw 143 [] false false none:=⟨rfl,rfl,rfl,rfl⟩
def qgo:Code:=(Tryz.f144.body).getD .skip
theorem qtL:qL Tryz.prog pol 144=some ⟨qgo,13,[.tmp 3],[49]⟩:=by kernel_rfl
theorem qz5:Pw 144 [] false false none:=⟨rfl,rfl,rfl,rfl⟩
def qgK:Code:=(Tryz.f145.body).getD .skip
theorem qrK:qL Tryz.prog pol 145=some ⟨qgK,15,[.tmp 3],[49]⟩:=by kernel_rfl
theorem qz2:Pw 145 [] false false none:=⟨rfl,rfl,rfl,rfl⟩
def qgX:Code:=(Tryz.f156.body).getD .skip
theorem quG:qL Tryz.prog pol 156=some ⟨qgX,7,[.tmp 3],[4]⟩:=by kernel_rfl
theorem qwb:Pw 156 [] false false none:=⟨rfl,rfl,rfl,rfl⟩
def qg1:Code:=(Tryz.f157.body).getD .skip
theorem qrW:qL Tryz.prog pol 157=some ⟨qg1,9,[.tmp 4],[4]⟩:=by kernel_rfl
theorem qzN:Pw 157 [] false false none:=⟨rfl,rfl,rfl,rfl⟩
theorem qwW:Pw 161 [] false false (some (.of (pr0 (q7f T 55 false)))):=⟨rfl,rfl,rfl,rfl⟩
theorem qBh:Pw 162 [] false true (some (.of (pr0 (q7f T 36 true)))):=⟨rfl,rfl,rfl,rfl⟩
def qgC:Code:=(Tryz.f163.body).getD .skip
theorem qrI:qL Tryz.prog pol 163=some ⟨qgC,9,[.tmp 4],[4]⟩:=by kernel_rfl
theorem qwl:Pw 163 [] false false none:=⟨rfl,rfl,rfl,rfl⟩
def qg9:Code:=(Tryz.f164.body).getD .skip
theorem qvq:qL Tryz.prog pol 164=some ⟨qg9,26,[.tmp 6],[4]⟩:=by kernel_rfl
theorem qy0:Pw 164 [] false false none:=⟨rfl,rfl,rfl,rfl⟩
def qfJ:Code:=(Tryz.f165.body).getD .skip
theorem qtw:qL Tryz.prog pol 165=some ⟨qfJ,17,[.tmp 2],[4]⟩:=by kernel_rfl
theorem qx0:Pw 165 [] false false none:=⟨rfl,rfl,rfl,rfl⟩
def qg0:Code:=(Tryz.f166.body).getD .skip
theorem qtV:qL Tryz.prog pol 166=some ⟨qg0,8,[.tmp 4],[3]⟩:=by kernel_rfl
theorem qyQ:Pw 166 [] false false none:=⟨rfl,rfl,rfl,rfl⟩
def qgj:Code:=(Tryz.f167.body).getD .skip
theorem qu0:qL Tryz.prog pol 167=some ⟨qgj,6,[.tmp 2],[4]⟩:=by kernel_rfl
theorem qAH:Pw 167 [] false false none:=⟨rfl,rfl,rfl,rfl⟩
def qhl:Code:=(Tryz.f168.body).getD .skip
theorem qvE:qL Tryz.prog pol 168=some ⟨qhl,6,[],[]⟩:=by kernel_rfl
theorem qyf:Pw 168 [] false false none:=⟨rfl,rfl,rfl,rfl⟩
def qdE:Code:=(Tryz.f169.body).getD .skip
theorem qkA:qL Tryz.prog pol 169=some ⟨qdE,28,[.tmp 6],[4]⟩:=by kernel_rfl
theorem qoc:Pw 169 [] false false none:=⟨rfl,rfl,rfl,rfl⟩
def qhp:Code:=(Tryz.f170.body).getD .skip
theorem qun:qL Tryz.prog pol 170=some ⟨qhp,9,[.tmp 4],[4]⟩:=by kernel_rfl
theorem qBf:Pw 170 [] false false none:=⟨rfl,rfl,rfl,rfl⟩
def qgN:Code:=(Tryz.f171.body).getD .skip
theorem qvd:qL Tryz.prog pol 171=some ⟨qgN,6,[.tmp 2],[4]⟩:=by kernel_rfl
theorem qAB:Pw 171 [] false false none:=⟨rfl,rfl,rfl,rfl⟩
def qdI:Code:=(Tryz.f177.body).getD .skip
theorem qof:qL Tryz.prog pol 177=some ⟨qdI,19,[.tmp 4],[3]⟩:=by kernel_rfl
theorem qwC:Pw 177 [] false false none:=⟨rfl,rfl,rfl,rfl⟩
def qdd:Code:=(Tryz.f179.body).getD .skip
theorem qp6:qL Tryz.prog pol 179=some ⟨qdd,19,[.tmp 4],[3]⟩:=by kernel_rfl
theorem qxT:Pw 179 [] false false none:=⟨rfl,rfl,rfl,rfl⟩
def qgz:Code:=(Tryz.f180.body).getD .skip
theorem qv9:qL Tryz.prog pol 180=some ⟨qgz,18,[.tmp 4],[4]⟩:=by kernel_rfl
theorem qAW:Pw 180 [] false false none:=⟨rfl,rfl,rfl,rfl⟩
def qdp:Code:=(Tryz.f181.body).getD .skip
theorem qq7:qL Tryz.prog pol 181=some ⟨qdp,21,[.tmp 6],[3]⟩:=by kernel_rfl
theorem qxm:Pw 181 [] false false none:=⟨rfl,rfl,rfl,rfl⟩
def qdL:Code:=(Tryz.f182.body).getD .skip
theorem qor:qL Tryz.prog pol 182=some ⟨qdL,19,[.tmp 4],[3]⟩:=by kernel_rfl
theorem qyq:Pw 182 [] false false none:=⟨rfl,rfl,rfl,rfl⟩
theorem qEh:Kp 9 8 [2,7,8,9,10,11,12] [.slot 10 57 8] [7,8,10,11]:=⟨rfl,rfl,rfl⟩
theorem qxV:Kp 15 6 [2,4,5,7,8,9,11,28,29,30] [.cell 11 0 3 1] [2,4,5,7,8,9,11]:=⟨rfl,rfl,rfl⟩
theorem qxK:Kp 17 9 [2,3,6] [] [4]:=⟨rfl,rfl,rfl⟩
theorem qyc:Kp 17 4 [2,3,5] [] [2,3,4]:=⟨rfl,rfl,rfl⟩
theorem qyG:Kp 21 8 [2,3,5,6,9,12,35,36,37] [.slot 12 57 8] [3,5,6,9,10,12]:=⟨rfl,rfl,rfl⟩
theorem qAE:Kp 28 5 [2,4,5,6,7,8,9] [.slot 8 57 8] [2,4,8]:=⟨rfl,rfl,rfl⟩
theorem qAc:Kp 34 2 [0,4,7,8,9] [.slot 4 57 8] [4]:=⟨rfl,rfl,rfl⟩
theorem qwh:Kp 37 2 [0,2,3] [.slot 2 3 1] [2]:=⟨rfl,rfl,rfl⟩
theorem qxv:Kp 38 8 [1,2,3,7,9,12,13,14,25,26,27] [] [1,2,3,6,7,9,12,13,14]:=⟨rfl,rfl,rfl⟩
theorem qzs:Kp 38 3 [1,2,3,7,12,13,14] [] [1,3,6,7]:=⟨rfl,rfl,rfl⟩
theorem qzG:Kp 39 9 [2,3,4,5,6,10,11,12,13,15,46,47,48] [.slot 15 3 1] [2,3,4,5,6,10,11,12,15]:=⟨rfl,rfl,rfl⟩
theorem qAO:Kp 39 2 [2,3,4,5,6,10,11,12] [.slot 10 3 1] [10,11]:=⟨rfl,rfl,rfl⟩
theorem qBc:Kp 40 2 [0,4,7,8,9] [.slot 4 3 1] [4]:=⟨rfl,rfl,rfl⟩
theorem qsL:Kp 56 13 [1,62,63,64] [] [2]:=⟨rfl,rfl,rfl⟩
theorem qA3:Kp 57 2 [1,9,10,11] [] [1,2]:=⟨rfl,rfl,rfl⟩
theorem qB0:Kp 58 6 [6,37,38,39] [] [2]:=⟨rfl,rfl,rfl⟩
theorem qwL:Kp 62 8 [0,19,20,21] [] []:=⟨rfl,rfl,rfl⟩
theorem qxg:Kp 62 2 [0,3,8,9] [.slot 3 3 1] [0,3]:=⟨rfl,rfl,rfl⟩
theorem qzL:Kp 65 3 [3,6,7,8] [] [2,3]:=⟨rfl,rfl,rfl⟩
theorem qwd:Kp 68 2 [0,1,9,10,11] [] [0,1,4]:=⟨rfl,rfl,rfl⟩
theorem qws:Kp 71 3 [3,6,7,8] [] [3]:=⟨rfl,rfl,rfl⟩
theorem qtH:Kp 72 14 [2,3,4,5,12,13,14,15,16,49,50] [] [2,3,4,5,12,13,14,15,16,49,50]:=⟨rfl,rfl,rfl⟩
theorem qwf:Kp 72 9 [2,3,4,5,12,13,14,15,49,50] [.cell 12 0 3 1,.slot 15 3 1] [15]:=⟨rfl,rfl,rfl⟩
theorem qzB:Kp 82 3 [2,14,15,16] [.slot 2 36 5] [2]:=⟨rfl,rfl,rfl⟩
theorem qAX:Kp 85 8 [5,6,7,10,11,35,36,37] [] [6,7,10,11]:=⟨rfl,rfl,rfl⟩
theorem qxj:Kp 87 3 [3,4,5,8,9,13,14,15] [] [8,9]:=⟨rfl,rfl,rfl⟩
theorem qAK:Kp 91 4 [0,1,12,13] [] [4]:=⟨rfl,rfl,rfl⟩
theorem qAV:Kp 94 9 [0,1,2,6,7,8,9,10] [.cell 9 4 36 5] [0,6,7,8,9]:=⟨rfl,rfl,rfl⟩
theorem qxc:Kp 98 2 [0,6,7,8] [] [0,2]:=⟨rfl,rfl,rfl⟩
theorem qq6:Kp 104 38 [9,12,21,22] [] [9]:=⟨rfl,rfl,rfl⟩
theorem qoj:Kp 104 25 [3,5,6,7,9,12,17,18,19,72,73,74,96,97] [] [3,5,6,7,9,12,19,72,73,74]:=⟨rfl,rfl,rfl⟩
theorem qon:Kp 104 18 [3,5,6,7,9,12,72,73,74] [] [7,9,12]:=⟨rfl,rfl,rfl⟩
theorem qpn:Kp 104 14 [3,5,6,7,9,12,13] [] [3,5,6,7,9,12]:=⟨rfl,rfl,rfl⟩
theorem qtz:Kp 104 5 [1,2,3,4,7,9,10,11] [] [3,9]:=⟨rfl,rfl,rfl⟩
theorem qsw:Kp 106 1 [1,2,6] [] []:=⟨rfl,rfl,rfl⟩
theorem qsC:Kp 114 2 [0,3,7,8] [] [4]:=⟨rfl,rfl,rfl⟩
theorem quU:Kp 115 2 [0,1,8,9,10] [] [5]:=⟨rfl,rfl,rfl⟩
theorem qtK:Kp 130 3 [1,2,14,15,16] [] [1,2]:=⟨rfl,rfl,rfl⟩
theorem qsI:Kp 131 2 [0,1,7,8] [] [4]:=⟨rfl,rfl,rfl⟩
theorem quz:Kp 136 8 [0,3,4,5,6,7] [] [0,3,4,5,6,7]:=⟨rfl,rfl,rfl⟩
theorem qrT:Kp 136 4 [0,3,4,5] [.slot 4 55 2] [4]:=⟨rfl,rfl,rfl⟩
theorem qvc:Kp 142 7 [1,22,23,24] [] [2]:=⟨rfl,rfl,rfl⟩
theorem qvy:Kp 169 4 [1,2,15,16,17] [] [6]:=⟨rfl,rfl,rfl⟩
theorem quI:Kp 177 2 [0,1,7,8] [] [4]:=⟨rfl,rfl,rfl⟩
theorem qsJ:Kp 179 2 [0,3,7,8] [] [4]:=⟨rfl,rfl,rfl⟩
theorem qvT:Kp 181 2 [1,2,10] [] [6]:=⟨rfl,rfl,rfl⟩
theorem qvs:Kp 182 2 [0,1,7,8] [] [4]:=⟨rfl,rfl,rfl⟩
def qrP:Code:=(Qd 8 qpW).getD .skip
def qnS:Code:=(Qd 6 qcP).getD .skip
def qlK:Code:=(Qd 9 qeK).getD .skip
def qme:Code:=(Qd 4 qeK).getD .skip
def qkB:Code:=(Qd 8 qj3).getD .skip
def qnC:Code:=(Qd 5 qhL).getD .skip
def qm1:Code:=(Qd 2 qiu).getD .skip
def qlI:Code:=(Qd 2 qio).getD .skip
def ql4:Code:=(Qd 8 qfb).getD .skip
def qnP:Code:=(Qd 3 qfb).getD .skip
def qnj:Code:=(Qd 9 qfg).getD .skip
def qmM:Code:=(Qd 2 qfg).getD .skip
def qm8:Code:=(Qd 2 qit).getD .skip
def qgd:Code:=(Qd 13 qhP).getD .skip
def qmV:Code:=(Qd 2 qhD).getD .skip
def qmp:Code:=(Qd 6 qiD).getD .skip
def qkU:Code:=(Qd 8 qeL).getD .skip
def qlp:Code:=(Qd 2 qeL).getD .skip
def qmU:Code:=(Qd 3 qi7).getD .skip
def qnc:Code:=(Qd 2 qie).getD .skip
def qlb:Code:=(Qd 3 qir).getD .skip
def qga:Code:=(Qd 14 qeX).getD .skip
def qka:Code:=(Qd 9 qeX).getD .skip
def qnd:Code:=(Qd 3 qi9).getD .skip
def qmn:Code:=(Qd 8 qiH).getD .skip
def qiM:Code:=(Qd 3 qiy).getD .skip
def qkz:Code:=(Qd 4 qi0).getD .skip
def ql8:Code:=(Qd 9 qhK).getD .skip
def qnN:Code:=(Qd 2 qiW).getD .skip
def qaK:Code:=(Qd 38 q5R).getD .skip
def qaN:Code:=(Qd 25 q5R).getD .skip
def qaP:Code:=(Qd 18 q5R).getD .skip
def qaE:Code:=(Qd 14 q5R).getD .skip
def q9J:Code:=(Qd 5 q5R).getD .skip
def qfR:Code:=(Qd 1 qdR).getD .skip
def qho:Code:=(Qd 2 qe3).getD .skip
def qhg:Code:=(Qd 2 qdz).getD .skip
def qfV:Code:=(Qd 3 qea).getD .skip
def qbi:Code:=(Qd 2 qdM).getD .skip
def qgJ:Code:=(Qd 8 qb5).getD .skip
def qfD:Code:=(Qd 4 qb5).getD .skip
def qh9:Code:=(Qd 7 qdk).getD .skip
def qdQ:Code:=(Qd 4 qdE).getD .skip
def qg4:Code:=(Qd 2 qdI).getD .skip
def qgR:Code:=(Qd 2 qdd).getD .skip
def qht:Code:=(Qd 2 qdp).getD .skip
def qgi:Code:=(Qd 2 qdL).getD .skip
def q9f:Code:=((roundOf 19 qcP).getD (.skip,.skip)).1
def q7E:Code:=((roundOf 19 qcP).getD (.skip,.skip)).2
theorem qvw:zX q7E=19:=by kernel_rfl
theorem quC:q7d (drq pol 15) false q9f=true∧q7d (drq pol 15) false q7E=true:=⟨by kernel_rfl,by kernel_rfl⟩
def q7J:Code:=((roundOf 4 qb4).getD (.skip,.skip)).1
def q62:Code:=((roundOf 4 qb4).getD (.skip,.skip)).2
theorem qsU:zX q62=4:=by kernel_rfl
theorem qlW:q7d (drq pol 102) false q7J=true∧q7d (drq pol 102) false q62=true:=⟨by kernel_rfl,by kernel_rfl⟩
theorem qEV:qD9 Tryz.prog pol:=by
 intro E hE f g k args G r G' hf hg
 unfold pol ppr at hf
 simp only at hf
 split at hf
 ·injection hf with hf;subst hf;refine qr0 (fun _ _ _ hg=>?_) hg;exact qcZ qBu (fn:=Tryz.f161) (t:=33) (e:=55) (bt:=4) (by kernel_rfl) (by kernel_rfl) (by kernel_rfl) (by kernel_rfl) (by kernel_rfl) k33 (by rw[k55];simp) (by rw[z55];decide) (by kernel_rfl) hg
 ·injection hf with hf;subst hf;refine qr0 (fun _ _ _ hg=>?_) hg;exact qcZ qBu (fn:=Tryz.f162) (t:=34) (e:=36) (bt:=4) (by kernel_rfl) (by kernel_rfl) (by kernel_rfl) (by kernel_rfl) (by kernel_rfl) k34 (by rw[k36];simp) (by rw[z36];decide) (by kernel_rfl) hg
 ·cases hf
end
noncomputable section
open Go.RowKit
theorem q1v {α β:Type} {c:Prop} [Decidable c] (a b:Option α) (f:α→Option β):(if c then a else b).bind f=if c then a.bind f else b.bind f:=by split<;>rfl
theorem mixed:(Tryz.prog).follows .mixedOrders=true:=by kernel_rfl
def evo:Orc:=EE Tryz.prog T pol (D1 Tryz.prog T pol)
def ev (f:FuncId):Nat→List R→List (Nat×B)→Option (R×List (Nat×B)):=evo (.fn f)
def evr (f:FuncId) (asg bd:Code):Nat→List R→List (Nat×B)→Option (R×List (Nat×B)):=evo (.rd f asg bd)
theorem qE1 {f k:Nat} {args:List R} {G G':List (Nat×B)} {r:R} (h:ev f k args G=some (r,G')):AC Tryz.prog f args G k fun r' hp'=>r'=r∧hp'=G':=(qA7 qBu (qDA qBu mixed) qEV).fn f k args G r G' h
def XE (f k:Nat):Code→S→XS:=XD Tryz.prog T pol evo (D1 Tryz.prog T pol evo f k) Lim f k
def bkk (id:Nat) (r:XS):XS:=r.bind (bkD id)
def scc (r:XS):XS:=r.bind scD
def rgn (o:Option S):XS:=o.bind fun s'=>some (.normal,s')
def fnn (f k:Nat) (res:List ResultVar) (rt:List TypeId) (r:XS):Option (R×List (Nat×B)):=r.bind (qzr T pol f k ⟨.skip,0,res,rt⟩)
section
variable {f k:Nat} {s:S} {b:Code} {c:Prop} [Decidable c] {x y:XS} {α:Type} {o:Option α} {g:α→XS}
theorem qsz:scc (some (.ret,s))=some (.ret,s):=rfl
theorem quA:scc (if c then x else y)=if c then scc x else scc y:=q1v _ _ _
theorem qpA:scc (o.bind g)=o.bind fun a=>scc (g a):=by cases o<;>rfl
theorem qjQ (i:Nat):bkk i (some (.normal,s))=some (.normal,s):=rfl
theorem qsl (i:Nat):bkk i (some (.ret,s))=some (.ret,s):=rfl
theorem qoh (i j:Nat):bkk i (some (.exit j,s))=if j=i then some (.normal,s) else some (.exit j,s):=rfl
theorem qpR (i:Nat):bkk i none=none:=rfl
theorem qtu (i:Nat):bkk i (if c then x else y)=if c then bkk i x else bkk i y:=q1v _ _ _
theorem qpt (i:Nat):bkk i (o.bind g)=o.bind fun a=>bkk i (g a):=by cases o<;>rfl
theorem qoz:rgn (some s)=some (.normal,s):=rfl
theorem qp3:rgn none=none:=rfl
theorem qs2 (x y:Option S):rgn (if c then x else y)=if c then rgn x else rgn y:=q1v _ _ _
theorem qqA (g:α→Option S):rgn (o.bind g)=o.bind fun a=>rgn (g a):=by cases o<;>rfl
theorem qql (res:List ResultVar) (rt:List TypeId) (p:Exit×S):fnn f k res rt (some p)=qzr T pol f k ⟨.skip,0,res,rt⟩ p:=rfl
theorem qoB (res:List ResultVar) (rt:List TypeId):fnn f k res rt none=none:=rfl
theorem qtJ (res:List ResultVar) (rt:List TypeId):fnn f k res rt (if c then x else y)=if c then fnn f k res rt x else fnn f k res rt y:=q1v _ _ _
theorem qpO (res:List ResultVar) (rt:List TypeId):fnn f k res rt (o.bind g)=o.bind fun a=>fnn f k res rt (g a):=by cases o<;>rfl
end
theorem qtG (f k:Nat) (args:List R) (G:List (Nat×B)):ev f k args G=match pol.pr f with
 | some g=>prx (g.run evo) k args G
 | none=>(qL Tryz.prog pol f).bind fun bd=>q98 Tryz.prog T pol (D1 Tryz.prog T pol) evo Lim f k args G bd:=qF8 qbr qnR f k args G
def rfk (n:Nat) (q:RS):XS:=q.bind fun q=>qzc n q.2
def rd3 (k:Nat) (r:XS):Option (R×List (Nat×B)):=r.bind (qbD k)
def rd2 (f k:Nat) (bd:Code) (s:S) (o:Option B):Option (R×List (Nat×B)):=o.bind fun b=>rd3 k (XE f k bd (s.up [(k-1,b)]))
def rd1 (f k:Nat) (bd:Code) (r:XS):Option (R×List (Nat×B)):=r.bind (qaZ Tryz.prog T pol (D1 Tryz.prog T pol) evo Lim f k bd)
section
variable {f k n:Nat} {s:S} {asg bd:Code} {c:Prop} [Decidable c] {x y:XS} {α:Type} {o:Option α} {g:α→XS}
theorem qqC (r:R):rfk n (some (r,s))=qzc n s:=rfl
theorem qpc (g:α→RS):rfk n (o.bind g)=o.bind fun a=>rfk n (g a):=by cases o<;>rfl
theorem qpQ (p:Exit×S):rd3 k (some p)=qbD k p:=rfl
theorem qoP:rd3 k none=none:=rfl
theorem qtM:rd3 k (if c then x else y)=if c then rd3 k x else rd3 k y:=q1v _ _ _
theorem qoa:rd3 k (o.bind g)=o.bind fun a=>rd3 k (g a):=by cases o<;>rfl
theorem qBa {asg' bd':Code} (ha:asg'=asg) (hb:bd'=bd) (hk:0<k) (hc:q7d (drq pol f) false asg=true∧q7d (drq pol f) false bd=true) (tm:List R) (G:List (Nat×B)) :
  evr f asg' bd' k tm G=rd1 f k bd (XE f k asg ⟨q50 tm 0,G,G.length,tm.length⟩):=by
 subst ha hb
 refine(qD3 qbr qnR f asg' bd' k tm G).trans ?_
 unfold q6r
 rw[if_pos ⟨hk,hc⟩]
 rfl
end
def wst (q:RS) (d:Option Nat):Option S:=q.bind fun q=>if qcS q.2 d=true then some (q.2.put d q.1) else none
def wsF (q:RS) (s:S) (o:Oper):Option (S×Tx):=q.bind fun q=>if qcS q.2 o.dst=true then(qnG pol s q.2 q.1 o.op).bind fun fp=>some ((q.2.kill fp.ks).put o.dst q.1,(q.1,fp.wb.map fun x=>(x,q.2.blk x)),fp) else none
def cll (q:Option (R×List (Nat×B))) (s:S) (bl rw ln:List Nat):RS:=q.bind fun q=>if qv1 ln q.1 q.2=true then some (q.1.rn (ren (bl++rw) s.nx),s.aft (bl++rw) bl.length q.2) else none
section
variable {s:S} {o:Oper} {c:Prop} [Decidable c] {α:Type} {v:Option α} {ops l:List Oper} {A:List (List Nat)} {s0:S} {m:Nat} {acc:List Tx}
theorem qpE (r:R) (d:Option Nat):wst (some (r,s)) d=if qcS s d=true then some (s.put d r) else none:=rfl
theorem qqo (d:Option Nat):wst none d=none:=rfl
theorem quh (x y:RS) (d:Option Nat):wst (if c then x else y) d=if c then wst x d else wst y d:=q1v _ _ _
theorem qoY (g:α→RS) (d:Option Nat):wst (v.bind g) d=v.bind fun a=>wst (g a) d:=by cases v<;>rfl
theorem qqG (r:R) (s':S):wsF (some (r,s')) s o=if qcS s' o.dst=true then(qnG pol s s' r o.op).bind fun fp=>some ((s'.kill fp.ks).put o.dst r,(r,fp.wb.map fun x=>(x,s'.blk x)),fp) else none:=rfl
theorem qpX:wsF none s o=none:=rfl
theorem qrY (x y:RS):wsF (if c then x else y) s o=if c then wsF x s o else wsF y s o:=q1v _ _ _
theorem qpo (g:α→RS):wsF (v.bind g) s o=v.bind fun a=>wsF (g a) s o:=by cases v<;>rfl
theorem qp1 (r:R) (hp:List (Nat×B)) (bl rw ln:List Nat):cll (some (r,hp)) s bl rw ln=if qv1 ln r hp=true then some (r.rn (ren (bl++rw) s.nx),s.aft (bl++rw) bl.length hp) else none:=rfl
theorem qpB (g:α→Option (R×List (Nat×B))) (bl rw ln:List Nat):cll (v.bind g) s bl rw ln=v.bind fun a=>cll (g a) s bl rw ln:=by cases v<;>rfl
end
def ldx (T:Ty) (cs:List C) (off:Nat) (t:TypeId):Option R:=
 match T.k t with
 | .st _ | .arr _ _=>if off+T.sz t≤cs.length then some (.agg ((cs.drop off).take (T.sz t))) else none
 | .other=>none
 | _=>(cs[off]?).map .c
theorem qsn (c:C) (cs:List C) (off:Nat) (t:TypeId):ld T (c::cs) off t=ldx T (c::cs) off t:=rfl
section
variable {α:Type} {enc:α→List D} {sz:Nat}
theorem q59 (hsz:∀x,(enc x).length=sz):∀l:List α,(l.flatMap enc).length=l.length*sz
 | []=>by simp
 | x::l=>by rw[qMj,qLk,hsz,q59 hsz l,qLo,Nat.add_mul];omega
theorem qeB (hsz:∀x,(enc x).length=sz):∀(l:List α) (k:Nat) (x:α),l[k]?=some x→∃post,(l.flatMap enc).drop (k*sz)=enc x++post
 | [],k,x,h=>by simp at h
 | y::l,0,x,h=>by
  simp only[qLn,qM3] at h
  subst h
  exact⟨l.flatMap enc,by simp⟩
 | y::l,k+1,x,h=>by
  obtain⟨post,hp⟩:=qeB hsz l k x (by simpa using h)
  refine⟨post,?_⟩
  rw[qMj,show(k+1)*sz=(enc y).length+k*sz by rw[hsz,Nat.add_mul];omega,List.drop_length_add_append]
  exact hp
theorem qmm (hsz:∀x,(enc x).length=sz) (l:List α) (k fo:Nat) (t:TypeId) (h0:0<T.sz t) (hf:fo+T.sz t≤sz):ld T ((l.flatMap enc).map C.d) (k*sz+fo) t=(l[k]?).bind fun x=>ld T ((enc x).map C.d) fo t:=by
 have hl:=q59 hsz l
 cases hk:l[k]? with
 | none=>
  have hle:l.length≤k:=by simpa using hk
  have hle2:l.length*sz≤k*sz:=Nat.mul_le_mul_right _ hle
  show ld T _ _ t=none
  unfold ld
  split
  ·rw[if_neg (by rw[qLW,hl];omega)]
  ·rw[if_neg (by rw[qLW,hl];omega)]
  ·rfl
  ·rw[qLL (by rw[qLW,hl];omega)];rfl
 | some x=>
  obtain⟨post,hp⟩:=qeB hsz l k x hk
  have hx:=hsz x
  have hlen:k*sz+sz≤l.length*sz:=by
   have:k<l.length:=(qLh.1 hk).1
   have:=Nat.mul_le_mul_right sz (show k+1≤l.length from this)
   rw[Nat.add_mul] at this;omega
  have hd:∀n,n+fo≤sz→(((l.flatMap enc).map C.d).drop (k*sz+fo)).take n=(((enc x).map C.d).drop fo).take n:=fun n hn=>by
   rw[←qM1,←List.map_drop,hp,List.map_append,List.drop_append_of_le_length (by simp[hx];omega),List.take_append_of_le_length (by simp[hx];omega)]
  show _=ld T _ fo t
  unfold ld
  split
  ·rw[if_pos (by rw[qLW,hl];omega),if_pos (by rw[qLW,hx];omega),hd _ (by omega)]
  ·rw[if_pos (by rw[qLW,hl];omega),if_pos (by rw[qLW,hx];omega),hd _ (by omega)]
  ·rfl
  ·have h1:(((l.flatMap enc).map C.d).drop (k*sz))[fo]?=((enc x).map C.d)[fo]?:=by
    rw[←List.map_drop,hp,List.map_append,qLR (by simp[hx];omega)]
   rw[List.getElem?_drop] at h1
   rw[h1]
theorem qaM (hsz:∀x,(enc x).length=1) (l:List α) (k:Nat) (t:TypeId) (h:T.sz t=1):ld T ((l.flatMap enc).map C.d) k t=(l[k]?).bind fun x=>ld T ((enc x).map C.d) 0 t:=by
 have:=qmm hsz l k 0 t (by omega) (by omega)
 rwa [Nat.add_zero,Nat.mul_one] at this
theorem qax (hsz:∀x,(enc x).length=sz) (l:List α) (k:Nat) (t:TypeId) (h0:0<T.sz t) (hf:T.sz t≤sz):ld T ((l.flatMap enc).map C.d) (k*sz) t=(l[k]?).bind fun x=>ld T ((enc x).map C.d) 0 t:=by
 have:=qmm hsz l k 0 t h0 (by omega)
 rwa [Nat.add_zero] at this
end
theorem qs4 (i:Nat) (ds:List D):(ds.map C.d).all (C.far i)=true:=by rw[List.all_map];exact qLu.2 fun _ _=>rfl
theorem qlL (ds:List D):(ds.map C.d).all C.known=true:=by rw[List.all_map];exact qLu.2 fun _ _=>rfl
theorem qpL (X:List Nat) (ds:List D):(ds.map C.d).all (C.farF X)=true:=by rw[List.all_map];exact qLu.2 fun _ _=>rfl
theorem qsk (n:Nat) (ds:List D):(ds.map C.d).all (C.ltn n)=true:=by rw[List.all_map];exact qLu.2 fun _ _=>rfl
theorem qqg (ds:List D):(ds.map C.d).flatMap C.rows=[]:=by rw[List.flatMap_map];exact List.flatMap_eq_nil_iff.2 fun _ _=>rfl
theorem qwB (b:Builtin) (args:Array Operand) (ts:Array TypeId):(Call.operands { callee := .builtin b,args:=args,argTypes:=ts }).toList=args.toList:=by simp[Call.operands]
theorem qAk (f:Operand) (args:Array Operand) (ts:Array TypeId):(Call.operands { callee := .value f,args:=args,argTypes:=ts }).toList=f::args.toList:=by simp[Call.operands]
theorem qyv (i:Nat) (ds:List D):(ds.map C.d).map (C.fg i)=ds.map C.d:=by rw[List.map_map];rfl
theorem qrV (X:List Nat) (ds:List D):(ds.map C.d).map (C.fgL X)=ds.map C.d:=by rw[List.map_map];rfl
end
noncomputable section
open Go.RowKit
def ρ0:Pl:=⟨fun _=>none,fun _=>False⟩
def L0:Nat→Prop:=(q2j [] 0).live
theorem qIz (b:Nat):¬ Occ L0 ρ0 b:=fun h=>by
 rcases h with h|⟨i,c,h1,h2⟩
 ·exact h
 ·cases h2
theorem rd0 {W:World} {v:Value} {d:D} (h:RD W (fun _=>False) v d):RD W (Occ L0 ρ0) v d:=h.occ fun b hb=>qIz b hb
theorem qk7 {W:World} {v:Value} {d:D} (h:PV W [v] [d]):RR W L0 ρ0 v (.c (.d d)) := .c _ _ (.d _ _ (rd0 (h.2 0 v d rfl rfl)))
theorem qov {f:FuncId} {rs:List R} {b:Bool} (h:ev f 0 rs []=some (.c (.d (.bool b)),[])) {W:World} {vs:Array Value} (hr:RRs W L0 ρ0 vs rs) :
  Calls Tryz.prog f vs W fun e W'=>e = .returned (.bool b)∧Below W.heap.size W W':=by
 have hac:=qE1 h
 have hnl:∀i,¬ (q2j [] 0).live i:=fun i h=>by cases h
 have hs:Sim ⟨fun _=>False,W,ρ0,0,none⟩ ρ0 (q2j [] 0) qcs W:=
  ⟨Hd.none,rfl,fun i => .any _,fun i b c h=>absurd h (hnl i),fun i h=>absurd h (hnl i),fun i b c h=>absurd h (hnl i),fun i j b c c' h=>absurd h (hnl i),fun i h=>absurd h (hnl i),qj9.refl _ _,fun b hb=>hb.elim,fun i hi=>absurd hi (Nat.not_lt_zero _),rfl,fun b hb=>hb.elim⟩
 refine(hac.call ⟨fun _=>False,W,ρ0,0,none⟩ ρ0 W vs rfl rfl rfl rfl hs hr).mono ?_
 rintro e W' ⟨v,r,hp',nx',ρ',rfl,⟨rfl,rfl⟩,h3,h4⟩
 rw[h4.inv_bool]
 exact⟨rfl,h3.kept.os,h3.kept.tape,h3.kept.output,h3.kept.size,fun k hk=>h3.kept.block k hk (fun h=>h)⟩
end
noncomputable section
open Go.RowKit
set_option maxRecDepth 100000
abbrev w64 (n:Int):Int:=IntKind.i64.wrap n
def JO:Code→List Code
 | .loop c=>c::JO c
 | .seq a b=>JO a++JO b
 | .cond _ a b=>JO a++JO b
 | .block _ c=>JO c
 | .scope c=>JO c
 | .rangeFunc _ _ a b=>JO a++JO b
 | _=>[]
def ZP:Code→List (Code×Code)
 | .rangeFunc _ _ a b=>(a,b)::(ZP a++ZP b)
 | .loop c=>ZP c
 | .seq a b=>ZP a++ZP b
 | .cond _ a b=>ZP a++ZP b
 | .block _ c=>ZP c
 | .scope c=>ZP c
 | _=>[]
theorem qbk:∀(c b:Code),b∈JO c→(∀b'∈JO b,b'∈JO c)∧∀q∈ZP b,q∈ZP c:=by
 intro c
 induction c with
 | loop c ih=>
  intro b hb
  rcases qLz.1 hb with rfl|hb
  ·exact⟨fun b' h=>qLl _ h,fun q h=>h⟩
  ·exact⟨fun b' h=>qLl _ ((ih b hb).1 b' h),fun q h=>(ih b hb).2 q h⟩
 | seq a c iha ihc=>
  intro b hb
  rcases qLH.1 hb with hb|hb
  ·exact⟨fun b' h=>qLp _ ((iha b hb).1 b' h),fun q h=>qLp _ ((iha b hb).2 q h)⟩
  ·exact⟨fun b' h=>qLm _ ((ihc b hb).1 b' h),fun q h=>qLm _ ((ihc b hb).2 q h)⟩
 | cond x a c iha ihc=>
  intro b hb
  rcases qLH.1 hb with hb|hb
  ·exact⟨fun b' h=>qLp _ ((iha b hb).1 b' h),fun q h=>qLp _ ((iha b hb).2 q h)⟩
  ·exact⟨fun b' h=>qLm _ ((ihc b hb).1 b' h),fun q h=>qLm _ ((ihc b hb).2 q h)⟩
 | rangeFunc g ps a c iha ihc=>
  intro b hb
  rcases qLH.1 hb with hb|hb
  ·exact⟨fun b' h=>qLp _ ((iha b hb).1 b' h),fun q h=>qLl _ (qLp _ ((iha b hb).2 q h))⟩
  ·exact⟨fun b' h=>qLm _ ((ihc b hb).1 b' h),fun q h=>qLl _ (qLm _ ((ihc b hb).2 q h))⟩
 | block id c ih=>intro b hb;exact ih b hb
 | scope c ih=>intro b hb;exact ih b hb
 | _=>intro b hb;cases hb
theorem q3M:∀(c:Code) (q:Code×Code),q∈ZP c→(∀b'∈JO q.1++JO q.2,b'∈JO c)∧∀q'∈ZP q.1++ZP q.2,q'∈ZP c:=by
 intro c
 induction c with
 | loop c ih=>intro q hq;exact⟨fun b' h=>qLl _ ((ih q hq).1 b' h),(ih q hq).2⟩
 | seq a c iha ihc=>
  intro q hq
  rcases qLH.1 hq with hq|hq
  ·exact⟨fun b' h=>qLp _ ((iha q hq).1 b' h),fun q' h=>qLp _ ((iha q hq).2 q' h)⟩
  ·exact⟨fun b' h=>qLm _ ((ihc q hq).1 b' h),fun q' h=>qLm _ ((ihc q hq).2 q' h)⟩
 | cond x a c iha ihc=>
  intro q hq
  rcases qLH.1 hq with hq|hq
  ·exact⟨fun b' h=>qLp _ ((iha q hq).1 b' h),fun q' h=>qLp _ ((iha q hq).2 q' h)⟩
  ·exact⟨fun b' h=>qLm _ ((ihc q hq).1 b' h),fun q' h=>qLm _ ((ihc q hq).2 q' h)⟩
 | rangeFunc g ps a c iha ihc=>
  intro q hq
  rcases qLz.1 hq with rfl|hq
  ·exact⟨fun b' h=>h,fun q' h=>qLl _ h⟩
  ·rcases qLH.1 hq with hq|hq
   ·exact⟨fun b' h=>qLp _ ((iha q hq).1 b' h),fun q' h=>qLl _ (qLp _ ((iha q hq).2 q' h))⟩
   ·exact⟨fun b' h=>qLm _ ((ihc q hq).1 b' h),fun q' h=>qLl _ (qLm _ ((ihc q hq).2 q' h))⟩
 | block id c ih=>intro q hq;exact ih q hq
 | scope c ih=>intro q hq;exact ih q hq
 | _=>intro q hq;cases hq
def q7P (f:Nat):Code:=((qL Tryz.prog pol f).map Bd.code).getD .skip
def lbO (f key:Nat):Code:=(Qd key (q7P f)).getD .skip
def raO (f key:Nat):Code:=((roundOf key (q7P f)).getD (.skip,.skip)).1
def rbO (f key:Nat):Code:=((roundOf key (q7P f)).getD (.skip,.skip)).2
structure okL (f:Nat) (c:Code):Prop where
 lo:∀b∈JO c,lbO f (zX b)=b
 ro:∀q∈ZP c,raO f (zX q.2)=q.1∧rbO f (zX q.2)=q.2
theorem qV {f:Nat} {c:Code} (hc:q7P f=c) (h:(JO c).map (fun b=>(Qd (zX b) c).getD .skip)=JO c) (h':(ZP c).map (fun q=>(roundOf (zX q.2) c).getD (.skip,.skip))=ZP c):okL f c:=by
 refine⟨fun b hb=>?_,fun q hq=>?_⟩
 ·unfold lbO
  rw[hc]
  obtain⟨i,hi,rfl⟩:=List.mem_iff_getElem.1 hb
  have h1:((JO c).map (fun b=>(Qd (zX b) c).getD .skip))[i]?=(JO c)[i]?:=by rw[h]
  rw[qLr,qLf hi] at h1
  simpa using h1
 ·unfold raO rbO
  rw[hc]
  obtain⟨i,hi,rfl⟩:=List.mem_iff_getElem.1 hq
  have h1:((ZP c).map (fun q=>(roundOf (zX q.2) c).getD (.skip,.skip)))[i]?=(ZP c)[i]?:=by rw[h']
  rw[qLr,qLf hi] at h1
  simp only[Option.map_some,qM3] at h1
  rw[h1]
  exact⟨rfl,rfl⟩
def XEo (E:Orc) (f k:Nat):Code→S→XS:=XD Tryz.prog T pol E (D1 Tryz.prog T pol E f k) Lim f k
def XL2 (E:Orc) (f k key:Nat) (s:S):XS:=Lim (fun s=>(XEo E f k (lbO f key) s).bind (lpx pol f key k)) s
def XM2 (E:Orc) (f k key:Nat) (it:Operand) (s:S):XS:=mlp it (fun s=>(XEo E f k (lbO f key) s).bind (lpx pol f key k)) s
def lp3 (E:Orc) (f k key:Nat) (o:Option Operand) (r:Option S):XS:=r.bind fun s=>match o with
 | none=>XL2 E f k key s
 | some it=>XM2 E f k key it s
def cnd (r:R) (x y:XS):XS:=
 match r with
 | .c (.d (.bool b))=>if b=true then x else y
 | _=>none
def XE2 (E:Orc) (f k:Nat):Code→S→XS
 | .skip,s=>some (.normal,s)
 | .label _,s=>some (.normal,s)
 | .ret,s=>some (.ret,s)
 | .exit id,s=>some (.exit id,s)
 | .seq a b,s=>(XE2 E f k a s).bind (sqD fun s'=>XE2 E f k b s')
 | .block id c,s=>(XE2 E f k c s).bind (bkD id)
 | .scope c,s=>(XE2 E f k c s).bind scD
 | .cond c x y,s=>cnd (s.ev c) (XE2 E f k x (s.ly c tt)) (XE2 E f k y (s.ly c ff))
 | .loop c,s=>lp3 E f k (zX c) (q3B c) (nrm pol f (zX c) k s)
 | .rangeFunc g ps _ b,s=>xRF pol E f g ps.toList (raO f (zX b)) (rbO f (zX b)) ((s.dzr pol.q).frz (q9P (s.dzr pol.q) (pol.rk f (zX b))))
 | c,s=>XEo E f k c s
section
variable {E:Orc} {f k:Nat} {s:S}
theorem qF6 (a b:Code):XEo E f k (.seq a b) s=(XEo E f k a s).bind (sqD fun s'=>XEo E f k b s'):=rfl
theorem qrQ (i:Nat) (b:Code):XEo E f k (.block i b) s=(XEo E f k b s).bind (bkD i):=rfl
theorem qtb (b:Code):XEo E f k (.scope b) s=(XEo E f k b s).bind scD:=rfl
theorem qxh (p:Operand) (a b:Code):XEo E f k (.cond p a b) s=cnd (s.ev p) (XEo E f k a (s.ly p tt)) (XEo E f k b (s.ly p ff)):=rfl
theorem qww (b:Code):XEo E f k (.loop b) s=(nrm pol f (zX b) k s).bind fun s0=>lpM Lim (q3B b) (fun s=>(XEo E f k b s).bind (lpx pol f (zX b) k)) s0:=rfl
theorem qyg:XEo E f k .skip s=some (.normal,s):=rfl
theorem qux (l:Nat):XEo E f k (.label l) s=some (.normal,s):=rfl
theorem qCr:XEo E f k .ret s=some (.ret,s):=rfl
theorem qzR (i:Nat):XEo E f k (.exit i) s=some (.exit i,s):=rfl
theorem qvS (g:Operand) (ps:Array Tmp) (asg bd:Code):XEo E f k (.rangeFunc g ps asg bd) s=xRF pol E f g ps.toList asg bd ((s.dzr pol.q).frz (q9P (s.dzr pol.q) (pol.rk f (zX bd)))):=rfl
theorem qCQ (a b:Code):XE2 E f k (.seq a b) s=(XE2 E f k a s).bind (sqD fun s'=>XE2 E f k b s'):=rfl
theorem qvP (i:Nat) (b:Code):XE2 E f k (.block i b) s=(XE2 E f k b s).bind (bkD i):=rfl
theorem qtn (b:Code):XE2 E f k (.scope b) s=(XE2 E f k b s).bind scD:=rfl
theorem qAp (p:Operand) (a b:Code):XE2 E f k (.cond p a b) s=cnd (s.ev p) (XE2 E f k a (s.ly p tt)) (XE2 E f k b (s.ly p ff)):=rfl
theorem qsp (g:Operand) (ps:Array Tmp) (asg bd:Code):XE2 E f k (.rangeFunc g ps asg bd) s=xRF pol E f g ps.toList (raO f (zX bd)) (rbO f (zX bd)) ((s.dzr pol.q).frz (q9P (s.dzr pol.q) (pol.rk f (zX bd)))):=rfl
theorem qx1 (b:Code):XE2 E f k (.loop b) s=lp3 E f k (zX b) (q3B b) (nrm pol f (zX b) k s):=rfl
end
theorem qiT {E:Orc} {f k:Nat}:∀(c:Code),okL f c→∀s,XEo E f k c s=XE2 E f k c s:=by
 intro c
 induction c with
 | seq a b iha ihb=>
  intro h s
  have h1:=iha ⟨fun x hx=>h.lo x (qLp _ hx),fun x hx=>h.ro x (qLp _ hx)⟩
  have h2:=ihb ⟨fun x hx=>h.lo x (qLm _ hx),fun x hx=>h.ro x (qLm _ hx)⟩
  rw[qF6,qCQ,h1,funext h2]
 | block id c ih=>intro h s;rw[qrQ,qvP,ih ⟨h.lo,h.ro⟩ s]
 | scope c ih=>intro h s;rw[qtb,qtn,ih ⟨h.lo,h.ro⟩ s]
 | cond x a b iha ihb=>
  intro h s
  have h1:=iha ⟨fun x hx=>h.lo x (qLp _ hx),fun x hx=>h.ro x (qLp _ hx)⟩
  have h2:=ihb ⟨fun x hx=>h.lo x (qLm _ hx),fun x hx=>h.ro x (qLm _ hx)⟩
  rw[qxh,qAp,h1,h2]
 | loop c ih=>
  intro h s
  rw[qww,qx1]
  unfold lp3 lpM XL2 XM2
  rw[h.lo c qLs]
  cases q3B c<;>rfl
 | rangeFunc g ps a b _ _=>
  intro h s
  obtain⟨h1,h2⟩:=h.ro (a,b) qLs
  rw[qvS,qsp]
  rw[h1,h2]
 | skip=>intro _ s;rw[qyg];rfl
 | label=>intro _ s;rw[qux];rfl
 | ret=>intro _ s;rw[qCr];rfl
 | exit=>intro _ s;rw[qzR];rfl
 | _=>intro _ s;unfold XE2;rfl
def th2 (E:Orc) (f k:Nat) (r:XS) (b:Code):XS:=r.bind (sqD fun s'=>XE2 E f k b s')
def lp2 (E:Orc) (f k key:Nat) (o:Option S):XS:=o.bind fun s=>XL2 E f k key s
def lz2 (f k key:Nat) (r:XS):XS:=r.bind (lpx pol f key k)
def ly2 (e:Exit) (o:Option S):XS:=o.bind fun s=>some (e,s)
def rs2 (E:Orc) (ops:List Oper) (o:Option S) (l:List Oper):Option S:=o.bind fun s=>xr Tryz.prog T pol E ops l s
def ql6 (E:Orc) (ops:List Oper) (A:List (List Nat)) (s0:S) (m:Nat) (o:Option (S×Tx)) (l:List Oper) (acc:List Tx):Option S:=o.bind fun q=>xdp Tryz.prog T pol E ops A s0 m l q.1 (acc++[q.2])
section
variable {E:Orc} {f k key:Nat} {s:S} {b:Code} {c:Prop} [Decidable c] {x y:XS} {α β:Type} {o:Option α} {g:α→XS} {h:β→XS} {e:α⊕β}
theorem qtO:XE2 E f k .skip s=some (.normal,s):=rfl
theorem qq8 (l:Nat):XE2 E f k (.label l) s=some (.normal,s):=rfl
theorem qx9:XE2 E f k .ret s=some (.ret,s):=rfl
theorem qv5 (i:Nat):XE2 E f k (.exit i) s=some (.exit i,s):=rfl
theorem qA0 (a:Code):XE2 E f k (.seq a b) s=th2 E f k (XE2 E f k a s) b:=rfl
theorem qoo (i:Nat):XE2 E f k (.block i b) s=bkk i (XE2 E f k b s):=rfl
theorem qpl:XE2 E f k (.scope b) s=scc (XE2 E f k b s):=rfl
theorem qsf (p:Operand) (a b:Code):XE2 E f k (.cond p a b) s=match s.ev p with | .c (.d (.bool t))=>if t=true then XE2 E f k a (s.ly p tt) else XE2 E f k b (s.ly p ff)|_=>none:=rfl
theorem qni (i:Nat) (ops:Array Oper):XE2 E f k (.region i ops false) s=rgn (xr Tryz.prog T pol E ops.toList ops.toList s):=rfl
theorem qs8 (i:Nat) (ops:Array Oper):XE2 E f k (.region i ops true) s=rgn (D1 Tryz.prog T pol E f k i ops.toList ((s.dzr pol.q).frz (q9P (s.dzr pol.q) (pol.rk f i)))):=rfl
theorem qpk (g:Operand) (ps:Array Tmp) (asg bd:Code):XE2 E f k (.rangeFunc g ps asg bd) s=xRF pol E f g ps.toList (raO f (zX bd)) (rbO f (zX bd)) ((s.dzr pol.q).frz (q9P (s.dzr pol.q) (pol.rk f (zX bd)))):=rfl
theorem qt9:XE2 E f k (.loop b) s=lp3 E f k (zX b) (q3B b) (nrm pol f (zX b) k s):=rfl
theorem qpg (r:Option S):lp3 E f k key none r=lp2 E f k key r:=rfl
theorem qk0:th2 E f k (some (.normal,s)) b=XE2 E f k b s:=rfl
theorem qva:th2 E f k (some (.ret,s)) b=some (.ret,s):=rfl
theorem qpe (i:Nat):th2 E f k (some (.exit i,s)) b=some (.exit i,s):=rfl
theorem qpv:th2 E f k none b=none:=rfl
theorem quW:th2 E f k (if c then x else y) b=if c then th2 E f k x b else th2 E f k y b:=q1v _ _ _
theorem qoQ:th2 E f k (o.bind g) b=o.bind fun a=>th2 E f k (g a) b:=by cases o<;>rfl
theorem qsR:th2 E f k (Sum.elim g h e) b=Sum.elim (fun a=>th2 E f k (g a) b) (fun a=>th2 E f k (h a) b) e:=by cases e<;>rfl
theorem qoV:lp2 E f k key (some s)=XL2 E f k key s:=rfl
theorem qji:lz2 f k key (some (.normal,s))=ly2 .normal (nrm pol f key k s):=rfl
theorem qu7:lz2 f k key (some (.ret,s))=ly2 .ret (qr2 k (pol.kx f key) (s.fin pol.q)):=rfl
theorem qp4 (i:Nat):lz2 f k key (some (.exit i,s))=ly2 (.exit i) (qr2 k (pol.kx f key) (s.fin pol.q)):=rfl
theorem qop:lz2 f k key none=none:=rfl
theorem qtU:lz2 f k key (if c then x else y)=if c then lz2 f k key x else lz2 f k key y:=q1v _ _ _
theorem qpd:lz2 f k key (o.bind g)=o.bind fun a=>lz2 f k key (g a):=by cases o<;>rfl
theorem qsc:lz2 f k key (Sum.elim g h e)=Sum.elim (fun a=>lz2 f k key (g a)) (fun a=>lz2 f k key (h a)) e:=by cases e<;>rfl
theorem qqB (x:Exit):ly2 x (some s)=some (x,s):=rfl
theorem quL:scc (Sum.elim g h e)=Sum.elim (fun a=>scc (g a)) (fun a=>scc (h a)) e:=by cases e<;>rfl
theorem qu4 (i:Nat):bkk i (Sum.elim g h e)=Sum.elim (fun a=>bkk i (g a)) (fun a=>bkk i (h a)) e:=by cases e<;>rfl
theorem qsa (res:List ResultVar) (rt:List TypeId):fnn f k res rt (Sum.elim g h e)=Sum.elim (fun a=>fnn f k res rt (g a)) (fun a=>fnn f k res rt (h a)) e:=by cases e<;>rfl
end
section
variable {E:Orc} {α β γ:Type} {e:α⊕β}
theorem qpU {δ:Type} (g:α→Option γ) (h:β→Option γ) (F:γ→Option δ):(Sum.elim g h e).bind F=Sum.elim (fun a=>(g a).bind F) (fun a=>(h a).bind F) e:=by cases e<;>rfl
theorem qv0 (g:α→RS) (h:β→RS) (d:Option Nat):wst (Sum.elim g h e) d=Sum.elim (fun a=>wst (g a) d) (fun a=>wst (h a) d) e:=by cases e<;>rfl
theorem qtZ (g:α→RS) (h:β→RS) (s:S) (o:Oper):wsF (Sum.elim g h e) s o=Sum.elim (fun a=>wsF (g a) s o) (fun a=>wsF (h a) s o) e:=by cases e<;>rfl
theorem qus (g:α→Option S) (h:β→Option S):rgn (Sum.elim g h e)=Sum.elim (fun a=>rgn (g a)) (fun a=>rgn (h a)) e:=by cases e<;>rfl
theorem qsV {s:S} (g:α→Option (R×List (Nat×B))) (h:β→Option (R×List (Nat×B))) (bl rw ln:List Nat):cll (Sum.elim g h e) s bl rw ln=Sum.elim (fun a=>cll (g a) s bl rw ln) (fun a=>cll (h a) s bl rw ln) e:=by cases e<;>rfl
end
section
variable {E:Orc} {s:S} {o:Oper} {c:Prop} [Decidable c] {α β:Type} {v:Option α} {e:α⊕β} {ops l:List Oper} {A:List (List Nat)} {s0:S} {m:Nat} {acc:List Tx}
theorem qIY:xst Tryz.prog T pol E o true s=wst (xo Tryz.prog T pol E (pre pol s o.op) o.op) o.dst:=rfl
theorem qJa:xst Tryz.prog T pol E o false s=if qcS s o.dst=true then some (s.put o.dst (.tup [])) else none:=rfl
theorem qCt:xsF Tryz.prog T pol E o true s=alX E s o (alC pol s o.op) (wsF (xo Tryz.prog T pol E s o.op) s o):=rfl
theorem qF1:xsF Tryz.prog T pol E o false s=if qcS s o.dst=true then some (s.put o.dst (.tup []),(.tup [],[]),⟨[],[],[],[],[]⟩) else none:=rfl
theorem qDb:xr Tryz.prog T pol E ops [] s=some s:=rfl
theorem qwa:xr Tryz.prog T pol E ops (o::l) s=rs2 E ops (xgd Tryz.prog T pol E ops o s) l:=rfl
theorem qz3:rs2 E ops (some s) l=xr Tryz.prog T pol E ops l s:=rfl
theorem qA6:rs2 E ops none l=none:=rfl
theorem qCv (x y:Option S):rs2 E ops (if c then x else y) l=if c then rs2 E ops x l else rs2 E ops y l:=q1v _ _ _
theorem qxl (g:α→Option S):rs2 E ops (v.bind g) l=v.bind fun a=>rs2 E ops (g a) l:=by cases v<;>rfl
theorem qF7 (g:α→Option S) (h:β→Option S):rs2 E ops (Sum.elim g h e) l=Sum.elim (fun a=>rs2 E ops (g a) l) (fun a=>rs2 E ops (h a) l) e:=by cases e<;>rfl
theorem qwR:xdp Tryz.prog T pol E ops A s0 0 l s acc=if okP A 0 [] acc=true∧okX ops A s0 acc 0 acc=true∧okK ops A acc=true∧okN acc 0 acc=true then xr Tryz.prog T pol E ops l s else none:=by cases l<;>rfl
theorem qAv:xdp Tryz.prog T pol E ops A s0 (m+1) (o::l) s acc=ql6 E ops A s0 m (xgF Tryz.prog T pol E ops o s) l acc:=rfl
theorem qtA (x:Tx):ql6 E ops A s0 m (some (s,x)) l acc=xdp Tryz.prog T pol E ops A s0 m l s (acc++[x]):=rfl
theorem qtj:ql6 E ops A s0 m none l acc=none:=rfl
theorem qAq (x y:Option (S×Tx)):ql6 E ops A s0 m (if c then x else y) l acc=if c then ql6 E ops A s0 m x l acc else ql6 E ops A s0 m y l acc:=q1v _ _ _
theorem qvD (g:α→Option (S×Tx)):ql6 E ops A s0 m (v.bind g) l acc=v.bind fun a=>ql6 E ops A s0 m (g a) l acc:=by cases v<;>rfl
theorem qzS (g:α→Option (S×Tx)) (h:β→Option (S×Tx)):ql6 E ops A s0 m (Sum.elim g h e) l acc=Sum.elim (fun a=>ql6 E ops A s0 m (g a) l acc) (fun a=>ql6 E ops A s0 m (h a) l acc) e:=by cases e<;>rfl
theorem qyP (g:FuncId) (zs:List (List Nat)) (rs:List R) (bl rw ln:List Nat):q2a E s g zs rs bl rw ln=(qk2 s (bl++rw) ln zs rs).bind fun rs'=>(cvG s (bl++rw) (bl++rw) 0).bind fun G=>
  if(bl++rw).all (fun i=>(s.blk i).live)=true∧(bl++rw).Nodup∧ln.all (fun i=>(s.blk i).live && !(bl++rw).contains i)=true∧bl.length≤G.length∧(List.range G.length).all (fun j=>(lk G j .dead).isBlk==decide (j<bl.length))=true then cll (E (.fn g) bl.length rs' G) s bl rw ln else none:=rfl
theorem qrG (rid:Nat) (f:FuncId) (asg bd:Code) (rs:List R) (bl rw ln:List Nat):q7m E s rid f asg bd rs bl rw ln=(cvG s (bl++rw) (bl++rw) 0).bind fun G=>
  if(bl++rw).all (fun i=>(s.blk i).live)=true∧(bl++rw).Nodup∧ln.all (fun i=>(s.blk i).live && !(bl++rw).contains i)=true∧bl.length≤G.length∧(List.range G.length).all (fun j=>(lk G j .dead).isBlk==decide (j<bl.length))=true∧0<bl.length∧(bl++rw)[bl.length-1]?=some rid then
   cll (E (.rd f asg bd) bl.length (rs.map (cvT s (bl++rw) ln)) G) s bl rw ln else none:=rfl
theorem qKi (f:Nat) (asg bd:Code) (g:Operand) (ps:List Nat):xRF pol E f g ps asg bd s=match s.ev g with
 | .c (.fn g' fs caps)=>rfk s.n (qbj E (s.rf f (qgP s (pol.rk f (zX bd))) ps asg bd) g' (pol.ow g') [] (fs.map R.c++[.c (.hd .yield s.nx)]++caps.map R.c))
 | _=>none:=rfl
end
theorem qy3 (g k:Nat) (a:List R) (G:List (Nat×B)):evo (.fn g) k a G=ev g k a G:=rfl
theorem qxe (g:Nat) (asg bd:Code) (k:Nat) (a:List R) (G:List (Nat×B)):evo (.rd g asg bd) k a G=evr g asg bd k a G:=rfl
def qa7 (E:Orc) (f k:Nat) (args:List R) (G:List (Nat×B)):Option (R×List (Nat×B)):=(qL Tryz.prog pol f).bind fun bd=>q98 Tryz.prog T pol (D1 Tryz.prog T pol) E Lim f k args G bd
theorem qn {f n:Nat} {c:Code} {res:List ResultVar} {rt:List TypeId} (hb:qL Tryz.prog pol f=some ⟨c,n,res,rt⟩):q7P f=c:=by unfold q7P;rw[hb];rfl
theorem q4T {E:Orc} {f n:Nat} {c:Code} {res:List ResultVar} {rt:List TypeId} (hb:qL Tryz.prog pol f=some ⟨c,n,res,rt⟩) (hl:okL f c) (k:Nat) (args:List R) (G:List (Nat×B)) :
  qa7 E f k args G=if args.length≤n then fnn f k res rt (XE2 E f k c ⟨q50 args 0,G,G.length,n⟩) else none:=by
 unfold qa7
 rw[hb,qLd]
 unfold q98
 split
 ·show Option.bind (XEo E f k c _) _=_
  rw[qiT c hl]
  rfl
 ·rfl
theorem qmP {f k:Nat} (hp:pol.pr f=none) (args:List R) (G:List (Nat×B)):ev f k args G=qa7 evo f k args G:=by rw[qtG,hp];rfl
theorem qQ {f n:Nat} {c:Code} {res:List ResultVar} {rt:List TypeId} (hb:qL Tryz.prog pol f=some ⟨c,n,res,rt⟩) (hp:pol.pr f=none) (hl:okL f c) (k:Nat) (args:List R) (G:List (Nat×B)) :
  ev f k args G=if args.length≤n then fnn f k res rt (XE2 evo f k c ⟨q50 args 0,G,G.length,n⟩) else none:=by
 rw[qmP hp,q4T hb hl]
section
variable {σ ε:Type}
def itT (step:σ→Option (σ⊕ε)):Nat→σ→Option ε
 | 0,_=>none
 | n+1,x=>(step x).bind (Sum.elim (itT step n) some)
theorem qdv {step:σ→Option (σ⊕ε)}:∀{n m:Nat},n≤m→∀x r,itT step n x=some r→itT step m x=some r
 | 0,_,_,x,r,h=>by cases h
 | n+1,0,h,_,_,_=>by omega
 | n+1,m+1,h,x,r,hx=>by
  unfold itT at hx ⊢
  obtain⟨a,h1,h2⟩:=qLi.1 hx
  rw[h1,qLd]
  cases a with
  | inl y=>exact qdv (by omega) y r h2
  | inr e=>exact h2
def zG (step:σ→Option (σ⊕ε)) (x:σ):Option ε:=open Classical in if h:∃r n,itT step n x=some r then some (Classical.choose h) else none
theorem qd8 {step:σ→Option (σ⊕ε)} {n:Nat} {x:σ} {r:ε} (h:itT step n x=some r):zG step x=some r:=by
 have hex:∃r n,itT step n x=some r:=⟨r,n,h⟩
 unfold zG
 rw[dif_pos hex]
 obtain⟨m,hm⟩:=Classical.choose_spec hex
 have h1:=qdv (Nat.le_max_left n m) _ _ h
 have h2:=qdv (Nat.le_max_right n m) _ _ hm
 rw[h1] at h2
 injection h2 with h2
 rw[←h2]
theorem qaU {step:σ→Option (σ⊕ε)} {x:σ} {r:ε} (h:zG step x=some r):∃n,itT step n x=some r:=by
 unfold zG at h
 split at h
 ·rename_i hex
  injection h with h
  obtain⟨m,hm⟩:=Classical.choose_spec hex
  exact⟨m,h ▸ hm⟩
 ·cases h
theorem qdD (step:σ→Option (σ⊕ε)) (x:σ):zG step x=(step x).bind (Sum.elim (zG step) some):=by
 refine qdA (fun r h=>?_) (fun r h=>?_)
 ·obtain⟨n,hn⟩:=qaU h
  cases n with
  | zero=>cases hn
  | succ n=>
   unfold itT at hn
   obtain⟨a,h1,h2⟩:=qLi.1 hn
   rw[h1,qLd]
   cases a with
   | inl y=>exact qd8 h2
   | inr e=>exact h2
 ·obtain⟨a,h1,h2⟩:=qLi.1 h
  cases a with
  | inl y=>
   obtain⟨n,hn⟩:=qaU h2
   refine qd8 (n:=n+1) ?_
   unfold itT
   rw[h1];exact hn
  | inr e=>
   refine qd8 (n:=1) ?_
   unfold itT
   rw[h1];exact h2
end
theorem que {F:S→XS} {σ ε:Type} {st:σ→S} {ex:ε→Exit×S} {step:σ→Option (σ⊕ε)} (hne:∀e,(ex e).1 ≠ .normal)
  (h:∀x,F (st x)=(step x).bind (Sum.elim (fun y=>some (.normal,st y)) (fun e=>some (ex e)))) (x:σ):Lim F (st x)=(zG step x).bind fun e=>some (ex e):=by
 have hit:∀(n:Nat) (x:σ),iter n F (st x)=(itT step n x).bind fun e=>some (ex e):=by
  intro n
  induction n with
  | zero=>intro x;rfl
  | succ n ih=>
   intro x
   unfold iter itT
   rw[h x]
   cases step x with
   | none=>rfl
   | some a=>
    cases a with
    | inl y=>exact ih y
    | inr e=>
     show sqD (iter n F) (ex e)=some (ex e)
     have:=hne e
     generalize ex e=q at this
     obtain⟨z,t⟩:=q
     cases z<;>first|exact absurd rfl this|rfl
 refine qdA (fun r hr=>?_) (fun r hr=>?_)
 ·obtain⟨n,hn⟩:=qi8 hr
  rw[hit n x] at hn
  obtain⟨e,h1,h2⟩:=qLi.1 hn
  rw[qd8 h1];exact h2
 ·obtain⟨e,h1,h2⟩:=qLi.1 hr
  obtain⟨n,hn⟩:=qaU h1
  refine qr1 (n:=n) ?_
  rw[hit n x,hn];exact h2
theorem q6p {E:Orc} {f k key:Nat} {c:Code} {σ ε:Type} {st:σ→S} {ex:ε→Exit×S} {step:σ→Option (σ⊕ε)} (hc:lbO f key=c) (hl:okL f c) (hne:∀e,(ex e).1 ≠ .normal)
  (h:∀x,lz2 f k key (XE2 E f k c (st x))=(step x).bind (Sum.elim (fun y=>some (.normal,st y)) (fun e=>some (ex e)))) (x:σ):XL2 E f k key (st x)=(zG step x).bind fun e=>some (ex e):=by
 refine que hne (fun x=>?_) x
 rw[hc,qiT c hl]
 exact h x
def xk (E:Orc) (f k key:Nat) (r:XS):XS:=r.bind fun p=>match p.1 with | .normal=>XL2 E f k key p.2|e=>some (e,p.2)
section
variable {E:Orc} {f k key:Nat} {s:S} {c:Prop} [Decidable c] {α β:Type} {o:Option α} {g:α→XS} {h:β→XS} {e:α⊕β}
end
theorem Zc {α:Type} {c:Prop} [Decidable c] (x y:α):(if c then some x else some y)=some (if c then x else y):=by split<;>rfl
theorem QO {f key:Nat} {c b:Code} (hc:q7P f=c) (h:(Qd key c).getD .skip=b):lbO f key=b:=by unfold lbO;rw[hc];exact h
theorem Q6 {f:Nat} {c b:Code} (hl:okL f c) (hb:b∈JO c):okL f b:=⟨fun x hx=>hl.lo x ((qbk c b hb).1 x hx),fun q hq=>hl.ro q ((qbk c b hb).2 q hq)⟩
theorem qrh {f key:Nat} {c:Code} {q:Code×Code} (hl:okL f c) (hq:q∈ZP c):okL f q.1∧okL f q.2:=
 ⟨⟨fun x hx=>hl.lo x ((q3M c q hq).1 x (qLp _ hx)),fun x hx=>hl.ro x ((q3M c q hq).2 x (qLp _ hx))⟩,
   ⟨fun x hx=>hl.lo x ((q3M c q hq).1 x (qLm _ hx)),fun x hx=>hl.ro x ((q3M c q hq).2 x (qLm _ hx))⟩⟩
def rn2 (f k key:Nat) (o:Option B) (s:S):Option (R×List (Nat×B)):=o.bind fun b=>rd3 k (XE2 evo f k (rbO f key) (s.up [(k-1,b)]))
def rn1 (f k key:Nat) (r:XS):Option (R×List (Nat×B)):=r.bind fun p=>match p.1 with | .normal=>rn2 f k key (rdB (p.2.blk (k-1))) p.2|_=>none
section
variable {f k key:Nat} {s:S} {c:Prop} [Decidable c] {α β:Type} {o:Option α} {g:α→XS} {h:β→XS} {e:α⊕β}
theorem qjW:rn1 f k key (some (.normal,s))=rn2 f k key (rdB (s.blk (k-1))) s:=rfl
theorem qqd (b:B):rn2 f k key (some b) s=rd3 k (XE2 evo f k (rbO f key) (s.up [(k-1,b)])):=rfl
theorem qsj {n:Nat} (g:α→RS) (h:β→RS):rfk n (Sum.elim g h e)=Sum.elim (fun a=>rfk n (g a)) (fun a=>rfk n (h a)) e:=by cases e<;>rfl
end
theorem qh3 {f key k:Nat} {asg bd:Code} (ha:raO f key=asg) (hb:rbO f key=bd) (hk:0<k) (hc:q7d (drq pol f) false asg=true∧q7d (drq pol f) false bd=true) (la:okL f asg) (lb:okL f bd) (tm:List R) (G:List (Nat×B)) :
  evr f (raO f key) (rbO f key) k tm G=rn1 f k key (XE2 evo f k (raO f key) ⟨q50 tm 0,G,G.length,tm.length⟩):=by
 rw[qBa ha hb hk hc tm G,ha]
 have e1:∀s,XE f k asg s=XE2 evo f k asg s:=fun s=>qiT asg la s
 have e2:∀s,XE f k bd s=XE2 evo f k bd s:=fun s=>qiT bd lb s
 rw[e1]
 unfold rd1 rn1
 congr 1
 funext p
 obtain⟨x,t⟩:=p
 cases x<;>first
  | rfl
  | (show rd2 f k bd t (rdB (t.blk (k-1)))=rn2 f k key (rdB (t.blk (k-1))) t
     unfold rd2 rn2
     rw[hb]
     congr 1
     funext b
     rw[e2])
theorem qrr {f key:Nat} {c b:Code} (hc:q7P f=c) (h:((roundOf key c).getD (.skip,.skip)).1=b):raO f key=b:=by unfold raO;rw[hc];exact h
theorem qrq {f key:Nat} {c b:Code} (hc:q7P f=c) (h:((roundOf key c).getD (.skip,.skip)).2=b):rbO f key=b:=by unfold rbO;rw[hc];exact h
section
variable {σ ε:Type} (f k:Nat) (enc:σ→List R×List (Nat×B)) (ex:ε→R×List (Nat×B))
def ovr (F:σ→Option ε):Orc:=fun g k' args G=>open Classical in if h:(g = .fn f∧k'=k)∧∃y,enc y=(args,G) then(F (Classical.choose h.2)).bind fun e=>some (ex e) else evo g k' args G
def q7N (y:σ):Option ε:=open Classical in if h:∃e,ev f k (enc y).1 (enc y).2=some (ex e) then some (Classical.choose h) else none
variable {f k enc ex}
theorem qsO (hi:∀y z,enc y=enc z→y=z) (F:σ→Option ε) (y:σ):ovr f k enc ex F (.fn f) k (enc y).1 (enc y).2=(F y).bind fun e=>some (ex e):=by
 have h:((Fx.fn f=Fx.fn f)∧k=k)∧∃z,enc z=((enc y).1,(enc y).2):=⟨⟨rfl,rfl⟩,y,rfl⟩
 unfold ovr
 rw[dif_pos h]
 rw[hi _ _ ((Classical.choose_spec h.2).trans rfl)]
theorem qod (F:σ→Option ε) (g k':Nat) (a:List R) (G:List (Nat×B)) (h:g≠f):ovr f k enc ex F (.fn g) k' a G=ev g k' a G:=by
 unfold ovr
 rw[dif_neg (fun h'=>h (by injection h'.1.1))]
 rfl
theorem qAF (F:σ→Option ε) (g:Nat) (asg bd:Code) (k':Nat) (a:List R) (G:List (Nat×B)):ovr f k enc ex F (.rd g asg bd) k' a G=evr g asg bd k' a G:=by
 unfold ovr
 rw[dif_neg (fun h'=>by cases h'.1.1)]
 rfl
def q7W (f k:Nat) (enc:σ→List R×List (Nat×B)) (ex:ε→R×List (Nat×B)) (step:(σ→Option ε)→σ→Option ε):Prop:=
 ∀(E:Orc) (F:σ→Option ε),(∀y,E (.fn f) k (enc y).1 (enc y).2=(F y).bind fun e=>some (ex e))→(∀g k' a G,g≠f→E (.fn g) k' a G=ev g k' a G)→(∀g asg bd k' a G,E (.rd g asg bd) k' a G=evr g asg bd k' a G)→
  ∀y,qa7 E f k (enc y).1 (enc y).2=(step F y).bind fun e=>some (ex e)
theorem qjv {E E':Orc} (h:OLe E E') (L:(S→XS)→S→XS) (hL:LLe L Lim) {f k:Nat} {args:List R} {G:List (Nat×B)} {bd:Bd} {x:R×List (Nat×B)} (hb:qL Tryz.prog pol f=some bd) (hx:q98 Tryz.prog T pol (D1 Tryz.prog T pol) E L f k args G bd=some x):qa7 E' f k args G=some x:=by
 unfold qa7
 rw[hb,qLd]
 exact qcw qbr h hL hx
theorem qum (hp:pol.pr f=none) (hi:∀y z,enc y=enc z→y=z) {step:(σ→Option ε)→σ→Option ε} (hs:q7W f k enc ex step) :
  ∀(n:Nat) (y:σ) (z:R×List (Nat×B)),xf Tryz.prog T pol (D1 Tryz.prog T pol) n (.fn f) k (enc y).1 (enc y).2=some z→∃e,z=ex e:=by
 intro n
 induction n with
 | zero=>intro y z h;cases h
 | succ n ih=>
  intro y z h
  obtain⟨F,hF⟩:∃F:σ→Option ε,∀y z,xf Tryz.prog T pol (D1 Tryz.prog T pol) n (.fn f) k (enc y).1 (enc y).2=some z→(F y).bind (fun e=>some (ex e))=some z:=by
   refine⟨fun y=>open Classical in if h:∃e,xf Tryz.prog T pol (D1 Tryz.prog T pol) n (.fn f) k (enc y).1 (enc y).2=some (ex e) then some (Classical.choose h) else none,fun y z hz=>?_⟩
   obtain⟨e,rfl⟩:=ih y z hz
   have hex:∃e,xf Tryz.prog T pol (D1 Tryz.prog T pol) n (.fn f) k (enc y).1 (enc y).2=some (ex e):=⟨e,hz⟩
   simp only[dif_pos hex,qLd]
   rw[←Classical.choose_spec hex,hz]
  have hle:OLe (xf Tryz.prog T pol (D1 Tryz.prog T pol) n) (ovr f k enc ex F):=by
   intro g k' args G x hx
   unfold ovr
   split
   ·rename_i hh
    obtain⟨⟨rfl,rfl⟩,hy⟩:=hh
    have e1:=Classical.choose_spec hy
    refine hF _ _ ?_
    rw[e1];exact hx
   ·exact qjm qbr _ _ _ _ _ hx
  have h2:∃bd,qL Tryz.prog pol f=some bd∧q98 Tryz.prog T pol (D1 Tryz.prog T pol) (xf Tryz.prog T pol (D1 Tryz.prog T pol) n) (iter n) f k (enc y).1 (enc y).2 bd=some z:=by
   have h3:fnx Tryz.prog T pol (D1 Tryz.prog T pol) (xf Tryz.prog T pol (D1 Tryz.prog T pol) n) (iter n) f k (enc y).1 (enc y).2=some z:=h
   unfold fnx at h3
   rw[hp] at h3
   exact qLi.1 h3
  obtain⟨bd,hb,hx⟩:=h2
  have h4:=qjv hle (iter n) (qfN n) hb hx
  rw[hs _ F (qsO hi F) (qod F) (qAF F) y] at h4
  obtain⟨e,-,h5⟩:=qLi.1 h4
  injection h5 with h5
  exact⟨e,h5.symm⟩
theorem q9N (hp:pol.pr f=none) (hi:∀y z,enc y=enc z→y=z) {step:(σ→Option ε)→σ→Option ε} (hs:q7W f k enc ex step) (y:σ):ev f k (enc y).1 (enc y).2=(q7N f k enc ex y).bind fun e=>some (ex e):=by
 unfold q7N
 split
 ·rename_i h
  rw[qLd]
  exact Classical.choose_spec h
 ·rename_i h
  cases hv:ev f k (enc y).1 (enc y).2 with
  | none=>rfl
  | some z=>
   obtain⟨n,hn⟩:=q9e (show EE Tryz.prog T pol (D1 Tryz.prog T pol) (.fn f) k (enc y).1 (enc y).2=some z from hv)
   obtain⟨e,rfl⟩:=qum hp hi hs n y z hn
   exact absurd ⟨e,hv⟩ h
theorem qcH (hp:pol.pr f=none) (hi:∀y z,enc y=enc z→y=z) (hj:∀d e,ex d=ex e→d=e) {step:(σ→Option ε)→σ→Option ε} (hs:q7W f k enc ex step) (y:σ):q7N f k enc ex y=step (q7N f k enc ex) y:=by
 have h1:=hs evo (q7N f k enc ex) (q9N hp hi hs) (fun _ _ _ _ _=>rfl) (fun _ _ _ _ _ _=>rfl) y
 rw[←qmP hp,q9N hp hi hs y] at h1
 cases h2:q7N f k enc ex y with
 | none=>
  rw[h2] at h1
  cases h3:step (q7N f k enc ex) y with
  | none=>rfl
  | some e=>rw[h3] at h1;cases h1
 | some d=>
  rw[h2] at h1
  cases h3:step (q7N f k enc ex) y with
  | none=>rw[h3] at h1;cases h1
  | some e=>
   rw[h3] at h1
   injection h1 with h1
   rw[hj _ _ h1]
end
end
noncomputable section
open Go.RowKit
section
variable {α:Type} {E:α→List D} {n:Nat}
theorem qfI (h:∀x,(E x).length=n):∀(v:List α) (a:Nat),(v.flatMap E).drop (a*n)=(v.drop a).flatMap E
 | [],a=>by simp
 | x::v,0=>by simp
 | x::v,a+1=>by
  rw[qMj,show(a+1)*n=(E x).length+a*n by rw[h,Nat.add_mul];omega,List.drop_length_add_append]
  exact qfI h v a
theorem qdc (h:∀x,(E x).length=n):∀(v:List α) (a:Nat),(v.flatMap E).take (a*n)=(v.take a).flatMap E
 | [],a=>by simp
 | x::v,0=>by simp
 | x::v,a+1=>by
  rw[qMj,show(a+1)*n=(E x).length+a*n by rw[h,Nat.add_mul];omega,List.take_length_add_append,List.take_succ_cons,qMj,qdc h v a]
theorem qee (v:List α) (x:α):(v.flatMap E).map C.d++(E x).map C.d=((v++[x]).flatMap E).map C.d:=by simp
theorem qmq {β:Type}:∀(ys p q:List β) (o:Nat),o+ys.length≤p.length→spl (p++q) o ys=spl p o ys++q
 | [],p,q,o,_=>rfl
 | y::ys,p,q,o,h=>by
  rw[qLo] at h
  rw[spl,spl,List.set_append_left _ _ (by omega),qmq ys _ q (o+1) (by rw[qLZ];omega)]
theorem qix {β:Type}:∀(ys p q:List β) (o:Nat),spl (p++q) (p.length+o) ys=p++spl q o ys
 | [],p,q,o=>rfl
 | y::ys,p,q,o=>by
  rw[spl,spl,List.set_append_right _ _ (by omega),show p.length+o-p.length=o by omega,show p.length+o+1=p.length+(o+1) by omega,qix ys]
theorem qj0 {β:Type}:∀(ys p pre:List β),p.length=ys.length→spl (pre++p) pre.length ys=pre++ys
 | [],p,pre,h=>by rw[qLw h];rfl
 | y::ys,[],pre,h=>by cases h
 | y::ys,x::p,pre,h=>by
  have e:(pre++x::p).set pre.length y=(pre++[y])++p:=by rw[List.set_append_right _ _ (qLt _),Nat.sub_self];simp
  rw[spl,e,show pre.length+1=(pre++[y]).length by simp,qj0 ys p _ (by simpa using h)]
  simp
theorem qnb {β:Type}:∀(ys:List β) (o:Nat),spl [] o ys=[]
 | [],o=>rfl
 | y::ys,o=>by rw[spl,List.set_nil,qnb ys]
theorem qlR (h:∀x,(E x).length=n):∀(v:List α) (i:Nat) (x:α),spl (v.flatMap E) (i*n) (E x)=(v.set i x).flatMap E
 | [],i,x=>by rw[List.flatMap_nil,qnb];rfl
 | y::v,0,x=>by
  rw[qMj,Nat.zero_mul,qmq _ _ _ _ (by rw[h,h];omega)]
  have:=qj0 (E x) (E y) [] (by rw[h,h])
  simp only[qLx,qLX] at this
  rw[this];rfl
 | y::v,i+1,x=>by
  rw[qMj,show(i+1)*n=(E y).length+i*n by rw[h,Nat.add_mul];omega,qix,qlR h v i x]
  rfl
theorem qgW {β γ:Type} (f:β→γ):∀(ys cs:List β) (o:Nat),spl (cs.map f) o (ys.map f)=(spl cs o ys).map f
 | [],cs,o=>rfl
 | y::ys,cs,o=>by rw[qLA,spl,spl,←List.map_set,qgW f ys]
theorem qdO (h:∀x,(E x).length=n) (v:List α) (i:Nat) (x:α):spl ((v.flatMap E).map C.d) (i*n) ((E x).map C.d)=((v.set i x).flatMap E).map C.d:=by rw[qgW,qlR h]
theorem ql9 {β:Type}:∀(ys zs cs:List β) (o:Nat),spl cs o (ys++zs)=spl (spl cs o ys) (o+ys.length) zs
 | [],zs,cs,o=>rfl
 | y::ys,zs,cs,o=>by rw[qMk,spl,spl,ql9 ys,qLo,show o+1+ys.length=o+(ys.length+1) by omega]
theorem qmQ (h:∀x,(E x).length=n):∀(w v:List α) (i:Nat),spl (v.flatMap E) (i*n) (w.flatMap E)=(spl v i w).flatMap E
 | [],v,i=>rfl
 | x::w,v,i=>by rw[qMj,ql9,qlR h,h,spl,show i*n+n=(i+1)*n by rw[Nat.add_mul];omega,qmQ h w]
theorem qwi (m:Nat) (x:α):(List.replicate m (E x)).flatten=(List.replicate m x).flatMap E:=by
 rw[List.flatMap_def,List.map_replicate]
theorem qlw {cs:List C} (x:α) (hx:cs=(E x).map C.d) (m:Nat):(List.replicate m cs).flatten=((List.replicate m x).flatMap E).map C.d:=by
 subst hx
 rw[←qwi,List.map_flatten,List.map_replicate]
end
theorem q2u {α:Type} {E:α→List D} {n:Nat} (h:∀x,(E x).length=n) (hn:0<n) (hi:∀x y,E x=E y→x=y):∀(v w:List α),v.flatMap E=w.flatMap E→v=w
 | [],[],_=>rfl
 | [],y::w,e=>by
  have:=congrArg List.length e
  rw[qMj,qLk,h] at this
  simp at this;omega
 | x::v,[],e=>by
  have:=congrArg List.length e
  rw[qMj,qLk,h] at this
  simp at this;omega
 | x::v,y::w,e=>by
  rw[qMj,qMj] at e
  obtain⟨h1,h2⟩:=List.append_inj e (by rw[h,h])
  rw[hi x y h1,q2u h hn hi v w h2]
theorem q1z (a b:List D):(a.map C.d=b.map C.d)=(a=b):=by
 refine propext ⟨fun h=>?_,fun h=>by rw[h]⟩
 induction a generalizing b with
 | nil=>cases b with|nil=>rfl|cons=>cases h
 | cons x a ih=>
  cases b with
  | nil=>cases h
  | cons y b=>
   rw[qLA,qLA] at h
   injection h with h1 h2
   injection h1 with h1
   rw[h1,ih b h2]
def eI (x:Int):List D:=[.int .i64 x]
def eB (x:Bool):List D:=[.bool x]
def eS (x:ByteArray):List D:=[.str x]
def eU8 (x:Int):List D:=[.int .u8 x]
def eL {α:Type} (n:Nat) (E:α→List D) (v:List α):List D:=[.sl n v.length (v.flatMap E)]
theorem qjN (l:List UInt8):u8s l=(l.map fun b=>(b.toNat:Int)).flatMap eU8:=by
 induction l with
 | nil=>rfl
 | cons b l ih=>rw[qLA,qMj,←ih];rfl
def qfA (s:ByteArray):List Int:=s.data.toList.map fun b=>(b.toNat:Int)
theorem qCd (s:ByteArray):u8s s.data.toList=(qfA s).flatMap eU8:=qjN _
theorem quP (s:ByteArray):D.sl 1 s.size ((qfA s).flatMap eU8)=D.sl 1 (qfA s).length ((qfA s).flatMap eU8):=by
 rw[show(qfA s).length=s.size by unfold qfA;rw[qLW,Array.length_toList];rfl]
theorem qmt {α β γ:Type} (f:β→γ) (o:Option α) (g:α→Option β):(o.bind g).map f=o.bind fun x=>(g x).map f:=by cases o<;>rfl
theorem qpJ {α β:Type} {c:Prop} [Decidable c] (f:α→β) (x y:Option α):(if c then x else y).map f=if c then x.map f else y.map f:=by split<;>rfl
theorem quF (P:Program) (T:Ty) (d:Nat) (t:TypeId) (x y:R):eqR P T (d+1) t x y =
  match T.k t,x,y with
  | .int _,.c (.d (.int k a)),.c (.d (.int k' b))=>if k=k' then some (a==b) else none
  | .bool,.c (.d (.bool a)),.c (.d (.bool b))=>some (a==b)
  | .str,.c (.d (.str a)),.c (.d (.str b))=>some (a.toList==b.toList)
  | .st fs,.agg xs,.agg ys=>if qfk P t=true then qnl T (eqR P T d) xs ys fs else none
  | .arr n e,.agg xs,.agg ys=>if qqM P t=true∧T.k e ≠ .other then qnl T (eqR P T d) xs ys (qh1 (T.sz e) e n 0) else none
  | _,_,_=>none:=by
 generalize hk:T.k t=kd
 unfold eqR
 rw[hk]
 cases kd<;>first
  | rfl
  | (rcases x with (c|_|_|_)<;>first
    | rfl
    | (rcases y with (c' | _|_|_)<;>first
      | rfl
      | (cases c<;>first
        | rfl
        | (cases c'<;>first
          | rfl
          | (rename_i d1 d2;cases d1<;>first
            | rfl
            | (cases d2<;>rfl))))))
section
variable {α β:Type} {c:Prop} [Decidable c] (a b:List α)
theorem qrJ (f:α→Bool):(if c then a else b).any f=if c then a.any f else b.any f:=by split<;>rfl
theorem qrR (f:α→β):(if c then a else b).map f=if c then a.map f else b.map f:=by split<;>rfl
theorem qfY:(if c then a else b).isEmpty=if c then a.isEmpty else b.isEmpty:=by split<;>rfl
theorem qeW [BEq α] (x:α):(if c then a else b).contains x=if c then a.contains x else b.contains x:=by split<;>rfl
end
def qCs (op:UnOp) (r:R) (s:S):RS:=
 match op,r with
 | .not,.c (.d (.bool b))=>some (.c (.d (.bool (!b))),s)
 | .neg,.c (.d (.int k n))=>some (.c (.d (.int k (k.wrap (0-n)))),s)
 | _,_=>none
theorem qwA (s:S) (op:UnOp) (x:Operand):xUn s op x=qCs op (s.ev x) s:=by
 unfold xUn qCs
 generalize s.ev x=r
 cases op<;>first
  | rfl
  | (cases r with
     | c c=>cases c with
      | d d=>cases d<;>rfl
      | _=>rfl
     | _=>rfl)
def lkq (ok:Bool) (z:R):Option (Nat×R×Nat)→Option R
 | some q=>some (tt2 q.2.1 ok true)
 | none=>some (tt2 z ok false)
theorem qrZ {c:Prop} [Decidable c] (ok:Bool) (z:R) (x y:Option (Nat×R×Nat)):lkq ok z (if c then x else y)=if c then lkq ok z x else lkq ok z y:=by split<;>rfl
theorem qjH (T:Ty) (s:S) (t:TypeId) (x y:Operand) (ok:Bool):q5P T s t x y ok =
  match T.k t,q8G s x,(s.ev y).key with
  | .mp k e,some es,some kv=>if plK (T.k k) kv=true∧es.all (fun q=>plK (T.k k) q.1)=true then(zR T e).bind fun z=>lkq ok z (fnd kv es 0) else none
  | _,_,_=>none:=by
 unfold q5P
 generalize T.k t=kd
 generalize q8G s x=m
 generalize (s.ev y).key=v
 cases kd<;>first
  | rfl
  | (cases m<;>first
    | rfl
    | (cases v<;>first
      | rfl
      | (simp only
         split
         ·congr 1
          funext z
          cases fnd _ _ _<;>rfl
         ·rfl)))
theorem qkE (xs ys:List C):(xs++ys).flatMap C.rows=xs.flatMap C.rows++ys.flatMap C.rows:=List.flatMap_append
theorem qpp (f:C→C) (ds:List D) (ys:List C):(ds.map C.d++ys).map f=(ds.map C.d).map f++ys.map f:=List.map_append
theorem qna (zs0:List Nat):∀(zs:List Nat) (ds:List D) (ys:List C),zs.length=ds.length→dzc zs0 zs (ds.map C.d++ys)=ds.map C.d++dzc zs0 [] ys
 | [],[],ys,_=>rfl
 | [],d::ds,ys,h=>by cases h
 | z::zs,[],ys,h=>by cases h
 | z::zs,d::ds,ys,h=>by
  rw[qLA,qMk,dzc,qna zs0 zs ds ys (by simpa using h)]
  rfl
theorem qrb {α:Type} {E:α→List D} {n:Nat} (h:∀x,(E x).length=n+1) (zs0:List Nat) (h0:zs0.length=n+1):∀(v:List α) (ys:List C),dzc zs0 [] ((v.flatMap E).map C.d++ys)=(v.flatMap E).map C.d++dzc zs0 [] ys
 | [],ys=>rfl
 | x::v,ys=>by
  have hx:=h x
  rw[qMj,List.map_append,qLT,qLT,←qrb h zs0 h0 v ys]
  cases hE:E x with
  | nil=>rw[hE] at hx;cases hx
  | cons d ds=>
   rw[hE] at hx
   rw[qLA,qMk,dzc,qna zs0 zs0.tail ds _ (by rw[List.length_tail];simp at hx;omega)]
   rfl
def qC0 {α:Type} (a b:Option α):Prop:=∀r,a=some r→b=some r
theorem qC0.bind {α β:Type} {a b:Option α} {f g:α→Option β} (h:qC0 a b) (hf:∀x,qC0 (f x) (g x)):qC0 (a.bind f) (b.bind g):=fun r hr=>by
 obtain⟨x,h1,h2⟩:=qLi.1 hr
 rw[h x h1]
 exact hf x r h2
def spr (cs:List C) (o:Nat) (ys:List C):List C:=spl cs o ys
theorem qmW (t:TypeId) (cs ys:List C) (o:Nat):(B.blk t cs).set o ys = .blk t (spl cs o ys):=rfl
theorem qlX (e:TypeId) (sz:Nat) (cs ys:List C) (o:Nat):(B.row e sz cs).set o ys = .row e sz (spr cs o ys):=rfl
def xsl (T:Ty) (s:S) (t:TypeId) (x:R) (lo hi:Option Operand):RS:=
 match x,T.k t with
 | .c (.d (.str b)),.str=>
  match s.bd lo 0,s.bd hi b.size with
  | some l,some h=>if 0≤l∧l≤h∧h≤b.size then some (.c (.d (.str (b.extract l.toNat h.toNat))),s) else none
  | _,_=>none
 | .c (.d (.sl sz n cs)),.sl e=>
  if T.k e ≠ .other∧T.sz e=sz then
   match s.bd lo 0,s.bd hi n with
   | some l,some h=>if 0≤l∧l≤h∧h≤n then some (.c (.d (.sl sz (h.toNat-l.toNat) ((cs.drop (l.toNat*sz)).take ((h.toNat-l.toNat)*sz)))),s) else none
   | _,_=>none
  else none
 | .c (.own id sz off n),.sl e=>
  if T.k e ≠ .other∧T.sz e=sz then
   match s.bd lo 0,s.bd hi n with
   | some l,some h=>if 0≤l∧l≤h∧h≤n then(if l=0∨l<n then some (.c (.own id sz (off+l.toNat) (h.toNat-l.toNat)),s) else some (.c (.d (.sl sz 0 [])),s)) else none
   | _,_=>none
  else none
 | .c .nils,.sl e=>
  if T.k e ≠ .other then
   match s.bd lo 0,s.bd hi 0 with
   | some l,some h=>if l=0∧h=0 then some (.c .nils,s) else none
   | _,_=>none
  else none
 | _,_=>none
theorem qkk (T:Ty) (s:S) (t:TypeId) (x:Operand) (lo hi:Option Operand):qfe T s t x lo hi none=xsl T s t (s.ev x) lo hi:=by
 unfold qfe xsl
 generalize s.ev x=r
 generalize T.k t=kd
 cases r with
 | c c=>
  cases c with
  | d d=>cases d<;>cases kd<;>rfl
  | _=>cases kd<;>rfl
 | _=>rfl
section
variable {T:Ty} {s:S} {t:TypeId} {lo hi:Option Operand}
theorem qES {id sz off n:Nat}:xsl T s t (.c (.own id sz off n)) none hi =
  match T.k t with
  | .sl e=>if T.k e ≠ .other∧T.sz e=sz then
   match s.bd hi n with
   | some h=>if 0≤h∧h≤n then some (.c (.own id sz off (min h.toNat n)),s) else none
   | _=>none
   else none
  | _=>none:=by
 unfold xsl
 cases T.k t<;>try rfl
 dsimp only[S.bd]
 split
 ·split
  ·rename_i l h h1 h2
   injection h1 with h1
   subst h1
   rw[h2]
   dsimp only
   by_cases hc:0≤h∧h≤n
   ·rw[if_pos ⟨Int.le_refl _,hc⟩,if_pos (.inl rfl),if_pos hc,show min h.toNat n=h.toNat by omega]
    rfl
   ·rw[if_neg (fun q=>hc q.2),if_neg hc]
  ·rename_i h1
   split
   ·rename_i h h2
    exact absurd h2 (h1 0 h rfl)
   ·rfl
 ·rfl
theorem qvU {id sz off n:Nat} {lo:Operand}:xsl T s t (.c (.own id sz off n)) (some lo) hi =
  match T.k t with
  | .sl e=>if T.k e ≠ .other∧T.sz e=sz then
   match s.bd (some lo) 0,s.bd hi n with
   | some l,some h=>if 0≤l∧l≤h∧h≤n then(if l=0∨l<n then some (.c (.own id sz (off+l.toNat) (h.toNat-l.toNat)),s) else some (.c (.d (.sl sz 0 [])),s)) else none
   | _,_=>none
   else none
  | _=>none:=by unfold xsl;cases T.k t<;>rfl
end
def qw7 {α:Type} (s:S) (E:α→List D) (n:Nat) (v:List α) (l h:Option Int):RS:=
 match l,h with
 | some l,some h=>if 0≤l∧l≤h∧h≤v.length then some (.c (.d (.sl n ((v.drop l.toNat).take (h.toNat-l.toNat)).length (((v.drop l.toNat).take (h.toNat-l.toNat)).flatMap E))),s) else none
 | _,_=>none
theorem qmK {α:Type} {E:α→List D} {n:Nat} (h:∀x,(E x).length=n) {T:Ty} {s:S} {t e:TypeId} (v:List α) (lo hi:Option Operand) (hk:T.k t = .sl e) (hz:T.sz e=n) (ho:T.k e ≠ .other) :
  xsl T s t (.c (.d (.sl n v.length (v.flatMap E)))) lo hi=qw7 s E n v (s.bd lo 0) (s.bd hi v.length):=by
 unfold xsl
 simp only[hk]
 rw[if_pos ⟨ho,hz⟩]
 unfold qw7
 cases s.bd lo 0 with
 | none=>rfl
 | some l=>
  cases s.bd hi v.length with
  | none=>rfl
  | some h'=>
   simp only
   split
   ·rename_i hc
    rw[qfI h,qdc h,qLG,qM0,Nat.min_eq_left (by omega)]
   ·rfl
abbrev dI (n:Int):C:=C.d (D.int .i64 n)
abbrev dS (s:ByteArray):C:=C.d (D.str s)
abbrev dB (b:Bool):C:=C.d (D.bool b)
abbrev dL {α:Type} (n:Nat) (E:α→List D) (v:List α):C:=C.d (D.sl n v.length (v.flatMap E))
abbrev dO (i sz n:Nat):C:=C.own i sz 0 n
abbrev dP (i:Nat):C:=C.ptr i 0
abbrev rI (n:Int):R:=R.c (C.d (D.int .i64 n))
abbrev rS (s:ByteArray):R:=R.c (C.d (D.str s))
abbrev rB (b:Bool):R:=R.c (C.d (D.bool b))
abbrev rL {α:Type} (n:Nat) (E:α→List D) (v:List α):R:=R.c (C.d (D.sl n v.length (v.flatMap E)))
abbrev rO (i sz n:Nat):R:=R.c (C.own i sz 0 n)
abbrev rP (i:Nat):R:=R.c (C.ptr i 0)
abbrev bR {α:Type} (e sz:Nat) (E:α→List D) (v:List α):B:=B.row e sz ((v.flatMap E).map C.d)
theorem XLs {E:Orc} {f k key:Nat} {c:Code} {σ ε:Type} {st:σ→S} {ex:ε→XS} {step:σ→Option (σ⊕ε)} (hc:lbO f key=c) (hl:okL f c) (hne:∀e,∃p,ex e=some p∧p.1 ≠ .normal)
  (h:∀x,lz2 f k key (XE2 E f k c (st x))=(step x).bind (Sum.elim (fun y=>some (.normal,st y)) ex)) (x:σ):XL2 E f k key (st x)=(zG step x).bind ex:=by
 obtain⟨g,hg⟩:∃g:ε→Exit×S,∀e,ex e=some (g e)∧(g e).1 ≠ .normal:=⟨fun e=>Classical.choose (hne e),fun e=>Classical.choose_spec (hne e)⟩
 obtain rfl:ex=fun e=>some (g e):=funext fun e=>(hg e).1
 exact q6p (ex:=g) hc hl (fun e=>(hg e).2) h x
theorem qbd {E:Orc} {f k key:Nat} {c:Code} {A1 ε:Type} {st:A1→S} {ex:ε→XS} {step:A1→Option ((A1)⊕ε)} (hc:lbO f key=c) (hl:okL f c) (hne:∀e,∃p,ex e=some p∧p.1 ≠ .normal)
  (h:∀a1,lz2 f k key (XE2 E f k c (st a1))=(step a1).bind (Sum.elim (fun y=>some (.normal,st y)) ex)) (a1:A1):XL2 E f k key (st a1)=(zG step a1).bind ex:=
 XLs (st:=fun y=>st y) hc hl hne (fun a1=>h a1) a1
theorem qcb {E:Orc} {f k key:Nat} {c:Code} {A1 A2 ε:Type} {st:A1→A2→S} {ex:ε→XS} {step:(A1×A2)→Option ((A1×A2)⊕ε)} (hc:lbO f key=c) (hl:okL f c) (hne:∀e,∃p,ex e=some p∧p.1 ≠ .normal)
  (h:∀a1 a2,lz2 f k key (XE2 E f k c (st a1 a2))=(step (a1,a2)).bind (Sum.elim (fun y=>some (.normal,st y.1 y.2)) ex)) (a1:A1) (a2:A2):XL2 E f k key (st a1 a2)=(zG step (a1,a2)).bind ex:=
 XLs (st:=fun y=>st y.1 y.2) hc hl hne (fun⟨a1,a2⟩=>h a1 a2) (a1,a2)
theorem qBX {E:Orc} {f k key:Nat} {c:Code} {A1 A2 A3 ε:Type} {st:A1→A2→A3→S} {ex:ε→XS} {step:(A1×A2×A3)→Option ((A1×A2×A3)⊕ε)} (hc:lbO f key=c) (hl:okL f c) (hne:∀e,∃p,ex e=some p∧p.1 ≠ .normal)
  (h:∀a1 a2 a3,lz2 f k key (XE2 E f k c (st a1 a2 a3))=(step (a1,a2,a3)).bind (Sum.elim (fun y=>some (.normal,st y.1 y.2.1 y.2.2)) ex)) (a1:A1) (a2:A2) (a3:A3):XL2 E f k key (st a1 a2 a3)=(zG step (a1,a2,a3)).bind ex:=
 XLs (st:=fun y=>st y.1 y.2.1 y.2.2) hc hl hne (fun⟨a1,a2,a3⟩=>h a1 a2 a3) (a1,a2,a3)
theorem qFB {E:Orc} {f k key:Nat} {c:Code} {A1 A2 A3 A4 ε:Type} {st:A1→A2→A3→A4→S} {ex:ε→XS} {step:(A1×A2×A3×A4)→Option ((A1×A2×A3×A4)⊕ε)} (hc:lbO f key=c) (hl:okL f c) (hne:∀e,∃p,ex e=some p∧p.1 ≠ .normal)
  (h:∀a1 a2 a3 a4,lz2 f k key (XE2 E f k c (st a1 a2 a3 a4))=(step (a1,a2,a3,a4)).bind (Sum.elim (fun y=>some (.normal,st y.1 y.2.1 y.2.2.1 y.2.2.2)) ex)) (a1:A1) (a2:A2) (a3:A3) (a4:A4):XL2 E f k key (st a1 a2 a3 a4)=(zG step (a1,a2,a3,a4)).bind ex:=
 XLs (st:=fun y=>st y.1 y.2.1 y.2.2.1 y.2.2.2) hc hl hne (fun⟨a1,a2,a3,a4⟩=>h a1 a2 a3 a4) (a1,a2,a3,a4)
abbrev aY5:List R:=[R.any,R.any,R.any,R.any,R.any]
abbrev aY6:List R:=[R.any,R.any,R.any,R.any,R.any,R.any]
abbrev aY9:List R:=R.any::R.any::R.any::R.any::aY5
abbrev qHI:List R:=R.any::R.any::R.any::R.any::aY6
abbrev qI0:List R:=R.any::R.any::R.any::R.any::aY9
abbrev qHX:List R:=R.any::R.any::R.any::R.any::qHI
abbrev qIM:List R:=R.any::R.any::R.any::R.any::qI0
abbrev qJ6:List R:=R.any::R.any::R.any::R.any::qHX
abbrev qJz:List R:=R.any::R.any::R.any::R.any::qIM
abbrev q7k:List R:=R.any::R.any::R.any::R.any::qJ6
abbrev qGV:List R:=R.any::R.any::R.any::R.any::qJz
abbrev qK2:List R:=R.any::R.any::R.any::R.any::qGV
abbrev qJd:List R:=R.any::R.any::R.any::R.any::qK2
abbrev qIu:List R:=R.any::R.any::R.any::R.any::qJd
def dzU (Q:TypeId→List Nat):B→B
 | .row e sz cs => .row e sz (dzc (Q e) [] cs)
 | b=>b
theorem qzk (z:Nat) {c:C} (h:c.isNils=false):dz z c=c:=by
 cases c<;>first|rfl|cases h
theorem qev (zs0:List Nat):∀{cs:List C} (zs:List Nat),cs.any C.isNils=false→dzc zs0 zs cs=cs
 | [],zs,_=>by cases zs<;>rfl
 | c::cs,zs,h=>by
  rw[List.any_cons,Bool.or_eq_false_iff] at h
  cases zs with
  | nil=>rw[dzc,qzk _ h.1,qev zs0 _ h.2]
  | cons z zs=>rw[dzc,qzk _ h.1,qev zs0 _ h.2]
theorem qCX (Q:TypeId→List Nat) (b:B):dzB Q b=dzU Q b:=by
 cases b with
 | row e sz cs=>
  unfold dzB dzU
  simp only
  split
  ·rfl
  ·rename_i h
   rw[qev _ _ (by simpa using h)]
 | _=>rfl
theorem qB1 (Q:TypeId→List Nat) (b:B) (h:b.nilr=false):dzU Q b=b:=by
 cases b with
 | row e sz cs=>unfold dzU;simp only;rw[qev _ _ h]
 | _=>rfl
theorem qyC (tm:List (Nat×R)) (hp:List (Nat×B)) (nx n:Nat) (Q:TypeId→List Nat):S.dzr (S.mk tm hp nx n) Q=S.mk tm (hp.map fun x=>(x.1,dzU Q x.2)) nx n:=by
 unfold S.dzr
 split
 ·simp only[qCX]
 ·rename_i h
  congr 1
  have h2:∀x∈hp,x.2.nilr=false:=fun x hx=>by
   cases hb:x.2.nilr with
   | false=>rfl
   | true=>exact absurd (qM8.2 ⟨x,hx,hb⟩) h
  refine(List.map_id' hp).symm.trans (List.map_congr_left fun x hx=>?_)
  rw[qB1 Q x.2 (h2 x hx)]
theorem qvg (Q:TypeId→List Nat) (e sz:Nat) (cs:List C):dzU Q (.row e sz cs) = .row e sz (dzc (Q e) [] cs):=rfl
theorem qrU (Q:TypeId→List Nat) (t:Nat) (cs:List C):dzU Q (.blk t cs) = .blk t cs:=rfl
theorem qzI (Q:TypeId→List Nat) (o:AO):dzU Q (.ob o) = .ob o:=rfl
theorem qqL (Q:TypeId→List Nat):dzU Q .dead = .dead:=rfl
theorem qs6 {α:Type} (x:α):Option.toArray (some x)=[x].toArray:=rfl
theorem qti {α:Type}:Option.toArray (none:Option α)=([]:List α).toArray:=rfl
theorem qyV {α:Type} (l m:List α):l.toArray++m.toArray=(l++m).toArray:=by simp
theorem qsX {α:Type} (l:List α):Array.toList l.toArray=l:=rfl
end
noncomputable section
open Go.RowKit
set_option maxRecDepth 20000
section
variable {κ ν:Type} [DecidableEq κ]
end
section
variable {κ ν:Type} {kE:κ→Value} {vE:ν→R}
variable [DecidableEq κ] (hk:∀a b,kq (kE a) (kE b)=decide (a=b))
include hk
end
section
variable {κ ν:Type} {kE:κ→Value} {vE:ν→R} [DecidableEq κ]
end
def mpq:B→Option (List (Value×R×Nat))
 | .ob (.mp es _)=>some es
 | _=>none
def mpo (s:S):R→Option (List (Value×R×Nat))
 | .c .nilm=>some []
 | .c (.hd .map id)=>mpq (s.blk id)
 | _=>none
theorem qoI (s:S) (x:Operand):q8G s x=mpo s (s.ev x):=by
 unfold q8G mpo mpq
 generalize s.ev x=r
 cases r with
 | c c=>
  cases c with
  | hd k id=>cases k<;>rfl
  | _=>rfl
 | _=>rfl
theorem qwZ (es:List (Value×R×Nat)) (ck:Nat):mpq (.ob (.mp es ck))=some es:=rfl
def mup (kt:Kd) (kv:Value) (r:R):B→Option B
 | .ob (.mp es ck)=>if plK kt kv=true∧es.all (fun q=>plK kt q.1)=true then
   (match fnd kv es 0 with
    | some q=>some (.ob (.mp (es.set q.1 (kv,r,q.2.2)) ck))
    | none=>some (.ob (.mp (es++[(kv,r,ck)]) (ck+1)))) else none
 | _=>none
def qIB (n:Int) (r:R):B→Option B
 | .ob (.mp es ck)=>(fnb n es 0).bind fun i=>(es[i]?).bind fun e=>some (.ob (.mp (es.set i (e.1,r,e.2.2)) ck))
 | _=>none
def xmu (T:Ty) (s:S) (t:TypeId) (m:R) (kv:Option Value) (r:R):Option (R×S):=
 match T.k t,m,kv with
 | .mp kt _,.c (.hd .map id),some kv=>(mup (T.k kt) kv r (s.blk id)).bind fun b=>some (.any,s.up [(id,b)])
 | _,_,_=>none
theorem qwk (T:Ty) (s:S) (t:TypeId) (m:R) (kv:Option Value) (r:R):xmu T s t m kv r =
 match T.k t,m,kv with
 | .mp kt _,.c (.hd .map id),some kv=>(mup (T.k kt) kv r (s.blk id)).bind fun b=>some (.any,s.up [(id,b)])
 | _,_,_=>none:=rfl
theorem qjD (T:Ty) (s:S) (t:TypeId) (m k x:Operand):q67 T s t m k x=xmu T s t (s.ev m) (s.ev k).key (s.ev x):=by
 unfold q67 xmu mup
 generalize T.k t=kd
 generalize s.ev m=r
 generalize (s.ev k).key=kv
 cases kd with
 | mp kt e=>
  cases r with
  | c c=>
   cases c with
   | hd h id=>
    cases h with
    | map=>
     cases kv with
     | none=>rfl
     | some kv=>
      simp only
      generalize s.blk id=b
      cases b with
      | ob o=>
       cases o with
       | mp es ck=>
        simp only
        split
        ·cases fnd kv es 0<;>rfl
        ·rfl
       | _=>rfl
      | _=>rfl
    | _=>rfl
   | _=>rfl
  | _=>rfl
 | _=>rfl
def xes (s:S) (m st r:R):Option (R×S):=
 match m,st with
 | .c (.hd .map id),.c (.d (.int _ n))=>(qIB n r (s.blk id)).bind fun b=>some (.any,s.up [(id,b)])
 | _,_=>none
section
variable {κ ν:Type} {kE:κ→Value} {vE:ν→R} [DecidableEq κ] (hk:∀a b,kq (kE a) (kE b)=decide (a=b)) {kt:Kd} (hp:∀a,plK kt (kE a)=true)
include hk hp
end
def mpc:B→Option Nat
 | .ob (.mp _ ck)=>some ck
 | _=>none
def xrg (s:S) (p:Nat) (kd:Kd) (r:R):Option (R×S):=
 match kd,r with
 | .str,.c (.d (.str b))=>some (.c (.hd .iter p),s.up [(p,.ob (.si b 0))])
 | .mp _ _,.c .nilm=>some (.c (.hd .iter p),s.up [(p,.ob (.mi (.c .nilm) 0 []))])
 | .mp _ _,.c (.hd .map id)=>(mpc (s.blk id)).bind fun ck=>some (.c (.hd .iter p),s.up [(p,.ob (.mi (.c (.hd .map id)) ck []))])
 | _,_=>none
theorem qlD (T:Ty) (s:S) (p:Nat) (t:TypeId) (x:Operand):q7a T s p t x=xrg s p (T.k t) (s.ev x):=by
 unfold q7a xrg
 split
 ·rename_i h1 h2;rw[h1,h2]
 ·rename_i h1 h2;rw[h1,h2]
 ·rename_i id h1 h2
  rw[h1,h2]
  simp only
  generalize s.blk id=b
  cases b with
  | ob o=>cases o<;>rfl
  | _=>rfl
 ·rename_i h1 h2 h3
  split
  ·rename_i q1 q2;exact absurd q2 (h1 _ q1)
  ·rename_i q1 q2;exact absurd q2 (h2 _ _ q1)
  ·rename_i q1 q2;exact absurd q2 (h3 _ _ _ q1)
  ·rfl
section
variable {κ ν:Type}
end
end
noncomputable section
open Go.RowKit
section
variable {P:Program} {T:Ty} {cx:Cx} {ρ:Pl} {s:S} {a:Act} {w:World}
end
end
noncomputable section
open Go.RowKit Go.Maps Go.Sort Go.Shelf
section
variable {P:Program} {ρ:Ren}
end
end
noncomputable section
open Go.RowKit Go.Shelf
end
noncomputable section
open Go.RowKit
theorem qig:∀l:List Int,qcg ((l.flatMap eI).map C.d)=some l
 | []=>rfl
 | x::l=>by
  rw[qMj,List.map_append]
  show(qcg ((l.flatMap eI).map C.d)).map (x :: ·)=_
  rw[qig l];rfl
theorem qcE:∀l:List Int,(l.map fun z=>C.d (.int .i64 z))=(l.flatMap eI).map C.d
 | []=>rfl
 | x::l=>by
  rw[qMj,List.map_append,qLA,qcE l];rfl
end
noncomputable section
open Go.RowKit
theorem qDo {g:FuncId} {s:Int→Int→Option Int} (h:∀x y,ev g 0 [.c (.d (.int .i64 x)),.c (.d (.int .i64 y))] []=(s x y).bind fun c=>some (.c (.d (.int .i64 c)),[])):cfO evo g=s:=by
 funext x y
 have h1:evo (.fn g) 0 [.c (.d (.int .i64 x)),.c (.d (.int .i64 y))] []=(s x y).bind fun c=>some (.c (.d (.int .i64 c)),[]):=h x y
 unfold cfO
 rw[h1]
 cases s x y<;>rfl
end
noncomputable section
open Go.RowKit
def bx0:=JA_ @qp7.eq_1 (JA_ @qp7.eq_2 (JA_ @S.strip.eq_1 (JA_ @q7c.eq_1 (JA_ @q7c.eq_2 (JA_ @qw8.eq_1 (JA_ @qw8.eq_2 (JA_ @R.isA.eq_1 (JA_ @R.isA.eq_2 (JA_ @qGX.eq_1 (JA_ @qBp.eq_1 (JA_ @qkb.eq_1 (JA_ @qnn.eq_1 (JA_ @S.ly.eq_1 (JA_ @S.ly.eq_2 (JA_ @alC.eq_1 (JA_ @alC.eq_2 (JA_ @alX.eq_1 (JA_ @alX.eq_2 (JA_ @qGk.eq_1 (JA_ @qwI.eq_1 (JA_ @qBE.eq_1 (JA_ @ipX.eq_1 (JA_ @qBo.eq_1 (JA_ @qBo.eq_2 (JA_ @ipA.eq_1 (JA_ @ipS.eq_2 (JA_ @ipF.eq_1 (JA_ @qyl.eq_1 (JA_ @qyl.eq_2 (@qBJ.eq_1))))))))))))))))))))))))))))))
def bx1:=JA_ @qhR.eq_1 (JA_ @qfO.eq_1 (JA_ @qpy.eq_1 (JA_ @qpy.eq_2 (JA_ @zmk.eq_1 (JA_ @zmk.eq_2 (JA_ @S.fin.eq_1 (JA_ @S.fn1.eq_1 (JA_ @S.inr.eq_1 (JA_ @prx.eq_1 (JA_ @APr.of_run (JA_ @pr0.eq_1 (JA_ @List.isEmpty_nil.{0} (JA_ @List.isEmpty_cons.{0} (JA_ @wbC.eq_1 (JA_ @wbC.eq_2 (JA_ @B.beq.eq_1 (JA_ @C.beqL.eq_1 (JA_ @C.beqL.eq_2 (JA_ @C.beq0.eq_1 (JA_ @D.beq.eq_1 (@D.beq.eq_4)))))))))))))))))))))
def bx2:=JA_ @D.beq_self (JA_ @qDm.eq_1 (JA_ @dzc.eq_2 (JA_ @dzc.eq_3 (JA_ @C.isNils.eq_2 (JA_ @qqP (JA_ @q7f.eq_1 (JA_ @q9Y.eq_1 (JA_ @q9Y.eq_2 (JA_ @qqm.eq_1 (JA_ @fpA.eq_1 (JA_ @qjd.eq_1 (JA_ @S.kill.eq_1 (JA_ @qv8.eq_1 (JA_ @qv8.eq_2 (JA_ @qkH.eq_1 (JA_ @qxC.eq_1 (JA_ @okX.eq_1 (JA_ @okX.eq_2 (JA_ @okK.eq_1 (JA_ @okN.eq_1 (JA_ @okN.eq_2 (JA_ @q9p.eq_1 (JA_ @qsS.eq_1 (JA_ @qsS.eq_2 (JA_ @qw5.eq_1 (JA_ @qw5.eq_2 (JA_ @q8h.eq_1 (@qmc.eq_1))))))))))))))))))))))))))))
def bx3:=JA_ @q5l.eq_1 (JA_ @qlq.eq_1 (JA_ @q8p.eq_1 (JA_ @q5O.eq_1 (JA_ @qdC.eq_1 (JA_ @qa4.eq_1 (JA_ @qa4.eq_2 (JA_ @cvT.eq_1 (JA_ @qgP.eq_1 (JA_ @q9P.eq_1 (JA_ @qzc.eq_1 (JA_ @qoU.eq_1 (JA_ @qoU.eq_2 (JA_ @S.rf.eq_1 (JA_ @S.rfx.eq_1 (JA_ @qxs.eq_1 (JA_ @rdB.eq_1 (JA_ @qkt.eq_1 (JA_ @qkt.eq_2 (JA_ @qbD.eq_1 (JA_ @qqC (JA_ @qpc (JA_ @qpQ (JA_ @qoP (JA_ @qtM (@qoa)))))))))))))))))))))))))
def bx4:=JA_ @qkg.eq_1 (JA_ @qnv.eq_1 (JA_ @D.key.eq_1 (JA_ @R.key.eq_1 (JA_ @plK.eq_1 (JA_ @zR.eq_1 (JA_ @tt2.eq_1 (JA_ @fnd.eq_1 (JA_ @fnd.eq_2 (JA_ @kq.eq_1 (JA_ @B.isOb.eq_2 (JA_ @AO.mapR.eq_1 (JA_ @AO.mapR.eq_2 (JA_ @AO.mapR.eq_4 (JA_ @AO.Rs.eq_1 (JA_ @AO.Rs.eq_2 (JA_ @AO.Rs.eq_4 (JA_ @R.refs0.eq_1 (JA_ @R.refs0.eq_2 (JA_ @R.refs0.eq_3 (@cvA.eq_2))))))))))))))))))))
def bx5:=JA_ @qqO.eq_1 (JA_ @xgd.eq_1 (JA_ @xgF.eq_1 (JA_ @xo.eq_1 (JA_ @xo.eq_2 (JA_ @xo.eq_3 (JA_ @xo.eq_4 (JA_ @xo.eq_5 (JA_ @xo.eq_6 (JA_ @xo.eq_7 (JA_ @xo.eq_8 (JA_ @xo.eq_9 (JA_ @xo.eq_10 (JA_ @xo.eq_11 (JA_ @xo.eq_12 (JA_ @xo.eq_13 (JA_ @xo.eq_14 (JA_ @xo.eq_15 (JA_ @xo.eq_16 (JA_ @xo.eq_17 (JA_ @xo.eq_19 (JA_ @xo.eq_21 (JA_ @xo.eq_22 (JA_ @xo.eq_23 (JA_ @xo.eq_24 (JA_ @xo.eq_26 (JA_ @xo.eq_29 (JA_ @xo.eq_31 (JA_ @xCl.eq_1 (JA_ @pre.eq_1 (@pre.eq_2))))))))))))))))))))))))))))))
def bx6:=JA_ @pre.eq_3 (JA_ @qbq.eq_1 (JA_ @q3V.eq_1 (JA_ @qbj.eq_1 (JA_ @qik.eq_1 (JA_ @qhm.eq_1 (JA_ @q6s.eq_1 (JA_ @q4Z.eq_2 (JA_ @q4Z.eq_3 (JA_ @qCK.eq_1 (JA_ @qk2.eq_1 (JA_ @qk2.eq_2 (JA_ @cvR.eq_1 (JA_ @cvR.eq_2 (JA_ @cvR.eq_3 (JA_ @cvL.eq_1 (JA_ @cvL.eq_2 (JA_ @qo5.eq_1 (JA_ @qo5.eq_2 (JA_ @cv.eq_1 (JA_ @cv.eq_2 (JA_ @cv0.eq_1 (JA_ @cv0.eq_5 (JA_ @cv0.eq_8 (JA_ @cv0.eq_9 (JA_ @cv0.eq_10 (JA_ @cvG.eq_1 (JA_ @cvG.eq_2 (JA_ @cvB.eq_1 (JA_ @cvB.eq_2 (@cvB.eq_3))))))))))))))))))))))))))))))
def bx7:=JA_ @vis.eq_1 (JA_ @qdw.eq_1 (JA_ @qdw.eq_2 (JA_ @q6h (JA_ @qv1.eq_1 (JA_ @pos.eq_1 (JA_ @pos.eq_2 (JA_ @qoA.eq_1 (JA_ @qqc.eq_1 (JA_ @qj1.eq_1 (JA_ @qBW.eq_1 (JA_ @q75.eq_1 (JA_ @q6I.eq_1 (JA_ @q6K.eq_1 (JA_ @qaG.eq_1 (JA_ @q8c.eq_1 (JA_ @qen.eq_1 (JA_ @qen.eq_2 (JA_ @qen.eq_3 (JA_ @qen.eq_4 (JA_ @qen.eq_5 (JA_ @qen.eq_6 (JA_ @qen.eq_9 (JA_ @qen.eq_10 (JA_ @qen.eq_11 (JA_ @qen.eq_12 (JA_ @qen.eq_13 (JA_ @qen.eq_14 (JA_ @qen.eq_15 (JA_ @qen.eq_16 (JA_ @qen.eq_17 (JA_ @qsN.eq_1 (JA_ @qsN.eq_3 (@qsN.eq_4)))))))))))))))))))))))))))))))))
def bx8:=JA_ @qsN.eq_6 (JA_ @qwg.eq_1 (JA_ @qwg.eq_2 (JA_ @qBy.eq_1 (JA_ @qBx.eq_1 (JA_ @qBR.eq_1 (JA_ @qBP.eq_1 (JA_ @qBM.eq_1 (JA_ @qol.eq_1 (JA_ @qhV.eq_1 (JA_ @q2l.eq_1 (JA_ @q8O.eq_1 (JA_ @qhb.eq_1 (JA_ @q7g.eq_1 (JA_ @Kd.isSl.eq_1 (JA_ @nrm.eq_1 (JA_ @qr2.eq_1 (JA_ @qDg.eq_1 (JA_ @rng.eq_1 (JA_ @rng.eq_2 (JA_ @rwAll.eq_1 (JA_ @rwAll.eq_2 (@rw1.eq_1))))))))))))))))))))))
def bx9:=JA_ @rw1.eq_2 (JA_ @cn.eq_1 (JA_ @cn.eq_2 (JA_ @cn0.eq_1 (JA_ @cn0.eq_2 (JA_ @cn0.eq_3 (JA_ @cn0.eq_5 (JA_ @cnR.eq_2 (JA_ @qo6.eq_1 (JA_ @qo6.eq_2 (JA_ @qo6.eq_3 (JA_ @cnB.eq_1 (JA_ @cnB.eq_2 (JA_ @cnB.eq_3 (JA_ @cnH.eq_1 (JA_ @cnH.eq_2 (JA_ @qyZ (JA_ @zX.eq_1 (JA_ @zX.eq_2 (JA_ @zX.eq_3 (JA_ @qzr.eq_1 (JA_ @qjG.eq_1 (JA_ @qct.eq_1 (JA_ @qjL.eq_1 (JA_ @qcl.eq_1 (JA_ @qgO.eq_1 (JA_ @qcj.eq_1 (JA_ @qcj.eq_2 (JA_ @S.frz.eq_1 (JA_ @S.frz.eq_2 (JA_ @S.frz1.eq_1 (JA_ @fz.eq_1 (@fz.eq_2))))))))))))))))))))))))))))))))
def qK7:=JA_ @fz0.eq_1 (JA_ @fz0.eq_2 (JA_ @fz0.eq_3 (JA_ @fz0.eq_5 (JA_ @fzR.eq_1 (JA_ @fzR.eq_2 (JA_ @qo2.eq_1 (JA_ @qo2.eq_2 (JA_ @qo2.eq_3 (JA_ @fzB.eq_1 (JA_ @fzB.eq_2 (JA_ @fzB.eq_3 (JA_ @fzB.eq_4 (JA_ @qAN (JA_ @dz.eq_1 (JA_ @dz.eq_2 (JA_ @dzL.eq_1 (JA_ @dzL.eq_2 (JA_ @dzR.eq_1 (JA_ @dzR.eq_2 (JA_ @qjJ.eq_1 (JA_ @qjJ.eq_2 (JA_ @one.eq_1 (JA_ @one.eq_2 (JA_ @rvs.eq_1 (JA_ @rvs.eq_2 (JA_ @qvY.eq_1 (JA_ @qvY.eq_2 (JA_ @tt.eq_1 (JA_ @ff.eq_1 (JA_ @qcS.eq_1 (JA_ @qcS.eq_2 (JA_ @C.ref0.eq_1 (JA_ @C.ref0.eq_2 (JA_ @C.ref0.eq_3 (JA_ @C.ref0.eq_4 (JA_ @C.refs.eq_1 (@C.refs.eq_2)))))))))))))))))))))))))))))))))))))
def qI1:=JA_ @B.refs.eq_1 (JA_ @B.refs.eq_2 (JA_ @B.refs.eq_3 (JA_ @B.refs.eq_4 (JA_ @R.refs.eq_1 (JA_ @R.refs.eq_2 (JA_ @R.refs.eq_4 (JA_ @C.rows0.eq_1 (JA_ @C.rows0.eq_2 (JA_ @C.rows.eq_1 (JA_ @C.rows.eq_2 (JA_ @R.rows.eq_1 (JA_ @R.rows.eq_2 (JA_ @R.rows.eq_3 (JA_ @C.ptrs0.eq_1 (JA_ @C.ptrs0.eq_2 (JA_ @C.ptrs0.eq_3 (JA_ @C.ptrs.eq_1 (JA_ @C.ptrs.eq_2 (JA_ @R.ptrs.eq_1 (JA_ @R.ptrs.eq_2 (JA_ @R.ptrs.eq_3 (JA_ @B.isBlk.eq_1 (JA_ @B.isBlk.eq_2 (JA_ @B.isBlk.eq_3 (JA_ @R.scl.eq_1 (JA_ @R.scl.eq_2 (JA_ @R.scl0.eq_1 (JA_ @R.scl0.eq_2 (JA_ @R.scl0.eq_3 (JA_ @C.scl.eq_1 (JA_ @C.scl.eq_2 (JA_ @C.scl0.eq_1 (JA_ @C.scl0.eq_4 (JA_ @B.scl.eq_1 (JA_ @B.scl.eq_2 (@B.scl.eq_3))))))))))))))))))))))))))))))))))))
def qJp:=JA_ @C.dat.eq_1 (JA_ @C.dat.eq_2 (JA_ @C.dat0.eq_1 (JA_ @C.dat0.eq_8 (JA_ @ren.eq_1 (JA_ @R.rn.eq_1 (JA_ @R.rn.eq_2 (JA_ @R.rn0.eq_1 (JA_ @R.rn0.eq_2 (JA_ @R.rn0.eq_3 (JA_ @C.rn.eq_1 (JA_ @C.rn.eq_2 (JA_ @C.rn0.eq_1 (JA_ @C.rn0.eq_2 (JA_ @C.rn0.eq_3 (JA_ @C.rn0.eq_5 (JA_ @B.rn.eq_1 (JA_ @B.rn.eq_2 (JA_ @B.rn.eq_3 (JA_ @qA9 (JA_ @S.aft.eq_1 (JA_ @S.fgL.eq_1 (JA_ @S.fgL.eq_2 (JA_ @C.fgL.eq_1 (JA_ @C.fgL.eq_2 (JA_ @C.fgL.eq_3 (JA_ @C.fgL.eq_4 (JA_ @C.fgL.eq_5 (JA_ @R.fgL.eq_1 (@R.fgL.eq_2)))))))))))))))))))))))))))))
def qIK:=JA_ @R.fgL.eq_4 (JA_ @B.fgL.eq_1 (JA_ @B.fgL.eq_2 (JA_ @B.fgL.eq_3 (JA_ @B.fgL.eq_4 (JA_ @C.farL.eq_1 (JA_ @C.farL.eq_3 (JA_ @C.farL.eq_5 (JA_ @R.farL.eq_1 (JA_ @R.farL.eq_2 (JA_ @R.farL.eq_3 (JA_ @R.farL.eq_4 (JA_ @B.farL.eq_1 (JA_ @B.farL.eq_2 (JA_ @B.farL.eq_3 (JA_ @qw2.eq_1 (JA_ @qw2.eq_2 (JA_ @qw2.eq_3 (JA_ @qnl.eq_1 (JA_ @qnl.eq_2 (JA_ @qh1.eq_1 (JA_ @qh1.eq_2 (JA_ @S.ev.eq_1 (JA_ @S.ev.eq_2 (JA_ @S.ev.eq_3 (JA_ @S.get.eq_1 (JA_ @S.blk.eq_1 (JA_ @S.put.eq_1 (JA_ @S.put.eq_2 (JA_ @S.up.eq_1 (JA_ @S.bd.eq_1 (JA_ @S.bd.eq_2 (JA_ @S.seq.eq_1 (JA_ @S.cell1.eq_1 (JA_ @lk.eq_1 (@lk.eq_2)))))))))))))))))))))))))))))))))))
def qIm:=JA_ @q5d.eq_1 (JA_ @q5d.eq_2 (JA_ @q5d.eq_3 (JA_ @q5d.eq_5 (JA_ @q5d.eq_6 (JA_ @q5d.eq_7 (JA_ @q50.eq_1 (JA_ @q50.eq_2 (JA_ @qsn (JA_ @ldx.eq_1 (JA_ @bld.eq_1 (JA_ @bld.eq_2 (JA_ @spl.eq_1 (JA_ @spl.eq_2 (JA_ @q2g.eq_1 (JA_ @Ty.foff.eq_1 (JA_ @R.cells.eq_1 (JA_ @R.cells.eq_2 (JA_ @R.parts.eq_1 (JA_ @R.parts.eq_2 (JA_ @B.cells.eq_1 (JA_ @B.cells.eq_2 (JA_ @B.live.eq_1 (JA_ @B.live.eq_2 (JA_ @C.known.eq_2 (JA_ @C.far.eq_1 (JA_ @C.far.eq_3 (JA_ @C.far.eq_5 (JA_ @S.fg.eq_1 (JA_ @R.fg.eq_1 (@R.fg.eq_2))))))))))))))))))))))))))))))
def qII:=JA_ @R.fg.eq_3 (JA_ @R.fg.eq_4 (JA_ @B.fg.eq_1 (JA_ @B.fg.eq_2 (JA_ @B.fg.eq_3 (JA_ @B.fg.eq_4 (JA_ @C.fg.eq_1 (JA_ @C.fg.eq_2 (JA_ @C.fg.eq_3 (JA_ @C.fg.eq_4 (JA_ @C.fg.eq_5 (JA_ @D1.eq_1 (JA_ @q46.eq_1 (JA_ @q46.eq_2 (JA_ @q46.eq_3 (JA_ @q46.eq_4 (JA_ @q46.eq_6 (JA_ @q46.eq_7 (JA_ @q46.eq_8 (JA_ @q46.eq_9 (JA_ @q46.eq_10 (JA_ @q46.eq_11 (JA_ @q46.eq_13 (JA_ @q46.eq_14 (JA_ @q46.eq_15 (JA_ @q46.eq_17 (JA_ @q46.eq_19 (JA_ @q46.eq_23 (JA_ @q46.eq_24 (@qke.eq_1)))))))))))))))))))))))))))))
def qIb:=JA_ @qke.eq_5 (JA_ @qke.eq_6 (JA_ @qbc.eq_3 (JA_ @qbc.eq_5 (JA_ @qbc.eq_6 (JA_ @qnG.eq_1 (JA_ @qnG.eq_3 (JA_ @qnG.eq_4 (JA_ @qnG.eq_5 (JA_ @fpC.eq_1 (JA_ @qBd.eq_1 (JA_ @qwV.eq_1 (JA_ @qBS.eq_1 (JA_ @C.lt0.eq_3 (JA_ @C.lt0.eq_4 (JA_ @C.ltn.eq_1 (JA_ @C.ltn.eq_2 (JA_ @R.lt0.eq_1 (JA_ @R.lt0.eq_2 (JA_ @R.ltn.eq_1 (JA_ @R.ltn.eq_2 (JA_ @B.ltn.eq_1 (JA_ @B.ltn.eq_2 (JA_ @q63.eq_1 (JA_ @Fp.none?.eq_1 (JA_ @okP.eq_1 (JA_ @okP.eq_2 (JA_ @qpE (JA_ @qqo (JA_ @quh (@qoY))))))))))))))))))))))))))))))
def qJO:=JA_ @qqG (JA_ @qpX (JA_ @qrY (JA_ @qpo (JA_ @qp1 (JA_ @qpB (JA_ @qjQ (JA_ @qsl (JA_ @qoh (JA_ @qpR (JA_ @qtu (JA_ @qpt (JA_ @qoz (JA_ @qp3 (JA_ @qs2 (JA_ @qqA (JA_ @qql (JA_ @qoB (JA_ @qtJ (JA_ @qpO (JA_ @qs4 (JA_ @qlL (JA_ @qtE (JA_ @qpL (JA_ @qsk (JA_ @qqg (JA_ @qyv (JA_ @qrV (JA_ @C.farF.eq_1 (JA_ @C.farF.eq_2 (JA_ @Op.operands.eq_1 (@Op.operands.eq_4)))))))))))))))))))))))))))))))
def qK6:=JA_ @Op.operands.eq_5 (JA_ @Op.operands.eq_7 (JA_ @Op.operands.eq_8 (JA_ @Op.operands.eq_9 (JA_ @Op.operands.eq_14 (JA_ @Op.operands.eq_20 (JA_ @Op.operands.eq_23 (JA_ @Op.operands.eq_24 (JA_ @Op.operands.eq_25 (JA_ @Op.operands.eq_26 (JA_ @Op.operands.eq_27 (JA_ @Op.operands.eq_29 (JA_ @Op.operands.eq_34 (JA_ @Op.operands.eq_36 (JA_ @Op.operands.eq_40 (@qwB)))))))))))))))
def qJP:=JA_ @qAk (JA_ @Option.isNone_none.{0} (JA_ @Option.isNone_some.{0} (JA_ @qzP.eq_1 (JA_ @qzP.eq_2 (JA_ @Option.toList_some.{0} (JA_ @Option.toList_none.{0} (JA_ @List.all_append.{0} (JA_ @List.getElem?_nil.{0} (JA_ @List.drop_zero.{0} (JA_ @Int.cast_ofNat_Int (JA_ @Int.le_refl (JA_ @qLt (JA_ @Option.bind_assoc.{0,0,0} (JA_ @List.any_nil.{0} (JA_ @List.any_cons.{0} (JA_ @List.getD_cons_zero.{0} (JA_ @List.getD_cons_succ.{0} (JA_ @true_and (JA_ @and_true (JA_ @and_false (JA_ @qM3.{0} (JA_ @Prod.mk.injEq.{0,0} (JA_ @qLd.{0,0} (JA_ @Option.bind_none.{0,0} (JA_ @Option.map_some.{0,0} (JA_ @Option.map_none.{0,0} (JA_ @Option.getD_some.{0} (JA_ @Option.getD_none.{0} (JA_ @ne_eq.{1} (JA_ @not_false_eq_true (JA_ @or_false (JA_ @Bool.false_eq_true (@qLA.{0,0})))))))))))))))))))))))))))))))))
def qHk:=JA_ @List.map_nil.{0,0} (JA_ @List.all_cons.{0} (JA_ @List.all_nil.{0} (JA_ @qMg (JA_ @qLK (JA_ @qMf (JA_ @qMh (JA_ @qLJ (JA_ @Bool.or_true (JA_ @Bool.true_or (JA_ @Bool.or_false (JA_ @Bool.false_or (JA_ @qLo.{0} (JA_ @qLX.{0} (JA_ @qLW.{0,0} (JA_ @qLn.{0} (JA_ @qLC.{0} (JA_ @qMi.{0,0} (JA_ @List.foldl_nil.{0,0} (JA_ @qMk.{0} (JA_ @qLx.{0} (JA_ @qLy.{0} (JA_ @Nat.max_def (JA_ @decide_true (JA_ @decide_false (JA_ @decide_not (JA_ @qMd (JA_ @qLD (JA_ @Nat.zero_mul (JA_ @Nat.mul_one (JA_ @Nat.one_mul (JA_ @Nat.add_zero (JA_ @qLB (JA_ @qLg (JA_ @List.mapM_cons.{0,0,0} (JA_ @List.mapM_nil.{0,0,0} (JA_ @List.drop_succ_cons.{0} (JA_ @List.drop_nil.{0} (JA_ @List.take_succ_cons.{0} (@List.take_zero.{0})))))))))))))))))))))))))))))))))))))))
def qHz:=JA_ @List.replicate_succ.{0} (JA_ @List.replicate_zero.{0} (JA_ @List.set_cons_zero.{0} (JA_ @List.set_cons_succ.{0} (JA_ @and_self (JA_ @Bool.not_true (JA_ @Bool.not_false (JA_ @List.contains_cons.{0} (JA_ @List.contains_nil.{0} (JA_ @qMj.{0,0} (JA_ @List.flatMap_nil.{0,0} (JA_ @List.filter_cons.{0} (JA_ @List.filter_nil.{0} (JA_ @List.eraseDups_cons.{0} (JA_ @List.eraseDups_nil.{0} (JA_ @List.nodup_cons.{0} (JA_ @List.nodup_nil.{0} (JA_ @qLz.{0} (JA_ @List.not_mem_nil.{0} (JA_ @List.headD_cons.{0} (JA_ @List.headD_nil.{0} (JA_ @List.tail_cons.{0} (JA_ @List.tail_nil.{0} (JA_ @beq_self_eq_true.{0} (JA_ @q1v (JA_ @List.range_succ (JA_ @List.range_zero (JA_ @ite_self.{1} (JA_ @qpl (JA_ @qsz (JA_ @quA (JA_ @qpA (JA_ @quL (@frA.eq_1)))))))))))))))))))))))))))))))))
def qJ7:=JA_ @R.dat.eq_1 (JA_ @R.dat.eq_2 (JA_ @qs6 (JA_ @qti (JA_ @qyV (JA_ @qsX (JA_ @qyC (JA_ @qvg (JA_ @qrU (JA_ @qzI (JA_ @qqL (JA_ @qev (JA_ @qoI (JA_ @mpo.eq_2 (JA_ @qwZ (JA_ @qjD (JA_ @qwk (@mup.eq_1)))))))))))))))))
def qHl:=JA_ @qtO (JA_ @qq8 (JA_ @qx9 (JA_ @qv5 (JA_ @qA0 (JA_ @qoo (JA_ @qsf (JA_ @qni (JA_ @qs8 (JA_ @qpk (JA_ @qt9 (JA_ @qpg (JA_ @q3B.eq_1 (JA_ @q3B.eq_2 (JA_ @qt8.eq_2 (JA_ @hdG.eq_1 (JA_ @qAQ.eq_1 (JA_ @qAQ.eq_2 (JA_ @qlD (@xrg.eq_1)))))))))))))))))))
def qIN:=JA_ @qk0 (JA_ @qva (JA_ @qpe (JA_ @qpv (JA_ @quW (JA_ @qoQ (JA_ @qsR (JA_ @qoV (JA_ @qji (JA_ @qu7 (JA_ @qp4 (JA_ @qop (JA_ @qtU (@qpd)))))))))))))
def qJw:=JA_ @qsc (JA_ @qqB (JA_ @qu4 (JA_ @qsa (JA_ @qpU (JA_ @qv0 (JA_ @qtZ (JA_ @qIY (JA_ @qJa (JA_ @qCt (JA_ @qF1 (JA_ @qDb (JA_ @qwa (JA_ @qz3 (JA_ @qA6 (JA_ @qCv (JA_ @qxl (JA_ @qF7 (JA_ @qwR (JA_ @qAv (JA_ @qtA (JA_ @qtj (JA_ @qAq (JA_ @qvD (JA_ @qzS (JA_ @qyP (JA_ @qrG (JA_ @qKi (JA_ @qjW (JA_ @qqd (JA_ @qsj (JA_ @qy3 (@qxe))))))))))))))))))))))))))))))))
def qKz:=JA_ @qus (JA_ @qsV (JA_ @Sum.elim_inl.{0,1,0} (JA_ @Sum.elim_inr.{0,1,0} (JA_ @qgW (JA_ @qmW (JA_ @qlX (JA_ @qw7.eq_1 (JA_ @qkk (JA_ @qvU (JA_ @qCd (JA_ @quP (JA_ @quF (JA_ @qrJ (JA_ @qrR (JA_ @qfY (JA_ @qeW (JA_ @qwA (JA_ @qCs.eq_1 (JA_ @qLk.{0} (JA_ @qLZ.{0} (JA_ @qLV.{0} (JA_ @qjH (JA_ @lkq.eq_1 (@lkq.eq_2))))))))))))))))))))))))
def qKe:=JA_ @qrZ (JA_ @qmt (JA_ @qpJ (JA_ @List.take_nil.{0} (JA_ @List.flatten_nil.{0} (JA_ @qkE (JA_ @qpp (JA_ @q6e (JA_ @qig (@qcE)))))))))
theorem qHQ (a0 a1 a2:Int) (i:Nat):([C.d (D.int .i64 a0),C.d (D.int .i64 a1),C.d (D.int .i64 a2)]:List C)[i]?=([a0,a1,a2][i]?).bind fun x=>some (C.d (D.int .i64 x)):=by rw[show([C.d (D.int .i64 a0),C.d (D.int .i64 a1),C.d (D.int .i64 a2)]:List C)=[a0,a1,a2].map (fun x=>C.d (D.int .i64 x)) from rfl,qLr];cases([a0,a1,a2]:List Int)[i]? <;> rfl
theorem qIP (a0 a1 a2 a3:Int) (i:Nat):([C.d (D.int .i64 a0),C.d (D.int .i64 a1),C.d (D.int .i64 a2),C.d (D.int .i64 a3)]:List C)[i]?=([a0,a1,a2,a3][i]?).bind fun x=>some (C.d (D.int .i64 x)):=by rw[show([C.d (D.int .i64 a0),C.d (D.int .i64 a1),C.d (D.int .i64 a2),C.d (D.int .i64 a3)]:List C)=[a0,a1,a2,a3].map (fun x=>C.d (D.int .i64 x)) from rfl,qLr];cases([a0,a1,a2,a3]:List Int)[i]? <;> rfl
theorem qJi (a0 a1 a2 a3 a4:Int) (i:Nat):([C.d (D.int .i64 a0),C.d (D.int .i64 a1),C.d (D.int .i64 a2),C.d (D.int .i64 a3),C.d (D.int .i64 a4)]:List C)[i]?=([a0,a1,a2,a3,a4][i]?).bind fun x=>some (C.d (D.int .i64 x)):=by rw[show([C.d (D.int .i64 a0),C.d (D.int .i64 a1),C.d (D.int .i64 a2),C.d (D.int .i64 a3),C.d (D.int .i64 a4)]:List C)=[a0,a1,a2,a3,a4].map (fun x=>C.d (D.int .i64 x)) from rfl,qLr];cases([a0,a1,a2,a3,a4]:List Int)[i]? <;> rfl
theorem qJZ (a0 a1 a2 a3 a4 a5:Int) (i:Nat):([C.d (D.int .i64 a0),C.d (D.int .i64 a1),C.d (D.int .i64 a2),C.d (D.int .i64 a3),C.d (D.int .i64 a4),C.d (D.int .i64 a5)]:List C)[i]?=([a0,a1,a2,a3,a4,a5][i]?).bind fun x=>some (C.d (D.int .i64 x)):=by rw[show([C.d (D.int .i64 a0),C.d (D.int .i64 a1),C.d (D.int .i64 a2),C.d (D.int .i64 a3),C.d (D.int .i64 a4),C.d (D.int .i64 a5)]:List C)=[a0,a1,a2,a3,a4,a5].map (fun x=>C.d (D.int .i64 x)) from rfl,qLr];cases([a0,a1,a2,a3,a4,a5]:List Int)[i]? <;> rfl
theorem qKr (a0 a1 a2:ByteArray) (i:Nat):([C.d (D.str a0),C.d (D.str a1),C.d (D.str a2)]:List C)[i]?=([a0,a1,a2][i]?).bind fun x=>some (C.d (D.str x)):=by rw[show([C.d (D.str a0),C.d (D.str a1),C.d (D.str a2)]:List C)=[a0,a1,a2].map (fun x=>C.d (D.str x)) from rfl,qLr];cases([a0,a1,a2]:List ByteArray)[i]? <;> rfl
theorem qup (f:Int→Int→Option Int) (l:List Int):((q0C f l).length=l.length)=True:=eq_true (q4L f l)
theorem qve (f:Int→Int→Option Int) (l:List Int):D.sl 1 l.length ((q0C f l).flatMap eI)=D.sl 1 (q0C f l).length ((q0C f l).flatMap eI):=by rw[q4L]
def bz0:=JA_ @qHQ (JA_ @qIP (JA_ @qJi (JA_ @qJZ (@qKr))))
def bz1:=JA_ @qup (@qve)
end
noncomputable section
open Go.RowKit
structure JK (α:Type) where
 a0:α
 a1:α
def eA2 {α:Type} (E:α→List D) (x:JK α):List D:=E x.a0++E x.a1
theorem qtT {α:Type} (x:JK α):JK.mk x.a0 x.a1=x:=rfl
structure qcm (α:Type) where
 a0:α
 a1:α
 a2:α
structure qd where
 School:Int
 Code:ByteArray
def qe (x:qd):List D:=[D.int .i64 x.School,D.str x.Code]
theorem q0O (x:qd):qe x=[D.int .i64 x.School,D.str x.Code]:=rfl
theorem q5k (x:qd):(qe x).length=2:=rfl
theorem qa1 (x:qd):qd.mk x.School x.Code=x:=rfl
structure qa where
 Course:qd
 Credits:Int
 Grade:Int
 Day:Int
 Sources:List Int
 Bundle:Int
 Path:List Int
def qf (x:qa):List D:=[D.int .i64 x.Course.School,D.str x.Course.Code,D.int .i64 x.Credits,D.int .i64 x.Grade,D.int .i64 x.Day,D.sl 1 x.Sources.length (x.Sources.flatMap eI),D.int .i64 x.Bundle,D.sl 1 x.Path.length (x.Path.flatMap eI)]
theorem JS (x:qa):qf x=[D.int .i64 x.Course.School,D.str x.Course.Code,D.int .i64 x.Credits,D.int .i64 x.Grade,D.int .i64 x.Day,D.sl 1 x.Sources.length (x.Sources.flatMap eI),D.int .i64 x.Bundle,D.sl 1 x.Path.length (x.Path.flatMap eI)]:=rfl
theorem q6q (x:qa):(qf x).length=8:=rfl
theorem q6u (x:qa):qa.mk x.Course x.Credits x.Grade x.Day x.Sources x.Bundle x.Path=x:=rfl
structure qg where
 Worst:Int
 Best:Int
 Pass:Int
theorem qbG (x:qg):qg.mk x.Worst x.Best x.Pass=x:=rfl
structure qb where
 Kind:Int
 N:Int
 Min:Int
 Set:List qd
 L:List qb
mutual
def qh:qb→List D
 | ⟨a0,a1,a2,a3,a4⟩=>[D.int .i64 a0,D.int .i64 a1,D.int .i64 a2,D.sl 2 a3.length (a3.flatMap qe),D.sl 5 a4.length (J1 a4)]
def J1:List qb→List D
 | []=>[]
 | x::l=>qh x++J1 l
end
theorem q5q:∀l:List qb,J1 l=l.flatMap qh
 | []=>rfl
 | x::l=>by rw[qMj,←q5q l,J1]
theorem q1U (x:qb):qh x=[D.int .i64 x.Kind,D.int .i64 x.N,D.int .i64 x.Min,D.sl 2 x.Set.length (x.Set.flatMap qe),D.sl 5 x.L.length (x.L.flatMap qh)]:=by cases x;rw[qh,q5q]
theorem q1m (x:qb):(qh x).length=5:=by rw[q1U];rfl
theorem qcf (x:qb):qb.mk x.Kind x.N x.Min x.Set x.L=x:=by cases x;rfl
structure qc where
 School:Int
 Id:Int
 Version:Int
 From:Int
 Name:ByteArray
 Need:qb
 Total:Int
 Own:Int
 Age:Int
 Exclude:List (JK qd)
theorem q7r (x:qc):qc.mk x.School x.Id x.Version x.From x.Name x.Need x.Total x.Own x.Age x.Exclude=x:=rfl
structure qP where
 Taken:List Int
 Leaf:List Int
theorem qd7 (x:qP):qP.mk x.Taken x.Leaf=x:=rfl
structure qq where
 L:List Int
 At:Int
theorem qam (x:qq):qq.mk x.L x.At=x:=rfl
structure qK where
 many:Int
 credits:Int
 fine:Bool
theorem qcd (x:qK):qK.mk x.many x.credits x.fine=x:=rfl
structure q3o where
 Need:qb
 Deep:Int
def q0R (x:q3o):List D:=[D.int .i64 x.Need.Kind,D.int .i64 x.Need.N,D.int .i64 x.Need.Min,D.sl 2 x.Need.Set.length (x.Need.Set.flatMap qe),D.sl 5 x.Need.L.length (x.Need.L.flatMap qh),D.int .i64 x.Deep]
theorem qbv (x:q3o):q0R x=[D.int .i64 x.Need.Kind,D.int .i64 x.Need.N,D.int .i64 x.Need.Min,D.sl 2 x.Need.Set.length (x.Need.Set.flatMap qe),D.sl 5 x.Need.L.length (x.Need.L.flatMap qh),D.int .i64 x.Deep]:=rfl
theorem qa3 (x:q3o):(q0R x).length=6:=rfl
theorem qd0:∀x:Int,(eI x).length=1:=fun _=>rfl
theorem qDq (v:List Int):(v.flatMap eI).length=v.length:=by rw[q59 qd0,Nat.mul_one]
theorem qpz (v:List Int) (i:Nat):ld T ((v.flatMap eI).map C.d) (i) 3=(v[i]?).bind fun x=>some (.c (.d (D.int .i64 x))):=by rw[qaM qd0 v i _ (by decide)];cases v[i]? with|none=>rfl|some x=>rfl
theorem qEH (v:List Int) (a:Int):(v.flatMap eI).map C.d++[C.d (D.int .i64 a)]=((v++[a]).flatMap eI).map C.d:=by have h:=qee (E:=eI) v a;exact h
theorem qzU (v:List Int) (i:Nat) (a:Int):spr ((v.flatMap eI).map C.d) (i) [C.d (D.int .i64 a)]=((v.set i a).flatMap eI).map C.d:=by have h:=qdO qd0 v i a;rw[Nat.mul_one] at h;exact h
theorem qEx (v:List Int) (a:Nat):(v.flatMap eI).take (a)=(v.take a).flatMap eI:=by have h:=qdc qd0 v a;rwa [Nat.mul_one] at h
theorem qz1 (v:List Int) (a:Nat):((v.flatMap eI).map C.d).take (a)=((v.take a).flatMap eI).map C.d:=by rw[←List.map_take,qEx]
theorem qvB (s:S) (v:List Int) (lo hi:Option Operand):xsl T s 22 (.c (.d (.sl 1 v.length (v.flatMap eI)))) lo hi=qw7 s eI 1 v (s.bd lo 0) (s.bd hi v.length):=qmK qd0 v lo hi (by rfl) (by rfl) (by decide)
theorem qAi (m:Nat):(List.replicate m [C.d (D.int .i64 0)]).flatten=((List.replicate m 0).flatMap eI).map C.d:=qlw (E:=eI) 0 (by rfl) m
theorem qbp:∀x:qa,(qf x).length=8:=q6q
theorem qzK (v:List qa):(v.flatMap qf).length=v.length*8:=by rw[q59 qbp]
theorem qcA (v:List qa) (i:Nat):ld T ((v.flatMap qf).map C.d) (i*8) 57=(v[i]?).bind fun x=>some (.agg [.d (D.int .i64 x.Course.School),.d (D.str x.Course.Code),.d (D.int .i64 x.Credits),.d (D.int .i64 x.Grade),.d (D.int .i64 x.Day),.d (D.sl 1 x.Sources.length (x.Sources.flatMap eI)),.d (D.int .i64 x.Bundle),.d (D.sl 1 x.Path.length (x.Path.flatMap eI))]):=by rw[qax qbp v i _ (by decide) (by decide)];cases v[i]? with|none=>rfl|some x=>rw[qLd,qLd,JS];rfl
theorem qjy (v:List qa):ld T ((v.flatMap qf).map C.d) 0 57=(v[0]?).bind fun x=>some (.agg [.d (D.int .i64 x.Course.School),.d (D.str x.Course.Code),.d (D.int .i64 x.Credits),.d (D.int .i64 x.Grade),.d (D.int .i64 x.Day),.d (D.sl 1 x.Sources.length (x.Sources.flatMap eI)),.d (D.int .i64 x.Bundle),.d (D.sl 1 x.Path.length (x.Path.flatMap eI))]):=by have h:=qcA v 0;rwa [Nat.zero_mul] at h
theorem qwU (v:List qa) (Q8:Int) (QB:ByteArray) (Js:Int) (q1G:Int) (q7L:Int) (Jb:List Int) (q0c:Int) (q35:List Int):(v.flatMap qf).map C.d++[C.d (D.int .i64 Q8),C.d (D.str QB),C.d (D.int .i64 Js),C.d (D.int .i64 q1G),C.d (D.int .i64 q7L),C.d (D.sl 1 Jb.length (Jb.flatMap eI)),C.d (D.int .i64 q0c),C.d (D.sl 1 q35.length (q35.flatMap eI))]=((v++[(qa.mk (qd.mk Q8 QB) Js q1G q7L Jb q0c q35)]).flatMap qf).map C.d:=by have h:=qee (E:=qf) v (qa.mk (qd.mk Q8 QB) Js q1G q7L Jb q0c q35);rw[JS] at h;exact h
theorem qA8 (v:List qa) (ys:List C):dzc [0,0,0,0,0,1,0,1] [] ((v.flatMap qf).map C.d++ys)=(v.flatMap qf).map C.d++dzc [0,0,0,0,0,1,0,1] [] ys:=qrb qbp [0,0,0,0,0,1,0,1] rfl v ys
theorem qpV (s:S) (v:List qa) (lo hi:Option Operand):xsl T s 26 (.c (.d (.sl 8 v.length (v.flatMap qf)))) lo hi=qw7 s qf 8 v (s.bd lo 0) (s.bd hi v.length):=qmK qbp v lo hi (by rfl) (by rfl) (by decide)
theorem q6m:∀x:qd,(qe x).length=2:=q5k
theorem qym (v:List qd):(v.flatMap qe).length=v.length*2:=by rw[q59 q6m]
theorem qjB (v:List qd) (i:Nat):ld T ((v.flatMap qe).map C.d) (i*2) 55=(v[i]?).bind fun x=>some (.agg [.d (D.int .i64 x.School),.d (D.str x.Code)]):=by rw[qax q6m v i _ (by decide) (by decide)];cases v[i]? with|none=>rfl|some x=>rw[qLd,qLd,q0O];rfl
theorem qxO (v:List qd) (JH:Int) (q2P:ByteArray):(v.flatMap qe).map C.d++[C.d (D.int .i64 JH),C.d (D.str q2P)]=((v++[(qd.mk JH q2P)]).flatMap qe).map C.d:=by have h:=qee (E:=qe) v (qd.mk JH q2P);rw[q0O] at h;exact h
theorem qvf (v:List qd) (i:Nat) (JH:Int) (q2P:ByteArray):spr ((v.flatMap qe).map C.d) (i*2) [C.d (D.int .i64 JH),C.d (D.str q2P)]=((v.set i (qd.mk JH q2P)).flatMap qe).map C.d:=by have h:=qdO q6m v i (qd.mk JH q2P);rw[q0O] at h;exact h
theorem qwt (v:List qd) (a:Nat):(v.flatMap qe).drop (a*2)=(v.drop a).flatMap qe:=by have h:=qfI q6m v a;exact h
theorem qyw (v:List qd) (a:Nat):(v.flatMap qe).take (a*2)=(v.take a).flatMap qe:=by have h:=qdc q6m v a;exact h
theorem qvo (v:List qd) (a:Nat):((v.flatMap qe).map C.d).drop (a*2)=((v.drop a).flatMap qe).map C.d:=by rw[←List.map_drop,qwt]
theorem qtt (v:List qd) (a:Nat):((v.flatMap qe).map C.d).take (a*2)=((v.take a).flatMap qe).map C.d:=by rw[←List.map_take,qyw]
theorem qvN (v w:List qd) (i:Nat):spl (v.flatMap qe) (i*2) (w.flatMap qe)=(spl v i w).flatMap qe:=by have h:=qmQ q6m w v i;exact h
theorem qdl:∀x:qb,(qh x).length=5:=q1m
theorem qyb (v:List qb):(v.flatMap qh).length=v.length*5:=by rw[q59 qdl]
theorem qjI (v:List qb) (i:Nat):ld T ((v.flatMap qh).map C.d) (i*5) 36=(v[i]?).bind fun x=>some (.agg [.d (D.int .i64 x.Kind),.d (D.int .i64 x.N),.d (D.int .i64 x.Min),.d (D.sl 2 x.Set.length (x.Set.flatMap qe)),.d (D.sl 5 x.L.length (x.L.flatMap qh))]):=by rw[qax qdl v i _ (by decide) (by decide)];cases v[i]? with|none=>rfl|some x=>rw[qLd,qLd,q1U];rfl
theorem qwS (v:List qb) (qbW:Int) (a_N:Int) (qhv:Int) (qeh:List qd) (a_L:List qb):(v.flatMap qh).map C.d++[C.d (D.int .i64 qbW),C.d (D.int .i64 a_N),C.d (D.int .i64 qhv),C.d (D.sl 2 qeh.length (qeh.flatMap qe)),C.d (D.sl 5 a_L.length (a_L.flatMap qh))]=((v++[(qb.mk qbW a_N qhv qeh a_L)]).flatMap qh).map C.d:=by have h:=qee (E:=qh) v (qb.mk qbW a_N qhv qeh a_L);rw[q1U] at h;exact h
theorem qrC (v:List qb) (i:Nat) (qbW:Int) (a_N:Int) (qhv:Int) (qeh:List qd) (a_L:List qb):spr ((v.flatMap qh).map C.d) (i*5) [C.d (D.int .i64 qbW),C.d (D.int .i64 a_N),C.d (D.int .i64 qhv),C.d (D.sl 2 qeh.length (qeh.flatMap qe)),C.d (D.sl 5 a_L.length (a_L.flatMap qh))]=((v.set i (qb.mk qbW a_N qhv qeh a_L)).flatMap qh).map C.d:=by have h:=qdO qdl v i (qb.mk qbW a_N qhv qeh a_L);rw[q1U] at h;exact h
theorem qgD:∀x:(JK qd),((eA2 qe) x).length=4:=fun _=>rfl
theorem qjZ (v:List (JK qd)) (i:Nat):ld T ((v.flatMap (eA2 qe)).map C.d) (i*4) 70=(v[i]?).bind fun x=>some (.agg [.d (D.int .i64 x.a0.School),.d (D.str x.a0.Code),.d (D.int .i64 x.a1.School),.d (D.str x.a1.Code)]):=by rw[qax qgD v i _ (by decide) (by decide)];cases v[i]? with|none=>rfl|some x=>rw[qLd,qLd];rfl
theorem qpi (s:S) (v:List (JK qd)) (lo hi:Option Operand):xsl T s 37 (.c (.d (.sl 4 v.length (v.flatMap (eA2 qe))))) lo hi=qw7 s (eA2 qe) 4 v (s.bd lo 0) (s.bd hi v.length):=qmK qgD v lo hi (by rfl) (by rfl) (by decide)
theorem qrl:∀x:Int,(eU8 x).length=1:=fun _=>rfl
theorem qpf (v:List Int) (i:Nat):ld T ((v.flatMap eU8).map C.d) (i) 5=(v[i]?).bind fun x=>some (.c (.d (D.int .u8 x))):=by rw[qaM qrl v i _ (by decide)];cases v[i]? with|none=>rfl|some x=>rfl
theorem qr9:∀x:ByteArray,(eS x).length=1:=fun _=>rfl
theorem qob (v:List ByteArray) (i:Nat):ld T ((v.flatMap eS).map C.d) (i) 9=(v[i]?).bind fun x=>some (.c (.d (D.str x))):=by rw[qaM qr9 v i _ (by decide)];cases v[i]? with|none=>rfl|some x=>rfl
theorem qhQ:∀x:Bool,(eB x).length=1:=fun _=>rfl
theorem qEY (v:List Bool):(v.flatMap eB).length=v.length:=by rw[q59 qhQ,Nat.mul_one]
theorem qqI (v:List Bool) (i:Nat):ld T ((v.flatMap eB).map C.d) (i) 4=(v[i]?).bind fun x=>some (.c (.d (D.bool x))):=by rw[qaM qhQ v i _ (by decide)];cases v[i]? with|none=>rfl|some x=>rfl
theorem qyA (v:List Bool) (i:Nat) (a:Bool):spr ((v.flatMap eB).map C.d) (i) [C.d (D.bool a)]=((v.set i a).flatMap eB).map C.d:=by have h:=qdO qhQ v i a;rw[Nat.mul_one] at h;exact h
theorem qAm (m:Nat):(List.replicate m [C.d (D.bool false)]).flatten=((List.replicate m false).flatMap eB).map C.d:=qlw (E:=eB) false (by rfl) m
theorem qos:∀x:q3o,(q0R x).length=6:=qa3
theorem qu5 {α:Type} {E:α→List D} {k:Nat} (h:∀x,(E x).length=k) (hi:∀x y,E x=E y→x=y):∀x y:JK α,eA2 E x=eA2 E y→x=y:=by
 rintro⟨a0,a1⟩ ⟨b0,b1⟩ e
 unfold eA2 at e
 dsimp only at e
 obtain⟨e,h1⟩:=List.append_inj' e (by rw[h,h])
 rw[hi _ _ e,hi _ _ h1]
theorem q2Y (v w:List Int):(v.flatMap eI=w.flatMap eI)=(v=w):=propext ⟨fun h=>(q2u qd0 (by decide) (fun x y h=>by injection h with h;injection h) _ _) h,fun h=>by rw[h]⟩
theorem q5h:∀x y:qd,qe x=qe y→x=y:=by
 rintro⟨a_0,a_1⟩ ⟨b_0,b_1⟩ h
 simp only[q0O,List.cons.injEq,D.int.injEq,D.bool.injEq,D.str.injEq,D.sl.injEq,true_and,and_true,q2Y] at h
 simp only[h]
theorem q5M:∀x y:qa,qf x=qf y→x=y:=by
 rintro⟨⟨qFv,qFw⟩,a_1,a_2,a_3,a_4,a_5,a_6⟩ ⟨⟨qFx,qFy⟩,b_1,b_2,b_3,b_4,b_5,b_6⟩ h
 simp only[JS,List.cons.injEq,D.int.injEq,D.bool.injEq,D.str.injEq,D.sl.injEq,true_and,and_true,q2Y] at h
 simp only[h]
theorem q1P (v w:List qa):(v.flatMap qf=w.flatMap qf)=(v=w):=propext ⟨fun h=>(q2u qbp (by decide) q5M _ _) h,fun h=>by rw[h]⟩
theorem q1Y (v w:List qd):(v.flatMap qe=w.flatMap qe)=(v=w):=propext ⟨fun h=>(q2u q6m (by decide) q5h _ _) h,fun h=>by rw[h]⟩
mutual
theorem q7b:∀x y:qb,qh x=qh y→x=y
 | ⟨a0,a1,a2,a3,a4⟩,⟨b0,b1,b2,b3,b4⟩,h=>by
  rw[qh,qh] at h
  simp only[List.cons.injEq,D.int.injEq,D.bool.injEq,D.str.injEq,D.sl.injEq,true_and,and_true,q2Y,q1P,q1Y] at h
  have hl:a4=b4:=q6n a4 b4 (by simp only[h])
  subst hl
  simp only[h]
theorem q6n:∀v w:List qb,J1 v=J1 w→v=w
 | [],[],_=>rfl
 | [],y::w,e=>by
  have:=congrArg List.length e
  rw[J1,J1,qLk,q1m] at this
  first|omega|(simp at this;done)|(simp at this;omega)
 | x::v,[],e=>by
  have:=congrArg List.length e
  rw[J1,J1,qLk,q1m] at this
  first|omega|(simp at this;done)|(simp at this;omega)
 | x::v,y::w,e=>by
  rw[J1,J1] at e
  obtain⟨h1,h2⟩:=List.append_inj e (by rw[q1m,q1m])
  rw[q7b x y h1,q6n v w h2]
end
theorem q2e (v w:List qb):(v.flatMap qh=w.flatMap qh)=(v=w):=propext ⟨fun h=>(q2u qdl (by decide) q7b _ _) h,fun h=>by rw[h]⟩
theorem q2c (v w:List (JK qd)):(v.flatMap (eA2 qe)=w.flatMap (eA2 qe))=(v=w):=propext ⟨fun h=>(q2u qgD (by decide) (qu5 q5k q5h) _ _) h,fun h=>by rw[h]⟩
theorem q4x (v w:List Int):(v.flatMap eU8=w.flatMap eU8)=(v=w):=propext ⟨fun h=>(q2u qrl (by decide) (fun x y h=>by injection h with h;injection h) _ _) h,fun h=>by rw[h]⟩
theorem q4I (v w:List ByteArray):(v.flatMap eS=w.flatMap eS)=(v=w):=propext ⟨fun h=>(q2u qr9 (by decide) (fun x y h=>by injection h with h;injection h) _ _) h,fun h=>by rw[h]⟩
theorem q4p (v w:List Bool):(v.flatMap eB=w.flatMap eB)=(v=w):=propext ⟨fun h=>(q2u qhQ (by decide) (fun x y h=>by injection h with h;injection h) _ _) h,fun h=>by rw[h]⟩
theorem qac:∀x y:q3o,q0R x=q0R y→x=y:=by
 rintro⟨⟨qFv,qFw,a_0_2,a_0_3,a_0_4⟩,a_1⟩ ⟨⟨qFx,qFy,b_0_2,b_0_3,b_0_4⟩,b_1⟩ h
 simp only[qbv,List.cons.injEq,D.int.injEq,D.bool.injEq,D.str.injEq,D.sl.injEq,true_and,and_true,q2Y,q1P,q1Y,q2e,q2c,q4x,q4I,q4p] at h
 simp only[h]
theorem q1A (v w:List q3o):(v.flatMap q0R=w.flatMap q0R)=(v=w):=propext ⟨fun h=>(q2u qos (by decide) qac _ _) h,fun h=>by rw[h]⟩
theorem qvO (s:S) (p:Nat):q4X T s p 158 none=some (.c (.hd .map p),s.up [(p,.ob (.mp [] 0))]):=rfl
end
noncomputable section
open Go.RowKit
theorem qDI:qfk Tryz.prog 55=true:=by kernel_rfl
theorem qDc:qqM Tryz.prog 70=true:=by kernel_rfl
def by0:=JA_ @k3 (JA_ @z3 (JA_ @b3 (JA_ @o3 (JA_ @q3 (JA_ @k4 (JA_ @z4 (JA_ @b4 (JA_ @o4 (JA_ @q4 (JA_ @k5 (JA_ @z5 (@q5))))))))))))
def by1:=JA_ @k9 (JA_ @z9 (@q9))
def by2:=JA_ @q21 (JA_ @k22 (JA_ @z22 (JA_ @o22 (@q22))))
def by3:=JA_ @k26 (JA_ @z26 (JA_ @o26 (JA_ @q26 (JA_ @k28 (JA_ @z28 (JA_ @o28 (JA_ @q28 (JA_ @k29 (JA_ @z29 (JA_ @o29 (JA_ @k33 (@z33))))))))))))
def by4:=JA_ @q33 (JA_ @k34 (JA_ @z34 (JA_ @o34 (JA_ @q34 (JA_ @k36 (JA_ @z36 (JA_ @b36 (JA_ @o36 (JA_ @q36 (JA_ @k37 (JA_ @z37 (JA_ @q37 (JA_ @k39 (JA_ @z39 (JA_ @o39 (@q39))))))))))))))))
def by5:=JA_ @k48 (JA_ @z48 (JA_ @o48 (JA_ @q48 (JA_ @k49 (JA_ @z49 (JA_ @o49 (@q49)))))))
def by6:=JA_ @k55 (JA_ @z55 (JA_ @b55 (JA_ @o55 (JA_ @q55 (JA_ @k57 (JA_ @z57 (JA_ @b57 (JA_ @o57 (@q57)))))))))
def by8:=JA_ @k70 (JA_ @z70 (JA_ @o70 (@q70)))
def by9:=@k76
def qHE:=JA_ @k85 (JA_ @q85 (JA_ @k88 (JA_ @z88 (JA_ @o88 (@q88)))))
def qIq:=@q92
def qKq:=JA_ @qKd (JA_ @qKy (JA_ @qJf (JA_ @qK3 (JA_ @qI2 (@qIk)))))
def qHT:=JA_ @qIJ (JA_ @qIQ (JA_ @qJ2 (JA_ @qHF (JA_ @qI3 (JA_ @qHp (JA_ @qIa (@qKa)))))))
def qKB:=JA_ @qHo (JA_ @qHZ (JA_ @qKp (@qK9)))
def qIs:=JA_ @qJx (JA_ @qI6 (JA_ @qKb (JA_ @qK5 (JA_ @qJk (JA_ @qHV (JA_ @qIf (JA_ @qHt (JA_ @qJG (JA_ @qJb (@qJ5))))))))))
def qJe:=JA_ @qIL (JA_ @qHK (@qHR))
def qKs:=JA_ @qJH (JA_ @qIW (JA_ @qIv (JA_ @qIC (JA_ @qJq (JA_ @qHs (JA_ @qKw (JA_ @qHw (JA_ @qKA (JA_ @qKf (@qKk))))))))))
def qIw:=JA_ @qIp (@qJv)
def qJ3:=@qI9
def qI4:=JA_ @qHx (@qJt)
def qIn:=@qDI
def qJ0:=JA_ @qDc (JA_ @pw9 (JA_ @qGl (JA_ @qGR (JA_ @qG3 (JA_ @qGN (JA_ @qGs (JA_ @qGO (JA_ @qGL (JA_ @qGg (JA_ @qFG (JA_ @qG2 (JA_ @qGo (JA_ @qGm (@qGw))))))))))))))
def qHS:=JA_ @qGQ (JA_ @qFO (JA_ @qGZ (JA_ @qFR (JA_ @qGf (JA_ @qGv (JA_ @qGB (JA_ @qGD (JA_ @qFY (JA_ @qGd (JA_ @qGU (JA_ @qFP (JA_ @qGP (JA_ @qFz (JA_ @qH2 (JA_ @qGu (JA_ @qFM (JA_ @qFn (JA_ @qGy (JA_ @qJS (JA_ @qGi (JA_ @qFL (JA_ @qFU (JA_ @qHb (JA_ @qFD (JA_ @qFA (JA_ @qFZ (JA_ @qH9 (@qGr))))))))))))))))))))))))))))
def qJN:=JA_ @qGY (JA_ @qGa (JA_ @qBq (JA_ @qH1 (JA_ @qDL (JA_ @qHd (JA_ @qDp (JA_ @qFT (JA_ @qGx (JA_ @qG8 (JA_ @qGq (JA_ @qGE (JA_ @qCU (JA_ @qGS (JA_ @qGA (JA_ @qFF (JA_ @qxI (JA_ @qzF (JA_ @qyW (JA_ @qwx (JA_ @qnI (JA_ @qwz (JA_ @qxa (JA_ @qwc (JA_ @qx8 (JA_ @qB5 (JA_ @qxA (JA_ @qAL (@qAj))))))))))))))))))))))))))))
def qIF:=JA_ @qy8 (JA_ @qzm (JA_ @qy1 (JA_ @qvH (JA_ @qq9 (JA_ @qAJ (JA_ @qwK (JA_ @qwM (JA_ @qxr (JA_ @qyn (JA_ @qAD (JA_ @qz7 (JA_ @qxQ (JA_ @qwp (JA_ @qzD (JA_ @qwN (JA_ @qz5 (JA_ @qz2 (JA_ @qwb (@qzN)))))))))))))))))))
def qKg:=JA_ @qwW (JA_ @qBh (JA_ @qwl (JA_ @qy0 (JA_ @qx0 (JA_ @qyQ (JA_ @qAH (JA_ @qyf (JA_ @qoc (JA_ @qBf (JA_ @qAB (JA_ @qwC (JA_ @qxT (JA_ @qAW (JA_ @qxm (JA_ @qyq (@qCc))))))))))))))))
def qK0:=JA_ @qF2 (JA_ @qFf (JA_ @qFc (JA_ @qCL (JA_ @qCN (JA_ @qDR (JA_ @qCx (JA_ @qDY (JA_ @qEz (JA_ @qEe (@qCi))))))))))
def qIl:=JA_ @qDh (JA_ @qF4 (JA_ @qEg (JA_ @qDd (JA_ @qEj (JA_ @qDr (JA_ @qE7 (JA_ @qDJ (JA_ @qFg (JA_ @qEb (JA_ @qFm (JA_ @qDw (JA_ @qDj (JA_ @qDH (JA_ @qDs (JA_ @qDl (JA_ @qEo (@qEn)))))))))))))))))
def qKv:=JA_ @qFs (JA_ @qEc (JA_ @qwq (JA_ @qzu (JA_ @qAu (JA_ @qxD (JA_ @qAb (JA_ @qwJ (JA_ @qzV (@qx5)))))))))
def qJ4:=JA_ @qza (JA_ @qzQ (JA_ @qys (JA_ @qzg (JA_ @qzC (JA_ @qAl (JA_ @qyX (JA_ @qB4 (JA_ @qxZ (JA_ @qyS (JA_ @qwv (@qzd)))))))))))
def qKj:=JA_ @qwu (JA_ @qzz (JA_ @qxN (JA_ @qEh (JA_ @qxV (JA_ @qxK (JA_ @qyc (JA_ @qyG (JA_ @qAE (JA_ @qAc (JA_ @qwh (JA_ @qxv (JA_ @qzs (@qzG)))))))))))))
def qHL:=JA_ @qAO (JA_ @qBc (JA_ @qsL (JA_ @qA3 (JA_ @qB0 (JA_ @qwL (JA_ @qxg (JA_ @qzL (JA_ @qwd (JA_ @qws (JA_ @qtH (JA_ @qwf (JA_ @qzB (JA_ @qAX (JA_ @qxj (JA_ @qAK (@qAV))))))))))))))))
def qIS:=JA_ @qxc (JA_ @qq6 (JA_ @qoj (JA_ @qon (JA_ @qpn (JA_ @qtz (JA_ @qsw (JA_ @qsC (JA_ @quU (JA_ @qtK (JA_ @qsI (JA_ @quz (JA_ @qrT (@qvc)))))))))))))
def qIO:=JA_ @qvy (JA_ @quI (JA_ @qsJ (JA_ @qvT (@qvs))))
def qJC:=JA_ @qzi (JA_ @qAy (JA_ @qsd (JA_ @qvn (@qxu))))
def qIr:=JA_ @quO (JA_ @qyN (JA_ @qwF (JA_ @qwE (JA_ @qrO (JA_ @qu3 (JA_ @qyI (JA_ @qBb (JA_ @qx2 (JA_ @qtr (JA_ @qy6 (JA_ @qA4 (JA_ @qth (JA_ @qzx (JA_ @qxt (JA_ @qxb (JA_ @qAY (JA_ @qtv (@qtg))))))))))))))))))
def qKC:=JA_ @quJ (JA_ @qte (JA_ @qtl (JA_ @qqT (JA_ @qrH (JA_ @qsi (JA_ @qud (JA_ @qv3 (JA_ @quZ (JA_ @qqn (JA_ @qoZ (@quV)))))))))))
def qKx:=JA_ @qsG (JA_ @qvQ (JA_ @qtC (JA_ @qAT (JA_ @qBg (JA_ @qt5 (JA_ @quR (JA_ @qyK (JA_ @qtP (@qB6)))))))))
def qIZ:=JA_ @qAr (JA_ @qzY (JA_ @qu6 (JA_ @qs7 (JA_ @qxz (JA_ @qz4 (JA_ @qw9 (JA_ @qt2 (JA_ @qzw (JA_ @qyR (JA_ @qs5 (JA_ @qyk (JA_ @qyh (JA_ @qxJ (JA_ @qyp (JA_ @qs9 (JA_ @qtS (JA_ @qso (@qs1))))))))))))))))))
def qHY:=JA_ @qsr (JA_ @qpH (JA_ @qrL (JA_ @qtc (JA_ @qrB (JA_ @qrN (JA_ @qv2 (JA_ @qq5 (JA_ @qqk (@qua)))))))))
def qIo:=@qse
def bt0:=JA_ @qDq (JA_ @qpz (JA_ @qEH (JA_ @qzU (JA_ @qz1 (JA_ @qvB (JA_ @qAi (JA_ @qzK (JA_ @qcA (@qjy)))))))))
def bt1:=JA_ @qwU (JA_ @qA8 (JA_ @qpV (JA_ @q6m (JA_ @qym (JA_ @qjB (JA_ @qxO (@qvf)))))))
def bt2:=JA_ @qvo (JA_ @qtt (JA_ @qvN (JA_ @qyb (JA_ @qjI (JA_ @qwS (@qrC))))))
def bt3:=@qjZ
def bt4:=JA_ @qpi (JA_ @qpf (@qob))
def bt5:=JA_ @qEY (JA_ @qqI (JA_ @qyA (@qAm)))
def bt6:=JA_ @qvO (JA_ @qbG (JA_ @qcf (JA_ @q7r (JA_ @qd7 (JA_ @qa1 (JA_ @q6u (JA_ @qam (JA_ @qcd (@qtT)))))))))
def bA:=JA_ @bx0 (JA_ @bx1 (JA_ @bx2 (JA_ @bx3 (JA_ @bx4 (JA_ @bx5 (JA_ @bx6 (JA_ @bx7 (JA_ @bx8 (JA_ @bx9 (JA_ @qK7 (JA_ @qI1 (JA_ @qJp (JA_ @qIK (JA_ @qIm (JA_ @qII (JA_ @qIb (JA_ @qJO (JA_ @qK6 (JA_ @qJP (JA_ @qHk (JA_ @qHz (JA_ @qJ7 (JA_ @qHl (JA_ @qIN (JA_ @qJw (JA_ @qKz (JA_ @qKe (JA_ @bz0 (JA_ @bz1 (JA_ @by0 (JA_ @by1 (JA_ @by2 (JA_ @by3 (JA_ @by4 (JA_ @by5 (JA_ @by6 (JA_ @by8 (JA_ @by9 (JA_ @qHE (JA_ @qIq (JA_ @qKq (JA_ @qHT (JA_ @qKB (JA_ @qIs (JA_ @qJe (JA_ @qKs (JA_ @qIw (JA_ @qJ3 (JA_ @qI4 (JA_ @qIn (JA_ @qJ0 (JA_ @qHS (JA_ @qJN (JA_ @qIF (JA_ @qKg (JA_ @qK0 (JA_ @qIl (JA_ @qKv (JA_ @qJ4 (JA_ @qKj (JA_ @qHL (JA_ @qIS (JA_ @qIO (JA_ @qJC (JA_ @qIr (JA_ @qKC (JA_ @qKx (JA_ @qIZ (JA_ @qHY (JA_ @qIo (JA_ @bt0 (JA_ @bt1 (JA_ @bt2 (JA_ @bt3 (JA_ @bt4 (JA_ @bt5 (@bt6)))))))))))))))))))))))))))))))))))))))))))))))))))))))))))))))))))))))))))))
def bZ:=JA_ @qLk.{0} (JA_ @qLZ.{0} (JA_ @q6e (JA_ @qLV.{0} (JA_ @qLo.{0} (JA_ @qLX.{0} (JA_ @qLB (JA_ @qMj.{0,0} (JA_ @List.flatMap_nil.{0,0} (JA_ @qLA.{0,0} (JA_ @List.map_nil.{0,0} (JA_ @eI.eq_1 (JA_ @eS.eq_1 (JA_ @qMk.{0} (JA_ @qLx.{0} (JA_ @qLy.{0} (JA_ @List.flatMap_append.{0,0} (JA_ @List.map_append.{0,0} (JA_ @q1U (JA_ @q0O (JA_ @JS (@eA2.eq_1)))))))))))))))))))))
theorem gA {P:Prop} (h:P:=by simp -implicitDefEqProofs (maxSteps:=10000000) only[bA,Int.reduceToNat,Int.reduceLT,Int.reduceLE,Int.reduceAdd,Int.reduceSub,Int.reduceMul,Int.reduceNeg,Int.reduceEq,Int.reduceNe,Int.reduceBEq,Int.reduceBNe,Nat.reduceLT,Nat.reduceAdd,Nat.reduceMul,Nat.reduceSub,Nat.reduceEqDiff,Nat.reduceLeDiff,Nat.reduceBEq,Nat.reduceBNe,↓reduceIte,reduceCtorEq,pure,bind,w64,Qd,roundOf,Option.or_some,Option.or_none,Option.none_or,Option.some_or, *]<;>simp only[rL,dL,bR,bZ,Nat.reduceAdd]):P:=h
end
end Go.Proofs.YtojflbfdcpkedaaGreat.Vc
