/- Part 3 of a proof. -/
import Derived.Test.YtcdegieiflmaeaaN2
import Derived.Shelf.SlMaps.Clone
import Derived.Shelf.SlIter.Sorted
import Derived.Shelf.RegionOpenPlain
import Derived.WalkKit
import Derived.Deep.LoopGhost
import Derived.Deep.RegionLaw
import Derived.Lib.Walk
import Derived.Sort.WalkB12
import Derived.Lib.SliceRun
import Derived.Test.YtcdegieiflmaeaaProg
import Derived.Shelf.Sort.Plain
import Derived.Shelf.Slices.In.SortNone
import Derived.TacticsInMore
import Derived.Below
set_option linter.unusedVariables false
set_option linter.unusedSimpArgs false
set_option linter.defProp false
set_option linter.unusedSectionVars false
set_option linter.unnecessarySimpa false
namespace Go.Proofs.Ytcdegieiflmaeaa.Vc
open Go.RowKit
def stT (ops:List Oper) (tx:Nat→Tx) (s0:S) (p:Nat→Bool):Nat→S
 | 0=>s0
 | i+1=>if p i=true then(((stT ops tx s0 p i).up (tx i).1.2).kill (tx i).2.ks).put (q0U ops i) (tx i).1.1 else stT ops tx s0 p i
section comb
variable {ops:List Oper} {tx:Nat→Tx} {s0:S}
theorem q1u {p q:Nat→Bool} {d:Nat}:∀k,(∀i,i<k→q0U ops i=some d∨d∈(tx i).2.ks→p i=q i)→(stT ops tx s0 p k).get d=(stT ops tx s0 q k).get d
 | 0,_=>rfl
 | k+1,h=>by
  have ih:=q1u k (fun i hi=>h i (by omega))
  have key:∀(p:Nat→Bool),(stT ops tx s0 p (k+1)).get d=if p k=true then(if q0U ops k=some d then(tx k).1.1 else if d∈(tx k).2.ks then .any else(stT ops tx s0 p k).get d) else(stT ops tx s0 p k).get d:=fun p=>by
   show(if p k=true then _ else _:S).get d=_
   by_cases hp:p k=true
   ·rw[if_pos hp,if_pos hp,S.put_get,S.kill_get,S.up_get]
   ·rw[if_neg hp,if_neg hp]
  rw[key,key,ih]
  by_cases hd:q0U ops k=some d∨d∈(tx k).2.ks
  ·rw[h k (by omega) hd]
  ·rw[if_neg (fun h=>hd (.inl h)),if_neg (fun h=>hd (.inr h))]
   split<;>split<;>rfl
theorem q0y {p q:Nat→Bool} {x:Nat}:∀k,(∀i,i<k→(∃b,(x,b)∈(tx i).1.2)→p i=q i)→(stT ops tx s0 p k).blk x=(stT ops tx s0 q k).blk x
 | 0,_=>rfl
 | k+1,h=>by
  have ih:=q0y k (fun i hi=>h i (by omega))
  have key:∀(p:Nat→Bool),(stT ops tx s0 p (k+1)).blk x=if p k=true then lk (tx k).1.2 x ((stT ops tx s0 p k).blk x) else(stT ops tx s0 p k).blk x:=fun p=>by
   show(if p k=true then _ else _:S).blk x=_
   split
   ·rw[S.put_blk,S.kill_blk,q1O]
   ·rfl
  rw[key,key,ih]
  by_cases hd:∃b,(x,b)∈(tx k).1.2
  ·rw[h k (by omega) hd]
  ·rw[ZP _ x _ (fun b hb=>hd ⟨b,hb⟩)]
   split<;>split<;>rfl
theorem q6J {p:Nat→Bool} {j:Nat}:∀k,j≤k→stT ops tx s0 (fun i=>p i&&decide (i<j)) k=stT ops tx s0 p j
 | 0,h=>by
  have:j=0:=by omega
  subst this;rfl
 | k+1,h=>by
  have heq:∀l,l≤j→stT ops tx s0 (fun i=>p i&&decide (i<j)) l=stT ops tx s0 p l:=by
   intro l
   induction l with
   | zero=>intro _;rfl
   | succ l ih=>
    intro hl
    unfold stT
    rw[ih (by omega)]
    have:decide (l<j)=true:=decide_eq_true (by omega)
    simp only[this,Bool.and_true]
  by_cases hj:j=k+1
  ·subst hj;exact heq _ (Nat.le_refl _)
  ·have ih:=q6J (p:=p) (j:=j) k (by omega)
   have e1:∀q:Nat→Bool,stT ops tx s0 q (k+1)=if q k=true then(((stT ops tx s0 q k).up (tx k).1.2).kill (tx k).2.ks).put (q0U ops k) (tx k).1.1 else stT ops tx s0 q k:=fun _=>rfl
   rw[e1,if_neg (by simp;omega)]
   exact ih
theorem q5c {α:Type} {Pr:α→Prop} {i:Nat} {z:α} (hz:Pr z):∀{t:List (Nat×α)},(∀u∈t,u.1=i→Pr u.2)→Pr (lk t i z)
 | [],_=>hz
 | (j,x)::t,h=>by
  unfold lk
  split
  ·rename_i hj;exact h (j,x) List.mem_cons_self hj
  ·exact q5c hz (fun u hu=>h u (List.mem_cons_of_mem _ hu))
theorem q8i {fp:Fp} (h0:qfs fp s0=true) (p:Nat→Bool):∀k,(∀i,i<k→p i=true→qat ops fp i (tx i)=true)→(∀d,d ∉ fp.ks→((stT ops tx s0 p k).get d).fgL fp.X=(stT ops tx s0 p k).get d)∧∀x,x ∉ fp.wb→((stT ops tx s0 p k).blk x).fgL fp.X=(stT ops tx s0 p k).blk x
 | 0,_=>by
  simp only[qfs,Bool.and_eq_true,List.all_eq_true,Bool.or_eq_true] at h0
  refine⟨fun d hd=>?_,fun x hx=>?_⟩
  ·refine q5c (Pr:=fun r:R=>r.fgL fp.X=r) rfl (fun u hu he=>?_)
   rcases h0.1 u hu with h|h
   ·exact absurd (by simpa using h) (he ▸ hd)
   ·exact qgX h
  ·refine q5c (Pr:=fun r:B=>r.fgL fp.X=r) rfl (fun u hu he=>?_)
   rcases h0.2 u hu with h|h
   ·exact absurd (by simpa using h) (he ▸ hx)
   ·exact qiA h
 | k+1,h1=>by
  obtain⟨g1,g2⟩:=q8i h0 p k (fun i hi=>h1 i (by omega))
  unfold stT
  split
  ·rename_i hp
   have hx:=h1 k (by omega) hp
   simp only[qat,Bool.and_eq_true,List.all_eq_true,Bool.or_eq_true] at hx
   refine⟨fun d hdk=>?_,fun x hxw=>?_⟩
   ·rw[S.put_get,S.kill_get,S.up_get]
    split
    ·rename_i hd
     rcases hx.1 with h|h
     ·exact qgX h
     ·rw[hd] at h
      exact absurd (by simpa using h) hdk
    ·split
     ·rfl
     ·exact g1 d hdk
   ·rw[S.put_blk,S.kill_blk,q1O]
    refine q5c (Pr:=fun r:B=>r.fgL fp.X=r) (g2 x hxw) (fun u hu he=>?_)
    rcases hx.2 u hu with h|h
    ·exact absurd (by simpa using h) (he ▸ hxw)
    ·exact qiA h
  ·exact⟨g1,g2⟩
theorem q86 {A:List (List Nat)} {fp:Fp} {j:Nat}:∀{l:List Tx} {i:Nat},qd3 ops A fp j i l=true→∀(k:Nat) (y:Tx),l[k]?=some y→i+k=j∨j∈A.getD (i+k) []∨qat ops fp (i+k) y=true
 | [],i,_,k,y,hk=>by simp at hk
 | x::l,i,h,k,y,hk=>by
  simp only[qd3,Bool.and_eq_true,Bool.or_eq_true,beq_iff_eq,List.contains_iff_mem] at h
  cases k with
  | zero=>
   simp only[List.getElem?_cons_zero,Option.some.injEq] at hk
   subst hk
   rcases h.1 with (h|h)|h
   ·exact .inl h
   ·exact .inr (.inl h)
   ·exact .inr (.inr h)
  | succ k=>
   have:=q86 h.2 k y (by simpa using hk)
   rw[show i+1+k=i+(k+1) by omega] at this
   exact this
theorem qaM {A:List (List Nat)} {l0:List Tx}:∀{l:List Tx} {j:Nat},okX ops A s0 l0 j l=true→∀(k:Nat) (x:Tx),l[k]?=some x→x.2.X=[]∨(qfs x.2 s0=true∧qd3 ops A x.2 (j+k) 0 l0=true)
 | [],j,_,k,x,hk=>by simp at hk
 | y::l,j,h,k,x,hk=>by
  simp only[okX,Bool.and_eq_true] at h
  cases k with
  | zero=>
   simp only[List.getElem?_cons_zero,Option.some.injEq] at hk
   subst hk
   have h1:=h.1
   split at h1
   ·rename_i he;exact .inl (by simpa using he)
   ·simp only[Bool.and_eq_true] at h1;exact .inr h1
  | succ k=>
   have:=qaM h.2 k x (by simpa using hk)
   rw[show j+1+k=j+(k+1) by omega] at this
   exact this
theorem q8V {A:List (List Nat)} {j:Nat} {y:Tx}:∀{l:List Tx} {i:Nat},qc4 ops A j y i l=true→∀(k:Nat) (x:Tx),l[k]?=some x→i+k<j→q19 ops (i+k) j x y=true→i+k∈A.getD j []
 | [],i,_,k,x,hk=>by simp at hk
 | z::l,i,h,k,x,hk=>by
  simp only[qc4,Bool.and_eq_true,Bool.or_eq_true,Bool.not_eq_true',List.contains_iff_mem,decide_eq_false_iff_not] at h
  cases k with
  | zero=>
   simp only[List.getElem?_cons_zero,Option.some.injEq] at hk
   subst hk
   intro h1 h2
   rcases h.1 with (h|h)|h
   ·exact absurd h1 h
   ·rw[Nat.add_zero] at h2;rw[h] at h2;cases h2
   ·exact h
  | succ k=>
   have:=q8V h.2 k x (by simpa using hk)
   rw[show i+1+k=i+(k+1) by omega] at this
   exact this
theorem q8x {A:List (List Nat)} {l0:List Tx}:∀{l:List Tx} {j:Nat},qcZ ops A l0 j l=true→∀(k:Nat) (y:Tx),l[k]?=some y→qc4 ops A (j+k) y 0 l0=true
 | [],j,_,k,y,hk=>by simp at hk
 | z::l,j,h,k,y,hk=>by
  simp only[qcZ,Bool.and_eq_true] at h
  cases k with
  | zero=>simp only[List.getElem?_cons_zero,Option.some.injEq] at hk;subst hk;exact h.1
  | succ k=>
   have:=q8x h.2 k y (by simpa using hk)
   rw[show j+1+k=j+(k+1) by omega] at this
   exact this
theorem qdz {A:List (List Nat)} {l:List Tx} (h:okK ops A l=true) {i j:Nat} {x y:Tx} (hij:i<j) (hx:l[i]?=some x) (hy:l[j]?=some y) (hc:q19 ops i j x y=true):i∈A.getD j []:=by
 unfold okK at h
 rw[Bool.or_eq_true] at h
 rcases h with h|h
 ·rw[List.all_eq_true] at h
  have h1:=h x (List.mem_of_getElem? hx)
  have h2:=h y (List.mem_of_getElem? hy)
  rw[List.isEmpty_iff] at h1 h2
  unfold q19 at hc
  rw[h1,h2] at hc
  cases hc
 ·have h1:=q8x h j y hy
  rw[Nat.zero_add] at h1
  have h2:=q8V h1 i x hx
  rw[Nat.zero_add] at h2
  exact h2 hij hc
theorem q3U {i d:Nat} {o:Oper} (ho:ops[i]?=some o) (h:d∈Ju ops o∨o.dst=some d):(q7e ops i).contains d=true:=by
 unfold q7e
 rw[ho]
 simp only[List.contains_iff_mem,List.mem_append]
 rcases h with h|h
 ·exact .inl h
 ·exact .inr (by rw[h];simp)
theorem q6g {a b:Fp} (h:a.none?=true):JK a b=false:=by
 simp only[Fp.none?,Bool.and_eq_true,List.isEmpty_iff] at h
 simp[JK,h.1,h.2]
theorem qaU {A:List (List Nat)}:∀{l:List Tx} {j:Nat} {prev:List (Nat×Fp)},okP A j prev l=true→
  (∀(k:Nat) (x:Tx),l[k]?=some x→(∀q∈prev,JK q.2 x.2=true→q.1∈A.getD (j+k) [])∧∀(i:Nat) (y:Tx),i<k→l[i]?=some y→JK y.2 x.2=true→j+i∈A.getD (j+k) [])
 | [],j,prev,_,k,x,hk=>by simp at hk
 | x0::l,j,prev,h,k,x,hk=>by
  simp only[okP,Bool.and_eq_true,List.all_eq_true] at h
  cases k with
  | zero=>
   simp only[List.getElem?_cons_zero,Option.some.injEq] at hk
   subst hk
   refine⟨fun q hq hc=>?_,fun i y hi=>by omega⟩
   have h1:=h.1 q hq
   rw[if_pos hc] at h1
   simpa using h1
  | succ k=>
   obtain⟨g1,g2⟩:=qaU h.2 k x (by simpa using hk)
   have e1:j+1+k=j+(k+1):=by omega
   rw[e1] at g1 g2
   refine⟨fun q hq hc=>?_,fun i y hi hy hc=>?_⟩
   ·refine g1 q ?_ hc
    split
    ·exact hq
    ·exact List.mem_cons_of_mem _ hq
   ·cases i with
    | zero=>
     simp only[List.getElem?_cons_zero,Option.some.injEq] at hy
     subst hy
     by_cases hn:x0.2.none?=true
     ·rw[q6g hn] at hc;cases hc
     ·refine g1 (j,x0.2) ?_ hc
      rw[if_neg hn];exact List.mem_cons_self
    | succ i=>
     have:=g2 i y (by omega) (by simpa using hy) hc
     rw[show j+(i+1)=j+1+i by omega];exact this
end comb
section
variable {P:Program} {T:Ty} {po:Pol} {E:Orc} {cx:Cx}
theorem qdP (hA:Ag P T) (hE:Snd P E) {ops:Array Oper} {Q:Exit→Act→World→Prop} {q:Nat} {o:Oper} {s s':S} {ρ:Pl} {a:Act} {w:World} (hq:ops[q]?=some o) (hs:Sim cx ρ s a w) (h:xr P T po E ops.toList (ops.toList.drop q) s=some s') :
  wpOpIn (FW cx.ro) 0 P ops Q q (fun a' w'=>∃ρ' s1,Sim cx ρ' s1 a' w'∧xr P T po E ops.toList (ops.toList.drop (q+1)) s1=some s') a w:=by
 have hd:ops.toList.drop q=o::ops.toList.drop (q+1):=by
  have hlt:q<ops.toList.length:=by have:=(Array.getElem?_eq_some_iff.1 hq).1;simpa using this
  rw[List.drop_eq_getElem_cons hlt]
  congr 1
  have:=(Array.getElem?_eq_some_iff.1 hq).2
  simpa using this
 rw[hd] at h
 unfold xr at h
 obtain⟨s1,h1,h2⟩:=Option.bind_eq_some_iff.1 h
 unfold wpOpIn
 rw[hq]
 simp only
 have key:∀(s0:S) (act:Bool),Sim cx ρ s0 a w→Region.wanted o (yielded ops a.tmps)=act→xst P T po E o act s0=some s1→
   if Region.wanted o (yielded ops a.tmps)=true then o.wpIn (FW cx.ro) 0 P a w (fun a' w'=>∃ρ' s1,Sim cx ρ' s1 a' w'∧xr P T po E ops.toList (ops.toList.drop (q+1)) s1=some s') Q else(∀f,o.about P w a.eval=some f→(FW cx.ro).fn f)∧(fun a' w'=>∃ρ' s1,Sim cx ρ' s1 a' w'∧xr P T po E ops.toList (ops.toList.drop (q+1)) s1=some s') (a.put o.dst undef) w:=by
  intro s0 act h3 h4 h5
  have:=qaP (next:=fun a' w'=>∃ρ' s1,Sim cx ρ' s1 a' w'∧xr P T po E ops.toList (ops.toList.drop (q+1)) s1=some s') (Q:=Q) hA hE h3 h5 (fun ρ' a' w' h6=>⟨ρ',s1,h6,h2⟩)
  rw[h4]
  split
  ·rename_i ha;rw[if_pos ha] at this;exact this
  ·rename_i ha;rw[if_neg ha] at this;exact⟨q3s,this⟩
 unfold xgd at h1
 cases hi:ipX T s o with
 | some y=>
  rw[hi] at h1
  replace h1:y=some s1:=h1
  subst h1
  obtain⟨i1,i2⟩:=qaN (next:=fun a' w'=>∃ρ' s1,Sim cx ρ' s1 a' w'∧xr P T po E ops.toList (List.drop (q+1) ops.toList) s1=some s') (Q:=Q) hA hs hi (fun ρ' a' w' h6=>⟨ρ',_,h6,h2⟩)
  rw[if_pos (by unfold Region.wanted;rw[i1])]
  exact i2
 | none=>
 rw[hi] at h1
 replace h1:q4T P T po E ops.toList o s=some s1:=h1
 unfold q4T at h1
 split at h1
 ·rename_i hg
  exact key s true hs (by unfold Region.wanted;rw[hg]) h1
 ·rename_i j want hg
  split at h1
  ·rename_i d hd
   split at h1
   ·rename_i b hb
    have hgd:gd ops.toList s o.guard=some (b==want):=by unfold gd;rw[hg];simp only[hd,hb]
    have hw:=J5 hs hgd
    split at h1
    ·rename_i hbt
     subst hbt
     exact key _ want (hs.lit hb) (by rw[hw];cases want<;>rfl) h1
    ·rename_i hbf
     have hbf:b=false:=by cases b<;>simp at hbf ⊢
     subst hbf
     exact key _ (!want) (hs.lit hb) (by rw[hw];cases want<;>rfl) h1
   ·rename_i hb
    have hgd:gd ops.toList s o.guard=some false:=by unfold gd;rw[hg];simp only[hd,hb]
    exact key s false hs (J5 hs hgd) h1
   ·cases h1
  ·cases h1
theorem q7X {lim i:Nat}:∀{l:List Tx} {j:Nat},qeQ lim i j l=true→∀(k:Nat) (x:Tx),l[k]?=some x→i≠j+k→∀u∈x.1.2,u.1<lim
 | [],_,_,k,x,hk=>by simp at hk
 | y::l,j,h,k,x,hk=>by
  unfold qeQ at h
  rw[Bool.and_eq_true] at h
  intro hne u hu
  cases k with
  | zero=>
   simp only[List.getElem?_cons_zero,Option.some.injEq] at hk
   subst hk
   have h1:=h.1
   rw[Bool.or_eq_true] at h1
   rcases h1 with h1|h1
   ·exact absurd (by simpa using h1) hne
   ·have:=List.all_eq_true.1 h1 u hu
    rwa [Nat.blt_eq] at this
  | succ k=>exact q7X h.2 k x (by simpa using hk) (by omega) u hu
theorem qbc {L:List Tx}:∀{l:List Tx} {j:Nat},okN L j l=true→∀(k:Nat) (x:Tx),l[k]?=some x→∀lim,x.2.nw=[lim]→qeQ lim (j+k) 0 L=true
 | [],_,_,k,x,hk=>by simp at hk
 | y::l,j,h,k,x,hk=>by
  unfold okN at h
  rw[Bool.and_eq_true] at h
  intro lim hl
  cases k with
  | zero=>
   simp only[List.getElem?_cons_zero,Option.some.injEq] at hk
   subst hk
   have h1:=h.1
   rw[hl] at h1
   exact h1
  | succ k=>
   have:=qbc h.2 k x (by simpa using hk) lim hl
   rwa [show j+1+k=j+(k+1) by omega] at this
theorem qgG (hA:Ag P T) (hE:Snd P E) {id:Nat} {ops:Array Oper} {Q':Exit→S→Prop} {s s':S} {m:Nat} {A:List (List Nat)} (hm:P.follows .mixedOrders=true) (hchk:qbs ops.toList m A=true)
  (h:xdp P T po E ops.toList A s m ops.toList s []=some s') (hQ:Q' .normal s'):J P cx (.region id ops true) Q' s:=by
 intro ρ a w hs
 obtain⟨Sq,tx,r0,r1,⟨r2,r3,rk,rn⟩,r4⟩:=q7N hA hE m 0 ops.toList s s' [] rfl h
 rw[List.nil_append] at r2 r3 rk rn
 rw[Nat.zero_add] at r4
 -- the checks
 simp only[qbs,Bool.and_eq_true,List.all_eq_true,List.mem_range,decide_eq_true_eq] at hchk
 obtain⟨⟨⟨⟨c1,c2⟩,c3⟩,c5⟩,c6⟩:=hchk
 have hlen:ops.toList.length=ops.size:=by simp
 have hget:∀(i:Nat) (o:Oper),ops[i]?=some o→ops.toList[i]?=some o:=fun i o h=>by rw[Array.getElem?_toList];exact h
 have hget':∀(i:Nat) (o:Oper),ops.toList[i]?=some o→ops[i]?=some o:=fun i o h=>by rw[Array.getElem?_toList] at h;exact h
 have hlt:∀(i:Nat) (o:Oper),ops[i]?=some o→i<ops.toList.length:=fun i o h=>by rw[hlen];exact(Array.getElem?_eq_some_iff.1 h).1
 obtain⟨An,hAn⟩:∃An,An=qi6 ops.toList:=⟨_,rfl⟩
 rw[←hAn] at c1 c3 c5 c6
 have d1:∀(i:Nat) (o:Oper),ops[i]?=some o→(∀k∈QE o,k<i)∧∀k∈An.getD i [],k∈QE o∨∃d∈QE o,k∈An.getD d []:=fun i o ho=>by
  have:=c1 i (hlt i o ho)
  rw[hget i o ho] at this
  simp only[Bool.and_eq_true,List.all_eq_true,decide_eq_true_eq,Bool.or_eq_true,List.contains_iff_mem,List.any_eq_true] at this
  exact this
 have hanc:∀E,Run ops E→∀(i:Nat) (o:Oper),ops[i]?=some o→(∀k∈QE o,k∈E)→∀k∈An.getD i [],k∈E:=by
  intro E hr i
  induction i using Nat.strongRecOn with
  | _ i ih=>
   intro o ho hE k hk
   rcases(d1 i o ho).2 k hk with h1|⟨d,h1,h2⟩
   ·exact hE k h1
   ·have hdE:=hE d h1
    have hdl:=hr.lt d hdE
    exact ih d ((d1 i o ho).1 d h1) ops[d] (Array.getElem?_eq_getElem hdl) (fun k' hk'=>hr.closed d hdE _ (Array.getElem?_eq_getElem hdl) k' hk') k h2
 have hancE:∀E,Run ops E→∀j∈E,∀k∈An.getD j [],k∈E:=fun E hr j hj k hk=>by
  have hjl:=hr.lt j hj
  exact hanc E hr j ops[j] (Array.getElem?_eq_getElem hjl) (fun k' hk'=>hr.closed j hj _ (Array.getElem?_eq_getElem hjl) k' hk') k hk
 have hmn:m≤ops.size:=by rw[←hlen];exact c2
 have hop:∀i,i<m→∃o,ops[i]?=some o:=fun i hi=>⟨_,Array.getElem?_eq_getElem (by omega)⟩
 have hst:∀j (o:Oper),j<m→ops[j]?=some o→Stp P ops.toList o (Sq j) (Sq (j+1)) (tx j):=fun j o hj ho=>by
  obtain⟨o',q1,q2⟩:=r1 j hj
  rw[Nat.zero_add,hget j o ho] at q1
  injection q1 with q1
  subst q1;exact q2
 have htx:∀i,i<m→((List.range m).map tx)[i]?=some (tx i):=fun i hi=>by simp[hi]
 -- what meets is in order
 have cB:∀i j,i<j→j<m→JK (tx i).2 (tx j).2=true→i∈An.getD j []:=fun i j hij hj hc=>by
  have:=(qaU r2 j (tx j) (htx j hj)).2 i (tx i) hij (htx i (by omega)) hc
  rw[Nat.zero_add,Nat.zero_add] at this
  have h6:=c6 j hj i this
  simpa using h6
 have cS:∀i j,i<j→j<m→q5I ops.toList i j=true→i∈An.getD j []:=fun i j hij hj hc=>by
  have:=c3 j hj i hij
  simp only[Bool.or_eq_true,Bool.not_eq_true',List.contains_iff_mem] at this
  rcases this with h1|h1
  ·rw[hc] at h1;cases h1
  ·exact h1
 have hdst:∀(j:Nat) (o:Oper),ops[j]?=some o→q0U ops.toList j=o.dst:=fun j o ho=>by unfold q0U;rw[hget j o ho];rfl
 -- a writer and a reader of one slot; two writers of one slot
 have cS1:∀(i j:Nat) (o o':Oper) (d:Nat),i<j→j<m→ops[i]?=some o→ops[j]?=some o'→o.dst=some d→(d∈Ju ops.toList o'∨o'.dst=some d)→i∈An.getD j []:=fun i j o o' d hij hj ho ho' hd hx=>by
  refine cS i j hij hj ?_
  unfold q5I
  rw[hget i o ho,hget j o' ho']
  simp only[hd,Bool.or_eq_true,List.contains_iff_mem,decide_eq_true_eq]
  exact .inl hx
 have cS2:∀(i j:Nat) (o o':Oper) (d:Nat),i<j→j<m→ops[i]?=some o→ops[j]?=some o'→o'.dst=some d→d∈Ju ops.toList o→i∈An.getD j []:=fun i j o o' d hij hj ho ho' hd hx=>by
  refine cS i j hij hj ?_
  unfold q5I
  rw[hget i o ho,hget j o' ho']
  simp only[hd,Bool.or_eq_true,List.contains_iff_mem]
  exact .inr hx
 -- far
 have hAnlt:∀(i:Nat) (o:Oper),ops[i]?=some o→∀k∈An.getD i [],k<i:=by
  intro i
  induction i using Nat.strongRecOn with
  | _ i ih=>
   intro o ho k hk
   rcases(d1 i o ho).2 k hk with h1|⟨d,h1,h2⟩
   ·exact(d1 i o ho).1 k h1
   ·have hd:=(d1 i o ho).1 d h1
    have hdl:d<ops.size:=by have:=hlt i o ho;rw[hlen] at this;omega
    have:=ih d hd ops[d] (Array.getElem?_eq_getElem hdl) k h2
    omega
 have cK:∀i j,i<j→j<m→q19 ops.toList i j (tx i) (tx j)=true→i∈An.getD j []:=fun i j hij hj hc=>by
  have:=qdz rk hij (htx i (by omega)) (htx j hj) hc
  have h6:=c6 j hj i this
  simpa using h6
 have cK1:∀(i j:Nat) (o':Oper) (d:Nat),i<j→j<m→ops[j]?=some o'→d∈(tx i).2.ks→(d∈Ju ops.toList o'∨o'.dst=some d)→i∈An.getD j []:=fun i j o' d hij hj ho' hd hx=>by
  refine cK i j hij hj ?_
  simp only[q19,Bool.or_eq_true,List.any_eq_true]
  exact .inl ⟨d,hd,.inl (q3U (hget j o' ho') hx)⟩
 have cK2:∀(i j:Nat) (o:Oper) (d:Nat),i<j→j<m→ops[i]?=some o→d∈(tx j).2.ks→(d∈Ju ops.toList o∨o.dst=some d)→i∈An.getD j []:=fun i j o d hij hj ho hd hx=>by
  refine cK i j hij hj ?_
  simp only[q19,Bool.or_eq_true,List.any_eq_true]
  exact .inr ⟨d,hd,q3U (hget i o ho) hx⟩
 have cK3:∀(i j:Nat) (d:Nat),i<j→j<m→d∈(tx i).2.ks→d∈(tx j).2.ks→i∈An.getD j []:=fun i j d hij hj hd hd'=>by
  refine cK i j hij hj ?_
  simp only[q19,Bool.or_eq_true,List.any_eq_true,List.contains_iff_mem]
  exact .inl ⟨d,hd,.inr hd'⟩
 have hfar:∀c,c<m→∀(p:Nat→Bool) (k:Nat),k≤m→(∀i,i<k→p i=true→i≠c∧c ∉ An.getD i [])→q90 (tx c).2 (stT ops.toList tx s p k):=fun c hc p k hk hp=>by
  rcases qaM r3 c (tx c) (htx c hc) with h1|⟨h1,h2⟩
  ·exact .inl h1
  ·refine .inr (q8i h1 p k (fun i hi hpi=>?_))
   obtain⟨p1,p2⟩:=hp i hi hpi
   have h3:=q86 h2 i (tx i) (htx i (by omega))
   rw[Nat.zero_add,Nat.zero_add] at h3
   rcases h3 with h3|h3|h3
   ·exact absurd h3 p1
   ·exact absurd (by simpa using c6 i (by omega) c h3) p2
   ·exact h3
 have farext:∀{fp:Fp} {t t':S},(∀d,t'.get d=t.get d)→(∀x,t'.blk x=t.blk x)→q90 fp t→q90 fp t':=fun h1 h2 h=>by
  rcases h with h|h
  ·exact .inl h
  ·exact .inr ⟨fun d hd=>by rw[h1];exact h.1 d hd,fun x hx=>by rw[h2];exact h.2 x hx⟩
 -- the text's states
 obtain⟨tp,htp⟩:∃tp:Nat→Bool,tp=fun _=>true:=⟨_,rfl⟩
 have htext:∀j,j≤m→(∀d,(Sq j).get d=(stT ops.toList tx s tp j).get d)∧(∀x,(Sq j).blk x=(stT ops.toList tx s tp j).blk x)∧(Sq j).n=s.n∧Nb (Sq j):=by
  intro j
  induction j with
  | zero=>intro _;rw[r0];exact⟨fun _=>rfl,fun _=>rfl,rfl,hs.nx⟩
  | succ j ih=>
   intro hj
   obtain⟨i1,i2,i3,i4⟩:=ih (by omega)
   obtain⟨o,ho⟩:=hop j (by omega)
   have hstp:=hst j o (by omega) ho
   obtain⟨e1,e2⟩:=hstp.eff (farext i1 i2 (hfar j (by omega) tp j (by omega) (fun i hi _=>⟨by omega,fun hj'=>by
    obtain⟨oi,hoi⟩:=hop i (by omega)
    have:=hAnlt i oi hoi j hj'
    omega⟩)))
   have hs1:stT ops.toList tx s tp (j+1)=(((stT ops.toList tx s tp j).up (tx j).1.2).kill (tx j).2.ks).put (q0U ops.toList j) (tx j).1.1:=by
    show(if tp j=true then _ else _)=_
    rw[htp,if_pos rfl]
   refine⟨fun d=>?_,fun x=>?_,hstp.n.trans i3,hstp.nb i4⟩
   ·rw[e1,hs1,S.put_get,S.kill_get,S.up_get,hdst j o ho,i1]
   ·rw[e2,hs1,S.put_blk,S.kill_blk,q1O,i2]
 -- the state behind some operations
 let pE:List Nat→Nat→Bool:=fun E i=>decide (i∈E)
 have hcut:∀j,j≤m→stT ops.toList tx s (fun i=>tp i&&decide (i<j)) m=stT ops.toList tx s tp j:=fun j hj=>q6J m hj
 have htpd:∀i j,(tp i&&decide (i<j))=decide (i<j):=fun i j=>by rw[htp];simp
 have hkeywb:∀i,i<m→∀x,(∃b,(x,b)∈(tx i).1.2)→x∈(tx i).2.wb:=fun i hi x ⟨b,hb⟩=>by
  obtain⟨o,ho⟩:=hop i hi
  exact(hst i o hi ho).us _ hb
 have htp1:∀j,stT ops.toList tx s tp (j+1)=(((stT ops.toList tx s tp j).up (tx j).1.2).kill (tx j).2.ks).put (q0U ops.toList j) (tx j).1.1:=fun j=>by
  show(if tp j=true then _ else _)=_
  rw[htp,if_pos rfl]
 -- all of the prefix done: the text's state
 have hfull:∀L ρ t a w,(∀i,i∈L↔i<m)→(∀d,t.get d=(stT ops.toList tx s (pE L) m).get d)→(∀x,t.blk x=(stT ops.toList tx s (pE L) m).blk x)→t.n=s.n→Sim cx ρ t a w→Sim cx ρ (Sq m) a w:=by
  intro L ρ t a w hL h1 h2 h3 hsim
  obtain⟨i1,i2,i3,i4⟩:=htext m (Nat.le_refl _)
  have e:∀i,i<m→pE L i=(tp i&&decide (i<m)):=fun i hi=>by rw[htpd];simp[pE,hL]
  refine hsim.ext (fun d=>?_) (fun x=>?_) (i3.trans h3.symm) i4
  ·rw[i1,h1,q1u m (fun i hi _=>e i hi),hcut m (Nat.le_refl _)]
  ·rw[i2,h2,q0y m (fun i hi _=>e i hi),hcut m (Nat.le_refl _)]
 refine q6p hm (fun i o ho k hk=>(d1 i o ho).1 k hk)
  (fun L a w=>∃ρ t,Sim cx ρ t a w∧(((∀i∈L,i<m)∧(∀d,t.get d=(stT ops.toList tx s (pE L) m).get d)∧(∀x,t.blk x=(stT ops.toList tx s (pE L) m).blk x)∧t.n=s.n)∨∃q,m≤q∧(∀i,i∈L↔i<q)∧xr P T po E ops.toList (ops.toList.drop q) t=some s')) ?_ ?_ ⟨ρ,s,hs.drew,.inl ⟨fun i h=>by simp at h,fun d=>?_,fun x=>?_,rfl⟩⟩
 rotate_left 2
 ·have:(stT ops.toList tx s (pE []) m).get d=(stT ops.toList tx s (fun i=>tp i&&decide (i<0)) m).get d:=q1u m (fun i _ _=>by simp[pE])
  rw[this,hcut 0 (Nat.zero_le _)];rfl
 ·have:(stT ops.toList tx s (pE []) m).blk x=(stT ops.toList tx s (fun i=>tp i&&decide (i<0)) m).blk x:=q0y m (fun i _ _=>by simp[pE])
  rw[this,hcut 0 (Nat.zero_le _)];rfl
 ·rintro L a w i o hr ⟨ρ,t,hsim,hcase⟩ hiL ho hdeps
  have hsuf:∀q t,m≤q→(∀j,j∈L↔j<q)→Sim cx ρ t a w→xr P T po E ops.toList (ops.toList.drop q) t=some s'→i=q→
    wpOpIn (FW cx.ro) 0 P ops (fun e a' w'=>∃s' ρ',Q' e s'∧Sim cx ρ' s' a' w') i (fun a' w'=>∃ρ t,Sim cx ρ t a' w'∧(((∀k∈i::L,k<m)∧(∀d,t.get d=(stT ops.toList tx s (pE (i::L)) m).get d)∧(∀x,t.blk x=(stT ops.toList tx s (pE (i::L)) m).blk x)∧t.n=s.n)∨∃q,m≤q∧(∀k,k∈i::L↔k<q)∧xr P T po E ops.toList (ops.toList.drop q) t=some s')) a w:=by
   intro q t hq hL hs' hv hiq
   subst hiq
   refine wpOpIn_mono (fun a' w' ⟨ρ',s'',g1,g2⟩=>?_) (qdP hA hE ho hs' hv)
   exact⟨ρ',s'',g1,.inr ⟨i+1,by omega,fun k=>by rw[List.mem_cons,hL];omega,g2⟩⟩
  have hin:i<ops.size:=(Array.getElem?_eq_some_iff.1 ho).1
  have h5:m≤i→∀j,j<i→j∈L:=fun hmi j hj=>by
   have:=c5 i (by rw[hlen];exact hin)
   simp only[Bool.or_eq_true,decide_eq_true_eq,List.all_eq_true,List.mem_range,List.contains_iff_mem] at this
   rcases this with h|h
   ·omega
   ·exact hanc L hr i o ho hdeps j (h j hj)
  rcases hcase with ⟨hLm,t1,t2,t3⟩|⟨q,hq,hL,hv⟩
  ·by_cases him:i<m
   ·have hstp:=hst i o him ho
    obtain⟨q1,q2,q3,q4⟩:=htext i (by omega)
    -- before and behind
    have hbefore:∀k,i∈An.getD k []→k∈L→False:=fun k hk hkL=>hiL (hancE L hr k hkL i hk)
    have hafter:∀k,k∈An.getD i []→k∈L:=fun k hk=>hanc L hr i o ho hdeps k hk
    have hslot:∀d∈Ju ops.toList o,t.get d=(Sq i).get d:=fun d hd=>by
     rw[t1,q1,←hcut i (by omega)]
     refine q1u m (fun k hk hkd=>?_)
     rw[htpd]
     obtain⟨ok,hok⟩:=hop k hk
     rw[hdst k ok hok] at hkd
     rcases Nat.lt_trichotomy k i with h|h|h
     ·rw[decide_eq_true h]
      refine decide_eq_true (hafter k ?_)
      rcases hkd with hkd|hkd
      ·exact cS1 k i ok o d h him hok ho hkd (.inl hd)
      ·exact cK1 k i o d h him ho hkd (.inl hd)
     ·subst h;simp[pE,hiL]
     ·rw[decide_eq_false (by omega)]
      refine decide_eq_false fun hkL=>hbefore k ?_ hkL
      rcases hkd with hkd|hkd
      ·exact cS2 i k o ok d h hk ho hok hkd hd
      ·exact cK2 i k o d h hk ho hkd (.inl hd)
    have hblk:∀x,x∈(tx i).2.rb∨x∈(tx i).2.wb→t.blk x=(Sq i).blk x:=fun x hx=>by
     rw[t2,q2,←hcut i (by omega)]
     refine q0y m (fun k hk hkx=>?_)
     rw[htpd]
     have hkw:=hkeywb k hk x hkx
     rcases Nat.lt_trichotomy k i with h|h|h
     ·rw[decide_eq_true h]
      refine decide_eq_true (hafter k (cB k i h him ?_))
      simp only[JK,Bool.or_eq_true,List.any_eq_true,List.contains_iff_mem]
      exact .inl ⟨x,hkw,hx⟩
     ·subst h;simp[pE,hiL]
     ·rw[decide_eq_false (by omega)]
      refine decide_eq_false fun hkL=>hbefore k (cB i k h hk ?_) hkL
      simp only[JK,Bool.or_eq_true,List.any_eq_true,List.contains_iff_mem]
      rcases hx with hx|hx
      ·exact .inr ⟨x,hx,hkw⟩
      ·exact .inl ⟨x,hx,.inr hkw⟩
    have hev:∀y∈o.op.operands.toList,t.ev y=(Sq i).ev y:=fun y hy=>qe0 (fun x hx=>hslot x (by
     unfold Ju q6R
     exact List.mem_append_left _ (List.mem_flatMap.2 ⟨y,hy,hx⟩)))
    have hgd:gd ops.toList t o.guard=gd ops.toList (Sq i) o.guard:=by
     unfold gd
     cases hgu:o.guard with
     | none=>rfl
     | some jw=>
      obtain⟨j,want⟩:=jw
      simp only
      cases hd:(ops.toList[j]?).bind (·.dst) with
      | none=>rfl
      | some d=>
       simp only
       rw[hslot d (by unfold Ju;rw[hgu];exact List.mem_append_right _ (by show d∈(q0U ops.toList j).toList;unfold q0U;rw[hd];simp))]
    have hnew:∀k∈i::L,k<m:=fun k hk=>by
     rcases List.mem_cons.1 hk with rfl|hk
     ·exact him
     ·exact hLm k hk
    have hdok:∀d,o.dst=some d→d<t.n:=fun d hd=>by rw[t3,←q3];exact hstp.dst d hd
    -- the state behind it
    have fin:∀(ρ':Pl) (t':S) (a':Act) (w':World),(∀d,t'.get d=if o.dst=some d then(tx i).1.1 else if d∈(tx i).2.ks then .any else t.get d)→(∀x,t'.blk x=lk (tx i).1.2 x (t.blk x))→t'.n=t.n→Sim cx ρ' t' a' w'→
      ∃ρ t,Sim cx ρ t a' w'∧(((∀k∈i::L,k<m)∧(∀d,t.get d=(stT ops.toList tx s (pE (i::L)) m).get d)∧(∀x,t.blk x=(stT ops.toList tx s (pE (i::L)) m).blk x)∧t.n=s.n)∨∃q,m≤q∧(∀k,k∈i::L↔k<q)∧xr P T po E ops.toList (ops.toList.drop q) t=some s'):=by
     intro ρ' t' a' w' g1 g2 g3 g4
     refine⟨ρ',t',g4,.inl ⟨hnew,fun d=>?_,fun x=>?_,g3.trans t3⟩⟩
     ·rw[g1]
      have eq1:o.dst=some d∨d∈(tx i).2.ks→(stT ops.toList tx s (pE (i::L)) m).get d=(stT ops.toList tx s (fun k=>tp k&&decide (k<i+1)) m).get d:=fun hdi=>q1u m (fun k hk hkd=>by
       rw[htpd]
       obtain⟨ok,hok⟩:=hop k hk
       rw[hdst k ok hok] at hkd
       rcases Nat.lt_trichotomy k i with h|h|h
       ·rw[decide_eq_true (show k<i+1 by omega)]
        refine decide_eq_true (List.mem_cons_of_mem _ (hafter k ?_))
        rcases hdi with hd|hd
        ·rcases hkd with hkd|hkd
         ·exact cS1 k i ok o d h him hok ho hkd (.inr hd)
         ·exact cK1 k i o d h him ho hkd (.inr hd)
        ·rcases hkd with hkd|hkd
         ·exact cK2 k i ok d h him hok hd (.inr hkd)
         ·exact cK3 k i d h him hkd hd
       ·subst h;simp[pE]
       ·rw[decide_eq_false (by omega)]
        refine decide_eq_false fun hkL=>?_
        rcases List.mem_cons.1 hkL with h' | h'
        ·omega
        ·refine hbefore k ?_ h'
         rcases hdi with hd|hd
         ·rcases hkd with hkd|hkd
          ·exact cS1 i k o ok d h hk ho hok hd (.inr hkd)
          ·exact cK2 i k o d h hk ho hkd (.inr hd)
         ·rcases hkd with hkd|hkd
          ·exact cK1 i k ok d h hk hok hd (.inr hkd)
          ·exact cK3 i k d h hk hd hkd)
      by_cases hd:o.dst=some d
      ·rw[if_pos hd,eq1 (.inl hd),hcut (i+1) (by omega),htp1,S.put_get,hdst i o ho,if_pos hd]
      ·rw[if_neg hd]
       by_cases hdk:d∈(tx i).2.ks
       ·rw[if_pos hdk,eq1 (.inr hdk),hcut (i+1) (by omega),htp1,S.put_get,hdst i o ho,if_neg hd,S.kill_get,if_pos hdk]
       ·rw[if_neg hdk,t1]
        refine q1u m (fun k hk hkd=>?_)
        have hki:k≠i:=fun e=>by
         subst e
         rcases hkd with hkd|hkd
         ·exact hd (by rw[←hdst k o ho];exact hkd)
         ·exact hdk hkd
        simp[pE,hki]
     ·rw[g2]
      by_cases hx:∃b,(x,b)∈(tx i).1.2
      ·have hiw:=hkeywb i him x hx
       have e1:(stT ops.toList tx s (pE (i::L)) m).blk x=(stT ops.toList tx s (fun k=>tp k&&decide (k<i+1)) m).blk x:=q0y m (fun k hk hkx=>by
        rw[htpd]
        have hkw:=hkeywb k hk x hkx
        rcases Nat.lt_trichotomy k i with h|h|h
        ·rw[decide_eq_true (show k<i+1 by omega)]
         refine decide_eq_true (List.mem_cons_of_mem _ (hafter k (cB k i h him ?_)))
         simp only[JK,Bool.or_eq_true,List.any_eq_true,List.contains_iff_mem]
         exact .inl ⟨x,hkw,.inr hiw⟩
        ·subst h;simp[pE]
        ·rw[decide_eq_false (by omega)]
         refine decide_eq_false fun hkL=>?_
         rcases List.mem_cons.1 hkL with h' | h'
         ·omega
         ·refine hbefore k (cB i k h hk ?_) h'
          simp only[JK,Bool.or_eq_true,List.any_eq_true,List.contains_iff_mem]
          exact .inl ⟨x,hiw,.inr hkw⟩)
       rw[e1,hcut (i+1) (by omega),htp1,S.put_blk,S.kill_blk,q1O]
       exact q3V _ x _ _ hx
      ·rw[ZP _ x _ (fun b hb=>hx ⟨b,hb⟩),t2]
       refine q0y m (fun k hk hkx=>?_)
       have hki:k≠i:=fun e=>hx (e ▸ hkx)
       simp[pE,hki]
    obtain⟨b,hb,hf,ht⟩:=hstp.run
    unfold wpOpIn
    rw[ho]
    simp only
    cases b with
    | false=>
     rw[if_neg (by rw[J5 hsim (hgd.trans hb)];simp)]
     have hx:=hf rfl
     refine⟨q3s,fin ρ (t.put o.dst (.tup [])) _ _ (fun d=>?_) (fun x=>?_) (S.put_n _ _ _) (hsim.put hdok RR.un)⟩
     ·rw[S.put_get,hx];simp
     ·rw[S.put_blk,hx];rfl
    | true=>
     rw[if_pos (J5 hsim (hgd.trans hb))]
     have hloc:=ht rfl q4
     have hnew:(tx i).2.nw≠[]→∀x,t.live x→x<(Sq i).nx:=fun hne x hx=>by
      have hnw:=hstp.nwp.resolve_left hne
      have hN:=qbc rn i (tx i) (htx i him) _ hnw
      rw[Nat.zero_add] at hN
      by_cases hkx:∃k,k<m∧k≠i∧∃b,(x,b)∈(tx k).1.2
      ·obtain⟨k,hk,hki,b,hb⟩:=hkx
       exact q7X hN k (tx k) (htx k hk) (by omega) _ hb
      ·have e:t.blk x=(Sq i).blk x:=by
        rw[t2,q2,←hcut i (by omega)]
        refine q0y m (fun k hk hb=>?_)
        rw[htpd]
        have hki:k=i:=by
         by_cases h:k=i
         ·exact h
         ·exact absurd ⟨k,hk,h,hb⟩ hkx
        subst hki;simp[pE,hiL]
       refine q4 x ?_
       unfold S.live at hx ⊢
       rw[←e];exact hx
     refine(hloc cx ρ t a w _ _ hev hblk (farext t1 t2 (hfar i him (pE L) m (Nat.le_refl _) (fun k hk hkL=>?_))) hnew hsim ?_)
     ·have hkL:k∈L:=of_decide_eq_true hkL
      exact⟨fun e=>hiL (e ▸ hkL),fun h=>hbefore k h hkL⟩
     intro ρ' t' v w' g1 g2 g3 g4 g5
     refine fin ρ' ((t'.kill (tx i).2.ks).put o.dst (tx i).1.1) _ _ (fun d=>?_) (fun x=>?_) (by rw[S.put_n];exact g3) ((g4.kill _).put (fun d hd=>by show d<t'.n;rw[g3];exact hdok d hd) g5)
     ·rw[S.put_get,S.kill_get]
      by_cases hdk:d∈(tx i).2.ks
      ·simp only[if_pos hdk]
      ·simp only[if_neg hdk,g1 d hdk]
     ·rw[S.put_blk,S.kill_blk,g2]
   ·have hi:i=m:=by
     rcases Nat.lt_or_ge m i with h|h
     ·have:=hLm m (h5 (by omega) m h);omega
     ·omega
    have hL:∀j,j∈L↔j<m:=fun j=>⟨fun hj=>hLm j hj,fun hj=>h5 (by omega) j (by omega)⟩
    exact hsuf m _ (Nat.le_refl _) hL (hfull L ρ t a w hL t1 t2 t3 hsim) r4 hi
  ·have hiq:i=q:=by
    have h1:¬ i<q:=fun h=>hiL ((hL i).2 h)
    have h2:∀j,j<i→j<q:=fun j hj=>(hL j).1 (h5 (by omega) j hj)
    rcases Nat.lt_or_ge q i with h|h
    ·have:=h2 q h;omega
    ·omega
   exact hsuf q t hq hL hsim hv hiq
 ·rintro L a w hr ⟨ρ,t,hsim,hcase⟩ hall
  rcases hcase with ⟨hLm,t1,t2,t3⟩|⟨q,hq,hL,hv⟩
  ·have hmn':ops.size≤m:=by
    rcases Nat.lt_or_ge m ops.size with h|h
    ·have:=hLm m (hall m h);omega
    ·exact h
   have hL:∀j,j∈L↔j<m:=fun j=>⟨fun hj=>hLm j hj,fun hj=>hall j (by omega)⟩
   have hd:ops.toList.drop m=[]:=List.drop_eq_nil_of_le (by rw[hlen];exact hmn')
   rw[hd] at r4
   injection r4 with r4
   exact⟨_,ρ,hQ,r4 ▸ hfull L ρ t a w hL t1 t2 t3 hsim⟩
  ·have hqn:ops.size≤q:=by
    rcases Nat.lt_or_ge q ops.size with h|h
    ·have:=(hL q).1 (hall q h);omega
    ·exact h
   have hd:ops.toList.drop q=[]:=List.drop_eq_nil_of_le (by rw[hlen];exact hqn)
   rw[hd] at hv
   injection hv with hv
   exact⟨_,ρ,hQ,hv ▸ hsim⟩
theorem q7T:∀{r:R},r.isA=true→r = .any
 | .any,_=>rfl
theorem q8L:∀{l:List (Nat×R)},qfv l=true→∀i,lk l i .any = .any
 | [],_,i=>rfl
 | x::l,h,i=>by
  unfold qfv at h
  split at h
  ·rename_i hx
   show(if x.1=i then x.2 else lk l i .any)=_
   rw[q8L h i,q7T hx]
   split<;>rfl
  ·cases h
theorem q5M:∀(l:List (Nat×R)) (i:Nat),lk (q0s l) i .any=lk l i .any
 | [],i=>rfl
 | x::l,i=>by
  unfold q0s
  have ih:=q5M l i
  have e:lk (x::q0s l) i .any=lk (x::l) i .any:=by
   show(if x.1=i then x.2 else lk (q0s l) i .any)=(if x.1=i then x.2 else lk l i .any)
   rw[ih]
  split
  ·rename_i hx
   split
   ·rename_i hl
    show R.any=(if x.1=i then x.2 else lk l i .any)
    rw[q8L hl i,q7T hx]
    split<;>rfl
   ·exact e
  ·exact e
theorem Sim.strip {cx:Cx} {ρ:Pl} {s:S} {a:Act} {w:World} (h:Sim cx ρ s a w):Sim cx ρ s.strip a w:=
 ⟨h.hd,h.size,fun i=>by
  show RR w s.live ρ _ (lk (q0s s.tm) i .any)
  rw[q5M]
  exact h.tm i,h.hp,h.hp0,h.out,h.inj,h.nx,h.kept,h.oldF,h.pin,h.sameF,h.sep⟩
theorem qgU (hA:Ag P T) (hm:P.follows .mixedOrders=true):DOk P po (D1 P T po):=fun _ _ _ hE _ _ _ _ _ _ _ hq h hQ ρ a w hs=>qgG hA hE hm hq h hQ ρ a w hs.strip
end
section
variable {P:Program} {T:Ty} {po:Pol}
theorem q1Y {E E':Orc} (hE:OLe E E') {o:Oper} {act:Bool} {s:S} {x:S×Tx} (h:xsF P T po E o act s=some x):xsF P T po E' o act s=some x:=by
 unfold xsF at h ⊢
 by_cases hc:act=true
 ·rw[if_pos hc] at h ⊢
  cases hal:alC po s o.op with
  | some gr=>rw[hal] at h;exact qN (fun _ h=>qN (fun _ h=>hE _ _ _ _ _ h) (fun _ _ h=>h) h) (fun _ _ h=>h) h
  | none=>rw[hal] at h;exact qN (fun _ h=>q8a hE h) (fun _ _ h=>h) h
 ·rw[if_neg hc] at h ⊢;exact h
theorem qa0 {E E':Orc} (hE:OLe E E') {ops:List Oper} {o:Oper} {s:S} {x:S×Tx} (h:xgF P T po E ops o s=some x):xgF P T po E' ops o s=some x:=by
 unfold xgF at h ⊢
 split at h
 ·exact q1Y hE h
 ·split at h
  ·split at h
   ·split at h
    ·rename_i hb;rw[if_pos hb];exact q1Y hE h
    ·rename_i hb;rw[if_neg hb];exact q1Y hE h
   ·exact q1Y hE h
   ·cases h
  ·cases h
theorem q51 {E E':Orc} (hE:OLe E E') {ops:List Oper} {A:List (List Nat)} {s0:S}:∀(m:Nat) (l:List Oper) (s s':S) (acc:List Tx),xdp P T po E ops A s0 m l s acc=some s'→xdp P T po E' ops A s0 m l s acc=some s'
 | 0,l,s,s',acc,h=>by
  unfold xdp at h ⊢
  split at h
  ·rename_i hc;rw[if_pos hc];exact q4B hE l h
  ·cases h
 | _+1,[],_,_,_,h=>by cases h
 | m+1,o::l,s,s',acc,h=>qN (fun _ h=>qa0 hE h) (fun _ _ h=>q51 hE m l _ _ _ h) h
theorem q2C:q3x (D1 P T po):=fun _ _ hE _ _ _ _ _ _ h=>q51 hE _ _ _ _ _ h
section
variable {D:DRs} (hM:q3x D)
include hM
theorem q1U {o:Oper} {act:Bool} {s:S}:∀x,xsF P T po (EE P T po D) o act s=some x→∃n,∀m,n≤m→xsF P T po (xf P T po D m) o act s=some x:=fun x h=>by
 unfold xsF at h ⊢
 by_cases hc:act=true
 ·simp only[if_pos hc] at h ⊢
  cases hal:alC po s o.op with
  | some gr=>rw[hal] at h;exact ze (fun a h=>ze (q4A hM) (fun _=>zj) h) (fun _=>zj) h
  | none=>rw[hal] at h;exact ze (q82 hM) (fun _=>zj) h
 ·simp only[if_neg hc] at h ⊢;exact⟨0,fun _ _=>h⟩
theorem q97 {ops:List Oper} {o:Oper} {s:S}:∀x,xgF P T po (EE P T po D) ops o s=some x→∃n,∀m,n≤m→xgF P T po (xf P T po D m) ops o s=some x:=fun x h=>by
 unfold xgF at h ⊢
 split at h
 ·exact q1U hM _ h
 ·split at h
  ·split at h
   ·split at h
    ·rename_i hb;simp only[if_pos hb];exact q1U hM _ h
    ·rename_i hb;simp only[if_neg hb];exact q1U hM _ h
   ·exact q1U hM _ h
   ·cases h
  ·cases h
theorem q54 {ops:List Oper} {A:List (List Nat)} {s0:S}:∀(k:Nat) (l:List Oper) (s:S) (acc:List Tx) (x:S),xdp P T po (EE P T po D) ops A s0 k l s acc=some x→∃n,∀m,n≤m→xdp P T po (xf P T po D m) ops A s0 k l s acc=some x
 | 0,l,s,acc,x,h=>by
  unfold xdp at h ⊢
  split at h
  ·rename_i hc;simp only[if_pos hc];exact q4n hM l s x h
  ·cases h
 | _+1,[],_,_,_,h=>by cases h
 | k+1,o::l,s,acc,x,h=>ze (q97 hM) (fun q b h=>q54 k l q.1 _ b h) h
end
theorem qbi:qeG P T po (D1 P T po):=fun f k id ops s s' h=>by
 obtain⟨n,hn⟩:=q54 q2C _ _ _ _ _ h
 exact⟨n,hn n (Nat.le_refl n)⟩
end
def zP (k:Nat):Code→Option Code
 | .loop c=>if qD c=k then some c else zP k c
 | .seq a b=>(zP k a).or (zP k b)
 | .cond _ a b=>(zP k a).or (zP k b)
 | .block _ c=>zP k c
 | .rangeFunc _ _ a b=>(zP k a).or (zP k b)
 | _=>none
def ZF (k:Nat):Code→Option (Code×Code)
 | .rangeFunc _ _ a b=>if qD b=k then some (a,b) else none
 | .loop c=>ZF k c
 | .seq a b=>(ZF k a).or (ZF k b)
 | .cond _ a b=>(ZF k a).or (ZF k b)
 | .block _ c=>ZF k c
 | _=>none
end Go.Proofs.Ytcdegieiflmaeaa.Vc
namespace Go.Proofs.Ytcdegieiflmaeaa.Vc
open Go.RowKit
def q93:Operand := .const (.slice none 0 0)
def q4e (t bt:TypeId):Code:=
 (Code.region 0 #[{ dst:=some 2,op := .assign q93,type:=t,pos := "slices.go:355", after:=#[],guard:=none }] false).seq
  (((Code.region 1 #[{ dst:=some 3,op := .move (.tmp 0),type:=t,pos := "slices.go:357", after:=#[],guard:=none },
    { dst:=some 4,op := .binOp .eql t (.tmp 3) q93 t,type:=bt,pos := "slices.go:357", after:=#[{ on:=0,ground := .data }],guard:=none }] false).seq
   (Code.cond (.tmp 4) ((Code.region 2 #[{ dst:=some 2,op := .assign q93,type:=t,pos := "slices.go:358", after:=#[],guard:=none }] false).seq Code.ret) Code.skip)).seq
   ((Code.region 3 #[{ dst:=some 5,op := .buildSlice t 0 #[],type:=t,pos := "slices.go:362", after:=#[],guard:=none },
     { dst:=some 6,op := .move (.tmp 0),type:=t,pos := "slices.go:362", after:=#[],guard:=none },
     { dst:=some 7,op := .call { callee := .builtin .append,args:=#[.tmp 5,.tmp 6],argTypes:=#[t,t] },type:=t,pos := "slices.go:362", after:=#[{ on:=0,ground := .data },{ on:=1,ground := .data }],guard:=none },
     { dst:=some 2,op := .assign (.tmp 7),type:=t,pos := "slices.go:362", after:=#[{ on:=2,ground := .data },{ on:=2,ground := .chain },{ on:=0,ground := .phase },{ on:=1,ground := .phase },{ on:=2,ground := .phase }],guard:=none }] false).seq
    Code.ret))
section
variable {P:Program} {T:Ty} {cx:Cx} {ρ:Pl} {s:S} {a:Act} {w:World}
def po1 (z:Nat) (ro:Bool:=false):Pol:={ q:=fun _=>[z],ow:=fun _=>[],fz:=fun _=>false,kp:=fun _ _=>[],kx:=fun _ _=>[],rw:=fun _ _=>[],ro:=fun _=>ro,dm:=fun _ _=>0,an:=fun _ _=>[],rk:=fun _ _=>[],pr:=fun _=>none }
def E0:Orc:=fun _ _ _ _=>none
theorem qeh:Snd P E0:=⟨fun _ _ _ _ _ _ h=>(by cases h),fun _ _ _ _ _ _ _ _ h=>(by cases h)⟩
theorem qha {q:Nat→List Oper→Bool} {k:Nat}:qfE P q k (fun _ _ _=>none):=fun _ _ _ _ _ _ _ _ h=>by cases h
noncomputable def XD0 (P:Program) (T:Ty) (z:Nat) (c:Code) (s:S):XS:=XD P T (po1 z) E0 (fun _ _ _=>none) (iter 0) 0 0 c s
theorem q2U (hA:Ag P T) {z:Nat} {c:Code} {s s':S} {e:Exit} {Q:Exit→S→Prop} (hq:q2y (fun _ _=>false) false c=true) (hk:cx.k=0) (h:XD0 P T z c s=some (e,s')) (hQ:Q e s'):J P cx c Q s:=
 q9e (n:=0) hA qeh qha c s s' e cx Q hq hk (fun h=>by cases h) h hQ
theorem J.nilTest (hA:Ag P T) {id:Nat} {m o:Oper} {x d:Nat} {t t' e:TypeId} {sz n:Nat} {ds:List D} {Q:Exit→S→Prop} (hm:m.op = .move (.tmp x)) (hmg:m.guard=none) (hmd:m.dst=some d) (ho:o.op = .binOp .eql t (.tmp d) q93 t') (hog:o.guard=none)
  (hk:T.k t = .sl e) (hx:s.get x = .c (.d (.sl sz n ds))) (hd:d<s.n) (hod:∀d',o.dst=some d'→d'<s.n)
  (hQ:∀b:Bool,(b=true→n=0∧ds=[])→Q .normal ((s.put (some d) (.c (.d (.sl sz n ds)))).put o.dst (.c (.d (.bool b))))):J P cx (.region id #[m,o] false) Q s:=by
 intro ρ a w hs
 refine wpIn_region_list ?_
 show wpListIn (FW cx.ro) 0 P #[m,o] _ [m,o] a w
 unfold wpListIn
 rw[if_pos (by unfold Region.wanted;rw[hmg])]
 have h1:ox P T s s.nx m.op (fun r s'=>r=s.get x∧s'=s):=by rw[hm];exact⟨rfl,rfl⟩
 refine q2J hA (fun h=>by have:=hs.nx _ h;omega) hs h1 ?_
 rintro r s2 ρ1 v w1 ⟨rfl,rfl⟩ hs1 hv
 have hs2:=hs1.put (dst:=m.dst) (fun d' hd'=>by rw[hmd] at hd';injection hd' with hd';rw[←hd'];exact hd) hv
 rw[hmd,hx] at hs2
 unfold wpListIn
 rw[if_pos (by unfold Region.wanted;rw[hog])]
 obtain⟨d0,i,z,ht⟩:=hA.at_ (t:=t) (by rw[hk];simp)
 have hkd:=JA (ht.kd.trans hk)
 subst hkd
 rw[hx] at hv
 obtain⟨A,cap,q1,q2,q3,q4,q5,q6⟩:=hv.inv_sl
 refine qh0 cx.ro ?_ (fun c hc=>by rw[ho] at hc;cases hc)
 have hev:(a.put m.dst v).eval (.tmp d)=v:=by
  rw[hmd]
  show(a.tmps.setIfInBounds d v).getD d undef=v
  have hlt:d<a.tmps.size:=by rw[hs1.size];exact hd
  simp[Array.getD_eq_getD_getElem?,hlt]
 have he:execOp (a.put m.dst v).eval o=(do pure (.value (←(do eqGuard .eql t (.tmp d) q93 ((a.put m.dst v).eval (.tmp d)) ((a.put m.dst v).eval q93);binOp .eql t ((a.put m.dst v).eval (.tmp d)) ((a.put m.dst v).eval q93))))):=by unfold execOp;simp only[ho]
 have hr:(do eqGuard .eql t (.tmp d) q93 ((a.put m.dst v).eval (.tmp d)) ((a.put m.dst v).eval q93);binOp .eql t ((a.put m.dst v).eval (.tmp d)) ((a.put m.dst v).eval q93):Sem Value).run P w1 = .ok (.bool A.isNone) w1:=by
  rw[hev,q1,eqGuard_at_slice]
  show(do binOp .eql t (.slice A n cap) (.slice none 0 0):Sem Value).run P w1=_
  simp only[binOp,Sem.run_bind]
  unfold Op.equal Op.maxDepth Op.equalIn
  simp only[Sem.run_bind,run_underlying ht.ud,Result.andThen_ok]
  cases A<;>rfl
 refine qy he hr ?_
 unfold wpListIn
 rw[hmd]
 refine⟨_,ρ1,hQ A.isNone (fun hb=>?_),hs2.put hod (.c _ _ (.d _ _ (.bool _)))⟩
 rcases q6 with q6|⟨b,off,f,q6,-⟩
 ·subst q6
  rw[Nat.zero_mul] at q5
  exact⟨rfl,List.eq_nil_of_length_eq_zero q5⟩
 ·rw[q6] at hb;cases hb
theorem qag (hA:Ag P T) {f:FuncId} {fn:Func} {t e bt:TypeId} (hf:P.funcs[f]?=some fn) (hb:fn.body=some (q4e t bt)) (hname:(fn.name == "runtime.NumGoroutine")=false) (hn:fn.ntmps=8) (hr:fn.results.toList=[.tmp 2])
  (hk:T.k t = .sl e) (he:T.k e ≠ .other) (hz:0<T.sz e) (hzl:(T.zero e).length=T.sz e) {n:Nat} {ds:List D} (hl:ds.length=n*T.sz e) (hm1:n≤maxLen) (hm2:n*T.by_ e≤140737488355328) :
  AC P f [.c (.d (.sl (T.sz e) n ds))] [] 0 fun r hp=>r = .c (.d (.sl (T.sz e) n ds))∧hp=[]:=by
 refine AC.enter2 hA hf hb hname (by rw[hn];show(1:Nat)≤8;omega) (fun cx hk0 hro=>?_)
 rw[hn,hr]
 have fin:∀(s:S) (r:R),s.get 2=r→q2M (po1 (T.sz e)) 0 0 [t] s [r]=some (.c (.d (.sl (T.sz e) n ds)),[])→∃rs,rvs T s [.tmp 2]=some rs∧
   ∀ρ a w,Sim cx ρ s a w→∃rs' hp' nx' ρ',(one rs' = .c (.d (.sl (T.sz e) n ds))∧hp'=[])∧Sim cx ρ' (Z5 hp' nx') q39 w∧rs'.length=rs.length∧∀(j:Nat) (r r':R) (v:Value),rs[j]?=some r→rs'[j]?=some r'→RR w s.live ρ v r→RR w (Z5 hp' nx').live ρ' v r':=by
  intro s r hr h
  refine⟨[r],by simp[rvs,qbV,hr],fun ρ a w hs=>?_⟩
  obtain⟨rs',nx',ρ',g1,g2,g3,g4⟩:=q26 hk0 h hs
  exact⟨rs',[],nx',ρ',⟨g1.symm,rfl⟩,g2,g3,g4⟩
 unfold q4e
 refine J.seq (q2U (z:=T.sz e) hA (by rfl) hk0 (s':=⟨[(2,.c .nils),(0,.c (.d (.sl (T.sz e) n ds)))],[],0,8⟩) (e := .normal) (by rfl) ?_)
 refine J.seq (J.seq (J.nilTest hA rfl rfl rfl rfl rfl hk (by rfl) (by show(3:Nat)<8;omega) (fun d' h=>by injection h with h;subst h;show(4:Nat)<8;omega) (fun b hb0=>?_)))
 cases b with
 | true=>
  obtain⟨rfl,rfl⟩:=hb0 rfl
  refine J.cond (by rfl) (fun _=>?_) (fun h=>by cases h)
  refine q2U (z:=T.sz e) hA (by rfl) hk0 (s':=⟨[(2,.c .nils),(4,.c (.d (.bool true))),(3,.c (.d (.sl (T.sz e) 0 []))),(2,.c .nils),(0,.c (.d (.sl (T.sz e) 0 [])))],[],0,8⟩) (e := .ret) (by rfl) ?_
  refine⟨.inr rfl,fin _ _ rfl ?_⟩
  have hz0:T.sz e≠0:=by omega
  simp[q2M,q6e,q2I,q4I,po1,JQ,R.rows,C.rows,C.rows0,S.frz,q2K,q68,dzR,dz,one,Jl,rng,R.refs,C.refs,C.ref0,cnR,q6D,cn,cn0,cnH,S.get,lk,hz0,S.blk,B.isBlk,R.ptrs,S.frz1,fzR,qas,fz,fz0,fzB,vis,JH,hl,List.eraseDups_cons,pos,B.cells]
 | false=>
  refine J.cond (by rfl) (fun h=>by cases h) (fun _=>?_)
  refine J.skip ?_
  have hall:(ds.map C.d).all C.known=true:=by rw[List.all_map];exact List.all_eq_true.2 fun x _=>rfl
  have hfar:(ds.map C.d).all (C.far 0)=true:=by rw[List.all_map];exact List.all_eq_true.2 fun x _=>rfl
  have hdat:(ds.map C.d).all C.dat=true:=by rw[List.all_map];exact List.all_eq_true.2 fun x _=>rfl
  have hfg:(ds.map C.d).map (C.fg 0)=ds.map C.d:=by rw[List.map_map];rfl
  refine q2U (z:=T.sz e) hA (by rfl) hk0 (s':=⟨[(2,.c (.own 0 (T.sz e) 0 n)),(7,.c (.own 0 (T.sz e) 0 n)),(6,.c (.d (.sl (T.sz e) n ds))),(5,.c .any),(4,.c (.d (.bool false))),(3,.c (.d (.sl (T.sz e) n ds))),(2,.c .nils),(0,.c (.d (.sl (T.sz e) n ds)))],[(0,.row e (T.sz e) (ds.map C.d)),(0,.row e (T.sz e) [])],1,8⟩) (e := .ret) ?_ ?_
  ·simp[XD0,XD,xr,xgd,q4T,qaQ,ipX,xst,pre,qfU,q2k,JQ,R.rows,S.frz,xo,xCl,Zf,bld,q0I,S.seq,S.ev,S.get,lk,S.put,S.up,S.fg,R.fg,C.fg,B.fg,S.blk,hk,he,hz,hzl,hl,hm1,hm2,hall,hfar,q3o,sqD,JX,tt,C.known,C.far]
  ·refine⟨.inr rfl,fin _ _ rfl ?_⟩
   have hz0:T.sz e≠0:=by omega
   simp[q2M,q6e,q2I,q4I,po1,JQ,R.rows,C.rows,C.rows0,S.frz,q2K,q68,dzR,dz,one,Jl,rng,R.refs,C.refs,C.ref0,cnR,q6D,cn,cn0,cnH,S.get,lk,hz0,S.blk,B.isBlk,R.ptrs,S.frz1,fzR,qas,fz,fz0,fzB,vis,JH,hl,List.eraseDups_cons,pos,B.cells]
theorem q8j (hA:Ag P T) {f:FuncId} {fn:Func} {t e bt:TypeId} (hf:P.funcs[f]?=some fn) (hb:fn.body=some (q4e t bt)) (hname:(fn.name == "runtime.NumGoroutine")=false) (hn:fn.ntmps=8) (hr:fn.results.toList=[.tmp 2])
  (hk:T.k t = .sl e) (he:T.k e ≠ .other) (hz:0<T.sz e) (hzl:(T.zero e).length=T.sz e) {n:Nat} {ds:List D} (hl:ds.length=n*T.sz e) (hm1:n≤maxLen) (hm2:n*T.by_ e≤140737488355328) :
  AC P f [.c (.d (.sl (T.sz e) n ds))] [] 0 fun r hp=>r = .c (.own 0 (T.sz e) 0 n)∧hp=[(0,.row e (T.sz e) (ds.map C.d))]:=by
 refine AC.enter2 hA hf hb hname (by rw[hn];show(1:Nat)≤8;omega) (fun cx hk0 hro=>?_)
 rw[hn,hr]
 have fin:∀(s:S) (r:R),s.get 2=r→q2M (po1 (T.sz e) true) 0 0 [t] s [r]=some (.c (.own 0 (T.sz e) 0 n),[(0,.row e (T.sz e) (ds.map C.d))])→∃rs,rvs T s [.tmp 2]=some rs∧
   ∀ρ a w,Sim cx ρ s a w→∃rs' hp' nx' ρ',(one rs' = .c (.own 0 (T.sz e) 0 n)∧hp'=[(0,.row e (T.sz e) (ds.map C.d))])∧Sim cx ρ' (Z5 hp' nx') q39 w∧rs'.length=rs.length∧∀(j:Nat) (r r':R) (v:Value),rs[j]?=some r→rs'[j]?=some r'→RR w s.live ρ v r→RR w (Z5 hp' nx').live ρ' v r':=by
  intro s r hr h
  refine⟨[r],by simp[rvs,qbV,hr],fun ρ a w hs=>?_⟩
  obtain⟨rs',nx',ρ',g1,g2,g3,g4⟩:=q26 hk0 h hs
  exact⟨rs',_,nx',ρ',⟨g1.symm,rfl⟩,g2,g3,g4⟩
 unfold q4e
 refine J.seq (q2U (z:=T.sz e) hA (by rfl) hk0 (s':=⟨[(2,.c .nils),(0,.c (.d (.sl (T.sz e) n ds)))],[],0,8⟩) (e := .normal) (by rfl) ?_)
 refine J.seq (J.seq (J.nilTest hA rfl rfl rfl rfl rfl hk (by rfl) (by show(3:Nat)<8;omega) (fun d' h=>by injection h with h;subst h;show(4:Nat)<8;omega) (fun b hb0=>?_)))
 cases b with
 | true=>
  obtain⟨rfl,rfl⟩:=hb0 rfl
  refine J.cond (by rfl) (fun _=>?_) (fun h=>by cases h)
  refine q2U (z:=T.sz e) hA (by rfl) hk0 (s':=⟨[(2,.c .nils),(4,.c (.d (.bool true))),(3,.c (.d (.sl (T.sz e) 0 []))),(2,.c .nils),(0,.c (.d (.sl (T.sz e) 0 [])))],[],0,8⟩) (e := .ret) (by rfl) ?_
  refine⟨.inr rfl,[.c .nils],rfl,fun ρ a w hs=>?_⟩
  obtain⟨ids,nx',ρ',g1,g2,g3⟩:=q5h (rs:=[]) (r' := .tup []) (hp':=[]) hk0 rfl hs
  obtain⟨ρ2,g4,g5⟩:=Sim.rerow (id:=0) (w':=w) (v := .slice none 0 0) (v' := .slice none 0 0) (e:=e) (sz:=T.sz e) (n:=0) (cs:=[]) (us:=[]) g2 (.inr ⟨rfl,fun h=>by unfold S.live S.blk Z5 at h;simp[lk,B.live] at h⟩) (World.grownBy.refl w _) (.inl rfl) ⟨by simp,.inl ⟨rfl,rfl⟩⟩ hz (by simp) (by rw[hk0];omega) (fun j c hj=>by simp at hj)
  have hblk:∀i,(Z5 [(0,B.row e (T.sz e) [])] 1).blk i=(((Z5 [] nx').fg 0).up [(0,B.row e (T.sz e) [])]).blk i:=fun i=>rfl
  have hlive:(Z5 [(0,B.row e (T.sz e) [])] 1).live=(((Z5 [] nx').fg 0).up [(0,B.row e (T.sz e) [])]).live:=by funext i;unfold S.live;rw[hblk]
  refine⟨[.c (.own 0 (T.sz e) 0 0)],[(0,B.row e (T.sz e) [])],1,ρ2,⟨rfl,rfl⟩,g4.ext (fun i=>rfl) hblk rfl (fun i hi=>?_),rfl,fun j r r' v hj hj' hv=>?_⟩
  ·unfold S.live S.blk Z5 at hi
   show i<1
   rcases Nat.lt_or_ge i 1 with h|h
   ·exact h
   ·simp[lk,show ¬ 0=i by omega,B.live] at hi
  ·cases j with
   | zero=>
    simp only[List.getElem?_cons_zero,Option.some.injEq] at hj hj'
    subst hj hj'
    rw[hv.inv_nils,hlive]
    exact g5
   | succ j=>simp at hj
 | false=>
  refine J.cond (by rfl) (fun h=>by cases h) (fun _=>?_)
  refine J.skip ?_
  have hall:(ds.map C.d).all C.known=true:=by rw[List.all_map];exact List.all_eq_true.2 fun x _=>rfl
  have hfar:(ds.map C.d).all (C.far 0)=true:=by rw[List.all_map];exact List.all_eq_true.2 fun x _=>rfl
  have hdat:(ds.map C.d).all C.dat=true:=by rw[List.all_map];exact List.all_eq_true.2 fun x _=>rfl
  have hfg:(ds.map C.d).map (C.fg 0)=ds.map C.d:=by rw[List.map_map];rfl
  refine q2U (z:=T.sz e) hA (by rfl) hk0 (s':=⟨[(2,.c (.own 0 (T.sz e) 0 n)),(7,.c (.own 0 (T.sz e) 0 n)),(6,.c (.d (.sl (T.sz e) n ds))),(5,.c .any),(4,.c (.d (.bool false))),(3,.c (.d (.sl (T.sz e) n ds))),(2,.c .nils),(0,.c (.d (.sl (T.sz e) n ds)))],[(0,.row e (T.sz e) (ds.map C.d)),(0,.row e (T.sz e) [])],1,8⟩) (e := .ret) ?_ ?_
  ·simp[XD0,XD,xr,xgd,q4T,qaQ,ipX,xst,pre,qfU,q2k,JQ,R.rows,S.frz,xo,xCl,Zf,bld,q0I,S.seq,S.ev,S.get,lk,S.put,S.up,S.fg,R.fg,C.fg,B.fg,S.blk,hk,he,hz,hzl,hl,hm1,hm2,hall,hfar,q3o,sqD,JX,tt,C.known,C.far]
  ·refine⟨.inr rfl,fin _ _ rfl ?_⟩
   have hz0:T.sz e≠0:=by omega
   have hcn:∀ids,(ds.map C.d).map (cn ids)=ds.map C.d:=fun ids=>by rw[List.map_map];rfl
   simp[cnB,B.live,B.refs,hcn,hdat,q2M,q6e,q2I,q4I,po1,JQ,R.rows,C.rows,C.rows0,S.frz,q2K,q68,dzR,dz,one,Jl,rng,R.refs,C.refs,C.ref0,cnR,q6D,cn,cn0,cnH,S.get,lk,hz0,S.blk,B.isBlk,R.ptrs,S.frz1,fzR,qas,fz,fz0,fzB,vis,JH,hl,List.eraseDups_cons,pos,B.cells]
def Jg (T:Ty) (e:TypeId) (own:Bool):List R→Option (R×List (Nat×B))
 | [.c (.d (.sl z n ds))]=>if z=T.sz e∧ds.length=n*z∧n≤maxLen∧n*T.by_ e≤140737488355328 then(if own=true then some (.c (.own 0 z 0 n),[(0,.row e z (ds.map C.d))]) else some (.c (.d (.sl z n ds)),[])) else none
 | _=>none
theorem q1k (hA:Ag P T) {f:FuncId} {fn:Func} {t e bt:TypeId} (hf:P.funcs[f]?=some fn) (hb:fn.body=some (q4e t bt)) (hname:(fn.name == "runtime.NumGoroutine")=false) (hn:fn.ntmps=8) (hr:fn.results.toList=[.tmp 2])
  (hk:T.k t = .sl e) (he:T.k e ≠ .other) (hz:0<T.sz e) (hzl:(T.zero e).length=T.sz e) {own:Bool} {args:List R} {r:R} {G':List (Nat×B)} (h:Jg T e own args=some (r,G')):AC P f args [] 0 fun r' hp'=>r'=r∧hp'=G':=by
 unfold Jg at h
 split at h
 ·split at h
  ·rename_i hc
   obtain⟨rfl,h1,h2,h3⟩:=hc
   split at h
   ·injection h with h
    injection h with h4 h5
    subst h4 h5
    exact q8j hA hf hb hname hn hr hk he hz hzl h1 h2 h3
   ·injection h with h
    injection h with h4 h5
    subst h4 h5
    exact qag hA hf hb hname hn hr hk he hz hzl h1 h2 h3
  ·cases h
 ·cases h
end
end Go.Proofs.Ytcdegieiflmaeaa.Vc
namespace Go.Proofs.Ytcdegieiflmaeaa.Vc
open Go.RowKit
section
variable {P:Program} {T:Ty} {cx:Cx} {ρ:Pl} {s:S} {a:Act} {w:World}
end
end Go.Proofs.Ytcdegieiflmaeaa.Vc
namespace Go.Proofs.Ytcdegieiflmaeaa.Vc
open Go.RowKit Go.Maps Go.Sort Go.Shelf
def qbQ (x:ByteArray):List ByteArray→List ByteArray
 | []=>[x]
 | y::l=>if Op.bytesLess y.toList x.toList=true then y::qbQ x l else x::y::l
def q0L:List ByteArray→List ByteArray
 | []=>[]
 | x::l=>qbQ x (q0L l)
theorem q2m (x:ByteArray):∀l:List ByteArray,(qbQ x l).Perm (x::l)
 | [] => .refl _
 | y::l=>by
  unfold qbQ
  split
  ·exact((q2m x l).cons y).trans (.swap x y l)
  ·exact .refl _
theorem q03:∀l:List ByteArray,(q0L l).Perm l
 | [] => .refl _
 | x::l=>by
  unfold q0L
  exact(q2m x _).trans ((q03 l).cons x)
theorem q6K:∀(x y:List UInt8),Op.bytesLess x y=decide (x<y)
 | [],[]=>by simp[Op.bytesLess]
 | _::_,[]=>by simp[Op.bytesLess]
 | [],_::_=>by simp[Op.bytesLess]
 | a::x,b::y=>by
  rw[Op.bytesLess,q6K x y]
  simp only[List.cons_lt_cons_iff]
  by_cases h1:a<b<;>by_cases h2:a=b<;>by_cases h3:x<y<;>simp[h1,h2,h3]
def leK (x y:ByteArray):Prop:=¬ Op.bytesLess y.toList x.toList=true
theorem q2F (x y:ByteArray):leK x y↔x.toList≤y.toList:=by
 unfold leK
 rw[q6K,decide_eq_true_eq]
 exact⟨fun h=>h,fun h=>h⟩
theorem q8l {x y z:ByteArray} (h:leK x y) (h':leK y z):leK x z:=(q2F x z).2 (List.le_trans ((q2F x y).1 h) ((q2F y z).1 h'))
theorem qdY {x y:ByteArray} (h:Op.bytesLess y.toList x.toList=true):leK y x:=by
 refine(q2F y x).2 ?_
 rw[q6K,decide_eq_true_eq] at h
 exact List.le_of_lt h
theorem q2z (x:ByteArray):∀{l:List ByteArray},l.Pairwise leK→(qbQ x l).Pairwise leK
 | [],_=>by simp[qbQ]
 | y::l,h=>by
  unfold qbQ
  obtain⟨h1,h2⟩:=List.pairwise_cons.1 h
  split
  ·rename_i hxy
   exact List.pairwise_cons.2 ⟨fun z hz=>by
    rcases List.mem_cons.1 ((q2m x l).mem_iff.1 hz) with rfl|hz
    ·exact qdY hxy
    ·exact h1 z hz,q2z x h2⟩
  ·rename_i hxy
   exact List.pairwise_cons.2 ⟨fun z hz=>by
    rcases List.mem_cons.1 hz with rfl|hz
    ·exact hxy
    ·exact q8l hxy (h1 z hz),h⟩
theorem q1H:∀l:List ByteArray,(q0L l).Pairwise leK
 | [] => .nil
 | x::l=>q2z x (q1H l)
theorem q5z (x:ByteArray):x.toList=x.data.toList:=ByteArray.toList_eq x
theorem qao (ks:List ByteArray) {ss:List (List UInt8)} (h:ss.Perm (ks.map fun k=>k.data.toList)):ss.mergeSort leB=(q0L ks).map fun k=>k.data.toList:=by
 have tr:∀a b c:List UInt8,leB a b=true→leB b c=true→leB a c=true:=fun a b c h1 h2=>by simp only[leB,decide_eq_true_eq] at *;exact List.le_trans h1 h2
 have to:∀a b:List UInt8,(leB a b||leB b a)=true:=fun a b=>by simp only[leB,Bool.or_eq_true,decide_eq_true_eq];exact List.le_total a b
 have hs:((q0L ks).map fun k=>k.data.toList).Pairwise (fun a b=>leB a b=true):=by
  refine List.pairwise_map.2 ((q1H ks).imp fun {a b} hab=>?_)
  have:=(q2F a b).1 hab
  rw[q5z,q5z] at this
  simpa [leB] using this
 refine List.Perm.eq_of_pairwise (le:=fun a b=>leB a b=true) (fun a b _ _ h1 h2=>?_) (List.pairwise_mergeSort tr to ss) hs ((List.mergeSort_perm ss leB).trans (h.trans ((q03 ks).map _).symm))
 simp only[leB,decide_eq_true_eq] at h1 h2
 exact List.le_antisymm h1 h2
def q4M:Value→List UInt8
 | .string s=>s.data.toList
 | _=>[]
section
variable {P:Program} {ρ:Ren}
theorem qgx (L6:SlLaysZ.n6 P ρ) (L10:SlLaysZ.n10 P ρ)
  (hs1:∀(blk off cap:Nat) (ss:List (List UInt8)) (W:World),Holds encStr W blk off ss.toArray→blk<W.heap.size→ss.length<4611686018427387904→
   Calls P (ρ.f 9) #[.slice (some ⟨blk,off,none⟩) ss.length cap] W fun e w'=>e = .returned (.tuple #[])∧∃k os,w'=grow (putRow encStr (Sort.ahead W k) blk off (ss.mergeSort fun x y=>decide (x≤y)).toArray) os)
  (hs2:∀(p:Option Addr) (cap:Nat) (W:World),Calls P (ρ.f 9) #[.slice p 0 cap] W fun e w'=>e = .returned (.tuple #[])∧w'=W)
  (e9:∀args w,(callFunc (ρ.f 9) args).run P w = .ok (.enter (ρ.f 9) args) w) (eg:∀args w,(callFunc (ρ.f 10) args).run P w = .ok (.enter (ρ.f 10) args) w)
  (Bm b:Nat) (es:Array MapEntry) (ck:Nat) (w:World) (hBm:Bm<w.heap.size) (hm:w.cell? ⟨Bm,0,none⟩=some (.map (some b))) (hb:w.heap[b]?=some (.map es ck))
  (hst:MapKept.Stamped es ck) (hk:∀x∈es.toList,∃s:ByteArray,x.key = .string s∧s.size≤maxLen) (hz:es.size≤maxLen) (hz2:es.size*16≤140737488355328) :
  Calls P (ρ.f 6) #[.func (.func (ρ.f 10)) #[] #[.pointer (some ⟨Bm,0,none⟩)]] w fun e w'=>∃(v:Value) (ss:List (List UInt8)),e = .returned v∧ss.Perm (es.toList.map fun x=>q4M x.key)∧
   w'.ownsRow w.heap.size (ρ.t 26) 1 v ss.length ((ss.mergeSort leB).map encStr)∧Below w.heap.size w w':=by
 let R:Value→Option (DataW Unit×List MemPlace):=fun _=>some (.lit (.bool true),[])
 have hreads:∀x∈es.toList,∃y,WideElems.rd P (ρ.t 26) R x=some y∧Go.strOf y.1=q4M x.key:=fun x hx=>by
  obtain⟨s,h1,h2⟩:=hk x hx
  have hkey:keyOf P (ρ.t 26) x.key=some (.string s.data.toList):=by
   rw[h1]
   simp[keyOf,L10.t26,mapKey,h2]
  refine⟨(.string s.data.toList,.lit (.bool true)),WideElems.rd_mk (R:=R) (yv:=(.lit (.bool true),[])) (key:=x.key) (val:=x.val) (born:=x.born) hkey rfl,?_⟩
  rw[h1];rfl
 have hfit:WideElems.Fit P (ρ.t 26) R es ck:=⟨hz,hst,fun x hx=>by obtain⟨y,h1,-⟩:=hreads x hx;exact⟨y,h1⟩⟩
 have hown:w.ownsMap P (ρ.t 26) R b es.size (.map ((es.toList.map (WideElems.rg P (ρ.t 26) R)).foldr DataW.insert [])):=⟨es,ck,hb,hfit,Nat.le_refl _,rfl⟩
 have hsize:Maps.size (.map ((es.toList.map (WideElems.rg P (ρ.t 26) R)).foldr DataW.insert []):DataW Unit)=es.size:=by
  rw[Maps.size_eq,length_sorted];simp
 have hperm:(strKeys (.map ((es.toList.map (WideElems.rg P (ρ.t 26) R)).foldr DataW.insert []):DataW Unit)).Perm (es.toList.map fun x=>q4M x.key):=by
  have h1:=((WideShapes.sorted_perm (es.toList.map (WideElems.rg P (ρ.t 26) R))).map fun p:Lit×DataW Unit=>Go.strOf p.1)
  refine h1.trans (.of_eq ?_)
  rw[List.map_map]
  refine List.map_congr_left fun x hx=>?_
  obtain⟨y,h2,h3⟩:=hreads x hx
  show Go.strOf (WideElems.rg P (ρ.t 26) R x).1=_
  rw[WideElems.rg_of h2];exact h3
 have hseq:=AnyZ.keys_gives L10 Fence.wide 2 trivial rfl (by omega) Bm b es.size _ w hBm hm hown
 have hsort:AnyZ.SortsIn P ρ Fence.wide (5-1):=⟨fun blk off cap ss W hH hblk hsz=>callsIn_wide.2 (hs1 blk off cap ss W hH hblk hsz),fun p cap W=>callsIn_wide.2 (hs2 p cap W)⟩
 have cS:=AnyZ.sorted_in L6 Fence.wide 5 trivial trivial trivial trivial rfl (by omega) hsort e9 (ρ.f 10) #[.pointer (some ⟨Bm,0,none⟩)] trivial eg _ _ (by rw[hsize];exact hz) (by rw[hsize];exact hz2) w hseq
 refine(callsIn_wide.1 cS).mono ?_
 rintro e w' ⟨v,ss,rfl,h1,h2,-,h3⟩
 exact⟨v,ss,rfl,h1.trans hperm,h2,h3⟩
end
def qhd:Value→Option ByteArray
 | .string s=>some s
 | _=>none
def q4z:Me→Option (List ByteArray)
 | []=>some []
 | e::es=>(qhd e.1).bind fun k=>(q4z es).bind fun l=>some (k::l)
def qfQ (ks:List ByteArray):Bool:=decide ks.Nodup&&ks.all (fun k=>decide (k.size≤maxLen))&&decide (ks.length*16≤140737488355328)
def skO:AO→Option (List ByteArray)
 | .mp es ck=>if(es.map (·.2.2)).Nodup∧es.all (fun e=>decide (e.2.2<ck))=true then q4z es else none
 | _=>none
def qdr (g:FuncId):Nat→List R→List (Nat×B)→Option (R×List (Nat×B))
 | 2,[.c (.fn h [] [.ptr 0 0])],[(0,.blk t [.hd .map 1]),(1,.ob o)]=>if h=g then(skO o).bind fun ks=>if qfQ ks=true then some (.c (.d (.sl 1 ks.length ((q0L ks).map D.str))),[(0,.blk t [.hd .map 1]),(1,.ob o)]) else none else none
 | _,_,_=>none
theorem q53:∀{es:Me} {ks:List ByteArray},q4z es=some ks→es.map (·.1)=ks.map Value.string
 | [],ks,h=>by injection h with h;subst h;rfl
 | e::es,ks,h=>by
  unfold q4z at h
  obtain⟨k,h1,h⟩:=Option.bind_eq_some_iff.1 h
  obtain⟨l,h2,h⟩:=Option.bind_eq_some_iff.1 h
  injection h with h
  subst h
  have h1:e.1 = .string k:=by
   unfold qhd at h1
   split at h1
   ·rename_i s hs;injection h1 with h1;rw[hs,h1]
   ·cases h1
  rw[List.map_cons,List.map_cons,h1,q53 h2]
theorem qcV {P:Program} {f g:FuncId} {et:TypeId} {fn:Func} (hf:P.funcs[f]?=some fn) (hname:(fn.name == "runtime.NumGoroutine")=false) (hb:fn.body.isNone=false)
  (h1:∀(Bm b:Nat) (es:Array MapEntry) (ck:Nat) (w:World),Bm<w.heap.size→w.cell? ⟨Bm,0,none⟩=some (.map (some b))→w.heap[b]?=some (.map es ck)→
   MapKept.Stamped es ck→(∀x∈es.toList,∃s:ByteArray,x.key = .string s∧s.size≤maxLen)→es.size≤maxLen→es.size*16≤140737488355328→
   Calls P f #[.func (.func g) #[] #[.pointer (some ⟨Bm,0,none⟩)]] w fun e w'=>∃(v:Value) (ss:List (List UInt8)),e = .returned v∧ss.Perm (es.toList.map fun x=>q4M x.key)∧
    w'.ownsRow w.heap.size et 1 v ss.length ((ss.mergeSort leB).map encStr)∧Below w.heap.size w w')
  {k:Nat} {args:List R} {G G':List (Nat×B)} {r:R} (h:qdr g k args G=some (r,G')):AC P f args G k fun r' hp'=>r'=r∧hp'=G':=by
 refine⟨⟨fn,hf,hname,hb⟩,fun cx ρ w vs hw hk hρ hro hs hv=>?_⟩
 unfold qdr at h
 split at h
 ·rename_i h0 t o
  split at h
  ·rename_i hg
   subst hg
   obtain⟨ks,hks,h⟩:=Option.bind_eq_some_iff.1 h
   split at h
   ·rename_i hok
    injection h with h
    injection h with h3 h4
    subst h3 h4
    obtain⟨hvs,hvr⟩:=hv
    have hv0:RR w _ ρ (vs.getD 0 undef) _:=hvr 0 _ rfl
    obtain⟨us,cs,e0,e1,-,e3,e4⟩:=hv0.inv_fn
    have hus:us=#[]:=Array.eq_empty_of_size_eq_zero (by simpa using e1)
    subst hus
    have hc0:=e4 0 _ rfl
    obtain⟨Bm,capm,l0,r0,hp0⟩:∃b cap,_∧ρ 0=some (b,cap)∧cs.getD 0 undef = .pointer (some ⟨b,0,none⟩):=(RR.c _ _ hc0).inv_ptr
    have hcs1:cs=#[.pointer (some ⟨Bm,0,none⟩)]:=by
     apply Array.ext
     ·simpa using e3
     ·intro i hi hi'
      have:i=0:=by simp at hi';exact hi'
      subst this
      have:cs.getD 0 undef=cs[0]:=by simp[Array.getD_eq_getD_getElem?,hi]
      rw[this] at hp0
      exact hp0
    subst hcs1
    have hvs1:vs=#[.func (.func h0) #[] #[.pointer (some ⟨Bm,0,none⟩)]]:=by
     apply Array.ext
     ·simpa using hvs
     ·intro i hi hi'
      have:i=0:=by simp at hi';exact hi'
      subst this
      have:vs.getD 0 undef=vs[0]:=by simp[Array.getD_eq_getD_getElem?,hi]
      rw[this] at e0
      exact e0
    subst hvs1
    obtain⟨hB0,hBk0⟩:=hs.hp 0 Bm capm l0 r0
    obtain⟨bs,q1,q2,q3⟩:HB w _ ρ Bm capm (.blk t [.hd .map 1]):=hBk0
    obtain⟨b1,cap1,l1,r1,hb1⟩:=(RR.c _ _ (q3 0 _ rfl)).inv_hd
    have hcell:w.cell? ⟨Bm,0,none⟩=some (.map (some b1)):=by
     have hz:0<bs.size:=by rw[q2];simp
     have:bs.getD 0 undef=bs[0]:=by simp[Array.getD_eq_getD_getElem?,hz]
     rw[this] at hb1
     simp[World.cell?,q1,hz,hb1,HK.val]
    obtain⟨hB1,hBk1⟩:=hs.hp 1 b1 cap1 l1 r1
    cases o with
    | mp es ck=>
     have hks:(if(es.map (·.2.2)).Nodup∧es.all (fun e=>decide (e.2.2<ck))=true then q4z es else none)=some ks:=hks
     split at hks
     ·rename_i hst
      obtain⟨mes,m1,m2,m3,m4⟩:=HO.keys (show HO w _ ρ b1 (.mp es ck) from hBk1)
      have hkeys:es.map (·.1)=ks.map Value.string:=q53 hks
      have hmk:mes.toList.map (·.key)=ks.map Value.string:=m3.trans hkeys
      have hlen:mes.size=ks.length:=by have:=congrArg List.length hmk;simpa using this
      have hborn:mes.toList.map (·.born)=es.map (·.2.2):=by
       apply List.ext_getElem?
       intro j
       rw[List.getElem?_map,List.getElem?_map]
       rcases Nat.lt_or_ge j es.length with hj|hj
       ·obtain⟨m,-,g1,-,-,g2⟩:=m4 j _ (List.getElem?_eq_getElem hj)
        rw[g1,List.getElem?_eq_getElem hj]
        simp only[Option.map_some,g2]
       ·rw[List.getElem?_eq_none hj,List.getElem?_eq_none (by simp;omega)];rfl
      simp only[qfQ,Bool.and_eq_true,decide_eq_true_eq,List.all_eq_true] at hok
      obtain⟨⟨k1,k2⟩,k3⟩:=hok
      have hstamp:MapKept.Stamped mes ck:=by
       refine⟨fun x hx=>?_,by rw[hborn];exact hst.1,?_⟩
       ·have:x.born∈mes.toList.map (·.born):=List.mem_map.2 ⟨x,hx,rfl⟩
        rw[hborn] at this
        obtain⟨e,he,h5⟩:=List.mem_map.1 this
        have:=List.all_eq_true.1 hst.2 e he
        rw[←h5]
        simpa using this
       ·rw[hmk]
        exact List.pairwise_map.2 (k1.imp fun {a b} hne h=>hne (by injection h))
      have hkk:∀x∈mes.toList,∃s:ByteArray,x.key = .string s∧s.size≤maxLen:=fun x hx=>by
       have:x.key∈mes.toList.map (·.key):=List.mem_map.2 ⟨x,hx,rfl⟩
       rw[hmk] at this
       obtain⟨s,hs1,hs2⟩:=List.mem_map.1 this
       exact⟨s,hs2.symm,k2 s hs1⟩
      refine(h1 Bm b1 mes ck w hB0 hcell m1 hstamp hkk (by rw[hlen];unfold maxLen;omega) (by rw[hlen];exact k3)).mono fun e w'=>?_
      rintro⟨v,ss,rfl,hp,hrow,hbel⟩
      have hkl:(mes.toList.map fun x=>q4M x.key)=ks.map fun k=>k.data.toList:=by
       have:(mes.toList.map fun x=>q4M x.key)=(mes.toList.map (·.key)).map q4M:=by rw[List.map_map];rfl
       rw[this,hmk,List.map_map];rfl
      rw[hkl] at hp
      have hss:=qao ks hp
      have hsl:ss.length=ks.length:=by rw[hp.length_eq];simp
      rw[hss,hsl] at hrow
      have hK:q6n (fun _=>False) w w':=⟨hbel.os,hbel.tape,hbel.output,hbel.size,fun k hk _=>hbel.block k hk⟩
      have hs':=hs.grow hK
      have henc:((q0L ks).map fun k=>k.data.toList).map encStr=(q0L ks).map Value.string:=by
       rw[List.map_map]
       refine List.map_congr_left fun x _=>?_
       show Value.string ⟨x.data.toList.toArray⟩=_
       simp
      rw[henc] at hrow
      refine⟨v,_,_,_,ρ,rfl,⟨rfl,rfl⟩,hs',.c _ _ (.d _ _ ?_)⟩
      have hlenS:(q0L ks).length=ks.length:=(q03 ks).length_eq
      obtain⟨hr1,⟨rfl,hr2⟩|⟨gb,cap,cur,rfl,hr2,hr3,hr4,hr5,hr6,hr7⟩⟩:=hrow
      ·have:q0L ks=[]:=List.eq_nil_of_length_eq_zero (by rw[hlenS];exact hr2)
       rw[this,hr2]
       exact .nil _ _ _ (Nat.zero_le _) (fun _=>rfl)
      ·rw[Nat.mul_one] at hr6 hr7
       have hget:∀(j:Nat) (s:ByteArray),(q0L ks)[j]?=some s→cur[j]?=some (Value.string s):=fun j s hj=>by
        have h5:(cur.toList.take ks.length)[j]?=some (Value.string s):=by rw[hr7,List.getElem?_map,hj];rfl
        have hj':j<ks.length:=by rw[←hlenS];exact(List.getElem?_eq_some_iff.1 hj).1
        rw[List.getElem?_take_of_lt hj'] at h5
        simpa using h5
       refine .sl gb 0 ks.length cap 1 _ (fun j=>cur.getD j undef) (by simp[hlenS]) hr4 hr5 (Array.getElem?_eq_some_iff.1 hr3).1 (fun hO=>?_) (fun j c hj=>?_) (fun j c hj=>?_)
       ·rcases hO with hF|⟨i,c,hi,hρi⟩
        ·have:=hs.oldF gb hF
         have:=hs.kept.size
         omega
        ·have:=(hs.hp i gb c hi hρi).1
         omega
       ·rw[List.getElem?_map] at hj
        obtain⟨s,hs3,rfl⟩:=Option.map_eq_some_iff.1 hj
        have:=hget j s hs3
        simp[World.cell?,hr3,Array.getD_eq_getD_getElem?,this]
       ·rw[List.getElem?_map] at hj
        obtain⟨s,hs3,rfl⟩:=Option.map_eq_some_iff.1 hj
        have:=hget j s hs3
        simp only[Array.getD_eq_getD_getElem?,this,Option.getD_some]
        exact .str _
     ·cases hks
    | _=>cases hks
   ·cases h
  ·cases h
 ·cases h
end Go.Proofs.Ytcdegieiflmaeaa.Vc
namespace Go.Proofs.Ytcdegieiflmaeaa.Vc
open Go.RowKit Go.Shelf
theorem q66 {P:Program} (w:World) (t e ty:TypeId) (z:Value) (zs:List Value) (ht:P.underlying t=some (.slice e)) (hv:∀w,(zeroValue e).run P w = .ok z w) (hz:z.cells.toList=zs) (h1:∀u∈zs,u.oneCell'=true) (b o c:Nat)
  (hc:∀j,j<zs.length→(w.cell? ⟨b,o+j,none⟩).isSome=true) (hf:∀j,j<zs.length→w.frozen? ⟨b,o+j,none⟩=false) (h0:0<zs.length) :
  (Builtin.clear_ #[t] ty #[.slice (some ⟨b,o,none⟩) 1 c]).run P w = .ok (.tuple #[]) (w.setCells b o zs):=by
 have hzc:(Builtin.zeroCells z.cells 1).toList=zs:=by
  subst hz
  simp only[Builtin.zeroCells]
  apply List.ext_getElem
  ·simp
  ·intro i h1 h2
   simp
   have h3:i<z.cells.size:=by simpa using h2
   rw[Nat.mod_eq_of_lt h3]
   exact getElem!_pos z.cells i h3
 have hst:=run_storeCells_cells (P:=P) b o zs 0 w (by simpa using hc) (by simpa using hf) h1
 simp only[Nat.add_zero] at hst
 simp[Builtin.clear_,run_underlying ht,hv,hzc,hst]
theorem JT {b:Nat} {e:TypeId}:∀(vs:List Value) (o:Nat) (w:World) (cur:Array Value),w.heap[b]?=some (.cells cur e (0,0))→o+vs.length≤cur.size→
  w.grownBy (w.setCells b o vs) (some b)∧∃cur':Array Value,(w.setCells b o vs).heap[b]?=some (.cells cur' e (0,0))∧cur'.size=cur.size∧∀k,cur'[k]?=if k<o∨o+vs.length≤k then cur[k]? else vs[k-o]?
 | [],o,w,cur,hb,ho=>⟨World.grownBy.refl w _,cur,hb,rfl,fun k=>by rw[if_pos (by simp;omega)]⟩
 | v::vs,o,w,cur,hb,ho=>by
  simp only[List.length_cons] at ho
  have h1:(w.setCell ⟨b,o,none⟩ v).heap[b]?=some (.cells (cur.setIfInBounds o v) e (0,0)):=by
   simp only[World.setCell,Array.getElem?_modify,hb,if_true,Option.map_some]
   rfl
  have g1:w.grownBy (w.setCell ⟨b,o,none⟩ v) (some b):=⟨rfl,rfl,rfl,by simp,fun k _ hk=>Below.heap_setCell _ _ _ k (fun e=>hk (by rw[e]))⟩
  obtain⟨g2,cur',h2,h3,h4⟩:=JT vs (o+1) _ _ h1 (by simp;omega)
  refine⟨⟨g2.os.trans g1.os,g2.tape.trans g1.tape,g2.output.trans g1.output,Nat.le_trans g1.size g2.size,fun k hk hn=>(g2.block k (Nat.lt_of_lt_of_le hk g1.size) hn).trans (g1.block k hk hn)⟩,cur',h2,by simpa using h3,fun k=>?_⟩
  rw[h4 k,List.length_cons]
  by_cases hA:k<o+1∨o+1+vs.length≤k
  ·rw[if_pos hA]
   by_cases hk:o=k
   ·subst hk
    rw[if_neg (show ¬ (o<o∨o+(vs.length+1)≤o) by omega)]
    simp[Array.getElem?_setIfInBounds,(show o<cur.size by omega)]
   ·rw[if_pos (show k<o∨o+(vs.length+1)≤k by omega),Array.getElem?_setIfInBounds,if_neg hk]
  ·rw[if_neg hA,if_neg (show ¬ (k<o∨o+(vs.length+1)≤k) by omega),show k-o=(k-(o+1))+1 by omega,List.getElem?_cons_succ]
def qfP (e:TypeId) (z sz sz':Nat) (e':TypeId) (n:Nat) (i j:Int) (cs:List C):Option (R×List (Nat×B)):=
 if e'=e∧sz=z∧sz'=z∧cs.length=n*z∧cs.all C.known=true∧cs.all (C.far 0)=true∧0≤i∧j=i+1∧i<n then some (.c (.own 0 z 0 (n-1)),[(0,.row e z (cs.take (i.toNat*z)++cs.drop ((i.toNat+1)*z)))]) else none
def q67 (e:TypeId) (z:Nat):Nat→List R→List (Nat×B)→Option (R×List (Nat×B))
 | 0,[.c (.own 0 sz 0 n),.c (.d (.int .i64 i)),.c (.d (.int .i64 j))],[(0,.row e' sz' cs)]=>qfP e z sz sz' e' n i j cs
 | _,_,_=>none
theorem q9K {P:Program} {f:FuncId} {fn:Func} {e:TypeId} {z:Nat} (hf:P.funcs[f]?=some fn) (hname:(fn.name == "runtime.NumGoroutine")=false) (hb:fn.body.isNone=false)
  (h1:∀(b n cap i j:Nat) (cur:Array Value) (w:World),w.heap[b]?=some (.cells cur e (0,0))→n≤cap→cap≤9223372036854775807→cur.size=cap*z→i<n→Hid (j=i+1)→(∀u∈cur.toList.take (n*z),u.oneCell'=true)→
   Calls P f #[.slice (some ⟨b,0,none⟩) n cap,.int .i64 i,.int .i64 j] w fun e' w'=>e' = .returned (.slice (some ⟨b,0,none⟩) (n-1) cap)∧w.grownBy w' (some b)∧
    ∃cur':Array Value,w'.heap[b]?=some (.cells cur' e (0,0))∧cur'.size=cur.size∧cur'.toList.take ((n-1)*z)=cur.toList.take (i*z)++(cur.toList.drop (j*z)).take ((n-j)*z))
  {k:Nat} {args:List R} {G G':List (Nat×B)} {r:R} (h:q67 e z k args G=some (r,G')):AC P f args G k fun r' hp'=>r'=r∧hp'=G':=by
 refine⟨⟨fn,hf,hname,hb⟩,fun cx ρ w vs hw hk hρ hro hs hv=>?_⟩
 unfold q67 at h
 split at h
 ·rename_i sz n i j e' sz' cs
  unfold qfP at h
  split at h
  ·rename_i hc
   obtain⟨rfl,rfl,rfl,c1,c2,c3,c4,rfl,c5⟩:=hc
   injection h with h
   injection h with h3 h4
   subst h3 h4
   obtain⟨i,rfl⟩:=Int.eq_ofNat_of_zero_le c4
   have hi:i<n:=by omega
   obtain⟨hvs,hvr⟩:=hv
   have hv0:RR w _ ρ (vs.getD 0 undef) _:=hvr 0 _ rfl
   have hv1:RR w _ ρ (vs.getD 1 undef) _:=hvr 1 _ rfl
   have hv2:RR w _ ρ (vs.getD 2 undef) _:=hvr 2 _ rfl
   obtain⟨hl,hcase⟩:=hv0.inv_own
   rcases hcase with ⟨b,cap,e1,e2,e3,e4⟩|⟨-,-,-,e5⟩
   ·have hsz:vs.size=3:=by simpa using hvs
    have hvs1:vs=#[.slice (some ⟨b,0,none⟩) n cap,.int .i64 i,.int .i64 ((i+1:Nat):Int)]:=by
     apply Array.ext
     ·simpa using hvs
     ·intro k hk hk'
      have hg:vs.getD k undef=vs[k]:=by simp[Array.getD_eq_getD_getElem?,hk]
      have:k=0∨k=1∨k=2:=by omega
      rcases this with rfl|rfl|rfl
      ·rw[←hg,e4];simp
      ·rw[←hg,hv1.inv_int];rfl
      ·rw[←hg,hv2.inv_int];rfl
    subst hvs1
    simp only[Int.toNat_natCast]
    obtain⟨hbz,hBk⟩:=hs.hp 0 b cap hl e1
    obtain⟨cur,q1,q2,q3,q4,q5,q6⟩:HB w _ ρ b cap (.row e' sz' cs):=hBk
    have hcell:∀(k:Nat) (c:C),cs[k]?=some c→∃u,cur[k]?=some u∧RC w _ ρ u c:=fun k c hk=>by
     have hk':k<cur.size:=by have:=(List.getElem?_eq_some_iff.1 hk).1;omega
     refine⟨cur.getD k undef,by simp[Array.getD_eq_getD_getElem?,hk'],q6 k c hk⟩
    have hone:∀u∈cur.toList.take (n*sz'),u.oneCell'=true:=fun u hu=>by
     obtain⟨k,hk,rfl⟩:=List.mem_iff_getElem.1 hu
     have hk1:k<n*sz':=by simp at hk;omega
     have hk2:k<cs.length:=by omega
     obtain⟨u,u1,u2⟩:=hcell k _ (List.getElem?_eq_getElem hk2)
     have hone:=u2.one (List.all_eq_true.1 c2 _ (List.getElem_mem hk2))
     rw[List.getElem_take,Array.getElem_toList]
     have hk3:k<cur.size:=by omega
     rw[Array.getElem?_eq_getElem hk3] at u1
     injection u1 with u1
     rw[u1];exact hone
    refine(h1 b n cap i (i+1) cur w q1 (by omega) (by unfold maxLen at e3;omega) q3 hi rfl hone).mono fun e2 w'=>?_
    rintro⟨rfl,hg,cur',r1,r2,r3⟩
    have hus:(cur.toList.take (i*sz')++(cur.toList.drop ((i+1)*sz')).take ((n-(i+1))*sz')).length=(n-1)*sz':=by
     have hA:(n-(i+1))*sz'+(i+1)*sz'=n*sz':=by rw[←Nat.add_mul];congr 1;omega
     have hB:i*sz'≤n*sz':=Nat.mul_le_mul_right _ (by omega)
     have hC:(n-1)*sz'=i*sz'+(n-(i+1))*sz':=by rw[←Nat.add_mul];congr 1;omega
     have hD:n*sz'≤cap*sz':=Nat.mul_le_mul_right _ (by omega)
     rw[List.length_append,List.length_take,List.length_take,List.length_drop,Array.length_toList]
     omega
    obtain⟨ρ2,g4,g5⟩:=Sim.rerow (id:=0) (v := .slice (some ⟨b,0,none⟩) n cap) (v' := .slice (some ⟨b,0,none⟩) (n-1) cap) (e:=e') (sz:=sz') (n:=n-1) (cs:=cs.take (i*sz')++cs.drop ((i+1)*sz')) (us:=cur.toList.take (i*sz')++(cur.toList.drop ((i+1)*sz')).take ((n-(i+1))*sz'))
     hs (.inl ⟨b,cap,hl,e1,rfl⟩) hg (.inl rfl) ⟨hus,.inr ⟨b,cap,cur',rfl,Nat.zero_le _,r1,by omega,q4,by omega,r3⟩⟩ q5
     (by
      have hA:(n-(i+1))*sz'+(i+1)*sz'=n*sz':=by rw[←Nat.add_mul];congr 1;omega
      have hC:(n-1)*sz'=i*sz'+(n-(i+1))*sz':=by rw[←Nat.add_mul];congr 1;omega
      have hB:i*sz'≤n*sz':=Nat.mul_le_mul_right _ (by omega)
      rw[List.length_append,List.length_take,List.length_drop];omega) (by omega) (fun k c hk=>by
      have hB:i*sz'≤n*sz':=Nat.mul_le_mul_right _ (by omega)
      have hB2:(i+1)*sz'≤n*sz':=Nat.mul_le_mul_right _ (by omega)
      by_cases hki:k<i*sz'
      ·rw[List.getElem?_append_left (by rw[List.length_take];omega),List.getElem?_take_of_lt hki] at hk
       obtain⟨u,u1,u2⟩:=hcell k c hk
       refine⟨List.all_eq_true.1 c3 _ (List.mem_of_getElem? hk),u,?_,u2⟩
       have hk3:=(Array.getElem?_eq_some_iff.1 u1).1
       rw[List.getElem?_append_left (by rw[List.length_take,Array.length_toList];omega),List.getElem?_take_of_lt hki,Array.getElem?_toList]
       exact u1
      ·rw[List.getElem?_append_right (by rw[List.length_take];omega),List.length_take,Nat.min_eq_left (by omega),List.getElem?_drop] at hk
       obtain⟨u,u1,u2⟩:=hcell _ c hk
       have hk3:=(List.getElem?_eq_some_iff.1 hk).1
       have hk4:=(Array.getElem?_eq_some_iff.1 u1).1
       have hA:(n-(i+1))*sz'+(i+1)*sz'=n*sz':=by rw[←Nat.add_mul];congr 1;omega
       refine⟨List.all_eq_true.1 c3 _ (List.mem_of_getElem? hk),u,?_,u2⟩
       have hD:n*sz'≤cap*sz':=Nat.mul_le_mul_right _ (by omega)
       rw[List.getElem?_append_right (by rw[List.length_take,Array.length_toList];omega),List.length_take,Array.length_toList,Nat.min_eq_left (by omega),List.getElem?_take_of_lt (by omega),List.getElem?_drop,Array.getElem?_toList]
       exact u1)
    have hblk:∀x,(Z5 [(0,B.row e' sz' (cs.take (i*sz')++cs.drop ((i+1)*sz')))] 1).blk x=(((Z5 [(0,B.row e' sz' cs)] 1).fg 0).up [(0,B.row e' sz' (cs.take (i*sz')++cs.drop ((i+1)*sz')))]).blk x:=fun x=>by
     rw[S.blk_up]
     by_cases hx:0=x
     ·subst hx;rfl
     ·rw[if_neg hx,S.blk_fg]
      unfold S.blk Z5
      simp only[lk,if_neg hx,B.fg]
    have hlive:(Z5 [(0,B.row e' sz' (cs.take (i*sz')++cs.drop ((i+1)*sz')))] 1).live=(((Z5 [(0,B.row e' sz' cs)] 1).fg 0).up [(0,B.row e' sz' (cs.take (i*sz')++cs.drop ((i+1)*sz')))]).live:=by funext x;unfold S.live;rw[hblk]
    refine⟨_,_,_,1,ρ2,rfl,⟨rfl,rfl⟩,g4.ext (fun x=>rfl) hblk rfl (fun x hx=>?_),?_⟩
    ·unfold S.live S.blk Z5 at hx
     show x<1
     rcases Nat.lt_or_ge x 1 with h|h
     ·exact h
     ·simp[lk,show ¬ 0=x by omega,B.live] at hx
    ·rw[hlive];exact g5
   ·omega
  ·cases h
 ·cases h
end Go.Proofs.Ytcdegieiflmaeaa.Vc
namespace Go.Proofs.Ytcdegieiflmaeaa.Vc
def tk (t:TypeId):Kd:=bif Nat.blt t 133 then(bif Nat.blt t 66 then(bif Nat.blt t 33 then(bif Nat.blt t 16 then(bif Nat.blt t 8 then(bif Nat.blt t 4 then(bif Nat.blt t 2 then(bif Nat.blt t 1 then .other else .fn) else(bif Nat.blt t 3 then .int .i64 else .int .i64)) else(bif Nat.blt t 6 then(bif Nat.blt t 5 then .bool else .int .u8) else(bif Nat.blt t 7 then .int .u8 else .st [(0,2),(1,3),(2,4),(3,6)]))) else(bif Nat.blt t 12 then(bif Nat.blt t 10 then(bif Nat.blt t 9 then .st [(0,2),(1,3),(2,4),(3,6)] else .str) else(bif Nat.blt t 11 then .str else .str)) else(bif Nat.blt t 14 then(bif Nat.blt t 13 then .int .u64 else .st [(0,9),(1,12)]) else(bif Nat.blt t 15 then .st [(0,9),(1,12)] else .ptr 119)))) else(bif Nat.blt t 24 then(bif Nat.blt t 20 then(bif Nat.blt t 18 then(bif Nat.blt t 17 then .ptr 122 else .ptr 131) else(bif Nat.blt t 19 then .st [(0,17)] else .st [(0,17)])) else(bif Nat.blt t 22 then(bif Nat.blt t 21 then .other else .int .i32) else(bif Nat.blt t 23 then .sl 3 else .arr 3 3))) else(bif Nat.blt t 28 then(bif Nat.blt t 26 then(bif Nat.blt t 25 then .arr 2 23 else .sl 35) else(bif Nat.blt t 27 then .fn else .fn)) else(bif Nat.blt t 30 then(bif Nat.blt t 29 then .fn else .fn) else(bif Nat.blt t 31 then .sl 25 else(bif Nat.blt t 32 then .int .i64 else .fn)))))) else(bif Nat.blt t 49 then(bif Nat.blt t 41 then(bif Nat.blt t 37 then(bif Nat.blt t 35 then(bif Nat.blt t 34 then .sl 9 else .st [(0,9),(1,3),(2,3),(3,22),(4,33)]) else(bif Nat.blt t 36 then .st [(0,9),(1,3),(2,3),(3,22),(4,33)] else .fn)) else(bif Nat.blt t 39 then(bif Nat.blt t 38 then .fn else .fn) else(bif Nat.blt t 40 then .fn else .fn))) else(bif Nat.blt t 45 then(bif Nat.blt t 43 then(bif Nat.blt t 42 then .other else .fn) else(bif Nat.blt t 44 then .fn else .fn)) else(bif Nat.blt t 47 then(bif Nat.blt t 46 then .fn else .mp 9 4) else(bif Nat.blt t 48 then .fn else .fn)))) else(bif Nat.blt t 57 then(bif Nat.blt t 53 then(bif Nat.blt t 51 then(bif Nat.blt t 50 then .fn else .fn) else(bif Nat.blt t 52 then .fn else .sl 5)) else(bif Nat.blt t 55 then(bif Nat.blt t 54 then .fn else .fn) else(bif Nat.blt t 56 then .fn else .fn))) else(bif Nat.blt t 61 then(bif Nat.blt t 59 then(bif Nat.blt t 58 then .ptr 59 else .st [(0,22),(1,3)]) else(bif Nat.blt t 60 then .st [(0,22),(1,3)] else .fn)) else(bif Nat.blt t 63 then(bif Nat.blt t 62 then .fn else .fn) else(bif Nat.blt t 64 then .ptr 35 else(bif Nat.blt t 65 then .fn else .mp 9 33))))))) else(bif Nat.blt t 99 then(bif Nat.blt t 82 then(bif Nat.blt t 74 then(bif Nat.blt t 70 then(bif Nat.blt t 68 then(bif Nat.blt t 67 then .fn else .fn) else(bif Nat.blt t 69 then .other else .fn)) else(bif Nat.blt t 72 then(bif Nat.blt t 71 then .fn else .fn) else(bif Nat.blt t 73 then .fn else .fn))) else(bif Nat.blt t 78 then(bif Nat.blt t 76 then(bif Nat.blt t 75 then .fn else .fn) else(bif Nat.blt t 77 then .fn else .fn)) else(bif Nat.blt t 80 then(bif Nat.blt t 79 then .fn else .fn) else(bif Nat.blt t 81 then .fn else .fn)))) else(bif Nat.blt t 90 then(bif Nat.blt t 86 then(bif Nat.blt t 84 then(bif Nat.blt t 83 then .fn else .fn) else(bif Nat.blt t 85 then .fn else .fn)) else(bif Nat.blt t 88 then(bif Nat.blt t 87 then .fn else .fn) else(bif Nat.blt t 89 then .fn else .fn))) else(bif Nat.blt t 94 then(bif Nat.blt t 92 then(bif Nat.blt t 91 then .fn else .fn) else(bif Nat.blt t 93 then .fn else .fn)) else(bif Nat.blt t 96 then(bif Nat.blt t 95 then .int .u64 else .fn) else(bif Nat.blt t 97 then .int .i64 else(bif Nat.blt t 98 then .other else .fn)))))) else(bif Nat.blt t 116 then(bif Nat.blt t 107 then(bif Nat.blt t 103 then(bif Nat.blt t 101 then(bif Nat.blt t 100 then .fn else .fn) else(bif Nat.blt t 102 then .fn else .other)) else(bif Nat.blt t 105 then(bif Nat.blt t 104 then .fn else .fn) else(bif Nat.blt t 106 then .int .u32 else .fn))) else(bif Nat.blt t 111 then(bif Nat.blt t 109 then(bif Nat.blt t 108 then .int .u64 else .int .u64) else(bif Nat.blt t 110 then .fn else .fn)) else(bif Nat.blt t 113 then(bif Nat.blt t 112 then .fn else .ptr 3) else(bif Nat.blt t 114 then .fn else(bif Nat.blt t 115 then .ptr 108 else .other))))) else(bif Nat.blt t 124 then(bif Nat.blt t 120 then(bif Nat.blt t 118 then(bif Nat.blt t 117 then .fn else .fn) else(bif Nat.blt t 119 then .st [(0,17),(1,17),(2,17),(3,9)] else .st [(0,17),(1,17),(2,17),(3,9)])) else(bif Nat.blt t 122 then(bif Nat.blt t 121 then .arr 0 16 else .st [(0,120)]) else(bif Nat.blt t 123 then .st [(0,120)] else .fn))) else(bif Nat.blt t 128 then(bif Nat.blt t 126 then(bif Nat.blt t 125 then .int .u8 else .int .u8) else(bif Nat.blt t 127 then .fn else .ptr 5)) else(bif Nat.blt t 130 then(bif Nat.blt t 129 then .int .i32 else .int .i32) else(bif Nat.blt t 131 then .st [(0,12),(1,12),(2,105),(3,124),(4,5),(5,5),(6,125),(7,126),(8,127),(9,128),(10,129)] else(bif Nat.blt t 132 then .st [(0,12),(1,12),(2,105),(3,124),(4,5),(5,5),(6,125),(7,126),(8,127),(9,128),(10,129)] else .other)))))))) else .other
def tz (t:TypeId):Nat:=bif Nat.blt t 133 then(bif Nat.blt t 66 then(bif Nat.blt t 33 then(bif Nat.blt t 16 then(bif Nat.blt t 8 then(bif Nat.blt t 4 then(bif Nat.blt t 2 then(bif Nat.blt t 1 then 0 else 1) else(bif Nat.blt t 3 then 1 else 1)) else(bif Nat.blt t 6 then(bif Nat.blt t 5 then 1 else 1) else(bif Nat.blt t 7 then 1 else 4))) else(bif Nat.blt t 12 then(bif Nat.blt t 10 then(bif Nat.blt t 9 then 4 else 1) else(bif Nat.blt t 11 then 1 else 1)) else(bif Nat.blt t 14 then(bif Nat.blt t 13 then 1 else 2) else(bif Nat.blt t 15 then 2 else 1)))) else(bif Nat.blt t 24 then(bif Nat.blt t 20 then(bif Nat.blt t 18 then(bif Nat.blt t 17 then 1 else 1) else(bif Nat.blt t 19 then 1 else 1)) else(bif Nat.blt t 22 then(bif Nat.blt t 21 then 0 else 1) else(bif Nat.blt t 23 then 1 else 3))) else(bif Nat.blt t 28 then(bif Nat.blt t 26 then(bif Nat.blt t 25 then 6 else 1) else(bif Nat.blt t 27 then 1 else 1)) else(bif Nat.blt t 30 then(bif Nat.blt t 29 then 1 else 1) else(bif Nat.blt t 31 then 1 else(bif Nat.blt t 32 then 1 else 1)))))) else(bif Nat.blt t 49 then(bif Nat.blt t 41 then(bif Nat.blt t 37 then(bif Nat.blt t 35 then(bif Nat.blt t 34 then 1 else 5) else(bif Nat.blt t 36 then 5 else 1)) else(bif Nat.blt t 39 then(bif Nat.blt t 38 then 1 else 1) else(bif Nat.blt t 40 then 1 else 1))) else(bif Nat.blt t 45 then(bif Nat.blt t 43 then(bif Nat.blt t 42 then 0 else 1) else(bif Nat.blt t 44 then 1 else 1)) else(bif Nat.blt t 47 then(bif Nat.blt t 46 then 1 else 1) else(bif Nat.blt t 48 then 1 else 1)))) else(bif Nat.blt t 57 then(bif Nat.blt t 53 then(bif Nat.blt t 51 then(bif Nat.blt t 50 then 1 else 1) else(bif Nat.blt t 52 then 1 else 1)) else(bif Nat.blt t 55 then(bif Nat.blt t 54 then 1 else 1) else(bif Nat.blt t 56 then 1 else 1))) else(bif Nat.blt t 61 then(bif Nat.blt t 59 then(bif Nat.blt t 58 then 1 else 2) else(bif Nat.blt t 60 then 2 else 1)) else(bif Nat.blt t 63 then(bif Nat.blt t 62 then 1 else 1) else(bif Nat.blt t 64 then 1 else(bif Nat.blt t 65 then 1 else 1))))))) else(bif Nat.blt t 99 then(bif Nat.blt t 82 then(bif Nat.blt t 74 then(bif Nat.blt t 70 then(bif Nat.blt t 68 then(bif Nat.blt t 67 then 1 else 1) else(bif Nat.blt t 69 then 0 else 1)) else(bif Nat.blt t 72 then(bif Nat.blt t 71 then 1 else 1) else(bif Nat.blt t 73 then 1 else 1))) else(bif Nat.blt t 78 then(bif Nat.blt t 76 then(bif Nat.blt t 75 then 1 else 1) else(bif Nat.blt t 77 then 1 else 1)) else(bif Nat.blt t 80 then(bif Nat.blt t 79 then 1 else 1) else(bif Nat.blt t 81 then 1 else 1)))) else(bif Nat.blt t 90 then(bif Nat.blt t 86 then(bif Nat.blt t 84 then(bif Nat.blt t 83 then 1 else 1) else(bif Nat.blt t 85 then 1 else 1)) else(bif Nat.blt t 88 then(bif Nat.blt t 87 then 1 else 1) else(bif Nat.blt t 89 then 1 else 1))) else(bif Nat.blt t 94 then(bif Nat.blt t 92 then(bif Nat.blt t 91 then 1 else 1) else(bif Nat.blt t 93 then 1 else 1)) else(bif Nat.blt t 96 then(bif Nat.blt t 95 then 1 else 1) else(bif Nat.blt t 97 then 1 else(bif Nat.blt t 98 then 0 else 1)))))) else(bif Nat.blt t 116 then(bif Nat.blt t 107 then(bif Nat.blt t 103 then(bif Nat.blt t 101 then(bif Nat.blt t 100 then 1 else 1) else(bif Nat.blt t 102 then 1 else 0)) else(bif Nat.blt t 105 then(bif Nat.blt t 104 then 1 else 1) else(bif Nat.blt t 106 then 1 else 1))) else(bif Nat.blt t 111 then(bif Nat.blt t 109 then(bif Nat.blt t 108 then 1 else 1) else(bif Nat.blt t 110 then 1 else 1)) else(bif Nat.blt t 113 then(bif Nat.blt t 112 then 1 else 1) else(bif Nat.blt t 114 then 1 else(bif Nat.blt t 115 then 1 else 0))))) else(bif Nat.blt t 124 then(bif Nat.blt t 120 then(bif Nat.blt t 118 then(bif Nat.blt t 117 then 1 else 1) else(bif Nat.blt t 119 then 4 else 4)) else(bif Nat.blt t 122 then(bif Nat.blt t 121 then 0 else 0) else(bif Nat.blt t 123 then 0 else 1))) else(bif Nat.blt t 128 then(bif Nat.blt t 126 then(bif Nat.blt t 125 then 1 else 1) else(bif Nat.blt t 127 then 1 else 1)) else(bif Nat.blt t 130 then(bif Nat.blt t 129 then 1 else 1) else(bif Nat.blt t 131 then 11 else(bif Nat.blt t 132 then 11 else 0)))))))) else 0
def tb (t:TypeId):Nat:=bif Nat.blt t 133 then(bif Nat.blt t 66 then(bif Nat.blt t 33 then(bif Nat.blt t 16 then(bif Nat.blt t 8 then(bif Nat.blt t 4 then(bif Nat.blt t 2 then(bif Nat.blt t 1 then 0 else 8) else(bif Nat.blt t 3 then 8 else 8)) else(bif Nat.blt t 6 then(bif Nat.blt t 5 then 1 else 1) else(bif Nat.blt t 7 then 1 else 24))) else(bif Nat.blt t 12 then(bif Nat.blt t 10 then(bif Nat.blt t 9 then 24 else 16) else(bif Nat.blt t 11 then 16 else 16)) else(bif Nat.blt t 14 then(bif Nat.blt t 13 then 8 else 24) else(bif Nat.blt t 15 then 24 else 8)))) else(bif Nat.blt t 24 then(bif Nat.blt t 20 then(bif Nat.blt t 18 then(bif Nat.blt t 17 then 8 else 8) else(bif Nat.blt t 19 then 8 else 8)) else(bif Nat.blt t 22 then(bif Nat.blt t 21 then 0 else 4) else(bif Nat.blt t 23 then 24 else 24))) else(bif Nat.blt t 28 then(bif Nat.blt t 26 then(bif Nat.blt t 25 then 48 else 24) else(bif Nat.blt t 27 then 8 else 8)) else(bif Nat.blt t 30 then(bif Nat.blt t 29 then 8 else 8) else(bif Nat.blt t 31 then 24 else(bif Nat.blt t 32 then 8 else 8)))))) else(bif Nat.blt t 49 then(bif Nat.blt t 41 then(bif Nat.blt t 37 then(bif Nat.blt t 35 then(bif Nat.blt t 34 then 24 else 80) else(bif Nat.blt t 36 then 80 else 8)) else(bif Nat.blt t 39 then(bif Nat.blt t 38 then 8 else 8) else(bif Nat.blt t 40 then 8 else 8))) else(bif Nat.blt t 45 then(bif Nat.blt t 43 then(bif Nat.blt t 42 then 0 else 8) else(bif Nat.blt t 44 then 8 else 8)) else(bif Nat.blt t 47 then(bif Nat.blt t 46 then 8 else 8) else(bif Nat.blt t 48 then 8 else 8)))) else(bif Nat.blt t 57 then(bif Nat.blt t 53 then(bif Nat.blt t 51 then(bif Nat.blt t 50 then 8 else 8) else(bif Nat.blt t 52 then 8 else 24)) else(bif Nat.blt t 55 then(bif Nat.blt t 54 then 8 else 8) else(bif Nat.blt t 56 then 8 else 8))) else(bif Nat.blt t 61 then(bif Nat.blt t 59 then(bif Nat.blt t 58 then 8 else 32) else(bif Nat.blt t 60 then 32 else 8)) else(bif Nat.blt t 63 then(bif Nat.blt t 62 then 8 else 8) else(bif Nat.blt t 64 then 8 else(bif Nat.blt t 65 then 8 else 8))))))) else(bif Nat.blt t 99 then(bif Nat.blt t 82 then(bif Nat.blt t 74 then(bif Nat.blt t 70 then(bif Nat.blt t 68 then(bif Nat.blt t 67 then 8 else 8) else(bif Nat.blt t 69 then 0 else 8)) else(bif Nat.blt t 72 then(bif Nat.blt t 71 then 8 else 8) else(bif Nat.blt t 73 then 8 else 8))) else(bif Nat.blt t 78 then(bif Nat.blt t 76 then(bif Nat.blt t 75 then 8 else 8) else(bif Nat.blt t 77 then 8 else 8)) else(bif Nat.blt t 80 then(bif Nat.blt t 79 then 8 else 8) else(bif Nat.blt t 81 then 8 else 8)))) else(bif Nat.blt t 90 then(bif Nat.blt t 86 then(bif Nat.blt t 84 then(bif Nat.blt t 83 then 8 else 8) else(bif Nat.blt t 85 then 8 else 8)) else(bif Nat.blt t 88 then(bif Nat.blt t 87 then 8 else 8) else(bif Nat.blt t 89 then 8 else 8))) else(bif Nat.blt t 94 then(bif Nat.blt t 92 then(bif Nat.blt t 91 then 8 else 8) else(bif Nat.blt t 93 then 8 else 8)) else(bif Nat.blt t 96 then(bif Nat.blt t 95 then 8 else 8) else(bif Nat.blt t 97 then 8 else(bif Nat.blt t 98 then 0 else 8)))))) else(bif Nat.blt t 116 then(bif Nat.blt t 107 then(bif Nat.blt t 103 then(bif Nat.blt t 101 then(bif Nat.blt t 100 then 8 else 8) else(bif Nat.blt t 102 then 8 else 0)) else(bif Nat.blt t 105 then(bif Nat.blt t 104 then 8 else 8) else(bif Nat.blt t 106 then 4 else 8))) else(bif Nat.blt t 111 then(bif Nat.blt t 109 then(bif Nat.blt t 108 then 8 else 8) else(bif Nat.blt t 110 then 8 else 8)) else(bif Nat.blt t 113 then(bif Nat.blt t 112 then 8 else 8) else(bif Nat.blt t 114 then 8 else(bif Nat.blt t 115 then 8 else 0))))) else(bif Nat.blt t 124 then(bif Nat.blt t 120 then(bif Nat.blt t 118 then(bif Nat.blt t 117 then 8 else 8) else(bif Nat.blt t 119 then 40 else 40)) else(bif Nat.blt t 122 then(bif Nat.blt t 121 then 0 else 0) else(bif Nat.blt t 123 then 0 else 8))) else(bif Nat.blt t 128 then(bif Nat.blt t 126 then(bif Nat.blt t 125 then 1 else 1) else(bif Nat.blt t 127 then 8 else 8)) else(bif Nat.blt t 130 then(bif Nat.blt t 129 then 4 else 4) else(bif Nat.blt t 131 then 48 else(bif Nat.blt t 132 then 48 else 0)))))))) else 0
def t0 (t:TypeId):List C:=bif Nat.blt t 133 then(bif Nat.blt t 66 then(bif Nat.blt t 33 then(bif Nat.blt t 16 then(bif Nat.blt t 8 then(bif Nat.blt t 4 then(bif Nat.blt t 2 then(bif Nat.blt t 1 then[] else[.nilf]) else(bif Nat.blt t 3 then[.d (.int .i64 0)] else[.d (.int .i64 0)])) else(bif Nat.blt t 6 then(bif Nat.blt t 5 then[.d (.bool false)] else[.d (.int .u8 0)]) else(bif Nat.blt t 7 then[.d (.int .u8 0)] else[.d (.int .i64 0),.d (.int .i64 0),.d (.bool false),.d (.int .u8 0)]))) else(bif Nat.blt t 12 then(bif Nat.blt t 10 then(bif Nat.blt t 9 then[.d (.int .i64 0),.d (.int .i64 0),.d (.bool false),.d (.int .u8 0)] else[.d (.str ⟨#[]⟩)]) else(bif Nat.blt t 11 then[.d (.str ⟨#[]⟩)] else[.d (.str ⟨#[]⟩)])) else(bif Nat.blt t 14 then(bif Nat.blt t 13 then[.d (.int .u64 0)] else[.d (.str ⟨#[]⟩),.d (.int .u64 0)]) else(bif Nat.blt t 15 then[.d (.str ⟨#[]⟩),.d (.int .u64 0)] else[.nilp])))) else(bif Nat.blt t 24 then(bif Nat.blt t 20 then(bif Nat.blt t 18 then(bif Nat.blt t 17 then[.nilp] else[.nilp]) else(bif Nat.blt t 19 then[.nilp] else[.nilp])) else(bif Nat.blt t 22 then(bif Nat.blt t 21 then[] else[.d (.int .i32 0)]) else(bif Nat.blt t 23 then[.nils] else[.d (.int .i64 0),.d (.int .i64 0),.d (.int .i64 0)]))) else(bif Nat.blt t 28 then(bif Nat.blt t 26 then(bif Nat.blt t 25 then[.d (.int .i64 0),.d (.int .i64 0),.d (.int .i64 0),.d (.int .i64 0),.d (.int .i64 0),.d (.int .i64 0)] else[.nils]) else(bif Nat.blt t 27 then[.nilf] else[.nilf])) else(bif Nat.blt t 30 then(bif Nat.blt t 29 then[.nilf] else[.nilf]) else(bif Nat.blt t 31 then[.nils] else(bif Nat.blt t 32 then[.d (.int .i64 0)] else[.nilf])))))) else(bif Nat.blt t 49 then(bif Nat.blt t 41 then(bif Nat.blt t 37 then(bif Nat.blt t 35 then(bif Nat.blt t 34 then[.nils] else[.d (.str ⟨#[]⟩),.d (.int .i64 0),.d (.int .i64 0),.nils,.nils]) else(bif Nat.blt t 36 then[.d (.str ⟨#[]⟩),.d (.int .i64 0),.d (.int .i64 0),.nils,.nils] else[.nilf])) else(bif Nat.blt t 39 then(bif Nat.blt t 38 then[.nilf] else[.nilf]) else(bif Nat.blt t 40 then[.nilf] else[.nilf]))) else(bif Nat.blt t 45 then(bif Nat.blt t 43 then(bif Nat.blt t 42 then[] else[.nilf]) else(bif Nat.blt t 44 then[.nilf] else[.nilf])) else(bif Nat.blt t 47 then(bif Nat.blt t 46 then[.nilf] else[.nilm]) else(bif Nat.blt t 48 then[.nilf] else[.nilf])))) else(bif Nat.blt t 57 then(bif Nat.blt t 53 then(bif Nat.blt t 51 then(bif Nat.blt t 50 then[.nilf] else[.nilf]) else(bif Nat.blt t 52 then[.nilf] else[.nils])) else(bif Nat.blt t 55 then(bif Nat.blt t 54 then[.nilf] else[.nilf]) else(bif Nat.blt t 56 then[.nilf] else[.nilf]))) else(bif Nat.blt t 61 then(bif Nat.blt t 59 then(bif Nat.blt t 58 then[.nilp] else[.nils,.d (.int .i64 0)]) else(bif Nat.blt t 60 then[.nils,.d (.int .i64 0)] else[.nilf])) else(bif Nat.blt t 63 then(bif Nat.blt t 62 then[.nilf] else[.nilf]) else(bif Nat.blt t 64 then[.nilp] else(bif Nat.blt t 65 then[.nilf] else[.nilm]))))))) else(bif Nat.blt t 99 then(bif Nat.blt t 82 then(bif Nat.blt t 74 then(bif Nat.blt t 70 then(bif Nat.blt t 68 then(bif Nat.blt t 67 then[.nilf] else[.nilf]) else(bif Nat.blt t 69 then[] else[.nilf])) else(bif Nat.blt t 72 then(bif Nat.blt t 71 then[.nilf] else[.nilf]) else(bif Nat.blt t 73 then[.nilf] else[.nilf]))) else(bif Nat.blt t 78 then(bif Nat.blt t 76 then(bif Nat.blt t 75 then[.nilf] else[.nilf]) else(bif Nat.blt t 77 then[.nilf] else[.nilf])) else(bif Nat.blt t 80 then(bif Nat.blt t 79 then[.nilf] else[.nilf]) else(bif Nat.blt t 81 then[.nilf] else[.nilf])))) else(bif Nat.blt t 90 then(bif Nat.blt t 86 then(bif Nat.blt t 84 then(bif Nat.blt t 83 then[.nilf] else[.nilf]) else(bif Nat.blt t 85 then[.nilf] else[.nilf])) else(bif Nat.blt t 88 then(bif Nat.blt t 87 then[.nilf] else[.nilf]) else(bif Nat.blt t 89 then[.nilf] else[.nilf]))) else(bif Nat.blt t 94 then(bif Nat.blt t 92 then(bif Nat.blt t 91 then[.nilf] else[.nilf]) else(bif Nat.blt t 93 then[.nilf] else[.nilf])) else(bif Nat.blt t 96 then(bif Nat.blt t 95 then[.d (.int .u64 0)] else[.nilf]) else(bif Nat.blt t 97 then[.d (.int .i64 0)] else(bif Nat.blt t 98 then[] else[.nilf])))))) else(bif Nat.blt t 116 then(bif Nat.blt t 107 then(bif Nat.blt t 103 then(bif Nat.blt t 101 then(bif Nat.blt t 100 then[.nilf] else[.nilf]) else(bif Nat.blt t 102 then[.nilf] else[])) else(bif Nat.blt t 105 then(bif Nat.blt t 104 then[.nilf] else[.nilf]) else(bif Nat.blt t 106 then[.d (.int .u32 0)] else[.nilf]))) else(bif Nat.blt t 111 then(bif Nat.blt t 109 then(bif Nat.blt t 108 then[.d (.int .u64 0)] else[.d (.int .u64 0)]) else(bif Nat.blt t 110 then[.nilf] else[.nilf])) else(bif Nat.blt t 113 then(bif Nat.blt t 112 then[.nilf] else[.nilp]) else(bif Nat.blt t 114 then[.nilf] else(bif Nat.blt t 115 then[.nilp] else[]))))) else(bif Nat.blt t 124 then(bif Nat.blt t 120 then(bif Nat.blt t 118 then(bif Nat.blt t 117 then[.nilf] else[.nilf]) else(bif Nat.blt t 119 then[.nilp,.nilp,.nilp,.d (.str ⟨#[]⟩)] else[.nilp,.nilp,.nilp,.d (.str ⟨#[]⟩)])) else(bif Nat.blt t 122 then(bif Nat.blt t 121 then[] else[]) else(bif Nat.blt t 123 then[] else[.nilf]))) else(bif Nat.blt t 128 then(bif Nat.blt t 126 then(bif Nat.blt t 125 then[.d (.int .u8 0)] else[.d (.int .u8 0)]) else(bif Nat.blt t 127 then[.nilf] else[.nilp])) else(bif Nat.blt t 130 then(bif Nat.blt t 129 then[.d (.int .i32 0)] else[.d (.int .i32 0)]) else(bif Nat.blt t 131 then[.d (.int .u64 0),.d (.int .u64 0),.d (.int .u32 0),.d (.int .u8 0),.d (.int .u8 0),.d (.int .u8 0),.d (.int .u8 0),.nilf,.nilp,.d (.int .i32 0),.d (.int .i32 0)] else(bif Nat.blt t 132 then[.d (.int .u64 0),.d (.int .u64 0),.d (.int .u32 0),.d (.int .u8 0),.d (.int .u8 0),.d (.int .u8 0),.d (.int .u8 0),.nilf,.nilp,.d (.int .i32 0),.d (.int .i32 0)] else[])))))))) else[]
def tip:FuncId→Option (List Int→List Int)
 | _=>none
def T:Ty:=⟨tk,tz,tb,t0,tip⟩
theorem qgW:(List.range 133).all (fun t=>decide (T.k t = .other)||Ty.okAt Try.prog T t)=true:=by kernel_rfl
theorem qe1 (t:Nat) (h:133≤t):T.k t = .other:=by
 have hb:Nat.blt t 133=false:=by
  cases h':Nat.blt t 133 with
  | false=>rfl
  | true=>exact absurd (Nat.le_of_ble_eq_true h') (by omega)
 show tk t = .other
 unfold tk
 rw[hb]
 rfl
theorem qjR:∀t,T.k t = .other∨Ty.okAt Try.prog T t=true:=fun t=>by
 rcases Nat.lt_or_ge t 133 with h|h
 ·have:=List.all_eq_true.1 qgW t (List.mem_range.2 h)
  simp only[Bool.or_eq_true,decide_eq_true_eq] at this
  exact this
 ·exact .inl (qe1 t h)
theorem qjd:∀g h,T.ip g=some h→qhT Try.prog g h:=by
 intro g h hg
 replace hg:tip g=some h:=hg
 unfold tip at hg
 cases hg
theorem qcW:Ag Try.prog T:=⟨qjR,qjd⟩
theorem k3:T.k 3 = .int .i64:=rfl
theorem k4:T.k 4 = .bool:=rfl
theorem k5:T.k 5 = .int .u8:=rfl
theorem k9:T.k 9 = .str:=rfl
theorem k22:T.k 22 = .sl 3:=rfl
theorem k25:T.k 25 = .sl 35:=rfl
theorem k33:T.k 33 = .sl 9:=rfl
theorem k35:T.k 35 = .st [(0,9),(1,3),(2,3),(3,22),(4,33)]:=rfl
theorem k46:T.k 46 = .mp 9 4:=rfl
theorem k52:T.k 52 = .sl 5:=rfl
theorem k65:T.k 65 = .mp 9 33:=rfl
theorem k81:T.k 81 = .fn:=rfl
theorem z3:T.sz 3=1:=rfl
theorem z5:T.sz 5=1:=rfl
theorem z9:T.sz 9=1:=rfl
theorem z22:T.sz 22=1:=rfl
theorem z23:T.sz 23=3:=rfl
theorem z24:T.sz 24=6:=rfl
theorem z26:T.sz 26=1:=rfl
theorem z28:T.sz 28=1:=rfl
theorem z31:T.sz 31=1:=rfl
theorem z33:T.sz 33=1:=rfl
theorem z35:T.sz 35=5:=rfl
theorem z46:T.sz 46=1:=rfl
theorem z51:T.sz 51=1:=rfl
theorem z53:T.sz 53=1:=rfl
theorem z65:T.sz 65=1:=rfl
theorem z81:T.sz 81=1:=rfl
theorem z131:T.sz 131=11:=rfl
theorem b3:T.by_ 3=8:=rfl
theorem b9:T.by_ 9=16:=rfl
theorem b35:T.by_ 35=80:=rfl
theorem o3:T.zero 3=[.d (.int .i64 0)]:=rfl
theorem o4:T.zero 4=[.d (.bool false)]:=rfl
theorem o9:T.zero 9=[.d (.str ⟨#[]⟩)]:=rfl
theorem o33:T.zero 33=[.nils]:=rfl
theorem o35:T.zero 35=[.d (.str ⟨#[]⟩),.d (.int .i64 0),.d (.int .i64 0),.nils,.nils]:=rfl
theorem o46:T.zero 46=[.nilm]:=rfl
theorem o65:T.zero 65=[.nilm]:=rfl
theorem o81:T.zero 81=[.nilf]:=rfl
end Go.Proofs.Ytcdegieiflmaeaa.Vc
namespace Go.Proofs.Ytcdegieiflmaeaa.Vc
open Go.Shelf Go.RowKit Go.Sort
set_option maxHeartbeats 4000000 in
set_option maxRecDepth 1000000 in
theorem qgL (b n cap i j:Nat) (cur:Array Value) (w:World) (hb:w.heap[b]?=some (.cells cur 35 (0,0))) (hn:n≤cap) (hm:cap≤9223372036854775807) (hz:cur.size=cap*5) (hi:i<n) (hj:Hid (j=i+1)) (hone:∀u∈cur.toList.take (n*5),u.oneCell'=true) :
  Calls Try.prog 51 #[.slice (some ⟨b,0,none⟩) n cap,.int .i64 i,.int .i64 j] w fun e w'=>e = .returned (.slice (some ⟨b,0,none⟩) (n-1) cap)∧w.grownBy w' (some b)∧
   ∃cur':Array Value,w'.heap[b]?=some (.cells cur' 35 (0,0))∧cur'.size=cur.size∧cur'.toList.take ((n-1)*5)=cur.toList.take (i*5)++(cur.toList.drop (j*5)).take ((n-j)*5):=by
 have mixed:Try.prog.follows .mixedOrders=true:=by kernel_rfl
 have hic:i≤cap:=by omega
 have hij:i<j:=by have:=hj.out;omega
 have hjn:j≤n:=by have:=hj.out;omega
 have hjc:j≤cap:=by omega
 obtain⟨i0,hi0,hz1⟩:∃i0,Try.prog.info? 35=some i0∧i0.size=5:=by
  obtain⟨d,i0,z,ht⟩:=qcW.at_ (t:=35) (by rw[k35];simp)
  exact⟨i0,ht.info,ht.sz.trans z35⟩
 obtain⟨news,hnews⟩:∃news,news=(cur.toList.drop (j*5)).take ((n-j)*5):=⟨_,rfl⟩
 have hcl:cur.toList.length=cap*5:=by simpa using hz
 have hlen:news.length=(n-j)*5:=by rw[hnews,List.length_take,List.length_drop,hcl];omega
 have hmem:∀u∈news,u∈cur.toList.take (n*5):=fun u hu=>by rw[hnews,show(n-j)*5=n*5-j*5 by omega,←List.drop_take] at hu;exact List.mem_of_mem_drop hu
 have hcell:∀k,k<cap*5→w.cell? ⟨b,k,none⟩=cur.toList[k]?:=fun k hk=>by
  have:k<cur.size:=by omega
  simp[World.cell?,hb]
 have hfz:∀k,w.frozen? ⟨b,k,none⟩=false:=fun k=>by simp[World.frozen?,hb]
 obtain⟨A,hA,hsrc⟩:∃A:Addr,(if cap=j then some (⟨b,0,none⟩:Addr) else some ⟨b,j*5,none⟩)=some A∧Hid (∀t u,news[t]?=some u→w.drew.cell? (A.add t)=some u):=by
  by_cases h:cap=j
  ·refine⟨⟨b,0,none⟩,by simp[h],fun t u hu=>?_⟩
   have h0:news.length=0:=by rw[hlen];omega
   rw[List.length_eq_zero_iff.1 h0] at hu
   simp at hu
  ·refine⟨⟨b,j*5,none⟩,by simp[h],fun t u hu=>?_⟩
   have ht:t<(n-j)*5:=by
    have:=(List.getElem?_eq_some_iff.1 hu).1
    rwa [hlen] at this
   rw[hnews,List.getElem?_take_of_lt ht,List.getElem?_drop] at hu
   rw[Addr.add_lit]
   exact(hcell _ (by omega)).trans hu
 have s1:Hid (news.length=(n-j)*5):=hlen
 have s2:Hid (∀u∈news,u.oneCell'=true):=fun u hu=>hone u (hmem u hu)
 have s3:Hid (∀t,t<news.length→(w.drew.cell? ⟨b,0+i*5+t,none⟩).isSome=true∧w.drew.frozen? ⟨b,0+i*5+t,none⟩=false):=by
  intro t ht
  rw[hlen] at ht
  have:=hj.out
  refine⟨?_,hfz _⟩
  show(w.cell? _).isSome=true
  rw[hcell _ (by omega),List.getElem?_eq_getElem (by omega)];rfl
 obtain⟨W1,hW1⟩:∃W1,W1=w.drew.setCells b (0+i*5) news:=⟨_,rfl⟩
 have hW:Hid (W1=w.drew.setCells b (0+i*5) news):=hW1
 obtain⟨z,zs,hv,hzz,hz2,hz3⟩:∃(z:Value) (zs:List Value),(∀w,(zeroValue 35).run Try.prog w = .ok z w)∧z.cells.toList=zs∧zs.length=5∧∀u∈zs,u.oneCell'=true:=⟨_,_,Try.zeroValue35,rfl,by kernel_rfl,fun u hu=>by simp[Value.cells] at hu;rcases hu with rfl|rfl|rfl|rfl|rfl<;>rfl⟩
 obtain⟨hg1,c1,hc1,hc2,hc3⟩:=JT (e:=35) news (0+i*5) w.drew cur hb (by rw[hlen];have:=hj.out;omega)
 rw[←hW1] at hg1 hc1
 obtain⟨hg2,c2,hd1,hd2,hd3⟩:=JT (e:=35) zs ((i+(n-j))*5) W1 c1 hc1 (by rw[hz2,hc2];have:=hj.out;omega)
 have hfin:Hid (w.grownBy (W1.setCells b ((i+(n-j))*5) zs) (some b)∧∃cur':Array Value,(W1.setCells b ((i+(n-j))*5) zs).heap[b]?=some (.cells cur' 35 (0,0))∧cur'.size=cur.size∧cur'.toList.take ((n-1)*5)=cur.toList.take (i*5)++(cur.toList.drop (j*5)).take ((n-j)*5)):=by
  have hjo:=hj.out
  refine⟨⟨hg2.os.trans hg1.os,hg2.tape.trans hg1.tape,hg2.output.trans hg1.output,Nat.le_trans hg1.size hg2.size,fun k hk hn=>(hg2.block k (Nat.lt_of_lt_of_le hk hg1.size) hn).trans (hg1.block k hk hn)⟩,c2,hd1,hd2.trans hc2,?_⟩
  rw[←hnews]
  apply List.ext_getElem?
  intro k
  rcases Nat.lt_or_ge k ((n-1)*5) with hk|hk
  ·rw[List.getElem?_take_of_lt hk,Array.getElem?_toList,hd3 k,if_pos (.inl (by omega)),hc3 k]
   by_cases hki:k<i*5
   ·rw[if_pos (.inl (by omega)),List.getElem?_append_left (by rw[List.length_take,hcl];omega),List.getElem?_take_of_lt hki,Array.getElem?_toList]
   ·rw[if_neg (by rw[hlen];omega),List.getElem?_append_right (by rw[List.length_take,hcl];omega),List.length_take,hcl,Nat.min_eq_left (by omega)]
    congr 1;omega
  ·rw[List.getElem?_eq_none (by rw[List.length_take];omega),List.getElem?_eq_none (by rw[List.length_append,List.length_take,hcl,hlen];omega)]
 have hclr:∀ty,(Builtin.clear_ #[25] ty #[.slice (some ⟨b,(i+(n-j))*5,none⟩) (n-(i+(n-j))) (cap-(i+(n-j)))]).run Try.prog W1 = .ok (.tuple #[]) (W1.setCells b ((i+(n-j))*5) zs):=fun ty=>by
  have hjo:=hj.out
  rw[show n-(i+(n-j))=1 by omega]
  refine q66 W1 25 35 ty z zs Try.underlying25 hv hzz hz3 b _ _ (fun k hk=>?_) (fun k _=>by simp[World.frozen?,hc1]) (by omega)
  have:(i+(n-j))*5+k<c1.size:=by rw[hc2];omega
  simp[World.cell?,hc1,this]
 have hout:Hid (i+(n-j)=n-1):=by have:=hj.out;show i+(n-j)=n-1;omega
 clear hW1 hnews hlen hmem hcell hfz hone hv hzz hz2 hz3 hcl hg1 hc1 hc2 hc3 hg2 hd1 hd2 hd3
 go_enter Try.func51,Try.ntmps51
 go_wp2_with fail
 go_region_law_o (refine step_append_room rfl (.tmp 22) (.tmp 25) 25 rfl 35 i0 5 Try.underlying25 hi0 hz1 b 0 i cap (by simp[Act.eval,Act.put]) A (n-j) (cap-j) news (by simp[Act.eval,Act.put]) s1.out hsrc.out s2.out (by omega) s3.out ?_;rw[←hW.out])
 go_wp2
 go_ret
 exact⟨by rw[←hout.out];rfl,hfin.out⟩
def q4p:Go.Shelf.Ren:=⟨fun | 190=>73 | 125=>77 | 258=>76 | 128=>87 | 129=>88 | 302=>78 | 303=>79 | 304=>80 | 305=>81 | 306=>82 | 307=>83 | 308=>84 | 309=>85 | 310=>86 | 333=>89 | 329=>90 | 330=>91 | 334=>92 | 335=>93 | 336=>94 | 344=>95|n=>n,fun | 31=>33 | 9=>9 | 3=>3 | 46=>94 | 0=>0 | 51=>105 | 53=>107 | 4=>4 | 183=>97 | 182=>96 | 131=>102 | 5=>5 | 218=>108 | 222=>112 | 228=>114 | 229=>115|n=>n,fun|n=>n⟩
theorem q8Y:Go.Proofs.Lays.n190 Try.prog q4p:={
 mixed:=by kernel_rfl
 f125:=Try.func77.trans (congrArg some (by kernel_rfl))
 f128:=Try.func87.trans (congrArg some (by kernel_rfl))
 f129:=Try.func88.trans (congrArg some (by kernel_rfl))
 f190:=Try.func73.trans (congrArg some (by kernel_rfl))
 f258:=Try.func76.trans (congrArg some (by kernel_rfl))
 f302:=Try.func78.trans (congrArg some (by kernel_rfl))
 f303:=Try.func79.trans (congrArg some (by kernel_rfl))
 f304:=Try.func80.trans (congrArg some (by kernel_rfl))
 f305:=Try.func81.trans (congrArg some (by kernel_rfl))
 f306:=Try.func82.trans (congrArg some (by kernel_rfl))
 f307:=Try.func83.trans (congrArg some (by kernel_rfl))
 f308:=Try.func84.trans (congrArg some (by kernel_rfl))
 f309:=Try.func85.trans (congrArg some (by kernel_rfl))
 f310:=Try.func86.trans (congrArg some (by kernel_rfl))
 f329:=Try.func90.trans (congrArg some (by kernel_rfl))
 f330:=Try.func91.trans (congrArg some (by kernel_rfl))
 f333:=Try.func89.trans (congrArg some (by kernel_rfl))
 f334:=Try.func92.trans (congrArg some (by kernel_rfl))
 f335:=Try.func93.trans (congrArg some (by kernel_rfl))
 f336:=Try.func94.trans (congrArg some (by kernel_rfl))
 f344:=Try.func95.trans (congrArg some (by kernel_rfl))
 t0:=Try.underlying0
 a0:=Try.isAgg0
 z0:=Try.sizeOf0
 v0:=Try.zeroValue0
 t3:=Try.underlying3
 a3:=Try.isAgg3
 z3:=Try.sizeOf3
 v3:=Try.zeroValue3
 t4:=Try.underlying4
 a4:=Try.isAgg4
 z4:=Try.sizeOf4
 v4:=Try.zeroValue4
 t5:=Try.underlying5
 a5:=Try.isAgg5
 z5:=Try.sizeOf5
 v5:=Try.zeroValue5
 t9:=Try.underlying9
 a9:=Try.isAgg9
 z9:=Try.sizeOf9
 v9:=Try.zeroValue9
 t31:=Try.underlying33
 a31:=Try.isAgg33
 z31:=Try.sizeOf33
 v31:=Try.zeroValue33
 t46:=Try.underlying94
 a46:=Try.isAgg94
 z46:=Try.sizeOf94
 v46:=Try.zeroValue94
 t51:=Try.underlying105
 a51:=Try.isAgg105
 z51:=Try.sizeOf105
 v51:=Try.zeroValue105
 t53:=Try.underlying107
 a53:=Try.isAgg107
 z53:=Try.sizeOf107
 v53:=Try.zeroValue107
 t131:=Try.underlying102
 a131:=Try.isAgg102
 z131:=Try.sizeOf102
 v131:=Try.zeroValue102
 t182:=Try.underlying96
 a182:=Try.isAgg96
 z182:=Try.sizeOf96
 v182:=Try.zeroValue96
 t183:=Try.underlying97
 a183:=Try.isAgg97
 z183:=Try.sizeOf97
 v183:=Try.zeroValue97
 t218:=Try.underlying108
 a218:=Try.isAgg108
 z218:=Try.sizeOf108
 v218:=Try.zeroValue108
 t222:=Try.underlying112
 a222:=Try.isAgg112
 z222:=Try.sizeOf112
 v222:=Try.zeroValue112
 t228:=Try.underlying114
 a228:=Try.isAgg114
 z228:=Try.sizeOf114
 v228:=Try.zeroValue114
 t229:=Try.underlying115
 a229:=Try.isAgg115
 z229:=Try.sizeOf115
 v229:=Try.zeroValue115 }
def skr:Go.Shelf.Ren:=⟨fun | 6=>64 | 8=>72 | 9=>73 | 10=>74 | 11=>75|n=>n,fun | 3=>4 | 4=>4 | 23=>46 | 24=>33 | 26=>9 | 28=>84 | 33=>36|n=>n,fun n=>n⟩
theorem sk6:SlLaysZ.n6 Try.prog skr:={
 mixed:=by kernel_rfl
 f6:=⟨Try.f64.name,by kernel_rfl,Try.func64.trans (congrArg some (by kernel_rfl))⟩
 f8:=⟨Try.f72.name,by kernel_rfl,Try.func72.trans (congrArg some (by kernel_rfl))⟩
 f11:=⟨Try.f75.name,by kernel_rfl,Try.func75.trans (congrArg some (by kernel_rfl))⟩
 t0:=Try.underlying0
 a0:=Try.isAgg0
 z0:=Try.sizeOf0
 v0:=Try.zeroValue0
 t24:=Try.underlying33
 a24:=Try.isAgg33
 z24:=Try.sizeOf33
 v24:=Try.zeroValue33
 t26:=Try.underlying9
 a26:=Try.isAgg9
 z26:=Try.sizeOf9
 v26:=Try.zeroValue9
 t28:=Try.underlying84
 a28:=Try.isAgg84
 z28:=Try.sizeOf84
 v28:=Try.zeroValue84
 i26:=by kernel_rfl }
theorem qjF:SlLaysZ.n10 Try.prog skr:={
 mixed:=by kernel_rfl
 f10:=⟨Try.f74.name,by kernel_rfl,Try.func74.trans (congrArg some (by kernel_rfl))⟩
 t0:=Try.underlying0
 a0:=Try.isAgg0
 z0:=Try.sizeOf0
 v0:=Try.zeroValue0
 t4:=Try.underlying4
 a4:=Try.isAgg4
 z4:=Try.sizeOf4
 v4:=Try.zeroValue4
 t23:=Try.underlying46
 a23:=Try.isAgg46
 z23:=Try.sizeOf46
 v23:=Try.zeroValue46
 t26:=Try.underlying9
 a26:=Try.isAgg9
 z26:=Try.sizeOf9
 v26:=Try.zeroValue9
 t33:=Try.underlying36
 a33:=Try.isAgg36
 z33:=Try.sizeOf36
 v33:=Try.zeroValue36 }
end Go.Proofs.Ytcdegieiflmaeaa.Vc
namespace Go.Proofs.Ytcdegieiflmaeaa.Vc
open Go.RowKit
def pq (t:TypeId):List Nat:=bif Nat.blt t 60 then(bif Nat.blt t 30 then(bif Nat.blt t 15 then[] else(bif Nat.blt t 22 then[] else(bif Nat.blt t 26 then(bif Nat.blt t 24 then(bif Nat.blt t 23 then[1] else[]) else(bif Nat.blt t 25 then[] else[5])) else[]))) else(bif Nat.blt t 45 then(bif Nat.blt t 37 then(bif Nat.blt t 33 then(bif Nat.blt t 31 then[1] else[]) else(bif Nat.blt t 35 then(bif Nat.blt t 34 then[1] else[0,0,0,1,1]) else(bif Nat.blt t 36 then[0,0,0,1,1] else[]))) else[]) else(bif Nat.blt t 52 then[] else(bif Nat.blt t 56 then(bif Nat.blt t 54 then(bif Nat.blt t 53 then[1] else[]) else[]) else(bif Nat.blt t 58 then[] else(bif Nat.blt t 59 then[1,0] else[1,0])))))) else[]
def pow (t:FuncId):List Nat:=bif Nat.blt t 52 then(bif Nat.blt t 26 then[] else(bif Nat.blt t 39 then[] else(bif Nat.blt t 45 then[] else(bif Nat.blt t 48 then[] else(bif Nat.blt t 50 then[] else(bif Nat.blt t 51 then[] else[0])))))) else[]
def pfz (f:FuncId):Bool:=([9,10,11,12,17,18,19,20,21,23,24,31,32,33,34,36,39,43,53,64,65,72,75]:List Nat).contains f
def pro (f:FuncId):Bool:=([33,36,47]:List Nat).contains f
def pkp (t:FuncId) (k:Nat):List Nat:=bif Nat.blt t 90 then(bif Nat.blt t 45 then(bif Nat.blt t 22 then(bif Nat.blt t 11 then(bif Nat.blt t 5 then(bif Nat.blt t 2 then[] else(bif Nat.blt t 3 then[] else(bif Nat.blt t 4 then(bif Nat.blt k 12 then(bif Nat.blt k 6 then[] else(bif Nat.blt k 9 then(bif Nat.blt k 7 then[7,8,34,35,36] else[]) else(bif Nat.blt k 10 then[] else(bif Nat.blt k 11 then[] else[7,8,34,35,36,45,46,47])))) else[]) else(bif Nat.blt k 24 then(bif Nat.blt k 12 then(bif Nat.blt k 6 then(bif Nat.blt k 3 then[] else(bif Nat.blt k 4 then[] else(bif Nat.blt k 5 then[] else[7,37,38,39]))) else(bif Nat.blt k 9 then[] else(bif Nat.blt k 10 then[] else(bif Nat.blt k 11 then[] else[7,11,12,13,37,38,39])))) else(bif Nat.blt k 18 then(bif Nat.blt k 15 then[] else(bif Nat.blt k 16 then[7,11,12,37,38,39,70,71,72] else[])) else(bif Nat.blt k 21 then[] else(bif Nat.blt k 22 then[] else(bif Nat.blt k 23 then[] else[7,11,12,18,21,37,38,39,70,71,72]))))) else[])))) else(bif Nat.blt t 8 then(bif Nat.blt t 6 then(bif Nat.blt k 14 then(bif Nat.blt k 7 then[] else(bif Nat.blt k 10 then(bif Nat.blt k 8 then[] else(bif Nat.blt k 9 then[3,4,5,6,22,23,24] else[])) else(bif Nat.blt k 12 then[] else(bif Nat.blt k 13 then[] else[3,4,5,6,7,8,22,23,24,41,42,43])))) else[]) else(bif Nat.blt t 7 then(bif Nat.blt k 21 then(bif Nat.blt k 10 then(bif Nat.blt k 5 then[] else(bif Nat.blt k 7 then(bif Nat.blt k 6 then[5,32,33,34] else[]) else(bif Nat.blt k 8 then[] else(bif Nat.blt k 9 then[5,9,32,33,34,38,39,40] else[])))) else(bif Nat.blt k 15 then[] else(bif Nat.blt k 18 then(bif Nat.blt k 16 then[] else(bif Nat.blt k 17 then[5,9,12,15,32,33,34,38,39,40,70,71,72] else[])) else(bif Nat.blt k 19 then[] else(bif Nat.blt k 20 then[] else[5,9,12,15,32,33,34,38,39,40,70,71,72,81,82,83]))))) else[]) else[])) else(bif Nat.blt t 9 then[] else(bif Nat.blt t 10 then(bif Nat.blt k 4 then(bif Nat.blt k 2 then[] else(bif Nat.blt k 3 then[] else[0,3,4])) else[]) else(bif Nat.blt k 17 then(bif Nat.blt k 8 then(bif Nat.blt k 4 then[] else(bif Nat.blt k 6 then(bif Nat.blt k 5 then[] else[3,4,5,6]) else[])) else(bif Nat.blt k 12 then(bif Nat.blt k 10 then[] else(bif Nat.blt k 11 then[3,4,5,6,7,8] else[])) else(bif Nat.blt k 14 then[] else(bif Nat.blt k 15 then[] else(bif Nat.blt k 16 then[] else[3,4,5,6,7,9]))))) else[]))))) else(bif Nat.blt t 16 then(bif Nat.blt t 13 then(bif Nat.blt t 12 then(bif Nat.blt k 34 then(bif Nat.blt k 17 then(bif Nat.blt k 8 then(bif Nat.blt k 4 then(bif Nat.blt k 2 then[] else(bif Nat.blt k 3 then[] else[0,3,5,6])) else[]) else[]) else(bif Nat.blt k 25 then[] else(bif Nat.blt k 29 then[] else(bif Nat.blt k 31 then[] else(bif Nat.blt k 32 then[] else(bif Nat.blt k 33 then[] else[5,7])))))) else[]) else(bif Nat.blt k 24 then(bif Nat.blt k 12 then(bif Nat.blt k 6 then(bif Nat.blt k 3 then[] else(bif Nat.blt k 4 then[] else(bif Nat.blt k 5 then[0,13,14,15] else[]))) else[]) else(bif Nat.blt k 18 then[] else(bif Nat.blt k 21 then(bif Nat.blt k 19 then[6,62] else[]) else(bif Nat.blt k 22 then[] else(bif Nat.blt k 23 then[] else[6,71]))))) else[])) else(bif Nat.blt t 14 then(bif Nat.blt k 27 then(bif Nat.blt k 13 then(bif Nat.blt k 6 then(bif Nat.blt k 3 then[] else(bif Nat.blt k 4 then[] else(bif Nat.blt k 5 then[0,3] else[]))) else[]) else(bif Nat.blt k 20 then(bif Nat.blt k 16 then[] else(bif Nat.blt k 18 then(bif Nat.blt k 17 then[] else[0,6]) else[])) else(bif Nat.blt k 23 then(bif Nat.blt k 21 then[0,6,7] else[]) else(bif Nat.blt k 25 then[] else(bif Nat.blt k 26 then[] else[0,10]))))) else[]) else(bif Nat.blt t 15 then[] else(bif Nat.blt k 3 then(bif Nat.blt k 1 then[] else(bif Nat.blt k 2 then[] else[0,3])) else[])))) else(bif Nat.blt t 19 then(bif Nat.blt t 17 then(bif Nat.blt k 5 then(bif Nat.blt k 2 then[] else(bif Nat.blt k 3 then[] else(bif Nat.blt k 4 then[] else[0,1,5]))) else[]) else(bif Nat.blt t 18 then(bif Nat.blt k 6 then(bif Nat.blt k 3 then[] else(bif Nat.blt k 4 then[] else(bif Nat.blt k 5 then[] else[3,4]))) else[]) else(bif Nat.blt k 7 then(bif Nat.blt k 3 then[] else(bif Nat.blt k 5 then(bif Nat.blt k 4 then[] else[0,3]) else(bif Nat.blt k 6 then[] else[0,3,4]))) else[]))) else(bif Nat.blt t 20 then[] else(bif Nat.blt t 21 then[] else(bif Nat.blt k 3 then(bif Nat.blt k 1 then[] else(bif Nat.blt k 2 then[] else[0,1,4,6])) else[])))))) else(bif Nat.blt t 33 then(bif Nat.blt t 27 then(bif Nat.blt t 24 then[] else(bif Nat.blt t 25 then(bif Nat.blt k 8 then(bif Nat.blt k 4 then[] else(bif Nat.blt k 6 then(bif Nat.blt k 5 then[0,5,8] else[]) else(bif Nat.blt k 7 then[] else[0,5,8,9,10]))) else[]) else(bif Nat.blt t 26 then[] else(bif Nat.blt k 4 then(bif Nat.blt k 2 then[] else(bif Nat.blt k 3 then[] else[2,7,8,9])) else[])))) else(bif Nat.blt t 30 then(bif Nat.blt t 28 then[] else(bif Nat.blt t 29 then(bif Nat.blt k 6 then(bif Nat.blt k 3 then(bif Nat.blt k 1 then[] else(bif Nat.blt k 2 then[] else[2,3,5])) else(bif Nat.blt k 4 then[] else(bif Nat.blt k 5 then[] else[2,3,5,6]))) else[]) else(bif Nat.blt k 3 then(bif Nat.blt k 1 then[] else(bif Nat.blt k 2 then[] else[0,3])) else[]))) else(bif Nat.blt t 31 then(bif Nat.blt k 3 then(bif Nat.blt k 1 then[] else(bif Nat.blt k 2 then[] else[0,1,5])) else[]) else(bif Nat.blt t 32 then(bif Nat.blt k 5 then(bif Nat.blt k 2 then[] else(bif Nat.blt k 3 then[] else(bif Nat.blt k 4 then[] else[0,1,5]))) else[]) else(bif Nat.blt k 4 then(bif Nat.blt k 2 then[] else(bif Nat.blt k 3 then[] else[0,2,3,4])) else[]))))) else(bif Nat.blt t 39 then(bif Nat.blt t 36 then(bif Nat.blt t 34 then[] else(bif Nat.blt t 35 then(bif Nat.blt k 4 then(bif Nat.blt k 2 then[] else(bif Nat.blt k 3 then[] else[0,3,4])) else[]) else[])) else[]) else(bif Nat.blt t 42 then(bif Nat.blt t 40 then(bif Nat.blt k 4 then(bif Nat.blt k 2 then[] else(bif Nat.blt k 3 then[] else[3,9,10,11])) else[]) else[]) else(bif Nat.blt t 43 then[] else(bif Nat.blt t 44 then[] else(bif Nat.blt k 10 then(bif Nat.blt k 5 then(bif Nat.blt k 2 then[] else(bif Nat.blt k 3 then[] else(bif Nat.blt k 4 then[] else[1,3]))) else(bif Nat.blt k 7 then[] else(bif Nat.blt k 8 then[] else(bif Nat.blt k 9 then[] else[1,4])))) else[]))))))) else(bif Nat.blt t 67 then(bif Nat.blt t 56 then(bif Nat.blt t 50 then(bif Nat.blt t 47 then[] else(bif Nat.blt t 48 then[] else(bif Nat.blt t 49 then(bif Nat.blt k 3 then(bif Nat.blt k 1 then[] else(bif Nat.blt k 2 then[] else[0,1,7,8])) else[]) else[]))) else(bif Nat.blt t 53 then[] else(bif Nat.blt t 54 then[] else(bif Nat.blt t 55 then(bif Nat.blt k 5 then(bif Nat.blt k 2 then[] else(bif Nat.blt k 3 then[] else(bif Nat.blt k 4 then[] else[0,1,5]))) else[]) else[])))) else(bif Nat.blt t 61 then(bif Nat.blt t 58 then[] else(bif Nat.blt t 59 then[] else(bif Nat.blt t 60 then(bif Nat.blt k 3 then(bif Nat.blt k 1 then[] else(bif Nat.blt k 2 then[] else[0,3])) else[]) else(bif Nat.blt k 3 then(bif Nat.blt k 1 then[] else(bif Nat.blt k 2 then[] else[0,3])) else[])))) else(bif Nat.blt t 64 then(bif Nat.blt t 62 then(bif Nat.blt k 3 then(bif Nat.blt k 1 then[] else(bif Nat.blt k 2 then[] else[0,1,7,8])) else[]) else(bif Nat.blt t 63 then(bif Nat.blt k 3 then(bif Nat.blt k 1 then[] else(bif Nat.blt k 2 then[] else[0,1,7,8])) else[]) else(bif Nat.blt k 2 then(bif Nat.blt k 1 then[] else[2,3,9,10,11]) else[]))) else(bif Nat.blt t 65 then[] else(bif Nat.blt t 66 then[] else(bif Nat.blt k 3 then(bif Nat.blt k 1 then[] else(bif Nat.blt k 2 then[] else[1,2,10])) else[])))))) else(bif Nat.blt t 78 then(bif Nat.blt t 72 then(bif Nat.blt t 69 then[] else(bif Nat.blt t 70 then[] else(bif Nat.blt t 71 then(bif Nat.blt k 3 then(bif Nat.blt k 1 then[] else(bif Nat.blt k 2 then[] else[0,1,7,8])) else[]) else(bif Nat.blt k 3 then(bif Nat.blt k 1 then[] else(bif Nat.blt k 2 then[] else[0,1,7,8])) else[])))) else(bif Nat.blt t 75 then(bif Nat.blt t 73 then[] else(bif Nat.blt t 74 then[] else(bif Nat.blt k 2 then(bif Nat.blt k 1 then[] else[0,5]) else[]))) else(bif Nat.blt t 76 then[] else(bif Nat.blt t 77 then(bif Nat.blt k 3 then(bif Nat.blt k 1 then[] else(bif Nat.blt k 2 then[] else[0,1,2,3,8,9])) else[]) else[])))) else(bif Nat.blt t 84 then(bif Nat.blt t 81 then(bif Nat.blt t 79 then(bif Nat.blt k 5 then(bif Nat.blt k 2 then(bif Nat.blt k 1 then[] else[0,1,2,6]) else(bif Nat.blt k 3 then[] else(bif Nat.blt k 4 then[] else[0,1,2,6,7]))) else[]) else(bif Nat.blt t 80 then(bif Nat.blt k 9 then(bif Nat.blt k 4 then[] else(bif Nat.blt k 6 then(bif Nat.blt k 5 then[0,6,7,8,9] else[]) else(bif Nat.blt k 7 then[] else(bif Nat.blt k 8 then[] else[0,6,7,10])))) else[]) else(bif Nat.blt k 6 then(bif Nat.blt k 3 then[] else(bif Nat.blt k 4 then[] else(bif Nat.blt k 5 then[] else[0,1,6,7,8,9]))) else[]))) else(bif Nat.blt t 82 then[] else(bif Nat.blt t 83 then(bif Nat.blt k 3 then(bif Nat.blt k 1 then[] else(bif Nat.blt k 2 then[] else[0,6,7])) else[]) else(bif Nat.blt k 21 then(bif Nat.blt k 10 then(bif Nat.blt k 5 then(bif Nat.blt k 2 then[] else(bif Nat.blt k 3 then[] else(bif Nat.blt k 4 then[0,1,2,7,8] else[]))) else(bif Nat.blt k 7 then(bif Nat.blt k 6 then[0,1,2,7,8] else[]) else[])) else(bif Nat.blt k 15 then(bif Nat.blt k 12 then[] else(bif Nat.blt k 13 then[] else(bif Nat.blt k 14 then[] else[0,1,2,7,8,9]))) else(bif Nat.blt k 18 then[] else(bif Nat.blt k 19 then[] else(bif Nat.blt k 20 then[] else[0,1,2,7,8,10]))))) else[])))) else(bif Nat.blt t 87 then(bif Nat.blt t 85 then[] else(bif Nat.blt t 86 then(bif Nat.blt k 6 then(bif Nat.blt k 3 then[] else(bif Nat.blt k 4 then[0,1,9,10] else(bif Nat.blt k 5 then[] else[0,1,9,10]))) else[]) else(bif Nat.blt k 16 then(bif Nat.blt k 8 then(bif Nat.blt k 4 then(bif Nat.blt k 2 then[] else(bif Nat.blt k 3 then[] else[0,1,10,11])) else(bif Nat.blt k 6 then(bif Nat.blt k 5 then[] else[0,1,10,11]) else[])) else(bif Nat.blt k 12 then[] else(bif Nat.blt k 14 then(bif Nat.blt k 13 then[] else[0,1,10,11]) else(bif Nat.blt k 15 then[] else[0,1,10,11])))) else[]))) else(bif Nat.blt t 88 then[] else(bif Nat.blt t 89 then[] else(bif Nat.blt k 2 then(bif Nat.blt k 1 then[] else[0,2,3,8]) else[])))))))) else[]
def pkx (t:FuncId) (k:Nat):List Nat:=bif Nat.blt t 90 then(bif Nat.blt t 45 then(bif Nat.blt t 22 then(bif Nat.blt t 11 then(bif Nat.blt t 5 then(bif Nat.blt t 2 then[] else(bif Nat.blt t 3 then[] else(bif Nat.blt t 4 then(bif Nat.blt k 12 then(bif Nat.blt k 6 then[] else(bif Nat.blt k 9 then(bif Nat.blt k 7 then[6,7,8] else[]) else(bif Nat.blt k 10 then[] else(bif Nat.blt k 11 then[] else[6,7,8,34,35,36])))) else[]) else(bif Nat.blt k 24 then(bif Nat.blt k 12 then(bif Nat.blt k 6 then(bif Nat.blt k 3 then[] else(bif Nat.blt k 4 then[] else(bif Nat.blt k 5 then[] else[6,7]))) else(bif Nat.blt k 9 then[] else(bif Nat.blt k 10 then[] else(bif Nat.blt k 11 then[] else[7,11,12,37,38,39])))) else(bif Nat.blt k 18 then(bif Nat.blt k 15 then[] else(bif Nat.blt k 16 then[6,7,37,38,39] else[])) else(bif Nat.blt k 21 then[] else(bif Nat.blt k 22 then[] else(bif Nat.blt k 23 then[] else[6,7,11,12,37,38,39,70,71,72]))))) else[])))) else(bif Nat.blt t 8 then(bif Nat.blt t 6 then(bif Nat.blt k 14 then(bif Nat.blt k 7 then[] else(bif Nat.blt k 10 then(bif Nat.blt k 8 then[] else(bif Nat.blt k 9 then[2,3] else[])) else(bif Nat.blt k 12 then[] else(bif Nat.blt k 13 then[] else[2,3,4,5,6,8,22,23,24])))) else[]) else(bif Nat.blt t 7 then(bif Nat.blt k 21 then(bif Nat.blt k 10 then(bif Nat.blt k 5 then[] else(bif Nat.blt k 7 then(bif Nat.blt k 6 then[4,5] else[]) else(bif Nat.blt k 8 then[] else(bif Nat.blt k 9 then[4,5,32,33,34] else[])))) else(bif Nat.blt k 15 then[] else(bif Nat.blt k 18 then(bif Nat.blt k 16 then[] else(bif Nat.blt k 17 then[5,9,12,15,32,33,34,38,39,40] else[])) else(bif Nat.blt k 19 then[] else(bif Nat.blt k 20 then[] else[5,9,12,15,32,33,34,38,39,40,70,71,72]))))) else[]) else[])) else(bif Nat.blt t 9 then[] else(bif Nat.blt t 10 then(bif Nat.blt k 4 then(bif Nat.blt k 2 then[] else(bif Nat.blt k 3 then[] else[3])) else[]) else(bif Nat.blt k 17 then(bif Nat.blt k 8 then(bif Nat.blt k 4 then[] else(bif Nat.blt k 6 then(bif Nat.blt k 5 then[] else[4]) else[])) else(bif Nat.blt k 12 then(bif Nat.blt k 10 then[] else(bif Nat.blt k 11 then[3,4,5,6,7] else[])) else(bif Nat.blt k 14 then[] else(bif Nat.blt k 15 then[] else(bif Nat.blt k 16 then[] else[3,4,5,6,7]))))) else[]))))) else(bif Nat.blt t 16 then(bif Nat.blt t 13 then(bif Nat.blt t 12 then(bif Nat.blt k 34 then(bif Nat.blt k 17 then(bif Nat.blt k 8 then(bif Nat.blt k 4 then(bif Nat.blt k 2 then[] else(bif Nat.blt k 3 then[] else[3,5])) else[]) else[]) else(bif Nat.blt k 25 then[] else(bif Nat.blt k 29 then[] else(bif Nat.blt k 31 then[] else(bif Nat.blt k 32 then[] else(bif Nat.blt k 33 then[] else[5])))))) else[]) else(bif Nat.blt k 24 then(bif Nat.blt k 12 then(bif Nat.blt k 6 then(bif Nat.blt k 3 then[] else(bif Nat.blt k 4 then[] else(bif Nat.blt k 5 then[0,2] else[]))) else[]) else(bif Nat.blt k 18 then[] else(bif Nat.blt k 21 then(bif Nat.blt k 19 then[2,6] else[]) else(bif Nat.blt k 22 then[] else(bif Nat.blt k 23 then[] else[2]))))) else[])) else(bif Nat.blt t 14 then(bif Nat.blt k 27 then(bif Nat.blt k 13 then(bif Nat.blt k 6 then(bif Nat.blt k 3 then[] else(bif Nat.blt k 4 then[] else(bif Nat.blt k 5 then[0,2] else[]))) else[]) else(bif Nat.blt k 20 then(bif Nat.blt k 16 then[] else(bif Nat.blt k 18 then(bif Nat.blt k 17 then[] else[0,2]) else[])) else(bif Nat.blt k 23 then(bif Nat.blt k 21 then[0,2,6] else[]) else(bif Nat.blt k 25 then[] else(bif Nat.blt k 26 then[] else[2]))))) else[]) else(bif Nat.blt t 15 then[] else(bif Nat.blt k 3 then(bif Nat.blt k 1 then[] else(bif Nat.blt k 2 then[] else[0,2])) else[])))) else(bif Nat.blt t 19 then(bif Nat.blt t 17 then(bif Nat.blt k 5 then(bif Nat.blt k 2 then[] else(bif Nat.blt k 3 then[] else(bif Nat.blt k 4 then[] else[4]))) else[]) else(bif Nat.blt t 18 then(bif Nat.blt k 6 then(bif Nat.blt k 3 then[] else(bif Nat.blt k 4 then[] else(bif Nat.blt k 5 then[] else[3]))) else[]) else(bif Nat.blt k 7 then(bif Nat.blt k 3 then[] else(bif Nat.blt k 5 then(bif Nat.blt k 4 then[] else[3]) else(bif Nat.blt k 6 then[] else[0,3]))) else[]))) else(bif Nat.blt t 20 then[] else(bif Nat.blt t 21 then[] else(bif Nat.blt k 3 then(bif Nat.blt k 1 then[] else(bif Nat.blt k 2 then[] else[4,5])) else[])))))) else(bif Nat.blt t 33 then(bif Nat.blt t 27 then(bif Nat.blt t 24 then[] else(bif Nat.blt t 25 then(bif Nat.blt k 8 then(bif Nat.blt k 4 then[] else(bif Nat.blt k 6 then(bif Nat.blt k 5 then[5] else[]) else(bif Nat.blt k 7 then[] else[0,5,9]))) else[]) else(bif Nat.blt t 26 then[] else(bif Nat.blt k 4 then(bif Nat.blt k 2 then[] else(bif Nat.blt k 3 then[] else[8])) else[])))) else(bif Nat.blt t 30 then(bif Nat.blt t 28 then[] else(bif Nat.blt t 29 then(bif Nat.blt k 6 then(bif Nat.blt k 3 then(bif Nat.blt k 1 then[] else(bif Nat.blt k 2 then[] else[4])) else(bif Nat.blt k 4 then[] else(bif Nat.blt k 5 then[] else[2,3,4,5]))) else[]) else(bif Nat.blt k 3 then(bif Nat.blt k 1 then[] else(bif Nat.blt k 2 then[] else[2])) else[]))) else(bif Nat.blt t 31 then(bif Nat.blt k 3 then(bif Nat.blt k 1 then[] else(bif Nat.blt k 2 then[] else[4])) else[]) else(bif Nat.blt t 32 then(bif Nat.blt k 5 then(bif Nat.blt k 2 then[] else(bif Nat.blt k 3 then[] else(bif Nat.blt k 4 then[] else[0,1,5]))) else[]) else(bif Nat.blt k 4 then(bif Nat.blt k 2 then[] else(bif Nat.blt k 3 then[] else[2,3])) else[]))))) else(bif Nat.blt t 39 then(bif Nat.blt t 36 then(bif Nat.blt t 34 then[] else(bif Nat.blt t 35 then(bif Nat.blt k 4 then(bif Nat.blt k 2 then[] else(bif Nat.blt k 3 then[] else[3])) else[]) else[])) else[]) else(bif Nat.blt t 42 then(bif Nat.blt t 40 then(bif Nat.blt k 4 then(bif Nat.blt k 2 then[] else(bif Nat.blt k 3 then[] else[3])) else[]) else[]) else(bif Nat.blt t 43 then[] else(bif Nat.blt t 44 then[] else(bif Nat.blt k 10 then(bif Nat.blt k 5 then(bif Nat.blt k 2 then[] else(bif Nat.blt k 3 then[] else(bif Nat.blt k 4 then[] else[1,2]))) else(bif Nat.blt k 7 then[] else(bif Nat.blt k 8 then[] else(bif Nat.blt k 9 then[] else[1,2])))) else[]))))))) else(bif Nat.blt t 67 then(bif Nat.blt t 56 then(bif Nat.blt t 50 then(bif Nat.blt t 47 then[] else(bif Nat.blt t 48 then[] else(bif Nat.blt t 49 then(bif Nat.blt k 3 then(bif Nat.blt k 1 then[] else(bif Nat.blt k 2 then[] else[4])) else[]) else[]))) else(bif Nat.blt t 53 then[] else(bif Nat.blt t 54 then[] else(bif Nat.blt t 55 then(bif Nat.blt k 5 then(bif Nat.blt k 2 then[] else(bif Nat.blt k 3 then[] else(bif Nat.blt k 4 then[] else[4]))) else[]) else[])))) else(bif Nat.blt t 61 then(bif Nat.blt t 58 then[] else(bif Nat.blt t 59 then[] else(bif Nat.blt t 60 then(bif Nat.blt k 3 then(bif Nat.blt k 1 then[] else(bif Nat.blt k 2 then[] else[2])) else[]) else(bif Nat.blt k 3 then(bif Nat.blt k 1 then[] else(bif Nat.blt k 2 then[] else[2])) else[])))) else(bif Nat.blt t 64 then(bif Nat.blt t 62 then(bif Nat.blt k 3 then(bif Nat.blt k 1 then[] else(bif Nat.blt k 2 then[] else[4])) else[]) else(bif Nat.blt t 63 then(bif Nat.blt k 3 then(bif Nat.blt k 1 then[] else(bif Nat.blt k 2 then[] else[4])) else[]) else(bif Nat.blt k 2 then(bif Nat.blt k 1 then[] else[]) else[]))) else(bif Nat.blt t 65 then[] else(bif Nat.blt t 66 then[] else(bif Nat.blt k 3 then(bif Nat.blt k 1 then[] else(bif Nat.blt k 2 then[] else[6])) else[])))))) else(bif Nat.blt t 78 then(bif Nat.blt t 72 then(bif Nat.blt t 69 then[] else(bif Nat.blt t 70 then[] else(bif Nat.blt t 71 then(bif Nat.blt k 3 then(bif Nat.blt k 1 then[] else(bif Nat.blt k 2 then[] else[4])) else[]) else(bif Nat.blt k 3 then(bif Nat.blt k 1 then[] else(bif Nat.blt k 2 then[] else[4])) else[])))) else(bif Nat.blt t 75 then(bif Nat.blt t 73 then[] else(bif Nat.blt t 74 then[] else(bif Nat.blt k 2 then(bif Nat.blt k 1 then[] else[]) else[]))) else(bif Nat.blt t 76 then[] else(bif Nat.blt t 77 then(bif Nat.blt k 3 then(bif Nat.blt k 1 then[] else(bif Nat.blt k 2 then[] else[])) else[]) else[])))) else(bif Nat.blt t 84 then(bif Nat.blt t 81 then(bif Nat.blt t 79 then(bif Nat.blt k 5 then(bif Nat.blt k 2 then(bif Nat.blt k 1 then[] else[]) else(bif Nat.blt k 3 then[] else(bif Nat.blt k 4 then[] else[0,1,2,6]))) else[]) else(bif Nat.blt t 80 then(bif Nat.blt k 9 then(bif Nat.blt k 4 then[] else(bif Nat.blt k 6 then(bif Nat.blt k 5 then[0,6,7,8] else[]) else(bif Nat.blt k 7 then[] else(bif Nat.blt k 8 then[] else[])))) else[]) else(bif Nat.blt k 6 then(bif Nat.blt k 3 then[] else(bif Nat.blt k 4 then[] else(bif Nat.blt k 5 then[] else[]))) else[]))) else(bif Nat.blt t 82 then[] else(bif Nat.blt t 83 then(bif Nat.blt k 3 then(bif Nat.blt k 1 then[] else(bif Nat.blt k 2 then[] else[])) else[]) else(bif Nat.blt k 21 then(bif Nat.blt k 10 then(bif Nat.blt k 5 then(bif Nat.blt k 2 then[] else(bif Nat.blt k 3 then[] else(bif Nat.blt k 4 then[6] else[]))) else(bif Nat.blt k 7 then(bif Nat.blt k 6 then[0,1,2,7,8] else[]) else[])) else(bif Nat.blt k 15 then(bif Nat.blt k 12 then[] else(bif Nat.blt k 13 then[] else(bif Nat.blt k 14 then[] else[0,1,2,7,8]))) else(bif Nat.blt k 18 then[] else(bif Nat.blt k 19 then[] else(bif Nat.blt k 20 then[] else[0,1,2,7,8]))))) else[])))) else(bif Nat.blt t 87 then(bif Nat.blt t 85 then[] else(bif Nat.blt t 86 then(bif Nat.blt k 6 then(bif Nat.blt k 3 then[] else(bif Nat.blt k 4 then[9] else(bif Nat.blt k 5 then[] else[0,1,9,10]))) else[]) else(bif Nat.blt k 16 then(bif Nat.blt k 8 then(bif Nat.blt k 4 then(bif Nat.blt k 2 then[] else(bif Nat.blt k 3 then[] else[0,1,10,11])) else(bif Nat.blt k 6 then(bif Nat.blt k 5 then[] else[0,1,10,11]) else[])) else(bif Nat.blt k 12 then[] else(bif Nat.blt k 14 then(bif Nat.blt k 13 then[] else[0,1,11]) else(bif Nat.blt k 15 then[] else[0,1,10,11])))) else[]))) else(bif Nat.blt t 88 then[] else(bif Nat.blt t 89 then[] else(bif Nat.blt k 2 then(bif Nat.blt k 1 then[] else[]) else[])))))))) else[]
def prw (t:FuncId) (k:Nat):List Rw:=bif Nat.blt t 35 then(bif Nat.blt t 17 then(bif Nat.blt t 8 then(bif Nat.blt t 4 then[] else(bif Nat.blt t 6 then(bif Nat.blt t 5 then(bif Nat.blt k 12 then(bif Nat.blt k 6 then[] else(bif Nat.blt k 9 then[] else(bif Nat.blt k 10 then[] else(bif Nat.blt k 11 then[] else[.slot 12 9 1])))) else[]) else[]) else[])) else(bif Nat.blt t 12 then(bif Nat.blt t 10 then(bif Nat.blt t 9 then[] else(bif Nat.blt k 4 then(bif Nat.blt k 2 then[] else(bif Nat.blt k 3 then[] else[.slot 3 35 5])) else[])) else(bif Nat.blt t 11 then(bif Nat.blt k 17 then(bif Nat.blt k 8 then(bif Nat.blt k 4 then[] else(bif Nat.blt k 6 then(bif Nat.blt k 5 then[] else[.slot 4 35 5]) else[])) else(bif Nat.blt k 12 then(bif Nat.blt k 10 then[] else(bif Nat.blt k 11 then[.cell 7 3 3 1] else[])) else(bif Nat.blt k 14 then[] else(bif Nat.blt k 15 then[] else(bif Nat.blt k 16 then[] else[.cell 7 4 9 1]))))) else[]) else(bif Nat.blt k 34 then(bif Nat.blt k 17 then(bif Nat.blt k 8 then(bif Nat.blt k 4 then(bif Nat.blt k 2 then[] else(bif Nat.blt k 3 then[] else[.slot 5 35 5])) else[]) else[]) else(bif Nat.blt k 25 then[] else(bif Nat.blt k 29 then[] else(bif Nat.blt k 31 then[] else(bif Nat.blt k 32 then[] else(bif Nat.blt k 33 then[] else[.slot 5 35 5])))))) else[]))) else[])) else(bif Nat.blt t 26 then(bif Nat.blt t 21 then(bif Nat.blt t 19 then(bif Nat.blt t 18 then(bif Nat.blt k 6 then(bif Nat.blt k 3 then[] else(bif Nat.blt k 4 then[] else(bif Nat.blt k 5 then[] else[.cell 3 0 9 1]))) else[]) else(bif Nat.blt k 7 then(bif Nat.blt k 3 then[] else(bif Nat.blt k 5 then(bif Nat.blt k 4 then[] else[.slot 3 9 1]) else(bif Nat.blt k 6 then[] else[.slot 3 9 1]))) else[])) else[]) else(bif Nat.blt t 23 then[] else(bif Nat.blt t 24 then[] else(bif Nat.blt t 25 then(bif Nat.blt k 8 then(bif Nat.blt k 4 then[] else(bif Nat.blt k 6 then[] else(bif Nat.blt k 7 then[] else[.slot 9 9 1]))) else[]) else[])))) else(bif Nat.blt t 30 then[] else(bif Nat.blt t 32 then[] else(bif Nat.blt t 33 then(bif Nat.blt k 4 then(bif Nat.blt k 2 then[] else(bif Nat.blt k 3 then[] else[.cell 3 3 3 1])) else[]) else(bif Nat.blt t 34 then[] else(bif Nat.blt k 4 then(bif Nat.blt k 2 then[] else(bif Nat.blt k 3 then[] else[.slot 3 9 1])) else[]))))))) else[]
def pdm (t:FuncId) (k:Nat):Nat:=bif Nat.blt t 96 then(bif Nat.blt t 48 then(bif Nat.blt t 24 then(bif Nat.blt t 12 then(bif Nat.blt t 6 then(bif Nat.blt t 3 then 0 else(bif Nat.blt t 4 then(bif Nat.blt k 14 then(bif Nat.blt k 7 then 0 else(bif Nat.blt k 10 then 0 else(bif Nat.blt k 12 then 0 else(bif Nat.blt k 13 then 0 else 5)))) else 0) else(bif Nat.blt t 5 then(bif Nat.blt k 26 then(bif Nat.blt k 13 then 0 else(bif Nat.blt k 19 then 0 else(bif Nat.blt k 22 then 0 else(bif Nat.blt k 24 then 0 else(bif Nat.blt k 25 then 0 else 11))))) else 0) else(bif Nat.blt k 16 then(bif Nat.blt k 8 then 0 else(bif Nat.blt k 12 then 0 else(bif Nat.blt k 14 then 0 else(bif Nat.blt k 15 then 0 else 18)))) else 0)))) else(bif Nat.blt t 9 then(bif Nat.blt t 7 then 0 else(bif Nat.blt t 8 then(bif Nat.blt k 7 then(bif Nat.blt k 3 then 0 else(bif Nat.blt k 5 then 0 else(bif Nat.blt k 6 then 0 else 41))) else 0) else(bif Nat.blt k 9 then(bif Nat.blt k 4 then 0 else(bif Nat.blt k 6 then 0 else(bif Nat.blt k 7 then 0 else(bif Nat.blt k 8 then 0 else 30)))) else 0))) else(bif Nat.blt t 10 then 0 else(bif Nat.blt t 11 then(bif Nat.blt k 20 then(bif Nat.blt k 10 then(bif Nat.blt k 5 then 0 else(bif Nat.blt k 7 then 0 else(bif Nat.blt k 8 then 0 else(bif Nat.blt k 9 then 16 else 0)))) else(bif Nat.blt k 15 then 0 else(bif Nat.blt k 17 then 0 else(bif Nat.blt k 18 then 0 else(bif Nat.blt k 19 then 0 else 8))))) else 0) else(bif Nat.blt k 32 then(bif Nat.blt k 16 then 0 else(bif Nat.blt k 24 then(bif Nat.blt k 20 then 0 else(bif Nat.blt k 22 then 0 else(bif Nat.blt k 23 then 12 else 0))) else(bif Nat.blt k 28 then 0 else(bif Nat.blt k 30 then 0 else(bif Nat.blt k 31 then 0 else 12))))) else 0))))) else(bif Nat.blt t 18 then(bif Nat.blt t 15 then(bif Nat.blt t 13 then(bif Nat.blt k 11 then(bif Nat.blt k 5 then 0 else(bif Nat.blt k 8 then 0 else(bif Nat.blt k 9 then 11 else(bif Nat.blt k 10 then 0 else 11)))) else 0) else(bif Nat.blt t 14 then(bif Nat.blt k 29 then(bif Nat.blt k 14 then(bif Nat.blt k 7 then 0 else(bif Nat.blt k 10 then(bif Nat.blt k 8 then 0 else(bif Nat.blt k 9 then 0 else 14)) else(bif Nat.blt k 12 then(bif Nat.blt k 11 then 0 else 14) else 0))) else(bif Nat.blt k 21 then 0 else(bif Nat.blt k 25 then 0 else(bif Nat.blt k 27 then 0 else(bif Nat.blt k 28 then 0 else 12))))) else 0) else 0)) else(bif Nat.blt t 16 then 0 else(bif Nat.blt t 17 then(bif Nat.blt k 7 then(bif Nat.blt k 3 then 0 else(bif Nat.blt k 5 then 0 else(bif Nat.blt k 6 then 0 else 8))) else 0) else(bif Nat.blt k 8 then(bif Nat.blt k 4 then 0 else(bif Nat.blt k 6 then 0 else(bif Nat.blt k 7 then 0 else 7))) else 0)))) else 0)) else(bif Nat.blt t 36 then(bif Nat.blt t 30 then(bif Nat.blt t 27 then 0 else(bif Nat.blt t 28 then 0 else(bif Nat.blt t 29 then(bif Nat.blt k 8 then(bif Nat.blt k 4 then 0 else(bif Nat.blt k 6 then 0 else(bif Nat.blt k 7 then 0 else 10))) else 0) else(bif Nat.blt k 5 then(bif Nat.blt k 2 then 0 else(bif Nat.blt k 3 then 0 else(bif Nat.blt k 4 then 0 else 9))) else 0)))) else(bif Nat.blt t 33 then(bif Nat.blt t 31 then 0 else(bif Nat.blt t 32 then(bif Nat.blt k 8 then(bif Nat.blt k 4 then 0 else(bif Nat.blt k 6 then 0 else(bif Nat.blt k 7 then 0 else 7))) else 0) else(bif Nat.blt k 6 then(bif Nat.blt k 3 then 0 else(bif Nat.blt k 4 then 0 else(bif Nat.blt k 5 then 0 else 10))) else 0))) else(bif Nat.blt t 34 then 0 else(bif Nat.blt t 35 then(bif Nat.blt k 6 then(bif Nat.blt k 3 then 0 else(bif Nat.blt k 4 then 0 else(bif Nat.blt k 5 then 0 else 13))) else 0) else(bif Nat.blt k 5 then(bif Nat.blt k 2 then(bif Nat.blt k 1 then 0 else 9) else(bif Nat.blt k 3 then 0 else(bif Nat.blt k 4 then 0 else 12))) else 0))))) else(bif Nat.blt t 42 then 0 else(bif Nat.blt t 45 then(bif Nat.blt t 43 then 0 else(bif Nat.blt t 44 then 0 else(bif Nat.blt k 12 then(bif Nat.blt k 6 then 0 else(bif Nat.blt k 9 then 0 else(bif Nat.blt k 10 then 0 else(bif Nat.blt k 11 then 0 else 11)))) else 0))) else 0)))) else(bif Nat.blt t 72 then(bif Nat.blt t 60 then(bif Nat.blt t 54 then(bif Nat.blt t 51 then 0 else(bif Nat.blt t 52 then(bif Nat.blt k 6 then(bif Nat.blt k 3 then 0 else(bif Nat.blt k 4 then 0 else(bif Nat.blt k 5 then 0 else 6))) else 0) else(bif Nat.blt t 53 then 0 else(bif Nat.blt k 2 then(bif Nat.blt k 1 then 0 else 7) else 0)))) else(bif Nat.blt t 57 then(bif Nat.blt t 55 then(bif Nat.blt k 7 then(bif Nat.blt k 3 then 0 else(bif Nat.blt k 5 then 0 else(bif Nat.blt k 6 then 0 else 8))) else 0) else 0) else(bif Nat.blt t 58 then 0 else(bif Nat.blt t 59 then 0 else(bif Nat.blt k 5 then(bif Nat.blt k 2 then 0 else(bif Nat.blt k 3 then 0 else(bif Nat.blt k 4 then 0 else 9))) else 0))))) else(bif Nat.blt t 66 then(bif Nat.blt t 63 then(bif Nat.blt t 61 then(bif Nat.blt k 5 then(bif Nat.blt k 2 then 0 else(bif Nat.blt k 3 then 0 else(bif Nat.blt k 4 then 0 else 9))) else 0) else 0) else 0) else 0)) else(bif Nat.blt t 84 then(bif Nat.blt t 78 then(bif Nat.blt t 75 then 0 else(bif Nat.blt t 76 then 0 else(bif Nat.blt t 77 then(bif Nat.blt k 18 then(bif Nat.blt k 9 then 0 else(bif Nat.blt k 13 then 0 else(bif Nat.blt k 15 then 0 else(bif Nat.blt k 16 then 0 else(bif Nat.blt k 17 then 0 else 12))))) else 0) else 0))) else(bif Nat.blt t 81 then(bif Nat.blt t 79 then(bif Nat.blt k 7 then(bif Nat.blt k 3 then 0 else(bif Nat.blt k 5 then(bif Nat.blt k 4 then 0 else 13) else(bif Nat.blt k 6 then 0 else 16))) else 0) else(bif Nat.blt t 80 then(bif Nat.blt k 11 then(bif Nat.blt k 5 then 0 else(bif Nat.blt k 8 then 0 else(bif Nat.blt k 9 then 0 else(bif Nat.blt k 10 then 0 else 18)))) else 0) else(bif Nat.blt k 11 then(bif Nat.blt k 5 then 0 else(bif Nat.blt k 8 then 0 else(bif Nat.blt k 9 then 0 else(bif Nat.blt k 10 then 0 else 18)))) else 0))) else(bif Nat.blt t 82 then 0 else(bif Nat.blt t 83 then(bif Nat.blt k 4 then(bif Nat.blt k 2 then 0 else(bif Nat.blt k 3 then 0 else 14)) else 0) else(bif Nat.blt k 24 then(bif Nat.blt k 12 then(bif Nat.blt k 6 then(bif Nat.blt k 3 then 0 else(bif Nat.blt k 4 then 0 else(bif Nat.blt k 5 then 0 else 13))) else(bif Nat.blt k 9 then 0 else(bif Nat.blt k 10 then 0 else(bif Nat.blt k 11 then 0 else 16)))) else(bif Nat.blt k 18 then(bif Nat.blt k 15 then 0 else(bif Nat.blt k 16 then 0 else(bif Nat.blt k 17 then 9 else 16))) else(bif Nat.blt k 21 then 0 else(bif Nat.blt k 22 then 0 else(bif Nat.blt k 23 then 9 else 16))))) else 0))))) else(bif Nat.blt t 90 then(bif Nat.blt t 87 then(bif Nat.blt t 85 then 0 else(bif Nat.blt t 86 then(bif Nat.blt k 9 then(bif Nat.blt k 4 then(bif Nat.blt k 2 then(bif Nat.blt k 1 then 0 else 14) else(bif Nat.blt k 3 then 0 else 12)) else(bif Nat.blt k 6 then(bif Nat.blt k 5 then 0 else 12) else(bif Nat.blt k 7 then 0 else(bif Nat.blt k 8 then 0 else 14)))) else 0) else(bif Nat.blt k 22 then(bif Nat.blt k 11 then(bif Nat.blt k 5 then(bif Nat.blt k 2 then(bif Nat.blt k 1 then 0 else 14) else(bif Nat.blt k 3 then 0 else(bif Nat.blt k 4 then 12 else 0))) else(bif Nat.blt k 8 then(bif Nat.blt k 6 then 12 else 0) else(bif Nat.blt k 9 then 14 else(bif Nat.blt k 10 then 0 else 14)))) else(bif Nat.blt k 16 then(bif Nat.blt k 13 then 0 else(bif Nat.blt k 14 then 12 else(bif Nat.blt k 15 then 0 else 12))) else(bif Nat.blt k 19 then(bif Nat.blt k 17 then 0 else(bif Nat.blt k 18 then 0 else 14)) else(bif Nat.blt k 20 then 0 else(bif Nat.blt k 21 then 0 else 14))))) else 0))) else(bif Nat.blt t 88 then 0 else(bif Nat.blt t 89 then 0 else(bif Nat.blt k 7 then(bif Nat.blt k 3 then 0 else(bif Nat.blt k 5 then(bif Nat.blt k 4 then 18 else 0) else(bif Nat.blt k 6 then 12 else 22))) else 0)))) else(bif Nat.blt t 93 then(bif Nat.blt t 91 then 0 else(bif Nat.blt t 92 then(bif Nat.blt k 4 then(bif Nat.blt k 2 then(bif Nat.blt k 1 then 0 else 7) else(bif Nat.blt k 3 then 7 else 7)) else 0) else 0)) else(bif Nat.blt t 94 then 0 else(bif Nat.blt t 95 then 0 else(bif Nat.blt k 2 then(bif Nat.blt k 1 then 0 else 8) else 0)))))))) else 0
def pan (t:FuncId) (k:Nat):List (List Nat):=bif Nat.blt t 96 then(bif Nat.blt t 48 then(bif Nat.blt t 24 then(bif Nat.blt t 12 then(bif Nat.blt t 6 then(bif Nat.blt t 3 then[] else(bif Nat.blt t 4 then(bif Nat.blt k 14 then(bif Nat.blt k 7 then[] else(bif Nat.blt k 10 then[] else(bif Nat.blt k 12 then[] else(bif Nat.blt k 13 then[] else[[],[],[1],[],[]])))) else[]) else(bif Nat.blt t 5 then(bif Nat.blt k 26 then(bif Nat.blt k 13 then[] else(bif Nat.blt k 19 then[] else(bif Nat.blt k 22 then[] else(bif Nat.blt k 24 then[] else(bif Nat.blt k 25 then[] else[[],[],[],[],[],[0,4],[],[],[],[],[]]))))) else[]) else(bif Nat.blt k 16 then(bif Nat.blt k 8 then[] else(bif Nat.blt k 12 then[] else(bif Nat.blt k 14 then[] else(bif Nat.blt k 15 then[] else[[],[],[],[],[],[],[],[2],[],[],[],[],[],[],[2,7],[],[],[]])))) else[])))) else(bif Nat.blt t 9 then(bif Nat.blt t 7 then[] else(bif Nat.blt t 8 then(bif Nat.blt k 7 then(bif Nat.blt k 3 then[] else(bif Nat.blt k 5 then[] else(bif Nat.blt k 6 then[] else[[],[],[],[],[],[3,4],[],[],[],[3,4,5],[3,4,5],[3,4,5,9,10],[],[3,4,5],[],[],[],[],[],[3,4,5,9,10,11,13],[],[3,4,5,9,10,11,13,19],[],[],[],[],[],[],[3,4,5,9,10,11,13,19,21],[3,4,5,9,10,11,13,19,21],[3,4,5,9,10,11,13,19,21,28,29],[],[],[],[3,4,5,9,10,11,13,19,21,28,29,30],[],[],[3,4,5,9,10,11,13,19,21,28,29,30],[],[3,4,5,9,10,11,13,19,21,28,29,30,37],[]]))) else[]) else(bif Nat.blt k 9 then(bif Nat.blt k 4 then[] else(bif Nat.blt k 6 then[] else(bif Nat.blt k 7 then[] else(bif Nat.blt k 8 then[] else[[],[],[1],[],[],[1,2],[1,2,5],[],[],[],[],[1,2,5,6],[],[],[],[],[],[1,2,5,6,11],[],[],[1,2,5,6,11],[1,2,5,6,11,17,20],[],[],[],[],[1,2,5,6,11,17,20,21],[],[],[1,2,5,6,11,17,20,21]])))) else[]))) else(bif Nat.blt t 10 then[] else(bif Nat.blt t 11 then(bif Nat.blt k 20 then(bif Nat.blt k 10 then(bif Nat.blt k 5 then[] else(bif Nat.blt k 7 then[] else(bif Nat.blt k 8 then[] else(bif Nat.blt k 9 then[[],[],[],[],[],[],[],[],[4,6],[],[],[6],[],[6,9,11],[],[]] else[])))) else(bif Nat.blt k 15 then[] else(bif Nat.blt k 17 then[] else(bif Nat.blt k 18 then[] else(bif Nat.blt k 19 then[] else[[],[],[],[],[],[],[],[6]]))))) else[]) else(bif Nat.blt k 32 then(bif Nat.blt k 16 then[] else(bif Nat.blt k 24 then(bif Nat.blt k 20 then[] else(bif Nat.blt k 22 then[] else(bif Nat.blt k 23 then[[],[],[],[],[],[],[],[],[],[5],[5,9],[1,2,3,4,5,6,7,8,9,10]] else[]))) else(bif Nat.blt k 28 then[] else(bif Nat.blt k 30 then[] else(bif Nat.blt k 31 then[] else[[],[],[],[],[],[],[],[],[],[],[],[6,9]]))))) else[]))))) else(bif Nat.blt t 18 then(bif Nat.blt t 15 then(bif Nat.blt t 13 then(bif Nat.blt k 11 then(bif Nat.blt k 5 then[] else(bif Nat.blt k 8 then[] else(bif Nat.blt k 9 then[[],[],[],[],[],[],[],[],[],[],[]] else(bif Nat.blt k 10 then[] else[[],[],[],[],[],[],[],[],[],[],[]])))) else[]) else(bif Nat.blt t 14 then(bif Nat.blt k 29 then(bif Nat.blt k 14 then(bif Nat.blt k 7 then[] else(bif Nat.blt k 10 then(bif Nat.blt k 8 then[] else(bif Nat.blt k 9 then[] else[[],[],[],[],[],[],[],[],[],[],[],[],[],[]])) else(bif Nat.blt k 12 then(bif Nat.blt k 11 then[] else[[],[],[],[],[],[],[],[],[],[],[],[],[],[]]) else[]))) else(bif Nat.blt k 21 then[] else(bif Nat.blt k 25 then[] else(bif Nat.blt k 27 then[] else(bif Nat.blt k 28 then[] else[[],[],[],[],[],[],[5],[],[],[],[],[]]))))) else[]) else[])) else(bif Nat.blt t 16 then[] else(bif Nat.blt t 17 then(bif Nat.blt k 7 then(bif Nat.blt k 3 then[] else(bif Nat.blt k 5 then[] else(bif Nat.blt k 6 then[] else[[],[],[],[],[],[],[],[]]))) else[]) else(bif Nat.blt k 8 then(bif Nat.blt k 4 then[] else(bif Nat.blt k 6 then[] else(bif Nat.blt k 7 then[] else[[],[],[],[],[],[],[5]]))) else[])))) else[])) else(bif Nat.blt t 36 then(bif Nat.blt t 30 then(bif Nat.blt t 27 then[] else(bif Nat.blt t 28 then[] else(bif Nat.blt t 29 then(bif Nat.blt k 8 then(bif Nat.blt k 4 then[] else(bif Nat.blt k 6 then[] else(bif Nat.blt k 7 then[] else[[],[],[],[],[1],[],[],[],[],[6]]))) else[]) else(bif Nat.blt k 5 then(bif Nat.blt k 2 then[] else(bif Nat.blt k 3 then[] else(bif Nat.blt k 4 then[] else[[],[],[],[],[],[],[],[],[]]))) else[])))) else(bif Nat.blt t 33 then(bif Nat.blt t 31 then[] else(bif Nat.blt t 32 then(bif Nat.blt k 8 then(bif Nat.blt k 4 then[] else(bif Nat.blt k 6 then[] else(bif Nat.blt k 7 then[] else[[],[],[],[0,1,2],[],[],[]]))) else[]) else(bif Nat.blt k 6 then(bif Nat.blt k 3 then[] else(bif Nat.blt k 4 then[] else(bif Nat.blt k 5 then[] else[[],[],[],[],[],[],[],[5],[],[5,7]]))) else[]))) else(bif Nat.blt t 34 then[] else(bif Nat.blt t 35 then(bif Nat.blt k 6 then(bif Nat.blt k 3 then[] else(bif Nat.blt k 4 then[] else(bif Nat.blt k 5 then[] else[[],[],[],[],[],[],[],[],[],[],[],[],[4,8]]))) else[]) else(bif Nat.blt k 5 then(bif Nat.blt k 2 then(bif Nat.blt k 1 then[] else[[],[],[],[],[],[],[],[],[]]) else(bif Nat.blt k 3 then[] else(bif Nat.blt k 4 then[] else[[],[],[],[],[],[],[],[],[],[],[3,7],[]]))) else[]))))) else(bif Nat.blt t 42 then[] else(bif Nat.blt t 45 then(bif Nat.blt t 43 then[] else(bif Nat.blt t 44 then[] else(bif Nat.blt k 12 then(bif Nat.blt k 6 then[] else(bif Nat.blt k 9 then[] else(bif Nat.blt k 10 then[] else(bif Nat.blt k 11 then[] else[[],[],[],[],[],[1],[],[],[],[],[7]])))) else[]))) else[])))) else(bif Nat.blt t 72 then(bif Nat.blt t 60 then(bif Nat.blt t 54 then(bif Nat.blt t 51 then[] else(bif Nat.blt t 52 then(bif Nat.blt k 6 then(bif Nat.blt k 3 then[] else(bif Nat.blt k 4 then[] else(bif Nat.blt k 5 then[] else[[],[],[],[],[],[]]))) else[]) else(bif Nat.blt t 53 then[] else(bif Nat.blt k 2 then(bif Nat.blt k 1 then[] else[[],[],[1],[],[],[1,2,4],[]]) else[])))) else(bif Nat.blt t 57 then(bif Nat.blt t 55 then(bif Nat.blt k 7 then(bif Nat.blt k 3 then[] else(bif Nat.blt k 5 then[] else(bif Nat.blt k 6 then[] else[[],[],[],[],[],[],[],[]]))) else[]) else[]) else(bif Nat.blt t 58 then[] else(bif Nat.blt t 59 then[] else(bif Nat.blt k 5 then(bif Nat.blt k 2 then[] else(bif Nat.blt k 3 then[] else(bif Nat.blt k 4 then[] else[[],[],[],[],[],[],[],[],[]]))) else[]))))) else(bif Nat.blt t 66 then(bif Nat.blt t 63 then(bif Nat.blt t 61 then(bif Nat.blt k 5 then(bif Nat.blt k 2 then[] else(bif Nat.blt k 3 then[] else(bif Nat.blt k 4 then[] else[[],[],[],[],[],[],[],[],[]]))) else[]) else[]) else[]) else[])) else(bif Nat.blt t 84 then(bif Nat.blt t 78 then(bif Nat.blt t 75 then[] else(bif Nat.blt t 76 then[] else(bif Nat.blt t 77 then(bif Nat.blt k 18 then(bif Nat.blt k 9 then[] else(bif Nat.blt k 13 then[] else(bif Nat.blt k 15 then[] else(bif Nat.blt k 16 then[] else(bif Nat.blt k 17 then[] else[[],[],[],[],[],[],[],[],[],[],[],[]]))))) else[]) else[]))) else(bif Nat.blt t 81 then(bif Nat.blt t 79 then(bif Nat.blt k 7 then(bif Nat.blt k 3 then[] else(bif Nat.blt k 5 then(bif Nat.blt k 4 then[] else[[],[],[],[],[],[],[],[],[],[],[],[],[]]) else(bif Nat.blt k 6 then[] else[[],[],[],[],[],[],[],[],[],[],[],[],[],[],[],[9,13]]))) else[]) else(bif Nat.blt t 80 then(bif Nat.blt k 11 then(bif Nat.blt k 5 then[] else(bif Nat.blt k 8 then[] else(bif Nat.blt k 9 then[] else(bif Nat.blt k 10 then[] else[[],[],[],[],[],[],[],[],[],[],[],[],[],[],[],[],[],[11,15]])))) else[]) else(bif Nat.blt k 11 then(bif Nat.blt k 5 then[] else(bif Nat.blt k 8 then[] else(bif Nat.blt k 9 then[] else(bif Nat.blt k 10 then[] else[[],[],[],[],[],[],[],[],[],[],[],[],[],[],[],[],[],[11,15]])))) else[]))) else(bif Nat.blt t 82 then[] else(bif Nat.blt t 83 then(bif Nat.blt k 4 then(bif Nat.blt k 2 then[] else(bif Nat.blt k 3 then[] else[[],[],[],[],[],[],[],[],[],[],[],[],[],[7,11]])) else[]) else(bif Nat.blt k 24 then(bif Nat.blt k 12 then(bif Nat.blt k 6 then(bif Nat.blt k 3 then[] else(bif Nat.blt k 4 then[] else(bif Nat.blt k 5 then[] else[[],[],[],[],[],[],[],[],[],[],[],[],[]]))) else(bif Nat.blt k 9 then[] else(bif Nat.blt k 10 then[] else(bif Nat.blt k 11 then[] else[[],[],[],[],[],[],[],[],[],[],[],[],[],[],[],[9,13]])))) else(bif Nat.blt k 18 then(bif Nat.blt k 15 then[] else(bif Nat.blt k 16 then[] else(bif Nat.blt k 17 then[[],[],[],[],[],[],[],[],[]] else[[],[],[],[],[],[],[],[],[],[],[],[],[],[],[],[9,13]]))) else(bif Nat.blt k 21 then[] else(bif Nat.blt k 22 then[] else(bif Nat.blt k 23 then[[],[],[],[],[],[],[],[],[]] else[[],[],[],[],[],[],[],[],[],[],[],[],[],[],[],[9,13]]))))) else[]))))) else(bif Nat.blt t 90 then(bif Nat.blt t 87 then(bif Nat.blt t 85 then[] else(bif Nat.blt t 86 then(bif Nat.blt k 9 then(bif Nat.blt k 4 then(bif Nat.blt k 2 then(bif Nat.blt k 1 then[] else[[],[],[],[],[],[],[],[],[],[],[],[],[],[7,11]]) else(bif Nat.blt k 3 then[] else[[],[],[],[],[],[],[],[],[],[],[],[]])) else(bif Nat.blt k 6 then(bif Nat.blt k 5 then[] else[[],[],[],[],[],[],[],[],[],[],[],[]]) else(bif Nat.blt k 7 then[] else(bif Nat.blt k 8 then[] else[[],[],[],[],[],[],[],[],[],[],[],[],[],[7,11]])))) else[]) else(bif Nat.blt k 22 then(bif Nat.blt k 11 then(bif Nat.blt k 5 then(bif Nat.blt k 2 then(bif Nat.blt k 1 then[] else[[],[],[],[],[],[],[],[],[],[],[],[],[],[7,11]]) else(bif Nat.blt k 3 then[] else(bif Nat.blt k 4 then[[],[],[],[],[],[],[],[],[],[],[],[]] else[]))) else(bif Nat.blt k 8 then(bif Nat.blt k 6 then[[],[],[],[],[],[],[],[],[],[],[],[]] else[]) else(bif Nat.blt k 9 then[[],[],[],[],[],[],[],[],[],[],[],[],[],[7,11]] else(bif Nat.blt k 10 then[] else[[],[],[],[],[],[],[],[],[],[],[],[],[],[7,11]])))) else(bif Nat.blt k 16 then(bif Nat.blt k 13 then[] else(bif Nat.blt k 14 then[[],[],[],[],[],[],[],[],[],[],[],[]] else(bif Nat.blt k 15 then[] else[[],[],[],[],[],[],[],[],[],[],[],[]]))) else(bif Nat.blt k 19 then(bif Nat.blt k 17 then[] else(bif Nat.blt k 18 then[] else[[],[],[],[],[],[],[],[],[],[],[],[],[],[7,11]])) else(bif Nat.blt k 20 then[] else(bif Nat.blt k 21 then[] else[[],[],[],[],[],[],[],[],[],[],[],[],[],[7,11]]))))) else[]))) else(bif Nat.blt t 88 then[] else(bif Nat.blt t 89 then[] else(bif Nat.blt k 7 then(bif Nat.blt k 3 then[] else(bif Nat.blt k 5 then(bif Nat.blt k 4 then[[],[],[],[],[],[],[],[],[],[],[],[],[],[],[],[],[],[]] else[]) else(bif Nat.blt k 6 then[[],[],[],[],[],[],[],[],[],[],[],[]] else[[],[],[],[],[],[],[],[],[],[],[],[],[],[],[],[],[],[],[],[],[],[13,19]]))) else[])))) else(bif Nat.blt t 93 then(bif Nat.blt t 91 then[] else(bif Nat.blt t 92 then(bif Nat.blt k 4 then(bif Nat.blt k 2 then(bif Nat.blt k 1 then[] else[[],[],[],[],[],[],[]]) else(bif Nat.blt k 3 then[[],[],[],[],[],[],[]] else[[],[],[],[],[],[],[]])) else[]) else[])) else(bif Nat.blt t 94 then[] else(bif Nat.blt t 95 then[] else(bif Nat.blt k 2 then(bif Nat.blt k 1 then[] else[[],[],[],[],[],[],[],[]]) else[])))))))) else[]
def prk (t:FuncId) (k:Nat):List Nat:=bif Nat.blt t 76 then(bif Nat.blt t 38 then[] else(bif Nat.blt t 57 then[] else(bif Nat.blt t 66 then[] else(bif Nat.blt t 71 then[] else(bif Nat.blt t 73 then[] else(bif Nat.blt t 74 then[] else(bif Nat.blt t 75 then[] else(bif Nat.blt k 4 then(bif Nat.blt k 2 then[] else(bif Nat.blt k 3 then[] else[2])) else[])))))))) else[]
def ppr:FuncId→Option (Nat→List R→List (Nat×B)→Option (R×List (Nat×B)))
 | 47=>some (pr0 (Jg T 35 true))
 | 68=>some (pr0 (Jg T 3 false))
 | 69=>some (pr0 (Jg T 9 false))
 | 64=>some (qdr 74)
 | 51=>some (q67 35 5)
 | _=>none
def pol:Pol:=⟨pq,pow,pfz,pkp,pkx,prw,pro,pdm,pan,prk,ppr⟩
theorem qg4:T.ip 12=none:=rfl
theorem qgd:T.ip 14=none:=rfl
theorem qhj:T.ip 32=none:=rfl
theorem qgV:T.ip 38=none:=rfl
theorem qgk:T.ip 39=none:=rfl
theorem qh4:T.ip 45=none:=rfl
theorem qgP:T.ip 47=none:=rfl
theorem qgj:T.ip 53=none:=rfl
theorem qhb:T.ip 58=none:=rfl
theorem qhi:T.ip 59=none:=rfl
theorem qgm:T.ip 60=none:=rfl
theorem qge:T.ip 64=none:=rfl
theorem qhq:T.ip 65=none:=rfl
theorem qgt:pol.rk 7 6=[]:=rfl
theorem qhm:pol.rk 8 8=[]:=rfl
theorem qdx:pol.rk 12 8=[]:=rfl
theorem qbA:pol.rk 12 10=[]:=rfl
theorem qeq:pol.rk 16 6=[]:=rfl
theorem qeF:pol.rk 17 7=[]:=rfl
theorem qdq:pol.rk 32 5=[]:=rfl
theorem qfj:pol.rk 53 1=[]:=rfl
theorem qdF:pol.rk 59 4=[]:=rfl
theorem qdZ:pol.rk 60 4=[]:=rfl
theorem qh2:pol.dm 7 6=41∧pol.an 7 6=[[],[],[],[],[],[3,4],[],[],[],[3,4,5],[3,4,5],[3,4,5,9,10],[],[3,4,5],[],[],[],[],[],[3,4,5,9,10,11,13],[],[3,4,5,9,10,11,13,19],[],[],[],[],[],[],[3,4,5,9,10,11,13,19,21],[3,4,5,9,10,11,13,19,21],[3,4,5,9,10,11,13,19,21,28,29],[],[],[],[3,4,5,9,10,11,13,19,21,28,29,30],[],[],[3,4,5,9,10,11,13,19,21,28,29,30],[],[3,4,5,9,10,11,13,19,21,28,29,30,37],[]]:=⟨rfl,rfl⟩
theorem qgn:pol.dm 8 8=30∧pol.an 8 8=[[],[],[1],[],[],[1,2],[1,2,5],[],[],[],[],[1,2,5,6],[],[],[],[],[],[1,2,5,6,11],[],[],[1,2,5,6,11],[1,2,5,6,11,17,20],[],[],[],[],[1,2,5,6,11,17,20,21],[],[],[1,2,5,6,11,17,20,21]]:=⟨rfl,rfl⟩
theorem qdN:pol.dm 12 8=11∧pol.an 12 8=[[],[],[],[],[],[],[],[],[],[],[]]:=⟨rfl,rfl⟩
theorem qcf:pol.dm 12 10=11∧pol.an 12 10=[[],[],[],[],[],[],[],[],[],[],[]]:=⟨rfl,rfl⟩
theorem qer:pol.dm 16 6=8∧pol.an 16 6=[[],[],[],[],[],[],[],[]]:=⟨rfl,rfl⟩
theorem qdh:pol.dm 17 7=7∧pol.an 17 7=[[],[],[],[],[],[],[5]]:=⟨rfl,rfl⟩
theorem qew:pol.dm 32 5=10∧pol.an 32 5=[[],[],[],[],[],[],[],[5],[],[5,7]]:=⟨rfl,rfl⟩
theorem qfh:pol.dm 53 1=7∧pol.an 53 1=[[],[],[1],[],[],[1,2,4],[]]:=⟨rfl,rfl⟩
theorem qdE:pol.dm 59 4=9∧pol.an 59 4=[[],[],[],[],[],[],[],[],[]]:=⟨rfl,rfl⟩
theorem qdC:pol.dm 60 4=9∧pol.an 60 4=[[],[],[],[],[],[],[],[],[]]:=⟨rfl,rfl⟩
theorem q22:pol.q 22=[1]:=rfl
theorem q25:pol.q 25=[5]:=rfl
theorem q33:pol.q 33=[1]:=rfl
theorem q35:pol.q 35=[0,0,0,1,1]:=rfl
theorem q52:pol.q 52=[1]:=rfl
theorem q3:pol.q 3=[]:=rfl
theorem q4:pol.q 4=[]:=rfl
theorem q9:pol.q 9=[]:=rfl
theorem q10:pol.q 10=[]:=rfl
theorem q21:pol.q 21=[]:=rfl
theorem q31:pol.q 31=[]:=rfl
theorem q36:pol.q 36=[]:=rfl
theorem q46:pol.q 46=[]:=rfl
theorem q65:pol.q 65=[]:=rfl
theorem q70:pol.q 70=[]:=rfl
theorem q73:pol.q 73=[]:=rfl
theorem q78:pol.q 78=[]:=rfl
theorem q84:pol.q 84=[]:=rfl
noncomputable def qcr:Code:=(Try.f7.body).getD .skip
theorem bd7:qH Try.prog pol 7=some ⟨qcr,75,[.tmp 6],[4]⟩:=by kernel_rfl
theorem pw7:pol.ow 7=[]∧pol.fz 7=false∧pol.ro 7=false∧pol.pr 7=none:=⟨rfl,rfl,rfl,rfl⟩
noncomputable def qcM:Code:=(Try.f8.body).getD .skip
theorem bd8:qH Try.prog pol 8=some ⟨qcM,122,[.tmp 0],[4]⟩:=by kernel_rfl
theorem pw8:pol.ow 8=[]∧pol.fz 8=false∧pol.ro 8=false∧pol.pr 8=none:=⟨rfl,rfl,rfl,rfl⟩
noncomputable def q30:Code:=(Try.f12.body).getD .skip
theorem qcX:qH Try.prog pol 12=some ⟨q30,81,[.tmp 2],[31]⟩:=by kernel_rfl
theorem qiu:pol.ow 12=[]∧pol.fz 12=true∧pol.ro 12=false∧pol.pr 12=none:=⟨rfl,rfl,rfl,rfl⟩
noncomputable def q77:Code:=(Try.f14.body).getD .skip
theorem qgO:qH Try.prog pol 14=some ⟨q77,17,[.tmp 2],[4]⟩:=by kernel_rfl
theorem qhU:pol.ow 14=[]∧pol.fz 14=false∧pol.ro 14=false∧pol.pr 14=none:=⟨rfl,rfl,rfl,rfl⟩
noncomputable def q5y:Code:=(Try.f16.body).getD .skip
theorem qfN:qH Try.prog pol 16=some ⟨q5y,26,[.tmp 4],[4]⟩:=by kernel_rfl
theorem qhZ:pol.ow 16=[]∧pol.fz 16=false∧pol.ro 16=false∧pol.pr 16=none:=⟨rfl,rfl,rfl,rfl⟩
noncomputable def q5s:Code:=(Try.f17.body).getD .skip
theorem qfO:qH Try.prog pol 17=some ⟨q5s,31,[.tmp 2],[33]⟩:=by kernel_rfl
theorem qii:pol.ow 17=[]∧pol.fz 17=true∧pol.ro 17=false∧pol.pr 17=none:=⟨rfl,rfl,rfl,rfl⟩
noncomputable def q7b:Code:=(Try.f20.body).getD .skip
theorem qgR:qH Try.prog pol 20=some ⟨q7b,18,[.cell 4 35,.tmp 5],[35,4]⟩:=by kernel_rfl
theorem qhx:pol.ow 20=[]∧pol.fz 20=true∧pol.ro 20=false∧pol.pr 20=none:=⟨rfl,rfl,rfl,rfl⟩
noncomputable def q6X:Code:=(Try.f23.body).getD .skip
theorem qhk:qH Try.prog pol 23=some ⟨q6X,9,[.tmp 4],[33]⟩:=by kernel_rfl
theorem qhK:pol.ow 23=[]∧pol.fz 23=true∧pol.ro 23=false∧pol.pr 23=none:=⟨rfl,rfl,rfl,rfl⟩
noncomputable def q8z:Code:=(Try.f25.body).getD .skip
theorem qfY:qH Try.prog pol 25=some ⟨q8z,22,[.tmp 6],[4]⟩:=by kernel_rfl
theorem qin:pol.ow 25=[]∧pol.fz 25=false∧pol.ro 25=false∧pol.pr 25=none:=⟨rfl,rfl,rfl,rfl⟩
noncomputable def q7H:Code:=(Try.f27.body).getD .skip
theorem qgE:qH Try.prog pol 27=some ⟨q7H,9,[.tmp 4],[4]⟩:=by kernel_rfl
theorem qhw:pol.ow 27=[]∧pol.fz 27=false∧pol.ro 27=false∧pol.pr 27=none:=⟨rfl,rfl,rfl,rfl⟩
noncomputable def q5D:Code:=(Try.f32.body).getD .skip
theorem qfI:qH Try.prog pol 32=some ⟨q5D,28,[.cell 2 35],[35]⟩:=by kernel_rfl
theorem qig:pol.ow 32=[]∧pol.fz 32=true∧pol.ro 32=false∧pol.pr 32=none:=⟨rfl,rfl,rfl,rfl⟩
noncomputable def q8g:Code:=(Try.f33.body).getD .skip
theorem qg2:qH Try.prog pol 33=some ⟨q8g,15,[.tmp 0],[25]⟩:=by kernel_rfl
theorem qi7:pol.ow 33=[]∧pol.fz 33=true∧pol.ro 33=true∧pol.pr 33=none:=⟨rfl,rfl,rfl,rfl⟩
noncomputable def q7Y:Code:=(Try.f38.body).getD .skip
theorem qgB:qH Try.prog pol 38=some ⟨q7Y,36,[.tmp 2],[31]⟩:=by kernel_rfl
theorem qhI:pol.ow 38=[]∧pol.fz 38=false∧pol.ro 38=false∧pol.pr 38=none:=⟨rfl,rfl,rfl,rfl⟩
noncomputable def q5i:Code:=(Try.f39.body).getD .skip
theorem qfG:qH Try.prog pol 39=some ⟨q5i,31,[.tmp 2],[65]⟩:=by kernel_rfl
theorem qhN:pol.ow 39=[]∧pol.fz 39=true∧pol.ro 39=false∧pol.pr 39=none:=⟨rfl,rfl,rfl,rfl⟩
noncomputable def q76:Code:=(Try.f40.body).getD .skip
theorem qfr:qH Try.prog pol 40=some ⟨q76,9,[.tmp 4],[4]⟩:=by kernel_rfl
theorem qgo:pol.ow 40=[]∧pol.fz 40=false∧pol.ro 40=false∧pol.pr 40=none:=⟨rfl,rfl,rfl,rfl⟩
noncomputable def q75:Code:=(Try.f41.body).getD .skip
theorem qg6:qH Try.prog pol 41=some ⟨q75,14,[.tmp 3],[4]⟩:=by kernel_rfl
theorem qhu:pol.ow 41=[]∧pol.fz 41=false∧pol.ro 41=false∧pol.pr 41=none:=⟨rfl,rfl,rfl,rfl⟩
noncomputable def q8K:Code:=(Try.f42.body).getD .skip
theorem qg8:qH Try.prog pol 42=some ⟨q8K,9,[.tmp 4],[4]⟩:=by kernel_rfl
theorem qhY:pol.ow 42=[]∧pol.fz 42=false∧pol.ro 42=false∧pol.pr 42=none:=⟨rfl,rfl,rfl,rfl⟩
noncomputable def q7z:Code:=(Try.f43.body).getD .skip
theorem qhf:qH Try.prog pol 43=some ⟨q7z,15,[.tmp 4],[33]⟩:=by kernel_rfl
theorem qht:pol.ow 43=[]∧pol.fz 43=true∧pol.ro 43=false∧pol.pr 43=none:=⟨rfl,rfl,rfl,rfl⟩
noncomputable def q7r:Code:=(Try.f45.body).getD .skip
theorem qgI:qH Try.prog pol 45=some ⟨q7r,17,[.tmp 2],[4]⟩:=by kernel_rfl
theorem qhO:pol.ow 45=[]∧pol.fz 45=false∧pol.ro 45=false∧pol.pr 45=none:=⟨rfl,rfl,rfl,rfl⟩
noncomputable def q7Q:Code:=(Try.f46.body).getD .skip
theorem qga:qH Try.prog pol 46=some ⟨q7Q,8,[.tmp 4],[3]⟩:=by kernel_rfl
theorem qim:pol.ow 46=[]∧pol.fz 46=false∧pol.ro 46=false∧pol.pr 46=none:=⟨rfl,rfl,rfl,rfl⟩
theorem qi4:pol.ow 47=[]∧pol.fz 47=false∧pol.ro 47=true∧pol.pr 47=some (pr0 (Jg T 35 true)):=⟨rfl,rfl,rfl,rfl⟩
noncomputable def q5w:Code:=(Try.f48.body).getD .skip
theorem qdm:qH Try.prog pol 48=some ⟨q5w,19,[.tmp 4],[3]⟩:=by kernel_rfl
theorem qgw:pol.ow 48=[]∧pol.fz 48=false∧pol.ro 48=false∧pol.pr 48=none:=⟨rfl,rfl,rfl,rfl⟩
noncomputable def q6S:Code:=(Try.f49.body).getD .skip
theorem qg5:qH Try.prog pol 49=some ⟨q6S,8,[.tmp 3],[4]⟩:=by kernel_rfl
theorem qib:pol.ow 49=[]∧pol.fz 49=false∧pol.ro 49=false∧pol.pr 49=none:=⟨rfl,rfl,rfl,rfl⟩
noncomputable def q6Z:Code:=(Try.f50.body).getD .skip
theorem qho:qH Try.prog pol 50=some ⟨q6Z,9,[.tmp 4],[4]⟩:=by kernel_rfl
theorem qip:pol.ow 50=[]∧pol.fz 50=false∧pol.ro 50=false∧pol.pr 50=none:=⟨rfl,rfl,rfl,rfl⟩
theorem qhM:pol.ow 51=[0]∧pol.fz 51=false∧pol.ro 51=false∧pol.pr 51=some (q67 35 5):=⟨rfl,rfl,rfl,rfl⟩
noncomputable def q87:Code:=(Try.f52.body).getD .skip
theorem qgc:qH Try.prog pol 52=some ⟨q87,8,[.tmp 3],[4]⟩:=by kernel_rfl
theorem qiv:pol.ow 52=[]∧pol.fz 52=false∧pol.ro 52=false∧pol.pr 52=none:=⟨rfl,rfl,rfl,rfl⟩
noncomputable def q6I:Code:=(Try.f53.body).getD .skip
theorem qh3:qH Try.prog pol 53=some ⟨q6I,12,[.cell 2 35],[35]⟩:=by kernel_rfl
theorem qix:pol.ow 53=[]∧pol.fz 53=true∧pol.ro 53=false∧pol.pr 53=none:=⟨rfl,rfl,rfl,rfl⟩
noncomputable def q7q:Code:=(Try.f55.body).getD .skip
theorem qfL:qH Try.prog pol 55=some ⟨q7q,9,[.tmp 4],[4]⟩:=by kernel_rfl
theorem qgf:pol.ow 55=[]∧pol.fz 55=false∧pol.ro 55=false∧pol.pr 55=none:=⟨rfl,rfl,rfl,rfl⟩
noncomputable def q8e:Code:=(Try.f56.body).getD .skip
theorem qgl:qH Try.prog pol 56=some ⟨q8e,8,[.tmp 3],[4]⟩:=by kernel_rfl
theorem qhG:pol.ow 56=[]∧pol.fz 56=false∧pol.ro 56=false∧pol.pr 56=none:=⟨rfl,rfl,rfl,rfl⟩
noncomputable def q88:Code:=(Try.f57.body).getD .skip
theorem qgA:qH Try.prog pol 57=some ⟨q88,9,[.tmp 4],[4]⟩:=by kernel_rfl
theorem qil:pol.ow 57=[]∧pol.fz 57=false∧pol.ro 57=false∧pol.pr 57=none:=⟨rfl,rfl,rfl,rfl⟩
noncomputable def q7m:Code:=(Try.f58.body).getD .skip
theorem qgK:qH Try.prog pol 58=some ⟨q7m,9,[.tmp 2],[4]⟩:=by kernel_rfl
theorem qik:pol.ow 58=[]∧pol.fz 58=false∧pol.ro 58=false∧pol.pr 58=none:=⟨rfl,rfl,rfl,rfl⟩
noncomputable def q5A:Code:=(Try.f59.body).getD .skip
theorem qfK:qH Try.prog pol 59=some ⟨q5A,20,[.tmp 2],[4]⟩:=by kernel_rfl
theorem qhV:pol.ow 59=[]∧pol.fz 59=false∧pol.ro 59=false∧pol.pr 59=none:=⟨rfl,rfl,rfl,rfl⟩
noncomputable def q5Q:Code:=(Try.f60.body).getD .skip
theorem qfx:qH Try.prog pol 60=some ⟨q5Q,20,[.tmp 2],[4]⟩:=by kernel_rfl
theorem qiy:pol.ow 60=[]∧pol.fz 60=false∧pol.ro 60=false∧pol.pr 60=none:=⟨rfl,rfl,rfl,rfl⟩
noncomputable def q5B:Code:=(Try.f61.body).getD .skip
theorem qf7:qH Try.prog pol 61=some ⟨q5B,19,[.tmp 4],[3]⟩:=by kernel_rfl
theorem qgC:pol.ow 61=[]∧pol.fz 61=false∧pol.ro 61=false∧pol.pr 61=none:=⟨rfl,rfl,rfl,rfl⟩
noncomputable def q58:Code:=(Try.f62.body).getD .skip
theorem qfH:qH Try.prog pol 62=some ⟨q58,19,[.tmp 4],[3]⟩:=by kernel_rfl
theorem qhE:pol.ow 62=[]∧pol.fz 62=false∧pol.ro 62=false∧pol.pr 62=none:=⟨rfl,rfl,rfl,rfl⟩
noncomputable def q5U:Code:=(Try.f63.body).getD .skip
theorem qfn:qH Try.prog pol 63=some ⟨q5U,25,[],[]⟩:=by kernel_rfl
theorem qfy:pol.ow 63=[]∧pol.fz 63=false∧pol.ro 63=false∧pol.pr 63=none:=⟨rfl,rfl,rfl,rfl⟩
theorem qif:pol.ow 64=[]∧pol.fz 64=true∧pol.ro 64=false∧pol.pr 64=some (qdr 74):=⟨rfl,rfl,rfl,rfl⟩
noncomputable def q7R:Code:=(Try.f65.body).getD .skip
theorem qgp:qH Try.prog pol 65=some ⟨q7R,4,[.tmp 2],[84]⟩:=by kernel_rfl
theorem qhL:pol.ow 65=[]∧pol.fz 65=true∧pol.ro 65=false∧pol.pr 65=none:=⟨rfl,rfl,rfl,rfl⟩
noncomputable def q5X:Code:=(Try.f66.body).getD .skip
theorem qfw:qH Try.prog pol 66=some ⟨q5X,21,[.tmp 6],[3]⟩:=by kernel_rfl
theorem qhC:pol.ow 66=[]∧pol.fz 66=false∧pol.ro 66=false∧pol.pr 66=none:=⟨rfl,rfl,rfl,rfl⟩
noncomputable def q8P:Code:=(Try.f67.body).getD .skip
theorem qhs:qH Try.prog pol 67=some ⟨q8P,8,[.tmp 3],[4]⟩:=by kernel_rfl
theorem qi3:pol.ow 67=[]∧pol.fz 67=false∧pol.ro 67=false∧pol.pr 67=none:=⟨rfl,rfl,rfl,rfl⟩
theorem qij:pol.ow 68=[]∧pol.fz 68=false∧pol.ro 68=false∧pol.pr 68=some (pr0 (Jg T 3 false)):=⟨rfl,rfl,rfl,rfl⟩
theorem qit:pol.ow 69=[]∧pol.fz 69=false∧pol.ro 69=false∧pol.pr 69=some (pr0 (Jg T 9 false)):=⟨rfl,rfl,rfl,rfl⟩
noncomputable def q60:Code:=(Try.f70.body).getD .skip
theorem qeE:qH Try.prog pol 70=some ⟨q60,19,[.tmp 4],[3]⟩:=by kernel_rfl
theorem qfX:pol.ow 70=[]∧pol.fz 70=false∧pol.ro 70=false∧pol.pr 70=none:=⟨rfl,rfl,rfl,rfl⟩
noncomputable def q5j:Code:=(Try.f71.body).getD .skip
theorem qfA:qH Try.prog pol 71=some ⟨q5j,19,[.tmp 4],[3]⟩:=by kernel_rfl
theorem qi0:pol.ow 71=[]∧pol.fz 71=false∧pol.ro 71=false∧pol.pr 71=none:=⟨rfl,rfl,rfl,rfl⟩
theorem qcU:pol.kp 12 23=[6,71]∧pol.rw 12 23=[]∧pol.kx 12 23=[2]:=⟨rfl,rfl,rfl⟩
theorem qcI:pol.kp 12 18=[6,62]∧pol.rw 12 18=[]∧pol.kx 12 18=[2,6]:=⟨rfl,rfl,rfl⟩
theorem qez:pol.kp 12 4=[0,13,14,15]∧pol.rw 12 4=[]∧pol.kx 12 4=[0,2]:=⟨rfl,rfl,rfl⟩
theorem qdp:pol.kp 16 4=[0,1,5]∧pol.rw 16 4=[]∧pol.kx 16 4=[4]:=⟨rfl,rfl,rfl⟩
theorem qdg:pol.kp 17 5=[3,4]∧pol.rw 17 5=[.cell 3 0 9 1]∧pol.kx 17 5=[3]:=⟨rfl,rfl,rfl⟩
theorem qdV:pol.kp 32 3=[0,2,3,4]∧pol.rw 32 3=[.cell 3 3 3 1]∧pol.kx 32 3=[2,3]:=⟨rfl,rfl,rfl⟩
theorem qef:pol.kp 39 3=[3,9,10,11]∧pol.rw 39 3=[]∧pol.kx 39 3=[3]:=⟨rfl,rfl,rfl⟩
theorem qec:pol.kp 48 2=[0,1,7,8]∧pol.rw 48 2=[]∧pol.kx 48 2=[4]:=⟨rfl,rfl,rfl⟩
theorem qex:pol.kp 59 2=[0,3]∧pol.rw 59 2=[]∧pol.kx 59 2=[2]:=⟨rfl,rfl,rfl⟩
theorem qeg:pol.kp 60 2=[0,3]∧pol.rw 60 2=[]∧pol.kx 60 2=[2]:=⟨rfl,rfl,rfl⟩
theorem qeI:pol.kp 61 2=[0,1,7,8]∧pol.rw 61 2=[]∧pol.kx 61 2=[4]:=⟨rfl,rfl,rfl⟩
theorem qdf:pol.kp 62 2=[0,1,7,8]∧pol.rw 62 2=[]∧pol.kx 62 2=[4]:=⟨rfl,rfl,rfl⟩
theorem qeb:pol.kp 63 1=[2,3,9,10,11]∧pol.rw 63 1=[]∧pol.kx 63 1=[]:=⟨rfl,rfl,rfl⟩
theorem qdv:pol.kp 66 2=[1,2,10]∧pol.rw 66 2=[]∧pol.kx 66 2=[6]:=⟨rfl,rfl,rfl⟩
theorem qf8:pol.kp 70 2=[0,1,7,8]∧pol.rw 70 2=[]∧pol.kx 70 2=[4]:=⟨rfl,rfl,rfl⟩
theorem qf0:pol.kp 71 2=[0,1,7,8]∧pol.rw 71 2=[]∧pol.kx 71 2=[4]:=⟨rfl,rfl,rfl⟩
noncomputable def q3K:Code:=(zP 23 q30).getD .skip
noncomputable def q3A:Code:=(zP 18 q30).getD .skip
noncomputable def q8O:Code:=(zP 4 q30).getD .skip
noncomputable def q6O:Code:=(zP 4 q5y).getD .skip
noncomputable def q7s:Code:=(zP 5 q5s).getD .skip
noncomputable def q8G:Code:=(zP 3 q5D).getD .skip
noncomputable def q7U:Code:=(zP 3 q5i).getD .skip
noncomputable def q5P:Code:=(zP 2 q5w).getD .skip
noncomputable def q8C:Code:=(zP 2 q5A).getD .skip
noncomputable def q8p:Code:=(zP 2 q5Q).getD .skip
noncomputable def q5O:Code:=(zP 2 q5B).getD .skip
noncomputable def q8q:Code:=(zP 2 q58).getD .skip
noncomputable def q8m:Code:=(zP 1 q5U).getD .skip
noncomputable def q7w:Code:=(zP 2 q5X).getD .skip
noncomputable def q5n:Code:=(zP 2 q60).getD .skip
noncomputable def q8X:Code:=(zP 2 q5j).getD .skip
theorem qh5:qgh Try.prog pol:=by
 intro f g k args G r G' hf hg
 unfold pol ppr at hf
 simp only at hf
 split at hf
 ·injection hf with hf;subst hf;refine q7d (fun _ _ _ hg=>?_) hg;exact q1k qcW (fn:=Try.f47) (t:=25) (e:=35) (bt:=4) (by kernel_rfl) (by kernel_rfl) (by kernel_rfl) (by kernel_rfl) (by kernel_rfl) k25 (by rw[k35];simp) (by rw[z35];decide) (by kernel_rfl) hg
 ·injection hf with hf;subst hf;refine q7d (fun _ _ _ hg=>?_) hg;exact q1k qcW (fn:=Try.f68) (t:=22) (e:=3) (bt:=4) (by kernel_rfl) (by kernel_rfl) (by kernel_rfl) (by kernel_rfl) (by kernel_rfl) k22 (by rw[k3];simp) (by rw[z3];decide) (by kernel_rfl) hg
 ·injection hf with hf;subst hf;refine q7d (fun _ _ _ hg=>?_) hg;exact q1k qcW (fn:=Try.f69) (t:=33) (e:=9) (bt:=4) (by kernel_rfl) (by kernel_rfl) (by kernel_rfl) (by kernel_rfl) (by kernel_rfl) k33 (by rw[k9];simp) (by rw[z9];decide) (by kernel_rfl) hg
 ·injection hf with hf;subst hf;exact qcV (et:=9) (fn:=Try.f64) (by kernel_rfl) (by kernel_rfl) (by kernel_rfl) (qgx sk6 qjF (Any.slices_Sort_string q8Y) (Any.slices_Sort_string_none q8Y) (Go.Proofs.enters_of Try.func73 (by kernel_rfl) rfl) (Go.Proofs.enters_of Try.func74 (by kernel_rfl) rfl)) hg
 ·injection hf with hf;subst hf;exact q9K (fn:=Try.f51) (by kernel_rfl) (by kernel_rfl) (by kernel_rfl) qgL hg
 ·cases hf
end Go.Proofs.Ytcdegieiflmaeaa.Vc
namespace Go.Proofs.Ytcdegieiflmaeaa.Vc
open Go.RowKit
theorem Zp {α β:Type} {c:Prop} [Decidable c] (a b:Option α) (f:α→Option β):(if c then a else b).bind f=if c then a.bind f else b.bind f:=by split<;>rfl
theorem mixed:(Try.prog).follows .mixedOrders=true:=by kernel_rfl
noncomputable def evo:Orc:=EE Try.prog T pol (D1 Try.prog T pol)
noncomputable def ev (f:FuncId):Nat→List R→List (Nat×B)→Option (R×List (Nat×B)):=evo (.fn f)
noncomputable def evr (f:FuncId) (asg bd:Code):Nat→List R→List (Nat×B)→Option (R×List (Nat×B)):=evo (.rd f asg bd)
theorem qgJ {f k:Nat} {args:List R} {G G':List (Nat×B)} {r:R} (h:ev f k args G=some (r,G')):AC Try.prog f args G k fun r' hp'=>r'=r∧hp'=G':=(qeV qcW (qgU qcW mixed) qh5).fn f k args G r G' h
noncomputable def bkk (id:Nat) (r:XS):XS:=r.bind (bkD id)
def rgn (o:Option S):XS:=o.bind fun s'=>some (.normal,s')
noncomputable def fnn (f k:Nat) (res:List ResultVar) (rt:List TypeId) (r:XS):Option (R×List (Nat×B)):=r.bind (qea T pol f k ⟨.skip,0,res,rt⟩)
section
variable {f k:Nat} {s:S} {b:Code} {c:Prop} [Decidable c] {x y:XS} {α:Type} {o:Option α} {g:α→XS}
theorem q69 (i:Nat):bkk i (some (.normal,s))=some (.normal,s):=rfl
theorem qcT (i:Nat):bkk i (some (.ret,s))=some (.ret,s):=rfl
theorem qan (i j:Nat):bkk i (some (.exit j,s))=if j=i then some (.normal,s) else some (.exit j,s):=rfl
theorem qaw (i:Nat):bkk i none=none:=rfl
theorem qce (i:Nat):bkk i (if c then x else y)=if c then bkk i x else bkk i y:=Zp _ _ _
theorem q9j (i:Nat):bkk i (o.bind g)=o.bind fun a=>bkk i (g a):=by cases o<;>rfl
theorem q9R:rgn (some s)=some (.normal,s):=rfl
theorem q9G:rgn none=none:=rfl
theorem qbG (x y:Option S):rgn (if c then x else y)=if c then rgn x else rgn y:=Zp _ _ _
theorem qa5 (g:α→Option S):rgn (o.bind g)=o.bind fun a=>rgn (g a):=by cases o<;>rfl
theorem q9u (res:List ResultVar) (rt:List TypeId) (p:Exit×S):fnn f k res rt (some p)=qea T pol f k ⟨.skip,0,res,rt⟩ p:=rfl
theorem qaq (res:List ResultVar) (rt:List TypeId):fnn f k res rt none=none:=rfl
theorem qbB (res:List ResultVar) (rt:List TypeId):fnn f k res rt (if c then x else y)=if c then fnn f k res rt x else fnn f k res rt y:=Zp _ _ _
theorem q9k (res:List ResultVar) (rt:List TypeId):fnn f k res rt (o.bind g)=o.bind fun a=>fnn f k res rt (g a):=by cases o<;>rfl
end
theorem q6l (f k:Nat) (args:List R) (G:List (Nat×B)):ev f k args G=match pol.pr f with
 | some g=>prx g k args G
 | none=>(qH Try.prog pol f).bind fun bd=>q1e Try.prog T pol (D1 Try.prog T pol) evo Lim f k args G bd:=qhg q2C qbi f k args G
section
variable {f k n:Nat} {s:S} {asg bd:Code} {c:Prop} [Decidable c] {x y:XS} {α:Type} {o:Option α} {g:α→XS}
end
def wst (q:RS) (d:Option Nat):Option S:=q.bind fun q=>if q3o q.2 d=true then some (q.2.put d q.1) else none
def wsF (q:RS) (s:S) (o:Oper):Option (S×Tx):=q.bind fun q=>if q3o q.2 o.dst=true then(qaj pol s q.2 q.1 o.op).bind fun fp=>some ((q.2.kill fp.ks).put o.dst q.1,(q.1,fp.wb.map fun x=>(x,q.2.blk x)),fp) else none
def cll (q:Option (R×List (Nat×B))) (s:S) (bl rw ln:List Nat):RS:=q.bind fun q=>if qcH ln q.1 q.2=true then some (q.1.rn (ren (bl++rw) s.nx),s.aft (bl++rw) bl.length q.2) else none
section
variable {s:S} {o:Oper} {c:Prop} [Decidable c] {α:Type} {v:Option α} {ops l:List Oper} {A:List (List Nat)} {s0:S} {m:Nat} {acc:List Tx}
theorem qav (r:R) (d:Option Nat):wst (some (r,s)) d=if q3o s d=true then some (s.put d r) else none:=rfl
theorem q9L (d:Option Nat):wst none d=none:=rfl
theorem qck (x y:RS) (d:Option Nat):wst (if c then x else y) d=if c then wst x d else wst y d:=Zp _ _ _
theorem q9y (g:α→RS) (d:Option Nat):wst (v.bind g) d=v.bind fun a=>wst (g a) d:=by cases v<;>rfl
theorem qar (r:R) (s':S):wsF (some (r,s')) s o=if q3o s' o.dst=true then(qaj pol s s' r o.op).bind fun fp=>some ((s'.kill fp.ks).put o.dst r,(r,fp.wb.map fun x=>(x,s'.blk x)),fp) else none:=rfl
theorem q96:wsF none s o=none:=rfl
theorem qcq (x y:RS):wsF (if c then x else y) s o=if c then wsF x s o else wsF y s o:=Zp _ _ _
theorem q9T (g:α→RS):wsF (v.bind g) s o=v.bind fun a=>wsF (g a) s o:=by cases v<;>rfl
theorem q9I (r:R) (hp:List (Nat×B)) (bl rw ln:List Nat):cll (some (r,hp)) s bl rw ln=if qcH ln r hp=true then some (r.rn (ren (bl++rw) s.nx),s.aft (bl++rw) bl.length hp) else none:=rfl
theorem q9H (g:α→Option (R×List (Nat×B))) (bl rw ln:List Nat):cll (v.bind g) s bl rw ln=v.bind fun a=>cll (g a) s bl rw ln:=by cases v<;>rfl
end
def ldx (T:Ty) (cs:List C) (off:Nat) (t:TypeId):Option R:=
 match T.k t with
 | .st _ | .arr _ _=>if off+T.sz t≤cs.length then some (.agg ((cs.drop off).take (T.sz t))) else none
 | .other=>none
 | _=>(cs[off]?).map .c
theorem qco (c:C) (cs:List C) (off:Nat) (t:TypeId):ld T (c::cs) off t=ldx T (c::cs) off t:=rfl
section
variable {α:Type} {enc:α→List D} {sz:Nat}
theorem q15 (hsz:∀x,(enc x).length=sz):∀l:List α,(l.flatMap enc).length=l.length*sz
 | []=>by simp
 | x::l=>by rw[List.flatMap_cons,List.length_append,hsz,q15 hsz l,List.length_cons,Nat.add_mul];omega
theorem q48 (hsz:∀x,(enc x).length=sz):∀(l:List α) (k:Nat) (x:α),l[k]?=some x→∃post,(l.flatMap enc).drop (k*sz)=enc x++post
 | [],k,x,h=>by simp at h
 | y::l,0,x,h=>by
  simp only[List.getElem?_cons_zero,Option.some.injEq] at h
  subst h
  exact⟨l.flatMap enc,by simp⟩
 | y::l,k+1,x,h=>by
  obtain⟨post,hp⟩:=q48 hsz l k x (by simpa using h)
  refine⟨post,?_⟩
  rw[List.flatMap_cons,show(k+1)*sz=(enc y).length+k*sz by rw[hsz,Nat.add_mul];omega,List.drop_length_add_append]
  exact hp
theorem q8t (hsz:∀x,(enc x).length=sz) (l:List α) (k fo:Nat) (t:TypeId) (h0:0<T.sz t) (hf:fo+T.sz t≤sz):ld T ((l.flatMap enc).map C.d) (k*sz+fo) t=(l[k]?).bind fun x=>ld T ((enc x).map C.d) fo t:=by
 have hl:=q15 hsz l
 cases hk:l[k]? with
 | none=>
  have hle:l.length≤k:=by simpa using hk
  have hle2:l.length*sz≤k*sz:=Nat.mul_le_mul_right _ hle
  show ld T _ _ t=none
  unfold ld
  split
  ·rw[if_neg (by rw[List.length_map,hl];omega)]
  ·rw[if_neg (by rw[List.length_map,hl];omega)]
  ·rfl
  ·rw[List.getElem?_eq_none (by rw[List.length_map,hl];omega)];rfl
 | some x=>
  obtain⟨post,hp⟩:=q48 hsz l k x hk
  have hx:=hsz x
  have hlen:k*sz+sz≤l.length*sz:=by
   have:k<l.length:=(List.getElem?_eq_some_iff.1 hk).1
   have:=Nat.mul_le_mul_right sz (show k+1≤l.length from this)
   rw[Nat.add_mul] at this;omega
  have hd:∀n,n+fo≤sz→(((l.flatMap enc).map C.d).drop (k*sz+fo)).take n=(((enc x).map C.d).drop fo).take n:=fun n hn=>by
   rw[←List.drop_drop,←List.map_drop,hp,List.map_append,List.drop_append_of_le_length (by simp[hx];omega),List.take_append_of_le_length (by simp[hx];omega)]
  show _=ld T _ fo t
  unfold ld
  split
  ·rw[if_pos (by rw[List.length_map,hl];omega),if_pos (by rw[List.length_map,hx];omega),hd _ (by omega)]
  ·rw[if_pos (by rw[List.length_map,hl];omega),if_pos (by rw[List.length_map,hx];omega),hd _ (by omega)]
  ·rfl
  ·have h1:(((l.flatMap enc).map C.d).drop (k*sz))[fo]?=((enc x).map C.d)[fo]?:=by
    rw[←List.map_drop,hp,List.map_append,List.getElem?_append_left (by simp[hx];omega)]
   rw[List.getElem?_drop] at h1
   rw[h1]
theorem q3p (hsz:∀x,(enc x).length=1) (l:List α) (k:Nat) (t:TypeId) (h:T.sz t=1):ld T ((l.flatMap enc).map C.d) k t=(l[k]?).bind fun x=>ld T ((enc x).map C.d) 0 t:=by
 have:=q8t hsz l k 0 t (by omega) (by omega)
 rwa [Nat.add_zero,Nat.mul_one] at this
theorem q5Y (hsz:∀x,(enc x).length=sz) (l:List α) (k:Nat) (t:TypeId) (h0:0<T.sz t) (hf:T.sz t≤sz):ld T ((l.flatMap enc).map C.d) (k*sz) t=(l[k]?).bind fun x=>ld T ((enc x).map C.d) 0 t:=by
 have:=q8t hsz l k 0 t h0 (by omega)
 rwa [Nat.add_zero] at this
end
theorem qcL (i:Nat) (ds:List D):(ds.map C.d).all (C.far i)=true:=by rw[List.all_map];exact List.all_eq_true.2 fun _ _=>rfl
theorem q81 (ds:List D):(ds.map C.d).all C.known=true:=by rw[List.all_map];exact List.all_eq_true.2 fun _ _=>rfl
theorem q99 (ds:List D):(ds.map C.d).flatMap C.rows=[]:=by rw[List.flatMap_map];exact List.flatMap_eq_nil_iff.2 fun _ _=>rfl
theorem qdi (b:Builtin) (args:Array Operand) (ts:Array TypeId):(Call.operands { callee := .builtin b,args:=args,argTypes:=ts }).toList=args.toList:=by simp[Call.operands]
theorem qdT (f:Operand) (args:Array Operand) (ts:Array TypeId):(Call.operands { callee := .value f,args:=args,argTypes:=ts }).toList=f::args.toList:=by simp[Call.operands]
theorem qf4 (i:Nat) (ds:List D):(ds.map C.d).map (C.fg i)=ds.map C.d:=by rw[List.map_map];rfl
theorem qc7 (X:List Nat) (ds:List D):(ds.map C.d).map (C.fgL X)=ds.map C.d:=by rw[List.map_map];rfl
end Go.Proofs.Ytcdegieiflmaeaa.Vc
namespace Go.Proofs.Ytcdegieiflmaeaa.Vc
open Go.RowKit
def ρ0:Pl:=⟨fun _=>none,fun _=>False⟩
def L0:Nat→Prop:=(Z5 [] 0).live
theorem qjG (b:Nat):¬ Occ L0 ρ0 b:=fun h=>by
 rcases h with h|⟨i,c,h1,h2⟩
 ·exact h
 ·cases h2
theorem rd0 {W:World} {v:Value} {d:D} (h:RD W (fun _=>False) v d):RD W (Occ L0 ρ0) v d:=h.occ fun b hb=>qjG b hb
theorem q7i {W:World} {v:Value} {d:D} (h:PV W [v] [d]):RR W L0 ρ0 v (.c (.d d)) := .c _ _ (.d _ _ (rd0 (h.2 0 v d rfl rfl)))
theorem q9l {f:FuncId} {rs:List R} {b:Bool} (h:ev f 0 rs []=some (.c (.d (.bool b)),[])) {W:World} {vs:Array Value} (hr:RRs W L0 ρ0 vs rs) :
  Calls Try.prog f vs W fun e W'=>e = .returned (.bool b)∧Below W.heap.size W W':=by
 have hac:=qgJ h
 have hnl:∀i,¬ (Z5 [] 0).live i:=fun i h=>by cases h
 have hs:Sim ⟨fun _=>False,W,ρ0,0,none⟩ ρ0 (Z5 [] 0) q39 W:=
  ⟨Hd.none,rfl,fun i => .any _,fun i b c h=>absurd h (hnl i),fun i h=>absurd h (hnl i),fun i b c h=>absurd h (hnl i),fun i j b c c' h=>absurd h (hnl i),fun i h=>absurd h (hnl i),q6n.refl _ _,fun b hb=>hb.elim,fun i hi=>absurd hi (Nat.not_lt_zero _),rfl,fun b hb=>hb.elim⟩
 refine(hac.call ⟨fun _=>False,W,ρ0,0,none⟩ ρ0 W vs rfl rfl rfl rfl hs hr).mono ?_
 rintro e W' ⟨v,r,hp',nx',ρ',rfl,⟨rfl,rfl⟩,h3,h4⟩
 rw[h4.inv_bool]
 exact⟨rfl,h3.kept.os,h3.kept.tape,h3.kept.output,h3.kept.size,fun k hk=>h3.kept.block k hk (fun h=>h)⟩
end Go.Proofs.Ytcdegieiflmaeaa.Vc
namespace Go.Proofs.Ytcdegieiflmaeaa.Vc
open Go.RowKit
set_option maxRecDepth 100000
abbrev w64 (n:Int):Int:=IntKind.i64.wrap n
def Qq:Code→List Code
 | .loop c=>c::Qq c
 | .seq a b=>Qq a++Qq b
 | .cond _ a b=>Qq a++Qq b
 | .block _ c=>Qq c
 | .rangeFunc _ _ a b=>Qq a++Qq b
 | _=>[]
def Q7:Code→List (Code×Code)
 | .rangeFunc _ _ a b=>(a,b)::(Q7 a++Q7 b)
 | .loop c=>Q7 c
 | .seq a b=>Q7 a++Q7 b
 | .cond _ a b=>Q7 a++Q7 b
 | .block _ c=>Q7 c
 | _=>[]
theorem q2q:∀(c b:Code),b∈Qq c→(∀b'∈Qq b,b'∈Qq c)∧∀q∈Q7 b,q∈Q7 c:=by
 intro c
 induction c with
 | loop c ih=>
  intro b hb
  rcases List.mem_cons.1 hb with rfl|hb
  ·exact⟨fun b' h=>List.mem_cons_of_mem _ h,fun q h=>h⟩
  ·exact⟨fun b' h=>List.mem_cons_of_mem _ ((ih b hb).1 b' h),fun q h=>(ih b hb).2 q h⟩
 | seq a c iha ihc=>
  intro b hb
  rcases List.mem_append.1 hb with hb|hb
  ·exact⟨fun b' h=>List.mem_append_left _ ((iha b hb).1 b' h),fun q h=>List.mem_append_left _ ((iha b hb).2 q h)⟩
  ·exact⟨fun b' h=>List.mem_append_right _ ((ihc b hb).1 b' h),fun q h=>List.mem_append_right _ ((ihc b hb).2 q h)⟩
 | cond x a c iha ihc=>
  intro b hb
  rcases List.mem_append.1 hb with hb|hb
  ·exact⟨fun b' h=>List.mem_append_left _ ((iha b hb).1 b' h),fun q h=>List.mem_append_left _ ((iha b hb).2 q h)⟩
  ·exact⟨fun b' h=>List.mem_append_right _ ((ihc b hb).1 b' h),fun q h=>List.mem_append_right _ ((ihc b hb).2 q h)⟩
 | rangeFunc g ps a c iha ihc=>
  intro b hb
  rcases List.mem_append.1 hb with hb|hb
  ·exact⟨fun b' h=>List.mem_append_left _ ((iha b hb).1 b' h),fun q h=>List.mem_cons_of_mem _ (List.mem_append_left _ ((iha b hb).2 q h))⟩
  ·exact⟨fun b' h=>List.mem_append_right _ ((ihc b hb).1 b' h),fun q h=>List.mem_cons_of_mem _ (List.mem_append_right _ ((ihc b hb).2 q h))⟩
 | block id c ih=>intro b hb;exact ih b hb
 | _=>intro b hb;cases hb
noncomputable def q2a (f:Nat):Code:=((qH Try.prog pol f).map Bd.code).getD .skip
noncomputable def lbO (f key:Nat):Code:=(zP key (q2a f)).getD .skip
noncomputable def raO (f key:Nat):Code:=((ZF key (q2a f)).getD (.skip,.skip)).1
noncomputable def rbO (f key:Nat):Code:=((ZF key (q2a f)).getD (.skip,.skip)).2
structure okL (f:Nat) (c:Code):Prop where
 lo:∀b∈Qq c,lbO f (qD b)=b
 ro:∀q∈Q7 c,raO f (qD q.2)=q.1∧rbO f (qD q.2)=q.2
theorem zi {f:Nat} {c:Code} (hc:q2a f=c) (h:(Qq c).map (fun b=>(zP (qD b) c).getD .skip)=Qq c) (h':(Q7 c).map (fun q=>(ZF (qD q.2) c).getD (.skip,.skip))=Q7 c):okL f c:=by
 refine⟨fun b hb=>?_,fun q hq=>?_⟩
 ·unfold lbO
  rw[hc]
  obtain⟨i,hi,rfl⟩:=List.mem_iff_getElem.1 hb
  have h1:((Qq c).map (fun b=>(zP (qD b) c).getD .skip))[i]?=(Qq c)[i]?:=by rw[h]
  rw[List.getElem?_map,List.getElem?_eq_getElem hi] at h1
  simpa using h1
 ·unfold raO rbO
  rw[hc]
  obtain⟨i,hi,rfl⟩:=List.mem_iff_getElem.1 hq
  have h1:((Q7 c).map (fun q=>(ZF (qD q.2) c).getD (.skip,.skip)))[i]?=(Q7 c)[i]?:=by rw[h']
  rw[List.getElem?_map,List.getElem?_eq_getElem hi] at h1
  simp only[Option.map_some,Option.some.injEq] at h1
  rw[h1]
  exact⟨rfl,rfl⟩
noncomputable def XEo (E:Orc) (f k:Nat):Code→S→XS:=XD Try.prog T pol E (D1 Try.prog T pol E f k) Lim f k
noncomputable def XL2 (E:Orc) (f k key:Nat) (s:S):XS:=Lim (fun s=>(XEo E f k (lbO f key) s).bind (lpx pol f key k)) s
noncomputable def XM2 (E:Orc) (f k key:Nat) (it:Operand) (s:S):XS:=mlp it (fun s=>(XEo E f k (lbO f key) s).bind (lpx pol f key k)) s
noncomputable def lp3 (E:Orc) (f k key:Nat) (o:Option Operand) (r:Option S):XS:=r.bind fun s=>match o with
 | none=>XL2 E f k key s
 | some it=>XM2 E f k key it s
def cnd (r:R) (x y:XS):XS:=
 match r with
 | .c (.d (.bool b))=>if b=true then x else y
 | _=>none
noncomputable def XE2 (E:Orc) (f k:Nat):Code→S→XS
 | .skip,s=>some (.normal,s)
 | .label _,s=>some (.normal,s)
 | .ret,s=>some (.ret,s)
 | .exit id,s=>some (.exit id,s)
 | .seq a b,s=>(XE2 E f k a s).bind (sqD fun s'=>XE2 E f k b s')
 | .block id c,s=>(XE2 E f k c s).bind (bkD id)
 | .cond c x y,s=>cnd (s.ev c) (XE2 E f k x (s.ly c tt)) (XE2 E f k y (s.ly c ff))
 | .loop c,s=>lp3 E f k (qD c) (ZI c) (nrm pol f (qD c) k s)
 | .rangeFunc g ps _ b,s=>xRF pol E f g ps.toList (raO f (qD b)) (rbO f (qD b)) ((s.dzr pol.q).frz (q2c (s.dzr pol.q) (pol.rk f (qD b))))
 | c,s=>XEo E f k c s
section
variable {E:Orc} {f k:Nat} {s:S}
theorem qgr (a b:Code):XEo E f k (.seq a b) s=(XEo E f k a s).bind (sqD fun s'=>XEo E f k b s'):=rfl
theorem qcP (i:Nat) (b:Code):XEo E f k (.block i b) s=(XEo E f k b s).bind (bkD i):=rfl
theorem qdA (p:Operand) (a b:Code):XEo E f k (.cond p a b) s=cnd (s.ev p) (XEo E f k a (s.ly p tt)) (XEo E f k b (s.ly p ff)):=rfl
theorem qe6 (b:Code):XEo E f k (.loop b) s=(nrm pol f (qD b) k s).bind fun s0=>lpM Lim (ZI b) (fun s=>(XEo E f k b s).bind (lpx pol f (qD b) k)) s0:=rfl
theorem qeS:XEo E f k .skip s=some (.normal,s):=rfl
theorem qcs (l:Nat):XEo E f k (.label l) s=some (.normal,s):=rfl
theorem qgs:XEo E f k .ret s=some (.ret,s):=rfl
theorem qfk (i:Nat):XEo E f k (.exit i) s=some (.exit i,s):=rfl
theorem qca (g:Operand) (ps:Array Tmp) (asg bd:Code):XEo E f k (.rangeFunc g ps asg bd) s=xRF pol E f g ps.toList asg bd ((s.dzr pol.q).frz (q2c (s.dzr pol.q) (pol.rk f (qD bd)))):=rfl
theorem qgz (a b:Code):XE2 E f k (.seq a b) s=(XE2 E f k a s).bind (sqD fun s'=>XE2 E f k b s'):=rfl
theorem qbY (i:Nat) (b:Code):XE2 E f k (.block i b) s=(XE2 E f k b s).bind (bkD i):=rfl
theorem qfl (p:Operand) (a b:Code):XE2 E f k (.cond p a b) s=cnd (s.ev p) (XE2 E f k a (s.ly p tt)) (XE2 E f k b (s.ly p ff)):=rfl
theorem qbg (g:Operand) (ps:Array Tmp) (asg bd:Code):XE2 E f k (.rangeFunc g ps asg bd) s=xRF pol E f g ps.toList (raO f (qD bd)) (rbO f (qD bd)) ((s.dzr pol.q).frz (q2c (s.dzr pol.q) (pol.rk f (qD bd)))):=rfl
theorem qep (b:Code):XE2 E f k (.loop b) s=lp3 E f k (qD b) (ZI b) (nrm pol f (qD b) k s):=rfl
end
theorem q8n {E:Orc} {f k:Nat}:∀(c:Code),okL f c→∀s,XEo E f k c s=XE2 E f k c s:=by
 intro c
 induction c with
 | seq a b iha ihb=>
  intro h s
  have h1:=iha ⟨fun x hx=>h.lo x (List.mem_append_left _ hx),fun x hx=>h.ro x (List.mem_append_left _ hx)⟩
  have h2:=ihb ⟨fun x hx=>h.lo x (List.mem_append_right _ hx),fun x hx=>h.ro x (List.mem_append_right _ hx)⟩
  rw[qgr,qgz,h1,funext h2]
 | block id c ih=>intro h s;rw[qcP,qbY,ih ⟨h.lo,h.ro⟩ s]
 | cond x a b iha ihb=>
  intro h s
  have h1:=iha ⟨fun x hx=>h.lo x (List.mem_append_left _ hx),fun x hx=>h.ro x (List.mem_append_left _ hx)⟩
  have h2:=ihb ⟨fun x hx=>h.lo x (List.mem_append_right _ hx),fun x hx=>h.ro x (List.mem_append_right _ hx)⟩
  rw[qdA,qfl,h1,h2]
 | loop c ih=>
  intro h s
  rw[qe6,qep]
  unfold lp3 lpM XL2 XM2
  rw[h.lo c List.mem_cons_self]
  cases ZI c<;>rfl
 | rangeFunc g ps a b _ _=>
  intro h s
  obtain⟨h1,h2⟩:=h.ro (a,b) List.mem_cons_self
  rw[qca,qbg]
  rw[h1,h2]
 | skip=>intro _ s;rw[qeS];rfl
 | label=>intro _ s;rw[qcs];rfl
 | ret=>intro _ s;rw[qgs];rfl
 | exit=>intro _ s;rw[qfk];rfl
 | _=>intro _ s;unfold XE2;rfl
noncomputable def th2 (E:Orc) (f k:Nat) (r:XS) (b:Code):XS:=r.bind (sqD fun s'=>XE2 E f k b s')
noncomputable def lp2 (E:Orc) (f k key:Nat) (o:Option S):XS:=o.bind fun s=>XL2 E f k key s
def lz2 (f k key:Nat) (r:XS):XS:=r.bind (lpx pol f key k)
def ly2 (e:Exit) (o:Option S):XS:=o.bind fun s=>some (e,s)
noncomputable def rs2 (E:Orc) (ops:List Oper) (o:Option S) (l:List Oper):Option S:=o.bind fun s=>xr Try.prog T pol E ops l s
noncomputable def qb9 (E:Orc) (ops:List Oper) (A:List (List Nat)) (s0:S) (m:Nat) (o:Option (S×Tx)) (l:List Oper) (acc:List Tx):Option S:=o.bind fun q=>xdp Try.prog T pol E ops A s0 m l q.1 (acc++[q.2])
section
variable {E:Orc} {f k key:Nat} {s:S} {b:Code} {c:Prop} [Decidable c] {x y:XS} {α β:Type} {o:Option α} {g:α→XS} {h:β→XS} {e:α⊕β}
theorem qcw:XE2 E f k .skip s=some (.normal,s):=rfl
theorem qd2:XE2 E f k .ret s=some (.ret,s):=rfl
theorem qbD (i:Nat):XE2 E f k (.exit i) s=some (.exit i,s):=rfl
theorem qey (a:Code):XE2 E f k (.seq a b) s=th2 E f k (XE2 E f k a s) b:=rfl
theorem qae (i:Nat):XE2 E f k (.block i b) s=bkk i (XE2 E f k b s):=rfl
theorem qbX (p:Operand) (a b:Code):XE2 E f k (.cond p a b) s=match s.ev p with | .c (.d (.bool t))=>if t=true then XE2 E f k a (s.ly p tt) else XE2 E f k b (s.ly p ff)|_=>none:=rfl
theorem q8f (i:Nat) (ops:Array Oper):XE2 E f k (.region i ops false) s=rgn (xr Try.prog T pol E ops.toList ops.toList s):=rfl
theorem qbT (i:Nat) (ops:Array Oper):XE2 E f k (.region i ops true) s=rgn (D1 Try.prog T pol E f k i ops.toList ((s.dzr pol.q).frz (q2c (s.dzr pol.q) (pol.rk f i)))):=rfl
theorem qbh:XE2 E f k (.loop b) s=lp3 E f k (qD b) (ZI b) (nrm pol f (qD b) k s):=rfl
theorem q9Z (r:Option S):lp3 E f k key none r=lp2 E f k key r:=rfl
theorem qa4 (it:Operand):lp3 E f k key (some it) (some s)=XM2 E f k key it s:=rfl
theorem q6k:th2 E f k (some (.normal,s)) b=XE2 E f k b s:=rfl
theorem qcK:th2 E f k (some (.ret,s)) b=some (.ret,s):=rfl
theorem qa6 (i:Nat):th2 E f k (some (.exit i,s)) b=some (.exit i,s):=rfl
theorem q9M:th2 E f k none b=none:=rfl
theorem qbP:th2 E f k (if c then x else y) b=if c then th2 E f k x b else th2 E f k y b:=Zp _ _ _
theorem q9A:th2 E f k (o.bind g) b=o.bind fun a=>th2 E f k (g a) b:=by cases o<;>rfl
theorem qbw:th2 E f k (Sum.elim g h e) b=Sum.elim (fun a=>th2 E f k (g a) b) (fun a=>th2 E f k (h a) b) e:=by cases e<;>rfl
theorem q9s:lp2 E f k key (some s)=XL2 E f k key s:=rfl
theorem q6d:lz2 f k key (some (.normal,s))=ly2 .normal (nrm pol f key k s):=rfl
theorem qby:lz2 f k key (some (.ret,s))=ly2 .ret (qaW k (pol.kx f key) (s.fin pol.q)):=rfl
theorem q9D (i:Nat):lz2 f k key (some (.exit i,s))=ly2 (.exit i) (qaW k (pol.kx f key) (s.fin pol.q)):=rfl
theorem qaK:lz2 f k key none=none:=rfl
theorem qcA:lz2 f k key (if c then x else y)=if c then lz2 f k key x else lz2 f k key y:=Zp _ _ _
theorem qa9:lz2 f k key (o.bind g)=o.bind fun a=>lz2 f k key (g a):=by cases o<;>rfl
theorem qaA (x:Exit):ly2 x (some s)=some (x,s):=rfl
theorem qcc (i:Nat):bkk i (Sum.elim g h e)=Sum.elim (fun a=>bkk i (g a)) (fun a=>bkk i (h a)) e:=by cases e<;>rfl
theorem qbS (res:List ResultVar) (rt:List TypeId):fnn f k res rt (Sum.elim g h e)=Sum.elim (fun a=>fnn f k res rt (g a)) (fun a=>fnn f k res rt (h a)) e:=by cases e<;>rfl
end
section
variable {E:Orc} {α β γ:Type} {e:α⊕β}
theorem q9p {δ:Type} (g:α→Option γ) (h:β→Option γ) (F:γ→Option δ):(Sum.elim g h e).bind F=Sum.elim (fun a=>(g a).bind F) (fun a=>(h a).bind F) e:=by cases e<;>rfl
end
section
variable {E:Orc} {s:S} {o:Oper} {c:Prop} [Decidable c] {α β:Type} {v:Option α} {e:α⊕β} {ops l:List Oper} {A:List (List Nat)} {s0:S} {m:Nat} {acc:List Tx}
theorem qjC:xst Try.prog T pol E o true s=wst (xo Try.prog T pol E (pre pol s o.op) o.op) o.dst:=rfl
theorem qiG:xst Try.prog T pol E o false s=if q3o s o.dst=true then some (s.put o.dst (.tup [])) else none:=rfl
theorem qhn:xsF Try.prog T pol E o true s=alX E s o (alC pol s o.op) (wsF (xo Try.prog T pol E s o.op) s o):=rfl
theorem qgq:xsF Try.prog T pol E o false s=if q3o s o.dst=true then some (s.put o.dst (.tup []),(.tup [],[]),⟨[],[],[],[],[]⟩) else none:=rfl
theorem qgZ:xr Try.prog T pol E ops [] s=some s:=rfl
theorem qee:xr Try.prog T pol E ops (o::l) s=rs2 E ops (xgd Try.prog T pol E ops o s) l:=rfl
theorem qfc:rs2 E ops (some s) l=xr Try.prog T pol E ops l s:=rfl
theorem qdk:rs2 E ops none l=none:=rfl
theorem qgv (x y:Option S):rs2 E ops (if c then x else y) l=if c then rs2 E ops x l else rs2 E ops y l:=Zp _ _ _
theorem qdw (g:α→Option S):rs2 E ops (v.bind g) l=v.bind fun a=>rs2 E ops (g a) l:=by cases v<;>rfl
theorem qff:xdp Try.prog T pol E ops A s0 0 l s acc=if okP A 0 [] acc=true∧okX ops A s0 acc 0 acc=true∧okK ops A acc=true∧okN acc 0 acc=true then xr Try.prog T pol E ops l s else none:=by cases l<;>rfl
theorem qdM:xdp Try.prog T pol E ops A s0 (m+1) (o::l) s acc=qb9 E ops A s0 m (xgF Try.prog T pol E ops o s) l acc:=rfl
theorem qbp (x:Tx):qb9 E ops A s0 m (some (s,x)) l acc=xdp Try.prog T pol E ops A s0 m l s (acc++[x]):=rfl
theorem qbv:qb9 E ops A s0 m none l acc=none:=rfl
theorem qeO (x y:Option (S×Tx)):qb9 E ops A s0 m (if c then x else y) l acc=if c then qb9 E ops A s0 m x l acc else qb9 E ops A s0 m y l acc:=Zp _ _ _
theorem qc5 (g:α→Option (S×Tx)):qb9 E ops A s0 m (v.bind g) l acc=v.bind fun a=>qb9 E ops A s0 m (g a) l acc:=by cases v<;>rfl
theorem qdX (g:FuncId) (zs:List (List Nat)) (rs:List R) (bl rw ln:List Nat):Zb E s g zs rs bl rw ln=(q6A s (bl++rw) ln zs rs).bind fun rs'=>(cvG s (bl++rw) (bl++rw) 0).bind fun G=>
  if(bl++rw).all (fun i=>(s.blk i).live)=true∧(bl++rw).Nodup∧ln.all (fun i=>(s.blk i).live && !(bl++rw).contains i)=true∧bl.length≤G.length∧(List.range G.length).all (fun j=>(lk G j .dead).isBlk==decide (j<bl.length))=true then cll (E (.fn g) bl.length rs' G) s bl rw ln else none:=rfl
end
theorem qdj (g k:Nat) (a:List R) (G:List (Nat×B)):evo (.fn g) k a G=ev g k a G:=rfl
noncomputable def q4x (E:Orc) (f k:Nat) (args:List R) (G:List (Nat×B)):Option (R×List (Nat×B)):=(qH Try.prog pol f).bind fun bd=>q1e Try.prog T pol (D1 Try.prog T pol) E Lim f k args G bd
theorem qg {f n:Nat} {c:Code} {res:List ResultVar} {rt:List TypeId} (hb:qH Try.prog pol f=some ⟨c,n,res,rt⟩):q2a f=c:=by unfold q2a;rw[hb];rfl
theorem q5S {E:Orc} {f n:Nat} {c:Code} {res:List ResultVar} {rt:List TypeId} (hb:qH Try.prog pol f=some ⟨c,n,res,rt⟩) (hl:okL f c) (k:Nat) (args:List R) (G:List (Nat×B)) :
  q4x E f k args G=if args.length≤n then fnn f k res rt (XE2 E f k c ⟨JX args 0,G,G.length,n⟩) else none:=by
 unfold q4x
 rw[hb,Option.bind_some]
 unfold q1e
 split
 ·show Option.bind (XEo E f k c _) _=_
  rw[q8n c hl]
  rfl
 ·rfl
theorem q83 {f k:Nat} (hp:pol.pr f=none) (args:List R) (G:List (Nat×B)):ev f k args G=q4x evo f k args G:=by rw[q6l,hp];rfl
theorem z8 {f n:Nat} {c:Code} {res:List ResultVar} {rt:List TypeId} (hb:qH Try.prog pol f=some ⟨c,n,res,rt⟩) (hp:pol.pr f=none) (hl:okL f c) (k:Nat) (args:List R) (G:List (Nat×B)) :
  ev f k args G=if args.length≤n then fnn f k res rt (XE2 evo f k c ⟨JX args 0,G,G.length,n⟩) else none:=by
 rw[q83 hp,q5S hb hl]
section
variable {σ ε:Type}
def itT (step:σ→Option (σ⊕ε)):Nat→σ→Option ε
 | 0,_=>none
 | n+1,x=>(step x).bind (Sum.elim (itT step n) some)
theorem q3H {step:σ→Option (σ⊕ε)}:∀{n m:Nat},n≤m→∀x r,itT step n x=some r→itT step m x=some r
 | 0,_,_,x,r,h=>by cases h
 | n+1,0,h,_,_,_=>by omega
 | n+1,m+1,h,x,r,hx=>by
  unfold itT at hx ⊢
  obtain⟨a,h1,h2⟩:=Option.bind_eq_some_iff.1 hx
  rw[h1,Option.bind_some]
  cases a with
  | inl y=>exact q3H (by omega) y r h2
  | inr e=>exact h2
noncomputable def Z9 (step:σ→Option (σ⊕ε)) (x:σ):Option ε:=open Classical in if h:∃r n,itT step n x=some r then some (Classical.choose h) else none
theorem q2t {step:σ→Option (σ⊕ε)} {n:Nat} {x:σ} {r:ε} (h:itT step n x=some r):Z9 step x=some r:=by
 have hex:∃r n,itT step n x=some r:=⟨r,n,h⟩
 unfold Z9
 rw[dif_pos hex]
 obtain⟨m,hm⟩:=Classical.choose_spec hex
 have h1:=q3H (Nat.le_max_left n m) _ _ h
 have h2:=q3H (Nat.le_max_right n m) _ _ hm
 rw[h1] at h2
 injection h2 with h2
 rw[←h2]
theorem q11 {step:σ→Option (σ⊕ε)} {x:σ} {r:ε} (h:Z9 step x=some r):∃n,itT step n x=some r:=by
 unfold Z9 at h
 split at h
 ·rename_i hex
  injection h with h
  obtain⟨m,hm⟩:=Classical.choose_spec hex
  exact⟨m,h ▸ hm⟩
 ·cases h
theorem q85 (step:σ→Option (σ⊕ε)) (x:σ):Z9 step x=(step x).bind (Sum.elim (Z9 step) some):=by
 refine q3k (fun r h=>?_) (fun r h=>?_)
 ·obtain⟨n,hn⟩:=q11 h
  cases n with
  | zero=>cases hn
  | succ n=>
   unfold itT at hn
   obtain⟨a,h1,h2⟩:=Option.bind_eq_some_iff.1 hn
   rw[h1,Option.bind_some]
   cases a with
   | inl y=>exact q2t h2
   | inr e=>exact h2
 ·obtain⟨a,h1,h2⟩:=Option.bind_eq_some_iff.1 h
  cases a with
  | inl y=>
   obtain⟨n,hn⟩:=q11 h2
   refine q2t (n:=n+1) ?_
   unfold itT
   rw[h1];exact hn
  | inr e=>
   refine q2t (n:=1) ?_
   unfold itT
   rw[h1];exact h2
end
theorem qcB {F:S→XS} {σ ε:Type} {st:σ→S} {ex:ε→Exit×S} {step:σ→Option (σ⊕ε)} (hne:∀e,(ex e).1 ≠ .normal)
  (h:∀x,F (st x)=(step x).bind (Sum.elim (fun y=>some (.normal,st y)) (fun e=>some (ex e)))) (x:σ):Lim F (st x)=(Z9 step x).bind fun e=>some (ex e):=by
 have hit:∀(n:Nat) (x:σ),iter n F (st x)=(itT step n x).bind fun e=>some (ex e):=by
  intro n
  induction n with
  | zero=>intro x;rfl
  | succ n ih=>
   intro x
   unfold iter itT
   rw[h x]
   cases step x with
   | none=>rfl
   | some a=>
    cases a with
    | inl y=>exact ih y
    | inr e=>
     show sqD (iter n F) (ex e)=some (ex e)
     have:=hne e
     generalize ex e=q at this
     obtain⟨z,t⟩:=q
     cases z<;>first|exact absurd rfl this|rfl
 refine q3k (fun r hr=>?_) (fun r hr=>?_)
 ·obtain⟨n,hn⟩:=q5a hr
  rw[hit n x] at hn
  obtain⟨e,h1,h2⟩:=Option.bind_eq_some_iff.1 hn
  rw[q2t h1];exact h2
 ·obtain⟨e,h1,h2⟩:=Option.bind_eq_some_iff.1 hr
  obtain⟨n,hn⟩:=q11 h1
  refine qba (n:=n) ?_
  rw[hit n x,hn];exact h2
theorem qbJ {E:Orc} {f k key:Nat} {c:Code} {σ ε:Type} {st:σ→S} {ex:ε→Exit×S} {step:σ→Option (σ⊕ε)} (hc:lbO f key=c) (hl:okL f c) (hne:∀e,(ex e).1 ≠ .normal)
  (h:∀x,lz2 f k key (XE2 E f k c (st x))=(step x).bind (Sum.elim (fun y=>some (.normal,st y)) (fun e=>some (ex e)))) (x:σ):XL2 E f k key (st x)=(Z9 step x).bind fun e=>some (ex e):=by
 refine qcB hne (fun x=>?_) x
 rw[hc,q8n c hl]
 exact h x
section
variable {E:Orc} {f k key:Nat} {s:S} {c:Prop} [Decidable c] {α β:Type} {o:Option α} {g:α→XS} {h:β→XS} {e:α⊕β}
end
theorem q0W {α:Type} {c:Prop} [Decidable c] (x y:α):(if c then some x else some y)=some (if c then x else y):=by split<;>rfl
theorem Zz {f key:Nat} {c b:Code} (hc:q2a f=c) (h:(zP key c).getD .skip=b):lbO f key=b:=by unfold lbO;rw[hc];exact h
theorem QG {f:Nat} {c b:Code} (hl:okL f c) (hb:b∈Qq c):okL f b:=⟨fun x hx=>hl.lo x ((q2q c b hb).1 x hx),fun q hq=>hl.ro q ((q2q c b hb).2 q hq)⟩
section
variable {f k key:Nat} {s:S} {c:Prop} [Decidable c] {α β:Type} {o:Option α} {g:α→XS} {h:β→XS} {e:α⊕β}
end
section
variable {σ ε:Type} (f k:Nat) (enc:σ→List R×List (Nat×B)) (ex:ε→R×List (Nat×B))
noncomputable def ovr (F:σ→Option ε):Orc:=fun g k' args G=>open Classical in if h:(g = .fn f∧k'=k)∧∃y,enc y=(args,G) then(F (Classical.choose h.2)).bind fun e=>some (ex e) else evo g k' args G
noncomputable def q2H (y:σ):Option ε:=open Classical in if h:∃e,ev f k (enc y).1 (enc y).2=some (ex e) then some (Classical.choose h) else none
variable {f k enc ex}
theorem q6L (hi:∀y z,enc y=enc z→y=z) (F:σ→Option ε) (y:σ):ovr f k enc ex F (.fn f) k (enc y).1 (enc y).2=(F y).bind fun e=>some (ex e):=by
 have h:((Fx.fn f=Fx.fn f)∧k=k)∧∃z,enc z=((enc y).1,(enc y).2):=⟨⟨rfl,rfl⟩,y,rfl⟩
 unfold ovr
 rw[dif_pos h]
 rw[hi _ _ ((Classical.choose_spec h.2).trans rfl)]
theorem q5t (F:σ→Option ε) (g k':Nat) (a:List R) (G:List (Nat×B)) (h:g≠f):ovr f k enc ex F (.fn g) k' a G=ev g k' a G:=by
 unfold ovr
 rw[dif_neg (fun h'=>h (by injection h'.1.1))]
 rfl
theorem qaT (F:σ→Option ε) (g:Nat) (asg bd:Code) (k':Nat) (a:List R) (G:List (Nat×B)):ovr f k enc ex F (.rd g asg bd) k' a G=evr g asg bd k' a G:=by
 unfold ovr
 rw[dif_neg (fun h'=>by cases h'.1.1)]
 rfl
def q3T (f k:Nat) (enc:σ→List R×List (Nat×B)) (ex:ε→R×List (Nat×B)) (step:(σ→Option ε)→σ→Option ε):Prop:=
 ∀(E:Orc) (F:σ→Option ε),(∀y,E (.fn f) k (enc y).1 (enc y).2=(F y).bind fun e=>some (ex e))→(∀g k' a G,g≠f→E (.fn g) k' a G=ev g k' a G)→(∀g asg bd k' a G,E (.rd g asg bd) k' a G=evr g asg bd k' a G)→
  ∀y,q4x E f k (enc y).1 (enc y).2=(step F y).bind fun e=>some (ex e)
theorem q2T {E E':Orc} (h:OLe E E') (L:(S→XS)→S→XS) (hL:LLe L Lim) {f k:Nat} {args:List R} {G:List (Nat×B)} {bd:Bd} {x:R×List (Nat×B)} (hb:qH Try.prog pol f=some bd) (hx:q1e Try.prog T pol (D1 Try.prog T pol) E L f k args G bd=some x):q4x E' f k args G=some x:=by
 unfold q4x
 rw[hb,Option.bind_some]
 exact q37 q2C h hL hx
theorem qcn (hp:pol.pr f=none) (hi:∀y z,enc y=enc z→y=z) {step:(σ→Option ε)→σ→Option ε} (hs:q3T f k enc ex step) :
  ∀(n:Nat) (y:σ) (z:R×List (Nat×B)),xf Try.prog T pol (D1 Try.prog T pol) n (.fn f) k (enc y).1 (enc y).2=some z→∃e,z=ex e:=by
 intro n
 induction n with
 | zero=>intro y z h;cases h
 | succ n ih=>
  intro y z h
  obtain⟨F,hF⟩:∃F:σ→Option ε,∀y z,xf Try.prog T pol (D1 Try.prog T pol) n (.fn f) k (enc y).1 (enc y).2=some z→(F y).bind (fun e=>some (ex e))=some z:=by
   refine⟨fun y=>open Classical in if h:∃e,xf Try.prog T pol (D1 Try.prog T pol) n (.fn f) k (enc y).1 (enc y).2=some (ex e) then some (Classical.choose h) else none,fun y z hz=>?_⟩
   obtain⟨e,rfl⟩:=ih y z hz
   have hex:∃e,xf Try.prog T pol (D1 Try.prog T pol) n (.fn f) k (enc y).1 (enc y).2=some (ex e):=⟨e,hz⟩
   simp only[dif_pos hex,Option.bind_some]
   rw[←Classical.choose_spec hex,hz]
  have hle:OLe (xf Try.prog T pol (D1 Try.prog T pol) n) (ovr f k enc ex F):=by
   intro g k' args G x hx
   unfold ovr
   split
   ·rename_i hh
    obtain⟨⟨rfl,rfl⟩,hy⟩:=hh
    have e1:=Classical.choose_spec hy
    refine hF _ _ ?_
    rw[e1];exact hx
   ·exact q7t q2C _ _ _ _ _ hx
  have h2:∃bd,qH Try.prog pol f=some bd∧q1e Try.prog T pol (D1 Try.prog T pol) (xf Try.prog T pol (D1 Try.prog T pol) n) (iter n) f k (enc y).1 (enc y).2 bd=some z:=by
   have h3:fnx Try.prog T pol (D1 Try.prog T pol) (xf Try.prog T pol (D1 Try.prog T pol) n) (iter n) f k (enc y).1 (enc y).2=some z:=h
   unfold fnx at h3
   rw[hp] at h3
   exact Option.bind_eq_some_iff.1 h3
  obtain⟨bd,hb,hx⟩:=h2
  have h4:=q2T hle (iter n) (q4W n) hb hx
  rw[hs _ F (q6L hi F) (q5t F) (qaT F) y] at h4
  obtain⟨e,-,h5⟩:=Option.bind_eq_some_iff.1 h4
  injection h5 with h5
  exact⟨e,h5.symm⟩
theorem q5E (hp:pol.pr f=none) (hi:∀y z,enc y=enc z→y=z) {step:(σ→Option ε)→σ→Option ε} (hs:q3T f k enc ex step) (y:σ):ev f k (enc y).1 (enc y).2=(q2H f k enc ex y).bind fun e=>some (ex e):=by
 unfold q2H
 split
 ·rename_i h
  rw[Option.bind_some]
  exact Classical.choose_spec h
 ·rename_i h
  cases hv:ev f k (enc y).1 (enc y).2 with
  | none=>rfl
  | some z=>
   obtain⟨n,hn⟩:=q1h (show EE Try.prog T pol (D1 Try.prog T pol) (.fn f) k (enc y).1 (enc y).2=some z from hv)
   obtain⟨e,rfl⟩:=qcn hp hi hs n y z hn
   exact absurd ⟨e,hv⟩ h
theorem qdB (hp:pol.pr f=none) (hi:∀y z,enc y=enc z→y=z) (hj:∀d e,ex d=ex e→d=e) {step:(σ→Option ε)→σ→Option ε} (hs:q3T f k enc ex step) (y:σ):q2H f k enc ex y=step (q2H f k enc ex) y:=by
 have h1:=hs evo (q2H f k enc ex) (q5E hp hi hs) (fun _ _ _ _ _=>rfl) (fun _ _ _ _ _ _=>rfl) y
 rw[←q83 hp,q5E hp hi hs y] at h1
 cases h2:q2H f k enc ex y with
 | none=>
  rw[h2] at h1
  cases h3:step (q2H f k enc ex) y with
  | none=>rfl
  | some e=>rw[h3] at h1;cases h1
 | some d=>
  rw[h2] at h1
  cases h3:step (q2H f k enc ex) y with
  | none=>rw[h3] at h1;cases h1
  | some e=>
   rw[h3] at h1
   injection h1 with h1
   rw[hj _ _ h1]
end
end Go.Proofs.Ytcdegieiflmaeaa.Vc
namespace Go.Proofs.Ytcdegieiflmaeaa.Vc
open Go.RowKit
section
variable {α:Type} {E:α→List D} {n:Nat}
theorem q8u (v:List α) (x:α):(v.flatMap E).map C.d++(E x).map C.d=((v++[x]).flatMap E).map C.d:=by simp
end
theorem Jq {α:Type} {E:α→List D} {n:Nat} (h:∀x,(E x).length=n) (hn:0<n) (hi:∀x y,E x=E y→x=y):∀(v w:List α),v.flatMap E=w.flatMap E→v=w
 | [],[],_=>rfl
 | [],y::w,e=>by
  have:=congrArg List.length e
  rw[List.flatMap_cons,List.length_append,h] at this
  simp at this;omega
 | x::v,[],e=>by
  have:=congrArg List.length e
  rw[List.flatMap_cons,List.length_append,h] at this
  simp at this;omega
 | x::v,y::w,e=>by
  rw[List.flatMap_cons,List.flatMap_cons] at e
  obtain⟨h1,h2⟩:=List.append_inj e (by rw[h,h])
  rw[hi x y h1,Jq h hn hi v w h2]
theorem q5T (a b:List D):(a.map C.d=b.map C.d)=(a=b):=by
 refine propext ⟨fun h=>?_,fun h=>by rw[h]⟩
 induction a generalizing b with
 | nil=>cases b with|nil=>rfl|cons=>cases h
 | cons x a ih=>
  cases b with
  | nil=>cases h
  | cons y b=>
   rw[List.map_cons,List.map_cons] at h
   injection h with h1 h2
   injection h1 with h1
   rw[h1,ih b h2]
def eI (x:Int):List D:=[.int .i64 x]
def eS (x:ByteArray):List D:=[.str x]
def eU8 (x:Int):List D:=[.int .u8 x]
def eL {α:Type} (n:Nat) (E:α→List D) (v:List α):List D:=[.sl n v.length (v.flatMap E)]
theorem qgu (P:Program) (T:Ty) (d:Nat) (t:TypeId) (x y:R):eqR P T (d+1) t x y =
  match T.k t,x,y with
  | .int _,.c (.d (.int k a)),.c (.d (.int k' b))=>if k=k' then some (a==b) else none
  | .bool,.c (.d (.bool a)),.c (.d (.bool b))=>some (a==b)
  | .str,.c (.d (.str a)),.c (.d (.str b))=>some (a.toList==b.toList)
  | .st fs,.agg xs,.agg ys=>if q56 P t=true then qeM T (eqR P T d) xs ys fs else none
  | _,_,_=>none:=by
 generalize hk:T.k t=kd
 unfold eqR
 rw[hk]
 cases kd<;>first
  | rfl
  | (rcases x with (c|_|_|_)<;>first
    | rfl
    | (rcases y with (c' | _|_|_)<;>first
      | rfl
      | (cases c<;>first
        | rfl
        | (cases c'<;>first
          | rfl
          | (rename_i d1 d2;cases d1<;>first
            | rfl
            | (cases d2<;>rfl))))))
section
variable {α β:Type} {c:Prop} [Decidable c] (a b:List α)
end
def qfW (op:UnOp) (r:R) (s:S):RS:=
 match op,r with
 | .not,.c (.d (.bool b))=>some (.c (.d (.bool (!b))),s)
 | .neg,.c (.d (.int k n))=>some (.c (.d (.int k (k.wrap (0-n)))),s)
 | _,_=>none
theorem qd5 (s:S) (op:UnOp) (x:Operand):xUn s op x=qfW op (s.ev x) s:=by
 unfold xUn qfW
 generalize s.ev x=r
 cases op<;>first
  | rfl
  | (cases r with
     | c c=>cases c with
      | d d=>cases d<;>rfl
      | _=>rfl
     | _=>rfl)
def lkq (ok:Bool) (z:R):Option (Nat×R×Nat)→Option R
 | some q=>some (tt2 q.2.1 ok true)
 | none=>some (tt2 z ok false)
theorem q6q (T:Ty) (s:S) (t:TypeId) (x y:Operand) (ok:Bool):JV T s t x y ok =
  match T.k t,q0X s x,(s.ev y).key with
  | .mp k e,some es,some kv=>if plK (T.k k) kv=true∧es.all (fun q=>plK (T.k k) q.1)=true then(zR T e).bind fun z=>lkq ok z (fnd kv es 0) else none
  | _,_,_=>none:=by
 unfold JV
 generalize T.k t=kd
 generalize q0X s x=m
 generalize (s.ev y).key=v
 cases kd<;>first
  | rfl
  | (cases m<;>first
    | rfl
    | (cases v<;>first
      | rfl
      | (simp only
         split
         ·congr 1
          funext z
          cases fnd _ _ _<;>rfl
         ·rfl)))
def qf {α:Type} (a b:Option α):Prop:=∀r,a=some r→b=some r
theorem qf.refl {α:Type} (a:Option α):qf a a:=fun _ h=>h
theorem qf.none {α:Type} (a:Option α):qf Option.none a:=fun _ h=>by cases h
theorem qf.bind {α β:Type} {a b:Option α} {f g:α→Option β} (h:qf a b) (hf:∀x,qf (f x) (g x)):qf (a.bind f) (b.bind g):=fun r hr=>by
 obtain⟨x,h1,h2⟩:=Option.bind_eq_some_iff.1 hr
 rw[h x h1]
 exact hf x r h2
theorem qf.ite {α:Type} {c:Prop} [Decidable c] {a b a' b':Option α} (h:qf a a') (h':qf b b'):qf (if c then a else b) (if c then a' else b'):=by
 split
 ·exact h
 ·exact h'
theorem qf.sum {α β γ:Type} {f f':α→Option γ} {g g':β→Option γ} {e:α⊕β} (h:∀x,qf (f x) (f' x)) (h':∀x,qf (g x) (g' x)):qf (Sum.elim f g e) (Sum.elim f' g' e):=by
 cases e with
 | inl x=>exact h x
 | inr x=>exact h' x
theorem qf.lim {σ ε:Type} {f g:σ→Option (σ⊕ε)} {n:Nat} {x:σ} (h:∀x,qf (f x) (g x)):qf (itT f n x) (Z9 g x):=by
 have key:∀(n:Nat) (x:σ),qf (itT f n x) (itT g n x):=by
  intro n
  induction n with
  | zero=>intro x r hr;cases hr
  | succ n ih=>
   intro x
   unfold itT
   refine qf.bind (h x) (fun y=>?_)
   cases y with
   | inl y=>exact ih y
   | inr e=>exact qf.refl _
 exact fun r hr=>q2t (key n x r hr)
def itR {σ ε:Type} (step:(σ→Option ε)→σ→Option ε):Nat→σ→Option ε
 | 0,_=>none
 | n+1,x=>step (itR step n) x
theorem qf.rec {σ ε:Type} {c s:(σ→Option ε)→σ→Option ε} {f:σ→Option ε} (hs:∀x,f x=s f x) (h:∀F F',(∀y,qf (F y) (F' y))→∀x,qf (c F x) (s F' x)):∀(n:Nat) (x:σ),qf (itR c n x) (f x):=by
 intro n
 induction n with
 | zero=>intro x r hr;cases hr
 | succ n ih=>
  intro x
  rw[hs x]
  exact h _ _ ih x
def spr (cs:List C) (o:Nat) (ys:List C):List C:=spl cs o ys
theorem q8c (t:TypeId) (cs ys:List C) (o:Nat):(B.blk t cs).set o ys = .blk t (spl cs o ys):=rfl
theorem q8s (e:TypeId) (sz:Nat) (cs ys:List C) (o:Nat):(B.row e sz cs).set o ys = .row e sz (spr cs o ys):=rfl
theorem qaf (c:C) (cs ys:List C) (o:Nat):spr (c::cs) o ys=spl (c::cs) o ys:=rfl
section
variable {T:Ty} {s:S} {t:TypeId} {lo hi:Option Operand}
end
abbrev dI (n:Int):C:=C.d (D.int .i64 n)
abbrev dS (s:ByteArray):C:=C.d (D.str s)
abbrev dL {α:Type} (n:Nat) (E:α→List D) (v:List α):C:=C.d (D.sl n v.length (v.flatMap E))
abbrev dO (i sz n:Nat):C:=C.own i sz 0 n
abbrev dP (i:Nat):C:=C.ptr i 0
abbrev rI (n:Int):R:=R.c (C.d (D.int .i64 n))
abbrev rS (s:ByteArray):R:=R.c (C.d (D.str s))
abbrev rB (b:Bool):R:=R.c (C.d (D.bool b))
abbrev rL {α:Type} (n:Nat) (E:α→List D) (v:List α):R:=R.c (C.d (D.sl n v.length (v.flatMap E)))
abbrev rO (i sz n:Nat):R:=R.c (C.own i sz 0 n)
abbrev rP (i:Nat):R:=R.c (C.ptr i 0)
abbrev bR {α:Type} (e sz:Nat) (E:α→List D) (v:List α):B:=B.row e sz ((v.flatMap E).map C.d)
theorem XLs {E:Orc} {f k key:Nat} {c:Code} {σ ε:Type} {st:σ→S} {ex:ε→XS} {step:σ→Option (σ⊕ε)} (hc:lbO f key=c) (hl:okL f c) (hne:∀e,∃p,ex e=some p∧p.1 ≠ .normal)
  (h:∀x,lz2 f k key (XE2 E f k c (st x))=(step x).bind (Sum.elim (fun y=>some (.normal,st y)) ex)) (x:σ):XL2 E f k key (st x)=(Z9 step x).bind ex:=by
 obtain⟨g,hg⟩:∃g:ε→Exit×S,∀e,ex e=some (g e)∧(g e).1 ≠ .normal:=⟨fun e=>Classical.choose (hne e),fun e=>Classical.choose_spec (hne e)⟩
 obtain rfl:ex=fun e=>some (g e):=funext fun e=>(hg e).1
 exact qbJ (ex:=g) hc hl (fun e=>(hg e).2) h x
theorem q6o {E:Orc} {f k key:Nat} {c:Code} {A1 ε:Type} {st:A1→S} {ex:ε→XS} {step:A1→Option ((A1)⊕ε)} (hc:lbO f key=c) (hl:okL f c) (hne:∀e,∃p,ex e=some p∧p.1 ≠ .normal)
  (h:∀a1,lz2 f k key (XE2 E f k c (st a1))=(step a1).bind (Sum.elim (fun y=>some (.normal,st y)) ex)) (a1:A1):XL2 E f k key (st a1)=(Z9 step a1).bind ex:=
 XLs (st:=fun y=>st y) hc hl hne (fun a1=>h a1) a1
theorem qgY {E:Orc} {f k key:Nat} {c:Code} {A1 A2 ε:Type} {st:A1→A2→S} {ex:ε→XS} {step:(A1×A2)→Option ((A1×A2)⊕ε)} (hc:lbO f key=c) (hl:okL f c) (hne:∀e,∃p,ex e=some p∧p.1 ≠ .normal)
  (h:∀a1 a2,lz2 f k key (XE2 E f k c (st a1 a2))=(step (a1,a2)).bind (Sum.elim (fun y=>some (.normal,st y.1 y.2)) ex)) (a1:A1) (a2:A2):XL2 E f k key (st a1 a2)=(Z9 step (a1,a2)).bind ex:=
 XLs (st:=fun y=>st y.1 y.2) hc hl hne (fun⟨a1,a2⟩=>h a1 a2) (a1,a2)
theorem qjr {E:Orc} {f k key:Nat} {c:Code} {A1 A2 A3 ε:Type} {st:A1→A2→A3→S} {ex:ε→XS} {step:(A1×A2×A3)→Option ((A1×A2×A3)⊕ε)} (hc:lbO f key=c) (hl:okL f c) (hne:∀e,∃p,ex e=some p∧p.1 ≠ .normal)
  (h:∀a1 a2 a3,lz2 f k key (XE2 E f k c (st a1 a2 a3))=(step (a1,a2,a3)).bind (Sum.elim (fun y=>some (.normal,st y.1 y.2.1 y.2.2)) ex)) (a1:A1) (a2:A2) (a3:A3):XL2 E f k key (st a1 a2 a3)=(Z9 step (a1,a2,a3)).bind ex:=
 XLs (st:=fun y=>st y.1 y.2.1 y.2.2) hc hl hne (fun⟨a1,a2,a3⟩=>h a1 a2 a3) (a1,a2,a3)
def dzU (Q:TypeId→List Nat):B→B
 | .row e sz cs => .row e sz (dzc (Q e) [] cs)
 | b=>b
theorem qdu (z:Nat) {c:C} (h:c.isNils=false):dz z c=c:=by
 cases c<;>first|rfl|cases h
theorem q3W (zs0:List Nat):∀{cs:List C} (zs:List Nat),cs.any C.isNils=false→dzc zs0 zs cs=cs
 | [],zs,_=>by cases zs<;>rfl
 | c::cs,zs,h=>by
  rw[List.any_cons,Bool.or_eq_false_iff] at h
  cases zs with
  | nil=>rw[dzc,qdu _ h.1,q3W zs0 _ h.2]
  | cons z zs=>rw[dzc,qdu _ h.1,q3W zs0 _ h.2]
theorem qgb (Q:TypeId→List Nat) (b:B):dzB Q b=dzU Q b:=by
 cases b with
 | row e sz cs=>
  unfold dzB dzU
  simp only
  split
  ·rfl
  ·rename_i h
   rw[q3W _ _ (by simpa using h)]
 | _=>rfl
theorem qdJ (Q:TypeId→List Nat) (b:B) (h:b.nilr=false):dzU Q b=b:=by
 cases b with
 | row e sz cs=>unfold dzU;simp only;rw[q3W _ _ h]
 | _=>rfl
theorem qfa (tm:List (Nat×R)) (hp:List (Nat×B)) (nx n:Nat) (Q:TypeId→List Nat):S.dzr (S.mk tm hp nx n) Q=S.mk tm (hp.map fun x=>(x.1,dzU Q x.2)) nx n:=by
 unfold S.dzr
 split
 ·simp only[qgb]
 ·rename_i h
  congr 1
  have h2:∀x∈hp,x.2.nilr=false:=fun x hx=>by
   cases hb:x.2.nilr with
   | false=>rfl
   | true=>exact absurd (List.any_eq_true.2 ⟨x,hx,hb⟩) h
  refine(List.map_id' hp).symm.trans (List.map_congr_left fun x hx=>?_)
  rw[qdJ Q x.2 (h2 x hx)]
theorem qbZ (Q:TypeId→List Nat) (e sz:Nat) (cs:List C):dzU Q (.row e sz cs) = .row e sz (dzc (Q e) [] cs):=rfl
theorem qcy (Q:TypeId→List Nat) (t:Nat) (cs:List C):dzU Q (.blk t cs) = .blk t cs:=rfl
theorem qdl (Q:TypeId→List Nat) (o:AO):dzU Q (.ob o) = .ob o:=rfl
theorem qaB (Q:TypeId→List Nat):dzU Q .dead = .dead:=rfl
theorem qcz {α:Type} (l:List α):Array.toList l.toArray=l:=rfl
end Go.Proofs.Ytcdegieiflmaeaa.Vc
namespace Go.Proofs.Ytcdegieiflmaeaa.Vc
open Go.RowKit
def mpE {κ ν:Type} (kE:κ→Value) (vE:ν→R):List (κ×ν)→Nat→List (Value×R×Nat)
 | [],_=>[]
 | p::M,i=>(kE p.1,vE p.2,i)::mpE kE vE M (i+1)
def mpB {κ ν:Type} (kE:κ→Value) (vE:ν→R) (M:List (κ×ν)):AO := .mp (mpE kE vE M 0) M.length
def qiC (k:IntKind) (n:Int):Value := .int k n
def zw (s:ByteArray):Value := .string s
def qh6 (b:Bool):Value := .bool b
section
variable {κ ν:Type} [DecidableEq κ]
def q3O (M:List (κ×ν)) (k:κ):Nat:=match M with
 | []=>0
 | p::M=>if k=p.1 then 0 else q3O M k+1
def q41 (z:ν) (M:List (κ×ν)) (k:κ):ν:=match M with
 | []=>z
 | p::M=>if k=p.1 then p.2 else q41 z M k
def q2L (M:List (κ×ν)) (k:κ):Bool:=match M with
 | []=>false
 | p::M=>if k=p.1 then true else q2L M k
def q3t (M:List (κ×ν)) (k:κ) (v:ν):List (κ×ν):=match M with
 | []=>[(k,v)]
 | p::M=>if k=p.1 then(k,v)::M else p::q3t M k v
end
section
variable {κ ν:Type} {kE:κ→Value} {vE:ν→R}
theorem qbf:∀(M:List (κ×ν)) (i:Nat),(mpE kE vE M i).length=M.length
 | [],_=>rfl
 | p::M,i=>by rw[mpE,List.length_cons,qbf M,List.length_cons]
theorem qc2 {q:Value×R×Nat}:∀{M:List (κ×ν)} {i:Nat},q∈mpE kE vE M i→∃p∈M,q.1=kE p.1∧q.2.1=vE p.2
 | [],_,h=>by simp[mpE] at h
 | p::M,i,h=>by
  rw[mpE] at h
  rcases List.mem_cons.1 h with rfl|h
  ·exact⟨p,List.mem_cons_self,rfl,rfl⟩
  ·obtain⟨p',h1,h2⟩:=qc2 h
   exact⟨p',List.mem_cons_of_mem _ h1,h2⟩
theorem q3n {f:Value×R×Nat→Bool} (hf:∀k r i,f (kE k,r,i)=true):∀(M:List (κ×ν)) (i:Nat),(mpE kE vE M i).all f=true
 | [],_=>rfl
 | p::M,i=>by rw[mpE,List.all_cons,hf,q3n hf M];rfl
theorem q1Q {f:R→R} (hf:∀v,f (vE v)=vE v) (M:List (κ×ν)):AO.mapR f (mpB kE vE M)=mpB kE vE M:=by
 have:∀(M:List (κ×ν)) (i:Nat),(mpE kE vE M i).map (fun e=>(e.1,f e.2.1,e.2.2))=mpE kE vE M i:=by
  intro M
  induction M with
  | nil=>intro i;rfl
  | cons p M ih=>intro i;rw[mpE,List.map_cons,ih,hf]
 unfold mpB
 show AO.mp _ _=_
 rw[this]
theorem qbx {f:R→Bool} (hf:∀v,f (vE v)=true) (M:List (κ×ν)):(mpB kE vE M).Rs.all f=true:=by
 have:∀(M:List (κ×ν)) (i:Nat),((mpE kE vE M i).map (·.2.1)).all f=true:=by
  intro M
  induction M with
  | nil=>intro i;rfl
  | cons p M ih=>intro i;rw[mpE,List.map_cons,List.all_cons,ih,hf];rfl
 exact this M 0
theorem q5f {f:R→List Nat} (hf:∀v,f (vE v)=[]) (M:List (κ×ν)):(mpB kE vE M).Rs.flatMap f=[]:=by
 have:∀(M:List (κ×ν)) (i:Nat),((mpE kE vE M i).map (·.2.1)).flatMap f=[]:=by
  intro M
  induction M with
  | nil=>intro i;rfl
  | cons p M ih=>intro i;rw[mpE,List.map_cons,List.flatMap_cons,ih,hf];rfl
 exact this M 0
variable [DecidableEq κ] (hk:∀a b,kq (kE a) (kE b)=decide (a=b))
include hk
theorem q8H (k:κ):∀(M:List (κ×ν)) (i:Nat) (z:ν),fnd (kE k) (mpE kE vE M i) i=if q2L M k=true then some (i+q3O M k,vE (q41 z M k),i+q3O M k) else none
 | [],i,z=>rfl
 | p::M,i,z=>by
  rw[mpE,fnd]
  simp only[hk,q2L,q3O,q41,decide_eq_true_eq]
  by_cases h:k=p.1
  ·simp[h]
  ·simp only[if_neg h]
   rw[q8H k M (i+1) z]
   split
   ·rw[show i+1+q3O M k=i+(q3O M k+1) by omega]
   ·rfl
theorem qeN (z:ν) (ok:Bool) (k:κ) (M:List (κ×ν)):lkq ok (vE z) (fnd (kE k) (mpE kE vE M 0) 0)=some (tt2 (vE (q41 z M k)) ok (q2L M k)):=by
 rw[q8H hk k M 0 z]
 cases hm:q2L M k
 ·have:q41 z M k=z:=by
   clear hk
   induction M with
   | nil=>rfl
   | cons p M ih=>
    rw[q2L] at hm
    rw[q41]
    split
    ·rename_i h;rw[if_pos h] at hm;cases hm
    ·rename_i h;rw[if_neg h] at hm;exact ih hm
  rw[this];rfl
 ·rfl
end
section
variable {κ ν:Type} {kE:κ→Value} {vE:ν→R} [DecidableEq κ]
theorem q4Z (k:κ) (v:ν):∀(M:List (κ×ν)) (i:Nat),q2L M k=true→(mpE kE vE M i).set (q3O M k) (kE k,vE v,i+q3O M k)=mpE kE vE (q3t M k v) i∧(q3t M k v).length=M.length
 | [],_,h=>by cases h
 | p::M,i,h=>by
  rw[q2L] at h
  by_cases hp:k=p.1
  ·simp only[mpE,q3O,q3t,if_pos hp]
   exact⟨rfl,rfl⟩
  ·rw[if_neg hp] at h
   obtain⟨a,b⟩:=q4Z k v M (i+1) h
   simp only[mpE,q3O,q3t,if_neg hp,List.length_cons,List.set_cons_succ]
   rw[show i+(q3O M k+1)=i+1+q3O M k by omega,a,b]
   exact⟨rfl,rfl⟩
theorem q5Z (k:κ) (v:ν):∀(M:List (κ×ν)) (i:Nat),q2L M k=false→mpE kE vE M i++[(kE k,vE v,i+M.length)]=mpE kE vE (q3t M k v) i∧(q3t M k v).length=M.length+1
 | [],i,_=>⟨rfl,rfl⟩
 | p::M,i,h=>by
  rw[q2L] at h
  by_cases hp:k=p.1
  ·rw[if_pos hp] at h;cases h
  ·rw[if_neg hp] at h
   obtain⟨a,b⟩:=q5Z k v M (i+1) h
   simp only[mpE,q3t,if_neg hp,List.length_cons,List.cons_append]
   rw[show i+(M.length+1)=i+1+M.length by omega,a,b]
   exact⟨rfl,rfl⟩
theorem q9d (k:κ) (v:ν):∀(M:List (κ×ν)),q3O (q3t M k v) k=q3O M k∧q2L (q3t M k v) k=true∧(q2L M k=false→q3O M k=M.length)
 | []=>by simp[q3t,q3O,q2L]
 | p::M=>by
  obtain⟨a,b,c⟩:=q9d k v M
  by_cases hp:k=p.1
  ·simp[q3t,q3O,q2L,if_pos hp]
  ·simp only[q3t,q3O,q2L,if_neg hp,List.length_cons]
   exact⟨by rw[a],b,fun h=>by rw[c h]⟩
end
def mpq:B→Option (List (Value×R×Nat))
 | .ob (.mp es _)=>some es
 | _=>none
def mpo (s:S):R→Option (List (Value×R×Nat))
 | .c .nilm=>some []
 | .c (.hd .map id)=>mpq (s.blk id)
 | _=>none
theorem q9B (s:S) (x:Operand):q0X s x=mpo s (s.ev x):=by
 unfold q0X mpo mpq
 generalize s.ev x=r
 cases r with
 | c c=>
  cases c with
  | hd k id=>cases k<;>rfl
  | _=>rfl
 | _=>rfl
theorem qh1 {κ ν:Type} (kE:κ→Value) (vE:ν→R) (M:List (κ×ν)):mpq (.ob (mpB kE vE M))=some (mpE kE vE M 0):=rfl
def mup (kt:Kd) (kv:Value) (r:R):B→Option B
 | .ob (.mp es ck)=>if plK kt kv=true∧es.all (fun q=>plK kt q.1)=true then
   (match fnd kv es 0 with
    | some q=>some (.ob (.mp (es.set q.1 (kv,r,q.2.2)) ck))
    | none=>some (.ob (.mp (es++[(kv,r,ck)]) (ck+1)))) else none
 | _=>none
def qjE (n:Int) (r:R):B→Option B
 | .ob (.mp es ck)=>(fnb n es 0).bind fun i=>(es[i]?).bind fun e=>some (.ob (.mp (es.set i (e.1,r,e.2.2)) ck))
 | _=>none
def xmu (T:Ty) (s:S) (t:TypeId) (m:R) (kv:Option Value) (r:R):Option (R×S):=
 match T.k t,m,kv with
 | .mp kt _,.c (.hd .map id),some kv=>(mup (T.k kt) kv r (s.blk id)).bind fun b=>some (.any,s.up [(id,b)])
 | _,_,_=>none
theorem qf9 (T:Ty) (s:S) (t:TypeId) (m:R) (kv:Option Value) (r:R):xmu T s t m kv r =
 match T.k t,m,kv with
 | .mp kt _,.c (.hd .map id),some kv=>(mup (T.k kt) kv r (s.blk id)).bind fun b=>some (.any,s.up [(id,b)])
 | _,_,_=>none:=rfl
theorem q6u (T:Ty) (s:S) (t:TypeId) (m k x:Operand):JF T s t m k x=xmu T s t (s.ev m) (s.ev k).key (s.ev x):=by
 unfold JF xmu mup
 generalize T.k t=kd
 generalize s.ev m=r
 generalize (s.ev k).key=kv
 cases kd with
 | mp kt e=>
  cases r with
  | c c=>
   cases c with
   | hd h id=>
    cases h with
    | map=>
     cases kv with
     | none=>rfl
     | some kv=>
      simp only
      generalize s.blk id=b
      cases b with
      | ob o=>
       cases o with
       | mp es ck=>
        simp only
        split
        ·cases fnd kv es 0<;>rfl
        ·rfl
       | _=>rfl
      | _=>rfl
    | _=>rfl
   | _=>rfl
  | _=>rfl
 | _=>rfl
def xes (s:S) (m st r:R):Option (R×S):=
 match m,st with
 | .c (.hd .map id),.c (.d (.int _ n))=>(qjE n r (s.blk id)).bind fun b=>some (.any,s.up [(id,b)])
 | _,_=>none
section
variable {κ ν:Type} {kE:κ→Value} {vE:ν→R} [DecidableEq κ] (hk:∀a b,kq (kE a) (kE b)=decide (a=b)) {kt:Kd} (hp:∀a,plK kt (kE a)=true)
include hk hp
theorem qe8 (k:κ) (v:ν) (M:List (κ×ν)):mup kt (kE k) (vE v) (.ob (mpB kE vE M))=some (.ob (mpB kE vE (q3t M k v))):=by
 unfold mpB mup
 simp only
 rw[if_pos ⟨hp k,q3n (fun k r i=>hp k) M 0⟩,q8H hk k M 0 v]
 cases hm:q2L M k
 ·obtain⟨a,b⟩:=q5Z (kE:=kE) (vE:=vE) k v M 0 hm
  simp only[Bool.false_eq_true,if_false]
  rw[Nat.zero_add] at a
  rw[a,b]
 ·obtain⟨a,b⟩:=q4Z (kE:=kE) (vE:=vE) k v M 0 hm
  simp only[if_true]
  rw[Nat.zero_add] at a ⊢
  rw[a,b]
end
theorem q8k {κ ν:Type} {kE:κ→Value} {vE:ν→R} {s:S} {sel:List Nat} (h:∀v,q7n s sel (vE v)=vE v) (M:List (κ×ν)):cvA s sel (mpB kE vE M)=some (mpB kE vE M):=by
 have:∀(M:List (κ×ν)) (i:Nat),(mpE kE vE M i).map (fun e=>(e.1,q7n s sel e.2.1,e.2.2))=mpE kE vE M i:=by
  intro M
  induction M with
  | nil=>intro i;rfl
  | cons p M ih=>intro i;rw[mpE,List.map_cons,ih,h]
 show some (AO.mp ((mpE kE vE M 0).map fun e=>(e.1,q7n s sel e.2.1,e.2.2)) M.length)=_
 rw[this];rfl
theorem q5p (a b:ByteArray):kq (zw a) (zw b)=decide (a=b):=rfl
def mpc:B→Option Nat
 | .ob (.mp _ ck)=>some ck
 | _=>none
theorem qg9 {κ ν:Type} (kE:κ→Value) (vE:ν→R) (M:List (κ×ν)):mpc (.ob (mpB kE vE M))=some M.length:=rfl
def xrg (s:S) (p:Nat) (kd:Kd) (r:R):Option (R×S):=
 match kd,r with
 | .str,.c (.d (.str b))=>some (.c (.hd .iter p),s.up [(p,.ob (.si b 0))])
 | .mp _ _,.c .nilm=>some (.c (.hd .iter p),s.up [(p,.ob (.mi (.c .nilm) 0 []))])
 | .mp _ _,.c (.hd .map id)=>(mpc (s.blk id)).bind fun ck=>some (.c (.hd .iter p),s.up [(p,.ob (.mi (.c (.hd .map id)) ck []))])
 | _,_=>none
theorem q8w (T:Ty) (s:S) (p:Nat) (t:TypeId) (x:Operand):q0u T s p t x=xrg s p (T.k t) (s.ev x):=by
 unfold q0u xrg
 split
 ·rename_i h1 h2;rw[h1,h2]
 ·rename_i h1 h2;rw[h1,h2]
 ·rename_i id h1 h2
  rw[h1,h2]
  simp only
  generalize s.blk id=b
  cases b with
  | ob o=>cases o<;>rfl
  | _=>rfl
 ·rename_i h1 h2 h3
  split
  ·rename_i q1 q2;exact absurd q2 (h1 _ q1)
  ·rename_i q1 q2;exact absurd q2 (h2 _ _ q1)
  ·rename_i q1 q2;exact absurd q2 (h3 _ _ _ q1)
  ·rfl
def qhp (s:S) (b:B) (ck x:Nat):Option (R×S):=(mpq b).bind fun es=>(mpc b).bind fun c=>if c=ck then(q3L es x).bind fun r=>some (r,s) else none
def qgM (s:S):B→Option (R×S)
 | .ob (.mi (.c (.hd .map mid)) ck (x::_))=>qhp s (s.blk mid) ck x
 | _=>none
def xen (s:S):R→Option (R×S)
 | .c (.hd .iter id)=>qgM s (s.blk id)
 | _=>none
theorem q8J (s:S) (it:Operand):q3a s it=xen s (s.ev it):=by
 unfold q3a xen
 generalize s.ev it=r
 cases r with
 | c c=>
  cases c with
  | hd k id=>
   cases k with
   | iter=>
    simp only
    generalize s.blk id=b
    cases b with
    | ob o=>
     cases o with
     | mi m ck l=>
      cases m with
      | c c=>
       cases c with
       | hd k mid=>
        cases k with
        | map=>
         cases l with
         | nil=>rfl
         | cons x l=>
          simp only[qgM,qhp]
          generalize s.blk mid=b2
          cases b2 with
          | ob o=>
           cases o with
           | mp es c=>
            simp only[mpq,mpc,Option.bind_some]
            split
            ·cases q3L es x<;>rfl
            ·rfl
           | _=>rfl
          | _=>rfl
        | _=>rfl
       | _=>rfl
      | _=>rfl
     | _=>rfl
    | _=>rfl
   | _=>rfl
  | _=>rfl
 | _=>rfl
def qfm (s:S) (id:Nat):B→Option (R×S)
 | .ob (.m1 (some e) m since seen)=>some (.tup [.c (.d (.bool true)),kR e.1,e.2.1],s.up [(id,.ob (.mi m since (e.2.2::seen)))])
 | .ob (.m1 none m since seen)=>some (.tup [.c (.d (.bool false))],s.up [(id,.ob (.mi m since seen))])
 | _=>none
def xnm (s:S):R→Option (R×S)
 | .c (.hd .iter id)=>qfm s id (s.blk id)
 | _=>none
theorem q7o (s:S) (it:Operand):q0t s it=xnm s (s.ev it):=by
 unfold q0t xnm qfm
 rfl
theorem q8U (b:ByteArray):kR (zw b) = .c (.d (.str b)):=rfl
theorem qb5 (k:IntKind) (n:Int):kR (qiC k n) = .c (.d (.int k n)):=rfl
theorem q6H (b:Bool):kR (qh6 b) = .c (.d (.bool b)):=rfl
theorem q8W {κ ν:Type} {kE:κ→Value} {vE:ν→R} (hk:∀a b,kE a=kE b→a=b) (hv:∀a b,vE a=vE b→a=b):∀(M M':List (κ×ν)) (i:Nat),mpE kE vE M i=mpE kE vE M' i→M=M'
 | [],[],_,_=>rfl
 | [],_::_,_,h=>by cases h
 | _::_,[],_,h=>by cases h
 | (a,v)::M,(b,w)::M',i,h=>by
  unfold mpE at h
  simp only[List.cons.injEq,Prod.mk.injEq] at h
  obtain⟨⟨h1,h2,_⟩,h3⟩:=h
  rw[hk _ _ h1,hv _ _ h2,q8W hk hv M M' _ h3]
theorem q89 {κ ν:Type} {kE:κ→Value} {vE:ν→R} (hk:∀a b,kE a=kE b→a=b) (hv:∀a b,vE a=vE b→a=b) (M M':List (κ×ν)):(B.ob (mpB kE vE M)=B.ob (mpB kE vE M'))=(M=M'):=
 propext ⟨fun h=>by
  injection h with h
  unfold mpB at h
  injection h with h
  exact q8W hk hv M M' 0 h,fun h=>by rw[h]⟩
section
variable {κ ν:Type}
def anyO (g:κ→ν→Option Bool):List (κ×ν)→Option Bool
 | []=>some false
 | q::M=>(g q.1 q.2).bind fun b=>(anyO g M).bind fun c=>some (b||c)
theorem q2r {g:κ→ν→Option Bool}:∀{M:List (κ×ν)} {b:Bool},anyO g M=some b→(∀q∈M,∃c,g q.1 q.2=some c)∧(b=true↔∃q∈M,g q.1 q.2=some true)
 | [],b,h=>by injection h with h;subst h;simp
 | q::M,b,h=>by
  unfold anyO at h
  obtain⟨c,h1,h⟩:=Option.bind_eq_some_iff.1 h
  obtain⟨d,h2,h⟩:=Option.bind_eq_some_iff.1 h
  injection h with h
  subst h
  obtain⟨h3,h4⟩:=q2r h2
  refine⟨fun p hp=>?_,?_⟩
  ·rcases List.mem_cons.1 hp with rfl|hp
   ·exact⟨c,h1⟩
   ·exact h3 p hp
  ·rw[Bool.or_eq_true,h4]
   constructor
   ·rintro(rfl|⟨p,hp,h5⟩)
    ·exact⟨q,List.mem_cons_self,h1⟩
    ·exact⟨p,List.mem_cons_of_mem _ hp,h5⟩
   ·rintro⟨p,hp,h5⟩
    rcases List.mem_cons.1 hp with rfl|hp
    ·rw[h1] at h5;injection h5 with h5;exact .inl h5
    ·exact .inr ⟨p,hp,h5⟩
theorem q5K {g:κ→ν→Option Bool}:∀{M:List (κ×ν)},(∀q∈M,∃c,g q.1 q.2=some c)→∃b,anyO g M=some b
 | [],_=>⟨false,rfl⟩
 | q::M,h=>by
  obtain⟨c,h1⟩:=h q List.mem_cons_self
  obtain⟨b,h2⟩:=q5K fun p hp=>h p (List.mem_cons_of_mem _ hp)
  exact⟨c||b,by unfold anyO;rw[h1,Option.bind_some,h2];rfl⟩
theorem q1E {kE:κ→Value} {vE:ν→R} {e:Value×R×Nat}:∀{M:List (κ×ν)} {i:Nat},e∈mpE kE vE M i→∃q∈M,e.1=kE q.1∧e.2.1=vE q.2∧i≤e.2.2∧e.2.2<i+M.length∧q3L (mpE kE vE M i) e.2.2=some (.tup [kR (kE q.1),vE q.2])
 | [],_,h=>by simp[mpE] at h
 | p::M,i,h=>by
  rw[mpE] at h
  rcases List.mem_cons.1 h with rfl|h
  ·refine⟨p,List.mem_cons_self,rfl,rfl,Nat.le_refl _,by simp,?_⟩
   unfold q3L
   rw[mpE,List.find?_cons]
   simp
  ·obtain⟨q,h1,h2,h3,h4,h5,h6⟩:=q1E h
   refine⟨q,List.mem_cons_of_mem _ h1,h2,h3,by omega,by simp;omega,?_⟩
   unfold q3L at h6 ⊢
   rw[mpE,List.find?_cons]
   have:(i==e.2.2)=false:=by simp;omega
   simp only[this]
   exact h6
theorem q5L {kE:κ→Value} {vE:ν→R} {q:κ×ν}:∀{M:List (κ×ν)} {i:Nat},q∈M→∃j,(kE q.1,vE q.2,j)∈mpE kE vE M i
 | [],_,h=>by simp at h
 | p::M,i,h=>by
  rw[mpE]
  rcases List.mem_cons.1 h with rfl|h
  ·exact⟨i,List.mem_cons_self⟩
  ·obtain⟨j,hj⟩:=q5L (kE:=kE) (vE:=vE) (i:=i+1) h
   exact⟨j,List.mem_cons_of_mem _ hj⟩
theorem q3D {kE:κ→Value} {vE:ν→R}:∀(M:List (κ×ν)) (i:Nat),(mpE kE vE M i).map (·.2.2)=List.range' i M.length
 | [],_=>rfl
 | p::M,i=>by rw[mpE,List.map_cons,q3D M,List.length_cons,List.range'_succ]
theorem qcC {E:Orc} {f k key:Nat} {c:Code} {it:Operand} (hc:lbO f key=c) (hl:okL f c) {kE:κ→Value} {vE:ν→R} {M:List (κ×ν)} {st:B→S} {id mid:Nat} {x z:Exit×S} {g:κ→ν→Option Bool}
  (hok:∀a,kOk (kE a)=true) (hit:∀b,(st b).ev it = .c (.hd .iter id)) (hid:∀b,(st b).blk id=b) (hmid:∀b,(st b).blk mid = .ob (mpB kE vE M)) (hne:mid≠id) (hgh:∀b b',(st b).gh id b'=st b')
  (hx:x.1 ≠ .normal) (hz:z.1 ≠ .normal)
  (hr:∀(a:κ) (v:ν) (j:Nat) (l:List Nat),q3L (mpE kE vE M 0) j=some (.tup [kR (kE a),vE v])→lz2 f k key (XE2 E f k c (st (.ob (.m1 (some (kE a,vE v,j)) (.c (.hd .map mid)) M.length l))))=(g a v).bind fun b=>if b=true then some x else some (.normal,st (.ob (.mi (.c (.hd .map mid)) M.length (j::l)))))
  (hn:∀(l:List Nat),lz2 f k key (XE2 E f k c (st (.ob (.m1 none (.c (.hd .map mid)) M.length l))))=some z) :
  XM2 E f k key it (st (.ob (.mi (.c (.hd .map mid)) M.length [])))=(anyO g M).bind fun b=>some (if b=true then x else z):=by
 have hF:∀s,(XEo E f k (lbO f key) s).bind (lpx pol f key k)=lz2 f k key (XE2 E f k c s):=fun s=>by rw[hc,q8n c hl];rfl
 have hHd:mHd it (st (.ob (.mi (.c (.hd .map mid)) M.length [])))=some (id,.c (.hd .map mid),M.length,mpE kE vE M 0):=by
  unfold mHd
  rw[hit]
  simp only[hid]
  have h1:mOf (st (.ob (.mi (.c (.hd .map mid)) M.length []))) id (.c (.hd .map mid)) M.length=some (mpE kE vE M 0):=by
   unfold mOf
   simp only[if_neg hne,hmid,mpB,if_true]
  rw[h1,Option.bind_some,if_pos]
  refine⟨by rw[q3D];exact List.nodup_range',List.all_eq_true.2 fun e he=>?_⟩
  obtain⟨q,-,h2,-,-,h3,-⟩:=q1E he
  rw[h2,hok,Bool.and_true,decide_eq_true_eq];omega
 have hg1:∀e l,(st (.ob (.mi (.c (.hd .map mid)) M.length []))).m1 id (.c (.hd .map mid)) M.length e l=st (.ob (.m1 e (.c (.hd .map mid)) M.length l)):=fun e l=>hgh _ _
 have hg2:∀l,(st (.ob (.mi (.c (.hd .map mid)) M.length []))).mi id (.c (.hd .map mid)) M.length l=st (.ob (.mi (.c (.hd .map mid)) M.length l)):=fun l=>hgh _ _
 have hent:∀e∈mpE kE vE M 0,∃q∈M,∀l,(XEo E f k (lbO f key) ((st (.ob (.mi (.c (.hd .map mid)) M.length []))).m1 id (.c (.hd .map mid)) M.length (some e) l)).bind (lpx pol f key k)=(g q.1 q.2).bind fun b=>if b=true then some x else some (.normal,(st (.ob (.mi (.c (.hd .map mid)) M.length []))).mi id (.c (.hd .map mid)) M.length (e.2.2::l)):=fun e he=>by
  obtain⟨q,h1,h2,h3,-,-,h4⟩:=q1E he
  refine⟨q,h1,fun l=>?_⟩
  rw[hF,hg1,hg2]
  obtain⟨e1,e2,e3⟩:=e
  simp only at h2 h3 h4
  subst h2 h3
  exact hr q.1 q.2 e3 l h4
 refine q3k (fun r h=>?_) (fun r h=>?_)
 ·obtain⟨id',m',ck',es',h1,h2⟩:=q1T h
  rw[hHd] at h1
  injection h1 with h1
  injection h1 with h3 h1
  injection h1 with h4 h1
  injection h1 with h5 h6
  subst h3 h4 h5 h6
  have hall:∀q∈M,∃b,g q.1 q.2=some b:=fun q hq=>by
   obtain⟨j,hj⟩:=q5L (kE:=kE) (vE:=vE) (i:=0) hq
   obtain⟨q',h1,h3,-,-,-,h4⟩:=q1E hj
   have hF1:(XEo E f k (lbO f key) ((st (.ob (.mi (.c (.hd .map mid)) M.length []))).m1 id (.c (.hd .map mid)) M.length (some (kE q.1,vE q.2,j)) [])).bind (lpx pol f key k)=(g q.1 q.2).bind fun b=>if b=true then some x else some (.normal,(st (.ob (.mi (.c (.hd .map mid)) M.length []))).mi id (.c (.hd .map mid)) M.length (j::[])):=by
    rw[hF,hg1,hg2]
    refine hr q.1 q.2 j [] ?_
    obtain⟨q2,g1,g2,g3,g4,g5,g6⟩:=q1E hj
    rw[g6]
    simp only at g2 g3
    rw[←g2,←g3]
   cases hgq:g q.1 q.2 with
   | some b=>exact⟨b,rfl⟩
   | none=>
    rw[hgq] at hF1
    rcases h2.ent _ hj with h5|h5
    ·have:=(h5 [] (Z4 _ _)).symm.trans hF1;cases this
    ·have:=(h5 [] (Z4 _ _)).symm.trans hF1;cases this
  obtain⟨b,hb⟩:=q5K hall
  rw[hb,Option.bind_some]
  obtain⟨-,hb2⟩:=q2r hb
  congr 1
  rcases h2.fin with ⟨e,he,h5⟩|h5
  ·obtain⟨q,h6,h7⟩:=hent e he
   have h8:=(h7 []).symm.trans (h5 [] (Z4 _ _))
   obtain⟨c',hc'⟩:=hall q h6
   rw[hc',Option.bind_some] at h8
   cases c' with
   | true=>
    rw[if_pos rfl] at h8
    injection h8 with h8
    rw[if_pos (hb2.2 ⟨q,h6,hc'⟩),h8]
   | false=>
    rw[if_neg (by simp)] at h8
    injection h8 with h8
    exact absurd (by rw[←h8]) h2.ne
  ·have h6:=h5 [] (Z4 _ _)
   rw[hF,hg1,hn] at h6
   injection h6 with h6
   cases hbb:b with
   | false=>rw[if_neg (by simp),h6]
   | true=>
    obtain⟨q,hq,hq2⟩:=hb2.1 hbb
    obtain⟨j,hj⟩:=q5L (kE:=kE) (vE:=vE) (i:=0) hq
    have hF1:(XEo E f k (lbO f key) ((st (.ob (.mi (.c (.hd .map mid)) M.length []))).m1 id (.c (.hd .map mid)) M.length (some (kE q.1,vE q.2,j)) [])).bind (lpx pol f key k)=some x:=by
     rw[hF,hg1]
     obtain⟨q2,g1,g2,g3,g4,g5,g6⟩:=q1E hj
     have:=hr q.1 q.2 j [] (by rw[g6];simp only at g2 g3;rw[←g2,←g3])
     rw[this,hq2];rfl
    rw[if_pos rfl]
    rcases h2.ent _ hj with h7|h7
    ·have:=(h7 [] (Z4 _ _)).symm.trans hF1
     injection this with this
     exact absurd (by rw[←this]) hx
    ·have:=(h7 [] (Z4 _ _)).symm.trans hF1
     injection this with this
     first
      | exact this
      | exact this.symm
 ·obtain⟨b,hb,h⟩:=Option.bind_eq_some_iff.1 h
  injection h with h
  subst h
  obtain⟨hall,hb2⟩:=q2r hb
  refine q8B hHd ⟨?_,fun e he=>?_,?_⟩
  ·split
   ·exact hx
   ·exact hz
  ·obtain⟨q,h6,h7⟩:=hent e he
   obtain⟨c',hc'⟩:=hall q h6
   cases c' with
   | false=>exact .inl fun l _=>by rw[h7 l,hc'];rfl
   | true=>exact .inr fun l _=>by rw[h7 l,hc',if_pos (hb2.2 ⟨q,h6,hc'⟩)];rfl
  ·cases hbb:b with
   | false=>exact .inr fun l _=>by rw[hF,hg1,hn];rfl
   | true=>
    obtain⟨q,hq,hq2⟩:=hb2.1 hbb
    obtain⟨j,hj⟩:=q5L (kE:=kE) (vE:=vE) (i:=0) hq
    refine .inl ⟨_,hj,fun l _=>?_⟩
    rw[hF,hg1]
    obtain⟨q2,g1,g2,g3,g4,g5,g6⟩:=q1E hj
    have:=hr q.1 q.2 j l (by rw[g6];simp only at g2 g3;rw[←g2,←g3])
    rw[this,hq2];rfl
theorem q50 {E:Orc} {f k key:Nat} {c:Code} {it:Operand} (hc:lbO f key=c) (hl:okL f c) {kE:κ→Value} {vE:ν→R} {M:List (κ×ν)} {st:B→S} {id mid:Nat} {x z:Exit×S} {g:κ→ν→Option Bool}
  (hok:∀a,kOk (kE a)=true) (hit:∀b,(st b).ev it = .c (.hd .iter id)) (hid:∀b,(st b).blk id=b) (hmid:∀b,(st b).blk mid = .ob (mpB kE vE M)) (hne:mid≠id) (hgh:∀b b',(st b).gh id b'=st b')
  (hx:x.1 ≠ .normal) (hz:z.1 ≠ .normal)
  (hr:∀(a:κ) (v:ν) (j:Nat) (l:List Nat),q3L (mpE kE vE M 0) j=some (.tup [kR (kE a),vE v])→lz2 f k key (XE2 E f k c (st (.ob (.m1 (some (kE a,vE v,j)) (.c (.hd .map mid)) M.length l))))=(g a v).bind fun b=>if b=true then some x else some (.normal,st (.ob (.mi (.c (.hd .map mid)) M.length (j::l)))))
  (hn:∀(l:List Nat),lz2 f k key (XE2 E f k c (st (.ob (.m1 none (.c (.hd .map mid)) M.length l))))=some z) :
  XM2 E f k key it (st (.ob (.mi (.c (.hd .map mid)) M.length [])))=(anyO g M).bind fun b=>if b=true then some x else some z:=by
 rw[qcC hc hl hok hit hid hmid hne hgh hx hz hr hn]
 congr 1
 funext b
 cases b<;>rfl
theorem qf.anyO {g h:κ→ν→Option Bool} (hg:∀a v,qf (g a v) (h a v)):∀M:List (κ×ν),qf (Vc.anyO g M) (Vc.anyO h M)
 | []=>qf.refl _
 | q::M=>qf.bind (hg _ _) fun _=>qf.bind (qf.anyO hg M) fun _=>qf.refl _
end
end Go.Proofs.Ytcdegieiflmaeaa.Vc
namespace Go.Proofs.Ytcdegieiflmaeaa.Vc
open Go.RowKit
theorem q5N {ν:Type} {vE:ν→R}:∀(M:List (ByteArray×ν)) (i:Nat),q4z (mpE zw vE M i)=some (M.map Prod.fst)
 | [],_=>rfl
 | p::M,i=>by
  rw[mpE]
  show(qhd (zw p.1)).bind _=_
  rw[q5N M];rfl
theorem qgN {ν:Type} {vE:ν→R} (M:List (ByteArray×ν)):skO (mpB zw vE M)=some (M.map Prod.fst):=by
 show(if((mpE zw vE M 0).map (·.2.2)).Nodup∧(mpE zw vE M 0).all (fun e=>decide (e.2.2<M.length))=true then q4z (mpE zw vE M 0) else none)=_
 rw[if_pos,q5N]
 refine⟨by rw[q3D];exact List.nodup_range',List.all_eq_true.2 fun e he=>?_⟩
 obtain⟨q,-,-,-,-,h3,-⟩:=q1E he
 simpa using h3
theorem q2Q:∀l:List ByteArray,l.map D.str=l.flatMap eS
 | []=>rfl
 | x::l=>by rw[List.flatMap_cons,List.map_cons,q2Q l];rfl
theorem qfe {ν:Type} {vE:ν→R} (g t:Nat) (M:List (ByteArray×ν)):qdr g 2 [.c (.fn g [] [.ptr 0 0])] [(0,.blk t [.hd .map 1]),(1,.ob (mpB zw vE M))] =
  if qfQ (M.map Prod.fst)=true then some (.c (.d (.sl 1 (q0L (M.map Prod.fst)).length ((q0L (M.map Prod.fst)).flatMap eS))),[(0,.blk t [.hd .map 1]),(1,.ob (mpB zw vE M))]) else none:=by
 show(if g=g then(skO (mpB zw vE M)).bind _ else none)=_
 rw[if_pos rfl,qgN,Option.bind_some,q2Q,(q03 _).length_eq]
theorem q34 {α β:Type} {E:α→List β} {z:Nat} (hE:∀x,(E x).length=z):∀(l:List α) (i:Nat),i<l.length→(l.flatMap E).take (i*z)++(l.flatMap E).drop ((i+1)*z)=(l.eraseIdx i).flatMap E
 | [],_,h=>by simp at h
 | x::l,0,_=>by
  rw[List.flatMap_cons,Nat.zero_mul,List.take_zero,List.nil_append,Nat.zero_add,Nat.one_mul,←hE x,List.drop_left];rfl
 | x::l,i+1,h=>by
  rw[List.flatMap_cons,List.eraseIdx_cons_succ,List.flatMap_cons,←q34 hE l i (by simpa using h)]
  have e1:(i+1)*z=(E x).length+i*z:=by rw[hE,Nat.add_mul];omega
  have e2:(i+1+1)*z=(E x).length+(i+1)*z:=by rw[hE,Nat.add_mul (i+1)];omega
  rw[e2,List.drop_append,e1,List.take_append]
  simp[Nat.add_sub_cancel_left,List.take_of_length_le,List.drop_of_length_le]
theorem qci {α:Type} {E:α→List D} {e z:Nat} (hE:∀x,(E x).length=z) {n:Nat} (l:List α) (i j:Int) (hn:n=l.length):q67 e z 0 [.c (.own 0 z 0 n),.c (.d (.int .i64 i)),.c (.d (.int .i64 j))] [(0,.row e z ((l.flatMap E).map C.d))] =
  if 0≤i∧j=i+1∧i<l.length then some (.c (.own 0 z 0 (l.eraseIdx i.toNat).length),[(0,.row e z (((l.eraseIdx i.toNat).flatMap E).map C.d))]) else none:=by
 subst hn
 show qfP e z z z e l.length i j _=_
 unfold qfP
 have h1:((l.flatMap E).map C.d).length=l.length*z:=by
  rw[List.length_map]
  induction l with
  | nil=>simp
  | cons x l ih=>rw[List.flatMap_cons,List.length_append,ih,hE,List.length_cons,Nat.add_mul];omega
 have h2:((l.flatMap E).map C.d).all C.known=true:=by rw[List.all_map];exact List.all_eq_true.2 fun x _=>rfl
 have h3:((l.flatMap E).map C.d).all (C.far 0)=true:=by rw[List.all_map];exact List.all_eq_true.2 fun x _=>rfl
 by_cases hc:0≤i∧j=i+1∧i<(l.length:Int)
 ·rw[if_pos ⟨rfl,rfl,rfl,h1,h2,h3,hc⟩,if_pos hc]
  have hi:i.toNat<l.length:=by omega
  rw[←List.map_take,←List.map_drop,←List.map_append,q34 hE l _ hi,List.length_eraseIdx,if_pos hi]
 ·rw[if_neg (fun h=>hc h.2.2.2.2.2.2),if_neg hc]
end Go.Proofs.Ytcdegieiflmaeaa.Vc
namespace Go.Proofs.Ytcdegieiflmaeaa.Vc
open Go.RowKit
def bx0:=JA_ @S.strip.eq_1 (JA_ @q0s.eq_1 (JA_ @q0s.eq_2 (JA_ @R.isA.eq_2 (JA_ @qfU.eq_1 (JA_ @q7S.eq_1 (JA_ @q8T.eq_1 (JA_ @S.ly.eq_1 (JA_ @alC.eq_1 (JA_ @alC.eq_2 (JA_ @alX.eq_2 (JA_ @ipX.eq_1 (JA_ @qfq.eq_1 (JA_ @qfq.eq_2 (JA_ @q4T.eq_1 (JA_ @qaQ.eq_2 (JA_ @zmk.eq_1 (JA_ @zmk.eq_2 (JA_ @S.fin.eq_1 (JA_ @S.fn1.eq_1 (JA_ @S.inr.eq_1 (JA_ @prx.eq_1 (JA_ @pr0.eq_1 (JA_ @List.isEmpty_nil.{0} (JA_ @List.isEmpty_cons.{0} (@wbC.eq_1)))))))))))))))))))))))))
def bx1:=JA_ @qh8.eq_1 (JA_ @dzc.eq_2 (JA_ @dzc.eq_3 (JA_ @C.isNils.eq_2 (JA_ @qap (JA_ @Jg.eq_1 (@q2o.eq_1))))))
def bx2:=JA_ @S.kill.eq_1 (JA_ @okX.eq_1 (JA_ @okX.eq_2 (JA_ @okK.eq_1 (JA_ @okN.eq_1 (JA_ @okN.eq_2 (JA_ @qc4.eq_1 (JA_ @qc4.eq_2 (JA_ @qcZ.eq_1 (JA_ @qcZ.eq_2 (JA_ @q19.eq_1 (JA_ @q7e.eq_1 (JA_ @Ju.eq_1 (JA_ @q6R.eq_1 (JA_ @q0U.eq_1 (@q2c.eq_1)))))))))))))))
def bx3:=JA_ @q7v.eq_1 (JA_ @D.key.eq_3 (JA_ @R.key.eq_1 (JA_ @plK.eq_2 (JA_ @zR.eq_1 (@tt2.eq_1)))))
def bx4:=JA_ @B.isOb.eq_2 (JA_ @AO.mapR.eq_3 (JA_ @AO.mapR.eq_4 (JA_ @AO.Rs.eq_3 (JA_ @AO.Rs.eq_4 (JA_ @R.refs0.eq_1 (JA_ @xgd.eq_1 (JA_ @xgF.eq_1 (JA_ @xo.eq_1 (JA_ @xo.eq_2 (JA_ @xo.eq_3 (JA_ @xo.eq_4 (JA_ @xo.eq_5 (JA_ @xo.eq_6 (JA_ @xo.eq_7 (JA_ @xo.eq_8 (JA_ @xo.eq_9 (@xo.eq_11)))))))))))))))))
def bx5:=JA_ @xo.eq_12 (JA_ @xo.eq_13 (JA_ @xo.eq_14 (JA_ @xo.eq_17 (JA_ @xo.eq_19 (JA_ @xo.eq_21 (JA_ @xo.eq_22 (JA_ @xo.eq_23 (JA_ @xo.eq_24 (JA_ @xo.eq_25 (JA_ @xo.eq_29 (JA_ @xo.eq_30 (JA_ @xo.eq_31 (JA_ @xCl.eq_1 (JA_ @pre.eq_1 (JA_ @pre.eq_2 (JA_ @pre.eq_3 (JA_ @q2k.eq_1 (JA_ @ZS.eq_1 (JA_ @q2R.eq_1 (JA_ @q5u.eq_1 (JA_ @q4Q.eq_1 (JA_ @JQ.eq_1 (JA_ @Jl.eq_2 (JA_ @Jl.eq_3 (JA_ @qhl.eq_1 (JA_ @q6A.eq_1 (JA_ @q6A.eq_2 (JA_ @cvR.eq_1 (@cvR.eq_2)))))))))))))))))))))))))))))
def bx6:=JA_ @cvL.eq_1 (JA_ @cvL.eq_2 (JA_ @q8Z.eq_1 (JA_ @q8Z.eq_2 (JA_ @cv.eq_1 (JA_ @cv.eq_2 (JA_ @cv0.eq_1 (JA_ @cv0.eq_5 (JA_ @cv0.eq_8 (JA_ @cv0.eq_9 (JA_ @cv0.eq_10 (JA_ @cvG.eq_1 (JA_ @cvG.eq_2 (JA_ @cvB.eq_1 (JA_ @cvB.eq_2 (JA_ @cvB.eq_3 (JA_ @vis.eq_1 (JA_ @q3N.eq_1 (JA_ @q3N.eq_2 (JA_ @JH (JA_ @qcH.eq_1 (JA_ @pos.eq_1 (JA_ @pos.eq_2 (JA_ @q9U.eq_1 (JA_ @qay.eq_1 (JA_ @q5d.eq_1 (JA_ @qfF.eq_1 (JA_ @q0v.eq_1 (JA_ @q02.eq_1 (@q05.eq_1)))))))))))))))))))))))))))))
def bx7:=JA_ @q1S.eq_1 (JA_ @q6B.eq_1 (JA_ @q6B.eq_2 (JA_ @q6B.eq_5 (JA_ @q6B.eq_10 (JA_ @q6B.eq_11 (JA_ @q6B.eq_12 (JA_ @q6B.eq_13 (JA_ @q6B.eq_14 (JA_ @q6B.eq_15 (JA_ @qbn.eq_2 (JA_ @qbn.eq_3 (JA_ @qbn.eq_6 (JA_ @qbn.eq_7 (JA_ @qfM.eq_1 (@qft.eq_1)))))))))))))))
def bx8:=JA_ @qfB.eq_1 (JA_ @q9t.eq_1 (JA_ @q57.eq_1 (JA_ @Zf.eq_1 (JA_ @q1a.eq_1 (JA_ @q0I.eq_1 (JA_ @Kd.isSl.eq_1 (JA_ @nrm.eq_1 (JA_ @qaW.eq_1 (JA_ @qgy.eq_1 (JA_ @rng.eq_1 (JA_ @rng.eq_2 (JA_ @rwAll.eq_1 (JA_ @rwAll.eq_2 (JA_ @rw1.eq_2 (JA_ @cn.eq_1 (JA_ @cn.eq_2 (JA_ @cn0.eq_1 (JA_ @cn0.eq_2 (JA_ @cn0.eq_3 (JA_ @cn0.eq_5 (JA_ @cnR.eq_2 (JA_ @q6D.eq_1 (JA_ @q6D.eq_2 (JA_ @q6D.eq_3 (JA_ @cnB.eq_1 (JA_ @cnB.eq_2 (@cnB.eq_3)))))))))))))))))))))))))))
def bx9:=JA_ @cnH.eq_1 (JA_ @cnH.eq_2 (JA_ @qes (JA_ @qD.eq_1 (JA_ @qD.eq_2 (JA_ @qea.eq_1 (JA_ @q6f.eq_1 (JA_ @q2M.eq_1 (JA_ @q6e.eq_1 (JA_ @q2I.eq_1 (JA_ @q4I.eq_1 (JA_ @q2K.eq_1 (JA_ @q2K.eq_2 (JA_ @S.frz.eq_1 (JA_ @S.frz.eq_2 (JA_ @S.frz1.eq_1 (JA_ @fz.eq_2 (JA_ @fz0.eq_1 (JA_ @fz0.eq_2 (JA_ @fz0.eq_5 (JA_ @fzR.eq_2 (JA_ @qas.eq_1 (JA_ @qas.eq_2 (JA_ @fzB.eq_1 (JA_ @fzB.eq_2 (JA_ @fzB.eq_4 (JA_ @qei (JA_ @dz.eq_1 (JA_ @dz.eq_2 (@dzL.eq_1)))))))))))))))))))))))))))))
def qjA:=JA_ @dzL.eq_2 (JA_ @dzR.eq_1 (JA_ @dzR.eq_2 (JA_ @q68.eq_1 (JA_ @q68.eq_2 (JA_ @one.eq_1 (JA_ @one.eq_2 (JA_ @rvs.eq_1 (JA_ @rvs.eq_2 (JA_ @qbV.eq_1 (JA_ @qbV.eq_2 (JA_ @tt.eq_1 (JA_ @ff.eq_1 (JA_ @q3o.eq_1 (JA_ @q3o.eq_2 (JA_ @C.ref0.eq_1 (JA_ @C.ref0.eq_2 (JA_ @C.ref0.eq_3 (JA_ @C.ref0.eq_4 (JA_ @C.refs.eq_1 (JA_ @C.refs.eq_2 (JA_ @B.refs.eq_1 (JA_ @B.refs.eq_2 (JA_ @B.refs.eq_3 (JA_ @B.refs.eq_4 (JA_ @R.refs.eq_1 (JA_ @R.refs.eq_2 (JA_ @R.refs.eq_4 (JA_ @C.rows0.eq_1 (JA_ @C.rows0.eq_2 (JA_ @C.rows.eq_1 (JA_ @C.rows.eq_2 (JA_ @R.rows.eq_1 (JA_ @R.rows.eq_2 (JA_ @C.ptrs0.eq_1 (JA_ @C.ptrs0.eq_2 (@C.ptrs0.eq_3))))))))))))))))))))))))))))))))))))
def qjl:=JA_ @C.ptrs.eq_1 (JA_ @C.ptrs.eq_2 (JA_ @R.ptrs.eq_1 (JA_ @R.ptrs.eq_2 (JA_ @B.isBlk.eq_1 (JA_ @B.isBlk.eq_2 (JA_ @B.isBlk.eq_3 (JA_ @R.scl.eq_1 (JA_ @R.scl.eq_2 (JA_ @R.scl0.eq_1 (JA_ @R.scl0.eq_2 (JA_ @C.scl.eq_1 (JA_ @C.scl.eq_2 (JA_ @C.scl0.eq_1 (JA_ @C.scl0.eq_4 (JA_ @B.scl.eq_1 (JA_ @B.scl.eq_2 (JA_ @B.scl.eq_3 (JA_ @C.dat.eq_2 (JA_ @C.dat0.eq_1 (JA_ @C.dat0.eq_5 (JA_ @C.dat0.eq_8 (JA_ @ren.eq_1 (JA_ @R.rn.eq_1 (JA_ @R.rn.eq_2 (JA_ @R.rn0.eq_1 (JA_ @R.rn0.eq_2 (@C.rn.eq_1)))))))))))))))))))))))))))
def qjO:=JA_ @C.rn.eq_2 (JA_ @C.rn0.eq_1 (JA_ @C.rn0.eq_2 (JA_ @C.rn0.eq_3 (JA_ @C.rn0.eq_5 (JA_ @B.rn.eq_1 (JA_ @B.rn.eq_2 (JA_ @B.rn.eq_3 (JA_ @qej (JA_ @S.aft.eq_1 (JA_ @S.fgL.eq_1 (JA_ @S.fgL.eq_2 (JA_ @C.fgL.eq_1 (JA_ @C.fgL.eq_3 (JA_ @C.fgL.eq_4 (JA_ @C.fgL.eq_5 (JA_ @R.fgL.eq_1 (JA_ @R.fgL.eq_2 (JA_ @B.fgL.eq_1 (JA_ @B.fgL.eq_2 (JA_ @B.fgL.eq_4 (@C.farL.eq_1)))))))))))))))))))))
def qjH:=JA_ @qfC.eq_3 (JA_ @S.ev.eq_1 (JA_ @S.ev.eq_2 (JA_ @S.ev.eq_3 (JA_ @S.get.eq_1 (JA_ @S.blk.eq_1 (JA_ @S.put.eq_1 (JA_ @S.put.eq_2 (JA_ @S.up.eq_1 (JA_ @S.seq.eq_1 (JA_ @S.cell1.eq_1 (JA_ @lk.eq_1 (JA_ @lk.eq_2 (JA_ @Jo.eq_1 (JA_ @Jo.eq_2 (JA_ @Jo.eq_3 (JA_ @Jo.eq_5 (JA_ @Jo.eq_6 (JA_ @Jo.eq_7 (JA_ @JX.eq_1 (JA_ @JX.eq_2 (JA_ @qco (JA_ @ldx.eq_1 (JA_ @bld.eq_1 (JA_ @bld.eq_2 (JA_ @spl.eq_1 (JA_ @spl.eq_2 (JA_ @Zj.eq_1 (JA_ @Ty.foff.eq_1 (JA_ @R.cells.eq_1 (@R.cells.eq_2))))))))))))))))))))))))))))))
def qiS:=JA_ @R.parts.eq_1 (JA_ @R.parts.eq_2 (JA_ @B.cells.eq_1 (JA_ @B.cells.eq_2 (JA_ @B.live.eq_1 (JA_ @B.live.eq_2 (JA_ @C.known.eq_2 (JA_ @C.far.eq_1 (JA_ @C.far.eq_5 (JA_ @S.fg.eq_1 (JA_ @R.fg.eq_1 (JA_ @R.fg.eq_2 (JA_ @B.fg.eq_1 (JA_ @B.fg.eq_2 (JA_ @B.fg.eq_4 (JA_ @C.fg.eq_1 (JA_ @C.fg.eq_3 (JA_ @C.fg.eq_4 (JA_ @C.fg.eq_5 (JA_ @D1.eq_1 (JA_ @q0F.eq_1 (JA_ @q0F.eq_3 (JA_ @q0F.eq_6 (JA_ @q0F.eq_7 (@q0F.eq_8))))))))))))))))))))))))
def qjs:=JA_ @q0F.eq_10 (JA_ @q0F.eq_11 (JA_ @q0F.eq_12 (JA_ @q0F.eq_15 (JA_ @q0F.eq_17 (JA_ @q0F.eq_23 (JA_ @q6C.eq_1 (JA_ @q6C.eq_2 (JA_ @q6C.eq_5 (JA_ @q6C.eq_6 (JA_ @q2P.eq_5 (JA_ @q2P.eq_6 (JA_ @qaj.eq_4 (JA_ @qaj.eq_5 (JA_ @fpC.eq_1 (JA_ @qf2.eq_1 (JA_ @qdD.eq_1 (@qfp.eq_1)))))))))))))))))
def qiE:=JA_ @C.lt0.eq_4 (JA_ @C.ltn.eq_2 (JA_ @R.lt0.eq_1 (JA_ @R.ltn.eq_2 (JA_ @JK.eq_1 (JA_ @Fp.none?.eq_1 (JA_ @okP.eq_1 (JA_ @okP.eq_2 (JA_ @qav (JA_ @q9L (JA_ @qck (JA_ @q9y (JA_ @qar (JA_ @q96 (JA_ @qcq (JA_ @q9T (JA_ @q9I (JA_ @q9H (JA_ @q69 (JA_ @qcT (JA_ @qan (JA_ @qaw (JA_ @qce (JA_ @q9j (JA_ @q9R (JA_ @q9G (JA_ @qbG (JA_ @qa5 (JA_ @q9u (@qaq)))))))))))))))))))))))))))))
def qjj:=JA_ @qbB (JA_ @q9k (JA_ @qcL (JA_ @q81 (JA_ @qbE (JA_ @q99 (JA_ @qf4 (JA_ @qc7 (JA_ @Go.Op.operands.eq_4 (JA_ @Go.Op.operands.eq_7 (JA_ @Go.Op.operands.eq_9 (JA_ @Go.Op.operands.eq_10 (JA_ @Go.Op.operands.eq_14 (JA_ @Go.Op.operands.eq_23 (@Go.Op.operands.eq_24))))))))))))))
def qjz:=JA_ @Go.Op.operands.eq_25 (JA_ @Go.Op.operands.eq_27 (JA_ @Go.Op.operands.eq_29 (JA_ @Go.Op.operands.eq_40 (JA_ @qdi (JA_ @qdT (JA_ @qdQ.eq_1 (JA_ @qdQ.eq_2 (JA_ @Option.toList_some.{0} (JA_ @List.getElem?_nil.{0} (JA_ @List.drop_zero.{0} (JA_ @Int.cast_ofNat_Int (JA_ @Int.le_refl (JA_ @Nat.le_refl (JA_ @Option.bind_assoc.{0,0,0} (JA_ @List.any_nil.{0} (JA_ @List.any_cons.{0} (JA_ @List.getD_cons_zero.{0} (JA_ @List.getD_cons_succ.{0} (@true_and)))))))))))))))))))
def qjn:=JA_ @and_true (JA_ @Option.bind_some.{0,0} (JA_ @Option.bind_none.{0,0} (JA_ @Option.map_some.{0,0} (JA_ @Option.map_none.{0,0} (JA_ @Option.getD_some.{0} (JA_ @Option.getD_none.{0} (JA_ @ne_eq.{1} (JA_ @not_false_eq_true (JA_ @or_false (JA_ @Bool.false_eq_true (JA_ @List.map_cons.{0,0} (JA_ @List.map_nil.{0,0} (JA_ @List.all_cons.{0} (JA_ @List.all_nil.{0} (JA_ @Bool.and_true (JA_ @Bool.true_and (JA_ @Bool.and_false (JA_ @Bool.false_and (JA_ @Bool.and_eq_true (JA_ @Bool.or_true (JA_ @Bool.true_or (JA_ @Bool.or_false (JA_ @Bool.false_or (JA_ @List.length_cons.{0} (JA_ @List.length_nil.{0} (JA_ @List.length_map.{0,0} (JA_ @List.getElem?_cons_zero.{0} (JA_ @List.getElem?_cons_succ.{0} (JA_ @List.foldl_cons.{0,0} (JA_ @List.foldl_nil.{0,0} (@List.cons_append.{0})))))))))))))))))))))))))))))))
def qiZ:=JA_ @List.nil_append.{0} (JA_ @List.append_nil.{0} (JA_ @Nat.max_def (JA_ @decide_true (JA_ @decide_false (JA_ @decide_not (JA_ @decide_eq_true_eq (JA_ @Nat.zero_le (JA_ @Nat.zero_mul (JA_ @Nat.mul_one (JA_ @Nat.one_mul (JA_ @Nat.add_zero (JA_ @Nat.zero_add (JA_ @List.mapM_cons.{0,0,0} (JA_ @List.mapM_nil.{0,0,0} (JA_ @List.drop_succ_cons.{0} (JA_ @List.drop_nil.{0} (JA_ @List.take_succ_cons.{0} (JA_ @List.take_zero.{0} (JA_ @List.replicate_succ.{0} (JA_ @List.replicate_zero.{0} (JA_ @List.set_cons_zero.{0} (JA_ @List.set_cons_succ.{0} (JA_ @and_self (JA_ @Bool.not_true (JA_ @Bool.not_false (JA_ @List.contains_cons.{0} (JA_ @List.contains_nil.{0} (JA_ @List.flatMap_cons.{0,0} (JA_ @List.flatMap_nil.{0,0} (JA_ @List.filter_cons.{0} (JA_ @List.filter_nil.{0} (JA_ @List.eraseDups_cons.{0} (JA_ @List.eraseDups_nil.{0} (JA_ @List.nodup_cons.{0} (JA_ @List.nodup_nil.{0} (JA_ @List.mem_cons.{0} (JA_ @List.not_mem_nil.{0} (@List.headD_cons.{0}))))))))))))))))))))))))))))))))))))))
def qj1:=JA_ @List.headD_nil.{0} (JA_ @List.tail_cons.{0} (JA_ @List.tail_nil.{0} (JA_ @beq_self_eq_true.{0} (JA_ @Zp (JA_ @List.range_succ (JA_ @List.range_zero (JA_ @ite_self.{1} (JA_ @frA.eq_1 (JA_ @R.dat.eq_1 (JA_ @R.dat.eq_2 (JA_ @qcz (JA_ @qfa (JA_ @qbZ (JA_ @qcy (JA_ @qdl (JA_ @qaB (JA_ @q3W (JA_ @q9B (JA_ @mpo.eq_2 (JA_ @qh1 (@q6u)))))))))))))))))))))
def qjg:=JA_ @qf9 (JA_ @qcw (JA_ @qd2 (JA_ @qbD (JA_ @qey (JA_ @qae (JA_ @qbX (JA_ @q8f (JA_ @qbT (JA_ @qbh (JA_ @q9Z (JA_ @qa4 (JA_ @ZI.eq_1 (@ZI.eq_2)))))))))))))
def qjN:=JA_ @qcb.eq_2 (JA_ @hdG.eq_1 (JA_ @qdy.eq_1 (JA_ @qdy.eq_2 (JA_ @q8w (JA_ @xrg.eq_1 (JA_ @xrg.eq_3 (JA_ @qg9 (JA_ @q8J (JA_ @xen.eq_1 (JA_ @qgM.eq_1 (JA_ @qhp.eq_1 (JA_ @q7o (JA_ @xnm.eq_1 (JA_ @qfm.eq_1 (JA_ @qfm.eq_2 (JA_ @q8U (JA_ @q6k (JA_ @qcK (JA_ @qa6 (JA_ @q9M (JA_ @qbP (@q9A))))))))))))))))))))))
def qjp:=JA_ @qbw (JA_ @q9s (JA_ @q6d (JA_ @qby (JA_ @q9D (JA_ @qaK (JA_ @qcA (JA_ @qa9 (JA_ @qaA (JA_ @qcc (JA_ @qbS (JA_ @q9p (JA_ @qjC (JA_ @qiG (JA_ @qhn (JA_ @qgq (JA_ @qgZ (JA_ @qee (JA_ @qfc (JA_ @qdk (JA_ @qgv (JA_ @qdw (JA_ @qff (JA_ @qdM (JA_ @qbp (JA_ @qbv (JA_ @qeO (JA_ @qc5 (@qdX))))))))))))))))))))))))))))
def qjP:=JA_ @qdj (JA_ @Sum.elim_inl.{0,1,0} (JA_ @Sum.elim_inr.{0,1,0} (JA_ @q8c (JA_ @q8s (@qaf)))))
def qjJ:=JA_ @qd5 (JA_ @qfW.eq_1 (JA_ @List.length_append.{0} (JA_ @q6q (JA_ @List.take_nil.{0} (@qfe)))))
end Go.Proofs.Ytcdegieiflmaeaa.Vc
namespace Go.Proofs.Ytcdegieiflmaeaa.Vc
open Go.RowKit
structure qa where
 Code:ByteArray
 Credits:Int
 Places:Int
 Slots:List Int
 Needs:List ByteArray
def qh (x:qa):List D:=[D.str x.Code,D.int .i64 x.Credits,D.int .i64 x.Places,D.sl 1 x.Slots.length (x.Slots.flatMap eI),D.sl 1 x.Needs.length (x.Needs.flatMap eS)]
theorem ZV (x:qa):qh x=[D.str x.Code,D.int .i64 x.Credits,D.int .i64 x.Places,D.sl 1 x.Slots.length (x.Slots.flatMap eI),D.sl 1 x.Needs.length (x.Needs.flatMap eS)]:=rfl
theorem JP (x:qa):(qh x).length=5:=rfl
theorem q2j (x:qa):qa.mk x.Code x.Credits x.Places x.Slots x.Needs=x:=rfl
theorem q7W:∀x:Int,(eI x).length=1:=fun _=>rfl
theorem qg3 (v:List Int):(v.flatMap eI).length=v.length:=by rw[q15 q7W,Nat.mul_one]
theorem q9V (v:List Int) (i:Nat):ld T ((v.flatMap eI).map C.d) (i) 3=(v[i]?).bind fun x=>some (.c (.d (D.int .i64 x))):=by rw[q3p q7W v i _ (by decide)];cases v[i]? with|none=>rfl|some x=>rfl
theorem qhc (v:List Int) (a:Int):(v.flatMap eI).map C.d++[C.d (D.int .i64 a)]=((v++[a]).flatMap eI).map C.d:=by have h:=q8u (E:=eI) v a;exact h
theorem q2n:∀x:qa,(qh x).length=5:=JP
theorem qeA (v:List qa):(v.flatMap qh).length=v.length*5:=by rw[q15 q2n]
theorem q6j (v:List qa) (i:Nat):ld T ((v.flatMap qh).map C.d) (i*5) 35=(v[i]?).bind fun x=>some (.agg [.d (D.str x.Code),.d (D.int .i64 x.Credits),.d (D.int .i64 x.Places),.d (D.sl 1 x.Slots.length (x.Slots.flatMap eI)),.d (D.sl 1 x.Needs.length (x.Needs.flatMap eS))]):=by rw[q5Y q2n v i _ (by decide) (by decide)];cases v[i]? with|none=>rfl|some x=>rw[Option.bind_some,Option.bind_some,ZV];rfl
theorem q8v (v:List qa) (i:Nat):ld T ((v.flatMap qh).map C.d) (i*5) 9=(v[i]?).bind fun x=>some (.c (.d (D.str x.Code))):=by rw[q5Y q2n v i _ (by decide) (by decide)];cases v[i]? with|none=>rfl|some x=>rw[Option.bind_some,Option.bind_some,ZV];rfl
theorem qcD:∀x:(List qa),((eL 5 qh) x).length=1:=fun _=>rfl
theorem q8y:∀x:ByteArray,(eS x).length=1:=fun _=>rfl
theorem qgi (v:List ByteArray):(v.flatMap eS).length=v.length:=by rw[q15 q8y,Nat.mul_one]
theorem q94 (v:List ByteArray) (i:Nat):ld T ((v.flatMap eS).map C.d) (i) 9=(v[i]?).bind fun x=>some (.c (.d (D.str x))):=by rw[q3p q8y v i _ (by decide)];cases v[i]? with|none=>rfl|some x=>rfl
theorem qgT (v:List ByteArray) (a:ByteArray):(v.flatMap eS).map C.d++[C.d (D.str a)]=((v++[a]).flatMap eS).map C.d:=by have h:=q8u (E:=eS) v a;exact h
theorem qaR:∀x:Int,(eU8 x).length=1:=fun _=>rfl
theorem qa8 (v:List Int) (i:Nat):ld T ((v.flatMap eU8).map C.d) (i) 5=(v[i]?).bind fun x=>some (.c (.d (D.int .u8 x))):=by rw[q3p qaR v i _ (by decide)];cases v[i]? with|none=>rfl|some x=>rfl
theorem q4a (v w:List Int):(v.flatMap eI=w.flatMap eI)=(v=w):=propext ⟨fun h=>(Jq q7W (by decide) (fun x y h=>by injection h with h;injection h) _ _) h,fun h=>by rw[h]⟩
theorem q4h (v w:List ByteArray):(v.flatMap eS=w.flatMap eS)=(v=w):=propext ⟨fun h=>(Jq q8y (by decide) (fun x y h=>by injection h with h;injection h) _ _) h,fun h=>by rw[h]⟩
theorem JR:∀x y:qa,qh x=qh y→x=y:=by
 rintro⟨a_0,a_1,a_2,a_3,a_4⟩ ⟨b_0,b_1,b_2,b_3,b_4⟩ h
 simp only[ZV,List.cons.injEq,D.int.injEq,D.bool.injEq,D.str.injEq,D.sl.injEq,true_and,and_true,q4a,q4h] at h
 simp only[h]
theorem q3m (v w:List qa):(v.flatMap qh=w.flatMap qh)=(v=w):=propext ⟨fun h=>(Jq q2n (by decide) JR _ _) h,fun h=>by rw[h]⟩
theorem q3q (v w:List (List qa)):(v.flatMap (eL 5 qh)=w.flatMap (eL 5 qh))=(v=w):=propext ⟨fun h=>(Jq qcD (by decide) (fun x y h=>by injection h with h;injection h with _ _ h;exact(Jq q2n (by decide) JR _ _) h) _ _) h,fun h=>by rw[h]⟩
theorem q5W (v w:List Int):(v.flatMap eU8=w.flatMap eU8)=(v=w):=propext ⟨fun h=>(Jq qaR (by decide) (fun x y h=>by injection h with h;injection h) _ _) h,fun h=>by rw[h]⟩
def Q6 (v:Bool):R:=R.c (C.d (D.bool v))
theorem q61 (M M':List (ByteArray×Bool)):(B.ob (mpB zw Q6 M)=B.ob (mpB zw Q6 M'))=(M=M'):=q89 (fun a b h=>by injection h) (fun a b h=>by simp only[Q6,R.c.injEq,C.d.injEq,D.int.injEq,D.bool.injEq,D.str.injEq,D.sl.injEq,true_and,and_true,q4a,q4h,q3m,q3q,q5W] at h;simp only[h]) M M'
theorem qeC (f:Nat→Nat) (M:List (ByteArray×Bool)):AO.mapR (R.rn0 f) (mpB zw Q6 M)=mpB zw Q6 M:=q1Q (vE:=Q6) (fun v=>rfl) M
theorem qd6 (ids:List Nat) (M:List (ByteArray×Bool)):AO.mapR (q6D ids) (mpB zw Q6 M)=mpB zw Q6 M:=q1Q (vE:=Q6) (fun v=>rfl) M
theorem qdG (M:List (ByteArray×Bool)):(mpB zw Q6 M).Rs.all (R.scl0)=true:=qbx (fun v=>rfl) M
theorem qdb (M:List (ByteArray×Bool)):(mpB zw Q6 M).Rs.flatMap R.refs0=[]:=q5f (fun v=>rfl) M
theorem qbU (s:S) (sel:List Nat) (M:List (ByteArray×Bool)):cvA s sel (mpB zw Q6 M)=some (mpB zw Q6 M):=q8k (fun v=>rfl) M
theorem qah (M:List (ByteArray×Bool)):((mpE zw Q6 M 0).all fun q=>plK Kd.str q.1)=true:=q3n (fun k r i=>rfl) M 0
theorem qbr (ok:Bool) (k:ByteArray) (M:List (ByteArray×Bool)):lkq ok (R.c (C.d (D.bool false))) (fnd (Value.string k) (mpE zw Q6 M 0) 0)=some (tt2 (R.c (C.d (D.bool (q41 false M k)))) ok (q2L M k)):=qeN (vE:=Q6) (kE:=zw) (q5p) (false) ok k M
theorem qbK (k:ByteArray) (v:Bool) (M:List (ByteArray×Bool)):mup Kd.str (Value.string k) (R.c (C.d (D.bool v))) (.ob (mpB zw Q6 M))=some (.ob (mpB zw Q6 (q3t M k v))):=qe8 (vE:=Q6) (kE:=zw) (q5p) (fun a=>rfl) k v M
theorem qda (s:S) (p:Nat):ZQ T s p 46 none=some (.c (.hd .map p),s.up [(p,.ob (mpB zw Q6 ([]:List (ByteArray×Bool))))]):=rfl
def z6 (v:List ByteArray):R:=R.c (C.d (D.sl 1 v.length (v.flatMap eS)))
theorem q5x (M M':List (ByteArray×List ByteArray)):(B.ob (mpB zw z6 M)=B.ob (mpB zw z6 M'))=(M=M'):=q89 (fun a b h=>by injection h) (fun a b h=>by simp only[z6,R.c.injEq,C.d.injEq,D.int.injEq,D.bool.injEq,D.str.injEq,D.sl.injEq,true_and,and_true,q4a,q4h,q3m,q3q,q5W] at h;simp only[h]) M M'
theorem qdH (f:Nat→Nat) (M:List (ByteArray×List ByteArray)):AO.mapR (R.rn0 f) (mpB zw z6 M)=mpB zw z6 M:=q1Q (vE:=z6) (fun v=>rfl) M
theorem qf1 (ids:List Nat) (M:List (ByteArray×List ByteArray)):AO.mapR (q6D ids) (mpB zw z6 M)=mpB zw z6 M:=q1Q (vE:=z6) (fun v=>rfl) M
theorem qfd (M:List (ByteArray×List ByteArray)):(mpB zw z6 M).Rs.flatMap R.refs0=[]:=q5f (fun v=>rfl) M
theorem qcG (s:S) (sel:List Nat) (M:List (ByteArray×List ByteArray)):cvA s sel (mpB zw z6 M)=some (mpB zw z6 M):=q8k (fun v=>rfl) M
theorem q9N (M:List (ByteArray×List ByteArray)):((mpE zw z6 M 0).all fun q=>plK Kd.str q.1)=true:=q3n (fun k r i=>rfl) M 0
theorem qct (ok:Bool) (k:ByteArray) (M:List (ByteArray×List ByteArray)):lkq ok (R.c (C.d (D.sl 1 0 []))) (fnd (Value.string k) (mpE zw z6 M 0) 0)=some (tt2 (R.c (C.d (D.sl 1 (q41 [] M k).length ((q41 [] M k).flatMap eS)))) ok (q2L M k)):=qeN (vE:=z6) (kE:=zw) (q5p) ([]) ok k M
theorem qbj (k:ByteArray) (v:List ByteArray) (M:List (ByteArray×List ByteArray)):mup Kd.str (Value.string k) (R.c (C.d (D.sl 1 v.length (v.flatMap eS)))) (.ob (mpB zw z6 M))=some (.ob (mpB zw z6 (q3t M k v))):=qe8 (vE:=z6) (kE:=zw) (q5p) (fun a=>rfl) k v M
theorem qel (s:S) (p:Nat):ZQ T s p 65 none=some (.c (.hd .map p),s.up [(p,.ob (mpB zw z6 ([]:List (ByteArray×List ByteArray))))]):=rfl
theorem qcE (l:List qa) (i j:Int):q67 35 5 0 [.c (.own 0 5 0 l.length),.c (.d (.int .i64 i)),.c (.d (.int .i64 j))] [(0,.row 35 5 ((l.flatMap qh).map C.d))]=if 0≤i∧j=i+1∧i<l.length then some (.c (.own 0 5 0 (l.eraseIdx i.toNat).length),[(0,.row 35 5 (((l.eraseIdx i.toNat).flatMap qh).map C.d))]) else none:=qci JP l i j rfl
end Go.Proofs.Ytcdegieiflmaeaa.Vc
namespace Go.Proofs.Ytcdegieiflmaeaa.Vc
open Go.RowKit
def by0:=JA_ @k3 (JA_ @z3 (JA_ @b3 (JA_ @o3 (JA_ @q3 (JA_ @k4 (JA_ @o4 (JA_ @q4 (JA_ @k5 (@z5)))))))))
def by1:=JA_ @k9 (JA_ @z9 (JA_ @b9 (JA_ @o9 (@q9))))
def by2:=JA_ @q21 (JA_ @k22 (JA_ @z22 (JA_ @q22 (@k25))))
def by3:=JA_ @q25 (JA_ @q31 (JA_ @k33 (@z33)))
def by4:=JA_ @o33 (JA_ @q33 (JA_ @k35 (JA_ @z35 (JA_ @b35 (JA_ @o35 (JA_ @q35 (@q36)))))))
def by5:=JA_ @k46 (JA_ @z46 (JA_ @o46 (@q46)))
def by6:=JA_ @k52 (@q52)
def by7:=JA_ @k65 (JA_ @z65 (JA_ @o65 (@q65)))
def by8:=JA_ @q70 (@q73)
def by9:=JA_ @q78 (JA_ @k81 (JA_ @z81 (@o81)))
def qiT:=@q84
def qjc:=JA_ @pw7 (JA_ @pw8 (JA_ @qiu (JA_ @qhU (JA_ @qhZ (JA_ @qii (JA_ @qhx (JA_ @qhK (JA_ @qin (JA_ @qhw (JA_ @qig (JA_ @qi7 (JA_ @qhI (JA_ @qhN (JA_ @qgo (JA_ @qhu (JA_ @qhY (@qht)))))))))))))))))
def qj5:=JA_ @qhO (JA_ @qim (JA_ @qi4 (JA_ @qgw (JA_ @qib (JA_ @qip (JA_ @qhM (JA_ @qiv (JA_ @qix (JA_ @qgf (JA_ @qhG (JA_ @qil (JA_ @qik (JA_ @qhV (JA_ @qiy (JA_ @qgC (JA_ @qhE (JA_ @qfy (JA_ @qif (JA_ @qhL (JA_ @qhC (JA_ @qi3 (JA_ @qij (JA_ @qit (JA_ @qfX (@qi0)))))))))))))))))))))))))
def qju:=JA_ @qg4 (JA_ @qgd (@qhj))
def qjI:=JA_ @qgV (JA_ @qgk (JA_ @qh4 (JA_ @qgP (JA_ @qgj (JA_ @qhb (JA_ @qhi (JA_ @qgm (JA_ @qge (@qhq)))))))))
def qja:=@qcU
def qj4:=JA_ @qcI (JA_ @qez (JA_ @qdp (JA_ @qdg (JA_ @qdV (JA_ @qef (JA_ @qec (JA_ @qex (JA_ @qeg (JA_ @qeI (JA_ @qdf (JA_ @qeb (JA_ @qdv (JA_ @qf8 (@qf0))))))))))))))
def qj9:=JA_ @qh2 (JA_ @qgn (JA_ @qdN (JA_ @qcf (JA_ @qer (JA_ @qdh (JA_ @qew (JA_ @qfh (JA_ @qdE (@qdC)))))))))
def qjo:=JA_ @qgt (JA_ @qhm (JA_ @qdx (@qbA)))
def qiQ:=JA_ @qeq (JA_ @qeF (JA_ @qdq (JA_ @qfj (JA_ @qdF (@qdZ)))))
def bt0:=JA_ @qg3 (JA_ @q9V (JA_ @qhc (JA_ @qeA (JA_ @q6j (@q8v)))))
def bt1:=JA_ @qgi (JA_ @q94 (@qgT))
def bt2:=JA_ @qa8 (JA_ @qeC (JA_ @qd6 (JA_ @qdG (JA_ @qdb (JA_ @qbU (JA_ @qah (@qbr)))))))
def bt3:=JA_ @qbK (JA_ @qda (JA_ @qdH (JA_ @qf1 (JA_ @qfd (JA_ @qcG (JA_ @q9N (JA_ @qct (JA_ @qbj (JA_ @qel (JA_ @qcE (@q2j)))))))))))
def bA:=JA_ @bx0 (JA_ @bx1 (JA_ @bx2 (JA_ @bx3 (JA_ @bx4 (JA_ @bx5 (JA_ @bx6 (JA_ @bx7 (JA_ @bx8 (JA_ @bx9 (JA_ @qjA (JA_ @qjl (JA_ @qjO (JA_ @qjH (JA_ @qiS (JA_ @qjs (JA_ @qiE (JA_ @qjj (JA_ @qjz (JA_ @qjn (JA_ @qiZ (JA_ @qj1 (JA_ @qjg (JA_ @qjN (JA_ @qjp (JA_ @qjP (JA_ @qjJ (JA_ @by0 (JA_ @by1 (JA_ @by2 (JA_ @by3 (JA_ @by4 (JA_ @by5 (JA_ @by6 (JA_ @by7 (JA_ @by8 (JA_ @by9 (JA_ @qiT (JA_ @qjc (JA_ @qj5 (JA_ @qju (JA_ @qjI (JA_ @qja (JA_ @qj4 (JA_ @qj9 (JA_ @qjo (JA_ @qiQ (JA_ @bt0 (JA_ @bt1 (JA_ @bt2 (@bt3))))))))))))))))))))))))))))))))))))))))))))))))))
def bZ:=JA_ @List.length_append.{0} (JA_ @List.length_cons.{0} (JA_ @List.length_nil.{0} (JA_ @Nat.zero_add (JA_ @List.flatMap_cons.{0,0} (JA_ @List.flatMap_nil.{0,0} (JA_ @List.map_cons.{0,0} (JA_ @List.map_nil.{0,0} (JA_ @List.cons_append.{0} (JA_ @List.nil_append.{0} (@List.append_nil.{0}))))))))))
theorem gA {P:Prop} (h:P:=by simp -implicitDefEqProofs (maxSteps:=10000000) only[bA,Int.reduceToNat,Int.reduceLT,Int.reduceLE,Int.reduceAdd,Int.reduceSub,Int.reduceMul,Int.reduceNeg,Int.reduceEq,Int.reduceNe,Int.reduceBEq,Int.reduceBNe,Nat.reduceLT,Nat.reduceAdd,Nat.reduceMul,Nat.reduceSub,Nat.reduceEqDiff,Nat.reduceLeDiff,Nat.reduceBEq,Nat.reduceBNe,↓reduceIte,reduceCtorEq,pure,bind,w64,zP,ZF,Option.or_some,Option.or_none,Option.none_or,Option.some_or, *]<;>simp only[rL,dL,bR,bZ,Nat.reduceAdd]):P:=h
end Go.Proofs.Ytcdegieiflmaeaa.Vc
namespace Go.Proofs.Ytcdegieiflmaeaa.Vc
open Go.RowKit
section
variable {τ ε:Type} {step:τ→Option (τ⊕ε)}
theorem q63 {x y:τ} (h:step x=some (.inl y)):Z9 step x=Z9 step y:=by
 rw[q85,h];rfl
theorem q1Z {x:τ} {e:ε} (h:step x=some (.inr e)):Z9 step x=some e:=by
 rw[q85,h];rfl
end
theorem qb4 {α:Type} {l:List α} {i:Nat} {a:α} (h:l[i]?=some a):i<l.length:=(List.getElem?_eq_some_iff.1 h).1
theorem qd9 {n:Int} (h0 : -9223372036854775808≤n) (h1:n≤9223372036854775807):w64 n=n:=wi n h0 h1
theorem q3f {i n:Nat} (h:i<n) (hn:n≤9223372036854775807):w64 ((i:Int)+1)=((i+1:Nat):Int):=by
 rw[qd9 (by omega) (by omega)];omega
end Go.Proofs.Ytcdegieiflmaeaa.Vc
namespace Go.Proofs.Ytcdegieiflmaeaa.Vc
open Go.RowKit
section
variable {τ ε:Type} {step:τ→Option (τ⊕ε)}
theorem q9P {I:τ→Prop} {J:ε→Prop} (hs:∀x y,I x→step x=some (.inl y)→I y) (he:∀x e,I x→step x=some (.inr e)→J e) {x:τ} {e:ε} (h0:I x) (h:Z9 step x=some e):J e:=by
 obtain⟨n,hn⟩:=q11 h
 clear h
 induction n generalizing x with
 | zero=>cases hn
 | succ n ih=>
  unfold itT at hn
  obtain⟨r,h1,h2⟩:=Option.bind_eq_some_iff.1 hn
  cases r with
  | inl y=>exact ih (hs x y h0 h1) h2
  | inr z=>injection h2 with h2;subst h2;exact he x z h0 h1
end
section
variable {σ ε:Type} {f k:Nat} {enc:σ→List R×List (Nat×B)} {ex:ε→R×List (Nat×B)}
theorem q9b (hp:pol.pr f=none) (hi:∀y z,enc y=enc z→y=z) (hj:∀d e,ex d=ex e→d=e) {step:(σ→Option ε)→σ→Option ε} (hs:q3T f k enc ex step) {Q:σ→ε→Prop}
  (hQ:∀F:σ→Option ε,(∀y e,F y=some e→Q y e)→∀y e,step F y=some e→Q y e) (y:σ) (e:ε) (h:q2H f k enc ex y=some e):Q y e:=by
 have key:∀(n:Nat) (y:σ) (z:R×List (Nat×B)),xf Try.prog T pol (D1 Try.prog T pol) n (.fn f) k (enc y).1 (enc y).2=some z→∃e,z=ex e∧Q y e:=by
  intro n
  induction n with
  | zero=>intro y z h;cases h
  | succ n ih=>
   intro y z h
   obtain⟨F,hF,hFQ⟩:∃F:σ→Option ε,(∀y z,xf Try.prog T pol (D1 Try.prog T pol) n (.fn f) k (enc y).1 (enc y).2=some z→(F y).bind (fun e=>some (ex e))=some z)∧∀y e,F y=some e→Q y e:=by
    refine⟨fun y=>open Classical in if h:∃e,xf Try.prog T pol (D1 Try.prog T pol) n (.fn f) k (enc y).1 (enc y).2=some (ex e)∧Q y e then some (Classical.choose h) else none,fun y z hz=>?_,fun y e he=>?_⟩
    ·obtain⟨e,rfl,hq⟩:=ih y z hz
     have hex:∃e,xf Try.prog T pol (D1 Try.prog T pol) n (.fn f) k (enc y).1 (enc y).2=some (ex e)∧Q y e:=⟨e,hz,hq⟩
     simp only[dif_pos hex,Option.bind_some]
     rw[←(Classical.choose_spec hex).1,hz]
    ·by_cases hex:∃e,xf Try.prog T pol (D1 Try.prog T pol) n (.fn f) k (enc y).1 (enc y).2=some (ex e)∧Q y e
     ·simp only[dif_pos hex] at he
      injection he with he
      rw[←he]
      exact(Classical.choose_spec hex).2
     ·simp only[dif_neg hex] at he
      cases he
   have hle:OLe (xf Try.prog T pol (D1 Try.prog T pol) n) (ovr f k enc ex F):=by
    intro g k' args G x hx
    unfold ovr
    split
    ·rename_i hh
     obtain⟨⟨rfl,rfl⟩,hy⟩:=hh
     have e1:=Classical.choose_spec hy
     refine hF _ _ ?_
     rw[e1];exact hx
    ·exact q7t q2C _ _ _ _ _ hx
   have h2:∃bd,qH Try.prog pol f=some bd∧q1e Try.prog T pol (D1 Try.prog T pol) (xf Try.prog T pol (D1 Try.prog T pol) n) (iter n) f k (enc y).1 (enc y).2 bd=some z:=by
    have h3:fnx Try.prog T pol (D1 Try.prog T pol) (xf Try.prog T pol (D1 Try.prog T pol) n) (iter n) f k (enc y).1 (enc y).2=some z:=h
    unfold fnx at h3
    rw[hp] at h3
    exact Option.bind_eq_some_iff.1 h3
   obtain⟨bd,hb,hx⟩:=h2
   have h4:=q2T hle (iter n) (q4W n) hb hx
   rw[hs _ F (q6L hi F) (q5t F) (qaT F) y] at h4
   obtain⟨e,h6,h5⟩:=Option.bind_eq_some_iff.1 h4
   injection h5 with h5
   exact⟨e,h5.symm,hQ F hFQ y e h6⟩
 have hv:=q5E hp hi hs y
 rw[h,Option.bind_some] at hv
 obtain⟨n,hn⟩:=q1h (show EE Try.prog T pol (D1 Try.prog T pol) (.fn f) k (enc y).1 (enc y).2=some (ex e) from hv)
 obtain⟨e',h1,h2⟩:=key n y _ hn
 rw[hj _ _ h1]
 exact h2
end
end Go.Proofs.Ytcdegieiflmaeaa.Vc
