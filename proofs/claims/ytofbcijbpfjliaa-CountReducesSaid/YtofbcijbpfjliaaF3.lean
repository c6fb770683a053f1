/- Part 3 of a proof. -/
import Derived.Test.YtofbcijbpfjliaaF2
import Derived.Shelf.SlMaps.Clone
import Derived.Shelf.Slices.CompactI
import Derived.Sort.OwnSortedInts
import Derived.Shelf.RegionOpenPlain
import Derived.WalkKit
import Derived.Deep.LoopGhost
import Derived.Deep.RegionLaw
import Derived.Lib.Walk
import Derived.Sort.WalkB12
import Derived.Lib.SliceRun
import Derived.Shelf.Sort.Plain
import Derived.Shelf.Slices.In.SortNone
import Derived.Test.YtofbcijbpfjliaaProg
import Derived.Shelf.Small.Strs
import Derived.TacticsInMore
import Derived.Below
set_option linter.unusedVariables false
set_option linter.unusedSimpArgs false
set_option linter.defProp false
set_option linter.unusedSectionVars false
set_option linter.unnecessarySimpa false
namespace Go.Proofs.Ytofbcijbpfjliaa.Vc
noncomputable section
open Go.RowKit
structure Bd where
 code:Code
 n:Nat
 res:List ResultVar
 rt:List TypeId
def qu (P:Program) (po:Pol) (f:FuncId):Option Bd:=
 match P.funcs[f]? with
 | some fn=>match fn.body with
  | some c=>if((fn.name == "runtime.NumGoroutine") || !q1X (drq po f) true c)=true then none else some ⟨c,fn.ntmps,fn.results.toList,fn.resultTypes.toList⟩
  | none=>none
 | none=>none
def dzL:List Nat→List C→List C
 | _,[]=>[]
 | zs,x::r=>dz (zs.headD 0) x::dzL zs.tail r
def dzR (zs:List Nat):R→R
 | .c x => .c (dz (zs.headD 0) x)
 | .agg xs => .agg (dzL zs xs)
 | r=>r
def qaw:List (List Nat)→List R→List R
 | _,[]=>[]
 | zs,x::r=>dzR (zs.headD []) x::qaw zs.tail r
def q5i (s:S) (X:List Nat) (rs:List R):List R:=match X with | []=>rs|X=>rs.map (fzR s X)
def one:List R→R
 | [r]=>r
 | rs => .tup rs
def q8N (k:Nat) (s:S) (rs:List R) (ids:List Nat):Option (R×List (Nat×B)):=
 if ids.Nodup∧ids.all (fun i=>(s.blk i).live)=true∧(rng k []).all (fun i=>ids[i]? == some i)=true then some (one (rs.map (cnR ids)),cnH s ids ids 0) else none
def q5t (k:Nat) (s:S) (rs:List R):Option (R×List (Nat×B)):=q8N k s rs (q06 s 60 ((rng k []).flatMap (fun i=>(s.blk i).refs)++rs.flatMap R.refs) (rng k []))
def qas (po:Pol) (k:Nat) (rt:List TypeId) (s:S) (rs:List R) (X:List Nat):Option (R×List (Nat×B)):=q5t k (s.frz X) (qaw (rt.map po.q) (q5i s X rs))
def q5p (po:Pol) (f k:Nat) (rt:List TypeId) (s:S) (rs:List R):Option (R×List (Nat×B)):=qas po k rt s rs (if po.ro f=true then[] else q0G s ((rs.flatMap R.rows).eraseDups))
def qao (po:Pol) (f k:Nat) (rt:List TypeId) (s:S) (rs:List R):Option (R×List (Nat×B)):=
 if((rs.flatMap R.rows).flatMap (qcS s)).isEmpty=true then q5p po f k rt s rs
 else q5p po f k rt s.fn1.fn1 (q5i s.fn1 s.fn1.inr (q5i s s.inr rs))
def qo2 (T:Ty) (po:Pol) (f k:Nat) (bd:Bd) (p:Exit×S):Option (R×List (Nat×B)):=
 match p.1 with
 | .normal=>(rvs T (p.2.uwB (po.ab f)) bd.res).bind fun rs=>qao po f k bd.rt ((p.2.uwB (po.ab f)).dzr po.q) rs
 | .ret=>(rvs T (p.2.uwB (po.ab f)) bd.res).bind fun rs=>qao po f k bd.rt ((p.2.uwB (po.ab f)).dzr po.q) rs
 | _=>none
abbrev DRs:=Orc→FuncId→Nat→Nat→List Oper→S→Option S
def q2H (P:Program) (T:Ty) (po:Pol) (D:DRs) (E:Orc) (LO:(S→XS)→S→XS) (f k:Nat) (args:List R) (G:List (Nat×B)) (bd:Bd):Option (R×List (Nat×B)):=if args.length≤bd.n then(XD P T po E (D E f k) LO f k bd.code ⟨q0j args 0,G,G.length,bd.n⟩).bind (qo2 T po f k bd) else none
section
variable {P:Program} {T:Ty} {po:Pol} {cx:Cx} {ρ:Pl} {s:S} {a:Act} {w:World}
theorem q8i:∀(n:Nat) (acc:List Nat) (i:Nat),i<n∨i∈acc→i∈rng n acc
 | 0,acc,i,h=>by rcases h with h|h;omega;exact h
 | n+1,acc,i,h=>by
  unfold rng
  refine q8i n _ i ?_
  rcases h with h|h
  ·by_cases hn:i=n
   ·exact .inr (by rw[hn];exact qxW)
   ·exact .inl (by omega)
  ·exact .inr (qxP _ h)
theorem q6I (hA:Ag P T) (hs:Sim cx ρ s a w) {fn:Func} {rs:List R} (h:rvs T s fn.results.toList=some rs) :
  ∃vs:List Value,(results fn a.tmps).run P w = .ok (if h:vs.toArray.size=1 then vs.toArray[0] else .tuple vs.toArray) w∧vs.length=rs.length∧∀j r,rs[j]?=some r→RR w s.live ρ (vs.getD j undef) r:=by
 obtain⟨vs,h1,h2,h3⟩:=qdt (P:=P) hA hs _ rs h
 refine⟨vs,?_,h2,h3⟩
 rw[qau,Array.mapM_eq_mapM_toList]
 simp only[map_eq_pure_bind,Sem.run_bind,h1,Result.andThen_ok]
 rfl
theorem qnn {L:Nat→Prop} {vs:List Value} {rs:List R} (hl:vs.length=rs.length) (h:∀j r,rs[j]?=some r→RR w L ρ (vs.getD j undef) r):RR w L ρ (if h:vs.toArray.size=1 then vs.toArray[0] else .tuple vs.toArray) (one rs):=by
 by_cases h1:rs.length=1
 ·obtain⟨r,rfl⟩:=List.length_eq_one_iff.1 h1
  obtain⟨v,rfl⟩:=List.length_eq_one_iff.1 (hl.trans h1)
  exact h 0 r rfl
 ·have h2:¬ vs.toArray.size=1:=by simpa [hl] using h1
  rw[dif_neg h2]
  have h3:one rs = .tup rs:=by
   cases rs with
   | nil=>rfl
   | cons x l=>cases l with|nil=>exact absurd rfl h1|cons y l=>rfl
  rw[h3]
  exact .tup _ _ (by simpa using hl) (fun j r hj=>by have:=h j r hj;simpa [qxN,List.getD] using this)
theorem AC.enter2 (hA:Ag P T) {f:FuncId} {fn:Func} {c:Code} {args:List R} {G:List (Nat×B)} {k:Nat} {Q:R→List (Nat×B)→Prop} (hf:P.funcs[f]?=some fn) (hb:fn.body=some c) (hname:(fn.name == "runtime.NumGoroutine")=false)
  (hle:args.length≤fn.ntmps) (h:∀cx,cx.k=k→cx.ro=none→J P cx c (fun e s=>(e = .normal∨e = .ret)∧∃rs,rvs T s fn.results.toList=some rs∧
   ∀ρ a w,Sim cx ρ s a w→∃rs' hp' nx' ρ',Q (one rs') hp'∧Sim cx ρ' (QN hp' nx') q5q w∧rs'.length=rs.length∧∀(j:Nat) (r r':R) (v:Value),rs[j]?=some r→rs'[j]?=some r'→RR w s.live ρ v r→RR w (QN hp' nx').live ρ' v r') ⟨q0j args 0,G,G.length,fn.ntmps⟩):AC P f args G k Q:=by
 refine⟨⟨fn,hf,hname,by rw[hb];rfl⟩,fun cx ρ w vs hw hk hρ hro hs hv=>?_⟩
 refine callsIn_wide.1 (callsIn_of_wp_marks (n:=0) hf hb trivial ?_)
 obtain⟨hvs,hvr⟩:=hv
 have hs1:Sim cx ρ ⟨q0j args 0,G,G.length,fn.ntmps⟩ { tmps:=vs++Array.replicate (fn.ntmps-vs.size) undef,defers:=[] } w:=by
  refine⟨hs.hd,by simp;omega,fun i=>?_,hs.hp,hs.hp0,hs.out,hs.inj,hs.nx,hs.kept,hs.oldF,hs.pin,hs.disj,⟨hs.ows.lt,hs.ows.one,hs.ows.new⟩⟩
  show RR w _ ρ _ (lk (q0j args 0) i .any)
  rw[q6j,if_pos (qy7 _),qyz]
  by_cases hi:i<args.length
  ·have h1:=hvr i args[i] (qxJ hi)
   have h2:(vs++Array.replicate (fn.ntmps-vs.size) undef).getD i undef=vs.getD i undef:=by
    have:i<vs.size:=by omega
    simp[qxN,Array.getElem?_append,this]
   rw[h2,List.getD,qxJ hi]
   exact h1
  ·rw[List.getD,qyf (by omega)]
   exact .any _
 have hj:=h cx hk hro ρ _ w hs1
 rw[hro] at hj
 refine wpIn_mono hj (fun e a' w' ⟨s',ρ',h1,h2⟩=>?_)
 obtain⟨he,rs,h3,h4⟩:=h1
 have key:LeavesInM Fence.wide 0 P fn a'.tmps (fun e w'=>∃v' r hp' nx' ρ',e = .returned v'∧Q r hp'∧Sim cx ρ' (QN hp' nx') q5q w'∧RR w' (QN hp' nx').live ρ' v' r) a'.defers .returning w':=by
  obtain⟨Ds,hDs,-⟩:=h2.hd.ms
  rw[hDs]
  refine q3p Ds a' w' hDs h2 (fun a2 w2 ht hd2 hs2=>?_) rfl
  obtain⟨us,g1,g2,g3⟩:=q6I hA hs2 h3
  obtain⟨rs',hp',nx',ρ'',g4,g5,g6,g7⟩:=h4 ρ' a2 w2 hs2
  refine⟨_,g1,_,one rs',hp',nx',ρ'',rfl,g4,g5,qnn (g2.trans g6.symm) (fun j r' hj=>?_)⟩
  have hj':j<rs.length:=by rw[←g6];exact(qxL.1 hj).1
  exact g7 j _ r' _ (qxJ hj') hj (g3 j _ (qxJ hj'))
 rcases he with rfl|rfl
 ·exact key
 ·exact key
theorem qhd:∀(zs:List Nat) (xs:List C),(dzL zs xs).length=xs.length∧∀(j:Nat) (y:C),(dzL zs xs)[j]?=some y→∃x z,xs[j]?=some x∧y=dz z x
 | _,[]=>⟨rfl,fun j y h=>by simp[dzL] at h⟩
 | zs,x::r=>by
  obtain⟨h1,h2⟩:=qhd zs.tail r
  refine⟨by simp[dzL,h1],fun j y hj=>?_⟩
  cases j with
  | zero=>simp only[dzL,qxR,qyw] at hj;exact⟨x,_,rfl,hj.symm⟩
  | succ j=>simp only[dzL,qy6] at hj ⊢;exact h2 j y hj
theorem qpL {L:Nat→Prop} {v:Value} {r:R} (zs:List Nat) (h:RR w L ρ v r):RR w L ρ v (dzR zs r):=by
 cases h with
 | c v x h=>exact .c _ _ (qi6 _ h)
 | agg vs xs h1 h2=>
  obtain⟨g1,g2⟩:=qhd zs xs
  refine .agg _ _ (h1.trans g1.symm) (fun j y hj=>?_)
  obtain⟨x,z,h3,h4⟩:=g2 j y hj
  rw[h4];exact qi6 z (h2 j x h3)
 | tup vs xs h1 h2=>exact .tup _ _ h1 h2
 | any v=>exact .any _
theorem qbm:∀(zs:List (List Nat)) (xs:List R),(qaw zs xs).length=xs.length∧∀(j:Nat) (x y:R),xs[j]?=some x→(qaw zs xs)[j]?=some y→∃z,y=dzR z x
 | _,[]=>⟨rfl,fun j x y h=>by simp at h⟩
 | zs,x::r=>by
  obtain⟨h1,h2⟩:=qbm zs.tail r
  refine⟨by simp[qaw,h1],fun j x' y hj hy=>?_⟩
  cases j with
  | zero=>simp only[qaw,qxR,qyw] at hj hy;subst hj;exact⟨_,hy.symm⟩
  | succ j=>simp only[qaw,qy6] at hj hy;exact h2 j x' y hj hy
theorem q8g {X:List Nat} {rs:List R} (hX:X.all (fun i => !(s.blk i).isBlk)=true) (hs:Sim cx ρ s a w):∀(j:Nat) (r r1:R) (v:Value),rs[j]?=some r→(q5i s X rs)[j]?=some r1→RR w s.live ρ v r→RR w (s.frz X).live ρ v r1:=by
 intro j r r1 v h1 h2 h3
 cases X with
 | nil=>rw[show q5i s [] rs=rs from rfl,h1] at h2;injection h2 with h2;subst h2;exact h3
 | cons x X=>
  rw[show q5i s (x::X) rs=rs.map (fzR s (x::X)) from rfl,qxV,h1] at h2
  injection h2 with h2
  subst h2
  exact(hs.frz1 fun i hi=>by have:=qxY.1 hX i hi;simpa using this).2 v r h3
theorem q3S {f k:Nat} {rt:List TypeId} {rs:List R} {r':R} {hp':List (Nat×B)} (hk:cx.k=k) (h:q5p po f k rt s rs=some (r',hp')) (hs:Sim cx ρ s a w) :
  ∃rs' nx' ρ',r'=one rs'∧Sim cx ρ' (QN hp' nx') q5q w∧rs'.length=rs.length∧∀(j:Nat) (r r':R) (v:Value),rs[j]?=some r→rs'[j]?=some r'→RR w s.live ρ v r→RR w (QN hp' nx').live ρ' v r':=by
 unfold q5p qas q5t at h
 obtain⟨X,hX,hXe⟩:∃X,X.all (fun i => !(s.blk i).isBlk)=true∧X=(if po.ro f=true then[] else q0G s ((rs.flatMap R.rows).eraseDups)):=by
  refine⟨_,?_,rfl⟩
  split
  ·rfl
  ·exact q0U _ _
 rw[←hXe] at h
 have hs1:=hs.frz hX
 have hfz:=q8g (rs:=rs) hX hs
 have hfl:(q5i s X rs).length=rs.length:=by cases X<;>simp[q5i]
 generalize s.frz X=s1 at h hs1 hfz
 obtain⟨q1,q2⟩:=qbm (rt.map po.q) (q5i s X rs)
 generalize qaw (rt.map po.q) (q5i s X rs)=rs1 at h q1 q2
 unfold q8N at h
 split at h
 ·rename_i hc
  injection h with h
  generalize q06 s1 60 _ _=ids at h hc
  obtain⟨c1,c2,c3⟩:=hc
  injection h with h1 h2
  obtain⟨ρ2,h3,h4⟩:=hs1.canon (ids:=ids) (tm:=[]) (n:=0) (a':=q5q) c1 c2 (fun i hi=>by
   have:=qxY.1 c3 i (q8i k [] i (.inl (by omega)))
   simpa using this) Hd.none rfl (fun i => .inl rfl)
  subst h2
  refine⟨rs1.map (cnR ids),ids.length,ρ2,h1.symm,h3,by simp[q1,hfl],fun j r r2 v hj hr2 hv=>?_⟩
  rw[qxV] at hr2
  obtain⟨r1,g1,g2⟩:=qxU.1 hr2
  have hjl:j<(q5i s X rs).length:=by rw[hfl];exact(qxL.1 hj).1
  obtain⟨z,hz⟩:=q2 j _ r1 (qxJ hjl) g1
  subst hz
  rw[←g2]
  exact h4 v _ (qpL z (hfz j r _ v hj (qxJ hjl) hv))
 ·cases h
theorem q9S (s:S):s.inr.all (fun i => !(s.blk i).isBlk)=true:=by
 rw[qxY]
 intro i hi
 have h:=(qyC.1 hi).2
 unfold qbr at h
 split at h
 ·rename_i hb;rw[hb];rfl
 ·cases h
theorem q3N (s:S) (X:List Nat) (rs:List R):(q5i s X rs).length=rs.length:=by cases X<;>simp[q5i]
theorem qfg {f k:Nat} {rt:List TypeId} {rs:List R} {r':R} {hp':List (Nat×B)} (hk:cx.k=k) (h:qao po f k rt s rs=some (r',hp')) (hs:Sim cx ρ s a w) :
  ∃rs' nx' ρ',r'=one rs'∧Sim cx ρ' (QN hp' nx') q5q w∧rs'.length=rs.length∧∀(j:Nat) (r r':R) (v:Value),rs[j]?=some r→rs'[j]?=some r'→RR w s.live ρ v r→RR w (QN hp' nx').live ρ' v r':=by
 unfold qao at h
 split at h
 ·exact q3S hk h hs
 ·obtain⟨rs',nx',ρ',g1,g2,g3,g4⟩:=q3S hk h hs.fn1.fn1
  refine⟨rs',nx',ρ',g1,g2,by rw[g3,q3N,q3N],fun j r r2 v hj hr2 hv=>?_⟩
  have hj1:j<(q5i s s.inr rs).length:=by rw[q3N];exact(qxL.1 hj).1
  have hj2:j<(q5i s.fn1 s.fn1.inr (q5i s s.inr rs)).length:=by rw[q3N];exact hj1
  have a1:=q8g (q9S s) hs j r _ v hj (qxJ hj1) hv
  have a2:=q8g (q9S s.fn1) hs.fn1 j _ _ v (qxJ hj1) (qxJ hj2) a1
  exact g4 j _ _ v (qxJ hj2) hr2 a2
def DOk (P:Program) (po:Pol) (D:DRs):Prop:=∀(E:Orc) (f k:Nat),Snd P E→qqe P (drq po f) k (D E f k)
theorem qfA (hA:Ag P T) {D:DRs} (hD:DOk P po D) {E:Orc} (hE:Snd P E) {n f k:Nat} {args:List R} {G G':List (Nat×B)} {r:R} {bd:Bd} (hb:qu P po f=some bd) (h:q2H P T po D E (iter n) f k args G bd=some (r,G')):AC P f args G k fun r' hp'=>r'=r∧hp'=G':=by
 unfold qu at hb
 split at hb
 ·rename_i fn hf
  split at hb
  ·rename_i c hc
   split at hb
   ·cases hb
   ·rename_i hname
    simp only[qyc,Bool.not_eq_true',not_or,Bool.not_eq_true,Bool.not_eq_false] at hname
    injection hb with hb
    subst hb
    unfold q2H at h
    split at h
    ·rename_i hle
     obtain⟨⟨e,s1⟩,h1,h2⟩:=qxM.1 h
     refine AC.enter2 hA hf hc hname.1 hle (fun cx hk hro=>?_)
     refine J.weak (Q:=fun e' s'=>e'=e∧s'=s1) (qgX hA hE (hD E f k hE) _ _ _ _ cx _ hname.2 hk (fun _=>hro) h1 ⟨rfl,rfl⟩) ?_
     rintro e' s' ⟨he',hs'⟩
     rw[hs',he']
     refine⟨s1.uwB (po.ab f),fun ρ a w hs=>hs.uwB _,?_⟩
     unfold qo2 at h2
     simp only at h2
     generalize s1.uwB (po.ab f)=s1 at h2
     have key:(rvs T s1 fn.results.toList).bind (fun rs=>qao po f k fn.resultTypes.toList (s1.dzr po.q) rs)=some (r,G')→∃rs,rvs T s1 fn.results.toList=some rs∧
       ∀ρ a w,Sim cx ρ s1 a w→∃rs' hp' nx' ρ',(one rs'=r∧hp'=G')∧Sim cx ρ' (QN hp' nx') q5q w∧rs'.length=rs.length∧∀(j:Nat) (r r':R) (v:Value),rs[j]?=some r→rs'[j]?=some r'→RR w s1.live ρ v r→RR w (QN hp' nx').live ρ' v r':=by
      intro h3
      obtain⟨rs,h4,h5⟩:=qxM.1 h3
      refine⟨rs,h4,fun ρ a w hs=>?_⟩
      obtain⟨rs',nx',ρ',g1,g2,g3,g4⟩:=qfg hk h5 (hs.dzr po.q)
      rw[S.dzr_live] at g4
      exact⟨rs',G',nx',ρ',⟨g1.symm,rfl⟩,g2,g3,g4⟩
     split at h2
     ·exact⟨.inl rfl,key h2⟩
     ·exact⟨.inr rfl,key h2⟩
     ·cases h2
    ·cases h
  ·cases hb
 ·cases hb
def qmN (st0:LoopState) (st:LoopState) (pd:Option Code):B→Option B
 | .ob (.lp f tm ps aq0 bd s0 _)=>if s0=st0 then some (.ob (.lp f tm ps aq0 bd st pd)) else none
 | _=>none
def rdB:B→Option B
 | .ob (.lp f tm ps aq0 bd .ready none)=>some (.ob (.lp f tm ps aq0 bd .busy none))
 | _=>none
def qhM:Exit→Option (Option Code)
 | .normal=>some none
 | .ret=>some (some .ret)
 | .exit i=>some (some (.exit i))
 | _=>none
def q4k (k:Nat) (p:Exit×S):Option (R×List (Nat×B)):=
 (qhM p.1).bind fun pd=>(qmN .busy (if pd.isNone then .ready else .done) pd (p.2.blk (k-1))).bind fun b=>q5t k (p.2.up [(k-1,b)]) [.c (.d (.bool pd.isNone))]
def q4l (P:Program) (T:Ty) (po:Pol) (D:DRs) (E:Orc) (LO:(S→XS)→S→XS) (f k:Nat) (bd:Code) (p:Exit×S):Option (R×List (Nat×B)):=
 match p.1 with
 | .normal=>(rdB (p.2.blk (k-1))).bind fun b=>(XD P T po E (D E f k) LO f k bd (p.2.up [(k-1,b)])).bind (q4k k)
 | _=>none
def q17 (P:Program) (T:Ty) (po:Pol) (D:DRs) (E:Orc) (LO:(S→XS)→S→XS) (f k:Nat) (aq0 bd:Code) (tm:List R) (G:List (Nat×B)):Option (R×List (Nat×B)):=if 0<k∧q1X (drq po f) false aq0=true∧q1X (drq po f) false bd=true then(XD P T po E (D E f k) LO f k aq0 ⟨q0j tm 0,G,G.length,tm.length⟩).bind (q4l P T po D E LO f k bd) else none
def prx (g:Nat→List R→List (Nat×B)→Option (R×List (Nat×B))) (k:Nat) (args:List R) (G:List (Nat×B)):Option (R×List (Nat×B)):=g k args G
def pr0 (g:List R→Option (R×List (Nat×B))) (k:Nat) (args:List R) (G:List (Nat×B)):Option (R×List (Nat×B)):=if k=0∧G.isEmpty=true then g args else none
def qrB (P:Program) (po:Pol):Prop:=∀E,Snd P E→∀f g k args G r G',po.pr f=some g→g.run E k args G=some (r,G')→AC P f args G k fun r' hp'=>r'=r∧hp'=G'
theorem qof {P:Program} {f:FuncId} {g:List R→Option (R×List (Nat×B))} (h:∀args r G',g args=some (r,G')→AC P f args [] 0 fun r' hp'=>r'=r∧hp'=G') {k:Nat} {args:List R} {G G':List (Nat×B)} {r:R} (hg:pr0 g k args G=some (r,G')):AC P f args G k fun r' hp'=>r'=r∧hp'=G':=by
 unfold pr0 at hg
 split at hg
 ·rename_i hc
  obtain⟨rfl,hG⟩:=hc
  rw[List.isEmpty_iff] at hG
  subst hG
  exact h _ _ _ hg
 ·cases hg
def fnx (P:Program) (T:Ty) (po:Pol) (D:DRs) (E:Orc) (LO:(S→XS)→S→XS) (f k:Nat) (args:List R) (G:List (Nat×B)):Option (R×List (Nat×B)):=
 match po.pr f with
 | some g=>prx (g.run E) k args G
 | none=>(qu P po f).bind fun bd=>q2H P T po D E LO f k args G bd
def xf (P:Program) (T:Ty) (po:Pol) (D:DRs):Nat→Orc
 | 0=>fun _ _ _ _=>none
 | n+1=>fun g k args G=>match g with
  | .fn f=>fnx P T po D (xf P T po D n) (iter n) f k args G
  | .rd f aq0 bd=>q17 P T po D (xf P T po D n) (iter n) f k aq0 bd args G
theorem qip {st0 st:LoopState} {pd:Option Code} {x y:B} (h:qmN st0 st pd x=some y):∃f tm ps aq0 bd p0,x = .ob (.lp f tm ps aq0 bd st0 p0)∧y = .ob (.lp f tm ps aq0 bd st pd):=by
 unfold qmN at h
 split at h
 ·split at h
  ·rename_i hst;subst hst;injection h with h;exact⟨_,_,_,_,_,_,rfl,h.symm⟩
  ·cases h
 ·cases h
theorem Sim.lrec (hs:Sim cx ρ s a w) {l cap:Nat} (hl:cx.ρ (cx.k-1)=some (l,cap)) (hk:0<cx.k) {f:FuncId} {tm:List R} {ps:List Nat} {aq0 bd:Code} {st:LoopState} {p0:Option Code} (hb:s.blk (cx.k-1) = .ob (.lp f tm ps aq0 bd st p0)) :
  ∃rec:Loop,w.heap[l]?=some (.loop rec)∧rec.state=st∧rec.pending=p0∧∀(st':LoopState) (pd:Option Code),Sim cx ρ (s.up [(cx.k-1,.ob (.lp f tm ps aq0 bd st' pd))]) a (w.putObj l (.loop { rec with state:=st',pending:=pd })):=by
 have hlive:s.live (cx.k-1):=by unfold S.live;rw[hb];rfl
 have hρ:ρ (cx.k-1)=some (l,cap):=(hs.pin _ (by omega)).1.trans hl
 have hB:=(hs.hp _ l cap hlive hρ).2
 rw[hb] at hB
 obtain⟨rec,t1,t2,t3,t4,t5,t6,t7,t8⟩:=hB
 exact⟨rec,t1,t2,t3,fun st' pd=>hs.overO hlive hρ fun hst hO=>⟨_,hO,rfl,rfl,t4,t5,t6,t7,fun j x hj=>(t8 j x hj).stay hst⟩⟩
theorem qmB {x y:B} (h:rdB x=some y):∃f tm ps aq0 bd,x = .ob (.lp f tm ps aq0 bd .ready none)∧y = .ob (.lp f tm ps aq0 bd .busy none):=by
 unfold rdB at h
 split at h
 ·injection h with h;exact⟨_,_,_,_,_,rfl,h.symm⟩
 ·cases h
theorem q9R {k:Nat} {rs:List R} {r':R} {hp':List (Nat×B)} (hk:cx.k=k) (h:q5t k s rs=some (r',hp')) (hs:Sim cx ρ s a w) :
  ∃ids nx' ρ',r'=one (rs.map (cnR ids))∧Sim cx ρ' (QN hp' nx') q5q w∧∀v r,RR w s.live ρ v r→RR w (QN hp' nx').live ρ' v (cnR ids r):=by
 unfold q5t q8N at h
 split at h
 ·rename_i hc
  injection h with h
  generalize q06 s 60 _ _=ids at h hc
  obtain⟨c1,c2,c3⟩:=hc
  injection h with h1 h2
  obtain⟨ρ2,h3,h4⟩:=hs.canon (ids:=ids) (tm:=[]) (n:=0) (a':=q5q) c1 c2 (fun i hi=>by
   have:=qxY.1 c3 i (q8i k [] i (.inl (by omega)))
   simpa using this) Hd.none rfl (fun i => .inl rfl)
  subst h2
  exact⟨ids,ids.length,ρ2,h1.symm,h3,h4⟩
 ·cases h
theorem q2S {r:R} {G':List (Nat×B)} {l cap:Nat} (hl:cx.ρ (cx.k-1)=some (l,cap)) (hk0:0<cx.k) {pd:Option Code} (hs:Sim cx ρ s a w)
  (h:((qmN .busy (if pd.isNone then .ready else .done) pd (s.blk (cx.k-1))).bind fun b=>q5t cx.k (s.up [(cx.k-1,b)]) [.c (.d (.bool pd.isNone))])=some (r,G')) :
  ∃v w',(Instr.endRound l pd).run P w = .ok v w'∧∃v' r' hp' nx' ρ',Ending.returned v = .returned v'∧(r'=r∧hp'=G')∧Sim cx ρ' (QN hp' nx') q5q w'∧RR w' (QN hp' nx').live ρ' v' r':=by
 obtain⟨b,h1,h2⟩:=qxM.1 h
 obtain⟨f0,tm0,ps0,as0,bd0,p0,g1,g2⟩:=qip h1
 obtain⟨rec,t1,t2,t3,t4⟩:=hs.lrec hl hk0 g1
 have hs2:=t4 (if pd.isNone then .ready else .done) pd
 subst g2
 obtain⟨ids,nx',ρ',e1,e2,e3⟩:=q9R rfl h2 hs2
 refine⟨_,_,run_endRound pd t1,_,r,G',nx',ρ',rfl,⟨rfl,rfl⟩,e2,?_⟩
 rw[e1]
 exact e3 _ _ (.c _ _ (.d _ _ (.bool _)))
theorem qda (hA:Ag P T) {D:DRs} (hD:DOk P po D) {E:Orc} (hE:Snd P E) {n f k:Nat} {aq0 bd:Code} {tm:List R} {G G':List (Nat×B)} {r:R} (h:q17 P T po D E (iter n) f k aq0 bd tm G=some (r,G')):RA P aq0 bd tm G k fun r' hp'=>r'=r∧hp'=G':=by
 unfold q17 at h
 split at h
 ·rename_i hc
  obtain⟨hk0,hca,hcb⟩:=hc
  obtain⟨⟨e1,s1⟩,h1,h2⟩:=qxM.1 h
  intro cx ρ w l cap fn vs hw hk hρ hro _ hρk hs hv
  subst hk hρ
  have hs1:Sim cx cx.ρ ⟨q0j tm 0,G,G.length,tm.length⟩ { tmps:=vs,defers:=[] } w:=by
   refine⟨hs.hd,hv.1,fun i=>?_,hs.hp,hs.hp0,hs.out,hs.inj,hs.nx,hs.kept,hs.oldF,hs.pin,hs.disj,⟨hs.ows.lt,hs.ows.one,hs.ows.new⟩⟩
   show RR w _ _ _ (lk (q0j tm 0) i .any)
   rw[q6j,if_pos (qy7 _),qyz]
   by_cases hi:i<tm.length
   ·rw[List.getD,qxJ hi]
    exact hv.2 i tm[i] (qxJ hi)
   ·rw[List.getD,qyf (by omega)]
    exact .any _
  refine roundIn_of_wpIn (F:=Fence.wide) (n:=0) trivial ?_
  have ja:=qgX (rf:=false) hA hE (hD E f cx.k hE) aq0 _ _ _ cx (fun e s=>e=e1∧s=s1) hca rfl (fun h=>by cases h) h1 ⟨rfl,rfl⟩ cx.ρ _ w hs1
  rw[hro] at ja
  refine wpIn_mono ja ?_
  rintro e a1 w1 ⟨s1',ρ1,⟨rfl,rfl⟩,hsim⟩
  unfold q4l at h2
  simp only at h2
  cases e with
  | normal=>
   obtain⟨b,h3,h4⟩:=qxM.1 h2
   obtain⟨⟨e2,s2⟩,h5,h6⟩:=qxM.1 h4
   obtain⟨f0,tm0,ps0,as0,bd0,g1,g2⟩:=qmB h3
   obtain⟨rec,t1,t2,t3,t4⟩:=hsim.lrec hρk hk0 g1
   refine⟨_,run_beginRound t1 t2,?_⟩
   have hs2:=t4 .busy none
   have hrec:({ rec with state := .busy,pending:=none }:Loop)={ rec with state := .busy }:=by rw[←t3]
   rw[hrec,←g2] at hs2
   have jb:=qgX (rf:=false) hA hE (hD E f cx.k hE) bd _ _ _ cx (fun e s=>e=e2∧s=s2) hcb rfl (fun h=>by cases h) h5 ⟨rfl,rfl⟩ ρ1 _ _ hs2
   rw[hro] at jb
   refine wpIn_mono jb ?_
   rintro e a3 w3 ⟨s3',ρ3,⟨rfl,rfl⟩,hsim3⟩
   unfold q4k at h6
   cases e with
   | normal=>exact q2S hρk hk0 hsim3 h6
   | ret=>exact q2S hρk hk0 hsim3 h6
   | exit i=>exact q2S hρk hk0 hsim3 h6
   | _=>cases h6
  | _=>cases h2
 ·cases h
theorem qca (hA:Ag P T) {D:DRs} (hD:DOk P po D) (hP:qrB P po):∀n,Snd P (xf P T po D n)
 | 0=>⟨fun _ _ _ _ _ _ h=>(by cases h),fun _ _ _ _ _ _ _ _ h=>(by cases h)⟩
 | n+1=>by
  have ih:=qca hA hD hP n
  refine⟨fun f k args G r G' h=>?_,fun f aq0 bd k tm G r G' h=>?_⟩
  ·replace h:fnx P T po D (xf P T po D n) (iter n) f k args G=some (r,G'):=h
   unfold fnx at h
   split at h
   ·rename_i g hg
    exact hP _ ih f g k args G r G' hg h
   ·obtain⟨bd,h1,h2⟩:=qxM.1 h
    exact qfA hA hD ih h1 h2
  ·exact qda hA hD ih h
end
end
noncomputable section
open Go.RowKit
def FLe (F F':S→XS):Prop:=∀s x,F s=some x→F' s=some x
def LLe (L L':(S→XS)→S→XS):Prop:=∀F F',FLe F F'→FLe (L F) (L' F')
def Lim (F:S→XS) (s:S):XS:=open Classical in if h:∃x n,iter n F s=some x then some (Classical.choose h) else none
theorem q6E {k k':S→XS} (h:FLe k k') {p:Exit×S} {x:Exit×S} (hx:sqD k p=some x):sqD k' p=some x:=by
 obtain⟨e,s⟩:=p
 cases e with
 | normal=>exact h _ _ hx
 | _=>exact hx
theorem qO {α β:Type} {o o':Option α} {f f':α→Option β} (ho:∀a,o=some a→o'=some a) (hf:∀a b,f a=some b→f' a=some b) {b:β} (h:o.bind f=some b):o'.bind f'=some b:=by
 obtain⟨a,h1,h2⟩:=qxM.1 h
 rw[ho a h1];exact hf a b h2
theorem q19 {n n':Nat} {F F':S→XS} (hn:n≤n') (hF:FLe F F'):FLe (iter n F) (iter n' F'):=by
 induction n generalizing n' with
 | zero=>intro s x h;cases h
 | succ n ih=>
  intro s x h
  cases n' with
  | zero=>omega
  | succ n'=>
   exact qO (fun a ha=>hF s a ha) (fun a b hb=>q6E (ih (by omega)) hb) h
theorem q7J {n:Nat} {F:S→XS} {s:S} {x:Exit×S} (h:iter n F s=some x):Lim F s=some x:=by
 have hex:∃x n,iter n F s=some x:=⟨x,n,h⟩
 unfold Lim
 rw[dif_pos hex]
 obtain⟨m,hm⟩:=Classical.choose_spec hex
 have h1:=q19 (Nat.le_max_left n m) (F:=F) (fun _ _ h=>h) s _ h
 have h2:=q19 (Nat.le_max_right n m) (F:=F) (fun _ _ h=>h) s _ hm
 rw[h1] at h2
 injection h2 with h2
 rw[←h2]
theorem q3P {F:S→XS} {s:S} {x:Exit×S} (h:Lim F s=some x):∃n,iter n F s=some x:=by
 unfold Lim at h
 split at h
 ·rename_i hex
  injection h with h
  obtain⟨m,hm⟩:=Classical.choose_spec hex
  exact⟨m,h ▸ hm⟩
 ·cases h
theorem q4L {α:Type} {a b:Option α} (h1:∀x,a=some x→b=some x) (h2:∀x,b=some x→a=some x):a=b:=by
 cases ha:a with
 | none=>
  cases hb:b with
  | none=>rfl
  | some y=>have:=h2 y hb;rw[ha] at this;cases this
 | some x=>exact(h1 x ha).symm
theorem qms (F:S→XS) (s:S):Lim F s=(F s).bind (sqD (Lim F)):=by
 refine q4L (fun x h=>?_) (fun x h=>?_)
 ·obtain⟨n,hn⟩:=q3P h
  cases n with
  | zero=>cases hn
  | succ n=>exact qO (fun a ha=>ha) (fun a b hb=>q6E (fun s x h=>q7J h) hb) hn
 ·obtain⟨p,h1,h2⟩:=qxM.1 h
  obtain⟨e,t⟩:=p
  cases e with
  | normal=>
   obtain⟨n,hn⟩:=q3P h2
   refine q7J (n:=n+1) ?_
   unfold iter
   rw[h1]
   exact hn
  | _=>
   refine q7J (n:=1) ?_
   unfold iter
   rw[h1]
   exact h2
theorem q93 {n n':Nat} (h:n≤n'):LLe (iter n) (iter n'):=fun _ _ hF=>q19 h hF
theorem q7Z (n:Nat):LLe (iter n) Lim:=fun _ F' hF s x h=>q7J (n:=n) (q19 (F':=F') (qxX n) hF s x h)
theorem MOk.mono {F F':S→XS} (hF:FLe F F') {s:S} {id:Nat} {m:R} {ck:Nat} {es:Me} {x:Exit×S} (h:MOk F s id m ck es x):MOk F' s id m ck es x:=
 ⟨h.ne,fun e he=>(h.ent e he).imp (fun h l hl=>hF _ _ (h l hl)) (fun h l hl=>hF _ _ (h l hl)),h.fin.imp (fun⟨e,he,h⟩=>⟨e,he,fun l hl=>hF _ _ (h l hl)⟩) (fun h l hl=>hF _ _ (h l hl))⟩
theorem qgo {F F':S→XS} (hF:FLe F F') (it:Operand):FLe (mlp it F) (mlp it F'):=fun s x h=>by
 obtain⟨id,m,ck,es,h1,h2⟩:=q64 h
 exact qhz h1 (h2.mono hF)
theorem qfZ {L L':(S→XS)→S→XS} (hL:LLe L L') (o:Option Operand):LLe (lpM L o) (lpM L' o):=fun F F' hF=>by
 cases o with
 | none=>exact hL F F' hF
 | some it=>exact qgo hF it
theorem q1f {α:Type} {p:α→Nat→Prop}:∀(L:List α),(∀a∈L,∃n:Nat,∀m,n≤m→p a m)→∃n:Nat,∀m,n≤m→∀a∈L,p a m
 | [],_=>⟨0,fun m _ a h=>by simp at h⟩
 | x::L,h=>by
  obtain⟨n1,h1⟩:=h x qxW
  obtain⟨n2,h2⟩:=q1f L (fun a ha=>h a (qxP _ ha))
  refine⟨max n1 n2,fun m hm a ha=>?_⟩
  rcases qy3.1 ha with rfl|ha
  ·exact h1 m (by omega)
  ·exact h2 m (by omega) a ha
theorem qgM {F:Nat→S→XS} {F':S→XS} (hF:∀s x,F' s=some x→∃n,∀m,n≤m→F m s=some x) {it:Operand} {s:S} {x:Exit×S} (h:mlp it F' s=some x):∃n,∀m,n≤m→mlp it (F m) s=some x:=by
 obtain⟨id,mm,ck,es,h1,h2⟩:=q64 h
 have hent:∃n,∀m,n≤m→∀e∈es,(∀l∈q0z es,F m (s.m1 id mm ck (some e) l)=some (.normal,s.mi id mm ck (e.2.2::l)))∨∀l∈q0z es,F m (s.m1 id mm ck (some e) l)=some x:=
  q1f es fun e he=>by
   rcases h2.ent e he with h3|h3
   ·obtain⟨n,hn⟩:=q1f (p:=fun l m=>F m (s.m1 id mm ck (some e) l)=some (.normal,s.mi id mm ck (e.2.2::l))) (q0z es) fun l hl=>hF _ _ (h3 l hl)
    exact⟨n,fun m hm => .inl (hn m hm)⟩
   ·obtain⟨n,hn⟩:=q1f (p:=fun l m=>F m (s.m1 id mm ck (some e) l)=some x) (q0z es) fun l hl=>hF _ _ (h3 l hl)
    exact⟨n,fun m hm => .inr (hn m hm)⟩
 have hfin:∃n,∀m,n≤m→(∃e∈es,∀l∈q0z es,F m (s.m1 id mm ck (some e) l)=some x)∨∀l∈q0z es,F m (s.m1 id mm ck none l)=some x:=by
  rcases h2.fin with ⟨e,he,h3⟩|h3
  ·obtain⟨n,hn⟩:=q1f (p:=fun l m=>F m (s.m1 id mm ck (some e) l)=some x) (q0z es) fun l hl=>hF _ _ (h3 l hl)
   exact⟨n,fun m hm => .inl ⟨e,he,hn m hm⟩⟩
  ·obtain⟨n,hn⟩:=q1f (p:=fun l m=>F m (s.m1 id mm ck none l)=some x) (q0z es) fun l hl=>hF _ _ (h3 l hl)
   exact⟨n,fun m hm => .inr (hn m hm)⟩
 obtain⟨n1,h3⟩:=hent
 obtain⟨n2,h4⟩:=hfin
 exact⟨max n1 n2,fun m hm=>qhz h1 ⟨h2.ne,h3 m (by omega),h4 m (by omega)⟩⟩
section
variable {P:Program} {T:Ty} {po:Pol}
theorem q4J {E E':Orc} (hE:OLe E E') {s:S} {g:FuncId} {zs:List (List Nat)} {rs:List R} {bl rw ln:List Nat} {x:R×S} (h:Zv E s g zs rs bl rw ln=some x):Zv E' s g zs rs bl rw ln=some x:=by
 unfold Zv at h ⊢
 refine qO (fun _ h=>h) (fun a b h=>qO (fun _ h=>h) (fun a b h=>?_) h) h
 split at h
 ·rename_i hc;simp only[if_pos hc];exact qO (fun a h=>hE _ _ _ _ _ h) (fun _ _ h=>h) h
 ·cases h
theorem q7I {E E':Orc} (hE:OLe E E') {s:S} {rid:Nat} {f:FuncId} {aq0 bd:Code} {rs:List R} {bl rw ln:List Nat} {x:R×S} (h:q1O E s rid f aq0 bd rs bl rw ln=some x):q1O E' s rid f aq0 bd rs bl rw ln=some x:=by
 unfold q1O at h ⊢
 refine qO (fun _ h=>h) (fun a b h=>?_) h
 split at h
 ·rename_i hc;simp only[if_pos hc];exact qO (fun a h=>hE _ _ _ _ _ h) (fun _ _ h=>h) h
 ·cases h
theorem q8D {E E':Orc} (hE:OLe E E') {s:S} {rid:Nat} {args:List R} {x:R×S} (h:q0E E s rid args=some x):q0E E' s rid args=some x:=by
 unfold q0E at h ⊢
 split at h
 ·split at h
  ·rename_i hc;rw[if_pos hc];exact q7I hE h
  ·cases h
 ·cases h
theorem q7Q {E E':Orc} (hE:OLe E E') {s:S} {f:Operand} {args:List Operand} {ts:List TypeId} {x:R×S} (h:Jt po E s f args ts=some x):Jt po E' s f args ts=some x:=by
 unfold Jt at h ⊢
 split at h
 ·exact q4J hE h
 ·exact q8D hE h
 ·cases h
theorem qdO {E E':Orc} (hE:OLe E E') {s:S} {op:Op} {x:R×S} (h:xo P T po E s op=some x):xo P T po E' s op=some x:=by
 cases op with
 | call c=>
  simp only[xo,xCl] at h ⊢
  split at h<;>first
   | exact h
   | exact q7Q hE h
 | _=>exact h
theorem qff {E E':Orc} (hE:OLe E E') {f:Nat} {g:Operand} {ps:List Nat} {aq0 bd:Code} {s:S} {x:Exit×S} (h:xRF po E f g ps aq0 bd s=some x):xRF po E' f g ps aq0 bd s=some x:=by
 unfold xRF at h ⊢
 split at h
 ·exact qO (fun a h=>q4J hE h) (fun _ _ h=>h) h
 ·cases h
theorem q3X {E E':Orc} (hE:OLe E E') {o:Oper} {act:Bool} {s s':S} (h:xst P T po E o act s=some s'):xst P T po E' o act s=some s':=by
 unfold xst at h ⊢
 by_cases hc:act=true
 ·rw[if_pos hc] at h ⊢;exact qO (fun _ h=>qdO hE h) (fun _ _ h=>h) h
 ·rw[if_neg hc] at h ⊢;exact h
theorem qbi {E E':Orc} (hE:OLe E E') {ops:List Oper} {o:Oper} {s s':S} (h:q8t P T po E ops o s=some s'):q8t P T po E' ops o s=some s':=by
 unfold q8t at h ⊢
 split at h
 ·exact q3X hE h
 ·split at h
  ·split at h
   ·split at h
    ·rename_i hb;rw[if_pos hb];exact q3X hE h
    ·rename_i hb;rw[if_neg hb];exact q3X hE h
   ·exact q3X hE h
   ·cases h
  ·cases h
theorem ql4 {E E':Orc} (h:OLe E E') {g:FuncId} {x y c:Int} (hc:cfO E g x y=some c):cfO E' g x y=some c:=by
 unfold cfO at hc ⊢
 split at hc
 ·rename_i d hd
  rw[h _ _ _ _ _ hd];exact hc
 ·cases hc
theorem qki {f f':Int→Int→Option Int} {dst:Option Nat} {e id n:Nat} {s s':S} (h:∀zs,okB f zs=true→agB f f' zs) (hx:qaN s dst f e id n=some s'):qaN s dst f' e id n=some s':=by
 unfold qaN at hx ⊢
 split at hx
 ·obtain⟨zs,h1,hx⟩:=qxM.1 hx
  rw[h1,qxH]
  split at hx
  ·rename_i hc
   have hag:=h zs hc.2.2.2.2.1
   rw[if_pos ⟨hc.1,hc.2.1,hc.2.2.1,hc.2.2.2.1,by rw[←qhs hag];exact hc.2.2.2.2.1,hc.2.2.2.2.2⟩,←q5W hag fun y hy=>hy]
   exact hx
  ·cases hx
 ·cases hx
theorem q7L {E:Orc} (s:S) (o:Oper):(∀E':Orc,ipF T E' s o=none)∨(∀E':Orc,ipF T E' s o=some none)∨∃dst e id n c,∀E':Orc,ipF T E' s o=some (qaN s dst (cfO E' c) e id n):=by
 unfold ipF
 split
 ·split
  ·unfold qmT
   split
   ·split
    ·unfold qsR
     split
     ·exact .inr (.inr ⟨_,_,_,_,_,fun _=>rfl⟩)
     ·exact .inr (.inl fun _=>rfl)
    ·exact .inl fun _=>rfl
   ·exact .inl fun _=>rfl
  ·exact .inl fun _=>rfl
 ·exact .inl fun _=>rfl
theorem qgF {E E':Orc} (hE:OLe E E') {o:Oper} {s:S}:(ipA T po E s o=none∧ipA T po E' s o=none)∨∃y y',ipA T po E s o=some y∧ipA T po E' s o=some y'∧∀s',y=some s'→y'=some s':=by
 unfold ipA
 cases hi:ipX T po s o with
 | some y=>exact .inr ⟨y,y,rfl,rfl,fun _ h=>h⟩
 | none=>
  rcases q7L (T:=T) (E:=E) s o with h|h|⟨dst,e,id,n,c,h⟩
  ·exact .inl ⟨h E,h E'⟩
  ·exact .inr ⟨none,none,h E,h E',fun _ h=>h⟩
  ·refine .inr ⟨_,_,h E,h E',fun s' h1=>qki (fun zs hz x hx y hy=>?_) h1⟩
   obtain⟨v,hv⟩:=q41 hz x hx y hy
   rw[hv,ql4 hE hv]
theorem qgT {E E':Orc} (hE:OLe E E') {ops:List Oper} {o:Oper} {s s':S} (h:xgd P T po E ops o s=some s'):xgd P T po E' ops o s=some s':=by
 unfold xgd at h ⊢
 rcases qgF (T:=T) (po:=po) hE (s:=s) (o:=o) with ⟨h1,h2⟩|⟨y,y',h1,h2,h3⟩
 ·rw[h1] at h;rw[h2];exact qbi hE h
 ·rw[h1] at h;rw[h2];exact h3 _ h
theorem q8f {E E':Orc} (hE:OLe E E') {ops:List Oper}:∀(l:List Oper) {s s':S},xr P T po E ops l s=some s'→xr P T po E' ops l s=some s'
 | [],_,_,h=>h
 | o::l,_,_,h=>qO (fun _ h=>qgT hE h) (fun _ _ h=>q8f hE l h) h
def q6D (D:DRs):Prop:=∀E E',OLe E E'→∀f k id ops s s',D E f k id ops s=some s'→D E' f k id ops s=some s'
theorem q8p {D:DRs} (hD:q6D D) {E E':Orc} (hE:OLe E E') {L L':(S→XS)→S→XS} (hL:LLe L L') {f k:Nat}:∀(c:Code),FLe (XD P T po E (D E f k) L f k c) (XD P T po E' (D E' f k) L' f k c):=by
 intro c
 induction c with
 | seq a b iha ihb=>intro s x h;exact qO (fun _ h=>iha _ _ h) (fun _ _ h=>q6E ihb h) h
 | block id c ih=>intro s x h;exact qO (fun _ h=>ih _ _ h) (fun _ _ h=>h) h
 | scope c ih=>intro s x h;exact qO (fun _ h=>ih _ _ h) (fun _ _ h=>h) h
 | cond c x y ihx ihy=>
  intro s z h
  unfold XD at h ⊢
  split at h
  ·split at h
   ·rename_i hb;rw[if_pos hb];exact ihx _ _ h
   ·rename_i hb;rw[if_neg hb];exact ihy _ _ h
  ·cases h
 | region id ops draw=>
  intro s z h
  unfold XD at h ⊢
  split at h
  ·rename_i hb;rw[if_pos hb];exact qO (fun _ h=>hD E E' hE f k id _ _ _ h) (fun _ _ h=>h) h
  ·rename_i hb;rw[if_neg hb];exact qO (fun _ h=>q8f hE _ h) (fun _ _ h=>h) h
 | loop c ih=>
  intro s z h
  exact qO (fun _ h=>h) (fun a b h=>qfZ hL (Jk c) _ _ (fun s x h=>qO (fun _ h=>ih _ _ h) (fun _ _ h=>h) h) a b h) h
 | rangeFunc g ps aq0 bd _ _=>
  intro s z h
  unfold XD at h ⊢
  exact qff hE h
 | _=>intro s x h;exact h
theorem q5z {D:DRs} (hD:q6D D) {E E':Orc} (hE:OLe E E') {L L':(S→XS)→S→XS} (hL:LLe L L') {f k:Nat} {args:List R} {G:List (Nat×B)} {bd:Bd} {x:R×List (Nat×B)} (h:q2H P T po D E L f k args G bd=some x):q2H P T po D E' L' f k args G bd=some x:=by
 unfold q2H at h ⊢
 split at h
 ·rename_i hc;rw[if_pos hc];exact qO (fun a h=>q8p hD hE hL bd.code _ _ h) (fun _ _ h=>h) h
 ·cases h
theorem q4a {D:DRs} (hD:q6D D) {E E':Orc} (hE:OLe E E') {L L':(S→XS)→S→XS} (hL:LLe L L') {f k:Nat} {aq0 bd:Code} {tm:List R} {G:List (Nat×B)} {x:R×List (Nat×B)} (h:q17 P T po D E L f k aq0 bd tm G=some x):q17 P T po D E' L' f k aq0 bd tm G=some x:=by
 unfold q17 at h ⊢
 split at h
 ·rename_i hc
  rw[if_pos hc]
  refine qO (fun a h=>q8p hD hE hL aq0 _ _ h) (fun p b h=>?_) h
  unfold q4l at h ⊢
  split at h
  ·exact qO (fun _ h=>h) (fun b c h=>qO (fun a h=>q8p hD hE hL bd _ _ h) (fun _ _ h=>h) h) h
  ·cases h
 ·cases h
theorem q9T {D:DRs} (hD:q6D D) {E E':Orc} (hE:OLe E E') {L L':(S→XS)→S→XS} (hL:LLe L L') {f k:Nat} {args:List R} {G:List (Nat×B)} {x:R×List (Nat×B)} (h:fnx P T po D E L f k args G=some x):fnx P T po D E' L' f k args G=some x:=by
 unfold fnx at h ⊢
 split at h
 ·rename_i g hg;exact g.mono E E' hE _ _ _ _ h
 ·exact qO (fun _ h=>h) (fun bd b hb=>q5z hD hE hL hb) h
theorem q1T {D:DRs} (hD:q6D D):∀{n m:Nat},n≤m→OLe (xf P T po D n) (xf P T po D m)
 | 0,_,_=>fun _ _ _ _ _ h=>by cases h
 | n+1,0,h=>by omega
 | n+1,m+1,h=>fun g k args G x hx=>by
  unfold xf at hx ⊢
  cases g with
  | fn f=>exact q9T hD (q1T hD (by omega)) (q93 (by omega)) hx
  | rd f aq0 bd=>exact q4a hD (q1T hD (by omega)) (q93 (by omega)) hx
def EE (P:Program) (T:Ty) (po:Pol) (D:DRs):Orc:=fun f k args G=>open Classical in if h:∃x n,xf P T po D n f k args G=some x then some (Classical.choose h) else none
theorem qaW {D:DRs} (hD:q6D D) {n:Nat}:OLe (xf P T po D n) (EE P T po D):=fun f k args G x h=>by
 have hex:∃x n,xf P T po D n f k args G=some x:=⟨x,n,h⟩
 unfold EE
 rw[dif_pos hex]
 obtain⟨m,hm⟩:=Classical.choose_spec hex
 have h1:=q1T hD (Nat.le_max_left n m) _ _ _ _ _ h
 have h2:=q1T hD (Nat.le_max_right n m) _ _ _ _ _ hm
 rw[h1] at h2
 injection h2 with h2
 rw[←h2]
theorem q2T {D:DRs} {f:Fx} {k:Nat} {args:List R} {G:List (Nat×B)} {x:R×List (Nat×B)} (h:EE P T po D f k args G=some x):∃n,xf P T po D n f k args G=some x:=by
 unfold EE at h
 split at h
 ·rename_i hex
  injection h with h
  obtain⟨m,hm⟩:=Classical.choose_spec hex
  exact⟨m,h ▸ hm⟩
 ·cases h
theorem qlj (hA:Ag P T) {D:DRs} (hD:DOk P po D) (hP:qrB P po):Snd P (EE P T po D):=by
 refine⟨fun f k args G r G' h=>?_,fun f aq0 bd k tm G r G' h=>?_⟩
 ·obtain⟨n,hn⟩:=q2T h
  exact(qca hA hD hP n).fn f k args G r G' hn
 ·obtain⟨n,hn⟩:=q2T h
  exact(qca hA hD hP n).rd f aq0 bd k tm G r G' hn
def qmD (P:Program) (T:Ty) (po:Pol) (D:DRs):Prop:=∀f k id ops s s',D (EE P T po D) f k id ops s=some s'→∃n,D (xf P T po D n) f k id ops s=some s'
theorem qZ {α β:Type} {o:Nat→Option α} {o':Option α} {g:Nat→α→Option β} {g':α→Option β} (ho:∀a,o'=some a→∃n,∀m,n≤m→o m=some a) (hg:∀a b,g' a=some b→∃n,∀m,n≤m→g m a=some b) {b:β} (h:o'.bind g'=some b):∃n,∀m,n≤m→(o m).bind (g m)=some b:=by
 obtain⟨a,h1,h2⟩:=qxM.1 h
 obtain⟨n1,h3⟩:=ho a h1
 obtain⟨n2,h4⟩:=hg a b h2
 exact⟨max n1 n2,fun m hm=>by rw[h3 m (by omega)];exact h4 m (by omega)⟩
theorem z6 {α:Type} {o:Option α}:∀a,o=some a→∃n:Nat,∀m,n≤m→o=some a:=fun _ h=>⟨0,fun _ _=>h⟩
theorem qa4 {k:Nat→S→XS} {k':S→XS} (h:∀s x,k' s=some x→∃n,∀m,n≤m→k m s=some x):∀p x,sqD k' p=some x→∃n,∀m,n≤m→sqD (k m) p=some x:=fun p x hx=>by
 obtain⟨e,t⟩:=p
 cases e with
 | normal=>exact h _ _ hx
 | _=>exact⟨0,fun m _=>hx⟩
theorem qdn {E:Nat→Orc} {E':Orc} (hE:∀g k a G x,E' g k a G=some x→∃n,∀m,n≤m→E m g k a G=some x) (g:FuncId):∀(l:List (Int×Int)),(∀p∈l,∃c,cfO E' g p.1 p.2=some c)→∃n,∀m,n≤m→∀p∈l,cfO E' g p.1 p.2=cfO (E m) g p.1 p.2
 | [],_=>⟨0,fun _ _ p hp=>by cases hp⟩
 | p::l,h=>by
  obtain⟨n1,h1⟩:=qdn hE g l fun q hq=>h q (qxP _ hq)
  obtain⟨c,hc⟩:=h p qxW
  have h2:∃n,∀m,n≤m→cfO (E m) g p.1 p.2=some c:=by
   unfold cfO at hc ⊢
   split at hc
   ·rename_i d hd
    obtain⟨n,hn⟩:=hE _ _ _ _ _ hd
    exact⟨n,fun m hm=>by rw[hn m hm];exact hc⟩
   ·cases hc
  obtain⟨n2,h2⟩:=h2
  refine⟨max n1 n2,fun m hm q hq=>?_⟩
  rcases qy3.1 hq with rfl|hq
  ·rw[hc,h2 m (by omega)]
  ·exact h1 m (by omega) q hq
theorem qdJ {E:Nat→Orc} {E':Orc} (hE:∀g k a G x,E' g k a G=some x→∃n,∀m,n≤m→E m g k a G=some x) {s s':S} {dst:Option Nat} {e id n c:Nat} (h:qaN s dst (cfO E' c) e id n=some s'):∃N,∀m,N≤m→qaN s dst (cfO (E m) c) e id n=some s':=by
 cases hb:s.blk id with
 | row e' sz cs=>
  by_cases hsz:sz=1
  ·subst hsz
   cases hz:q4U cs with
   | none=>unfold qaN at h;rw[hb] at h;simp only[hz,Option.bind_none] at h;cases h
   | some zs=>
    have hok:okB (cfO E' c) zs=true:=by
     unfold qaN at h
     rw[hb] at h
     simp only[hz,qxH] at h
     split at h
     ·rename_i hc;exact hc.2.2.2.2.1
     ·cases h
    obtain⟨N,hN⟩:=qdn hE c (zs.flatMap fun x=>zs.map fun y=>(x,y)) (fun p hp=>by
     obtain⟨x,hx,hp⟩:=List.mem_flatMap.1 hp
     obtain⟨y,hy,rfl⟩:=qyr.1 hp
     exact q41 hok x hx y hy)
    refine⟨N,fun m hm=>?_⟩
    have hag:agB (cfO E' c) (cfO (E m) c) zs:=fun x hx y hy=>hN m hm (x,y) (List.mem_flatMap.2 ⟨x,hx,qyr.2 ⟨y,hy,rfl⟩⟩)
    unfold qaN at h ⊢
    rw[hb] at h ⊢
    simp only[hz,qxH] at h ⊢
    split at h
    ·rename_i hc
     rw[if_pos ⟨hc.1,hc.2.1,hc.2.2.1,hc.2.2.2.1,by rw[←qhs hag];exact hc.2.2.2.2.1,hc.2.2.2.2.2⟩,←q5W hag fun y hy=>hy]
     exact h
    ·cases h
  ·unfold qaN at h;rw[hb] at h
   split at h
   ·rename_i q;injection q with _ q2 _;exact absurd q2 hsz
   ·cases h
 | _=>unfold qaN at h;rw[hb] at h;cases h
section
variable {D:DRs} (hM:q6D D) (hC:qmD P T po D)
include hM
theorem q4D {f:Fx} {k:Nat} {args:List R} {G:List (Nat×B)}:∀x,EE P T po D f k args G=some x→∃n,∀m,n≤m→xf P T po D m f k args G=some x:=fun x h=>by
 obtain⟨n,hn⟩:=q2T h
 exact⟨n,fun m hm=>q1T hM hm _ _ _ _ _ hn⟩
theorem q4b {s:S} {g:FuncId} {zs:List (List Nat)} {rs:List R} {bl rw ln:List Nat}:∀x,Zv (EE P T po D) s g zs rs bl rw ln=some x→∃n,∀m,n≤m→Zv (xf P T po D m) s g zs rs bl rw ln=some x:=fun x h=>by
 unfold Zv at h ⊢
 refine qZ z6 (fun a b h=>qZ z6 (fun a b h=>?_) h) h
 split at h
 ·rename_i hc
  simp only[if_pos hc]
  exact qZ (q4D hM) (fun _=>z6) h
 ·cases h
theorem q8m {s:S} {rid:Nat} {args:List R}:∀x,q0E (EE P T po D) s rid args=some x→∃n,∀m,n≤m→q0E (xf P T po D m) s rid args=some x:=fun x h=>by
 unfold q0E at h ⊢
 split at h
 ·split at h
  ·rename_i hc
   simp only[if_pos hc]
   unfold q6r q1O at h ⊢
   refine qZ z6 (fun a b h=>?_) h
   split at h
   ·rename_i hc
    simp only[if_pos hc]
    exact qZ (q4D hM) (fun _=>z6) h
   ·cases h
  ·cases h
 ·cases h
theorem q7P {s:S} {f:Operand} {args:List Operand} {ts:List TypeId}:∀x,Jt po (EE P T po D) s f args ts=some x→∃n,∀m,n≤m→Jt po (xf P T po D m) s f args ts=some x:=fun x h=>by
 unfold Jt at h ⊢
 split at h
 ·exact q4b hM _ h
 ·exact q8m hM _ h
 ·cases h
theorem qdP {s:S} {op:Op}:∀x,xo P T po (EE P T po D) s op=some x→∃n,∀m,n≤m→xo P T po (xf P T po D m) s op=some x:=fun x h=>by
 cases op with
 | call c=>
  simp only[xo,xCl] at h ⊢
  split at h<;>first
   | exact⟨0,fun _ _=>h⟩
   | exact q7P hM _ h
 | _=>exact⟨0,fun _ _=>h⟩
theorem qgw {f:Nat} {g:Operand} {ps:List Nat} {aq0 bd:Code} {s:S}:∀x,xRF po (EE P T po D) f g ps aq0 bd s=some x→∃n,∀m,n≤m→xRF po (xf P T po D m) f g ps aq0 bd s=some x:=fun x h=>by
 unfold xRF at h ⊢
 split at h
 ·exact qZ (q4b hM) (fun _=>z6) h
 ·cases h
theorem q3M {o:Oper} {act:Bool} {s:S}:∀x,xst P T po (EE P T po D) o act s=some x→∃n,∀m,n≤m→xst P T po (xf P T po D m) o act s=some x:=fun x h=>by
 unfold xst at h ⊢
 by_cases hc:act=true
 ·simp only[if_pos hc] at h ⊢;exact qZ (qdP hM) (fun _=>z6) h
 ·simp only[if_neg hc] at h ⊢;exact⟨0,fun _ _=>h⟩
theorem qch {ops:List Oper} {o:Oper} {s:S}:∀x,q8t P T po (EE P T po D) ops o s=some x→∃n,∀m,n≤m→q8t P T po (xf P T po D m) ops o s=some x:=fun x h=>by
 unfold q8t at h ⊢
 split at h
 ·exact q3M hM _ h
 ·split at h
  ·split at h
   ·split at h
    ·rename_i hb;simp only[if_pos hb];exact q3M hM _ h
    ·rename_i hb;simp only[if_neg hb];exact q3M hM _ h
   ·exact q3M hM _ h
   ·cases h
  ·cases h
theorem qfd {ops:List Oper} {o:Oper} {s:S}:∀x,xgd P T po (EE P T po D) ops o s=some x→∃n,∀m,n≤m→xgd P T po (xf P T po D m) ops o s=some x:=fun x h=>by
 unfold xgd ipA at h ⊢
 cases hi:ipX T po s o with
 | some y=>simp only[hi,ipS,qgK] at h ⊢;exact⟨0,fun _ _=>h⟩
 | none=>
  simp only[hi,ipS] at h ⊢
  rcases q7L (T:=T) (E:=EE P T po D) s o with q|q|⟨dst,e,id,n,c,q⟩
  ·simp only[q,qgK] at h ⊢;exact qch hM x h
  ·simp only[q,qgK] at h;cases h
  ·simp only[q,qgK] at h ⊢;exact qdJ (E:=fun m=>xf P T po D m) (fun g k a G x hx=>q4D hM x hx) h
theorem q7Y {ops:List Oper}:∀(l:List Oper) (s:S) (x:S),xr P T po (EE P T po D) ops l s=some x→∃n,∀m,n≤m→xr P T po (xf P T po D m) ops l s=some x
 | [],_,_,h=>⟨0,fun _ _=>h⟩
 | o::l,_,_,h=>qZ (qfd hM) (fun s x h=>q7Y l s x h) h
include hC
theorem q7T {f k:Nat}:∀(c:Code) (s:S) (x:Exit×S),XD P T po (EE P T po D) (D (EE P T po D) f k) Lim f k c s=some x→∃n,∀m,n≤m→XD P T po (xf P T po D m) (D (xf P T po D m) f k) (iter m) f k c s=some x:=by
 intro c
 induction c with
 | seq a b iha ihb=>intro s x h;exact qZ (iha s) (qa4 ihb) h
 | block id c ih=>intro s x h;exact qZ (ih s) (fun _=>z6) h
 | scope c ih=>intro s x h;exact qZ (ih s) (fun _=>z6) h
 | cond c x y ihx ihy=>
  intro s z h
  unfold XD at h ⊢
  split at h
  ·split at h
   ·rename_i hb;simp only[if_pos hb];exact ihx _ _ h
   ·rename_i hb;simp only[if_neg hb];exact ihy _ _ h
  ·cases h
 | region id ops draw=>
  intro s z h
  unfold XD at h ⊢
  split at h
  ·rename_i hb
   simp only[if_pos hb]
   refine qZ (fun a ha=>?_) (fun _=>z6) h
   obtain⟨n,hn⟩:=hC _ _ _ _ _ _ ha
   exact⟨n,fun m hm=>hM _ _ (q1T hM hm) _ _ _ _ _ _ hn⟩
  ·rename_i hb;simp only[if_neg hb];exact qZ (q7Y hM _ _) (fun _=>z6) h
 | loop c ih=>
  intro s z h
  unfold XD at h ⊢
  refine qZ z6 (fun a b h=>?_) h
  have hbody:∀s x,(XD P T po (EE P T po D) (D (EE P T po D) f k) Lim f k c s).bind (lpx po f (qD c) k)=some x→
    ∃n,∀m,n≤m→(XD P T po (xf P T po D m) (D (xf P T po D m) f k) (iter m) f k c s).bind (lpx po f (qD c) k)=some x:=fun s x h=>qZ (ih s) (fun _=>z6) h
  cases hd:Jk c with
  | some it=>rw[hd] at h;exact qgM (F:=fun m s=>(XD P T po (xf P T po D m) (D (xf P T po D m) f k) (iter m) f k c s).bind (lpx po f (qD c) k)) hbody h
  | none=>
  rw[hd] at h
  replace h:Lim _ a=some b:=h
  obtain⟨N,hN⟩:=q3P h
  have hit:∀(N:Nat) (s:S) (x:Exit×S),iter N (fun s=>(XD P T po (EE P T po D) (D (EE P T po D) f k) Lim f k c s).bind (lpx po f (qD c) k)) s=some x→
    ∃n,∀m,n≤m→iter N (fun s=>(XD P T po (xf P T po D m) (D (xf P T po D m) f k) (iter m) f k c s).bind (lpx po f (qD c) k)) s=some x:=by
   intro N
   induction N with
   | zero=>intro s x h;cases h
   | succ N ihN=>intro s x h;exact qZ (hbody s) (qa4 ihN) h
  obtain⟨n,hn⟩:=hit N a b hN
  exact⟨max n N,fun m hm=>q19 (by omega) (fun _ _ h=>h) _ _ (hn m (by omega))⟩
 | rangeFunc g ps aq0 bd _ _=>
  intro s z h
  unfold XD at h ⊢
  exact qgw hM _ h
 | _=>intro s x h;exact⟨0,fun _ _=>h⟩
theorem q8M {f k:Nat} {aq0 bd:Code} {tm:List R} {G:List (Nat×B)}:∀x,q17 P T po D (EE P T po D) Lim f k aq0 bd tm G=some x→∃n,∀m,n≤m→q17 P T po D (xf P T po D m) (iter m) f k aq0 bd tm G=some x:=fun x h=>by
 unfold q17 at h ⊢
 split at h
 ·rename_i hc
  simp only[if_pos hc]
  refine qZ (q7T hM hC aq0 _) (fun p b h=>?_) h
  unfold q4l at h ⊢
  split at h
  ·exact qZ z6 (fun b c h=>qZ (q7T hM hC bd _) (fun _=>z6) h) h
  ·cases h
 ·cases h
theorem qsw (f:FuncId) (aq0 bd:Code) (k:Nat) (tm:List R) (G:List (Nat×B)):EE P T po D (.rd f aq0 bd) k tm G=q17 P T po D (EE P T po D) Lim f k aq0 bd tm G:=by
 refine q4L (fun x h=>?_) (fun x h=>?_)
 ·obtain⟨n,hn⟩:=q2T h
  cases n with
  | zero=>cases hn
  | succ n=>exact q4a hM (qaW hM) (q7Z n) hn
 ·obtain⟨n,hn⟩:=q8M hM hC x h
  exact qaW hM (n:=n+1) _ _ _ _ _ (hn n (qxX n))
theorem qr8 (f k:Nat) (args:List R) (G:List (Nat×B)):EE P T po D (.fn f) k args G=fnx P T po D (EE P T po D) Lim f k args G:=by
 refine q4L (fun x h=>?_) (fun x h=>?_)
 ·obtain⟨n,hn⟩:=q2T h
  cases n with
  | zero=>cases hn
  | succ n=>exact q9T hM (qaW hM) (q7Z n) hn
 ·cases hp:po.pr f with
  | some g=>
   unfold fnx at h
   rw[hp] at h
   obtain⟨n,hn⟩:=g.cont (fun n=>xf P T po D n) _ (fun _ _ h=>q1T hM h) (fun g k a G x h=>q4D hM x h) _ _ _ _ h
   refine qaW hM (n:=n+1) _ _ _ _ _ ?_
   show fnx P T po D _ _ f k args G=_
   unfold fnx
   rw[hp];exact hn n (qxX n)
  | none=>
  unfold fnx at h
  rw[hp] at h
  obtain⟨bd,h1,h2⟩:=qxM.1 h
  have:∃n,q2H P T po D (xf P T po D n) (iter n) f k args G bd=some x:=by
   unfold q2H at h2 ⊢
   split at h2
   ·rename_i hc
    simp only[if_pos hc]
    obtain⟨n,hn⟩:=qZ (q7T hM hC bd.code _) (fun _=>z6) h2
    exact⟨n,hn n (qxX n)⟩
   ·cases h2
  obtain⟨n,hn⟩:=this
  refine qaW hM (n:=n+1) _ _ _ _ _ ?_
  show fnx P T po D _ _ f k args G=_
  unfold fnx
  rw[hp]
  simp only
  rw[h1]
  exact hn
end
end
end
noncomputable section
open Go.RowKit
def qaF (s:S):Op→List Nat
 | .load _ x=>match s.ev x with | .c (.ptr id _)=>[id]|_=>[]
 | .convert _ _ x=>match s.ev x with | .c (.own id _ _ _)=>[id]|_=>[]
 | .lookup _ x _ _=>match s.ev x with | .c (.hd _ id)=>[id]|_=>[]
 | .range _ x=>match s.ev x with | .c (.hd _ id)=>[id]|_=>[]
 | .call c=>match c.callee,c.args.toList with | .builtin .len,[x]=>(match s.ev x with | .c (.hd _ id)=>[id]|_=>[])|_,_=>[]
 | _=>[]
def q4u:Op→Bool
 | .makeMap _ _=>true
 | .range _ _=>true
 | .alloc _=>true
 | .box _ _=>true
 | .buildSlice _ _ _=>true
 | _=>false
section
variable {P:Program} {T:Ty} {s t:S} {p:Nat} {K:KK}
theorem qbu {op:Op} (hop:q0a op=true) (hev:∀x∈op.operands.toList,t.ev x=s.ev x) (hblk:∀id,id∈qaF s op→t.blk id=s.blk id) (h:ox P T s p op K) :
  ∃r us,K r (s.up us)∧(us=[]∨(q4u op=true∧∃b,us=[(p,b)]))∧∀(q:Nat) (K':KK),(us=[]∨q=p)→K' r (t.up us)→ox P T t q op K':=by
 have e1:∀x,x∈op.operands.toList→t.ev x=s.ev x:=hev
 cases op with
 | move x=>have h1:=e1 x (by simp[Op.operands]);exact⟨_,[],h,.inl rfl,fun q K' hq' hK=>by show K' (t.ev x) t;rw[h1];exact hK⟩
 | assign x=>have h1:=e1 x (by simp[Op.operands]);exact⟨_,[],h,.inl rfl,fun q K' hq' hK=>by show K' (t.ev x) t;rw[h1];exact hK⟩
 | pick c x y=>
  have h1:=e1 c (by simp[Op.operands]);have h2:=e1 x (by simp[Op.operands]);have h3:=e1 y (by simp[Op.operands])
  simp only[ox,q5C] at h ⊢
  split at h
  ·rename_i b hb
   exact⟨_,[],h,.inl rfl,fun q K' hq' hK=>by rw[h1,h2,h3,hb];exact hK⟩
  ·cases h
 | alloc ty=>
  simp only[ox,q6h] at h ⊢
  exact⟨_,_,h.2,.inr ⟨rfl,_,rfl⟩,fun q K' hq' hK=>by obtain rfl:=hq'.resolve_left (by simp);exact⟨h.1,hK⟩⟩
 | box ty x=>
  have h1:=e1 x (by simp[Op.operands])
  simp only[ox,qgD] at h ⊢
  obtain⟨cs,g1,g2,g3⟩:=h
  exact⟨_,_,g3,.inr ⟨rfl,_,rfl⟩,fun q K' hq' hK=>by obtain rfl:=hq'.resolve_left (by simp);exact⟨cs,by rw[h1];exact g1,g2,hK⟩⟩
 | build ty parts=>
  have hq:∀q∈parts.toList,t.ev q.2=s.ev q.2:=fun q hq=>e1 q.2 (by simp only[Op.operands];exact List.mem_map_of_mem (f:=fun q:Nat×Operand=>q.2) hq)
  simp only[ox,q31] at h ⊢
  split at h
  ·rename_i fs hk
   obtain⟨g1,cs,g2,g3⟩:=h
   exact⟨_,[],g3,.inl rfl,fun q K' hq' hK=>⟨g1,cs,by rw[q3V _ _ hq];exact g2,hK⟩⟩
  ·rename_i n e hk
   obtain⟨g1,cs,g2,g3⟩:=h
   exact⟨_,[],g3,.inl rfl,fun q K' hq' hK=>⟨g1,cs,by rw[q3V _ _ hq];exact g2,hK⟩⟩
  ·cases h
 | buildSlice ty len parts=>
  have hq:∀q∈parts.toList,t.ev q.2=s.ev q.2:=fun q hq=>e1 q.2 (by simp only[Op.operands];exact List.mem_map_of_mem (f:=fun q:Nat×Operand=>q.2) hq)
  simp only[ox,ZM] at h ⊢
  obtain⟨e,g1,g2,g3,g4,cs,g5,g6⟩:=h
  exact⟨_,_,g6,.inr ⟨rfl,_,rfl⟩,fun q K' hq' hK=>by obtain rfl:=hq'.resolve_left (by simp);exact⟨e,g1,g2,g3,g4,cs,by rw[q3V _ _ hq];exact g5,hK⟩⟩
 | load ty x=>
  have h1:=e1 x (by simp[Op.operands])
  simp only[ox,q5D] at h ⊢
  rw[h1]
  split at h
  ·rename_i id off he
   obtain⟨r,g1,g2⟩:=h
   exact⟨r,[],g2,.inl rfl,fun q K' hq' hK=>⟨r,by rw[hblk id (by simp[qaF,he])];exact g1,hK⟩⟩
  ·obtain⟨r,g1,g2⟩:=h
   exact⟨r,[],g2,.inl rfl,fun q K' hq' hK=>⟨r,g1,hK⟩⟩
  ·cases h
 | nilCheck x=>
  have h1:=e1 x (by simp[Op.operands])
  simp only[ox,J3] at h ⊢
  rw[h1]
  split at h
  ·exact⟨_,[],h,.inl rfl,fun q K' hq' hK=>hK⟩
  ·exact⟨_,[],h,.inl rfl,fun q K' hq' hK=>hK⟩
  ·exact⟨_,[],h,.inl rfl,fun q K' hq' hK=>hK⟩
  ·cases h
 | extract x i=>
  have h1:=e1 x (by simp[Op.operands])
  simp only[ox,JV] at h ⊢
  rw[h1]
  split at h
  ·obtain⟨r,g1,g2⟩:=h
   exact⟨r,[],g2,.inl rfl,fun q K' hq' hK=>⟨r,g1,hK⟩⟩
  ·cases h
 | fieldAddr ty x f=>
  have h1:=e1 x (by simp[Op.operands])
  simp only[ox,Jh] at h ⊢
  rw[h1]
  obtain⟨fo,ft,g1,g2,g3,h⟩:=h
  split at h
  ·exact⟨_,[],h,.inl rfl,fun q K' hq' hK=>⟨fo,ft,g1,g2,g3,hK⟩⟩
  ·exact⟨_,[],h,.inl rfl,fun q K' hq' hK=>⟨fo,ft,g1,g2,g3,hK⟩⟩
  ·cases h
 | field ty x f=>
  have h1:=e1 x (by simp[Op.operands])
  simp only[ox,q2W] at h ⊢
  rw[h1]
  split at h
  ·obtain⟨fo,ft,r,g1,g2,g3⟩:=h
   exact⟨r,[],g3,.inl rfl,fun q K' hq' hK=>⟨fo,ft,r,g1,g2,hK⟩⟩
  ·cases h
 | indexAddr ty x y=>
  have h1:=e1 x (by simp[Op.operands]);have h2:=e1 y (by simp[Op.operands])
  simp only[ox,Zz] at h ⊢
  rw[h1,h2]
  split at h
  ·obtain⟨e,g1,g2,g3,g4,g5,g6⟩:=h
   exact⟨_,[],g6,.inl rfl,fun q K' hq' hK=>⟨e,g1,g2,g3,g4,g5,hK⟩⟩
  ·obtain⟨e,g1,g2,g3,g4,g5,g6⟩:=h
   exact⟨_,[],g6,.inl rfl,fun q K' hq' hK=>⟨e,g1,g2,g3,g4,g5,hK⟩⟩
  ·obtain⟨n,e,g1,g2,g4,g5,g6⟩:=h
   exact⟨_,[],g6,.inl rfl,fun q K' hq' hK=>⟨n,e,g1,g2,g4,g5,hK⟩⟩
  ·cases h
 | index ty x y=>
  have h1:=e1 x (by simp[Op.operands]);have h2:=e1 y (by simp[Op.operands])
  simp only[ox,q2P] at h ⊢
  rw[h1,h2]
  split at h
  ·obtain⟨n,e,r,g1,g2,g3,g4,g5,g6⟩:=h
   exact⟨r,[],g6,.inl rfl,fun q K' hq' hK=>⟨n,e,r,g1,g2,g3,g4,g5,hK⟩⟩
  ·obtain⟨g1,g2,c,g3,g4⟩:=h
   exact⟨_,[],g4,.inl rfl,fun q K' hq' hK=>⟨g1,g2,c,g3,hK⟩⟩
  ·cases h
 | unOp op ty x=>
  have h1:=e1 x (by simp[Op.operands])
  simp only[ox,qkZ] at h ⊢
  rw[h1]
  split at h
  ·rename_i b hb;exact⟨_,[],h,.inl rfl,fun q K' hq' hK=>hK⟩
  ·rename_i k n hb;exact⟨_,[],h,.inl rfl,fun q K' hq' hK=>hK⟩
  ·cases h
 | binOp op ty x y ty'=>
  have h1:=e1 x (by simp[Op.operands]);have h2:=e1 y (by simp[Op.operands])
  simp only[ox,qaX] at h ⊢
  rw[h1,h2]
  split at h
  ·obtain⟨g1,g2⟩:=h
   cases op
   all_goals simp only[q7g] at g2 ⊢
   case quo=>exact⟨_,[],g2.2,.inl rfl,fun q K' hq' hK=>⟨g1,g2.1,hK⟩⟩
   case rem=>exact⟨_,[],g2.2,.inl rfl,fun q K' hq' hK=>⟨g1,g2.1,hK⟩⟩
   case shl=>exact⟨_,[],g2.2,.inl rfl,fun q K' hq' hK=>⟨g1,g2.1,hK⟩⟩
   case shr=>exact⟨_,[],g2.2,.inl rfl,fun q K' hq' hK=>⟨g1,g2.1,hK⟩⟩
   all_goals exact⟨_,[],g2,.inl rfl,fun q K' hq' hK=>⟨g1,hK⟩⟩
  ·cases op
   all_goals simp only[q7s] at h ⊢
   case add=>exact⟨_,[],h.2,.inl rfl,fun q K' hq' hK=>⟨h.1,hK⟩⟩
   all_goals first|exact h.elim|exact⟨_,[],h,.inl rfl,fun q K' hq' hK=>hK⟩
  ·unfold q6V at h ⊢
   cases op
   all_goals first|exact h.elim|(obtain⟨b,h1,h2⟩:=h;exact⟨_,[],h2,.inl rfl,fun q K' hq' hK=>⟨b,h1,hK⟩⟩)
  ·unfold q79 at h ⊢
   split at h
   all_goals first|exact h.elim|exact⟨_,[],h.2,.inl rfl,fun q K' hq' hK=>⟨h.1,hK⟩⟩
 | convert ty ty' x=>
  have h1:=e1 x (by simp[Op.operands])
  simp only[ox,q5K] at h ⊢
  rw[h1]
  split at h
  ·exact⟨_,[],h,.inl rfl,fun q K' hq' hK=>hK⟩
  ·exact⟨_,[],h,.inl rfl,fun q K' hq' hK=>hK⟩
  ·exact⟨_,[],h.2.2,.inl rfl,fun q K' hq' hK=>⟨h.1,h.2.1,hK⟩⟩
  ·rename_i e id sz off n g1 g2 he
   obtain⟨q1,q2,ns,q3,q4,q5⟩:=h
   exact⟨_,[],q5,.inl rfl,fun q K' hq' hK=>⟨q1,q2,ns,by rw[hblk id (by simp[qaF,he])];exact q3,q4,hK⟩⟩
  ·obtain⟨q1,q2,ns,q3,q5⟩:=h
   exact⟨_,[],q5,.inl rfl,fun q K' hq' hK=>⟨q1,q2,ns,q3,hK⟩⟩
  ·exact⟨_,[],h.2,.inl rfl,fun q K' hq' hK=>⟨h.1,hK⟩⟩
  ·cases h
 | makeFunc f first captured=>
  have h1:∀x∈first.toList,t.ev x=s.ev x:=fun x hx=>e1 x (by simp only[Op.operands];simp only[Array.toList_append,qyb];exact .inl hx)
  have h2:∀x∈captured.toList,t.ev x=s.ev x:=fun x hx=>e1 x (by simp only[Op.operands];simp only[Array.toList_append,qyb];exact .inr hx)
  simp only[ox,J2] at h ⊢
  split at h
  ·obtain⟨fs,caps,q1,q2,q3⟩:=h
   exact⟨_,[],q3,.inl rfl,fun q K' hq' hK=>⟨fs,caps,by rw[q6f _ h1];exact q1,by rw[q6f _ h2];exact q2,hK⟩⟩
  ·cases h
 | slice ty x lo hi mx=>
  have h1:=e1 x (by simp[Op.operands])
  have bd:∀(y:Option Operand) (z:Int),(∀u,y=some u→t.ev u=s.ev u)→t.bd y z=s.bd y z:=fun y z hy=>by
   cases y with
   | none=>rfl
   | some u=>simp only[S.bd,hy u rfl]
  have b1:=fun z=>bd lo z (fun u hu=>e1 u (by subst hu;simp[Op.operands]))
  have b2:=fun z=>bd hi z (fun u hu=>e1 u (by subst hu;simp[Op.operands]))
  have b3:=fun z=>bd mx z (fun u hu=>e1 u (by subst hu;simp[Op.operands]))
  cases mx with
  | some m=>
   simp only[ox,qbU,q6Z] at h ⊢
   rw[h1]
   obtain⟨e,q0,q1,q2,q3,q4,h⟩:=h
   split at h
   ·obtain⟨q5,q6,q7,q8⟩:=h
    exact⟨_,[],q8,.inl rfl,fun q K' hq' hK=>⟨e,q0,q1,q2,q3,q4,q5,by rw[b2];exact q6,by rw[b3];exact q7,hK⟩⟩
   ·obtain⟨q6,q7,q8⟩:=h
    exact⟨_,[],q8,.inl rfl,fun q K' hq' hK=>⟨e,q0,q1,q2,q3,q4,by rw[b2];exact q6,by rw[b3];exact q7,hK⟩⟩
   ·cases h
  | none=>
  simp only[ox,qbU,q3h] at h ⊢
  rw[h1]
  split at h
  ·obtain⟨q1,q2,l,r,q3,q4,q5,q6,q7,q8⟩:=h
   exact⟨_,[],q8,.inl rfl,fun q K' hq' hK=>⟨q1,q2,l,r,by rw[b1];exact q3,by rw[b2];exact q4,q5,q6,q7,hK⟩⟩
  ·obtain⟨e,q0,q1,q1',q2,l,r,q3,q4,q5,q6,q7,q8⟩:=h
   exact⟨_,[],q8,.inl rfl,fun q K' hq' hK=>⟨e,q0,q1,q1',q2,l,r,by rw[b1];exact q3,by rw[b2];exact q4,q5,q6,q7,hK⟩⟩
  ·rename_i id sz off n he
   obtain⟨e,q0,q1,q1',q2,l,r,q3,q4,q5,q6,q7,q8,q9⟩:=h
   by_cases hl:l=0∨l<n
   ·exact⟨_,[],q8 hl,.inl rfl,fun q K' hq' hK=>⟨e,q0,q1,q1',q2,l,r,by rw[b1];exact q3,by rw[b2];exact q4,q5,q6,q7,fun _=>hK,fun hn=>absurd hl hn⟩⟩
   ·exact⟨_,[],q9 hl,.inl rfl,fun q K' hq' hK=>⟨e,q0,q1,q1',q2,l,r,by rw[b1];exact q3,by rw[b2];exact q4,q5,q6,q7,fun hn=>absurd hn hl,fun _=>hK⟩⟩
  ·obtain⟨e,q0,q1,q2,q3,q4,q5⟩:=h
   exact⟨_,[],q5,.inl rfl,fun q K' hq' hK=>⟨e,q0,q1,q2,by rw[b1];exact q3,by rw[b2];exact q4,hK⟩⟩
  ·cases h
 | call c=>
  obtain⟨callee,args,ts⟩:=c
  simp only[ox,qeu] at h ⊢
  have e2:∀x∈args.toList,t.ev x=s.ev x:=fun x hx=>e1 x (by simp only[Op.operands,Call.operands];simp only[Array.toList_append,qyb];exact .inr hx)
  split at h
  ·rename_i x ty q1 q2
   have h1:=e2 x (by rw[q1];simp)
   split at h
   ·obtain⟨r,g1,g2⟩:=h
    refine⟨_,[],g2,.inl rfl,fun q K' hq' hK=>⟨r,?_,hK⟩⟩
    have:q2y t x=q2y s x:=by
     unfold q2y
     rw[h1]
     split
     ·rfl
     ·rename_i id he
      rw[hblk id (by simp only[qaF,q1,he];simp)]
     ·rfl
    unfold q3c at g1 ⊢
    rw[this];exact g1
   simp only[qa9] at h ⊢
   simp only[h1]
   split at h
   ·exact⟨_,[],h.2,.inl rfl,fun q K' hq' hK=>⟨h.1,hK⟩⟩
   ·exact⟨_,[],h.2,.inl rfl,fun q K' hq' hK=>⟨h.1,hK⟩⟩
   ·exact⟨_,[],h.2,.inl rfl,fun q K' hq' hK=>⟨h.1,hK⟩⟩
   ·exact⟨_,[],h.2,.inl rfl,fun q K' hq' hK=>⟨h.1,hK⟩⟩
   ·obtain⟨n,e,g1,g2⟩:=h
    exact⟨_,[],g2,.inl rfl,fun q K' hq' hK=>⟨n,e,g1,hK⟩⟩
   ·cases h
  ·rename_i x y q1
   have h1:=e2 x (by rw[q1];simp)
   have h2:=e2 y (by rw[q1];simp)
   simp only[qb6] at h ⊢
   simp only[h1,h2]
   split at h
   ·exact⟨_,[],h,.inl rfl,fun q K' hq' hK=>hK⟩
   ·cases h
  ·rename_i x y q1
   have h1:=e2 x (by rw[q1];simp)
   have h2:=e2 y (by rw[q1];simp)
   simp only[qay] at h ⊢
   simp only[h1,h2]
   split at h
   ·exact⟨_,[],h,.inl rfl,fun q K' hq' hK=>hK⟩
   ·cases h
  ·cases hop
  ·cases hop
  ·cases hop
  ·cases h
 | makeMap ty r=>
  simp only[ox] at h ⊢
  obtain⟨x,s',g1,g2⟩:=h
  cases r with
  | none=>
   injection g1 with g1
   injection g1 with g3 g4
   subst g3 g4
   exact⟨_,_,g2,.inr ⟨rfl,_,rfl⟩,fun q K' hq' hK=>by obtain rfl:=hq'.resolve_left (by simp);exact⟨_,_,rfl,hK⟩⟩
  | some y=>
   have h1:=e1 y (by simp[Op.operands])
   simp only[q0g] at g1
   split at g1
   ·rename_i q1 q2
    injection g1 with g1
    injection g1 with g3 g4
    subst g3 g4
    exact⟨_,_,g2,.inr ⟨rfl,_,rfl⟩,fun q K' hq' hK=>by obtain rfl:=hq'.resolve_left (by simp);exact⟨_,_,by simp only[q0g,q1,h1,q2],hK⟩⟩
   ·cases g1
 | lookup ty x y ok=>
  have h1:=e1 x (by simp[Op.operands]);have h2:=e1 y (by simp[Op.operands])
  simp only[ox] at h ⊢
  obtain⟨r,g1,g2⟩:=h
  refine⟨_,[],g2,.inl rfl,fun q K' hq' hK=>⟨r,?_,hK⟩⟩
  have:q2y t x=q2y s x:=by
   unfold q2y
   rw[h1]
   split
   ·rfl
   ·rename_i id he
    rw[hblk id (by simp only[qaF,he];simp)]
   ·rfl
  unfold q0d at g1 ⊢
  rw[this,h2];exact g1
 | range ty x=>
  have h1:=e1 x (by simp[Op.operands])
  simp only[ox] at h ⊢
  obtain⟨r,s',g1,g2⟩:=h
  unfold q3i at g1
  split at g1
  ·rename_i q1 q2
   injection g1 with g1
   injection g1 with g3 g4
   subst g3 g4
   exact⟨_,_,g2,.inr ⟨rfl,_,rfl⟩,fun q K' hq' hK=>by obtain rfl:=hq'.resolve_left (by simp);exact⟨_,_,by simp only[q3i,q1,h1,q2],hK⟩⟩
  ·rename_i q1 q2
   injection g1 with g1
   injection g1 with g3 g4
   subst g3 g4
   exact⟨_,_,g2,.inr ⟨rfl,_,rfl⟩,fun q K' hq' hK=>by obtain rfl:=hq'.resolve_left (by simp);exact⟨_,_,by simp only[q3i,q1,h1,q2],hK⟩⟩
  ·rename_i id q1 q2
   split at g1
   ·rename_i es ck q3
    injection g1 with g1
    injection g1 with g3 g4
    subst g3 g4
    have q4:=hblk id (by simp only[qaF,q2];simp)
    exact⟨_,_,g2,.inr ⟨rfl,_,rfl⟩,fun q K' hq' hK=>by obtain rfl:=hq'.resolve_left (by simp);exact⟨_,_,by simp only[q3i,q1,h1,q2,q4,q3],hK⟩⟩
   ·cases g1
  ·cases g1
 | _=>cases hop
end
structure Fp where
 rb:List Nat
 wb:List Nat
 X:List Nat
 ks:List Nat
 nw:List Nat
def C.lt0 (n:Nat):C→Bool
 | .ptr i _=>decide (i<n)
 | .hd _ i=>decide (i<n)
 | .own i _ _ _=>decide (i<n)
 | _=>true
def C.ltn (n:Nat):C→Bool
 | .fn _ fs caps=>fs.all (C.lt0 n)&&caps.all (C.lt0 n)
 | c=>c.lt0 n
def R.lt0 (n:Nat):R→Bool
 | .c x=>x.ltn n
 | .agg xs=>xs.all (C.ltn n)
 | _=>true
def R.ltn (n:Nat):R→Bool
 | .tup rs=>rs.all (R.lt0 n)
 | r=>r.lt0 n
def B.ltn (n:Nat):B→Bool
 | .blk _ cs=>cs.all (C.ltn n)
 | .row _ _ cs=>cs.all (C.ltn n)
 | .ob o=>o.Rs.all (R.lt0 n)
 | .dead=>true
def C.farF (X:List Nat):C→Bool
 | .fn _ fs caps=>(fs++caps).all (C.farL X)
 | x=>x.farL X
def R.farL (X:List Nat):R→Bool
 | .c x=>x.farF X
 | .agg xs=>xs.all (C.farF X)
 | .tup rs=>rs.isEmpty
 | .any=>true
def B.farL (X:List Nat):B→Bool
 | .blk _ cs=>cs.all (C.farF X)
 | .row _ _ cs=>cs.all (C.farF X)
 | .ob o=>o.Rs.all (R.farL X)
 | .dead=>true
def q3n (s:S) (X:List Nat):List Nat:=match X with | []=>[]|X=>((s.tm.map (·.1)).eraseDups).filter fun d => !(s.get d).farL X
def qga (s:S) (id:Nat):List Nat:=((s.hp.map (·.1)).eraseDups).filter fun i => !(i==id) && !(s.blk i).farL [id]
def R.isA:R→Bool
 | .any=>true
 | _=>false
def quq (s:S):List Nat:=((s.tm.map (·.1)).eraseDups).filter fun d=>(s.get d).isA
def fpA (s:S) (id:Nat) (y:Operand):Fp:=⟨(s.ev y).rows,id::qga s id,[id],q3n s [id]++quq s,[]⟩
def qaz (s:S):List Operand→Option Fp
 | [x,y]=>match s.ev x with
  | .c (.own id _ _ _)=>some (fpA s id y)
  | .c .nils=>some (fpA s s.nx y)
  | .c (.clp _ _ _)=>some (fpA s s.nx y)
  | _=>none
 | _=>none
def S.kill (s:S) (ks:List Nat):S:={ s with tm:=ks.map (fun d=>(d,R.any))++s.tm }
mutual
def D.beq:D→D→Bool
 | .int k a,.int k' b=>decide (k=k')&&decide (a=b)
 | .bool a,.bool b=>a==b
 | .str a,.str b=>decide (a.data=b.data)
 | .sl z n cs,.sl z' n' cs'=>decide (z=z')&&decide (n=n')&&D.beqL cs cs'
 | _,_=>false
def D.beqL:List D→List D→Bool
 | [],[]=>true
 | x::l,y::r=>D.beq x y&&D.beqL l r
 | _,_=>false
end
mutual
theorem D.beq_eq:∀{a b:D},D.beq a b=true→a=b
 | .int k a,.int k' b,h=>by simp only[D.beq,qyd,qyG] at h;rw[h.1,h.2]
 | .bool a,.bool b,h=>by simp only[D.beq,beq_iff_eq] at h;rw[h]
 | .str ⟨a⟩,.str ⟨b⟩,h=>by simp only[D.beq,qyG] at h;rw[h]
 | .sl z n cs,.sl z' n' cs',h=>by simp only[D.beq,qyd,qyG] at h;rw[h.1.1,h.1.2,D.beqL_eq h.2]
 | .int _ _,.bool _,h | .int _ _,.str _,h | .int _ _,.sl _ _ _,h | .bool _,.int _ _,h | .bool _,.str _,h | .bool _,.sl _ _ _,h | .str _,.int _ _,h | .str _,.bool _,h | .str _,.sl _ _ _,h | .sl _ _ _,.int _ _,h | .sl _ _ _,.bool _,h | .sl _ _ _,.str _,h=>by simp[D.beq] at h
theorem D.beqL_eq:∀{a b:List D},D.beqL a b=true→a=b
 | [],[],_=>rfl
 | x::l,y::r,h=>by simp only[D.beqL,qyd] at h;rw[D.beq_eq h.1,D.beqL_eq h.2]
 | [],_::_,h|_::_,[],h=>by simp[D.beqL] at h
end
def C.beq0:C→C→Bool
 | .d x,.d y=>D.beq x y
 | .ptr i o,.ptr i' o'=>decide (i=i')&&decide (o=o')
 | .hd k i,.hd k' i'=>decide (k=k')&&decide (i=i')
 | .own i sz o n,.own i' sz' o' n'=>decide (i=i')&&decide (sz=sz')&&decide (o=o')&&decide (n=n')
 | .nilp,.nilp | .nilf,.nilf | .nilm,.nilm | .nils,.nils | .any,.any=>true
 | _,_=>false
def C.beqL:List C→List C→Bool
 | [],[]=>true
 | x::l,y::r=>C.beq0 x y&&C.beqL l r
 | _,_=>false
theorem C.beq0_eq {a b:C} (h:C.beq0 a b=true):a=b:=by
 unfold C.beq0 at h
 split at h
 ·rw[D.beq_eq h]
 ·simp only[qyd,qyG] at h;rw[h.1,h.2]
 ·simp only[qyd,qyG] at h;rw[h.1,h.2]
 ·simp only[qyd,qyG] at h;rw[h.1.1.1,h.1.1.2,h.1.2,h.2]
 ·rfl
 ·rfl
 ·rfl
 ·rfl
 ·rfl
 ·cases h
theorem C.beqL_eq:∀{a b:List C},C.beqL a b=true→a=b
 | [],[],_=>rfl
 | x::l,y::r,h=>by simp only[C.beqL,qyd] at h;rw[C.beq0_eq h.1,C.beqL_eq h.2]
 | [],_::_,h|_::_,[],h=>by simp[C.beqL] at h
def B.beq:B→B→Bool
 | .blk t cs,.blk t' cs'=>decide (t=t')&&C.beqL cs cs'
 | .row e sz cs,.row e' sz' cs'=>decide (e=e')&&decide (sz=sz')&&C.beqL cs cs'
 | .dead,.dead=>true
 | _,_=>false
theorem B.beq_eq {a b:B} (h:B.beq a b=true):a=b:=by
 unfold B.beq at h
 split at h
 ·simp only[qyd,qyG] at h;rw[h.1,C.beqL_eq h.2]
 ·simp only[qyd,qyG] at h;rw[h.1.1,h.1.2,C.beqL_eq h.2]
 ·rfl
 ·cases h
def wbC (s s1:S) (bl rw:List Nat):List Nat:=match rw with | []=>bl.filter fun i => !B.beq (s1.blk i) (s.blk i)|rw=>bl++rw
def q3e (n m:Nat):List Nat:=(List.range (m-n)).map (n+·)
def qqz (s s1:S) (r:R) (bl rw ln:List Nat):Option Fp:=
 if s1.nx=s.nx∧(bl++rw).all (fun i=>(s1.blk i).ltn s.nx)=true∧r.ltn s.nx=true then some ⟨bl++rw++ln,wbC s s1 bl rw,rw,q3n s rw,[]⟩ else some ⟨bl++rw++ln,wbC s s1 bl rw++q3e s.nx s1.nx,rw,q3n s rw,[s.nx]⟩
def qp7 (s s1:S) (r:R) (rs:List R) (l:List Nat):Option Fp:=qqz s s1 r (q8u s l) (q0G s l) (((rs.flatMap R.rows).eraseDups).filter fun i => !l.contains i)
def qlc (s s1:S) (r:R) (ow:List Nat) (rs:List R):Option Fp:=qp7 s s1 r rs (q06 s 60 (rs.flatMap R.ptrs++qrm ow rs) [])
def fpC (po:Pol) (s s1:S) (r:R) (f:Operand) (args:List Operand):Option Fp:=
 match s.ev f with
 | .c (.fn g fs caps)=>qlc s s1 r (po.ow g) (fs.map R.c++args.map s.ev++caps.map R.c)
 | _=>none
def qeK (po:Pol) (s s1:S) (r:R) (op:Op):Option Fp:=
 if q0a op=true then some ⟨qaF s op,if q4u op=true then[s.nx] else[],[],[],[]⟩ else
 match op with
 | .store _ x _=>match s.ev x with | .c (.ptr id _)=>some ⟨[],[id],[],[],[]⟩|_=>none
 | .makeSlice _ _ _=>some ⟨[],[s.nx],[],[],[]⟩
 | .call { callee := .builtin .append,args,.. }=>qaz s args.toList
 | .call { callee := .value f,args,.. }=>fpC po s s1 r f args.toList
 | _=>none
abbrev Tx:=(R×List (Nat×B))×Fp
def alC (po:Pol) (s:S):Op→Option (FuncId×List R)
 | .call { callee := .value f,args,.. }=>match s.ev f with
  | .c (.fn g [] [])=>if po.ro g=true∧(args.toList.map s.ev).all R.dat=true then some (g,args.toList.map s.ev) else none
  | _=>none
 | _=>none
def qlR (q:R×List (Nat×B)):Option (Nat×Nat×Nat×List C):=match q with
 | (.c (.own 0 z 0 n),[(0,.row e z' cs)])=>if z'=z∧cs.all C.dat=true then some (z,n,e,cs) else none
 | _=>none
def qpZ (s:S) (o:Oper) (q:Option (Nat×Nat×Nat×List C)):Option (S×Tx):=
 q.bind fun q=>if q3W s o.dst=true then some ((s.up [(s.nx,.row q.2.2.1 q.1 q.2.2.2)]).put o.dst (.c (.own s.nx q.1 0 q.2.1)),(.c (.own s.nx q.1 0 q.2.1),[(s.nx,.row q.2.2.1 q.1 q.2.2.2)]),⟨[],[s.nx],[],[],[]⟩) else none
def qu1 (E:Orc) (s:S) (o:Oper) (g:FuncId) (args:List R):Option (S×Tx):=qpZ s o ((E (.fn g) 0 args []).bind qlR)
def alX (E:Orc) (s:S) (o:Oper) (x:Option (FuncId×List R)) (y:Option (S×Tx)):Option (S×Tx):=match x with
 | some q=>qu1 E s o q.1 q.2
 | none=>y
def xsF (P:Program) (T:Ty) (po:Pol) (E:Orc) (o:Oper) (act:Bool) (s:S):Option (S×Tx):=
 if act=true then alX E s o (alC po s o.op) <| (xo P T po E s o.op).bind fun q=>if q3W q.2 o.dst=true then(qeK po s q.2 q.1 o.op).bind fun fp=>some ((q.2.kill fp.ks).put o.dst q.1,(q.1,fp.wb.map fun x=>(x,q.2.blk x)),fp) else none
 else if q3W s o.dst=true then some (s.put o.dst (.tup []),(.tup [],[]),⟨[],[],[],[],[]⟩) else none
def xgF (P:Program) (T:Ty) (po:Pol) (E:Orc) (ops:List Oper) (o:Oper) (s:S):Option (S×Tx):=
 match o.guard with
 | none=>xsF P T po E o true s
 | some (j,want)=>match (ops[j]?).bind (·.dst) with
  | some d=>match s.get d with
   | .c (.d (.bool b))=>if b=true then xsF P T po E o want (s.put (some d) tt) else xsF P T po E o (!want) (s.put (some d) ff)
   | .tup []=>xsF P T po E o false s
   | _=>none
  | none=>none
def q0B (a b:Fp):Bool:=a.wb.any (fun x=>b.rb.contains x||b.wb.contains x)||a.rb.any (fun x=>b.wb.contains x)
def Fp.none? (a:Fp):Bool:=a.rb.isEmpty&&a.wb.isEmpty
def okP (A:List (List Nat)):Nat→List (Nat×Fp)→List Tx→Bool
 | _,_,[]=>true
 | j,prev,x::l=>prev.all (fun q=>if q0B q.2 x.2=true then(A.getD j []).contains q.1 else true)&&okP A (j+1) (if x.2.none?=true then prev else(j,x.2)::prev) l
def qcY (ops:List Oper) (fp:Fp) (i:Nat) (x:Tx):Bool:=(x.1.1.farL fp.X||(match q2s ops i with|some d=>fp.ks.contains d|none=>true))&&x.1.2.all fun u=>fp.wb.contains u.1||u.2.farL fp.X
def qpb (fp:Fp) (s:S):Bool:=s.tm.all (fun x=>fp.ks.contains x.1||x.2.farL fp.X)&&s.hp.all fun u=>fp.wb.contains u.1||u.2.farL fp.X
def qkq (ops:List Oper) (A:List (List Nat)) (fp:Fp) (j:Nat):Nat→List Tx→Bool
 | _,[]=>true
 | i,x::l=>(i==j||(A.getD i []).contains j||qcY ops fp i x)&&qkq ops A fp j (i+1) l
def okX (ops:List Oper) (A:List (List Nat)) (s0:S) (l:List Tx):Nat→List Tx→Bool
 | _,[]=>true
 | j,x::r=>(if x.2.X.isEmpty=true then true else qpb x.2 s0&&qkq ops A x.2 j 0 l)&&okX ops A s0 l (j+1) r
def qea (ops:List Oper) (i:Nat):List Nat:=match ops[i]? with|some o=>q0r ops o++o.dst.toList|none=>[]
def q2m (ops:List Oper) (i j:Nat) (x y:Tx):Bool:=x.2.ks.any (fun d=>(qea ops j).contains d||y.2.ks.contains d)||y.2.ks.any fun d=>(qea ops i).contains d
def qkG (ops:List Oper) (A:List (List Nat)) (j:Nat) (y:Tx):Nat→List Tx→Bool
 | _,[]=>true
 | i,x::l=>(!decide (i<j) || !q2m ops i j x y||(A.getD j []).contains i)&&qkG ops A j y (i+1) l
def qkV (ops:List Oper) (A:List (List Nat)) (l:List Tx):Nat→List Tx→Bool
 | _,[]=>true
 | j,y::r=>qkG ops A j y 0 l&&qkV ops A l (j+1) r
def okK (ops:List Oper) (A:List (List Nat)) (l:List Tx):Bool:=l.all (fun x=>x.2.ks.isEmpty)||qkV ops A l 0 l
def qlY (lim i:Nat):Nat→List Tx→Bool
 | _,[]=>true
 | j,x::l=>(i==j||x.1.2.all fun u=>Nat.blt u.1 lim)&&qlY lim i (j+1) l
def okN (l:List Tx):Nat→List Tx→Bool
 | _,[]=>true
 | j,x::r=>(match x.2.nw with | []=>true|n::_=>qlY n j 0 l)&&okN l (j+1) r
def xdp (P:Program) (T:Ty) (po:Pol) (E:Orc) (ops:List Oper) (A:List (List Nat)) (s0:S):Nat→List Oper→S→List Tx→Option S
 | 0,l,s,acc=>if okP A 0 [] acc=true∧okX ops A s0 acc 0 acc=true∧okK ops A acc=true∧okN acc 0 acc=true then xr P T po E ops l s else none
 | m+1,o::l,s,acc=>(xgF P T po E ops o s).bind fun q=>xdp P T po E ops A s0 m l q.1 (acc++[q.2])
 | _+1,[],_,_=>none
def qkY:List (Nat×R)→Bool
 | []=>true
 | x::l=>if x.2.isA=true then qkY l else false
def q1z:List (Nat×R)→List (Nat×R)
 | []=>[]
 | x::l=>if x.2.isA=true then(if qkY l=true then[] else x::q1z l) else x::q1z l
def S.strip (s:S):S:=⟨q1z s.tm,s.hp,s.nx,s.n⟩
def d1b (P:Program) (T:Ty) (po:Pol) (E:Orc) (f id:Nat) (ops:List Oper) (o:Option S):Option S:=o.bind fun s=>xdp P T po E ops (po.an f id) s.strip (po.dm f id) ops s.strip []
def D1 (P:Program) (T:Ty) (po:Pol):DRs:=fun E f _ id ops s=>d1b P T po E f id ops (s.tkD T po ops)
section
variable {P:Program} {T:Ty} {po:Pol} {E:Orc} {f id:Nat} {ops:List Oper} {s:S} {c:Prop} [Decidable c] {α:Type}
theorem qfj:d1b P T po E f id ops (some s)=xdp P T po E ops (po.an f id) s.strip (po.dm f id) ops s.strip []:=rfl
theorem qfn (o:Option α) (g:α→Option S):d1b P T po E f id ops (o.bind g)=o.bind fun a=>d1b P T po E f id ops (g a):=by cases o<;>rfl
end
end
noncomputable section
open Go.RowKit
def qeQ (fp:Fp) (t:S):Prop:=fp.X=[]∨((∀d,d ∉ fp.ks→(t.get d).fgL fp.X=t.get d)∧∀x,x ∉ fp.wb→(t.blk x).fgL fp.X=t.blk x)
def Loc (P:Program) (o:Oper) (s:S) (r:R) (us:List (Nat×B)) (fp:Fp):Prop:=
 ∀(cx:Cx) (ρ:Pl) (t:S) (a:Act) (w:World) (next:Act→World→Prop) (Q:Exit→Act→World→Prop),(∀y∈o.op.operands.toList,t.ev y=s.ev y)→(∀x,x∈fp.rb∨x∈fp.wb→t.blk x=s.blk x)→qeQ fp t→(fp.nw≠[]→∀x,t.live x→x<s.nx)→Sim cx ρ t a w→
  (∀ρ' t' v w',(∀d,d ∉ fp.ks→t'.get d=t.get d)→(∀x,t'.blk x=lk us x (t.blk x))→t'.n=t.n→Sim cx ρ' t' a w'→RR w' t'.live ρ' v r→next (a.put o.dst v) w')→o.wpIn (FW cx.ro) 0 P a w next Q
theorem quL {X:List Nat} {x:C} (h:x.farF X=true):x.fgL X=x:=by
 cases x with
 | ptr i o=>simp only[C.farF,C.farL,Bool.not_eq_true'] at h;simp only[C.fgL,h];rfl
 | hd k i=>simp only[C.farF,C.farL,Bool.not_eq_true'] at h;simp only[C.fgL,h];rfl
 | own i sz o n=>simp only[C.farF,C.farL,Bool.not_eq_true'] at h;simp only[C.fgL,h];rfl
 | fn f fs caps=>simp only[C.farF] at h;simp only[C.fgL,h,if_true]
 | _=>rfl
theorem qiN {X:List Nat} {xs:List C} (h:xs.all (C.farF X)=true):xs.map (C.fgL X)=xs:=by
 induction xs with
 | nil=>rfl
 | cons x xs ih=>
  simp only[List.all_cons,qyd] at h
  rw[qy4,quL h.1,ih h.2]
theorem qsc {X:List Nat} {r:R} (h:r.farL X=true):r.fgL X=r:=by
 cases r with
 | c x=>simp only[R.farL] at h;simp only[R.fgL];rw[quL h]
 | agg xs=>simp only[R.farL] at h;simp only[R.fgL];rw[qiN h]
 | tup rs=>
  simp only[R.farL] at h
  simp only[R.fgL,h,if_true]
  rw[List.isEmpty_iff] at h
  rw[h]
 | any=>rfl
theorem qv4 {X:List Nat} {b:B} (h:b.farL X=true):b.fgL X=b:=by
 cases b with
 | blk t cs=>simp only[B.farL] at h;simp only[B.fgL];rw[qiN h]
 | row e sz cs=>simp only[B.farL] at h;simp only[B.fgL];rw[qiN h]
 | ob o=>
  simp only[B.farL] at h
  simp only[B.fgL]
  rw[AO.mapR_congr (f:=fun x=>x) fun x hx=>qsc (qxY.1 h x hx),AO.mapR_id]
 | dead=>rfl
section
variable {P:Program} {T:Ty} {po:Pol} {E:Orc} {s s1:S} {r:R} {o:Oper}
theorem qh6 {α:Type} (i x:Nat) (b z:α):lk [(i,b)] x z=if i=x then b else z:=rfl
theorem qeL {s:S} {op:Op} (h:q0a op=true):isY s op=false:=by
 unfold isY
 split
 ·cases h
 ·rfl
theorem qik (hA:Ag P T) (hE:Snd P E) (hop:q0a o.op=true) (h:xo P T po E s o.op=some (r,s1)) (hnx:s.blk s.nx = .dead) {X:List Nat} :
  Loc P o s r ((if q4u o.op=true then[s.nx] else[]).map fun x=>(x,s1.blk x)) ⟨qaF s o.op,if q4u o.op=true then[s.nx] else[],X,[],[]⟩:=by
 intro cx ρ t a w next Q hev hblk _ _ hs hn
 have hox:=qiH hE (K:=fun r' s''=>r'=r∧s''=s1) (qeL hop) h ⟨rfl,rfl⟩
 obtain⟨r',us',⟨rfl,h2⟩,h3,h4⟩:=qbu (t:=t) hop hev (fun id hid=>hblk id (.inl hid)) hox
 have fin:∀q,¬ t.live q→(us'=[]∨q=s.nx)→o.wpIn (FW cx.ro) 0 P a w next Q:=by
  intro q hq hq2
  refine q4Y hA hq hs (h4 q (fun r'' s''=>r''=r'∧s''=t.up us') hq2 ⟨rfl,rfl⟩) ?_
  rintro r'' s'' ρ' v w' ⟨rfl,rfl⟩ g1 g2
  refine hn ρ' (t.up us') v w' (fun d _=>rfl) (fun x=>?_) rfl g1 g2
  rcases h3 with rfl|⟨ha,b,rfl⟩
  ·have:s1=s:=h2.symm
   subst this
   split
   ·rename_i ha
    show t.blk x=lk [(s1.nx,s1.blk s1.nx)] x (t.blk x)
    rw[qh6]
    split
    ·rename_i hx;subst hx;exact hblk _ (.inr (by rw[if_pos ha];exact qxW))
    ·rfl
   ·rfl
  ·rw[if_pos ha,S.blk_up]
   show _=lk [(s.nx,s1.blk s.nx)] x (t.blk x)
   rw[qh6,←h2,S.blk_up,if_pos rfl]
 by_cases hu:us'=[]
 ·exact fin t.nx (fun h=>by have:=hs.nx _ h;omega) (.inl hu)
 ·obtain⟨ha,-⟩:=h3.resolve_left hu
  refine fin s.nx (fun h=>?_) (.inr rfl)
  unfold S.live at h
  rw[hblk s.nx (.inr (by simp[ha])),hnx] at h
  cases h
theorem qgH (hA:Ag P T) {ty:TypeId} {x y:Operand} {id off:Nat} (ho:o.op = .store ty x y) (hx:s.ev x = .c (.ptr id off)) (h:q0l T s ty x y=some (r,s1)) {X:List Nat}:Loc P o s r ([id].map fun x=>(x,s1.blk x)) ⟨[],[id],X,[],[]⟩:=by
 intro cx ρ t a w next Q hev hblk _ _ hs hn
 have e1:=hev x (by rw[ho];simp[Op.operands])
 have e2:=hev y (by rw[ho];simp[Op.operands])
 have hb:=hblk id (.inr qxW)
 have hl:s.live id:=by
  unfold q0l at h
  rw[hx] at h
  simp only at h
  split at h
  ·rename_i ys hys
   split at h
   ·rename_i hc
    have hq:=hs.ev x
    rw[e1,hx] at hq
    obtain⟨b,cap,q1,-,-⟩:=hq.inv_ptr
    unfold S.live at q1 ⊢
    rw[hb] at q1
    exact q1
   ·cases h
  ·cases h
 have ht:q0l T t ty x y=some (r,t.up [(id,s1.blk id)]):=by
  unfold q0l at h ⊢
  rw[e1,e2,hx] at *
  simp only at h ⊢
  rw[hb]
  split at h
  ·split at h
   ·rename_i hc
    obtain⟨rfl,rfl⟩:=zu h
    rw[if_pos hc,S.blk_up,if_pos rfl]
   ·cases h
  ·cases h
 have hox:ox P T t t.nx o.op (fun r' s''=>r'=r∧s''=t.up [(id,s1.blk id)]):=by
  rw[ho]
  simp only[ox]
  exact q6M (K:=fun r' s''=>r'=r∧s''=t.up [(id,s1.blk id)]) ht ⟨rfl,rfl⟩
 refine q4Y hA (fun h=>by have:=hs.nx _ h;omega) hs hox ?_
 rintro r'' s'' ρ' v w' ⟨rfl,rfl⟩ g1 g2
 exact hn ρ' (t.up [(id,s1.blk id)]) v w' (fun d _=>rfl) (fun x=>S.blk_up t id x _) rfl g1 g2
theorem qhT (hA:Ag P T) {ty:TypeId} {x y:Operand} (ho:o.op = .makeSlice ty x y) (h:q8x T s ty x y=some (r,s1)) (hnx:s.blk s.nx = .dead) {X:List Nat}:Loc P o s r ([s.nx].map fun x=>(x,s1.blk x)) ⟨[],[s.nx],X,[],[]⟩:=by
 intro cx ρ t a w next Q hev hblk _ _ hs hn
 have e1:=hev x (by rw[ho];simp[Op.operands])
 have e2:=hev y (by rw[ho];simp[Op.operands])
 have hb:=hblk s.nx (.inr qxW)
 have hl:¬ t.live s.nx:=fun h=>by unfold S.live at h;rw[hb,hnx] at h;cases h
 have hk:=q9Q (K:=fun r' s''=>r'=r∧s''=s1) h ⟨rfl,rfl⟩
 have hox:ox P T t s.nx o.op (fun r' s''=>r'=r∧s''=t.up [(s.nx,s1.blk s.nx)]):=by
  rw[ho]
  simp only[ox]
  unfold q5v at hk ⊢
  rw[e1,e2]
  split at hk
  ·obtain⟨e,q1,q2,q3,q4,q5,q6,q7,q8,rfl,rfl⟩:=hk
   exact⟨e,q1,q2,q3,q4,q5,q6,q7,q8,rfl,by rw[S.blk_up,if_pos rfl]⟩
  ·cases hk
 refine q4Y hA hl hs hox ?_
 rintro r'' s'' ρ' v w' ⟨rfl,rfl⟩ g1 g2
 exact hn ρ' (t.up [(s.nx,s1.blk s.nx)]) v w' (fun d _=>rfl) (fun x=>S.blk_up t s.nx x _) rfl g1 g2
theorem q2G {α:Type} (f:Nat→α):∀(l:List Nat) (x:Nat) (z:α),lk (l.map fun i=>(i,f i)) x z=if x∈l then f x else z
 | [],_,_=>by simp[lk]
 | i::l,x,z=>by
  simp only[qy4,lk,q2G f l x z,qy3]
  by_cases hx:i=x
  ·subst hx;simp
  ·rw[if_neg hx]
   by_cases h2:x∈l
   ·rw[if_pos h2,if_pos (.inr h2)]
   ·rw[if_neg h2,if_neg (by rintro(h|h);exact hx h.symm;exact h2 h)]
theorem qsG {id:Nat} {x:C}:x.fgL [id]=x.fg id:=by
 have e0:∀i:Nat,[id].contains i=decide (i=id):=fun i=>by simp
 have e1:∀x:C,x.farL [id]=x.far id:=fun x=>by
  cases x with
  | ptr i o=>simp only[C.farL,C.far,e0];by_cases h:i=id<;>simp[h]
  | hd k i=>simp only[C.farL,C.far,e0];by_cases h:i=id<;>simp[h]
  | own i sz o n=>simp only[C.farL,C.far,e0];by_cases h:i=id<;>simp[h]
  | _=>rfl
 cases x with
 | ptr i o=>simp only[C.fgL,C.fg,e0,qyG]
 | hd k i=>simp only[C.fgL,C.fg,e0,qyG]
 | own i sz o n=>simp only[C.fgL,C.fg,e0,qyG]
 | fn f fs caps=>simp only[C.fgL,C.fg,funext e1]
 | _=>rfl
theorem qto {id:Nat} {x:R}:x.fgL [id]=x.fg id:=by
 cases x with
 | c x=>simp only[R.fgL,R.fg,qsG]
 | agg xs=>simp only[R.fgL,R.fg];congr 1;exact List.map_congr_left fun x _=>qsG
 | _=>rfl
theorem quT {id:Nat} {x:B}:x.fgL [id]=x.fg id:=by
 have e:C.fgL [id]=C.fg id:=funext fun _=>qsG
 have e2:R.fgL [id]=R.fg id:=funext fun _=>qto
 cases x with
 | blk t cs=>simp only[B.fgL,B.fg,e]
 | row a sz cs=>simp only[B.fgL,B.fg,e]
 | ob o=>simp only[B.fgL,B.fg,e2]
 | dead=>rfl
theorem qdb {t:S} {y:Operand} (h1:t.ev y=s.ev y) (h2:∀i∈(s.ev y).rows,t.blk i=s.blk i):t.seq y=s.seq y:=by
 unfold S.seq
 rw[h1]
 cases he:s.ev y with
 | c x=>
  cases x with
  | own id sz off n=>simp only;rw[h2 id (by rw[he];simp[R.rows,C.rows,C.rows0])]
  | d x=>cases x<;>rfl
  | _=>rfl
 | _=>rfl
theorem qlo (hA:Ag P T) {x y:Operand} {t1 t2:TypeId} {fp:Fp} (ho:o.op = .call { callee := .builtin .append,args:=#[x,y],argTypes:=#[t1,t2] }) (he:t2=t1) (h:q1F T s t1 x y=some (r,s1)) (hf:qaz s [x,y]=some fp) (hnx:s.blk s.nx = .dead) :
  Loc P o s r (fp.wb.map fun x=>(x,s1.blk x)) fp:=by
 intro cx ρ t a w next Q hev hblk hfar hltn hs hn
 have e1:=hev x (by rw[ho];simp[Op.operands,Call.operands])
 have e2:=hev y (by rw[ho];simp[Op.operands,Call.operands])
 have main:∀(id:Nat) (row:B) (p:Nat),fp=fpA s id y→(∀K:KK,K r ((t.fg id).up [(id,row)])→q2e T t p t1 x y K)→¬ t.live p→s1=(s.fg id).up [(id,row)]→o.wpIn (FW cx.ro) 0 P a w next Q:=by
  intro id row p hfp hk hp hs1
  subst hfp
  have hox:ox P T t p o.op (fun r' s''=>r'=r∧s''=(t.fg id).up [(id,row)]):=by
   rw[ho]
   simp only[ox,qeu]
   exact⟨he,hk _ ⟨rfl,rfl⟩⟩
  refine q4Y hA hp hs hox ?_
  rintro r'' s'' ρ' v w' ⟨rfl,rfl⟩ g1 g2
  have hX:(fpA s id y).X=[id]:=rfl
  have hfar':=hfar.resolve_left (by rw[hX];simp)
  rw[hX] at hfar'
  refine hn ρ' ((t.fg id).up [(id,row)]) v w' (fun d hd=>?_) (fun i=>?_) rfl g1 g2
  ·show(t.fg id).get d=t.get d
   rw[S.get_fg,←qto];exact hfar'.1 d hd
  ·show _=lk ((id::qga s id).map fun x=>(x,s1.blk x)) i (t.blk i)
   have L1:((t.fg id).up [(id,row)]).blk i=if id=i then row else(t.blk i).fg id:=by rw[S.blk_up,S.blk_fg]
   have R1:s1.blk i=if id=i then row else(s.blk i).fg id:=by rw[hs1,S.blk_up,S.blk_fg]
   rw[q2G (fun x=>s1.blk x),L1,R1]
   by_cases hi:i∈id::qga s id
   ·rw[if_pos hi,hblk i (.inr hi)]
   ·have hii:id≠i:=fun h=>hi (h ▸ qxW)
    rw[if_neg hi,if_neg hii,←quT]
    exact hfar'.2 i hi
 have hseq:∀id,fp=fpA s id y→t.seq y=s.seq y:=fun id hfp=>qdb e2 fun i hi=>hblk i (.inl (by rw[hfp];exact hi))
 have hk:=q3f (K:=fun r' s''=>r'=r∧s''=s1) h ⟨rfl,rfl⟩
 obtain⟨e,m,ys,q1,q2,q3,q4,q5,q6,q7,q8⟩:=hk
 simp only[qaz] at hf
 split at hf
 ·rename_i id sz off n hx
  injection hf with hf
  rw[hx] at q8
  simp only at q8
  obtain⟨p1,p2,cs0,cs,p3,p0,p4,p5,p6,p7,p8,p9,p10⟩:=q8
  refine main id (.row e sz (cs++ys)) t.nx hf.symm (fun K hK=>?_) (fun h=>by have:=hs.nx _ h;omega) p10.symm
  refine⟨e,m,ys,q1,q2,q3,q4,(hseq id hf.symm).trans q5,q6,q7,?_⟩
  rw[e1,hx]
  simp only
  refine⟨p1,p2,cs0,cs,(hblk id (.inr (by rw[←hf];exact qxW))).trans p3,p0,p4,p5,p6,p7,p8,?_⟩
  rw[p9];exact hK
 ·rename_i hx
  injection hf with hf
  rw[hx] at q8
  simp only at q8
  obtain⟨p1,p2,p3,p4,p5⟩:=q8
  refine main s.nx (.row e (T.sz e) ys) s.nx hf.symm (fun K hK=>?_) (fun h=>?_) p5.symm
  ·refine⟨e,m,ys,q1,q2,q3,q4,(hseq _ hf.symm).trans q5,q6,q7,?_⟩
   rw[e1,hx]
   simp only
   refine⟨p1,p2,p3,?_⟩
   rw[p4];exact hK
  ·unfold S.live at h
   rw[hblk s.nx (.inr (by rw[←hf];exact qxW)),hnx] at h
   cases h
 ·rename_i sz n cs hx
  injection hf with hf
  rw[hx] at q8
  simp only at q8
  obtain⟨p1,p2,p3,p4,p5,p6,p7,p8⟩:=q8
  refine main s.nx (.row e (T.sz e) (cs.map C.d++ys)) s.nx hf.symm (fun K hK=>?_) (fun h=>?_) p8.symm
  ·refine⟨e,m,ys,q1,q2,q3,q4,(hseq _ hf.symm).trans q5,q6,q7,?_⟩
   rw[e1,hx]
   simp only
   refine⟨p1,p2,p3,p4,p5,p6,?_⟩
   rw[p7];exact hK
  ·unfold S.live at h
   rw[hblk s.nx (.inr (by rw[←hf];exact qxW)),hnx] at h
   cases h
 ·cases hf
theorem q71 {t:S} {sel ln:List Nat} (h:∀i∈ln,t.blk i=s.blk i) (z:Nat) (x:C):cv0 t sel ln z x=cv0 s sel ln z x:=by
 cases x with
 | own i sz o n=>
  simp only[cv0]
  cases pos i sel with
  | some j=>rfl
  | none=>
   simp only
   split
   ·rename_i hc;rw[h i (by simpa using hc)]
   ·rfl
 | _=>rfl
theorem q5y {t:S} {sel ln:List Nat} (h:∀i∈ln,t.blk i=s.blk i):∀(xs:List C),qeP t sel ln xs=qeP s sel ln xs
 | []=>rfl
 | x::r=>by simp only[qeP,q71 h,q5y h r]
theorem q6c {t:S} {sel ln:List Nat} (h:∀i∈ln,t.blk i=s.blk i) (z:Nat) (x:C):cv t sel ln z x=cv s sel ln z x:=by
 cases x with
 | fn f fs caps=>simp only[cv,q5y h]
 | _=>simp only[cv,q71 h]
theorem q23 {t:S} {sel ln:List Nat} (h:∀i∈ln,t.blk i=s.blk i):∀(zs:List Nat) (xs:List C),cvL t sel ln zs xs=cvL s sel ln zs xs
 | zs,[]=>by simp only[cvL]
 | zs,x::r=>by simp only[cvL,q6c h,q23 h _ r]
theorem q38 {t:S} {sel ln:List Nat} (h:∀i∈ln,t.blk i=s.blk i):∀(zs:List (List Nat)) (xs:List R),qba t sel ln zs xs=qba s sel ln zs xs
 | zs,[]=>by simp only[qba]
 | zs,x::r=>by
  have:∀z,cvR t sel ln z x=cvR s sel ln z x:=fun z=>by cases x<;>simp only[cvR,q6c h,q23 h]
  simp only[qba,this,q38 h _ r]
theorem qdj {t:S} {sel:List Nat} (o:AO):cvA t sel o=cvA s sel o:=by
 have:qb8 t sel=qb8 s sel:=funext fun r=>by
  have hn:∀i∈([]:List Nat),t.blk i=s.blk i:=fun i hi=>by simp at hi
  unfold qb8
  congr 1
  cases r<;>simp only[cvR,q6c hn,q23 hn]
 cases o<;>simp only[cvA,this]
theorem q4N {t:S} {sel:List Nat}:∀(l:List Nat) (j:Nat),(∀i∈l,t.blk i=s.blk i)→cvG t sel l j=cvG s sel l j
 | [],_,_=>rfl
 | i::l,j,h=>by
  have:∀x,cvB t sel x=cvB s sel x:=fun x=>by
   cases x with
   | blk ty cs=>simp only[cvB];rw[q23 (s:=s) (t:=t) (sel:=sel) (ln:=[]) (fun i hi=>by simp at hi)]
   | ob o=>simp only[cvB];rw[qdj (s:=s) (t:=t)]
   | _=>rfl
  simp only[cvG,this,h i qxW,q4N l (j+1) (fun i hi=>h i (qxP _ hi))]
section ren
variable {sel:List Nat} {n n':Nat}
theorem q6L {j:Nat} (h:ren sel n j<n):∃i,sel[j]?=some i∧∀m,ren sel m j=i:=by
 unfold ren at h
 cases hs:sel[j]? with
 | none=>rw[hs] at h;simp only at h;omega
 | some i=>exact⟨i,rfl,fun m=>by unfold ren;rw[hs]⟩
theorem q3J {j:Nat} (h:ren sel n j<n):ren sel n' j=ren sel n j:=by
 obtain⟨i,-,h2⟩:=q6L h
 rw[h2 n',h2 n]
theorem q2g {x:C} (h:(x.rn0 (ren sel n)).lt0 n=true):x.rn0 (ren sel n')=x.rn0 (ren sel n):=by
 cases x with
 | ptr i o=>simp only[C.rn0,C.lt0,qyG] at h ⊢;rw[q3J h]
 | hd k i=>simp only[C.rn0,C.lt0,qyG] at h ⊢;rw[q3J h]
 | own i sz o m=>simp only[C.rn0,C.lt0,qyG] at h ⊢;rw[q3J h]
 | _=>rfl
theorem JR {f g:C→C} {p:C→Bool} (hfg:∀x,p (f x)=true→g x=f x):∀(xs:List C),(xs.map f).all p=true→xs.map g=xs.map f
 | [],_=>rfl
 | x::r,h=>by
  simp only[qy4,List.all_cons,qyd] at h ⊢
  rw[hfg x h.1,JR hfg r h.2]
theorem q6m {x:C} (h:(x.rn (ren sel n)).ltn n=true):x.rn (ren sel n')=x.rn (ren sel n):=by
 cases x with
 | fn f fs caps=>
  simp only[C.rn,C.ltn,qyd] at h ⊢
  rw[JR (p:=C.lt0 n) (fun _ h=>q2g h) fs h.1,JR (p:=C.lt0 n) (fun _ h=>q2g h) caps h.2]
 | ptr i o=>exact q2g (x := .ptr i o) h
 | hd k i=>exact q2g (x := .hd k i) h
 | own i sz o m=>exact q2g (x := .own i sz o m) h
 | _=>rfl
theorem q2k {x:R} (h:(x.rn0 (ren sel n)).lt0 n=true):x.rn0 (ren sel n')=x.rn0 (ren sel n):=by
 cases x with
 | c x=>simp only[R.rn0,R.lt0] at h ⊢;rw[q6m h]
 | agg xs=>simp only[R.rn0,R.lt0] at h ⊢;rw[JR (p:=C.ltn n) (fun _ h=>q6m h) xs h]
 | _=>rfl
theorem qg1 {x:B} (h:(x.rn (ren sel n)).ltn n=true):x.rn (ren sel n')=x.rn (ren sel n):=by
 cases x with
 | blk t cs=>simp only[B.rn,B.ltn] at h ⊢;rw[JR (p:=C.ltn n) (fun _ h=>q6m h) cs h]
 | row e sz cs=>simp only[B.rn,B.ltn] at h ⊢;rw[JR (p:=C.ltn n) (fun _ h=>q6m h) cs h]
 | ob o=>
  simp only[B.rn,B.ltn,AO.Rs_mapR] at h ⊢
  rw[AO.mapR_congr fun x hx=>q2k (qxY.1 h _ (qyr.2 ⟨x,hx,rfl⟩))]
 | dead=>rfl
theorem qfo {x:R} (h:(x.rn (ren sel n)).ltn n=true):x.rn (ren sel n')=x.rn (ren sel n):=by
 cases x with
 | tup rs=>
  simp only[R.rn,R.ltn] at h ⊢
  congr 1
  induction rs with
  | nil=>rfl
  | cons y l ih=>
   simp only[qy4,List.all_cons,qyd] at h ⊢
   rw[q2k h.1,ih h.2]
 | c x=>exact q2k (x := .c x) h
 | agg xs=>exact q2k (x := .agg xs) h
 | any=>rfl
end ren
theorem q5I {us:List (Nat×B)} {n:Nat} (h:us.foldl (fun m u=>max m (u.1+1)) n=n):∀u∈us,u.1<n:=fun u hu=>by
 have:=(q2c us n).2 u hu
 omega
theorem q7w (s:S) (X:List Nat):(s.fgL X).nx=s.nx:=by cases X<;>rfl
theorem qfX (s:S) (X:List Nat):(s.fgL X).n=s.n:=by cases X<;>rfl
theorem JM {α:Type}:∀(l l':List (Nat×α)) (x:Nat) (z:α),lk (l++l') x z=lk l x (lk l' x z)
 | [],_,_,_=>rfl
 | (i,b)::l,l',x,z=>by
  simp only[qyM,lk]
  split
  ·rfl
  ·exact JM l l' x z
theorem q3F (s:S) (us:List (Nat×B)) (x:Nat):(s.up us).blk x=lk us x (s.blk x):=JM us s.hp x .dead
theorem q77 {α:Type}:∀(l:List (Nat×α)) (x:Nat) (z z':α),(∃b,(x,b)∈l)→lk l x z=lk l x z'
 | [],x,_,_,h=>by obtain⟨b,hb⟩:=h;simp at hb
 | (i,c)::l,x,z,z',h=>by
  simp only[lk]
  split
  ·rfl
  ·rename_i hn
   refine q77 l x z z' ?_
   obtain⟨b,hb⟩:=h
   rcases qy3.1 hb with hb|hb
   ·injection hb with h1 h2;exact absurd h1.symm hn
   ·exact⟨b,hb⟩
theorem Jo {α:Type}:∀(l:List (Nat×α)) (x:Nat) (z:α),(∀b,(x,b) ∉ l)→lk l x z=z
 | [],_,_,_=>rfl
 | (i,c)::l,x,z,h=>by
  simp only[lk]
  split
  ·rename_i hx;subst hx;exact absurd qxW (h c)
  ·exact Jo l x z (fun b hb=>h b (qxP _ hb))
theorem q5N {bl rw:List Nat} {i:Nat} (h:i∈wbC s s1 bl rw):i∈bl++rw:=by
 cases rw with
 | nil=>exact qxT _ (qyC.1 h).1
 | cons x l=>exact h
theorem q60 {bl rw:List Nat} {i:Nat} (h:i ∉ wbC s s1 bl rw) (hi:i∈bl++rw):rw=[]∧s1.blk i=s.blk i:=by
 cases rw with
 | nil=>
  rw[qy2] at hi
  refine⟨rfl,B.beq_eq ?_⟩
  cases hb:B.beq (s1.blk i) (s.blk i) with
  | true=>rfl
  | false=>exact absurd (qyC.2 ⟨hi,by rw[hb];rfl⟩) h
 | cons x l=>exact absurd hi h
theorem q4Q {bl rw ln:List Nat} {fp:Fp} (h:qqz s s1 r bl rw ln=some fp):((s1.nx=s.nx∧(bl++rw).all (fun i=>(s1.blk i).ltn s.nx)=true∧r.ltn s.nx=true)∧fp=⟨bl++rw++ln,wbC s s1 bl rw,rw,q3n s rw,[]⟩)∨fp=⟨bl++rw++ln,wbC s s1 bl rw++q3e s.nx s1.nx,rw,q3n s rw,[s.nx]⟩:=by
 unfold qqz at h
 split at h
 ·rename_i hc;injection h with h;exact .inl ⟨hc,h.symm⟩
 ·injection h with h;exact .inr h.symm
theorem q9A (s:S) (sel:List Nat) (k:Nat) (hp:List (Nat×B)):s.nx≤(s.aft sel k hp).nx∧∀u∈hp.map (fun x=>(ren sel s.nx x.1,x.2.rn (ren sel s.nx)))++sel.map (fun i=>(i,B.dead)),u.1<(s.aft sel k hp).nx:=by
 have h:=q2c (hp.map (fun x=>(ren sel s.nx x.1,x.2.rn (ren sel s.nx)))++sel.map fun i=>(i,B.dead)) (s.fgL (sel.drop k)).nx
 rw[q7w] at h
 have e:(s.aft sel k hp).nx=(hp.map (fun x=>(ren sel s.nx x.1,x.2.rn (ren sel s.nx)))++sel.map fun i=>(i,B.dead)).foldl (fun m u=>max m (u.1+1)) s.nx:=by
  show List.foldl _ (s.fgL (sel.drop k)).nx _=_
  rw[q7w]
 rw[e];exact h
theorem q7i {n m x:Nat} (h1:n≤x) (h2:x<m):x∈q3e n m:=qyr.2 ⟨x-n,qyD.2 (by omega),by omega⟩
theorem qgG {n m x:Nat} (h:x∈q3e n m):n≤x:=by
 obtain⟨y,_,rfl⟩:=qyr.1 h
 omega
theorem qeW (hA:Ag P T) (hE:Snd P E) {f:Operand} {args:Array Operand} {ts:Array TypeId} (ho:o.op = .call { callee := .value f,args:=args,argTypes:=ts }) {g:FuncId} {fs caps:List C} (hfe:s.ev f = .c (.fn g fs caps))
  {rs:List R} (hrs:fs.map R.c++args.toList.map s.ev++caps.map R.c=rs) {zs:List (List Nat)} {bl rw' ln:List Nat} (h:Zv E s g zs rs bl rw' ln=some (r,s1)) :
  Loc P o s r ((wbC s s1 bl rw'++q3e s.nx s1.nx).map fun x=>(x,s1.blk x)) ⟨bl++rw'++ln,wbC s s1 bl rw'++q3e s.nx s1.nx,rw',q3n s rw',[s.nx]⟩:=by
 intro cx ρ t a w next Q hev hblk hfar hltn hs hn
 have hlt2:∀x,t.live x→x<s.nx:=hltn (by simp)
 simp only at hblk hfar hn
 obtain⟨sel,hsel⟩:∃sel,sel=bl++rw':=⟨_,rfl⟩
 have hbs:∀i∈sel,t.blk i=s.blk i:=fun i hi=>hblk i (.inl (qxT _ (hsel ▸ hi)))
 have hbl:∀i∈ln,t.blk i=s.blk i:=fun i hi=>hblk i (.inl (qxQ _ hi))
 have hwb:∀x,x∈wbC s s1 bl rw'++q3e s.nx s1.nx→t.blk x=s.blk x:=fun x hx=>hblk x (.inr hx)
 unfold Zv at h
 rw[←hsel] at h
 obtain⟨rs',g1,h⟩:=qxM.1 h
 obtain⟨G,g2,h⟩:=qxM.1 h
 split at h
 ·rename_i hc
  obtain⟨q,g3,h⟩:=qxM.1 h
  split at h
  ·rename_i hok
   obtain⟨rfl,rfl⟩:=zu h
   have hX:sel.drop bl.length=rw':=by rw[hsel,List.drop_left]
   obtain⟨t0,ht0⟩:∃t0:S,t0={ t with nx:=s.nx }:=⟨_,rfl⟩
   have tb:∀i,t0.blk i=t.blk i:=fun i=>by rw[ht0];rfl
   have tg:∀i,t0.get i=t.get i:=fun i=>by rw[ht0];rfl
   have te:∀y,t0.ev y=t.ev y:=fun y=>by rw[ht0];rfl
   have tn:t0.nx=s.nx:=by rw[ht0]
   have hs0:Sim cx ρ t0 a w:=by
    rw[ht0]
    exact⟨hs.hd,hs.size,hs.tm,hs.hp,hs.hp0,hs.out,hs.inj,fun i hi=>hlt2 i hi,hs.kept,hs.oldF,hs.pin,hs.disj,⟨hs.ows.lt,hs.ows.one,hs.ows.new⟩⟩
   have ht:Zv E t0 g zs rs bl rw' ln=some (q.1.rn (ren sel s.nx),t0.aft sel bl.length q.2):=by
    unfold Zv
    rw[←hsel,q38 (fun i hi=>(tb i).trans (hbl i hi)),q4N sel 0 (fun i hi=>(tb i).trans (hbs i hi)),g1,qxH,g2,qxH]
    have hall:∀(p:Nat→B→Bool) (l:List Nat),(∀i∈l,t0.blk i=s.blk i)→l.all (fun i=>p i (t0.blk i))=l.all (fun i=>p i (s.blk i)):=fun p l hl=>by
     induction l with
     | nil=>rfl
     | cons i l ih=>simp only[List.all_cons,hl i qxW,ih (fun i hi=>hl i (qxP _ hi))]
    have e1:=hall (fun _ b=>b.live) sel (fun i hi=>(tb i).trans (hbs i hi))
    have e2:=hall (fun i b=>b.live && !sel.contains i) ln (fun i hi=>(tb i).trans (hbl i hi))
    rw[e1,e2,if_pos hc,g3,qxH,if_pos hok,tn]
   have hoc:Jf P t0 g rs (fun r' s''=>r'=q.1.rn (ren sel s.nx)∧s''=t0.aft sel bl.length q.2):=q46 hE ht ⟨rfl,rfl⟩
   have hargs:∀y∈args.toList,t0.ev y=s.ev y:=fun y hy=>(te y).trans (hev y (by
    rw[ho]
    simp only[Op.operands,Call.operands,Array.toList_append,qyb]
    exact .inr hy))
   have hft:t0.ev f=s.ev f:=(te f).trans (hev f (by
    rw[ho]
    simp only[Op.operands,Call.operands,Array.toList_append,qyb]
    exact .inl (by simp)))
   have hmap:args.toList.map t0.ev=args.toList.map s.ev:=List.map_congr_left hargs
   have hox:ox P T t0 t0.nx o.op (fun r' s''=>r'=q.1.rn (ren sel s.nx)∧s''=t0.aft sel bl.length q.2):=by
    rw[ho]
    simp only[ox,qeu,q8P]
    exact⟨g,fs,caps,hft.trans hfe,by rw[hmap,hrs];exact hoc⟩
   refine q4Y hA (fun h=>by have:=hs0.nx _ h;omega) hs0 hox ?_
   rintro r'' s'' ρ' v w' ⟨rfl,rfl⟩ k1 k2
   have hfg:∀x,x ∉ sel→x ∉ q3e s.nx (s.aft sel bl.length q.2).nx→(t0.fgL rw').blk x=t.blk x:=fun x hx hx2=>by
    rw[S.fgL_blk,tb]
    rcases hfar with h|h
    ·rw[if_pos h]
    ·split
     ·rfl
     ·refine h.2 x (fun h=>?_)
      rcases qyb.1 h with h|h
      ·exact hx (by rw[hsel];exact q5N h)
      ·exact hx2 h
   refine hn ρ' (t0.aft sel bl.length q.2) v w' (fun d hd=>?_) (fun x=>?_) ?_ k1 k2
   ·show(t0.fgL (sel.drop bl.length)).get d=t.get d
    rw[hX,S.fgL_get,tg]
    rcases hfar with h|h
    ·rw[if_pos h]
    ·split
     ·rfl
     ·exact h.1 d hd
   ·obtain⟨L,hL⟩:∃L,L=q.2.map (fun x=>(ren sel s.nx x.1,x.2.rn (ren sel s.nx)))++sel.map (fun i=>(i,B.dead)):=⟨_,rfl⟩
    have e1:(t0.aft sel bl.length q.2).blk x=lk L x ((t0.fgL rw').blk x):=by
     have:(t0.aft sel bl.length q.2).blk x=lk (q.2.map (fun x=>(ren sel t0.nx x.1,x.2.rn (ren sel t0.nx)))++sel.map (fun i=>(i,B.dead))) x ((t0.fgL (sel.drop bl.length)).blk x):=q3F _ _ x
     rw[this,tn,hX,hL]
    have e2:(s.aft sel bl.length q.2).blk x=lk L x ((s.fgL rw').blk x):=by
     have:(s.aft sel bl.length q.2).blk x=lk (q.2.map (fun x=>(ren sel s.nx x.1,x.2.rn (ren sel s.nx)))++sel.map (fun i=>(i,B.dead))) x ((s.fgL (sel.drop bl.length)).blk x):=q3F _ _ x
     rw[this,hX,hL]
    obtain⟨_,hkeys⟩:=q9A s sel bl.length q.2
    rw[←hL] at hkeys
    rw[e1,q2G]
    by_cases hk:∃b,(x,b)∈L
    ·have e3:=q77 L x ((t0.fgL rw').blk x) ((s.fgL rw').blk x) hk
     rw[e3,←e2]
     by_cases hxw:x∈wbC s (s.aft sel bl.length q.2) bl rw'++q3e s.nx (s.aft sel bl.length q.2).nx
     ·rw[if_pos hxw]
     ·rw[if_neg hxw]
      have h1:x ∉ wbC s (s.aft sel bl.length q.2) bl rw':=fun h=>hxw (qxT _ h)
      have h2:x ∉ q3e s.nx (s.aft sel bl.length q.2).nx:=fun h=>hxw (qxQ _ h)
      obtain⟨b,hb⟩:=hk
      have hlt:x<s.nx:=by
       rcases Nat.lt_or_ge x s.nx with h|h
       ·exact h
       ·exact absurd (q7i h (hkeys _ hb)) h2
      have hxs:x∈sel:=by
       rw[hL] at hb
       rcases qyb.1 hb with hb|hb
       ·obtain⟨y,_,he⟩:=qyr.1 hb
        injection he with he _
        obtain⟨i,q1,q2⟩:=q6L (by rw[he];exact hlt)
        rw[←he,q2];exact qxI q1
       ·obtain⟨y,hy,he⟩:=qyr.1 hb
        injection he with he _
        exact he ▸ hy
      rw[(q60 h1 (hsel ▸ hxs)).2,hbs x hxs]
    ·have hnk:∀b,(x,b) ∉ L:=fun b hb=>hk ⟨b,hb⟩
     have hxs:x ∉ sel:=fun h=>hnk .dead (by rw[hL];exact qxQ _ (qyr.2 ⟨x,h,rfl⟩))
     rw[Jo L x _ hnk]
     by_cases hxn:x∈q3e s.nx (s.aft sel bl.length q.2).nx
     ·rw[if_pos (qxQ _ hxn),e2,Jo L x _ hnk,S.fgL_blk,S.fgL_blk,tb]
      have hge:=qgG hxn
      have hd:t.blk x = .dead:=by
       by_cases hl:t.live x
       ·have:=hlt2 x hl;omega
       ·exact B.dead_of hl
      rw[hd,←hwb x (qxQ _ hxn),hd]
     ·rw[hfg x hxs hxn,if_neg (fun h=>by
       rcases qyb.1 h with h|h
       ·exact hxs (by rw[hsel];exact q5N h)
       ·exact hxn h)]
   ·show(t0.fgL (sel.drop bl.length)).n=t.n
    rw[qfX,ht0]
  ·cases h
 ·cases h
theorem qjQ (hA:Ag P T) (hE:Snd P E) {f:Operand} {args:Array Operand} {ts:Array TypeId} (ho:o.op = .call { callee := .value f,args:=args,argTypes:=ts }) {fp:Fp} (h:Jt po E s f args.toList ts.toList=some (r,s1)) (hf:fpC po s s1 r f args.toList=some fp)
  : Loc P o s r (fp.wb.map fun x=>(x,s1.blk x)) fp:=by
 intro cx ρ t a w next Q hev hblk hfar hltn hs hn
 unfold Jt at h
 unfold fpC at hf
 split at h
 ·rename_i g fs caps hfe
  rw[hfe] at hf
  simp only at hf
  by_cases hno:False
  ·exact hno.elim
  ·generalize hrs:fs.map R.c++args.toList.map s.ev++caps.map R.c=rs at h hf
   generalize zmk (po.ow g) 0 (fs.map (fun _=>[])++ts.toList.map po.q)=zs at h
   unfold q4K q97 at h
   unfold qlc qp7 at hf
   generalize q06 s 60 _ _=l at h hf
   generalize List.filter _ _=ln at h hf
   generalize q8u s l=bl at h hf
   generalize q0G s l=rw' at h hf
   rcases q4Q hf with ⟨⟨c1,c2,c3⟩,rfl⟩|rfl
   case inr=>exact qeW hA hE ho hfe hrs h cx ρ t a w next Q hev hblk hfar hltn hs hn
   simp only at hblk hfar hn
   obtain⟨sel,hsel⟩:∃sel,sel=bl++rw':=⟨_,rfl⟩
   have hbs:∀i∈sel,t.blk i=s.blk i:=fun i hi=>hblk i (.inl (qxT _ (hsel ▸ hi)))
   have hbl:∀i∈ln,t.blk i=s.blk i:=fun i hi=>hblk i (.inl (qxQ _ hi))
   have h0:=h
   unfold Zv at h
   rw[←hsel] at h c2
   obtain⟨rs',g1,h⟩:=qxM.1 h
   obtain⟨G,g2,h⟩:=qxM.1 h
   split at h
   ·rename_i hc
    obtain⟨q,g3,h⟩:=qxM.1 h
    split at h
    ·rename_i hok
     obtain⟨rfl,rfl⟩:=zu h
     -- the blocks behind the call, by the text and here
     have hus:∀u∈q.2.map (fun x=>(ren sel s.nx x.1,x.2.rn (ren sel s.nx)))++sel.map (fun i=>(i,B.dead)),u.1<s.nx:=by
      refine q5I ?_
      have:(s.aft sel bl.length q.2).nx=(q.2.map (fun x=>(ren sel s.nx x.1,x.2.rn (ren sel s.nx)))++sel.map (fun i=>(i,B.dead))).foldl (fun m u=>max m (u.1+1)) (s.fgL (sel.drop bl.length)).nx:=rfl
      rw[q7w] at this
      rw[←this];exact c1
     have hX:sel.drop bl.length=rw':=by rw[hsel,List.drop_left]
     have hin:∀x∈q.2,ren sel s.nx x.1∈sel:=fun x hx=>by
      obtain⟨i,h1,h2⟩:=q6L (hus _ (qxT _ (qyr.2 ⟨x,hx,rfl⟩)))
      rw[h2];exact qxI h1
     have hlk:∀x z,lk (q.2.map (fun x=>(ren sel t.nx x.1,x.2.rn (ren sel t.nx)))++sel.map (fun i=>(i,B.dead))) x z=lk (q.2.map (fun x=>(ren sel s.nx x.1,x.2.rn (ren sel s.nx)))++sel.map (fun i=>(i,B.dead))) x z:=by
      intro x z
      have hfirst:x∈sel→(lk (q.2.map (fun x=>(ren sel s.nx x.1,x.2.rn (ren sel s.nx)))++sel.map (fun i=>(i,B.dead))) x z).ltn s.nx=true:=fun hx=>by
       have h1:=qxY.1 c2 x hx
       have h2:(s.aft sel bl.length q.2).blk x=lk (q.2.map (fun x=>(ren sel s.nx x.1,x.2.rn (ren sel s.nx)))++sel.map (fun i=>(i,B.dead))) x ((s.fgL (sel.drop bl.length)).blk x):=q3F _ _ x
       rw[h2] at h1
       rw[q77 _ x z _ ⟨.dead,qxQ _ (qyr.2 ⟨x,hx,rfl⟩)⟩];exact h1
      rw[JM,JM]
      have key:∀(l:List (Nat×B)) (z:B),(∀x∈l,ren sel s.nx x.1<s.nx)→(x∈sel→(lk (l.map (fun x=>(ren sel s.nx x.1,x.2.rn (ren sel s.nx)))) x z).ltn s.nx=true)→(∀y∈l,ren sel s.nx y.1∈sel)→
        lk (l.map (fun x=>(ren sel t.nx x.1,x.2.rn (ren sel t.nx)))) x z=lk (l.map (fun x=>(ren sel s.nx x.1,x.2.rn (ren sel s.nx)))) x z:=by
       intro l
       induction l with
       | nil=>intro z _ _ _;rfl
       | cons y l ih=>
        intro z hl hlt hm
        have h1:=hl y qxW
        simp only[qy4,lk,q3J (n':=t.nx) h1] at hlt ⊢
        split
        ·rename_i hx
         rw[if_pos hx] at hlt
         exact qg1 (hlt (hx ▸ hm y qxW))
        ·rename_i hx
         rw[if_neg hx] at hlt
         exact ih z (fun x hx=>hl x (qxP _ hx)) hlt (fun y hy=>hm y (qxP _ hy))
      refine key q.2 _ (fun x hx=>hus _ (qxT _ (qyr.2 ⟨x,hx,rfl⟩))) (fun hx=>?_) hin
      have:=hfirst hx
      rw[JM] at this
      exact this
     have ht:Zv E t g zs rs bl rw' ln=some (q.1.rn (ren sel s.nx),t.aft sel bl.length q.2):=by
      unfold Zv
      rw[←hsel,q38 hbl,q4N sel 0 hbs,g1,qxH,g2,qxH]
      have hall:∀(p:Nat→B→Bool) (l:List Nat),(∀i∈l,t.blk i=s.blk i)→l.all (fun i=>p i (t.blk i))=l.all (fun i=>p i (s.blk i)):=fun p l hl=>by
       induction l with
       | nil=>rfl
       | cons i l ih=>simp only[List.all_cons,hl i qxW,ih (fun i hi=>hl i (qxP _ hi))]
      have e1:=hall (fun _ b=>b.live) sel hbs
      have e2:=hall (fun i b=>b.live && !sel.contains i) ln hbl
      rw[e1,e2,if_pos hc,g3,qxH,if_pos hok]
      rw[qfo c3]
     have hoc:Jf P t g rs (fun r' s''=>r'=q.1.rn (ren sel s.nx)∧s''=t.aft sel bl.length q.2):=q46 hE ht ⟨rfl,rfl⟩
     have hargs:∀y∈args.toList,t.ev y=s.ev y:=fun y hy=>hev y (by
      rw[ho]
      simp only[Op.operands,Call.operands,Array.toList_append,qyb]
      exact .inr hy)
     have hft:t.ev f=s.ev f:=hev f (by
      rw[ho]
      simp only[Op.operands,Call.operands,Array.toList_append,qyb]
      exact .inl (by simp))
     have hmap:args.toList.map t.ev=args.toList.map s.ev:=List.map_congr_left hargs
     have hox:ox P T t t.nx o.op (fun r' s''=>r'=q.1.rn (ren sel s.nx)∧s''=t.aft sel bl.length q.2):=by
      rw[ho]
      simp only[ox,qeu,q8P]
      exact⟨g,fs,caps,hft.trans hfe,by rw[hmap,hrs];exact hoc⟩
     refine q4Y hA (fun h=>by have:=hs.nx _ h;omega) hs hox ?_
     rintro r'' s'' ρ' v w' ⟨rfl,rfl⟩ k1 k2
     have hfg:∀x,x ∉ sel→(t.fgL rw').blk x=t.blk x:=fun x hx=>by
      rw[S.fgL_blk]
      rcases hfar with h|h
      ·rw[if_pos h]
      ·split
       ·rfl
       ·exact h.2 x (fun h=>hx (by rw[hsel];exact q5N h))
     refine hn ρ' (t.aft sel bl.length q.2) v w' (fun d hd=>?_) (fun x=>?_) ?_ k1 k2
     ·show(t.fgL (sel.drop bl.length)).get d=t.get d
      rw[hX,S.fgL_get]
      rcases hfar with h|h
      ·rw[if_pos h]
      ·split
       ·rfl
       ·exact h.1 d hd
     ·have e1:(t.aft sel bl.length q.2).blk x=lk (q.2.map (fun x=>(ren sel t.nx x.1,x.2.rn (ren sel t.nx)))++sel.map (fun i=>(i,B.dead))) x ((t.fgL (sel.drop bl.length)).blk x):=q3F _ _ x
      have e2:(s.aft sel bl.length q.2).blk x=lk (q.2.map (fun x=>(ren sel s.nx x.1,x.2.rn (ren sel s.nx)))++sel.map (fun i=>(i,B.dead))) x ((s.fgL (sel.drop bl.length)).blk x):=q3F _ _ x
      rw[e1,hlk,q2G,hX]
      by_cases hx:x∈sel
      ·have e3:=q77 (q.2.map (fun x=>(ren sel s.nx x.1,x.2.rn (ren sel s.nx)))++sel.map (fun i=>(i,B.dead))) x ((t.fgL rw').blk x) ((s.fgL (sel.drop bl.length)).blk x) ⟨.dead,qxQ _ (qyr.2 ⟨x,hx,rfl⟩)⟩
       by_cases hxw:x∈wbC s (s.aft sel bl.length q.2) bl rw'
       ·rw[if_pos hxw,e2];exact e3
       ·rw[if_neg hxw,e3,←e2,(q60 hxw (hsel ▸ hx)).2,hbs x hx]
      ·have hxw:x ∉ wbC s (s.aft sel bl.length q.2) bl rw':=fun h=>hx (by rw[hsel];exact q5N h)
       rw[if_neg hxw,hfg x hx]
       refine Jo _ x _ (fun b hb=>?_)
       rcases qyb.1 hb with hb|hb
       ·obtain⟨y,hy,he⟩:=qyr.1 hb
        injection he with he1 he2
        exact hx (he1 ▸ hin y hy)
       ·obtain⟨y,hy,he⟩:=qyr.1 hb
        injection he with he1 he2
        exact hx (he1 ▸ hy)
     ·show(t.fgL (sel.drop bl.length)).n=t.n
      exact qfX _ _
    ·cases h
   ·cases h
 ·rename_i rid hfe
  rw[hfe] at hf
  cases hf
 ·cases h
end
end
noncomputable section
open Go.RowKit
def Nb (s:S):Prop:=∀i,s.live i→i<s.nx
structure Stp (P:Program) (ops:List Oper) (o:Oper) (s s':S) (x:Tx):Prop where
 run:∃b,gd ops s o.guard=some b∧(b=false→x=((.tup [],[]),⟨[],[],[],[],[]⟩))∧(b=true→Nb s→Loc P o s x.1.1 x.1.2 x.2)
 eff:qeQ x.2 s→(∀d,s'.get d=if o.dst=some d then x.1.1 else if d∈x.2.ks then .any else s.get d)∧∀i,s'.blk i=lk x.1.2 i (s.blk i)
 n:s'.n=s.n
 dst:∀d,o.dst=some d→d<s.n
 us:∀u∈x.1.2,u.1∈x.2.wb
 nb:Nb s→Nb s'
 nwp:x.2.nw=[]∨x.2.nw=[s.nx]
section
variable {P:Program} {T:Ty} {po:Pol} {E:Orc} {ops:List Oper} {o:Oper} {s s':S} {x:Tx}
theorem Nb.put (h:Nb s) (d:Option Nat) (r:R):Nb (s.put d r):=fun i hi=>by
 rw[S.put_nx];refine h i ?_;unfold S.live at hi ⊢;rwa [S.put_blk] at hi
theorem qj9 {us:List (Nat×B)} {i:Nat} {z:B} (h:(lk us i z).live=true):(∃u∈us,u.1=i)∨z.live=true:=by
 induction us with
 | nil=>exact .inr h
 | cons y us ih=>
  obtain⟨j,b⟩:=y
  simp only[lk] at h
  split at h
  ·rename_i hj;exact .inl ⟨_,qxW,hj⟩
  ·rcases ih h with ⟨u,hu,he⟩|h
   ·exact .inl ⟨u,qxP _ hu,he⟩
   ·exact .inr h
theorem Nb.up (h:Nb s) (us:List (Nat×B)):Nb (s.up us):=fun i hi=>by
 unfold S.live at hi
 rw[q3F] at hi
 have hx:=q2c us s.nx
 rcases qj9 hi with ⟨u,hu,rfl⟩|h1
 ·exact hx.2 u hu
 ·exact qyh (h i h1) hx.1
theorem Nb.fgL (h:Nb s) (X:List Nat):Nb (s.fgL X):=fun i hi=>by rw[q7w];exact h i ((S.fgL_live s X i).1 hi)
theorem Nb.dead (h:Nb s):s.blk s.nx = .dead:=B.dead_of fun hl=>by have:=h s.nx hl;omega
theorem qgP {s1:S} (wb:List Nat) (i:Nat) (h:i ∉ wb→s1.blk i=s.blk i):s1.blk i=lk (wb.map fun x=>(x,s1.blk x)) i (s.blk i):=by
 rw[q2G (fun x=>s1.blk x)]
 split
 ·rfl
 ·rename_i hn;exact h hn
theorem qkw {sel:List Nat} {k:Nat} {hp:List (Nat×B)} (hnx:(s.aft sel k hp).nx=s.nx) {i:Nat} (hi:i ∉ sel):(s.aft sel k hp).blk i=(s.fgL (sel.drop k)).blk i:=by
 have hus:∀u∈hp.map (fun x=>(ren sel s.nx x.1,x.2.rn (ren sel s.nx)))++sel.map (fun i=>(i,B.dead)),u.1<s.nx:=by
  refine q5I ?_
  have:(s.aft sel k hp).nx=(hp.map (fun x=>(ren sel s.nx x.1,x.2.rn (ren sel s.nx)))++sel.map (fun i=>(i,B.dead))).foldl (fun m u=>max m (u.1+1)) (s.fgL (sel.drop k)).nx:=rfl
  rw[q7w] at this
  rw[←this];exact hnx
 have e1:(s.aft sel k hp).blk i=lk (hp.map (fun x=>(ren sel s.nx x.1,x.2.rn (ren sel s.nx)))++sel.map (fun i=>(i,B.dead))) i ((s.fgL (sel.drop k)).blk i):=q3F _ _ i
 rw[e1]
 refine Jo _ i _ (fun b hb=>?_)
 rcases qyb.1 hb with hb|hb
 ·obtain⟨y,hy,he⟩:=qyr.1 hb
  injection he with he1 he2
  obtain⟨j,h1,h2⟩:=q6L (hus _ (qxT _ (qyr.2 ⟨y,hy,rfl⟩)))
  rw[h2] at he1
  exact hi (he1 ▸ qxI h1)
 ·obtain⟨y,hy,he⟩:=qyr.1 hb
  injection he with he1 he2
  exact hi (he1 ▸ hy)
theorem qfL {sel:List Nat} {k:Nat} {hp:List (Nat×B)} {i:Nat} (hi:i ∉ sel) (hn:i ∉ q3e s.nx (s.aft sel k hp).nx):(s.aft sel k hp).blk i=(s.fgL (sel.drop k)).blk i:=by
 obtain⟨_,hkeys⟩:=q9A s sel k hp
 have e1:(s.aft sel k hp).blk i=lk (hp.map (fun x=>(ren sel s.nx x.1,x.2.rn (ren sel s.nx)))++sel.map (fun i=>(i,B.dead))) i ((s.fgL (sel.drop k)).blk i):=q3F _ _ i
 rw[e1]
 refine Jo _ i _ (fun b hb=>?_)
 have hlt:i<s.nx:=by
  rcases Nat.lt_or_ge i s.nx with h|h
  ·exact h
  ·exact absurd (q7i h (hkeys _ hb)) hn
 rcases qyb.1 hb with hb|hb
 ·obtain⟨y,hy,he⟩:=qyr.1 hb
  injection he with he1 he2
  obtain⟨j,h1,h2⟩:=q6L (by rw[he1];exact hlt)
  rw[h2] at he1
  exact hi (he1 ▸ qxI h1)
 ·obtain⟨y,hy,he⟩:=qyr.1 hb
  injection he with he1 he2
  exact hi (he1 ▸ hy)
theorem qif {s s1:S} {r:R} {op:Op} {fp:Fp} (h:qeK po s s1 r op=some fp):fp.nw=[]∨fp.nw=[s.nx]:=by
 unfold qeK at h
 split at h
 ·injection h with h;subst h;exact .inl rfl
 ·split at h
  ·split at h
   ·injection h with h;subst h;exact .inl rfl
   ·cases h
  ·injection h with h;subst h;exact .inl rfl
  ·unfold qaz at h
   split at h
   ·split at h
    ·injection h with h;subst h;exact .inl rfl
    ·injection h with h;subst h;exact .inl rfl
    ·injection h with h;subst h;exact .inl rfl
    ·cases h
   ·cases h
  ·unfold fpC at h
   split at h
   ·unfold qlc qp7 at h
    rcases q4Q h with ⟨_,rfl⟩|rfl
    ·exact .inl rfl
    ·exact .inr rfl
   ·cases h
  ·cases h
theorem S.kill_get (s:S) (ks:List Nat) (d:Nat):(s.kill ks).get d=if d∈ks then .any else s.get d:=by
 show lk (ks.map (fun d=>(d,R.any))++s.tm) d .any=_
 rw[JM,q2G (fun _=>R.any)]
 rfl
theorem S.kill_blk (s:S) (ks:List Nat) (i:Nat):(s.kill ks).blk i=s.blk i:=rfl
theorem Sim.kill {cx:Cx} {ρ:Pl} {a:Act} {w:World} (h:Sim cx ρ s a w) (ks:List Nat):Sim cx ρ (s.kill ks) a w:=by
 refine⟨h.hd,h.size,fun i=>?_,h.hp,h.hp0,h.out,h.inj,h.nx,h.kept,h.oldF,h.pin,h.disj,⟨h.ows.lt,h.ows.one,h.ows.new⟩⟩
 show RR w _ ρ _ ((s.kill ks).get i)
 rw[S.kill_get]
 split
 ·exact .any _
 ·exact h.tm i
theorem qdG {fp:Fp} (h:qeQ fp s) (d:Nat) (hd:d ∉ fp.ks):(s.fgL fp.X).get d=s.get d:=by
 rw[S.fgL_get]
 rcases h with h|h
 ·rw[if_pos h]
 ·split
  ·rfl
  ·exact h.1 d hd
theorem qew {fp:Fp} (h:qeQ fp s) {i:Nat} (hi:i ∉ fp.wb):(s.fgL fp.X).blk i=s.blk i:=by
 rw[S.fgL_blk]
 rcases h with h|h
 ·rw[if_pos h]
 ·split
  ·rfl
  ·exact h.2 i hi
theorem qmt {op:Op} {g:FuncId} {rs:List R} (h:alC po s op=some (g,rs)):∃f args ts,op = .call { callee := .value f,args:=args,argTypes:=ts }∧s.ev f = .c (.fn g [] [])∧rs=args.toList.map s.ev∧rs.all R.dat=true:=by
 unfold alC at h
 split at h
 ·rename_i f args ts
  split at h
  ·rename_i g' hf
   split at h
   ·rename_i hc
    injection h with h
    injection h with h1 h2
    subst h1 h2
    exact⟨f,args,ts,rfl,hf,rfl,hc.2⟩
   ·cases h
  ·cases h
 ·cases h
theorem qry (hA:Ag P T) (hE:Snd P E) {g:FuncId} {rs:List R} (hc:alC po s o.op=some (g,rs)) {z n e:Nat} {cs:List C} {q:R×List (Nat×B)} (hq:E (.fn g) 0 rs []=some q) (h2:qlR q=some (z,n,e,cs)) (hnx:s.blk s.nx = .dead) :
  Loc P o s (.c (.own s.nx z 0 n)) [(s.nx,.row e z cs)] ⟨[],[s.nx],[],[],[]⟩:=by
 obtain⟨f,args,ts,ho,hf,hrs,hd⟩:=qmt hc
 intro cx ρ t a w next Q hev hblk _ _ hs hn
 have e1:t.ev f=s.ev f:=hev f (by rw[ho];simp[Op.operands,Call.operands])
 have e2:args.toList.map t.ev=args.toList.map s.ev:=List.map_congr_left fun y hy=>hev y (by rw[ho];simp only[Op.operands,Call.operands,Array.toList_append];exact qxQ _ hy)
 have hb:=hblk s.nx (.inr qxW)
 have hl:¬ t.live s.nx:=fun h=>by unfold S.live at h;rw[hb,hnx] at h;cases h
 unfold qlR at h2
 split at h2
 ·rename_i z0 n0 e0 z1 cs0
  split at h2
  ·rename_i hcc
   obtain⟨rfl,hcs⟩:=hcc
   injection h2 with h2
   injection h2 with i1 i2;injection i2 with i2 i3;injection i3 with i3 i4
   subst i1 i2 i3 i4
   have hac:=hE.fn g 0 rs [] _ _ hq
   have hcall:Jf P t g rs (fun r' s''=>r' = .c (.own s.nx z1 0 n0)∧s''=t.up [(s.nx,.row e0 z1 cs0)]):=Jf.fresh hac hd hcs hl ⟨rfl,rfl⟩
   have hox:ox P T t s.nx o.op (fun r' s''=>r' = .c (.own s.nx z1 0 n0)∧s''=t.up [(s.nx,.row e0 z1 cs0)]):=by
    rw[ho]
    unfold ox qeu
    exact⟨g,[],[],e1.trans hf,by rw[List.map_nil,qy1,qy2,e2,←hrs];exact hcall⟩
   refine q4Y hA hl hs hox ?_
   rintro r'' s'' ρ' v w' ⟨rfl,rfl⟩ g1 g2
   exact hn ρ' (t.up [(s.nx,.row e0 z1 cs0)]) v w' (fun d _=>rfl) (fun x=>S.blk_up t s.nx x _) rfl g1 g2
  ·cases h2
 ·cases h2
theorem qcI (hA:Ag P T) (hE:Snd P E) {act:Bool} (h:xsF P T po E o act s=some (s',x)) :
  (act=false→x=((.tup [],[]),⟨[],[],[],[],[]⟩))∧(act=true→Nb s→Loc P o s x.1.1 x.1.2 x.2)∧(Nb s→Nb s')∧(qeQ x.2 s→(∀d,s'.get d=if o.dst=some d then x.1.1 else if d∈x.2.ks then .any else s.get d)∧∀i,s'.blk i=lk x.1.2 i (s.blk i))∧s'.n=s.n∧(∀d,o.dst=some d→d<s.n)∧(∀u∈x.1.2,u.1∈x.2.wb)∧(x.2.nw=[]∨x.2.nw=[s.nx]):=by
 unfold xsF at h
 split at h
 ·rename_i ha
  subst ha
  cases hal:alC po s o.op with
  | some gr=>
   obtain⟨g,rs⟩:=gr
   rw[hal] at h
   have h:qpZ s o ((E (.fn g) 0 rs []).bind qlR)=some (s',x):=h
   unfold qpZ at h
   obtain⟨⟨z,n,e,cs⟩,h1,h2⟩:=qxM.1 h
   obtain⟨q,h3,h4⟩:=qxM.1 h1
   split at h2
   ·rename_i hd
    injection h2 with h2
    injection h2 with h5 h6
    subst h5 h6
    refine⟨(fun h=>by cases h),fun _ hb=>qry hA hE hal h3 h4 hb.dead,fun hb=>(hb.up _).put _ _,fun hf=>⟨fun d=>?_,fun i=>?_⟩,S.put_n _ _ _,JC hd,fun u hu=>?_,.inl rfl⟩
    ·rw[S.put_get];simp only[List.not_mem_nil,if_false];rfl
    ·rw[S.put_blk,S.blk_up];rfl
    ·simp only[qyx] at hu;subst hu;exact qxW
   ·cases h2
  | none=>
  rw[hal] at h
  replace h:((xo P T po E s o.op).bind fun q=>if q3W q.2 o.dst=true then(qeK po s q.2 q.1 o.op).bind fun fp=>some ((q.2.kill fp.ks).put o.dst q.1,(q.1,fp.wb.map fun x=>(x,q.2.blk x)),fp) else none)=some (s',x):=h
  obtain⟨⟨r,s1⟩,h1,h2⟩:=qxM.1 h
  simp only at h2
  split at h2
  ·rename_i hd
   obtain⟨fp,h3,h4⟩:=qxM.1 h2
   injection h4 with h4
   injection h4 with h4 h5
   subst h4 h5
   have hcore:(Nb s→Loc P o s r (fp.wb.map fun x=>(x,s1.blk x)) fp)∧(Nb s→Nb s1)∧(qeQ fp s→(∀d,d ∉ fp.ks→s1.get d=s.get d)∧∀i,i ∉ fp.wb→s1.blk i=s.blk i)∧s1.n=s.n:=by
    unfold qeK at h3
    split at h3
    ·rename_i hop
     injection h3 with h3
     subst h3
     have hox:=qiH hE (K:=fun r' s''=>r'=r∧s''=s1) (qeL hop) h1 ⟨rfl,rfl⟩
     obtain⟨r',us',⟨rfl,h6⟩,h7,-⟩:=qbu (t:=s) hop (fun _ _=>rfl) (fun _ _=>rfl) hox
     refine⟨fun hb=>qik hA hE hop h1 hb.dead,fun hb=>h6 ▸ hb.up us',fun _=>⟨fun d _=>by rw[←h6];rfl,fun i hi=>?_⟩,by rw[←h6];rfl⟩
     rcases h7 with rfl|⟨hal,b,rfl⟩
     ·rw[←h6];rfl
     ·rw[←h6,S.blk_up,if_neg]
      rintro rfl
      exact hi (by simp[hal])
    ·split at h3
     ·rename_i ty y z ho
      split at h3
      ·rename_i id off hx
       injection h3 with h3
       subst h3
       rw[ho] at h1
       have h1:q0l T s ty y z=some (r,s1):=h1
       have hloc:=qgH (P:=P) hA ho hx h1 (X:=[])
       unfold q0l at h1
       rw[hx] at h1
       simp only at h1
       split at h1
       ·split at h1
        ·obtain⟨rfl,rfl⟩:=zu h1
         refine⟨fun _=>hloc,fun hb=>hb.up _,fun _=>⟨fun d _=>rfl,fun i hi=>?_⟩,rfl⟩
         rw[S.blk_up,if_neg]
         rintro rfl
         exact hi qxW
        ·cases h1
       ·cases h1
      ·cases h3
     ·rename_i ty y z ho
      injection h3 with h3
      subst h3
      rw[ho] at h1
      have h1:q8x T s ty y z=some (r,s1):=h1
      have hloc:=fun hb:Nb s=>qhT (P:=P) hA ho h1 hb.dead (X:=[])
      unfold q8x at h1
      split at h1
      ·split at h1
       ·split at h1
        ·obtain⟨rfl,rfl⟩:=zu h1
         refine⟨hloc,fun hb=>hb.up _,fun _=>⟨fun d _=>rfl,fun i hi=>?_⟩,rfl⟩
         rw[S.blk_up,if_neg]
         rintro rfl
         exact hi qxW
        ·cases h1
       ·cases h1
      ·cases h1
     ·rename_i args ts ho
      obtain⟨args⟩:=args
      obtain⟨ts⟩:=ts
      rw[ho] at h1
      have h1:xCl T po E s { callee := .builtin .append,args:=⟨args⟩,argTypes:=⟨ts⟩ }=some (r,s1):=h1
      match args,ts,h1,h3,ho with
      | [y,z],[t1,t2],h1,h3,ho=>
       simp only[xCl] at h1
       split at h1
       ·rename_i ht
        have hloc:=fun hb:Nb s=>qlo (P:=P) hA ho ht h1 h3 hb.dead
        obtain⟨id,row,hfp,hs1⟩:∃id row,fp=fpA s id z∧s1=(s.fg id).up [(id,row)]:=by
         have hk:=q3f (K:=fun r' s''=>r'=r∧s''=s1) h1 ⟨rfl,rfl⟩
         obtain⟨e,m,ys,q1,q2,q3,q4,q5,q6,q7,q8⟩:=hk
         simp only[qaz] at h3
         split at h3
         ·rename_i id sz off n hx
          injection h3 with h3
          rw[hx] at q8
          simp only at q8
          obtain⟨p1,p2,cs0,cs,p3,p0,p4,p5,p6,p7,p8,p9,p10⟩:=q8
          exact⟨_,_,h3.symm,p10.symm⟩
         ·rename_i hx
          injection h3 with h3
          rw[hx] at q8
          simp only at q8
          obtain⟨p1,p2,p3,p4,p5⟩:=q8
          exact⟨_,_,h3.symm,p5.symm⟩
         ·rename_i sz n cs hx
          injection h3 with h3
          rw[hx] at q8
          simp only at q8
          obtain⟨p1,p2,p3,p4,p5,p6,p7,p8⟩:=q8
          exact⟨_,_,h3.symm,p8.symm⟩
         ·cases h3
        subst hs1
        have hX:fp.X=[id]:=by rw[hfp];rfl
        refine⟨hloc,fun hb=>Nb.up (s:=s.fg id) (fun i hi=>hb i ((S.live_fg s id i).1 hi)) _,fun hf=>?_,rfl⟩
        have hf':=hf.resolve_left (by rw[hX];simp)
        rw[hX] at hf'
        refine⟨fun d hd=>?_,fun i hi=>?_⟩
        ·show(s.fg id).get d=s.get d
         rw[S.get_fg,←qto];exact hf'.1 d hd
        ·rw[S.blk_up,if_neg (fun h=>hi (by rw[hfp,←h];exact qxW)),S.blk_fg,←quT]
         exact hf'.2 i hi
       ·cases h1
     ·rename_i f args ts ho
      rw[ho] at h1
      have h1:Jt po E s f args.toList ts.toList=some (r,s1):=h1
      have hloc:=qjQ (P:=P) hA hE ho h1 h3
      unfold Jt at h1
      unfold fpC at h3
      split at h1
      ·rename_i g fs caps hfe
       rw[hfe] at h3
       simp only at h3
       by_cases hno:False
       ·exact hno.elim
       ·unfold q4K q97 Zv at h1
        unfold qlc qp7 at h3
        generalize q06 s 60 _ _=l at h1 h3
        generalize List.filter _ _=ln at h1 h3
        generalize q8u s l=bl at h1 h3
        generalize q0G s l=rw' at h1 h3
        have hfc:=q4Q h3
        obtain⟨rs',g1,h1⟩:=qxM.1 h1
        obtain⟨G,g2,h1⟩:=qxM.1 h1
        split at h1
        ·obtain⟨q,g3,h1⟩:=qxM.1 h1
         split at h1
         ·obtain⟨rfl,rfl⟩:=zu h1
          have hX:(bl++rw').drop bl.length=rw':=List.drop_left
          rcases hfc with ⟨⟨c1,c2,c3⟩,rfl⟩|rfl
          ·refine⟨fun _=>hloc,fun hb=>(hb.fgL _).up _,fun hf=>⟨fun d hd=>?_,fun i hi=>?_⟩,qfX _ _⟩
           ·show(s.fgL ((bl++rw').drop bl.length)).get d=s.get d
            rw[hX];exact qdG hf d hd
           ·by_cases his:i∈bl++rw'
            ·exact(q60 hi his).2
            ·rw[qkw c1 his,hX];exact qew hf hi
          ·refine⟨fun _=>hloc,fun hb=>(hb.fgL _).up _,fun hf=>⟨fun d hd=>?_,fun i hi=>?_⟩,qfX _ _⟩
           ·show(s.fgL ((bl++rw').drop bl.length)).get d=s.get d
            rw[hX];exact qdG hf d hd
           ·have hi1:i ∉ wbC s (s.aft (bl++rw') bl.length q.2) bl rw':=fun h=>hi (qxT _ h)
            by_cases his:i∈bl++rw'
            ·exact(q60 hi1 his).2
            ·rw[qfL his (fun h=>hi (qxQ _ h)),hX];exact qew hf hi
         ·cases h1
        ·cases h1
      ·rename_i rid hfe
       rw[hfe] at h3
       cases h3
      ·cases h1
     ·cases h3
   obtain⟨k1,k2,k3,k4⟩:=hcore
   have k5:=qif h3
   refine⟨(fun h=>by cases h),fun _=>k1,fun hb=>Nb.put (s:=s1.kill fp.ks) (fun i hi=>k2 hb i hi) _ _,fun hf=>⟨fun d=>?_,fun i=>?_⟩,by rw[S.put_n];exact k4,fun d hdd=>?_,fun u hu=>?_,k5⟩
   ·rw[S.put_get,S.kill_get]
    by_cases hk:d∈fp.ks
    ·simp only[if_pos hk]
    ·simp only[if_neg hk,(k3 hf).1 d hk]
   ·rw[S.put_blk,S.kill_blk];exact qgP fp.wb i ((k3 hf).2 i)
   ·have:=JC hd d hdd;rw[k4] at this;exact this
   ·obtain⟨y,hy,he⟩:=qyr.1 hu;rw[←he];exact hy
  ·cases h2
 ·rename_i ha
  have ha:act=false:=by cases act<;>simp at ha ⊢
  subst ha
  split at h
  ·rename_i hd
   injection h with h
   injection h with h1 h2
   subst h1 h2
   refine⟨fun _=>rfl,(fun h=>by cases h),fun hb=>hb.put _ _,fun _=>⟨fun d=>by rw[S.put_get];simp,fun i=>by rw[S.put_blk];rfl⟩,S.put_n _ _ _,JC hd,fun u hu=>by simp at hu,.inl rfl⟩
  ·cases h
theorem qot (hA:Ag P T) (hE:Snd P E) (h:xgF P T po E ops o s=some (s',x)):Stp P ops o s s' x:=by
 unfold xgF at h
 split at h
 ·rename_i hg
  obtain⟨h1,h2,h3,h4,h5,h6,h7,h8⟩:=qcI hA hE h
  exact⟨⟨true,by unfold gd;rw[hg],(fun h=>by cases h),fun _ hb=>h2 rfl hb⟩,h4,h5,h6,h7,h3,h8⟩
 ·rename_i j want hg
  split at h
  ·rename_i d hd
   split at h
   ·rename_i b hb
    -- a slot laid down anew with what it holds
    have key:∀(v:Bool) (act:Bool),s.get d = .c (.d (.bool v))→(v==want)=act→xsF P T po E o act (s.put (some d) (.c (.d (.bool v))))=some (s',x)→Stp P ops o s s' x:=by
     intro v act hv hact hx
     obtain⟨h1,h2,h3,h4,h5,h6,h7,h8⟩:=qcI hA hE hx
     have hget:∀i,(s.put (some d) (.c (.d (.bool v)))).get i=s.get i:=fun i=>by
      rw[S.put_get]
      split
      ·rename_i hi;injection hi with hi;subst hi;exact hv.symm
      ·rfl
     have hev:∀y,(s.put (some d) (.c (.d (.bool v)))).ev y=s.ev y:=fun y=>by
      cases y with
      | tmp i=>exact hget i
      | _=>rfl
     have hnb:Nb s→Nb (s.put (some d) (.c (.d (.bool v)))):=fun hb=>hb.put _ _
     refine⟨⟨act,by unfold gd;rw[hg];simp only[hd,hv,hact],h1,fun ha hb=>?_⟩,fun hf=>?_,h5,h6,h7,fun hb=>h3 (hnb hb),by rw[S.put_nx] at h8;exact h8⟩
     ·have hl:=h2 ha (hnb hb)
      intro cx ρ t a w next Q q1 q2 q3 q6 q4 q5
      exact hl cx ρ t a w next Q (fun y hy=>(q1 y hy).trans (hev y).symm) (fun i hi=>q2 i hi) q3 (fun h x hx=>by rw[S.put_nx];exact q6 h x hx) q4 q5
     ·have hf':qeQ x.2 (s.put (some d) (.c (.d (.bool v)))):=by
       rcases hf with hf|hf
       ·exact .inl hf
       ·exact .inr ⟨fun i hi=>by rw[hget];exact hf.1 i hi,fun i hi=>hf.2 i hi⟩
      obtain⟨e1,e2⟩:=h4 hf'
      exact⟨fun i=>by rw[e1,hget],fun i=>e2 i⟩
    split at h
    ·rename_i hbt
     subst hbt
     exact key true want hb (by cases want<;>rfl) h
    ·rename_i hbt
     have hbf:b=false:=by cases b<;>simp at hbt ⊢
     subst hbf
     exact key false (!want) hb (by cases want<;>rfl) h
   ·rename_i hb
    obtain⟨h1,h2,h3,h4,h5,h6,h7,h8⟩:=qcI hA hE h
    exact⟨⟨false,by unfold gd;rw[hg];simp only[hd,hb],h1,fun h=>by cases h⟩,h4,h5,h6,h7,h3,h8⟩
   ·cases h
  ·cases h
theorem qdd (hA:Ag P T) (hE:Snd P E) {A:List (List Nat)} {s0:S}:∀(m k:Nat) (l:List Oper) (s s':S) (acc:List Tx),ops.drop k=l→xdp P T po E ops A s0 m l s acc=some s'→
  ∃(Sq:Nat→S) (tx:Nat→Tx),Sq 0=s∧(∀j,j<m→∃o,ops[k+j]?=some o∧Stp P ops o (Sq j) (Sq (j+1)) (tx j))∧(okP A 0 [] (acc++(List.range m).map tx)=true∧okX ops A s0 (acc++(List.range m).map tx) 0 (acc++(List.range m).map tx)=true∧okK ops A (acc++(List.range m).map tx)=true∧okN (acc++(List.range m).map tx) 0 (acc++(List.range m).map tx)=true)∧xr P T po E ops (ops.drop (k+m)) (Sq m)=some s'
 | 0,k,l,s,s',acc,hl,h=>by
  unfold xdp at h
  split at h
  ·rename_i hc
   exact⟨fun _=>s,fun _=>((.any,[]),⟨[],[],[],[],[]⟩),rfl,fun j hj=>by omega,by simpa using hc,by rw[Nat.add_zero,hl];exact h⟩
  ·cases h
 | m+1,k,[],s,s',acc,hl,h=>by cases h
 | m+1,k,o::l,s,s',acc,hl,h=>by
  unfold xdp at h
  obtain⟨⟨s1,x⟩,h1,h2⟩:=qxM.1 h
  have hk:ops[k]?=some o:=by
   have:=List.getElem?_drop (xs:=ops) (i:=k) (j:=0)
   rw[hl] at this
   simpa using this.symm
  have hl':ops.drop (k+1)=l:=by
   have:=qyu (l:=ops) (i:=1) (j:=k)
   rw[hl] at this
   simpa using this.symm
  obtain⟨Sq,tx,g1,g2,g3,g4⟩:=qdd hA hE m (k+1) l s1 s' _ hl' h2
  refine⟨fun j=>if j=0 then s else Sq (j-1),fun j=>if j=0 then x else tx (j-1),rfl,fun j hj=>?_,?_,?_⟩
  ·cases j with
   | zero=>
    refine⟨o,hk,?_⟩
    have:=qot hA hE h1
    simp only[if_true]
    rw[if_neg (by omega),show 0+1-1=0 from rfl,g1]
    exact this
   | succ j=>
    obtain⟨o',q1,q2⟩:=g2 j (by omega)
    refine⟨o',by rw[←q1];congr 1;omega,?_⟩
    simpa using q2
  ·have:acc++(List.range (m+1)).map (fun j=>if j=0 then x else tx (j-1))=acc++[x]++(List.range m).map tx:=by
    rw[List.range_succ_eq_map,qy4,List.map_map,qym]
    rfl
   rw[this];exact g3
  ·rw[show k+(m+1)=k+1+m by omega]
   simpa using g4
end
end
noncomputable section
open Go.RowKit
def stT (ops:List Oper) (tx:Nat→Tx) (s0:S) (p:Nat→Bool):Nat→S
 | 0=>s0
 | i+1=>if p i=true then(((stT ops tx s0 p i).up (tx i).1.2).kill (tx i).2.ks).put (q2s ops i) (tx i).1.1 else stT ops tx s0 p i
section comb
variable {ops:List Oper} {tx:Nat→Tx} {s0:S}
theorem q2M {p q:Nat→Bool} {d:Nat}:∀k,(∀i,i<k→q2s ops i=some d∨d∈(tx i).2.ks→p i=q i)→(stT ops tx s0 p k).get d=(stT ops tx s0 q k).get d
 | 0,_=>rfl
 | k+1,h=>by
  have ih:=q2M k (fun i hi=>h i (by omega))
  have key:∀(p:Nat→Bool),(stT ops tx s0 p (k+1)).get d=if p k=true then(if q2s ops k=some d then(tx k).1.1 else if d∈(tx k).2.ks then .any else(stT ops tx s0 p k).get d) else(stT ops tx s0 p k).get d:=fun p=>by
   show(if p k=true then _ else _:S).get d=_
   by_cases hp:p k=true
   ·rw[if_pos hp,if_pos hp,S.put_get,S.kill_get,S.up_get]
   ·rw[if_neg hp,if_neg hp]
  rw[key,key,ih]
  by_cases hd:q2s ops k=some d∨d∈(tx k).2.ks
  ·rw[h k (by omega) hd]
  ·rw[if_neg (fun h=>hd (.inl h)),if_neg (fun h=>hd (.inr h))]
   split<;>split<;>rfl
theorem q1S {p q:Nat→Bool} {x:Nat}:∀k,(∀i,i<k→(∃b,(x,b)∈(tx i).1.2)→p i=q i)→(stT ops tx s0 p k).blk x=(stT ops tx s0 q k).blk x
 | 0,_=>rfl
 | k+1,h=>by
  have ih:=q1S k (fun i hi=>h i (by omega))
  have key:∀(p:Nat→Bool),(stT ops tx s0 p (k+1)).blk x=if p k=true then lk (tx k).1.2 x ((stT ops tx s0 p k).blk x) else(stT ops tx s0 p k).blk x:=fun p=>by
   show(if p k=true then _ else _:S).blk x=_
   split
   ·rw[S.put_blk,S.kill_blk,q3F]
   ·rfl
  rw[key,key,ih]
  by_cases hd:∃b,(x,b)∈(tx k).1.2
  ·rw[h k (by omega) hd]
  ·rw[Jo _ x _ (fun b hb=>hd ⟨b,hb⟩)]
   split<;>split<;>rfl
theorem qdw {p:Nat→Bool} {j:Nat}:∀k,j≤k→stT ops tx s0 (fun i=>p i&&decide (i<j)) k=stT ops tx s0 p j
 | 0,h=>by
  have:j=0:=by omega
  subst this;rfl
 | k+1,h=>by
  have heq:∀l,l≤j→stT ops tx s0 (fun i=>p i&&decide (i<j)) l=stT ops tx s0 p l:=by
   intro l
   induction l with
   | zero=>intro _;rfl
   | succ l ih=>
    intro hl
    unfold stT
    rw[ih (by omega)]
    have:decide (l<j)=true:=qyH (by omega)
    simp only[this,qyI]
  by_cases hj:j=k+1
  ·subst hj;exact heq _ (qxX _)
  ·have ih:=qdw (p:=p) (j:=j) k (by omega)
   have e1:∀q:Nat→Bool,stT ops tx s0 q (k+1)=if q k=true then(((stT ops tx s0 q k).up (tx k).1.2).kill (tx k).2.ks).put (q2s ops k) (tx k).1.1 else stT ops tx s0 q k:=fun _=>rfl
   rw[e1,if_neg (by simp;omega)]
   exact ih
theorem qa5 {α:Type} {Pr:α→Prop} {i:Nat} {z:α} (hz:Pr z):∀{t:List (Nat×α)},(∀u∈t,u.1=i→Pr u.2)→Pr (lk t i z)
 | [],_=>hz
 | (j,x)::t,h=>by
  unfold lk
  split
  ·rename_i hj;exact h (j,x) qxW hj
  ·exact qa5 hz (fun u hu=>h u (qxP _ hu))
theorem qcd {fp:Fp} (h0:qpb fp s0=true) (p:Nat→Bool):∀k,(∀i,i<k→p i=true→qcY ops fp i (tx i)=true)→(∀d,d ∉ fp.ks→((stT ops tx s0 p k).get d).fgL fp.X=(stT ops tx s0 p k).get d)∧∀x,x ∉ fp.wb→((stT ops tx s0 p k).blk x).fgL fp.X=(stT ops tx s0 p k).blk x
 | 0,_=>by
  simp only[qpb,qyd,qxY,qyc] at h0
  refine⟨fun d hd=>?_,fun x hx=>?_⟩
  ·refine qa5 (Pr:=fun r:R=>r.fgL fp.X=r) rfl (fun u hu he=>?_)
   rcases h0.1 u hu with h|h
   ·exact absurd (by simpa using h) (he ▸ hd)
   ·exact qsc h
  ·refine qa5 (Pr:=fun r:B=>r.fgL fp.X=r) rfl (fun u hu he=>?_)
   rcases h0.2 u hu with h|h
   ·exact absurd (by simpa using h) (he ▸ hx)
   ·exact qv4 h
 | k+1,h1=>by
  obtain⟨g1,g2⟩:=qcd h0 p k (fun i hi=>h1 i (by omega))
  unfold stT
  split
  ·rename_i hp
   have hx:=h1 k (by omega) hp
   simp only[qcY,qyd,qxY,qyc] at hx
   refine⟨fun d hdk=>?_,fun x hxw=>?_⟩
   ·rw[S.put_get,S.kill_get,S.up_get]
    split
    ·rename_i hd
     rcases hx.1 with h|h
     ·exact qsc h
     ·rw[hd] at h
      exact absurd (by simpa using h) hdk
    ·split
     ·rfl
     ·exact g1 d hdk
   ·rw[S.put_blk,S.kill_blk,q3F]
    refine qa5 (Pr:=fun r:B=>r.fgL fp.X=r) (g2 x hxw) (fun u hu he=>?_)
    rcases hx.2 u hu with h|h
    ·exact absurd (by simpa using h) (he ▸ hxw)
    ·exact qv4 h
  ·exact⟨g1,g2⟩
theorem qei {A:List (List Nat)} {fp:Fp} {j:Nat}:∀{l:List Tx} {i:Nat},qkq ops A fp j i l=true→∀(k:Nat) (y:Tx),l[k]?=some y→i+k=j∨j∈A.getD (i+k) []∨qcY ops fp (i+k) y=true
 | [],i,_,k,y,hk=>by simp at hk
 | x::l,i,h,k,y,hk=>by
  simp only[qkq,qyd,qyc,beq_iff_eq,qyl] at h
  cases k with
  | zero=>
   simp only[qxR,qyw] at hk
   subst hk
   rcases h.1 with (h|h)|h
   ·exact .inl h
   ·exact .inr (.inl h)
   ·exact .inr (.inr h)
  | succ k=>
   have:=qei h.2 k y (by simpa using hk)
   rw[show i+1+k=i+(k+1) by omega] at this
   exact this
theorem qhI {A:List (List Nat)} {l0:List Tx}:∀{l:List Tx} {j:Nat},okX ops A s0 l0 j l=true→∀(k:Nat) (x:Tx),l[k]?=some x→x.2.X=[]∨(qpb x.2 s0=true∧qkq ops A x.2 (j+k) 0 l0=true)
 | [],j,_,k,x,hk=>by simp at hk
 | y::l,j,h,k,x,hk=>by
  simp only[okX,qyd] at h
  cases k with
  | zero=>
   simp only[qxR,qyw] at hk
   subst hk
   have h1:=h.1
   split at h1
   ·rename_i he;exact .inl (by simpa using he)
   ·simp only[qyd] at h1;exact .inr h1
  | succ k=>
   have:=qhI h.2 k x (by simpa using hk)
   rw[show j+1+k=j+(k+1) by omega] at this
   exact this
theorem qeh {A:List (List Nat)} {j:Nat} {y:Tx}:∀{l:List Tx} {i:Nat},qkG ops A j y i l=true→∀(k:Nat) (x:Tx),l[k]?=some x→i+k<j→q2m ops (i+k) j x y=true→i+k∈A.getD j []
 | [],i,_,k,x,hk=>by simp at hk
 | z::l,i,h,k,x,hk=>by
  simp only[qkG,qyd,qyc,Bool.not_eq_true',qyl,decide_eq_false_iff_not] at h
  cases k with
  | zero=>
   simp only[qxR,qyw] at hk
   subst hk
   intro h1 h2
   rcases h.1 with (h|h)|h
   ·exact absurd h1 h
   ·rw[Nat.add_zero] at h2;rw[h] at h2;cases h2
   ·exact h
  | succ k=>
   have:=qeh h.2 k x (by simpa using hk)
   rw[show i+1+k=i+(k+1) by omega] at this
   exact this
theorem qcF {A:List (List Nat)} {l0:List Tx}:∀{l:List Tx} {j:Nat},qkV ops A l0 j l=true→∀(k:Nat) (y:Tx),l[k]?=some y→qkG ops A (j+k) y 0 l0=true
 | [],j,_,k,y,hk=>by simp at hk
 | z::l,j,h,k,y,hk=>by
  simp only[qkV,qyd] at h
  cases k with
  | zero=>simp only[qxR,qyw] at hk;subst hk;exact h.1
  | succ k=>
   have:=qcF h.2 k y (by simpa using hk)
   rw[show j+1+k=j+(k+1) by omega] at this
   exact this
theorem qn7 {A:List (List Nat)} {l:List Tx} (h:okK ops A l=true) {i j:Nat} {x y:Tx} (hij:i<j) (hx:l[i]?=some x) (hy:l[j]?=some y) (hc:q2m ops i j x y=true):i∈A.getD j []:=by
 unfold okK at h
 rw[qyc] at h
 rcases h with h|h
 ·rw[qxY] at h
  have h1:=h x (qxI hx)
  have h2:=h y (qxI hy)
  rw[List.isEmpty_iff] at h1 h2
  unfold q2m at hc
  rw[h1,h2] at hc
  cases hc
 ·have h1:=qcF h j y hy
  rw[qy5] at h1
  have h2:=qeh h1 i x hx
  rw[qy5] at h2
  exact h2 hij hc
theorem q7F {i d:Nat} {o:Oper} (ho:ops[i]?=some o) (h:d∈q0r ops o∨o.dst=some d):(qea ops i).contains d=true:=by
 unfold qea
 rw[ho]
 simp only[qyl,qyb]
 rcases h with h|h
 ·exact .inl h
 ·exact .inr (by rw[h];simp)
theorem qaE {a b:Fp} (h:a.none?=true):q0B a b=false:=by
 simp only[Fp.none?,qyd,List.isEmpty_iff] at h
 simp[q0B,h.1,h.2]
theorem qha {A:List (List Nat)}:∀{l:List Tx} {j:Nat} {prev:List (Nat×Fp)},okP A j prev l=true→
  (∀(k:Nat) (x:Tx),l[k]?=some x→(∀q∈prev,q0B q.2 x.2=true→q.1∈A.getD (j+k) [])∧∀(i:Nat) (y:Tx),i<k→l[i]?=some y→q0B y.2 x.2=true→j+i∈A.getD (j+k) [])
 | [],j,prev,_,k,x,hk=>by simp at hk
 | x0::l,j,prev,h,k,x,hk=>by
  simp only[okP,qyd,qxY] at h
  cases k with
  | zero=>
   simp only[qxR,qyw] at hk
   subst hk
   refine⟨fun q hq hc=>?_,fun i y hi=>by omega⟩
   have h1:=h.1 q hq
   rw[if_pos hc] at h1
   simpa using h1
  | succ k=>
   obtain⟨g1,g2⟩:=qha h.2 k x (by simpa using hk)
   have e1:j+1+k=j+(k+1):=by omega
   rw[e1] at g1 g2
   refine⟨fun q hq hc=>?_,fun i y hi hy hc=>?_⟩
   ·refine g1 q ?_ hc
    split
    ·exact hq
    ·exact qxP _ hq
   ·cases i with
    | zero=>
     simp only[qxR,qyw] at hy
     subst hy
     by_cases hn:x0.2.none?=true
     ·rw[qaE hn] at hc;cases hc
     ·refine g1 (j,x0.2) ?_ hc
      rw[if_neg hn];exact qxW
    | succ i=>
     have:=g2 i y (by omega) (by simpa using hy) hc
     rw[show j+(i+1)=j+1+i by omega];exact this
end comb
section
variable {P:Program} {T:Ty} {po:Pol} {E:Orc} {cx:Cx}
theorem qlP (hA:Ag P T) (hE:Snd P E) {ops:Array Oper} {Q:Exit→Act→World→Prop} {q:Nat} {o:Oper} {s s':S} {ρ:Pl} {a:Act} {w:World} (hq:ops[q]?=some o) (hs:Sim cx ρ s a w) (h:xr P T po E ops.toList (ops.toList.drop q) s=some s') :
  wpOpIn (FW cx.ro) 0 P ops Q q (fun a' w'=>∃ρ' s1,Sim cx ρ' s1 a' w'∧xr P T po E ops.toList (ops.toList.drop (q+1)) s1=some s') a w:=by
 have hd:ops.toList.drop q=o::ops.toList.drop (q+1):=by
  have hlt:q<ops.toList.length:=by have:=(Array.getElem?_eq_some_iff.1 hq).1;simpa using this
  rw[List.drop_eq_getElem_cons hlt]
  congr 1
  have:=(Array.getElem?_eq_some_iff.1 hq).2
  simpa using this
 rw[hd] at h
 unfold xr at h
 obtain⟨s1,h1,h2⟩:=qxM.1 h
 unfold wpOpIn
 rw[hq]
 simp only
 have key:∀(s0:S) (act:Bool),Sim cx ρ s0 a w→Region.wanted o (yielded ops a.tmps)=act→xst P T po E o act s0=some s1→
   if Region.wanted o (yielded ops a.tmps)=true then o.wpIn (FW cx.ro) 0 P a w (fun a' w'=>∃ρ' s1,Sim cx ρ' s1 a' w'∧xr P T po E ops.toList (ops.toList.drop (q+1)) s1=some s') Q else(∀f,o.about P w a.eval=some f→(FW cx.ro).fn f)∧(fun a' w'=>∃ρ' s1,Sim cx ρ' s1 a' w'∧xr P T po E ops.toList (ops.toList.drop (q+1)) s1=some s') (a.put o.dst undef) w:=by
  intro s0 act h3 h4 h5
  have:=q9g (next:=fun a' w'=>∃ρ' s1,Sim cx ρ' s1 a' w'∧xr P T po E ops.toList (ops.toList.drop (q+1)) s1=some s') (Q:=Q) hA hE h3 h5 (fun ρ' a' w' h6=>⟨ρ',s1,h6,h2⟩)
  rw[h4]
  split
  ·rename_i ha;rw[if_pos ha] at this;exact this
  ·rename_i ha;rw[if_neg ha] at this;exact⟨q5O,this⟩
 unfold xgd at h1
 cases hi:ipA T po E s o with
 | some y=>
  rw[hi] at h1
  replace h1:y=some s1:=h1
  subst h1
  obtain⟨i1,i2⟩:=qhq (next:=fun a' w'=>∃ρ' s1,Sim cx ρ' s1 a' w'∧xr P T po E ops.toList (List.drop (q+1) ops.toList) s1=some s') (Q:=Q) hA hE hs hi (fun ρ' a' w' h6=>⟨ρ',_,h6,h2⟩)
  rw[if_pos (by unfold Region.wanted;rw[i1])]
  exact i2
 | none=>
 rw[hi] at h1
 replace h1:q8t P T po E ops.toList o s=some s1:=h1
 unfold q8t at h1
 split at h1
 ·rename_i hg
  exact key s true hs (by unfold Region.wanted;rw[hg]) h1
 ·rename_i j want hg
  split at h1
  ·rename_i d hd
   split at h1
   ·rename_i b hb
    have hgd:gd ops.toList s o.guard=some (b==want):=by unfold gd;rw[hg];simp only[hd,hb]
    have hw:=JZ hs hgd
    split at h1
    ·rename_i hbt
     subst hbt
     exact key _ want (hs.lit hb) (by rw[hw];cases want<;>rfl) h1
    ·rename_i hbf
     have hbf:b=false:=by cases b<;>simp at hbf ⊢
     subst hbf
     exact key _ (!want) (hs.lit hb) (by rw[hw];cases want<;>rfl) h1
   ·rename_i hb
    have hgd:gd ops.toList s o.guard=some false:=by unfold gd;rw[hg];simp only[hd,hb]
    exact key s false hs (JZ hs hgd) h1
   ·cases h1
  ·cases h1
theorem qe2 {lim i:Nat}:∀{l:List Tx} {j:Nat},qlY lim i j l=true→∀(k:Nat) (x:Tx),l[k]?=some x→i≠j+k→∀u∈x.1.2,u.1<lim
 | [],_,_,k,x,hk=>by simp at hk
 | y::l,j,h,k,x,hk=>by
  unfold qlY at h
  rw[qyd] at h
  intro hne u hu
  cases k with
  | zero=>
   simp only[qxR,qyw] at hk
   subst hk
   have h1:=h.1
   rw[qyc] at h1
   rcases h1 with h1|h1
   ·exact absurd (by simpa using h1) hne
   ·have:=qxY.1 h1 u hu
    rwa [Nat.blt_eq] at this
  | succ k=>exact qe2 h.2 k x (by simpa using hk) (by omega) u hu
theorem qhn {L:List Tx}:∀{l:List Tx} {j:Nat},okN L j l=true→∀(k:Nat) (x:Tx),l[k]?=some x→∀lim,x.2.nw=[lim]→qlY lim (j+k) 0 L=true
 | [],_,_,k,x,hk=>by simp at hk
 | y::l,j,h,k,x,hk=>by
  unfold okN at h
  rw[qyd] at h
  intro lim hl
  cases k with
  | zero=>
   simp only[qxR,qyw] at hk
   subst hk
   have h1:=h.1
   rw[hl] at h1
   exact h1
  | succ k=>
   have:=qhn h.2 k x (by simpa using hk) lim hl
   rwa [show j+1+k=j+(k+1) by omega] at this
theorem qr3 (hA:Ag P T) (hE:Snd P E) {id:Nat} {ops:Array Oper} {Q':Exit→S→Prop} {s s':S} {m:Nat} {A:List (List Nat)} (hm:P.follows .mixedOrders=true) (hchk:qii ops.toList m A=true)
  (h:xdp P T po E ops.toList A s m ops.toList s []=some s') (hQ:Q' .normal s'):J P cx (.region id ops true) Q' s:=by
 intro ρ a w hs
 obtain⟨Sq,tx,r0,r1,⟨r2,r3,rk,rn⟩,r4⟩:=qdd hA hE m 0 ops.toList s s' [] rfl h
 rw[qy1] at r2 r3 rk rn
 rw[qy5] at r4
 -- the checks
 simp only[qii,qyd,qxY,qyD,qyG] at hchk
 obtain⟨⟨⟨⟨c1,c2⟩,c3⟩,c5⟩,c6⟩:=hchk
 have hlen:ops.toList.length=ops.size:=by simp
 have hget:∀(i:Nat) (o:Oper),ops[i]?=some o→ops.toList[i]?=some o:=fun i o h=>by rw[Array.getElem?_toList];exact h
 have hget':∀(i:Nat) (o:Oper),ops.toList[i]?=some o→ops[i]?=some o:=fun i o h=>by rw[Array.getElem?_toList] at h;exact h
 have hlt:∀(i:Nat) (o:Oper),ops[i]?=some o→i<ops.toList.length:=fun i o h=>by rw[hlen];exact(Array.getElem?_eq_some_iff.1 h).1
 obtain⟨An,hAn⟩:∃An,An=que ops.toList:=⟨_,rfl⟩
 rw[←hAn] at c1 c3 c5 c6
 have d1:∀(i:Nat) (o:Oper),ops[i]?=some o→(∀k∈QZ o,k<i)∧∀k∈An.getD i [],k∈QZ o∨∃d∈QZ o,k∈An.getD d []:=fun i o ho=>by
  have:=c1 i (hlt i o ho)
  rw[hget i o ho] at this
  simp only[qyd,qxY,qyG,qyc,qyl,qyB] at this
  exact this
 have hanc:∀E,Run ops E→∀(i:Nat) (o:Oper),ops[i]?=some o→(∀k∈QZ o,k∈E)→∀k∈An.getD i [],k∈E:=by
  intro E hr i
  induction i using Nat.strongRecOn with
  | _ i ih=>
   intro o ho hE k hk
   rcases(d1 i o ho).2 k hk with h1|⟨d,h1,h2⟩
   ·exact hE k h1
   ·have hdE:=hE d h1
    have hdl:=hr.lt d hdE
    exact ih d ((d1 i o ho).1 d h1) ops[d] (qy8 hdl) (fun k' hk'=>hr.closed d hdE _ (qy8 hdl) k' hk') k h2
 have hancE:∀E,Run ops E→∀j∈E,∀k∈An.getD j [],k∈E:=fun E hr j hj k hk=>by
  have hjl:=hr.lt j hj
  exact hanc E hr j ops[j] (qy8 hjl) (fun k' hk'=>hr.closed j hj _ (qy8 hjl) k' hk') k hk
 have hmn:m≤ops.size:=by rw[←hlen];exact c2
 have hop:∀i,i<m→∃o,ops[i]?=some o:=fun i hi=>⟨_,qy8 (by omega)⟩
 have hst:∀j (o:Oper),j<m→ops[j]?=some o→Stp P ops.toList o (Sq j) (Sq (j+1)) (tx j):=fun j o hj ho=>by
  obtain⟨o',q1,q2⟩:=r1 j hj
  rw[qy5,hget j o ho] at q1
  injection q1 with q1
  subst q1;exact q2
 have htx:∀i,i<m→((List.range m).map tx)[i]?=some (tx i):=fun i hi=>by simp[hi]
 -- what meets is in order
 have cB:∀i j,i<j→j<m→q0B (tx i).2 (tx j).2=true→i∈An.getD j []:=fun i j hij hj hc=>by
  have:=(qha r2 j (tx j) (htx j hj)).2 i (tx i) hij (htx i (by omega)) hc
  rw[qy5,qy5] at this
  have h6:=c6 j hj i this
  simpa using h6
 have cS:∀i j,i<j→j<m→q95 ops.toList i j=true→i∈An.getD j []:=fun i j hij hj hc=>by
  have:=c3 j hj i hij
  simp only[qyc,Bool.not_eq_true',qyl] at this
  rcases this with h1|h1
  ·rw[hc] at h1;cases h1
  ·exact h1
 have hdst:∀(j:Nat) (o:Oper),ops[j]?=some o→q2s ops.toList j=o.dst:=fun j o ho=>by unfold q2s;rw[hget j o ho];rfl
 -- a writer and a reader of one slot; two writers of one slot
 have cS1:∀(i j:Nat) (o o':Oper) (d:Nat),i<j→j<m→ops[i]?=some o→ops[j]?=some o'→o.dst=some d→(d∈q0r ops.toList o'∨o'.dst=some d)→i∈An.getD j []:=fun i j o o' d hij hj ho ho' hd hx=>by
  refine cS i j hij hj ?_
  unfold q95
  rw[hget i o ho,hget j o' ho']
  simp only[hd,qyc,qyl,qyG]
  exact .inl hx
 have cS2:∀(i j:Nat) (o o':Oper) (d:Nat),i<j→j<m→ops[i]?=some o→ops[j]?=some o'→o'.dst=some d→d∈q0r ops.toList o→i∈An.getD j []:=fun i j o o' d hij hj ho ho' hd hx=>by
  refine cS i j hij hj ?_
  unfold q95
  rw[hget i o ho,hget j o' ho']
  simp only[hd,qyc,qyl]
  exact .inr hx
 -- far
 have hAnlt:∀(i:Nat) (o:Oper),ops[i]?=some o→∀k∈An.getD i [],k<i:=by
  intro i
  induction i using Nat.strongRecOn with
  | _ i ih=>
   intro o ho k hk
   rcases(d1 i o ho).2 k hk with h1|⟨d,h1,h2⟩
   ·exact(d1 i o ho).1 k h1
   ·have hd:=(d1 i o ho).1 d h1
    have hdl:d<ops.size:=by have:=hlt i o ho;rw[hlen] at this;omega
    have:=ih d hd ops[d] (qy8 hdl) k h2
    omega
 have cK:∀i j,i<j→j<m→q2m ops.toList i j (tx i) (tx j)=true→i∈An.getD j []:=fun i j hij hj hc=>by
  have:=qn7 rk hij (htx i (by omega)) (htx j hj) hc
  have h6:=c6 j hj i this
  simpa using h6
 have cK1:∀(i j:Nat) (o':Oper) (d:Nat),i<j→j<m→ops[j]?=some o'→d∈(tx i).2.ks→(d∈q0r ops.toList o'∨o'.dst=some d)→i∈An.getD j []:=fun i j o' d hij hj ho' hd hx=>by
  refine cK i j hij hj ?_
  simp only[q2m,qyc,qyB]
  exact .inl ⟨d,hd,.inl (q7F (hget j o' ho') hx)⟩
 have cK2:∀(i j:Nat) (o:Oper) (d:Nat),i<j→j<m→ops[i]?=some o→d∈(tx j).2.ks→(d∈q0r ops.toList o∨o.dst=some d)→i∈An.getD j []:=fun i j o d hij hj ho hd hx=>by
  refine cK i j hij hj ?_
  simp only[q2m,qyc,qyB]
  exact .inr ⟨d,hd,q7F (hget i o ho) hx⟩
 have cK3:∀(i j:Nat) (d:Nat),i<j→j<m→d∈(tx i).2.ks→d∈(tx j).2.ks→i∈An.getD j []:=fun i j d hij hj hd hd'=>by
  refine cK i j hij hj ?_
  simp only[q2m,qyc,qyB,qyl]
  exact .inl ⟨d,hd,.inr hd'⟩
 have hfar:∀c,c<m→∀(p:Nat→Bool) (k:Nat),k≤m→(∀i,i<k→p i=true→i≠c∧c ∉ An.getD i [])→qeQ (tx c).2 (stT ops.toList tx s p k):=fun c hc p k hk hp=>by
  rcases qhI r3 c (tx c) (htx c hc) with h1|⟨h1,h2⟩
  ·exact .inl h1
  ·refine .inr (qcd h1 p k (fun i hi hpi=>?_))
   obtain⟨p1,p2⟩:=hp i hi hpi
   have h3:=qei h2 i (tx i) (htx i (by omega))
   rw[qy5,qy5] at h3
   rcases h3 with h3|h3|h3
   ·exact absurd h3 p1
   ·exact absurd (by simpa using c6 i (by omega) c h3) p2
   ·exact h3
 have farext:∀{fp:Fp} {t t':S},(∀d,t'.get d=t.get d)→(∀x,t'.blk x=t.blk x)→qeQ fp t→qeQ fp t':=fun h1 h2 h=>by
  rcases h with h|h
  ·exact .inl h
  ·exact .inr ⟨fun d hd=>by rw[h1];exact h.1 d hd,fun x hx=>by rw[h2];exact h.2 x hx⟩
 -- the text's states
 obtain⟨tp,htp⟩:∃tp:Nat→Bool,tp=fun _=>true:=⟨_,rfl⟩
 have htext:∀j,j≤m→(∀d,(Sq j).get d=(stT ops.toList tx s tp j).get d)∧(∀x,(Sq j).blk x=(stT ops.toList tx s tp j).blk x)∧(Sq j).n=s.n∧Nb (Sq j):=by
  intro j
  induction j with
  | zero=>intro _;rw[r0];exact⟨fun _=>rfl,fun _=>rfl,rfl,hs.nx⟩
  | succ j ih=>
   intro hj
   obtain⟨i1,i2,i3,i4⟩:=ih (by omega)
   obtain⟨o,ho⟩:=hop j (by omega)
   have hstp:=hst j o (by omega) ho
   obtain⟨e1,e2⟩:=hstp.eff (farext i1 i2 (hfar j (by omega) tp j (by omega) (fun i hi _=>⟨by omega,fun hj'=>by
    obtain⟨oi,hoi⟩:=hop i (by omega)
    have:=hAnlt i oi hoi j hj'
    omega⟩)))
   have hs1:stT ops.toList tx s tp (j+1)=(((stT ops.toList tx s tp j).up (tx j).1.2).kill (tx j).2.ks).put (q2s ops.toList j) (tx j).1.1:=by
    show(if tp j=true then _ else _)=_
    rw[htp,if_pos rfl]
   refine⟨fun d=>?_,fun x=>?_,hstp.n.trans i3,hstp.nb i4⟩
   ·rw[e1,hs1,S.put_get,S.kill_get,S.up_get,hdst j o ho,i1]
   ·rw[e2,hs1,S.put_blk,S.kill_blk,q3F,i2]
 -- the state behind some operations
 let pE:List Nat→Nat→Bool:=fun E i=>decide (i∈E)
 have hcut:∀j,j≤m→stT ops.toList tx s (fun i=>tp i&&decide (i<j)) m=stT ops.toList tx s tp j:=fun j hj=>qdw m hj
 have htpd:∀i j,(tp i&&decide (i<j))=decide (i<j):=fun i j=>by rw[htp];simp
 have hkeywb:∀i,i<m→∀x,(∃b,(x,b)∈(tx i).1.2)→x∈(tx i).2.wb:=fun i hi x ⟨b,hb⟩=>by
  obtain⟨o,ho⟩:=hop i hi
  exact(hst i o hi ho).us _ hb
 have htp1:∀j,stT ops.toList tx s tp (j+1)=(((stT ops.toList tx s tp j).up (tx j).1.2).kill (tx j).2.ks).put (q2s ops.toList j) (tx j).1.1:=fun j=>by
  show(if tp j=true then _ else _)=_
  rw[htp,if_pos rfl]
 -- all of the prefix done: the text's state
 have hfull:∀L ρ t a w,(∀i,i∈L↔i<m)→(∀d,t.get d=(stT ops.toList tx s (pE L) m).get d)→(∀x,t.blk x=(stT ops.toList tx s (pE L) m).blk x)→t.n=s.n→Sim cx ρ t a w→Sim cx ρ (Sq m) a w:=by
  intro L ρ t a w hL h1 h2 h3 hsim
  obtain⟨i1,i2,i3,i4⟩:=htext m (qxX _)
  have e:∀i,i<m→pE L i=(tp i&&decide (i<m)):=fun i hi=>by rw[htpd];simp[pE,hL]
  refine hsim.ext (fun d=>?_) (fun x=>?_) (i3.trans h3.symm) i4
  ·rw[i1,h1,q2M m (fun i hi _=>e i hi),hcut m (qxX _)]
  ·rw[i2,h2,q1S m (fun i hi _=>e i hi),hcut m (qxX _)]
 refine qaI hm (fun i o ho k hk=>(d1 i o ho).1 k hk)
  (fun L a w=>∃ρ t,Sim cx ρ t a w∧(((∀i∈L,i<m)∧(∀d,t.get d=(stT ops.toList tx s (pE L) m).get d)∧(∀x,t.blk x=(stT ops.toList tx s (pE L) m).blk x)∧t.n=s.n)∨∃q,m≤q∧(∀i,i∈L↔i<q)∧xr P T po E ops.toList (ops.toList.drop q) t=some s')) ?_ ?_ ⟨ρ,s,hs.drew,.inl ⟨fun i h=>by simp at h,fun d=>?_,fun x=>?_,rfl⟩⟩
 rotate_left 2
 ·have:(stT ops.toList tx s (pE []) m).get d=(stT ops.toList tx s (fun i=>tp i&&decide (i<0)) m).get d:=q2M m (fun i _ _=>by simp[pE])
  rw[this,hcut 0 (qy7 _)];rfl
 ·have:(stT ops.toList tx s (pE []) m).blk x=(stT ops.toList tx s (fun i=>tp i&&decide (i<0)) m).blk x:=q1S m (fun i _ _=>by simp[pE])
  rw[this,hcut 0 (qy7 _)];rfl
 ·rintro L a w i o hr ⟨ρ,t,hsim,hcase⟩ hiL ho hdeps
  have hsuf:∀q t,m≤q→(∀j,j∈L↔j<q)→Sim cx ρ t a w→xr P T po E ops.toList (ops.toList.drop q) t=some s'→i=q→
    wpOpIn (FW cx.ro) 0 P ops (fun e a' w'=>∃s' ρ',Q' e s'∧Sim cx ρ' s' a' w') i (fun a' w'=>∃ρ t,Sim cx ρ t a' w'∧(((∀k∈i::L,k<m)∧(∀d,t.get d=(stT ops.toList tx s (pE (i::L)) m).get d)∧(∀x,t.blk x=(stT ops.toList tx s (pE (i::L)) m).blk x)∧t.n=s.n)∨∃q,m≤q∧(∀k,k∈i::L↔k<q)∧xr P T po E ops.toList (ops.toList.drop q) t=some s')) a w:=by
   intro q t hq hL hs' hv hiq
   subst hiq
   refine wpOpIn_mono (fun a' w' ⟨ρ',s'',g1,g2⟩=>?_) (qlP hA hE ho hs' hv)
   exact⟨ρ',s'',g1,.inr ⟨i+1,by omega,fun k=>by rw[qy3,hL];omega,g2⟩⟩
  have hin:i<ops.size:=(Array.getElem?_eq_some_iff.1 ho).1
  have h5:m≤i→∀j,j<i→j∈L:=fun hmi j hj=>by
   have:=c5 i (by rw[hlen];exact hin)
   simp only[qyc,qyG,qxY,qyD,qyl] at this
   rcases this with h|h
   ·omega
   ·exact hanc L hr i o ho hdeps j (h j hj)
  rcases hcase with ⟨hLm,t1,t2,t3⟩|⟨q,hq,hL,hv⟩
  ·by_cases him:i<m
   ·have hstp:=hst i o him ho
    obtain⟨q1,q2,q3,q4⟩:=htext i (by omega)
    -- before and behind
    have hbefore:∀k,i∈An.getD k []→k∈L→False:=fun k hk hkL=>hiL (hancE L hr k hkL i hk)
    have hafter:∀k,k∈An.getD i []→k∈L:=fun k hk=>hanc L hr i o ho hdeps k hk
    have hslot:∀d∈q0r ops.toList o,t.get d=(Sq i).get d:=fun d hd=>by
     rw[t1,q1,←hcut i (by omega)]
     refine q2M m (fun k hk hkd=>?_)
     rw[htpd]
     obtain⟨ok,hok⟩:=hop k hk
     rw[hdst k ok hok] at hkd
     rcases Nat.lt_trichotomy k i with h|h|h
     ·rw[qyH h]
      refine qyH (hafter k ?_)
      rcases hkd with hkd|hkd
      ·exact cS1 k i ok o d h him hok ho hkd (.inl hd)
      ·exact cK1 k i o d h him ho hkd (.inl hd)
     ·subst h;simp[pE,hiL]
     ·rw[decide_eq_false (by omega)]
      refine decide_eq_false fun hkL=>hbefore k ?_ hkL
      rcases hkd with hkd|hkd
      ·exact cS2 i k o ok d h hk ho hok hkd hd
      ·exact cK2 i k o d h hk ho hkd (.inl hd)
    have hblk:∀x,x∈(tx i).2.rb∨x∈(tx i).2.wb→t.blk x=(Sq i).blk x:=fun x hx=>by
     rw[t2,q2,←hcut i (by omega)]
     refine q1S m (fun k hk hkx=>?_)
     rw[htpd]
     have hkw:=hkeywb k hk x hkx
     rcases Nat.lt_trichotomy k i with h|h|h
     ·rw[qyH h]
      refine qyH (hafter k (cB k i h him ?_))
      simp only[q0B,qyc,qyB,qyl]
      exact .inl ⟨x,hkw,hx⟩
     ·subst h;simp[pE,hiL]
     ·rw[decide_eq_false (by omega)]
      refine decide_eq_false fun hkL=>hbefore k (cB i k h hk ?_) hkL
      simp only[q0B,qyc,qyB,qyl]
      rcases hx with hx|hx
      ·exact .inr ⟨x,hx,hkw⟩
      ·exact .inl ⟨x,hx,.inr hkw⟩
    have hev:∀y∈o.op.operands.toList,t.ev y=(Sq i).ev y:=fun y hy=>qmn (fun x hx=>hslot x (by
     unfold q0r qen
     exact qxT _ (List.mem_flatMap.2 ⟨y,hy,hx⟩)))
    have hgd:gd ops.toList t o.guard=gd ops.toList (Sq i) o.guard:=by
     unfold gd
     cases hgu:o.guard with
     | none=>rfl
     | some jw=>
      obtain⟨j,want⟩:=jw
      simp only
      cases hd:(ops.toList[j]?).bind (·.dst) with
      | none=>rfl
      | some d=>
       simp only
       rw[hslot d (by unfold q0r;rw[hgu];exact qxQ _ (by show d∈(q2s ops.toList j).toList;unfold q2s;rw[hd];simp))]
    have hnew:∀k∈i::L,k<m:=fun k hk=>by
     rcases qy3.1 hk with rfl|hk
     ·exact him
     ·exact hLm k hk
    have hdok:∀d,o.dst=some d→d<t.n:=fun d hd=>by rw[t3,←q3];exact hstp.dst d hd
    -- the state behind it
    have fin:∀(ρ':Pl) (t':S) (a':Act) (w':World),(∀d,t'.get d=if o.dst=some d then(tx i).1.1 else if d∈(tx i).2.ks then .any else t.get d)→(∀x,t'.blk x=lk (tx i).1.2 x (t.blk x))→t'.n=t.n→Sim cx ρ' t' a' w'→
      ∃ρ t,Sim cx ρ t a' w'∧(((∀k∈i::L,k<m)∧(∀d,t.get d=(stT ops.toList tx s (pE (i::L)) m).get d)∧(∀x,t.blk x=(stT ops.toList tx s (pE (i::L)) m).blk x)∧t.n=s.n)∨∃q,m≤q∧(∀k,k∈i::L↔k<q)∧xr P T po E ops.toList (ops.toList.drop q) t=some s'):=by
     intro ρ' t' a' w' g1 g2 g3 g4
     refine⟨ρ',t',g4,.inl ⟨hnew,fun d=>?_,fun x=>?_,g3.trans t3⟩⟩
     ·rw[g1]
      have eq1:o.dst=some d∨d∈(tx i).2.ks→(stT ops.toList tx s (pE (i::L)) m).get d=(stT ops.toList tx s (fun k=>tp k&&decide (k<i+1)) m).get d:=fun hdi=>q2M m (fun k hk hkd=>by
       rw[htpd]
       obtain⟨ok,hok⟩:=hop k hk
       rw[hdst k ok hok] at hkd
       rcases Nat.lt_trichotomy k i with h|h|h
       ·rw[qyH (show k<i+1 by omega)]
        refine qyH (qxP _ (hafter k ?_))
        rcases hdi with hd|hd
        ·rcases hkd with hkd|hkd
         ·exact cS1 k i ok o d h him hok ho hkd (.inr hd)
         ·exact cK1 k i o d h him ho hkd (.inr hd)
        ·rcases hkd with hkd|hkd
         ·exact cK2 k i ok d h him hok hd (.inr hkd)
         ·exact cK3 k i d h him hkd hd
       ·subst h;simp[pE]
       ·rw[decide_eq_false (by omega)]
        refine decide_eq_false fun hkL=>?_
        rcases qy3.1 hkL with h' | h'
        ·omega
        ·refine hbefore k ?_ h'
         rcases hdi with hd|hd
         ·rcases hkd with hkd|hkd
          ·exact cS1 i k o ok d h hk ho hok hd (.inr hkd)
          ·exact cK2 i k o d h hk ho hkd (.inr hd)
         ·rcases hkd with hkd|hkd
          ·exact cK1 i k ok d h hk hok hd (.inr hkd)
          ·exact cK3 i k d h hk hd hkd)
      by_cases hd:o.dst=some d
      ·rw[if_pos hd,eq1 (.inl hd),hcut (i+1) (by omega),htp1,S.put_get,hdst i o ho,if_pos hd]
      ·rw[if_neg hd]
       by_cases hdk:d∈(tx i).2.ks
       ·rw[if_pos hdk,eq1 (.inr hdk),hcut (i+1) (by omega),htp1,S.put_get,hdst i o ho,if_neg hd,S.kill_get,if_pos hdk]
       ·rw[if_neg hdk,t1]
        refine q2M m (fun k hk hkd=>?_)
        have hki:k≠i:=fun e=>by
         subst e
         rcases hkd with hkd|hkd
         ·exact hd (by rw[←hdst k o ho];exact hkd)
         ·exact hdk hkd
        simp[pE,hki]
     ·rw[g2]
      by_cases hx:∃b,(x,b)∈(tx i).1.2
      ·have hiw:=hkeywb i him x hx
       have e1:(stT ops.toList tx s (pE (i::L)) m).blk x=(stT ops.toList tx s (fun k=>tp k&&decide (k<i+1)) m).blk x:=q1S m (fun k hk hkx=>by
        rw[htpd]
        have hkw:=hkeywb k hk x hkx
        rcases Nat.lt_trichotomy k i with h|h|h
        ·rw[qyH (show k<i+1 by omega)]
         refine qyH (qxP _ (hafter k (cB k i h him ?_)))
         simp only[q0B,qyc,qyB,qyl]
         exact .inl ⟨x,hkw,.inr hiw⟩
        ·subst h;simp[pE]
        ·rw[decide_eq_false (by omega)]
         refine decide_eq_false fun hkL=>?_
         rcases qy3.1 hkL with h' | h'
         ·omega
         ·refine hbefore k (cB i k h hk ?_) h'
          simp only[q0B,qyc,qyB,qyl]
          exact .inl ⟨x,hiw,.inr hkw⟩)
       rw[e1,hcut (i+1) (by omega),htp1,S.put_blk,S.kill_blk,q3F]
       exact q77 _ x _ _ hx
      ·rw[Jo _ x _ (fun b hb=>hx ⟨b,hb⟩),t2]
       refine q1S m (fun k hk hkx=>?_)
       have hki:k≠i:=fun e=>hx (e ▸ hkx)
       simp[pE,hki]
    obtain⟨b,hb,hf,ht⟩:=hstp.run
    unfold wpOpIn
    rw[ho]
    simp only
    cases b with
    | false=>
     rw[if_neg (by rw[JZ hsim (hgd.trans hb)];simp)]
     have hx:=hf rfl
     refine⟨q5O,fin ρ (t.put o.dst (.tup [])) _ _ (fun d=>?_) (fun x=>?_) (S.put_n _ _ _) (hsim.put hdok RR.un)⟩
     ·rw[S.put_get,hx];simp
     ·rw[S.put_blk,hx];rfl
    | true=>
     rw[if_pos (JZ hsim (hgd.trans hb))]
     have hloc:=ht rfl q4
     have hnew:(tx i).2.nw≠[]→∀x,t.live x→x<(Sq i).nx:=fun hne x hx=>by
      have hnw:=hstp.nwp.resolve_left hne
      have hN:=qhn rn i (tx i) (htx i him) _ hnw
      rw[qy5] at hN
      by_cases hkx:∃k,k<m∧k≠i∧∃b,(x,b)∈(tx k).1.2
      ·obtain⟨k,hk,hki,b,hb⟩:=hkx
       exact qe2 hN k (tx k) (htx k hk) (by omega) _ hb
      ·have e:t.blk x=(Sq i).blk x:=by
        rw[t2,q2,←hcut i (by omega)]
        refine q1S m (fun k hk hb=>?_)
        rw[htpd]
        have hki:k=i:=by
         by_cases h:k=i
         ·exact h
         ·exact absurd ⟨k,hk,h,hb⟩ hkx
        subst hki;simp[pE,hiL]
       refine q4 x ?_
       unfold S.live at hx ⊢
       rw[←e];exact hx
     refine(hloc cx ρ t a w _ _ hev hblk (farext t1 t2 (hfar i him (pE L) m (qxX _) (fun k hk hkL=>?_))) hnew hsim ?_)
     ·have hkL:k∈L:=of_decide_eq_true hkL
      exact⟨fun e=>hiL (e ▸ hkL),fun h=>hbefore k h hkL⟩
     intro ρ' t' v w' g1 g2 g3 g4 g5
     refine fin ρ' ((t'.kill (tx i).2.ks).put o.dst (tx i).1.1) _ _ (fun d=>?_) (fun x=>?_) (by rw[S.put_n];exact g3) ((g4.kill _).put (fun d hd=>by show d<t'.n;rw[g3];exact hdok d hd) g5)
     ·rw[S.put_get,S.kill_get]
      by_cases hdk:d∈(tx i).2.ks
      ·simp only[if_pos hdk]
      ·simp only[if_neg hdk,g1 d hdk]
     ·rw[S.put_blk,S.kill_blk,g2]
   ·have hi:i=m:=by
     rcases Nat.lt_or_ge m i with h|h
     ·have:=hLm m (h5 (by omega) m h);omega
     ·omega
    have hL:∀j,j∈L↔j<m:=fun j=>⟨fun hj=>hLm j hj,fun hj=>h5 (by omega) j (by omega)⟩
    exact hsuf m _ (qxX _) hL (hfull L ρ t a w hL t1 t2 t3 hsim) r4 hi
  ·have hiq:i=q:=by
    have h1:¬ i<q:=fun h=>hiL ((hL i).2 h)
    have h2:∀j,j<i→j<q:=fun j hj=>(hL j).1 (h5 (by omega) j hj)
    rcases Nat.lt_or_ge q i with h|h
    ·have:=h2 q h;omega
    ·omega
   exact hsuf q t hq hL hsim hv hiq
 ·rintro L a w hr ⟨ρ,t,hsim,hcase⟩ hall
  rcases hcase with ⟨hLm,t1,t2,t3⟩|⟨q,hq,hL,hv⟩
  ·have hmn':ops.size≤m:=by
    rcases Nat.lt_or_ge m ops.size with h|h
    ·have:=hLm m (hall m h);omega
    ·exact h
   have hL:∀j,j∈L↔j<m:=fun j=>⟨fun hj=>hLm j hj,fun hj=>hall j (by omega)⟩
   have hd:ops.toList.drop m=[]:=qyn (by rw[hlen];exact hmn')
   rw[hd] at r4
   injection r4 with r4
   exact⟨_,ρ,hQ,r4 ▸ hfull L ρ t a w hL t1 t2 t3 hsim⟩
  ·have hqn:ops.size≤q:=by
    rcases Nat.lt_or_ge q ops.size with h|h
    ·have:=(hL q).1 (hall q h);omega
    ·exact h
   have hd:ops.toList.drop q=[]:=qyn (by rw[hlen];exact hqn)
   rw[hd] at hv
   injection hv with hv
   exact⟨_,ρ,hQ,hv ▸ hsim⟩
theorem qej:∀{r:R},r.isA=true→r = .any
 | .any,_=>rfl
theorem qci:∀{l:List (Nat×R)},qkY l=true→∀i,lk l i .any = .any
 | [],_,i=>rfl
 | x::l,h,i=>by
  unfold qkY at h
  split at h
  ·rename_i hx
   show(if x.1=i then x.2 else lk l i .any)=_
   rw[qci h i,qej hx]
   split<;>rfl
  ·cases h
theorem q9o:∀(l:List (Nat×R)) (i:Nat),lk (q1z l) i .any=lk l i .any
 | [],i=>rfl
 | x::l,i=>by
  unfold q1z
  have ih:=q9o l i
  have e:lk (x::q1z l) i .any=lk (x::l) i .any:=by
   show(if x.1=i then x.2 else lk (q1z l) i .any)=(if x.1=i then x.2 else lk l i .any)
   rw[ih]
  split
  ·rename_i hx
   split
   ·rename_i hl
    show R.any=(if x.1=i then x.2 else lk l i .any)
    rw[qci hl i,qej hx]
    split<;>rfl
   ·exact e
  ·exact e
theorem Sim.strip {cx:Cx} {ρ:Pl} {s:S} {a:Act} {w:World} (h:Sim cx ρ s a w):Sim cx ρ s.strip a w:=
 ⟨h.hd,h.size,fun i=>by
  show RR w s.live ρ _ (lk (q1z s.tm) i .any)
  rw[q9o]
  exact h.tm i,h.hp,h.hp0,h.out,h.inj,h.nx,h.kept,h.oldF,h.pin,h.disj,⟨h.ows.lt,h.ows.one,h.ows.new⟩⟩
theorem qs6 (hA:Ag P T) (hm:P.follows .mixedOrders=true):DOk P po (D1 P T po):=fun _ _ _ hE _ _ _ _ _ _ _ hq h hQ ρ a w hs=>by
 obtain⟨s1,h1,h2⟩:=qxM.1 h
 obtain⟨ρ',h3⟩:=hs.tkD h1
 exact qr3 hA hE hm hq h2 hQ ρ' a w h3.strip
end
section
variable {P:Program} {T:Ty} {po:Pol}
theorem q3T {E E':Orc} (hE:OLe E E') {o:Oper} {act:Bool} {s:S} {x:S×Tx} (h:xsF P T po E o act s=some x):xsF P T po E' o act s=some x:=by
 unfold xsF at h ⊢
 by_cases hc:act=true
 ·rw[if_pos hc] at h ⊢
  cases hal:alC po s o.op with
  | some gr=>rw[hal] at h;exact qO (fun _ h=>qO (fun _ h=>hE _ _ _ _ _ h) (fun _ _ h=>h) h) (fun _ _ h=>h) h
  | none=>rw[hal] at h;exact qO (fun _ h=>qdO hE h) (fun _ _ h=>h) h
 ·rw[if_neg hc] at h ⊢;exact h
theorem qfa {E E':Orc} (hE:OLe E E') {ops:List Oper} {o:Oper} {s:S} {x:S×Tx} (h:xgF P T po E ops o s=some x):xgF P T po E' ops o s=some x:=by
 unfold xgF at h ⊢
 split at h
 ·exact q3T hE h
 ·split at h
  ·split at h
   ·split at h
    ·rename_i hb;rw[if_pos hb];exact q3T hE h
    ·rename_i hb;rw[if_neg hb];exact q3T hE h
   ·exact q3T hE h
   ·cases h
  ·cases h
theorem q98 {E E':Orc} (hE:OLe E E') {ops:List Oper} {A:List (List Nat)} {s0:S}:∀(m:Nat) (l:List Oper) (s s':S) (acc:List Tx),xdp P T po E ops A s0 m l s acc=some s'→xdp P T po E' ops A s0 m l s acc=some s'
 | 0,l,s,s',acc,h=>by
  unfold xdp at h ⊢
  split at h
  ·rename_i hc;rw[if_pos hc];exact q8f hE l h
  ·cases h
 | _+1,[],_,_,_,h=>by cases h
 | m+1,o::l,s,s',acc,h=>qO (fun _ h=>qfa hE h) (fun _ _ h=>q98 hE m l _ _ _ h) h
theorem q4x:q6D (D1 P T po):=fun _ _ hE _ _ _ _ _ _ h=>qO (fun _ h=>h) (fun _ _ h=>q98 hE _ _ _ _ _ h) h
section
variable {D:DRs} (hM:q6D D)
include hM
theorem q3K {o:Oper} {act:Bool} {s:S}:∀x,xsF P T po (EE P T po D) o act s=some x→∃n,∀m,n≤m→xsF P T po (xf P T po D m) o act s=some x:=fun x h=>by
 unfold xsF at h ⊢
 by_cases hc:act=true
 ·simp only[if_pos hc] at h ⊢
  cases hal:alC po s o.op with
  | some gr=>rw[hal] at h;exact qZ (fun a h=>qZ (q4D hM) (fun _=>z6) h) (fun _=>z6) h
  | none=>rw[hal] at h;exact qZ (qdP hM) (fun _=>z6) h
 ·simp only[if_neg hc] at h ⊢;exact⟨0,fun _ _=>h⟩
theorem qfC {ops:List Oper} {o:Oper} {s:S}:∀x,xgF P T po (EE P T po D) ops o s=some x→∃n,∀m,n≤m→xgF P T po (xf P T po D m) ops o s=some x:=fun x h=>by
 unfold xgF at h ⊢
 split at h
 ·exact q3K hM _ h
 ·split at h
  ·split at h
   ·split at h
    ·rename_i hb;simp only[if_pos hb];exact q3K hM _ h
    ·rename_i hb;simp only[if_neg hb];exact q3K hM _ h
   ·exact q3K hM _ h
   ·cases h
  ·cases h
theorem q8T {ops:List Oper} {A:List (List Nat)} {s0:S}:∀(k:Nat) (l:List Oper) (s:S) (acc:List Tx) (x:S),xdp P T po (EE P T po D) ops A s0 k l s acc=some x→∃n,∀m,n≤m→xdp P T po (xf P T po D m) ops A s0 k l s acc=some x
 | 0,l,s,acc,x,h=>by
  unfold xdp at h ⊢
  split at h
  ·rename_i hc;simp only[if_pos hc];exact q7Y hM l s x h
  ·cases h
 | _+1,[],_,_,_,h=>by cases h
 | k+1,o::l,s,acc,x,h=>qZ (qfC hM) (fun q b h=>q8T k l q.1 _ b h) h
end
theorem qcK:qmD P T po (D1 P T po):=fun f k id ops s s' h=>by
 obtain⟨s1,h1,h2⟩:=qxM.1 h
 obtain⟨n,hn⟩:=q8T q4x _ _ _ _ _ h2
 exact⟨n,qxM.2 ⟨s1,h1,hn n (qxX n)⟩⟩
end
def qS (k:Nat):Code→Option Code
 | .loop c=>if qD c=k then some c else qS k c
 | .seq a b=>(qS k a).or (qS k b)
 | .cond _ a b=>(qS k a).or (qS k b)
 | .block _ c=>qS k c
 | .scope c=>qS k c
 | .rangeFunc _ _ a b=>(qS k a).or (qS k b)
 | _=>none
def QV (k:Nat):Code→Option (Code×Code)
 | .rangeFunc _ _ a b=>if qD b=k then some (a,b) else none
 | .loop c=>QV k c
 | .seq a b=>(QV k a).or (QV k b)
 | .cond _ a b=>(QV k a).or (QV k b)
 | .block _ c=>QV k c
 | .scope c=>QV k c
 | _=>none
end
noncomputable section
open Go.RowKit
def qeM:Operand := .const (.slice none 0 0)
def q7c (t bt:TypeId):Code:=
 (Code.region 0 #[{ dst:=some 2,op := .assign qeM,type:=t,pos := "slices.go:355", after:=#[],guard:=none }] false).seq
  (((Code.region 1 #[{ dst:=some 3,op := .move (.tmp 0),type:=t,pos := "slices.go:357", after:=#[],guard:=none },
    { dst:=some 4,op := .binOp .eql t (.tmp 3) qeM t,type:=bt,pos := "slices.go:357", after:=#[{ on:=0,ground := .data }],guard:=none }] false).seq
   (Code.cond (.tmp 4) ((Code.region 2 #[{ dst:=some 2,op := .assign qeM,type:=t,pos := "slices.go:358", after:=#[],guard:=none }] false).seq Code.ret) Code.skip)).seq
   ((Code.region 3 #[{ dst:=some 5,op := .buildSlice t 0 #[],type:=t,pos := "slices.go:362", after:=#[],guard:=none },
     { dst:=some 6,op := .move (.tmp 0),type:=t,pos := "slices.go:362", after:=#[],guard:=none },
     { dst:=some 7,op := .call { callee := .builtin .append,args:=#[.tmp 5,.tmp 6],argTypes:=#[t,t] },type:=t,pos := "slices.go:362", after:=#[{ on:=0,ground := .data },{ on:=1,ground := .data }],guard:=none },
     { dst:=some 2,op := .assign (.tmp 7),type:=t,pos := "slices.go:362", after:=#[{ on:=2,ground := .data },{ on:=2,ground := .chain },{ on:=0,ground := .phase },{ on:=1,ground := .phase },{ on:=2,ground := .phase }],guard:=none }] false).seq
    Code.ret))
section
variable {P:Program} {T:Ty} {cx:Cx} {ρ:Pl} {s:S} {a:Act} {w:World}
def po1 (z:Nat) (ro:Bool:=false):Pol:={ q:=fun _=>[z],ow:=fun _=>[],fz:=fun _=>false,kp:=fun _ _=>[],kx:=fun _ _=>[],rw:=fun _ _=>[],ro:=fun _=>ro,dm:=fun _ _=>0,an:=fun _ _=>[],rk:=fun _ _=>[],pr:=fun _=>none,ab:=fun _=>false,qo:=fun _=>[],tk:=fun _=>none }
def E0:Orc:=fun _ _ _ _=>none
theorem qnR:Snd P E0:=⟨fun _ _ _ _ _ _ h=>(by cases h),fun _ _ _ _ _ _ _ _ h=>(by cases h)⟩
theorem qsS {q:Nat→List Oper→Bool} {k:Nat}:qqe P q k (fun _ _ _=>none):=fun _ _ _ _ _ _ _ _ h=>by cases h
def XD0 (P:Program) (T:Ty) (z:Nat) (c:Code) (s:S):XS:=XD P T (po1 z) E0 (fun _ _ _=>none) (iter 0) 0 0 c s
theorem q5E (hA:Ag P T) {z:Nat} {c:Code} {s s':S} {e:Exit} {Q:Exit→S→Prop} (hq:q1X (fun _ _=>false) false c=true) (hk:cx.k=0) (h:XD0 P T z c s=some (e,s')) (hQ:Q e s'):J P cx c Q s:=
 qgX (n:=0) hA qnR qsS c s s' e cx Q hq hk (fun h=>by cases h) h hQ
theorem J.nilTest (hA:Ag P T) {id:Nat} {m o:Oper} {x d:Nat} {t t' e:TypeId} {sz n:Nat} {ds:List D} {Q:Exit→S→Prop} (hm:m.op = .move (.tmp x)) (hmg:m.guard=none) (hmd:m.dst=some d) (ho:o.op = .binOp .eql t (.tmp d) qeM t') (hog:o.guard=none)
  (hk:T.k t = .sl e) (hx:s.get x = .c (.d (.sl sz n ds))) (hd:d<s.n) (hod:∀d',o.dst=some d'→d'<s.n)
  (hQ:∀b:Bool,(b=true→n=0∧ds=[])→Q .normal ((s.put (some d) (.c (.d (.sl sz n ds)))).put o.dst (.c (.d (.bool b))))):J P cx (.region id #[m,o] false) Q s:=by
 intro ρ a w hs
 refine wpIn_region_list ?_
 show wpListIn (FW cx.ro) 0 P #[m,o] _ [m,o] a w
 unfold wpListIn
 rw[if_pos (by unfold Region.wanted;rw[hmg])]
 have h1:ox P T s s.nx m.op (fun r s'=>r=s.get x∧s'=s):=by rw[hm];exact⟨rfl,rfl⟩
 refine q4Y hA (fun h=>by have:=hs.nx _ h;omega) hs h1 ?_
 rintro r s2 ρ1 v w1 ⟨rfl,rfl⟩ hs1 hv
 have hs2:=hs1.put (dst:=m.dst) (fun d' hd'=>by rw[hmd] at hd';injection hd' with hd';rw[←hd'];exact hd) hv
 rw[hmd,hx] at hs2
 unfold wpListIn
 rw[if_pos (by unfold Region.wanted;rw[hog])]
 obtain⟨d0,i,z,ht⟩:=hA.at_ (t:=t) (by rw[hk];simp)
 have hkd:=q08 (ht.kd.trans hk)
 subst hkd
 rw[hx] at hv
 obtain⟨A,cap,q1,q2,q3,q4,q5,q6⟩:=hv.inv_sl
 refine qt2 cx.ro ?_ (fun c hc=>by rw[ho] at hc;cases hc)
 have hev:(a.put m.dst v).eval (.tmp d)=v:=by
  rw[hmd]
  show(a.tmps.setIfInBounds d v).getD d undef=v
  have hlt:d<a.tmps.size:=by rw[hs1.size];exact hd
  simp[qxN,hlt]
 have he:execOp (a.put m.dst v).eval o=(do pure (.value (←(do eqGuard .eql t (.tmp d) qeM ((a.put m.dst v).eval (.tmp d)) ((a.put m.dst v).eval qeM);binOp .eql t ((a.put m.dst v).eval (.tmp d)) ((a.put m.dst v).eval qeM))))):=by unfold execOp;simp only[ho]
 have hr:(do eqGuard .eql t (.tmp d) qeM ((a.put m.dst v).eval (.tmp d)) ((a.put m.dst v).eval qeM);binOp .eql t ((a.put m.dst v).eval (.tmp d)) ((a.put m.dst v).eval qeM):Sem Value).run P w1 = .ok (.bool A.isNone) w1:=by
  rw[hev,q1,eqGuard_at_slice]
  show(do binOp .eql t (.slice A n cap) (.slice none 0 0):Sem Value).run P w1=_
  simp only[binOp,Sem.run_bind]
  unfold Op.equal Op.maxDepth Op.equalIn
  simp only[Sem.run_bind,run_underlying ht.ud,Result.andThen_ok]
  cases A<;>rfl
 refine qG he hr ?_
 unfold wpListIn
 rw[hmd]
 refine⟨_,ρ1,hQ A.isNone (fun hb=>?_),hs2.put hod (.c _ _ (.d _ _ (.bool _)))⟩
 rcases q6 with q6|⟨b,off,f,q6,-⟩
 ·subst q6
  rw[Nat.zero_mul] at q5
  exact⟨rfl,qy0 q5⟩
 ·rw[q6] at hb;cases hb
theorem qgf (hA:Ag P T) {f:FuncId} {fn:Func} {t e bt:TypeId} (hf:P.funcs[f]?=some fn) (hb:fn.body=some (q7c t bt)) (hname:(fn.name == "runtime.NumGoroutine")=false) (hn:fn.ntmps=8) (hr:fn.results.toList=[.tmp 2])
  (hk:T.k t = .sl e) (he:T.k e ≠ .other) (hz:0<T.sz e) (hzl:(T.zero e).length=T.sz e) {n:Nat} {ds:List D} (hl:ds.length=n*T.sz e) (hm1:n≤maxLen) (hm2:n*T.by_ e≤140737488355328) :
  AC P f [.c (.d (.sl (T.sz e) n ds))] [] 0 fun r hp=>r = .c (.d (.sl (T.sz e) n ds))∧hp=[]:=by
 refine AC.enter2 hA hf hb hname (by rw[hn];show(1:Nat)≤8;omega) (fun cx hk0 hro=>?_)
 rw[hn,hr]
 have fin:∀(s:S) (r:R),s.get 2=r→q5p (po1 (T.sz e)) 0 0 [t] s [r]=some (.c (.d (.sl (T.sz e) n ds)),[])→∃rs,rvs T s [.tmp 2]=some rs∧
   ∀ρ a w,Sim cx ρ s a w→∃rs' hp' nx' ρ',(one rs' = .c (.d (.sl (T.sz e) n ds))∧hp'=[])∧Sim cx ρ' (QN hp' nx') q5q w∧rs'.length=rs.length∧∀(j:Nat) (r r':R) (v:Value),rs[j]?=some r→rs'[j]?=some r'→RR w s.live ρ v r→RR w (QN hp' nx').live ρ' v r':=by
  intro s r hr h
  refine⟨[r],by simp[rvs,qj5,hr],fun ρ a w hs=>?_⟩
  obtain⟨rs',nx',ρ',g1,g2,g3,g4⟩:=q3S hk0 h hs
  exact⟨rs',[],nx',ρ',⟨g1.symm,rfl⟩,g2,g3,g4⟩
 unfold q7c
 refine J.seq (q5E (z:=T.sz e) hA (by rfl) hk0 (s':=⟨[(2,.c .nils),(0,.c (.d (.sl (T.sz e) n ds)))],[],0,8⟩) (e := .normal) (by rfl) ?_)
 refine J.seq (J.seq (J.nilTest hA rfl rfl rfl rfl rfl hk (by rfl) (by show(3:Nat)<8;omega) (fun d' h=>by injection h with h;subst h;show(4:Nat)<8;omega) (fun b hb0=>?_)))
 cases b with
 | true=>
  obtain⟨rfl,rfl⟩:=hb0 rfl
  refine J.cond (by rfl) (fun _=>?_) (fun h=>by cases h)
  refine q5E (z:=T.sz e) hA (by rfl) hk0 (s':=⟨[(2,.c .nils),(4,.c (.d (.bool true))),(3,.c (.d (.sl (T.sz e) 0 []))),(2,.c .nils),(0,.c (.d (.sl (T.sz e) 0 [])))],[],0,8⟩) (e := .ret) (by rfl) ?_
  refine⟨.inr rfl,fin _ _ rfl ?_⟩
  have hz0:T.sz e≠0:=by omega
  simp[q5p,qas,q5t,q8N,po1,q0G,R.rows,C.rows,C.rows0,S.frz,q5i,qaw,dzR,dz,one,q06,rng,R.refs,C.refs,C.ref0,cnR,qcp,cn,cn0,cnH,S.get,lk,hz0,S.blk,B.isBlk,R.ptrs,S.frz1,fzR,qeR,fz,fz0,fzB,vis,q16,hl,List.eraseDups_cons,pos,B.cells]
 | false=>
  refine J.cond (by rfl) (fun h=>by cases h) (fun _=>?_)
  refine J.skip ?_
  have hall:(ds.map C.d).all C.known=true:=by rw[List.all_map];exact qxY.2 fun x _=>rfl
  have hfar:(ds.map C.d).all (C.far 0)=true:=by rw[List.all_map];exact qxY.2 fun x _=>rfl
  have hdat:(ds.map C.d).all C.dat=true:=by rw[List.all_map];exact qxY.2 fun x _=>rfl
  have hfg:(ds.map C.d).map (C.fg 0)=ds.map C.d:=by rw[List.map_map];rfl
  refine q5E (z:=T.sz e) hA (by rfl) hk0 (s':=⟨[(2,.c (.own 0 (T.sz e) 0 n)),(7,.c (.own 0 (T.sz e) 0 n)),(6,.c (.d (.sl (T.sz e) n ds))),(5,.c .any),(4,.c (.d (.bool false))),(3,.c (.d (.sl (T.sz e) n ds))),(2,.c .nils),(0,.c (.d (.sl (T.sz e) n ds)))],[(0,.row e (T.sz e) (ds.map C.d)),(0,.row e (T.sz e) [])],1,8⟩) (e := .ret) ?_ ?_
  ·simp[XD0,XD,xr,xgd,q8t,qgK,ipA,ipS,ipF,ipX,qhj,ldO,stO,xst,pre,qqA,q56,q0G,R.rows,S.frz,xo,xCl,Zx,bld,q1F,tkw,S.seq,S.ev,S.get,lk,S.put,S.up,S.fg,R.fg,C.fg,B.fg,S.blk,hk,he,hz,hzl,hl,hm1,hm2,hall,hfar,q3W,sqD,q0j,tt,C.known,C.far]
  ·refine⟨.inr rfl,fin _ _ rfl ?_⟩
   have hz0:T.sz e≠0:=by omega
   simp[q5p,qas,q5t,q8N,po1,q0G,R.rows,C.rows,C.rows0,S.frz,q5i,qaw,dzR,dz,one,q06,rng,R.refs,C.refs,C.ref0,cnR,qcp,cn,cn0,cnH,S.get,lk,hz0,S.blk,B.isBlk,R.ptrs,S.frz1,fzR,qeR,fz,fz0,fzB,vis,q16,hl,List.eraseDups_cons,pos,B.cells]
theorem qcG (hA:Ag P T) {f:FuncId} {fn:Func} {t e bt:TypeId} (hf:P.funcs[f]?=some fn) (hb:fn.body=some (q7c t bt)) (hname:(fn.name == "runtime.NumGoroutine")=false) (hn:fn.ntmps=8) (hr:fn.results.toList=[.tmp 2])
  (hk:T.k t = .sl e) (he:T.k e ≠ .other) (hz:0<T.sz e) (hzl:(T.zero e).length=T.sz e) {n:Nat} {ds:List D} (hl:ds.length=n*T.sz e) (hm1:n≤maxLen) (hm2:n*T.by_ e≤140737488355328) :
  AC P f [.c (.d (.sl (T.sz e) n ds))] [] 0 fun r hp=>r = .c (.own 0 (T.sz e) 0 n)∧hp=[(0,.row e (T.sz e) (ds.map C.d))]:=by
 refine AC.enter2 hA hf hb hname (by rw[hn];show(1:Nat)≤8;omega) (fun cx hk0 hro=>?_)
 rw[hn,hr]
 have fin:∀(s:S) (r:R),s.get 2=r→q5p (po1 (T.sz e) true) 0 0 [t] s [r]=some (.c (.own 0 (T.sz e) 0 n),[(0,.row e (T.sz e) (ds.map C.d))])→∃rs,rvs T s [.tmp 2]=some rs∧
   ∀ρ a w,Sim cx ρ s a w→∃rs' hp' nx' ρ',(one rs' = .c (.own 0 (T.sz e) 0 n)∧hp'=[(0,.row e (T.sz e) (ds.map C.d))])∧Sim cx ρ' (QN hp' nx') q5q w∧rs'.length=rs.length∧∀(j:Nat) (r r':R) (v:Value),rs[j]?=some r→rs'[j]?=some r'→RR w s.live ρ v r→RR w (QN hp' nx').live ρ' v r':=by
  intro s r hr h
  refine⟨[r],by simp[rvs,qj5,hr],fun ρ a w hs=>?_⟩
  obtain⟨rs',nx',ρ',g1,g2,g3,g4⟩:=q3S hk0 h hs
  exact⟨rs',_,nx',ρ',⟨g1.symm,rfl⟩,g2,g3,g4⟩
 unfold q7c
 refine J.seq (q5E (z:=T.sz e) hA (by rfl) hk0 (s':=⟨[(2,.c .nils),(0,.c (.d (.sl (T.sz e) n ds)))],[],0,8⟩) (e := .normal) (by rfl) ?_)
 refine J.seq (J.seq (J.nilTest hA rfl rfl rfl rfl rfl hk (by rfl) (by show(3:Nat)<8;omega) (fun d' h=>by injection h with h;subst h;show(4:Nat)<8;omega) (fun b hb0=>?_)))
 cases b with
 | true=>
  obtain⟨rfl,rfl⟩:=hb0 rfl
  refine J.cond (by rfl) (fun _=>?_) (fun h=>by cases h)
  refine q5E (z:=T.sz e) hA (by rfl) hk0 (s':=⟨[(2,.c .nils),(4,.c (.d (.bool true))),(3,.c (.d (.sl (T.sz e) 0 []))),(2,.c .nils),(0,.c (.d (.sl (T.sz e) 0 [])))],[],0,8⟩) (e := .ret) (by rfl) ?_
  refine⟨.inr rfl,[.c .nils],rfl,fun ρ a w hs=>?_⟩
  obtain⟨ids,nx',ρ',g1,g2,g3⟩:=q9R (rs:=[]) (r' := .tup []) (hp':=[]) hk0 rfl hs
  obtain⟨ρ2,g4,g5⟩:=Sim.rerow (id:=0) (w':=w) (v := .slice none 0 0) (v' := .slice none 0 0) (e:=e) (sz:=T.sz e) (n:=0) (cs:=[]) (us:=[]) g2 (.inr ⟨rfl,fun h=>by unfold S.live S.blk QN at h;simp[lk,B.live] at h⟩) (World.grownBy.refl w _) (.inl rfl) ⟨by simp,.inl ⟨rfl,rfl⟩⟩ hz (by simp) (by rw[hk0];omega) (fun j c hj=>by simp at hj) (fun j c u hj=>by simp at hj)
  have hblk:∀i,(QN [(0,B.row e (T.sz e) [])] 1).blk i=(((QN [] nx').fg 0).up [(0,B.row e (T.sz e) [])]).blk i:=fun i=>rfl
  have hlive:(QN [(0,B.row e (T.sz e) [])] 1).live=(((QN [] nx').fg 0).up [(0,B.row e (T.sz e) [])]).live:=by funext i;unfold S.live;rw[hblk]
  refine⟨[.c (.own 0 (T.sz e) 0 0)],[(0,B.row e (T.sz e) [])],1,ρ2,⟨rfl,rfl⟩,g4.ext (fun i=>rfl) hblk rfl (fun i hi=>?_),rfl,fun j r r' v hj hj' hv=>?_⟩
  ·unfold S.live S.blk QN at hi
   show i<1
   rcases Nat.lt_or_ge i 1 with h|h
   ·exact h
   ·simp[lk,show ¬ 0=i by omega,B.live] at hi
  ·cases j with
   | zero=>
    simp only[qxR,qyw] at hj hj'
    subst hj hj'
    rw[hv.inv_nils,hlive]
    exact g5
   | succ j=>simp at hj
 | false=>
  refine J.cond (by rfl) (fun h=>by cases h) (fun _=>?_)
  refine J.skip ?_
  have hall:(ds.map C.d).all C.known=true:=by rw[List.all_map];exact qxY.2 fun x _=>rfl
  have hfar:(ds.map C.d).all (C.far 0)=true:=by rw[List.all_map];exact qxY.2 fun x _=>rfl
  have hdat:(ds.map C.d).all C.dat=true:=by rw[List.all_map];exact qxY.2 fun x _=>rfl
  have hfg:(ds.map C.d).map (C.fg 0)=ds.map C.d:=by rw[List.map_map];rfl
  refine q5E (z:=T.sz e) hA (by rfl) hk0 (s':=⟨[(2,.c (.own 0 (T.sz e) 0 n)),(7,.c (.own 0 (T.sz e) 0 n)),(6,.c (.d (.sl (T.sz e) n ds))),(5,.c .any),(4,.c (.d (.bool false))),(3,.c (.d (.sl (T.sz e) n ds))),(2,.c .nils),(0,.c (.d (.sl (T.sz e) n ds)))],[(0,.row e (T.sz e) (ds.map C.d)),(0,.row e (T.sz e) [])],1,8⟩) (e := .ret) ?_ ?_
  ·simp[XD0,XD,xr,xgd,q8t,qgK,ipA,ipS,ipF,ipX,qhj,ldO,stO,xst,pre,qqA,q56,q0G,R.rows,S.frz,xo,xCl,Zx,bld,q1F,tkw,S.seq,S.ev,S.get,lk,S.put,S.up,S.fg,R.fg,C.fg,B.fg,S.blk,hk,he,hz,hzl,hl,hm1,hm2,hall,hfar,q3W,sqD,q0j,tt,C.known,C.far]
  ·refine⟨.inr rfl,fin _ _ rfl ?_⟩
   have hz0:T.sz e≠0:=by omega
   have hcn:∀ids,(ds.map C.d).map (cn ids)=ds.map C.d:=fun ids=>by rw[List.map_map];rfl
   simp[cnB,B.live,B.refs,hcn,hdat,q5p,qas,q5t,q8N,po1,q0G,R.rows,C.rows,C.rows0,S.frz,q5i,qaw,dzR,dz,one,q06,rng,R.refs,C.refs,C.ref0,cnR,qcp,cn,cn0,cnH,S.get,lk,hz0,S.blk,B.isBlk,R.ptrs,S.frz1,fzR,qeR,fz,fz0,fzB,vis,q16,hl,List.eraseDups_cons,pos,B.cells]
def q4f (T:Ty) (e:TypeId) (own:Bool):List R→Option (R×List (Nat×B))
 | [.c (.d (.sl z n ds))]=>if z=T.sz e∧ds.length=n*z∧n≤maxLen∧n*T.by_ e≤140737488355328 then(if own=true then some (.c (.own 0 z 0 n),[(0,.row e z (ds.map C.d))]) else some (.c (.d (.sl z n ds)),[])) else none
 | _=>none
theorem qb0 (hA:Ag P T) {f:FuncId} {fn:Func} {t e bt:TypeId} (hf:P.funcs[f]?=some fn) (hb:fn.body=some (q7c t bt)) (hname:(fn.name == "runtime.NumGoroutine")=false) (hn:fn.ntmps=8) (hr:fn.results.toList=[.tmp 2])
  (hk:T.k t = .sl e) (he:T.k e ≠ .other) (hz:0<T.sz e) (hzl:(T.zero e).length=T.sz e) {own:Bool} {args:List R} {r:R} {G':List (Nat×B)} (h:q4f T e own args=some (r,G')):AC P f args [] 0 fun r' hp'=>r'=r∧hp'=G':=by
 unfold q4f at h
 split at h
 ·split at h
  ·rename_i hc
   obtain⟨rfl,h1,h2,h3⟩:=hc
   split at h
   ·injection h with h
    injection h with h4 h5
    subst h4 h5
    exact qcG hA hf hb hname hn hr hk he hz hzl h1 h2 h3
   ·injection h with h
    injection h with h4 h5
    subst h4 h5
    exact qgf hA hf hb hname hn hr hk he hz hzl h1 h2 h3
  ·cases h
 ·cases h
end
end
noncomputable section
open Go.RowKit
section
variable {P:Program} {T:Ty} {cx:Cx} {ρ:Pl} {s:S} {a:Act} {w:World}
end
end
noncomputable section
open Go.RowKit
def cpF (x:Int):List Int→List Int
 | []=>[x]
 | y::l=>if x=y then cpF y l else x::cpF y l
def cpI:List Int→List Int
 | []=>[]
 | x::l=>cpF x l
theorem q8U (x z:Int):∀l:List Int,cpF x (l++[z])=if(x::l).getLast (by simp)=z then cpF x l else cpF x l++[z]
 | []=>by
  simp only[qy1,cpF,List.getLast_singleton]
  split<;>simp_all
 | y::l=>by
  have h:=q8U y z l
  simp only[qyM,cpF,List.getLast_cons_cons]
  rw[h]
  by_cases h1:x=y
  ·simp only[if_pos h1]
  ·simp only[if_neg h1]
   by_cases h2:(y::l).getLast (by simp)=z
   ·simp only[if_pos h2]
   ·simp only[if_neg h2,qyM]
theorem qoG (l:List Int):Lib.compact l=cpI l:=by
 have key:∀m,m≤l.length→Lib.compactUpTo l.toArray m=cpI (l.take m):=by
  intro m
  induction m with
  | zero=>intro _;rw[List.take_zero];rfl
  | succ m ih=>
   intro hm
   rw[Lib.compactUpTo_succ,ih (by omega)]
   have ht:l.take (m+1)=l.take m++[l[m]]:=by rw[List.take_succ_eq_append_getElem (by omega)]
   have hg:l.toArray[m]! = l[m]:=by simp[getElem!_pos,show m<l.length by omega]
   rw[ht,hg]
   cases m with
   | zero=>
    have:Lib.keeps l.toArray 0=true:=Lib.keeps_lt_one _ 0 (by omega)
    rw[if_pos this,List.take_zero];rfl
   | succ k=>
    obtain⟨a,t,hat⟩:∃a t,l.take (k+1)=a::t:=by
     cases h:l.take (k+1) with
     | nil=>have:=congrArg List.length h;rw[qya,qyq] at this;omega
     | cons a t=>exact⟨a,t,rfl⟩
    have hl:(a::t).getLast (by simp)=l[k]:=by
     have h1:(l.take (k+1)).getLast?=some l[k]:=by
      rw[List.take_succ_eq_append_getElem (by omega),List.getLast?_append];rfl
     rw[hat,List.getLast?_eq_some_getLast (by simp)] at h1
     exact Option.some.inj h1
    rw[hat]
    show _=cpF a (t++[l[k+1]])
    rw[q8U,hl]
    have hk:l.toArray[k]! = l[k]:=by simp[getElem!_pos,show k<l.length by omega]
    by_cases he:l[k]=l[k+1]
    ·have:Lib.keeps l.toArray (k+1)=false:=by
      apply Lib.keeps_neg (by omega)
      rw[Nat.add_sub_cancel,hk,hg];exact he.symm
     rw[if_pos he,if_neg (by rw[this];simp),qy2];rfl
    ·have:Lib.keeps l.toArray (k+1)=true:=by
      apply Lib.keeps_pos
      rw[Nat.add_sub_cancel,hk,hg];exact fun h=>he h.symm
     rw[if_neg he,if_pos this];rfl
 have:=key l.length (qxX _)
 rw[List.take_length] at this
 exact this
theorem qdL (x:Int):∀l:List Int,(cpF x l).length≤l.length+1
 | []=>qxX _
 | y::l=>by
  have:=qdL y l
  unfold cpF
  split
  ·simp only[qxS];omega
  ·simp only[qxS];omega
theorem q8G (l:List Int):(cpI l).length≤l.length:=by
 cases l with
 | nil=>exact qxX _
 | cons x l=>exact qdL x l
def cpX (id n:Nat) (e:TypeId) (cs:List C):Option (R×List (Nat×B)):=(q4U cs).bind fun zs=>if n=zs.length then some (.c (.own 0 1 0 (cpI zs).length),[(0,.row e 1 ((cpI zs).map fun z => .d (.int .i64 z)))]) else none
def qoW (e:TypeId):Nat→List R→List (Nat×B)→Option (R×List (Nat×B))
 | 0,[.c (.own 0 1 0 n)],[(0,.row e' 1 cs)]=>if e'=e then cpX 0 n e cs else none
 | _,_,_=>none
theorem qeZ {P:Program} {f:FuncId} (h1:∀(blk off cap:Nat) (zs:List Int) (w:World),Go.Sort.Holds (Value.int .i64) w blk off zs.toArray→zs.length≤9223372036854775807→zs.length≤cap→
   Calls P f #[.slice (some ⟨blk,off,none⟩) zs.length cap] w fun e w'=>e = .returned (.slice (some ⟨blk,off,none⟩) (Lib.compact zs).length cap)∧∃q,w'=Go.Sort.putRow (Value.int .i64) (Go.Sort.ahead w q) blk off (Lib.compact zs++List.replicate (zs.length-(Lib.compact zs).length) 0).toArray)
  (b cap:Nat) (zs:List Int) (w:World) (cur:Array Value) (e:TypeId) (hb:w.heap[b]?=some (.cells cur e (0,0))) (ht:cur.toList.take zs.length=zs.map (Value.int .i64)) (hc:zs.length≤cap) (hm:cap≤9223372036854775807) :
  Calls P f #[.slice (some ⟨b,0,none⟩) zs.length cap] w fun e' w'=>e' = .returned (.slice (some ⟨b,0,none⟩) (cpI zs).length cap)∧w.grownBy w' (some b)∧
   ∃cur':Array Value,w'.heap[b]?=some (.cells cur' e (0,0))∧cur'.size=cur.size∧cur'.toList.take (cpI zs).length=(cpI zs).map (Value.int .i64):=by
 refine(h1 b 0 cap zs w (holds_of_blockI hb ht) (by omega) hc).mono fun e' w'=>?_
 rintro⟨rfl,q,rfl⟩
 rw[qoG]
 have hgr:∀W:World,Go.Sort.grow W #[]=W:=fun W=>by simp[Go.Sort.grow]
 refine⟨rfl,?_,Go.Sort.putCells (Value.int .i64) 0 (cpI zs++List.replicate (zs.length-(cpI zs).length) 0).toArray cur,?_,?_⟩
 ·have:=grownBy_sortedI (w:=w) (g:=b) (n:=q) (os:=#[]) (cpI zs++List.replicate (zs.length-(cpI zs).length) 0).toArray
  rwa [hgr] at this
 ·have:=heap_sortedI (n:=q) (os:=#[]) (cpI zs++List.replicate (zs.length-(cpI zs).length) 0).toArray hb
  rwa [hgr] at this
 ·have hl:=q8G zs
  have hz:zs.length≤cur.size:=by
   have:=congrArg List.length ht
   simp only[qya,qyp,Array.length_toList] at this
   omega
  refine⟨by simp[Go.Sort.putCells],?_⟩
  have h3:=take_putCellsI cur (cpI zs++List.replicate (zs.length-(cpI zs).length) 0) (by rw[qxO,qyo];omega)
  have h4:=congrArg (List.take (cpI zs).length) h3
  rw[List.take_take,Nat.min_eq_left (by rw[qxO];omega),List.map_append,List.take_append_of_le_length (by rw[qyp];omega)] at h4
  exact h4.trans (qyN (by rw[qyp];omega))
theorem qks {P:Program} {f:FuncId} {fn:Func} {e:TypeId} (hf:P.funcs[f]?=some fn) (hname:(fn.name == "runtime.NumGoroutine")=false) (hb:fn.body.isNone=false)
  (h1:∀(blk off cap:Nat) (zs:List Int) (w:World),Go.Sort.Holds (Value.int .i64) w blk off zs.toArray→zs.length≤9223372036854775807→zs.length≤cap→
   Calls P f #[.slice (some ⟨blk,off,none⟩) zs.length cap] w fun e w'=>e = .returned (.slice (some ⟨blk,off,none⟩) (Lib.compact zs).length cap)∧∃q,w'=Go.Sort.putRow (Value.int .i64) (Go.Sort.ahead w q) blk off (Lib.compact zs++List.replicate (zs.length-(Lib.compact zs).length) 0).toArray)
  (h2:∀(p:Option Addr) (cap:Nat) (w:World),Calls P f #[.slice p 0 cap] w fun e w'=>e = .returned (.slice p 0 cap)∧w'=w)
  {k:Nat} {args:List R} {G G':List (Nat×B)} {r:R} (h:qoW e k args G=some (r,G')):AC P f args G k fun r' hp'=>r'=r∧hp'=G':=by
 refine⟨⟨fn,hf,hname,hb⟩,fun cx ρ w vs hw hk hρ hro hs hv=>?_⟩
 unfold qoW at h
 split at h
 ·rename_i n e' cs
  split at h
  ·rename_i he
   subst he
   unfold cpX at h
   obtain⟨zs,hz,hx⟩:=qxM.1 h
   split at hx
   ·rename_i hc
    subst hc
    obtain⟨h3,h4⟩:=Prod.mk.inj (Option.some.inj hx)
    subst h3 h4
    have hcs:=q3Q hz
    obtain⟨hvs,hvr⟩:=hv
    have hv0:RR w _ ρ (vs.getD 0 undef) _:=hvr 0 _ rfl
    obtain⟨hl,hcase⟩:=hv0.inv_own
    have hfar:∀(us:List Value),us=(cpI zs).map (Value.int .i64)→∀(j:Nat) (c:C),((cpI zs).map fun z=>C.d (.int .i64 z))[j]?=some c→c.far 0=true∧∃u,us[j]?=some u∧RC w (QN [(0,B.row e' 1 cs)] 1).live ρ u c:=by
     rintro us rfl j c hj
     rw[qxV] at hj ⊢
     obtain⟨z,hz,rfl⟩:=qxU.1 hj
     exact⟨rfl,_,by rw[hz];rfl,.d _ _ (.int _ _)⟩
    have how:∀(us:List Value) (j:Nat) (c:C) (u:Value),((cpI zs).map fun z=>C.d (.int .i64 z))[j]?=some c→c.isOw=true→us[j]?=some u→∃b cap,(QN [(0,B.row e' 1 cs)] 1).live 0∧ρ 0=some (b,cap)∧((QN [(0,B.row e' 1 cs)] 1).blk 0).cells[j]?=some c∧w.cell? ⟨b,j,none⟩=some u:=by
     intro us j c u hj ho _
     rw[qxV] at hj
     obtain⟨z,-,rfl⟩:=qxU.1 hj
     cases ho
    have hblk:∀x,(QN [(0,B.row e' 1 ((cpI zs).map fun z=>C.d (.int .i64 z)))] 1).blk x=(((QN [(0,B.row e' 1 cs)] 1).fg 0).up [(0,B.row e' 1 ((cpI zs).map fun z=>C.d (.int .i64 z)))]).blk x:=fun x=>by
     rw[S.blk_up]
     by_cases hx:0=x
     ·subst hx;rfl
     ·rw[if_neg hx,S.blk_fg]
      unfold S.blk QN
      simp only[lk,if_neg hx,B.fg]
    have hlive:(QN [(0,B.row e' 1 ((cpI zs).map fun z=>C.d (.int .i64 z)))] 1).live=(((QN [(0,B.row e' 1 cs)] 1).fg 0).up [(0,B.row e' 1 ((cpI zs).map fun z=>C.d (.int .i64 z)))]).live:=by funext x;unfold S.live;rw[hblk]
    have hvs1:∀v0,vs.getD 0 undef=v0→vs=#[v0]:=by
     intro v0 h0
     apply Array.ext
     ·simpa using hvs
     ·intro k hk hk'
      have hg:vs.getD k undef=vs[k]:=by simp[qxN,hk]
      have:k=0:=by simp at hk';exact hk'
      subst this
      rw[←hg,h0];simp
    rcases hcase with ⟨b,cap,e1,e2,e3,e4⟩|⟨e1,e2,-,e5⟩
    ·rw[Nat.zero_mul,qyz] at e4
     rw[qy5] at e2
     obtain rfl:=hvs1 _ e4
     obtain⟨hbz,hBk⟩:=hs.hp 0 b cap hl e1
     obtain⟨cur,q1,q2,q3,q4,q5,q6⟩:HB w _ ρ b cap (.row e' 1 cs):=hBk
     have hcl:cs.length=zs.length:=by rw[hcs,qyp]
     have htk:cur.toList.take zs.length=zs.map (Value.int .i64):=by
      apply List.ext_getElem?
      intro j
      by_cases hj:j<zs.length
      ·rw[qyg hj,Array.getElem?_toList,qxV,qxJ hj,Option.map_some]
       have:=q6 j (.d (.int .i64 zs[j])) (by rw[hcs,qxV,qxJ hj];rfl)
       have hj2:j<cur.size:=by omega
       rw[qxN,qy8 hj2,Option.getD_some] at this
       rw[qy8 hj2]
       have:=(RR.c _ _ this).inv_int
       rw[this]
      ·rw[List.getElem?_take_eq_none (by omega),qyf (by simp;omega)]
     refine(qeZ h1 b cap zs w cur e' q1 htk e2 (by unfold maxLen at e3;omega)).mono fun e2' w'=>?_
     rintro⟨rfl,hg,cur',r1,r2,r3⟩
     have hlen:=q8G zs
     obtain⟨ρ2,g4,g5⟩:=Sim.rerow (id:=0) (v := .slice (some ⟨b,0,none⟩) zs.length cap) (v' := .slice (some ⟨b,0,none⟩) (cpI zs).length cap) (e:=e') (sz:=1) (n:=(cpI zs).length) (cs:=(cpI zs).map fun z=>C.d (.int .i64 z)) (us:=(cpI zs).map (Value.int .i64))
      hs (.inl ⟨b,cap,hl,e1,rfl⟩) hg (.inl rfl) ⟨by simp,.inr ⟨b,cap,cur',rfl,qy7 _,r1,by omega,q4,by omega,by rw[Nat.mul_one];exact r3⟩⟩ q5 (by simp) (by omega) (hfar _ rfl) (how _)
     refine⟨_,_,_,1,ρ2,rfl,⟨rfl,rfl⟩,g4.ext (fun x=>rfl) hblk rfl (fun x hx=>?_),?_⟩
     ·unfold S.live S.blk QN at hx
      show x<1
      rcases Nat.lt_or_ge x 1 with h|h
      ·exact h
      ·simp[lk,show ¬ 0=x by omega,B.live] at hx
     ·rw[hlive];exact g5
    ·obtain rfl:=hvs1 _ e2
     have hz0:zs=[]:=List.length_eq_zero_iff.1 e5
     subst hz0
     refine(h2 none 0 w).mono fun e2' w'=>?_
     rintro⟨rfl,rfl⟩
     obtain⟨ρ2,g4,g5⟩:=Sim.rerow (id:=0) (v := .slice none 0 0) (v' := .slice none 0 0) (e:=e') (sz:=1) (n:=(cpI []).length) (cs:=(cpI []).map fun z=>C.d (.int .i64 z)) (us:=(cpI []).map (Value.int .i64))
      hs (.inr ⟨rfl,fun _=>e1⟩) (World.grownBy.refl _ _) (.inl rfl) ⟨rfl,.inl ⟨rfl,rfl⟩⟩ (by omega) rfl (by omega) (hfar _ rfl) (how _)
     refine⟨_,_,_,1,ρ2,rfl,⟨rfl,rfl⟩,g4.ext (fun x=>rfl) hblk rfl (fun x hx=>?_),?_⟩
     ·unfold S.live S.blk QN at hx
      show x<1
      rcases Nat.lt_or_ge x 1 with h|h
      ·exact h
      ·simp[lk,show ¬ 0=x by omega,B.live] at hx
     ·rw[hlive];exact g5
   ·cases hx
  ·cases h
 ·cases h
end
noncomputable section
open Go.RowKit Go.Shelf
theorem qaM {P:Program} (w:World) (t e ty:TypeId) (z:Value) (zs:List Value) (ht:P.underlying t=some (.slice e)) (hv:∀w,(zeroValue e).run P w = .ok z w) (hz:z.cells.toList=zs) (h1:∀u∈zs,u.oneCell'=true) (b o c:Nat)
  (hc:∀j,j<zs.length→(w.cell? ⟨b,o+j,none⟩).isSome=true) (hf:∀j,j<zs.length→w.frozen? ⟨b,o+j,none⟩=false) (h0:0<zs.length) :
  (Builtin.clear_ #[t] ty #[.slice (some ⟨b,o,none⟩) 1 c]).run P w = .ok (.tuple #[]) (w.setCells b o zs):=by
 have hzc:(Builtin.zeroCells z.cells 1).toList=zs:=by
  subst hz
  simp only[Builtin.zeroCells]
  apply List.ext_getElem
  ·simp
  ·intro i h1 h2
   simp
   have h3:i<z.cells.size:=by simpa using h2
   rw[Nat.mod_eq_of_lt h3]
   exact getElem!_pos z.cells i h3
 have hst:=run_storeCells_cells (P:=P) b o zs 0 w (by simpa using hc) (by simpa using hf) h1
 simp only[Nat.add_zero] at hst
 simp[Builtin.clear_,run_underlying ht,hv,hzc,hst]
theorem q0Y {b:Nat} {e:TypeId}:∀(vs:List Value) (o:Nat) (w:World) (cur:Array Value),w.heap[b]?=some (.cells cur e (0,0))→o+vs.length≤cur.size→
  w.grownBy (w.setCells b o vs) (some b)∧∃cur':Array Value,(w.setCells b o vs).heap[b]?=some (.cells cur' e (0,0))∧cur'.size=cur.size∧∀k,cur'[k]?=if k<o∨o+vs.length≤k then cur[k]? else vs[k-o]?
 | [],o,w,cur,hb,ho=>⟨World.grownBy.refl w _,cur,hb,rfl,fun k=>by rw[if_pos (by simp;omega)]⟩
 | v::vs,o,w,cur,hb,ho=>by
  simp only[qxS] at ho
  have h1:(w.setCell ⟨b,o,none⟩ v).heap[b]?=some (.cells (cur.setIfInBounds o v) e (0,0)):=by
   simp only[World.setCell,Array.getElem?_modify,hb,if_true,Option.map_some]
   rfl
  have g1:w.grownBy (w.setCell ⟨b,o,none⟩ v) (some b):=⟨rfl,rfl,rfl,by simp,fun k _ hk=>Below.heap_setCell _ _ _ k (fun e=>hk (by rw[e]))⟩
  obtain⟨g2,cur',h2,h3,h4⟩:=q0Y vs (o+1) _ _ h1 (by simp;omega)
  refine⟨⟨g2.os.trans g1.os,g2.tape.trans g1.tape,g2.output.trans g1.output,qyi g1.size g2.size,fun k hk hn=>(g2.block k (qyh hk g1.size) hn).trans (g1.block k hk hn)⟩,cur',h2,by simpa using h3,fun k=>?_⟩
  rw[h4 k,qxS]
  by_cases hA:k<o+1∨o+1+vs.length≤k
  ·rw[if_pos hA]
   by_cases hk:o=k
   ·subst hk
    rw[if_neg (show ¬ (o<o∨o+(vs.length+1)≤o) by omega)]
    simp[Array.getElem?_setIfInBounds,(show o<cur.size by omega)]
   ·rw[if_pos (show k<o∨o+(vs.length+1)≤k by omega),Array.getElem?_setIfInBounds,if_neg hk]
  ·rw[if_neg hA,if_neg (show ¬ (k<o∨o+(vs.length+1)≤k) by omega),show k-o=(k-(o+1))+1 by omega,qy6]
def qqi (e:TypeId) (z sz sz':Nat) (e':TypeId) (n:Nat) (i j:Int) (cs:List C):Option (R×List (Nat×B)):=
 if e'=e∧sz=z∧sz'=z∧cs.length=n*z∧cs.all C.known=true∧cs.all (C.far 0)=true∧0≤i∧j=i+1∧i<n then some (.c (.own 0 z 0 (n-1)),[(0,.row e z (cs.take (i.toNat*z)++cs.drop ((i.toNat+1)*z)))]) else none
def qaC (e:TypeId) (z:Nat):Nat→List R→List (Nat×B)→Option (R×List (Nat×B))
 | 0,[.c (.own 0 sz 0 n),.c (.d (.int .i64 i)),.c (.d (.int .i64 j))],[(0,.row e' sz' cs)]=>qqi e z sz sz' e' n i j cs
 | _,_,_=>none
theorem qfz {P:Program} {f:FuncId} {fn:Func} {e:TypeId} {z:Nat} (hf:P.funcs[f]?=some fn) (hname:(fn.name == "runtime.NumGoroutine")=false) (hb:fn.body.isNone=false)
  (h1:∀(b n cap i j:Nat) (cur:Array Value) (w:World),w.heap[b]?=some (.cells cur e (0,0))→n≤cap→cap≤9223372036854775807→cur.size=cap*z→i<n→Hid (j=i+1)→(∀u∈cur.toList.take (n*z),u.oneCell'=true)→
   Calls P f #[.slice (some ⟨b,0,none⟩) n cap,.int .i64 i,.int .i64 j] w fun e' w'=>e' = .returned (.slice (some ⟨b,0,none⟩) (n-1) cap)∧w.grownBy w' (some b)∧
    ∃cur':Array Value,w'.heap[b]?=some (.cells cur' e (0,0))∧cur'.size=cur.size∧cur'.toList.take ((n-1)*z)=cur.toList.take (i*z)++(cur.toList.drop (j*z)).take ((n-j)*z))
  {k:Nat} {args:List R} {G G':List (Nat×B)} {r:R} (h:qaC e z k args G=some (r,G')):AC P f args G k fun r' hp'=>r'=r∧hp'=G':=by
 refine⟨⟨fn,hf,hname,hb⟩,fun cx ρ w vs hw hk hρ hro hs hv=>?_⟩
 unfold qaC at h
 split at h
 ·rename_i sz n i j e' sz' cs
  unfold qqi at h
  split at h
  ·rename_i hc
   obtain⟨rfl,rfl,rfl,c1,c2,c3,c4,rfl,c5⟩:=hc
   injection h with h
   injection h with h3 h4
   subst h3 h4
   obtain⟨i,rfl⟩:=Int.eq_ofNat_of_zero_le c4
   have hi:i<n:=by omega
   obtain⟨hvs,hvr⟩:=hv
   have hv0:RR w _ ρ (vs.getD 0 undef) _:=hvr 0 _ rfl
   have hv1:RR w _ ρ (vs.getD 1 undef) _:=hvr 1 _ rfl
   have hv2:RR w _ ρ (vs.getD 2 undef) _:=hvr 2 _ rfl
   obtain⟨hl,hcase⟩:=hv0.inv_own
   rcases hcase with ⟨b,cap,e1,e2,e3,e4⟩|⟨-,-,-,e5⟩
   ·have hsz:vs.size=3:=by simpa using hvs
    have hvs1:vs=#[.slice (some ⟨b,0,none⟩) n cap,.int .i64 i,.int .i64 ((i+1:Nat):Int)]:=by
     apply Array.ext
     ·simpa using hvs
     ·intro k hk hk'
      have hg:vs.getD k undef=vs[k]:=by simp[qxN,hk]
      have:k=0∨k=1∨k=2:=by omega
      rcases this with rfl|rfl|rfl
      ·rw[←hg,e4];simp
      ·rw[←hg,hv1.inv_int];rfl
      ·rw[←hg,hv2.inv_int];rfl
    subst hvs1
    simp only[qxK]
    obtain⟨hbz,hBk⟩:=hs.hp 0 b cap hl e1
    obtain⟨cur,q1,q2,q3,q4,q5,q6⟩:HB w _ ρ b cap (.row e' sz' cs):=hBk
    have hcell:∀(k:Nat) (c:C),cs[k]?=some c→∃u,cur[k]?=some u∧RC w _ ρ u c:=fun k c hk=>by
     have hk':k<cur.size:=by have:=(qxL.1 hk).1;omega
     refine⟨cur.getD k undef,by simp[qxN,hk'],q6 k c hk⟩
    have hone:∀u∈cur.toList.take (n*sz'),u.oneCell'=true:=fun u hu=>by
     obtain⟨k,hk,rfl⟩:=List.mem_iff_getElem.1 hu
     have hk1:k<n*sz':=by simp at hk;omega
     have hk2:k<cs.length:=by omega
     obtain⟨u,u1,u2⟩:=hcell k _ (qxJ hk2)
     have hone:=u2.one (qxY.1 c2 _ (qyy hk2))
     rw[List.getElem_take,Array.getElem_toList]
     have hk3:k<cur.size:=by omega
     rw[qy8 hk3] at u1
     injection u1 with u1
     rw[u1];exact hone
    refine(h1 b n cap i (i+1) cur w q1 (by omega) (by unfold maxLen at e3;omega) q3 hi rfl hone).mono fun e2 w'=>?_
    rintro⟨rfl,hg,cur',r1,r2,r3⟩
    have hus:(cur.toList.take (i*sz')++(cur.toList.drop ((i+1)*sz')).take ((n-(i+1))*sz')).length=(n-1)*sz':=by
     have hA:(n-(i+1))*sz'+(i+1)*sz'=n*sz':=by rw[←Nat.add_mul];congr 1;omega
     have hB:i*sz'≤n*sz':=Nat.mul_le_mul_right _ (by omega)
     have hC:(n-1)*sz'=i*sz'+(n-(i+1))*sz':=by rw[←Nat.add_mul];congr 1;omega
     have hD:n*sz'≤cap*sz':=Nat.mul_le_mul_right _ (by omega)
     rw[qxO,qya,qya,qyt,Array.length_toList]
     omega
    obtain⟨ρ2,g4,g5⟩:=Sim.rerow (id:=0) (v := .slice (some ⟨b,0,none⟩) n cap) (v' := .slice (some ⟨b,0,none⟩) (n-1) cap) (e:=e') (sz:=sz') (n:=n-1) (cs:=cs.take (i*sz')++cs.drop ((i+1)*sz')) (us:=cur.toList.take (i*sz')++(cur.toList.drop ((i+1)*sz')).take ((n-(i+1))*sz'))
     hs (.inl ⟨b,cap,hl,e1,rfl⟩) hg (.inl rfl) ⟨hus,.inr ⟨b,cap,cur',rfl,qy7 _,r1,by omega,q4,by omega,r3⟩⟩ q5
     (by
      have hA:(n-(i+1))*sz'+(i+1)*sz'=n*sz':=by rw[←Nat.add_mul];congr 1;omega
      have hC:(n-1)*sz'=i*sz'+(n-(i+1))*sz':=by rw[←Nat.add_mul];congr 1;omega
      have hB:i*sz'≤n*sz':=Nat.mul_le_mul_right _ (by omega)
      rw[qxO,qya,qyt];omega) (by omega) (fun k c hk=>by
      have hB:i*sz'≤n*sz':=Nat.mul_le_mul_right _ (by omega)
      have hB2:(i+1)*sz'≤n*sz':=Nat.mul_le_mul_right _ (by omega)
      by_cases hki:k<i*sz'
      ·rw[qyk (by rw[qya];omega),qyg hki] at hk
       obtain⟨u,u1,u2⟩:=hcell k c hk
       refine⟨qxY.1 c3 _ (qxI hk),u,?_,u2⟩
       have hk3:=(Array.getElem?_eq_some_iff.1 u1).1
       rw[qyk (by rw[qya,Array.length_toList];omega),qyg hki,Array.getElem?_toList]
       exact u1
      ·rw[qyj (by rw[qya];omega),qya,Nat.min_eq_left (by omega),List.getElem?_drop] at hk
       obtain⟨u,u1,u2⟩:=hcell _ c hk
       have hk3:=(qxL.1 hk).1
       have hk4:=(Array.getElem?_eq_some_iff.1 u1).1
       have hA:(n-(i+1))*sz'+(i+1)*sz'=n*sz':=by rw[←Nat.add_mul];congr 1;omega
       refine⟨qxY.1 c3 _ (qxI hk),u,?_,u2⟩
       have hD:n*sz'≤cap*sz':=Nat.mul_le_mul_right _ (by omega)
       rw[qyj (by rw[qya,Array.length_toList];omega),qya,Array.length_toList,Nat.min_eq_left (by omega),qyg (by omega),List.getElem?_drop,Array.getElem?_toList]
       exact u1) (fun k c u hk ho _=>by
      have hm:c∈cs:=by
       rcases qyb.1 (qxI hk) with h|h
       ·exact List.mem_of_mem_take h
       ·exact List.mem_of_mem_drop h
      have:=C.noow_is (qxY.1 (J4 c2) c hm)
      rw[ho] at this;cases this)
    have hblk:∀x,(QN [(0,B.row e' sz' (cs.take (i*sz')++cs.drop ((i+1)*sz')))] 1).blk x=(((QN [(0,B.row e' sz' cs)] 1).fg 0).up [(0,B.row e' sz' (cs.take (i*sz')++cs.drop ((i+1)*sz')))]).blk x:=fun x=>by
     rw[S.blk_up]
     by_cases hx:0=x
     ·subst hx;rfl
     ·rw[if_neg hx,S.blk_fg]
      unfold S.blk QN
      simp only[lk,if_neg hx,B.fg]
    have hlive:(QN [(0,B.row e' sz' (cs.take (i*sz')++cs.drop ((i+1)*sz')))] 1).live=(((QN [(0,B.row e' sz' cs)] 1).fg 0).up [(0,B.row e' sz' (cs.take (i*sz')++cs.drop ((i+1)*sz')))]).live:=by funext x;unfold S.live;rw[hblk]
    refine⟨_,_,_,1,ρ2,rfl,⟨rfl,rfl⟩,g4.ext (fun x=>rfl) hblk rfl (fun x hx=>?_),?_⟩
    ·unfold S.live S.blk QN at hx
     show x<1
     rcases Nat.lt_or_ge x 1 with h|h
     ·exact h
     ·simp[lk,show ¬ 0=x by omega,B.live] at hx
    ·rw[hlive];exact g5
   ·omega
  ·cases h
 ·cases h
end
noncomputable section
open Go.RowKit
def qij (x:Int):List Int→List Int
 | []=>[x]
 | y::l=>if x≤y then x::y::l else y::qij x l
def ZZ:List Int→List Int
 | []=>[]
 | x::l=>qij x (ZZ l)
theorem q54 (x:Int):∀l:List Int,(qij x l).Perm (x::l)
 | [] => .refl _
 | y::l=>by
  unfold qij
  split
  ·exact .refl _
  ·exact((q54 x l).cons y).trans (.swap x y l)
theorem q1j:∀l:List Int,(ZZ l).Perm l
 | [] => .refl _
 | x::l=>by
  unfold ZZ
  exact(q54 x _).trans ((q1j l).cons x)
theorem q4s (x:Int):∀{l:List Int},l.Pairwise (·≤·)→(qij x l).Pairwise (·≤·)
 | [],_=>by simp[qij]
 | y::l,h=>by
  unfold qij
  obtain⟨h1,h2⟩:=List.pairwise_cons.1 h
  split
  ·rename_i hxy
   exact List.pairwise_cons.2 ⟨fun z hz=>by
    rcases qy3.1 hz with rfl|hz
    ·exact hxy
    ·exact Int.le_trans hxy (h1 z hz),h⟩
  ·rename_i hxy
   exact List.pairwise_cons.2 ⟨fun z hz=>by
    rcases qy3.1 ((q54 x l).mem_iff.1 hz) with rfl|hz
    ·omega
    ·exact h1 z hz,q4s x h2⟩
theorem q0H:∀l:List Int,(ZZ l).Pairwise (·≤·)
 | [] => .nil
 | x::l=>q4s x (q0H l)
theorem q4r:∀{l m:List Int},l.Perm m→l.Pairwise (·≤·)→m.Pairwise (·≤·)→l=m
 | [],m,h,_,_=>(List.nil_perm.1 h).symm
 | x::l,m,h,hl,hm=>by
  cases m with
  | nil=>exact absurd (List.perm_nil.1 h) (by simp)
  | cons y m=>
   obtain⟨h1,h2⟩:=List.pairwise_cons.1 hl
   obtain⟨h3,h4⟩:=List.pairwise_cons.1 hm
   have hxy:x=y:=by
    have a1:y∈x::l:=h.mem_iff.2 (qxW ..)
    have a2:x∈y::m:=h.mem_iff.1 (qxW ..)
    rcases qy3.1 a1 with e|a1
    ·exact e.symm
    rcases qy3.1 a2 with e|a2
    ·exact e
    exact Int.le_antisymm (h1 y a1) (h3 x a2)
   subst hxy
   rw[q4r (List.Perm.cons_inv h) h2 h4]
theorem qf6 (l:List Int):(l.mergeSort fun x y=>decide (x≤y))=ZZ l:=by
 refine q4r ((List.mergeSort_perm l _).trans (q1j l).symm) ?_ (q0H l)
 have:=List.pairwise_mergeSort (le:=fun x y:Int=>decide (x≤y)) (fun a b c h1 h2=>by simp only[qyG] at *;omega) (fun a b=>by simp only[qyc,qyG];omega) l
 exact this.imp fun h=>by simpa using h
theorem q14 (l:List Int):(ZZ l).length=l.length:=(q1j l).length_eq
theorem qek {P:Program} {f:FuncId} {fn:Func} (hf:P.funcs[f]?=some fn) (hname:(fn.name == "runtime.NumGoroutine")=false) (hb:fn.body.isNone=false)
  (h1:∀(blk off cap:Nat) (zs:List Int) (w:World),Go.Sort.Holds (Value.int .i64) w blk off zs.toArray→blk<w.heap.size→zs.length<4611686018427387904→
   Calls P f #[.slice (some ⟨blk,off,none⟩) zs.length cap] w fun e w'=>e = .returned (.tuple #[])∧∃n os,w'=Go.Sort.grow (Go.Sort.putRow (Value.int .i64) (Go.Sort.ahead w n) blk off (zs.mergeSort fun x y=>decide (x≤y)).toArray) os)
  (h2:∀(p:Option Addr) (cap:Nat) (w:World),Calls P f #[.slice p 0 cap] w fun e w'=>e = .returned (.tuple #[])∧w'=w):qql P f ZZ:=by
 refine⟨⟨fn,hf,hname,hb⟩,q14,fun b cap zs w cur e c1 htk hlt=>?_,fun w=>h2 none 0 w⟩
 refine(h1 b 0 cap zs w (holds_of_blockI c1 htk) (Array.getElem?_eq_some_iff.1 c1).1 hlt).mono fun e' w'=>?_
 rintro⟨rfl,nn,os,rfl⟩
 rw[qf6]
 refine⟨rfl,grownBy_sortedI _,_,heap_sortedI _ c1,by simp[Go.Sort.putCells],?_⟩
 have hz:zs.length≤cur.size:=by
  have:=congrArg List.length htk
  simp only[qya,qyp,Array.length_toList] at this
  omega
 have:=take_putCellsI cur (ZZ zs) (by rw[q14];exact hz)
 rwa [q14] at this
end
noncomputable section
open Go.Shelf Go.RowKit Go.Sort
def q7V:Go.Shelf.Ren:=⟨fun | 189=>78 | 125=>90 | 257=>89 | 128=>102 | 129=>103 | 294=>93 | 295=>94 | 296=>95 | 297=>96 | 298=>97 | 299=>98 | 216=>99 | 300=>100 | 301=>101 | 328=>104 | 329=>105 | 330=>106 | 331=>107 | 332=>108 | 215=>87 | 343=>109|n=>n,fun | 28=>25 | 3=>3 | 46=>119 | 0=>0 | 51=>130 | 53=>132 | 4=>4 | 183=>123 | 182=>122 | 131=>127 | 5=>5 | 9=>9 | 218=>133 | 222=>137 | 228=>139 | 229=>140|n=>n,fun|n=>n⟩
theorem qex:Go.Proofs.Lays.n189 Try.prog q7V:={
 mixed:=by kernel_rfl
 f125:=Try.func90.trans (congrArg some (by kernel_rfl))
 f128:=Try.func102.trans (congrArg some (by kernel_rfl))
 f129:=Try.func103.trans (congrArg some (by kernel_rfl))
 f189:=Try.func78.trans (congrArg some (by kernel_rfl))
 f215:=Try.func87.trans (congrArg some (by kernel_rfl))
 f216:=Try.func99.trans (congrArg some (by kernel_rfl))
 f257:=Try.func89.trans (congrArg some (by kernel_rfl))
 f294:=Try.func93.trans (congrArg some (by kernel_rfl))
 f295:=Try.func94.trans (congrArg some (by kernel_rfl))
 f296:=Try.func95.trans (congrArg some (by kernel_rfl))
 f297:=Try.func96.trans (congrArg some (by kernel_rfl))
 f298:=Try.func97.trans (congrArg some (by kernel_rfl))
 f299:=Try.func98.trans (congrArg some (by kernel_rfl))
 f300:=Try.func100.trans (congrArg some (by kernel_rfl))
 f301:=Try.func101.trans (congrArg some (by kernel_rfl))
 f328:=Try.func104.trans (congrArg some (by kernel_rfl))
 f329:=Try.func105.trans (congrArg some (by kernel_rfl))
 f330:=Try.func106.trans (congrArg some (by kernel_rfl))
 f331:=Try.func107.trans (congrArg some (by kernel_rfl))
 f332:=Try.func108.trans (congrArg some (by kernel_rfl))
 f343:=Try.func109.trans (congrArg some (by kernel_rfl))
 t0:=Try.underlying0
 a0:=Try.isAgg0
 z0:=Try.sizeOf0
 v0:=Try.zeroValue0
 t3:=Try.underlying3
 a3:=Try.isAgg3
 z3:=Try.sizeOf3
 v3:=Try.zeroValue3
 t4:=Try.underlying4
 a4:=Try.isAgg4
 z4:=Try.sizeOf4
 v4:=Try.zeroValue4
 t5:=Try.underlying5
 a5:=Try.isAgg5
 z5:=Try.sizeOf5
 v5:=Try.zeroValue5
 t9:=Try.underlying9
 a9:=Try.isAgg9
 z9:=Try.sizeOf9
 v9:=Try.zeroValue9
 t28:=Try.underlying25
 a28:=Try.isAgg25
 z28:=Try.sizeOf25
 v28:=Try.zeroValue25
 t46:=Try.underlying119
 a46:=Try.isAgg119
 z46:=Try.sizeOf119
 v46:=Try.zeroValue119
 t51:=Try.underlying130
 a51:=Try.isAgg130
 z51:=Try.sizeOf130
 v51:=Try.zeroValue130
 t53:=Try.underlying132
 a53:=Try.isAgg132
 z53:=Try.sizeOf132
 v53:=Try.zeroValue132
 t131:=Try.underlying127
 a131:=Try.isAgg127
 z131:=Try.sizeOf127
 v131:=Try.zeroValue127
 t182:=Try.underlying122
 a182:=Try.isAgg122
 z182:=Try.sizeOf122
 v182:=Try.zeroValue122
 t183:=Try.underlying123
 a183:=Try.isAgg123
 z183:=Try.sizeOf123
 v183:=Try.zeroValue123
 t218:=Try.underlying133
 a218:=Try.isAgg133
 z218:=Try.sizeOf133
 v218:=Try.zeroValue133
 t222:=Try.underlying137
 a222:=Try.isAgg137
 z222:=Try.sizeOf137
 v222:=Try.zeroValue137
 t228:=Try.underlying139
 a228:=Try.isAgg139
 z228:=Try.sizeOf139
 v228:=Try.zeroValue139
 t229:=Try.underlying140
 a229:=Try.isAgg140
 z229:=Try.sizeOf140
 v229:=Try.zeroValue140 }
theorem qvj:qql Try.prog 78 ZZ:=qek (fn:=Try.f78) (by kernel_rfl) (by kernel_rfl) (by kernel_rfl) (Any.slices_Sort_int qex) (Any.slices_Sort_int_none qex)
end
noncomputable section
def br {α:Type} (n k:Nat) (a b:α):α:=bif Nat.blt n k then a else b
def tk (t:TypeId):Kd:=bif Nat.blt t 158 then(br t 79 (br t 39 (br t 19 (br t 9 (br t 4 (br t 2 (br t 1 .other .fn) (.int .i64)) (br t 6 (br t 5 .bool (.int .u8)) (br t 7 (.int .u8) (.st [(0,2),(1,3),(2,4),(3,6)])))) (br t 14 (br t 11 .str (br t 12 .str (br t 13 (.int .u64) (.st [(0,9),(1,12)])))) (br t 16 (br t 15 (.st [(0,9),(1,12)]) (.ptr 144)) (br t 17 (.ptr 147) (br t 18 (.ptr 156) (.st [(0,17)])))))) (br t 29 (br t 24 (br t 21 (br t 20 (.st [(0,17)]) .other) (br t 22 (.int .i32) (br t 23 (.sl 25) (.arr 3 3)))) (br t 26 (br t 25 (.arr 2 23) (.sl 3)) (br t 27 (.int .u16) (.st [(0,22),(1,24),(7,25),(8,26)])))) (br t 34 (br t 31 (.st [(0,3),(1,3),(2,3)]) (br t 32 .fn (br t 33 (.sl 52) (.sl 50)))) (br t 36 (br t 35 (.sl 36) (.st [(0,3),(1,3),(2,3),(3,33),(4,34)])) (br t 37 (.st [(0,3),(1,3),(2,3),(3,33),(4,34)]) (br t 38 (.sl 96) (.st [(0,3),(1,3),(2,3),(3,3),(4,9),(5,36),(10,3),(11,3),(12,3),(13,37)]))))))) (br t 59 (br t 49 (br t 44 (br t 41 (br t 40 (.st [(0,3),(1,3),(2,3),(3,3),(4,9),(5,36),(10,3),(11,3),(12,3),(13,37)]) .other) (br t 42 .fn (br t 43 .fn (.sl 30)))) (br t 46 (br t 45 (.sl 32) (.int .i64)) (br t 47 .other .fn))) (br t 54 (br t 51 (.st [(0,3),(1,9)]) (br t 52 (.st [(0,50),(2,3),(3,3),(4,3),(5,25),(6,3),(7,25)]) (br t 53 (.st [(0,50),(2,3),(3,3),(4,3),(5,25),(6,3),(7,25)]) .fn))) (br t 56 (br t 55 .fn .other) .fn))) (br t 69 .fn (br t 74 (br t 71 (br t 70 (.arr 2 3) .fn) .fn) .fn)))) (br t 118 (br t 98 (br t 88 (br t 83 (br t 81 (br t 80 .fn (.sl 81)) (br t 82 (.arr 2 3) (.mp 3 3))) (br t 85 .fn (br t 86 .fn (br t 87 .fn (.ptr 89))))) (br t 93 (br t 90 (.st [(0,25),(1,3)]) (br t 91 (.sl 9) (br t 92 .fn (.ptr 93)))) (br t 95 (br t 94 (.st [(0,25),(1,3)]) .fn) (br t 96 .fn (br t 97 (.arr 2 50) .fn))))) .fn) (br t 138 (br t 128 (br t 123 (br t 120 (br t 119 .fn (.int .u64)) (br t 121 .fn (br t 122 .fn (.int .i64)))) (br t 125 (br t 124 .other .fn) (br t 126 .fn (br t 127 .fn .other)))) (br t 133 (br t 130 .fn (br t 131 (.int .u32) (br t 132 .fn (.int .u64)))) (br t 135 (br t 134 (.int .u64) .fn) (br t 136 .fn (br t 137 .fn (.ptr 3)))))) (br t 148 (br t 143 (br t 140 (br t 139 .fn (.ptr 133)) (br t 141 .other .fn)) (br t 145 (.st [(0,17),(1,17),(2,17),(3,9)]) (br t 146 (.arr 0 16) (.st [(0,145)])))) (br t 153 (br t 150 (br t 149 .fn (.int .u8)) (br t 151 (.int .u8) (br t 152 .fn (.ptr 5)))) (br t 155 (.int .i32) (br t 156 (.st [(0,12),(1,12),(2,130),(3,149),(4,5),(5,5),(6,150),(7,151),(8,152),(9,153),(10,154)]) (br t 157 (.st [(0,12),(1,12),(2,130),(3,149),(4,5),(5,5),(6,150),(7,151),(8,152),(9,153),(10,154)]) .other)))))))) else .other
def tz (t:TypeId):Nat:=bif Nat.blt t 158 then(br t 79 (br t 39 (br t 19 (br t 9 (br t 4 (br t 2 (br t 1 0 1) 1) (br t 6 1 (br t 7 1 4))) (br t 14 (br t 11 1 (br t 12 1 (br t 13 1 2))) (br t 16 (br t 15 2 1) 1))) (br t 29 (br t 24 (br t 21 (br t 20 1 0) (br t 22 1 (br t 23 1 3))) (br t 26 (br t 25 6 1) (br t 27 1 9))) (br t 34 (br t 31 3 1) (br t 36 (br t 35 1 5) (br t 37 5 (br t 38 1 14)))))) (br t 59 (br t 49 (br t 44 (br t 41 (br t 40 14 0) 1) (br t 46 1 (br t 47 0 1))) (br t 54 (br t 51 2 (br t 52 8 (br t 53 8 1))) (br t 56 (br t 55 1 0) 1))) (br t 69 1 (br t 74 (br t 71 (br t 70 2 1) 1) 1)))) (br t 118 (br t 98 (br t 88 (br t 83 (br t 81 1 (br t 82 2 1)) 1) (br t 93 (br t 90 2 1) (br t 95 (br t 94 2 1) (br t 96 1 (br t 97 4 1))))) 1) (br t 138 (br t 128 (br t 123 1 (br t 125 (br t 124 0 1) (br t 126 1 (br t 127 1 0)))) 1) (br t 148 (br t 143 (br t 140 1 (br t 141 0 1)) (br t 145 4 0)) (br t 153 1 (br t 155 1 (br t 156 11 (br t 157 11 0)))))))) else 0
def tb (t:TypeId):Nat:=bif Nat.blt t 158 then(br t 79 (br t 39 (br t 19 (br t 9 (br t 4 (br t 2 (br t 1 0 8) 8) (br t 6 1 (br t 7 1 24))) (br t 14 (br t 11 16 (br t 12 16 (br t 13 8 24))) (br t 16 (br t 15 24 8) 8))) (br t 29 (br t 24 (br t 21 (br t 20 8 0) (br t 22 4 24)) (br t 26 (br t 25 48 24) (br t 27 2 104))) (br t 34 (br t 31 24 (br t 32 8 24)) (br t 36 (br t 35 24 72) (br t 37 72 (br t 38 24 168)))))) (br t 59 (br t 49 (br t 44 (br t 41 (br t 40 168 0) (br t 42 8 (br t 43 8 24))) (br t 46 (br t 45 24 8) (br t 47 0 8))) (br t 54 (br t 51 24 (br t 52 104 (br t 53 104 8))) (br t 56 (br t 55 8 0) 8))) (br t 69 8 (br t 74 (br t 71 (br t 70 16 8) 8) 8)))) (br t 118 (br t 98 (br t 88 (br t 83 (br t 81 (br t 80 8 24) (br t 82 16 8)) 8) (br t 93 (br t 90 32 (br t 91 24 8)) (br t 95 (br t 94 32 8) (br t 96 8 (br t 97 48 8))))) 8) (br t 138 (br t 128 (br t 123 8 (br t 125 (br t 124 0 8) (br t 126 8 (br t 127 8 0)))) (br t 133 (br t 130 8 (br t 131 4 8)) 8)) (br t 148 (br t 143 (br t 140 8 (br t 141 0 8)) (br t 145 40 0)) (br t 153 (br t 150 (br t 149 8 1) (br t 151 1 8)) (br t 155 4 (br t 156 48 (br t 157 48 0)))))))) else 0
def t0 (t:TypeId):List C:=bif Nat.blt t 158 then(br t 79 (br t 39 (br t 19 (br t 9 (br t 4 (br t 2 (br t 1 [] [.nilf]) [.d (.int .i64 0)]) (br t 6 (br t 5 [.d (.bool false)] [.d (.int .u8 0)]) (br t 7 [.d (.int .u8 0)] [.d (.int .i64 0),.d (.int .i64 0),.d (.bool false),.d (.int .u8 0)]))) (br t 14 (br t 11 [.d (.str ⟨#[]⟩)] (br t 12 [.d (.str ⟨#[]⟩)] (br t 13 [.d (.int .u64 0)] [.d (.str ⟨#[]⟩),.d (.int .u64 0)]))) (br t 16 (br t 15 [.d (.str ⟨#[]⟩),.d (.int .u64 0)] [.nilp]) [.nilp]))) (br t 29 (br t 24 (br t 21 (br t 20 [.nilp] []) (br t 22 [.d (.int .i32 0)] (br t 23 [.nils] [.d (.int .i64 0),.d (.int .i64 0),.d (.int .i64 0)]))) (br t 26 (br t 25 [.d (.int .i64 0),.d (.int .i64 0),.d (.int .i64 0),.d (.int .i64 0),.d (.int .i64 0),.d (.int .i64 0)] [.nils]) (br t 27 [.d (.int .u16 0)] [.nils,.d (.int .i64 0),.d (.int .i64 0),.d (.int .i64 0),.d (.int .i64 0),.d (.int .i64 0),.d (.int .i64 0),.nils,.d (.int .u16 0)]))) (br t 34 (br t 31 [.d (.int .i64 0),.d (.int .i64 0),.d (.int .i64 0)] (br t 32 [.nilf] [.nils])) (br t 36 (br t 35 [.nils] [.d (.int .i64 0),.d (.int .i64 0),.d (.int .i64 0),.nils,.nils]) (br t 37 [.d (.int .i64 0),.d (.int .i64 0),.d (.int .i64 0),.nils,.nils] (br t 38 [.nils] [.d (.int .i64 0),.d (.int .i64 0),.d (.int .i64 0),.d (.int .i64 0),.d (.str ⟨#[]⟩),.d (.int .i64 0),.d (.int .i64 0),.d (.int .i64 0),.nils,.nils,.d (.int .i64 0),.d (.int .i64 0),.d (.int .i64 0),.nils])))))) (br t 59 (br t 49 (br t 44 (br t 41 (br t 40 [.d (.int .i64 0),.d (.int .i64 0),.d (.int .i64 0),.d (.int .i64 0),.d (.str ⟨#[]⟩),.d (.int .i64 0),.d (.int .i64 0),.d (.int .i64 0),.nils,.nils,.d (.int .i64 0),.d (.int .i64 0),.d (.int .i64 0),.nils] []) (br t 42 [.nilf] (br t 43 [.nilf] [.nils]))) (br t 46 (br t 45 [.nils] [.d (.int .i64 0)]) (br t 47 [] [.nilf]))) (br t 54 (br t 51 [.d (.int .i64 0),.d (.str ⟨#[]⟩)] (br t 52 [.d (.int .i64 0),.d (.str ⟨#[]⟩),.d (.int .i64 0),.d (.int .i64 0),.d (.int .i64 0),.nils,.d (.int .i64 0),.nils] (br t 53 [.d (.int .i64 0),.d (.str ⟨#[]⟩),.d (.int .i64 0),.d (.int .i64 0),.d (.int .i64 0),.nils,.d (.int .i64 0),.nils] [.nilf]))) (br t 56 (br t 55 [.nilf] []) [.nilf]))) (br t 69 [.nilf] (br t 74 (br t 71 (br t 70 [.d (.int .i64 0),.d (.int .i64 0)] [.nilf]) [.nilf]) [.nilf])))) (br t 118 (br t 98 (br t 88 (br t 83 (br t 81 (br t 80 [.nilf] [.nils]) (br t 82 [.d (.int .i64 0),.d (.int .i64 0)] [.nilm])) (br t 85 [.nilf] (br t 86 [.nilf] (br t 87 [.nilf] [.nilp])))) (br t 93 (br t 90 [.nils,.d (.int .i64 0)] (br t 91 [.nils] (br t 92 [.nilf] [.nilp]))) (br t 95 (br t 94 [.nils,.d (.int .i64 0)] [.nilf]) (br t 96 [.nilf] (br t 97 [.d (.int .i64 0),.d (.str ⟨#[]⟩),.d (.int .i64 0),.d (.str ⟨#[]⟩)] [.nilf]))))) [.nilf]) (br t 138 (br t 128 (br t 123 (br t 120 (br t 119 [.nilf] [.d (.int .u64 0)]) (br t 121 [.nilf] (br t 122 [.nilf] [.d (.int .i64 0)]))) (br t 125 (br t 124 [] [.nilf]) (br t 126 [.nilf] (br t 127 [.nilf] [])))) (br t 133 (br t 130 [.nilf] (br t 131 [.d (.int .u32 0)] (br t 132 [.nilf] [.d (.int .u64 0)]))) (br t 135 (br t 134 [.d (.int .u64 0)] [.nilf]) (br t 136 [.nilf] (br t 137 [.nilf] [.nilp]))))) (br t 148 (br t 143 (br t 140 (br t 139 [.nilf] [.nilp]) (br t 141 [] [.nilf])) (br t 145 [.nilp,.nilp,.nilp,.d (.str ⟨#[]⟩)] [])) (br t 153 (br t 150 (br t 149 [.nilf] [.d (.int .u8 0)]) (br t 151 [.d (.int .u8 0)] (br t 152 [.nilf] [.nilp]))) (br t 155 [.d (.int .i32 0)] (br t 156 [.d (.int .u64 0),.d (.int .u64 0),.d (.int .u32 0),.d (.int .u8 0),.d (.int .u8 0),.d (.int .u8 0),.d (.int .u8 0),.nilf,.nilp,.d (.int .i32 0),.d (.int .i32 0)] (br t 157 [.d (.int .u64 0),.d (.int .u64 0),.d (.int .u32 0),.d (.int .u8 0),.d (.int .u8 0),.d (.int .u8 0),.d (.int .u8 0),.nilf,.nilp,.d (.int .i32 0),.d (.int .i32 0)] [])))))))) else[]
def tip:FuncId→Option (List Int→List Int)
 | 78=>some ZZ
 | _=>none
def tsf:FuncId→Option TypeId
 | _=>none
def tbk (t n:Nat):Bool:=(t==32&&n==3)
def T:Ty:=⟨tk,tz,tb,t0,tip,tsf,true,tbk⟩
theorem bk_ (t n:Nat):T.bk t n=((t==32&&n==3)):=rfl
theorem qrt:(List.range 158).all (fun t=>decide (T.k t = .other)||Ty.okAt Try.prog T t)=true:=by kernel_rfl
theorem qpk (t:Nat) (h:158≤t):T.k t = .other:=by
 have hb:Nat.blt t 158=false:=by
  cases h':Nat.blt t 158 with
  | false=>rfl
  | true=>exact absurd (Nat.le_of_ble_eq_true h') (by omega)
 show tk t = .other
 unfold tk
 rw[hb]
 rfl
theorem qwO:∀t,T.k t = .other∨Ty.okAt Try.prog T t=true:=fun t=>by
 rcases Nat.lt_or_ge t 158 with h|h
 ·have:=qxY.1 qrt t (qyD.2 h)
  simp only[qyc,qyG] at this
  exact this
 ·exact .inl (qpk t h)
theorem qvE:∀g h,T.ip g=some h→qql Try.prog g h:=by
 intro g h hg
 replace hg:tip g=some h:=hg
 unfold tip at hg
 split at hg
 ·injection hg with hg;subst hg;exact qvj
 ·cases hg
theorem qx9:∀g e,T.sf g=some e→qtY Try.prog g e:=by
 intro g e hg
 replace hg:tsf g=some e:=hg
 unfold tsf at hg
 cases hg
theorem qqk:Ag Try.prog T:=⟨qwO,qvE,qx9⟩
theorem k3:T.k 3 = .int .i64:=rfl
theorem k4:T.k 4 = .bool:=rfl
theorem k9:T.k 9 = .str:=rfl
theorem k22:T.k 22 = .sl 25:=rfl
theorem k23:T.k 23 = .arr 3 3:=rfl
theorem k24:T.k 24 = .arr 2 23:=rfl
theorem k25:T.k 25 = .sl 3:=rfl
theorem k26:T.k 26 = .int .u16:=rfl
theorem k28:T.k 28 = .st [(0,22),(1,24),(7,25),(8,26)]:=rfl
theorem k30:T.k 30 = .st [(0,3),(1,3),(2,3)]:=rfl
theorem k32:T.k 32 = .sl 52:=rfl
theorem k33:T.k 33 = .sl 50:=rfl
theorem k34:T.k 34 = .sl 36:=rfl
theorem k36:T.k 36 = .st [(0,3),(1,3),(2,3),(3,33),(4,34)]:=rfl
theorem k37:T.k 37 = .sl 96:=rfl
theorem k39:T.k 39 = .st [(0,3),(1,3),(2,3),(3,3),(4,9),(5,36),(10,3),(11,3),(12,3),(13,37)]:=rfl
theorem k43:T.k 43 = .sl 30:=rfl
theorem k44:T.k 44 = .sl 32:=rfl
theorem k50:T.k 50 = .st [(0,3),(1,9)]:=rfl
theorem k52:T.k 52 = .st [(0,50),(2,3),(3,3),(4,3),(5,25),(6,3),(7,25)]:=rfl
theorem k60:T.k 60 = .fn:=rfl
theorem k69:T.k 69 = .arr 2 3:=rfl
theorem k80:T.k 80 = .sl 81:=rfl
theorem k81:T.k 81 = .arr 2 3:=rfl
theorem k82:T.k 82 = .mp 3 3:=rfl
theorem k89:T.k 89 = .st [(0,25),(1,3)]:=rfl
theorem k90:T.k 90 = .sl 9:=rfl
theorem k93:T.k 93 = .st [(0,25),(1,3)]:=rfl
theorem k96:T.k 96 = .arr 2 50:=rfl
theorem qwL:T.k 105 = .fn:=rfl
theorem z3:T.sz 3=1:=rfl
theorem z9:T.sz 9=1:=rfl
theorem z22:T.sz 22=1:=rfl
theorem z23:T.sz 23=3:=rfl
theorem z24:T.sz 24=6:=rfl
theorem z25:T.sz 25=1:=rfl
theorem z26:T.sz 26=1:=rfl
theorem z28:T.sz 28=9:=rfl
theorem z30:T.sz 30=3:=rfl
theorem z32:T.sz 32=1:=rfl
theorem z33:T.sz 33=1:=rfl
theorem z34:T.sz 34=1:=rfl
theorem z36:T.sz 36=5:=rfl
theorem z37:T.sz 37=1:=rfl
theorem z39:T.sz 39=14:=rfl
theorem z50:T.sz 50=2:=rfl
theorem z51:T.sz 51=8:=rfl
theorem z52:T.sz 52=8:=rfl
theorem z53:T.sz 53=1:=rfl
theorem z81:T.sz 81=2:=rfl
theorem z82:T.sz 82=1:=rfl
theorem z96:T.sz 96=4:=rfl
theorem qvt:T.sz 105=1:=rfl
theorem z131:T.sz 131=1:=rfl
theorem b3:T.by_ 3=8:=rfl
theorem b10:T.by_ 10=16:=rfl
theorem b11:T.by_ 11=16:=rfl
theorem b25:T.by_ 25=24:=rfl
theorem b36:T.by_ 36=72:=rfl
theorem b50:T.by_ 50=24:=rfl
theorem b52:T.by_ 52=104:=rfl
theorem b81:T.by_ 81=16:=rfl
theorem o3:T.zero 3=[.d (.int .i64 0)]:=rfl
theorem o23:T.zero 23=[.d (.int .i64 0),.d (.int .i64 0),.d (.int .i64 0)]:=rfl
theorem o25:T.zero 25=[.nils]:=rfl
theorem o30:T.zero 30=[.d (.int .i64 0),.d (.int .i64 0),.d (.int .i64 0)]:=rfl
theorem o36:T.zero 36=[.d (.int .i64 0),.d (.int .i64 0),.d (.int .i64 0),.nils,.nils]:=rfl
theorem o39:T.zero 39=[.d (.int .i64 0),.d (.int .i64 0),.d (.int .i64 0),.d (.int .i64 0),.d (.str ⟨#[]⟩),.d (.int .i64 0),.d (.int .i64 0),.d (.int .i64 0),.nils,.nils,.d (.int .i64 0),.d (.int .i64 0),.d (.int .i64 0),.nils]:=rfl
theorem o50:T.zero 50=[.d (.int .i64 0),.d (.str ⟨#[]⟩)]:=rfl
theorem o52:T.zero 52=[.d (.int .i64 0),.d (.str ⟨#[]⟩),.d (.int .i64 0),.d (.int .i64 0),.d (.int .i64 0),.nils,.d (.int .i64 0),.nils]:=rfl
theorem o69:T.zero 69=[.d (.int .i64 0),.d (.int .i64 0)]:=rfl
theorem o81:T.zero 81=[.d (.int .i64 0),.d (.int .i64 0)]:=rfl
theorem o82:T.zero 82=[.nilm]:=rfl
theorem o89:T.zero 89=[.nils,.d (.int .i64 0)]:=rfl
theorem o93:T.zero 93=[.nils,.d (.int .i64 0)]:=rfl
theorem o96:T.zero 96=[.d (.int .i64 0),.d (.str ⟨#[]⟩),.d (.int .i64 0),.d (.str ⟨#[]⟩)]:=rfl
theorem qw8:T.zero 105=[.nilf]:=rfl
end
noncomputable section
open Go.Shelf Go.RowKit Go.Sort
set_option maxHeartbeats 4000000 in
set_option maxRecDepth 1000000 in
theorem qsr (b n cap i j:Nat) (cur:Array Value) (w:World) (hb:w.heap[b]?=some (.cells cur 52 (0,0))) (hn:n≤cap) (hm:cap≤9223372036854775807) (hz:cur.size=cap*8) (hi:i<n) (hj:Hid (j=i+1)) (hone:∀u∈cur.toList.take (n*8),u.oneCell'=true) :
  Calls Try.prog 33 #[.slice (some ⟨b,0,none⟩) n cap,.int .i64 i,.int .i64 j] w fun e w'=>e = .returned (.slice (some ⟨b,0,none⟩) (n-1) cap)∧w.grownBy w' (some b)∧
   ∃cur':Array Value,w'.heap[b]?=some (.cells cur' 52 (0,0))∧cur'.size=cur.size∧cur'.toList.take ((n-1)*8)=cur.toList.take (i*8)++(cur.toList.drop (j*8)).take ((n-j)*8):=by
 have mixed:Try.prog.follows .mixedOrders=true:=by kernel_rfl
 have hic:i≤cap:=by omega
 have hij:i<j:=by have:=hj.out;omega
 have hjn:j≤n:=by have:=hj.out;omega
 have hjc:j≤cap:=by omega
 obtain⟨i0,hi0,hz1⟩:∃i0,Try.prog.info? 52=some i0∧i0.size=8:=by
  obtain⟨d,i0,z,ht⟩:=qqk.at_ (t:=52) (by rw[k52];simp)
  exact⟨i0,ht.info,ht.sz.trans z52⟩
 obtain⟨news,hnews⟩:∃news,news=(cur.toList.drop (j*8)).take ((n-j)*8):=⟨_,rfl⟩
 have hcl:cur.toList.length=cap*8:=by simpa using hz
 have hlen:news.length=(n-j)*8:=by rw[hnews,qya,qyt,hcl];omega
 have hmem:∀u∈news,u∈cur.toList.take (n*8):=fun u hu=>by rw[hnews,show(n-j)*8=n*8-j*8 by omega,←List.drop_take] at hu;exact List.mem_of_mem_drop hu
 have hcell:∀k,k<cap*8→w.cell? ⟨b,k,none⟩=cur.toList[k]?:=fun k hk=>by
  have:k<cur.size:=by omega
  simp[World.cell?,hb]
 have hfz:∀k,w.frozen? ⟨b,k,none⟩=false:=fun k=>by simp[World.frozen?,hb]
 obtain⟨A,hA,hsrc⟩:∃A:Addr,(if cap=j then some (⟨b,0,none⟩:Addr) else some ⟨b,j*8,none⟩)=some A∧Hid (∀t u,news[t]?=some u→w.drew.cell? (A.add t)=some u):=by
  by_cases h:cap=j
  ·refine⟨⟨b,0,none⟩,by simp[h],fun t u hu=>?_⟩
   have h0:news.length=0:=by rw[hlen];omega
   rw[List.length_eq_zero_iff.1 h0] at hu
   simp at hu
  ·refine⟨⟨b,j*8,none⟩,by simp[h],fun t u hu=>?_⟩
   have ht:t<(n-j)*8:=by
    have:=(qxL.1 hu).1
    rwa [hlen] at this
   rw[hnews,qyg ht,List.getElem?_drop] at hu
   rw[Addr.add_lit]
   exact(hcell _ (by omega)).trans hu
 have s1:Hid (news.length=(n-j)*8):=hlen
 have s2:Hid (∀u∈news,u.oneCell'=true):=fun u hu=>hone u (hmem u hu)
 have s3:Hid (∀t,t<news.length→(w.drew.cell? ⟨b,0+i*8+t,none⟩).isSome=true∧w.drew.frozen? ⟨b,0+i*8+t,none⟩=false):=by
  intro t ht
  rw[hlen] at ht
  have:=hj.out
  refine⟨?_,hfz _⟩
  show(w.cell? _).isSome=true
  rw[hcell _ (by omega),qxJ (by omega)];rfl
 obtain⟨W1,hW1⟩:∃W1,W1=w.drew.setCells b (0+i*8) news:=⟨_,rfl⟩
 have hW:Hid (W1=w.drew.setCells b (0+i*8) news):=hW1
 obtain⟨z,zs,hv,hzz,hz2,hz3⟩:∃(z:Value) (zs:List Value),(∀w,(zeroValue 52).run Try.prog w = .ok z w)∧z.cells.toList=zs∧zs.length=8∧∀u∈zs,u.oneCell'=true:=⟨_,_,Try.zeroValue52,rfl,by kernel_rfl,fun u hu=>by simp[Value.cells] at hu;rcases hu with rfl|rfl|rfl|rfl|rfl|rfl|rfl|rfl<;>rfl⟩
 obtain⟨hg1,c1,hc1,hc2,hc3⟩:=q0Y (e:=52) news (0+i*8) w.drew cur hb (by rw[hlen];have:=hj.out;omega)
 rw[←hW1] at hg1 hc1
 obtain⟨hg2,c2,hd1,hd2,hd3⟩:=q0Y (e:=52) zs ((i+(n-j))*8) W1 c1 hc1 (by rw[hz2,hc2];have:=hj.out;omega)
 have hfin:Hid (w.grownBy (W1.setCells b ((i+(n-j))*8) zs) (some b)∧∃cur':Array Value,(W1.setCells b ((i+(n-j))*8) zs).heap[b]?=some (.cells cur' 52 (0,0))∧cur'.size=cur.size∧cur'.toList.take ((n-1)*8)=cur.toList.take (i*8)++(cur.toList.drop (j*8)).take ((n-j)*8)):=by
  have hjo:=hj.out
  refine⟨⟨hg2.os.trans hg1.os,hg2.tape.trans hg1.tape,hg2.output.trans hg1.output,qyi hg1.size hg2.size,fun k hk hn=>(hg2.block k (qyh hk hg1.size) hn).trans (hg1.block k hk hn)⟩,c2,hd1,hd2.trans hc2,?_⟩
  rw[←hnews]
  apply List.ext_getElem?
  intro k
  rcases Nat.lt_or_ge k ((n-1)*8) with hk|hk
  ·rw[qyg hk,Array.getElem?_toList,hd3 k,if_pos (.inl (by omega)),hc3 k]
   by_cases hki:k<i*8
   ·rw[if_pos (.inl (by omega)),qyk (by rw[qya,hcl];omega),qyg hki,Array.getElem?_toList]
   ·rw[if_neg (by rw[hlen];omega),qyj (by rw[qya,hcl];omega),qya,hcl,Nat.min_eq_left (by omega)]
    congr 1;omega
  ·rw[qyf (by rw[qya];omega),qyf (by rw[qxO,qya,hcl,hlen];omega)]
 have hclr:∀ty,(Builtin.clear_ #[32] ty #[.slice (some ⟨b,(i+(n-j))*8,none⟩) (n-(i+(n-j))) (cap-(i+(n-j)))]).run Try.prog W1 = .ok (.tuple #[]) (W1.setCells b ((i+(n-j))*8) zs):=fun ty=>by
  have hjo:=hj.out
  rw[show n-(i+(n-j))=1 by omega]
  refine qaM W1 32 52 ty z zs Try.underlying32 hv hzz hz3 b _ _ (fun k hk=>?_) (fun k _=>by simp[World.frozen?,hc1]) (by omega)
  have:(i+(n-j))*8+k<c1.size:=by rw[hc2];omega
  simp[World.cell?,hc1,this]
 have hout:Hid (i+(n-j)=n-1):=by have:=hj.out;show i+(n-j)=n-1;omega
 clear hW1 hnews hlen hmem hcell hfz hone hv hzz hz2 hz3 hcl hg1 hc1 hc2 hc3 hg2 hd1 hd2 hd3
 go_enter Try.func33,Try.ntmps33
 go_wp2_with fail
 go_region_law_o (refine step_append_room rfl (.tmp 22) (.tmp 25) 32 rfl 52 i0 8 Try.underlying32 hi0 hz1 b 0 i cap (by simp[Act.eval,Act.put]) A (n-j) (cap-j) news (by simp[Act.eval,Act.put]) s1.out hsrc.out s2.out (by omega) s3.out ?_;rw[←hW.out])
 go_wp2
 go_ret
 exact⟨by rw[←hout.out];rfl,hfin.out⟩
def q6p:Go.Shelf.Ren:=⟨fun | 20=>79|n=>n,fun | 22=>25 | 3=>3 | 4=>4 | 0=>0|n=>n,fun|n=>n⟩
theorem q7f:Go.Proofs.Lays2.n20 Try.prog q6p:={
 mixed:=by kernel_rfl
 f20:=Try.func79.trans (congrArg some (by kernel_rfl))
 t0:=Try.underlying0
 a0:=Try.isAgg0
 z0:=Try.sizeOf0
 v0:=Try.zeroValue0
 t3:=Try.underlying3
 a3:=Try.isAgg3
 z3:=Try.sizeOf3
 v3:=Try.zeroValue3
 t4:=Try.underlying4
 a4:=Try.isAgg4
 z4:=Try.sizeOf4
 v4:=Try.zeroValue4
 t22:=Try.underlying25
 a22:=Try.isAgg25
 z22:=Try.sizeOf25
 v22:=Try.zeroValue25
 i3:=by kernel_rfl }
end
noncomputable section
open Go.RowKit
def pq (t:TypeId):List Nat:=bif Nat.blt t 94 then(br t 47 (br t 23 (br t 11 [] (br t 17 [] (br t 20 [] (br t 21 [] (br t 22 [] [1]))))) (br t 35 (br t 29 (br t 26 (br t 24 [] (br t 25 [] [1])) (br t 27 [] [1,0,0,0,0,0,0,1,0])) (br t 32 [] (br t 33 [8] (br t 34 [2] [5])))) (br t 41 (br t 38 (br t 36 [0,0,0,2,5] (br t 37 [0,0,0,2,5] [4])) (br t 39 [0,0,0,0,0,0,0,0,2,5,0,0,0,4] (br t 40 [0,0,0,0,0,0,0,0,2,5,0,0,0,4] []))) (br t 44 (br t 42 [] (br t 43 [] [3])) (br t 45 [1] []))))) (br t 70 (br t 58 (br t 52 (br t 49 [] (br t 50 [] (br t 51 [] [0,0,0,0,0,1,0,1]))) (br t 55 (br t 53 [0,0,0,0,0,1,0,1] []) [])) []) (br t 82 (br t 76 [] (br t 79 [] (br t 80 [] (br t 81 [2] [])))) (br t 88 [] (br t 91 (br t 89 [1,0] (br t 90 [1,0] [1])) (br t 92 [] (br t 93 [] [1,0]))))))) else[]
def pow (t:FuncId):List Nat:=bif Nat.blt t 80 then(br t 40 (br t 20 (br t 10 [] (br t 15 (br t 12 (br t 11 [] [0]) []) [])) (br t 30 [] (br t 35 (br t 32 [] (br t 33 [] (br t 34 [0] []))) []))) (br t 60 [] (br t 70 [] (br t 75 [] (br t 77 [] (br t 78 [] (br t 79 [] [0]))))))) else[]
def pfz (f:FuncId):Bool:=([9,12,18,19,20,26,27,29,30,31,35,42,51,56,58,67,68,77]:List Nat).contains f
def pro (f:FuncId):Bool:=([27,35,57]:List Nat).contains f
def pkp (t:FuncId) (k:Nat):List Nat:=bif Nat.blt t 105 then(br t 52 (br t 26 (br t 13 (br t 6 (br t 3 [] (br t 4 (br k 20 (br k 10 (br k 5 [] (br k 7 (br k 6 [5,6,7,8,9,37,38,39] []) (br k 8 [] (br k 9 [5,6,7,8,9,11,37,38,39,45,46,47] [])))) (br k 15 [] (br k 17 (br k 16 [] [5,6,7,8,9,11,37,38,39,77,78,79]) (br k 18 [] (br k 19 [] [5,6,7,8,9,11,19,37,38,39,77,78,79,83,84,85]))))) []) (br t 5 (br k 6 (br k 3 [] (br k 4 [] (br k 5 [] [3,33,34,35]))) []) (br k 23 (br k 11 (br k 5 [] (br k 8 [] (br k 9 [1,5,6,9,11,38,39,40] []))) (br k 17 [] (br k 20 (br k 18 [] (br k 19 [5,6,9,16,84,85,86] [])) (br k 21 [] (br k 22 [] [5,6,9,16,19,84,85,86,90,91,92]))))) [])))) (br t 9 (br t 7 (br k 47 (br k 23 (br k 11 (br k 5 [] (br k 8 (br k 6 [3,4,7,34,35] []) [])) (br k 17 (br k 14 (br k 12 [3,4,7,9,43,44,45] []) []) (br k 20 (br k 18 [3,4,7,9,10,11,43,44,45,63,64,65] []) []))) (br k 35 (br k 29 (br k 26 (br k 24 [] (br k 25 [] [3,4,7,9,11,14,15,43,44,45])) (br k 27 [] (br k 28 [] [3,4,7,9,11,14,15,43,44,45,113,114,115]))) (br k 32 [] (br k 33 [3,4,7,9,11,14,15,17,18,43,44,45,113,114,115,119,120,121] []))) (br k 41 [] (br k 44 (br k 42 [] (br k 43 [] [3,4,7,161,162])) (br k 45 [] (br k 46 [] [3,4,7,21,161,162,166,167])))))) []) (br t 8 (br k 16 (br k 8 [] (br k 12 (br k 10 (br k 9 [] [3,5,6,7,11,52,53,54]) []) (br k 14 [] (br k 15 [] [3,5,6,7,11,13,14,52,53,54,76,77,78])))) []) [])) (br t 11 (br t 10 (br k 4 (br k 2 [] (br k 3 [] [1,3,5,13,14])) []) []) (br t 12 (br k 10 (br k 5 (br k 2 [] (br k 3 [] (br k 4 [3,5,6,10,14,15,16] []))) (br k 7 [] (br k 8 [] (br k 9 [] [6,10,13])))) []) (br k 10 (br k 5 (br k 2 [] (br k 3 [] (br k 4 [0,3,5,6,10,11] []))) (br k 7 [] (br k 8 [] (br k 9 [] [6,10,13])))) []))))) (br t 19 (br t 16 (br t 14 (br k 5 (br k 2 [] (br k 3 [] (br k 4 [] [0,1,5]))) []) []) (br t 17 [] (br t 18 (br k 10 (br k 5 [] (br k 7 (br k 6 [0,4,5] []) (br k 8 [] (br k 9 [] [0,4,5,6,7])))) []) (br k 5 (br k 2 [] (br k 3 [] (br k 4 [] [0,1,5]))) [])))) (br t 22 (br t 20 (br k 33 (br k 16 (br k 8 (br k 4 [] (br k 6 (br k 5 [0,3,4,19,20] []) [])) (br k 12 (br k 10 (br k 9 [0,3,4,5,19,20,27,28] []) []) (br k 14 [] (br k 15 [] [0,3,4,50,51])))) (br k 24 (br k 20 (br k 18 (br k 17 [] [0,3,4,50,51,53,54,55]) []) []) (br k 28 (br k 26 (br k 25 [] [4,10,83,84]) []) (br k 30 [] (br k 31 [] (br k 32 [] [10,12,98,99,100])))))) []) (br t 21 (br k 27 (br k 13 (br k 6 (br k 3 [] (br k 4 [0,3,4] [])) (br k 9 (br k 7 [] (br k 8 [0,3,5] [])) (br k 11 (br k 10 [] [0,3,5,6]) []))) (br k 20 (br k 16 (br k 14 [0,3,5,6,7] []) []) (br k 23 (br k 21 [] (br k 22 [0,3,9,10] [])) (br k 25 [] (br k 26 [] [0,3,9,10,11,12]))))) []) (br k 3 (br k 1 [] (br k 2 [] [0,6,7,8])) []))) (br t 24 (br t 23 (br k 4 (br k 2 [] (br k 3 [] [3,6,7,8])) []) []) [])))) (br t 39 (br t 32 (br t 29 (br t 27 [] (br t 28 (br k 4 (br k 2 [] (br k 3 [] [0,3,4])) []) [])) []) (br t 35 (br t 33 (br k 4 (br k 2 [] (br k 3 [] [3,4,5,7,13,14,15])) []) []) (br t 37 (br t 36 [] (br k 6 (br k 3 (br k 1 [] (br k 2 [] [0,3,5])) (br k 4 [] (br k 5 [] [0,3,5,6]))) [])) (br t 38 [] (br k 5 (br k 2 [] (br k 3 [] (br k 4 [] [0,1,12,13]))) []))))) (br t 45 (br t 42 (br t 40 [] (br t 41 (br k 5 (br k 2 [] (br k 3 [] (br k 4 [] [0,1,5]))) []) [])) (br t 43 [] (br t 44 (br k 6 (br k 3 (br k 1 [] (br k 2 [] [0,3])) (br k 4 [] (br k 5 [] [0,3,4]))) []) (br k 4 (br k 2 [] (br k 3 [] [0,3,4])) [])))) []))) (br t 78 (br t 65 (br t 58 (br t 55 [] (br t 56 [] (br t 57 (br k 10 (br k 5 [] (br k 7 [] (br k 8 [] (br k 9 [] [0,1,2,6,7,8,9,10])))) []) []))) (br t 61 (br t 59 (br k 9 (br k 4 (br k 2 [] (br k 3 [] [3,10,11,12])) (br k 6 [] (br k 7 [] (br k 8 [] [3,10,11,12,22,23,24])))) []) []) (br t 63 [] (br t 64 (br k 11 (br k 5 [] (br k 8 (br k 6 [0,2,3,10] []) (br k 9 [] (br k 10 [] [0,2,3,10,11,12])))) []) [])))) (br t 71 (br t 68 (br t 66 [] (br t 67 [] (br k 5 (br k 2 [] (br k 3 [] (br k 4 [] [0,3,4,8]))) []))) (br t 69 [] (br t 70 (br k 6 (br k 3 (br k 1 [] (br k 2 [] [0,1,5])) (br k 4 [] (br k 5 [] [0,1,5,6]))) []) (br k 3 (br k 1 [] (br k 2 [] [0,1,7,8])) [])))) (br t 74 (br t 72 [] (br t 73 (br k 4 (br k 2 [] (br k 3 [] [3,6,7,8])) []) [])) (br t 76 (br t 75 [] (br k 3 (br k 1 [] (br k 2 [] [0,1,9,10,11])) [])) (br t 77 [] (br k 9 (br k 4 [] (br k 6 (br k 5 [0,3,4,5] []) (br k 7 [] (br k 8 [] [0,3,4,5,6,7])))) [])))))) (br t 91 (br t 84 (br t 81 (br t 79 [] (br t 80 (br k 10 (br k 5 (br k 2 [] (br k 3 [] (br k 4 [] [0,3]))) (br k 7 [] (br k 8 [] (br k 9 [] [0,3,4,5])))) []) (br k 3 (br k 1 [] (br k 2 [] [0,1,7,8])) []))) (br t 82 (br k 3 (br k 1 [] (br k 2 [] [0,1,7,8])) []) (br t 83 [] (br k 3 (br k 1 [] (br k 2 [] [0,1,5])) [])))) (br t 87 (br t 85 (br k 3 (br k 1 [] (br k 2 [] [1,9,10,11])) []) []) (br t 89 [] (br t 90 (br k 3 (br k 1 [] (br k 2 [] [0,1,2,3,8,9])) []) [])))) (br t 98 (br t 94 (br t 92 [] (br t 93 [] (br k 5 (br k 2 (br k 1 [] [0,1,2,6]) (br k 3 [] (br k 4 [] [0,1,2,6,7]))) []))) (br t 96 (br t 95 (br k 9 (br k 4 [] (br k 6 (br k 5 [0,6,7,8,9] []) (br k 7 [] (br k 8 [] [0,6,7,10])))) []) (br k 6 (br k 3 [] (br k 4 [] (br k 5 [] [0,1,6,7,8,9]))) [])) (br t 97 [] (br k 3 (br k 1 [] (br k 2 [] [0,6,7])) [])))) (br t 101 (br t 99 (br k 21 (br k 10 (br k 5 (br k 2 [] (br k 3 [] (br k 4 [0,1,2,7,8] []))) (br k 7 (br k 6 [0,1,2,7,8] []) [])) (br k 15 (br k 12 [] (br k 13 [] (br k 14 [] [0,1,2,7,8,9]))) (br k 18 [] (br k 19 [] (br k 20 [] [0,1,2,7,8,10]))))) []) (br t 100 [] (br k 6 (br k 3 [] (br k 4 [0,1,9,10] (br k 5 [] [0,1,9,10]))) []))) (br t 103 (br t 102 (br k 16 (br k 8 (br k 4 (br k 2 [] (br k 3 [] [0,1,10,11])) (br k 6 (br k 5 [] [0,1,10,11]) [])) (br k 12 [] (br k 14 (br k 13 [] [0,1,10,11]) (br k 15 [] [0,1,10,11])))) []) []) (br t 104 [] (br k 2 (br k 1 [] [0,2,3,8]) [])))))))) else[]
def pkx (t:FuncId) (k:Nat):List Nat:=bif Nat.blt t 105 then(br t 52 (br t 26 (br t 13 (br t 6 (br t 3 [] (br t 4 (br k 20 (br k 10 (br k 5 [] (br k 7 (br k 6 [4,5] []) (br k 8 [] (br k 9 [4,5,6,7,8,9,11,37,38,39] [])))) (br k 15 [] (br k 17 (br k 16 [] [4,5,6,7,8,9,37,38,39]) (br k 18 [] (br k 19 [] [4,5,6,7,8,9,11,37,38,39,77,78,79]))))) []) (br t 5 (br k 6 (br k 3 [] (br k 4 [] (br k 5 [] [2,3]))) []) (br k 23 (br k 11 (br k 5 [] (br k 8 [] (br k 9 [5,6,9,11] []))) (br k 17 [] (br k 20 (br k 18 [] (br k 19 [4,5,9,16] [])) (br k 21 [] (br k 22 [] [4,5,6,9,16,19,84,85,86]))))) [])))) (br t 9 (br t 7 (br k 47 (br k 23 (br k 11 (br k 5 [] (br k 8 (br k 6 [3,4,7] []) [])) (br k 17 (br k 14 (br k 12 [2,3,4,7] []) []) (br k 20 (br k 18 [2,3,4,7,9,11,43,44,45] []) []))) (br k 35 (br k 29 (br k 26 (br k 24 [] (br k 25 [] [3,4,7,9,11,14,43,44,45])) (br k 27 [] (br k 28 [] [3,4,7,9,11,14,15,43,44,45]))) (br k 32 [] (br k 33 [3,4,7,9,11,14,15,17,18,43,44,45,113,114,115] []))) (br k 41 [] (br k 44 (br k 42 [] (br k 43 [] [2,3])) (br k 45 [] (br k 46 [] [2,3,4,7,161,162])))))) []) (br t 8 (br k 16 (br k 8 [] (br k 12 (br k 10 (br k 9 [] [2,3,7,11]) []) (br k 14 [] (br k 15 [] [2,3,5,6,7,11,14,52,53,54])))) []) [])) (br t 11 (br t 10 (br k 4 (br k 2 [] (br k 3 [] [1,3,5])) []) []) (br k 10 (br k 5 (br k 2 [] (br k 3 [] (br k 4 [6,10] []))) (br k 7 [] (br k 8 [] (br k 9 [] [10])))) [])))) (br t 19 (br t 16 (br t 14 (br k 5 (br k 2 [] (br k 3 [] (br k 4 [] [4]))) []) []) (br t 17 [] (br t 18 (br k 10 (br k 5 [] (br k 7 (br k 6 [4] []) (br k 8 [] (br k 9 [] [0,4,5,6])))) []) (br k 5 (br k 2 [] (br k 3 [] (br k 4 [] [4]))) [])))) (br t 22 (br t 20 (br k 33 (br k 16 (br k 8 (br k 4 [] (br k 6 (br k 5 [0,3,4] []) [])) (br k 12 (br k 10 (br k 9 [0,3,4,19,20] []) []) (br k 14 [] (br k 15 [] [0,4])))) (br k 24 (br k 20 (br k 18 (br k 17 [] [0,3,4,50,51]) []) []) (br k 28 (br k 26 (br k 25 [] [4,10]) []) (br k 30 [] (br k 31 [] (br k 32 [] [10])))))) []) (br t 21 (br k 27 (br k 13 (br k 6 (br k 3 [] (br k 4 [0,3] [])) (br k 9 (br k 7 [] (br k 8 [0,3] [])) (br k 11 (br k 10 [] [0,3,5]) []))) (br k 20 (br k 16 (br k 14 [0,3,5,6] []) []) (br k 23 (br k 21 [] (br k 22 [9] [])) (br k 25 [] (br k 26 [] [0,3,9,10,11]))))) []) (br k 3 (br k 1 [] (br k 2 [] [2])) []))) (br t 24 (br t 23 (br k 4 (br k 2 [] (br k 3 [] [3])) []) []) [])))) (br t 39 (br t 32 (br t 29 (br t 27 [] (br t 28 (br k 4 (br k 2 [] (br k 3 [] [3])) []) [])) []) (br t 35 (br t 33 (br k 4 (br k 2 [] (br k 3 [] [6])) []) []) (br t 37 (br t 36 [] (br k 6 (br k 3 (br k 1 [] (br k 2 [] [4])) (br k 4 [] (br k 5 [] [0,3,4,5]))) [])) (br t 38 [] (br k 5 (br k 2 [] (br k 3 [] (br k 4 [] [4]))) []))))) (br t 45 (br t 42 (br t 40 [] (br t 41 (br k 5 (br k 2 [] (br k 3 [] (br k 4 [] [4]))) []) [])) (br t 43 [] (br t 44 (br k 6 (br k 3 (br k 1 [] (br k 2 [] [2])) (br k 4 [] (br k 5 [] [0,2,3]))) []) (br k 4 (br k 2 [] (br k 3 [] [3])) [])))) []))) (br t 78 (br t 65 (br t 58 (br t 55 [] (br t 56 [] (br t 57 (br k 10 (br k 5 [] (br k 7 [] (br k 8 [] (br k 9 [] [0,6,7,8,9])))) []) []))) (br t 61 (br t 59 (br k 9 (br k 4 (br k 2 [] (br k 3 [] [3])) (br k 6 [] (br k 7 [] (br k 8 [] [3,10,11,12])))) []) []) (br t 63 [] (br t 64 (br k 11 (br k 5 [] (br k 8 (br k 6 [8] []) (br k 9 [] (br k 10 [] [0,2,3,8,10])))) []) [])))) (br t 71 (br t 68 (br t 66 [] (br t 67 [] (br k 5 (br k 2 [] (br k 3 [] (br k 4 [] [7]))) []))) (br t 69 [] (br t 70 (br k 6 (br k 3 (br k 1 [] (br k 2 [] [4])) (br k 4 [] (br k 5 [] [0,1,4,5]))) []) (br k 3 (br k 1 [] (br k 2 [] [4])) [])))) (br t 74 (br t 72 [] (br t 73 (br k 4 (br k 2 [] (br k 3 [] [2,3])) []) [])) (br t 76 (br t 75 [] (br k 3 (br k 1 [] (br k 2 [] [0,1,4])) [])) (br t 77 [] (br k 9 (br k 4 [] (br k 6 (br k 5 [4] []) (br k 7 [] (br k 8 [] [0,3,4,5,6,7])))) [])))))) (br t 91 (br t 84 (br t 81 (br t 79 [] (br t 80 (br k 10 (br k 5 (br k 2 [] (br k 3 [] (br k 4 [] [0,2]))) (br k 7 [] (br k 8 [] (br k 9 [] [0,3])))) []) (br k 3 (br k 1 [] (br k 2 [] [4])) []))) (br t 82 (br k 3 (br k 1 [] (br k 2 [] [4])) []) (br t 83 [] (br k 3 (br k 1 [] (br k 2 [] [4])) [])))) (br t 87 (br t 85 (br k 3 (br k 1 [] (br k 2 [] [1,2])) []) []) (br t 89 [] (br t 90 (br k 3 [] []) [])))) (br t 98 (br t 94 (br t 92 [] (br t 93 [] (br k 5 (br k 2 [] (br k 3 [] (br k 4 [] [0,1,2,6]))) []))) (br t 96 (br t 95 (br k 9 (br k 4 [] (br k 6 (br k 5 [0,6,7,8] []) [])) []) (br k 6 [] [])) (br t 97 [] (br k 3 [] [])))) (br t 101 (br t 99 (br k 21 (br k 10 (br k 5 (br k 2 [] (br k 3 [] (br k 4 [6] []))) (br k 7 (br k 6 [0,1,2,7,8] []) [])) (br k 15 (br k 12 [] (br k 13 [] (br k 14 [] [0,1,2,7,8]))) (br k 18 [] (br k 19 [] (br k 20 [] [0,1,2,7,8]))))) []) (br t 100 [] (br k 6 (br k 3 [] (br k 4 [9] (br k 5 [] [0,1,9,10]))) []))) (br t 103 (br t 102 (br k 16 (br k 8 (br k 4 (br k 2 [] (br k 3 [] [0,1,10,11])) (br k 6 (br k 5 [] [0,1,10,11]) [])) (br k 12 [] (br k 14 (br k 13 [] [0,1,11]) (br k 15 [] [0,1,10,11])))) []) []) (br t 104 [] (br k 2 [] [])))))))) else[]
def prw (t:FuncId) (k:Nat):List Rw:=bif Nat.blt t 78 then(br t 39 (br t 19 (br t 9 (br t 4 [] (br t 6 (br t 5 [] (br k 23 (br k 11 (br k 5 [] (br k 8 [] (br k 9 [.slot 11 52 8] []))) (br k 17 [] (br k 20 [] (br k 21 [] (br k 22 [] [.slot 19 52 8]))))) [])) (br t 7 (br k 29 (br k 14 [] (br k 21 [] (br k 25 [] (br k 27 (br k 26 [.slot 14 3 1] []) (br k 28 [] [.slot 14 3 1]))))) []) []))) (br t 14 (br t 11 [] (br t 12 (br k 4 (br k 2 [] (br k 3 [] [.slot 10 52 8])) []) (br t 13 (br k 4 (br k 2 [] (br k 3 [] [.slot 10 52 8])) []) []))) (br t 16 [] (br t 17 [] (br t 18 (br k 10 (br k 5 [] (br k 7 [] (br k 8 [] (br k 9 [] [.slot 6 52 8])))) []) []))))) (br t 29 (br t 24 (br t 21 (br t 20 (br k 26 (br k 13 (br k 6 (br k 3 [] (br k 4 [] (br k 5 [.slot 3 81 2] []))) (br k 9 (br k 7 [] (br k 8 [] [.slot 3 81 2])) [])) (br k 19 [] (br k 22 [] (br k 24 [] (br k 25 [] [.slot 10 25 1]))))) []) (br k 27 (br k 13 (br k 6 (br k 3 [] (br k 4 [.slot 3 3 1] [])) []) (br k 20 [] (br k 23 (br k 21 [] (br k 22 [.slot 9 25 1] [])) (br k 25 [] (br k 26 [] [.slot 11 3 1]))))) [])) []) (br t 26 [] (br t 27 [] (br t 28 (br k 4 (br k 2 [] (br k 3 [] [.slot 3 52 8])) []) [])))) [])) (br t 58 (br t 48 [] (br t 53 [] (br t 55 [] (br t 56 [] (br t 57 (br k 10 (br k 5 [] (br k 7 [] (br k 8 [] (br k 9 [] [.cell 9 4 36 5])))) []) []))))) (br t 68 [] (br t 73 [] (br t 75 [] (br t 76 [] (br t 77 [] (br k 5 (br k 2 [] (br k 3 [] (br k 4 [] [.slot 4 50 2]))) [])))))))) else[]
def pdm (t:FuncId) (k:Nat):Nat:=bif Nat.blt t 110 then(br t 55 (br t 27 (br t 13 (br t 6 (br t 3 0 (br t 4 (br k 22 (br k 11 (br k 5 (br k 2 0 (br k 3 0 (br k 4 0 6))) 0) (br k 16 0 (br k 19 0 (br k 20 0 (br k 21 0 7))))) 0) 0)) (br t 9 (br t 7 (br k 49 (br k 24 0 (br k 36 0 (br k 42 (br k 39 (br k 37 14 0) 0) (br k 45 0 (br k 47 0 (br k 48 0 24)))))) 0) (br t 8 (br k 12 (br k 6 (br k 3 0 (br k 4 9 (br k 5 9 0))) (br k 9 0 (br k 10 0 (br k 11 0 10)))) 0) 0)) (br t 11 (br t 10 (br k 10 (br k 5 0 (br k 7 0 (br k 8 12 (br k 9 0 10)))) 0) 0) (br t 12 0 (br k 12 (br k 6 (br k 3 0 (br k 4 0 (br k 5 0 6))) (br k 9 0 (br k 10 0 (br k 11 0 7)))) 0))))) (br t 20 (br t 16 (br t 14 (br k 7 (br k 3 0 (br k 5 0 (br k 6 0 8))) 0) 0) (br t 18 (br t 17 (br k 7 (br k 3 0 (br k 5 0 (br k 6 0 3))) 0) 0) (br t 19 (br k 7 (br k 3 0 (br k 5 0 (br k 6 0 8))) 0) (br k 37 (br k 18 (br k 9 0 (br k 13 (br k 11 (br k 10 0 8) 0) 0)) (br k 27 (br k 22 (br k 20 (br k 19 0 10) (br k 21 10 0)) 0) (br k 32 0 (br k 34 0 (br k 35 0 (br k 36 0 13)))))) 0)))) (br t 23 (br t 21 (br k 17 (br k 8 0 (br k 12 0 (br k 14 0 (br k 15 0 (br k 16 8 11))))) 0) 0) (br t 25 0 (br t 26 (br k 2 (br k 1 0 12) 0) 0))))) (br t 41 (br t 34 (br t 30 0 (br t 32 (br t 31 (br k 3 (br k 1 0 (br k 2 0 28)) 0) (br k 2 (br k 1 0 7) 0)) (br t 33 (br k 6 (br k 3 0 (br k 4 0 (br k 5 0 10))) 0) (br k 6 (br k 3 0 (br k 4 0 (br k 5 0 6))) 0)))) (br t 37 (br t 35 (br k 2 (br k 1 0 12) 0) 0) (br t 39 (br t 38 0 (br k 7 (br k 3 0 (br k 5 0 (br k 6 0 8))) 0)) (br t 40 0 (br k 7 (br k 3 0 (br k 5 0 (br k 6 0 8))) 0))))) (br t 48 (br t 44 (br t 42 0 (br t 43 0 (br k 8 (br k 4 0 (br k 6 0 (br k 7 0 8))) 0))) 0) (br t 51 (br t 49 0 (br t 50 (br k 2 (br k 1 0 43) 0) 0)) (br t 53 (br t 52 0 (br k 5 (br k 2 (br k 1 0 9) (br k 3 0 (br k 4 0 12))) 0)) (br t 54 (br k 4 (br k 2 (br k 1 0 9) (br k 3 0 15)) 0) 0)))))) (br t 82 (br t 68 (br t 61 (br t 58 (br t 56 0 (br t 57 (br k 12 (br k 6 (br k 3 0 (br k 4 0 (br k 5 10 7))) (br k 9 0 (br k 10 0 (br k 11 0 10)))) 0) 0)) 0) (br t 64 (br t 62 0 (br t 63 0 (br k 2 (br k 1 0 9) 0))) (br t 66 0 (br t 67 0 (br k 7 (br k 3 0 (br k 5 0 (br k 6 0 7))) 0))))) (br t 75 (br t 71 (br t 69 0 (br t 70 (br k 8 (br k 4 0 (br k 6 0 (br k 7 0 8))) 0) 0)) 0) (br t 78 (br t 76 0 (br t 77 0 (br k 13 (br k 6 0 (br k 9 (br k 7 0 (br k 8 0 10)) (br k 11 (br k 10 0 10) (br k 12 0 7)))) 0))) (br t 80 (br t 79 0 (br k 12 (br k 6 0 (br k 9 (br k 7 9 0) (br k 10 0 (br k 11 0 9)))) 0)) 0)))) (br t 96 (br t 89 (br t 85 (br t 83 0 (br t 84 0 (br k 8 (br k 4 0 (br k 6 0 (br k 7 0 15))) 0))) 0) (br t 92 (br t 90 (br k 18 (br k 9 0 (br k 13 0 (br k 15 0 (br k 16 0 (br k 17 0 12))))) 0) 0) (br t 94 (br t 93 0 (br k 7 (br k 3 0 (br k 5 (br k 4 0 13) (br k 6 0 16))) 0)) (br k 11 (br k 5 0 (br k 8 0 (br k 9 0 (br k 10 0 18)))) 0)))) (br t 103 (br t 99 (br t 97 0 (br t 98 (br k 4 (br k 2 0 (br k 3 0 14)) 0) (br k 24 (br k 12 (br k 6 (br k 3 0 (br k 4 0 (br k 5 0 13))) (br k 9 0 (br k 10 0 (br k 11 0 16)))) (br k 18 (br k 15 0 (br k 16 0 (br k 17 9 16))) (br k 21 0 (br k 22 0 (br k 23 9 16))))) 0))) (br t 101 (br t 100 0 (br k 9 (br k 4 (br k 2 (br k 1 0 14) (br k 3 0 12)) (br k 6 (br k 5 0 12) (br k 7 0 (br k 8 0 14)))) 0)) (br t 102 (br k 22 (br k 11 (br k 5 (br k 2 (br k 1 0 14) (br k 3 0 (br k 4 12 0))) (br k 8 (br k 6 12 0) (br k 9 14 (br k 10 0 14)))) (br k 16 (br k 13 0 (br k 14 12 (br k 15 0 12))) (br k 19 (br k 17 0 (br k 18 0 14)) (br k 20 0 (br k 21 0 14))))) 0) 0))) (br t 106 (br t 104 0 (br t 105 (br k 7 (br k 3 0 (br k 5 (br k 4 18 0) (br k 6 12 22))) 0) 0)) (br t 108 (br t 107 (br k 4 (br k 2 (br k 1 0 7) 7) 0) 0) (br t 109 0 (br k 2 (br k 1 0 8) 0)))))))) else 0
def pan (t:FuncId) (k:Nat):List (List Nat):=bif Nat.blt t 110 then(br t 55 (br t 27 (br t 13 (br t 6 (br t 3 [] (br t 4 (br k 22 (br k 11 (br k 5 (br k 2 [] (br k 3 [] (br k 4 [] [[],[],[],[0,2],[],[]]))) []) (br k 16 [] (br k 19 [] (br k 20 [] (br k 21 [] [[],[],[],[0,1,2],[],[],[]]))))) []) [])) (br t 9 (br t 7 (br k 49 (br k 24 [] (br k 36 [] (br k 42 (br k 39 (br k 37 [[],[],[],[],[],[],[],[],[],[7],[],[],[],[]] []) []) (br k 45 [] (br k 47 [] (br k 48 [] [[],[],[],[],[],[],[],[],[],[3],[],[],[],[3],[],[],[],[],[],[3,9,13],[],[],[],[3,9,13]])))))) []) (br t 8 (br k 12 (br k 6 (br k 3 [] (br k 4 [[],[],[],[],[1,2],[1,2,4],[1,2,4],[1,2,4],[1,2,4]] (br k 5 [[],[],[],[],[1,2],[1,2,4],[1,2,4],[1,2,4],[1,2,4]] []))) (br k 9 [] (br k 10 [] (br k 11 [] [[],[],[],[],[],[],[],[],[],[]])))) []) [])) (br t 11 (br t 10 (br k 10 (br k 5 [] (br k 7 [] (br k 8 [[],[],[],[],[],[],[],[],[],[],[],[5,7,9]] (br k 9 [] [[],[],[],[2],[],[],[5],[],[],[2,3]])))) []) []) (br t 12 [] (br k 12 (br k 6 (br k 3 [] (br k 4 [] (br k 5 [] [[],[],[],[],[],[]]))) (br k 9 [] (br k 10 [] (br k 11 [] [[],[],[],[],[],[],[]])))) []))))) (br t 20 (br t 16 (br t 14 (br k 7 (br k 3 [] (br k 5 [] (br k 6 [] [[],[],[],[],[],[],[],[]]))) []) []) (br t 18 (br t 17 (br k 7 (br k 3 [] (br k 5 [] (br k 6 [] [[],[],[]]))) []) []) (br t 19 (br k 7 (br k 3 [] (br k 5 [] (br k 6 [] [[],[],[],[],[],[],[],[]]))) []) (br k 37 (br k 18 (br k 9 [] (br k 13 (br k 11 (br k 10 [] [[],[],[],[],[],[],[],[]]) []) [])) (br k 27 (br k 22 (br k 20 (br k 19 [] [[],[],[],[],[2],[],[],[],[],[7]]) (br k 21 [[],[],[],[],[],[],[],[],[],[2]] [])) []) (br k 32 [] (br k 34 [] (br k 35 [] (br k 36 [] [[],[],[],[],[],[],[],[],[],[],[],[],[4,5,6,7,8,9,10,11]])))))) [])))) (br t 23 (br t 21 (br k 17 (br k 8 [] (br k 12 [] (br k 14 [] (br k 15 [] (br k 16 [[],[],[],[],[],[],[],[]] [[],[],[],[],[],[],[],[],[],[],[]]))))) []) []) (br t 25 [] (br t 26 (br k 2 (br k 1 [] [[],[],[],[],[],[1],[],[1],[1,5,7],[],[],[1]]) []) []))))) (br t 41 (br t 34 (br t 30 [] (br t 32 (br t 31 (br k 3 (br k 1 [] (br k 2 [] [[],[],[],[],[1],[],[],[1,4],[],[],[],[1,4,7],[],[1,4,7,9,11],[],[1,4,7,11],[],[1,4,7,11,15],[],[1,4,7,11,15,17],[],[],[],[1,4,7,11,15,17,19],[],[1,4,7,11,15,17,19,21,23],[],[]])) []) (br k 2 (br k 1 [] [[],[],[1],[],[],[1,2,4],[]]) [])) (br t 33 (br k 6 (br k 3 [] (br k 4 [] (br k 5 [] [[],[],[],[],[1],[1],[1],[1],[],[1,6,7]]))) []) (br k 6 (br k 3 [] (br k 4 [] (br k 5 [] [[],[],[],[],[],[]]))) [])))) (br t 37 (br t 35 (br k 2 (br k 1 [] [[],[],[],[],[],[1],[],[1],[1,5,7],[],[],[1]]) []) []) (br t 39 (br t 38 [] (br k 7 (br k 3 [] (br k 5 [] (br k 6 [] [[],[],[],[],[],[],[],[]]))) [])) (br t 40 [] (br k 7 (br k 3 [] (br k 5 [] (br k 6 [] [[],[],[],[],[],[],[],[]]))) []))))) (br t 48 (br t 44 (br t 42 [] (br t 43 [] (br k 8 (br k 4 [] (br k 6 [] (br k 7 [] [[],[],[],[],[],[],[],[]]))) []))) []) (br t 51 (br t 49 [] (br t 50 (br k 2 (br k 1 [] [[],[],[],[],[],[],[2,5],[],[],[],[],[],[],[2,5,6,9,12],[],[],[],[],[2,5,6,9,12,13,15,17],[],[],[],[],[2,5,6,9,12,13,15,17,18,20,22],[],[],[],[],[2,5,6,9,12,13,15,17,18,20,22,23,25,27],[],[],[],[],[2,5,6,9,12,13,15,17,18,20,22,23,25,27,28,30,32],[],[],[],[],[2,5,6,9,12,13,15,17,18,20,22,23,25,27,28,30,32,33,35,37],[],[],[],[]]) []) [])) (br t 53 (br t 52 [] (br k 5 (br k 2 (br k 1 [] [[],[],[],[],[],[],[],[],[]]) (br k 3 [] (br k 4 [] [[],[],[],[],[],[],[],[],[],[],[3,7],[]]))) [])) (br t 54 (br k 4 (br k 2 (br k 1 [] [[],[],[],[],[],[],[],[],[]]) (br k 3 [] [[],[],[],[],[],[],[],[],[],[3,7],[],[],[],[],[]])) []) [])))))) (br t 82 (br t 68 (br t 61 (br t 58 (br t 56 [] (br t 57 (br k 12 (br k 6 (br k 3 [] (br k 4 [] (br k 5 [[],[],[],[],[],[1],[],[1,3,5],[],[1,5]] [[],[],[],[],[0,2],[],[2]]))) (br k 9 [] (br k 10 [] (br k 11 [] [[],[],[],[],[],[],[],[],[],[8]])))) []) [])) []) (br t 64 (br t 62 [] (br t 63 [] (br k 2 (br k 1 [] [[],[],[],[],[],[],[],[],[]]) []))) (br t 66 [] (br t 67 [] (br k 7 (br k 3 [] (br k 5 [] (br k 6 [] [[],[],[],[],[],[2],[2,5]]))) []))))) (br t 75 (br t 71 (br t 69 [] (br t 70 (br k 8 (br k 4 [] (br k 6 [] (br k 7 [] [[],[],[],[],[],[],[],[]]))) []) [])) []) (br t 78 (br t 76 [] (br t 77 [] (br k 13 (br k 6 [] (br k 9 (br k 7 [] (br k 8 [] [[],[],[],[],[],[],[],[],[],[]])) (br k 11 (br k 10 [] [[],[],[],[],[],[],[],[],[],[]]) (br k 12 [] [[],[],[],[],[],[],[]])))) []))) (br t 80 (br t 79 [] (br k 12 (br k 6 [] (br k 9 (br k 7 [[],[],[],[],[],[],[],[],[]] []) (br k 10 [] (br k 11 [] [[],[],[],[],[],[],[],[],[]])))) [])) [])))) (br t 96 (br t 89 (br t 85 (br t 83 [] (br t 84 [] (br k 8 (br k 4 [] (br k 6 [] (br k 7 [] [[],[],[],[],[],[],[],[1,3],[],[1,3],[],[1,3],[1,3,7,9,11],[],[1,3]]))) []))) []) (br t 92 (br t 90 (br k 18 (br k 9 [] (br k 13 [] (br k 15 [] (br k 16 [] (br k 17 [] [[],[],[],[],[],[],[],[],[],[],[],[]]))))) []) []) (br t 94 (br t 93 [] (br k 7 (br k 3 [] (br k 5 (br k 4 [] [[],[],[],[],[],[],[],[],[],[],[],[],[]]) (br k 6 [] [[],[],[],[],[],[],[],[],[],[],[],[],[],[],[],[9,13]]))) [])) (br k 11 (br k 5 [] (br k 8 [] (br k 9 [] (br k 10 [] [[],[],[],[],[],[],[],[],[],[],[],[],[],[],[],[],[],[11,15]])))) [])))) (br t 103 (br t 99 (br t 97 [] (br t 98 (br k 4 (br k 2 [] (br k 3 [] [[],[],[],[],[],[],[],[],[],[],[],[],[],[7,11]])) []) (br k 24 (br k 12 (br k 6 (br k 3 [] (br k 4 [] (br k 5 [] [[],[],[],[],[],[],[],[],[],[],[],[],[]]))) (br k 9 [] (br k 10 [] (br k 11 [] [[],[],[],[],[],[],[],[],[],[],[],[],[],[],[],[9,13]])))) (br k 18 (br k 15 [] (br k 16 [] (br k 17 [[],[],[],[],[],[],[],[],[]] [[],[],[],[],[],[],[],[],[],[],[],[],[],[],[],[9,13]]))) (br k 21 [] (br k 22 [] (br k 23 [[],[],[],[],[],[],[],[],[]] [[],[],[],[],[],[],[],[],[],[],[],[],[],[],[],[9,13]]))))) []))) (br t 101 (br t 100 [] (br k 9 (br k 4 (br k 2 (br k 1 [] [[],[],[],[],[],[],[],[],[],[],[],[],[],[7,11]]) (br k 3 [] [[],[],[],[],[],[],[],[],[],[],[],[]])) (br k 6 (br k 5 [] [[],[],[],[],[],[],[],[],[],[],[],[]]) (br k 7 [] (br k 8 [] [[],[],[],[],[],[],[],[],[],[],[],[],[],[7,11]])))) [])) (br t 102 (br k 22 (br k 11 (br k 5 (br k 2 (br k 1 [] [[],[],[],[],[],[],[],[],[],[],[],[],[],[7,11]]) (br k 3 [] (br k 4 [[],[],[],[],[],[],[],[],[],[],[],[]] []))) (br k 8 (br k 6 [[],[],[],[],[],[],[],[],[],[],[],[]] []) (br k 9 [[],[],[],[],[],[],[],[],[],[],[],[],[],[7,11]] (br k 10 [] [[],[],[],[],[],[],[],[],[],[],[],[],[],[7,11]])))) (br k 16 (br k 13 [] (br k 14 [[],[],[],[],[],[],[],[],[],[],[],[]] (br k 15 [] [[],[],[],[],[],[],[],[],[],[],[],[]]))) (br k 19 (br k 17 [] (br k 18 [] [[],[],[],[],[],[],[],[],[],[],[],[],[],[7,11]])) (br k 20 [] (br k 21 [] [[],[],[],[],[],[],[],[],[],[],[],[],[],[7,11]]))))) []) []))) (br t 106 (br t 104 [] (br t 105 (br k 7 (br k 3 [] (br k 5 (br k 4 [[],[],[],[],[],[],[],[],[],[],[],[],[],[],[],[],[],[]] []) (br k 6 [[],[],[],[],[],[],[],[],[],[],[],[]] [[],[],[],[],[],[],[],[],[],[],[],[],[],[],[],[],[],[],[],[],[],[13,19]]))) []) [])) (br t 108 (br t 107 (br k 4 (br k 2 (br k 1 [] [[],[],[],[],[],[],[]]) [[],[],[],[],[],[],[]]) []) []) (br t 109 [] (br k 2 (br k 1 [] [[],[],[],[],[],[],[],[]]) [])))))))) else[]
def prk (t:FuncId) (k:Nat):List Nat:=bif Nat.blt t 17 then(br t 8 [] (br t 12 [] (br t 14 [] (br t 15 [] (br t 16 [] (br k 7 (br k 3 [] (br k 5 [] (br k 6 [] [4]))) [])))))) else[]
def ppr:FuncId→Option APr
 | 57=>some (.of (pr0 (q4f T 3 true)))
 | 33=>some (.of (qaC 52 8))
 | 79=>some (.of (qoW 3))
 | _=>none
def pab (f:FuncId):Bool:=([19]:List Nat).contains f
def pqo (t:TypeId):List (Option (Nat×Nat)):=bif Nat.blt t 26 then(br t 13 [] (br t 19 [] (br t 22 [] (br t 24 [] (br t 25 [] [some (3,1)]))))) else[]
def ptk (t:TypeId):Option Bool:=bif Nat.blt t 26 then(br t 13 none (br t 19 none (br t 22 none (br t 24 (br t 23 (some false) none) (br t 25 none (some true)))))) else none
def pol:Pol:=⟨pq,pow,pfz,pkp,pkx,prw,pro,pdm,pan,prk,ppr,pab,pqo,ptk⟩
abbrev Pw (f:Nat) (a:List Nat) (b c:Bool) (d:Option APr):Prop:=pol.ow f=a∧pol.fz f=b∧pol.ro f=c∧pol.pr f=d
abbrev Dr (f k a:Nat) (b:List (List Nat)):Prop:=pol.dm f k=a∧pol.an f k=b
abbrev Kp (f k:Nat) (a:List Nat) (b:List Rw) (c:List Nat):Prop:=pol.kp f k=a∧pol.rw f k=b∧pol.kx f k=c
theorem qxm:T.ipk=true:=rfl
theorem qpB (f:FuncId):pol.ab f=([19]:List Nat).contains f:=rfl
theorem qwm:pol.tk 3=none:=rfl
theorem qx2:pol.tk 9=none:=rfl
theorem qt3:pol.tk 22=some false:=rfl
theorem qsL:pol.tk 23=none:=rfl
theorem qsW:pol.tk 24=none:=rfl
theorem qru:pol.tk 25=some true:=rfl
theorem qrK:pol.qo 25=[some (3,1)]:=rfl
theorem qsM:pol.tk 26=none:=rfl
theorem qsf:pol.tk 28=none:=rfl
theorem qsi:pol.tk 30=none:=rfl
theorem qsb:pol.tk 32=none:=rfl
theorem qtf:pol.tk 33=none:=rfl
theorem qtg:pol.tk 34=none:=rfl
theorem qts:pol.tk 36=none:=rfl
theorem qrY:pol.tk 37=none:=rfl
theorem qrv:pol.tk 39=none:=rfl
theorem qs1:pol.tk 43=none:=rfl
theorem qsh:pol.tk 44=none:=rfl
theorem qqU:pol.tk 50=none:=rfl
theorem qsm:pol.tk 52=none:=rfl
theorem qr9:pol.tk 60=none:=rfl
theorem qsy:pol.tk 69=none:=rfl
theorem qr7:pol.tk 80=none:=rfl
theorem qrh:pol.tk 81=none:=rfl
theorem qrk:pol.tk 82=none:=rfl
theorem qsg:pol.tk 83=none:=rfl
theorem qtb:pol.tk 87=none:=rfl
theorem qrW:pol.tk 90=none:=rfl
theorem qsd:pol.tk 92=none:=rfl
theorem qnv:pol.tk 101=none:=rfl
theorem qne:pol.tk 105=none:=rfl
theorem qwt:T.ip 9=none:=rfl
theorem qsH:T.ip 16=none:=rfl
theorem qqH:T.ip 21=none:=rfl
theorem qqR:T.sf 23=none:=rfl
theorem qsl:T.ip 27=none:=rfl
theorem qrA:T.sf 28=none:=rfl
theorem qqI:T.ip 31=none:=rfl
theorem qsO:T.ip 35=none:=rfl
theorem qth:T.sf 36=none:=rfl
theorem qrJ:T.sf 37=none:=rfl
theorem qsz:T.sf 40=none:=rfl
theorem qqN:T.ip 42=none:=rfl
theorem qrL:T.sf 47=none:=rfl
theorem qqG:T.sf 52=none:=rfl
theorem qrn:T.sf 53=none:=rfl
theorem qsv:T.ip 54=none:=rfl
theorem qsa:T.sf 55=none:=rfl
theorem qri:T.ip 57=none:=rfl
theorem qsn:T.ip 58=none:=rfl
theorem qte:T.sf 60=none:=rfl
theorem qrX:T.sf 61=none:=rfl
theorem qrI:T.sf 64=none:=rfl
theorem qqW:T.sf 65=none:=rfl
theorem qtc:T.sf 70=none:=rfl
theorem qtk:T.sf 76=none:=rfl
theorem qrb:T.ip 78=some ZZ:=rfl
theorem qqP:T.ip 79=none:=rfl
theorem qsx:T.sf 80=none:=rfl
theorem qsU:T.sf 81=none:=rfl
theorem qrx:T.sf 82=none:=rfl
theorem qsk:T.sf 83=none:=rfl
theorem qqE:T.ip 84=none:=rfl
theorem qsJ:T.ip 86=none:=rfl
theorem qsD:pol.rk 3 4=[]:=rfl
theorem qnI:pol.rk 3 21=[]:=rfl
theorem qrw:pol.rk 9 7=[]:=rfl
theorem qs5:pol.rk 9 9=[]:=rfl
theorem qlI:pol.rk 12 5=[]:=rfl
theorem qkJ:pol.rk 12 11=[]:=rfl
theorem qn0:pol.rk 13 6=[]:=rfl
theorem qp3:pol.rk 18 6=[]:=rfl
theorem qjn:pol.rk 19 10=[]:=rfl
theorem qiD:pol.rk 19 19=[]:=rfl
theorem qjZ:pol.rk 19 20=[]:=rfl
theorem qk8:pol.rk 19 36=[]:=rfl
theorem qpm:pol.rk 25 1=[]:=rfl
theorem qlK:pol.rk 30 2=[]:=rfl
theorem qnV:pol.rk 31 1=[]:=rfl
theorem qp9:pol.rk 32 5=[]:=rfl
theorem qn6:pol.rk 34 1=[]:=rfl
theorem qml:pol.rk 38 6=[]:=rfl
theorem qoy:pol.rk 40 6=[]:=rfl
theorem qnr:pol.rk 52 1=[]:=rfl
theorem qpy:pol.rk 52 4=[]:=rfl
theorem qnZ:pol.rk 53 1=[]:=rfl
theorem qm9:pol.rk 53 3=[]:=rfl
theorem qlM:pol.rk 56 4=[]:=rfl
theorem qp0:pol.rk 56 5=[]:=rfl
theorem qk3:pol.rk 56 11=[]:=rfl
theorem qnP:pol.rk 63 1=[]:=rfl
theorem qmu:pol.rk 67 6=[]:=rfl
theorem qpp:pol.rk 77 8=[]:=rfl
theorem qk5:pol.rk 77 10=[]:=rfl
theorem qiC:pol.rk 77 12=[]:=rfl
theorem qow:pol.rk 84 7=[]:=rfl
theorem qlp:pol.rk 16 6=[4]:=rfl
theorem qrj:Dr 3 4 6 [[],[],[],[0,2],[],[]]:=⟨rfl,rfl⟩
theorem qoH:Dr 3 21 7 [[],[],[],[0,1,2],[],[],[]]:=⟨rfl,rfl⟩
theorem qt5:Dr 9 7 12 [[],[],[],[],[],[],[],[],[],[],[],[5,7,9]]:=⟨rfl,rfl⟩
theorem qsj:Dr 9 9 10 [[],[],[],[2],[],[],[5],[],[],[2,3]]:=⟨rfl,rfl⟩
theorem qld:Dr 12 5 6 [[],[],[],[],[],[]]:=⟨rfl,rfl⟩
theorem qj3:Dr 12 11 7 [[],[],[],[],[],[],[]]:=⟨rfl,rfl⟩
theorem qmO:Dr 13 6 8 [[],[],[],[],[],[],[],[]]:=⟨rfl,rfl⟩
theorem qmk:Dr 16 6 3 [[],[],[]]:=⟨rfl,rfl⟩
theorem qmS:Dr 18 6 8 [[],[],[],[],[],[],[],[]]:=⟨rfl,rfl⟩
theorem qkL:Dr 19 10 8 [[],[],[],[],[],[],[],[]]:=⟨rfl,rfl⟩
theorem qiz:Dr 19 19 10 [[],[],[],[],[2],[],[],[],[],[7]]:=⟨rfl,rfl⟩
theorem qiO:Dr 19 20 10 [[],[],[],[],[],[],[],[],[],[2]]:=⟨rfl,rfl⟩
theorem qkl:Dr 19 36 13 [[],[],[],[],[],[],[],[],[],[],[],[],[4,5,6,7,8,9,10,11]]:=⟨rfl,rfl⟩
theorem qm2:Dr 25 1 12 [[],[],[],[],[],[1],[],[1],[1,5,7],[],[],[1]]:=⟨rfl,rfl⟩
theorem ql1:Dr 30 2 28 [[],[],[],[],[1],[],[],[1,4],[],[],[],[1,4,7],[],[1,4,7,9,11],[],[1,4,7,11],[],[1,4,7,11,15],[],[1,4,7,11,15,17],[],[],[],[1,4,7,11,15,17,19],[],[1,4,7,11,15,17,19,21,23],[],[]]:=⟨rfl,rfl⟩
theorem qod:Dr 31 1 7 [[],[],[1],[],[],[1,2,4],[]]:=⟨rfl,rfl⟩
theorem qlL:Dr 32 5 10 [[],[],[],[],[1],[1],[1],[1],[],[1,6,7]]:=⟨rfl,rfl⟩
theorem qpG:Dr 34 1 12 [[],[],[],[],[],[1],[],[1],[1,5,7],[],[],[1]]:=⟨rfl,rfl⟩
theorem qlZ:Dr 38 6 8 [[],[],[],[],[],[],[],[]]:=⟨rfl,rfl⟩
theorem qob:Dr 40 6 8 [[],[],[],[],[],[],[],[]]:=⟨rfl,rfl⟩
theorem ql8:Dr 52 1 9 [[],[],[],[],[],[],[],[],[]]:=⟨rfl,rfl⟩
theorem qmI:Dr 52 4 12 [[],[],[],[],[],[],[],[],[],[],[3,7],[]]:=⟨rfl,rfl⟩
theorem qn5:Dr 53 1 9 [[],[],[],[],[],[],[],[],[]]:=⟨rfl,rfl⟩
theorem qny:Dr 53 3 15 [[],[],[],[],[],[],[],[],[],[3,7],[],[],[],[],[]]:=⟨rfl,rfl⟩
theorem qnT:Dr 56 4 10 [[],[],[],[],[],[1],[],[1,3,5],[],[1,5]]:=⟨rfl,rfl⟩
theorem qpP:Dr 56 5 7 [[],[],[],[],[0,2],[],[2]]:=⟨rfl,rfl⟩
theorem qka:Dr 56 11 10 [[],[],[],[],[],[],[],[],[],[8]]:=⟨rfl,rfl⟩
theorem qox:Dr 63 1 9 [[],[],[],[],[],[],[],[],[]]:=⟨rfl,rfl⟩
theorem qlO:Dr 67 6 7 [[],[],[],[],[],[2],[2,5]]:=⟨rfl,rfl⟩
theorem qlk:Dr 77 8 10 [[],[],[],[],[],[],[],[],[],[]]:=⟨rfl,rfl⟩
theorem qj6:Dr 77 10 10 [[],[],[],[],[],[],[],[],[],[]]:=⟨rfl,rfl⟩
theorem qhY:Dr 77 12 7 [[],[],[],[],[],[],[]]:=⟨rfl,rfl⟩
theorem qpe:Dr 84 7 15 [[],[],[],[],[],[],[],[1,3],[],[1,3],[],[1,3],[1,3,7,9,11],[],[1,3]]:=⟨rfl,rfl⟩
theorem q22:pol.q 22=[1]:=rfl
theorem q25:pol.q 25=[1]:=rfl
theorem q28:pol.q 28=[1,0,0,0,0,0,0,1,0]:=rfl
theorem q32:pol.q 32=[8]:=rfl
theorem q33:pol.q 33=[2]:=rfl
theorem q36:pol.q 36=[0,0,0,2,5]:=rfl
theorem q39:pol.q 39=[0,0,0,0,0,0,0,0,2,5,0,0,0,4]:=rfl
theorem q52:pol.q 52=[0,0,0,0,0,1,0,1]:=rfl
theorem q90:pol.q 90=[1]:=rfl
theorem q3:pol.q 3=[]:=rfl
theorem q4:pol.q 4=[]:=rfl
theorem q9:pol.q 9=[]:=rfl
theorem q10:pol.q 10=[]:=rfl
theorem q11:pol.q 11=[]:=rfl
theorem q30:pol.q 30=[]:=rfl
theorem q45:pol.q 45=[]:=rfl
theorem q50:pol.q 50=[]:=rfl
theorem q69:pol.q 69=[]:=rfl
theorem q78:pol.q 78=[]:=rfl
theorem q81:pol.q 81=[]:=rfl
theorem q82:pol.q 82=[]:=rfl
theorem q83:pol.q 83=[]:=rfl
theorem q87:pol.q 87=[]:=rfl
theorem q92:pol.q 92=[]:=rfl
theorem q96:pol.q 96=[]:=rfl
theorem qvA:pol.q 101=[]:=rfl
def q8k:Code:=(Try.f3.body).getD .skip
theorem bd3:qu Try.prog pol 3=some ⟨q8k,102,[.tmp 4],[4]⟩:=by kernel_rfl
theorem pw3:Pw 3 [] false false none:=⟨rfl,rfl,rfl,rfl⟩
def qiy:Code:=(Try.f8.body).getD .skip
theorem bd8:qu Try.prog pol 8=some ⟨qiy,99,[.tmp 0],[4]⟩:=by kernel_rfl
theorem pw8:Pw 8 [] false false none:=⟨rfl,rfl,rfl,rfl⟩
def qh4:Code:=(Try.f9.body).getD .skip
theorem bd9:qu Try.prog pol 9=some ⟨qh4,52,[.tmp 2,.cell 3 39,.tmp 4],[32,39,3]⟩:=by kernel_rfl
theorem pw9:Pw 9 [] true false none:=⟨rfl,rfl,rfl,rfl⟩
def qdX:Code:=(Try.f10.body).getD .skip
theorem qqT:qu Try.prog pol 10=some ⟨qdX,2,[.cell 0 30],[30]⟩:=by kernel_rfl
theorem quZ:Pw 10 [] false false none:=⟨rfl,rfl,rfl,rfl⟩
def q70:Code:=(Try.f11.body).getD .skip
theorem qjV:qu Try.prog pol 11=some ⟨q70,53,[.tmp 8,.tmp 9],[32,45]⟩:=by kernel_rfl
theorem qqx:Pw 11 [0] false false none:=⟨rfl,rfl,rfl,rfl⟩
def q7r:Code:=(Try.f12.body).getD .skip
theorem qnh:qu Try.prog pol 12=some ⟨q7r,57,[.tmp 8,.tmp 9],[32,45]⟩:=by kernel_rfl
theorem qtM:Pw 12 [] true false none:=⟨rfl,rfl,rfl,rfl⟩
def q9w:Code:=(Try.f13.body).getD .skip
theorem qqq:qu Try.prog pol 13=some ⟨q9w,29,[.tmp 4],[4]⟩:=by kernel_rfl
theorem qtF:Pw 13 [] false false none:=⟨rfl,rfl,rfl,rfl⟩
def qcc:Code:=(Try.f14.body).getD .skip
theorem qqO:qu Try.prog pol 14=some ⟨qcc,50,[.tmp 6],[4]⟩:=by kernel_rfl
theorem quh:Pw 14 [] false false none:=⟨rfl,rfl,rfl,rfl⟩
def qeb:Code:=(Try.f15.body).getD .skip
theorem qre:qu Try.prog pol 15=some ⟨qeb,52,[.tmp 6],[4]⟩:=by kernel_rfl
theorem qtU:Pw 15 [] false false none:=⟨rfl,rfl,rfl,rfl⟩
def q74:Code:=(Try.f16.body).getD .skip
theorem qm3:qu Try.prog pol 16=some ⟨q74,17,[.tmp 2,.tmp 3],[3,45]⟩:=by kernel_rfl
theorem qut:Pw 16 [] false false none:=⟨rfl,rfl,rfl,rfl⟩
def q9C:Code:=(Try.f18.body).getD .skip
theorem qq3:qu Try.prog pol 18=some ⟨q9C,29,[.tmp 4],[4]⟩:=by kernel_rfl
theorem qvb:Pw 18 [] true false none:=⟨rfl,rfl,rfl,rfl⟩
def q2r:Code:=(Try.f19.body).getD .skip
theorem qfD:qu Try.prog pol 19=some ⟨q2r,128,[.tmp 2],[22]⟩:=by kernel_rfl
theorem quV:Pw 19 [] true false none:=⟨rfl,rfl,rfl,rfl⟩
def q9F:Code:=(Try.f21.body).getD .skip
theorem qqf:qu Try.prog pol 21=some ⟨q9F,21,[.tmp 2],[4]⟩:=by kernel_rfl
theorem quw:Pw 21 [] false false none:=⟨rfl,rfl,rfl,rfl⟩
def q9V:Code:=(Try.f22.body).getD .skip
theorem qqg:qu Try.prog pol 22=some ⟨q9V,18,[.tmp 2],[3]⟩:=by kernel_rfl
theorem quX:Pw 22 [] false false none:=⟨rfl,rfl,rfl,rfl⟩
def qeH:Code:=(Try.f23.body).getD .skip
theorem qsF:qu Try.prog pol 23=some ⟨qeH,37,[.tmp 4],[4]⟩:=by kernel_rfl
theorem quM:Pw 23 [] false false none:=⟨rfl,rfl,rfl,rfl⟩
def qdi:Code:=(Try.f25.body).getD .skip
theorem qsP:qu Try.prog pol 25=some ⟨qdi,21,[.tmp 6],[4]⟩:=by kernel_rfl
theorem quP:Pw 25 [] false false none:=⟨rfl,rfl,rfl,rfl⟩
def qcw:Code:=(Try.f26.body).getD .skip
theorem qsq:qu Try.prog pol 26=some ⟨qcw,16,[.cell 8 52],[52]⟩:=by kernel_rfl
theorem quD:Pw 26 [] true false none:=⟨rfl,rfl,rfl,rfl⟩
def q9l:Code:=(Try.f27.body).getD .skip
theorem qq8:qu Try.prog pol 27=some ⟨q9l,89,[.tmp 2],[32]⟩:=by kernel_rfl
theorem qub:Pw 27 [] true true none:=⟨rfl,rfl,rfl,rfl⟩
def qds:Code:=(Try.f28.body).getD .skip
theorem qs8:qu Try.prog pol 28=some ⟨qds,12,[.tmp 4],[3]⟩:=by kernel_rfl
theorem quk:Pw 28 [] false false none:=⟨rfl,rfl,rfl,rfl⟩
def qcH:Code:=(Try.f29.body).getD .skip
theorem qsK:qu Try.prog pol 29=some ⟨qcH,70,[.cell 4 52],[52]⟩:=by kernel_rfl
theorem qv5:Pw 29 [] true false none:=⟨rfl,rfl,rfl,rfl⟩
def qee:Code:=(Try.f30.body).getD .skip
theorem qs9:qu Try.prog pol 30=some ⟨qee,56,[.cell 2 39],[39]⟩:=by kernel_rfl
theorem qug:Pw 30 [] true false none:=⟨rfl,rfl,rfl,rfl⟩
def qbQ:Code:=(Try.f31.body).getD .skip
theorem qrP:qu Try.prog pol 31=some ⟨qbQ,12,[.cell 2 52],[52]⟩:=by kernel_rfl
theorem qtN:Pw 31 [] true false none:=⟨rfl,rfl,rfl,rfl⟩
def q9s:Code:=(Try.f32.body).getD .skip
theorem qq2:qu Try.prog pol 32=some ⟨q9s,40,[.tmp 6],[4]⟩:=by kernel_rfl
theorem quG:Pw 32 [] false false none:=⟨rfl,rfl,rfl,rfl⟩
theorem qum:Pw 33 [0] false false (some (.of (qaC 52 8))):=⟨rfl,rfl,rfl,rfl⟩
def qcL:Code:=(Try.f34.body).getD .skip
theorem qso:qu Try.prog pol 34=some ⟨qcL,21,[.tmp 6],[4]⟩:=by kernel_rfl
theorem quY:Pw 34 [] false false none:=⟨rfl,rfl,rfl,rfl⟩
def qcf:Code:=(Try.f35.body).getD .skip
theorem qsI:qu Try.prog pol 35=some ⟨qcf,14,[.cell 2 52],[52]⟩:=by kernel_rfl
theorem quH:Pw 35 [] true true none:=⟨rfl,rfl,rfl,rfl⟩
def q6X:Code:=(Try.f36.body).getD .skip
theorem qnL:qu Try.prog pol 36=some ⟨q6X,26,[.tmp 4],[3]⟩:=by kernel_rfl
theorem qtZ:Pw 36 [] false false none:=⟨rfl,rfl,rfl,rfl⟩
def qbL:Code:=(Try.f37.body).getD .skip
theorem qrF:qu Try.prog pol 37=some ⟨qbL,56,[.tmp 4],[4]⟩:=by kernel_rfl
theorem qua:Pw 37 [] false false none:=⟨rfl,rfl,rfl,rfl⟩
def q8Q:Code:=(Try.f38.body).getD .skip
theorem qq6:qu Try.prog pol 38=some ⟨q8Q,26,[.tmp 4],[4]⟩:=by kernel_rfl
theorem qus:Pw 38 [] false false none:=⟨rfl,rfl,rfl,rfl⟩
def qcs:Code:=(Try.f39.body).getD .skip
theorem qrz:qu Try.prog pol 39=some ⟨qcs,26,[.tmp 6],[4]⟩:=by kernel_rfl
theorem qvc:Pw 39 [] false false none:=⟨rfl,rfl,rfl,rfl⟩
def q9Y:Code:=(Try.f40.body).getD .skip
theorem qqh:qu Try.prog pol 40=some ⟨q9Y,26,[.tmp 4],[4]⟩:=by kernel_rfl
theorem quI:Pw 40 [] false false none:=⟨rfl,rfl,rfl,rfl⟩
def qe1:Code:=(Try.f41.body).getD .skip
theorem qs3:qu Try.prog pol 41=some ⟨qe1,22,[.tmp 6],[4]⟩:=by kernel_rfl
theorem qtI:Pw 41 [] false false none:=⟨rfl,rfl,rfl,rfl⟩
def qec:Code:=(Try.f42.body).getD .skip
theorem qs4:qu Try.prog pol 42=some ⟨qec,4,[.tmp 2],[78]⟩:=by kernel_rfl
theorem qtz:Pw 42 [] true false none:=⟨rfl,rfl,rfl,rfl⟩
def qc3:Code:=(Try.f46.body).getD .skip
theorem qqB:qu Try.prog pol 46=some ⟨qc3,8,[.tmp 3],[4]⟩:=by kernel_rfl
theorem qtK:Pw 46 [] false false none:=⟨rfl,rfl,rfl,rfl⟩
def qe0:Code:=(Try.f47.body).getD .skip
theorem qr4:qu Try.prog pol 47=some ⟨qe0,9,[.tmp 4],[4]⟩:=by kernel_rfl
theorem qtw:Pw 47 [] false false none:=⟨rfl,rfl,rfl,rfl⟩
def qbO:Code:=(Try.f48.body).getD .skip
theorem qqS:qu Try.prog pol 48=some ⟨qbO,8,[.tmp 4],[4]⟩:=by kernel_rfl
theorem qv3:Pw 48 [] false false none:=⟨rfl,rfl,rfl,rfl⟩
def qdg:Code:=(Try.f50.body).getD .skip
theorem qtd:qu Try.prog pol 50=some ⟨qdg,11,[.tmp 2],[3]⟩:=by kernel_rfl
theorem qur:Pw 50 [] false false none:=⟨rfl,rfl,rfl,rfl⟩
def qbJ:Code:=(Try.f51.body).getD .skip
theorem qrS:qu Try.prog pol 51=some ⟨qbJ,2,[.tmp 0],[90]⟩:=by kernel_rfl
theorem qtS:Pw 51 [] true false none:=⟨rfl,rfl,rfl,rfl⟩
def qcN:Code:=(Try.f52.body).getD .skip
theorem qti:qu Try.prog pol 52=some ⟨qcN,35,[.tmp 4],[3]⟩:=by kernel_rfl
theorem qtW:Pw 52 [] false false none:=⟨rfl,rfl,rfl,rfl⟩
def qdD:Code:=(Try.f53.body).getD .skip
theorem qrD:qu Try.prog pol 53=some ⟨qdD,40,[.tmp 4],[3]⟩:=by kernel_rfl
theorem qv8:Pw 53 [] false false none:=⟨rfl,rfl,rfl,rfl⟩
def qeo:Code:=(Try.f54.body).getD .skip
theorem qqD:qu Try.prog pol 54=some ⟨qeo,20,[.cell 2 50],[50]⟩:=by kernel_rfl
theorem qve:Pw 54 [] false false none:=⟨rfl,rfl,rfl,rfl⟩
def qbK:Code:=(Try.f55.body).getD .skip
theorem qrp:qu Try.prog pol 55=some ⟨qbK,24,[.tmp 4],[4]⟩:=by kernel_rfl
theorem qu3:Pw 55 [] false false none:=⟨rfl,rfl,rfl,rfl⟩
def q9L:Code:=(Try.f56.body).getD .skip
theorem qqu:qu Try.prog pol 56=some ⟨q9L,77,[.cell 6 36],[36]⟩:=by kernel_rfl
theorem qrq:Pw 56 [] true false none:=⟨rfl,rfl,rfl,rfl⟩
theorem qul:Pw 57 [] false true (some (.of (pr0 (q4f T 3 true)))):=⟨rfl,rfl,rfl,rfl⟩
def q7A:Code:=(Try.f58.body).getD .skip
theorem qmM:qu Try.prog pol 58=some ⟨q7A,35,[.tmp 2],[82]⟩:=by kernel_rfl
theorem qvf:Pw 58 [] true false none:=⟨rfl,rfl,rfl,rfl⟩
def qbh:Code:=(Try.f59.body).getD .skip
theorem qt7:qu Try.prog pol 59=some ⟨qbh,20,[.tmp 5],[4]⟩:=by kernel_rfl
theorem qtD:Pw 59 [] false false none:=⟨rfl,rfl,rfl,rfl⟩
def qcl:Code:=(Try.f60.body).getD .skip
theorem qrR:qu Try.prog pol 60=some ⟨qcl,9,[.tmp 4],[4]⟩:=by kernel_rfl
theorem quA:Pw 60 [] false false none:=⟨rfl,rfl,rfl,rfl⟩
def qdC:Code:=(Try.f61.body).getD .skip
theorem qqw:qu Try.prog pol 61=some ⟨qdC,9,[.tmp 4],[4]⟩:=by kernel_rfl
theorem qtm:Pw 61 [] false false none:=⟨rfl,rfl,rfl,rfl⟩
def qbj:Code:=(Try.f62.body).getD .skip
theorem qqF:qu Try.prog pol 62=some ⟨qbj,5,[.tmp 2],[3]⟩:=by kernel_rfl
theorem qva:Pw 62 [] false false none:=⟨rfl,rfl,rfl,rfl⟩
def q7x:Code:=(Try.f63.body).getD .skip
theorem qnp:qu Try.prog pol 63=some ⟨q7x,73,[.tmp 8],[4]⟩:=by kernel_rfl
theorem qtR:Pw 63 [] false false none:=⟨rfl,rfl,rfl,rfl⟩
def qe9:Code:=(Try.f64.body).getD .skip
theorem qrG:qu Try.prog pol 64=some ⟨qe9,18,[.tmp 4],[4]⟩:=by kernel_rfl
theorem qtJ:Pw 64 [] false false none:=⟨rfl,rfl,rfl,rfl⟩
def qct:Code:=(Try.f65.body).getD .skip
theorem qtp:qu Try.prog pol 65=some ⟨qct,26,[.tmp 4],[4]⟩:=by kernel_rfl
theorem qu5:Pw 65 [] false false none:=⟨rfl,rfl,rfl,rfl⟩
def qd7:Code:=(Try.f66.body).getD .skip
theorem qrg:qu Try.prog pol 66=some ⟨qd7,7,[],[]⟩:=by kernel_rfl
theorem qv0:Pw 66 [] false false none:=⟨rfl,rfl,rfl,rfl⟩
def q9c:Code:=(Try.f67.body).getD .skip
theorem qqy:qu Try.prog pol 67=some ⟨q9c,39,[.tmp 7],[4]⟩:=by kernel_rfl
theorem qs7:Pw 67 [] true false none:=⟨rfl,rfl,rfl,rfl⟩
def qdy:Code:=(Try.f68.body).getD .skip
theorem qtn:qu Try.prog pol 68=some ⟨qdy,9,[.tmp 2],[32]⟩:=by kernel_rfl
theorem qu7:Pw 68 [] true false none:=⟨rfl,rfl,rfl,rfl⟩
def q9Z:Code:=(Try.f70.body).getD .skip
theorem qqv:qu Try.prog pol 70=some ⟨q9Z,19,[.tmp 4],[3]⟩:=by kernel_rfl
theorem quz:Pw 70 [] false false none:=⟨rfl,rfl,rfl,rfl⟩
def qdc:Code:=(Try.f71.body).getD .skip
theorem qqY:qu Try.prog pol 71=some ⟨qdc,7,[.tmp 3],[4]⟩:=by kernel_rfl
theorem qtB:Pw 71 [] false false none:=⟨rfl,rfl,rfl,rfl⟩
def qbR:Code:=(Try.f76.body).getD .skip
theorem qsT:qu Try.prog pol 76=some ⟨qbR,16,[.tmp 4],[3]⟩:=by kernel_rfl
theorem quR:Pw 76 [] false false none:=⟨rfl,rfl,rfl,rfl⟩
def q6N:Code:=(Try.f77.body).getD .skip
theorem qnD:qu Try.prog pol 77=some ⟨q6N,61,[.tmp 2],[33]⟩:=by kernel_rfl
theorem qtT:Pw 77 [] true false none:=⟨rfl,rfl,rfl,rfl⟩
theorem qvi:Pw 78 [] false false none:=⟨rfl,rfl,rfl,rfl⟩
theorem qu2:Pw 79 [0] false false (some (.of (qoW 3))):=⟨rfl,rfl,rfl,rfl⟩
def q9D:Code:=(Try.f80.body).getD .skip
theorem qpS:qu Try.prog pol 80=some ⟨q9D,19,[.tmp 4],[3]⟩:=by kernel_rfl
theorem qtX:Pw 80 [] false false none:=⟨rfl,rfl,rfl,rfl⟩
def q9k:Code:=(Try.f81.body).getD .skip
theorem qp8:qu Try.prog pol 81=some ⟨q9k,19,[.tmp 4],[3]⟩:=by kernel_rfl
theorem qtq:Pw 81 [] false false none:=⟨rfl,rfl,rfl,rfl⟩
def qdR:Code:=(Try.f82.body).getD .skip
theorem qs2:qu Try.prog pol 82=some ⟨qdR,16,[.tmp 4],[3]⟩:=by kernel_rfl
theorem qv2:Pw 82 [] false false none:=⟨rfl,rfl,rfl,rfl⟩
def q8W:Code:=(Try.f83.body).getD .skip
theorem qq7:qu Try.prog pol 83=some ⟨q8W,18,[.tmp 4],[4]⟩:=by kernel_rfl
theorem quj:Pw 83 [] false false none:=⟨rfl,rfl,rfl,rfl⟩
def q9U:Code:=(Try.f84.body).getD .skip
theorem qqa:qu Try.prog pol 84=some ⟨q9U,37,[.tmp 2],[45]⟩:=by kernel_rfl
theorem quc:Pw 84 [] false false none:=⟨rfl,rfl,rfl,rfl⟩
def qeF:Code:=(Try.f85.body).getD .skip
theorem qrC:qu Try.prog pol 85=some ⟨qeF,16,[.tmp 6],[3]⟩:=by kernel_rfl
theorem qv7:Pw 85 [] false false none:=⟨rfl,rfl,rfl,rfl⟩
def qcR:Code:=(Try.f86.body).getD .skip
theorem qsE:qu Try.prog pol 86=some ⟨qcR,40,[.tmp 2],[45]⟩:=by kernel_rfl
theorem qvd:Pw 86 [] false false none:=⟨rfl,rfl,rfl,rfl⟩
def qcD:Code:=(Try.f91.body).getD .skip
theorem qro:qu Try.prog pol 91=some ⟨qcD,14,[.tmp 4],[4]⟩:=by kernel_rfl
theorem quJ:Pw 91 [] false false none:=⟨rfl,rfl,rfl,rfl⟩
theorem qmE:Kp 3 19 [5,6,7,8,9,11,19,37,38,39,77,78,79,83,84,85] [] [4,5,6,7,8,9,11,37,38,39,77,78,79]:=⟨rfl,rfl,rfl⟩
theorem qmL:Kp 3 16 [5,6,7,8,9,11,37,38,39,77,78,79] [] [4,5,6,7,8,9,37,38,39]:=⟨rfl,rfl,rfl⟩
theorem qtr:Kp 3 8 [5,6,7,8,9,11,37,38,39,45,46,47] [] [4,5,6,7,8,9,11,37,38,39]:=⟨rfl,rfl,rfl⟩
theorem qqK:Kp 3 5 [5,6,7,8,9,37,38,39] [] [4,5]:=⟨rfl,rfl,rfl⟩
theorem qsA:Kp 9 3 [1,3,5,13,14] [] [1,3,5]:=⟨rfl,rfl,rfl⟩
theorem qpz:Kp 11 9 [6,10,13] [] [10]:=⟨rfl,rfl,rfl⟩
theorem qpl:Kp 11 3 [3,5,6,10,14,15,16] [.slot 10 52 8] [6,10]:=⟨rfl,rfl,rfl⟩
theorem qlT:Kp 12 9 [6,10,13] [] [10]:=⟨rfl,rfl,rfl⟩
theorem ql2:Kp 12 3 [0,3,5,6,10,11] [.slot 10 52 8] [6,10]:=⟨rfl,rfl,rfl⟩
theorem qli:Kp 13 4 [0,1,5] [] [4]:=⟨rfl,rfl,rfl⟩
theorem qmm:Kp 18 4 [0,1,5] [] [4]:=⟨rfl,rfl,rfl⟩
theorem qiA:Kp 19 32 [10,12,98,99,100] [] [10]:=⟨rfl,rfl,rfl⟩
theorem qj0:Kp 19 25 [4,10,83,84] [.slot 10 25 1] [4,10]:=⟨rfl,rfl,rfl⟩
theorem qkD:Kp 19 17 [0,3,4,50,51,53,54,55] [] [0,3,4,50,51]:=⟨rfl,rfl,rfl⟩
theorem qjv:Kp 19 15 [0,3,4,50,51] [] [0,4]:=⟨rfl,rfl,rfl⟩
theorem qlb:Kp 19 8 [0,3,4,5,19,20,27,28] [.slot 3 81 2] [0,3,4,19,20]:=⟨rfl,rfl,rfl⟩
theorem qo7:Kp 19 4 [0,3,4,19,20] [.slot 3 81 2] [0,3,4]:=⟨rfl,rfl,rfl⟩
theorem qoT:Kp 21 2 [0,6,7,8] [] [2]:=⟨rfl,rfl,rfl⟩
theorem qlu:Kp 22 3 [3,6,7,8] [] [3]:=⟨rfl,rfl,rfl⟩
theorem qm8:Kp 27 3 [0,3,4] [.slot 3 52 8] [3]:=⟨rfl,rfl,rfl⟩
theorem qoe:Kp 32 3 [3,4,5,7,13,14,15] [] [6]:=⟨rfl,rfl,rfl⟩
theorem qoK:Kp 36 5 [0,3,5,6] [] [0,3,4,5]:=⟨rfl,rfl,rfl⟩
theorem qlt:Kp 36 2 [0,3,5] [] [4]:=⟨rfl,rfl,rfl⟩
theorem qpi:Kp 38 4 [0,1,12,13] [] [4]:=⟨rfl,rfl,rfl⟩
theorem qo3:Kp 40 4 [0,1,5] [] [4]:=⟨rfl,rfl,rfl⟩
theorem qor:Kp 56 9 [0,1,2,6,7,8,9,10] [.cell 9 4 36 5] [0,6,7,8,9]:=⟨rfl,rfl,rfl⟩
theorem qmi:Kp 58 8 [3,10,11,12,22,23,24] [] [3,10,11,12]:=⟨rfl,rfl,rfl⟩
theorem qnf:Kp 58 3 [3,10,11,12] [] [3]:=⟨rfl,rfl,rfl⟩
theorem qjW:Kp 63 10 [0,2,3,10,11,12] [] [0,2,3,8,10]:=⟨rfl,rfl,rfl⟩
theorem qpI:Kp 63 5 [0,2,3,10] [] [8]:=⟨rfl,rfl,rfl⟩
theorem qpr:Kp 67 4 [0,3,4,8] [] [7]:=⟨rfl,rfl,rfl⟩
theorem qo5:Kp 70 2 [0,1,7,8] [] [4]:=⟨rfl,rfl,rfl⟩
theorem qpn:Kp 77 8 [0,3,4,5,6,7] [] [0,3,4,5,6,7]:=⟨rfl,rfl,rfl⟩
theorem qlf:Kp 77 4 [0,3,4,5] [.slot 4 50 2] [4]:=⟨rfl,rfl,rfl⟩
theorem qoR:Kp 80 2 [0,1,7,8] [] [4]:=⟨rfl,rfl,rfl⟩
theorem ql9:Kp 81 2 [0,1,7,8] [] [4]:=⟨rfl,rfl,rfl⟩
theorem qnX:Kp 83 2 [0,1,5] [] [4]:=⟨rfl,rfl,rfl⟩
theorem qlE:Kp 84 2 [1,9,10,11] [] [1,2]:=⟨rfl,rfl,rfl⟩
def qc7:Code:=(qS 19 q8k).getD .skip
def qcT:Code:=(qS 16 q8k).getD .skip
def qjN:Code:=(qS 8 q8k).getD .skip
def qfS:Code:=(qS 5 q8k).getD .skip
def qjs:Code:=(qS 3 qh4).getD .skip
def q7a:Code:=(qS 9 q70).getD .skip
def q7z:Code:=(qS 3 q70).getD .skip
def qbv:Code:=(qS 9 q7r).getD .skip
def qev:Code:=(qS 3 q7r).getD .skip
def qdx:Code:=(qS 4 q9w).getD .skip
def qcr:Code:=(qS 4 q9C).getD .skip
def q8z:Code:=(qS 32 q2r).getD .skip
def q8K:Code:=(qS 25 q2r).getD .skip
def q8r:Code:=(qS 17 q2r).getD .skip
def q8o:Code:=(qS 15 q2r).getD .skip
def qd2:Code:=(qS 8 q2r).getD .skip
def qdk:Code:=(qS 4 q2r).getD .skip
def qbf:Code:=(qS 2 q9F).getD .skip
def qcP:Code:=(qS 3 q9V).getD .skip
def qeA:Code:=(qS 3 q9l).getD .skip
def qcA:Code:=(qS 3 q9s).getD .skip
def qeg:Code:=(qS 5 q6X).getD .skip
def qdK:Code:=(qS 2 q6X).getD .skip
def qcX:Code:=(qS 4 q8Q).getD .skip
def qbM:Code:=(qS 4 q9Y).getD .skip
def qbD:Code:=(qS 9 q9L).getD .skip
def qe7:Code:=(qS 8 q7A).getD .skip
def qbG:Code:=(qS 3 q7A).getD .skip
def q85:Code:=(qS 10 q7x).getD .skip
def qeG:Code:=(qS 5 q7x).getD .skip
def qeB:Code:=(qS 4 q9c).getD .skip
def qbW:Code:=(qS 2 q9Z).getD .skip
def qbF:Code:=(qS 8 q6N).getD .skip
def qdT:Code:=(qS 4 q6N).getD .skip
def qc8:Code:=(qS 2 q9D).getD .skip
def q9H:Code:=(qS 2 q9k).getD .skip
def qck:Code:=(qS 2 q8W).getD .skip
def qcQ:Code:=(qS 2 q9U).getD .skip
def q5H:Code:=((QV 6 q74).getD (.skip,.skip)).1
def q4R:Code:=((QV 6 q74).getD (.skip,.skip)).2
theorem qpK:qD q4R=6:=by kernel_rfl
theorem qlB:q1X (drq pol 16) false q5H=true∧q1X (drq pol 16) false q4R=true:=⟨by kernel_rfl,by kernel_rfl⟩
theorem qsX:qrB Try.prog pol:=by
 intro E hE f g k args G r G' hf hg
 unfold pol ppr at hf
 simp only at hf
 split at hf
 ·injection hf with hf;subst hf;refine qof (fun _ _ _ hg=>?_) hg;exact qb0 qqk (fn:=Try.f57) (t:=25) (e:=3) (bt:=4) (by kernel_rfl) (by kernel_rfl) (by kernel_rfl) (by kernel_rfl) (by kernel_rfl) k25 (by rw[k3];simp) (by rw[z3];decide) (by kernel_rfl) hg
 ·injection hf with hf;subst hf;exact qfz (fn:=Try.f33) (by kernel_rfl) (by kernel_rfl) (by kernel_rfl) qsr hg
 ·injection hf with hf;subst hf;exact qks (fn:=Try.f79) (by kernel_rfl) (by kernel_rfl) (by kernel_rfl) (Any.slices_Compact_int q7f) (Any.slices_Compact_int_empty q7f) hg
 ·cases hf
end
noncomputable section
open Go.RowKit
theorem Zj {α β:Type} {c:Prop} [Decidable c] (a b:Option α) (f:α→Option β):(if c then a else b).bind f=if c then a.bind f else b.bind f:=by split<;>rfl
theorem mixed:(Try.prog).follows .mixedOrders=true:=by kernel_rfl
def evo:Orc:=EE Try.prog T pol (D1 Try.prog T pol)
def ev (f:FuncId):Nat→List R→List (Nat×B)→Option (R×List (Nat×B)):=evo (.fn f)
def evr (f:FuncId) (asg bd:Code):Nat→List R→List (Nat×B)→Option (R×List (Nat×B)):=evo (.rd f asg bd)
theorem qqL {f k:Nat} {args:List R} {G G':List (Nat×B)} {r:R} (h:ev f k args G=some (r,G')):AC Try.prog f args G k fun r' hp'=>r'=r∧hp'=G':=(qlj qqk (qs6 qqk mixed) qsX).fn f k args G r G' h
def XE (f k:Nat):Code→S→XS:=XD Try.prog T pol evo (D1 Try.prog T pol evo f k) Lim f k
def bkk (id:Nat) (r:XS):XS:=r.bind (bkD id)
def rgn (o:Option S):XS:=o.bind fun s'=>some (.normal,s')
def fnn (f k:Nat) (res:List ResultVar) (rt:List TypeId) (r:XS):Option (R×List (Nat×B)):=r.bind (qo2 T pol f k ⟨.skip,0,res,rt⟩)
section
variable {f k:Nat} {s:S} {b:Code} {c:Prop} [Decidable c] {x y:XS} {α:Type} {o:Option α} {g:α→XS}
theorem qaq (i:Nat):bkk i (some (.normal,s))=some (.normal,s):=rfl
theorem qhW (i:Nat):bkk i (some (.ret,s))=some (.ret,s):=rfl
theorem qgk (i j:Nat):bkk i (some (.exit j,s))=if j=i then some (.normal,s) else some (.exit j,s):=rfl
theorem qh2 (i:Nat):bkk i none=none:=rfl
theorem qjG (i:Nat):bkk i (if c then x else y)=if c then bkk i x else bkk i y:=Zj _ _ _
theorem qf7 (i:Nat):bkk i (o.bind g)=o.bind fun a=>bkk i (g a):=by cases o<;>rfl
theorem qh0:rgn (some s)=some (.normal,s):=rfl
theorem qgW:rgn none=none:=rfl
theorem qj1 (x y:Option S):rgn (if c then x else y)=if c then rgn x else rgn y:=Zj _ _ _
theorem qfR (g:α→Option S):rgn (o.bind g)=o.bind fun a=>rgn (g a):=by cases o<;>rfl
theorem qfb (res:List ResultVar) (rt:List TypeId) (p:Exit×S):fnn f k res rt (some p)=qo2 T pol f k ⟨.skip,0,res,rt⟩ p:=rfl
theorem qfP (res:List ResultVar) (rt:List TypeId):fnn f k res rt none=none:=rfl
theorem qja (res:List ResultVar) (rt:List TypeId):fnn f k res rt (if c then x else y)=if c then fnn f k res rt x else fnn f k res rt y:=Zj _ _ _
theorem qfk (res:List ResultVar) (rt:List TypeId):fnn f k res rt (o.bind g)=o.bind fun a=>fnn f k res rt (g a):=by cases o<;>rfl
end
theorem qgy (f k:Nat) (args:List R) (G:List (Nat×B)):ev f k args G=match pol.pr f with
 | some g=>prx (g.run evo) k args G
 | none=>(qu Try.prog pol f).bind fun bd=>q2H Try.prog T pol (D1 Try.prog T pol) evo Lim f k args G bd:=qr8 q4x qcK f k args G
def rfk (n:Nat) (q:RS):XS:=q.bind fun q=>qlJ n q.2
def rd3 (k:Nat) (r:XS):Option (R×List (Nat×B)):=r.bind (q4k k)
def rd2 (f k:Nat) (bd:Code) (s:S) (o:Option B):Option (R×List (Nat×B)):=o.bind fun b=>rd3 k (XE f k bd (s.up [(k-1,b)]))
def rd1 (f k:Nat) (bd:Code) (r:XS):Option (R×List (Nat×B)):=r.bind (q4l Try.prog T pol (D1 Try.prog T pol) evo Lim f k bd)
section
variable {f k n:Nat} {s:S} {asg bd:Code} {c:Prop} [Decidable c] {x y:XS} {α:Type} {o:Option α} {g:α→XS}
theorem qgj (r:R):rfk n (some (r,s))=qlJ n s:=rfl
theorem qfe (g:α→RS):rfk n (o.bind g)=o.bind fun a=>rfk n (g a):=by cases o<;>rfl
theorem qfK (p:Exit×S):rd3 k (some p)=q4k k p:=rfl
theorem qfT:rd3 k (o.bind g)=o.bind fun a=>rd3 k (g a):=by cases o<;>rfl
theorem qnc {asg' bd':Code} (ha:asg'=asg) (hb:bd'=bd) (hk:0<k) (hc:q1X (drq pol f) false asg=true∧q1X (drq pol f) false bd=true) (tm:List R) (G:List (Nat×B)) :
  evr f asg' bd' k tm G=rd1 f k bd (XE f k asg ⟨q0j tm 0,G,G.length,tm.length⟩):=by
 subst ha hb
 refine(qsw q4x qcK f asg' bd' k tm G).trans ?_
 unfold q17
 rw[if_pos ⟨hk,hc⟩]
 rfl
end
def wst (q:RS) (d:Option Nat):Option S:=q.bind fun q=>if q3W q.2 d=true then some (q.2.put d q.1) else none
def wsF (q:RS) (s:S) (o:Oper):Option (S×Tx):=q.bind fun q=>if q3W q.2 o.dst=true then(qeK pol s q.2 q.1 o.op).bind fun fp=>some ((q.2.kill fp.ks).put o.dst q.1,(q.1,fp.wb.map fun x=>(x,q.2.blk x)),fp) else none
def cll (q:Option (R×List (Nat×B))) (s:S) (bl rw ln:List Nat):RS:=q.bind fun q=>if qko ln q.1 q.2=true then some (q.1.rn (ren (bl++rw) s.nx),s.aft (bl++rw) bl.length q.2) else none
section
variable {s:S} {o:Oper} {c:Prop} [Decidable c] {α:Type} {v:Option α} {ops l:List Oper} {A:List (List Nat)} {s0:S} {m:Nat} {acc:List Tx}
theorem qfG (r:R) (d:Option Nat):wst (some (r,s)) d=if q3W s d=true then some (s.put d r) else none:=rfl
theorem qfp (d:Option Nat):wst none d=none:=rfl
theorem qi4 (x y:RS) (d:Option Nat):wst (if c then x else y) d=if c then wst x d else wst y d:=Zj _ _ _
theorem qgE (g:α→RS) (d:Option Nat):wst (v.bind g) d=v.bind fun a=>wst (g a) d:=by cases v<;>rfl
theorem qfy (r:R) (s':S):wsF (some (r,s')) s o=if q3W s' o.dst=true then(qeK pol s s' r o.op).bind fun fp=>some ((s'.kill fp.ks).put o.dst r,(r,fp.wb.map fun x=>(x,s'.blk x)),fp) else none:=rfl
theorem qgb:wsF none s o=none:=rfl
theorem qj2 (x y:RS):wsF (if c then x else y) s o=if c then wsF x s o else wsF y s o:=Zj _ _ _
theorem qgg (g:α→RS):wsF (v.bind g) s o=v.bind fun a=>wsF (g a) s o:=by cases v<;>rfl
theorem qfE (r:R) (hp:List (Nat×B)) (bl rw ln:List Nat):cll (some (r,hp)) s bl rw ln=if qko ln r hp=true then some (r.rn (ren (bl++rw) s.nx),s.aft (bl++rw) bl.length hp) else none:=rfl
theorem qfO (g:α→Option (R×List (Nat×B))) (bl rw ln:List Nat):cll (v.bind g) s bl rw ln=v.bind fun a=>cll (g a) s bl rw ln:=by cases v<;>rfl
end
def ldx (T:Ty) (cs:List C) (off:Nat) (t:TypeId):Option R:=
 match T.k t with
 | .st _ | .arr _ _=>if off+T.sz t≤cs.length then some (.agg ((cs.drop off).take (T.sz t))) else none
 | .other=>none
 | _=>(cs[off]?).map .c
theorem qiS (c:C) (cs:List C) (off:Nat) (t:TypeId):ld T (c::cs) off t=ldx T (c::cs) off t:=rfl
section
variable {α:Type} {enc:α→List D} {sz:Nat}
theorem Jq (hsz:∀x,(enc x).length=sz):∀l:List α,(l.flatMap enc).length=l.length*sz
 | []=>by simp
 | x::l=>by rw[qyL,qxO,hsz,Jq hsz l,qxS,Nat.add_mul];omega
theorem q7n (hsz:∀x,(enc x).length=sz):∀(l:List α) (k:Nat) (x:α),l[k]?=some x→∃post,(l.flatMap enc).drop (k*sz)=enc x++post
 | [],k,x,h=>by simp at h
 | y::l,0,x,h=>by
  simp only[qxR,qyw] at h
  subst h
  exact⟨l.flatMap enc,by simp⟩
 | y::l,k+1,x,h=>by
  obtain⟨post,hp⟩:=q7n hsz l k x (by simpa using h)
  refine⟨post,?_⟩
  rw[qyL,show(k+1)*sz=(enc y).length+k*sz by rw[hsz,Nat.add_mul];omega,List.drop_length_add_append]
  exact hp
theorem q47 (hsz:∀x,(enc x).length=sz) (l:List α) (k fo:Nat) (t:TypeId) (h0:0<T.sz t) (hf:fo+T.sz t≤sz):ld T ((l.flatMap enc).map C.d) (k*sz+fo) t=(l[k]?).bind fun x=>ld T ((enc x).map C.d) fo t:=by
 have hl:=Jq hsz l
 cases hk:l[k]? with
 | none=>
  have hle:l.length≤k:=by simpa using hk
  have hle2:l.length*sz≤k*sz:=Nat.mul_le_mul_right _ hle
  show ld T _ _ t=none
  unfold ld
  split
  ·rw[if_neg (by rw[qyp,hl];omega)]
  ·rw[if_neg (by rw[qyp,hl];omega)]
  ·rfl
  ·rw[qyf (by rw[qyp,hl];omega)];rfl
 | some x=>
  obtain⟨post,hp⟩:=q7n hsz l k x hk
  have hx:=hsz x
  have hlen:k*sz+sz≤l.length*sz:=by
   have:k<l.length:=(qxL.1 hk).1
   have:=Nat.mul_le_mul_right sz (show k+1≤l.length from this)
   rw[Nat.add_mul] at this;omega
  have hd:∀n,n+fo≤sz→(((l.flatMap enc).map C.d).drop (k*sz+fo)).take n=(((enc x).map C.d).drop fo).take n:=fun n hn=>by
   rw[←qyu,←List.map_drop,hp,List.map_append,List.drop_append_of_le_length (by simp[hx];omega),List.take_append_of_le_length (by simp[hx];omega)]
  show _=ld T _ fo t
  unfold ld
  split
  ·rw[if_pos (by rw[qyp,hl];omega),if_pos (by rw[qyp,hx];omega),hd _ (by omega)]
  ·rw[if_pos (by rw[qyp,hl];omega),if_pos (by rw[qyp,hx];omega),hd _ (by omega)]
  ·rfl
  ·have h1:(((l.flatMap enc).map C.d).drop (k*sz))[fo]?=((enc x).map C.d)[fo]?:=by
    rw[←List.map_drop,hp,List.map_append,qyk (by simp[hx];omega)]
   rw[List.getElem?_drop] at h1
   rw[h1]
theorem q3O (hsz:∀x,(enc x).length=1) (l:List α) (k:Nat) (t:TypeId) (h:T.sz t=1):ld T ((l.flatMap enc).map C.d) k t=(l[k]?).bind fun x=>ld T ((enc x).map C.d) 0 t:=by
 have:=q47 hsz l k 0 t (by omega) (by omega)
 rwa [Nat.add_zero,Nat.mul_one] at this
theorem q3Z (hsz:∀x,(enc x).length=sz) (l:List α) (k:Nat) (t:TypeId) (h0:0<T.sz t) (hf:T.sz t≤sz):ld T ((l.flatMap enc).map C.d) (k*sz) t=(l[k]?).bind fun x=>ld T ((enc x).map C.d) 0 t:=by
 have:=q47 hsz l k 0 t h0 (by omega)
 rwa [Nat.add_zero] at this
end
theorem qkn (i:Nat) (ds:List D):(ds.map C.d).all (C.far i)=true:=by rw[List.all_map];exact qxY.2 fun _ _=>rfl
theorem qef (ds:List D):(ds.map C.d).all C.known=true:=by rw[List.all_map];exact qxY.2 fun _ _=>rfl
theorem qh5 (X:List Nat) (ds:List D):(ds.map C.d).all (C.farF X)=true:=by rw[List.all_map];exact qxY.2 fun _ _=>rfl
theorem qfY (ds:List D):(ds.map C.d).flatMap C.rows=[]:=by rw[List.flatMap_map];exact List.flatMap_eq_nil_iff.2 fun _ _=>rfl
theorem qlz (b:Builtin) (args:Array Operand) (ts:Array TypeId):(Call.operands { callee := .builtin b,args:=args,argTypes:=ts }).toList=args.toList:=by simp[Call.operands]
theorem qnq (f:Operand) (args:Array Operand) (ts:Array TypeId):(Call.operands { callee := .value f,args:=args,argTypes:=ts }).toList=f::args.toList:=by simp[Call.operands]
theorem qoN (i:Nat) (ds:List D):(ds.map C.d).map (C.fg i)=ds.map C.d:=by rw[List.map_map];rfl
theorem qkP (X:List Nat) (ds:List D):(ds.map C.d).map (C.fgL X)=ds.map C.d:=by rw[List.map_map];rfl
end
noncomputable section
open Go.RowKit
def ρ0:Pl:=⟨fun _=>none,fun _=>False⟩
def L0:Nat→Prop:=(QN [] 0).live
theorem qw7 (b:Nat):¬ Occ L0 ρ0 b:=fun h=>by
 rcases h with h|⟨i,c,h1,h2⟩
 ·exact h
 ·cases h2
theorem rd0 {W:World} {v:Value} {d:D} (h:RD W (fun _=>False) v d):RD W (Occ L0 ρ0) v d:=h.occ fun b hb=>qw7 b hb
theorem qhc {W:World} {cs:Array Value} {ds:List D} (h:PV W cs.toList ds):RR W L0 ρ0 (.agg cs) (.agg (ds.map C.d)):=by
 refine .agg _ _ (by simpa using h.1) (fun j c hj=>?_)
 rw[qxV] at hj
 obtain⟨d,h1,h2⟩:=qxU.1 hj
 subst h2
 have hj':j<cs.size:=by have:=(qxL.1 h1).1;rw[←h.1] at this;simpa using this
 have h3:cs.toList[j]?=some (cs.getD j undef):=by simp[qxN,hj']
 exact .d _ _ (rd0 (h.2 j _ d h3 h1))
theorem qfV {f:FuncId} {rs:List R} {b:Bool} (h:ev f 0 rs []=some (.c (.d (.bool b)),[])) {W:World} {vs:Array Value} (hr:RRs W L0 ρ0 vs rs) :
  Calls Try.prog f vs W fun e W'=>e = .returned (.bool b)∧Below W.heap.size W W':=by
 have hac:=qqL h
 have hnl:∀i,¬ (QN [] 0).live i:=fun i h=>by cases h
 have hs:Sim ⟨fun _=>False,W,ρ0,0,none⟩ ρ0 (QN [] 0) q5q W:=
  ⟨Hd.none,rfl,fun i => .any _,fun i b c h=>absurd h (hnl i),fun i h=>absurd h (hnl i),fun i b c h=>absurd h (hnl i),fun i j b c c' h=>absurd h (hnl i),fun i h=>absurd h (hnl i),qaA.refl _ _,fun b hb=>hb.elim,fun i hi=>absurd hi (Nat.not_lt_zero _),fun i b c h=>absurd h (hnl i),⟨fun b hb=>hb.elim,fun i j _ _ d h=>absurd h.choose_spec.choose_spec.choose_spec.choose_spec.choose_spec.1 (hnl i),fun i j d h=>absurd h.choose_spec.choose_spec.choose_spec.choose_spec.choose_spec.1 (hnl i)⟩⟩
 refine(hac.call ⟨fun _=>False,W,ρ0,0,none⟩ ρ0 W vs rfl rfl rfl rfl hs hr).mono ?_
 rintro e W' ⟨v,r,hp',nx',ρ',rfl,⟨rfl,rfl⟩,h3,h4⟩
 rw[h4.inv_bool]
 exact⟨rfl,h3.kept.os,h3.kept.tape,h3.kept.output,h3.kept.size,fun k hk=>h3.kept.block k hk (fun h=>h)⟩
end
end Go.Proofs.Ytofbcijbpfjliaa.Vc
