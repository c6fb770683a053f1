/- Part 3 of a proof. -/
import Derived.Test.YtofbcijbpfjliaaGreatD2
import Derived.Shelf.SlMaps.Clone
import Derived.Shelf.Slices.CompactI
import Derived.Sort.OwnSortedInts
import Derived.Shelf.RegionOpenPlain
import Derived.WalkKit
import Derived.Deep.LoopGhost
import Derived.Deep.RegionLaw
import Derived.Lib.Walk
import Derived.Sort.WalkB12
import Derived.Lib.SliceRun
import Derived.Shelf.Sort.Plain
import Derived.Shelf.Slices.In.SortNone
import Derived.Calls
import Derived.Laws.AppendOwn
import Derived.Sort.Grow
import Derived.Deep.Draws
import Derived.Shelf.SlSortCmp.Kit1
import Derived.Shelf.SlSortCmp.Whole1
import Derived.Shelf.Small.Bits
import Derived.Shelf.Strconv.Itoa0
import Derived.Shelf.SlSortCmp.Insertion
import Derived.Shelf.SlSortCmp.SiftDown1
import Derived.Shelf.SlSortCmp.HeapSort1
import Derived.Shelf.SlSortCmp.Insertion1
import Derived.Shelf.SlSortCmp.Median1
import Derived.Shelf.SlSortCmp.Pivot1
import Derived.Shelf.SlSortCmp.ReverseRange1
import Derived.Shelf.SlSortCmp.PartialInsertion1
import Derived.Shelf.SlSortCmp.PartitionEqual1
import Derived.Shelf.SlSortCmp.Partition1
import Derived.Shelf.SlSortCmp.Pdq1
import Derived.Test.YtofbcijbpfjliaaGreatProg
set_option linter.unusedVariables false
set_option linter.unusedSimpArgs false
set_option linter.defProp false
set_option linter.unusedSectionVars false
set_option linter.unnecessarySimpa false
namespace Go.Proofs.YtofbcijbpfjliaaGreat.Vc
noncomputable section
open Go.RowKit
def FLe (F F':S→XS):Prop:=∀s x,F s=some x→F' s=some x
def LLe (L L':(S→XS)→S→XS):Prop:=∀F F',FLe F F'→FLe (L F) (L' F')
def Lim (F:S→XS) (s:S):XS:=open Classical in if h:∃x n,iter n F s=some x then some (Classical.choose h) else none
theorem qeG {k k':S→XS} (h:FLe k k') {p:Exit×S} {x:Exit×S} (hx:sqD k p=some x):sqD k' p=some x:=by
 obtain⟨e,s⟩:=p
 cases e with
 | normal=>exact h _ _ hx
 | _=>exact hx
theorem Q9 {α β:Type} {o o':Option α} {f f':α→Option β} (ho:∀a,o=some a→o'=some a) (hf:∀a b,f a=some b→f' a=some b) {b:β} (h:o.bind f=some b):o'.bind f'=some b:=by grind [Option.bind_eq_some_iff]
theorem q6n {n n':Nat} {F F':S→XS} (hn:n≤n') (hF:FLe F F'):FLe (iter n F) (iter n' F'):=by
 induction n generalizing n' with
 | zero=>intro s x h;cases h
 | succ n ih=>
  intro s x h
  cases n' with
  | zero=>omega
  | succ n'=>
   exact Q9 (fun a ha=>hF s a ha) (fun a b hb=>qeG (ih (by omega)) hb) h
theorem qg1 {n:Nat} {F:S→XS} {s:S} {x:Exit×S} (h:iter n F s=some x):Lim F s=some x:=by
 have hex:∃x n,iter n F s=some x:=⟨x,n,h⟩
 unfold Lim
 rw[dif_pos hex]
 obtain⟨m,hm⟩:=Classical.choose_spec hex
 have h1:=q6n (Nat.le_max_left n m) (F:=F) (fun _ _ h=>h) s _ h
 have h2:=q6n (Nat.le_max_right n m) (F:=F) (fun _ _ h=>h) s _ hm
 simp_all
theorem qaM {F:S→XS} {s:S} {x:Exit×S} (h:Lim F s=some x):∃n,iter n F s=some x:=by
 unfold Lim at h
 split at h
 ·grind
 ·cases h
theorem qbY {α:Type} {a b:Option α} (h1:∀x,a=some x→b=some x) (h2:∀x,b=some x→a=some x):a=b:=by
 cases ha:a with
 | none=>
  cases hb:b with
  | none=>rfl
  | some y=>simp_all
 | some x=>simp_all
theorem qCl (F:S→XS) (s:S):Lim F s=(F s).bind (sqD (Lim F)):=by
 refine qbY (fun x h=>?_) (fun x h=>?_)
 ·obtain⟨n,hn⟩:=qaM h
  cases n with
  | zero=>cases hn
  | succ n=>exact Q9 (fun a ha=>ha) (fun a b hb=>qeG (fun s x h=>qg1 h) hb) hn
 ·obtain⟨p,h1,h2⟩:=qQC.1 h
  obtain⟨e,t⟩:=p
  cases e with
  | normal=>
   obtain⟨n,hn⟩:=qaM h2
   refine qg1 (n:=n+1) ?_
   unfold iter
   rw[h1]
   exact hn
  | _=>
   refine qg1 (n:=1) ?_
   unfold iter
   rw[h1]
   exact h2
theorem qk2 {n n':Nat} (h:n≤n'):LLe (iter n) (iter n'):=fun _ _ hF=>q6n h hF
theorem qbd (n:Nat):LLe (iter n) Lim:=fun _ F' hF s x h=>qg1 (n:=n) (q6n (F':=F') (qQN n) hF s x h)
theorem MOk.mono {F F':S→XS} (hF:FLe F F') {s:S} {id:Nat} {m:R} {ck:Nat} {es:Me} {x:Exit×S} (h:MOk F s id m ck es x):MOk F' s id m ck es x:=
 ⟨h.ne,fun e he=>(h.ent e he).imp (fun h l hl=>hF _ _ (h l hl)) (fun h l hl=>hF _ _ (h l hl)),h.fin.imp (fun⟨e,he,h⟩=>⟨e,he,fun l hl=>hF _ _ (h l hl)⟩) (fun h l hl=>hF _ _ (h l hl))⟩
theorem qss {F F':S→XS} (hF:FLe F F') (it:Operand):FLe (mlp it F) (mlp it F'):=fun s x h=>by
 obtain⟨id,m,ck,es,h1,h2⟩:=qdF h
 exact qtb h1 (h2.mono hF)
theorem qrz {L L':(S→XS)→S→XS} (hL:LLe L L') (o:Option Operand):LLe (lpM L o) (lpM L' o):=fun F F' hF=>by
 cases o with
 | none=>exact hL F F' hF
 | some it=>exact qss hF it
theorem q6C {α:Type} {p:α→Nat→Prop}:∀(L:List α),(∀a∈L,∃n:Nat,∀m,n≤m→p a m)→∃n:Nat,∀m,n≤m→∀a∈L,p a m
 | [],_=>⟨0,fun m _ a h=>by simp at h⟩
 | x::L,h=>by
  obtain⟨n1,h1⟩:=h x qQM
  obtain⟨n2,h2⟩:=q6C L (fun a ha=>h a (qQF _ ha))
  refine⟨max n1 n2,fun m hm a ha=>?_⟩
  grind
theorem qrx {F:Nat→S→XS} {F':S→XS} (hF:∀s x,F' s=some x→∃n,∀m,n≤m→F m s=some x) {it:Operand} {s:S} {x:Exit×S} (h:mlp it F' s=some x):∃n,∀m,n≤m→mlp it (F m) s=some x:=by
 obtain⟨id,mm,ck,es,h1,h2⟩:=qdF h
 have hent:∃n,∀m,n≤m→∀e∈es,(∀l∈q5n es,F m (s.m1 id mm ck (some e) l)=some (.normal,s.mi id mm ck (e.2.2::l)))∨∀l∈q5n es,F m (s.m1 id mm ck (some e) l)=some x:=
  q6C es fun e he=>by
   rcases h2.ent e he with h3|h3
   ·obtain⟨n,hn⟩:=q6C (p:=fun l m=>F m (s.m1 id mm ck (some e) l)=some (.normal,s.mi id mm ck (e.2.2::l))) (q5n es) fun l hl=>hF _ _ (h3 l hl)
    exact⟨n,fun m hm => .inl (hn m hm)⟩
   ·obtain⟨n,hn⟩:=q6C (p:=fun l m=>F m (s.m1 id mm ck (some e) l)=some x) (q5n es) fun l hl=>hF _ _ (h3 l hl)
    exact⟨n,fun m hm => .inr (hn m hm)⟩
 have hfin:∃n,∀m,n≤m→(∃e∈es,∀l∈q5n es,F m (s.m1 id mm ck (some e) l)=some x)∨∀l∈q5n es,F m (s.m1 id mm ck none l)=some x:=by
  rcases h2.fin with ⟨e,he,h3⟩|h3
  ·obtain⟨n,hn⟩:=q6C (p:=fun l m=>F m (s.m1 id mm ck (some e) l)=some x) (q5n es) fun l hl=>hF _ _ (h3 l hl)
   exact⟨n,fun m hm => .inl ⟨e,he,hn m hm⟩⟩
  ·obtain⟨n,hn⟩:=q6C (p:=fun l m=>F m (s.m1 id mm ck none l)=some x) (q5n es) fun l hl=>hF _ _ (h3 l hl)
   exact⟨n,fun m hm => .inr (hn m hm)⟩
 obtain⟨n1,h3⟩:=hent
 obtain⟨n2,h4⟩:=hfin
 exact⟨max n1 n2,fun m hm=>qtb h1 ⟨h2.ne,h3 m (by omega),h4 m (by omega)⟩⟩
section
variable {P:Program} {T:Ty} {po:Pol}
theorem qbZ {E E':Orc} (hE:OLe E E') {s:S} {g:FuncId} {zs:List (List Nat)} {rs:List R} {bl rw ln:List Nat} {x:R×S} (h:q1T E s g zs rs bl rw ln=some x):q1T E' s g zs rs bl rw ln=some x:=by
 unfold q1T at h ⊢
 refine Q9 (fun _ h=>h) (fun a b h=>Q9 (fun _ h=>h) (fun a b h=>?_) h) h
 split at h
 ·rename_i hc;simp only[if_pos hc];exact Q9 (fun a h=>hE _ _ _ _ _ h) (fun _ _ h=>h) h
 ·cases h
theorem qfO {E E':Orc} (hE:OLe E E') {s:S} {rid:Nat} {f:FuncId} {aq0 bd:Code} {rs:List R} {bl rw ln:List Nat} {x:R×S} (h:q7q E s rid f aq0 bd rs bl rw ln=some x):q7q E' s rid f aq0 bd rs bl rw ln=some x:=by
 unfold q7q at h ⊢
 refine Q9 (fun _ h=>h) (fun a b h=>?_) h
 split at h
 ·rename_i hc;simp only[if_pos hc];exact Q9 (fun a h=>hE _ _ _ _ _ h) (fun _ _ h=>h) h
 ·cases h
theorem qh4 {E E':Orc} (hE:OLe E E') {s:S} {rid:Nat} {args:List R} {x:R×S} (h:q6a E s rid args=some x):q6a E' s rid args=some x:=by
 unfold q6a at h ⊢
 split at h
 ·split at h
  ·rename_i hc;rw[if_pos hc];exact qfO hE h
  ·cases h
 ·cases h
theorem qhX {E E':Orc} (hE:OLe E E') {s:S} {f:Operand} {args:List Operand} {ts:List TypeId} {x:R×S} (h:q3R po E s f args ts=some x):q3R po E' s f args ts=some x:=by
 unfold q3R at h ⊢
 split at h
 ·exact qbZ hE h
 ·exact qh4 hE h
 ·cases h
theorem qpJ {E E':Orc} (hE:OLe E E') {s:S} {op:Op} {x:R×S} (h:xo P T po E s op=some x):xo P T po E' s op=some x:=by
 cases op with
 | call c=>
  grind [xo,xCl,qhX]
 | _=>exact h
theorem qsN {E E':Orc} (hE:OLe E E') {f:Nat} {g:Operand} {ps:List Nat} {aq0 bd:Code} {s:S} {x:Exit×S} (h:xRF po E f g ps aq0 bd s=some x):xRF po E' f g ps aq0 bd s=some x:=by
 unfold xRF at h ⊢
 split at h
 ·exact Q9 (fun a h=>qbZ hE h) (fun _ _ h=>h) h
 ·cases h
theorem qaG {E E':Orc} (hE:OLe E E') {o:Oper} {act:Bool} {s s':S} (h:xst P T po E o act s=some s'):xst P T po E' o act s=some s':=by
 unfold xst at h ⊢
 by_cases hc:act=true
 ·rw[if_pos hc] at h ⊢;grind [Q9,qpJ]
 simp_all
theorem qpD {E E':Orc} (hE:OLe E E') {ops:List Oper} {o:Oper} {s s':S} (h:qhU P T po E ops o s=some s'):qhU P T po E' ops o s=some s':=by
 unfold qhU at h ⊢
 split at h
 ·exact qaG hE h
 ·split at h
  ·split at h
   ·split at h
    ·rename_i hb;rw[if_pos hb];exact qaG hE h
    ·rename_i hb;rw[if_neg hb];exact qaG hE h
   ·exact qaG hE h
   ·cases h
  ·cases h
theorem qC3 {E E':Orc} (h:OLe E E') {g:FuncId} {x y c:Int} (hc:cfO E g x y=some c):cfO E' g x y=some c:=by
 unfold cfO at hc ⊢
 split at hc
 ·rename_i d hd
  rw[h _ _ _ _ _ hd];exact hc
 ·cases hc
theorem qwG {f f':Int→Int→Option Int} {dst:Option Nat} {e id n:Nat} {s s':S} (h:∀zs,okB f zs=true→agB f f' zs) (hx:qke s dst f e id n=some s'):qke s dst f' e id n=some s':=by
 unfold qke at hx ⊢
 split at hx
 ·obtain⟨zs,h1,hx⟩:=qQC.1 hx
  rw[h1,qQx]
  split at hx
  ·rename_i hc
   have hag:=h zs hc.2.2.2.2.1
   rw[if_pos ⟨hc.1,hc.2.1,hc.2.2.1,hc.2.2.2.1,by grind [qti],hc.2.2.2.2.2⟩,←qex hag fun y hy=>hy]
   exact hx
  ·cases hx
 ·cases hx
theorem qfF {E:Orc} (s:S) (o:Oper):(∀E':Orc,ipF T E' s o=none)∨(∀E':Orc,ipF T E' s o=some none)∨∃dst e id n c,∀E':Orc,ipF T E' s o=some (qke s dst (cfO E' c) e id n):=by
 unfold ipF
 split
 ·split
  ·unfold qBL
   split
   ·split
    ·unfold qEI
     split
     ·exact .inr (.inr ⟨_,_,_,_,_,fun _=>rfl⟩)
     simp_all
    simp_all
   simp_all
  simp_all
 simp_all
theorem qs6 {E E':Orc} (hE:OLe E E') {o:Oper} {s:S}:(ipA T po E s o=none∧ipA T po E' s o=none)∨∃y y',ipA T po E s o=some y∧ipA T po E' s o=some y'∧∀s',y=some s'→y'=some s':=by
 unfold ipA
 cases hi:ipX T po s o with
 | some y=>exact .inr ⟨y,y,rfl,rfl,fun _ h=>h⟩
 | none=>
  rcases qfF (T:=T) (E:=E) s o with h|h|⟨dst,e,id,n,c,h⟩
  ·exact .inl ⟨h E,h E'⟩
  ·exact .inr ⟨none,none,h E,h E',fun _ h=>h⟩
  ·refine .inr ⟨_,_,h E,h E',fun s' h1=>qwG (fun zs hz x hx y hy=>?_) h1⟩
   grind [q7P,qC3]
theorem qql {E E':Orc} (hE:OLe E E') {ops:List Oper} {o:Oper} {s s':S} (h:xgd P T po E ops o s=some s'):xgd P T po E' ops o s=some s':=by
 unfold xgd at h ⊢
 rcases qs6 (T:=T) (po:=po) hE (s:=s) (o:=o) with ⟨h1,h2⟩|⟨y,y',h1,h2,h3⟩
 ·rw[h1] at h;rw[h2];exact qpD hE h
 ·rw[h1] at h;rw[h2];exact h3 _ h
theorem qhb {E E':Orc} (hE:OLe E E') {ops:List Oper}:∀(l:List Oper) {s s':S},xr P T po E ops l s=some s'→xr P T po E' ops l s=some s'
 | [],_,_,h=>h
 | o::l,_,_,h=>Q9 (fun _ h=>qql hE h) (fun _ _ h=>qhb hE l h) h
def qel (D:DRs):Prop:=∀E E',OLe E E'→∀f k id ops s s',D E f k id ops s=some s'→D E' f k id ops s=some s'
theorem qgG {D:DRs} (hD:qel D) {E E':Orc} (hE:OLe E E') {L L':(S→XS)→S→XS} (hL:LLe L L') {f k:Nat}:∀(c:Code),FLe (XD P T po E (D E f k) L f k c) (XD P T po E' (D E' f k) L' f k c):=by
 intro c
 induction c with
 | seq a b iha ihb=>intro s x h;exact Q9 (fun _ h=>iha _ _ h) (fun _ _ h=>qeG ihb h) h
 | block id c ih=>intro s x h;exact Q9 (fun _ h=>ih _ _ h) (fun _ _ h=>h) h
 | scope c ih=>intro s x h;exact Q9 (fun _ h=>ih _ _ h) (fun _ _ h=>h) h
 | cond c x y ihx ihy=>
  intro s z h
  unfold XD at h ⊢
  split at h
  ·split at h
   ·rename_i hb;rw[if_pos hb];exact ihx _ _ h
   ·rename_i hb;rw[if_neg hb];exact ihy _ _ h
  ·cases h
 | region id ops draw=>
  intro s z h
  unfold XD at h ⊢
  split at h
  ·rename_i hb;rw[if_pos hb];exact Q9 (fun _ h=>hD E E' hE f k id _ _ _ h) (fun _ _ h=>h) h
  ·rename_i hb;rw[if_neg hb];grind [Q9,qhb]
 | loop c ih=>
  intro s z h
  exact Q9 (fun _ h=>h) (fun a b h=>qrz hL (q2I c) _ _ (fun s x h=>Q9 (fun _ h=>ih _ _ h) (fun _ _ h=>h) h) a b h) h
 | rangeFunc g ps aq0 bd _ _=>
  intro s z h
  grind [XD,qsN]
 | _=>intro s x h;exact h
theorem q8X {D:DRs} (hD:qel D) {E E':Orc} (hE:OLe E E') {L L':(S→XS)→S→XS} (hL:LLe L L') {f k:Nat} {args:List R} {G:List (Nat×B)} {bd:Bd} {x:R×List (Nat×B)} (h:q7r P T po D E L f k args G bd=some x):q7r P T po D E' L' f k args G bd=some x:=by
 unfold q7r at h ⊢
 split at h
 ·rename_i hc;rw[if_pos hc];exact Q9 (fun a h=>qgG hD hE hL bd.code _ _ h) (fun _ _ h=>h) h
 ·cases h
theorem q7f {D:DRs} (hD:qel D) {E E':Orc} (hE:OLe E E') {L L':(S→XS)→S→XS} (hL:LLe L L') {f k:Nat} {aq0 bd:Code} {tm:List R} {G:List (Nat×B)} {x:R×List (Nat×B)} (h:q4t P T po D E L f k aq0 bd tm G=some x):q4t P T po D E' L' f k aq0 bd tm G=some x:=by
 unfold q4t at h ⊢
 split at h
 ·rename_i hc
  rw[if_pos hc]
  refine Q9 (fun a h=>qgG hD hE hL aq0 _ _ h) (fun p b h=>?_) h
  unfold q9w at h ⊢
  split at h
  ·exact Q9 (fun _ h=>h) (fun b c h=>Q9 (fun a h=>qgG hD hE hL bd _ _ h) (fun _ _ h=>h) h) h
  ·cases h
 ·cases h
theorem qiI {D:DRs} (hD:qel D) {E E':Orc} (hE:OLe E E') {L L':(S→XS)→S→XS} (hL:LLe L L') {f k:Nat} {args:List R} {G:List (Nat×B)} {x:R×List (Nat×B)} (h:fnx P T po D E L f k args G=some x):fnx P T po D E' L' f k args G=some x:=by
 unfold fnx at h ⊢
 split at h
 ·rename_i g hg;exact g.mono E E' hE _ _ _ _ h
 ·exact Q9 (fun _ h=>h) (fun bd b hb=>q8X hD hE hL hb) h
theorem q7k {D:DRs} (hD:qel D):∀{n m:Nat},n≤m→OLe (xf P T po D n) (xf P T po D m)
 | 0,_,_=>fun _ _ _ _ _ h=>by cases h
 | n+1,0,h=>by omega
 | n+1,m+1,h=>fun g k args G x hx=>by
  unfold xf at hx ⊢
  cases g with
  | fn f=>exact qiI hD (q7k hD (by omega)) (qk2 (by omega)) hx
  | rd f aq0 bd=>exact q7f hD (q7k hD (by omega)) (qk2 (by omega)) hx
def EE (P:Program) (T:Ty) (po:Pol) (D:DRs):Orc:=fun f k args G=>open Classical in if h:∃x n,xf P T po D n f k args G=some x then some (Classical.choose h) else none
theorem ql9 {D:DRs} (hD:qel D) {n:Nat}:OLe (xf P T po D n) (EE P T po D):=fun f k args G x h=>by
 have hex:∃x n,xf P T po D n f k args G=some x:=⟨x,n,h⟩
 unfold EE
 rw[dif_pos hex]
 obtain⟨m,hm⟩:=Classical.choose_spec hex
 have h1:=q7k hD (Nat.le_max_left n m) _ _ _ _ _ h
 have h2:=q7k hD (Nat.le_max_right n m) _ _ _ _ _ hm
 simp_all
theorem q9x {D:DRs} {f:Fx} {k:Nat} {args:List R} {G:List (Nat×B)} {x:R×List (Nat×B)} (h:EE P T po D f k args G=some x):∃n,xf P T po D n f k args G=some x:=by
 unfold EE at h
 split at h
 ·grind
 ·cases h
theorem qzL (hA:Ag P T) {D:DRs} (hD:DOk P po D) (hP:qFR P po):Snd P (EE P T po D):=by
 refine⟨fun f k args G r G' h=>?_,fun f aq0 bd k tm G r G' h=>?_⟩
 ·obtain⟨n,hn⟩:=q9x h
  exact(qmW hA hD hP n).fn f k args G r G' hn
 ·obtain⟨n,hn⟩:=q9x h
  exact(qmW hA hD hP n).rd f aq0 bd k tm G r G' hn
def qCG (P:Program) (T:Ty) (po:Pol) (D:DRs):Prop:=∀f k id ops s s',D (EE P T po D) f k id ops s=some s'→∃n,D (xf P T po D n) f k id ops s=some s'
theorem Qo {α β:Type} {o:Nat→Option α} {o':Option α} {g:Nat→α→Option β} {g':α→Option β} (ho:∀a,o'=some a→∃n,∀m,n≤m→o m=some a) (hg:∀a b,g' a=some b→∃n,∀m,n≤m→g m a=some b) {b:β} (h:o'.bind g'=some b):∃n,∀m,n≤m→(o m).bind (g m)=some b:=by
 obtain⟨a,h1,h2⟩:=qQC.1 h
 obtain⟨n1,h3⟩:=ho a h1
 obtain⟨n2,h4⟩:=hg a b h2
 exact⟨max n1 n2,fun m hm=>by grind⟩
theorem QE {α:Type} {o:Option α}:∀a,o=some a→∃n:Nat,∀m,n≤m→o=some a:=fun _ h=>⟨0,fun _ _=>h⟩
theorem qjl {k:Nat→S→XS} {k':S→XS} (h:∀s x,k' s=some x→∃n,∀m,n≤m→k m s=some x):∀p x,sqD k' p=some x→∃n,∀m,n≤m→sqD (k m) p=some x:=fun p x hx=>by
 obtain⟨e,t⟩:=p
 cases e with
 | normal=>exact h _ _ hx
 | _=>exact⟨0,fun m _=>hx⟩
theorem qmm {E:Nat→Orc} {E':Orc} (hE:∀g k a G x,E' g k a G=some x→∃n,∀m,n≤m→E m g k a G=some x) (g:FuncId):∀(l:List (Int×Int)),(∀p∈l,∃c,cfO E' g p.1 p.2=some c)→∃n,∀m,n≤m→∀p∈l,cfO E' g p.1 p.2=cfO (E m) g p.1 p.2
 | [],_=>⟨0,fun _ _ p hp=>by cases hp⟩
 | p::l,h=>by
  obtain⟨n1,h1⟩:=qmm hE g l fun q hq=>h q (qQF _ hq)
  obtain⟨c,hc⟩:=h p qQM
  have h2:∃n,∀m,n≤m→cfO (E m) g p.1 p.2=some c:=by
   unfold cfO at hc ⊢
   split at hc
   ·rename_i d hd
    obtain⟨n,hn⟩:=hE _ _ _ _ _ hd
    exact⟨n,fun m hm=>by simp_all⟩
   ·cases hc
  obtain⟨n2,h2⟩:=h2
  refine⟨max n1 n2,fun m hm q hq=>?_⟩
  grind
theorem qlz {E:Nat→Orc} {E':Orc} (hE:∀g k a G x,E' g k a G=some x→∃n,∀m,n≤m→E m g k a G=some x) {s s':S} {dst:Option Nat} {e id n c:Nat} (h:qke s dst (cfO E' c) e id n=some s'):∃N,∀m,N≤m→qke s dst (cfO (E m) c) e id n=some s':=by
 cases hb:s.blk id with
 | row e' sz cs=>
  by_cases hsz:sz=1
  ·subst hsz
   cases hz:qaZ cs with
   | none=>grind [qke]
   | some zs=>
    have hok:okB (cfO E' c) zs=true:=by grind [qke]
    obtain⟨N,hN⟩:=qmm hE c (zs.flatMap fun x=>zs.map fun y=>(x,y)) (fun p hp=>by
     obtain⟨x,hx,hp⟩:=List.mem_flatMap.1 hp
     obtain⟨y,hy,rfl⟩:=qRi.1 hp
     grind [q7P])
    refine⟨N,fun m hm=>?_⟩
    have hag:agB (cfO E' c) (cfO (E m) c) zs:=fun x hx y hy=>hN m hm (x,y) (List.mem_flatMap.2 ⟨x,hx,qRi.2 ⟨y,hy,rfl⟩⟩)
    unfold qke at h ⊢
    rw[hb] at h ⊢
    simp only[hz,qQx] at h ⊢
    split at h
    ·rename_i hc
     rw[if_pos ⟨hc.1,hc.2.1,hc.2.2.1,hc.2.2.2.1,by grind [qti],hc.2.2.2.2.2⟩,←qex hag fun y hy=>hy]
     exact h
    ·cases h
  grind [qke]
 | _=>grind [qke]
section
variable {D:DRs} (hM:qel D) (hC:qCG P T po D)
include hM
theorem qbP {f:Fx} {k:Nat} {args:List R} {G:List (Nat×B)}:∀x,EE P T po D f k args G=some x→∃n,∀m,n≤m→xf P T po D m f k args G=some x:=fun x h=>by
 obtain⟨n,hn⟩:=q9x h
 exact⟨n,fun m hm=>q7k hM hm _ _ _ _ _ hn⟩
theorem qbf {s:S} {g:FuncId} {zs:List (List Nat)} {rs:List R} {bl rw ln:List Nat}:∀x,q1T (EE P T po D) s g zs rs bl rw ln=some x→∃n,∀m,n≤m→q1T (xf P T po D m) s g zs rs bl rw ln=some x:=fun x h=>by
 unfold q1T at h ⊢
 refine Qo QE (fun a b h=>Qo QE (fun a b h=>?_) h) h
 split at h
 ·rename_i hc
  simp only[if_pos hc]
  exact Qo (qbP hM) (fun _=>QE) h
 ·cases h
theorem qhO {s:S} {rid:Nat} {args:List R}:∀x,q6a (EE P T po D) s rid args=some x→∃n,∀m,n≤m→q6a (xf P T po D m) s rid args=some x:=fun x h=>by
 unfold q6a at h ⊢
 split at h
 ·split at h
  ·rename_i hc
   simp only[if_pos hc]
   unfold qdy q7q at h ⊢
   refine Qo QE (fun a b h=>?_) h
   split at h
   ·rename_i hc
    simp only[if_pos hc]
    exact Qo (qbP hM) (fun _=>QE) h
   ·cases h
  ·cases h
 ·cases h
theorem qgH {s:S} {f:Operand} {args:List Operand} {ts:List TypeId}:∀x,q3R po (EE P T po D) s f args ts=some x→∃n,∀m,n≤m→q3R po (xf P T po D m) s f args ts=some x:=fun x h=>by
 unfold q3R at h ⊢
 split at h
 ·exact qbf hM _ h
 ·exact qhO hM _ h
 ·cases h
theorem qmz {s:S} {op:Op}:∀x,xo P T po (EE P T po D) s op=some x→∃n,∀m,n≤m→xo P T po (xf P T po D m) s op=some x:=fun x h=>by
 cases op with
 | call c=>
  simp only[xo,xCl] at h ⊢
  split at h<;>first
   | simp_all
   | exact qgH hM _ h
 | _=>exact⟨0,fun _ _=>h⟩
theorem qrc {f:Nat} {g:Operand} {ps:List Nat} {aq0 bd:Code} {s:S}:∀x,xRF po (EE P T po D) f g ps aq0 bd s=some x→∃n,∀m,n≤m→xRF po (xf P T po D m) f g ps aq0 bd s=some x:=fun x h=>by
 unfold xRF at h ⊢
 split at h
 ·exact Qo (qbf hM) (fun _=>QE) h
 ·cases h
theorem qaC {o:Oper} {act:Bool} {s:S}:∀x,xst P T po (EE P T po D) o act s=some x→∃n,∀m,n≤m→xst P T po (xf P T po D m) o act s=some x:=fun x h=>by
 unfold xst at h ⊢
 by_cases hc:act=true
 ·simp only[if_pos hc] at h ⊢;exact Qo (qmz hM) (fun _=>QE) h
 simp_all
theorem qom {ops:List Oper} {o:Oper} {s:S}:∀x,qhU P T po (EE P T po D) ops o s=some x→∃n,∀m,n≤m→qhU P T po (xf P T po D m) ops o s=some x:=fun x h=>by
 unfold qhU at h ⊢
 split at h
 ·exact qaC hM _ h
 ·split at h
  ·split at h
   ·split at h
    ·simp_all [if_pos,qaC]
    simp_all [if_neg,qaC]
   ·exact qaC hM _ h
   ·cases h
  ·cases h
theorem qt4 {ops:List Oper} {o:Oper} {s:S}:∀x,xgd P T po (EE P T po D) ops o s=some x→∃n,∀m,n≤m→xgd P T po (xf P T po D m) ops o s=some x:=fun x h=>by
 unfold xgd ipA at h ⊢
 cases hi:ipX T po s o with
 | some y=>simp_all [ipS,qrw]
 | none=>
  simp only[hi,ipS] at h ⊢
  rcases qfF (T:=T) (E:=EE P T po D) s o with q|q|⟨dst,e,id,n,c,q⟩
  ·simp_all [qrw,qom]
  ·grind [qrw]
  ·simp only[q,qrw] at h ⊢;exact qlz (E:=fun m=>xf P T po D m) (fun g k a G x hx=>qbP hM x hx) h
theorem qgD {ops:List Oper}:∀(l:List Oper) (s:S) (x:S),xr P T po (EE P T po D) ops l s=some x→∃n,∀m,n≤m→xr P T po (xf P T po D m) ops l s=some x
 | [],_,_,h=>⟨0,fun _ _=>h⟩
 | o::l,_,_,h=>Qo (qt4 hM) (fun s x h=>qgD l s x h) h
include hC
theorem qgE {f k:Nat}:∀(c:Code) (s:S) (x:Exit×S),XD P T po (EE P T po D) (D (EE P T po D) f k) Lim f k c s=some x→∃n,∀m,n≤m→XD P T po (xf P T po D m) (D (xf P T po D m) f k) (iter m) f k c s=some x:=by
 intro c
 induction c with
 | seq a b iha ihb=>intro s x h;exact Qo (iha s) (qjl ihb) h
 | block id c ih=>intro s x h;exact Qo (ih s) (fun _=>QE) h
 | scope c ih=>intro s x h;exact Qo (ih s) (fun _=>QE) h
 | cond c x y ihx ihy=>
  intro s z h
  unfold XD at h ⊢
  split at h
  ·split at h
   ·simp_all
   simp_all
  ·cases h
 | region id ops draw=>
  intro s z h
  unfold XD at h ⊢
  split at h
  ·rename_i hb
   simp only[if_pos hb]
   refine Qo (fun a ha=>?_) (fun _=>QE) h
   obtain⟨n,hn⟩:=hC _ _ _ _ _ _ ha
   exact⟨n,fun m hm=>hM _ _ (q7k hM hm) _ _ _ _ _ _ hn⟩
  ·rename_i hb;simp only[if_neg hb];exact Qo (qgD hM _ _) (fun _=>QE) h
 | loop c ih=>
  intro s z h
  unfold XD at h ⊢
  refine Qo QE (fun a b h=>?_) h
  have hbody:∀s x,(XD P T po (EE P T po D) (D (EE P T po D) f k) Lim f k c s).bind (lpx po f (zt c) k)=some x→
    ∃n,∀m,n≤m→(XD P T po (xf P T po D m) (D (xf P T po D m) f k) (iter m) f k c s).bind (lpx po f (zt c) k)=some x:=fun s x h=>Qo (ih s) (fun _=>QE) h
  cases hd:q2I c with
  | some it=>rw[hd] at h;exact qrx (F:=fun m s=>(XD P T po (xf P T po D m) (D (xf P T po D m) f k) (iter m) f k c s).bind (lpx po f (zt c) k)) hbody h
  | none=>
  rw[hd] at h
  replace h:Lim _ a=some b:=h
  obtain⟨N,hN⟩:=qaM h
  have hit:∀(N:Nat) (s:S) (x:Exit×S),iter N (fun s=>(XD P T po (EE P T po D) (D (EE P T po D) f k) Lim f k c s).bind (lpx po f (zt c) k)) s=some x→
    ∃n,∀m,n≤m→iter N (fun s=>(XD P T po (xf P T po D m) (D (xf P T po D m) f k) (iter m) f k c s).bind (lpx po f (zt c) k)) s=some x:=by
   intro N
   induction N with
   | zero=>intro s x h;cases h
   | succ N ihN=>intro s x h;exact Qo (hbody s) (qjl ihN) h
  obtain⟨n,hn⟩:=hit N a b hN
  exact⟨max n N,fun m hm=>q6n (by omega) (fun _ _ h=>h) _ _ (hn m (by omega))⟩
 | rangeFunc g ps aq0 bd _ _=>
  simp_all [XD,qrc]
 | _=>intro s x h;exact⟨0,fun _ _=>h⟩
theorem qhf {f k:Nat} {aq0 bd:Code} {tm:List R} {G:List (Nat×B)}:∀x,q4t P T po D (EE P T po D) Lim f k aq0 bd tm G=some x→∃n,∀m,n≤m→q4t P T po D (xf P T po D m) (iter m) f k aq0 bd tm G=some x:=fun x h=>by
 unfold q4t at h ⊢
 split at h
 ·rename_i hc
  simp only[if_pos hc]
  refine Qo (qgE hM hC aq0 _) (fun p b h=>?_) h
  unfold q9w at h ⊢
  split at h
  ·exact Qo QE (fun b c h=>Qo (qgE hM hC bd _) (fun _=>QE) h) h
  ·cases h
 ·cases h
theorem qzI (f:FuncId) (aq0 bd:Code) (k:Nat) (tm:List R) (G:List (Nat×B)):EE P T po D (.rd f aq0 bd) k tm G=q4t P T po D (EE P T po D) Lim f k aq0 bd tm G:=by
 refine qbY (fun x h=>?_) (fun x h=>?_)
 ·obtain⟨n,hn⟩:=q9x h
  cases n with
  | zero=>cases hn
  | succ n=>exact q7f hM (ql9 hM) (qbd n) hn
 ·obtain⟨n,hn⟩:=qhf hM hC x h
  exact ql9 hM (n:=n+1) _ _ _ _ _ (hn n (qQN n))
theorem qD7 (f k:Nat) (args:List R) (G:List (Nat×B)):EE P T po D (.fn f) k args G=fnx P T po D (EE P T po D) Lim f k args G:=by
 refine qbY (fun x h=>?_) (fun x h=>?_)
 ·obtain⟨n,hn⟩:=q9x h
  cases n with
  | zero=>cases hn
  | succ n=>exact qiI hM (ql9 hM) (qbd n) hn
 ·cases hp:po.pr f with
  | some g=>
   unfold fnx at h
   rw[hp] at h
   obtain⟨n,hn⟩:=g.cont (fun n=>xf P T po D n) _ (fun _ _ h=>q7k hM h) (fun g k a G x h=>qbP hM x h) _ _ _ _ h
   refine ql9 hM (n:=n+1) _ _ _ _ _ ?_
   show fnx P T po D _ _ f k args G=_
   unfold fnx
   rw[hp];exact hn n (qQN n)
  | none=>
  unfold fnx at h
  rw[hp] at h
  obtain⟨bd,h1,h2⟩:=qQC.1 h
  have:∃n,q7r P T po D (xf P T po D n) (iter n) f k args G bd=some x:=by
   unfold q7r at h2 ⊢
   split at h2
   ·rename_i hc
    simp only[if_pos hc]
    obtain⟨n,hn⟩:=Qo (qgE hM hC bd.code _) (fun _=>QE) h2
    exact⟨n,hn n (qQN n)⟩
   ·cases h2
  obtain⟨n,hn⟩:=this
  refine ql9 hM (n:=n+1) _ _ _ _ _ ?_
  show fnx P T po D _ _ f k args G=_
  grind [fnx]
end
end
end
noncomputable section
open Go.RowKit
def qlk (s:S):Op→List Nat
 | .load _ x=>match s.ev x with | .c (.ptr id _)=>[id]|_=>[]
 | .convert _ _ x=>match s.ev x with | .c (.own id _ _ _)=>[id]|_=>[]
 | .lookup _ x _ _=>match s.ev x with | .c (.hd _ id)=>[id]|_=>[]
 | .range _ x=>match s.ev x with | .c (.hd _ id)=>[id]|_=>[]
 | .call c=>match c.callee,c.args.toList with | .builtin .len,[x]=>(match s.ev x with | .c (.hd _ id)=>[id]|_=>[])|_,_=>[]
 | _=>[]
def qbQ:Op→Bool
 | .makeMap _ _=>true
 | .range _ _=>true
 | .alloc _=>true
 | .box _ _=>true
 | .buildSlice _ _ _=>true
 | _=>false
section
variable {P:Program} {T:Ty} {s t:S} {p:Nat} {K:KK}
theorem qna {op:Op} (hop:q48 op=true) (hev:∀x∈op.operands.toList,t.ev x=s.ev x) (hblk:∀id,id∈qlk s op→t.blk id=s.blk id) (h:ox P T s p op K) :
  ∃r us,K r (s.up us)∧(us=[]∨(qbQ op=true∧∃b,us=[(p,b)]))∧∀(q:Nat) (K':KK),(us=[]∨q=p)→K' r (t.up us)→ox P T t q op K':=by
 have e1:∀x,x∈op.operands.toList→t.ev x=s.ev x:=hev
 cases op with
 | move x=>have h1:=e1 x (by simp[Op.operands]);exact⟨_,[],h,.inl rfl,fun q K' hq' hK=>by show K' (t.ev x) t;rw[h1];exact hK⟩
 | assign x=>have h1:=e1 x (by simp[Op.operands]);exact⟨_,[],h,.inl rfl,fun q K' hq' hK=>by show K' (t.ev x) t;rw[h1];exact hK⟩
 | pick c x y=>
  have h1:=e1 c (by simp[Op.operands]);have h2:=e1 x (by simp[Op.operands]);have h3:=e1 y (by simp[Op.operands])
  simp only[ox,qcU] at h ⊢
  split at h
  ·rename_i b hb
   exact⟨_,[],h,.inl rfl,fun q K' hq' hK=>by rw[h1,h2,h3,hb];exact hK⟩
  ·cases h
 | alloc ty=>
  simp only[ox,qdr] at h ⊢
  exact⟨_,_,h.2,.inr ⟨rfl,_,rfl⟩,fun q K' hq' hK=>by obtain rfl:=hq'.resolve_left (by simp);exact⟨h.1,hK⟩⟩
 | box ty x=>
  have h1:=e1 x (by simp[Op.operands])
  simp only[ox,qsH] at h ⊢
  obtain⟨cs,g1,g2,g3⟩:=h
  exact⟨_,_,g3,.inr ⟨rfl,_,rfl⟩,fun q K' hq' hK=>by obtain rfl:=hq'.resolve_left (by simp);exact⟨cs,by rw[h1];exact g1,g2,hK⟩⟩
 | build ty parts=>
  have hq:∀q∈parts.toList,t.ev q.2=s.ev q.2:=fun q hq=>e1 q.2 (by simp only[Op.operands];exact List.mem_map_of_mem (f:=fun q:Nat×Operand=>q.2) hq)
  simp only[ox,q9e] at h ⊢
  split at h
  ·rename_i fs hk
   obtain⟨g1,cs,g2,g3⟩:=h
   exact⟨_,[],g3,.inl rfl,fun q K' hq' hK=>⟨g1,cs,by rw[qaP _ _ hq];exact g2,hK⟩⟩
  ·rename_i n e hk
   obtain⟨g1,cs,g2,g3⟩:=h
   exact⟨_,[],g3,.inl rfl,fun q K' hq' hK=>⟨g1,cs,by rw[qaP _ _ hq];exact g2,hK⟩⟩
  ·cases h
 | buildSlice ty len parts=>
  have hq:∀q∈parts.toList,t.ev q.2=s.ev q.2:=fun q hq=>e1 q.2 (by simp only[Op.operands];exact List.mem_map_of_mem (f:=fun q:Nat×Operand=>q.2) hq)
  simp only[ox,q2y] at h ⊢
  obtain⟨e,g1,g2,g3,g4,cs,g5,g6⟩:=h
  exact⟨_,_,g6,.inr ⟨rfl,_,rfl⟩,fun q K' hq' hK=>by obtain rfl:=hq'.resolve_left (by simp);exact⟨e,g1,g2,g3,g4,cs,by rw[qaP _ _ hq];exact g5,hK⟩⟩
 | load ty x=>
  have h1:=e1 x (by simp[Op.operands])
  simp only[ox,qd0] at h ⊢
  rw[h1]
  split at h
  ·rename_i id off he
   obtain⟨r,g1,g2⟩:=h
   exact⟨r,[],g2,.inl rfl,fun q K' hq' hK=>⟨r,by rw[hblk id (by simp[qlk,he])];exact g1,hK⟩⟩
  ·obtain⟨r,g1,g2⟩:=h
   exact⟨r,[],g2,.inl rfl,fun q K' hq' hK=>⟨r,g1,hK⟩⟩
  ·cases h
 | nilCheck x=>
  have h1:=e1 x (by simp[Op.operands])
  simp only[ox,q38] at h ⊢
  rw[h1]
  split at h
  ·exact⟨_,[],h,.inl rfl,fun q K' hq' hK=>hK⟩
  ·exact⟨_,[],h,.inl rfl,fun q K' hq' hK=>hK⟩
  ·exact⟨_,[],h,.inl rfl,fun q K' hq' hK=>hK⟩
  ·cases h
 | extract x i=>
  have h1:=e1 x (by simp[Op.operands])
  simp only[ox,q4z] at h ⊢
  rw[h1]
  split at h
  ·obtain⟨r,g1,g2⟩:=h
   exact⟨r,[],g2,.inl rfl,fun q K' hq' hK=>⟨r,g1,hK⟩⟩
  ·cases h
 | fieldAddr ty x f=>
  have h1:=e1 x (by simp[Op.operands])
  simp only[ox,q3k] at h ⊢
  rw[h1]
  obtain⟨fo,ft,g1,g2,g3,h⟩:=h
  split at h
  ·exact⟨_,[],h,.inl rfl,fun q K' hq' hK=>⟨fo,ft,g1,g2,g3,hK⟩⟩
  ·exact⟨_,[],h,.inl rfl,fun q K' hq' hK=>⟨fo,ft,g1,g2,g3,hK⟩⟩
  ·cases h
 | field ty x f=>
  have h1:=e1 x (by simp[Op.operands])
  simp only[ox,q9v] at h ⊢
  rw[h1]
  split at h
  ·obtain⟨fo,ft,r,g1,g2,g3⟩:=h
   exact⟨r,[],g3,.inl rfl,fun q K' hq' hK=>⟨fo,ft,r,g1,g2,hK⟩⟩
  ·cases h
 | indexAddr ty x y=>
  have h1:=e1 x (by simp[Op.operands]);have h2:=e1 y (by simp[Op.operands])
  simp only[ox,q29] at h ⊢
  rw[h1,h2]
  split at h
  ·obtain⟨e,g1,g2,g3,g4,g5,g6⟩:=h
   exact⟨_,[],g6,.inl rfl,fun q K' hq' hK=>⟨e,g1,g2,g3,g4,g5,hK⟩⟩
  ·obtain⟨e,g1,g2,g3,g4,g5,g6⟩:=h
   exact⟨_,[],g6,.inl rfl,fun q K' hq' hK=>⟨e,g1,g2,g3,g4,g5,hK⟩⟩
  ·obtain⟨n,e,g1,g2,g4,g5,g6⟩:=h
   exact⟨_,[],g6,.inl rfl,fun q K' hq' hK=>⟨n,e,g1,g2,g4,g5,hK⟩⟩
  ·cases h
 | index ty x y=>
  have h1:=e1 x (by simp[Op.operands]);have h2:=e1 y (by simp[Op.operands])
  simp only[ox,q9j] at h ⊢
  rw[h1,h2]
  split at h
  ·obtain⟨n,e,r,g1,g2,g3,g4,g5,g6⟩:=h
   exact⟨r,[],g6,.inl rfl,fun q K' hq' hK=>⟨n,e,r,g1,g2,g3,g4,g5,hK⟩⟩
  ·obtain⟨g1,g2,c,g3,g4⟩:=h
   exact⟨_,[],g4,.inl rfl,fun q K' hq' hK=>⟨g1,g2,c,g3,hK⟩⟩
  ·cases h
 | unOp op ty x=>
  have h1:=e1 x (by simp[Op.operands])
  simp only[ox,qy0] at h ⊢
  rw[h1]
  split at h
  ·rename_i b hb;exact⟨_,[],h,.inl rfl,fun q K' hq' hK=>hK⟩
  ·rename_i k n hb;exact⟨_,[],h,.inl rfl,fun q K' hq' hK=>hK⟩
  ·cases h
 | binOp op ty x y ty'=>
  have h1:=e1 x (by simp[Op.operands]);have h2:=e1 y (by simp[Op.operands])
  simp only[ox,qkX] at h ⊢
  rw[h1,h2]
  split at h
  ·obtain⟨g1,g2⟩:=h
   cases op
   all_goals simp only[qf6] at g2 ⊢
   case quo=>exact⟨_,[],g2.2,.inl rfl,fun q K' hq' hK=>⟨g1,g2.1,hK⟩⟩
   case rem=>exact⟨_,[],g2.2,.inl rfl,fun q K' hq' hK=>⟨g1,g2.1,hK⟩⟩
   case shl=>exact⟨_,[],g2.2,.inl rfl,fun q K' hq' hK=>⟨g1,g2.1,hK⟩⟩
   case shr=>exact⟨_,[],g2.2,.inl rfl,fun q K' hq' hK=>⟨g1,g2.1,hK⟩⟩
   all_goals exact⟨_,[],g2,.inl rfl,fun q K' hq' hK=>⟨g1,hK⟩⟩
  ·cases op
   all_goals simp only[qfq] at h ⊢
   case add=>exact⟨_,[],h.2,.inl rfl,fun q K' hq' hK=>⟨h.1,hK⟩⟩
   all_goals first|exact h.elim|exact⟨_,[],h,.inl rfl,fun q K' hq' hK=>hK⟩
  ·unfold qfi at h ⊢
   cases op
   all_goals first|exact h.elim|(obtain⟨b,h1,h2⟩:=h;exact⟨_,[],h2,.inl rfl,fun q K' hq' hK=>⟨b,h1,hK⟩⟩)
  ·unfold qgg at h ⊢
   split at h
   all_goals first|exact h.elim|exact⟨_,[],h.2,.inl rfl,fun q K' hq' hK=>⟨h.1,hK⟩⟩
 | convert ty ty' x=>
  have h1:=e1 x (by simp[Op.operands])
  simp only[ox,qcX] at h ⊢
  rw[h1]
  split at h
  ·exact⟨_,[],h,.inl rfl,fun q K' hq' hK=>hK⟩
  ·exact⟨_,[],h,.inl rfl,fun q K' hq' hK=>hK⟩
  ·exact⟨_,[],h.2.2,.inl rfl,fun q K' hq' hK=>⟨h.1,h.2.1,hK⟩⟩
  ·rename_i e id sz off n g1 g2 he
   obtain⟨q1,q2,ns,q3,q4,q5⟩:=h
   exact⟨_,[],q5,.inl rfl,fun q K' hq' hK=>⟨q1,q2,ns,by rw[hblk id (by simp[qlk,he])];exact q3,q4,hK⟩⟩
  ·obtain⟨q1,q2,ns,q3,q5⟩:=h
   exact⟨_,[],q5,.inl rfl,fun q K' hq' hK=>⟨q1,q2,ns,q3,hK⟩⟩
  ·exact⟨_,[],h.2,.inl rfl,fun q K' hq' hK=>⟨h.1,hK⟩⟩
  ·cases h
 | makeFunc f first captured=>
  have h1:∀x∈first.toList,t.ev x=s.ev x:=fun x hx=>e1 x (by simp only[Op.operands];simp only[Array.toList_append,qR1];exact .inl hx)
  have h2:∀x∈captured.toList,t.ev x=s.ev x:=fun x hx=>e1 x (by simp only[Op.operands];simp only[Array.toList_append,qR1];exact .inr hx)
  simp only[ox,q36] at h ⊢
  split at h
  ·obtain⟨fs,caps,q1,q2,q3⟩:=h
   exact⟨_,[],q3,.inl rfl,fun q K' hq' hK=>⟨fs,caps,by rw[qdG _ h1];exact q1,by rw[qdG _ h2];exact q2,hK⟩⟩
  ·cases h
 | slice ty x lo hi mx=>
  have h1:=e1 x (by simp[Op.operands])
  have bd:∀(y:Option Operand) (z:Int),(∀u,y=some u→t.ev u=s.ev u)→t.bd y z=s.bd y z:=fun y z hy=>by
   cases y with
   | none=>rfl
   | some u=>simp only[S.bd,hy u rfl]
  have b1:=fun z=>bd lo z (fun u hu=>e1 u (by subst hu;simp[Op.operands]))
  have b2:=fun z=>bd hi z (fun u hu=>e1 u (by subst hu;simp[Op.operands]))
  have b3:=fun z=>bd mx z (fun u hu=>e1 u (by subst hu;simp[Op.operands]))
  cases mx with
  | some m=>
   simp only[ox,qlG,qeV] at h ⊢
   rw[h1]
   obtain⟨e,q0,q1,q2,q3,q4,h⟩:=h
   split at h
   ·obtain⟨q5,q6,q7,q8⟩:=h
    exact⟨_,[],q8,.inl rfl,fun q K' hq' hK=>⟨e,q0,q1,q2,q3,q4,q5,by rw[b2];exact q6,by rw[b3];exact q7,hK⟩⟩
   ·obtain⟨q6,q7,q8⟩:=h
    exact⟨_,[],q8,.inl rfl,fun q K' hq' hK=>⟨e,q0,q1,q2,q3,q4,by rw[b2];exact q6,by rw[b3];exact q7,hK⟩⟩
   ·cases h
  | none=>
  simp only[ox,qlG,q8U] at h ⊢
  rw[h1]
  split at h
  ·obtain⟨q1,q2,l,r,q3,q4,q5,q6,q7,q8⟩:=h
   exact⟨_,[],q8,.inl rfl,fun q K' hq' hK=>⟨q1,q2,l,r,by rw[b1];exact q3,by rw[b2];exact q4,q5,q6,q7,hK⟩⟩
  ·obtain⟨e,q0,q1,q1',q2,l,r,q3,q4,q5,q6,q7,q8⟩:=h
   exact⟨_,[],q8,.inl rfl,fun q K' hq' hK=>⟨e,q0,q1,q1',q2,l,r,by rw[b1];exact q3,by rw[b2];exact q4,q5,q6,q7,hK⟩⟩
  ·rename_i id sz off n he
   obtain⟨e,q0,q1,q1',q2,l,r,q3,q4,q5,q6,q7,q8,q9⟩:=h
   by_cases hl:l=0∨l<n
   ·exact⟨_,[],q8 hl,.inl rfl,fun q K' hq' hK=>⟨e,q0,q1,q1',q2,l,r,by rw[b1];exact q3,by rw[b2];exact q4,q5,q6,q7,fun _=>hK,fun hn=>absurd hl hn⟩⟩
   ·exact⟨_,[],q9 hl,.inl rfl,fun q K' hq' hK=>⟨e,q0,q1,q1',q2,l,r,by rw[b1];exact q3,by rw[b2];exact q4,q5,q6,q7,fun hn=>absurd hn hl,fun _=>hK⟩⟩
  ·obtain⟨e,q0,q1,q2,q3,q4,q5⟩:=h
   exact⟨_,[],q5,.inl rfl,fun q K' hq' hK=>⟨e,q0,q1,q2,by rw[b1];exact q3,by rw[b2];exact q4,hK⟩⟩
  ·cases h
 | call c=>
  obtain⟨callee,args,ts⟩:=c
  simp only[ox,qm2] at h ⊢
  have e2:∀x∈args.toList,t.ev x=s.ev x:=fun x hx=>e1 x (by simp only[Op.operands,Call.operands];simp only[Array.toList_append,qR1];exact .inr hx)
  split at h
  ·rename_i x ty q1 q2
   have h1:=e2 x (by rw[q1];simp)
   split at h
   ·obtain⟨r,g1,g2⟩:=h
    refine⟨_,[],g2,.inl rfl,fun q K' hq' hK=>⟨r,?_,hK⟩⟩
    have:qad t x=qad s x:=by
     unfold qad
     rw[h1]
     split
     ·rfl
     ·rename_i id he
      rw[hblk id (by simp only[qlk,q1,he];simp)]
     ·rfl
    unfold qbU at g1 ⊢
    rw[this];exact g1
   simp only[qkx] at h ⊢
   simp only[h1]
   split at h
   ·exact⟨_,[],h.2,.inl rfl,fun q K' hq' hK=>⟨h.1,hK⟩⟩
   ·exact⟨_,[],h.2,.inl rfl,fun q K' hq' hK=>⟨h.1,hK⟩⟩
   ·exact⟨_,[],h.2,.inl rfl,fun q K' hq' hK=>⟨h.1,hK⟩⟩
   ·exact⟨_,[],h.2,.inl rfl,fun q K' hq' hK=>⟨h.1,hK⟩⟩
   ·obtain⟨n,e,g1,g2⟩:=h
    exact⟨_,[],g2,.inl rfl,fun q K' hq' hK=>⟨n,e,g1,hK⟩⟩
   ·cases h
  ·rename_i x y q1
   have h1:=e2 x (by rw[q1];simp)
   have h2:=e2 y (by rw[q1];simp)
   simp only[qkq] at h ⊢
   simp only[h1,h2]
   split at h
   ·exact⟨_,[],h,.inl rfl,fun q K' hq' hK=>hK⟩
   ·cases h
  ·rename_i x y q1
   have h1:=e2 x (by rw[q1];simp)
   have h2:=e2 y (by rw[q1];simp)
   simp only[ql8] at h ⊢
   simp only[h1,h2]
   split at h
   ·exact⟨_,[],h,.inl rfl,fun q K' hq' hK=>hK⟩
   ·cases h
  ·cases hop
  ·cases hop
  ·cases hop
  ·cases h
 | makeMap ty r=>
  simp only[ox] at h ⊢
  obtain⟨x,s',g1,g2⟩:=h
  cases r with
  | none=>
   injection g1 with g1
   injection g1 with g3 g4
   subst g3 g4
   exact⟨_,_,g2,.inr ⟨rfl,_,rfl⟩,fun q K' hq' hK=>by obtain rfl:=hq'.resolve_left (by simp);exact⟨_,_,rfl,hK⟩⟩
  | some y=>
   have h1:=e1 y (by simp[Op.operands])
   simp only[q3I] at g1
   split at g1
   ·rename_i q1 q2
    injection g1 with g1
    injection g1 with g3 g4
    subst g3 g4
    exact⟨_,_,g2,.inr ⟨rfl,_,rfl⟩,fun q K' hq' hK=>by obtain rfl:=hq'.resolve_left (by simp);exact⟨_,_,by simp only[q3I,q1,h1,q2],hK⟩⟩
   ·cases g1
 | lookup ty x y ok=>
  have h1:=e1 x (by simp[Op.operands]);have h2:=e1 y (by simp[Op.operands])
  simp only[ox] at h ⊢
  obtain⟨r,g1,g2⟩:=h
  refine⟨_,[],g2,.inl rfl,fun q K' hq' hK=>⟨r,?_,hK⟩⟩
  have:qad t x=qad s x:=by
   unfold qad
   rw[h1]
   split
   ·rfl
   ·rename_i id he
    rw[hblk id (by simp only[qlk,he];simp)]
   ·rfl
  unfold q5N at g1 ⊢
  rw[this,h2];exact g1
 | range ty x=>
  have h1:=e1 x (by simp[Op.operands])
  simp only[ox] at h ⊢
  obtain⟨r,s',g1,g2⟩:=h
  unfold q7b at g1
  split at g1
  ·rename_i q1 q2
   injection g1 with g1
   injection g1 with g3 g4
   subst g3 g4
   exact⟨_,_,g2,.inr ⟨rfl,_,rfl⟩,fun q K' hq' hK=>by obtain rfl:=hq'.resolve_left (by simp);exact⟨_,_,by simp only[q7b,q1,h1,q2],hK⟩⟩
  ·rename_i q1 q2
   injection g1 with g1
   injection g1 with g3 g4
   subst g3 g4
   exact⟨_,_,g2,.inr ⟨rfl,_,rfl⟩,fun q K' hq' hK=>by obtain rfl:=hq'.resolve_left (by simp);exact⟨_,_,by simp only[q7b,q1,h1,q2],hK⟩⟩
  ·rename_i id q1 q2
   split at g1
   ·rename_i es ck q3
    injection g1 with g1
    injection g1 with g3 g4
    subst g3 g4
    have q4:=hblk id (by simp only[qlk,q2];simp)
    exact⟨_,_,g2,.inr ⟨rfl,_,rfl⟩,fun q K' hq' hK=>by obtain rfl:=hq'.resolve_left (by simp);exact⟨_,_,by simp only[q7b,q1,h1,q2,q4,q3],hK⟩⟩
   ·cases g1
  ·cases g1
 | _=>cases hop
end
structure Fp where
 rb:List Nat
 wb:List Nat
 X:List Nat
 ks:List Nat
 nw:List Nat
def C.lt0 (n:Nat):C→Bool
 | .ptr i _=>decide (i<n)
 | .hd _ i=>decide (i<n)
 | .own i _ _ _=>decide (i<n)
 | _=>true
def C.ltn (n:Nat):C→Bool
 | .fn _ fs caps=>fs.all (C.lt0 n)&&caps.all (C.lt0 n)
 | c=>c.lt0 n
def R.lt0 (n:Nat):R→Bool
 | .c x=>x.ltn n
 | .agg xs=>xs.all (C.ltn n)
 | _=>true
def R.ltn (n:Nat):R→Bool
 | .tup rs=>rs.all (R.lt0 n)
 | r=>r.lt0 n
def B.ltn (n:Nat):B→Bool
 | .blk _ cs=>cs.all (C.ltn n)
 | .row _ _ cs=>cs.all (C.ltn n)
 | .ob o=>o.Rs.all (R.lt0 n)
 | .dead=>true
def C.farF (X:List Nat):C→Bool
 | .fn _ fs caps=>(fs++caps).all (C.farL X)
 | x=>x.farL X
def R.farL (X:List Nat):R→Bool
 | .c x=>x.farF X
 | .agg xs=>xs.all (C.farF X)
 | .tup rs=>rs.isEmpty
 | .any=>true
def B.farL (X:List Nat):B→Bool
 | .blk _ cs=>cs.all (C.farF X)
 | .row _ _ cs=>cs.all (C.farF X)
 | .ob o=>o.Rs.all (R.farL X)
 | .dead=>true
def qa2 (s:S) (X:List Nat):List Nat:=match X with | []=>[]|X=>((s.tm.map (·.1)).eraseDups).filter fun d => !(s.get d).farL X
def qqZ (s:S) (id:Nat):List Nat:=((s.hp.map (·.1)).eraseDups).filter fun i => !(i==id) && !(s.blk i).farL [id]
def R.isA:R→Bool
 | .any=>true
 | _=>false
def qLo (s:S):List Nat:=((s.tm.map (·.1)).eraseDups).filter fun d=>(s.get d).isA
def fpA (s:S) (id:Nat) (y:Operand):Fp:=⟨(s.ev y).rows,id::qqZ s id,[id],qa2 s [id]++qLo s,[]⟩
def qkM (s:S):List Operand→Option Fp
 | [x,y]=>match s.ev x with
  | .c (.own id _ _ _)=>some (fpA s id y)
  | .c .nils=>some (fpA s s.nx y)
  | .c (.clp _ _ _)=>some (fpA s s.nx y)
  | _=>none
 | _=>none
def S.kill (s:S) (ks:List Nat):S:={ s with tm:=ks.map (fun d=>(d,R.any))++s.tm }
mutual
def D.beq:D→D→Bool
 | .int k a,.int k' b=>decide (k=k')&&decide (a=b)
 | .bool a,.bool b=>a==b
 | .str a,.str b=>decide (a.data=b.data)
 | .sl z n cs,.sl z' n' cs'=>decide (z=z')&&decide (n=n')&&D.beqL cs cs'
 | _,_=>false
def D.beqL:List D→List D→Bool
 | [],[]=>true
 | x::l,y::r=>D.beq x y&&D.beqL l r
 | _,_=>false
end
mutual
theorem D.beq_eq:∀{a b:D},D.beq a b=true→a=b
 | .int k a,.int k' b,h=>by simp only[D.beq,qR3,qRx] at h;rw[h.1,h.2]
 | .bool a,.bool b,h=>by simp only[D.beq,beq_iff_eq] at h;rw[h]
 | .str ⟨a⟩,.str ⟨b⟩,h=>by simp only[D.beq,qRx] at h;rw[h]
 | .sl z n cs,.sl z' n' cs',h=>by simp only[D.beq,qR3,qRx] at h;rw[h.1.1,h.1.2,D.beqL_eq h.2]
 | .int _ _,.bool _,h | .int _ _,.str _,h | .int _ _,.sl _ _ _,h | .bool _,.int _ _,h | .bool _,.str _,h | .bool _,.sl _ _ _,h | .str _,.int _ _,h | .str _,.bool _,h | .str _,.sl _ _ _,h | .sl _ _ _,.int _ _,h | .sl _ _ _,.bool _,h | .sl _ _ _,.str _,h=>by simp[D.beq] at h
theorem D.beqL_eq:∀{a b:List D},D.beqL a b=true→a=b
 | [],[],_=>rfl
 | x::l,y::r,h=>by simp only[D.beqL,qR3] at h;rw[D.beq_eq h.1,D.beqL_eq h.2]
 | [],_::_,h|_::_,[],h=>by simp[D.beqL] at h
end
mutual
theorem D.beq_self:∀(a:D),D.beq a a=true
 | .int _ _=>by simp[D.beq]
 | .bool _=>by simp[D.beq]
 | .str _=>by simp[D.beq]
 | .sl _ _ cs=>by simp[D.beq,D.beqL_self cs]
theorem D.beqL_self:∀(a:List D),D.beqL a a=true
 | []=>rfl
 | x::l=>by simp[D.beqL,D.beq_self x,D.beqL_self l]
end
def C.beq0:C→C→Bool
 | .d x,.d y=>D.beq x y
 | .ptr i o,.ptr i' o'=>decide (i=i')&&decide (o=o')
 | .hd k i,.hd k' i'=>decide (k=k')&&decide (i=i')
 | .own i sz o n,.own i' sz' o' n'=>decide (i=i')&&decide (sz=sz')&&decide (o=o')&&decide (n=n')
 | .nilp,.nilp | .nilf,.nilf | .nilm,.nilm | .nils,.nils | .any,.any=>true
 | _,_=>false
def C.beqL:List C→List C→Bool
 | [],[]=>true
 | x::l,y::r=>C.beq0 x y&&C.beqL l r
 | _,_=>false
theorem C.beq0_eq {a b:C} (h:C.beq0 a b=true):a=b:=by
 unfold C.beq0 at h
 grind [D.beq_eq]
theorem C.beqL_eq:∀{a b:List C},C.beqL a b=true→a=b
 | [],[],_=>rfl
 | x::l,y::r,h=>by simp only[C.beqL,qR3] at h;rw[C.beq0_eq h.1,C.beqL_eq h.2]
 | [],_::_,h|_::_,[],h=>by simp[C.beqL] at h
def B.beq:B→B→Bool
 | .blk t cs,.blk t' cs'=>decide (t=t')&&C.beqL cs cs'
 | .row e sz cs,.row e' sz' cs'=>decide (e=e')&&decide (sz=sz')&&C.beqL cs cs'
 | .dead,.dead=>true
 | _,_=>false
theorem B.beq_eq {a b:B} (h:B.beq a b=true):a=b:=by
 unfold B.beq at h
 split at h
 ·simp only[qR3,qRx] at h;grind [C.beqL_eq]
 ·simp only[qR3,qRx] at h;grind [C.beqL_eq]
 ·rfl
 ·cases h
def wbC (s s1:S) (bl rw:List Nat):List Nat:=match rw with | []=>bl.filter fun i => !B.beq (s1.blk i) (s.blk i)|rw=>bl++rw
def qav (n m:Nat):List Nat:=(List.range (m-n)).map (n+·)
def qFi (s s1:S) (r:R) (bl rw ln:List Nat):Option Fp:=
 if s1.nx=s.nx∧(bl++rw).all (fun i=>(s1.blk i).ltn s.nx)=true∧r.ltn s.nx=true then some ⟨bl++rw++ln,wbC s s1 bl rw,rw,qa2 s rw,[]⟩ else some ⟨bl++rw++ln,wbC s s1 bl rw++qav s.nx s1.nx,rw,qa2 s rw,[s.nx]⟩
def qCH (s s1:S) (r:R) (rs:List R) (l:List Nat):Option Fp:=qFi s s1 r (qhp s l) (q5T s l) (((rs.flatMap R.rows).eraseDups).filter fun i => !l.contains i)
def qA1 (s s1:S) (r:R) (ow:List Nat) (rs:List R):Option Fp:=qCH s s1 r rs (q4Q s 60 (rs.flatMap R.ptrs++qGX ow rs) [])
def fpC (po:Pol) (s s1:S) (r:R) (f:Operand) (args:List Operand):Option Fp:=
 match s.ev f with
 | .c (.fn g fs caps)=>qA1 s s1 r (po.ow g) (fs.map R.c++args.map s.ev++caps.map R.c)
 | _=>none
def qpS (po:Pol) (s s1:S) (r:R) (op:Op):Option Fp:=
 if q48 op=true then some ⟨qlk s op,if qbQ op=true then[s.nx] else[],[],[],[]⟩ else
 match op with
 | .store _ x _=>match s.ev x with | .c (.ptr id _)=>some ⟨[],[id],[],[],[]⟩|_=>none
 | .makeSlice _ _ _=>some ⟨[],[s.nx],[],[],[]⟩
 | .call { callee := .builtin .append,args,.. }=>qkM s args.toList
 | .call { callee := .value f,args,.. }=>fpC po s s1 r f args.toList
 | _=>none
abbrev Tx:=(R×List (Nat×B))×Fp
def alC (po:Pol) (s:S):Op→Option (FuncId×List R)
 | .call { callee := .value f,args,.. }=>match s.ev f with
  | .c (.fn g [] [])=>if po.ro g=true∧(args.toList.map s.ev).all R.dat=true then some (g,args.toList.map s.ev) else none
  | _=>none
 | _=>none
def qyP (q:R×List (Nat×B)):Option (Nat×Nat×Nat×List C):=match q with
 | (.c (.own 0 z 0 n),[(0,.row e z' cs)])=>if z'=z∧cs.all C.dat=true then some (z,n,e,cs) else none
 | _=>none
def qEQ (s:S) (o:Oper) (q:Option (Nat×Nat×Nat×List C)):Option (S×Tx):=
 q.bind fun q=>if qaN s o.dst=true then some ((s.up [(s.nx,.row q.2.2.1 q.1 q.2.2.2)]).put o.dst (.c (.own s.nx q.1 0 q.2.1)),(.c (.own s.nx q.1 0 q.2.1),[(s.nx,.row q.2.2.1 q.1 q.2.2.2)]),⟨[],[s.nx],[],[],[]⟩) else none
def qKT (E:Orc) (s:S) (o:Oper) (g:FuncId) (args:List R):Option (S×Tx):=qEQ s o ((E (.fn g) 0 args []).bind qyP)
def alX (E:Orc) (s:S) (o:Oper) (x:Option (FuncId×List R)) (y:Option (S×Tx)):Option (S×Tx):=match x with
 | some q=>qKT E s o q.1 q.2
 | none=>y
def xsF (P:Program) (T:Ty) (po:Pol) (E:Orc) (o:Oper) (act:Bool) (s:S):Option (S×Tx):=
 if act=true then alX E s o (alC po s o.op) <| (xo P T po E s o.op).bind fun q=>if qaN q.2 o.dst=true then(qpS po s q.2 q.1 o.op).bind fun fp=>some ((q.2.kill fp.ks).put o.dst q.1,(q.1,fp.wb.map fun x=>(x,q.2.blk x)),fp) else none
 else if qaN s o.dst=true then some (s.put o.dst (.tup []),(.tup [],[]),⟨[],[],[],[],[]⟩) else none
def xgF (P:Program) (T:Ty) (po:Pol) (E:Orc) (ops:List Oper) (o:Oper) (s:S):Option (S×Tx):=
 match o.guard with
 | none=>xsF P T po E o true s
 | some (j,want)=>match (ops[j]?).bind (·.dst) with
  | some d=>match s.get d with
   | .c (.d (.bool b))=>if b=true then xsF P T po E o want (s.put (some d) tt) else xsF P T po E o (!want) (s.put (some d) ff)
   | .tup []=>xsF P T po E o false s
   | _=>none
  | none=>none
def q6l (a b:Fp):Bool:=a.wb.any (fun x=>b.rb.contains x||b.wb.contains x)||a.rb.any (fun x=>b.wb.contains x)
def Fp.none? (a:Fp):Bool:=a.rb.isEmpty&&a.wb.isEmpty
def okP (A:List (List Nat)):Nat→List (Nat×Fp)→List Tx→Bool
 | _,_,[]=>true
 | j,prev,x::l=>prev.all (fun q=>if q6l q.2 x.2=true then(A.getD j []).contains q.1 else true)&&okP A (j+1) (if x.2.none?=true then prev else(j,x.2)::prev) l
def qpy (ops:List Oper) (fp:Fp) (i:Nat) (x:Tx):Bool:=(x.1.1.farL fp.X||(match q8v ops i with|some d=>fp.ks.contains d|none=>true))&&x.1.2.all fun u=>fp.wb.contains u.1||u.2.farL fp.X
def qA8 (fp:Fp) (s:S):Bool:=s.tm.all (fun x=>fp.ks.contains x.1||x.2.farL fp.X)&&s.hp.all fun u=>fp.wb.contains u.1||u.2.farL fp.X
def qwZ (ops:List Oper) (A:List (List Nat)) (fp:Fp) (j:Nat):Nat→List Tx→Bool
 | _,[]=>true
 | i,x::l=>(i==j||(A.getD i []).contains j||qpy ops fp i x)&&qwZ ops A fp j (i+1) l
def okX (ops:List Oper) (A:List (List Nat)) (s0:S) (l:List Tx):Nat→List Tx→Bool
 | _,[]=>true
 | j,x::r=>(if x.2.X.isEmpty=true then true else qA8 x.2 s0&&qwZ ops A x.2 j 0 l)&&okX ops A s0 l (j+1) r
def qop (ops:List Oper) (i:Nat):List Nat:=match ops[i]? with|some o=>q58 ops o++o.dst.toList|none=>[]
def q82 (ops:List Oper) (i j:Nat) (x y:Tx):Bool:=x.2.ks.any (fun d=>(qop ops j).contains d||y.2.ks.contains d)||y.2.ks.any fun d=>(qop ops i).contains d
def qwR (ops:List Oper) (A:List (List Nat)) (j:Nat) (y:Tx):Nat→List Tx→Bool
 | _,[]=>true
 | i,x::l=>(!decide (i<j) || !q82 ops i j x y||(A.getD j []).contains i)&&qwR ops A j y (i+1) l
def qy4 (ops:List Oper) (A:List (List Nat)) (l:List Tx):Nat→List Tx→Bool
 | _,[]=>true
 | j,y::r=>qwR ops A j y 0 l&&qy4 ops A l (j+1) r
def okK (ops:List Oper) (A:List (List Nat)) (l:List Tx):Bool:=l.all (fun x=>x.2.ks.isEmpty)||qy4 ops A l 0 l
def qEj (lim i:Nat):Nat→List Tx→Bool
 | _,[]=>true
 | j,x::l=>(i==j||x.1.2.all fun u=>Nat.blt u.1 lim)&&qEj lim i (j+1) l
def okN (l:List Tx):Nat→List Tx→Bool
 | _,[]=>true
 | j,x::r=>(match x.2.nw with | []=>true|n::_=>qEj n j 0 l)&&okN l (j+1) r
def xdp (P:Program) (T:Ty) (po:Pol) (E:Orc) (ops:List Oper) (A:List (List Nat)) (s0:S):Nat→List Oper→S→List Tx→Option S
 | 0,l,s,acc=>if okP A 0 [] acc=true∧okX ops A s0 acc 0 acc=true∧okK ops A acc=true∧okN acc 0 acc=true then xr P T po E ops l s else none
 | m+1,o::l,s,acc=>(xgF P T po E ops o s).bind fun q=>xdp P T po E ops A s0 m l q.1 (acc++[q.2])
 | _+1,[],_,_=>none
def qyb:List (Nat×R)→Bool
 | []=>true
 | x::l=>if x.2.isA=true then qyb l else false
def q7a:List (Nat×R)→List (Nat×R)
 | []=>[]
 | x::l=>if x.2.isA=true then(if qyb l=true then[] else x::q7a l) else x::q7a l
def S.strip (s:S):S:=⟨q7a s.tm,s.hp,s.nx,s.n⟩
def d1b (P:Program) (T:Ty) (po:Pol) (E:Orc) (f id:Nat) (ops:List Oper) (o:Option S):Option S:=o.bind fun s=>xdp P T po E ops (po.an f id) s.strip (po.dm f id) ops s.strip []
def D1 (P:Program) (T:Ty) (po:Pol):DRs:=fun E f _ id ops s=>d1b P T po E f id ops (s.tkD T po ops)
section
variable {P:Program} {T:Ty} {po:Pol} {E:Orc} {f id:Nat} {ops:List Oper} {s:S} {c:Prop} [Decidable c] {α:Type}
theorem qsd:d1b P T po E f id ops (some s)=xdp P T po E ops (po.an f id) s.strip (po.dm f id) ops s.strip []:=rfl
end
end
noncomputable section
open Go.RowKit
def qqa (fp:Fp) (t:S):Prop:=fp.X=[]∨((∀d,d ∉ fp.ks→(t.get d).fgL fp.X=t.get d)∧∀x,x ∉ fp.wb→(t.blk x).fgL fp.X=t.blk x)
def Loc (P:Program) (o:Oper) (s:S) (r:R) (us:List (Nat×B)) (fp:Fp):Prop:=
 ∀(cx:Cx) (ρ:Pl) (t:S) (a:Act) (w:World) (next:Act→World→Prop) (Q:Exit→Act→World→Prop),(∀y∈o.op.operands.toList,t.ev y=s.ev y)→(∀x,x∈fp.rb∨x∈fp.wb→t.blk x=s.blk x)→qqa fp t→(fp.nw≠[]→∀x,t.live x→x<s.nx)→Sim cx ρ t a w→
  (∀ρ' t' v w',(∀d,d ∉ fp.ks→t'.get d=t.get d)→(∀x,t'.blk x=lk us x (t.blk x))→t'.n=t.n→Sim cx ρ' t' a w'→RR w' t'.live ρ' v r→next (a.put o.dst v) w')→o.wpIn (FW cx.ro) 0 P a w next Q
theorem qJR {X:List Nat} {x:C} (h:x.farF X=true):x.fgL X=x:=by
 cases x with
 | ptr i o=>grind [C.farF,C.farL,Bool.not_eq_true',C.fgL]
 | hd k i=>grind [C.farF,C.farL,Bool.not_eq_true',C.fgL]
 | own i sz o n=>grind [C.farF,C.farL,Bool.not_eq_true',C.fgL]
 | fn f fs caps=>simp_all [C.farF,C.fgL,if_true]
 | _=>rfl
theorem qwc {X:List Nat} {xs:List C} (h:xs.all (C.farF X)=true):xs.map (C.fgL X)=xs:=by
 induction xs with
 | nil=>rfl
 | cons x xs ih=>
  simp_all [List.all_cons,qR3,qQU,qJR]
theorem qIZ {X:List Nat} {r:R} (h:r.farL X=true):r.fgL X=r:=by
 cases r with
 | c x=>grind [R.farL,R.fgL,qJR]
 | agg xs=>grind [R.farL,R.fgL,qwc]
 | tup rs=>
  simp_all [R.farL,R.fgL,if_true]
 | any=>rfl
theorem qKB {X:List Nat} {b:B} (h:b.farL X=true):b.fgL X=b:=by
 cases b with
 | blk t cs=>grind [B.farL,B.fgL,qwc]
 | row e sz cs=>grind [B.farL,B.fgL,qwc]
 | ob o=>
  simp only[B.farL] at h
  simp only[B.fgL]
  rw[AO.mapR_congr (f:=fun x=>x) fun x hx=>qIZ (qQO.1 h x hx),AO.mapR_id]
 | dead=>rfl
section
variable {P:Program} {T:Ty} {po:Pol} {E:Orc} {s s1:S} {r:R} {o:Oper}
theorem qu0 {α:Type} (i x:Nat) (b z:α):lk [(i,b)] x z=if i=x then b else z:=rfl
theorem qlM {s:S} {op:Op} (h:q48 op=true):isY s op=false:=by
 unfold isY
 split
 ·cases h
 ·rfl
theorem qwn (hA:Ag P T) (hE:Snd P E) (hop:q48 o.op=true) (h:xo P T po E s o.op=some (r,s1)) (hnx:s.blk s.nx = .dead) {X:List Nat} :
  Loc P o s r ((if qbQ o.op=true then[s.nx] else[]).map fun x=>(x,s1.blk x)) ⟨qlk s o.op,if qbQ o.op=true then[s.nx] else[],X,[],[]⟩:=by
 intro cx ρ t a w next Q hev hblk _ _ hs hn
 have hox:=quI hE (K:=fun r' s''=>r'=r∧s''=s1) (qlM hop) h ⟨rfl,rfl⟩
 obtain⟨r',us',⟨rfl,h2⟩,h3,h4⟩:=qna (t:=t) hop hev (fun id hid=>hblk id (.inl hid)) hox
 have fin:∀q,¬ t.live q→(us'=[]∨q=s.nx)→o.wpIn (FW cx.ro) 0 P a w next Q:=by
  intro q hq hq2
  refine qbN hA hq hs (h4 q (fun r'' s''=>r''=r'∧s''=t.up us') hq2 ⟨rfl,rfl⟩) ?_
  rintro r'' s'' ρ' v w' ⟨rfl,rfl⟩ g1 g2
  refine hn ρ' (t.up us') v w' (fun d _=>rfl) (fun x=>?_) rfl g1 g2
  rcases h3 with rfl|⟨ha,b,rfl⟩
  ·have:s1=s:=h2.symm
   subst this
   split
   ·rename_i ha
    show t.blk x=lk [(s1.nx,s1.blk s1.nx)] x (t.blk x)
    grind [qu0]
   ·rfl
  ·rw[if_pos ha,S.blk_up]
   show _=lk [(s.nx,s1.blk s.nx)] x (t.blk x)
   rw[qu0,←h2,S.blk_up,if_pos rfl]
 by_cases hu:us'=[]
 ·exact fin t.nx (fun h=>by have:=hs.nx _ h;omega) (.inl hu)
 ·obtain⟨ha,-⟩:=h3.resolve_left hu
  refine fin s.nx (fun h=>?_) (.inr rfl)
  unfold S.live at h
  rw[hblk s.nx (.inr (by simp[ha])),hnx] at h
  cases h
theorem qsy (hA:Ag P T) {ty:TypeId} {x y:Operand} {id off:Nat} (ho:o.op = .store ty x y) (hx:s.ev x = .c (.ptr id off)) (h:q5c T s ty x y=some (r,s1)) {X:List Nat}:Loc P o s r ([id].map fun x=>(x,s1.blk x)) ⟨[],[id],X,[],[]⟩:=by
 intro cx ρ t a w next Q hev hblk _ _ hs hn
 have e1:=hev x (by grind [Op.operands])
 have e2:=hev y (by grind [Op.operands])
 have hb:=hblk id (.inr qQM)
 have hl:s.live id:=by
  unfold q5c at h
  rw[hx] at h
  simp only at h
  split at h
  ·rename_i ys hys
   split at h
   ·rename_i hc
    have hq:=hs.ev x
    rw[e1,hx] at hq
    obtain⟨b,cap,q1,-,-⟩:=hq.inv_ptr
    grind [S.live]
   ·cases h
  ·cases h
 have ht:q5c T t ty x y=some (r,t.up [(id,s1.blk id)]):=by
  unfold q5c at h ⊢
  rw[e1,e2,hx] at *
  simp only at h ⊢
  rw[hb]
  split at h
  ·split at h
   ·rename_i hc
    obtain⟨rfl,rfl⟩:=q4A h
    rw[if_pos hc,S.blk_up,if_pos rfl]
   ·cases h
  ·cases h
 have hox:ox P T t t.nx o.op (fun r' s''=>r'=r∧s''=t.up [(id,s1.blk id)]):=by
  rw[ho]
  simp only[ox]
  exact qfL (K:=fun r' s''=>r'=r∧s''=t.up [(id,s1.blk id)]) ht ⟨rfl,rfl⟩
 refine qbN hA (fun h=>by have:=hs.nx _ h;omega) hs hox ?_
 rintro r'' s'' ρ' v w' ⟨rfl,rfl⟩ g1 g2
 exact hn ρ' (t.up [(id,s1.blk id)]) v w' (fun d _=>rfl) (fun x=>S.blk_up t id x _) rfl g1 g2
theorem qxs (hA:Ag P T) {ty:TypeId} {x y:Operand} (ho:o.op = .makeSlice ty x y) (h:qh1 T s ty x y=some (r,s1)) (hnx:s.blk s.nx = .dead) {X:List Nat}:Loc P o s r ([s.nx].map fun x=>(x,s1.blk x)) ⟨[],[s.nx],X,[],[]⟩:=by
 intro cx ρ t a w next Q hev hblk _ _ hs hn
 have e1:=hev x (by grind [Op.operands])
 have e2:=hev y (by grind [Op.operands])
 have hb:=hblk s.nx (.inr qQM)
 have hl:¬ t.live s.nx:=fun h=>by unfold S.live at h;rw[hb,hnx] at h;cases h
 have hk:=qig (K:=fun r' s''=>r'=r∧s''=s1) h ⟨rfl,rfl⟩
 have hox:ox P T t s.nx o.op (fun r' s''=>r'=r∧s''=t.up [(s.nx,s1.blk s.nx)]):=by
  rw[ho]
  simp only[ox]
  unfold qd5 at hk ⊢
  rw[e1,e2]
  split at hk
  ·obtain⟨e,q1,q2,q3,q4,q5,q6,q7,q8,rfl,rfl⟩:=hk
   exact⟨e,q1,q2,q3,q4,q5,q6,q7,q8,rfl,by rw[S.blk_up,if_pos rfl]⟩
  ·cases hk
 refine qbN hA hl hs hox ?_
 rintro r'' s'' ρ' v w' ⟨rfl,rfl⟩ g1 g2
 exact hn ρ' (t.up [(s.nx,s1.blk s.nx)]) v w' (fun d _=>rfl) (fun x=>S.blk_up t s.nx x _) rfl g1 g2
theorem q9s {α:Type} (f:Nat→α):∀(l:List Nat) (x:Nat) (z:α),lk (l.map fun i=>(i,f i)) x z=if x∈l then f x else z
 | [],_,_=>by simp[lk]
 | i::l,x,z=>by
  simp only[qQU,lk,q9s f l x z,qQT]
  grind
theorem qGr {id:Nat} {x:C}:x.fgL [id]=x.fg id:=by
 have e0:∀i:Nat,[id].contains i=decide (i=id):=fun i=>by simp
 have e1:∀x:C,x.farL [id]=x.far id:=fun x=>by
  cases x with
  | ptr i o=>grind [C.farL,C.far]
  | hd k i=>grind [C.farL,C.far]
  | own i sz o n=>grind [C.farL,C.far]
  | _=>rfl
 cases x with
 | ptr i o=>simp_all [C.fgL,C.fg,qRx]
 | hd k i=>simp_all [C.fgL,C.fg,qRx]
 | own i sz o n=>simp_all [C.fgL,C.fg,qRx]
 | fn f fs caps=>simp only[C.fgL,C.fg,funext e1]
 | _=>rfl
theorem qJi {id:Nat} {x:R}:x.fgL [id]=x.fg id:=by
 cases x with
 | c x=>grind [R.fgL,R.fg,qGr]
 | agg xs=>grind [R.fgL,R.fg,List.map_congr_left,qGr]
 | _=>rfl
theorem qLV {id:Nat} {x:B}:x.fgL [id]=x.fg id:=by
 have e:C.fgL [id]=C.fg id:=funext fun _=>qGr
 have e2:R.fgL [id]=R.fg id:=funext fun _=>qJi
 cases x with
 | blk t cs=>grind [B.fgL,B.fg]
 | row a sz cs=>grind [B.fgL,B.fg]
 | ob o=>grind [B.fgL,B.fg]
 | dead=>rfl
theorem qlR {t:S} {y:Operand} (h1:t.ev y=s.ev y) (h2:∀i∈(s.ev y).rows,t.blk i=s.blk i):t.seq y=s.seq y:=by grind [S.seq,id,R.rows,C.rows,C.rows0]
theorem qyG (hA:Ag P T) {x y:Operand} {t1 t2:TypeId} {fp:Fp} (ho:o.op = .call { callee := .builtin .append,args:=#[x,y],argTypes:=#[t1,t2] }) (he:t2=t1) (h:q7n T s t1 x y=some (r,s1)) (hf:qkM s [x,y]=some fp) (hnx:s.blk s.nx = .dead) :
  Loc P o s r (fp.wb.map fun x=>(x,s1.blk x)) fp:=by
 intro cx ρ t a w next Q hev hblk hfar hltn hs hn
 have e1:=hev x (by grind [Op.operands,Call.operands])
 have e2:=hev y (by grind [Op.operands,Call.operands])
 have main:∀(id:Nat) (row:B) (p:Nat),fp=fpA s id y→(∀K:KK,K r ((t.fg id).up [(id,row)])→q8a T t p t1 x y K)→¬ t.live p→s1=(s.fg id).up [(id,row)]→o.wpIn (FW cx.ro) 0 P a w next Q:=by
  intro id row p hfp hk hp hs1
  subst hfp
  have hox:ox P T t p o.op (fun r' s''=>r'=r∧s''=(t.fg id).up [(id,row)]):=by grind [ox,qm2]
  refine qbN hA hp hs hox ?_
  rintro r'' s'' ρ' v w' ⟨rfl,rfl⟩ g1 g2
  have hX:(fpA s id y).X=[id]:=rfl
  have hfar':=hfar.resolve_left (by rw[hX];simp)
  rw[hX] at hfar'
  refine hn ρ' ((t.fg id).up [(id,row)]) v w' (fun d hd=>?_) (fun i=>?_) rfl g1 g2
  ·show(t.fg id).get d=t.get d
   grind [S.get_fg,qJi]
  ·show _=lk ((id::qqZ s id).map fun x=>(x,s1.blk x)) i (t.blk i)
   have L1:((t.fg id).up [(id,row)]).blk i=if id=i then row else(t.blk i).fg id:=by rw[S.blk_up,S.blk_fg]
   have R1:s1.blk i=if id=i then row else(s.blk i).fg id:=by rw[hs1,S.blk_up,S.blk_fg]
   rw[q9s (fun x=>s1.blk x),L1,R1]
   by_cases hi:i∈id::qqZ s id
   ·rw[if_pos hi,hblk i (.inr hi)]
   ·have hii:id≠i:=fun h=>hi (h ▸ qQM)
    rw[if_neg hi,if_neg hii,←qLV]
    exact hfar'.2 i hi
 have hseq:∀id,fp=fpA s id y→t.seq y=s.seq y:=fun id hfp=>qlR e2 fun i hi=>hblk i (.inl (by rw[hfp];exact hi))
 have hk:=q9f (K:=fun r' s''=>r'=r∧s''=s1) h ⟨rfl,rfl⟩
 obtain⟨e,m,ys,q1,q2,q3,q4,q5,q6,q7,q8⟩:=hk
 simp only[qkM] at hf
 split at hf
 ·rename_i id sz off n hx
  injection hf with hf
  rw[hx] at q8
  simp only at q8
  obtain⟨p1,p2,cs0,cs,p3,p0,p4,p5,p6,p7,p8,p9,p10⟩:=q8
  refine main id (.row e sz (cs++ys)) t.nx hf.symm (fun K hK=>?_) (fun h=>by have:=hs.nx _ h;omega) p10.symm
  refine⟨e,m,ys,q1,q2,q3,q4,(hseq id hf.symm).trans q5,q6,q7,?_⟩
  rw[e1,hx]
  simp only
  refine⟨p1,p2,cs0,cs,(hblk id (.inr (by rw[←hf];exact qQM))).trans p3,p0,p4,p5,p6,p7,p8,?_⟩
  simp_all
 ·rename_i hx
  injection hf with hf
  rw[hx] at q8
  simp only at q8
  obtain⟨p1,p2,p3,p4,p5⟩:=q8
  refine main s.nx (.row e (T.sz e) ys) s.nx hf.symm (fun K hK=>?_) (fun h=>?_) p5.symm
  ·refine⟨e,m,ys,q1,q2,q3,q4,(hseq _ hf.symm).trans q5,q6,q7,?_⟩
   simp_all
  ·unfold S.live at h
   rw[hblk s.nx (.inr (by rw[←hf];exact qQM)),hnx] at h
   cases h
 ·rename_i sz n cs hx
  injection hf with hf
  rw[hx] at q8
  simp only at q8
  obtain⟨p1,p2,p3,p4,p5,p6,p7,p8⟩:=q8
  refine main s.nx (.row e (T.sz e) (cs.map C.d++ys)) s.nx hf.symm (fun K hK=>?_) (fun h=>?_) p8.symm
  ·refine⟨e,m,ys,q1,q2,q3,q4,(hseq _ hf.symm).trans q5,q6,q7,?_⟩
   simp_all
  ·unfold S.live at h
   rw[hblk s.nx (.inr (by rw[←hf];exact qQM)),hnx] at h
   cases h
 ·cases hf
theorem qge {t:S} {sel ln:List Nat} (h:∀i∈ln,t.blk i=s.blk i) (z:Nat) (x:C):cv0 t sel ln z x=cv0 s sel ln z x:=by simp_all [cv0]
theorem qcM {t:S} {sel ln:List Nat} (h:∀i∈ln,t.blk i=s.blk i):∀(xs:List C),qq6 t sel ln xs=qq6 s sel ln xs
 | []=>rfl
 | x::r=>by simp only[qq6,qge h,qcM h r]
theorem qdq {t:S} {sel ln:List Nat} (h:∀i∈ln,t.blk i=s.blk i) (z:Nat) (x:C):cv t sel ln z x=cv s sel ln z x:=by
 cases x with
 | fn f fs caps=>simp only[cv,qcM h]
 | _=>simp only[cv,qge h]
theorem q7V {t:S} {sel ln:List Nat} (h:∀i∈ln,t.blk i=s.blk i):∀(zs:List Nat) (xs:List C),cvL t sel ln zs xs=cvL s sel ln zs xs
 | zs,[]=>by rfl
 | zs,x::r=>by simp only[cvL,qdq h,q7V h _ r]
theorem q9D {t:S} {sel ln:List Nat} (h:∀i∈ln,t.blk i=s.blk i):∀(zs:List (List Nat)) (xs:List R),qng t sel ln zs xs=qng s sel ln zs xs
 | zs,[]=>by rfl
 | zs,x::r=>by
  have:∀z,cvR t sel ln z x=cvR s sel ln z x:=fun z=>by cases x<;>simp only[cvR,qdq h,q7V h]
  simp only[qng,this,q9D h _ r]
theorem qm8 {t:S} {sel:List Nat} (o:AO):cvA t sel o=cvA s sel o:=by
 have:qlj t sel=qlj s sel:=funext fun r=>by
  have hn:∀i∈([]:List Nat),t.blk i=s.blk i:=fun i hi=>by simp at hi
  unfold qlj
  congr 1
  cases r<;>simp only[cvR,qdq hn,q7V hn]
 simp_all [cvA]
theorem qc2 {t:S} {sel:List Nat}:∀(l:List Nat) (j:Nat),(∀i∈l,t.blk i=s.blk i)→cvG t sel l j=cvG s sel l j
 | [],_,_=>rfl
 | i::l,j,h=>by
  have:∀x,cvB t sel x=cvB s sel x:=fun x=>by
   cases x with
   | blk ty cs=>simp only[cvB];rw[q7V (s:=s) (t:=t) (sel:=sel) (ln:=[]) (fun i hi=>by simp at hi)]
   | ob o=>simp only[cvB];rw[qm8 (s:=s) (t:=t)]
   | _=>rfl
  simp only[cvG,this,h i qQM,qc2 l (j+1) (fun i hi=>h i (qQF _ hi))]
section ren
variable {sel:List Nat} {n n':Nat}
theorem qfI {j:Nat} (h:ren sel n j<n):∃i,sel[j]?=some i∧∀m,ren sel m j=i:=by
 unfold ren at h
 cases hs:sel[j]? with
 | none=>grind
 | some i=>exact⟨i,rfl,fun m=>by grind [ren]⟩
theorem qaR {j:Nat} (h:ren sel n j<n):ren sel n' j=ren sel n j:=by grind [qfI]
theorem qaO {x:C} (h:(x.rn0 (ren sel n)).lt0 n=true):x.rn0 (ren sel n')=x.rn0 (ren sel n):=by
 cases x with
 | ptr i o=>simp only[C.rn0,C.lt0,qRx] at h ⊢;rw[qaR h]
 | hd k i=>simp only[C.rn0,C.lt0,qRx] at h ⊢;rw[qaR h]
 | own i sz o m=>simp only[C.rn0,C.lt0,qRx] at h ⊢;rw[qaR h]
 | _=>rfl
theorem q8B {f g:C→C} {p:C→Bool} (hfg:∀x,p (f x)=true→g x=f x):∀(xs:List C),(xs.map f).all p=true→xs.map g=xs.map f
 | [],_=>rfl
 | x::r,h=>by simp_all
theorem qds {x:C} (h:(x.rn (ren sel n)).ltn n=true):x.rn (ren sel n')=x.rn (ren sel n):=by
 cases x with
 | fn f fs caps=>
  simp only[C.rn,C.ltn,qR3] at h ⊢
  grind [q8B,C.lt0,qaO]
 | ptr i o=>exact qaO (x := .ptr i o) h
 | hd k i=>exact qaO (x := .hd k i) h
 | own i sz o m=>exact qaO (x := .own i sz o m) h
 | _=>rfl
theorem q7O {x:R} (h:(x.rn0 (ren sel n)).lt0 n=true):x.rn0 (ren sel n')=x.rn0 (ren sel n):=by
 cases x with
 | c x=>grind [R.rn0,R.lt0,qds]
 | agg xs=>grind [R.rn0,R.lt0,q8B,C.ltn,qds]
 | _=>rfl
theorem qqO {x:B} (h:(x.rn (ren sel n)).ltn n=true):x.rn (ren sel n')=x.rn (ren sel n):=by
 cases x with
 | blk t cs=>grind [B.rn,B.ltn,q8B,C.ltn,qds]
 | row e sz cs=>grind [B.rn,B.ltn,q8B,C.ltn,qds]
 | ob o=>
  simp only[B.rn,B.ltn,AO.Rs_mapR] at h ⊢
  rw[AO.mapR_congr fun x hx=>q7O (qQO.1 h _ (qRi.2 ⟨x,hx,rfl⟩))]
 | dead=>rfl
theorem qsJ {x:R} (h:(x.rn (ren sel n)).ltn n=true):x.rn (ren sel n')=x.rn (ren sel n):=by
 cases x with
 | tup rs=>
  simp only[R.rn,R.ltn] at h ⊢
  congr 1
  induction rs with
  | nil=>rfl
  | cons y l ih=>
   simp only[qQU,List.all_cons,qR3] at h ⊢
   grind [q7O]
 | c x=>exact q7O (x := .c x) h
 | agg xs=>exact q7O (x := .agg xs) h
 | any=>rfl
end ren
theorem qd2 {us:List (Nat×B)} {n:Nat} (h:us.foldl (fun m u=>max m (u.1+1)) n=n):∀u∈us,u.1<n:=fun u hu=>by grind [q8A]
theorem qeZ (s:S) (X:List Nat):(s.fgL X).nx=s.nx:=by cases X<;>rfl
theorem qqq (s:S) (X:List Nat):(s.fgL X).n=s.n:=by cases X<;>rfl
theorem q4p {α:Type}:∀(l l':List (Nat×α)) (x:Nat) (z:α),lk (l++l') x z=lk l x (lk l' x z)
 | [],_,_,_=>rfl
 | (i,b)::l,l',x,z=>by
  simp only[qRD,lk]
  split
  ·rfl
  ·exact q4p l l' x z
theorem qaw (s:S) (us:List (Nat×B)) (x:Nat):(s.up us).blk x=lk us x (s.blk x):=q4p us s.hp x .dead
theorem qf4 {α:Type}:∀(l:List (Nat×α)) (x:Nat) (z z':α),(∃b,(x,b)∈l)→lk l x z=lk l x z'
 | [],x,_,_,h=>by simp_all
 | (i,c)::l,x,z,z',h=>by
  simp only[lk]
  split
  ·rfl
  ·rename_i hn
   refine qf4 l x z z' ?_
   grind
theorem q3P {α:Type}:∀(l:List (Nat×α)) (x:Nat) (z:α),(∀b,(x,b) ∉ l)→lk l x z=z
 | [],_,_,_=>rfl
 | (i,c)::l,x,z,h=>by
  simp only[lk]
  split
  ·grind
  ·exact q3P l x z (fun b hb=>h b (qQF _ hb))
theorem qea {bl rw:List Nat} {i:Nat} (h:i∈wbC s s1 bl rw):i∈bl++rw:=by
 cases rw with
 | nil=>exact qQJ _ (qRt.1 h).1
 | cons x l=>exact h
theorem qdt {bl rw:List Nat} {i:Nat} (h:i ∉ wbC s s1 bl rw) (hi:i∈bl++rw):rw=[]∧s1.blk i=s.blk i:=by
 cases rw with
 | nil=>
  rw[qQS] at hi
  refine⟨rfl,B.beq_eq ?_⟩
  cases hb:B.beq (s1.blk i) (s.blk i) with
  | true=>rfl
  | false=>exact absurd (qRt.2 ⟨hi,by rw[hb];rfl⟩) h
 | cons x l=>exact absurd hi h
theorem qbO {bl rw ln:List Nat} {fp:Fp} (h:qFi s s1 r bl rw ln=some fp):((s1.nx=s.nx∧(bl++rw).all (fun i=>(s1.blk i).ltn s.nx)=true∧r.ltn s.nx=true)∧fp=⟨bl++rw++ln,wbC s s1 bl rw,rw,qa2 s rw,[]⟩)∨fp=⟨bl++rw++ln,wbC s s1 bl rw++qav s.nx s1.nx,rw,qa2 s rw,[s.nx]⟩:=by grind [qFi]
theorem qk9 (s:S) (sel:List Nat) (k:Nat) (hp:List (Nat×B)):s.nx≤(s.aft sel k hp).nx∧∀u∈hp.map (fun x=>(ren sel s.nx x.1,x.2.rn (ren sel s.nx)))++sel.map (fun i=>(i,B.dead)),u.1<(s.aft sel k hp).nx:=by
 have h:=q8A (hp.map (fun x=>(ren sel s.nx x.1,x.2.rn (ren sel s.nx)))++sel.map fun i=>(i,B.dead)) (s.fgL (sel.drop k)).nx
 rw[qeZ] at h
 have e:(s.aft sel k hp).nx=(hp.map (fun x=>(ren sel s.nx x.1,x.2.rn (ren sel s.nx)))++sel.map fun i=>(i,B.dead)).foldl (fun m u=>max m (u.1+1)) s.nx:=by
  show List.foldl _ (s.fgL (sel.drop k)).nx _=_
  rw[qeZ]
 grind
theorem qfo {n m x:Nat} (h1:n≤x) (h2:x<m):x∈qav n m:=qRi.2 ⟨x-n,qRu.2 (by omega),by omega⟩
theorem qqo (hA:Ag P T) (hE:Snd P E) {f:Operand} {args:Array Operand} {ts:Array TypeId} (ho:o.op = .call { callee := .value f,args:=args,argTypes:=ts }) {g:FuncId} {fs caps:List C} (hfe:s.ev f = .c (.fn g fs caps))
  {rs:List R} (hrs:fs.map R.c++args.toList.map s.ev++caps.map R.c=rs) {zs:List (List Nat)} {bl rw' ln:List Nat} (h:q1T E s g zs rs bl rw' ln=some (r,s1)) :
  Loc P o s r ((wbC s s1 bl rw'++qav s.nx s1.nx).map fun x=>(x,s1.blk x)) ⟨bl++rw'++ln,wbC s s1 bl rw'++qav s.nx s1.nx,rw',qa2 s rw',[s.nx]⟩:=by
 intro cx ρ t a w next Q hev hblk hfar hltn hs hn
 have hlt2:∀x,t.live x→x<s.nx:=hltn (by simp)
 simp only at hblk hfar hn
 obtain⟨sel,hsel⟩:∃sel,sel=bl++rw':=⟨_,rfl⟩
 have hbs:∀i∈sel,t.blk i=s.blk i:=fun i hi=>hblk i (.inl (qQJ _ (hsel ▸ hi)))
 have hbl:∀i∈ln,t.blk i=s.blk i:=fun i hi=>hblk i (.inl (qQG _ hi))
 have hwb:∀x,x∈wbC s s1 bl rw'++qav s.nx s1.nx→t.blk x=s.blk x:=fun x hx=>hblk x (.inr hx)
 unfold q1T at h
 rw[←hsel] at h
 obtain⟨rs',g1,h⟩:=qQC.1 h
 obtain⟨G,g2,h⟩:=qQC.1 h
 split at h
 ·rename_i hc
  obtain⟨q,g3,h⟩:=qQC.1 h
  split at h
  ·rename_i hok
   obtain⟨rfl,rfl⟩:=q4A h
   have hX:sel.drop bl.length=rw':=by simp_all
   obtain⟨t0,ht0⟩:∃t0:S,t0={ t with nx:=s.nx }:=⟨_,rfl⟩
   have tb:∀i,t0.blk i=t.blk i:=fun i=>by rw[ht0];rfl
   have tg:∀i,t0.get i=t.get i:=fun i=>by rw[ht0];rfl
   have te:∀y,t0.ev y=t.ev y:=fun y=>by rw[ht0];rfl
   have tn:t0.nx=s.nx:=by rw[ht0]
   have hs0:Sim cx ρ t0 a w:=by
    rw[ht0]
    exact⟨hs.hd,hs.size,hs.tm,hs.hp,hs.hp0,hs.out,hs.inj,fun i hi=>hlt2 i hi,hs.kept,hs.oldF,hs.pin,hs.disj,⟨hs.ows.lt,hs.ows.one,hs.ows.new⟩⟩
   have ht:q1T E t0 g zs rs bl rw' ln=some (q.1.rn (ren sel s.nx),t0.aft sel bl.length q.2):=by
    unfold q1T
    rw[←hsel,q9D (fun i hi=>(tb i).trans (hbl i hi)),qc2 sel 0 (fun i hi=>(tb i).trans (hbs i hi)),g1,qQx,g2,qQx]
    simp_all
   have hoc:q3l P t0 g rs (fun r' s''=>r'=q.1.rn (ren sel s.nx)∧s''=t0.aft sel bl.length q.2):=qbH hE ht ⟨rfl,rfl⟩
   have hargs:∀y∈args.toList,t0.ev y=s.ev y:=fun y hy=>(te y).trans (hev y (by grind [Op.operands,Call.operands,Array.toList_append]))
   have hft:t0.ev f=s.ev f:=(te f).trans (hev f (by grind [Op.operands,Call.operands,Array.toList_append]))
   have hmap:args.toList.map t0.ev=args.toList.map s.ev:=List.map_congr_left hargs
   have hox:ox P T t0 t0.nx o.op (fun r' s''=>r'=q.1.rn (ren sel s.nx)∧s''=t0.aft sel bl.length q.2):=by grind [ox,qm2,qim]
   refine qbN hA (fun h=>by have:=hs0.nx _ h;omega) hs0 hox ?_
   rintro r'' s'' ρ' v w' ⟨rfl,rfl⟩ k1 k2
   have hfg:∀x,x ∉ sel→x ∉ qav s.nx (s.aft sel bl.length q.2).nx→(t0.fgL rw').blk x=t.blk x:=fun x hx hx2=>by
    rw[S.fgL_blk,tb]
    rcases hfar with h|h
    ·rw[if_pos h]
    grind [qea]
   refine hn ρ' (t0.aft sel bl.length q.2) v w' (fun d hd=>?_) (fun x=>?_) ?_ k1 k2
   ·show(t0.fgL (sel.drop bl.length)).get d=t.get d
    rw[hX,S.fgL_get,tg]
    rcases hfar with h|h
    ·rw[if_pos h]
    simp_all
   ·obtain⟨L,hL⟩:∃L,L=q.2.map (fun x=>(ren sel s.nx x.1,x.2.rn (ren sel s.nx)))++sel.map (fun i=>(i,B.dead)):=⟨_,rfl⟩
    have e1:(t0.aft sel bl.length q.2).blk x=lk L x ((t0.fgL rw').blk x):=by
     have:(t0.aft sel bl.length q.2).blk x=lk (q.2.map (fun x=>(ren sel t0.nx x.1,x.2.rn (ren sel t0.nx)))++sel.map (fun i=>(i,B.dead))) x ((t0.fgL (sel.drop bl.length)).blk x):=qaw _ _ x
     simp_all
    have e2:(s.aft sel bl.length q.2).blk x=lk L x ((s.fgL rw').blk x):=by
     have:(s.aft sel bl.length q.2).blk x=lk (q.2.map (fun x=>(ren sel s.nx x.1,x.2.rn (ren sel s.nx)))++sel.map (fun i=>(i,B.dead))) x ((s.fgL (sel.drop bl.length)).blk x):=qaw _ _ x
     simp_all
    obtain⟨_,hkeys⟩:=qk9 s sel bl.length q.2
    rw[←hL] at hkeys
    rw[e1,q9s]
    by_cases hk:∃b,(x,b)∈L
    ·have e3:=qf4 L x ((t0.fgL rw').blk x) ((s.fgL rw').blk x) hk
     rw[e3,←e2]
     by_cases hxw:x∈wbC s (s.aft sel bl.length q.2) bl rw'++qav s.nx (s.aft sel bl.length q.2).nx
     ·simp_all
     ·rw[if_neg hxw]
      have h1:x ∉ wbC s (s.aft sel bl.length q.2) bl rw':=fun h=>hxw (qQJ _ h)
      have h2:x ∉ qav s.nx (s.aft sel bl.length q.2).nx:=fun h=>hxw (qQG _ h)
      obtain⟨b,hb⟩:=hk
      have hlt:x<s.nx:=by grind [Nat.lt_or_ge,absurd,qfo]
      have hxs:x∈sel:=by
       rw[hL] at hb
       rcases qR1.1 hb with hb|hb
       ·grind [qfI]
       grind
      grind [qdt]
    ·have hnk:∀b,(x,b) ∉ L:=fun b hb=>hk ⟨b,hb⟩
     have hxs:x ∉ sel:=fun h=>hnk .dead (by simp_all)
     rw[q3P L x _ hnk]
     by_cases hxn:x∈qav s.nx (s.aft sel bl.length q.2).nx
     ·rw[if_pos (qQG _ hxn),e2,q3P L x _ hnk,S.fgL_blk,S.fgL_blk,tb]
      simp_all
     ·rw[hfg x hxs hxn,if_neg (fun h=>by grind [qea])]
   ·show(t0.fgL (sel.drop bl.length)).n=t.n
    rw[qqq,ht0]
  ·cases h
 ·cases h
theorem qwL (hA:Ag P T) (hE:Snd P E) {f:Operand} {args:Array Operand} {ts:Array TypeId} (ho:o.op = .call { callee := .value f,args:=args,argTypes:=ts }) {fp:Fp} (h:q3R po E s f args.toList ts.toList=some (r,s1)) (hf:fpC po s s1 r f args.toList=some fp)
  : Loc P o s r (fp.wb.map fun x=>(x,s1.blk x)) fp:=by
 intro cx ρ t a w next Q hev hblk hfar hltn hs hn
 unfold q3R at h
 unfold fpC at hf
 split at h
 ·rename_i g fs caps hfe
  rw[hfe] at hf
  simp only at hf
  by_cases hno:False
  ·simp_all
  ·generalize hrs:fs.map R.c++args.toList.map s.ev++caps.map R.c=rs at h hf
   generalize zmk (po.ow g) 0 (fs.map (fun _=>[])++ts.toList.map po.q)=zs at h
   unfold qb3 qjO at h
   unfold qA1 qCH at hf
   generalize q4Q s 60 _ _=l at h hf
   generalize List.filter _ _=ln at h hf
   generalize qhp s l=bl at h hf
   generalize q5T s l=rw' at h hf
   rcases qbO hf with ⟨⟨c1,c2,c3⟩,rfl⟩|rfl
   case inr=>exact qqo hA hE ho hfe hrs h cx ρ t a w next Q hev hblk hfar hltn hs hn
   simp only at hblk hfar hn
   obtain⟨sel,hsel⟩:∃sel,sel=bl++rw':=⟨_,rfl⟩
   have hbs:∀i∈sel,t.blk i=s.blk i:=fun i hi=>hblk i (.inl (qQJ _ (hsel ▸ hi)))
   have hbl:∀i∈ln,t.blk i=s.blk i:=fun i hi=>hblk i (.inl (qQG _ hi))
   have h0:=h
   unfold q1T at h
   rw[←hsel] at h c2
   obtain⟨rs',g1,h⟩:=qQC.1 h
   obtain⟨G,g2,h⟩:=qQC.1 h
   split at h
   ·rename_i hc
    obtain⟨q,g3,h⟩:=qQC.1 h
    split at h
    ·rename_i hok
     obtain⟨rfl,rfl⟩:=q4A h
     -- the blocks behind the call, by the text and here
     have hus:∀u∈q.2.map (fun x=>(ren sel s.nx x.1,x.2.rn (ren sel s.nx)))++sel.map (fun i=>(i,B.dead)),u.1<s.nx:=by
      refine qd2 ?_
      have:(s.aft sel bl.length q.2).nx=(q.2.map (fun x=>(ren sel s.nx x.1,x.2.rn (ren sel s.nx)))++sel.map (fun i=>(i,B.dead))).foldl (fun m u=>max m (u.1+1)) (s.fgL (sel.drop bl.length)).nx:=rfl
      grind [qeZ]
     have hX:sel.drop bl.length=rw':=by simp_all
     have hin:∀x∈q.2,ren sel s.nx x.1∈sel:=fun x hx=>by
      obtain⟨i,h1,h2⟩:=qfI (hus _ (qQJ _ (qRi.2 ⟨x,hx,rfl⟩)))
      grind
     have hlk:∀x z,lk (q.2.map (fun x=>(ren sel t.nx x.1,x.2.rn (ren sel t.nx)))++sel.map (fun i=>(i,B.dead))) x z=lk (q.2.map (fun x=>(ren sel s.nx x.1,x.2.rn (ren sel s.nx)))++sel.map (fun i=>(i,B.dead))) x z:=by
      intro x z
      have hfirst:x∈sel→(lk (q.2.map (fun x=>(ren sel s.nx x.1,x.2.rn (ren sel s.nx)))++sel.map (fun i=>(i,B.dead))) x z).ltn s.nx=true:=fun hx=>by
       have h1:=qQO.1 c2 x hx
       have h2:(s.aft sel bl.length q.2).blk x=lk (q.2.map (fun x=>(ren sel s.nx x.1,x.2.rn (ren sel s.nx)))++sel.map (fun i=>(i,B.dead))) x ((s.fgL (sel.drop bl.length)).blk x):=qaw _ _ x
       rw[h2] at h1
       rw[qf4 _ x z _ ⟨.dead,qQG _ (qRi.2 ⟨x,hx,rfl⟩)⟩];exact h1
      rw[q4p,q4p]
      have key:∀(l:List (Nat×B)) (z:B),(∀x∈l,ren sel s.nx x.1<s.nx)→(x∈sel→(lk (l.map (fun x=>(ren sel s.nx x.1,x.2.rn (ren sel s.nx)))) x z).ltn s.nx=true)→(∀y∈l,ren sel s.nx y.1∈sel)→
        lk (l.map (fun x=>(ren sel t.nx x.1,x.2.rn (ren sel t.nx)))) x z=lk (l.map (fun x=>(ren sel s.nx x.1,x.2.rn (ren sel s.nx)))) x z:=by
       intro l
       induction l with
       | nil=>simp_all
       | cons y l ih=>
        intro z hl hlt hm
        have h1:=hl y qQM
        simp only[qQU,lk,qaR (n':=t.nx) h1] at hlt ⊢
        split
        ·rename_i hx
         rw[if_pos hx] at hlt
         grind [qqO,List.mem_cons_self]
        grind
      refine key q.2 _ (fun x hx=>hus _ (qQJ _ (qRi.2 ⟨x,hx,rfl⟩))) (fun hx=>?_) hin
      grind [q4p]
     have ht:q1T E t g zs rs bl rw' ln=some (q.1.rn (ren sel s.nx),t.aft sel bl.length q.2):=by
      unfold q1T
      rw[←hsel,q9D hbl,qc2 sel 0 hbs,g1,qQx,g2,qQx]
      have hall:∀(p:Nat→B→Bool) (l:List Nat),(∀i∈l,t.blk i=s.blk i)→l.all (fun i=>p i (t.blk i))=l.all (fun i=>p i (s.blk i)):=fun p l hl=>by grind
      have e1:=hall (fun _ b=>b.live) sel hbs
      have e2:=hall (fun i b=>b.live && !sel.contains i) ln hbl
      rw[e1,e2,if_pos hc,g3,qQx,if_pos hok]
      rw[qsJ c3]
     have hoc:q3l P t g rs (fun r' s''=>r'=q.1.rn (ren sel s.nx)∧s''=t.aft sel bl.length q.2):=qbH hE ht ⟨rfl,rfl⟩
     have hargs:∀y∈args.toList,t.ev y=s.ev y:=fun y hy=>hev y (by grind [Op.operands,Call.operands,Array.toList_append])
     have hft:t.ev f=s.ev f:=hev f (by grind [Op.operands,Call.operands,Array.toList_append])
     have hmap:args.toList.map t.ev=args.toList.map s.ev:=List.map_congr_left hargs
     have hox:ox P T t t.nx o.op (fun r' s''=>r'=q.1.rn (ren sel s.nx)∧s''=t.aft sel bl.length q.2):=by grind [ox,qm2,qim]
     refine qbN hA (fun h=>by have:=hs.nx _ h;omega) hs hox ?_
     rintro r'' s'' ρ' v w' ⟨rfl,rfl⟩ k1 k2
     have hfg:∀x,x ∉ sel→(t.fgL rw').blk x=t.blk x:=fun x hx=>by
      rw[S.fgL_blk]
      rcases hfar with h|h
      ·rw[if_pos h]
      grind [qea]
     refine hn ρ' (t.aft sel bl.length q.2) v w' (fun d hd=>?_) (fun x=>?_) ?_ k1 k2
     ·show(t.fgL (sel.drop bl.length)).get d=t.get d
      rw[hX,S.fgL_get]
      rcases hfar with h|h
      ·rw[if_pos h]
      simp_all
     ·have e1:(t.aft sel bl.length q.2).blk x=lk (q.2.map (fun x=>(ren sel t.nx x.1,x.2.rn (ren sel t.nx)))++sel.map (fun i=>(i,B.dead))) x ((t.fgL (sel.drop bl.length)).blk x):=qaw _ _ x
      have e2:(s.aft sel bl.length q.2).blk x=lk (q.2.map (fun x=>(ren sel s.nx x.1,x.2.rn (ren sel s.nx)))++sel.map (fun i=>(i,B.dead))) x ((s.fgL (sel.drop bl.length)).blk x):=qaw _ _ x
      rw[e1,hlk,q9s,hX]
      by_cases hx:x∈sel
      ·have e3:=qf4 (q.2.map (fun x=>(ren sel s.nx x.1,x.2.rn (ren sel s.nx)))++sel.map (fun i=>(i,B.dead))) x ((t.fgL rw').blk x) ((s.fgL (sel.drop bl.length)).blk x) ⟨.dead,qQG _ (qRi.2 ⟨x,hx,rfl⟩)⟩
       by_cases hxw:x∈wbC s (s.aft sel bl.length q.2) bl rw'
       ·simp_all
       ·rw[if_neg hxw,e3,←e2,(qdt hxw (hsel ▸ hx)).2,hbs x hx]
      ·have hxw:x ∉ wbC s (s.aft sel bl.length q.2) bl rw':=fun h=>hx (by grind [qea])
       rw[if_neg hxw,hfg x hx]
       refine q3P _ x _ (fun b hb=>?_)
       grind
     ·show(t.fgL (sel.drop bl.length)).n=t.n
      exact qqq _ _
    ·cases h
   ·cases h
 ·simp_all
 ·cases h
end
end
noncomputable section
open Go.RowKit
def Nb (s:S):Prop:=∀i,s.live i→i<s.nx
structure Stp (P:Program) (ops:List Oper) (o:Oper) (s s':S) (x:Tx):Prop where
 run:∃b,gd ops s o.guard=some b∧(b=false→x=((.tup [],[]),⟨[],[],[],[],[]⟩))∧(b=true→Nb s→Loc P o s x.1.1 x.1.2 x.2)
 eff:qqa x.2 s→(∀d,s'.get d=if o.dst=some d then x.1.1 else if d∈x.2.ks then .any else s.get d)∧∀i,s'.blk i=lk x.1.2 i (s.blk i)
 n:s'.n=s.n
 dst:∀d,o.dst=some d→d<s.n
 us:∀u∈x.1.2,u.1∈x.2.wb
 nb:Nb s→Nb s'
 nwp:x.2.nw=[]∨x.2.nw=[s.nx]
section
variable {P:Program} {T:Ty} {po:Pol} {E:Orc} {ops:List Oper} {o:Oper} {s s':S} {x:Tx}
theorem Nb.put (h:Nb s) (d:Option Nat) (r:R):Nb (s.put d r):=fun i hi=>by
 rw[S.put_nx];refine h i ?_;unfold S.live at hi ⊢;rwa [S.put_blk] at hi
theorem quD {us:List (Nat×B)} {i:Nat} {z:B} (h:(lk us i z).live=true):(∃u∈us,u.1=i)∨z.live=true:=by
 induction us with
 | nil=>exact .inr h
 | cons y us ih=>
  obtain⟨j,b⟩:=y
  simp only[lk] at h
  split at h
  ·simp_all
  simp_all
theorem Nb.up (h:Nb s) (us:List (Nat×B)):Nb (s.up us):=fun i hi=>by
 unfold S.live at hi
 rw[qaw] at hi
 have hx:=q8A us s.nx
 rcases quD hi with ⟨u,hu,rfl⟩|h1
 ·exact hx.2 u hu
 ·exact qR7 (h i h1) hx.1
theorem Nb.fgL (h:Nb s) (X:List Nat):Nb (s.fgL X):=fun i hi=>by rw[qeZ];exact h i ((S.fgL_live s X i).1 hi)
theorem Nb.dead (h:Nb s):s.blk s.nx = .dead:=B.dead_of fun hl=>by have:=h s.nx hl;omega
theorem qr6 {s1:S} (wb:List Nat) (i:Nat) (h:i ∉ wb→s1.blk i=s.blk i):s1.blk i=lk (wb.map fun x=>(x,s1.blk x)) i (s.blk i):=by
 rw[q9s (fun x=>s1.blk x)]
 simp_all
theorem qvx {sel:List Nat} {k:Nat} {hp:List (Nat×B)} (hnx:(s.aft sel k hp).nx=s.nx) {i:Nat} (hi:i ∉ sel):(s.aft sel k hp).blk i=(s.fgL (sel.drop k)).blk i:=by
 have hus:∀u∈hp.map (fun x=>(ren sel s.nx x.1,x.2.rn (ren sel s.nx)))++sel.map (fun i=>(i,B.dead)),u.1<s.nx:=by
  refine qd2 ?_
  have:(s.aft sel k hp).nx=(hp.map (fun x=>(ren sel s.nx x.1,x.2.rn (ren sel s.nx)))++sel.map (fun i=>(i,B.dead))).foldl (fun m u=>max m (u.1+1)) (s.fgL (sel.drop k)).nx:=rfl
  rw[qeZ] at this
  omega
 have e1:(s.aft sel k hp).blk i=lk (hp.map (fun x=>(ren sel s.nx x.1,x.2.rn (ren sel s.nx)))++sel.map (fun i=>(i,B.dead))) i ((s.fgL (sel.drop k)).blk i):=qaw _ _ i
 rw[e1]
 refine q3P _ i _ (fun b hb=>?_)
 rcases qR1.1 hb with hb|hb
 ·obtain⟨y,hy,he⟩:=qRi.1 hb
  injection he with he1 he2
  obtain⟨j,h1,h2⟩:=qfI (hus _ (qQJ _ (qRi.2 ⟨y,hy,rfl⟩)))
  grind
 grind
theorem qrF {sel:List Nat} {k:Nat} {hp:List (Nat×B)} {i:Nat} (hi:i ∉ sel) (hn:i ∉ qav s.nx (s.aft sel k hp).nx):(s.aft sel k hp).blk i=(s.fgL (sel.drop k)).blk i:=by
 obtain⟨_,hkeys⟩:=qk9 s sel k hp
 have e1:(s.aft sel k hp).blk i=lk (hp.map (fun x=>(ren sel s.nx x.1,x.2.rn (ren sel s.nx)))++sel.map (fun i=>(i,B.dead))) i ((s.fgL (sel.drop k)).blk i):=qaw _ _ i
 rw[e1]
 refine q3P _ i _ (fun b hb=>?_)
 have hlt:i<s.nx:=by
  rcases Nat.lt_or_ge i s.nx with h|h
  ·exact h
  ·exact absurd (qfo h (hkeys _ hb)) hn
 rcases qR1.1 hb with hb|hb
 ·obtain⟨y,hy,he⟩:=qRi.1 hb
  injection he with he1 he2
  obtain⟨j,h1,h2⟩:=qfI (by rw[he1];exact hlt)
  grind
 grind
theorem quB {s s1:S} {r:R} {op:Op} {fp:Fp} (h:qpS po s s1 r op=some fp):fp.nw=[]∨fp.nw=[s.nx]:=by
 unfold qpS at h
 split at h
 ·grind
 ·split at h
  ·grind
  ·grind
  ·unfold qkM at h
   split at h
   ·split at h
    ·injection h with h;subst h;exact .inl rfl
    ·injection h with h;subst h;exact .inl rfl
    ·injection h with h;subst h;exact .inl rfl
    ·cases h
   ·cases h
  ·unfold fpC at h
   split at h
   ·unfold qA1 qCH at h
    rcases qbO h with ⟨_,rfl⟩|rfl
    ·simp_all
    simp_all
   ·cases h
  ·cases h
theorem S.kill_get (s:S) (ks:List Nat) (d:Nat):(s.kill ks).get d=if d∈ks then .any else s.get d:=by
 show lk (ks.map (fun d=>(d,R.any))++s.tm) d .any=_
 rw[q4p,q9s (fun _=>R.any)]
 rfl
theorem S.kill_blk (s:S) (ks:List Nat) (i:Nat):(s.kill ks).blk i=s.blk i:=rfl
theorem Sim.kill {cx:Cx} {ρ:Pl} {a:Act} {w:World} (h:Sim cx ρ s a w) (ks:List Nat):Sim cx ρ (s.kill ks) a w:=by
 refine⟨h.hd,h.size,fun i=>?_,h.hp,h.hp0,h.out,h.inj,h.nx,h.kept,h.oldF,h.pin,h.disj,⟨h.ows.lt,h.ows.one,h.ows.new⟩⟩
 show RR w _ ρ _ ((s.kill ks).get i)
 rw[S.kill_get]
 split
 ·exact .any _
 ·exact h.tm i
theorem qpQ {fp:Fp} (h:qqa fp s) (d:Nat) (hd:d ∉ fp.ks):(s.fgL fp.X).get d=s.get d:=by
 rw[S.fgL_get]
 rcases h with h|h
 ·rw[if_pos h]
 simp_all
theorem qmB {fp:Fp} (h:qqa fp s) {i:Nat} (hi:i ∉ fp.wb):(s.fgL fp.X).blk i=s.blk i:=by
 rw[S.fgL_blk]
 rcases h with h|h
 ·rw[if_pos h]
 simp_all
theorem qAN {op:Op} {g:FuncId} {rs:List R} (h:alC po s op=some (g,rs)):∃f args ts,op = .call { callee := .value f,args:=args,argTypes:=ts }∧s.ev f = .c (.fn g [] [])∧rs=args.toList.map s.ev∧rs.all R.dat=true:=by
 unfold alC at h
 grind
theorem qJ1 (hA:Ag P T) (hE:Snd P E) {g:FuncId} {rs:List R} (hc:alC po s o.op=some (g,rs)) {z n e:Nat} {cs:List C} {q:R×List (Nat×B)} (hq:E (.fn g) 0 rs []=some q) (h2:qyP q=some (z,n,e,cs)) (hnx:s.blk s.nx = .dead) :
  Loc P o s (.c (.own s.nx z 0 n)) [(s.nx,.row e z cs)] ⟨[],[s.nx],[],[],[]⟩:=by
 obtain⟨f,args,ts,ho,hf,hrs,hd⟩:=qAN hc
 intro cx ρ t a w next Q hev hblk _ _ hs hn
 have e1:t.ev f=s.ev f:=hev f (by rw[ho];simp[Op.operands,Call.operands])
 have e2:args.toList.map t.ev=args.toList.map s.ev:=List.map_congr_left fun y hy=>hev y (by rw[ho];simp only[Op.operands,Call.operands,Array.toList_append];simp_all)
 have hb:=hblk s.nx (.inr qQM)
 have hl:¬ t.live s.nx:=fun h=>by unfold S.live at h;rw[hb,hnx] at h;cases h
 unfold qyP at h2
 split at h2
 ·rename_i z0 n0 e0 z1 cs0
  split at h2
  ·rename_i hcc
   obtain⟨rfl,hcs⟩:=hcc
   injection h2 with h2
   injection h2 with i1 i2;injection i2 with i2 i3;injection i3 with i3 i4
   subst i1 i2 i3 i4
   have hac:=hE.fn g 0 rs [] _ _ hq
   have hcall:q3l P t g rs (fun r' s''=>r' = .c (.own s.nx z1 0 n0)∧s''=t.up [(s.nx,.row e0 z1 cs0)]):=q3l.fresh hac hd hcs hl ⟨rfl,rfl⟩
   have hox:ox P T t s.nx o.op (fun r' s''=>r' = .c (.own s.nx z1 0 n0)∧s''=t.up [(s.nx,.row e0 z1 cs0)]):=by
    rw[ho]
    unfold ox qm2
    exact⟨g,[],[],e1.trans hf,by grind⟩
   refine qbN hA hl hs hox ?_
   rintro r'' s'' ρ' v w' ⟨rfl,rfl⟩ g1 g2
   exact hn ρ' (t.up [(s.nx,.row e0 z1 cs0)]) v w' (fun d _=>rfl) (fun x=>S.blk_up t s.nx x _) rfl g1 g2
  ·cases h2
 ·cases h2
theorem qoJ (hA:Ag P T) (hE:Snd P E) {act:Bool} (h:xsF P T po E o act s=some (s',x)) :
  (act=false→x=((.tup [],[]),⟨[],[],[],[],[]⟩))∧(act=true→Nb s→Loc P o s x.1.1 x.1.2 x.2)∧(Nb s→Nb s')∧(qqa x.2 s→(∀d,s'.get d=if o.dst=some d then x.1.1 else if d∈x.2.ks then .any else s.get d)∧∀i,s'.blk i=lk x.1.2 i (s.blk i))∧s'.n=s.n∧(∀d,o.dst=some d→d<s.n)∧(∀u∈x.1.2,u.1∈x.2.wb)∧(x.2.nw=[]∨x.2.nw=[s.nx]):=by
 unfold xsF at h
 split at h
 ·rename_i ha
  subst ha
  cases hal:alC po s o.op with
  | some gr=>
   obtain⟨g,rs⟩:=gr
   rw[hal] at h
   have h:qEQ s o ((E (.fn g) 0 rs []).bind qyP)=some (s',x):=h
   unfold qEQ at h
   obtain⟨⟨z,n,e,cs⟩,h1,h2⟩:=qQC.1 h
   obtain⟨q,h3,h4⟩:=qQC.1 h1
   split at h2
   ·rename_i hd
    injection h2 with h2
    injection h2 with h5 h6
    subst h5 h6
    refine⟨(fun h=>by cases h),fun _ hb=>qJ1 hA hE hal h3 h4 hb.dead,fun hb=>(hb.up _).put _ _,fun hf=>⟨fun d=>?_,fun i=>?_⟩,S.put_n _ _ _,q46 hd,fun u hu=>?_,.inl rfl⟩
    ·rw[S.put_get];rfl
    ·rw[S.put_blk,S.blk_up];rfl
    simp_all
   ·cases h2
  | none=>
  rw[hal] at h
  replace h:((xo P T po E s o.op).bind fun q=>if qaN q.2 o.dst=true then(qpS po s q.2 q.1 o.op).bind fun fp=>some ((q.2.kill fp.ks).put o.dst q.1,(q.1,fp.wb.map fun x=>(x,q.2.blk x)),fp) else none)=some (s',x):=h
  obtain⟨⟨r,s1⟩,h1,h2⟩:=qQC.1 h
  simp only at h2
  split at h2
  ·rename_i hd
   obtain⟨fp,h3,h4⟩:=qQC.1 h2
   injection h4 with h4
   injection h4 with h4 h5
   subst h4 h5
   have hcore:(Nb s→Loc P o s r (fp.wb.map fun x=>(x,s1.blk x)) fp)∧(Nb s→Nb s1)∧(qqa fp s→(∀d,d ∉ fp.ks→s1.get d=s.get d)∧∀i,i ∉ fp.wb→s1.blk i=s.blk i)∧s1.n=s.n:=by
    unfold qpS at h3
    split at h3
    ·rename_i hop
     injection h3 with h3
     subst h3
     have hox:=quI hE (K:=fun r' s''=>r'=r∧s''=s1) (qlM hop) h1 ⟨rfl,rfl⟩
     obtain⟨r',us',⟨rfl,h6⟩,h7,-⟩:=qna (t:=s) hop (fun _ _=>rfl) (fun _ _=>rfl) hox
     refine⟨fun hb=>qwn hA hE hop h1 hb.dead,fun hb=>h6 ▸ hb.up us',fun _=>⟨fun d _=>by rw[←h6];rfl,fun i hi=>?_⟩,by rw[←h6];rfl⟩
     rcases h7 with rfl|⟨hal,b,rfl⟩
     ·rw[←h6];rfl
     ·rw[←h6,S.blk_up,if_neg]
      grind
    ·split at h3
     ·rename_i ty y z ho
      split at h3
      ·rename_i id off hx
       injection h3 with h3
       subst h3
       rw[ho] at h1
       have h1:q5c T s ty y z=some (r,s1):=h1
       have hloc:=qsy (P:=P) hA ho hx h1 (X:=[])
       unfold q5c at h1
       rw[hx] at h1
       simp only at h1
       split at h1
       ·split at h1
        ·obtain⟨rfl,rfl⟩:=q4A h1
         refine⟨fun _=>hloc,fun hb=>hb.up _,fun _=>⟨fun d _=>rfl,fun i hi=>?_⟩,rfl⟩
         rw[S.blk_up,if_neg]
         grind
        ·cases h1
       ·cases h1
      ·cases h3
     ·rename_i ty y z ho
      injection h3 with h3
      subst h3
      rw[ho] at h1
      have h1:qh1 T s ty y z=some (r,s1):=h1
      have hloc:=fun hb:Nb s=>qxs (P:=P) hA ho h1 hb.dead (X:=[])
      unfold qh1 at h1
      split at h1
      ·split at h1
       ·split at h1
        ·obtain⟨rfl,rfl⟩:=q4A h1
         refine⟨hloc,fun hb=>hb.up _,fun _=>⟨fun d _=>rfl,fun i hi=>?_⟩,rfl⟩
         rw[S.blk_up,if_neg]
         grind
        ·cases h1
       ·cases h1
      ·cases h1
     ·rename_i args ts ho
      obtain⟨args⟩:=args
      obtain⟨ts⟩:=ts
      rw[ho] at h1
      have h1:xCl T po E s { callee := .builtin .append,args:=⟨args⟩,argTypes:=⟨ts⟩ }=some (r,s1):=h1
      match args,ts,h1,h3,ho with
      | [y,z],[t1,t2],h1,h3,ho=>
       simp only[xCl] at h1
       split at h1
       ·rename_i ht
        have hloc:=fun hb:Nb s=>qyG (P:=P) hA ho ht h1 h3 hb.dead
        obtain⟨id,row,hfp,hs1⟩:∃id row,fp=fpA s id z∧s1=(s.fg id).up [(id,row)]:=by
         have hk:=q9f (K:=fun r' s''=>r'=r∧s''=s1) h1 ⟨rfl,rfl⟩
         obtain⟨e,m,ys,q1,q2,q3,q4,q5,q6,q7,q8⟩:=hk
         simp only[qkM] at h3
         grind
        subst hs1
        have hX:fp.X=[id]:=by rw[hfp];rfl
        refine⟨hloc,fun hb=>Nb.up (s:=s.fg id) (fun i hi=>hb i ((S.live_fg s id i).1 hi)) _,fun hf=>?_,rfl⟩
        have hf':=hf.resolve_left (by rw[hX];simp)
        rw[hX] at hf'
        refine⟨fun d hd=>?_,fun i hi=>?_⟩
        ·show(s.fg id).get d=s.get d
         rw[S.get_fg,←qJi];simp_all
        ·rw[S.blk_up,if_neg (fun h=>hi (by rw[hfp,←h];exact qQM)),S.blk_fg,←qLV]
         simp_all
       ·cases h1
     ·rename_i f args ts ho
      rw[ho] at h1
      have h1:q3R po E s f args.toList ts.toList=some (r,s1):=h1
      have hloc:=qwL (P:=P) hA hE ho h1 h3
      unfold q3R at h1
      unfold fpC at h3
      split at h1
      ·rename_i g fs caps hfe
       rw[hfe] at h3
       simp only at h3
       by_cases hno:False
       ·simp_all
       ·unfold qb3 qjO q1T at h1
        unfold qA1 qCH at h3
        generalize q4Q s 60 _ _=l at h1 h3
        generalize List.filter _ _=ln at h1 h3
        generalize qhp s l=bl at h1 h3
        generalize q5T s l=rw' at h1 h3
        have hfc:=qbO h3
        obtain⟨rs',g1,h1⟩:=qQC.1 h1
        obtain⟨G,g2,h1⟩:=qQC.1 h1
        split at h1
        ·obtain⟨q,g3,h1⟩:=qQC.1 h1
         split at h1
         ·obtain⟨rfl,rfl⟩:=q4A h1
          have hX:(bl++rw').drop bl.length=rw':=List.drop_left
          rcases hfc with ⟨⟨c1,c2,c3⟩,rfl⟩|rfl
          ·refine⟨fun _=>hloc,fun hb=>(hb.fgL _).up _,fun hf=>⟨fun d hd=>?_,fun i hi=>?_⟩,qqq _ _⟩
           ·show(s.fgL ((bl++rw').drop bl.length)).get d=s.get d
            rw[hX];exact qpQ hf d hd
           ·by_cases his:i∈bl++rw'
            ·exact(qdt hi his).2
            ·rw[qvx c1 his,hX];exact qmB hf hi
          ·refine⟨fun _=>hloc,fun hb=>(hb.fgL _).up _,fun hf=>⟨fun d hd=>?_,fun i hi=>?_⟩,qqq _ _⟩
           ·show(s.fgL ((bl++rw').drop bl.length)).get d=s.get d
            rw[hX];exact qpQ hf d hd
           ·have hi1:i ∉ wbC s (s.aft (bl++rw') bl.length q.2) bl rw':=fun h=>hi (qQJ _ h)
            by_cases his:i∈bl++rw'
            ·exact(qdt hi1 his).2
            ·rw[qrF his (fun h=>hi (qQG _ h)),hX];exact qmB hf hi
         ·cases h1
        ·cases h1
      ·simp_all
      ·cases h1
     ·cases h3
   obtain⟨k1,k2,k3,k4⟩:=hcore
   have k5:=quB h3
   refine⟨(fun h=>by cases h),fun _=>k1,fun hb=>Nb.put (s:=s1.kill fp.ks) (fun i hi=>k2 hb i hi) _ _,fun hf=>⟨fun d=>?_,fun i=>?_⟩,by rw[S.put_n];exact k4,fun d hdd=>?_,fun u hu=>?_,k5⟩
   ·rw[S.put_get,S.kill_get]
    simp_all
   ·rw[S.put_blk,S.kill_blk];exact qr6 fp.wb i ((k3 hf).2 i)
   ·have:=q46 hd d hdd;simp_all
   grind
  ·cases h2
 ·rename_i ha
  have ha:act=false:=by simp_all
  subst ha
  split at h
  ·rename_i hd
   injection h with h
   injection h with h1 h2
   subst h1 h2
   refine⟨fun _=>rfl,(fun h=>by cases h),fun hb=>hb.put _ _,fun _=>⟨fun d=>by rw[S.put_get];simp,fun i=>by rw[S.put_blk];rfl⟩,S.put_n _ _ _,q46 hd,fun u hu=>by simp at hu,.inl rfl⟩
  ·cases h
theorem qyy (hA:Ag P T) (hE:Snd P E) (h:xgF P T po E ops o s=some (s',x)):Stp P ops o s s' x:=by
 unfold xgF at h
 split at h
 ·rename_i hg
  obtain⟨h1,h2,h3,h4,h5,h6,h7,h8⟩:=qoJ hA hE h
  exact⟨⟨true,by unfold gd;rw[hg],(fun h=>by cases h),fun _ hb=>h2 rfl hb⟩,h4,h5,h6,h7,h3,h8⟩
 ·rename_i j want hg
  split at h
  ·rename_i d hd
   split at h
   ·rename_i b hb
    -- a slot laid down anew with what it holds
    have key:∀(v:Bool) (act:Bool),s.get d = .c (.d (.bool v))→(v==want)=act→xsF P T po E o act (s.put (some d) (.c (.d (.bool v))))=some (s',x)→Stp P ops o s s' x:=by
     intro v act hv hact hx
     obtain⟨h1,h2,h3,h4,h5,h6,h7,h8⟩:=qoJ hA hE hx
     have hget:∀i,(s.put (some d) (.c (.d (.bool v)))).get i=s.get i:=fun i=>by
      rw[S.put_get]
      grind
     have hev:∀y,(s.put (some d) (.c (.d (.bool v)))).ev y=s.ev y:=fun y=>by
      cases y with
      | tmp i=>exact hget i
      | _=>rfl
     have hnb:Nb s→Nb (s.put (some d) (.c (.d (.bool v)))):=fun hb=>hb.put _ _
     refine⟨⟨act,by unfold gd;simp_all,h1,fun ha hb=>?_⟩,fun hf=>?_,h5,h6,h7,fun hb=>h3 (hnb hb),by assumption⟩
     ·have hl:=h2 ha (hnb hb)
      intro cx ρ t a w next Q q1 q2 q3 q6 q4 q5
      exact hl cx ρ t a w next Q (fun y hy=>(q1 y hy).trans (hev y).symm) (fun i hi=>q2 i hi) q3 (fun h x hx=>by rw[S.put_nx];simp_all) q4 q5
     ·have hf':qqa x.2 (s.put (some d) (.c (.d (.bool v)))):=by
       rcases hf with hf|hf
       ·exact .inl hf
       ·exact .inr ⟨fun i hi=>by simp_all,fun i hi=>hf.2 i hi⟩
      obtain⟨e1,e2⟩:=h4 hf'
      exact⟨fun i=>by rw[e1,hget],fun i=>e2 i⟩
    split at h
    ·rename_i hbt
     subst hbt
     exact key true want hb (by simp_all) h
    ·rename_i hbt
     have hbf:b=false:=by simp_all
     subst hbf
     exact key false (!want) hb (by simp_all) h
   ·rename_i hb
    obtain⟨h1,h2,h3,h4,h5,h6,h7,h8⟩:=qoJ hA hE h
    exact⟨⟨false,by unfold gd;simp_all,h1,fun h=>by cases h⟩,h4,h5,h6,h7,h3,h8⟩
   ·cases h
  ·cases h
theorem qpH (hA:Ag P T) (hE:Snd P E) {A:List (List Nat)} {s0:S}:∀(m k:Nat) (l:List Oper) (s s':S) (acc:List Tx),ops.drop k=l→xdp P T po E ops A s0 m l s acc=some s'→
  ∃(Sq:Nat→S) (tx:Nat→Tx),Sq 0=s∧(∀j,j<m→∃o,ops[k+j]?=some o∧Stp P ops o (Sq j) (Sq (j+1)) (tx j))∧(okP A 0 [] (acc++(List.range m).map tx)=true∧okX ops A s0 (acc++(List.range m).map tx) 0 (acc++(List.range m).map tx)=true∧okK ops A (acc++(List.range m).map tx)=true∧okN (acc++(List.range m).map tx) 0 (acc++(List.range m).map tx)=true)∧xr P T po E ops (ops.drop (k+m)) (Sq m)=some s'
 | 0,k,l,s,s',acc,hl,h=>by
  unfold xdp at h
  split at h
  ·rename_i hc
   exact⟨fun _=>s,fun _=>((.any,[]),⟨[],[],[],[],[]⟩),rfl,fun j hj=>by omega,by simp_all,by simp_all⟩
  ·cases h
 | m+1,k,[],s,s',acc,hl,h=>by cases h
 | m+1,k,o::l,s,s',acc,hl,h=>by
  unfold xdp at h
  obtain⟨⟨s1,x⟩,h1,h2⟩:=qQC.1 h
  have hk:ops[k]?=some o:=by
   have:=List.getElem?_drop (xs:=ops) (i:=k) (j:=0)
   simp_all
  have hl':ops.drop (k+1)=l:=by
   have:=qRl (l:=ops) (i:=1) (j:=k)
   simp_all
  obtain⟨Sq,tx,g1,g2,g3,g4⟩:=qpH hA hE m (k+1) l s1 s' _ hl' h2
  refine⟨fun j=>if j=0 then s else Sq (j-1),fun j=>if j=0 then x else tx (j-1),rfl,fun j hj=>?_,?_,?_⟩
  ·cases j with
   | zero=>
    refine⟨o,hk,?_⟩
    have:=qyy hA hE h1
    simp_all
   | succ j=>
    grind
  ·have:acc++(List.range (m+1)).map (fun j=>if j=0 then x else tx (j-1))=acc++[x]++(List.range m).map tx:=by
    rw[List.range_succ_eq_map,qQU,List.map_map,qRd]
    rfl
   simp_all
  grind
end
end
noncomputable section
open Go.RowKit
def stT (ops:List Oper) (tx:Nat→Tx) (s0:S) (p:Nat→Bool):Nat→S
 | 0=>s0
 | i+1=>if p i=true then(((stT ops tx s0 p i).up (tx i).1.2).kill (tx i).2.ks).put (q8v ops i) (tx i).1.1 else stT ops tx s0 p i
section comb
variable {ops:List Oper} {tx:Nat→Tx} {s0:S}
theorem q98 {p q:Nat→Bool} {d:Nat}:∀k,(∀i,i<k→q8v ops i=some d∨d∈(tx i).2.ks→p i=q i)→(stT ops tx s0 p k).get d=(stT ops tx s0 q k).get d
 | 0,_=>rfl
 | k+1,h=>by
  have ih:=q98 k (fun i hi=>h i (by omega))
  have key:∀(p:Nat→Bool),(stT ops tx s0 p (k+1)).get d=if p k=true then(if q8v ops k=some d then(tx k).1.1 else if d∈(tx k).2.ks then .any else(stT ops tx s0 p k).get d) else(stT ops tx s0 p k).get d:=fun p=>by
   show(if p k=true then _ else _:S).get d=_
   by_cases hp:p k=true
   ·rw[if_pos hp,if_pos hp,S.put_get,S.kill_get,S.up_get]
   ·rw[if_neg hp,if_neg hp]
  rw[key,key,ih]
  by_cases hd:q8v ops k=some d∨d∈(tx k).2.ks
  ·rw[h k (by omega) hd]
  ·rw[if_neg (fun h=>hd (.inl h)),if_neg (fun h=>hd (.inr h))]
   split<;>split<;>rfl
theorem q7o {p q:Nat→Bool} {x:Nat}:∀k,(∀i,i<k→(∃b,(x,b)∈(tx i).1.2)→p i=q i)→(stT ops tx s0 p k).blk x=(stT ops tx s0 q k).blk x
 | 0,_=>rfl
 | k+1,h=>by
  have ih:=q7o k (fun i hi=>h i (by omega))
  have key:∀(p:Nat→Bool),(stT ops tx s0 p (k+1)).blk x=if p k=true then lk (tx k).1.2 x ((stT ops tx s0 p k).blk x) else(stT ops tx s0 p k).blk x:=fun p=>by
   show(if p k=true then _ else _:S).blk x=_
   split
   ·rw[S.put_blk,S.kill_blk,qaw]
   ·rfl
  rw[key,key,ih]
  by_cases hd:∃b,(x,b)∈(tx k).1.2
  ·rw[h k (by omega) hd]
  ·rw[q3P _ x _ (fun b hb=>hd ⟨b,hb⟩)]
   split<;>split<;>rfl
theorem qmF {p:Nat→Bool} {j:Nat}:∀k,j≤k→stT ops tx s0 (fun i=>p i&&decide (i<j)) k=stT ops tx s0 p j
 | 0,h=>by
  have:j=0:=by omega
  subst this;rfl
 | k+1,h=>by
  have heq:∀l,l≤j→stT ops tx s0 (fun i=>p i&&decide (i<j)) l=stT ops tx s0 p l:=by
   intro l
   induction l with
   | zero=>intro _;rfl
   | succ l ih=>
    intro hl
    unfold stT
    rw[ih (by omega)]
    have:decide (l<j)=true:=qRy (by omega)
    simp only[this,qRz]
  by_cases hj:j=k+1
  ·subst hj;exact heq _ (qQN _)
  ·have ih:=qmF (p:=p) (j:=j) k (by omega)
   have e1:∀q:Nat→Bool,stT ops tx s0 q (k+1)=if q k=true then(((stT ops tx s0 q k).up (tx k).1.2).kill (tx k).2.ks).put (q8v ops k) (tx k).1.1 else stT ops tx s0 q k:=fun _=>rfl
   rw[e1,if_neg (by simp;omega)]
   exact ih
theorem qiV {α:Type} {Pr:α→Prop} {i:Nat} {z:α} (hz:Pr z):∀{t:List (Nat×α)},(∀u∈t,u.1=i→Pr u.2)→Pr (lk t i z)
 | [],_=>hz
 | (j,x)::t,h=>by
  unfold lk
  split
  ·rename_i hj;exact h (j,x) qQM hj
  ·exact qiV hz (fun u hu=>h u (qQF _ hu))
theorem qo7 {fp:Fp} (h0:qA8 fp s0=true) (p:Nat→Bool):∀k,(∀i,i<k→p i=true→qpy ops fp i (tx i)=true)→(∀d,d ∉ fp.ks→((stT ops tx s0 p k).get d).fgL fp.X=(stT ops tx s0 p k).get d)∧∀x,x ∉ fp.wb→((stT ops tx s0 p k).blk x).fgL fp.X=(stT ops tx s0 p k).blk x
 | 0,_=>by
  simp only[qA8,qR3,qQO,qR2] at h0
  refine⟨fun d hd=>?_,fun x hx=>?_⟩
  ·refine qiV (Pr:=fun r:R=>r.fgL fp.X=r) rfl (fun u hu he=>?_)
   rcases h0.1 u hu with h|h
   ·exact absurd (by simpa using h) (he ▸ hd)
   ·exact qIZ h
  ·refine qiV (Pr:=fun r:B=>r.fgL fp.X=r) rfl (fun u hu he=>?_)
   rcases h0.2 u hu with h|h
   ·exact absurd (by simpa using h) (he ▸ hx)
   ·exact qKB h
 | k+1,h1=>by
  obtain⟨g1,g2⟩:=qo7 h0 p k (fun i hi=>h1 i (by omega))
  unfold stT
  split
  ·rename_i hp
   have hx:=h1 k (by omega) hp
   simp only[qpy,qR3,qQO,qR2] at hx
   refine⟨fun d hdk=>?_,fun x hxw=>?_⟩
   ·rw[S.put_get,S.kill_get,S.up_get]
    split
    ·rename_i hd
     rcases hx.1 with h|h
     ·exact qIZ h
     ·rw[hd] at h
      exact absurd (by simpa using h) hdk
    ·split
     ·rfl
     ·exact g1 d hdk
   ·rw[S.put_blk,S.kill_blk,qaw]
    refine qiV (Pr:=fun r:B=>r.fgL fp.X=r) (g2 x hxw) (fun u hu he=>?_)
    rcases hx.2 u hu with h|h
    ·exact absurd (by simpa using h) (he ▸ hxw)
    ·exact qKB h
  ·exact⟨g1,g2⟩
theorem qof {A:List (List Nat)} {fp:Fp} {j:Nat}:∀{l:List Tx} {i:Nat},qwZ ops A fp j i l=true→∀(k:Nat) (y:Tx),l[k]?=some y→i+k=j∨j∈A.getD (i+k) []∨qpy ops fp (i+k) y=true
 | [],i,_,k,y,hk=>by simp at hk
 | x::l,i,h,k,y,hk=>by
  simp only[qwZ,qR3,qR2,beq_iff_eq,qRc] at h
  cases k with
  | zero=>
   simp only[qQH,qRn] at hk
   subst hk
   rcases h.1 with (h|h)|h
   ·exact .inl h
   ·exact .inr (.inl h)
   ·exact .inr (.inr h)
  | succ k=>
   have:=qof h.2 k y (by simpa using hk)
   rw[show i+1+k=i+(k+1) by omega] at this
   exact this
theorem que {A:List (List Nat)} {l0:List Tx}:∀{l:List Tx} {j:Nat},okX ops A s0 l0 j l=true→∀(k:Nat) (x:Tx),l[k]?=some x→x.2.X=[]∨(qA8 x.2 s0=true∧qwZ ops A x.2 (j+k) 0 l0=true)
 | [],j,_,k,x,hk=>by simp at hk
 | y::l,j,h,k,x,hk=>by
  simp only[okX,qR3] at h
  cases k with
  | zero=>
   simp only[qQH,qRn] at hk
   subst hk
   have h1:=h.1
   split at h1
   ·rename_i he;exact .inl (by simpa using he)
   ·simp only[qR3] at h1;exact .inr h1
  | succ k=>
   have:=que h.2 k x (by simpa using hk)
   rw[show j+1+k=j+(k+1) by omega] at this
   exact this
theorem qnh {A:List (List Nat)} {j:Nat} {y:Tx}:∀{l:List Tx} {i:Nat},qwR ops A j y i l=true→∀(k:Nat) (x:Tx),l[k]?=some x→i+k<j→q82 ops (i+k) j x y=true→i+k∈A.getD j []
 | [],i,_,k,x,hk=>by simp at hk
 | z::l,i,h,k,x,hk=>by
  simp only[qwR,qR3,qR2,Bool.not_eq_true',qRc,decide_eq_false_iff_not] at h
  cases k with
  | zero=>
   simp only[qQH,qRn] at hk
   subst hk
   intro h1 h2
   rcases h.1 with (h|h)|h
   ·exact absurd h1 h
   ·rw[Nat.add_zero] at h2;rw[h] at h2;cases h2
   ·exact h
  | succ k=>
   have:=qnh h.2 k x (by simpa using hk)
   rw[show i+1+k=i+(k+1) by omega] at this
   exact this
theorem qmj {A:List (List Nat)} {l0:List Tx}:∀{l:List Tx} {j:Nat},qy4 ops A l0 j l=true→∀(k:Nat) (y:Tx),l[k]?=some y→qwR ops A (j+k) y 0 l0=true
 | [],j,_,k,y,hk=>by simp at hk
 | z::l,j,h,k,y,hk=>by
  simp only[qy4,qR3] at h
  cases k with
  | zero=>simp only[qQH,qRn] at hk;subst hk;exact h.1
  | succ k=>
   have:=qmj h.2 k y (by simpa using hk)
   rw[show j+1+k=j+(k+1) by omega] at this
   exact this
theorem qyr {A:List (List Nat)} {l:List Tx} (h:okK ops A l=true) {i j:Nat} {x y:Tx} (hij:i<j) (hx:l[i]?=some x) (hy:l[j]?=some y) (hc:q82 ops i j x y=true):i∈A.getD j []:=by
 unfold okK at h
 rw[qR2] at h
 rcases h with h|h
 ·rw[qQO] at h
  have h1:=h x (qQy hx)
  have h2:=h y (qQy hy)
  rw[List.isEmpty_iff] at h1 h2
  unfold q82 at hc
  rw[h1,h2] at hc
  cases hc
 ·have h1:=qmj h j y hy
  rw[qQV] at h1
  have h2:=qnh h1 i x hx
  rw[qQV] at h2
  exact h2 hij hc
theorem qf7 {i d:Nat} {o:Oper} (ho:ops[i]?=some o) (h:d∈q58 ops o∨o.dst=some d):(qop ops i).contains d=true:=by
 unfold qop
 rw[ho]
 simp only[qRc,qR1]
 rcases h with h|h
 ·exact .inl h
 ·exact .inr (by rw[h];simp)
theorem qla {a b:Fp} (h:a.none?=true):q6l a b=false:=by
 simp only[Fp.none?,qR3,List.isEmpty_iff] at h
 simp[q6l,h.1,h.2]
theorem qtI {A:List (List Nat)}:∀{l:List Tx} {j:Nat} {prev:List (Nat×Fp)},okP A j prev l=true→
  (∀(k:Nat) (x:Tx),l[k]?=some x→(∀q∈prev,q6l q.2 x.2=true→q.1∈A.getD (j+k) [])∧∀(i:Nat) (y:Tx),i<k→l[i]?=some y→q6l y.2 x.2=true→j+i∈A.getD (j+k) [])
 | [],j,prev,_,k,x,hk=>by simp at hk
 | x0::l,j,prev,h,k,x,hk=>by
  simp only[okP,qR3,qQO] at h
  cases k with
  | zero=>
   simp only[qQH,qRn] at hk
   subst hk
   refine⟨fun q hq hc=>?_,fun i y hi=>by omega⟩
   have h1:=h.1 q hq
   rw[if_pos hc] at h1
   simpa using h1
  | succ k=>
   obtain⟨g1,g2⟩:=qtI h.2 k x (by simpa using hk)
   have e1:j+1+k=j+(k+1):=by omega
   rw[e1] at g1 g2
   refine⟨fun q hq hc=>?_,fun i y hi hy hc=>?_⟩
   ·refine g1 q ?_ hc
    split
    ·exact hq
    ·exact qQF _ hq
   ·cases i with
    | zero=>
     simp only[qQH,qRn] at hy
     subst hy
     by_cases hn:x0.2.none?=true
     ·rw[qla hn] at hc;cases hc
     ·refine g1 (j,x0.2) ?_ hc
      rw[if_neg hn];exact qQM
    | succ i=>
     have:=g2 i y (by omega) (by simpa using hy) hc
     rw[show j+(i+1)=j+1+i by omega];exact this
end comb
section
variable {P:Program} {T:Ty} {po:Pol} {E:Orc} {cx:Cx}
theorem qDK (hA:Ag P T) (hE:Snd P E) {ops:Array Oper} {Q:Exit→Act→World→Prop} {q:Nat} {o:Oper} {s s':S} {ρ:Pl} {a:Act} {w:World} (hq:ops[q]?=some o) (hs:Sim cx ρ s a w) (h:xr P T po E ops.toList (ops.toList.drop q) s=some s') :
  wpOpIn (FW cx.ro) 0 P ops Q q (fun a' w'=>∃ρ' s1,Sim cx ρ' s1 a' w'∧xr P T po E ops.toList (ops.toList.drop (q+1)) s1=some s') a w:=by
 have hd:ops.toList.drop q=o::ops.toList.drop (q+1):=by
  have hlt:q<ops.toList.length:=by have:=(Array.getElem?_eq_some_iff.1 hq).1;simpa using this
  rw[List.drop_eq_getElem_cons hlt]
  congr 1
  have:=(Array.getElem?_eq_some_iff.1 hq).2
  simpa using this
 rw[hd] at h
 unfold xr at h
 obtain⟨s1,h1,h2⟩:=qQC.1 h
 unfold wpOpIn
 rw[hq]
 simp only
 have key:∀(s0:S) (act:Bool),Sim cx ρ s0 a w→Region.wanted o (yielded ops a.tmps)=act→xst P T po E o act s0=some s1→
   if Region.wanted o (yielded ops a.tmps)=true then o.wpIn (FW cx.ro) 0 P a w (fun a' w'=>∃ρ' s1,Sim cx ρ' s1 a' w'∧xr P T po E ops.toList (ops.toList.drop (q+1)) s1=some s') Q else(∀f,o.about P w a.eval=some f→(FW cx.ro).fn f)∧(fun a' w'=>∃ρ' s1,Sim cx ρ' s1 a' w'∧xr P T po E ops.toList (ops.toList.drop (q+1)) s1=some s') (a.put o.dst undef) w:=by
  intro s0 act h3 h4 h5
  have:=qic (next:=fun a' w'=>∃ρ' s1,Sim cx ρ' s1 a' w'∧xr P T po E ops.toList (ops.toList.drop (q+1)) s1=some s') (Q:=Q) hA hE h3 h5 (fun ρ' a' w' h6=>⟨ρ',s1,h6,h2⟩)
  rw[h4]
  split
  ·rename_i ha;rw[if_pos ha] at this;exact this
  ·rename_i ha;rw[if_neg ha] at this;exact⟨qep,this⟩
 unfold xgd at h1
 cases hi:ipA T po E s o with
 | some y=>
  rw[hi] at h1
  replace h1:y=some s1:=h1
  subst h1
  obtain⟨i1,i2⟩:=qtT (next:=fun a' w'=>∃ρ' s1,Sim cx ρ' s1 a' w'∧xr P T po E ops.toList (List.drop (q+1) ops.toList) s1=some s') (Q:=Q) hA hE hs hi (fun ρ' a' w' h6=>⟨ρ',_,h6,h2⟩)
  rw[if_pos (by unfold Region.wanted;rw[i1])]
  exact i2
 | none=>
 rw[hi] at h1
 replace h1:qhU P T po E ops.toList o s=some s1:=h1
 unfold qhU at h1
 split at h1
 ·rename_i hg
  exact key s true hs (by unfold Region.wanted;rw[hg]) h1
 ·rename_i j want hg
  split at h1
  ·rename_i d hd
   split at h1
   ·rename_i b hb
    have hgd:gd ops.toList s o.guard=some (b==want):=by unfold gd;rw[hg];simp only[hd,hb]
    have hw:=q4g hs hgd
    split at h1
    ·rename_i hbt
     subst hbt
     exact key _ want (hs.lit hb) (by rw[hw];cases want<;>rfl) h1
    ·rename_i hbf
     have hbf:b=false:=by cases b<;>simp at hbf ⊢
     subst hbf
     exact key _ (!want) (hs.lit hb) (by rw[hw];cases want<;>rfl) h1
   ·rename_i hb
    have hgd:gd ops.toList s o.guard=some false:=by unfold gd;rw[hg];simp only[hd,hb]
    exact key s false hs (q4g hs hgd) h1
   ·cases h1
  ·cases h1
theorem qmc {lim i:Nat}:∀{l:List Tx} {j:Nat},qEj lim i j l=true→∀(k:Nat) (x:Tx),l[k]?=some x→i≠j+k→∀u∈x.1.2,u.1<lim
 | [],_,_,k,x,hk=>by simp at hk
 | y::l,j,h,k,x,hk=>by
  unfold qEj at h
  rw[qR3] at h
  intro hne u hu
  cases k with
  | zero=>
   simp only[qQH,qRn] at hk
   subst hk
   have h1:=h.1
   rw[qR2] at h1
   rcases h1 with h1|h1
   ·exact absurd (by simpa using h1) hne
   ·have:=qQO.1 h1 u hu
    rwa [Nat.blt_eq] at this
  | succ k=>exact qmc h.2 k x (by simpa using hk) (by omega) u hu
theorem qua {L:List Tx}:∀{l:List Tx} {j:Nat},okN L j l=true→∀(k:Nat) (x:Tx),l[k]?=some x→∀lim,x.2.nw=[lim]→qEj lim (j+k) 0 L=true
 | [],_,_,k,x,hk=>by simp at hk
 | y::l,j,h,k,x,hk=>by
  unfold okN at h
  rw[qR3] at h
  intro lim hl
  cases k with
  | zero=>
   simp only[qQH,qRn] at hk
   subst hk
   have h1:=h.1
   rw[hl] at h1
   exact h1
  | succ k=>
   have:=qua h.2 k x (by simpa using hk) lim hl
   rwa [show j+1+k=j+(k+1) by omega] at this
theorem qIR (hA:Ag P T) (hE:Snd P E) {id:Nat} {ops:Array Oper} {Q':Exit→S→Prop} {s s':S} {m:Nat} {A:List (List Nat)} (hm:P.follows .mixedOrders=true) (hchk:qxq ops.toList m A=true)
  (h:xdp P T po E ops.toList A s m ops.toList s []=some s') (hQ:Q' .normal s'):J P cx (.region id ops true) Q' s:=by
 intro ρ a w hs
 obtain⟨Sq,tx,r0,r1,⟨r2,r3,rk,rn⟩,r4⟩:=qpH hA hE m 0 ops.toList s s' [] rfl h
 rw[qQR] at r2 r3 rk rn
 rw[qQV] at r4
 -- the checks
 simp only[qxq,qR3,qQO,qRu,qRx] at hchk
 obtain⟨⟨⟨⟨c1,c2⟩,c3⟩,c5⟩,c6⟩:=hchk
 have hlen:ops.toList.length=ops.size:=by simp
 have hget:∀(i:Nat) (o:Oper),ops[i]?=some o→ops.toList[i]?=some o:=fun i o h=>by rw[Array.getElem?_toList];exact h
 have hget':∀(i:Nat) (o:Oper),ops.toList[i]?=some o→ops[i]?=some o:=fun i o h=>by rw[Array.getElem?_toList] at h;exact h
 have hlt:∀(i:Nat) (o:Oper),ops[i]?=some o→i<ops.toList.length:=fun i o h=>by rw[hlen];exact(Array.getElem?_eq_some_iff.1 h).1
 obtain⟨An,hAn⟩:∃An,An=qLd ops.toList:=⟨_,rfl⟩
 rw[←hAn] at c1 c3 c5 c6
 have d1:∀(i:Nat) (o:Oper),ops[i]?=some o→(∀k∈q0Y o,k<i)∧∀k∈An.getD i [],k∈q0Y o∨∃d∈q0Y o,k∈An.getD d []:=fun i o ho=>by
  have:=c1 i (hlt i o ho)
  rw[hget i o ho] at this
  simp only[qR3,qQO,qRx,qR2,qRc,qRs] at this
  exact this
 have hanc:∀E,Run ops E→∀(i:Nat) (o:Oper),ops[i]?=some o→(∀k∈q0Y o,k∈E)→∀k∈An.getD i [],k∈E:=by
  intro E hr i
  induction i using Nat.strongRecOn with
  | _ i ih=>
   intro o ho hE k hk
   rcases(d1 i o ho).2 k hk with h1|⟨d,h1,h2⟩
   ·exact hE k h1
   ·have hdE:=hE d h1
    have hdl:=hr.lt d hdE
    exact ih d ((d1 i o ho).1 d h1) ops[d] (qQY hdl) (fun k' hk'=>hr.closed d hdE _ (qQY hdl) k' hk') k h2
 have hancE:∀E,Run ops E→∀j∈E,∀k∈An.getD j [],k∈E:=fun E hr j hj k hk=>by
  have hjl:=hr.lt j hj
  exact hanc E hr j ops[j] (qQY hjl) (fun k' hk'=>hr.closed j hj _ (qQY hjl) k' hk') k hk
 have hmn:m≤ops.size:=by rw[←hlen];exact c2
 have hop:∀i,i<m→∃o,ops[i]?=some o:=fun i hi=>⟨_,qQY (by omega)⟩
 have hst:∀j (o:Oper),j<m→ops[j]?=some o→Stp P ops.toList o (Sq j) (Sq (j+1)) (tx j):=fun j o hj ho=>by
  obtain⟨o',q1,q2⟩:=r1 j hj
  rw[qQV,hget j o ho] at q1
  injection q1 with q1
  subst q1;exact q2
 have htx:∀i,i<m→((List.range m).map tx)[i]?=some (tx i):=fun i hi=>by simp[hi]
 -- what meets is in order
 have cB:∀i j,i<j→j<m→q6l (tx i).2 (tx j).2=true→i∈An.getD j []:=fun i j hij hj hc=>by
  have:=(qtI r2 j (tx j) (htx j hj)).2 i (tx i) hij (htx i (by omega)) hc
  rw[qQV,qQV] at this
  have h6:=c6 j hj i this
  simpa using h6
 have cS:∀i j,i<j→j<m→qin ops.toList i j=true→i∈An.getD j []:=fun i j hij hj hc=>by
  have:=c3 j hj i hij
  simp only[qR2,Bool.not_eq_true',qRc] at this
  rcases this with h1|h1
  ·rw[hc] at h1;cases h1
  ·exact h1
 have hdst:∀(j:Nat) (o:Oper),ops[j]?=some o→q8v ops.toList j=o.dst:=fun j o ho=>by unfold q8v;rw[hget j o ho];rfl
 -- a writer and a reader of one slot; two writers of one slot
 have cS1:∀(i j:Nat) (o o':Oper) (d:Nat),i<j→j<m→ops[i]?=some o→ops[j]?=some o'→o.dst=some d→(d∈q58 ops.toList o'∨o'.dst=some d)→i∈An.getD j []:=fun i j o o' d hij hj ho ho' hd hx=>by
  refine cS i j hij hj ?_
  unfold qin
  rw[hget i o ho,hget j o' ho']
  simp only[hd,qR2,qRc,qRx]
  exact .inl hx
 have cS2:∀(i j:Nat) (o o':Oper) (d:Nat),i<j→j<m→ops[i]?=some o→ops[j]?=some o'→o'.dst=some d→d∈q58 ops.toList o→i∈An.getD j []:=fun i j o o' d hij hj ho ho' hd hx=>by
  refine cS i j hij hj ?_
  unfold qin
  rw[hget i o ho,hget j o' ho']
  simp only[hd,qR2,qRc]
  exact .inr hx
 -- far
 have hAnlt:∀(i:Nat) (o:Oper),ops[i]?=some o→∀k∈An.getD i [],k<i:=by
  intro i
  induction i using Nat.strongRecOn with
  | _ i ih=>
   intro o ho k hk
   rcases(d1 i o ho).2 k hk with h1|⟨d,h1,h2⟩
   ·exact(d1 i o ho).1 k h1
   ·have hd:=(d1 i o ho).1 d h1
    have hdl:d<ops.size:=by have:=hlt i o ho;rw[hlen] at this;omega
    have:=ih d hd ops[d] (qQY hdl) k h2
    omega
 have cK:∀i j,i<j→j<m→q82 ops.toList i j (tx i) (tx j)=true→i∈An.getD j []:=fun i j hij hj hc=>by
  have:=qyr rk hij (htx i (by omega)) (htx j hj) hc
  have h6:=c6 j hj i this
  simpa using h6
 have cK1:∀(i j:Nat) (o':Oper) (d:Nat),i<j→j<m→ops[j]?=some o'→d∈(tx i).2.ks→(d∈q58 ops.toList o'∨o'.dst=some d)→i∈An.getD j []:=fun i j o' d hij hj ho' hd hx=>by
  refine cK i j hij hj ?_
  simp only[q82,qR2,qRs]
  exact .inl ⟨d,hd,.inl (qf7 (hget j o' ho') hx)⟩
 have cK2:∀(i j:Nat) (o:Oper) (d:Nat),i<j→j<m→ops[i]?=some o→d∈(tx j).2.ks→(d∈q58 ops.toList o∨o.dst=some d)→i∈An.getD j []:=fun i j o d hij hj ho hd hx=>by
  refine cK i j hij hj ?_
  simp only[q82,qR2,qRs]
  exact .inr ⟨d,hd,qf7 (hget i o ho) hx⟩
 have cK3:∀(i j:Nat) (d:Nat),i<j→j<m→d∈(tx i).2.ks→d∈(tx j).2.ks→i∈An.getD j []:=fun i j d hij hj hd hd'=>by
  refine cK i j hij hj ?_
  simp only[q82,qR2,qRs,qRc]
  exact .inl ⟨d,hd,.inr hd'⟩
 have hfar:∀c,c<m→∀(p:Nat→Bool) (k:Nat),k≤m→(∀i,i<k→p i=true→i≠c∧c ∉ An.getD i [])→qqa (tx c).2 (stT ops.toList tx s p k):=fun c hc p k hk hp=>by
  rcases que r3 c (tx c) (htx c hc) with h1|⟨h1,h2⟩
  ·exact .inl h1
  ·refine .inr (qo7 h1 p k (fun i hi hpi=>?_))
   obtain⟨p1,p2⟩:=hp i hi hpi
   have h3:=qof h2 i (tx i) (htx i (by omega))
   rw[qQV,qQV] at h3
   rcases h3 with h3|h3|h3
   ·exact absurd h3 p1
   ·exact absurd (by simpa using c6 i (by omega) c h3) p2
   ·exact h3
 have farext:∀{fp:Fp} {t t':S},(∀d,t'.get d=t.get d)→(∀x,t'.blk x=t.blk x)→qqa fp t→qqa fp t':=fun h1 h2 h=>by
  rcases h with h|h
  ·exact .inl h
  ·exact .inr ⟨fun d hd=>by rw[h1];exact h.1 d hd,fun x hx=>by rw[h2];exact h.2 x hx⟩
 -- the text's states
 obtain⟨tp,htp⟩:∃tp:Nat→Bool,tp=fun _=>true:=⟨_,rfl⟩
 have htext:∀j,j≤m→(∀d,(Sq j).get d=(stT ops.toList tx s tp j).get d)∧(∀x,(Sq j).blk x=(stT ops.toList tx s tp j).blk x)∧(Sq j).n=s.n∧Nb (Sq j):=by
  intro j
  induction j with
  | zero=>intro _;rw[r0];exact⟨fun _=>rfl,fun _=>rfl,rfl,hs.nx⟩
  | succ j ih=>
   intro hj
   obtain⟨i1,i2,i3,i4⟩:=ih (by omega)
   obtain⟨o,ho⟩:=hop j (by omega)
   have hstp:=hst j o (by omega) ho
   obtain⟨e1,e2⟩:=hstp.eff (farext i1 i2 (hfar j (by omega) tp j (by omega) (fun i hi _=>⟨by omega,fun hj'=>by
    obtain⟨oi,hoi⟩:=hop i (by omega)
    have:=hAnlt i oi hoi j hj'
    omega⟩)))
   have hs1:stT ops.toList tx s tp (j+1)=(((stT ops.toList tx s tp j).up (tx j).1.2).kill (tx j).2.ks).put (q8v ops.toList j) (tx j).1.1:=by
    show(if tp j=true then _ else _)=_
    rw[htp,if_pos rfl]
   refine⟨fun d=>?_,fun x=>?_,hstp.n.trans i3,hstp.nb i4⟩
   ·rw[e1,hs1,S.put_get,S.kill_get,S.up_get,hdst j o ho,i1]
   ·rw[e2,hs1,S.put_blk,S.kill_blk,qaw,i2]
 -- the state behind some operations
 let pE:List Nat→Nat→Bool:=fun E i=>decide (i∈E)
 have hcut:∀j,j≤m→stT ops.toList tx s (fun i=>tp i&&decide (i<j)) m=stT ops.toList tx s tp j:=fun j hj=>qmF m hj
 have htpd:∀i j,(tp i&&decide (i<j))=decide (i<j):=fun i j=>by rw[htp];simp
 have hkeywb:∀i,i<m→∀x,(∃b,(x,b)∈(tx i).1.2)→x∈(tx i).2.wb:=fun i hi x ⟨b,hb⟩=>by
  obtain⟨o,ho⟩:=hop i hi
  exact(hst i o hi ho).us _ hb
 have htp1:∀j,stT ops.toList tx s tp (j+1)=(((stT ops.toList tx s tp j).up (tx j).1.2).kill (tx j).2.ks).put (q8v ops.toList j) (tx j).1.1:=fun j=>by
  show(if tp j=true then _ else _)=_
  rw[htp,if_pos rfl]
 -- all of the prefix done: the text's state
 have hfull:∀L ρ t a w,(∀i,i∈L↔i<m)→(∀d,t.get d=(stT ops.toList tx s (pE L) m).get d)→(∀x,t.blk x=(stT ops.toList tx s (pE L) m).blk x)→t.n=s.n→Sim cx ρ t a w→Sim cx ρ (Sq m) a w:=by
  intro L ρ t a w hL h1 h2 h3 hsim
  obtain⟨i1,i2,i3,i4⟩:=htext m (qQN _)
  have e:∀i,i<m→pE L i=(tp i&&decide (i<m)):=fun i hi=>by rw[htpd];simp[pE,hL]
  refine hsim.ext (fun d=>?_) (fun x=>?_) (i3.trans h3.symm) i4
  ·rw[i1,h1,q98 m (fun i hi _=>e i hi),hcut m (qQN _)]
  ·rw[i2,h2,q7o m (fun i hi _=>e i hi),hcut m (qQN _)]
 refine qkZ hm (fun i o ho k hk=>(d1 i o ho).1 k hk)
  (fun L a w=>∃ρ t,Sim cx ρ t a w∧(((∀i∈L,i<m)∧(∀d,t.get d=(stT ops.toList tx s (pE L) m).get d)∧(∀x,t.blk x=(stT ops.toList tx s (pE L) m).blk x)∧t.n=s.n)∨∃q,m≤q∧(∀i,i∈L↔i<q)∧xr P T po E ops.toList (ops.toList.drop q) t=some s')) ?_ ?_ ⟨ρ,s,hs.drew,.inl ⟨fun i h=>by simp at h,fun d=>?_,fun x=>?_,rfl⟩⟩
 rotate_left 2
 ·have:(stT ops.toList tx s (pE []) m).get d=(stT ops.toList tx s (fun i=>tp i&&decide (i<0)) m).get d:=q98 m (fun i _ _=>by simp[pE])
  rw[this,hcut 0 (qQX _)];rfl
 ·have:(stT ops.toList tx s (pE []) m).blk x=(stT ops.toList tx s (fun i=>tp i&&decide (i<0)) m).blk x:=q7o m (fun i _ _=>by simp[pE])
  rw[this,hcut 0 (qQX _)];rfl
 ·rintro L a w i o hr ⟨ρ,t,hsim,hcase⟩ hiL ho hdeps
  have hsuf:∀q t,m≤q→(∀j,j∈L↔j<q)→Sim cx ρ t a w→xr P T po E ops.toList (ops.toList.drop q) t=some s'→i=q→
    wpOpIn (FW cx.ro) 0 P ops (fun e a' w'=>∃s' ρ',Q' e s'∧Sim cx ρ' s' a' w') i (fun a' w'=>∃ρ t,Sim cx ρ t a' w'∧(((∀k∈i::L,k<m)∧(∀d,t.get d=(stT ops.toList tx s (pE (i::L)) m).get d)∧(∀x,t.blk x=(stT ops.toList tx s (pE (i::L)) m).blk x)∧t.n=s.n)∨∃q,m≤q∧(∀k,k∈i::L↔k<q)∧xr P T po E ops.toList (ops.toList.drop q) t=some s')) a w:=by
   intro q t hq hL hs' hv hiq
   subst hiq
   refine wpOpIn_mono (fun a' w' ⟨ρ',s'',g1,g2⟩=>?_) (qDK hA hE ho hs' hv)
   exact⟨ρ',s'',g1,.inr ⟨i+1,by omega,fun k=>by rw[qQT,hL];omega,g2⟩⟩
  have hin:i<ops.size:=(Array.getElem?_eq_some_iff.1 ho).1
  have h5:m≤i→∀j,j<i→j∈L:=fun hmi j hj=>by
   have:=c5 i (by rw[hlen];exact hin)
   simp only[qR2,qRx,qQO,qRu,qRc] at this
   rcases this with h|h
   ·omega
   ·exact hanc L hr i o ho hdeps j (h j hj)
  rcases hcase with ⟨hLm,t1,t2,t3⟩|⟨q,hq,hL,hv⟩
  ·by_cases him:i<m
   ·have hstp:=hst i o him ho
    obtain⟨q1,q2,q3,q4⟩:=htext i (by omega)
    -- before and behind
    have hbefore:∀k,i∈An.getD k []→k∈L→False:=fun k hk hkL=>hiL (hancE L hr k hkL i hk)
    have hafter:∀k,k∈An.getD i []→k∈L:=fun k hk=>hanc L hr i o ho hdeps k hk
    have hslot:∀d∈q58 ops.toList o,t.get d=(Sq i).get d:=fun d hd=>by
     rw[t1,q1,←hcut i (by omega)]
     refine q98 m (fun k hk hkd=>?_)
     rw[htpd]
     obtain⟨ok,hok⟩:=hop k hk
     rw[hdst k ok hok] at hkd
     rcases Nat.lt_trichotomy k i with h|h|h
     ·rw[qRy h]
      refine qRy (hafter k ?_)
      rcases hkd with hkd|hkd
      ·exact cS1 k i ok o d h him hok ho hkd (.inl hd)
      ·exact cK1 k i o d h him ho hkd (.inl hd)
     ·subst h;simp[pE,hiL]
     ·rw[decide_eq_false (by omega)]
      refine decide_eq_false fun hkL=>hbefore k ?_ hkL
      rcases hkd with hkd|hkd
      ·exact cS2 i k o ok d h hk ho hok hkd hd
      ·exact cK2 i k o d h hk ho hkd (.inl hd)
    have hblk:∀x,x∈(tx i).2.rb∨x∈(tx i).2.wb→t.blk x=(Sq i).blk x:=fun x hx=>by
     rw[t2,q2,←hcut i (by omega)]
     refine q7o m (fun k hk hkx=>?_)
     rw[htpd]
     have hkw:=hkeywb k hk x hkx
     rcases Nat.lt_trichotomy k i with h|h|h
     ·rw[qRy h]
      refine qRy (hafter k (cB k i h him ?_))
      simp only[q6l,qR2,qRs,qRc]
      exact .inl ⟨x,hkw,hx⟩
     ·subst h;simp[pE,hiL]
     ·rw[decide_eq_false (by omega)]
      refine decide_eq_false fun hkL=>hbefore k (cB i k h hk ?_) hkL
      simp only[q6l,qR2,qRs,qRc]
      rcases hx with hx|hx
      ·exact .inr ⟨x,hx,hkw⟩
      ·exact .inl ⟨x,hx,.inr hkw⟩
    have hev:∀y∈o.op.operands.toList,t.ev y=(Sq i).ev y:=fun y hy=>qzn (fun x hx=>hslot x (by
     unfold q58 qlY
     exact qQJ _ (List.mem_flatMap.2 ⟨y,hy,hx⟩)))
    have hgd:gd ops.toList t o.guard=gd ops.toList (Sq i) o.guard:=by
     unfold gd
     cases hgu:o.guard with
     | none=>rfl
     | some jw=>
      obtain⟨j,want⟩:=jw
      simp only
      cases hd:(ops.toList[j]?).bind (·.dst) with
      | none=>rfl
      | some d=>
       simp only
       rw[hslot d (by unfold q58;rw[hgu];exact qQG _ (by show d∈(q8v ops.toList j).toList;unfold q8v;rw[hd];simp))]
    have hnew:∀k∈i::L,k<m:=fun k hk=>by
     rcases qQT.1 hk with rfl|hk
     ·exact him
     ·exact hLm k hk
    have hdok:∀d,o.dst=some d→d<t.n:=fun d hd=>by rw[t3,←q3];exact hstp.dst d hd
    -- the state behind it
    have fin:∀(ρ':Pl) (t':S) (a':Act) (w':World),(∀d,t'.get d=if o.dst=some d then(tx i).1.1 else if d∈(tx i).2.ks then .any else t.get d)→(∀x,t'.blk x=lk (tx i).1.2 x (t.blk x))→t'.n=t.n→Sim cx ρ' t' a' w'→
      ∃ρ t,Sim cx ρ t a' w'∧(((∀k∈i::L,k<m)∧(∀d,t.get d=(stT ops.toList tx s (pE (i::L)) m).get d)∧(∀x,t.blk x=(stT ops.toList tx s (pE (i::L)) m).blk x)∧t.n=s.n)∨∃q,m≤q∧(∀k,k∈i::L↔k<q)∧xr P T po E ops.toList (ops.toList.drop q) t=some s'):=by
     intro ρ' t' a' w' g1 g2 g3 g4
     refine⟨ρ',t',g4,.inl ⟨hnew,fun d=>?_,fun x=>?_,g3.trans t3⟩⟩
     ·rw[g1]
      have eq1:o.dst=some d∨d∈(tx i).2.ks→(stT ops.toList tx s (pE (i::L)) m).get d=(stT ops.toList tx s (fun k=>tp k&&decide (k<i+1)) m).get d:=fun hdi=>q98 m (fun k hk hkd=>by
       rw[htpd]
       obtain⟨ok,hok⟩:=hop k hk
       rw[hdst k ok hok] at hkd
       rcases Nat.lt_trichotomy k i with h|h|h
       ·rw[qRy (show k<i+1 by omega)]
        refine qRy (qQF _ (hafter k ?_))
        rcases hdi with hd|hd
        ·rcases hkd with hkd|hkd
         ·exact cS1 k i ok o d h him hok ho hkd (.inr hd)
         ·exact cK1 k i o d h him ho hkd (.inr hd)
        ·rcases hkd with hkd|hkd
         ·exact cK2 k i ok d h him hok hd (.inr hkd)
         ·exact cK3 k i d h him hkd hd
       ·subst h;simp[pE]
       ·rw[decide_eq_false (by omega)]
        refine decide_eq_false fun hkL=>?_
        rcases qQT.1 hkL with h' | h'
        ·omega
        ·refine hbefore k ?_ h'
         rcases hdi with hd|hd
         ·rcases hkd with hkd|hkd
          ·exact cS1 i k o ok d h hk ho hok hd (.inr hkd)
          ·exact cK2 i k o d h hk ho hkd (.inr hd)
         ·rcases hkd with hkd|hkd
          ·exact cK1 i k ok d h hk hok hd (.inr hkd)
          ·exact cK3 i k d h hk hd hkd)
      by_cases hd:o.dst=some d
      ·rw[if_pos hd,eq1 (.inl hd),hcut (i+1) (by omega),htp1,S.put_get,hdst i o ho,if_pos hd]
      ·rw[if_neg hd]
       by_cases hdk:d∈(tx i).2.ks
       ·rw[if_pos hdk,eq1 (.inr hdk),hcut (i+1) (by omega),htp1,S.put_get,hdst i o ho,if_neg hd,S.kill_get,if_pos hdk]
       ·rw[if_neg hdk,t1]
        refine q98 m (fun k hk hkd=>?_)
        have hki:k≠i:=fun e=>by
         subst e
         rcases hkd with hkd|hkd
         ·exact hd (by rw[←hdst k o ho];exact hkd)
         ·exact hdk hkd
        simp[pE,hki]
     ·rw[g2]
      by_cases hx:∃b,(x,b)∈(tx i).1.2
      ·have hiw:=hkeywb i him x hx
       have e1:(stT ops.toList tx s (pE (i::L)) m).blk x=(stT ops.toList tx s (fun k=>tp k&&decide (k<i+1)) m).blk x:=q7o m (fun k hk hkx=>by
        rw[htpd]
        have hkw:=hkeywb k hk x hkx
        rcases Nat.lt_trichotomy k i with h|h|h
        ·rw[qRy (show k<i+1 by omega)]
         refine qRy (qQF _ (hafter k (cB k i h him ?_)))
         simp only[q6l,qR2,qRs,qRc]
         exact .inl ⟨x,hkw,.inr hiw⟩
        ·subst h;simp[pE]
        ·rw[decide_eq_false (by omega)]
         refine decide_eq_false fun hkL=>?_
         rcases qQT.1 hkL with h' | h'
         ·omega
         ·refine hbefore k (cB i k h hk ?_) h'
          simp only[q6l,qR2,qRs,qRc]
          exact .inl ⟨x,hiw,.inr hkw⟩)
       rw[e1,hcut (i+1) (by omega),htp1,S.put_blk,S.kill_blk,qaw]
       exact qf4 _ x _ _ hx
      ·rw[q3P _ x _ (fun b hb=>hx ⟨b,hb⟩),t2]
       refine q7o m (fun k hk hkx=>?_)
       have hki:k≠i:=fun e=>hx (e ▸ hkx)
       simp[pE,hki]
    obtain⟨b,hb,hf,ht⟩:=hstp.run
    unfold wpOpIn
    rw[ho]
    simp only
    cases b with
    | false=>
     rw[if_neg (by rw[q4g hsim (hgd.trans hb)];simp)]
     have hx:=hf rfl
     refine⟨qep,fin ρ (t.put o.dst (.tup [])) _ _ (fun d=>?_) (fun x=>?_) (S.put_n _ _ _) (hsim.put hdok RR.un)⟩
     ·rw[S.put_get,hx];simp
     ·rw[S.put_blk,hx];rfl
    | true=>
     rw[if_pos (q4g hsim (hgd.trans hb))]
     have hloc:=ht rfl q4
     have hnew:(tx i).2.nw≠[]→∀x,t.live x→x<(Sq i).nx:=fun hne x hx=>by
      have hnw:=hstp.nwp.resolve_left hne
      have hN:=qua rn i (tx i) (htx i him) _ hnw
      rw[qQV] at hN
      by_cases hkx:∃k,k<m∧k≠i∧∃b,(x,b)∈(tx k).1.2
      ·obtain⟨k,hk,hki,b,hb⟩:=hkx
       exact qmc hN k (tx k) (htx k hk) (by omega) _ hb
      ·have e:t.blk x=(Sq i).blk x:=by
        rw[t2,q2,←hcut i (by omega)]
        refine q7o m (fun k hk hb=>?_)
        rw[htpd]
        have hki:k=i:=by
         by_cases h:k=i
         ·exact h
         ·exact absurd ⟨k,hk,h,hb⟩ hkx
        subst hki;simp[pE,hiL]
       refine q4 x ?_
       unfold S.live at hx ⊢
       rw[←e];exact hx
     refine(hloc cx ρ t a w _ _ hev hblk (farext t1 t2 (hfar i him (pE L) m (qQN _) (fun k hk hkL=>?_))) hnew hsim ?_)
     ·have hkL:k∈L:=of_decide_eq_true hkL
      exact⟨fun e=>hiL (e ▸ hkL),fun h=>hbefore k h hkL⟩
     intro ρ' t' v w' g1 g2 g3 g4 g5
     refine fin ρ' ((t'.kill (tx i).2.ks).put o.dst (tx i).1.1) _ _ (fun d=>?_) (fun x=>?_) (by rw[S.put_n];exact g3) ((g4.kill _).put (fun d hd=>by show d<t'.n;rw[g3];exact hdok d hd) g5)
     ·rw[S.put_get,S.kill_get]
      by_cases hdk:d∈(tx i).2.ks
      ·simp only[if_pos hdk]
      ·simp only[if_neg hdk,g1 d hdk]
     ·rw[S.put_blk,S.kill_blk,g2]
   ·have hi:i=m:=by
     rcases Nat.lt_or_ge m i with h|h
     ·have:=hLm m (h5 (by omega) m h);omega
     ·omega
    have hL:∀j,j∈L↔j<m:=fun j=>⟨fun hj=>hLm j hj,fun hj=>h5 (by omega) j (by omega)⟩
    exact hsuf m _ (qQN _) hL (hfull L ρ t a w hL t1 t2 t3 hsim) r4 hi
  ·have hiq:i=q:=by
    have h1:¬ i<q:=fun h=>hiL ((hL i).2 h)
    have h2:∀j,j<i→j<q:=fun j hj=>(hL j).1 (h5 (by omega) j hj)
    rcases Nat.lt_or_ge q i with h|h
    ·have:=h2 q h;omega
    ·omega
   exact hsuf q t hq hL hsim hv hiq
 ·rintro L a w hr ⟨ρ,t,hsim,hcase⟩ hall
  rcases hcase with ⟨hLm,t1,t2,t3⟩|⟨q,hq,hL,hv⟩
  ·have hmn':ops.size≤m:=by
    rcases Nat.lt_or_ge m ops.size with h|h
    ·have:=hLm m (hall m h);omega
    ·exact h
   have hL:∀j,j∈L↔j<m:=fun j=>⟨fun hj=>hLm j hj,fun hj=>hall j (by omega)⟩
   have hd:ops.toList.drop m=[]:=qRe (by rw[hlen];exact hmn')
   rw[hd] at r4
   injection r4 with r4
   exact⟨_,ρ,hQ,r4 ▸ hfull L ρ t a w hL t1 t2 t3 hsim⟩
  ·have hqn:ops.size≤q:=by
    rcases Nat.lt_or_ge q ops.size with h|h
    ·have:=(hL q).1 (hall q h);omega
    ·exact h
   have hd:ops.toList.drop q=[]:=qRe (by rw[hlen];exact hqn)
   rw[hd] at hv
   injection hv with hv
   exact⟨_,ρ,hQ,hv ▸ hsim⟩
theorem qoI:∀{r:R},r.isA=true→r = .any
 | .any,_=>rfl
theorem qni:∀{l:List (Nat×R)},qyb l=true→∀i,lk l i .any = .any
 | [],_,i=>rfl
 | x::l,h,i=>by
  unfold qyb at h
  split at h
  ·rename_i hx
   show(if x.1=i then x.2 else lk l i .any)=_
   rw[qni h i,qoI hx]
   split<;>rfl
  ·cases h
theorem qjx:∀(l:List (Nat×R)) (i:Nat),lk (q7a l) i .any=lk l i .any
 | [],i=>rfl
 | x::l,i=>by
  unfold q7a
  have ih:=qjx l i
  have e:lk (x::q7a l) i .any=lk (x::l) i .any:=by
   show(if x.1=i then x.2 else lk (q7a l) i .any)=(if x.1=i then x.2 else lk l i .any)
   rw[ih]
  split
  ·rename_i hx
   split
   ·rename_i hl
    show R.any=(if x.1=i then x.2 else lk l i .any)
    rw[qni hl i,qoI hx]
    split<;>rfl
   ·exact e
  ·exact e
theorem Sim.strip {cx:Cx} {ρ:Pl} {s:S} {a:Act} {w:World} (h:Sim cx ρ s a w):Sim cx ρ s.strip a w:=
 ⟨h.hd,h.size,fun i=>by
  show RR w s.live ρ _ (lk (q7a s.tm) i .any)
  rw[qjx]
  exact h.tm i,h.hp,h.hp0,h.out,h.inj,h.nx,h.kept,h.oldF,h.pin,h.disj,⟨h.ows.lt,h.ows.one,h.ows.new⟩⟩
theorem qGW (hA:Ag P T) (hm:P.follows .mixedOrders=true):DOk P po (D1 P T po):=fun _ _ _ hE _ _ _ _ _ _ _ hq h hQ ρ a w hs=>by
 obtain⟨s1,h1,h2⟩:=qQC.1 h
 obtain⟨ρ',h3⟩:=hs.tkD h1
 exact qIR hA hE hm hq h2 hQ ρ' a w h3.strip
end
section
variable {P:Program} {T:Ty} {po:Pol}
theorem qaT {E E':Orc} (hE:OLe E E') {o:Oper} {act:Bool} {s:S} {x:S×Tx} (h:xsF P T po E o act s=some x):xsF P T po E' o act s=some x:=by
 unfold xsF at h ⊢
 by_cases hc:act=true
 ·rw[if_pos hc] at h ⊢
  cases hal:alC po s o.op with
  | some gr=>rw[hal] at h;exact Q9 (fun _ h=>Q9 (fun _ h=>hE _ _ _ _ _ h) (fun _ _ h=>h) h) (fun _ _ h=>h) h
  | none=>rw[hal] at h;exact Q9 (fun _ h=>qpJ hE h) (fun _ _ h=>h) h
 ·rw[if_neg hc] at h ⊢;exact h
theorem qrV {E E':Orc} (hE:OLe E E') {ops:List Oper} {o:Oper} {s:S} {x:S×Tx} (h:xgF P T po E ops o s=some x):xgF P T po E' ops o s=some x:=by
 unfold xgF at h ⊢
 split at h
 ·exact qaT hE h
 ·split at h
  ·split at h
   ·split at h
    ·rename_i hb;rw[if_pos hb];exact qaT hE h
    ·rename_i hb;rw[if_neg hb];exact qaT hE h
   ·exact qaT hE h
   ·cases h
  ·cases h
theorem qjt {E E':Orc} (hE:OLe E E') {ops:List Oper} {A:List (List Nat)} {s0:S}:∀(m:Nat) (l:List Oper) (s s':S) (acc:List Tx),xdp P T po E ops A s0 m l s acc=some s'→xdp P T po E' ops A s0 m l s acc=some s'
 | 0,l,s,s',acc,h=>by
  unfold xdp at h ⊢
  split at h
  ·rename_i hc;rw[if_pos hc];exact qhb hE l h
  ·cases h
 | _+1,[],_,_,_,h=>by cases h
 | m+1,o::l,s,s',acc,h=>Q9 (fun _ h=>qrV hE h) (fun _ _ h=>qjt hE m l _ _ _ h) h
theorem q4L:qel (D1 P T po):=fun _ _ hE _ _ _ _ _ _ h=>Q9 (fun _ h=>h) (fun _ _ h=>qjt hE _ _ _ _ _ h) h
section
variable {D:DRs} (hM:qel D)
include hM
theorem qaQ {o:Oper} {act:Bool} {s:S}:∀x,xsF P T po (EE P T po D) o act s=some x→∃n,∀m,n≤m→xsF P T po (xf P T po D m) o act s=some x:=fun x h=>by
 unfold xsF at h ⊢
 by_cases hc:act=true
 ·simp only[if_pos hc] at h ⊢
  cases hal:alC po s o.op with
  | some gr=>rw[hal] at h;exact Qo (fun a h=>Qo (qbP hM) (fun _=>QE) h) (fun _=>QE) h
  | none=>rw[hal] at h;exact Qo (qmz hM) (fun _=>QE) h
 ·simp only[if_neg hc] at h ⊢;exact⟨0,fun _ _=>h⟩
theorem qry {ops:List Oper} {o:Oper} {s:S}:∀x,xgF P T po (EE P T po D) ops o s=some x→∃n,∀m,n≤m→xgF P T po (xf P T po D m) ops o s=some x:=fun x h=>by
 unfold xgF at h ⊢
 split at h
 ·exact qaQ hM _ h
 ·split at h
  ·split at h
   ·split at h
    ·rename_i hb;simp only[if_pos hb];exact qaQ hM _ h
    ·rename_i hb;simp only[if_neg hb];exact qaQ hM _ h
   ·exact qaQ hM _ h
   ·cases h
  ·cases h
theorem qjK {ops:List Oper} {A:List (List Nat)} {s0:S}:∀(k:Nat) (l:List Oper) (s:S) (acc:List Tx) (x:S),xdp P T po (EE P T po D) ops A s0 k l s acc=some x→∃n,∀m,n≤m→xdp P T po (xf P T po D m) ops A s0 k l s acc=some x
 | 0,l,s,acc,x,h=>by
  unfold xdp at h ⊢
  split at h
  ·rename_i hc;simp only[if_pos hc];exact qgD hM l s x h
  ·cases h
 | _+1,[],_,_,_,h=>by cases h
 | k+1,o::l,s,acc,x,h=>Qo (qry hM) (fun q b h=>qjK k l q.1 _ b h) h
end
theorem qdS:qCG P T po (D1 P T po):=fun f k id ops s s' h=>by
 obtain⟨s1,h1,h2⟩:=qQC.1 h
 obtain⟨n,hn⟩:=qjK q4L _ _ _ _ _ h2
 exact⟨n,qQC.2 ⟨s1,h1,hn n (qQN n)⟩⟩
end
def zN (k:Nat):Code→Option Code
 | .loop c=>if zt c=k then some c else zN k c
 | .seq a b=>(zN k a).or (zN k b)
 | .cond _ a b=>(zN k a).or (zN k b)
 | .block _ c=>zN k c
 | .scope c=>zN k c
 | .rangeFunc _ _ a b=>(zN k a).or (zN k b)
 | _=>none
def roundOf (k:Nat):Code→Option (Code×Code)
 | .rangeFunc _ _ a b=>if zt b=k then some (a,b) else none
 | .loop c=>roundOf k c
 | .seq a b=>(roundOf k a).or (roundOf k b)
 | .cond _ a b=>(roundOf k a).or (roundOf k b)
 | .block _ c=>roundOf k c
 | .scope c=>roundOf k c
 | _=>none
end
noncomputable section
open Go.RowKit
def qq9:Operand := .const (.slice none 0 0)
def qgb (t bt:TypeId):Code:=
 (Code.region 0 #[{ dst:=some 2,op := .assign qq9,type:=t,pos := "slices.go:355", after:=#[],guard:=none }] false).seq
  (((Code.region 1 #[{ dst:=some 3,op := .move (.tmp 0),type:=t,pos := "slices.go:357", after:=#[],guard:=none },
    { dst:=some 4,op := .binOp .eql t (.tmp 3) qq9 t,type:=bt,pos := "slices.go:357", after:=#[{ on:=0,ground := .data }],guard:=none }] false).seq
   (Code.cond (.tmp 4) ((Code.region 2 #[{ dst:=some 2,op := .assign qq9,type:=t,pos := "slices.go:358", after:=#[],guard:=none }] false).seq Code.ret) Code.skip)).seq
   ((Code.region 3 #[{ dst:=some 5,op := .buildSlice t 0 #[],type:=t,pos := "slices.go:362", after:=#[],guard:=none },
     { dst:=some 6,op := .move (.tmp 0),type:=t,pos := "slices.go:362", after:=#[],guard:=none },
     { dst:=some 7,op := .call { callee := .builtin .append,args:=#[.tmp 5,.tmp 6],argTypes:=#[t,t] },type:=t,pos := "slices.go:362", after:=#[{ on:=0,ground := .data },{ on:=1,ground := .data }],guard:=none },
     { dst:=some 2,op := .assign (.tmp 7),type:=t,pos := "slices.go:362", after:=#[{ on:=2,ground := .data },{ on:=2,ground := .chain },{ on:=0,ground := .phase },{ on:=1,ground := .phase },{ on:=2,ground := .phase }],guard:=none }] false).seq
    Code.ret))
section
variable {P:Program} {T:Ty} {cx:Cx} {ρ:Pl} {s:S} {a:Act} {w:World}
def po1 (z:Nat) (ro:Bool:=false):Pol:={ q:=fun _=>[z],ow:=fun _=>[],fz:=fun _=>false,kp:=fun _ _=>[],kx:=fun _ _=>[],rw:=fun _ _=>[],ro:=fun _=>ro,dm:=fun _ _=>0,an:=fun _ _=>[],rk:=fun _ _=>[],pr:=fun _=>none,ab:=fun _=>false,qo:=fun _=>[],tk:=fun _=>none }
def E0:Orc:=fun _ _ _ _=>none
theorem qEd:Snd P E0:=⟨fun _ _ _ _ _ _ h=>(by cases h),fun _ _ _ _ _ _ _ _ h=>(by cases h)⟩
theorem qGx {q:Nat→List Oper→Bool} {k:Nat}:qFm P q k (fun _ _ _=>none):=fun _ _ _ _ _ _ _ _ h=>by cases h
def XD0 (P:Program) (T:Ty) (z:Nat) (c:Code) (s:S):XS:=XD P T (po1 z) E0 (fun _ _ _=>none) (iter 0) 0 0 c s
theorem qd7 (hA:Ag P T) {z:Nat} {c:Code} {s s':S} {e:Exit} {Q:Exit→S→Prop} (hq:q6A (fun _ _=>false) false c=true) (hk:cx.k=0) (h:XD0 P T z c s=some (e,s')) (hQ:Q e s'):J P cx c Q s:=
 qsO (n:=0) hA qEd qGx c s s' e cx Q hq hk (fun h=>by cases h) h hQ
theorem J.nilTest (hA:Ag P T) {id:Nat} {m o:Oper} {x d:Nat} {t t' e:TypeId} {sz n:Nat} {ds:List D} {Q:Exit→S→Prop} (hm:m.op = .move (.tmp x)) (hmg:m.guard=none) (hmd:m.dst=some d) (ho:o.op = .binOp .eql t (.tmp d) qq9 t') (hog:o.guard=none)
  (hk:T.k t = .sl e) (hx:s.get x = .c (.d (.sl sz n ds))) (hd:d<s.n) (hod:∀d',o.dst=some d'→d'<s.n)
  (hQ:∀b:Bool,(b=true→n=0∧ds=[])→Q .normal ((s.put (some d) (.c (.d (.sl sz n ds)))).put o.dst (.c (.d (.bool b))))):J P cx (.region id #[m,o] false) Q s:=by
 intro ρ a w hs
 refine wpIn_region_list ?_
 show wpListIn (FW cx.ro) 0 P #[m,o] _ [m,o] a w
 unfold wpListIn
 rw[if_pos (by unfold Region.wanted;rw[hmg])]
 have h1:ox P T s s.nx m.op (fun r s'=>r=s.get x∧s'=s):=by rw[hm];exact⟨rfl,rfl⟩
 refine qbN hA (fun h=>by have:=hs.nx _ h;omega) hs h1 ?_
 rintro r s2 ρ1 v w1 ⟨rfl,rfl⟩ hs1 hv
 have hs2:=hs1.put (dst:=m.dst) (fun d' hd'=>by rw[hmd] at hd';injection hd' with hd';rw[←hd'];exact hd) hv
 rw[hmd,hx] at hs2
 unfold wpListIn
 rw[if_pos (by unfold Region.wanted;rw[hog])]
 obtain⟨d0,i,z,ht⟩:=hA.at_ (t:=t) (by rw[hk];simp)
 have hkd:=q4K (ht.kd.trans hk)
 subst hkd
 rw[hx] at hv
 obtain⟨A,cap,q1,q2,q3,q4,q5,q6⟩:=hv.inv_sl
 refine qHL cx.ro ?_ (fun c hc=>by rw[ho] at hc;cases hc)
 have hev:(a.put m.dst v).eval (.tmp d)=v:=by
  rw[hmd]
  show(a.tmps.setIfInBounds d v).getD d undef=v
  have hlt:d<a.tmps.size:=by rw[hs1.size];exact hd
  simp[qQD,hlt]
 have he:execOp (a.put m.dst v).eval o=(do pure (.value (←(do eqGuard .eql t (.tmp d) qq9 ((a.put m.dst v).eval (.tmp d)) ((a.put m.dst v).eval qq9);binOp .eql t ((a.put m.dst v).eval (.tmp d)) ((a.put m.dst v).eval qq9))))):=by unfold execOp;simp only[ho]
 have hr:(do eqGuard .eql t (.tmp d) qq9 ((a.put m.dst v).eval (.tmp d)) ((a.put m.dst v).eval qq9);binOp .eql t ((a.put m.dst v).eval (.tmp d)) ((a.put m.dst v).eval qq9):Sem Value).run P w1 = .ok (.bool A.isNone) w1:=by
  rw[hev,q1,eqGuard_at_slice]
  show(do binOp .eql t (.slice A n cap) (.slice none 0 0):Sem Value).run P w1=_
  simp only[binOp,Sem.run_bind]
  unfold Op.equal Op.maxDepth Op.equalIn
  simp only[Sem.run_bind,run_underlying ht.ud,Result.andThen_ok]
  cases A<;>rfl
 refine zP he hr ?_
 unfold wpListIn
 rw[hmd]
 refine⟨_,ρ1,hQ A.isNone (fun hb=>?_),hs2.put hod (.c _ _ (.d _ _ (.bool _)))⟩
 rcases q6 with q6|⟨b,off,f,q6,-⟩
 ·subst q6
  rw[Nat.zero_mul] at q5
  exact⟨rfl,qQQ q5⟩
 ·rw[q6] at hb;cases hb
theorem qqC (hA:Ag P T) {f:FuncId} {fn:Func} {t e bt:TypeId} (hf:P.funcs[f]?=some fn) (hb:fn.body=some (qgb t bt)) (hname:(fn.name == "runtime.NumGoroutine")=false) (hn:fn.ntmps=8) (hr:fn.results.toList=[.tmp 2])
  (hk:T.k t = .sl e) (he:T.k e ≠ .other) (hz:0<T.sz e) (hzl:(T.zero e).length=T.sz e) {n:Nat} {ds:List D} (hl:ds.length=n*T.sz e) (hm1:n≤maxLen) (hm2:n*T.by_ e≤140737488355328) :
  AC P f [.c (.d (.sl (T.sz e) n ds))] [] 0 fun r hp=>r = .c (.d (.sl (T.sz e) n ds))∧hp=[]:=by
 refine AC.enter2 hA hf hb hname (by rw[hn];show(1:Nat)≤8;omega) (fun cx hk0 hro=>?_)
 rw[hn,hr]
 have fin:∀(s:S) (r:R),s.get 2=r→qcp (po1 (T.sz e)) 0 0 [t] s [r]=some (.c (.d (.sl (T.sz e) n ds)),[])→∃rs,rvs T s [.tmp 2]=some rs∧
   ∀ρ a w,Sim cx ρ s a w→∃rs' hp' nx' ρ',(one rs' = .c (.d (.sl (T.sz e) n ds))∧hp'=[])∧Sim cx ρ' (q0x hp' nx') qcH w∧rs'.length=rs.length∧∀(j:Nat) (r r':R) (v:Value),rs[j]?=some r→rs'[j]?=some r'→RR w s.live ρ v r→RR w (q0x hp' nx').live ρ' v r':=by
  intro s r hr h
  refine⟨[r],by simp[rvs,qxl,hr],fun ρ a w hs=>?_⟩
  obtain⟨rs',nx',ρ',g1,g2,g3,g4⟩:=qaF hk0 h hs
  exact⟨rs',[],nx',ρ',⟨g1.symm,rfl⟩,g2,g3,g4⟩
 unfold qgb
 refine J.seq (qd7 (z:=T.sz e) hA (by rfl) hk0 (s':=⟨[(2,.c .nils),(0,.c (.d (.sl (T.sz e) n ds)))],[],0,8⟩) (e := .normal) (by rfl) ?_)
 refine J.seq (J.seq (J.nilTest hA rfl rfl rfl rfl rfl hk (by rfl) (by show(3:Nat)<8;omega) (fun d' h=>by injection h with h;subst h;show(4:Nat)<8;omega) (fun b hb0=>?_)))
 cases b with
 | true=>
  obtain⟨rfl,rfl⟩:=hb0 rfl
  refine J.cond (by rfl) (fun _=>?_) (fun h=>by cases h)
  refine qd7 (z:=T.sz e) hA (by rfl) hk0 (s':=⟨[(2,.c .nils),(4,.c (.d (.bool true))),(3,.c (.d (.sl (T.sz e) 0 []))),(2,.c .nils),(0,.c (.d (.sl (T.sz e) 0 [])))],[],0,8⟩) (e := .ret) (by rfl) ?_
  refine⟨.inr rfl,fin _ _ rfl ?_⟩
  have hz0:T.sz e≠0:=by omega
  simp[qcp,ql4,qcs,qhM,po1,q5T,R.rows,C.rows,C.rows0,S.frz,qcv,qkT,dzR,dz,one,q4Q,rng,R.refs,C.refs,C.ref0,cnR,qoF,cn,cn0,cnH,S.get,lk,hz0,S.blk,B.isBlk,R.ptrs,S.frz1,fzR,qq5,fz,fz0,fzB,vis,q5J,hl,List.eraseDups_cons,pos,B.cells]
 | false=>
  refine J.cond (by rfl) (fun h=>by cases h) (fun _=>?_)
  refine J.skip ?_
  have hall:(ds.map C.d).all C.known=true:=by rw[List.all_map];exact qQO.2 fun x _=>rfl
  have hfar:(ds.map C.d).all (C.far 0)=true:=by rw[List.all_map];exact qQO.2 fun x _=>rfl
  have hdat:(ds.map C.d).all C.dat=true:=by rw[List.all_map];exact qQO.2 fun x _=>rfl
  have hfg:(ds.map C.d).map (C.fg 0)=ds.map C.d:=by rw[List.map_map];rfl
  refine qd7 (z:=T.sz e) hA (by rfl) hk0 (s':=⟨[(2,.c (.own 0 (T.sz e) 0 n)),(7,.c (.own 0 (T.sz e) 0 n)),(6,.c (.d (.sl (T.sz e) n ds))),(5,.c .any),(4,.c (.d (.bool false))),(3,.c (.d (.sl (T.sz e) n ds))),(2,.c .nils),(0,.c (.d (.sl (T.sz e) n ds)))],[(0,.row e (T.sz e) (ds.map C.d)),(0,.row e (T.sz e) [])],1,8⟩) (e := .ret) ?_ ?_
  ·simp[XD0,XD,xr,xgd,qhU,qrw,ipA,ipS,ipF,ipX,qtm,ldO,stO,xst,pre,qEA,qbF,q5T,R.rows,S.frz,xo,xCl,q1Y,bld,q7n,tkw,S.seq,S.ev,S.get,lk,S.put,S.up,S.fg,R.fg,C.fg,B.fg,S.blk,hk,he,hz,hzl,hl,hm1,hm2,hall,hfar,qaN,sqD,q43,tt,C.known,C.far]
  ·refine⟨.inr rfl,fin _ _ rfl ?_⟩
   have hz0:T.sz e≠0:=by omega
   simp[qcp,ql4,qcs,qhM,po1,q5T,R.rows,C.rows,C.rows0,S.frz,qcv,qkT,dzR,dz,one,q4Q,rng,R.refs,C.refs,C.ref0,cnR,qoF,cn,cn0,cnH,S.get,lk,hz0,S.blk,B.isBlk,R.ptrs,S.frz1,fzR,qq5,fz,fz0,fzB,vis,q5J,hl,List.eraseDups_cons,pos,B.cells]
theorem qmY (hA:Ag P T) {f:FuncId} {fn:Func} {t e bt:TypeId} (hf:P.funcs[f]?=some fn) (hb:fn.body=some (qgb t bt)) (hname:(fn.name == "runtime.NumGoroutine")=false) (hn:fn.ntmps=8) (hr:fn.results.toList=[.tmp 2])
  (hk:T.k t = .sl e) (he:T.k e ≠ .other) (hz:0<T.sz e) (hzl:(T.zero e).length=T.sz e) {n:Nat} {ds:List D} (hl:ds.length=n*T.sz e) (hm1:n≤maxLen) (hm2:n*T.by_ e≤140737488355328) :
  AC P f [.c (.d (.sl (T.sz e) n ds))] [] 0 fun r hp=>r = .c (.own 0 (T.sz e) 0 n)∧hp=[(0,.row e (T.sz e) (ds.map C.d))]:=by
 refine AC.enter2 hA hf hb hname (by rw[hn];show(1:Nat)≤8;omega) (fun cx hk0 hro=>?_)
 rw[hn,hr]
 have fin:∀(s:S) (r:R),s.get 2=r→qcp (po1 (T.sz e) true) 0 0 [t] s [r]=some (.c (.own 0 (T.sz e) 0 n),[(0,.row e (T.sz e) (ds.map C.d))])→∃rs,rvs T s [.tmp 2]=some rs∧
   ∀ρ a w,Sim cx ρ s a w→∃rs' hp' nx' ρ',(one rs' = .c (.own 0 (T.sz e) 0 n)∧hp'=[(0,.row e (T.sz e) (ds.map C.d))])∧Sim cx ρ' (q0x hp' nx') qcH w∧rs'.length=rs.length∧∀(j:Nat) (r r':R) (v:Value),rs[j]?=some r→rs'[j]?=some r'→RR w s.live ρ v r→RR w (q0x hp' nx').live ρ' v r':=by
  intro s r hr h
  refine⟨[r],by simp[rvs,qxl,hr],fun ρ a w hs=>?_⟩
  obtain⟨rs',nx',ρ',g1,g2,g3,g4⟩:=qaF hk0 h hs
  exact⟨rs',_,nx',ρ',⟨g1.symm,rfl⟩,g2,g3,g4⟩
 unfold qgb
 refine J.seq (qd7 (z:=T.sz e) hA (by rfl) hk0 (s':=⟨[(2,.c .nils),(0,.c (.d (.sl (T.sz e) n ds)))],[],0,8⟩) (e := .normal) (by rfl) ?_)
 refine J.seq (J.seq (J.nilTest hA rfl rfl rfl rfl rfl hk (by rfl) (by show(3:Nat)<8;omega) (fun d' h=>by injection h with h;subst h;show(4:Nat)<8;omega) (fun b hb0=>?_)))
 cases b with
 | true=>
  obtain⟨rfl,rfl⟩:=hb0 rfl
  refine J.cond (by rfl) (fun _=>?_) (fun h=>by cases h)
  refine qd7 (z:=T.sz e) hA (by rfl) hk0 (s':=⟨[(2,.c .nils),(4,.c (.d (.bool true))),(3,.c (.d (.sl (T.sz e) 0 []))),(2,.c .nils),(0,.c (.d (.sl (T.sz e) 0 [])))],[],0,8⟩) (e := .ret) (by rfl) ?_
  refine⟨.inr rfl,[.c .nils],rfl,fun ρ a w hs=>?_⟩
  obtain⟨ids,nx',ρ',g1,g2,g3⟩:=qjW (rs:=[]) (r' := .tup []) (hp':=[]) hk0 rfl hs
  obtain⟨ρ2,g4,g5⟩:=Sim.rerow (id:=0) (w':=w) (v := .slice none 0 0) (v' := .slice none 0 0) (e:=e) (sz:=T.sz e) (n:=0) (cs:=[]) (us:=[]) g2 (.inr ⟨rfl,fun h=>by unfold S.live S.blk q0x at h;simp[lk,B.live] at h⟩) (World.grownBy.refl w _) (.inl rfl) ⟨by simp,.inl ⟨rfl,rfl⟩⟩ hz (by simp) (by rw[hk0];omega) (fun j c hj=>by simp at hj) (fun j c u hj=>by simp at hj)
  have hblk:∀i,(q0x [(0,B.row e (T.sz e) [])] 1).blk i=(((q0x [] nx').fg 0).up [(0,B.row e (T.sz e) [])]).blk i:=fun i=>rfl
  have hlive:(q0x [(0,B.row e (T.sz e) [])] 1).live=(((q0x [] nx').fg 0).up [(0,B.row e (T.sz e) [])]).live:=by funext i;unfold S.live;rw[hblk]
  refine⟨[.c (.own 0 (T.sz e) 0 0)],[(0,B.row e (T.sz e) [])],1,ρ2,⟨rfl,rfl⟩,g4.ext (fun i=>rfl) hblk rfl (fun i hi=>?_),rfl,fun j r r' v hj hj' hv=>?_⟩
  ·unfold S.live S.blk q0x at hi
   show i<1
   rcases Nat.lt_or_ge i 1 with h|h
   ·exact h
   ·simp[lk,show ¬ 0=i by omega,B.live] at hi
  ·cases j with
   | zero=>
    simp only[qQH,qRn] at hj hj'
    subst hj hj'
    rw[hv.inv_nils,hlive]
    exact g5
   | succ j=>simp at hj
 | false=>
  refine J.cond (by rfl) (fun h=>by cases h) (fun _=>?_)
  refine J.skip ?_
  have hall:(ds.map C.d).all C.known=true:=by rw[List.all_map];exact qQO.2 fun x _=>rfl
  have hfar:(ds.map C.d).all (C.far 0)=true:=by rw[List.all_map];exact qQO.2 fun x _=>rfl
  have hdat:(ds.map C.d).all C.dat=true:=by rw[List.all_map];exact qQO.2 fun x _=>rfl
  have hfg:(ds.map C.d).map (C.fg 0)=ds.map C.d:=by rw[List.map_map];rfl
  refine qd7 (z:=T.sz e) hA (by rfl) hk0 (s':=⟨[(2,.c (.own 0 (T.sz e) 0 n)),(7,.c (.own 0 (T.sz e) 0 n)),(6,.c (.d (.sl (T.sz e) n ds))),(5,.c .any),(4,.c (.d (.bool false))),(3,.c (.d (.sl (T.sz e) n ds))),(2,.c .nils),(0,.c (.d (.sl (T.sz e) n ds)))],[(0,.row e (T.sz e) (ds.map C.d)),(0,.row e (T.sz e) [])],1,8⟩) (e := .ret) ?_ ?_
  ·simp[XD0,XD,xr,xgd,qhU,qrw,ipA,ipS,ipF,ipX,qtm,ldO,stO,xst,pre,qEA,qbF,q5T,R.rows,S.frz,xo,xCl,q1Y,bld,q7n,tkw,S.seq,S.ev,S.get,lk,S.put,S.up,S.fg,R.fg,C.fg,B.fg,S.blk,hk,he,hz,hzl,hl,hm1,hm2,hall,hfar,qaN,sqD,q43,tt,C.known,C.far]
  ·refine⟨.inr rfl,fin _ _ rfl ?_⟩
   have hz0:T.sz e≠0:=by omega
   have hcn:∀ids,(ds.map C.d).map (cn ids)=ds.map C.d:=fun ids=>by rw[List.map_map];rfl
   simp[cnB,B.live,B.refs,hcn,hdat,qcp,ql4,qcs,qhM,po1,q5T,R.rows,C.rows,C.rows0,S.frz,qcv,qkT,dzR,dz,one,q4Q,rng,R.refs,C.refs,C.ref0,cnR,qoF,cn,cn0,cnH,S.get,lk,hz0,S.blk,B.isBlk,R.ptrs,S.frz1,fzR,qq5,fz,fz0,fzB,vis,q5J,hl,List.eraseDups_cons,pos,B.cells]
def q4T (T:Ty) (e:TypeId) (own:Bool):List R→Option (R×List (Nat×B))
 | [.c (.d (.sl z n ds))]=>if z=T.sz e∧ds.length=n*z∧n≤maxLen∧n*T.by_ e≤140737488355328 then(if own=true then some (.c (.own 0 z 0 n),[(0,.row e z (ds.map C.d))]) else some (.c (.d (.sl z n ds)),[])) else none
 | _=>none
theorem q9l (hA:Ag P T) {f:FuncId} {fn:Func} {t e bt:TypeId} (hf:P.funcs[f]?=some fn) (hb:fn.body=some (qgb t bt)) (hname:(fn.name == "runtime.NumGoroutine")=false) (hn:fn.ntmps=8) (hr:fn.results.toList=[.tmp 2])
  (hk:T.k t = .sl e) (he:T.k e ≠ .other) (hz:0<T.sz e) (hzl:(T.zero e).length=T.sz e) {own:Bool} {args:List R} {r:R} {G':List (Nat×B)} (h:q4T T e own args=some (r,G')):AC P f args [] 0 fun r' hp'=>r'=r∧hp'=G':=by
 unfold q4T at h
 split at h
 ·split at h
  ·rename_i hc
   obtain⟨rfl,h1,h2,h3⟩:=hc
   split at h
   ·injection h with h
    injection h with h4 h5
    subst h4 h5
    exact qmY hA hf hb hname hn hr hk he hz hzl h1 h2 h3
   ·injection h with h
    injection h with h4 h5
    subst h4 h5
    exact qqC hA hf hb hname hn hr hk he hz hzl h1 h2 h3
  ·cases h
 ·cases h
end
end
noncomputable section
open Go.RowKit
section
variable {P:Program} {T:Ty} {cx:Cx} {ρ:Pl} {s:S} {a:Act} {w:World}
end
end
noncomputable section
open Go.RowKit
def cpF (x:Int):List Int→List Int
 | []=>[x]
 | y::l=>if x=y then cpF y l else x::cpF y l
def cpI:List Int→List Int
 | []=>[]
 | x::l=>cpF x l
theorem qiA (x z:Int):∀l:List Int,cpF x (l++[z])=if(x::l).getLast (by simp)=z then cpF x l else cpF x l++[z]
 | []=>by
  simp only[qQR,cpF,List.getLast_singleton]
  grind
 | y::l=>by
  have h:=qiA y z l
  simp only[qRD,cpF,List.getLast_cons_cons]
  grind
theorem qyN (l:List Int):Lib.compact l=cpI l:=by
 have key:∀m,m≤l.length→Lib.compactUpTo l.toArray m=cpI (l.take m):=by
  intro m
  induction m with
  | zero=>intro _;rfl
  | succ m ih=>
   intro hm
   rw[Lib.compactUpTo_succ,ih (by omega)]
   have ht:l.take (m+1)=l.take m++[l[m]]:=by simp_all
   have hg:l.toArray[m]! = l[m]:=by grind
   rw[ht,hg]
   cases m with
   | zero=>
    rfl
   | succ k=>
    obtain⟨a,t,hat⟩:∃a t,l.take (k+1)=a::t:=by
     cases h:l.take (k+1) with
     | nil=>simp_all
     | cons a t=>simp_all
    have hl:(a::t).getLast (by simp)=l[k]:=by grind
    rw[hat]
    show _=cpF a (t++[l[k+1]])
    rw[qiA,hl]
    have hk:l.toArray[k]! = l[k]:=by grind
    by_cases he:l[k]=l[k+1]
    ·have:Lib.keeps l.toArray (k+1)=false:=by
      apply Lib.keeps_neg (by omega)
      simp_all
     rw[if_pos he,if_neg (by simp_all),qQS];rfl
    ·have:Lib.keeps l.toArray (k+1)=true:=by
      apply Lib.keeps_pos
      grind
     rw[if_neg he,if_pos this];rfl
 have:=key l.length (qQN _)
 rw[List.take_length] at this
 exact this
theorem qnx (x:Int):∀l:List Int,(cpF x l).length≤l.length+1
 | []=>qQN _
 | y::l=>by
  have:=qnx y l
  unfold cpF
  grind
theorem qhS (l:List Int):(cpI l).length≤l.length:=by
 cases l with
 | nil=>exact qQN _
 | cons x l=>exact qnx x l
def cpX (id n:Nat) (e:TypeId) (cs:List C):Option (R×List (Nat×B)):=(qaZ cs).bind fun zs=>if n=zs.length then some (.c (.own 0 1 0 (cpI zs).length),[(0,.row e 1 ((cpI zs).map fun z => .d (.int .i64 z)))]) else none
def qDP (e:TypeId):Nat→List R→List (Nat×B)→Option (R×List (Nat×B))
 | 0,[.c (.own 0 1 0 n)],[(0,.row e' 1 cs)]=>if e'=e then cpX 0 n e cs else none
 | _,_,_=>none
theorem qs0 {P:Program} {f:FuncId} (h1:∀(blk off cap:Nat) (zs:List Int) (w:World),Go.Sort.Holds (Value.int .i64) w blk off zs.toArray→zs.length≤9223372036854775807→zs.length≤cap→
   Calls P f #[.slice (some ⟨blk,off,none⟩) zs.length cap] w fun e w'=>e = .returned (.slice (some ⟨blk,off,none⟩) (Lib.compact zs).length cap)∧∃q,w'=Go.Sort.putRow (Value.int .i64) (Go.Sort.ahead w q) blk off (Lib.compact zs++List.replicate (zs.length-(Lib.compact zs).length) 0).toArray)
  (b cap:Nat) (zs:List Int) (w:World) (cur:Array Value) (e:TypeId) (hb:w.heap[b]?=some (.cells cur e (0,0))) (ht:cur.toList.take zs.length=zs.map (Value.int .i64)) (hc:zs.length≤cap) (hm:cap≤9223372036854775807) :
  Calls P f #[.slice (some ⟨b,0,none⟩) zs.length cap] w fun e' w'=>e' = .returned (.slice (some ⟨b,0,none⟩) (cpI zs).length cap)∧w.grownBy w' (some b)∧
   ∃cur':Array Value,w'.heap[b]?=some (.cells cur' e (0,0))∧cur'.size=cur.size∧cur'.toList.take (cpI zs).length=(cpI zs).map (Value.int .i64):=by
 refine(h1 b 0 cap zs w (holds_of_blockI hb ht) (by omega) hc).mono fun e' w'=>?_
 rintro⟨rfl,q,rfl⟩
 rw[qyN]
 have hgr:∀W:World,Go.Sort.grow W #[]=W:=fun W=>by rfl
 refine⟨rfl,?_,Go.Sort.putCells (Value.int .i64) 0 (cpI zs++List.replicate (zs.length-(cpI zs).length) 0).toArray cur,?_,?_⟩
 ·have:=grownBy_sortedI (w:=w) (g:=b) (n:=q) (os:=#[]) (cpI zs++List.replicate (zs.length-(cpI zs).length) 0).toArray
  assumption
 ·have:=heap_sortedI (n:=q) (os:=#[]) (cpI zs++List.replicate (zs.length-(cpI zs).length) 0).toArray hb
  assumption
 ·have hl:=qhS zs
  have hz:zs.length≤cur.size:=by
   have:=congrArg List.length ht
   grind
  refine⟨by simp[Go.Sort.putCells],?_⟩
  have h3:=take_putCellsI cur (cpI zs++List.replicate (zs.length-(cpI zs).length) 0) (by simp_all)
  have h4:=congrArg (List.take (cpI zs).length) h3
  grind
theorem qxE {P:Program} {f:FuncId} {fn:Func} {e:TypeId} (hf:P.funcs[f]?=some fn) (hname:(fn.name == "runtime.NumGoroutine")=false) (hb:fn.body.isNone=false)
  (h1:∀(blk off cap:Nat) (zs:List Int) (w:World),Go.Sort.Holds (Value.int .i64) w blk off zs.toArray→zs.length≤9223372036854775807→zs.length≤cap→
   Calls P f #[.slice (some ⟨blk,off,none⟩) zs.length cap] w fun e w'=>e = .returned (.slice (some ⟨blk,off,none⟩) (Lib.compact zs).length cap)∧∃q,w'=Go.Sort.putRow (Value.int .i64) (Go.Sort.ahead w q) blk off (Lib.compact zs++List.replicate (zs.length-(Lib.compact zs).length) 0).toArray)
  (h2:∀(p:Option Addr) (cap:Nat) (w:World),Calls P f #[.slice p 0 cap] w fun e w'=>e = .returned (.slice p 0 cap)∧w'=w)
  {k:Nat} {args:List R} {G G':List (Nat×B)} {r:R} (h:qDP e k args G=some (r,G')):AC P f args G k fun r' hp'=>r'=r∧hp'=G':=by
 refine⟨⟨fn,hf,hname,hb⟩,fun cx ρ w vs hw hk hρ hro hs hv=>?_⟩
 unfold qDP at h
 split at h
 ·rename_i n e' cs
  split at h
  ·rename_i he
   subst he
   unfold cpX at h
   obtain⟨zs,hz,hx⟩:=qQC.1 h
   split at hx
   ·rename_i hc
    subst hc
    obtain⟨h3,h4⟩:=Prod.mk.inj (Option.some.inj hx)
    subst h3 h4
    have hcs:=qaB hz
    obtain⟨hvs,hvr⟩:=hv
    have hv0:RR w _ ρ (vs.getD 0 undef) _:=hvr 0 _ rfl
    obtain⟨hl,hcase⟩:=hv0.inv_own
    have hfar:∀(us:List Value),us=(cpI zs).map (Value.int .i64)→∀(j:Nat) (c:C),((cpI zs).map fun z=>C.d (.int .i64 z))[j]?=some c→c.far 0=true∧∃u,us[j]?=some u∧RC w (q0x [(0,B.row e' 1 cs)] 1).live ρ u c:=by
     rintro us rfl j c hj
     rw[qQL] at hj ⊢
     obtain⟨z,hz,rfl⟩:=qQK.1 hj
     exact⟨rfl,_,by rw[hz];rfl,.d _ _ (.int _ _)⟩
    have how:∀(us:List Value) (j:Nat) (c:C) (u:Value),((cpI zs).map fun z=>C.d (.int .i64 z))[j]?=some c→c.isOw=true→us[j]?=some u→∃b cap,(q0x [(0,B.row e' 1 cs)] 1).live 0∧ρ 0=some (b,cap)∧((q0x [(0,B.row e' 1 cs)] 1).blk 0).cells[j]?=some c∧w.cell? ⟨b,j,none⟩=some u:=by
     intro us j c u hj ho _
     rw[qQL] at hj
     obtain⟨z,-,rfl⟩:=qQK.1 hj
     cases ho
    have hblk:∀x,(q0x [(0,B.row e' 1 ((cpI zs).map fun z=>C.d (.int .i64 z)))] 1).blk x=(((q0x [(0,B.row e' 1 cs)] 1).fg 0).up [(0,B.row e' 1 ((cpI zs).map fun z=>C.d (.int .i64 z)))]).blk x:=fun x=>by
     rw[S.blk_up]
     by_cases hx:0=x
     ·subst hx;rfl
     ·rw[if_neg hx,S.blk_fg]
      unfold S.blk q0x
      simp only[lk,if_neg hx,B.fg]
    have hlive:(q0x [(0,B.row e' 1 ((cpI zs).map fun z=>C.d (.int .i64 z)))] 1).live=(((q0x [(0,B.row e' 1 cs)] 1).fg 0).up [(0,B.row e' 1 ((cpI zs).map fun z=>C.d (.int .i64 z)))]).live:=by funext x;unfold S.live;rw[hblk]
    have hvs1:∀v0,vs.getD 0 undef=v0→vs=#[v0]:=by
     intro v0 h0
     apply Array.ext
     ·assumption
     simp_all
    rcases hcase with ⟨b,cap,e1,e2,e3,e4⟩|⟨e1,e2,-,e5⟩
    ·rw[Nat.zero_mul,qRq] at e4
     rw[qQV] at e2
     obtain rfl:=hvs1 _ e4
     obtain⟨hbz,hBk⟩:=hs.hp 0 b cap hl e1
     obtain⟨cur,q1,q2,q3,q4,q5,q6⟩:HB w _ ρ b cap (.row e' 1 cs):=hBk
     have hcl:cs.length=zs.length:=by simp_all
     have htk:cur.toList.take zs.length=zs.map (Value.int .i64):=by
      apply List.ext_getElem?
      intro j
      by_cases hj:j<zs.length
      ·rw[qR6 hj,Array.getElem?_toList,qQL,qQz hj,Option.map_some]
       have:=q6 j (.d (.int .i64 zs[j])) (by simp_all)
       have hj2:j<cur.size:=by omega
       rw[qQD,qQY hj2,Option.getD_some] at this
       rw[qQY hj2]
       have:=(RR.c _ _ this).inv_int
       rw[this]
      simp_all
     refine(qs0 h1 b cap zs w cur e' q1 htk e2 (by assumption)).mono fun e2' w'=>?_
     rintro⟨rfl,hg,cur',r1,r2,r3⟩
     have hlen:=qhS zs
     obtain⟨ρ2,g4,g5⟩:=Sim.rerow (id:=0) (v := .slice (some ⟨b,0,none⟩) zs.length cap) (v' := .slice (some ⟨b,0,none⟩) (cpI zs).length cap) (e:=e') (sz:=1) (n:=(cpI zs).length) (cs:=(cpI zs).map fun z=>C.d (.int .i64 z)) (us:=(cpI zs).map (Value.int .i64))
      hs (.inl ⟨b,cap,hl,e1,rfl⟩) hg (.inl rfl) ⟨by simp,.inr ⟨b,cap,cur',rfl,qQX _,r1,by omega,q4,by omega,by simp_all⟩⟩ q5 (by simp) (by omega) (hfar _ rfl) (how _)
     refine⟨_,_,_,1,ρ2,rfl,⟨rfl,rfl⟩,g4.ext (fun x=>rfl) hblk rfl (fun x hx=>?_),?_⟩
     ·unfold S.live S.blk q0x at hx
      show x<1
      rcases Nat.lt_or_ge x 1 with h|h
      ·exact h
      ·simp[lk,show ¬ 0=x by omega,B.live] at hx
     simp_all
    ·obtain rfl:=hvs1 _ e2
     have hz0:zs=[]:=List.length_eq_zero_iff.1 e5
     subst hz0
     refine(h2 none 0 w).mono fun e2' w'=>?_
     rintro⟨rfl,rfl⟩
     obtain⟨ρ2,g4,g5⟩:=Sim.rerow (id:=0) (v := .slice none 0 0) (v' := .slice none 0 0) (e:=e') (sz:=1) (n:=(cpI []).length) (cs:=(cpI []).map fun z=>C.d (.int .i64 z)) (us:=(cpI []).map (Value.int .i64))
      hs (.inr ⟨rfl,fun _=>e1⟩) (World.grownBy.refl _ _) (.inl rfl) ⟨rfl,.inl ⟨rfl,rfl⟩⟩ (by omega) rfl (by omega) (hfar _ rfl) (how _)
     refine⟨_,_,_,1,ρ2,rfl,⟨rfl,rfl⟩,g4.ext (fun x=>rfl) hblk rfl (fun x hx=>?_),?_⟩
     ·unfold S.live S.blk q0x at hx
      show x<1
      rcases Nat.lt_or_ge x 1 with h|h
      ·exact h
      ·simp[lk,show ¬ 0=x by omega,B.live] at hx
     simp_all
   ·cases hx
  ·cases h
 ·cases h
end
noncomputable section
open Go.RowKit Go.Shelf
theorem qkj {P:Program} (w:World) (t e ty:TypeId) (z:Value) (zs:List Value) (ht:P.underlying t=some (.slice e)) (hv:∀w,(zeroValue e).run P w = .ok z w) (hz:z.cells.toList=zs) (h1:∀u∈zs,u.oneCell'=true) (b o c:Nat)
  (hc:∀j,j<zs.length→(w.cell? ⟨b,o+j,none⟩).isSome=true) (hf:∀j,j<zs.length→w.frozen? ⟨b,o+j,none⟩=false) (h0:0<zs.length) :
  (Builtin.clear_ #[t] ty #[.slice (some ⟨b,o,none⟩) 1 c]).run P w = .ok (.tuple #[]) (w.setCells b o zs):=by
 have hzc:(Builtin.zeroCells z.cells 1).toList=zs:=by
  subst hz
  simp only[Builtin.zeroCells]
  apply List.ext_getElem
  ·simp
  ·intro i h1 h2
   simp
   have h3:i<z.cells.size:=by simpa using h2
   rw[Nat.mod_eq_of_lt h3]
   exact getElem!_pos z.cells i h3
 have hst:=run_storeCells_cells (P:=P) b o zs 0 w (by simpa using hc) (by simpa using hf) h1
 simp only[Nat.add_zero] at hst
 simp[Builtin.clear_,run_underlying ht,hv,hzc,hst]
theorem q5L {b:Nat} {e:TypeId}:∀(vs:List Value) (o:Nat) (w:World) (cur:Array Value),w.heap[b]?=some (.cells cur e (0,0))→o+vs.length≤cur.size→
  w.grownBy (w.setCells b o vs) (some b)∧∃cur':Array Value,(w.setCells b o vs).heap[b]?=some (.cells cur' e (0,0))∧cur'.size=cur.size∧∀k,cur'[k]?=if k<o∨o+vs.length≤k then cur[k]? else vs[k-o]?
 | [],o,w,cur,hb,ho=>⟨World.grownBy.refl w _,cur,hb,rfl,fun k=>by rw[if_pos (by simp;omega)]⟩
 | v::vs,o,w,cur,hb,ho=>by
  simp only[qQI] at ho
  have h1:(w.setCell ⟨b,o,none⟩ v).heap[b]?=some (.cells (cur.setIfInBounds o v) e (0,0)):=by
   simp only[World.setCell,Array.getElem?_modify,hb,if_true,Option.map_some]
   rfl
  have g1:w.grownBy (w.setCell ⟨b,o,none⟩ v) (some b):=⟨rfl,rfl,rfl,by simp,fun k _ hk=>Below.heap_setCell _ _ _ k (fun e=>hk (by rw[e]))⟩
  obtain⟨g2,cur',h2,h3,h4⟩:=q5L vs (o+1) _ _ h1 (by simp;omega)
  refine⟨⟨g2.os.trans g1.os,g2.tape.trans g1.tape,g2.output.trans g1.output,qR8 g1.size g2.size,fun k hk hn=>(g2.block k (qR7 hk g1.size) hn).trans (g1.block k hk hn)⟩,cur',h2,by simpa using h3,fun k=>?_⟩
  rw[h4 k,qQI]
  by_cases hA:k<o+1∨o+1+vs.length≤k
  ·rw[if_pos hA]
   by_cases hk:o=k
   ·subst hk
    rw[if_neg (show ¬ (o<o∨o+(vs.length+1)≤o) by omega)]
    simp[Array.getElem?_setIfInBounds,(show o<cur.size by omega)]
   ·rw[if_pos (show k<o∨o+(vs.length+1)≤k by omega),Array.getElem?_setIfInBounds,if_neg hk]
  ·rw[if_neg hA,if_neg (show ¬ (k<o∨o+(vs.length+1)≤k) by omega),show k-o=(k-(o+1))+1 by omega,qQW]
def qF7 (e:TypeId) (z sz sz':Nat) (e':TypeId) (n:Nat) (i j:Int) (cs:List C):Option (R×List (Nat×B)):=
 if e'=e∧sz=z∧sz'=z∧cs.length=n*z∧cs.all C.known=true∧cs.all (C.far 0)=true∧0≤i∧j=i+1∧i<n then some (.c (.own 0 z 0 (n-1)),[(0,.row e z (cs.take (i.toNat*z)++cs.drop ((i.toNat+1)*z)))]) else none
def qku (e:TypeId) (z:Nat):Nat→List R→List (Nat×B)→Option (R×List (Nat×B))
 | 0,[.c (.own 0 sz 0 n),.c (.d (.int .i64 i)),.c (.d (.int .i64 j))],[(0,.row e' sz' cs)]=>qF7 e z sz sz' e' n i j cs
 | _,_,_=>none
theorem qqz {P:Program} {f:FuncId} {fn:Func} {e:TypeId} {z:Nat} (hf:P.funcs[f]?=some fn) (hname:(fn.name == "runtime.NumGoroutine")=false) (hb:fn.body.isNone=false)
  (h1:∀(b n cap i j:Nat) (cur:Array Value) (w:World),w.heap[b]?=some (.cells cur e (0,0))→n≤cap→cap≤9223372036854775807→cur.size=cap*z→i<n→Hid (j=i+1)→(∀u∈cur.toList.take (n*z),u.oneCell'=true)→
   Calls P f #[.slice (some ⟨b,0,none⟩) n cap,.int .i64 i,.int .i64 j] w fun e' w'=>e' = .returned (.slice (some ⟨b,0,none⟩) (n-1) cap)∧w.grownBy w' (some b)∧
    ∃cur':Array Value,w'.heap[b]?=some (.cells cur' e (0,0))∧cur'.size=cur.size∧cur'.toList.take ((n-1)*z)=cur.toList.take (i*z)++(cur.toList.drop (j*z)).take ((n-j)*z))
  {k:Nat} {args:List R} {G G':List (Nat×B)} {r:R} (h:qku e z k args G=some (r,G')):AC P f args G k fun r' hp'=>r'=r∧hp'=G':=by
 refine⟨⟨fn,hf,hname,hb⟩,fun cx ρ w vs hw hk hρ hro hs hv=>?_⟩
 unfold qku at h
 split at h
 ·rename_i sz n i j e' sz' cs
  unfold qF7 at h
  split at h
  ·rename_i hc
   obtain⟨rfl,rfl,rfl,c1,c2,c3,c4,rfl,c5⟩:=hc
   injection h with h
   injection h with h3 h4
   subst h3 h4
   obtain⟨i,rfl⟩:=Int.eq_ofNat_of_zero_le c4
   have hi:i<n:=by omega
   obtain⟨hvs,hvr⟩:=hv
   have hv0:RR w _ ρ (vs.getD 0 undef) _:=hvr 0 _ rfl
   have hv1:RR w _ ρ (vs.getD 1 undef) _:=hvr 1 _ rfl
   have hv2:RR w _ ρ (vs.getD 2 undef) _:=hvr 2 _ rfl
   obtain⟨hl,hcase⟩:=hv0.inv_own
   rcases hcase with ⟨b,cap,e1,e2,e3,e4⟩|⟨-,-,-,e5⟩
   ·have hsz:vs.size=3:=by simpa using hvs
    have hvs1:vs=#[.slice (some ⟨b,0,none⟩) n cap,.int .i64 i,.int .i64 ((i+1:Nat):Int)]:=by
     apply Array.ext
     ·simpa using hvs
     ·intro k hk hk'
      have hg:vs.getD k undef=vs[k]:=by simp[qQD,hk]
      have:k=0∨k=1∨k=2:=by omega
      rcases this with rfl|rfl|rfl
      ·rw[←hg,e4];simp
      ·rw[←hg,hv1.inv_int];rfl
      ·rw[←hg,hv2.inv_int];rfl
    subst hvs1
    simp only[qQA]
    obtain⟨hbz,hBk⟩:=hs.hp 0 b cap hl e1
    obtain⟨cur,q1,q2,q3,q4,q5,q6⟩:HB w _ ρ b cap (.row e' sz' cs):=hBk
    have hcell:∀(k:Nat) (c:C),cs[k]?=some c→∃u,cur[k]?=some u∧RC w _ ρ u c:=fun k c hk=>by
     have hk':k<cur.size:=by have:=(qQB.1 hk).1;omega
     refine⟨cur.getD k undef,by simp[qQD,hk'],q6 k c hk⟩
    have hone:∀u∈cur.toList.take (n*sz'),u.oneCell'=true:=fun u hu=>by
     obtain⟨k,hk,rfl⟩:=List.mem_iff_getElem.1 hu
     have hk1:k<n*sz':=by simp at hk;omega
     have hk2:k<cs.length:=by omega
     obtain⟨u,u1,u2⟩:=hcell k _ (qQz hk2)
     have hone:=u2.one (qQO.1 c2 _ (qRp hk2))
     rw[List.getElem_take,Array.getElem_toList]
     have hk3:k<cur.size:=by omega
     rw[qQY hk3] at u1
     injection u1 with u1
     rw[u1];exact hone
    refine(h1 b n cap i (i+1) cur w q1 (by omega) (by unfold maxLen at e3;omega) q3 hi rfl hone).mono fun e2 w'=>?_
    rintro⟨rfl,hg,cur',r1,r2,r3⟩
    have hus:(cur.toList.take (i*sz')++(cur.toList.drop ((i+1)*sz')).take ((n-(i+1))*sz')).length=(n-1)*sz':=by
     have hA:(n-(i+1))*sz'+(i+1)*sz'=n*sz':=by rw[←Nat.add_mul];congr 1;omega
     have hB:i*sz'≤n*sz':=Nat.mul_le_mul_right _ (by omega)
     have hC:(n-1)*sz'=i*sz'+(n-(i+1))*sz':=by rw[←Nat.add_mul];congr 1;omega
     have hD:n*sz'≤cap*sz':=Nat.mul_le_mul_right _ (by omega)
     rw[qQE,qR0,qR0,qRk,Array.length_toList]
     omega
    obtain⟨ρ2,g4,g5⟩:=Sim.rerow (id:=0) (v := .slice (some ⟨b,0,none⟩) n cap) (v' := .slice (some ⟨b,0,none⟩) (n-1) cap) (e:=e') (sz:=sz') (n:=n-1) (cs:=cs.take (i*sz')++cs.drop ((i+1)*sz')) (us:=cur.toList.take (i*sz')++(cur.toList.drop ((i+1)*sz')).take ((n-(i+1))*sz'))
     hs (.inl ⟨b,cap,hl,e1,rfl⟩) hg (.inl rfl) ⟨hus,.inr ⟨b,cap,cur',rfl,qQX _,r1,by omega,q4,by omega,r3⟩⟩ q5
     (by
      have hA:(n-(i+1))*sz'+(i+1)*sz'=n*sz':=by rw[←Nat.add_mul];congr 1;omega
      have hC:(n-1)*sz'=i*sz'+(n-(i+1))*sz':=by rw[←Nat.add_mul];congr 1;omega
      have hB:i*sz'≤n*sz':=Nat.mul_le_mul_right _ (by omega)
      rw[qQE,qR0,qRk];omega) (by omega) (fun k c hk=>by
      have hB:i*sz'≤n*sz':=Nat.mul_le_mul_right _ (by omega)
      have hB2:(i+1)*sz'≤n*sz':=Nat.mul_le_mul_right _ (by omega)
      by_cases hki:k<i*sz'
      ·rw[qRb (by rw[qR0];omega),qR6 hki] at hk
       obtain⟨u,u1,u2⟩:=hcell k c hk
       refine⟨qQO.1 c3 _ (qQy hk),u,?_,u2⟩
       have hk3:=(Array.getElem?_eq_some_iff.1 u1).1
       rw[qRb (by rw[qR0,Array.length_toList];omega),qR6 hki,Array.getElem?_toList]
       exact u1
      ·rw[qRa (by rw[qR0];omega),qR0,Nat.min_eq_left (by omega),List.getElem?_drop] at hk
       obtain⟨u,u1,u2⟩:=hcell _ c hk
       have hk3:=(qQB.1 hk).1
       have hk4:=(Array.getElem?_eq_some_iff.1 u1).1
       have hA:(n-(i+1))*sz'+(i+1)*sz'=n*sz':=by rw[←Nat.add_mul];congr 1;omega
       refine⟨qQO.1 c3 _ (qQy hk),u,?_,u2⟩
       have hD:n*sz'≤cap*sz':=Nat.mul_le_mul_right _ (by omega)
       rw[qRa (by rw[qR0,Array.length_toList];omega),qR0,Array.length_toList,Nat.min_eq_left (by omega),qR6 (by omega),List.getElem?_drop,Array.getElem?_toList]
       exact u1) (fun k c u hk ho _=>by
      have hm:c∈cs:=by
       rcases qR1.1 (qQy hk) with h|h
       ·exact List.mem_of_mem_take h
       ·exact List.mem_of_mem_drop h
      have:=C.noow_is (qQO.1 (q33 c2) c hm)
      rw[ho] at this;cases this)
    have hblk:∀x,(q0x [(0,B.row e' sz' (cs.take (i*sz')++cs.drop ((i+1)*sz')))] 1).blk x=(((q0x [(0,B.row e' sz' cs)] 1).fg 0).up [(0,B.row e' sz' (cs.take (i*sz')++cs.drop ((i+1)*sz')))]).blk x:=fun x=>by
     rw[S.blk_up]
     by_cases hx:0=x
     ·subst hx;rfl
     ·rw[if_neg hx,S.blk_fg]
      unfold S.blk q0x
      simp only[lk,if_neg hx,B.fg]
    have hlive:(q0x [(0,B.row e' sz' (cs.take (i*sz')++cs.drop ((i+1)*sz')))] 1).live=(((q0x [(0,B.row e' sz' cs)] 1).fg 0).up [(0,B.row e' sz' (cs.take (i*sz')++cs.drop ((i+1)*sz')))]).live:=by funext x;unfold S.live;rw[hblk]
    refine⟨_,_,_,1,ρ2,rfl,⟨rfl,rfl⟩,g4.ext (fun x=>rfl) hblk rfl (fun x hx=>?_),?_⟩
    ·unfold S.live S.blk q0x at hx
     show x<1
     rcases Nat.lt_or_ge x 1 with h|h
     ·exact h
     ·simp[lk,show ¬ 0=x by omega,B.live] at hx
    ·rw[hlive];exact g5
   ·omega
  ·cases h
 ·cases h
end
noncomputable section
open Go.RowKit
def quC (x:Int):List Int→List Int
 | []=>[x]
 | y::l=>if x≤y then x::y::l else y::quC x l
def q2W:List Int→List Int
 | []=>[]
 | x::l=>quC x (q2W l)
theorem qcb (x:Int):∀l:List Int,(quC x l).Perm (x::l)
 | [] => .refl _
 | y::l=>by
  unfold quC
  split
  ·exact .refl _
  ·exact((qcb x l).cons y).trans (.swap x y l)
theorem q6E:∀l:List Int,(q2W l).Perm l
 | [] => .refl _
 | x::l=>by
  unfold q2W
  exact(qcb x _).trans ((q6E l).cons x)
theorem qbc (x:Int):∀{l:List Int},l.Pairwise (·≤·)→(quC x l).Pairwise (·≤·)
 | [],_=>by simp[quC]
 | y::l,h=>by
  unfold quC
  obtain⟨h1,h2⟩:=List.pairwise_cons.1 h
  split
  ·rename_i hxy
   exact List.pairwise_cons.2 ⟨fun z hz=>by
    rcases qQT.1 hz with rfl|hz
    ·exact hxy
    ·exact Int.le_trans hxy (h1 z hz),h⟩
  ·rename_i hxy
   exact List.pairwise_cons.2 ⟨fun z hz=>by
    rcases qQT.1 ((qcb x l).mem_iff.1 hz) with rfl|hz
    ·omega
    ·exact h1 z hz,qbc x h2⟩
theorem q5H:∀l:List Int,(q2W l).Pairwise (·≤·)
 | [] => .nil
 | x::l=>qbc x (q5H l)
theorem qbT:∀{l m:List Int},l.Perm m→l.Pairwise (·≤·)→m.Pairwise (·≤·)→l=m
 | [],m,h,_,_=>(List.nil_perm.1 h).symm
 | x::l,m,h,hl,hm=>by
  cases m with
  | nil=>exact absurd (List.perm_nil.1 h) (by simp)
  | cons y m=>
   obtain⟨h1,h2⟩:=List.pairwise_cons.1 hl
   obtain⟨h3,h4⟩:=List.pairwise_cons.1 hm
   have hxy:x=y:=by
    have a1:y∈x::l:=h.mem_iff.2 (qQM ..)
    have a2:x∈y::m:=h.mem_iff.1 (qQM ..)
    rcases qQT.1 a1 with e|a1
    ·exact e.symm
    rcases qQT.1 a2 with e|a2
    ·exact e
    exact Int.le_antisymm (h1 y a1) (h3 x a2)
   subst hxy
   rw[qbT (List.Perm.cons_inv h) h2 h4]
theorem qsc (l:List Int):(l.mergeSort fun x y=>decide (x≤y))=q2W l:=by
 refine qbT ((List.mergeSort_perm l _).trans (q6E l).symm) ?_ (q5H l)
 have:=List.pairwise_mergeSort (le:=fun x y:Int=>decide (x≤y)) (fun a b c h1 h2=>by simp only[qRx] at *;omega) (fun a b=>by simp only[qR2,qRx];omega) l
 exact this.imp fun h=>by simpa using h
theorem q5O (l:List Int):(q2W l).length=l.length:=(q6E l).length_eq
theorem qm9 {P:Program} {f:FuncId} {fn:Func} (hf:P.funcs[f]?=some fn) (hname:(fn.name == "runtime.NumGoroutine")=false) (hb:fn.body.isNone=false)
  (h1:∀(blk off cap:Nat) (zs:List Int) (w:World),Go.Sort.Holds (Value.int .i64) w blk off zs.toArray→blk<w.heap.size→zs.length<4611686018427387904→
   Calls P f #[.slice (some ⟨blk,off,none⟩) zs.length cap] w fun e w'=>e = .returned (.tuple #[])∧∃n os,w'=Go.Sort.grow (Go.Sort.putRow (Value.int .i64) (Go.Sort.ahead w n) blk off (zs.mergeSort fun x y=>decide (x≤y)).toArray) os)
  (h2:∀(p:Option Addr) (cap:Nat) (w:World),Calls P f #[.slice p 0 cap] w fun e w'=>e = .returned (.tuple #[])∧w'=w):qF8 P f q2W:=by
 refine⟨⟨fn,hf,hname,hb⟩,q5O,fun b cap zs w cur e c1 htk hlt=>?_,fun w=>h2 none 0 w⟩
 refine(h1 b 0 cap zs w (holds_of_blockI c1 htk) (Array.getElem?_eq_some_iff.1 c1).1 hlt).mono fun e' w'=>?_
 rintro⟨rfl,nn,os,rfl⟩
 rw[qsc]
 refine⟨rfl,grownBy_sortedI _,_,heap_sortedI _ c1,by simp[Go.Sort.putCells],?_⟩
 have hz:zs.length≤cur.size:=by
  have:=congrArg List.length htk
  simp only[qR0,qRg,Array.length_toList] at this
  omega
 have:=take_putCellsI cur (q2W zs) (by rw[q5O];exact hz)
 rwa [q5O] at this
end
end Go.Proofs.YtofbcijbpfjliaaGreat.Vc
namespace Go
open Go.Proofs.YtofbcijbpfjliaaGreat.Vc (qQN qR8)
theorem World.ask_drawn {α:Type}:∀(a:Ask α) (w:World),w.drawn≤(w.ask a).2.drawn
 | .done a,w=>by unfold World.ask;exact qQN _
 | .ask what r k,w=>by
  unfold World.ask
  dsimp only
  split
  ·exact World.ask_drawn (k 0) w
  ·exact qR8 (Nat.le_succ _) (World.ask_drawn _ { w with drawn:=w.drawn+1 })
theorem World.sys_drawn (w:World) (c:Sys):w.drawn≤(w.sys c).2.drawn:=by
 unfold World.sys
 split
 ·exact qQN _
 ·rename_i r os w' h
  have:=World.ask_drawn (Kernel.perform c w.os) w
  rw[h] at this
  exact this
theorem World.setCell_drawn (w:World) (a:Addr) (v:Value):(w.setCell a v).drawn=w.drawn:=rfl
theorem World.freeze_drawn (w:World) (a:Addr) (n:Nat):(w.freeze a n).drawn=w.drawn:=by unfold World.freeze;split<;>rfl
theorem World.viewStore_drawn {p:Program} {w:World} {at_:Addr} {u:TypeId} {k:Addr} {v:Value} {b:Bool} {r:World×List Addr} (h:w.viewStore p at_ u k v b = .ok r):r.1.drawn=w.drawn:=by
 unfold World.viewStore at h
 simp only[bind,Except.bind,pure,Except.pure,throw,throwThe,MonadExceptOf.throw] at h
 repeat (split at h<;>try (cases h;done))
 all_goals (injection h with h;subst h;rfl)
theorem World.farStore_drawn {p:Program} {w:World} {a:Addr} {v:Value} {b:Bool} {r:World×List Addr} (h:w.farStore p a v b = .ok r):r.1.drawn=w.drawn:=by
 unfold World.farStore at h
 split at h
 ·split at h
  ·rename_i h2
   injection h with h;subst h
   exact World.viewStore_drawn h2
  ·cases h
 ·cases h
def Result.world {α:Type}:Result α→World
 | .ok _ w=>w
 | .halt _ w=>w
theorem Sem.run_drawn {α:Type} (p:Program) (s:Sem α):∀w:World,w.drawn≤(s.run p w).world.drawn:=by
 induction s with
 | pure a=>intro w;exact qQN _
 | load m a k ih=>
  intro w
  simp only[Sem.run]
  split
  ·exact ih _ w
  ·split
   ·exact ih _ w
   ·exact qQN _
 | store m a v k ih=>
  intro w
  have key:w.drawn≤(match w.cell? a with
   | some _=>if w.frozen? a then .halt (.unsupported (.unsafePointer "a write to bytes that a string shares")) w else k.run p (w.setCell a v)
   | none=>match w.farStore p a v (m == .atomic) with
    | .ok (w,_)=>k.run p w
    | .error h => .halt h w:Result α).world.drawn:=by
   split
   ·split
    ·exact qQN _
    ·exact ih (w.setCell a v)
   ·split
    ·rename_i h
     have h1:=World.farStore_drawn h
     dsimp only at h1
     rw[←h1];exact ih _
    ·exact qQN _
  cases v<;>first|exact key|exact qQN _
 | new o k ih=>intro w;simp only[Sem.run];exact ih _ { w with heap:=w.heap.push o }
 | shape r k ih=>intro w;simp only[Sem.run];exact ih _ w
 | freeze a n k ih=>intro w;simp only[Sem.run];rw[←World.freeze_drawn w a n];exact ih _
 | frozen a k ih=>intro w;simp only[Sem.run];exact ih _ w
 | getObj r k ih=>
  intro w;simp only[Sem.run]
  split
  ·exact qQN _
  ·exact ih _ w
  ·exact qQN _
 | setObj r o k ih=>
  intro w;simp only[Sem.run]
  split
  ·exact qQN _
  ·exact ih { w with heap:=w.heap.setIfInBounds r o }
  ·exact qQN _
 | choose q k ih=>
  intro w;simp only[Sem.run]
  split
  ·exact ih _ w
  ·exact qR8 (Nat.le_succ _) (ih _ { w with drawn:=w.drawn+1 })
 | sys c k ih=>intro w;simp only[Sem.run];exact qR8 (World.sys_drawn w c) (ih _ _)
 | program k ih=>intro w;simp only[Sem.run];exact ih _ w
 | mark m k ih=>intro w;simp only[Sem.run];exact ih w
 | halt h=>intro w;exact qQN _
theorem ZD {α:Type} {p:Program} {s:Sem α} {w w':World} {a:α} (h:s.run p w = .ok a w'):w.drawn≤w'.drawn:=by
 have:=Sem.run_drawn p s w
 rw[h] at this;exact this
theorem Zz {α:Type} {p:Program} {s:Sem α} {w w':World} {a:Halt} (h:s.run p w = .halt a w'):w.drawn≤w'.drawn:=by
 have:=Sem.run_drawn p s w
 rw[h] at this;exact this
def GStep.world:GStep→World
 | .go _ w _=>w
 | .comm _ _ _ _ w _=>w
 | .spawn _ _ w _=>w
 | .count _ w _=>w
 | .timer _ _ w _=>w
 | .alone _ _ w _=>w
 | .newcoro _ _ _ w _=>w
 | .coroswitch _ _ _ w _=>w
 | .collect _ w _=>w
 | .watch _ w _=>w
 | .ended _ w _=>w
theorem GStep.after_world (es:Array Event) (s:GStep):(GStep.after es s).world=s.world:=by cases s<;>rfl
def GM (w:World) (s:GStep):Prop:=w.drawn≤s.world.drawn
theorem GM.after {w:World} {s:GStep} {es:Array Event} (h:GM w s):GM w (GStep.after es s):=by unfold GM;rw[GStep.after_world];exact h
theorem GM.of {w w':World} {s:GStep} (h:GM w' s) (hw:w.drawn≤w'.drawn):GM w s:=qR8 hw h
theorem qj0 {c:Prop} [Decidable c] {w:World} {a b:GStep} (h1:GM w a) (h2:GM w b):GM w (if c then a else b):=by split<;>assumption
theorem qkK (w:World) (fd:Nat) (t:ByteArray) (o:Outcome):GM w (endWith w fd t o):=by
 unfold endWith
 have h:=World.sys_drawn w (.write fd t)
 dsimp only
 split<;>rename_i hh<;>rw[hh] at h
 ·split<;>exact h
 ·exact h
 ·exact h
theorem qEX (fr:Frame) (l:List ByteArray) (m:String) (b:Bool) (w:World):GM w (dieOf fr l m b w):=qQN _
theorem q3e (fr:Frame) (m:String) (w:World):GM w (endThrow fr m w):=qQN _
theorem q74 (p:Program) (fr:Frame) (v:Value) (w:World):GM w (endPrinting p fr v w):=by
 unfold endPrinting
 dsimp only
 split<;>exact qQN _
theorem qbh (p:Program) (fr:Frame) (cs:List Frame) (d:Option Dying) (m:String) (w:World):GM w (endFatal p fr cs d m w):=by
 unfold endFatal
 dsimp only
 split
 ·rename_i h;exact ZD h
 ·rename_i h;exact Zz h
 ·rename_i h;exact Zz h
theorem qkW (p:Program) (fr:Frame) (d:Dying) (f:Fatal) (w:World):GM w (writeOn p fr d f w):=by
 unfold writeOn
 dsimp only
 split
 ·exact qQN _
 ·rw[Sem.runT_eq]
  split<;>rename_i h<;>injection h with h<;>first|exact ZD h|exact Zz h
theorem qCN (p:Program) (fr:Frame) (d:Dying) (w:World):GM w (die p fr d w):=by
 unfold die
 split
 ·exact qkW ..
 ·split
  ·split
   ·exact qQN _
   ·exact qkK ..
  ·dsimp only
   split
   ·exact qQN _
   ·split
    ·rename_i h;exact ZD h
    ·rename_i h;exact Zz h
   ·rw[Sem.runT_eq]
    refine GM.after ?_
    split<;>first
     | (rename_i h;exact ZD h)
     | (rename_i h;exact Zz h)
     | (rename_i h;exact(q74 ..).of (Zz h))
     | exact qQN _
   ·exact qQN _
theorem q3f (p:Program) (main:Bool) (fr:Frame) (cs:List Frame) (d:Option Dying) (v:Value) (w:World):GM w (doReturn p main fr cs d v w):=by
 unfold doReturn
 repeat' split
 all_goals exact qQN _
theorem qb7 (p:Program) (fr:Frame) (cs:List Frame) (d:Option Dying) (f:Deferred) (w:World):GM w (callDeferred p fr cs d f w):=by
 unfold callDeferred
 refine qj0 (qQN _) ?_
 rw[Sem.runT_eq]
 refine GM.after ?_
 split<;>first
  | (rename_i h;exact ZD h)
  | (rename_i h;exact Zz h)
  | (rename_i h;exact(qbh ..).of (Zz h))
  | (rename_i h;exact(q3e ..).of (Zz h))
  | (rename_i h;split<;>exact ZD h)
theorem qoR (p:Program) (main:Bool) (fr:Frame) (cs:List Frame) (d:Option Dying) (w:World):GM w (unwind p main fr cs d w):=by
 unfold unwind
 split
 ·rw[Sem.runT_eq]
  refine GM.after ?_
  split<;>first
   | (rename_i h;exact ZD h)
   | (rename_i h;exact Zz h)
 ·exact qb7 ..
 ·split
  ·exact qQN _
  ·split
   ·exact qQN _
   ·split
    ·exact qQN _
    ·split
     ·split
      ·exact qQN _
      ·split<;>first
        | (rename_i h;exact ZD h)
        | (rename_i h;exact Zz h)
     ·split
      ·exact q74 ..
      ·exact qQN _
  ·split
   ·exact q3f ..
   ·rw[Sem.runT_eq]
    refine GM.after ?_
    split<;>first
     | (rename_i h;exact(q3f ..).of (ZD h))
     | (rename_i h;exact Zz h)
theorem qqt (p:Program) (fr:Frame) (cs:List Frame) (d:Option Dying) (g:Nat) (w:World):GM w (early p fr cs d g w):=by
 have hn:∀w:World,GM w (match w.heap[g]? with
   | some (.pending c elem) => .go { frame:=fr,callers:=cs,status := .running,dying:=d } { w with heap:=w.heap.setIfInBounds g (.cells c elem) }
   | _ => .ended (.stuck "early: the variable does not wait" (fr.pos p)) w):=fun w=>by
  split<;>exact qQN _
 unfold early
 dsimp only
 split
 ·exact hn w
 ·split
  ·exact qQN _
  ·split
   ·exact hn w
   ·split
    ·exact hn w
    ·split
     ·exact qQN _
     ·exact qQN _
     ·exact qQN _
     ·exact hn w
     ·split
      ·exact qQN _
      ·split
       ·exact hn w
       ·split<;>rename_i h
        ·exact(hn _).of (ZD h)
        ·exact ZD h
        ·exact Zz h
theorem q8o (p:Program) (listen:Bool) (fr:Frame) (cs:List Frame) (d:Option Dying) (s:Sem Next) (w:World):GM w (stepG.apply p listen fr cs d s w):=by
 cases listen
 all_goals
  simp only[stepG.apply,Sem.runT_eq,if_true,Bool.false_eq_true,if_false]
  refine GM.after ?_
  split<;>rename_i h<;>first
   | exact ZD h
   | exact Zz h
   | exact(qbh ..).of (Zz h)
   | exact(q3e ..).of (Zz h)
   | exact(qqt ..).of (Zz h)
   | exact qj0 ((q3e ..).of (ZD h)) (ZD h)
   | (split<;>exact ZD h)
theorem qvg (p:Program) (listen:Bool) (fr:Frame) (cs:List Frame) (d:Option Dying) (w:World):GM w (stepG.oper p listen fr cs d w):=by
 unfold stepG.oper
 split
 ·exact qQN _
 ·split<;>exact q8o ..
set_option maxHeartbeats 4000000 in
theorem qwb (p:Program) (main listen:Bool) (fr:Frame) (cs:List Frame) (d:Option Dying) (w:World):GM w (stepG.exec p main listen fr cs d w):=by
 have hleave:∀jump:Option Code,GM w (match fr.roundOf with
   | none=>if jump matches none|some .ret then .go { frame:={ fr with mode := .returning },callers:=cs,status := .running,dying:=d } w else .ended (.stuck "exit, goto: no such block or label" (fr.pos p)) w
   | some l=>
    let (r,es):=(Instr.endRound l jump).runT p w #[]
    GStep.after (seen p fr.fn es) <| match r with
    | .ok v w=>doReturn p main fr cs d v w
    | .halt _ w => .ended (.stuck "range over a function: no such loop" (fr.pos p)) w):=fun jump=>by
  split
  ·exact qj0 (qQN _) (qQN _)
  ·rw[Sem.runT_eq]
   refine GM.after ?_
   split<;>rename_i h
   ·exact(q3f ..).of (ZD h)
   ·exact Zz h
 unfold stepG.exec
 dsimp only
 split
 all_goals first
  | exact qQN _
  | exact hleave _
  | exact q8o ..
  | skip
 all_goals try simp only[Option.elim,Sem.runT_eq]
 case h_15=>
  refine GM.after ?_
  split
  ·rename_i h
   exact GM.of (q8o p listen _ _ _ _ _) (ZD h)
  ·rename_i h
   exact Zz h
 all_goals repeat' first
  | exact qQN _
  | exact q8o ..
  | exact qvg ..
  | refine GM.after ?_
  | refine qj0 ?_ ?_
  | (rename_i h;exact ZD h)
  | (rename_i h;exact Zz h)
  | (rename_i h;exact(q3f ..).of (ZD h))
  | (rename_i h;refine GM.of ?_ (ZD h);first|exact q8o .. | exact q3f ..)
  | split
theorem qqV (p:Program) (main:Bool) (g:Goroutine) (w:World) (listen:Bool):GM w (stepG p main g w listen):=by
 unfold stepG
 dsimp only
 split
 ·exact qCN ..
 ·exact qwb ..
 ·exact qoR ..
def SM (w:World):Stepped→Prop
 | .next m=>w.drawn≤m.world.drawn
 | _=>True
theorem SM.of {w w':World} {s:Stepped} (h:SM w' s) (hw:w.drawn≤w'.drawn):SM w s:=by
 cases s with
 | next m=>exact qR8 hw h
 | _=>trivial
theorem qCU {c:Prop} [Decidable c] {w:World} {a b:Stepped} (h1:SM w a) (h2:SM w b):SM w (if c then a else b):=by split<;>assumption
theorem qp2 (p:Program) (gs:Array Goroutine) (rest:Rest) (w:World):SM w (look p gs rest w):=by
 unfold look
 split
 ·dsimp only
  refine qCU trivial ?_
  split
  ·trivial
  ·split
   ·rename_i h;have h':=ZD h;exact h'
   ·trivial
   ·trivial
 ·trivial
theorem qqu (p:Program) (m:Machine) (k:Nat):SM m.world (serve p m k):=by
 unfold serve
 split
 ·trivial
 ·exact qQN _
 ·dsimp only
  split
  ·trivial
  ·exact qQN _
theorem qhA (w:World) (c:Nat):(drain w c).2.drawn=w.drawn:=by
 unfold drain
 split<;>rfl
theorem q9S (m:Machine) (k:Nat) (t:Timer) (a b:Nat):(retime m k t a b).2.world.drawn=m.world.drawn:=by
 unfold retime
 cases t.chan with
 | none=>rfl
 | some c=>exact qhA m.world c
theorem qdP {m:Machine} {op:TimerOp} {v:Value} {m':Machine} (h:timerOp m op = .ok (v,m')):m'.world.drawn=m.world.drawn:=by
 unfold timerOp at h
 split at h
 ·split at h
  ·injection h with h;injection h with _ h;subst h;rfl
  ·split at h
   ·split at h
    ·cases h
    ·injection h with h;injection h with _ h;subst h;rfl
   ·cases h
 ·unfold timerOp.named at h
  split at h
  ·injection h with h
   have:=congrArg (fun q=>q.2.world.drawn) h
   dsimp only at this
   rw[←this];exact q9S ..
  ·cases h
 ·split at h
  ·rename_i m1 hm
   have h1:m1.world.drawn=m.world.drawn:=by
    unfold timerOp.opened at hm
    split at hm
    ·split at hm
     ·injection hm with hm;subst hm;rfl
     ·cases hm
    ·injection hm with hm;subst hm;rfl
   unfold timerOp.named at h
   split at h
   ·injection h with h
    have:=congrArg (fun q=>q.2.world.drawn) h
    dsimp only at this
    rw[←this];exact(q9S ..).trans h1
   ·cases h
  ·cases h
 ·dsimp only at h
  injection h with h;injection h with _ h;subst h;rfl
theorem qco (p:Program) (rest:Rest) (gs:Array Goroutine) (i:Nat) (g:Goroutine) (cases:Array CommCase) (b:Bool) (shape:CommShape) (w:World):SM w (communicate p rest gs i g cases b shape w).1:=by
 unfold communicate
 dsimp only
 split
 ·trivial
 ·split
  ·split
   ·split
    ·rename_i h
     unfold waitingAt at h
     split at h
     ·split at h
      ·injection h with h;subst h;exact qQN _
      ·cases h
     ·injection h with h;subst h;exact qQN _
    ·trivial
   ·exact qQN _
  ·split
   ·trivial
   ·rename_i h
    refine SM.of ?_ (ZD h)
    split
    ·split
     ·rename_i h;have h':=Zz h;exact h'
     ·trivial
    ·exact qQN _
    ·exact qQN _
    ·split
     ·exact qQN _
     ·split
      ·rename_i h;have h':=ZD h;exact h'
      ·trivial
    ·exact qQN _
    ·exact qQN _
    ·trivial
theorem qx1 (p:Program) (m:Machine) (i:Nat) (listen:Bool):SM m.world (runT p m i listen).1:=by
 unfold runT
 dsimp only
 generalize hg:(m.gs.swapAt! i { (default:Goroutine) with status := .finished })=q
 obtain⟨g,gs⟩:=q
 dsimp only
 have hS:=qqV p (i==0) g m.world listen
 generalize stepG p (i==0) g m.world listen=s at hS
 cases s with
 | ended o w es=>trivial
 | comm g cases b shape w es=>exact(qco ..).of hS
 | go g w es=>exact hS
 | spawn g c w es=>exact hS
 | count g w es=>
  dsimp only
  split
  ·trivial
  ·exact hS
 | alone g on w es=>exact hS
 | collect g w es=>exact(qp2 ..).of hS
 | watch g w es=>exact hS
 | newcoro g c d w es=>exact hS
 | coroswitch g c ex w es=>
  dsimp only
  split
  ·exact hS
  ·split
   ·rename_i h
    have h':=q3e g.frame "coroswitch on exited coro" w
    rw[h] at h'
    exact qR8 hS h'
   ·trivial
  ·trivial
 | timer g op w es=>
  dsimp only
  split
  ·rename_i h
   have h':=qdP h
   show m.world.drawn≤_
   rw[show ∀(a:Machine) (b:Array Goroutine),({ a with gs:=b }:Machine).world.drawn=a.world.drawn from fun _ _=>rfl,h']
   exact hS
  ·split
   ·rename_i msg _ _ _ _ _ h
    have h':=q3e g.frame msg w
    rw[h] at h'
    exact qR8 hS h'
   ·trivial
  ·trivial
  ·trivial
def MM (w:World):Move→Prop
 | .goroutine m _=>w.drawn≤m.world.drawn
 | .machine s _=>SM w s
theorem MM.of {w w':World} {s:Move} (h:MM w' s) (hw:w.drawn≤w'.drawn):MM w s:=by
 cases s with
 | goroutine m i=>exact qR8 hw h
 | machine s o=>exact SM.of h hw
theorem qdX (p:Program) (m:Machine):MM m.world (askOn p m):=by
 unfold askOn
 dsimp only
 split
 ·trivial
 ·rename_i h
  have h0:=ZD h
  split
  ·exact(qqu p _ _).of h0
  ·split
   ·split
    ·exact h0
    ·split
     ·exact h0
     ·split<;>trivial
   ·split
    ·split
     ·trivial
     ·rename_i h1
      have h1':=ZD h1
      split
      ·exact qR8 h0 h1'
      ·split
       ·trivial
       ·rename_i h2;exact qR8 (qR8 h0 h1') (ZD h2)
    ·split
     ·trivial
     ·rename_i h2
      have h2':=ZD h2
      split
      ·trivial
      ·rename_i h1
       have h1':=ZD h1
       split
       ·exact qR8 (qR8 h0 h2') h1'
       ·split
        ·trivial
        ·rename_i h3;exact qR8 (qR8 (qR8 h0 h2') h1') (ZD h3)
     ·rename_i h2;have h2':=ZD h2;exact qR8 h0 h2'
     ·rename_i h2
      have h2':=ZD h2
      split
      ·trivial
      ·rename_i h1
       have h1':=ZD h1
       split
       ·exact qR8 (qR8 h0 h2') h1'
       ·split
        ·trivial
        ·rename_i h3;exact qR8 (qR8 (qR8 h0 h2') h1') (ZD h3)
theorem qtS (p:Program) (m:Machine):MM m.world (ask p m):=by
 unfold ask
 split
 ·split
  ·trivial
  ·rename_i h
   refine MM.of (w':=_) ?_ (ZD h)
   have hl:=qp2 p m.gs m.rest ‹World›
   split
   ·rename_i h2;rw[h2] at hl;exact(qdX p _).of hl
   ·exact hl
  ·rename_i h
   exact(qdX p _).of (ZD h)
 ·exact qdX p m
theorem quw (p:Program) (m:Machine):MM m.world (move p m):=by
 unfold move
 split
 ·split
  ·exact qQN _
  ·trivial
 ·split
  ·split
   ·exact qQN _
   ·exact qtS p _
  ·exact qtS p m
theorem qxn (p:Program) (m:Machine):SM m.world (step p m):=by
 unfold step stepT
 have h:=quw p m
 split
 ·rename_i h2;rw[h2] at h;exact(qx1 ..).of h
 ·rename_i h2;rw[h2] at h;exact h
theorem qcY (p:Program):∀(n:Nat) (m m':Machine),runN p n m = .next m'→m.world.drawn≤m'.world.drawn
 | 0,m,m',h=>by unfold runN at h;injection h with h;subst h;exact qQN _
 | n+1,m,m',h=>by
  unfold runN at h
  have hs:=qxn p m
  split at h
  ·rename_i h2
   rw[h2] at hs
   exact qR8 hs (qcY p n _ _ h)
  ·rename_i h2
   exact absurd h (h2 _)
theorem Steps.drawn {P:Program} {m m':Machine} (h:Steps P m m'):m.world.drawn≤m'.world.drawn:=by
 obtain⟨n,hn⟩:=h
 exact qcY P n m m' hn
theorem Calls.drawn {P:Program} {f:FuncId} {args:Array Value} {w:World} {R:Ending→World→Prop} (h:Calls P f args w R):Calls P f args w fun e w'=>R e w'∧(e ≠ .outgrown→w.drawn≤w'.drawn):=fun cs=>by
 obtain⟨e,w',fr,h1,h2,h3⟩:=h cs
 refine⟨e,w',fr,⟨h1,fun he=>?_⟩,h2,h3⟩
 cases e with
 | outgrown=>exact absurd rfl he
 | returned v=>exact Steps.drawn h2
 | panicked c=>exact Steps.drawn h2
end Go
namespace Go.Proofs.YtofbcijbpfjliaaGreat.Vc
end Go.Proofs.YtofbcijbpfjliaaGreat.Vc
namespace Go
open Go.Sort
theorem qvC {w w':World} (h:w.grownBy w' none) (hd:w.drawn≤w'.drawn):∃q os',w'=grow (w.drewN q) os':=by
 refine⟨w'.drawn-w.drawn,w'.heap.extract w.heap.size w'.heap.size,?_⟩
 obtain⟨h1,h2,h3,h4,h5⟩:=h
 unfold grow World.drewN
 obtain⟨heap',tape',drawn',os',output'⟩:=w'
 obtain⟨heap,tape,drawn,os,output⟩:=w
 dsimp only at *
 subst h1 h2 h3
 congr 1
 ·apply Array.ext_getElem?
  intro k
  rw[Array.getElem?_append]
  split
  ·rename_i hk
   exact h5 k hk (by intro e;cases e)
  ·rename_i hk
   rw[Array.getElem?_extract]
   by_cases hk2:k<heap'.size
   ·rw[if_pos (by omega),show heap.size+(k-heap.size)=k by omega]
   ·rw[if_neg (by omega)]
    exact Array.getElem?_eq_none (by omega)
 ·omega
end Go
namespace Go.Proofs.YtofbcijbpfjliaaGreat.Vc
noncomputable section
open Go.RowKit
structure OrB (f:Int→Int→Option Int) (zs:List Int):Prop where
 ir:∀x∈zs,ltB f x x=false
 tot:∀x∈zs,∀y∈zs,x=y∨ltB f x y=true∨ltB f y x=true
 tr:∀x∈zs,∀y∈zs,∀z∈zs,ltB f x y=true→ltB f y z=true→ltB f x z=true
theorem qoy {f:Int→Int→Option Int} {zs:List Int} (h:okB f zs=true):OrB f zs:=by
 unfold okB at h
 rw[qR3,qR3,qR3] at h
 obtain⟨⟨⟨-,h2⟩,h3⟩,h4⟩:=h
 refine⟨fun x hx=>?_,fun x hx y hy=>?_,fun x hx y hy z hz a b=>?_⟩
 ·simpa using qQO.1 h2 x hx
 ·have:=qQO.1 (qQO.1 h3 x hx) y hy
  rw[qR2,qR2,qRx,or_assoc] at this
  exact this
 ·have:=qQO.1 (qQO.1 (qQO.1 h4 x hx) y hy) z hz
  rw[a,b] at this
  simpa using this
theorem OrB.asym {f:Int→Int→Option Int} {zs:List Int} (h:OrB f zs) {x y:Int} (hx:x∈zs) (hy:y∈zs) (a:ltB f x y=true):ltB f y x=false:=by
 cases b:ltB f y x with
 | false=>rfl
 | true=>have:=h.tr x hx y hy x hx a b;rw[h.ir x hx] at this;cases this
theorem OrB.anti {f:Int→Int→Option Int} {zs:List Int} (h:OrB f zs) {x y:Int} (hx:x∈zs) (hy:y∈zs) (a:ltB f x y=false) (b:ltB f y x=false):x=y:=by
 rcases h.tot x hx y hy with e|e|e
 ·exact e
 ·rw[e] at a;cases a
 ·rw[e] at b;cases b
theorem OrB.ntr {f:Int→Int→Option Int} {zs:List Int} (h:OrB f zs) {x y z:Int} (hx:x∈zs) (hy:y∈zs) (hz:z∈zs) (a:ltB f x y=false) (b:ltB f y z=false):ltB f x z=false:=by
 cases c:ltB f x z with
 | false=>rfl
 | true=>
  rcases h.tot x hx y hy with e|e|e
  ·subst e;rw[b] at c;cases c
  ·rw[a] at e;cases e
  ·have:=h.tr y hy x hx z hz e c
   rw[b] at this;cases this
theorem qg4 (f:Int→Int→Option Int) (x:Int):∀l:List Int,(qeT f x l).Perm (x::l)
 | [] => .refl _
 | y::l=>by
  unfold qeT
  split
  ·exact((qg4 f x l).cons y).trans (.swap x y l)
  ·exact .refl _
theorem qcR (f:Int→Int→Option Int):∀l:List Int,(q0v f l).Perm l
 | [] => .refl _
 | x::l=>by
  unfold q0v
  exact(qg4 f x _).trans ((qcR f l).cons x)
theorem qbp {f:Int→Int→Option Int} {zs:List Int} (h:OrB f zs) {x:Int} (hx:x∈zs):∀{l:List Int},(∀y∈l,y∈zs)→l.Pairwise (fun a b=>ltB f b a=false)→(qeT f x l).Pairwise fun a b=>ltB f b a=false
 | [],_,_=>by simp[qeT]
 | y::l,hl,hp=>by
  have hy:=hl y qQM
  unfold qeT
  obtain⟨h1,h2⟩:=List.pairwise_cons.1 hp
  split
  ·rename_i hyx
   refine List.pairwise_cons.2 ⟨fun z hz=>?_,qbp h hx (fun z hz=>hl z (qQF _ hz)) h2⟩
   rcases(qaU f x l z).1 hz with rfl|hz
   ·exact h.asym hy hx hyx
   ·exact h1 z hz
  ·rename_i hyx
   rw[Bool.not_eq_true] at hyx
   refine List.pairwise_cons.2 ⟨fun z hz=>?_,hp⟩
   rcases qQT.1 hz with rfl|hz
   ·exact hyx
   ·exact h.ntr (hl z (qQF _ hz)) hy hx (h1 z hz) hyx
theorem q9U {f:Int→Int→Option Int} {zs:List Int} (h:OrB f zs):∀{l:List Int},(∀y∈l,y∈zs)→(q0v f l).Pairwise fun a b=>ltB f b a=false
 | [],_ => .nil
 | x::l,hl=>by
  unfold q0v
  exact qbp h (hl x qQM) (fun y hy=>hl y (qQF _ ((q2q f l y).1 hy))) (q9U h fun y hy=>hl y (qQF _ hy))
theorem qcT {f:Int→Int→Option Int} {zs:List Int} (h:OrB f zs):∀{l m:List Int},(∀y∈l,y∈zs)→l.Perm m→l.Pairwise (fun a b=>ltB f b a=false)→m.Pairwise (fun a b=>ltB f b a=false)→l=m
 | [],m,_,hp,_,_=>(List.nil_perm.1 hp).symm
 | x::l,m,hz,hp,hl,hm=>by
  cases m with
  | nil=>exact absurd (List.perm_nil.1 hp) (by simp)
  | cons y m=>
   obtain⟨h1,h2⟩:=List.pairwise_cons.1 hl
   obtain⟨h3,h4⟩:=List.pairwise_cons.1 hm
   have hxy:x=y:=by
    have a1:y∈x::l:=hp.mem_iff.2 qQM
    have a2:x∈y::m:=hp.mem_iff.1 qQM
    rcases qQT.1 a1 with e|a1'
    ·exact e.symm
    rcases qQT.1 a2 with e|a2'
    ·exact e
    exact h.anti (hz x qQM) (hz y a1) (h3 x a2') (h1 y a1')
   subst hxy
   rw[qcT h (fun y hy=>hz y (qQF _ hy)) (List.Perm.cons_inv hp) h2 h4]
abbrev El (zs:List Int):={x:Int // x∈zs}
def enE (zs:List Int) (x:El zs):Value := .int .i64 x.1
def cfE (f:Int→Int→Option Int) (zs:List Int) (x y:El zs):Int:=(f x.1 y.1).getD 0
theorem qF6 {f:Int→Int→Option Int} {zs:List Int} (h:okB f zs=true) (x y:El zs):ltOf (cfE f zs) x y=ltB f x.1 y.1:=by
 unfold ltOf cfE ltB
 obtain⟨c,hc⟩:=q7P h x.1 x.2 y.1 y.2
 rw[hc];rfl
theorem qFW {f:Int→Int→Option Int} {zs:List Int} (h:okB f zs=true):Go.Sort.SWO (ltOf (cfE f zs)):=by
 have ho:=qoy h
 refine⟨fun x=>?_,fun x y z a b=>?_,fun x y z a b=>?_⟩
 ·rw[qF6 h];exact ho.ir x.1 x.2
 ·rw[qF6 h] at *;exact ho.tr _ x.2 _ y.2 _ z.2 a b
 ·rw[qF6 h] at *;exact ho.ntr x.2 y.2 z.2 a b
theorem qHy {P:Program} {g:FuncId} {f:Int→Int→Option Int} {zs:List Int} [Inhabited (El zs)] (hc:∀x∈zs,∀y∈zs,∀W:World,Calls P g #[.int .i64 x,.int .i64 y] W fun e' W'=>(∃v,f x y=some v∧e' = .returned (.int .i64 v))∧W.grownBy W' none) (blk off size:Nat) (w:World):CmpLays1 P g #[] (enE zs) (cfE f zs) blk off size w:=by
 intro m os dk hs x y
 generalize sortWorld (enE zs) w blk off m dk os=W
 have e:(#[enE zs x,enE zs y] ++ #[]:Array Value)=#[.int .i64 x.1,.int .i64 y.1]:=by simp[enE]
 rw[e]
 refine(Calls.drawn (hc x.1 x.2 y.1 y.2 W)).mono ?_
 rintro e W' ⟨⟨⟨v,h1,rfl⟩,hg⟩,hd⟩
 refine⟨?_,qvC hg (hd (by intro h;cases h))⟩
 unfold cfE
 rw[h1];rfl
theorem qqr {f:Int→Int→Option Int} {zs:List Int} [Inhabited (El zs)] (h:okB f zs=true) {d':Array (El zs)} (hp:Go.Sort.PermIn 0 zs.attach.toArray.size zs.attach.toArray d') (hs:Go.Sort.SortedIn (ltOf (cfE f zs)) 0 zs.attach.toArray.size d') :
  d'.toList.map (·.1)=q0v f zs∧d'.size=zs.length:=by
 have hsz:zs.attach.toArray.size=zs.length:=by simp
 obtain⟨p1,-,p3⟩:=hp
 have hd:d'.size=zs.length:=p1.trans hsz
 have e1:d'.extract 0 zs.attach.toArray.size=d':=by
  rw[←p1];exact Array.extract_size
 have e2:zs.attach.toArray.extract 0 zs.attach.toArray.size=zs.attach.toArray:=Array.extract_size
 rw[e1,e2] at p3
 have p4:(d'.toList.map (·.1)).Perm zs:=by
  have:=p3.map (·.1)
  simpa using this
 refine⟨?_,hd⟩
 refine qcT (qoy h) (zs:=zs) (fun y hy=>p4.mem_iff.1 hy) (p4.trans (qcR f zs).symm) ?_ (q9U (qoy h) fun y hy=>hy)
 rw[List.pairwise_map,List.pairwise_iff_getElem]
 intro i j hi hj hij
 have:=hs i j (qQX _) hij (by rw[hsz,←hd];simpa using hj)
 rw[qF6 h] at this
 rw[getElem!_pos d' i (by simpa using hi),getElem!_pos d' j (by simpa using hj)] at this
 simpa using this
theorem qgT {zs:List Int} [Inhabited (El zs)] {w:World} {b m:Nat} {d':Array (El zs)} {os:Array Obj} {cur:Array Value} {e:TypeId} (hb:w.heap[b]?=some (.cells cur e (0,0))) (hd:d'.size≤cur.size) :
  w.grownBy (sortWorld (enE zs) w b 0 m d' os) (some b)∧∃cur':Array Value,(sortWorld (enE zs) w b 0 m d' os).heap[b]?=some (.cells cur' e (0,0))∧cur'.size=cur.size∧cur'.toList.take d'.size=d'.toList.map (enE zs):=by
 have hlt:b<w.heap.size:=(Array.getElem?_eq_some_iff.1 hb).1
 have hh:(sortWorld (enE zs) w b 0 m d' os).heap=(w.heap.modify b (Go.Sort.onCells (Go.Sort.putCells (enE zs) 0 d')))++os:=rfl
 refine⟨⟨rfl,rfl,rfl,?_,fun k hk hn=>?_⟩,Go.Sort.putCells (enE zs) 0 d' cur,?_,?_,?_⟩
 ·rw[hh];simp
 ·rw[hh,Array.getElem?_append_left (by simpa using hk),Array.getElem?_modify,if_neg (fun e=>hn (by rw[e]))]
 ·rw[hh,Array.getElem?_append_left (by simpa using hlt),Array.getElem?_modify,if_pos rfl,hb];rfl
 ·unfold Go.Sort.putCells;simp
 ·apply List.ext_getElem
  ·unfold Go.Sort.putCells;simp;omega
  ·intro i hi hi2
   have hi3:i<d'.size:=by simpa using hi2
   unfold Go.Sort.putCells
   simp[hi3]
theorem quy {P:Program} {f:FuncId} {fn:Func} {e:TypeId} (hf:P.funcs[f]?=some fn) (hname:(fn.name == "runtime.NumGoroutine")=false) (hb:fn.body.isNone=false)
  (h1:∀(zs:List Int) [Inhabited (El zs)] (cf:El zs→El zs→Int),Go.Sort.SWO (ltOf cf)→∀(g:Nat) (blk cap:Nat) (d:Array (El zs)) (w:World),(∀args w,(callFunc g args).run P w = .ok (.enter g args) w)→CmpLays1 P g #[] (enE zs) cf blk 0 d.size w→Go.Sort.Holds (enE zs) w blk 0 d→blk<w.heap.size→d.size<4611686018427387904→
   Calls P f #[.slice (some ⟨blk,0,none⟩) d.size cap,.func (.func g) #[] #[]] w fun e w'=>e = .returned (.tuple #[])∧∃d' n os,Go.Sort.PermIn 0 d.size d d'∧Go.Sort.SortedIn (ltOf cf) 0 d.size d'∧w'=sortWorld (enE zs) w blk 0 n d' os):qFx P f e:=by
 refine⟨⟨fn,hf,hname,hb⟩,fun c fc b cap zs w cur q1 htk c2 c3 c4 heg hcmp=>?_⟩
 have hzl:zs.length≤cur.size:=by
  have:=congrArg List.length htk
  simp only[qR0,qRg,Array.length_toList] at this
  omega
 have hcell:∀(i:Nat) (h:i<zs.length),cur[i]?=some (.int .i64 zs[i]):=fun i hi=>by
  have h3:(cur.toList.take zs.length)[i]?=some (.int .i64 zs[i]):=by rw[htk,qQL,qQz hi];rfl
  rw[qR6 hi,Array.getElem?_toList] at h3
  exact h3
 haveI:Inhabited (El zs):=⟨⟨zs[0]'(by omega),qRp _⟩⟩
 have hds:zs.attach.toArray.size=zs.length:=by simp
 have hdj:∀j (h:j<zs.length),enE zs zs.attach.toArray[j]! = .int .i64 zs[j]:=fun j hj=>by
  rw[getElem!_pos _ j (by rw[hds];exact hj)]
  simp[enE]
 have hblk:b<w.heap.size:=(Array.getElem?_eq_some_iff.1 q1).1
 have hH:Go.Sort.Holds (enE zs) w b 0 zs.attach.toArray:=fun j hj=>by
  rw[hds] at hj
  rw[hdj j hj]
  refine⟨?_,?_⟩
  ·simp[World.cell?,q1,hcell j hj]
  ·simp[World.frozen?,q1]
 have hcall:=h1 zs (cfE fc zs) (qFW c4) c b cap zs.attach.toArray w heg (qHy hcmp b 0 _ w) hH hblk (by rw[hds];omega)
 rw[hds] at hcall
 refine hcall.mono fun e2 w'=>?_
 rintro⟨rfl,d',nn,os,hP,hS,rfl⟩
 rw[←hds] at hP hS
 obtain⟨s1,s2⟩:=qqr c4 hP hS
 obtain⟨hg,cur',r1,r2,r3⟩:=qgT (m:=nn) (os:=os) (d':=d') q1 (by omega)
 refine⟨rfl,hg,cur',r1,r2,?_⟩
 rw[←s2,r3,←s1,List.map_map];rfl
end
noncomputable section
open Go.Shelf Go.RowKit Go.Sort
def qaf:Go.Shelf.Ren:=⟨fun | 6=>54 | 15=>91 | 14=>90 | 28=>126 | 29=>127 | 20=>118 | 21=>119 | 22=>120 | 23=>121 | 24=>122 | 25=>123 | 26=>124 | 27=>125 | 46=>148 | 47=>149 | 48=>150 | 49=>151 | 50=>152 | 57=>159|n=>n,fun | 22=>25 | 24=>3 | 25=>61 | 3=>3 | 39=>118 | 0=>0 | 53=>155 | 55=>157 | 4=>4 | 46=>172 | 45=>171 | 50=>176 | 5=>5 | 9=>9 | 66=>192 | 70=>196 | 76=>203 | 77=>204|n=>n,fun|n=>n⟩
theorem qfT:Go.Proofs.SlLaysF.n6 Tryz.prog qaf:={
 mixed:=by kernel_rfl
 f6:=⟨Tryz.f54.name,by decide,Tryz.func54.trans (congrArg some (by kernel_rfl))⟩
 f14:=⟨Tryz.f90.name,by decide,Tryz.func90.trans (congrArg some (by kernel_rfl))⟩
 f15:=Tryz.func91.trans (congrArg some (by kernel_rfl))
 f20:=⟨Tryz.f118.name,by decide,Tryz.func118.trans (congrArg some (by kernel_rfl))⟩
 f21:=⟨Tryz.f119.name,by decide,Tryz.func119.trans (congrArg some (by kernel_rfl))⟩
 f22:=⟨Tryz.f120.name,by decide,Tryz.func120.trans (congrArg some (by kernel_rfl))⟩
 f23:=⟨Tryz.f121.name,by decide,Tryz.func121.trans (congrArg some (by kernel_rfl))⟩
 f24:=⟨Tryz.f122.name,by decide,Tryz.func122.trans (congrArg some (by kernel_rfl))⟩
 f25:=⟨Tryz.f123.name,by decide,Tryz.func123.trans (congrArg some (by kernel_rfl))⟩
 f26:=⟨Tryz.f124.name,by decide,Tryz.func124.trans (congrArg some (by kernel_rfl))⟩
 f27:=⟨Tryz.f125.name,by decide,Tryz.func125.trans (congrArg some (by kernel_rfl))⟩
 f28:=Tryz.func126.trans (congrArg some (by kernel_rfl))
 f29:=Tryz.func127.trans (congrArg some (by kernel_rfl))
 f46:=⟨Tryz.f148.name,by decide,Tryz.func148.trans (congrArg some (by kernel_rfl))⟩
 f47:=Tryz.func149.trans (congrArg some (by kernel_rfl))
 f48:=Tryz.func150.trans (congrArg some (by kernel_rfl))
 f49:=⟨Tryz.f151.name,by decide,Tryz.func151.trans (congrArg some (by kernel_rfl))⟩
 f50:=⟨Tryz.f152.name,by decide,Tryz.func152.trans (congrArg some (by kernel_rfl))⟩
 f57:=⟨Tryz.f159.name,by decide,Tryz.func159.trans (congrArg some (by kernel_rfl))⟩
 t0:=Tryz.underlying0
 a0:=Tryz.isAgg0
 z0:=Tryz.sizeOf0
 v0:=Tryz.zeroValue0
 t3:=Tryz.underlying3
 a3:=Tryz.isAgg3
 z3:=Tryz.sizeOf3
 v3:=Tryz.zeroValue3
 t4:=Tryz.underlying4
 a4:=Tryz.isAgg4
 z4:=Tryz.sizeOf4
 v4:=Tryz.zeroValue4
 t5:=Tryz.underlying5
 a5:=Tryz.isAgg5
 z5:=Tryz.sizeOf5
 v5:=Tryz.zeroValue5
 t9:=Tryz.underlying9
 a9:=Tryz.isAgg9
 z9:=Tryz.sizeOf9
 v9:=Tryz.zeroValue9
 t22:=Tryz.underlying25
 a22:=Tryz.isAgg25
 z22:=Tryz.sizeOf25
 v22:=Tryz.zeroValue25
 a24:=Tryz.isAgg3
 z24:=Tryz.sizeOf3
 t25:=Tryz.underlying61
 a25:=Tryz.isAgg61
 z25:=Tryz.sizeOf61
 v25:=Tryz.zeroValue61
 t39:=Tryz.underlying118
 a39:=Tryz.isAgg118
 z39:=Tryz.sizeOf118
 v39:=Tryz.zeroValue118
 t45:=Tryz.underlying171
 a45:=Tryz.isAgg171
 z45:=Tryz.sizeOf171
 v45:=Tryz.zeroValue171
 t46:=Tryz.underlying172
 a46:=Tryz.isAgg172
 z46:=Tryz.sizeOf172
 v46:=Tryz.zeroValue172
 t50:=Tryz.underlying176
 a50:=Tryz.isAgg176
 z50:=Tryz.sizeOf176
 v50:=Tryz.zeroValue176
 t53:=Tryz.underlying155
 a53:=Tryz.isAgg155
 z53:=Tryz.sizeOf155
 v53:=Tryz.zeroValue155
 t55:=Tryz.underlying157
 a55:=Tryz.isAgg157
 z55:=Tryz.sizeOf157
 v55:=Tryz.zeroValue157
 t66:=Tryz.underlying192
 a66:=Tryz.isAgg192
 z66:=Tryz.sizeOf192
 v66:=Tryz.zeroValue192
 t70:=Tryz.underlying196
 a70:=Tryz.isAgg196
 z70:=Tryz.sizeOf196
 v70:=Tryz.zeroValue196
 t76:=Tryz.underlying203
 a76:=Tryz.isAgg203
 z76:=Tryz.sizeOf203
 v76:=Tryz.zeroValue203
 t77:=Tryz.underlying204
 a77:=Tryz.isAgg204
 z77:=Tryz.sizeOf204
 v77:=Tryz.zeroValue204 }
theorem qPB:qFx Tryz.prog 54 3:=quy (fn:=Tryz.f54) (by kernel_rfl) (by kernel_rfl) (by kernel_rfl) (fun zs _ cf hO g blk cap d w eg hc hH hb hs=>Any.slices_SortFunc qfT (enE zs) (fun _=>rfl) cf hO g #[] blk 0 cap d w eg hc hH hb hs)
def qhH:Go.Shelf.Ren:=⟨fun | 189=>70 | 125=>91 | 257=>102 | 128=>126 | 129=>127 | 294=>129 | 295=>130 | 296=>131 | 297=>132 | 298=>133 | 299=>134 | 216=>135 | 300=>136 | 301=>137 | 328=>153 | 329=>149 | 330=>150 | 331=>154 | 332=>155 | 215=>92 | 343=>160|n=>n,fun | 28=>25 | 3=>3 | 46=>118 | 0=>0 | 51=>155 | 53=>157 | 4=>4 | 183=>172 | 182=>171 | 131=>176 | 5=>5 | 9=>9 | 218=>192 | 222=>196 | 228=>203 | 229=>204|n=>n,fun|n=>n⟩
theorem qnR:Go.Proofs.Lays.n189 Tryz.prog qhH:={
 mixed:=by kernel_rfl
 f125:=Tryz.func91.trans (congrArg some (by kernel_rfl))
 f128:=Tryz.func126.trans (congrArg some (by kernel_rfl))
 f129:=Tryz.func127.trans (congrArg some (by kernel_rfl))
 f189:=Tryz.func70.trans (congrArg some (by kernel_rfl))
 f215:=Tryz.func92.trans (congrArg some (by kernel_rfl))
 f216:=Tryz.func135.trans (congrArg some (by kernel_rfl))
 f257:=Tryz.func102.trans (congrArg some (by kernel_rfl))
 f294:=Tryz.func129.trans (congrArg some (by kernel_rfl))
 f295:=Tryz.func130.trans (congrArg some (by kernel_rfl))
 f296:=Tryz.func131.trans (congrArg some (by kernel_rfl))
 f297:=Tryz.func132.trans (congrArg some (by kernel_rfl))
 f298:=Tryz.func133.trans (congrArg some (by kernel_rfl))
 f299:=Tryz.func134.trans (congrArg some (by kernel_rfl))
 f300:=Tryz.func136.trans (congrArg some (by kernel_rfl))
 f301:=Tryz.func137.trans (congrArg some (by kernel_rfl))
 f328:=Tryz.func153.trans (congrArg some (by kernel_rfl))
 f329:=Tryz.func149.trans (congrArg some (by kernel_rfl))
 f330:=Tryz.func150.trans (congrArg some (by kernel_rfl))
 f331:=Tryz.func154.trans (congrArg some (by kernel_rfl))
 f332:=Tryz.func155.trans (congrArg some (by kernel_rfl))
 f343:=Tryz.func160.trans (congrArg some (by kernel_rfl))
 t0:=Tryz.underlying0
 a0:=Tryz.isAgg0
 z0:=Tryz.sizeOf0
 v0:=Tryz.zeroValue0
 t3:=Tryz.underlying3
 a3:=Tryz.isAgg3
 z3:=Tryz.sizeOf3
 v3:=Tryz.zeroValue3
 t4:=Tryz.underlying4
 a4:=Tryz.isAgg4
 z4:=Tryz.sizeOf4
 v4:=Tryz.zeroValue4
 t5:=Tryz.underlying5
 a5:=Tryz.isAgg5
 z5:=Tryz.sizeOf5
 v5:=Tryz.zeroValue5
 t9:=Tryz.underlying9
 a9:=Tryz.isAgg9
 z9:=Tryz.sizeOf9
 v9:=Tryz.zeroValue9
 t28:=Tryz.underlying25
 a28:=Tryz.isAgg25
 z28:=Tryz.sizeOf25
 v28:=Tryz.zeroValue25
 t46:=Tryz.underlying118
 a46:=Tryz.isAgg118
 z46:=Tryz.sizeOf118
 v46:=Tryz.zeroValue118
 t51:=Tryz.underlying155
 a51:=Tryz.isAgg155
 z51:=Tryz.sizeOf155
 v51:=Tryz.zeroValue155
 t53:=Tryz.underlying157
 a53:=Tryz.isAgg157
 z53:=Tryz.sizeOf157
 v53:=Tryz.zeroValue157
 t131:=Tryz.underlying176
 a131:=Tryz.isAgg176
 z131:=Tryz.sizeOf176
 v131:=Tryz.zeroValue176
 t182:=Tryz.underlying171
 a182:=Tryz.isAgg171
 z182:=Tryz.sizeOf171
 v182:=Tryz.zeroValue171
 t183:=Tryz.underlying172
 a183:=Tryz.isAgg172
 z183:=Tryz.sizeOf172
 v183:=Tryz.zeroValue172
 t218:=Tryz.underlying192
 a218:=Tryz.isAgg192
 z218:=Tryz.sizeOf192
 v218:=Tryz.zeroValue192
 t222:=Tryz.underlying196
 a222:=Tryz.isAgg196
 z222:=Tryz.sizeOf196
 v222:=Tryz.zeroValue196
 t228:=Tryz.underlying203
 a228:=Tryz.isAgg203
 z228:=Tryz.sizeOf203
 v228:=Tryz.zeroValue203
 t229:=Tryz.underlying204
 a229:=Tryz.isAgg204
 z229:=Tryz.sizeOf204
 v229:=Tryz.zeroValue204 }
theorem qNA:qF8 Tryz.prog 70 q2W:=qm9 (fn:=Tryz.f70) (by kernel_rfl) (by kernel_rfl) (by kernel_rfl) (Any.slices_Sort_int qnR) (Any.slices_Sort_int_none qnR)
end
noncomputable section
def br {α:Type} (n k:Nat) (a b:α):α:=bif Nat.blt n k then a else b
def tk (t:TypeId):Kd:=bif Nat.blt t 223 then(br t 111 (br t 55 (br t 27 (br t 13 (br t 6 (br t 3 (br t 1 .other (br t 2 .fn (.int .i64))) (br t 4 (.int .i64) (br t 5 .bool (.int .u8)))) (br t 9 (br t 7 (.int .u8) (.st [(0,2),(1,3),(2,4),(3,6)])) (br t 11 .str (br t 12 .str (.int .u64))))) (br t 20 (br t 16 (br t 14 (.st [(0,9),(1,12)]) (br t 15 (.st [(0,9),(1,12)]) (.ptr 209))) (br t 18 (br t 17 (.ptr 212) (.ptr 221)) (.st [(0,17)]))) (br t 23 (br t 21 .other (br t 22 (.int .i32) (.sl 25))) (br t 25 (br t 24 (.arr 3 3) (.arr 2 23)) (br t 26 (.sl 3) (.int .u16)))))) (br t 41 (br t 34 (br t 30 (br t 28 (.st [(0,22),(1,24),(7,25),(8,26)]) (br t 29 (.st [(0,22),(1,24),(7,25),(8,26)]) .fn)) (br t 32 (br t 31 (.sl 54) (.sl 52)) (br t 33 (.sl 34) (.st [(0,3),(1,3),(2,3),(3,31),(4,32)])))) (br t 37 (br t 35 (.st [(0,3),(1,3),(2,3),(3,31),(4,32)]) (br t 36 (.sl 101) (.st [(0,3),(1,3),(2,3),(3,3),(4,9),(5,34),(10,3),(11,3),(12,3),(13,35)]))) (br t 39 (br t 38 (.st [(0,3),(1,3),(2,3),(3,3),(4,9),(5,34),(10,3),(11,3),(12,3),(13,35)]) .other) (br t 40 .fn (.int .i64))))) (br t 48 (br t 44 (br t 42 .other (br t 43 .fn (.st [(0,3),(1,3),(2,3)]))) (br t 46 (br t 45 (.st [(0,3),(1,3),(2,3)]) .fn) (.st [(0,25),(1,25)]))) (br t 51 (br t 49 .other .fn) (br t 53 (.st [(0,3),(1,9)]) (.st [(0,52),(2,3),(3,3),(4,3),(5,25),(6,3),(7,25)])))))) (br t 83 (br t 69 (br t 62 (br t 58 (br t 56 .fn (br t 57 .other .fn)) .fn) (br t 65 (br t 63 .fn (br t 64 (.arr 2 3) .fn)) .fn)) (br t 76 (br t 72 (br t 70 .fn (br t 71 .fn (.sl 4))) (br t 74 (br t 73 .other .fn) .fn)) (br t 79 .fn (br t 81 (br t 80 .other .fn) .fn)))) (br t 97 (br t 90 (br t 86 .fn (br t 88 (br t 87 .fn (.sl 89)) (br t 89 .fn (.arr 2 3)))) (br t 93 (br t 91 (.mp 3 3) (br t 92 (.ptr 93) (.st [(0,25),(1,3)]))) (br t 95 (br t 94 (.st [(0,25),(1,3)]) (.sl 9)) .fn))) (br t 104 (br t 100 (br t 98 (.ptr 98) (br t 99 (.st [(0,25),(1,3)]) .fn)) (br t 102 (br t 101 .fn (.arr 2 52)) .fn)) .fn)))) (br t 167 (br t 139 (br t 125 (br t 118 (br t 114 (br t 112 .fn (br t 113 .fn (.sl 4))) .fn) (br t 121 (br t 119 (.int .u64) .fn) .fn)) (br t 132 .fn (br t 135 .fn (br t 137 (br t 136 .other .fn) (br t 138 .fn (.mp 3 141)))))) (br t 153 (br t 146 (br t 142 (br t 140 .fn (.st [(0,111)])) (br t 144 (br t 143 .other .fn) .fn)) (br t 149 (br t 147 .fn (.st [(0,3),(1,3),(2,4)])) (br t 151 (br t 150 .fn (.sl 3)) .fn))) (br t 160 (br t 156 (br t 154 .fn (br t 155 .fn (.int .u32))) (br t 158 (br t 157 .fn (.int .u64)) .fn)) (br t 163 .fn (br t 165 (br t 164 (.sl 5) .fn) .fn))))) (br t 195 (br t 181 (br t 174 (br t 170 .fn (br t 172 (br t 171 .fn (.int .i64)) (br t 173 .other .fn))) (br t 177 (br t 175 .fn (br t 176 .fn .other)) .fn)) (br t 188 .fn (br t 191 .fn (br t 193 (br t 192 .fn (.int .u64)) .fn)))) (br t 209 (br t 202 (br t 198 (br t 196 .fn (br t 197 (.ptr 3) .fn)) .fn) (br t 205 (br t 203 .fn (br t 204 (.ptr 192) .other)) (br t 207 .fn (br t 208 .fn (.st [(0,17),(1,17),(2,17),(3,9)]))))) (br t 216 (br t 212 (br t 210 (.st [(0,17),(1,17),(2,17),(3,9)]) (br t 211 (.arr 0 16) (.st [(0,210)]))) (br t 214 (br t 213 (.st [(0,210)]) .fn) (.int .u8))) (br t 219 (br t 217 .fn (br t 218 (.ptr 5) (.int .i32))) (br t 221 (br t 220 (.int .i32) (.st [(0,12),(1,12),(2,155),(3,214),(4,5),(5,5),(6,215),(7,216),(8,217),(9,218),(10,219)])) (br t 222 (.st [(0,12),(1,12),(2,155),(3,214),(4,5),(5,5),(6,215),(7,216),(8,217),(9,218),(10,219)]) .other)))))))) else .other
def tz (t:TypeId):Nat:=bif Nat.blt t 223 then(br t 111 (br t 55 (br t 27 (br t 13 (br t 6 (br t 3 (br t 1 0 1) 1) (br t 9 (br t 7 1 4) 1)) (br t 20 (br t 16 (br t 14 2 (br t 15 2 1)) 1) (br t 23 (br t 21 0 1) (br t 25 (br t 24 3 6) 1)))) (br t 41 (br t 34 (br t 30 (br t 28 9 (br t 29 9 1)) (br t 32 1 (br t 33 1 5))) (br t 37 (br t 35 5 (br t 36 1 14)) (br t 39 (br t 38 14 0) 1))) (br t 48 (br t 44 (br t 42 0 (br t 43 1 3)) (br t 46 (br t 45 3 1) 2)) (br t 51 (br t 49 0 1) (br t 53 2 8))))) (br t 83 (br t 69 (br t 62 (br t 58 (br t 56 1 (br t 57 0 1)) 1) (br t 65 (br t 63 1 (br t 64 2 1)) 1)) (br t 76 (br t 72 1 (br t 74 (br t 73 0 1) 1)) (br t 79 1 (br t 81 (br t 80 0 1) 1)))) (br t 97 (br t 90 (br t 86 1 (br t 88 1 (br t 89 1 2))) (br t 93 (br t 91 1 (br t 92 1 2)) (br t 95 (br t 94 2 1) 1))) (br t 104 (br t 100 (br t 98 1 (br t 99 2 1)) (br t 102 (br t 101 1 4) 1)) 1)))) (br t 167 (br t 139 (br t 125 1 (br t 132 1 (br t 135 1 (br t 137 (br t 136 0 1) 1)))) (br t 153 (br t 146 (br t 142 1 (br t 144 (br t 143 0 1) 1)) (br t 149 (br t 147 1 3) 1)) 1)) (br t 195 (br t 181 (br t 174 (br t 170 1 (br t 172 1 (br t 173 0 1))) (br t 177 (br t 175 1 (br t 176 1 0)) 1)) 1) (br t 209 (br t 202 1 (br t 205 (br t 203 1 (br t 204 1 0)) (br t 207 1 (br t 208 1 4)))) (br t 216 (br t 212 (br t 210 4 0) (br t 214 (br t 213 0 1) 1)) (br t 219 1 (br t 221 (br t 220 1 11) (br t 222 11 0)))))))) else 0
def tb (t:TypeId):Nat:=bif Nat.blt t 223 then(br t 111 (br t 55 (br t 27 (br t 13 (br t 6 (br t 3 (br t 1 0 8) (br t 4 8 1)) (br t 9 (br t 7 1 24) (br t 11 16 (br t 12 16 8)))) (br t 20 (br t 16 (br t 14 24 (br t 15 24 8)) 8) (br t 23 (br t 21 0 (br t 22 4 24)) (br t 25 (br t 24 24 48) (br t 26 24 2))))) (br t 41 (br t 34 (br t 30 (br t 28 104 (br t 29 104 8)) (br t 32 24 (br t 33 24 72))) (br t 37 (br t 35 72 (br t 36 24 168)) (br t 39 (br t 38 168 0) 8))) (br t 48 (br t 44 (br t 42 0 (br t 43 8 24)) (br t 46 (br t 45 24 8) 48)) (br t 51 (br t 49 0 8) (br t 53 24 104))))) (br t 83 (br t 69 (br t 62 (br t 58 (br t 56 8 (br t 57 0 8)) 8) (br t 65 (br t 63 8 (br t 64 16 8)) 8)) (br t 76 (br t 72 (br t 70 8 (br t 71 8 24)) (br t 74 (br t 73 0 8) 8)) (br t 79 8 (br t 81 (br t 80 0 8) 8)))) (br t 97 (br t 90 (br t 86 8 (br t 88 (br t 87 8 24) (br t 89 8 16))) (br t 93 (br t 91 8 (br t 92 8 32)) (br t 95 (br t 94 32 24) 8))) (br t 104 (br t 100 (br t 98 8 (br t 99 32 8)) (br t 102 (br t 101 8 48) 8)) 8)))) (br t 167 (br t 139 (br t 125 (br t 118 (br t 114 (br t 112 8 (br t 113 8 24)) 8) 8) (br t 132 8 (br t 135 8 (br t 137 (br t 136 0 8) 8)))) (br t 153 (br t 146 (br t 142 8 (br t 144 (br t 143 0 8) 8)) (br t 149 (br t 147 8 24) (br t 151 (br t 150 8 24) 8))) (br t 160 (br t 156 (br t 154 8 (br t 155 8 4)) 8) (br t 163 8 (br t 165 (br t 164 24 8) 8))))) (br t 195 (br t 181 (br t 174 (br t 170 8 (br t 172 8 (br t 173 0 8))) (br t 177 (br t 175 8 (br t 176 8 0)) 8)) 8) (br t 209 (br t 202 8 (br t 205 (br t 203 8 (br t 204 8 0)) (br t 207 8 (br t 208 8 40)))) (br t 216 (br t 212 (br t 210 40 0) (br t 214 (br t 213 0 8) 1)) (br t 219 (br t 217 8 (br t 218 8 4)) (br t 221 (br t 220 4 48) (br t 222 48 0)))))))) else 0
def t0 (t:TypeId):List C:=bif Nat.blt t 223 then(br t 111 (br t 55 (br t 27 (br t 13 (br t 6 (br t 3 (br t 1 [] (br t 2 [.nilf] [.d (.int .i64 0)])) (br t 4 [.d (.int .i64 0)] (br t 5 [.d (.bool false)] [.d (.int .u8 0)]))) (br t 9 (br t 7 [.d (.int .u8 0)] [.d (.int .i64 0),.d (.int .i64 0),.d (.bool false),.d (.int .u8 0)]) (br t 11 [.d (.str ⟨#[]⟩)] (br t 12 [.d (.str ⟨#[]⟩)] [.d (.int .u64 0)])))) (br t 20 (br t 16 (br t 14 [.d (.str ⟨#[]⟩),.d (.int .u64 0)] (br t 15 [.d (.str ⟨#[]⟩),.d (.int .u64 0)] [.nilp])) [.nilp]) (br t 23 (br t 21 [] (br t 22 [.d (.int .i32 0)] [.nils])) (br t 25 (br t 24 [.d (.int .i64 0),.d (.int .i64 0),.d (.int .i64 0)] [.d (.int .i64 0),.d (.int .i64 0),.d (.int .i64 0),.d (.int .i64 0),.d (.int .i64 0),.d (.int .i64 0)]) (br t 26 [.nils] [.d (.int .u16 0)]))))) (br t 41 (br t 34 (br t 30 (br t 28 [.nils,.d (.int .i64 0),.d (.int .i64 0),.d (.int .i64 0),.d (.int .i64 0),.d (.int .i64 0),.d (.int .i64 0),.nils,.d (.int .u16 0)] (br t 29 [.nils,.d (.int .i64 0),.d (.int .i64 0),.d (.int .i64 0),.d (.int .i64 0),.d (.int .i64 0),.d (.int .i64 0),.nils,.d (.int .u16 0)] [.nilf])) (br t 32 [.nils] (br t 33 [.nils] [.d (.int .i64 0),.d (.int .i64 0),.d (.int .i64 0),.nils,.nils]))) (br t 37 (br t 35 [.d (.int .i64 0),.d (.int .i64 0),.d (.int .i64 0),.nils,.nils] (br t 36 [.nils] [.d (.int .i64 0),.d (.int .i64 0),.d (.int .i64 0),.d (.int .i64 0),.d (.str ⟨#[]⟩),.d (.int .i64 0),.d (.int .i64 0),.d (.int .i64 0),.nils,.nils,.d (.int .i64 0),.d (.int .i64 0),.d (.int .i64 0),.nils])) (br t 39 (br t 38 [.d (.int .i64 0),.d (.int .i64 0),.d (.int .i64 0),.d (.int .i64 0),.d (.str ⟨#[]⟩),.d (.int .i64 0),.d (.int .i64 0),.d (.int .i64 0),.nils,.nils,.d (.int .i64 0),.d (.int .i64 0),.d (.int .i64 0),.nils] []) (br t 40 [.nilf] [.d (.int .i64 0)])))) (br t 48 (br t 44 (br t 42 [] (br t 43 [.nilf] [.d (.int .i64 0),.d (.int .i64 0),.d (.int .i64 0)])) (br t 46 (br t 45 [.d (.int .i64 0),.d (.int .i64 0),.d (.int .i64 0)] [.nilf]) [.nils,.nils])) (br t 51 (br t 49 [] [.nilf]) (br t 53 [.d (.int .i64 0),.d (.str ⟨#[]⟩)] [.d (.int .i64 0),.d (.str ⟨#[]⟩),.d (.int .i64 0),.d (.int .i64 0),.d (.int .i64 0),.nils,.d (.int .i64 0),.nils]))))) (br t 83 (br t 69 (br t 62 (br t 58 (br t 56 [.nilf] (br t 57 [] [.nilf])) [.nilf]) (br t 65 (br t 63 [.nilf] (br t 64 [.d (.int .i64 0),.d (.int .i64 0)] [.nilf])) [.nilf])) (br t 76 (br t 72 (br t 70 [.nilf] (br t 71 [.nilf] [.nils])) (br t 74 (br t 73 [] [.nilf]) [.nilf])) (br t 79 [.nilf] (br t 81 (br t 80 [] [.nilf]) [.nilf])))) (br t 97 (br t 90 (br t 86 [.nilf] (br t 88 (br t 87 [.nilf] [.nils]) (br t 89 [.nilf] [.d (.int .i64 0),.d (.int .i64 0)]))) (br t 93 (br t 91 [.nilm] (br t 92 [.nilp] [.nils,.d (.int .i64 0)])) (br t 95 (br t 94 [.nils,.d (.int .i64 0)] [.nils]) [.nilf]))) (br t 104 (br t 100 (br t 98 [.nilp] (br t 99 [.nils,.d (.int .i64 0)] [.nilf])) (br t 102 (br t 101 [.nilf] [.d (.int .i64 0),.d (.str ⟨#[]⟩),.d (.int .i64 0),.d (.str ⟨#[]⟩)]) [.nilf])) [.nilf])))) (br t 167 (br t 139 (br t 125 (br t 118 (br t 114 (br t 112 [.nilf] (br t 113 [.nilf] [.nils])) [.nilf]) (br t 121 (br t 119 [.d (.int .u64 0)] [.nilf]) [.nilf])) (br t 132 [.nilf] (br t 135 [.nilf] (br t 137 (br t 136 [] [.nilf]) (br t 138 [.nilf] [.nilm]))))) (br t 153 (br t 146 (br t 142 [.nilf] (br t 144 (br t 143 [] [.nilf]) [.nilf])) (br t 149 (br t 147 [.nilf] [.d (.int .i64 0),.d (.int .i64 0),.d (.bool false)]) (br t 151 (br t 150 [.nilf] [.nils]) [.nilf]))) (br t 160 (br t 156 (br t 154 [.nilf] (br t 155 [.nilf] [.d (.int .u32 0)])) (br t 158 (br t 157 [.nilf] [.d (.int .u64 0)]) [.nilf])) (br t 163 [.nilf] (br t 165 (br t 164 [.nils] [.nilf]) [.nilf]))))) (br t 195 (br t 181 (br t 174 (br t 170 [.nilf] (br t 172 (br t 171 [.nilf] [.d (.int .i64 0)]) (br t 173 [] [.nilf]))) (br t 177 (br t 175 [.nilf] (br t 176 [.nilf] [])) [.nilf])) (br t 188 [.nilf] (br t 191 [.nilf] (br t 193 (br t 192 [.nilf] [.d (.int .u64 0)]) [.nilf])))) (br t 209 (br t 202 (br t 198 (br t 196 [.nilf] (br t 197 [.nilp] [.nilf])) [.nilf]) (br t 205 (br t 203 [.nilf] (br t 204 [.nilp] [])) (br t 207 [.nilf] (br t 208 [.nilf] [.nilp,.nilp,.nilp,.d (.str ⟨#[]⟩)])))) (br t 216 (br t 212 (br t 210 [.nilp,.nilp,.nilp,.d (.str ⟨#[]⟩)] []) (br t 214 (br t 213 [] [.nilf]) [.d (.int .u8 0)])) (br t 219 (br t 217 [.nilf] (br t 218 [.nilp] [.d (.int .i32 0)])) (br t 221 (br t 220 [.d (.int .i32 0)] [.d (.int .u64 0),.d (.int .u64 0),.d (.int .u32 0),.d (.int .u8 0),.d (.int .u8 0),.d (.int .u8 0),.d (.int .u8 0),.nilf,.nilp,.d (.int .i32 0),.d (.int .i32 0)]) (br t 222 [.d (.int .u64 0),.d (.int .u64 0),.d (.int .u32 0),.d (.int .u8 0),.d (.int .u8 0),.d (.int .u8 0),.d (.int .u8 0),.nilf,.nilp,.d (.int .i32 0),.d (.int .i32 0)] [])))))))) else[]
def tip:FuncId→Option (List Int→List Int)
 | 70=>some q2W
 | _=>none
def tsf:FuncId→Option TypeId
 | 54=>some 3
 | _=>none
def tbk (t n:Nat):Bool:=(t==30&&n==3)
def T:Ty:=⟨tk,tz,tb,t0,tip,tsf,true,tbk⟩
theorem bk_ (t n:Nat):T.bk t n=((t==30&&n==3)):=rfl
theorem qGt:(List.range 223).all (fun t=>decide (T.k t = .other)||Ty.okAt Tryz.prog T t)=true:=by kernel_rfl
theorem qDM (t:Nat) (h:223≤t):T.k t = .other:=by
 have hb:Nat.blt t 223=false:=by
  cases h':Nat.blt t 223 with
  | false=>rfl
  | true=>exact absurd (Nat.le_of_ble_eq_true h') (by omega)
 show tk t = .other
 unfold tk
 rw[hb]
 rfl
theorem qNE:∀t,T.k t = .other∨Ty.okAt Tryz.prog T t=true:=fun t=>by
 rcases Nat.lt_or_ge t 223 with h|h
 ·have:=qQO.1 qGt t (qRu.2 h)
  simp only[qR2,qRx] at this
  exact this
 ·exact .inl (qDM t h)
theorem qMu:∀g h,T.ip g=some h→qF8 Tryz.prog g h:=by
 intro g h hg
 replace hg:tip g=some h:=hg
 unfold tip at hg
 split at hg
 ·injection hg with hg;subst hg;exact qNA
 ·cases hg
theorem qOx:∀g e,T.sf g=some e→qFx Tryz.prog g e:=by
 intro g e hg
 replace hg:tsf g=some e:=hg
 unfold tsf at hg
 split at hg
 ·injection hg with hg;subst hg;exact qPB
 ·cases hg
theorem qya:Ag Tryz.prog T:=⟨qNE,qMu,qOx⟩
theorem k3:T.k 3 = .int .i64:=rfl
theorem k4:T.k 4 = .bool:=rfl
theorem k5:T.k 5 = .int .u8:=rfl
theorem k9:T.k 9 = .str:=rfl
theorem k22:T.k 22 = .sl 25:=rfl
theorem k23:T.k 23 = .arr 3 3:=rfl
theorem k24:T.k 24 = .arr 2 23:=rfl
theorem k25:T.k 25 = .sl 3:=rfl
theorem k26:T.k 26 = .int .u16:=rfl
theorem k28:T.k 28 = .st [(0,22),(1,24),(7,25),(8,26)]:=rfl
theorem k30:T.k 30 = .sl 54:=rfl
theorem k31:T.k 31 = .sl 52:=rfl
theorem k32:T.k 32 = .sl 34:=rfl
theorem k34:T.k 34 = .st [(0,3),(1,3),(2,3),(3,31),(4,32)]:=rfl
theorem k35:T.k 35 = .sl 101:=rfl
theorem k37:T.k 37 = .st [(0,3),(1,3),(2,3),(3,3),(4,9),(5,34),(10,3),(11,3),(12,3),(13,35)]:=rfl
theorem k40:T.k 40 = .int .i64:=rfl
theorem k44:T.k 44 = .st [(0,3),(1,3),(2,3)]:=rfl
theorem k47:T.k 47 = .st [(0,25),(1,25)]:=rfl
theorem k52:T.k 52 = .st [(0,3),(1,9)]:=rfl
theorem k54:T.k 54 = .st [(0,52),(2,3),(3,3),(4,3),(5,25),(6,3),(7,25)]:=rfl
theorem k63:T.k 63 = .arr 2 3:=rfl
theorem k71:T.k 71 = .sl 4:=rfl
theorem k90:T.k 90 = .mp 3 3:=rfl
theorem k93:T.k 93 = .st [(0,25),(1,3)]:=rfl
theorem k94:T.k 94 = .sl 9:=rfl
theorem k98:T.k 98 = .st [(0,25),(1,3)]:=rfl
theorem qO6:T.k 101 = .arr 2 52:=rfl
theorem qNY:T.k 111 = .fn:=rfl
theorem qOh:T.k 112 = .fn:=rfl
theorem qO5:T.k 113 = .sl 4:=rfl
theorem qP2:T.k 118 = .int .u64:=rfl
theorem qMv:T.k 138 = .mp 3 141:=rfl
theorem qPF:T.k 141 = .st [(0,111)]:=rfl
theorem qMZ:T.k 143 = .fn:=rfl
theorem qNq:T.k 144 = .fn:=rfl
theorem qM3:T.k 148 = .st [(0,3),(1,3),(2,4)]:=rfl
theorem qMe:T.k 150 = .sl 3:=rfl
theorem qOD:T.k 157 = .int .u64:=rfl
theorem qLX:T.k 163 = .sl 5:=rfl
theorem z3:T.sz 3=1:=rfl
theorem z4:T.sz 4=1:=rfl
theorem z5:T.sz 5=1:=rfl
theorem z9:T.sz 9=1:=rfl
theorem z22:T.sz 22=1:=rfl
theorem z23:T.sz 23=3:=rfl
theorem z24:T.sz 24=6:=rfl
theorem z25:T.sz 25=1:=rfl
theorem z26:T.sz 26=1:=rfl
theorem z28:T.sz 28=9:=rfl
theorem z30:T.sz 30=1:=rfl
theorem z31:T.sz 31=1:=rfl
theorem z32:T.sz 32=1:=rfl
theorem z34:T.sz 34=5:=rfl
theorem z35:T.sz 35=1:=rfl
theorem z37:T.sz 37=14:=rfl
theorem z39:T.sz 39=1:=rfl
theorem z40:T.sz 40=1:=rfl
theorem z44:T.sz 44=3:=rfl
theorem z45:T.sz 45=1:=rfl
theorem z46:T.sz 46=2:=rfl
theorem z47:T.sz 47=2:=rfl
theorem z50:T.sz 50=1:=rfl
theorem z51:T.sz 51=2:=rfl
theorem z52:T.sz 52=2:=rfl
theorem z53:T.sz 53=8:=rfl
theorem z54:T.sz 54=8:=rfl
theorem z55:T.sz 55=1:=rfl
theorem z66:T.sz 66=1:=rfl
theorem z70:T.sz 70=1:=rfl
theorem z71:T.sz 71=1:=rfl
theorem z76:T.sz 76=1:=rfl
theorem z77:T.sz 77=1:=rfl
theorem z90:T.sz 90=1:=rfl
theorem qOX:T.sz 101=4:=rfl
theorem qPa:T.sz 111=1:=rfl
theorem qMn:T.sz 113=1:=rfl
theorem z131:T.sz 131=1:=rfl
theorem qPT:T.sz 141=1:=rfl
theorem qPk:T.sz 143=1:=rfl
theorem qMm:T.sz 144=1:=rfl
theorem qM7:T.sz 148=3:=rfl
theorem qPl:T.sz 150=1:=rfl
theorem z182:T.sz 182=1:=rfl
theorem z183:T.sz 183=1:=rfl
theorem z218:T.sz 218=1:=rfl
theorem b3:T.by_ 3=8:=rfl
theorem b4:T.by_ 4=1:=rfl
theorem b10:T.by_ 10=16:=rfl
theorem b11:T.by_ 11=16:=rfl
theorem b12:T.by_ 12=8:=rfl
theorem b34:T.by_ 34=72:=rfl
theorem b52:T.by_ 52=24:=rfl
theorem b54:T.by_ 54=104:=rfl
theorem o3:T.zero 3=[.d (.int .i64 0)]:=rfl
theorem o4:T.zero 4=[.d (.bool false)]:=rfl
theorem o23:T.zero 23=[.d (.int .i64 0),.d (.int .i64 0),.d (.int .i64 0)]:=rfl
theorem o25:T.zero 25=[.nils]:=rfl
theorem o30:T.zero 30=[.nils]:=rfl
theorem o32:T.zero 32=[.nils]:=rfl
theorem o34:T.zero 34=[.d (.int .i64 0),.d (.int .i64 0),.d (.int .i64 0),.nils,.nils]:=rfl
theorem o37:T.zero 37=[.d (.int .i64 0),.d (.int .i64 0),.d (.int .i64 0),.d (.int .i64 0),.d (.str ⟨#[]⟩),.d (.int .i64 0),.d (.int .i64 0),.d (.int .i64 0),.nils,.nils,.d (.int .i64 0),.d (.int .i64 0),.d (.int .i64 0),.nils]:=rfl
theorem o40:T.zero 40=[.d (.int .i64 0)]:=rfl
theorem o44:T.zero 44=[.d (.int .i64 0),.d (.int .i64 0),.d (.int .i64 0)]:=rfl
theorem o47:T.zero 47=[.nils,.nils]:=rfl
theorem o52:T.zero 52=[.d (.int .i64 0),.d (.str ⟨#[]⟩)]:=rfl
theorem o54:T.zero 54=[.d (.int .i64 0),.d (.str ⟨#[]⟩),.d (.int .i64 0),.d (.int .i64 0),.d (.int .i64 0),.nils,.d (.int .i64 0),.nils]:=rfl
theorem o63:T.zero 63=[.d (.int .i64 0),.d (.int .i64 0)]:=rfl
theorem o71:T.zero 71=[.nils]:=rfl
theorem o90:T.zero 90=[.nilm]:=rfl
theorem o93:T.zero 93=[.nils,.d (.int .i64 0)]:=rfl
theorem o98:T.zero 98=[.nils,.d (.int .i64 0)]:=rfl
theorem qNj:T.zero 101=[.d (.int .i64 0),.d (.str ⟨#[]⟩),.d (.int .i64 0),.d (.str ⟨#[]⟩)]:=rfl
theorem qPV:T.zero 113=[.nils]:=rfl
theorem qMO:T.zero 141=[.nilf]:=rfl
theorem qOF:T.zero 143=[.nilf]:=rfl
theorem qNy:T.zero 144=[.nilf]:=rfl
theorem qNZ:T.zero 148=[.d (.int .i64 0),.d (.int .i64 0),.d (.bool false)]:=rfl
theorem qPP:T.zero 150=[.nils]:=rfl
end
noncomputable section
open Go.Shelf Go.RowKit Go.Sort
set_option maxHeartbeats 4000000 in
set_option maxRecDepth 1000000 in
theorem qGM (b n cap i j:Nat) (cur:Array Value) (w:World) (hb:w.heap[b]?=some (.cells cur 54 (0,0))) (hn:n≤cap) (hm:cap≤9223372036854775807) (hz:cur.size=cap*8) (hi:i<n) (hj:Hid (j=i+1)) (hone:∀u∈cur.toList.take (n*8),u.oneCell'=true) :
  Calls Tryz.prog 20 #[.slice (some ⟨b,0,none⟩) n cap,.int .i64 i,.int .i64 j] w fun e w'=>e = .returned (.slice (some ⟨b,0,none⟩) (n-1) cap)∧w.grownBy w' (some b)∧
   ∃cur':Array Value,w'.heap[b]?=some (.cells cur' 54 (0,0))∧cur'.size=cur.size∧cur'.toList.take ((n-1)*8)=cur.toList.take (i*8)++(cur.toList.drop (j*8)).take ((n-j)*8):=by
 have mixed:Tryz.prog.follows .mixedOrders=true:=by kernel_rfl
 have hic:i≤cap:=by omega
 have hij:i<j:=by have:=hj.out;omega
 have hjn:j≤n:=by have:=hj.out;omega
 have hjc:j≤cap:=by omega
 obtain⟨i0,hi0,hz1⟩:∃i0,Tryz.prog.info? 54=some i0∧i0.size=8:=by
  obtain⟨d,i0,z,ht⟩:=qya.at_ (t:=54) (by rw[k54];simp)
  exact⟨i0,ht.info,ht.sz.trans z54⟩
 obtain⟨news,hnews⟩:∃news,news=(cur.toList.drop (j*8)).take ((n-j)*8):=⟨_,rfl⟩
 have hcl:cur.toList.length=cap*8:=by simpa using hz
 have hlen:news.length=(n-j)*8:=by rw[hnews,qR0,qRk,hcl];omega
 have hmem:∀u∈news,u∈cur.toList.take (n*8):=fun u hu=>by rw[hnews,show(n-j)*8=n*8-j*8 by omega,←List.drop_take] at hu;exact List.mem_of_mem_drop hu
 have hcell:∀k,k<cap*8→w.cell? ⟨b,k,none⟩=cur.toList[k]?:=fun k hk=>by
  have:k<cur.size:=by omega
  simp[World.cell?,hb]
 have hfz:∀k,w.frozen? ⟨b,k,none⟩=false:=fun k=>by simp[World.frozen?,hb]
 obtain⟨A,hA,hsrc⟩:∃A:Addr,(if cap=j then some (⟨b,0,none⟩:Addr) else some ⟨b,j*8,none⟩)=some A∧Hid (∀t u,news[t]?=some u→w.drew.cell? (A.add t)=some u):=by
  by_cases h:cap=j
  ·refine⟨⟨b,0,none⟩,by simp[h],fun t u hu=>?_⟩
   have h0:news.length=0:=by rw[hlen];omega
   rw[List.length_eq_zero_iff.1 h0] at hu
   simp at hu
  ·refine⟨⟨b,j*8,none⟩,by simp[h],fun t u hu=>?_⟩
   have ht:t<(n-j)*8:=by
    have:=(qQB.1 hu).1
    rwa [hlen] at this
   rw[hnews,qR6 ht,List.getElem?_drop] at hu
   rw[Addr.add_lit]
   exact(hcell _ (by omega)).trans hu
 have s1:Hid (news.length=(n-j)*8):=hlen
 have s2:Hid (∀u∈news,u.oneCell'=true):=fun u hu=>hone u (hmem u hu)
 have s3:Hid (∀t,t<news.length→(w.drew.cell? ⟨b,0+i*8+t,none⟩).isSome=true∧w.drew.frozen? ⟨b,0+i*8+t,none⟩=false):=by
  intro t ht
  rw[hlen] at ht
  have:=hj.out
  refine⟨?_,hfz _⟩
  show(w.cell? _).isSome=true
  rw[hcell _ (by omega),qQz (by omega)];rfl
 obtain⟨W1,hW1⟩:∃W1,W1=w.drew.setCells b (0+i*8) news:=⟨_,rfl⟩
 have hW:Hid (W1=w.drew.setCells b (0+i*8) news):=hW1
 obtain⟨z,zs,hv,hzz,hz2,hz3⟩:∃(z:Value) (zs:List Value),(∀w,(zeroValue 54).run Tryz.prog w = .ok z w)∧z.cells.toList=zs∧zs.length=8∧∀u∈zs,u.oneCell'=true:=⟨_,_,Tryz.zeroValue54,rfl,by kernel_rfl,fun u hu=>by simp[Value.cells] at hu;rcases hu with rfl|rfl|rfl|rfl|rfl|rfl|rfl|rfl<;>rfl⟩
 obtain⟨hg1,c1,hc1,hc2,hc3⟩:=q5L (e:=54) news (0+i*8) w.drew cur hb (by rw[hlen];have:=hj.out;omega)
 rw[←hW1] at hg1 hc1
 obtain⟨hg2,c2,hd1,hd2,hd3⟩:=q5L (e:=54) zs ((i+(n-j))*8) W1 c1 hc1 (by rw[hz2,hc2];have:=hj.out;omega)
 have hfin:Hid (w.grownBy (W1.setCells b ((i+(n-j))*8) zs) (some b)∧∃cur':Array Value,(W1.setCells b ((i+(n-j))*8) zs).heap[b]?=some (.cells cur' 54 (0,0))∧cur'.size=cur.size∧cur'.toList.take ((n-1)*8)=cur.toList.take (i*8)++(cur.toList.drop (j*8)).take ((n-j)*8)):=by
  have hjo:=hj.out
  refine⟨⟨hg2.os.trans hg1.os,hg2.tape.trans hg1.tape,hg2.output.trans hg1.output,qR8 hg1.size hg2.size,fun k hk hn=>(hg2.block k (qR7 hk hg1.size) hn).trans (hg1.block k hk hn)⟩,c2,hd1,hd2.trans hc2,?_⟩
  rw[←hnews]
  apply List.ext_getElem?
  intro k
  rcases Nat.lt_or_ge k ((n-1)*8) with hk|hk
  ·rw[qR6 hk,Array.getElem?_toList,hd3 k,if_pos (.inl (by omega)),hc3 k]
   by_cases hki:k<i*8
   ·rw[if_pos (.inl (by omega)),qRb (by rw[qR0,hcl];omega),qR6 hki,Array.getElem?_toList]
   ·rw[if_neg (by rw[hlen];omega),qRa (by rw[qR0,hcl];omega),qR0,hcl,Nat.min_eq_left (by omega)]
    congr 1;omega
  ·rw[qR5 (by rw[qR0];omega),qR5 (by rw[qQE,qR0,hcl,hlen];omega)]
 have hclr:∀ty,(Builtin.clear_ #[30] ty #[.slice (some ⟨b,(i+(n-j))*8,none⟩) (n-(i+(n-j))) (cap-(i+(n-j)))]).run Tryz.prog W1 = .ok (.tuple #[]) (W1.setCells b ((i+(n-j))*8) zs):=fun ty=>by
  have hjo:=hj.out
  rw[show n-(i+(n-j))=1 by omega]
  refine qkj W1 30 54 ty z zs Tryz.underlying30 hv hzz hz3 b _ _ (fun k hk=>?_) (fun k _=>by simp[World.frozen?,hc1]) (by omega)
  have:(i+(n-j))*8+k<c1.size:=by rw[hc2];omega
  simp[World.cell?,hc1,this]
 have hout:Hid (i+(n-j)=n-1):=by have:=hj.out;show i+(n-j)=n-1;omega
 clear hW1 hnews hlen hmem hcell hfz hone hv hzz hz2 hz3 hcl hg1 hc1 hc2 hc3 hg2 hd1 hd2 hd3
 go_enter Tryz.func20,Tryz.ntmps20
 go_wp2_with fail
 go_region_law_o (refine step_append_room rfl (.tmp 22) (.tmp 25) 30 rfl 54 i0 8 Tryz.underlying30 hi0 hz1 b 0 i cap (by simp[Act.eval,Act.put]) A (n-j) (cap-j) news (by simp[Act.eval,Act.put]) s1.out hsrc.out s2.out (by omega) s3.out ?_;rw[←hW.out])
 go_wp2
 go_ret
 exact⟨by rw[←hout.out];rfl,hfin.out⟩
def qeb:Go.Shelf.Ren:=⟨fun | 20=>71|n=>n,fun | 22=>25 | 3=>3 | 4=>4 | 0=>0|n=>n,fun|n=>n⟩
theorem qfh:Go.Proofs.Lays2.n20 Tryz.prog qeb:={
 mixed:=by kernel_rfl
 f20:=Tryz.func71.trans (congrArg some (by kernel_rfl))
 t0:=Tryz.underlying0
 a0:=Tryz.isAgg0
 z0:=Tryz.sizeOf0
 v0:=Tryz.zeroValue0
 t3:=Tryz.underlying3
 a3:=Tryz.isAgg3
 z3:=Tryz.sizeOf3
 v3:=Tryz.zeroValue3
 t4:=Tryz.underlying4
 a4:=Tryz.isAgg4
 z4:=Tryz.sizeOf4
 v4:=Tryz.zeroValue4
 t22:=Tryz.underlying25
 a22:=Tryz.isAgg25
 z22:=Tryz.sizeOf25
 v22:=Tryz.zeroValue25
 i3:=by kernel_rfl }
end
end Go.Proofs.YtofbcijbpfjliaaGreat.Vc
