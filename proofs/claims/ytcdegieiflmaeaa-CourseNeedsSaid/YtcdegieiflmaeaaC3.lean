/- Part 3 of a proof. -/
import Derived.Test.YtcdegieiflmaeaaC2
import Derived.Shelf.SlMaps.Clone
import Derived.Shelf.SlIter.Sorted
import Derived.Shelf.RegionOpenPlain
import Derived.WalkKit
import Derived.Deep.LoopGhost
import Derived.Deep.RegionLaw
import Derived.Lib.Walk
import Derived.Sort.WalkB12
import Derived.Lib.SliceRun
import Derived.Test.YtcdegieiflmaeaaProg
import Derived.Shelf.Sort.Plain
import Derived.Shelf.Slices.In.SortNone
import Derived.TacticsInMore
import Derived.Below
set_option linter.unusedVariables false
set_option linter.unusedSimpArgs false
set_option linter.defProp false
set_option linter.unusedSectionVars false
set_option linter.unnecessarySimpa false
namespace Go.Proofs.Ytcdegieiflmaeaa.Vc
noncomputable section
open Go.RowKit
def FLe (F F':S→XS):Prop:=∀s x,F s=some x→F' s=some x
def LLe (L L':(S→XS)→S→XS):Prop:=∀F F',FLe F F'→FLe (L F) (L' F')
def Lim (F:S→XS) (s:S):XS:=open Classical in if h:∃x n,iter n F s=some x then some (Classical.choose h) else none
theorem q7i {k k':S→XS} (h:FLe k k') {p:Exit×S} {x:Exit×S} (hx:sqD k p=some x):sqD k' p=some x:=by
 obtain⟨e,s⟩:=p
 cases e with
 | normal=>exact h _ _ hx
 | _=>exact hx
theorem zf {α β:Type} {o o':Option α} {f f':α→Option β} (ho:∀a,o=some a→o'=some a) (hf:∀a b,f a=some b→f' a=some b) {b:β} (h:o.bind f=some b):o'.bind f'=some b:=by
 obtain⟨a,h1,h2⟩:=qxo.1 h
 rw[ho a h1];exact hf a b h2
theorem q1J {n n':Nat} {F F':S→XS} (hn:n≤n') (hF:FLe F F'):FLe (iter n F) (iter n' F'):=by
 induction n generalizing n' with
 | zero=>intro s x h;cases h
 | succ n ih=>
  intro s x h
  cases n' with
  | zero=>omega
  | succ n'=>
   exact zf (fun a ha=>hF s a ha) (fun a b hb=>q7i (ih (by omega)) hb) h
theorem q83 {n:Nat} {F:S→XS} {s:S} {x:Exit×S} (h:iter n F s=some x):Lim F s=some x:=by
 have hex:∃x n,iter n F s=some x:=⟨x,n,h⟩
 unfold Lim
 rw[dif_pos hex]
 obtain⟨m,hm⟩:=Classical.choose_spec hex
 have h1:=q1J (Nat.le_max_left n m) (F:=F) (fun _ _ h=>h) s _ h
 have h2:=q1J (Nat.le_max_right n m) (F:=F) (fun _ _ h=>h) s _ hm
 rw[h1] at h2
 injection h2 with h2
 rw[←h2]
theorem q4W {F:S→XS} {s:S} {x:Exit×S} (h:Lim F s=some x):∃n,iter n F s=some x:=by
 unfold Lim at h
 split at h
 ·rename_i hex
  injection h with h
  obtain⟨m,hm⟩:=Classical.choose_spec hex
  exact⟨m,h ▸ hm⟩
 ·cases h
theorem q5E {α:Type} {a b:Option α} (h1:∀x,a=some x→b=some x) (h2:∀x,b=some x→a=some x):a=b:=by
 cases ha:a with
 | none=>
  cases hb:b with
  | none=>rfl
  | some y=>have:=h2 y hb;rw[ha] at this;cases this
 | some x=>exact(h1 x ha).symm
theorem qpg (F:S→XS) (s:S):Lim F s=(F s).bind (sqD (Lim F)):=by
 refine q5E (fun x h=>?_) (fun x h=>?_)
 ·obtain⟨n,hn⟩:=q4W h
  cases n with
  | zero=>cases hn
  | succ n=>exact zf (fun a ha=>ha) (fun a b hb=>q7i (fun s x h=>q83 h) hb) hn
 ·obtain⟨p,h1,h2⟩:=qxo.1 h
  obtain⟨e,t⟩:=p
  cases e with
  | normal=>
   obtain⟨n,hn⟩:=q4W h2
   refine q83 (n:=n+1) ?_
   unfold iter
   rw[h1]
   exact hn
  | _=>
   refine q83 (n:=1) ?_
   unfold iter
   rw[h1]
   exact h2
theorem qac {n n':Nat} (h:n≤n'):LLe (iter n) (iter n'):=fun _ _ hF=>q1J h hF
theorem q8K (n:Nat):LLe (iter n) Lim:=fun _ F' hF s x h=>q83 (n:=n) (q1J (F':=F') (qxz n) hF s x h)
theorem MOk.mono {F F':S→XS} (hF:FLe F F') {s:S} {id:Nat} {m:R} {ck:Nat} {es:Me} {x:Exit×S} (h:MOk F s id m ck es x):MOk F' s id m ck es x:=
 ⟨h.ne,fun e he=>(h.ent e he).imp (fun h l hl=>hF _ _ (h l hl)) (fun h l hl=>hF _ _ (h l hl)),h.fin.imp (fun⟨e,he,h⟩=>⟨e,he,fun l hl=>hF _ _ (h l hl)⟩) (fun h l hl=>hF _ _ (h l hl))⟩
theorem qh0 {F F':S→XS} (hF:FLe F F') (it:Operand):FLe (mlp it F) (mlp it F'):=fun s x h=>by
 obtain⟨id,m,ck,es,h1,h2⟩:=q4M h
 exact qcY h1 (h2.mono hF)
theorem qgV {L L':(S→XS)→S→XS} (hL:LLe L L') (o:Option Operand):LLe (lpM L o) (lpM L' o):=fun F F' hF=>by
 cases o with
 | none=>exact hL F F' hF
 | some it=>exact qh0 hF it
theorem q27 {α:Type} {p:α→Nat→Prop}:∀(L:List α),(∀a∈L,∃n:Nat,∀m,n≤m→p a m)→∃n:Nat,∀m,n≤m→∀a∈L,p a m
 | [],_=>⟨0,fun m _ a h=>by simp at h⟩
 | x::L,h=>by
  obtain⟨n1,h1⟩:=h x qxy
  obtain⟨n2,h2⟩:=q27 L (fun a ha=>h a (qxr _ ha))
  refine⟨max n1 n2,fun m hm a ha=>?_⟩
  rcases qxF.1 ha with rfl|ha
  ·exact h1 m (by omega)
  ·exact h2 m (by omega) a ha
theorem qfZ {F:Nat→S→XS} {F':S→XS} (hF:∀s x,F' s=some x→∃n,∀m,n≤m→F m s=some x) {it:Operand} {s:S} {x:Exit×S} (h:mlp it F' s=some x):∃n,∀m,n≤m→mlp it (F m) s=some x:=by
 obtain⟨id,mm,ck,es,h1,h2⟩:=q4M h
 have hent:∃n,∀m,n≤m→∀e∈es,(∀l∈q1p es,F m (s.m1 id mm ck (some e) l)=some (.normal,s.mi id mm ck (e.2.2::l)))∨∀l∈q1p es,F m (s.m1 id mm ck (some e) l)=some x:=
  q27 es fun e he=>by
   rcases h2.ent e he with h3|h3
   ·obtain⟨n,hn⟩:=q27 (p:=fun l m=>F m (s.m1 id mm ck (some e) l)=some (.normal,s.mi id mm ck (e.2.2::l))) (q1p es) fun l hl=>hF _ _ (h3 l hl)
    exact⟨n,fun m hm => .inl (hn m hm)⟩
   ·obtain⟨n,hn⟩:=q27 (p:=fun l m=>F m (s.m1 id mm ck (some e) l)=some x) (q1p es) fun l hl=>hF _ _ (h3 l hl)
    exact⟨n,fun m hm => .inr (hn m hm)⟩
 have hfin:∃n,∀m,n≤m→(∃e∈es,∀l∈q1p es,F m (s.m1 id mm ck (some e) l)=some x)∨∀l∈q1p es,F m (s.m1 id mm ck none l)=some x:=by
  rcases h2.fin with ⟨e,he,h3⟩|h3
  ·obtain⟨n,hn⟩:=q27 (p:=fun l m=>F m (s.m1 id mm ck (some e) l)=some x) (q1p es) fun l hl=>hF _ _ (h3 l hl)
   exact⟨n,fun m hm => .inl ⟨e,he,hn m hm⟩⟩
  ·obtain⟨n,hn⟩:=q27 (p:=fun l m=>F m (s.m1 id mm ck none l)=some x) (q1p es) fun l hl=>hF _ _ (h3 l hl)
   exact⟨n,fun m hm => .inr (hn m hm)⟩
 obtain⟨n1,h3⟩:=hent
 obtain⟨n2,h4⟩:=hfin
 exact⟨max n1 n2,fun m hm=>qcY h1 ⟨h2.ne,h3 m (by omega),h4 m (by omega)⟩⟩
section
variable {P:Program} {T:Ty} {po:Pol}
theorem q5q {E E':Orc} (hE:OLe E E') {s:S} {g:FuncId} {zs:List (List Nat)} {rs:List R} {bl rw ln:List Nat} {x:R×S} (h:Ji E s g zs rs bl rw ln=some x):Ji E' s g zs rs bl rw ln=some x:=by
 unfold Ji at h ⊢
 refine zf (fun _ h=>h) (fun a b h=>zf (fun _ h=>h) (fun a b h=>?_) h) h
 split at h
 ·rename_i hc;simp only[if_pos hc];exact zf (fun a h=>hE _ _ _ _ _ h) (fun _ _ h=>h) h
 ·cases h
theorem q7y {E E':Orc} (hE:OLe E E') {s:S} {rid:Nat} {f:FuncId} {aq0 bd:Code} {rs:List R} {bl rw ln:List Nat} {x:R×S} (h:q3Y E s rid f aq0 bd rs bl rw ln=some x):q3Y E' s rid f aq0 bd rs bl rw ln=some x:=by
 unfold q3Y at h ⊢
 refine zf (fun _ h=>h) (fun a b h=>?_) h
 split at h
 ·rename_i hc;simp only[if_pos hc];exact zf (fun a h=>hE _ _ _ _ _ h) (fun _ _ h=>h) h
 ·cases h
theorem q8j {E E':Orc} (hE:OLe E E') {s:S} {rid:Nat} {args:List R} {x:R×S} (h:q2J E s rid args=some x):q2J E' s rid args=some x:=by
 unfold q2J at h ⊢
 split at h
 ·split at h
  ·rename_i hc;rw[if_pos hc];exact q7y hE h
  ·cases h
 ·cases h
theorem q8H {E E':Orc} (hE:OLe E E') {s:S} {f:Operand} {args:List Operand} {ts:List TypeId} {x:R×S} (h:q0b po E s f args ts=some x):q0b po E' s f args ts=some x:=by
 unfold q0b at h ⊢
 split at h
 ·exact q5q hE h
 ·exact q8j hE h
 ·cases h
theorem qcj {E E':Orc} (hE:OLe E E') {s:S} {op:Op} {x:R×S} (h:xo P T po E s op=some x):xo P T po E' s op=some x:=by
 cases op with
 | call c=>
  simp only[xo,xCl] at h ⊢
  split at h<;>first
   | exact h
   | exact q8H hE h
 | _=>exact h
theorem qg8 {E E':Orc} (hE:OLe E E') {f:Nat} {g:Operand} {ps:List Nat} {aq0 bd:Code} {s:S} {x:Exit×S} (h:xRF po E f g ps aq0 bd s=some x):xRF po E' f g ps aq0 bd s=some x:=by
 unfold xRF at h ⊢
 split at h
 ·exact zf (fun a h=>q5q hE h) (fun _ _ h=>h) h
 ·cases h
theorem q4X {E E':Orc} (hE:OLe E E') {o:Oper} {act:Bool} {s s':S} (h:xst P T po E o act s=some s'):xst P T po E' o act s=some s':=by
 unfold xst at h ⊢
 by_cases hc:act=true
 ·rw[if_pos hc] at h ⊢;exact zf (fun _ h=>qcj hE h) (fun _ _ h=>h) h
 ·rw[if_neg hc] at h ⊢;exact h
theorem qcG {E E':Orc} (hE:OLe E E') {ops:List Oper} {o:Oper} {s s':S} (h:q8q P T po E ops o s=some s'):q8q P T po E' ops o s=some s':=by
 unfold q8q at h ⊢
 split at h
 ·exact q4X hE h
 ·split at h
  ·split at h
   ·split at h
    ·rename_i hb;rw[if_pos hb];exact q4X hE h
    ·rename_i hb;rw[if_neg hb];exact q4X hE h
   ·exact q4X hE h
   ·cases h
  ·cases h
theorem qpt {E E':Orc} (h:OLe E E') {g:FuncId} {x y c:Int} (hc:cfO E g x y=some c):cfO E' g x y=some c:=by
 unfold cfO at hc ⊢
 split at hc
 ·rename_i d hd
  rw[h _ _ _ _ _ hd];exact hc
 ·cases hc
theorem qix {f f':Int→Int→Option Int} {dst:Option Nat} {e id n:Nat} {s s':S} (h:∀zs,okB f zs=true→agB f f' zs) (hx:qbd s dst f e id n=some s'):qbd s dst f' e id n=some s':=by
 unfold qbd at hx ⊢
 split at hx
 ·obtain⟨zs,h1,hx⟩:=qxo.1 hx
  rw[h1,qxj]
  split at hx
  ·rename_i hc
   have hag:=h zs hc.2.2.2.2.1
   rw[if_pos ⟨hc.1,hc.2.1,hc.2.2.1,hc.2.2.2.1,by rw[←qhN hag];exact hc.2.2.2.2.1,hc.2.2.2.2.2⟩,←q6I hag fun y hy=>hy]
   exact hx
  ·cases hx
 ·cases hx
theorem q7G {E:Orc} (s:S) (o:Oper):(∀E':Orc,ipF T E' s o=none)∨(∀E':Orc,ipF T E' s o=some none)∨∃dst e id n c,∀E':Orc,ipF T E' s o=some (qbd s dst (cfO E' c) e id n):=by
 unfold ipF
 split
 ·split
  ·unfold qm6
   split
   ·split
    ·unfold qsU
     split
     ·exact .inr (.inr ⟨_,_,_,_,_,fun _=>rfl⟩)
     ·exact .inr (.inl fun _=>rfl)
    ·exact .inl fun _=>rfl
   ·exact .inl fun _=>rfl
  ·exact .inl fun _=>rfl
 ·exact .inl fun _=>rfl
theorem qhi {E E':Orc} (hE:OLe E E') {o:Oper} {s:S}:(ipA T po E s o=none∧ipA T po E' s o=none)∨∃y y',ipA T po E s o=some y∧ipA T po E' s o=some y'∧∀s',y=some s'→y'=some s':=by
 unfold ipA
 cases hi:ipX T po s o with
 | some y=>exact .inr ⟨y,y,rfl,rfl,fun _ h=>h⟩
 | none=>
  rcases q7G (T:=T) (E:=E) s o with h|h|⟨dst,e,id,n,c,h⟩
  ·exact .inl ⟨h E,h E'⟩
  ·exact .inr ⟨none,none,h E,h E',fun _ h=>h⟩
  ·refine .inr ⟨_,_,h E,h E',fun s' h1=>qix (fun zs hz x hx y hy=>?_) h1⟩
   obtain⟨v,hv⟩:=q4R hz x hx y hy
   rw[hv,qpt hE hv]
theorem qhl {E E':Orc} (hE:OLe E E') {ops:List Oper} {o:Oper} {s s':S} (h:xgd P T po E ops o s=some s'):xgd P T po E' ops o s=some s':=by
 unfold xgd at h ⊢
 rcases qhi (T:=T) (po:=po) hE (s:=s) (o:=o) with ⟨h1,h2⟩|⟨y,y',h1,h2,h3⟩
 ·rw[h1] at h;rw[h2];exact qcG hE h
 ·rw[h1] at h;rw[h2];exact h3 _ h
theorem q8z {E E':Orc} (hE:OLe E E') {ops:List Oper}:∀(l:List Oper) {s s':S},xr P T po E ops l s=some s'→xr P T po E' ops l s=some s'
 | [],_,_,h=>h
 | o::l,_,_,h=>zf (fun _ h=>qhl hE h) (fun _ _ h=>q8z hE l h) h
def q71 (D:DRs):Prop:=∀E E',OLe E E'→∀f k id ops s s',D E f k id ops s=some s'→D E' f k id ops s=some s'
theorem q8T {D:DRs} (hD:q71 D) {E E':Orc} (hE:OLe E E') {L L':(S→XS)→S→XS} (hL:LLe L L') {f k:Nat}:∀(c:Code),FLe (XD P T po E (D E f k) L f k c) (XD P T po E' (D E' f k) L' f k c):=by
 intro c
 induction c with
 | seq a b iha ihb=>intro s x h;exact zf (fun _ h=>iha _ _ h) (fun _ _ h=>q7i ihb h) h
 | block id c ih=>intro s x h;exact zf (fun _ h=>ih _ _ h) (fun _ _ h=>h) h
 | scope c ih=>intro s x h;exact zf (fun _ h=>ih _ _ h) (fun _ _ h=>h) h
 | cond c x y ihx ihy=>
  intro s z h
  unfold XD at h ⊢
  split at h
  ·split at h
   ·rename_i hb;rw[if_pos hb];exact ihx _ _ h
   ·rename_i hb;rw[if_neg hb];exact ihy _ _ h
  ·cases h
 | region id ops draw=>
  intro s z h
  unfold XD at h ⊢
  split at h
  ·rename_i hb;rw[if_pos hb];exact zf (fun _ h=>hD E E' hE f k id _ _ _ h) (fun _ _ h=>h) h
  ·rename_i hb;rw[if_neg hb];exact zf (fun _ h=>q8z hE _ h) (fun _ _ h=>h) h
 | loop c ih=>
  intro s z h
  exact zf (fun _ h=>h) (fun a b h=>qgV hL (JX c) _ _ (fun s x h=>zf (fun _ h=>ih _ _ h) (fun _ _ h=>h) h) a b h) h
 | rangeFunc g ps aq0 bd _ _=>
  intro s z h
  unfold XD at h ⊢
  exact qg8 hE h
 | _=>intro s x h;exact h
theorem q6d {D:DRs} (hD:q71 D) {E E':Orc} (hE:OLe E E') {L L':(S→XS)→S→XS} (hL:LLe L L') {f k:Nat} {args:List R} {G:List (Nat×B)} {bd:Bd} {x:R×List (Nat×B)} (h:q3E P T po D E L f k args G bd=some x):q3E P T po D E' L' f k args G bd=some x:=by
 unfold q3E at h ⊢
 split at h
 ·rename_i hc;rw[if_pos hc];exact zf (fun a h=>q8T hD hE hL bd.code _ _ h) (fun _ _ h=>h) h
 ·cases h
theorem q8d {D:DRs} (hD:q71 D) {E E':Orc} (hE:OLe E E') {L L':(S→XS)→S→XS} (hL:LLe L L') {f k:Nat} {aq0 bd:Code} {tm:List R} {G:List (Nat×B)} {x:R×List (Nat×B)} (h:q6k P T po D E L f k aq0 bd tm G=some x):q6k P T po D E' L' f k aq0 bd tm G=some x:=by
 unfold q6k at h ⊢
 split at h
 ·rename_i hc
  rw[if_pos hc]
  refine zf (fun a h=>q8T hD hE hL aq0 _ _ h) (fun p b h=>?_) h
  unfold q8h at h ⊢
  split at h
  ·exact zf (fun _ h=>h) (fun b c h=>zf (fun a h=>q8T hD hE hL bd _ _ h) (fun _ _ h=>h) h) h
  ·cases h
 ·cases h
theorem q9i {D:DRs} (hD:q71 D) {E E':Orc} (hE:OLe E E') {L L':(S→XS)→S→XS} (hL:LLe L L') {f k:Nat} {args:List R} {G:List (Nat×B)} {x:R×List (Nat×B)} (h:fnx P T po D E L f k args G=some x):fnx P T po D E' L' f k args G=some x:=by
 unfold fnx at h ⊢
 split at h
 ·rename_i g hg;exact g.mono E E' hE _ _ _ _ h
 ·exact zf (fun _ h=>h) (fun bd b hb=>q6d hD hE hL hb) h
theorem q3a {D:DRs} (hD:q71 D):∀{n m:Nat},n≤m→OLe (xf P T po D n) (xf P T po D m)
 | 0,_,_=>fun _ _ _ _ _ h=>by cases h
 | n+1,0,h=>by omega
 | n+1,m+1,h=>fun g k args G x hx=>by
  unfold xf at hx ⊢
  cases g with
  | fn f=>exact q9i hD (q3a hD (by omega)) (qac (by omega)) hx
  | rd f aq0 bd=>exact q8d hD (q3a hD (by omega)) (qac (by omega)) hx
def EE (P:Program) (T:Ty) (po:Pol) (D:DRs):Orc:=fun f k args G=>open Classical in if h:∃x n,xf P T po D n f k args G=some x then some (Classical.choose h) else none
theorem qcB {D:DRs} (hD:q71 D) {n:Nat}:OLe (xf P T po D n) (EE P T po D):=fun f k args G x h=>by
 have hex:∃x n,xf P T po D n f k args G=some x:=⟨x,n,h⟩
 unfold EE
 rw[dif_pos hex]
 obtain⟨m,hm⟩:=Classical.choose_spec hex
 have h1:=q3a hD (Nat.le_max_left n m) _ _ _ _ _ h
 have h2:=q3a hD (Nat.le_max_right n m) _ _ _ _ _ hm
 rw[h1] at h2
 injection h2 with h2
 rw[←h2]
theorem q4l {D:DRs} {f:Fx} {k:Nat} {args:List R} {G:List (Nat×B)} {x:R×List (Nat×B)} (h:EE P T po D f k args G=some x):∃n,xf P T po D n f k args G=some x:=by
 unfold EE at h
 split at h
 ·rename_i hex
  injection h with h
  obtain⟨m,hm⟩:=Classical.choose_spec hex
  exact⟨m,h ▸ hm⟩
 ·cases h
theorem qn9 (hA:Ag P T) {D:DRs} (hD:DOk P po D) (hP:qt3 P po):Snd P (EE P T po D):=by
 refine⟨fun f k args G r G' h=>?_,fun f aq0 bd k tm G r G' h=>?_⟩
 ·obtain⟨n,hn⟩:=q4l h
  exact(qd5 hA hD hP n).fn f k args G r G' hn
 ·obtain⟨n,hn⟩:=q4l h
  exact(qd5 hA hD hP n).rd f aq0 bd k tm G r G' hn
def qmb (P:Program) (T:Ty) (po:Pol) (D:DRs):Prop:=∀f k id ops s s',D (EE P T po D) f k id ops s=some s'→∃n,D (xf P T po D n) f k id ops s=some s'
theorem zM {α β:Type} {o:Nat→Option α} {o':Option α} {g:Nat→α→Option β} {g':α→Option β} (ho:∀a,o'=some a→∃n,∀m,n≤m→o m=some a) (hg:∀a b,g' a=some b→∃n,∀m,n≤m→g m a=some b) {b:β} (h:o'.bind g'=some b):∃n,∀m,n≤m→(o m).bind (g m)=some b:=by
 obtain⟨a,h1,h2⟩:=qxo.1 h
 obtain⟨n1,h3⟩:=ho a h1
 obtain⟨n2,h4⟩:=hg a b h2
 exact⟨max n1 n2,fun m hm=>by rw[h3 m (by omega)];exact h4 m (by omega)⟩
theorem zV {α:Type} {o:Option α}:∀a,o=some a→∃n:Nat,∀m,n≤m→o=some a:=fun _ h=>⟨0,fun _ _=>h⟩
theorem q9o {k:Nat→S→XS} {k':S→XS} (h:∀s x,k' s=some x→∃n,∀m,n≤m→k m s=some x):∀p x,sqD k' p=some x→∃n,∀m,n≤m→sqD (k m) p=some x:=fun p x hx=>by
 obtain⟨e,t⟩:=p
 cases e with
 | normal=>exact h _ _ hx
 | _=>exact⟨0,fun m _=>hx⟩
theorem qeZ {E:Nat→Orc} {E':Orc} (hE:∀g k a G x,E' g k a G=some x→∃n,∀m,n≤m→E m g k a G=some x) (g:FuncId):∀(l:List (Int×Int)),(∀p∈l,∃c,cfO E' g p.1 p.2=some c)→∃n,∀m,n≤m→∀p∈l,cfO E' g p.1 p.2=cfO (E m) g p.1 p.2
 | [],_=>⟨0,fun _ _ p hp=>by cases hp⟩
 | p::l,h=>by
  obtain⟨n1,h1⟩:=qeZ hE g l fun q hq=>h q (qxr _ hq)
  obtain⟨c,hc⟩:=h p qxy
  have h2:∃n,∀m,n≤m→cfO (E m) g p.1 p.2=some c:=by
   unfold cfO at hc ⊢
   split at hc
   ·rename_i d hd
    obtain⟨n,hn⟩:=hE _ _ _ _ _ hd
    exact⟨n,fun m hm=>by rw[hn m hm];exact hc⟩
   ·cases hc
  obtain⟨n2,h2⟩:=h2
  refine⟨max n1 n2,fun m hm q hq=>?_⟩
  rcases qxF.1 hq with rfl|hq
  ·rw[hc,h2 m (by omega)]
  ·exact h1 m (by omega) q hq
theorem qd8 {E:Nat→Orc} {E':Orc} (hE:∀g k a G x,E' g k a G=some x→∃n,∀m,n≤m→E m g k a G=some x) {s s':S} {dst:Option Nat} {e id n c:Nat} (h:qbd s dst (cfO E' c) e id n=some s'):∃N,∀m,N≤m→qbd s dst (cfO (E m) c) e id n=some s':=by
 cases hb:s.blk id with
 | row e' sz cs=>
  by_cases hsz:sz=1
  ·subst hsz
   cases hz:q87 cs with
   | none=>unfold qbd at h;rw[hb] at h;simp only[hz,Option.bind_none] at h;cases h
   | some zs=>
    have hok:okB (cfO E' c) zs=true:=by
     unfold qbd at h
     rw[hb] at h
     simp only[hz,qxj] at h
     split at h
     ·rename_i hc;exact hc.2.2.2.2.1
     ·cases h
    obtain⟨N,hN⟩:=qeZ hE c (zs.flatMap fun x=>zs.map fun y=>(x,y)) (fun p hp=>by
     obtain⟨x,hx,hp⟩:=List.mem_flatMap.1 hp
     obtain⟨y,hy,rfl⟩:=qy2.1 hp
     exact q4R hok x hx y hy)
    refine⟨N,fun m hm=>?_⟩
    have hag:agB (cfO E' c) (cfO (E m) c) zs:=fun x hx y hy=>hN m hm (x,y) (List.mem_flatMap.2 ⟨x,hx,qy2.2 ⟨y,hy,rfl⟩⟩)
    unfold qbd at h ⊢
    rw[hb] at h ⊢
    simp only[hz,qxj] at h ⊢
    split at h
    ·rename_i hc
     rw[if_pos ⟨hc.1,hc.2.1,hc.2.2.1,hc.2.2.2.1,by rw[←qhN hag];exact hc.2.2.2.2.1,hc.2.2.2.2.2⟩,←q6I hag fun y hy=>hy]
     exact h
    ·cases h
  ·unfold qbd at h;rw[hb] at h
   split at h
   ·rename_i q;injection q with _ q2 _;exact absurd q2 hsz
   ·cases h
 | _=>unfold qbd at h;rw[hb] at h;cases h
section
variable {D:DRs} (hM:q71 D) (hC:qmb P T po D)
include hM
theorem q5i {f:Fx} {k:Nat} {args:List R} {G:List (Nat×B)}:∀x,EE P T po D f k args G=some x→∃n,∀m,n≤m→xf P T po D m f k args G=some x:=fun x h=>by
 obtain⟨n,hn⟩:=q4l h
 exact⟨n,fun m hm=>q3a hM hm _ _ _ _ _ hn⟩
theorem q5b {s:S} {g:FuncId} {zs:List (List Nat)} {rs:List R} {bl rw ln:List Nat}:∀x,Ji (EE P T po D) s g zs rs bl rw ln=some x→∃n,∀m,n≤m→Ji (xf P T po D m) s g zs rs bl rw ln=some x:=fun x h=>by
 unfold Ji at h ⊢
 refine zM zV (fun a b h=>zM zV (fun a b h=>?_) h) h
 split at h
 ·rename_i hc
  simp only[if_pos hc]
  exact zM (q5i hM) (fun _=>zV) h
 ·cases h
theorem q8g {s:S} {rid:Nat} {args:List R}:∀x,q2J (EE P T po D) s rid args=some x→∃n,∀m,n≤m→q2J (xf P T po D m) s rid args=some x:=fun x h=>by
 unfold q2J at h ⊢
 split at h
 ·split at h
  ·rename_i hc
   simp only[if_pos hc]
   unfold q8f q3Y at h ⊢
   refine zM zV (fun a b h=>?_) h
   split at h
   ·rename_i hc
    simp only[if_pos hc]
    exact zM (q5i hM) (fun _=>zV) h
   ·cases h
  ·cases h
 ·cases h
theorem q8W {s:S} {f:Operand} {args:List Operand} {ts:List TypeId}:∀x,q0b po (EE P T po D) s f args ts=some x→∃n,∀m,n≤m→q0b po (xf P T po D m) s f args ts=some x:=fun x h=>by
 unfold q0b at h ⊢
 split at h
 ·exact q5b hM _ h
 ·exact q8g hM _ h
 ·cases h
theorem qdg {s:S} {op:Op}:∀x,xo P T po (EE P T po D) s op=some x→∃n,∀m,n≤m→xo P T po (xf P T po D m) s op=some x:=fun x h=>by
 cases op with
 | call c=>
  simp only[xo,xCl] at h ⊢
  split at h<;>first
   | exact⟨0,fun _ _=>h⟩
   | exact q8W hM _ h
 | _=>exact⟨0,fun _ _=>h⟩
theorem qgo {f:Nat} {g:Operand} {ps:List Nat} {aq0 bd:Code} {s:S}:∀x,xRF po (EE P T po D) f g ps aq0 bd s=some x→∃n,∀m,n≤m→xRF po (xf P T po D m) f g ps aq0 bd s=some x:=fun x h=>by
 unfold xRF at h ⊢
 split at h
 ·exact zM (q5b hM) (fun _=>zV) h
 ·cases h
theorem q4N {o:Oper} {act:Bool} {s:S}:∀x,xst P T po (EE P T po D) o act s=some x→∃n,∀m,n≤m→xst P T po (xf P T po D m) o act s=some x:=fun x h=>by
 unfold xst at h ⊢
 by_cases hc:act=true
 ·simp only[if_pos hc] at h ⊢;exact zM (qdg hM) (fun _=>zV) h
 ·simp only[if_neg hc] at h ⊢;exact⟨0,fun _ _=>h⟩
theorem qen {ops:List Oper} {o:Oper} {s:S}:∀x,q8q P T po (EE P T po D) ops o s=some x→∃n,∀m,n≤m→q8q P T po (xf P T po D m) ops o s=some x:=fun x h=>by
 unfold q8q at h ⊢
 split at h
 ·exact q4N hM _ h
 ·split at h
  ·split at h
   ·split at h
    ·rename_i hb;simp only[if_pos hb];exact q4N hM _ h
    ·rename_i hb;simp only[if_neg hb];exact q4N hM _ h
   ·exact q4N hM _ h
   ·cases h
  ·cases h
theorem qhn {ops:List Oper} {o:Oper} {s:S}:∀x,xgd P T po (EE P T po D) ops o s=some x→∃n,∀m,n≤m→xgd P T po (xf P T po D m) ops o s=some x:=fun x h=>by
 unfold xgd ipA at h ⊢
 cases hi:ipX T po s o with
 | some y=>simp only[hi,ipS,qfE] at h ⊢;exact⟨0,fun _ _=>h⟩
 | none=>
  simp only[hi,ipS] at h ⊢
  rcases q7G (T:=T) (E:=EE P T po D) s o with q|q|⟨dst,e,id,n,c,q⟩
  ·simp only[q,qfE] at h ⊢;exact qen hM x h
  ·simp only[q,qfE] at h;cases h
  ·simp only[q,qfE] at h ⊢;exact qd8 (E:=fun m=>xf P T po D m) (fun g k a G x hx=>q5i hM x hx) h
theorem q8y {ops:List Oper}:∀(l:List Oper) (s:S) (x:S),xr P T po (EE P T po D) ops l s=some x→∃n,∀m,n≤m→xr P T po (xf P T po D m) ops l s=some x
 | [],_,_,h=>⟨0,fun _ _=>h⟩
 | o::l,_,_,h=>zM (qhn hM) (fun s x h=>q8y l s x h) h
include hC
theorem qkM {f k:Nat}:∀(c:Code) (s:S) (x:Exit×S),XD P T po (EE P T po D) (D (EE P T po D) f k) Lim f k c s=some x→∃n,∀m,n≤m→XD P T po (xf P T po D m) (D (xf P T po D m) f k) (iter m) f k c s=some x:=by
 intro c
 induction c with
 | seq a b iha ihb=>intro s x h;exact zM (iha s) (q9o ihb) h
 | block id c ih=>intro s x h;exact zM (ih s) (fun _=>zV) h
 | scope c ih=>intro s x h;exact zM (ih s) (fun _=>zV) h
 | cond c x y ihx ihy=>
  intro s z h
  unfold XD at h ⊢
  split at h
  ·split at h
   ·rename_i hb;simp only[if_pos hb];exact ihx _ _ h
   ·rename_i hb;simp only[if_neg hb];exact ihy _ _ h
  ·cases h
 | region id ops draw=>
  intro s z h
  unfold XD at h ⊢
  split at h
  ·rename_i hb
   simp only[if_pos hb]
   refine zM (fun a ha=>?_) (fun _=>zV) h
   obtain⟨n,hn⟩:=hC _ _ _ _ _ _ ha
   exact⟨n,fun m hm=>hM _ _ (q3a hM hm) _ _ _ _ _ _ hn⟩
  ·rename_i hb;simp only[if_neg hb];exact zM (q8y hM _ _) (fun _=>zV) h
 | loop c ih=>
  intro s z h
  unfold XD at h ⊢
  refine zM zV (fun a b h=>?_) h
  have hbody:∀s x,(XD P T po (EE P T po D) (D (EE P T po D) f k) Lim f k c s).bind (lpx po f (zg c) k)=some x→
    ∃n,∀m,n≤m→(XD P T po (xf P T po D m) (D (xf P T po D m) f k) (iter m) f k c s).bind (lpx po f (zg c) k)=some x:=fun s x h=>zM (ih s) (fun _=>zV) h
  cases hd:JX c with
  | some it=>rw[hd] at h;exact qfZ (F:=fun m s=>(XD P T po (xf P T po D m) (D (xf P T po D m) f k) (iter m) f k c s).bind (lpx po f (zg c) k)) hbody h
  | none=>
  rw[hd] at h
  replace h:Lim _ a=some b:=h
  obtain⟨N,hN⟩:=q4W h
  have hit:∀(N:Nat) (s:S) (x:Exit×S),iter N (fun s=>(XD P T po (EE P T po D) (D (EE P T po D) f k) Lim f k c s).bind (lpx po f (zg c) k)) s=some x→
    ∃n,∀m,n≤m→iter N (fun s=>(XD P T po (xf P T po D m) (D (xf P T po D m) f k) (iter m) f k c s).bind (lpx po f (zg c) k)) s=some x:=by
   intro N
   induction N with
   | zero=>intro s x h;cases h
   | succ N ihN=>intro s x h;exact zM (hbody s) (q9o ihN) h
  obtain⟨n,hn⟩:=hit N a b hN
  exact⟨max n N,fun m hm=>q1J (by omega) (fun _ _ h=>h) _ _ (hn m (by omega))⟩
 | rangeFunc g ps aq0 bd _ _=>
  intro s z h
  unfold XD at h ⊢
  exact qgo hM _ h
 | _=>intro s x h;exact⟨0,fun _ _=>h⟩
theorem qr5 (f k:Nat) (args:List R) (G:List (Nat×B)):EE P T po D (.fn f) k args G=fnx P T po D (EE P T po D) Lim f k args G:=by
 refine q5E (fun x h=>?_) (fun x h=>?_)
 ·obtain⟨n,hn⟩:=q4l h
  cases n with
  | zero=>cases hn
  | succ n=>exact q9i hM (qcB hM) (q8K n) hn
 ·cases hp:po.pr f with
  | some g=>
   unfold fnx at h
   rw[hp] at h
   obtain⟨n,hn⟩:=g.cont (fun n=>xf P T po D n) _ (fun _ _ h=>q3a hM h) (fun g k a G x h=>q5i hM x h) _ _ _ _ h
   refine qcB hM (n:=n+1) _ _ _ _ _ ?_
   show fnx P T po D _ _ f k args G=_
   unfold fnx
   rw[hp];exact hn n (qxz n)
  | none=>
  unfold fnx at h
  rw[hp] at h
  obtain⟨bd,h1,h2⟩:=qxo.1 h
  have:∃n,q3E P T po D (xf P T po D n) (iter n) f k args G bd=some x:=by
   unfold q3E at h2 ⊢
   split at h2
   ·rename_i hc
    simp only[if_pos hc]
    obtain⟨n,hn⟩:=zM (qkM hM hC bd.code _) (fun _=>zV) h2
    exact⟨n,hn n (qxz n)⟩
   ·cases h2
  obtain⟨n,hn⟩:=this
  refine qcB hM (n:=n+1) _ _ _ _ _ ?_
  show fnx P T po D _ _ f k args G=_
  unfold fnx
  rw[hp]
  simp only
  rw[h1]
  exact hn
end
end
end
noncomputable section
open Go.RowKit
def qc2 (s:S):Op→List Nat
 | .load _ x=>match s.ev x with | .c (.ptr id _)=>[id]|_=>[]
 | .convert _ _ x=>match s.ev x with | .c (.own id _ _ _)=>[id]|_=>[]
 | .lookup _ x _ _=>match s.ev x with | .c (.hd _ id)=>[id]|_=>[]
 | .range _ x=>match s.ev x with | .c (.hd _ id)=>[id]|_=>[]
 | .call c=>match c.callee,c.args.toList with | .builtin .len,[x]=>(match s.ev x with | .c (.hd _ id)=>[id]|_=>[])|_,_=>[]
 | _=>[]
def q5t:Op→Bool
 | .makeMap _ _=>true
 | .range _ _=>true
 | .alloc _=>true
 | .box _ _=>true
 | .buildSlice _ _ _=>true
 | _=>false
section
variable {P:Program} {T:Ty} {s t:S} {p:Nat} {K:KK}
theorem qep {op:Op} (hop:q1k op=true) (hev:∀x∈op.operands.toList,t.ev x=s.ev x) (hblk:∀id,id∈qc2 s op→t.blk id=s.blk id) (h:ox P T s p op K) :
  ∃r us,K r (s.up us)∧(us=[]∨(q5t op=true∧∃b,us=[(p,b)]))∧∀(q:Nat) (K':KK),(us=[]∨q=p)→K' r (t.up us)→ox P T t q op K':=by
 have e1:∀x,x∈op.operands.toList→t.ev x=s.ev x:=hev
 cases op with
 | move x=>have h1:=e1 x (by simp[Op.operands]);exact⟨_,[],h,.inl rfl,fun q K' hq' hK=>by show K' (t.ev x) t;rw[h1];exact hK⟩
 | assign x=>have h1:=e1 x (by simp[Op.operands]);exact⟨_,[],h,.inl rfl,fun q K' hq' hK=>by show K' (t.ev x) t;rw[h1];exact hK⟩
 | pick c x y=>
  have h1:=e1 c (by simp[Op.operands]);have h2:=e1 x (by simp[Op.operands]);have h3:=e1 y (by simp[Op.operands])
  simp only[ox,q66] at h ⊢
  split at h
  ·rename_i b hb
   exact⟨_,[],h,.inl rfl,fun q K' hq' hK=>by rw[h1,h2,h3,hb];exact hK⟩
  ·cases h
 | alloc ty=>
  simp only[ox,q6t] at h ⊢
  exact⟨_,_,h.2,.inr ⟨rfl,_,rfl⟩,fun q K' hq' hK=>by obtain rfl:=hq'.resolve_left (by simp);exact⟨h.1,hK⟩⟩
 | box ty x=>
  have h1:=e1 x (by simp[Op.operands])
  simp only[ox,qft] at h ⊢
  obtain⟨cs,g1,g2,g3⟩:=h
  exact⟨_,_,g3,.inr ⟨rfl,_,rfl⟩,fun q K' hq' hK=>by obtain rfl:=hq'.resolve_left (by simp);exact⟨cs,by rw[h1];exact g1,g2,hK⟩⟩
 | build ty parts=>
  have hq:∀q∈parts.toList,t.ev q.2=s.ev q.2:=fun q hq=>e1 q.2 (by simp only[Op.operands];exact List.mem_map_of_mem (f:=fun q:Nat×Operand=>q.2) hq)
  simp only[ox,q3Z] at h ⊢
  split at h
  ·rename_i fs hk
   obtain⟨g1,cs,g2,g3⟩:=h
   exact⟨_,[],g3,.inl rfl,fun q K' hq' hK=>⟨g1,cs,by rw[q4T _ _ hq];exact g2,hK⟩⟩
  ·rename_i n e hk
   obtain⟨g1,cs,g2,g3⟩:=h
   exact⟨_,[],g3,.inl rfl,fun q K' hq' hK=>⟨g1,cs,by rw[q4T _ _ hq];exact g2,hK⟩⟩
  ·cases h
 | buildSlice ty len parts=>
  have hq:∀q∈parts.toList,t.ev q.2=s.ev q.2:=fun q hq=>e1 q.2 (by simp only[Op.operands];exact List.mem_map_of_mem (f:=fun q:Nat×Operand=>q.2) hq)
  simp only[ox,JA] at h ⊢
  obtain⟨e,g1,g2,g3,g4,cs,g5,g6⟩:=h
  exact⟨_,_,g6,.inr ⟨rfl,_,rfl⟩,fun q K' hq' hK=>by obtain rfl:=hq'.resolve_left (by simp);exact⟨e,g1,g2,g3,g4,cs,by rw[q4T _ _ hq];exact g5,hK⟩⟩
 | load ty x=>
  have h1:=e1 x (by simp[Op.operands])
  simp only[ox,q60] at h ⊢
  rw[h1]
  split at h
  ·rename_i id off he
   obtain⟨r,g1,g2⟩:=h
   exact⟨r,[],g2,.inl rfl,fun q K' hq' hK=>⟨r,by rw[hblk id (by simp[qc2,he])];exact g1,hK⟩⟩
  ·obtain⟨r,g1,g2⟩:=h
   exact⟨r,[],g2,.inl rfl,fun q K' hq' hK=>⟨r,g1,hK⟩⟩
  ·cases h
 | nilCheck x=>
  have h1:=e1 x (by simp[Op.operands])
  simp only[ox,JW] at h ⊢
  rw[h1]
  split at h
  ·exact⟨_,[],h,.inl rfl,fun q K' hq' hK=>hK⟩
  ·exact⟨_,[],h,.inl rfl,fun q K' hq' hK=>hK⟩
  ·exact⟨_,[],h,.inl rfl,fun q K' hq' hK=>hK⟩
  ·cases h
 | extract x i=>
  have h1:=e1 x (by simp[Op.operands])
  simp only[ox,q0G] at h ⊢
  rw[h1]
  split at h
  ·obtain⟨r,g1,g2⟩:=h
   exact⟨r,[],g2,.inl rfl,fun q K' hq' hK=>⟨r,g1,hK⟩⟩
  ·cases h
 | fieldAddr ty x f=>
  have h1:=e1 x (by simp[Op.operands])
  simp only[ox,JY] at h ⊢
  rw[h1]
  obtain⟨fo,ft,g1,g2,g3,h⟩:=h
  split at h
  ·exact⟨_,[],h,.inl rfl,fun q K' hq' hK=>⟨fo,ft,g1,g2,g3,hK⟩⟩
  ·exact⟨_,[],h,.inl rfl,fun q K' hq' hK=>⟨fo,ft,g1,g2,g3,hK⟩⟩
  ·cases h
 | field ty x f=>
  have h1:=e1 x (by simp[Op.operands])
  simp only[ox,q4g] at h ⊢
  rw[h1]
  split at h
  ·obtain⟨fo,ft,r,g1,g2,g3⟩:=h
   exact⟨r,[],g3,.inl rfl,fun q K' hq' hK=>⟨fo,ft,r,g1,g2,hK⟩⟩
  ·cases h
 | indexAddr ty x y=>
  have h1:=e1 x (by simp[Op.operands]);have h2:=e1 y (by simp[Op.operands])
  simp only[ox,Jj] at h ⊢
  rw[h1,h2]
  split at h
  ·obtain⟨e,g1,g2,g3,g4,g5,g6⟩:=h
   exact⟨_,[],g6,.inl rfl,fun q K' hq' hK=>⟨e,g1,g2,g3,g4,g5,hK⟩⟩
  ·obtain⟨e,g1,g2,g3,g4,g5,g6⟩:=h
   exact⟨_,[],g6,.inl rfl,fun q K' hq' hK=>⟨e,g1,g2,g3,g4,g5,hK⟩⟩
  ·obtain⟨n,e,g1,g2,g4,g5,g6⟩:=h
   exact⟨_,[],g6,.inl rfl,fun q K' hq' hK=>⟨n,e,g1,g2,g4,g5,hK⟩⟩
  ·cases h
 | index ty x y=>
  have h1:=e1 x (by simp[Op.operands]);have h2:=e1 y (by simp[Op.operands])
  simp only[ox,q4b] at h ⊢
  rw[h1,h2]
  split at h
  ·obtain⟨n,e,r,g1,g2,g3,g4,g5,g6⟩:=h
   exact⟨r,[],g6,.inl rfl,fun q K' hq' hK=>⟨n,e,r,g1,g2,g3,g4,g5,hK⟩⟩
  ·obtain⟨g1,g2,c,g3,g4⟩:=h
   exact⟨_,[],g4,.inl rfl,fun q K' hq' hK=>⟨g1,g2,c,g3,hK⟩⟩
  ·cases h
 | unOp op ty x=>
  have h1:=e1 x (by simp[Op.operands])
  simp only[ox,qlq] at h ⊢
  rw[h1]
  split at h
  ·rename_i b hb;exact⟨_,[],h,.inl rfl,fun q K' hq' hK=>hK⟩
  ·rename_i k n hb;exact⟨_,[],h,.inl rfl,fun q K' hq' hK=>hK⟩
  ·cases h
 | binOp op ty x y ty'=>
  have h1:=e1 x (by simp[Op.operands]);have h2:=e1 y (by simp[Op.operands])
  simp only[ox,qbf] at h ⊢
  rw[h1,h2]
  split at h
  ·obtain⟨g1,g2⟩:=h
   cases op
   all_goals simp only[q7q] at g2 ⊢
   case quo=>exact⟨_,[],g2.2,.inl rfl,fun q K' hq' hK=>⟨g1,g2.1,hK⟩⟩
   case rem=>exact⟨_,[],g2.2,.inl rfl,fun q K' hq' hK=>⟨g1,g2.1,hK⟩⟩
   case shl=>exact⟨_,[],g2.2,.inl rfl,fun q K' hq' hK=>⟨g1,g2.1,hK⟩⟩
   case shr=>exact⟨_,[],g2.2,.inl rfl,fun q K' hq' hK=>⟨g1,g2.1,hK⟩⟩
   all_goals exact⟨_,[],g2,.inl rfl,fun q K' hq' hK=>⟨g1,hK⟩⟩
  ·cases op
   all_goals simp only[q7w] at h ⊢
   case add=>exact⟨_,[],h.2,.inl rfl,fun q K' hq' hK=>⟨h.1,hK⟩⟩
   all_goals first|exact h.elim|exact⟨_,[],h,.inl rfl,fun q K' hq' hK=>hK⟩
  ·unfold q88 at h ⊢
   cases op
   all_goals first|exact h.elim|(obtain⟨b,h1,h2⟩:=h;exact⟨_,[],h2,.inl rfl,fun q K' hq' hK=>⟨b,h1,hK⟩⟩)
  ·unfold q7F at h ⊢
   split at h
   all_goals first|exact h.elim|exact⟨_,[],h.2,.inl rfl,fun q K' hq' hK=>⟨h.1,hK⟩⟩
 | convert ty ty' x=>
  have h1:=e1 x (by simp[Op.operands])
  simp only[ox,q5X] at h ⊢
  rw[h1]
  split at h
  ·exact⟨_,[],h,.inl rfl,fun q K' hq' hK=>hK⟩
  ·exact⟨_,[],h,.inl rfl,fun q K' hq' hK=>hK⟩
  ·exact⟨_,[],h.2.2,.inl rfl,fun q K' hq' hK=>⟨h.1,h.2.1,hK⟩⟩
  ·rename_i e id sz off n g1 g2 he
   obtain⟨q1,q2,ns,q3,q4,q5⟩:=h
   exact⟨_,[],q5,.inl rfl,fun q K' hq' hK=>⟨q1,q2,ns,by rw[hblk id (by simp[qc2,he])];exact q3,q4,hK⟩⟩
  ·obtain⟨q1,q2,ns,q3,q5⟩:=h
   exact⟨_,[],q5,.inl rfl,fun q K' hq' hK=>⟨q1,q2,ns,q3,hK⟩⟩
  ·exact⟨_,[],h.2,.inl rfl,fun q K' hq' hK=>⟨h.1,hK⟩⟩
  ·cases h
 | makeFunc f first captured=>
  have h1:∀x∈first.toList,t.ev x=s.ev x:=fun x hx=>e1 x (by simp only[Op.operands];simp only[Array.toList_append,qxN];exact .inl hx)
  have h2:∀x∈captured.toList,t.ev x=s.ev x:=fun x hx=>e1 x (by simp only[Op.operands];simp only[Array.toList_append,qxN];exact .inr hx)
  simp only[ox,JV] at h ⊢
  split at h
  ·obtain⟨fs,caps,q1,q2,q3⟩:=h
   exact⟨_,[],q3,.inl rfl,fun q K' hq' hK=>⟨fs,caps,by rw[q6o _ h1];exact q1,by rw[q6o _ h2];exact q2,hK⟩⟩
  ·cases h
 | slice ty x lo hi mx=>
  have h1:=e1 x (by simp[Op.operands])
  have bd:∀(y:Option Operand) (z:Int),(∀u,y=some u→t.ev u=s.ev u)→t.bd y z=s.bd y z:=fun y z hy=>by
   cases y with
   | none=>rfl
   | some u=>simp only[S.bd,hy u rfl]
  have b1:=fun z=>bd lo z (fun u hu=>e1 u (by subst hu;simp[Op.operands]))
  have b2:=fun z=>bd hi z (fun u hu=>e1 u (by subst hu;simp[Op.operands]))
  simp only[ox,q3V] at h ⊢
  rw[h1]
  split at h
  ·obtain⟨q1,q2,l,r,q3,q4,q5,q6,q7,q8⟩:=h
   exact⟨_,[],q8,.inl rfl,fun q K' hq' hK=>⟨q1,q2,l,r,by rw[b1];exact q3,by rw[b2];exact q4,q5,q6,q7,hK⟩⟩
  ·obtain⟨e,q0,q1,q1',q2,l,r,q3,q4,q5,q6,q7,q8⟩:=h
   exact⟨_,[],q8,.inl rfl,fun q K' hq' hK=>⟨e,q0,q1,q1',q2,l,r,by rw[b1];exact q3,by rw[b2];exact q4,q5,q6,q7,hK⟩⟩
  ·rename_i id sz off n he
   obtain⟨e,q0,q1,q1',q2,l,r,q3,q4,q5,q6,q7,q8,q9⟩:=h
   by_cases hl:l=0∨l<n
   ·exact⟨_,[],q8 hl,.inl rfl,fun q K' hq' hK=>⟨e,q0,q1,q1',q2,l,r,by rw[b1];exact q3,by rw[b2];exact q4,q5,q6,q7,fun _=>hK,fun hn=>absurd hl hn⟩⟩
   ·exact⟨_,[],q9 hl,.inl rfl,fun q K' hq' hK=>⟨e,q0,q1,q1',q2,l,r,by rw[b1];exact q3,by rw[b2];exact q4,q5,q6,q7,fun hn=>absurd hn hl,fun _=>hK⟩⟩
  ·obtain⟨e,q0,q1,q2,q3,q4,q5⟩:=h
   exact⟨_,[],q5,.inl rfl,fun q K' hq' hK=>⟨e,q0,q1,q2,by rw[b1];exact q3,by rw[b2];exact q4,hK⟩⟩
  ·cases h
 | call c=>
  obtain⟨callee,args,ts⟩:=c
  simp only[ox,qdL] at h ⊢
  have e2:∀x∈args.toList,t.ev x=s.ev x:=fun x hx=>e1 x (by simp only[Op.operands,Call.operands];simp only[Array.toList_append,qxN];exact .inr hx)
  split at h
  ·rename_i x ty q1 q2
   have h1:=e2 x (by rw[q1];simp)
   split at h
   ·obtain⟨r,g1,g2⟩:=h
    refine⟨_,[],g2,.inl rfl,fun q K' hq' hK=>⟨r,?_,hK⟩⟩
    have:q3J t x=q3J s x:=by
     unfold q3J
     rw[h1]
     split
     ·rfl
     ·rename_i id he
      rw[hblk id (by simp only[qc2,q1,he];simp)]
     ·rfl
    unfold q5B at g1 ⊢
    rw[this];exact g1
   simp only[qbb] at h ⊢
   simp only[h1]
   split at h
   ·exact⟨_,[],h.2,.inl rfl,fun q K' hq' hK=>⟨h.1,hK⟩⟩
   ·exact⟨_,[],h.2,.inl rfl,fun q K' hq' hK=>⟨h.1,hK⟩⟩
   ·exact⟨_,[],h.2,.inl rfl,fun q K' hq' hK=>⟨h.1,hK⟩⟩
   ·exact⟨_,[],h.2,.inl rfl,fun q K' hq' hK=>⟨h.1,hK⟩⟩
   ·obtain⟨n,e,g1,g2⟩:=h
    exact⟨_,[],g2,.inl rfl,fun q K' hq' hK=>⟨n,e,g1,hK⟩⟩
   ·cases h
  ·rename_i x y q1
   have h1:=e2 x (by rw[q1];simp)
   have h2:=e2 y (by rw[q1];simp)
   simp only[qaV] at h ⊢
   simp only[h1,h2]
   split at h
   ·exact⟨_,[],h,.inl rfl,fun q K' hq' hK=>hK⟩
   ·cases h
  ·rename_i x y q1
   have h1:=e2 x (by rw[q1];simp)
   have h2:=e2 y (by rw[q1];simp)
   simp only[qbj] at h ⊢
   simp only[h1,h2]
   split at h
   ·exact⟨_,[],h,.inl rfl,fun q K' hq' hK=>hK⟩
   ·cases h
  ·cases hop
  ·cases hop
  ·cases hop
  ·cases h
 | makeMap ty r=>
  simp only[ox] at h ⊢
  obtain⟨x,s',g1,g2⟩:=h
  cases r with
  | none=>
   injection g1 with g1
   injection g1 with g3 g4
   subst g3 g4
   exact⟨_,_,g2,.inr ⟨rfl,_,rfl⟩,fun q K' hq' hK=>by obtain rfl:=hq'.resolve_left (by simp);exact⟨_,_,rfl,hK⟩⟩
  | some y=>
   have h1:=e1 y (by simp[Op.operands])
   simp only[q0a] at g1
   split at g1
   ·rename_i q1 q2
    injection g1 with g1
    injection g1 with g3 g4
    subst g3 g4
    exact⟨_,_,g2,.inr ⟨rfl,_,rfl⟩,fun q K' hq' hK=>by obtain rfl:=hq'.resolve_left (by simp);exact⟨_,_,by simp only[q0a,q1,h1,q2],hK⟩⟩
   ·cases g1
 | lookup ty x y ok=>
  have h1:=e1 x (by simp[Op.operands]);have h2:=e1 y (by simp[Op.operands])
  simp only[ox] at h ⊢
  obtain⟨r,g1,g2⟩:=h
  refine⟨_,[],g2,.inl rfl,fun q K' hq' hK=>⟨r,?_,hK⟩⟩
  have:q3J t x=q3J s x:=by
   unfold q3J
   rw[h1]
   split
   ·rfl
   ·rename_i id he
    rw[hblk id (by simp only[qc2,he];simp)]
   ·rfl
  unfold q1E at g1 ⊢
  rw[this,h2];exact g1
 | range ty x=>
  have h1:=e1 x (by simp[Op.operands])
  simp only[ox] at h ⊢
  obtain⟨r,s',g1,g2⟩:=h
  unfold q2H at g1
  split at g1
  ·rename_i q1 q2
   injection g1 with g1
   injection g1 with g3 g4
   subst g3 g4
   exact⟨_,_,g2,.inr ⟨rfl,_,rfl⟩,fun q K' hq' hK=>by obtain rfl:=hq'.resolve_left (by simp);exact⟨_,_,by simp only[q2H,q1,h1,q2],hK⟩⟩
  ·rename_i q1 q2
   injection g1 with g1
   injection g1 with g3 g4
   subst g3 g4
   exact⟨_,_,g2,.inr ⟨rfl,_,rfl⟩,fun q K' hq' hK=>by obtain rfl:=hq'.resolve_left (by simp);exact⟨_,_,by simp only[q2H,q1,h1,q2],hK⟩⟩
  ·rename_i id q1 q2
   split at g1
   ·rename_i es ck q3
    injection g1 with g1
    injection g1 with g3 g4
    subst g3 g4
    have q4:=hblk id (by simp only[qc2,q2];simp)
    exact⟨_,_,g2,.inr ⟨rfl,_,rfl⟩,fun q K' hq' hK=>by obtain rfl:=hq'.resolve_left (by simp);exact⟨_,_,by simp only[q2H,q1,h1,q2,q4,q3],hK⟩⟩
   ·cases g1
  ·cases g1
 | _=>cases hop
end
structure Fp where
 rb:List Nat
 wb:List Nat
 X:List Nat
 ks:List Nat
 nw:List Nat
def C.lt0 (n:Nat):C→Bool
 | .ptr i _=>decide (i<n)
 | .hd _ i=>decide (i<n)
 | .own i _ _ _=>decide (i<n)
 | _=>true
def C.ltn (n:Nat):C→Bool
 | .fn _ fs caps=>fs.all (C.lt0 n)&&caps.all (C.lt0 n)
 | c=>c.lt0 n
def R.lt0 (n:Nat):R→Bool
 | .c x=>x.ltn n
 | .agg xs=>xs.all (C.ltn n)
 | _=>true
def R.ltn (n:Nat):R→Bool
 | .tup rs=>rs.all (R.lt0 n)
 | r=>r.lt0 n
def B.ltn (n:Nat):B→Bool
 | .blk _ cs=>cs.all (C.ltn n)
 | .row _ _ cs=>cs.all (C.ltn n)
 | .ob o=>o.Rs.all (R.lt0 n)
 | .dead=>true
def C.farF (X:List Nat):C→Bool
 | .fn _ fs caps=>(fs++caps).all (C.farL X)
 | x=>x.farL X
def R.farL (X:List Nat):R→Bool
 | .c x=>x.farF X
 | .agg xs=>xs.all (C.farF X)
 | .tup rs=>rs.isEmpty
 | .any=>true
def B.farL (X:List Nat):B→Bool
 | .blk _ cs=>cs.all (C.farF X)
 | .row _ _ cs=>cs.all (C.farF X)
 | .ob o=>o.Rs.all (R.farL X)
 | .dead=>true
def q4t (s:S) (X:List Nat):List Nat:=match X with | []=>[]|X=>((s.tm.map (·.1)).eraseDups).filter fun d => !(s.get d).farL X
def qfF (s:S) (id:Nat):List Nat:=((s.hp.map (·.1)).eraseDups).filter fun i => !(i==id) && !(s.blk i).farL [id]
def R.isA:R→Bool
 | .any=>true
 | _=>false
def qtF (s:S):List Nat:=((s.tm.map (·.1)).eraseDups).filter fun d=>(s.get d).isA
def fpA (s:S) (id:Nat) (y:Operand):Fp:=⟨(s.ev y).rows,id::qfF s id,[id],q4t s [id]++qtF s,[]⟩
def qaQ (s:S):List Operand→Option Fp
 | [x,y]=>match s.ev x with
  | .c (.own id _ _ _)=>some (fpA s id y)
  | .c .nils=>some (fpA s s.nx y)
  | _=>none
 | _=>none
def S.kill (s:S) (ks:List Nat):S:={ s with tm:=ks.map (fun d=>(d,R.any))++s.tm }
mutual
def D.beq:D→D→Bool
 | .int k a,.int k' b=>decide (k=k')&&decide (a=b)
 | .bool a,.bool b=>a==b
 | .str a,.str b=>decide (a.data=b.data)
 | .sl z n cs,.sl z' n' cs'=>decide (z=z')&&decide (n=n')&&D.beqL cs cs'
 | _,_=>false
def D.beqL:List D→List D→Bool
 | [],[]=>true
 | x::l,y::r=>D.beq x y&&D.beqL l r
 | _,_=>false
end
mutual
theorem D.beq_eq:∀{a b:D},D.beq a b=true→a=b
 | .int k a,.int k' b,h=>by simp only[D.beq,qxP,qyh] at h;rw[h.1,h.2]
 | .bool a,.bool b,h=>by simp only[D.beq,beq_iff_eq] at h;rw[h]
 | .str ⟨a⟩,.str ⟨b⟩,h=>by simp only[D.beq,qyh] at h;rw[h]
 | .sl z n cs,.sl z' n' cs',h=>by simp only[D.beq,qxP,qyh] at h;rw[h.1.1,h.1.2,D.beqL_eq h.2]
 | .int _ _,.bool _,h | .int _ _,.str _,h | .int _ _,.sl _ _ _,h | .bool _,.int _ _,h | .bool _,.str _,h | .bool _,.sl _ _ _,h | .str _,.int _ _,h | .str _,.bool _,h | .str _,.sl _ _ _,h | .sl _ _ _,.int _ _,h | .sl _ _ _,.bool _,h | .sl _ _ _,.str _,h=>by simp[D.beq] at h
theorem D.beqL_eq:∀{a b:List D},D.beqL a b=true→a=b
 | [],[],_=>rfl
 | x::l,y::r,h=>by simp only[D.beqL,qxP] at h;rw[D.beq_eq h.1,D.beqL_eq h.2]
 | [],_::_,h|_::_,[],h=>by simp[D.beqL] at h
end
def C.beq0:C→C→Bool
 | .d x,.d y=>D.beq x y
 | .ptr i o,.ptr i' o'=>decide (i=i')&&decide (o=o')
 | .hd k i,.hd k' i'=>decide (k=k')&&decide (i=i')
 | .own i sz o n,.own i' sz' o' n'=>decide (i=i')&&decide (sz=sz')&&decide (o=o')&&decide (n=n')
 | .nilp,.nilp | .nilf,.nilf | .nilm,.nilm | .nils,.nils | .any,.any=>true
 | _,_=>false
def C.beqL:List C→List C→Bool
 | [],[]=>true
 | x::l,y::r=>C.beq0 x y&&C.beqL l r
 | _,_=>false
theorem C.beq0_eq {a b:C} (h:C.beq0 a b=true):a=b:=by
 unfold C.beq0 at h
 split at h
 ·rw[D.beq_eq h]
 ·simp only[qxP,qyh] at h;rw[h.1,h.2]
 ·simp only[qxP,qyh] at h;rw[h.1,h.2]
 ·simp only[qxP,qyh] at h;rw[h.1.1.1,h.1.1.2,h.1.2,h.2]
 ·rfl
 ·rfl
 ·rfl
 ·rfl
 ·rfl
 ·cases h
theorem C.beqL_eq:∀{a b:List C},C.beqL a b=true→a=b
 | [],[],_=>rfl
 | x::l,y::r,h=>by simp only[C.beqL,qxP] at h;rw[C.beq0_eq h.1,C.beqL_eq h.2]
 | [],_::_,h|_::_,[],h=>by simp[C.beqL] at h
def B.beq:B→B→Bool
 | .blk t cs,.blk t' cs'=>decide (t=t')&&C.beqL cs cs'
 | .row e sz cs,.row e' sz' cs'=>decide (e=e')&&decide (sz=sz')&&C.beqL cs cs'
 | .dead,.dead=>true
 | _,_=>false
theorem B.beq_eq {a b:B} (h:B.beq a b=true):a=b:=by
 unfold B.beq at h
 split at h
 ·simp only[qxP,qyh] at h;rw[h.1,C.beqL_eq h.2]
 ·simp only[qxP,qyh] at h;rw[h.1.1,h.1.2,C.beqL_eq h.2]
 ·rfl
 ·cases h
def wbC (s s1:S) (bl rw:List Nat):List Nat:=match rw with | []=>bl.filter fun i => !B.beq (s1.blk i) (s.blk i)|rw=>bl++rw
def q4y (n m:Nat):List Nat:=(List.range (m-n)).map (n+·)
def qqv (s s1:S) (r:R) (bl rw ln:List Nat):Option Fp:=
 if s1.nx=s.nx∧(bl++rw).all (fun i=>(s1.blk i).ltn s.nx)=true∧r.ltn s.nx=true then some ⟨bl++rw++ln,wbC s s1 bl rw,rw,q4t s rw,[]⟩ else some ⟨bl++rw++ln,wbC s s1 bl rw++q4y s.nx s1.nx,rw,q4t s rw,[s.nx]⟩
def qoj (s s1:S) (r:R) (rs:List R) (l:List Nat):Option Fp:=qqv s s1 r (q8r s l) (q1T s l) (((rs.flatMap R.rows).eraseDups).filter fun i => !l.contains i)
def qmB (s s1:S) (r:R) (ow:List Nat) (rs:List R):Option Fp:=qoj s s1 r rs (q16 s 60 (rs.flatMap R.ptrs++qsc ow rs) [])
def fpC (po:Pol) (s s1:S) (r:R) (f:Operand) (args:List Operand):Option Fp:=
 match s.ev f with
 | .c (.fn g fs caps)=>qmB s s1 r (po.ow g) (fs.map R.c++args.map s.ev++caps.map R.c)
 | _=>none
def qe1 (po:Pol) (s s1:S) (r:R) (op:Op):Option Fp:=
 if q1k op=true then some ⟨qc2 s op,if q5t op=true then[s.nx] else[],[],[],[]⟩ else
 match op with
 | .store _ x _=>match s.ev x with | .c (.ptr id _)=>some ⟨[],[id],[],[],[]⟩|_=>none
 | .makeSlice _ _ _=>some ⟨[],[s.nx],[],[],[]⟩
 | .call { callee := .builtin .append,args,.. }=>qaQ s args.toList
 | .call { callee := .value f,args,.. }=>fpC po s s1 r f args.toList
 | _=>none
abbrev Tx:=(R×List (Nat×B))×Fp
def alC (po:Pol) (s:S):Op→Option (FuncId×List R)
 | .call { callee := .value f,args,.. }=>match s.ev f with
  | .c (.fn g [] [])=>if po.ro g=true∧(args.toList.map s.ev).all R.dat=true then some (g,args.toList.map s.ev) else none
  | _=>none
 | _=>none
def qq9 (q:R×List (Nat×B)):Option (Nat×Nat×Nat×List C):=match q with
 | (.c (.own 0 z 0 n),[(0,.row e z' cs)])=>if z'=z∧cs.all C.dat=true then some (z,n,e,cs) else none
 | _=>none
def qr2 (s:S) (o:Oper) (q:Option (Nat×Nat×Nat×List C)):Option (S×Tx):=
 q.bind fun q=>if q4U s o.dst=true then some ((s.up [(s.nx,.row q.2.2.1 q.1 q.2.2.2)]).put o.dst (.c (.own s.nx q.1 0 q.2.1)),(.c (.own s.nx q.1 0 q.2.1),[(s.nx,.row q.2.2.1 q.1 q.2.2.2)]),⟨[],[s.nx],[],[],[]⟩) else none
def qwZ (E:Orc) (s:S) (o:Oper) (g:FuncId) (args:List R):Option (S×Tx):=qr2 s o ((E (.fn g) 0 args []).bind qq9)
def alX (E:Orc) (s:S) (o:Oper) (x:Option (FuncId×List R)) (y:Option (S×Tx)):Option (S×Tx):=match x with
 | some q=>qwZ E s o q.1 q.2
 | none=>y
def xsF (P:Program) (T:Ty) (po:Pol) (E:Orc) (o:Oper) (act:Bool) (s:S):Option (S×Tx):=
 if act=true then alX E s o (alC po s o.op) <| (xo P T po E s o.op).bind fun q=>if q4U q.2 o.dst=true then(qe1 po s q.2 q.1 o.op).bind fun fp=>some ((q.2.kill fp.ks).put o.dst q.1,(q.1,fp.wb.map fun x=>(x,q.2.blk x)),fp) else none
 else if q4U s o.dst=true then some (s.put o.dst (.tup []),(.tup [],[]),⟨[],[],[],[],[]⟩) else none
def xgF (P:Program) (T:Ty) (po:Pol) (E:Orc) (ops:List Oper) (o:Oper) (s:S):Option (S×Tx):=
 match o.guard with
 | none=>xsF P T po E o true s
 | some (j,want)=>match (ops[j]?).bind (·.dst) with
  | some d=>match s.get d with
   | .c (.d (.bool b))=>if b=true then xsF P T po E o want (s.put (some d) tt) else xsF P T po E o (!want) (s.put (some d) ff)
   | .tup []=>xsF P T po E o false s
   | _=>none
  | none=>none
def q1t (a b:Fp):Bool:=a.wb.any (fun x=>b.rb.contains x||b.wb.contains x)||a.rb.any (fun x=>b.wb.contains x)
def Fp.none? (a:Fp):Bool:=a.rb.isEmpty&&a.wb.isEmpty
def okP (A:List (List Nat)):Nat→List (Nat×Fp)→List Tx→Bool
 | _,_,[]=>true
 | j,prev,x::l=>prev.all (fun q=>if q1t q.2 x.2=true then(A.getD j []).contains q.1 else true)&&okP A (j+1) (if x.2.none?=true then prev else(j,x.2)::prev) l
def qcH (ops:List Oper) (fp:Fp) (i:Nat) (x:Tx):Bool:=(x.1.1.farL fp.X||(match q3H ops i with|some d=>fp.ks.contains d|none=>true))&&x.1.2.all fun u=>fp.wb.contains u.1||u.2.farL fp.X
def qoz (fp:Fp) (s:S):Bool:=s.tm.all (fun x=>fp.ks.contains x.1||x.2.farL fp.X)&&s.hp.all fun u=>fp.wb.contains u.1||u.2.farL fp.X
def qkL (ops:List Oper) (A:List (List Nat)) (fp:Fp) (j:Nat):Nat→List Tx→Bool
 | _,[]=>true
 | i,x::l=>(i==j||(A.getD i []).contains j||qcH ops fp i x)&&qkL ops A fp j (i+1) l
def okX (ops:List Oper) (A:List (List Nat)) (s0:S) (l:List Tx):Nat→List Tx→Bool
 | _,[]=>true
 | j,x::r=>(if x.2.X.isEmpty=true then true else qoz x.2 s0&&qkL ops A x.2 j 0 l)&&okX ops A s0 l (j+1) r
def qey (ops:List Oper) (i:Nat):List Nat:=match ops[i]? with|some o=>q1c ops o++o.dst.toList|none=>[]
def q3L (ops:List Oper) (i j:Nat) (x y:Tx):Bool:=x.2.ks.any (fun d=>(qey ops j).contains d||y.2.ks.contains d)||y.2.ks.any fun d=>(qey ops i).contains d
def qiU (ops:List Oper) (A:List (List Nat)) (j:Nat) (y:Tx):Nat→List Tx→Bool
 | _,[]=>true
 | i,x::l=>(!decide (i<j) || !q3L ops i j x y||(A.getD j []).contains i)&&qiU ops A j y (i+1) l
def qlr (ops:List Oper) (A:List (List Nat)) (l:List Tx):Nat→List Tx→Bool
 | _,[]=>true
 | j,y::r=>qiU ops A j y 0 l&&qlr ops A l (j+1) r
def okK (ops:List Oper) (A:List (List Nat)) (l:List Tx):Bool:=l.all (fun x=>x.2.ks.isEmpty)||qlr ops A l 0 l
def qoX (lim i:Nat):Nat→List Tx→Bool
 | _,[]=>true
 | j,x::l=>(i==j||x.1.2.all fun u=>Nat.blt u.1 lim)&&qoX lim i (j+1) l
def okN (l:List Tx):Nat→List Tx→Bool
 | _,[]=>true
 | j,x::r=>(match x.2.nw with | []=>true|n::_=>qoX n j 0 l)&&okN l (j+1) r
def xdp (P:Program) (T:Ty) (po:Pol) (E:Orc) (ops:List Oper) (A:List (List Nat)) (s0:S):Nat→List Oper→S→List Tx→Option S
 | 0,l,s,acc=>if okP A 0 [] acc=true∧okX ops A s0 acc 0 acc=true∧okK ops A acc=true∧okN acc 0 acc=true then xr P T po E ops l s else none
 | m+1,o::l,s,acc=>(xgF P T po E ops o s).bind fun q=>xdp P T po E ops A s0 m l q.1 (acc++[q.2])
 | _+1,[],_,_=>none
def qqx:List (Nat×R)→Bool
 | []=>true
 | x::l=>if x.2.isA=true then qqx l else false
def q2G:List (Nat×R)→List (Nat×R)
 | []=>[]
 | x::l=>if x.2.isA=true then(if qqx l=true then[] else x::q2G l) else x::q2G l
def S.strip (s:S):S:=⟨q2G s.tm,s.hp,s.nx,s.n⟩
def d1b (P:Program) (T:Ty) (po:Pol) (E:Orc) (f id:Nat) (ops:List Oper) (o:Option S):Option S:=o.bind fun s=>xdp P T po E ops (po.an f id) s.strip (po.dm f id) ops s.strip []
def D1 (P:Program) (T:Ty) (po:Pol):DRs:=fun E f _ id ops s=>d1b P T po E f id ops (s.tkD T po ops)
section
variable {P:Program} {T:Ty} {po:Pol} {E:Orc} {f id:Nat} {ops:List Oper} {s:S} {c:Prop} [Decidable c] {α:Type}
theorem qfv:d1b P T po E f id ops (some s)=xdp P T po E ops (po.an f id) s.strip (po.dm f id) ops s.strip []:=rfl
theorem qgO (o:Option α) (g:α→Option S):d1b P T po E f id ops (o.bind g)=o.bind fun a=>d1b P T po E f id ops (g a):=by cases o<;>rfl
end
end
noncomputable section
open Go.RowKit
def qf4 (fp:Fp) (t:S):Prop:=fp.X=[]∨((∀d,d ∉ fp.ks→(t.get d).fgL fp.X=t.get d)∧∀x,x ∉ fp.wb→(t.blk x).fgL fp.X=t.blk x)
def Loc (P:Program) (o:Oper) (s:S) (r:R) (us:List (Nat×B)) (fp:Fp):Prop:=
 ∀(cx:Cx) (ρ:Pl) (t:S) (a:Act) (w:World) (next:Act→World→Prop) (Q:Exit→Act→World→Prop),(∀y∈o.op.operands.toList,t.ev y=s.ev y)→(∀x,x∈fp.rb∨x∈fp.wb→t.blk x=s.blk x)→qf4 fp t→(fp.nw≠[]→∀x,t.live x→x<s.nx)→Sim cx ρ t a w→
  (∀ρ' t' v w',(∀d,d ∉ fp.ks→t'.get d=t.get d)→(∀x,t'.blk x=lk us x (t.blk x))→t'.n=t.n→Sim cx ρ' t' a w'→RR w' t'.live ρ' v r→next (a.put o.dst v) w')→o.wpIn (FW cx.ro) 0 P a w next Q
theorem quK {X:List Nat} {x:C} (h:x.farF X=true):x.fgL X=x:=by
 cases x with
 | ptr i o=>simp only[C.farF,C.farL,Bool.not_eq_true'] at h;simp only[C.fgL,h];rfl
 | hd k i=>simp only[C.farF,C.farL,Bool.not_eq_true'] at h;simp only[C.fgL,h];rfl
 | own i sz o n=>simp only[C.farF,C.farL,Bool.not_eq_true'] at h;simp only[C.fgL,h];rfl
 | fn f fs caps=>simp only[C.farF] at h;simp only[C.fgL,h,if_true]
 | _=>rfl
theorem qkV {X:List Nat} {xs:List C} (h:xs.all (C.farF X)=true):xs.map (C.fgL X)=xs:=by
 induction xs with
 | nil=>rfl
 | cons x xs ih=>
  simp only[List.all_cons,qxP] at h
  rw[qxG,quK h.1,ih h.2]
theorem qrt {X:List Nat} {r:R} (h:r.farL X=true):r.fgL X=r:=by
 cases r with
 | c x=>simp only[R.farL] at h;simp only[R.fgL];rw[quK h]
 | agg xs=>simp only[R.farL] at h;simp only[R.fgL];rw[qkV h]
 | tup rs=>
  simp only[R.farL] at h
  simp only[R.fgL,h,if_true]
  rw[List.isEmpty_iff] at h
  rw[h]
 | any=>rfl
theorem qum {X:List Nat} {b:B} (h:b.farL X=true):b.fgL X=b:=by
 cases b with
 | blk t cs=>simp only[B.farL] at h;simp only[B.fgL];rw[qkV h]
 | row e sz cs=>simp only[B.farL] at h;simp only[B.fgL];rw[qkV h]
 | ob o=>
  simp only[B.farL] at h
  simp only[B.fgL]
  rw[AO.mapR_congr (f:=fun x=>x) fun x hx=>qrt (qxA.1 h x hx),AO.mapR_id]
 | dead=>rfl
section
variable {P:Program} {T:Ty} {po:Pol} {E:Orc} {s s1:S} {r:R} {o:Oper}
theorem qi3 {α:Type} (i x:Nat) (b z:α):lk [(i,b)] x z=if i=x then b else z:=rfl
theorem qcC {s:S} {op:Op} (h:q1k op=true):isY s op=false:=by
 unfold isY
 split
 ·cases h
 ·rfl
theorem qjR (hA:Ag P T) (hE:Snd P E) (hop:q1k o.op=true) (h:xo P T po E s o.op=some (r,s1)) (hnx:s.blk s.nx = .dead) {X:List Nat} :
  Loc P o s r ((if q5t o.op=true then[s.nx] else[]).map fun x=>(x,s1.blk x)) ⟨qc2 s o.op,if q5t o.op=true then[s.nx] else[],X,[],[]⟩:=by
 intro cx ρ t a w next Q hev hblk _ _ hs hn
 have hox:=qiJ hE (K:=fun r' s''=>r'=r∧s''=s1) (qcC hop) h ⟨rfl,rfl⟩
 obtain⟨r',us',⟨rfl,h2⟩,h3,h4⟩:=qep (t:=t) hop hev (fun id hid=>hblk id (.inl hid)) hox
 have fin:∀q,¬ t.live q→(us'=[]∨q=s.nx)→o.wpIn (FW cx.ro) 0 P a w next Q:=by
  intro q hq hq2
  refine q5a hA hq hs (h4 q (fun r'' s''=>r''=r'∧s''=t.up us') hq2 ⟨rfl,rfl⟩) ?_
  rintro r'' s'' ρ' v w' ⟨rfl,rfl⟩ g1 g2
  refine hn ρ' (t.up us') v w' (fun d _=>rfl) (fun x=>?_) rfl g1 g2
  rcases h3 with rfl|⟨ha,b,rfl⟩
  ·have:s1=s:=h2.symm
   subst this
   split
   ·rename_i ha
    show t.blk x=lk [(s1.nx,s1.blk s1.nx)] x (t.blk x)
    rw[qi3]
    split
    ·rename_i hx;subst hx;exact hblk _ (.inr (by rw[if_pos ha];exact qxy))
    ·rfl
   ·rfl
  ·rw[if_pos ha,S.blk_up]
   show _=lk [(s.nx,s1.blk s.nx)] x (t.blk x)
   rw[qi3,←h2,S.blk_up,if_pos rfl]
 by_cases hu:us'=[]
 ·exact fin t.nx (fun h=>by have:=hs.nx _ h;omega) (.inl hu)
 ·obtain⟨ha,-⟩:=h3.resolve_left hu
  refine fin s.nx (fun h=>?_) (.inr rfl)
  unfold S.live at h
  rw[hblk s.nx (.inr (by simp[ha])),hnx] at h
  cases h
theorem qhj (hA:Ag P T) {ty:TypeId} {x y:Operand} {id off:Nat} (ho:o.op = .store ty x y) (hx:s.ev x = .c (.ptr id off)) (h:q1b T s ty x y=some (r,s1)) {X:List Nat}:Loc P o s r ([id].map fun x=>(x,s1.blk x)) ⟨[],[id],X,[],[]⟩:=by
 intro cx ρ t a w next Q hev hblk _ _ hs hn
 have e1:=hev x (by rw[ho];simp[Op.operands])
 have e2:=hev y (by rw[ho];simp[Op.operands])
 have hb:=hblk id (.inr qxy)
 have hl:s.live id:=by
  unfold q1b at h
  rw[hx] at h
  simp only at h
  split at h
  ·rename_i ys hys
   split at h
   ·rename_i hc
    have hq:=hs.ev x
    rw[e1,hx] at hq
    obtain⟨b,cap,q1,-,-⟩:=hq.inv_ptr
    unfold S.live at q1 ⊢
    rw[hb] at q1
    exact q1
   ·cases h
  ·cases h
 have ht:q1b T t ty x y=some (r,t.up [(id,s1.blk id)]):=by
  unfold q1b at h ⊢
  rw[e1,e2,hx] at *
  simp only at h ⊢
  rw[hb]
  split at h
  ·split at h
   ·rename_i hc
    obtain⟨rfl,rfl⟩:=Q0 h
    rw[if_pos hc,S.blk_up,if_pos rfl]
   ·cases h
  ·cases h
 have hox:ox P T t t.nx o.op (fun r' s''=>r'=r∧s''=t.up [(id,s1.blk id)]):=by
  rw[ho]
  simp only[ox]
  exact q7P (K:=fun r' s''=>r'=r∧s''=t.up [(id,s1.blk id)]) ht ⟨rfl,rfl⟩
 refine q5a hA (fun h=>by have:=hs.nx _ h;omega) hs hox ?_
 rintro r'' s'' ρ' v w' ⟨rfl,rfl⟩ g1 g2
 exact hn ρ' (t.up [(id,s1.blk id)]) v w' (fun d _=>rfl) (fun x=>S.blk_up t id x _) rfl g1 g2
theorem ql4 (hA:Ag P T) {ty:TypeId} {x y:Operand} (ho:o.op = .makeSlice ty x y) (h:qaR T s ty x y=some (r,s1)) (hnx:s.blk s.nx = .dead) {X:List Nat}:Loc P o s r ([s.nx].map fun x=>(x,s1.blk x)) ⟨[],[s.nx],X,[],[]⟩:=by
 intro cx ρ t a w next Q hev hblk _ _ hs hn
 have e1:=hev x (by rw[ho];simp[Op.operands])
 have e2:=hev y (by rw[ho];simp[Op.operands])
 have hb:=hblk s.nx (.inr qxy)
 have hl:¬ t.live s.nx:=fun h=>by unfold S.live at h;rw[hb,hnx] at h;cases h
 have hk:=q97 (K:=fun r' s''=>r'=r∧s''=s1) h ⟨rfl,rfl⟩
 have hox:ox P T t s.nx o.op (fun r' s''=>r'=r∧s''=t.up [(s.nx,s1.blk s.nx)]):=by
  rw[ho]
  simp only[ox]
  unfold q5U at hk ⊢
  rw[e1,e2]
  split at hk
  ·obtain⟨e,q1,q2,q3,q4,q5,q6,q7,q8,rfl,rfl⟩:=hk
   exact⟨e,q1,q2,q3,q4,q5,q6,q7,q8,rfl,by rw[S.blk_up,if_pos rfl]⟩
  ·cases hk
 refine q5a hA hl hs hox ?_
 rintro r'' s'' ρ' v w' ⟨rfl,rfl⟩ g1 g2
 exact hn ρ' (t.up [(s.nx,s1.blk s.nx)]) v w' (fun d _=>rfl) (fun x=>S.blk_up t s.nx x _) rfl g1 g2
theorem q4i {α:Type} (f:Nat→α):∀(l:List Nat) (x:Nat) (z:α),lk (l.map fun i=>(i,f i)) x z=if x∈l then f x else z
 | [],_,_=>by simp[lk]
 | i::l,x,z=>by
  simp only[qxG,lk,q4i f l x z,qxF]
  by_cases hx:i=x
  ·subst hx;simp
  ·rw[if_neg hx]
   by_cases h2:x∈l
   ·rw[if_pos h2,if_pos (.inr h2)]
   ·rw[if_neg h2,if_neg (by rintro(h|h);exact hx h.symm;exact h2 h)]
theorem qqK {id:Nat} {x:C}:x.fgL [id]=x.fg id:=by
 have e0:∀i:Nat,[id].contains i=decide (i=id):=fun i=>by simp
 have e1:∀x:C,x.farL [id]=x.far id:=fun x=>by
  cases x with
  | ptr i o=>simp only[C.farL,C.far,e0];by_cases h:i=id<;>simp[h]
  | hd k i=>simp only[C.farL,C.far,e0];by_cases h:i=id<;>simp[h]
  | own i sz o n=>simp only[C.farL,C.far,e0];by_cases h:i=id<;>simp[h]
  | _=>rfl
 cases x with
 | ptr i o=>simp only[C.fgL,C.fg,e0,qyh]
 | hd k i=>simp only[C.fgL,C.fg,e0,qyh]
 | own i sz o n=>simp only[C.fgL,C.fg,e0,qyh]
 | fn f fs caps=>simp only[C.fgL,C.fg,funext e1]
 | _=>rfl
theorem qso {id:Nat} {x:R}:x.fgL [id]=x.fg id:=by
 cases x with
 | c x=>simp only[R.fgL,R.fg,qqK]
 | agg xs=>simp only[R.fgL,R.fg];congr 1;exact List.map_congr_left fun x _=>qqK
 | _=>rfl
theorem qvk {id:Nat} {x:B}:x.fgL [id]=x.fg id:=by
 have e:C.fgL [id]=C.fg id:=funext fun _=>qqK
 have e2:R.fgL [id]=R.fg id:=funext fun _=>qso
 cases x with
 | blk t cs=>simp only[B.fgL,B.fg,e]
 | row a sz cs=>simp only[B.fgL,B.fg,e]
 | ob o=>simp only[B.fgL,B.fg,e2]
 | dead=>rfl
theorem qe4 {t:S} {y:Operand} (h1:t.ev y=s.ev y) (h2:∀i∈(s.ev y).rows,t.blk i=s.blk i):t.seq y=s.seq y:=by
 unfold S.seq
 rw[h1]
 cases he:s.ev y with
 | c x=>
  cases x with
  | own id sz off n=>simp only;rw[h2 id (by rw[he];simp[R.rows,C.rows,C.rows0])]
  | d x=>cases x<;>rfl
  | _=>rfl
 | _=>rfl
theorem qph (hA:Ag P T) {x y:Operand} {t1 t2:TypeId} {fp:Fp} (ho:o.op = .call { callee := .builtin .append,args:=#[x,y],argTypes:=#[t1,t2] }) (he:t2=t1) (h:q3g T s t1 x y=some (r,s1)) (hf:qaQ s [x,y]=some fp) (hnx:s.blk s.nx = .dead) :
  Loc P o s r (fp.wb.map fun x=>(x,s1.blk x)) fp:=by
 intro cx ρ t a w next Q hev hblk hfar hltn hs hn
 have e1:=hev x (by rw[ho];simp[Op.operands,Call.operands])
 have e2:=hev y (by rw[ho];simp[Op.operands,Call.operands])
 have main:∀(id:Nat) (row:B) (p:Nat),fp=fpA s id y→(∀K:KK,K r ((t.fg id).up [(id,row)])→q3w T t p t1 x y K)→¬ t.live p→s1=(s.fg id).up [(id,row)]→o.wpIn (FW cx.ro) 0 P a w next Q:=by
  intro id row p hfp hk hp hs1
  subst hfp
  have hox:ox P T t p o.op (fun r' s''=>r'=r∧s''=(t.fg id).up [(id,row)]):=by
   rw[ho]
   simp only[ox,qdL]
   exact⟨he,hk _ ⟨rfl,rfl⟩⟩
  refine q5a hA hp hs hox ?_
  rintro r'' s'' ρ' v w' ⟨rfl,rfl⟩ g1 g2
  have hX:(fpA s id y).X=[id]:=rfl
  have hfar':=hfar.resolve_left (by rw[hX];simp)
  rw[hX] at hfar'
  refine hn ρ' ((t.fg id).up [(id,row)]) v w' (fun d hd=>?_) (fun i=>?_) rfl g1 g2
  ·show(t.fg id).get d=t.get d
   rw[S.get_fg,←qso];exact hfar'.1 d hd
  ·show _=lk ((id::qfF s id).map fun x=>(x,s1.blk x)) i (t.blk i)
   have L1:((t.fg id).up [(id,row)]).blk i=if id=i then row else(t.blk i).fg id:=by rw[S.blk_up,S.blk_fg]
   have R1:s1.blk i=if id=i then row else(s.blk i).fg id:=by rw[hs1,S.blk_up,S.blk_fg]
   rw[q4i (fun x=>s1.blk x),L1,R1]
   by_cases hi:i∈id::qfF s id
   ·rw[if_pos hi,hblk i (.inr hi)]
   ·have hii:id≠i:=fun h=>hi (h ▸ qxy)
    rw[if_neg hi,if_neg hii,←qvk]
    exact hfar'.2 i hi
 have hseq:∀id,fp=fpA s id y→t.seq y=s.seq y:=fun id hfp=>qe4 e2 fun i hi=>hblk i (.inl (by rw[hfp];exact hi))
 have hk:=q40 (K:=fun r' s''=>r'=r∧s''=s1) h ⟨rfl,rfl⟩
 obtain⟨e,m,ys,q1,q2,q3,q4,q5,q6,q7,q8⟩:=hk
 simp only[qaQ] at hf
 split at hf
 ·rename_i id sz off n hx
  injection hf with hf
  rw[hx] at q8
  simp only at q8
  obtain⟨p1,p2,cs,p3,p4,p5,p6,p7,p8,p9,p10⟩:=q8
  refine main id (.row e sz (cs++ys)) t.nx hf.symm (fun K hK=>?_) (fun h=>by have:=hs.nx _ h;omega) p10.symm
  refine⟨e,m,ys,q1,q2,q3,q4,(hseq id hf.symm).trans q5,q6,q7,?_⟩
  rw[e1,hx]
  simp only
  refine⟨p1,p2,cs,(hblk id (.inr (by rw[←hf];exact qxy))).trans p3,p4,p5,p6,p7,p8,?_⟩
  rw[p9];exact hK
 ·rename_i hx
  injection hf with hf
  rw[hx] at q8
  simp only at q8
  obtain⟨p1,p2,p3,p4,p5⟩:=q8
  refine main s.nx (.row e (T.sz e) ys) s.nx hf.symm (fun K hK=>?_) (fun h=>?_) p5.symm
  ·refine⟨e,m,ys,q1,q2,q3,q4,(hseq _ hf.symm).trans q5,q6,q7,?_⟩
   rw[e1,hx]
   simp only
   refine⟨p1,p2,p3,?_⟩
   rw[p4];exact hK
  ·unfold S.live at h
   rw[hblk s.nx (.inr (by rw[←hf];exact qxy)),hnx] at h
   cases h
 ·cases hf
theorem q7W {t:S} {sel ln:List Nat} (h:∀i∈ln,t.blk i=s.blk i) (z:Nat) (x:C):cv0 t sel ln z x=cv0 s sel ln z x:=by
 cases x with
 | own i sz o n=>
  simp only[cv0]
  cases pos i sel with
  | some j=>rfl
  | none=>
   simp only
   split
   ·rename_i hc;rw[h i (by simpa using hc)]
   ·rfl
 | _=>rfl
theorem q61 {t:S} {sel ln:List Nat} (h:∀i∈ln,t.blk i=s.blk i):∀(xs:List C),qf9 t sel ln xs=qf9 s sel ln xs
 | []=>rfl
 | x::r=>by simp only[qf9,q7W h,q61 h r]
theorem q6O {t:S} {sel ln:List Nat} (h:∀i∈ln,t.blk i=s.blk i) (z:Nat) (x:C):cv t sel ln z x=cv s sel ln z x:=by
 cases x with
 | fn f fs caps=>simp only[cv,q61 h]
 | _=>simp only[cv,q7W h]
theorem q3h {t:S} {sel ln:List Nat} (h:∀i∈ln,t.blk i=s.blk i):∀(zs:List Nat) (xs:List C),cvL t sel ln zs xs=cvL s sel ln zs xs
 | zs,[]=>by simp only[cvL]
 | zs,x::r=>by simp only[cvL,q6O h,q3h h _ r]
theorem q4f {t:S} {sel ln:List Nat} (h:∀i∈ln,t.blk i=s.blk i):∀(zs:List (List Nat)) (xs:List R),qbp t sel ln zs xs=qbp s sel ln zs xs
 | zs,[]=>by simp only[qbp]
 | zs,x::r=>by
  have:∀z,cvR t sel ln z x=cvR s sel ln z x:=fun z=>by cases x<;>simp only[cvR,q6O h,q3h h]
  simp only[qbp,this,q4f h _ r]
theorem qbQ {t:S} {sel:List Nat} (o:AO):cvA t sel o=cvA s sel o:=by
 have:qeB t sel=qeB s sel:=funext fun r=>by
  have hn:∀i∈([]:List Nat),t.blk i=s.blk i:=fun i hi=>by simp at hi
  unfold qeB
  congr 1
  cases r<;>simp only[cvR,q6O hn,q3h hn]
 cases o<;>simp only[cvA,this]
theorem q5x {t:S} {sel:List Nat}:∀(l:List Nat) (j:Nat),(∀i∈l,t.blk i=s.blk i)→cvG t sel l j=cvG s sel l j
 | [],_,_=>rfl
 | i::l,j,h=>by
  have:∀x,cvB t sel x=cvB s sel x:=fun x=>by
   cases x with
   | blk ty cs=>simp only[cvB];rw[q3h (s:=s) (t:=t) (sel:=sel) (ln:=[]) (fun i hi=>by simp at hi)]
   | ob o=>simp only[cvB];rw[qbQ (s:=s) (t:=t)]
   | _=>rfl
  simp only[cvG,this,h i qxy,q5x l (j+1) (fun i hi=>h i (qxr _ hi))]
section ren
variable {sel:List Nat} {n n':Nat}
theorem q8b {j:Nat} (h:ren sel n j<n):∃i,sel[j]?=some i∧∀m,ren sel m j=i:=by
 unfold ren at h
 cases hs:sel[j]? with
 | none=>rw[hs] at h;simp only at h;omega
 | some i=>exact⟨i,rfl,fun m=>by unfold ren;rw[hs]⟩
theorem q4S {j:Nat} (h:ren sel n j<n):ren sel n' j=ren sel n j:=by
 obtain⟨i,-,h2⟩:=q8b h
 rw[h2 n',h2 n]
theorem q3i {x:C} (h:(x.rn0 (ren sel n)).lt0 n=true):x.rn0 (ren sel n')=x.rn0 (ren sel n):=by
 cases x with
 | ptr i o=>simp only[C.rn0,C.lt0,qyh] at h ⊢;rw[q4S h]
 | hd k i=>simp only[C.rn0,C.lt0,qyh] at h ⊢;rw[q4S h]
 | own i sz o m=>simp only[C.rn0,C.lt0,qyh] at h ⊢;rw[q4S h]
 | _=>rfl
theorem q0r {f g:C→C} {p:C→Bool} (hfg:∀x,p (f x)=true→g x=f x):∀(xs:List C),(xs.map f).all p=true→xs.map g=xs.map f
 | [],_=>rfl
 | x::r,h=>by
  simp only[qxG,List.all_cons,qxP] at h ⊢
  rw[hfg x h.1,q0r hfg r h.2]
theorem q6E {x:C} (h:(x.rn (ren sel n)).ltn n=true):x.rn (ren sel n')=x.rn (ren sel n):=by
 cases x with
 | fn f fs caps=>
  simp only[C.rn,C.ltn,qxP] at h ⊢
  rw[q0r (p:=C.lt0 n) (fun _ h=>q3i h) fs h.1,q0r (p:=C.lt0 n) (fun _ h=>q3i h) caps h.2]
 | ptr i o=>exact q3i (x := .ptr i o) h
 | hd k i=>exact q3i (x := .hd k i) h
 | own i sz o m=>exact q3i (x := .own i sz o m) h
 | _=>rfl
theorem q3j {x:R} (h:(x.rn0 (ren sel n)).lt0 n=true):x.rn0 (ren sel n')=x.rn0 (ren sel n):=by
 cases x with
 | c x=>simp only[R.rn0,R.lt0] at h ⊢;rw[q6E h]
 | agg xs=>simp only[R.rn0,R.lt0] at h ⊢;rw[q0r (p:=C.ltn n) (fun _ h=>q6E h) xs h]
 | _=>rfl
theorem qfM {x:B} (h:(x.rn (ren sel n)).ltn n=true):x.rn (ren sel n')=x.rn (ren sel n):=by
 cases x with
 | blk t cs=>simp only[B.rn,B.ltn] at h ⊢;rw[q0r (p:=C.ltn n) (fun _ h=>q6E h) cs h]
 | row e sz cs=>simp only[B.rn,B.ltn] at h ⊢;rw[q0r (p:=C.ltn n) (fun _ h=>q6E h) cs h]
 | ob o=>
  simp only[B.rn,B.ltn,AO.Rs_mapR] at h ⊢
  rw[AO.mapR_congr fun x hx=>q3j (qxA.1 h _ (qy2.2 ⟨x,hx,rfl⟩))]
 | dead=>rfl
theorem qgP {x:R} (h:(x.rn (ren sel n)).ltn n=true):x.rn (ren sel n')=x.rn (ren sel n):=by
 cases x with
 | tup rs=>
  simp only[R.rn,R.ltn] at h ⊢
  congr 1
  induction rs with
  | nil=>rfl
  | cons y l ih=>
   simp only[qxG,List.all_cons,qxP] at h ⊢
   rw[q3j h.1,ih h.2]
 | c x=>exact q3j (x := .c x) h
 | agg xs=>exact q3j (x := .agg xs) h
 | any=>rfl
end ren
theorem q6j {us:List (Nat×B)} {n:Nat} (h:us.foldl (fun m u=>max m (u.1+1)) n=n):∀u∈us,u.1<n:=fun u hu=>by
 have:=(q3C us n).2 u hu
 omega
theorem q7I (s:S) (X:List Nat):(s.fgL X).nx=s.nx:=by cases X<;>rfl
theorem qfp (s:S) (X:List Nat):(s.fgL X).n=s.n:=by cases X<;>rfl
theorem q0D {α:Type}:∀(l l':List (Nat×α)) (x:Nat) (z:α),lk (l++l') x z=lk l x (lk l' x z)
 | [],_,_,_=>rfl
 | (i,b)::l,l',x,z=>by
  simp only[qyo,lk]
  split
  ·rfl
  ·exact q0D l l' x z
theorem q4C (s:S) (us:List (Nat×B)) (x:Nat):(s.up us).blk x=lk us x (s.blk x):=q0D us s.hp x .dead
theorem q7Z {α:Type}:∀(l:List (Nat×α)) (x:Nat) (z z':α),(∃b,(x,b)∈l)→lk l x z=lk l x z'
 | [],x,_,_,h=>by obtain⟨b,hb⟩:=h;simp at hb
 | (i,c)::l,x,z,z',h=>by
  simp only[lk]
  split
  ·rfl
  ·rename_i hn
   refine q7Z l x z z' ?_
   obtain⟨b,hb⟩:=h
   rcases qxF.1 hb with hb|hb
   ·injection hb with h1 h2;exact absurd h1.symm hn
   ·exact⟨b,hb⟩
theorem q0e {α:Type}:∀(l:List (Nat×α)) (x:Nat) (z:α),(∀b,(x,b) ∉ l)→lk l x z=z
 | [],_,_,_=>rfl
 | (i,c)::l,x,z,h=>by
  simp only[lk]
  split
  ·rename_i hx;subst hx;exact absurd qxy (h c)
  ·exact q0e l x z (fun b hb=>h b (qxr _ hb))
theorem q74 {bl rw:List Nat} {i:Nat} (h:i∈wbC s s1 bl rw):i∈bl++rw:=by
 cases rw with
 | nil=>exact qxv _ (qyd.1 h).1
 | cons x l=>exact h
theorem q6V {bl rw:List Nat} {i:Nat} (h:i ∉ wbC s s1 bl rw) (hi:i∈bl++rw):rw=[]∧s1.blk i=s.blk i:=by
 cases rw with
 | nil=>
  rw[qxE] at hi
  refine⟨rfl,B.beq_eq ?_⟩
  cases hb:B.beq (s1.blk i) (s.blk i) with
  | true=>rfl
  | false=>exact absurd (qyd.2 ⟨hi,by rw[hb];rfl⟩) h
 | cons x l=>exact absurd hi h
theorem q50 {bl rw ln:List Nat} {fp:Fp} (h:qqv s s1 r bl rw ln=some fp):((s1.nx=s.nx∧(bl++rw).all (fun i=>(s1.blk i).ltn s.nx)=true∧r.ltn s.nx=true)∧fp=⟨bl++rw++ln,wbC s s1 bl rw,rw,q4t s rw,[]⟩)∨fp=⟨bl++rw++ln,wbC s s1 bl rw++q4y s.nx s1.nx,rw,q4t s rw,[s.nx]⟩:=by
 unfold qqv at h
 split at h
 ·rename_i hc;injection h with h;exact .inl ⟨hc,h.symm⟩
 ·injection h with h;exact .inr h.symm
theorem qaE (s:S) (sel:List Nat) (k:Nat) (hp:List (Nat×B)):s.nx≤(s.aft sel k hp).nx∧∀u∈hp.map (fun x=>(ren sel s.nx x.1,x.2.rn (ren sel s.nx)))++sel.map (fun i=>(i,B.dead)),u.1<(s.aft sel k hp).nx:=by
 have h:=q3C (hp.map (fun x=>(ren sel s.nx x.1,x.2.rn (ren sel s.nx)))++sel.map fun i=>(i,B.dead)) (s.fgL (sel.drop k)).nx
 rw[q7I] at h
 have e:(s.aft sel k hp).nx=(hp.map (fun x=>(ren sel s.nx x.1,x.2.rn (ren sel s.nx)))++sel.map fun i=>(i,B.dead)).foldl (fun m u=>max m (u.1+1)) s.nx:=by
  show List.foldl _ (s.fgL (sel.drop k)).nx _=_
  rw[q7I]
 rw[e];exact h
theorem q7Y {n m x:Nat} (h1:n≤x) (h2:x<m):x∈q4y n m:=qy2.2 ⟨x-n,qye.2 (by omega),by omega⟩
theorem qgl {n m x:Nat} (h:x∈q4y n m):n≤x:=by
 obtain⟨y,_,rfl⟩:=qy2.1 h
 omega
theorem qfG (hA:Ag P T) (hE:Snd P E) {f:Operand} {args:Array Operand} {ts:Array TypeId} (ho:o.op = .call { callee := .value f,args:=args,argTypes:=ts }) {g:FuncId} {fs caps:List C} (hfe:s.ev f = .c (.fn g fs caps))
  {rs:List R} (hrs:fs.map R.c++args.toList.map s.ev++caps.map R.c=rs) {zs:List (List Nat)} {bl rw' ln:List Nat} (h:Ji E s g zs rs bl rw' ln=some (r,s1)) :
  Loc P o s r ((wbC s s1 bl rw'++q4y s.nx s1.nx).map fun x=>(x,s1.blk x)) ⟨bl++rw'++ln,wbC s s1 bl rw'++q4y s.nx s1.nx,rw',q4t s rw',[s.nx]⟩:=by
 intro cx ρ t a w next Q hev hblk hfar hltn hs hn
 have hlt2:∀x,t.live x→x<s.nx:=hltn (by simp)
 simp only at hblk hfar hn
 obtain⟨sel,hsel⟩:∃sel,sel=bl++rw':=⟨_,rfl⟩
 have hbs:∀i∈sel,t.blk i=s.blk i:=fun i hi=>hblk i (.inl (qxv _ (hsel ▸ hi)))
 have hbl:∀i∈ln,t.blk i=s.blk i:=fun i hi=>hblk i (.inl (qxs _ hi))
 have hwb:∀x,x∈wbC s s1 bl rw'++q4y s.nx s1.nx→t.blk x=s.blk x:=fun x hx=>hblk x (.inr hx)
 unfold Ji at h
 rw[←hsel] at h
 obtain⟨rs',g1,h⟩:=qxo.1 h
 obtain⟨G,g2,h⟩:=qxo.1 h
 split at h
 ·rename_i hc
  obtain⟨q,g3,h⟩:=qxo.1 h
  split at h
  ·rename_i hok
   obtain⟨rfl,rfl⟩:=Q0 h
   have hX:sel.drop bl.length=rw':=by rw[hsel,List.drop_left]
   obtain⟨t0,ht0⟩:∃t0:S,t0={ t with nx:=s.nx }:=⟨_,rfl⟩
   have tb:∀i,t0.blk i=t.blk i:=fun i=>by rw[ht0];rfl
   have tg:∀i,t0.get i=t.get i:=fun i=>by rw[ht0];rfl
   have te:∀y,t0.ev y=t.ev y:=fun y=>by rw[ht0];rfl
   have tn:t0.nx=s.nx:=by rw[ht0]
   have hs0:Sim cx ρ t0 a w:=by
    rw[ht0]
    exact⟨hs.hd,hs.size,hs.tm,hs.hp,hs.hp0,hs.out,hs.inj,fun i hi=>hlt2 i hi,hs.kept,hs.oldF,hs.pin,hs.disj,⟨hs.ows.lt,hs.ows.one,hs.ows.new⟩⟩
   have ht:Ji E t0 g zs rs bl rw' ln=some (q.1.rn (ren sel s.nx),t0.aft sel bl.length q.2):=by
    unfold Ji
    rw[←hsel,q4f (fun i hi=>(tb i).trans (hbl i hi)),q5x sel 0 (fun i hi=>(tb i).trans (hbs i hi)),g1,qxj,g2,qxj]
    have hall:∀(p:Nat→B→Bool) (l:List Nat),(∀i∈l,t0.blk i=s.blk i)→l.all (fun i=>p i (t0.blk i))=l.all (fun i=>p i (s.blk i)):=fun p l hl=>by
     induction l with
     | nil=>rfl
     | cons i l ih=>simp only[List.all_cons,hl i qxy,ih (fun i hi=>hl i (qxr _ hi))]
    have e1:=hall (fun _ b=>b.live) sel (fun i hi=>(tb i).trans (hbs i hi))
    have e2:=hall (fun i b=>b.live && !sel.contains i) ln (fun i hi=>(tb i).trans (hbl i hi))
    rw[e1,e2,if_pos hc,g3,qxj,if_pos hok,tn]
   have hoc:JZ P t0 g rs (fun r' s''=>r'=q.1.rn (ren sel s.nx)∧s''=t0.aft sel bl.length q.2):=q5F hE ht ⟨rfl,rfl⟩
   have hargs:∀y∈args.toList,t0.ev y=s.ev y:=fun y hy=>(te y).trans (hev y (by
    rw[ho]
    simp only[Op.operands,Call.operands,Array.toList_append,qxN]
    exact .inr hy))
   have hft:t0.ev f=s.ev f:=(te f).trans (hev f (by
    rw[ho]
    simp only[Op.operands,Call.operands,Array.toList_append,qxN]
    exact .inl (by simp)))
   have hmap:args.toList.map t0.ev=args.toList.map s.ev:=List.map_congr_left hargs
   have hox:ox P T t0 t0.nx o.op (fun r' s''=>r'=q.1.rn (ren sel s.nx)∧s''=t0.aft sel bl.length q.2):=by
    rw[ho]
    simp only[ox,qdL,qa4]
    exact⟨g,fs,caps,hft.trans hfe,by rw[hmap,hrs];exact hoc⟩
   refine q5a hA (fun h=>by have:=hs0.nx _ h;omega) hs0 hox ?_
   rintro r'' s'' ρ' v w' ⟨rfl,rfl⟩ k1 k2
   have hfg:∀x,x ∉ sel→x ∉ q4y s.nx (s.aft sel bl.length q.2).nx→(t0.fgL rw').blk x=t.blk x:=fun x hx hx2=>by
    rw[S.fgL_blk,tb]
    rcases hfar with h|h
    ·rw[if_pos h]
    ·split
     ·rfl
     ·refine h.2 x (fun h=>?_)
      rcases qxN.1 h with h|h
      ·exact hx (by rw[hsel];exact q74 h)
      ·exact hx2 h
   refine hn ρ' (t0.aft sel bl.length q.2) v w' (fun d hd=>?_) (fun x=>?_) ?_ k1 k2
   ·show(t0.fgL (sel.drop bl.length)).get d=t.get d
    rw[hX,S.fgL_get,tg]
    rcases hfar with h|h
    ·rw[if_pos h]
    ·split
     ·rfl
     ·exact h.1 d hd
   ·obtain⟨L,hL⟩:∃L,L=q.2.map (fun x=>(ren sel s.nx x.1,x.2.rn (ren sel s.nx)))++sel.map (fun i=>(i,B.dead)):=⟨_,rfl⟩
    have e1:(t0.aft sel bl.length q.2).blk x=lk L x ((t0.fgL rw').blk x):=by
     have:(t0.aft sel bl.length q.2).blk x=lk (q.2.map (fun x=>(ren sel t0.nx x.1,x.2.rn (ren sel t0.nx)))++sel.map (fun i=>(i,B.dead))) x ((t0.fgL (sel.drop bl.length)).blk x):=q4C _ _ x
     rw[this,tn,hX,hL]
    have e2:(s.aft sel bl.length q.2).blk x=lk L x ((s.fgL rw').blk x):=by
     have:(s.aft sel bl.length q.2).blk x=lk (q.2.map (fun x=>(ren sel s.nx x.1,x.2.rn (ren sel s.nx)))++sel.map (fun i=>(i,B.dead))) x ((s.fgL (sel.drop bl.length)).blk x):=q4C _ _ x
     rw[this,hX,hL]
    obtain⟨_,hkeys⟩:=qaE s sel bl.length q.2
    rw[←hL] at hkeys
    rw[e1,q4i]
    by_cases hk:∃b,(x,b)∈L
    ·have e3:=q7Z L x ((t0.fgL rw').blk x) ((s.fgL rw').blk x) hk
     rw[e3,←e2]
     by_cases hxw:x∈wbC s (s.aft sel bl.length q.2) bl rw'++q4y s.nx (s.aft sel bl.length q.2).nx
     ·rw[if_pos hxw]
     ·rw[if_neg hxw]
      have h1:x ∉ wbC s (s.aft sel bl.length q.2) bl rw':=fun h=>hxw (qxv _ h)
      have h2:x ∉ q4y s.nx (s.aft sel bl.length q.2).nx:=fun h=>hxw (qxs _ h)
      obtain⟨b,hb⟩:=hk
      have hlt:x<s.nx:=by
       rcases Nat.lt_or_ge x s.nx with h|h
       ·exact h
       ·exact absurd (q7Y h (hkeys _ hb)) h2
      have hxs:x∈sel:=by
       rw[hL] at hb
       rcases qxN.1 hb with hb|hb
       ·obtain⟨y,_,he⟩:=qy2.1 hb
        injection he with he _
        obtain⟨i,q1,q2⟩:=q8b (by rw[he];exact hlt)
        rw[←he,q2];exact qxk q1
       ·obtain⟨y,hy,he⟩:=qy2.1 hb
        injection he with he _
        exact he ▸ hy
      rw[(q6V h1 (hsel ▸ hxs)).2,hbs x hxs]
    ·have hnk:∀b,(x,b) ∉ L:=fun b hb=>hk ⟨b,hb⟩
     have hxs:x ∉ sel:=fun h=>hnk .dead (by rw[hL];exact qxs _ (qy2.2 ⟨x,h,rfl⟩))
     rw[q0e L x _ hnk]
     by_cases hxn:x∈q4y s.nx (s.aft sel bl.length q.2).nx
     ·rw[if_pos (qxs _ hxn),e2,q0e L x _ hnk,S.fgL_blk,S.fgL_blk,tb]
      have hge:=qgl hxn
      have hd:t.blk x = .dead:=by
       by_cases hl:t.live x
       ·have:=hlt2 x hl;omega
       ·exact B.dead_of hl
      rw[hd,←hwb x (qxs _ hxn),hd]
     ·rw[hfg x hxs hxn,if_neg (fun h=>by
       rcases qxN.1 h with h|h
       ·exact hxs (by rw[hsel];exact q74 h)
       ·exact hxn h)]
   ·show(t0.fgL (sel.drop bl.length)).n=t.n
    rw[qfp,ht0]
  ·cases h
 ·cases h
theorem qiw (hA:Ag P T) (hE:Snd P E) {f:Operand} {args:Array Operand} {ts:Array TypeId} (ho:o.op = .call { callee := .value f,args:=args,argTypes:=ts }) {fp:Fp} (h:q0b po E s f args.toList ts.toList=some (r,s1)) (hf:fpC po s s1 r f args.toList=some fp)
  : Loc P o s r (fp.wb.map fun x=>(x,s1.blk x)) fp:=by
 intro cx ρ t a w next Q hev hblk hfar hltn hs hn
 unfold q0b at h
 unfold fpC at hf
 split at h
 ·rename_i g fs caps hfe
  rw[hfe] at hf
  simp only at hf
  by_cases hno:False
  ·exact hno.elim
  ·generalize hrs:fs.map R.c++args.toList.map s.ev++caps.map R.c=rs at h hf
   generalize zmk (po.ow g) 0 (fs.map (fun _=>[])++ts.toList.map po.q)=zs at h
   unfold q69 qaw at h
   unfold qmB qoj at hf
   generalize q16 s 60 _ _=l at h hf
   generalize List.filter _ _=ln at h hf
   generalize q8r s l=bl at h hf
   generalize q1T s l=rw' at h hf
   rcases q50 hf with ⟨⟨c1,c2,c3⟩,rfl⟩|rfl
   case inr=>exact qfG hA hE ho hfe hrs h cx ρ t a w next Q hev hblk hfar hltn hs hn
   simp only at hblk hfar hn
   obtain⟨sel,hsel⟩:∃sel,sel=bl++rw':=⟨_,rfl⟩
   have hbs:∀i∈sel,t.blk i=s.blk i:=fun i hi=>hblk i (.inl (qxv _ (hsel ▸ hi)))
   have hbl:∀i∈ln,t.blk i=s.blk i:=fun i hi=>hblk i (.inl (qxs _ hi))
   have h0:=h
   unfold Ji at h
   rw[←hsel] at h c2
   obtain⟨rs',g1,h⟩:=qxo.1 h
   obtain⟨G,g2,h⟩:=qxo.1 h
   split at h
   ·rename_i hc
    obtain⟨q,g3,h⟩:=qxo.1 h
    split at h
    ·rename_i hok
     obtain⟨rfl,rfl⟩:=Q0 h
     -- the blocks behind the call, by the text and here
     have hus:∀u∈q.2.map (fun x=>(ren sel s.nx x.1,x.2.rn (ren sel s.nx)))++sel.map (fun i=>(i,B.dead)),u.1<s.nx:=by
      refine q6j ?_
      have:(s.aft sel bl.length q.2).nx=(q.2.map (fun x=>(ren sel s.nx x.1,x.2.rn (ren sel s.nx)))++sel.map (fun i=>(i,B.dead))).foldl (fun m u=>max m (u.1+1)) (s.fgL (sel.drop bl.length)).nx:=rfl
      rw[q7I] at this
      rw[←this];exact c1
     have hX:sel.drop bl.length=rw':=by rw[hsel,List.drop_left]
     have hin:∀x∈q.2,ren sel s.nx x.1∈sel:=fun x hx=>by
      obtain⟨i,h1,h2⟩:=q8b (hus _ (qxv _ (qy2.2 ⟨x,hx,rfl⟩)))
      rw[h2];exact qxk h1
     have hlk:∀x z,lk (q.2.map (fun x=>(ren sel t.nx x.1,x.2.rn (ren sel t.nx)))++sel.map (fun i=>(i,B.dead))) x z=lk (q.2.map (fun x=>(ren sel s.nx x.1,x.2.rn (ren sel s.nx)))++sel.map (fun i=>(i,B.dead))) x z:=by
      intro x z
      have hfirst:x∈sel→(lk (q.2.map (fun x=>(ren sel s.nx x.1,x.2.rn (ren sel s.nx)))++sel.map (fun i=>(i,B.dead))) x z).ltn s.nx=true:=fun hx=>by
       have h1:=qxA.1 c2 x hx
       have h2:(s.aft sel bl.length q.2).blk x=lk (q.2.map (fun x=>(ren sel s.nx x.1,x.2.rn (ren sel s.nx)))++sel.map (fun i=>(i,B.dead))) x ((s.fgL (sel.drop bl.length)).blk x):=q4C _ _ x
       rw[h2] at h1
       rw[q7Z _ x z _ ⟨.dead,qxs _ (qy2.2 ⟨x,hx,rfl⟩)⟩];exact h1
      rw[q0D,q0D]
      have key:∀(l:List (Nat×B)) (z:B),(∀x∈l,ren sel s.nx x.1<s.nx)→(x∈sel→(lk (l.map (fun x=>(ren sel s.nx x.1,x.2.rn (ren sel s.nx)))) x z).ltn s.nx=true)→(∀y∈l,ren sel s.nx y.1∈sel)→
        lk (l.map (fun x=>(ren sel t.nx x.1,x.2.rn (ren sel t.nx)))) x z=lk (l.map (fun x=>(ren sel s.nx x.1,x.2.rn (ren sel s.nx)))) x z:=by
       intro l
       induction l with
       | nil=>intro z _ _ _;rfl
       | cons y l ih=>
        intro z hl hlt hm
        have h1:=hl y qxy
        simp only[qxG,lk,q4S (n':=t.nx) h1] at hlt ⊢
        split
        ·rename_i hx
         rw[if_pos hx] at hlt
         exact qfM (hlt (hx ▸ hm y qxy))
        ·rename_i hx
         rw[if_neg hx] at hlt
         exact ih z (fun x hx=>hl x (qxr _ hx)) hlt (fun y hy=>hm y (qxr _ hy))
      refine key q.2 _ (fun x hx=>hus _ (qxv _ (qy2.2 ⟨x,hx,rfl⟩))) (fun hx=>?_) hin
      have:=hfirst hx
      rw[q0D] at this
      exact this
     have ht:Ji E t g zs rs bl rw' ln=some (q.1.rn (ren sel s.nx),t.aft sel bl.length q.2):=by
      unfold Ji
      rw[←hsel,q4f hbl,q5x sel 0 hbs,g1,qxj,g2,qxj]
      have hall:∀(p:Nat→B→Bool) (l:List Nat),(∀i∈l,t.blk i=s.blk i)→l.all (fun i=>p i (t.blk i))=l.all (fun i=>p i (s.blk i)):=fun p l hl=>by
       induction l with
       | nil=>rfl
       | cons i l ih=>simp only[List.all_cons,hl i qxy,ih (fun i hi=>hl i (qxr _ hi))]
      have e1:=hall (fun _ b=>b.live) sel hbs
      have e2:=hall (fun i b=>b.live && !sel.contains i) ln hbl
      rw[e1,e2,if_pos hc,g3,qxj,if_pos hok]
      rw[qgP c3]
     have hoc:JZ P t g rs (fun r' s''=>r'=q.1.rn (ren sel s.nx)∧s''=t.aft sel bl.length q.2):=q5F hE ht ⟨rfl,rfl⟩
     have hargs:∀y∈args.toList,t.ev y=s.ev y:=fun y hy=>hev y (by
      rw[ho]
      simp only[Op.operands,Call.operands,Array.toList_append,qxN]
      exact .inr hy)
     have hft:t.ev f=s.ev f:=hev f (by
      rw[ho]
      simp only[Op.operands,Call.operands,Array.toList_append,qxN]
      exact .inl (by simp))
     have hmap:args.toList.map t.ev=args.toList.map s.ev:=List.map_congr_left hargs
     have hox:ox P T t t.nx o.op (fun r' s''=>r'=q.1.rn (ren sel s.nx)∧s''=t.aft sel bl.length q.2):=by
      rw[ho]
      simp only[ox,qdL,qa4]
      exact⟨g,fs,caps,hft.trans hfe,by rw[hmap,hrs];exact hoc⟩
     refine q5a hA (fun h=>by have:=hs.nx _ h;omega) hs hox ?_
     rintro r'' s'' ρ' v w' ⟨rfl,rfl⟩ k1 k2
     have hfg:∀x,x ∉ sel→(t.fgL rw').blk x=t.blk x:=fun x hx=>by
      rw[S.fgL_blk]
      rcases hfar with h|h
      ·rw[if_pos h]
      ·split
       ·rfl
       ·exact h.2 x (fun h=>hx (by rw[hsel];exact q74 h))
     refine hn ρ' (t.aft sel bl.length q.2) v w' (fun d hd=>?_) (fun x=>?_) ?_ k1 k2
     ·show(t.fgL (sel.drop bl.length)).get d=t.get d
      rw[hX,S.fgL_get]
      rcases hfar with h|h
      ·rw[if_pos h]
      ·split
       ·rfl
       ·exact h.1 d hd
     ·have e1:(t.aft sel bl.length q.2).blk x=lk (q.2.map (fun x=>(ren sel t.nx x.1,x.2.rn (ren sel t.nx)))++sel.map (fun i=>(i,B.dead))) x ((t.fgL (sel.drop bl.length)).blk x):=q4C _ _ x
      have e2:(s.aft sel bl.length q.2).blk x=lk (q.2.map (fun x=>(ren sel s.nx x.1,x.2.rn (ren sel s.nx)))++sel.map (fun i=>(i,B.dead))) x ((s.fgL (sel.drop bl.length)).blk x):=q4C _ _ x
      rw[e1,hlk,q4i,hX]
      by_cases hx:x∈sel
      ·have e3:=q7Z (q.2.map (fun x=>(ren sel s.nx x.1,x.2.rn (ren sel s.nx)))++sel.map (fun i=>(i,B.dead))) x ((t.fgL rw').blk x) ((s.fgL (sel.drop bl.length)).blk x) ⟨.dead,qxs _ (qy2.2 ⟨x,hx,rfl⟩)⟩
       by_cases hxw:x∈wbC s (s.aft sel bl.length q.2) bl rw'
       ·rw[if_pos hxw,e2];exact e3
       ·rw[if_neg hxw,e3,←e2,(q6V hxw (hsel ▸ hx)).2,hbs x hx]
      ·have hxw:x ∉ wbC s (s.aft sel bl.length q.2) bl rw':=fun h=>hx (by rw[hsel];exact q74 h)
       rw[if_neg hxw,hfg x hx]
       refine q0e _ x _ (fun b hb=>?_)
       rcases qxN.1 hb with hb|hb
       ·obtain⟨y,hy,he⟩:=qy2.1 hb
        injection he with he1 he2
        exact hx (he1 ▸ hin y hy)
       ·obtain⟨y,hy,he⟩:=qy2.1 hb
        injection he with he1 he2
        exact hx (he1 ▸ hy)
     ·show(t.fgL (sel.drop bl.length)).n=t.n
      exact qfp _ _
    ·cases h
   ·cases h
 ·rename_i rid hfe
  rw[hfe] at hf
  cases hf
 ·cases h
end
end
noncomputable section
open Go.RowKit
def Nb (s:S):Prop:=∀i,s.live i→i<s.nx
structure Stp (P:Program) (ops:List Oper) (o:Oper) (s s':S) (x:Tx):Prop where
 run:∃b,gd ops s o.guard=some b∧(b=false→x=((.tup [],[]),⟨[],[],[],[],[]⟩))∧(b=true→Nb s→Loc P o s x.1.1 x.1.2 x.2)
 eff:qf4 x.2 s→(∀d,s'.get d=if o.dst=some d then x.1.1 else if d∈x.2.ks then .any else s.get d)∧∀i,s'.blk i=lk x.1.2 i (s.blk i)
 n:s'.n=s.n
 dst:∀d,o.dst=some d→d<s.n
 us:∀u∈x.1.2,u.1∈x.2.wb
 nb:Nb s→Nb s'
 nwp:x.2.nw=[]∨x.2.nw=[s.nx]
section
variable {P:Program} {T:Ty} {po:Pol} {E:Orc} {ops:List Oper} {o:Oper} {s s':S} {x:Tx}
theorem Nb.put (h:Nb s) (d:Option Nat) (r:R):Nb (s.put d r):=fun i hi=>by
 rw[S.put_nx];refine h i ?_;unfold S.live at hi ⊢;rwa [S.put_blk] at hi
theorem qli {us:List (Nat×B)} {i:Nat} {z:B} (h:(lk us i z).live=true):(∃u∈us,u.1=i)∨z.live=true:=by
 induction us with
 | nil=>exact .inr h
 | cons y us ih=>
  obtain⟨j,b⟩:=y
  simp only[lk] at h
  split at h
  ·rename_i hj;exact .inl ⟨_,qxy,hj⟩
  ·rcases ih h with ⟨u,hu,he⟩|h
   ·exact .inl ⟨u,qxr _ hu,he⟩
   ·exact .inr h
theorem Nb.up (h:Nb s) (us:List (Nat×B)):Nb (s.up us):=fun i hi=>by
 unfold S.live at hi
 rw[q4C] at hi
 have hx:=q3C us s.nx
 rcases qli hi with ⟨u,hu,rfl⟩|h1
 ·exact hx.2 u hu
 ·exact qxT (h i h1) hx.1
theorem Nb.fgL (h:Nb s) (X:List Nat):Nb (s.fgL X):=fun i hi=>by rw[q7I];exact h i ((S.fgL_live s X i).1 hi)
theorem Nb.dead (h:Nb s):s.blk s.nx = .dead:=B.dead_of fun hl=>by have:=h s.nx hl;omega
theorem qfo {s1:S} (wb:List Nat) (i:Nat) (h:i ∉ wb→s1.blk i=s.blk i):s1.blk i=lk (wb.map fun x=>(x,s1.blk x)) i (s.blk i):=by
 rw[q4i (fun x=>s1.blk x)]
 split
 ·rfl
 ·rename_i hn;exact h hn
theorem ql3 {sel:List Nat} {k:Nat} {hp:List (Nat×B)} (hnx:(s.aft sel k hp).nx=s.nx) {i:Nat} (hi:i ∉ sel):(s.aft sel k hp).blk i=(s.fgL (sel.drop k)).blk i:=by
 have hus:∀u∈hp.map (fun x=>(ren sel s.nx x.1,x.2.rn (ren sel s.nx)))++sel.map (fun i=>(i,B.dead)),u.1<s.nx:=by
  refine q6j ?_
  have:(s.aft sel k hp).nx=(hp.map (fun x=>(ren sel s.nx x.1,x.2.rn (ren sel s.nx)))++sel.map (fun i=>(i,B.dead))).foldl (fun m u=>max m (u.1+1)) (s.fgL (sel.drop k)).nx:=rfl
  rw[q7I] at this
  rw[←this];exact hnx
 have e1:(s.aft sel k hp).blk i=lk (hp.map (fun x=>(ren sel s.nx x.1,x.2.rn (ren sel s.nx)))++sel.map (fun i=>(i,B.dead))) i ((s.fgL (sel.drop k)).blk i):=q4C _ _ i
 rw[e1]
 refine q0e _ i _ (fun b hb=>?_)
 rcases qxN.1 hb with hb|hb
 ·obtain⟨y,hy,he⟩:=qy2.1 hb
  injection he with he1 he2
  obtain⟨j,h1,h2⟩:=q8b (hus _ (qxv _ (qy2.2 ⟨y,hy,rfl⟩)))
  rw[h2] at he1
  exact hi (he1 ▸ qxk h1)
 ·obtain⟨y,hy,he⟩:=qy2.1 hb
  injection he with he1 he2
  exact hi (he1 ▸ hy)
theorem qfH {sel:List Nat} {k:Nat} {hp:List (Nat×B)} {i:Nat} (hi:i ∉ sel) (hn:i ∉ q4y s.nx (s.aft sel k hp).nx):(s.aft sel k hp).blk i=(s.fgL (sel.drop k)).blk i:=by
 obtain⟨_,hkeys⟩:=qaE s sel k hp
 have e1:(s.aft sel k hp).blk i=lk (hp.map (fun x=>(ren sel s.nx x.1,x.2.rn (ren sel s.nx)))++sel.map (fun i=>(i,B.dead))) i ((s.fgL (sel.drop k)).blk i):=q4C _ _ i
 rw[e1]
 refine q0e _ i _ (fun b hb=>?_)
 have hlt:i<s.nx:=by
  rcases Nat.lt_or_ge i s.nx with h|h
  ·exact h
  ·exact absurd (q7Y h (hkeys _ hb)) hn
 rcases qxN.1 hb with hb|hb
 ·obtain⟨y,hy,he⟩:=qy2.1 hb
  injection he with he1 he2
  obtain⟨j,h1,h2⟩:=q8b (by rw[he1];exact hlt)
  rw[h2] at he1
  exact hi (he1 ▸ qxk h1)
 ·obtain⟨y,hy,he⟩:=qy2.1 hb
  injection he with he1 he2
  exact hi (he1 ▸ hy)
theorem qks {s s1:S} {r:R} {op:Op} {fp:Fp} (h:qe1 po s s1 r op=some fp):fp.nw=[]∨fp.nw=[s.nx]:=by
 unfold qe1 at h
 split at h
 ·injection h with h;subst h;exact .inl rfl
 ·split at h
  ·split at h
   ·injection h with h;subst h;exact .inl rfl
   ·cases h
  ·injection h with h;subst h;exact .inl rfl
  ·unfold qaQ at h
   split at h
   ·split at h
    ·injection h with h;subst h;exact .inl rfl
    ·injection h with h;subst h;exact .inl rfl
    ·cases h
   ·cases h
  ·unfold fpC at h
   split at h
   ·unfold qmB qoj at h
    rcases q50 h with ⟨_,rfl⟩|rfl
    ·exact .inl rfl
    ·exact .inr rfl
   ·cases h
  ·cases h
theorem S.kill_get (s:S) (ks:List Nat) (d:Nat):(s.kill ks).get d=if d∈ks then .any else s.get d:=by
 show lk (ks.map (fun d=>(d,R.any))++s.tm) d .any=_
 rw[q0D,q4i (fun _=>R.any)]
 rfl
theorem S.kill_blk (s:S) (ks:List Nat) (i:Nat):(s.kill ks).blk i=s.blk i:=rfl
theorem Sim.kill {cx:Cx} {ρ:Pl} {a:Act} {w:World} (h:Sim cx ρ s a w) (ks:List Nat):Sim cx ρ (s.kill ks) a w:=by
 refine⟨h.hd,h.size,fun i=>?_,h.hp,h.hp0,h.out,h.inj,h.nx,h.kept,h.oldF,h.pin,h.disj,⟨h.ows.lt,h.ows.one,h.ows.new⟩⟩
 show RR w _ ρ _ ((s.kill ks).get i)
 rw[S.kill_get]
 split
 ·exact .any _
 ·exact h.tm i
theorem qdc {fp:Fp} (h:qf4 fp s) (d:Nat) (hd:d ∉ fp.ks):(s.fgL fp.X).get d=s.get d:=by
 rw[S.fgL_get]
 rcases h with h|h
 ·rw[if_pos h]
 ·split
  ·rfl
  ·exact h.1 d hd
theorem qd6 {fp:Fp} (h:qf4 fp s) {i:Nat} (hi:i ∉ fp.wb):(s.fgL fp.X).blk i=s.blk i:=by
 rw[S.fgL_blk]
 rcases h with h|h
 ·rw[if_pos h]
 ·split
  ·rfl
  ·exact h.2 i hi
theorem qnx {op:Op} {g:FuncId} {rs:List R} (h:alC po s op=some (g,rs)):∃f args ts,op = .call { callee := .value f,args:=args,argTypes:=ts }∧s.ev f = .c (.fn g [] [])∧rs=args.toList.map s.ev∧rs.all R.dat=true:=by
 unfold alC at h
 split at h
 ·rename_i f args ts
  split at h
  ·rename_i g' hf
   split at h
   ·rename_i hc
    injection h with h
    injection h with h1 h2
    subst h1 h2
    exact⟨f,args,ts,rfl,hf,rfl,hc.2⟩
   ·cases h
  ·cases h
 ·cases h
theorem qtn (hA:Ag P T) (hE:Snd P E) {g:FuncId} {rs:List R} (hc:alC po s o.op=some (g,rs)) {z n e:Nat} {cs:List C} {q:R×List (Nat×B)} (hq:E (.fn g) 0 rs []=some q) (h2:qq9 q=some (z,n,e,cs)) (hnx:s.blk s.nx = .dead) :
  Loc P o s (.c (.own s.nx z 0 n)) [(s.nx,.row e z cs)] ⟨[],[s.nx],[],[],[]⟩:=by
 obtain⟨f,args,ts,ho,hf,hrs,hd⟩:=qnx hc
 intro cx ρ t a w next Q hev hblk _ _ hs hn
 have e1:t.ev f=s.ev f:=hev f (by rw[ho];simp[Op.operands,Call.operands])
 have e2:args.toList.map t.ev=args.toList.map s.ev:=List.map_congr_left fun y hy=>hev y (by rw[ho];simp only[Op.operands,Call.operands,Array.toList_append];exact qxs _ hy)
 have hb:=hblk s.nx (.inr qxy)
 have hl:¬ t.live s.nx:=fun h=>by unfold S.live at h;rw[hb,hnx] at h;cases h
 unfold qq9 at h2
 split at h2
 ·rename_i z0 n0 e0 z1 cs0
  split at h2
  ·rename_i hcc
   obtain⟨rfl,hcs⟩:=hcc
   injection h2 with h2
   injection h2 with i1 i2;injection i2 with i2 i3;injection i3 with i3 i4
   subst i1 i2 i3 i4
   have hac:=hE.fn g 0 rs [] _ _ hq
   have hcall:JZ P t g rs (fun r' s''=>r' = .c (.own s.nx z1 0 n0)∧s''=t.up [(s.nx,.row e0 z1 cs0)]):=JZ.fresh hac hd hcs hl ⟨rfl,rfl⟩
   have hox:ox P T t s.nx o.op (fun r' s''=>r' = .c (.own s.nx z1 0 n0)∧s''=t.up [(s.nx,.row e0 z1 cs0)]):=by
    rw[ho]
    unfold ox qdL
    exact⟨g,[],[],e1.trans hf,by rw[List.map_nil,qxD,qxE,e2,←hrs];exact hcall⟩
   refine q5a hA hl hs hox ?_
   rintro r'' s'' ρ' v w' ⟨rfl,rfl⟩ g1 g2
   exact hn ρ' (t.up [(s.nx,.row e0 z1 cs0)]) v w' (fun d _=>rfl) (fun x=>S.blk_up t s.nx x _) rfl g1 g2
  ·cases h2
 ·cases h2
theorem qbT (hA:Ag P T) (hE:Snd P E) {act:Bool} (h:xsF P T po E o act s=some (s',x)) :
  (act=false→x=((.tup [],[]),⟨[],[],[],[],[]⟩))∧(act=true→Nb s→Loc P o s x.1.1 x.1.2 x.2)∧(Nb s→Nb s')∧(qf4 x.2 s→(∀d,s'.get d=if o.dst=some d then x.1.1 else if d∈x.2.ks then .any else s.get d)∧∀i,s'.blk i=lk x.1.2 i (s.blk i))∧s'.n=s.n∧(∀d,o.dst=some d→d<s.n)∧(∀u∈x.1.2,u.1∈x.2.wb)∧(x.2.nw=[]∨x.2.nw=[s.nx]):=by
 unfold xsF at h
 split at h
 ·rename_i ha
  subst ha
  cases hal:alC po s o.op with
  | some gr=>
   obtain⟨g,rs⟩:=gr
   rw[hal] at h
   have h:qr2 s o ((E (.fn g) 0 rs []).bind qq9)=some (s',x):=h
   unfold qr2 at h
   obtain⟨⟨z,n,e,cs⟩,h1,h2⟩:=qxo.1 h
   obtain⟨q,h3,h4⟩:=qxo.1 h1
   split at h2
   ·rename_i hd
    injection h2 with h2
    injection h2 with h5 h6
    subst h5 h6
    refine⟨(fun h=>by cases h),fun _ hb=>qtn hA hE hal h3 h4 hb.dead,fun hb=>(hb.up _).put _ _,fun hf=>⟨fun d=>?_,fun i=>?_⟩,S.put_n _ _ _,q0S hd,fun u hu=>?_,.inl rfl⟩
    ·rw[S.put_get];simp only[List.not_mem_nil,if_false];rfl
    ·rw[S.put_blk,S.blk_up];rfl
    ·simp only[qy8] at hu;subst hu;exact qxy
   ·cases h2
  | none=>
  rw[hal] at h
  replace h:((xo P T po E s o.op).bind fun q=>if q4U q.2 o.dst=true then(qe1 po s q.2 q.1 o.op).bind fun fp=>some ((q.2.kill fp.ks).put o.dst q.1,(q.1,fp.wb.map fun x=>(x,q.2.blk x)),fp) else none)=some (s',x):=h
  obtain⟨⟨r,s1⟩,h1,h2⟩:=qxo.1 h
  simp only at h2
  split at h2
  ·rename_i hd
   obtain⟨fp,h3,h4⟩:=qxo.1 h2
   injection h4 with h4
   injection h4 with h4 h5
   subst h4 h5
   have hcore:(Nb s→Loc P o s r (fp.wb.map fun x=>(x,s1.blk x)) fp)∧(Nb s→Nb s1)∧(qf4 fp s→(∀d,d ∉ fp.ks→s1.get d=s.get d)∧∀i,i ∉ fp.wb→s1.blk i=s.blk i)∧s1.n=s.n:=by
    unfold qe1 at h3
    split at h3
    ·rename_i hop
     injection h3 with h3
     subst h3
     have hox:=qiJ hE (K:=fun r' s''=>r'=r∧s''=s1) (qcC hop) h1 ⟨rfl,rfl⟩
     obtain⟨r',us',⟨rfl,h6⟩,h7,-⟩:=qep (t:=s) hop (fun _ _=>rfl) (fun _ _=>rfl) hox
     refine⟨fun hb=>qjR hA hE hop h1 hb.dead,fun hb=>h6 ▸ hb.up us',fun _=>⟨fun d _=>by rw[←h6];rfl,fun i hi=>?_⟩,by rw[←h6];rfl⟩
     rcases h7 with rfl|⟨hal,b,rfl⟩
     ·rw[←h6];rfl
     ·rw[←h6,S.blk_up,if_neg]
      rintro rfl
      exact hi (by simp[hal])
    ·split at h3
     ·rename_i ty y z ho
      split at h3
      ·rename_i id off hx
       injection h3 with h3
       subst h3
       rw[ho] at h1
       have h1:q1b T s ty y z=some (r,s1):=h1
       have hloc:=qhj (P:=P) hA ho hx h1 (X:=[])
       unfold q1b at h1
       rw[hx] at h1
       simp only at h1
       split at h1
       ·split at h1
        ·obtain⟨rfl,rfl⟩:=Q0 h1
         refine⟨fun _=>hloc,fun hb=>hb.up _,fun _=>⟨fun d _=>rfl,fun i hi=>?_⟩,rfl⟩
         rw[S.blk_up,if_neg]
         rintro rfl
         exact hi qxy
        ·cases h1
       ·cases h1
      ·cases h3
     ·rename_i ty y z ho
      injection h3 with h3
      subst h3
      rw[ho] at h1
      have h1:qaR T s ty y z=some (r,s1):=h1
      have hloc:=fun hb:Nb s=>ql4 (P:=P) hA ho h1 hb.dead (X:=[])
      unfold qaR at h1
      split at h1
      ·split at h1
       ·split at h1
        ·obtain⟨rfl,rfl⟩:=Q0 h1
         refine⟨hloc,fun hb=>hb.up _,fun _=>⟨fun d _=>rfl,fun i hi=>?_⟩,rfl⟩
         rw[S.blk_up,if_neg]
         rintro rfl
         exact hi qxy
        ·cases h1
       ·cases h1
      ·cases h1
     ·rename_i args ts ho
      obtain⟨args⟩:=args
      obtain⟨ts⟩:=ts
      rw[ho] at h1
      have h1:xCl T po E s { callee := .builtin .append,args:=⟨args⟩,argTypes:=⟨ts⟩ }=some (r,s1):=h1
      match args,ts,h1,h3,ho with
      | [y,z],[t1,t2],h1,h3,ho=>
       simp only[xCl] at h1
       split at h1
       ·rename_i ht
        have hloc:=fun hb:Nb s=>qph (P:=P) hA ho ht h1 h3 hb.dead
        obtain⟨id,row,hfp,hs1⟩:∃id row,fp=fpA s id z∧s1=(s.fg id).up [(id,row)]:=by
         have hk:=q40 (K:=fun r' s''=>r'=r∧s''=s1) h1 ⟨rfl,rfl⟩
         obtain⟨e,m,ys,q1,q2,q3,q4,q5,q6,q7,q8⟩:=hk
         simp only[qaQ] at h3
         split at h3
         ·rename_i id sz off n hx
          injection h3 with h3
          rw[hx] at q8
          simp only at q8
          obtain⟨p1,p2,cs,p3,p4,p5,p6,p7,p8,p9,p10⟩:=q8
          exact⟨_,_,h3.symm,p10.symm⟩
         ·rename_i hx
          injection h3 with h3
          rw[hx] at q8
          simp only at q8
          obtain⟨p1,p2,p3,p4,p5⟩:=q8
          exact⟨_,_,h3.symm,p5.symm⟩
         ·cases h3
        subst hs1
        have hX:fp.X=[id]:=by rw[hfp];rfl
        refine⟨hloc,fun hb=>Nb.up (s:=s.fg id) (fun i hi=>hb i ((S.live_fg s id i).1 hi)) _,fun hf=>?_,rfl⟩
        have hf':=hf.resolve_left (by rw[hX];simp)
        rw[hX] at hf'
        refine⟨fun d hd=>?_,fun i hi=>?_⟩
        ·show(s.fg id).get d=s.get d
         rw[S.get_fg,←qso];exact hf'.1 d hd
        ·rw[S.blk_up,if_neg (fun h=>hi (by rw[hfp,←h];exact qxy)),S.blk_fg,←qvk]
         exact hf'.2 i hi
       ·cases h1
     ·rename_i f args ts ho
      rw[ho] at h1
      have h1:q0b po E s f args.toList ts.toList=some (r,s1):=h1
      have hloc:=qiw (P:=P) hA hE ho h1 h3
      unfold q0b at h1
      unfold fpC at h3
      split at h1
      ·rename_i g fs caps hfe
       rw[hfe] at h3
       simp only at h3
       by_cases hno:False
       ·exact hno.elim
       ·unfold q69 qaw Ji at h1
        unfold qmB qoj at h3
        generalize q16 s 60 _ _=l at h1 h3
        generalize List.filter _ _=ln at h1 h3
        generalize q8r s l=bl at h1 h3
        generalize q1T s l=rw' at h1 h3
        have hfc:=q50 h3
        obtain⟨rs',g1,h1⟩:=qxo.1 h1
        obtain⟨G,g2,h1⟩:=qxo.1 h1
        split at h1
        ·obtain⟨q,g3,h1⟩:=qxo.1 h1
         split at h1
         ·obtain⟨rfl,rfl⟩:=Q0 h1
          have hX:(bl++rw').drop bl.length=rw':=List.drop_left
          rcases hfc with ⟨⟨c1,c2,c3⟩,rfl⟩|rfl
          ·refine⟨fun _=>hloc,fun hb=>(hb.fgL _).up _,fun hf=>⟨fun d hd=>?_,fun i hi=>?_⟩,qfp _ _⟩
           ·show(s.fgL ((bl++rw').drop bl.length)).get d=s.get d
            rw[hX];exact qdc hf d hd
           ·by_cases his:i∈bl++rw'
            ·exact(q6V hi his).2
            ·rw[ql3 c1 his,hX];exact qd6 hf hi
          ·refine⟨fun _=>hloc,fun hb=>(hb.fgL _).up _,fun hf=>⟨fun d hd=>?_,fun i hi=>?_⟩,qfp _ _⟩
           ·show(s.fgL ((bl++rw').drop bl.length)).get d=s.get d
            rw[hX];exact qdc hf d hd
           ·have hi1:i ∉ wbC s (s.aft (bl++rw') bl.length q.2) bl rw':=fun h=>hi (qxv _ h)
            by_cases his:i∈bl++rw'
            ·exact(q6V hi1 his).2
            ·rw[qfH his (fun h=>hi (qxs _ h)),hX];exact qd6 hf hi
         ·cases h1
        ·cases h1
      ·rename_i rid hfe
       rw[hfe] at h3
       cases h3
      ·cases h1
     ·cases h3
   obtain⟨k1,k2,k3,k4⟩:=hcore
   have k5:=qks h3
   refine⟨(fun h=>by cases h),fun _=>k1,fun hb=>Nb.put (s:=s1.kill fp.ks) (fun i hi=>k2 hb i hi) _ _,fun hf=>⟨fun d=>?_,fun i=>?_⟩,by rw[S.put_n];exact k4,fun d hdd=>?_,fun u hu=>?_,k5⟩
   ·rw[S.put_get,S.kill_get]
    by_cases hk:d∈fp.ks
    ·simp only[if_pos hk]
    ·simp only[if_neg hk,(k3 hf).1 d hk]
   ·rw[S.put_blk,S.kill_blk];exact qfo fp.wb i ((k3 hf).2 i)
   ·have:=q0S hd d hdd;rw[k4] at this;exact this
   ·obtain⟨y,hy,he⟩:=qy2.1 hu;rw[←he];exact hy
  ·cases h2
 ·rename_i ha
  have ha:act=false:=by cases act<;>simp at ha ⊢
  subst ha
  split at h
  ·rename_i hd
   injection h with h
   injection h with h1 h2
   subst h1 h2
   refine⟨fun _=>rfl,(fun h=>by cases h),fun hb=>hb.put _ _,fun _=>⟨fun d=>by rw[S.put_get];simp,fun i=>by rw[S.put_blk];rfl⟩,S.put_n _ _ _,q0S hd,fun u hu=>by simp at hu,.inl rfl⟩
  ·cases h
theorem qpp (hA:Ag P T) (hE:Snd P E) (h:xgF P T po E ops o s=some (s',x)):Stp P ops o s s' x:=by
 unfold xgF at h
 split at h
 ·rename_i hg
  obtain⟨h1,h2,h3,h4,h5,h6,h7,h8⟩:=qbT hA hE h
  exact⟨⟨true,by unfold gd;rw[hg],(fun h=>by cases h),fun _ hb=>h2 rfl hb⟩,h4,h5,h6,h7,h3,h8⟩
 ·rename_i j want hg
  split at h
  ·rename_i d hd
   split at h
   ·rename_i b hb
    -- a slot laid down anew with what it holds
    have key:∀(v:Bool) (act:Bool),s.get d = .c (.d (.bool v))→(v==want)=act→xsF P T po E o act (s.put (some d) (.c (.d (.bool v))))=some (s',x)→Stp P ops o s s' x:=by
     intro v act hv hact hx
     obtain⟨h1,h2,h3,h4,h5,h6,h7,h8⟩:=qbT hA hE hx
     have hget:∀i,(s.put (some d) (.c (.d (.bool v)))).get i=s.get i:=fun i=>by
      rw[S.put_get]
      split
      ·rename_i hi;injection hi with hi;subst hi;exact hv.symm
      ·rfl
     have hev:∀y,(s.put (some d) (.c (.d (.bool v)))).ev y=s.ev y:=fun y=>by
      cases y with
      | tmp i=>exact hget i
      | _=>rfl
     have hnb:Nb s→Nb (s.put (some d) (.c (.d (.bool v)))):=fun hb=>hb.put _ _
     refine⟨⟨act,by unfold gd;rw[hg];simp only[hd,hv,hact],h1,fun ha hb=>?_⟩,fun hf=>?_,h5,h6,h7,fun hb=>h3 (hnb hb),by rw[S.put_nx] at h8;exact h8⟩
     ·have hl:=h2 ha (hnb hb)
      intro cx ρ t a w next Q q1 q2 q3 q6 q4 q5
      exact hl cx ρ t a w next Q (fun y hy=>(q1 y hy).trans (hev y).symm) (fun i hi=>q2 i hi) q3 (fun h x hx=>by rw[S.put_nx];exact q6 h x hx) q4 q5
     ·have hf':qf4 x.2 (s.put (some d) (.c (.d (.bool v)))):=by
       rcases hf with hf|hf
       ·exact .inl hf
       ·exact .inr ⟨fun i hi=>by rw[hget];exact hf.1 i hi,fun i hi=>hf.2 i hi⟩
      obtain⟨e1,e2⟩:=h4 hf'
      exact⟨fun i=>by rw[e1,hget],fun i=>e2 i⟩
    split at h
    ·rename_i hbt
     subst hbt
     exact key true want hb (by cases want<;>rfl) h
    ·rename_i hbt
     have hbf:b=false:=by cases b<;>simp at hbt ⊢
     subst hbf
     exact key false (!want) hb (by cases want<;>rfl) h
   ·rename_i hb
    obtain⟨h1,h2,h3,h4,h5,h6,h7,h8⟩:=qbT hA hE h
    exact⟨⟨false,by unfold gd;rw[hg];simp only[hd,hb],h1,fun h=>by cases h⟩,h4,h5,h6,h7,h3,h8⟩
   ·cases h
  ·cases h
theorem qcJ (hA:Ag P T) (hE:Snd P E) {A:List (List Nat)} {s0:S}:∀(m k:Nat) (l:List Oper) (s s':S) (acc:List Tx),ops.drop k=l→xdp P T po E ops A s0 m l s acc=some s'→
  ∃(Sq:Nat→S) (tx:Nat→Tx),Sq 0=s∧(∀j,j<m→∃o,ops[k+j]?=some o∧Stp P ops o (Sq j) (Sq (j+1)) (tx j))∧(okP A 0 [] (acc++(List.range m).map tx)=true∧okX ops A s0 (acc++(List.range m).map tx) 0 (acc++(List.range m).map tx)=true∧okK ops A (acc++(List.range m).map tx)=true∧okN (acc++(List.range m).map tx) 0 (acc++(List.range m).map tx)=true)∧xr P T po E ops (ops.drop (k+m)) (Sq m)=some s'
 | 0,k,l,s,s',acc,hl,h=>by
  unfold xdp at h
  split at h
  ·rename_i hc
   exact⟨fun _=>s,fun _=>((.any,[]),⟨[],[],[],[],[]⟩),rfl,fun j hj=>by omega,by simpa using hc,by rw[Nat.add_zero,hl];exact h⟩
  ·cases h
 | m+1,k,[],s,s',acc,hl,h=>by cases h
 | m+1,k,o::l,s,s',acc,hl,h=>by
  unfold xdp at h
  obtain⟨⟨s1,x⟩,h1,h2⟩:=qxo.1 h
  have hk:ops[k]?=some o:=by
   have:=List.getElem?_drop (xs:=ops) (i:=k) (j:=0)
   rw[hl] at this
   simpa using this.symm
  have hl':ops.drop (k+1)=l:=by
   have:=qy5 (l:=ops) (i:=1) (j:=k)
   rw[hl] at this
   simpa using this.symm
  obtain⟨Sq,tx,g1,g2,g3,g4⟩:=qcJ hA hE m (k+1) l s1 s' _ hl' h2
  refine⟨fun j=>if j=0 then s else Sq (j-1),fun j=>if j=0 then x else tx (j-1),rfl,fun j hj=>?_,?_,?_⟩
  ·cases j with
   | zero=>
    refine⟨o,hk,?_⟩
    have:=qpp hA hE h1
    simp only[if_true]
    rw[if_neg (by omega),show 0+1-1=0 from rfl,g1]
    exact this
   | succ j=>
    obtain⟨o',q1,q2⟩:=g2 j (by omega)
    refine⟨o',by rw[←q1];congr 1;omega,?_⟩
    simpa using q2
  ·have:acc++(List.range (m+1)).map (fun j=>if j=0 then x else tx (j-1))=acc++[x]++(List.range m).map tx:=by
    rw[List.range_succ_eq_map,qxG,List.map_map,qxY]
    rfl
   rw[this];exact g3
  ·rw[show k+(m+1)=k+1+m by omega]
   simpa using g4
end
end
noncomputable section
open Go.RowKit
def stT (ops:List Oper) (tx:Nat→Tx) (s0:S) (p:Nat→Bool):Nat→S
 | 0=>s0
 | i+1=>if p i=true then(((stT ops tx s0 p i).up (tx i).1.2).kill (tx i).2.ks).put (q3H ops i) (tx i).1.1 else stT ops tx s0 p i
section comb
variable {ops:List Oper} {tx:Nat→Tx} {s0:S}
theorem q4o {p q:Nat→Bool} {d:Nat}:∀k,(∀i,i<k→q3H ops i=some d∨d∈(tx i).2.ks→p i=q i)→(stT ops tx s0 p k).get d=(stT ops tx s0 q k).get d
 | 0,_=>rfl
 | k+1,h=>by
  have ih:=q4o k (fun i hi=>h i (by omega))
  have key:∀(p:Nat→Bool),(stT ops tx s0 p (k+1)).get d=if p k=true then(if q3H ops k=some d then(tx k).1.1 else if d∈(tx k).2.ks then .any else(stT ops tx s0 p k).get d) else(stT ops tx s0 p k).get d:=fun p=>by
   show(if p k=true then _ else _:S).get d=_
   by_cases hp:p k=true
   ·rw[if_pos hp,if_pos hp,S.put_get,S.kill_get,S.up_get]
   ·rw[if_neg hp,if_neg hp]
  rw[key,key,ih]
  by_cases hd:q3H ops k=some d∨d∈(tx k).2.ks
  ·rw[h k (by omega) hd]
  ·rw[if_neg (fun h=>hd (.inl h)),if_neg (fun h=>hd (.inr h))]
   split<;>split<;>rfl
theorem q3f {p q:Nat→Bool} {x:Nat}:∀k,(∀i,i<k→(∃b,(x,b)∈(tx i).1.2)→p i=q i)→(stT ops tx s0 p k).blk x=(stT ops tx s0 q k).blk x
 | 0,_=>rfl
 | k+1,h=>by
  have ih:=q3f k (fun i hi=>h i (by omega))
  have key:∀(p:Nat→Bool),(stT ops tx s0 p (k+1)).blk x=if p k=true then lk (tx k).1.2 x ((stT ops tx s0 p k).blk x) else(stT ops tx s0 p k).blk x:=fun p=>by
   show(if p k=true then _ else _:S).blk x=_
   split
   ·rw[S.put_blk,S.kill_blk,q4C]
   ·rfl
  rw[key,key,ih]
  by_cases hd:∃b,(x,b)∈(tx k).1.2
  ·rw[h k (by omega) hd]
  ·rw[q0e _ x _ (fun b hb=>hd ⟨b,hb⟩)]
   split<;>split<;>rfl
theorem qed {p:Nat→Bool} {j:Nat}:∀k,j≤k→stT ops tx s0 (fun i=>p i&&decide (i<j)) k=stT ops tx s0 p j
 | 0,h=>by
  have:j=0:=by omega
  subst this;rfl
 | k+1,h=>by
  have heq:∀l,l≤j→stT ops tx s0 (fun i=>p i&&decide (i<j)) l=stT ops tx s0 p l:=by
   intro l
   induction l with
   | zero=>intro _;rfl
   | succ l ih=>
    intro hl
    unfold stT
    rw[ih (by omega)]
    have:decide (l<j)=true:=qyi (by omega)
    simp only[this,qyk]
  by_cases hj:j=k+1
  ·subst hj;exact heq _ (qxz _)
  ·have ih:=qed (p:=p) (j:=j) k (by omega)
   have e1:∀q:Nat→Bool,stT ops tx s0 q (k+1)=if q k=true then(((stT ops tx s0 q k).up (tx k).1.2).kill (tx k).2.ks).put (q3H ops k) (tx k).1.1 else stT ops tx s0 q k:=fun _=>rfl
   rw[e1,if_neg (by simp;omega)]
   exact ih
theorem q9a {α:Type} {Pr:α→Prop} {i:Nat} {z:α} (hz:Pr z):∀{t:List (Nat×α)},(∀u∈t,u.1=i→Pr u.2)→Pr (lk t i z)
 | [],_=>hz
 | (j,x)::t,h=>by
  unfold lk
  split
  ·rename_i hj;exact h (j,x) qxy hj
  ·exact q9a hz (fun u hu=>h u (qxr _ hu))
theorem qec {fp:Fp} (h0:qoz fp s0=true) (p:Nat→Bool):∀k,(∀i,i<k→p i=true→qcH ops fp i (tx i)=true)→(∀d,d ∉ fp.ks→((stT ops tx s0 p k).get d).fgL fp.X=(stT ops tx s0 p k).get d)∧∀x,x ∉ fp.wb→((stT ops tx s0 p k).blk x).fgL fp.X=(stT ops tx s0 p k).blk x
 | 0,_=>by
  simp only[qoz,qxP,qxA,qxO] at h0
  refine⟨fun d hd=>?_,fun x hx=>?_⟩
  ·refine q9a (Pr:=fun r:R=>r.fgL fp.X=r) rfl (fun u hu he=>?_)
   rcases h0.1 u hu with h|h
   ·exact absurd (by simpa using h) (he ▸ hd)
   ·exact qrt h
  ·refine q9a (Pr:=fun r:B=>r.fgL fp.X=r) rfl (fun u hu he=>?_)
   rcases h0.2 u hu with h|h
   ·exact absurd (by simpa using h) (he ▸ hx)
   ·exact qum h
 | k+1,h1=>by
  obtain⟨g1,g2⟩:=qec h0 p k (fun i hi=>h1 i (by omega))
  unfold stT
  split
  ·rename_i hp
   have hx:=h1 k (by omega) hp
   simp only[qcH,qxP,qxA,qxO] at hx
   refine⟨fun d hdk=>?_,fun x hxw=>?_⟩
   ·rw[S.put_get,S.kill_get,S.up_get]
    split
    ·rename_i hd
     rcases hx.1 with h|h
     ·exact qrt h
     ·rw[hd] at h
      exact absurd (by simpa using h) hdk
    ·split
     ·rfl
     ·exact g1 d hdk
   ·rw[S.put_blk,S.kill_blk,q4C]
    refine q9a (Pr:=fun r:B=>r.fgL fp.X=r) (g2 x hxw) (fun u hu he=>?_)
    rcases hx.2 u hu with h|h
    ·exact absurd (by simpa using h) (he ▸ hxw)
    ·exact qum h
  ·exact⟨g1,g2⟩
theorem qeJ {A:List (List Nat)} {fp:Fp} {j:Nat}:∀{l:List Tx} {i:Nat},qkL ops A fp j i l=true→∀(k:Nat) (y:Tx),l[k]?=some y→i+k=j∨j∈A.getD (i+k) []∨qcH ops fp (i+k) y=true
 | [],i,_,k,y,hk=>by simp at hk
 | x::l,i,h,k,y,hk=>by
  simp only[qkL,qxP,qxO,beq_iff_eq,qxX] at h
  cases k with
  | zero=>
   simp only[qxt,qy7] at hk
   subst hk
   rcases h.1 with (h|h)|h
   ·exact .inl h
   ·exact .inr (.inl h)
   ·exact .inr (.inr h)
  | succ k=>
   have:=qeJ h.2 k y (by simpa using hk)
   rw[show i+1+k=i+(k+1) by omega] at this
   exact this
theorem qhM {A:List (List Nat)} {l0:List Tx}:∀{l:List Tx} {j:Nat},okX ops A s0 l0 j l=true→∀(k:Nat) (x:Tx),l[k]?=some x→x.2.X=[]∨(qoz x.2 s0=true∧qkL ops A x.2 (j+k) 0 l0=true)
 | [],j,_,k,x,hk=>by simp at hk
 | y::l,j,h,k,x,hk=>by
  simp only[okX,qxP] at h
  cases k with
  | zero=>
   simp only[qxt,qy7] at hk
   subst hk
   have h1:=h.1
   split at h1
   ·rename_i he;exact .inl (by simpa using he)
   ·simp only[qxP] at h1;exact .inr h1
  | succ k=>
   have:=qhM h.2 k x (by simpa using hk)
   rw[show j+1+k=j+(k+1) by omega] at this
   exact this
theorem qeX {A:List (List Nat)} {j:Nat} {y:Tx}:∀{l:List Tx} {i:Nat},qiU ops A j y i l=true→∀(k:Nat) (x:Tx),l[k]?=some x→i+k<j→q3L ops (i+k) j x y=true→i+k∈A.getD j []
 | [],i,_,k,x,hk=>by simp at hk
 | z::l,i,h,k,x,hk=>by
  simp only[qiU,qxP,qxO,Bool.not_eq_true',qxX,decide_eq_false_iff_not] at h
  cases k with
  | zero=>
   simp only[qxt,qy7] at hk
   subst hk
   intro h1 h2
   rcases h.1 with (h|h)|h
   ·exact absurd h1 h
   ·rw[Nat.add_zero] at h2;rw[h] at h2;cases h2
   ·exact h
  | succ k=>
   have:=qeX h.2 k x (by simpa using hk)
   rw[show i+1+k=i+(k+1) by omega] at this
   exact this
theorem qck {A:List (List Nat)} {l0:List Tx}:∀{l:List Tx} {j:Nat},qlr ops A l0 j l=true→∀(k:Nat) (y:Tx),l[k]?=some y→qiU ops A (j+k) y 0 l0=true
 | [],j,_,k,y,hk=>by simp at hk
 | z::l,j,h,k,y,hk=>by
  simp only[qlr,qxP] at h
  cases k with
  | zero=>simp only[qxt,qy7] at hk;subst hk;exact h.1
  | succ k=>
   have:=qck h.2 k y (by simpa using hk)
   rw[show j+1+k=j+(k+1) by omega] at this
   exact this
theorem qpF {A:List (List Nat)} {l:List Tx} (h:okK ops A l=true) {i j:Nat} {x y:Tx} (hij:i<j) (hx:l[i]?=some x) (hy:l[j]?=some y) (hc:q3L ops i j x y=true):i∈A.getD j []:=by
 unfold okK at h
 rw[qxO] at h
 rcases h with h|h
 ·rw[qxA] at h
  have h1:=h x (qxk hx)
  have h2:=h y (qxk hy)
  rw[List.isEmpty_iff] at h1 h2
  unfold q3L at hc
  rw[h1,h2] at hc
  cases hc
 ·have h1:=qck h j y hy
  rw[qxH] at h1
  have h2:=qeX h1 i x hx
  rw[qxH] at h2
  exact h2 hij hc
theorem q7V {i d:Nat} {o:Oper} (ho:ops[i]?=some o) (h:d∈q1c ops o∨o.dst=some d):(qey ops i).contains d=true:=by
 unfold qey
 rw[ho]
 simp only[qxX,qxN]
 rcases h with h|h
 ·exact .inl h
 ·exact .inr (by rw[h];simp)
theorem qaG {a b:Fp} (h:a.none?=true):q1t a b=false:=by
 simp only[Fp.none?,qxP,List.isEmpty_iff] at h
 simp[q1t,h.1,h.2]
theorem qib {A:List (List Nat)}:∀{l:List Tx} {j:Nat} {prev:List (Nat×Fp)},okP A j prev l=true→
  (∀(k:Nat) (x:Tx),l[k]?=some x→(∀q∈prev,q1t q.2 x.2=true→q.1∈A.getD (j+k) [])∧∀(i:Nat) (y:Tx),i<k→l[i]?=some y→q1t y.2 x.2=true→j+i∈A.getD (j+k) [])
 | [],j,prev,_,k,x,hk=>by simp at hk
 | x0::l,j,prev,h,k,x,hk=>by
  simp only[okP,qxP,qxA] at h
  cases k with
  | zero=>
   simp only[qxt,qy7] at hk
   subst hk
   refine⟨fun q hq hc=>?_,fun i y hi=>by omega⟩
   have h1:=h.1 q hq
   rw[if_pos hc] at h1
   simpa using h1
  | succ k=>
   obtain⟨g1,g2⟩:=qib h.2 k x (by simpa using hk)
   have e1:j+1+k=j+(k+1):=by omega
   rw[e1] at g1 g2
   refine⟨fun q hq hc=>?_,fun i y hi hy hc=>?_⟩
   ·refine g1 q ?_ hc
    split
    ·exact hq
    ·exact qxr _ hq
   ·cases i with
    | zero=>
     simp only[qxt,qy7] at hy
     subst hy
     by_cases hn:x0.2.none?=true
     ·rw[qaG hn] at hc;cases hc
     ·refine g1 (j,x0.2) ?_ hc
      rw[if_neg hn];exact qxy
    | succ i=>
     have:=g2 i y (by omega) (by simpa using hy) hc
     rw[show j+(i+1)=j+1+i by omega];exact this
end comb
section
variable {P:Program} {T:Ty} {po:Pol} {E:Orc} {cx:Cx}
theorem qoZ (hA:Ag P T) (hE:Snd P E) {ops:Array Oper} {Q:Exit→Act→World→Prop} {q:Nat} {o:Oper} {s s':S} {ρ:Pl} {a:Act} {w:World} (hq:ops[q]?=some o) (hs:Sim cx ρ s a w) (h:xr P T po E ops.toList (ops.toList.drop q) s=some s') :
  wpOpIn (FW cx.ro) 0 P ops Q q (fun a' w'=>∃ρ' s1,Sim cx ρ' s1 a' w'∧xr P T po E ops.toList (ops.toList.drop (q+1)) s1=some s') a w:=by
 have hd:ops.toList.drop q=o::ops.toList.drop (q+1):=by
  have hlt:q<ops.toList.length:=by have:=(Array.getElem?_eq_some_iff.1 hq).1;simpa using this
  rw[List.drop_eq_getElem_cons hlt]
  congr 1
  have:=(Array.getElem?_eq_some_iff.1 hq).2
  simpa using this
 rw[hd] at h
 unfold xr at h
 obtain⟨s1,h1,h2⟩:=qxo.1 h
 unfold wpOpIn
 rw[hq]
 simp only
 have key:∀(s0:S) (act:Bool),Sim cx ρ s0 a w→Region.wanted o (yielded ops a.tmps)=act→xst P T po E o act s0=some s1→
   if Region.wanted o (yielded ops a.tmps)=true then o.wpIn (FW cx.ro) 0 P a w (fun a' w'=>∃ρ' s1,Sim cx ρ' s1 a' w'∧xr P T po E ops.toList (ops.toList.drop (q+1)) s1=some s') Q else(∀f,o.about P w a.eval=some f→(FW cx.ro).fn f)∧(fun a' w'=>∃ρ' s1,Sim cx ρ' s1 a' w'∧xr P T po E ops.toList (ops.toList.drop (q+1)) s1=some s') (a.put o.dst undef) w:=by
  intro s0 act h3 h4 h5
  have:=qa2 (next:=fun a' w'=>∃ρ' s1,Sim cx ρ' s1 a' w'∧xr P T po E ops.toList (ops.toList.drop (q+1)) s1=some s') (Q:=Q) hA hE h3 h5 (fun ρ' a' w' h6=>⟨ρ',s1,h6,h2⟩)
  rw[h4]
  split
  ·rename_i ha;rw[if_pos ha] at this;exact this
  ·rename_i ha;rw[if_neg ha] at this;exact⟨q6C,this⟩
 unfold xgd at h1
 cases hi:ipA T po E s o with
 | some y=>
  rw[hi] at h1
  replace h1:y=some s1:=h1
  subst h1
  obtain⟨i1,i2⟩:=qhH (next:=fun a' w'=>∃ρ' s1,Sim cx ρ' s1 a' w'∧xr P T po E ops.toList (List.drop (q+1) ops.toList) s1=some s') (Q:=Q) hA hE hs hi (fun ρ' a' w' h6=>⟨ρ',_,h6,h2⟩)
  rw[if_pos (by unfold Region.wanted;rw[i1])]
  exact i2
 | none=>
 rw[hi] at h1
 replace h1:q8q P T po E ops.toList o s=some s1:=h1
 unfold q8q at h1
 split at h1
 ·rename_i hg
  exact key s true hs (by unfold Region.wanted;rw[hg]) h1
 ·rename_i j want hg
  split at h1
  ·rename_i d hd
   split at h1
   ·rename_i b hb
    have hgd:gd ops.toList s o.guard=some (b==want):=by unfold gd;rw[hg];simp only[hd,hb]
    have hw:=q0u hs hgd
    split at h1
    ·rename_i hbt
     subst hbt
     exact key _ want (hs.lit hb) (by rw[hw];cases want<;>rfl) h1
    ·rename_i hbf
     have hbf:b=false:=by cases b<;>simp at hbf ⊢
     subst hbf
     exact key _ (!want) (hs.lit hb) (by rw[hw];cases want<;>rfl) h1
   ·rename_i hb
    have hgd:gd ops.toList s o.guard=some false:=by unfold gd;rw[hg];simp only[hd,hb]
    exact key s false hs (q0u hs hgd) h1
   ·cases h1
  ·cases h1
theorem qdt {lim i:Nat}:∀{l:List Tx} {j:Nat},qoX lim i j l=true→∀(k:Nat) (x:Tx),l[k]?=some x→i≠j+k→∀u∈x.1.2,u.1<lim
 | [],_,_,k,x,hk=>by simp at hk
 | y::l,j,h,k,x,hk=>by
  unfold qoX at h
  rw[qxP] at h
  intro hne u hu
  cases k with
  | zero=>
   simp only[qxt,qy7] at hk
   subst hk
   have h1:=h.1
   rw[qxO] at h1
   rcases h1 with h1|h1
   ·exact absurd (by simpa using h1) hne
   ·have:=qxA.1 h1 u hu
    rwa [Nat.blt_eq] at this
  | succ k=>exact qdt h.2 k x (by simpa using hk) (by omega) u hu
theorem qi4 {L:List Tx}:∀{l:List Tx} {j:Nat},okN L j l=true→∀(k:Nat) (x:Tx),l[k]?=some x→∀lim,x.2.nw=[lim]→qoX lim (j+k) 0 L=true
 | [],_,_,k,x,hk=>by simp at hk
 | y::l,j,h,k,x,hk=>by
  unfold okN at h
  rw[qxP] at h
  intro lim hl
  cases k with
  | zero=>
   simp only[qxt,qy7] at hk
   subst hk
   have h1:=h.1
   rw[hl] at h1
   exact h1
  | succ k=>
   have:=qi4 h.2 k x (by simpa using hk) lim hl
   rwa [show j+1+k=j+(k+1) by omega] at this
theorem qsI (hA:Ag P T) (hE:Snd P E) {id:Nat} {ops:Array Oper} {Q':Exit→S→Prop} {s s':S} {m:Nat} {A:List (List Nat)} (hm:P.follows .mixedOrders=true) (hchk:qjv ops.toList m A=true)
  (h:xdp P T po E ops.toList A s m ops.toList s []=some s') (hQ:Q' .normal s'):J P cx (.region id ops true) Q' s:=by
 intro ρ a w hs
 obtain⟨Sq,tx,r0,r1,⟨r2,r3,rk,rn⟩,r4⟩:=qcJ hA hE m 0 ops.toList s s' [] rfl h
 rw[qxD] at r2 r3 rk rn
 rw[qxH] at r4
 -- the checks
 simp only[qjv,qxP,qxA,qye,qyh] at hchk
 obtain⟨⟨⟨⟨c1,c2⟩,c3⟩,c5⟩,c6⟩:=hchk
 have hlen:ops.toList.length=ops.size:=by simp
 have hget:∀(i:Nat) (o:Oper),ops[i]?=some o→ops.toList[i]?=some o:=fun i o h=>by rw[Array.getElem?_toList];exact h
 have hget':∀(i:Nat) (o:Oper),ops.toList[i]?=some o→ops[i]?=some o:=fun i o h=>by rw[Array.getElem?_toList] at h;exact h
 have hlt:∀(i:Nat) (o:Oper),ops[i]?=some o→i<ops.toList.length:=fun i o h=>by rw[hlen];exact(Array.getElem?_eq_some_iff.1 h).1
 obtain⟨An,hAn⟩:∃An,An=qu9 ops.toList:=⟨_,rfl⟩
 rw[←hAn] at c1 c3 c5 c6
 have d1:∀(i:Nat) (o:Oper),ops[i]?=some o→(∀k∈ZG o,k<i)∧∀k∈An.getD i [],k∈ZG o∨∃d∈ZG o,k∈An.getD d []:=fun i o ho=>by
  have:=c1 i (hlt i o ho)
  rw[hget i o ho] at this
  simp only[qxP,qxA,qyh,qxO,qxX,qyc] at this
  exact this
 have hanc:∀E,Run ops E→∀(i:Nat) (o:Oper),ops[i]?=some o→(∀k∈ZG o,k∈E)→∀k∈An.getD i [],k∈E:=by
  intro E hr i
  induction i using Nat.strongRecOn with
  | _ i ih=>
   intro o ho hE k hk
   rcases(d1 i o ho).2 k hk with h1|⟨d,h1,h2⟩
   ·exact hE k h1
   ·have hdE:=hE d h1
    have hdl:=hr.lt d hdE
    exact ih d ((d1 i o ho).1 d h1) ops[d] (qxK hdl) (fun k' hk'=>hr.closed d hdE _ (qxK hdl) k' hk') k h2
 have hancE:∀E,Run ops E→∀j∈E,∀k∈An.getD j [],k∈E:=fun E hr j hj k hk=>by
  have hjl:=hr.lt j hj
  exact hanc E hr j ops[j] (qxK hjl) (fun k' hk'=>hr.closed j hj _ (qxK hjl) k' hk') k hk
 have hmn:m≤ops.size:=by rw[←hlen];exact c2
 have hop:∀i,i<m→∃o,ops[i]?=some o:=fun i hi=>⟨_,qxK (by omega)⟩
 have hst:∀j (o:Oper),j<m→ops[j]?=some o→Stp P ops.toList o (Sq j) (Sq (j+1)) (tx j):=fun j o hj ho=>by
  obtain⟨o',q1,q2⟩:=r1 j hj
  rw[qxH,hget j o ho] at q1
  injection q1 with q1
  subst q1;exact q2
 have htx:∀i,i<m→((List.range m).map tx)[i]?=some (tx i):=fun i hi=>by simp[hi]
 -- what meets is in order
 have cB:∀i j,i<j→j<m→q1t (tx i).2 (tx j).2=true→i∈An.getD j []:=fun i j hij hj hc=>by
  have:=(qib r2 j (tx j) (htx j hj)).2 i (tx i) hij (htx i (by omega)) hc
  rw[qxH,qxH] at this
  have h6:=c6 j hj i this
  simpa using h6
 have cS:∀i j,i<j→j<m→q9l ops.toList i j=true→i∈An.getD j []:=fun i j hij hj hc=>by
  have:=c3 j hj i hij
  simp only[qxO,Bool.not_eq_true',qxX] at this
  rcases this with h1|h1
  ·rw[hc] at h1;cases h1
  ·exact h1
 have hdst:∀(j:Nat) (o:Oper),ops[j]?=some o→q3H ops.toList j=o.dst:=fun j o ho=>by unfold q3H;rw[hget j o ho];rfl
 -- a writer and a reader of one slot; two writers of one slot
 have cS1:∀(i j:Nat) (o o':Oper) (d:Nat),i<j→j<m→ops[i]?=some o→ops[j]?=some o'→o.dst=some d→(d∈q1c ops.toList o'∨o'.dst=some d)→i∈An.getD j []:=fun i j o o' d hij hj ho ho' hd hx=>by
  refine cS i j hij hj ?_
  unfold q9l
  rw[hget i o ho,hget j o' ho']
  simp only[hd,qxO,qxX,qyh]
  exact .inl hx
 have cS2:∀(i j:Nat) (o o':Oper) (d:Nat),i<j→j<m→ops[i]?=some o→ops[j]?=some o'→o'.dst=some d→d∈q1c ops.toList o→i∈An.getD j []:=fun i j o o' d hij hj ho ho' hd hx=>by
  refine cS i j hij hj ?_
  unfold q9l
  rw[hget i o ho,hget j o' ho']
  simp only[hd,qxO,qxX]
  exact .inr hx
 -- far
 have hAnlt:∀(i:Nat) (o:Oper),ops[i]?=some o→∀k∈An.getD i [],k<i:=by
  intro i
  induction i using Nat.strongRecOn with
  | _ i ih=>
   intro o ho k hk
   rcases(d1 i o ho).2 k hk with h1|⟨d,h1,h2⟩
   ·exact(d1 i o ho).1 k h1
   ·have hd:=(d1 i o ho).1 d h1
    have hdl:d<ops.size:=by have:=hlt i o ho;rw[hlen] at this;omega
    have:=ih d hd ops[d] (qxK hdl) k h2
    omega
 have cK:∀i j,i<j→j<m→q3L ops.toList i j (tx i) (tx j)=true→i∈An.getD j []:=fun i j hij hj hc=>by
  have:=qpF rk hij (htx i (by omega)) (htx j hj) hc
  have h6:=c6 j hj i this
  simpa using h6
 have cK1:∀(i j:Nat) (o':Oper) (d:Nat),i<j→j<m→ops[j]?=some o'→d∈(tx i).2.ks→(d∈q1c ops.toList o'∨o'.dst=some d)→i∈An.getD j []:=fun i j o' d hij hj ho' hd hx=>by
  refine cK i j hij hj ?_
  simp only[q3L,qxO,qyc]
  exact .inl ⟨d,hd,.inl (q7V (hget j o' ho') hx)⟩
 have cK2:∀(i j:Nat) (o:Oper) (d:Nat),i<j→j<m→ops[i]?=some o→d∈(tx j).2.ks→(d∈q1c ops.toList o∨o.dst=some d)→i∈An.getD j []:=fun i j o d hij hj ho hd hx=>by
  refine cK i j hij hj ?_
  simp only[q3L,qxO,qyc]
  exact .inr ⟨d,hd,q7V (hget i o ho) hx⟩
 have cK3:∀(i j:Nat) (d:Nat),i<j→j<m→d∈(tx i).2.ks→d∈(tx j).2.ks→i∈An.getD j []:=fun i j d hij hj hd hd'=>by
  refine cK i j hij hj ?_
  simp only[q3L,qxO,qyc,qxX]
  exact .inl ⟨d,hd,.inr hd'⟩
 have hfar:∀c,c<m→∀(p:Nat→Bool) (k:Nat),k≤m→(∀i,i<k→p i=true→i≠c∧c ∉ An.getD i [])→qf4 (tx c).2 (stT ops.toList tx s p k):=fun c hc p k hk hp=>by
  rcases qhM r3 c (tx c) (htx c hc) with h1|⟨h1,h2⟩
  ·exact .inl h1
  ·refine .inr (qec h1 p k (fun i hi hpi=>?_))
   obtain⟨p1,p2⟩:=hp i hi hpi
   have h3:=qeJ h2 i (tx i) (htx i (by omega))
   rw[qxH,qxH] at h3
   rcases h3 with h3|h3|h3
   ·exact absurd h3 p1
   ·exact absurd (by simpa using c6 i (by omega) c h3) p2
   ·exact h3
 have farext:∀{fp:Fp} {t t':S},(∀d,t'.get d=t.get d)→(∀x,t'.blk x=t.blk x)→qf4 fp t→qf4 fp t':=fun h1 h2 h=>by
  rcases h with h|h
  ·exact .inl h
  ·exact .inr ⟨fun d hd=>by rw[h1];exact h.1 d hd,fun x hx=>by rw[h2];exact h.2 x hx⟩
 -- the text's states
 obtain⟨tp,htp⟩:∃tp:Nat→Bool,tp=fun _=>true:=⟨_,rfl⟩
 have htext:∀j,j≤m→(∀d,(Sq j).get d=(stT ops.toList tx s tp j).get d)∧(∀x,(Sq j).blk x=(stT ops.toList tx s tp j).blk x)∧(Sq j).n=s.n∧Nb (Sq j):=by
  intro j
  induction j with
  | zero=>intro _;rw[r0];exact⟨fun _=>rfl,fun _=>rfl,rfl,hs.nx⟩
  | succ j ih=>
   intro hj
   obtain⟨i1,i2,i3,i4⟩:=ih (by omega)
   obtain⟨o,ho⟩:=hop j (by omega)
   have hstp:=hst j o (by omega) ho
   obtain⟨e1,e2⟩:=hstp.eff (farext i1 i2 (hfar j (by omega) tp j (by omega) (fun i hi _=>⟨by omega,fun hj'=>by
    obtain⟨oi,hoi⟩:=hop i (by omega)
    have:=hAnlt i oi hoi j hj'
    omega⟩)))
   have hs1:stT ops.toList tx s tp (j+1)=(((stT ops.toList tx s tp j).up (tx j).1.2).kill (tx j).2.ks).put (q3H ops.toList j) (tx j).1.1:=by
    show(if tp j=true then _ else _)=_
    rw[htp,if_pos rfl]
   refine⟨fun d=>?_,fun x=>?_,hstp.n.trans i3,hstp.nb i4⟩
   ·rw[e1,hs1,S.put_get,S.kill_get,S.up_get,hdst j o ho,i1]
   ·rw[e2,hs1,S.put_blk,S.kill_blk,q4C,i2]
 -- the state behind some operations
 let pE:List Nat→Nat→Bool:=fun E i=>decide (i∈E)
 have hcut:∀j,j≤m→stT ops.toList tx s (fun i=>tp i&&decide (i<j)) m=stT ops.toList tx s tp j:=fun j hj=>qed m hj
 have htpd:∀i j,(tp i&&decide (i<j))=decide (i<j):=fun i j=>by rw[htp];simp
 have hkeywb:∀i,i<m→∀x,(∃b,(x,b)∈(tx i).1.2)→x∈(tx i).2.wb:=fun i hi x ⟨b,hb⟩=>by
  obtain⟨o,ho⟩:=hop i hi
  exact(hst i o hi ho).us _ hb
 have htp1:∀j,stT ops.toList tx s tp (j+1)=(((stT ops.toList tx s tp j).up (tx j).1.2).kill (tx j).2.ks).put (q3H ops.toList j) (tx j).1.1:=fun j=>by
  show(if tp j=true then _ else _)=_
  rw[htp,if_pos rfl]
 -- all of the prefix done: the text's state
 have hfull:∀L ρ t a w,(∀i,i∈L↔i<m)→(∀d,t.get d=(stT ops.toList tx s (pE L) m).get d)→(∀x,t.blk x=(stT ops.toList tx s (pE L) m).blk x)→t.n=s.n→Sim cx ρ t a w→Sim cx ρ (Sq m) a w:=by
  intro L ρ t a w hL h1 h2 h3 hsim
  obtain⟨i1,i2,i3,i4⟩:=htext m (qxz _)
  have e:∀i,i<m→pE L i=(tp i&&decide (i<m)):=fun i hi=>by rw[htpd];simp[pE,hL]
  refine hsim.ext (fun d=>?_) (fun x=>?_) (i3.trans h3.symm) i4
  ·rw[i1,h1,q4o m (fun i hi _=>e i hi),hcut m (qxz _)]
  ·rw[i2,h2,q3f m (fun i hi _=>e i hi),hcut m (qxz _)]
 refine qaS hm (fun i o ho k hk=>(d1 i o ho).1 k hk)
  (fun L a w=>∃ρ t,Sim cx ρ t a w∧(((∀i∈L,i<m)∧(∀d,t.get d=(stT ops.toList tx s (pE L) m).get d)∧(∀x,t.blk x=(stT ops.toList tx s (pE L) m).blk x)∧t.n=s.n)∨∃q,m≤q∧(∀i,i∈L↔i<q)∧xr P T po E ops.toList (ops.toList.drop q) t=some s')) ?_ ?_ ⟨ρ,s,hs.drew,.inl ⟨fun i h=>by simp at h,fun d=>?_,fun x=>?_,rfl⟩⟩
 rotate_left 2
 ·have:(stT ops.toList tx s (pE []) m).get d=(stT ops.toList tx s (fun i=>tp i&&decide (i<0)) m).get d:=q4o m (fun i _ _=>by simp[pE])
  rw[this,hcut 0 (qxJ _)];rfl
 ·have:(stT ops.toList tx s (pE []) m).blk x=(stT ops.toList tx s (fun i=>tp i&&decide (i<0)) m).blk x:=q3f m (fun i _ _=>by simp[pE])
  rw[this,hcut 0 (qxJ _)];rfl
 ·rintro L a w i o hr ⟨ρ,t,hsim,hcase⟩ hiL ho hdeps
  have hsuf:∀q t,m≤q→(∀j,j∈L↔j<q)→Sim cx ρ t a w→xr P T po E ops.toList (ops.toList.drop q) t=some s'→i=q→
    wpOpIn (FW cx.ro) 0 P ops (fun e a' w'=>∃s' ρ',Q' e s'∧Sim cx ρ' s' a' w') i (fun a' w'=>∃ρ t,Sim cx ρ t a' w'∧(((∀k∈i::L,k<m)∧(∀d,t.get d=(stT ops.toList tx s (pE (i::L)) m).get d)∧(∀x,t.blk x=(stT ops.toList tx s (pE (i::L)) m).blk x)∧t.n=s.n)∨∃q,m≤q∧(∀k,k∈i::L↔k<q)∧xr P T po E ops.toList (ops.toList.drop q) t=some s')) a w:=by
   intro q t hq hL hs' hv hiq
   subst hiq
   refine wpOpIn_mono (fun a' w' ⟨ρ',s'',g1,g2⟩=>?_) (qoZ hA hE ho hs' hv)
   exact⟨ρ',s'',g1,.inr ⟨i+1,by omega,fun k=>by rw[qxF,hL];omega,g2⟩⟩
  have hin:i<ops.size:=(Array.getElem?_eq_some_iff.1 ho).1
  have h5:m≤i→∀j,j<i→j∈L:=fun hmi j hj=>by
   have:=c5 i (by rw[hlen];exact hin)
   simp only[qxO,qyh,qxA,qye,qxX] at this
   rcases this with h|h
   ·omega
   ·exact hanc L hr i o ho hdeps j (h j hj)
  rcases hcase with ⟨hLm,t1,t2,t3⟩|⟨q,hq,hL,hv⟩
  ·by_cases him:i<m
   ·have hstp:=hst i o him ho
    obtain⟨q1,q2,q3,q4⟩:=htext i (by omega)
    -- before and behind
    have hbefore:∀k,i∈An.getD k []→k∈L→False:=fun k hk hkL=>hiL (hancE L hr k hkL i hk)
    have hafter:∀k,k∈An.getD i []→k∈L:=fun k hk=>hanc L hr i o ho hdeps k hk
    have hslot:∀d∈q1c ops.toList o,t.get d=(Sq i).get d:=fun d hd=>by
     rw[t1,q1,←hcut i (by omega)]
     refine q4o m (fun k hk hkd=>?_)
     rw[htpd]
     obtain⟨ok,hok⟩:=hop k hk
     rw[hdst k ok hok] at hkd
     rcases Nat.lt_trichotomy k i with h|h|h
     ·rw[qyi h]
      refine qyi (hafter k ?_)
      rcases hkd with hkd|hkd
      ·exact cS1 k i ok o d h him hok ho hkd (.inl hd)
      ·exact cK1 k i o d h him ho hkd (.inl hd)
     ·subst h;simp[pE,hiL]
     ·rw[decide_eq_false (by omega)]
      refine decide_eq_false fun hkL=>hbefore k ?_ hkL
      rcases hkd with hkd|hkd
      ·exact cS2 i k o ok d h hk ho hok hkd hd
      ·exact cK2 i k o d h hk ho hkd (.inl hd)
    have hblk:∀x,x∈(tx i).2.rb∨x∈(tx i).2.wb→t.blk x=(Sq i).blk x:=fun x hx=>by
     rw[t2,q2,←hcut i (by omega)]
     refine q3f m (fun k hk hkx=>?_)
     rw[htpd]
     have hkw:=hkeywb k hk x hkx
     rcases Nat.lt_trichotomy k i with h|h|h
     ·rw[qyi h]
      refine qyi (hafter k (cB k i h him ?_))
      simp only[q1t,qxO,qyc,qxX]
      exact .inl ⟨x,hkw,hx⟩
     ·subst h;simp[pE,hiL]
     ·rw[decide_eq_false (by omega)]
      refine decide_eq_false fun hkL=>hbefore k (cB i k h hk ?_) hkL
      simp only[q1t,qxO,qyc,qxX]
      rcases hx with hx|hx
      ·exact .inr ⟨x,hx,hkw⟩
      ·exact .inl ⟨x,hx,.inr hkw⟩
    have hev:∀y∈o.op.operands.toList,t.ev y=(Sq i).ev y:=fun y hy=>qpG (fun x hx=>hslot x (by
     unfold q1c qe5
     exact qxv _ (List.mem_flatMap.2 ⟨y,hy,hx⟩)))
    have hgd:gd ops.toList t o.guard=gd ops.toList (Sq i) o.guard:=by
     unfold gd
     cases hgu:o.guard with
     | none=>rfl
     | some jw=>
      obtain⟨j,want⟩:=jw
      simp only
      cases hd:(ops.toList[j]?).bind (·.dst) with
      | none=>rfl
      | some d=>
       simp only
       rw[hslot d (by unfold q1c;rw[hgu];exact qxs _ (by show d∈(q3H ops.toList j).toList;unfold q3H;rw[hd];simp))]
    have hnew:∀k∈i::L,k<m:=fun k hk=>by
     rcases qxF.1 hk with rfl|hk
     ·exact him
     ·exact hLm k hk
    have hdok:∀d,o.dst=some d→d<t.n:=fun d hd=>by rw[t3,←q3];exact hstp.dst d hd
    -- the state behind it
    have fin:∀(ρ':Pl) (t':S) (a':Act) (w':World),(∀d,t'.get d=if o.dst=some d then(tx i).1.1 else if d∈(tx i).2.ks then .any else t.get d)→(∀x,t'.blk x=lk (tx i).1.2 x (t.blk x))→t'.n=t.n→Sim cx ρ' t' a' w'→
      ∃ρ t,Sim cx ρ t a' w'∧(((∀k∈i::L,k<m)∧(∀d,t.get d=(stT ops.toList tx s (pE (i::L)) m).get d)∧(∀x,t.blk x=(stT ops.toList tx s (pE (i::L)) m).blk x)∧t.n=s.n)∨∃q,m≤q∧(∀k,k∈i::L↔k<q)∧xr P T po E ops.toList (ops.toList.drop q) t=some s'):=by
     intro ρ' t' a' w' g1 g2 g3 g4
     refine⟨ρ',t',g4,.inl ⟨hnew,fun d=>?_,fun x=>?_,g3.trans t3⟩⟩
     ·rw[g1]
      have eq1:o.dst=some d∨d∈(tx i).2.ks→(stT ops.toList tx s (pE (i::L)) m).get d=(stT ops.toList tx s (fun k=>tp k&&decide (k<i+1)) m).get d:=fun hdi=>q4o m (fun k hk hkd=>by
       rw[htpd]
       obtain⟨ok,hok⟩:=hop k hk
       rw[hdst k ok hok] at hkd
       rcases Nat.lt_trichotomy k i with h|h|h
       ·rw[qyi (show k<i+1 by omega)]
        refine qyi (qxr _ (hafter k ?_))
        rcases hdi with hd|hd
        ·rcases hkd with hkd|hkd
         ·exact cS1 k i ok o d h him hok ho hkd (.inr hd)
         ·exact cK1 k i o d h him ho hkd (.inr hd)
        ·rcases hkd with hkd|hkd
         ·exact cK2 k i ok d h him hok hd (.inr hkd)
         ·exact cK3 k i d h him hkd hd
       ·subst h;simp[pE]
       ·rw[decide_eq_false (by omega)]
        refine decide_eq_false fun hkL=>?_
        rcases qxF.1 hkL with h' | h'
        ·omega
        ·refine hbefore k ?_ h'
         rcases hdi with hd|hd
         ·rcases hkd with hkd|hkd
          ·exact cS1 i k o ok d h hk ho hok hd (.inr hkd)
          ·exact cK2 i k o d h hk ho hkd (.inr hd)
         ·rcases hkd with hkd|hkd
          ·exact cK1 i k ok d h hk hok hd (.inr hkd)
          ·exact cK3 i k d h hk hd hkd)
      by_cases hd:o.dst=some d
      ·rw[if_pos hd,eq1 (.inl hd),hcut (i+1) (by omega),htp1,S.put_get,hdst i o ho,if_pos hd]
      ·rw[if_neg hd]
       by_cases hdk:d∈(tx i).2.ks
       ·rw[if_pos hdk,eq1 (.inr hdk),hcut (i+1) (by omega),htp1,S.put_get,hdst i o ho,if_neg hd,S.kill_get,if_pos hdk]
       ·rw[if_neg hdk,t1]
        refine q4o m (fun k hk hkd=>?_)
        have hki:k≠i:=fun e=>by
         subst e
         rcases hkd with hkd|hkd
         ·exact hd (by rw[←hdst k o ho];exact hkd)
         ·exact hdk hkd
        simp[pE,hki]
     ·rw[g2]
      by_cases hx:∃b,(x,b)∈(tx i).1.2
      ·have hiw:=hkeywb i him x hx
       have e1:(stT ops.toList tx s (pE (i::L)) m).blk x=(stT ops.toList tx s (fun k=>tp k&&decide (k<i+1)) m).blk x:=q3f m (fun k hk hkx=>by
        rw[htpd]
        have hkw:=hkeywb k hk x hkx
        rcases Nat.lt_trichotomy k i with h|h|h
        ·rw[qyi (show k<i+1 by omega)]
         refine qyi (qxr _ (hafter k (cB k i h him ?_)))
         simp only[q1t,qxO,qyc,qxX]
         exact .inl ⟨x,hkw,.inr hiw⟩
        ·subst h;simp[pE]
        ·rw[decide_eq_false (by omega)]
         refine decide_eq_false fun hkL=>?_
         rcases qxF.1 hkL with h' | h'
         ·omega
         ·refine hbefore k (cB i k h hk ?_) h'
          simp only[q1t,qxO,qyc,qxX]
          exact .inl ⟨x,hiw,.inr hkw⟩)
       rw[e1,hcut (i+1) (by omega),htp1,S.put_blk,S.kill_blk,q4C]
       exact q7Z _ x _ _ hx
      ·rw[q0e _ x _ (fun b hb=>hx ⟨b,hb⟩),t2]
       refine q3f m (fun k hk hkx=>?_)
       have hki:k≠i:=fun e=>hx (e ▸ hkx)
       simp[pE,hki]
    obtain⟨b,hb,hf,ht⟩:=hstp.run
    unfold wpOpIn
    rw[ho]
    simp only
    cases b with
    | false=>
     rw[if_neg (by rw[q0u hsim (hgd.trans hb)];simp)]
     have hx:=hf rfl
     refine⟨q6C,fin ρ (t.put o.dst (.tup [])) _ _ (fun d=>?_) (fun x=>?_) (S.put_n _ _ _) (hsim.put hdok RR.un)⟩
     ·rw[S.put_get,hx];simp
     ·rw[S.put_blk,hx];rfl
    | true=>
     rw[if_pos (q0u hsim (hgd.trans hb))]
     have hloc:=ht rfl q4
     have hnew:(tx i).2.nw≠[]→∀x,t.live x→x<(Sq i).nx:=fun hne x hx=>by
      have hnw:=hstp.nwp.resolve_left hne
      have hN:=qi4 rn i (tx i) (htx i him) _ hnw
      rw[qxH] at hN
      by_cases hkx:∃k,k<m∧k≠i∧∃b,(x,b)∈(tx k).1.2
      ·obtain⟨k,hk,hki,b,hb⟩:=hkx
       exact qdt hN k (tx k) (htx k hk) (by omega) _ hb
      ·have e:t.blk x=(Sq i).blk x:=by
        rw[t2,q2,←hcut i (by omega)]
        refine q3f m (fun k hk hb=>?_)
        rw[htpd]
        have hki:k=i:=by
         by_cases h:k=i
         ·exact h
         ·exact absurd ⟨k,hk,h,hb⟩ hkx
        subst hki;simp[pE,hiL]
       refine q4 x ?_
       unfold S.live at hx ⊢
       rw[←e];exact hx
     refine(hloc cx ρ t a w _ _ hev hblk (farext t1 t2 (hfar i him (pE L) m (qxz _) (fun k hk hkL=>?_))) hnew hsim ?_)
     ·have hkL:k∈L:=of_decide_eq_true hkL
      exact⟨fun e=>hiL (e ▸ hkL),fun h=>hbefore k h hkL⟩
     intro ρ' t' v w' g1 g2 g3 g4 g5
     refine fin ρ' ((t'.kill (tx i).2.ks).put o.dst (tx i).1.1) _ _ (fun d=>?_) (fun x=>?_) (by rw[S.put_n];exact g3) ((g4.kill _).put (fun d hd=>by show d<t'.n;rw[g3];exact hdok d hd) g5)
     ·rw[S.put_get,S.kill_get]
      by_cases hdk:d∈(tx i).2.ks
      ·simp only[if_pos hdk]
      ·simp only[if_neg hdk,g1 d hdk]
     ·rw[S.put_blk,S.kill_blk,g2]
   ·have hi:i=m:=by
     rcases Nat.lt_or_ge m i with h|h
     ·have:=hLm m (h5 (by omega) m h);omega
     ·omega
    have hL:∀j,j∈L↔j<m:=fun j=>⟨fun hj=>hLm j hj,fun hj=>h5 (by omega) j (by omega)⟩
    exact hsuf m _ (qxz _) hL (hfull L ρ t a w hL t1 t2 t3 hsim) r4 hi
  ·have hiq:i=q:=by
    have h1:¬ i<q:=fun h=>hiL ((hL i).2 h)
    have h2:∀j,j<i→j<q:=fun j hj=>(hL j).1 (h5 (by omega) j hj)
    rcases Nat.lt_or_ge q i with h|h
    ·have:=h2 q h;omega
    ·omega
   exact hsuf q t hq hL hsim hv hiq
 ·rintro L a w hr ⟨ρ,t,hsim,hcase⟩ hall
  rcases hcase with ⟨hLm,t1,t2,t3⟩|⟨q,hq,hL,hv⟩
  ·have hmn':ops.size≤m:=by
    rcases Nat.lt_or_ge m ops.size with h|h
    ·have:=hLm m (hall m h);omega
    ·exact h
   have hL:∀j,j∈L↔j<m:=fun j=>⟨fun hj=>hLm j hj,fun hj=>hall j (by omega)⟩
   have hd:ops.toList.drop m=[]:=qxZ (by rw[hlen];exact hmn')
   rw[hd] at r4
   injection r4 with r4
   exact⟨_,ρ,hQ,r4 ▸ hfull L ρ t a w hL t1 t2 t3 hsim⟩
  ·have hqn:ops.size≤q:=by
    rcases Nat.lt_or_ge q ops.size with h|h
    ·have:=(hL q).1 (hall q h);omega
    ·exact h
   have hd:ops.toList.drop q=[]:=qxZ (by rw[hlen];exact hqn)
   rw[hd] at hv
   injection hv with hv
   exact⟨_,ρ,hQ,hv ▸ hsim⟩
theorem qdR:∀{r:R},r.isA=true→r = .any
 | .any,_=>rfl
theorem qel:∀{l:List (Nat×R)},qqx l=true→∀i,lk l i .any = .any
 | [],_,i=>rfl
 | x::l,h,i=>by
  unfold qqx at h
  split at h
  ·rename_i hx
   show(if x.1=i then x.2 else lk l i .any)=_
   rw[qel h i,qdR hx]
   split<;>rfl
  ·cases h
theorem qa9:∀(l:List (Nat×R)) (i:Nat),lk (q2G l) i .any=lk l i .any
 | [],i=>rfl
 | x::l,i=>by
  unfold q2G
  have ih:=qa9 l i
  have e:lk (x::q2G l) i .any=lk (x::l) i .any:=by
   show(if x.1=i then x.2 else lk (q2G l) i .any)=(if x.1=i then x.2 else lk l i .any)
   rw[ih]
  split
  ·rename_i hx
   split
   ·rename_i hl
    show R.any=(if x.1=i then x.2 else lk l i .any)
    rw[qel hl i,qdR hx]
    split<;>rfl
   ·exact e
  ·exact e
theorem Sim.strip {cx:Cx} {ρ:Pl} {s:S} {a:Act} {w:World} (h:Sim cx ρ s a w):Sim cx ρ s.strip a w:=
 ⟨h.hd,h.size,fun i=>by
  show RR w s.live ρ _ (lk (q2G s.tm) i .any)
  rw[qa9]
  exact h.tm i,h.hp,h.hp0,h.out,h.inj,h.nx,h.kept,h.oldF,h.pin,h.disj,⟨h.ows.lt,h.ows.one,h.ows.new⟩⟩
theorem qsV (hA:Ag P T) (hm:P.follows .mixedOrders=true):DOk P po (D1 P T po):=fun _ _ _ hE _ _ _ _ _ _ _ hq h hQ ρ a w hs=>by
 obtain⟨s1,h1,h2⟩:=qxo.1 h
 obtain⟨ρ',h3⟩:=hs.tkD h1
 exact qsI hA hE hm hq h2 hQ ρ' a w h3.strip
end
section
variable {P:Program} {T:Ty} {po:Pol}
theorem q4G {E E':Orc} (hE:OLe E E') {o:Oper} {act:Bool} {s:S} {x:S×Tx} (h:xsF P T po E o act s=some x):xsF P T po E' o act s=some x:=by
 unfold xsF at h ⊢
 by_cases hc:act=true
 ·rw[if_pos hc] at h ⊢
  cases hal:alC po s o.op with
  | some gr=>rw[hal] at h;exact zf (fun _ h=>zf (fun _ h=>hE _ _ _ _ _ h) (fun _ _ h=>h) h) (fun _ _ h=>h) h
  | none=>rw[hal] at h;exact zf (fun _ h=>qcj hE h) (fun _ _ h=>h) h
 ·rw[if_neg hc] at h ⊢;exact h
theorem qgI {E E':Orc} (hE:OLe E E') {ops:List Oper} {o:Oper} {s:S} {x:S×Tx} (h:xgF P T po E ops o s=some x):xgF P T po E' ops o s=some x:=by
 unfold xgF at h ⊢
 split at h
 ·exact q4G hE h
 ·split at h
  ·split at h
   ·split at h
    ·rename_i hb;rw[if_pos hb];exact q4G hE h
    ·rename_i hb;rw[if_neg hb];exact q4G hE h
   ·exact q4G hE h
   ·cases h
  ·cases h
theorem qaz {E E':Orc} (hE:OLe E E') {ops:List Oper} {A:List (List Nat)} {s0:S}:∀(m:Nat) (l:List Oper) (s s':S) (acc:List Tx),xdp P T po E ops A s0 m l s acc=some s'→xdp P T po E' ops A s0 m l s acc=some s'
 | 0,l,s,s',acc,h=>by
  unfold xdp at h ⊢
  split at h
  ·rename_i hc;rw[if_pos hc];exact q8z hE l h
  ·cases h
 | _+1,[],_,_,_,h=>by cases h
 | m+1,o::l,s,s',acc,h=>zf (fun _ h=>qgI hE h) (fun _ _ h=>qaz hE m l _ _ _ h) h
theorem q5p:q71 (D1 P T po):=fun _ _ hE _ _ _ _ _ _ h=>zf (fun _ h=>h) (fun _ _ h=>qaz hE _ _ _ _ _ h) h
section
variable {D:DRs} (hM:q71 D)
include hM
theorem q4L {o:Oper} {act:Bool} {s:S}:∀x,xsF P T po (EE P T po D) o act s=some x→∃n,∀m,n≤m→xsF P T po (xf P T po D m) o act s=some x:=fun x h=>by
 unfold xsF at h ⊢
 by_cases hc:act=true
 ·simp only[if_pos hc] at h ⊢
  cases hal:alC po s o.op with
  | some gr=>rw[hal] at h;exact zM (fun a h=>zM (q5i hM) (fun _=>zV) h) (fun _=>zV) h
  | none=>rw[hal] at h;exact zM (qdg hM) (fun _=>zV) h
 ·simp only[if_neg hc] at h ⊢;exact⟨0,fun _ _=>h⟩
theorem qh3 {ops:List Oper} {o:Oper} {s:S}:∀x,xgF P T po (EE P T po D) ops o s=some x→∃n,∀m,n≤m→xgF P T po (xf P T po D m) ops o s=some x:=fun x h=>by
 unfold xgF at h ⊢
 split at h
 ·exact q4L hM _ h
 ·split at h
  ·split at h
   ·split at h
    ·rename_i hb;simp only[if_pos hb];exact q4L hM _ h
    ·rename_i hb;simp only[if_neg hb];exact q4L hM _ h
   ·exact q4L hM _ h
   ·cases h
  ·cases h
theorem qa3 {ops:List Oper} {A:List (List Nat)} {s0:S}:∀(k:Nat) (l:List Oper) (s:S) (acc:List Tx) (x:S),xdp P T po (EE P T po D) ops A s0 k l s acc=some x→∃n,∀m,n≤m→xdp P T po (xf P T po D m) ops A s0 k l s acc=some x
 | 0,l,s,acc,x,h=>by
  unfold xdp at h ⊢
  split at h
  ·rename_i hc;simp only[if_pos hc];exact q8y hM l s x h
  ·cases h
 | _+1,[],_,_,_,h=>by cases h
 | k+1,o::l,s,acc,x,h=>zM (qh3 hM) (fun q b h=>qa3 k l q.1 _ b h) h
end
theorem qjV:qmb P T po (D1 P T po):=fun f k id ops s s' h=>by
 obtain⟨s1,h1,h2⟩:=qxo.1 h
 obtain⟨n,hn⟩:=qa3 q5p _ _ _ _ _ h2
 exact⟨n,qxo.2 ⟨s1,h1,hn n (qxz n)⟩⟩
end
def qY (k:Nat):Code→Option Code
 | .loop c=>if zg c=k then some c else qY k c
 | .seq a b=>(qY k a).or (qY k b)
 | .cond _ a b=>(qY k a).or (qY k b)
 | .block _ c=>qY k c
 | .scope c=>qY k c
 | .rangeFunc _ _ a b=>(qY k a).or (qY k b)
 | _=>none
def JI (k:Nat):Code→Option (Code×Code)
 | .rangeFunc _ _ a b=>if zg b=k then some (a,b) else none
 | .loop c=>JI k c
 | .seq a b=>(JI k a).or (JI k b)
 | .cond _ a b=>(JI k a).or (JI k b)
 | .block _ c=>JI k c
 | .scope c=>JI k c
 | _=>none
end
noncomputable section
open Go.RowKit
def qf6:Operand := .const (.slice none 0 0)
def q81 (t bt:TypeId):Code:=
 (Code.region 0 #[{ dst:=some 2,op := .assign qf6,type:=t,pos := "slices.go:355", after:=#[],guard:=none }] false).seq
  (((Code.region 1 #[{ dst:=some 3,op := .move (.tmp 0),type:=t,pos := "slices.go:357", after:=#[],guard:=none },
    { dst:=some 4,op := .binOp .eql t (.tmp 3) qf6 t,type:=bt,pos := "slices.go:357", after:=#[{ on:=0,ground := .data }],guard:=none }] false).seq
   (Code.cond (.tmp 4) ((Code.region 2 #[{ dst:=some 2,op := .assign qf6,type:=t,pos := "slices.go:358", after:=#[],guard:=none }] false).seq Code.ret) Code.skip)).seq
   ((Code.region 3 #[{ dst:=some 5,op := .buildSlice t 0 #[],type:=t,pos := "slices.go:362", after:=#[],guard:=none },
     { dst:=some 6,op := .move (.tmp 0),type:=t,pos := "slices.go:362", after:=#[],guard:=none },
     { dst:=some 7,op := .call { callee := .builtin .append,args:=#[.tmp 5,.tmp 6],argTypes:=#[t,t] },type:=t,pos := "slices.go:362", after:=#[{ on:=0,ground := .data },{ on:=1,ground := .data }],guard:=none },
     { dst:=some 2,op := .assign (.tmp 7),type:=t,pos := "slices.go:362", after:=#[{ on:=2,ground := .data },{ on:=2,ground := .chain },{ on:=0,ground := .phase },{ on:=1,ground := .phase },{ on:=2,ground := .phase }],guard:=none }] false).seq
    Code.ret))
section
variable {P:Program} {T:Ty} {cx:Cx} {ρ:Pl} {s:S} {a:Act} {w:World}
def po1 (z:Nat) (ro:Bool:=false):Pol:={ q:=fun _=>[z],ow:=fun _=>[],fz:=fun _=>false,kp:=fun _ _=>[],kx:=fun _ _=>[],rw:=fun _ _=>[],ro:=fun _=>ro,dm:=fun _ _=>0,an:=fun _ _=>[],rk:=fun _ _=>[],pr:=fun _=>none,ab:=fun _=>false,qo:=fun _=>[],tk:=fun _=>none }
def E0:Orc:=fun _ _ _ _=>none
theorem qoq:Snd P E0:=⟨fun _ _ _ _ _ _ h=>(by cases h),fun _ _ _ _ _ _ _ _ h=>(by cases h)⟩
theorem qqI {q:Nat→List Oper→Bool} {k:Nat}:qq8 P q k (fun _ _ _=>none):=fun _ _ _ _ _ _ _ _ h=>by cases h
def XD0 (P:Program) (T:Ty) (z:Nat) (c:Code) (s:S):XS:=XD P T (po1 z) E0 (fun _ _ _=>none) (iter 0) 0 0 c s
theorem q67 (hA:Ag P T) {z:Nat} {c:Code} {s s':S} {e:Exit} {Q:Exit→S→Prop} (hq:q4Q (fun _ _=>false) false c=true) (hk:cx.k=0) (h:XD0 P T z c s=some (e,s')) (hQ:Q e s'):J P cx c Q s:=
 qgm (n:=0) hA qoq qqI c s s' e cx Q hq hk (fun h=>by cases h) h hQ
theorem J.nilTest (hA:Ag P T) {id:Nat} {m o:Oper} {x d:Nat} {t t' e:TypeId} {sz n:Nat} {ds:List D} {Q:Exit→S→Prop} (hm:m.op = .move (.tmp x)) (hmg:m.guard=none) (hmd:m.dst=some d) (ho:o.op = .binOp .eql t (.tmp d) qf6 t') (hog:o.guard=none)
  (hk:T.k t = .sl e) (hx:s.get x = .c (.d (.sl sz n ds))) (hd:d<s.n) (hod:∀d',o.dst=some d'→d'<s.n)
  (hQ:∀b:Bool,(b=true→n=0∧ds=[])→Q .normal ((s.put (some d) (.c (.d (.sl sz n ds)))).put o.dst (.c (.d (.bool b))))):J P cx (.region id #[m,o] false) Q s:=by
 intro ρ a w hs
 refine wpIn_region_list ?_
 show wpListIn (FW cx.ro) 0 P #[m,o] _ [m,o] a w
 unfold wpListIn
 rw[if_pos (by unfold Region.wanted;rw[hmg])]
 have h1:ox P T s s.nx m.op (fun r s'=>r=s.get x∧s'=s):=by rw[hm];exact⟨rfl,rfl⟩
 refine q5a hA (fun h=>by have:=hs.nx _ h;omega) hs h1 ?_
 rintro r s2 ρ1 v w1 ⟨rfl,rfl⟩ hs1 hv
 have hs2:=hs1.put (dst:=m.dst) (fun d' hd'=>by rw[hmd] at hd';injection hd' with hd';rw[←hd'];exact hd) hv
 rw[hmd,hx] at hs2
 unfold wpListIn
 rw[if_pos (by unfold Region.wanted;rw[hog])]
 obtain⟨d0,i,z,ht⟩:=hA.at_ (t:=t) (by rw[hk];simp)
 have hkd:=q1l (ht.kd.trans hk)
 subst hkd
 rw[hx] at hv
 obtain⟨A,cap,q1,q2,q3,q4,q5,q6⟩:=hv.inv_sl
 refine qqX cx.ro ?_ (fun c hc=>by rw[ho] at hc;cases hc)
 have hev:(a.put m.dst v).eval (.tmp d)=v:=by
  rw[hmd]
  show(a.tmps.setIfInBounds d v).getD d undef=v
  have hlt:d<a.tmps.size:=by rw[hs1.size];exact hd
  simp[qxp,hlt]
 have he:execOp (a.put m.dst v).eval o=(do pure (.value (←(do eqGuard .eql t (.tmp d) qf6 ((a.put m.dst v).eval (.tmp d)) ((a.put m.dst v).eval qf6);binOp .eql t ((a.put m.dst v).eval (.tmp d)) ((a.put m.dst v).eval qf6))))):=by unfold execOp;simp only[ho]
 have hr:(do eqGuard .eql t (.tmp d) qf6 ((a.put m.dst v).eval (.tmp d)) ((a.put m.dst v).eval qf6);binOp .eql t ((a.put m.dst v).eval (.tmp d)) ((a.put m.dst v).eval qf6):Sem Value).run P w1 = .ok (.bool A.isNone) w1:=by
  rw[hev,q1,eqGuard_at_slice]
  show(do binOp .eql t (.slice A n cap) (.slice none 0 0):Sem Value).run P w1=_
  simp only[binOp,Sem.run_bind]
  unfold Op.equal Op.maxDepth Op.equalIn
  simp only[Sem.run_bind,run_underlying ht.ud,Result.andThen_ok]
  cases A<;>rfl
 refine z6 he hr ?_
 unfold wpListIn
 rw[hmd]
 refine⟨_,ρ1,hQ A.isNone (fun hb=>?_),hs2.put hod (.c _ _ (.d _ _ (.bool _)))⟩
 rcases q6 with q6|⟨b,off,f,q6,-⟩
 ·subst q6
  rw[Nat.zero_mul] at q5
  exact⟨rfl,qxC q5⟩
 ·rw[q6] at hb;cases hb
theorem qfm (hA:Ag P T) {f:FuncId} {fn:Func} {t e bt:TypeId} (hf:P.funcs[f]?=some fn) (hb:fn.body=some (q81 t bt)) (hname:(fn.name == "runtime.NumGoroutine")=false) (hn:fn.ntmps=8) (hr:fn.results.toList=[.tmp 2])
  (hk:T.k t = .sl e) (he:T.k e ≠ .other) (hz:0<T.sz e) (hzl:(T.zero e).length=T.sz e) {n:Nat} {ds:List D} (hl:ds.length=n*T.sz e) (hm1:n≤maxLen) (hm2:n*T.by_ e≤140737488355328) :
  AC P f [.c (.d (.sl (T.sz e) n ds))] [] 0 fun r hp=>r = .c (.d (.sl (T.sz e) n ds))∧hp=[]:=by
 refine AC.enter2 hA hf hb hname (by rw[hn];show(1:Nat)≤8;omega) (fun cx hk0 hro=>?_)
 rw[hn,hr]
 have fin:∀(s:S) (r:R),s.get 2=r→q5P (po1 (T.sz e)) 0 0 [t] s [r]=some (.c (.d (.sl (T.sz e) n ds)),[])→∃rs,rvs T s [.tmp 2]=some rs∧
   ∀ρ a w,Sim cx ρ s a w→∃rs' hp' nx' ρ',(one rs' = .c (.d (.sl (T.sz e) n ds))∧hp'=[])∧Sim cx ρ' (ZN hp' nx') q5M w∧rs'.length=rs.length∧∀(j:Nat) (r r':R) (v:Value),rs[j]?=some r→rs'[j]?=some r'→RR w s.live ρ v r→RR w (ZN hp' nx').live ρ' v r':=by
  intro s r hr h
  refine⟨[r],by simp[rvs,qjZ,hr],fun ρ a w hs=>?_⟩
  obtain⟨rs',nx',ρ',g1,g2,g3,g4⟩:=q4Y hk0 h hs
  exact⟨rs',[],nx',ρ',⟨g1.symm,rfl⟩,g2,g3,g4⟩
 unfold q81
 refine J.seq (q67 (z:=T.sz e) hA (by rfl) hk0 (s':=⟨[(2,.c .nils),(0,.c (.d (.sl (T.sz e) n ds)))],[],0,8⟩) (e := .normal) (by rfl) ?_)
 refine J.seq (J.seq (J.nilTest hA rfl rfl rfl rfl rfl hk (by rfl) (by show(3:Nat)<8;omega) (fun d' h=>by injection h with h;subst h;show(4:Nat)<8;omega) (fun b hb0=>?_)))
 cases b with
 | true=>
  obtain⟨rfl,rfl⟩:=hb0 rfl
  refine J.cond (by rfl) (fun _=>?_) (fun h=>by cases h)
  refine q67 (z:=T.sz e) hA (by rfl) hk0 (s':=⟨[(2,.c .nils),(4,.c (.d (.bool true))),(3,.c (.d (.sl (T.sz e) 0 []))),(2,.c .nils),(0,.c (.d (.sl (T.sz e) 0 [])))],[],0,8⟩) (e := .ret) (by rfl) ?_
  refine⟨.inr rfl,fin _ _ rfl ?_⟩
  have hz0:T.sz e≠0:=by omega
  simp[q5P,qb0,q5J,q8L,po1,q1T,R.rows,C.rows,C.rows0,S.frz,q5Q,qaO,dzR,dz,one,q16,rng,R.refs,C.refs,C.ref0,cnR,qbq,cn,cn0,cnH,S.get,lk,hz0,S.blk,B.isBlk,R.ptrs,S.frz1,fzR,qf8,fz,fz0,fzB,vis,q1v,hl,List.eraseDups_cons,pos,B.cells]
 | false=>
  refine J.cond (by rfl) (fun h=>by cases h) (fun _=>?_)
  refine J.skip ?_
  have hall:(ds.map C.d).all C.known=true:=by rw[List.all_map];exact qxA.2 fun x _=>rfl
  have hfar:(ds.map C.d).all (C.far 0)=true:=by rw[List.all_map];exact qxA.2 fun x _=>rfl
  have hdat:(ds.map C.d).all C.dat=true:=by rw[List.all_map];exact qxA.2 fun x _=>rfl
  have hfg:(ds.map C.d).map (C.fg 0)=ds.map C.d:=by rw[List.map_map];rfl
  refine q67 (z:=T.sz e) hA (by rfl) hk0 (s':=⟨[(2,.c (.own 0 (T.sz e) 0 n)),(7,.c (.own 0 (T.sz e) 0 n)),(6,.c (.d (.sl (T.sz e) n ds))),(5,.c .any),(4,.c (.d (.bool false))),(3,.c (.d (.sl (T.sz e) n ds))),(2,.c .nils),(0,.c (.d (.sl (T.sz e) n ds)))],[(0,.row e (T.sz e) (ds.map C.d)),(0,.row e (T.sz e) [])],1,8⟩) (e := .ret) ?_ ?_
  ·simp[XD0,XD,xr,xgd,q8q,qfE,ipA,ipS,ipF,ipX,qi7,ldO,stO,xst,pre,qqs,q5d,q1T,R.rows,S.frz,xo,xCl,Jw,bld,q3g,S.seq,S.ev,S.get,lk,S.put,S.up,S.fg,R.fg,C.fg,B.fg,S.blk,hk,he,hz,hzl,hl,hm1,hm2,hall,hfar,q4U,sqD,q1S,tt,C.known,C.far]
  ·refine⟨.inr rfl,fin _ _ rfl ?_⟩
   have hz0:T.sz e≠0:=by omega
   simp[q5P,qb0,q5J,q8L,po1,q1T,R.rows,C.rows,C.rows0,S.frz,q5Q,qaO,dzR,dz,one,q16,rng,R.refs,C.refs,C.ref0,cnR,qbq,cn,cn0,cnH,S.get,lk,hz0,S.blk,B.isBlk,R.ptrs,S.frz1,fzR,qf8,fz,fz0,fzB,vis,q1v,hl,List.eraseDups_cons,pos,B.cells]
theorem qd9 (hA:Ag P T) {f:FuncId} {fn:Func} {t e bt:TypeId} (hf:P.funcs[f]?=some fn) (hb:fn.body=some (q81 t bt)) (hname:(fn.name == "runtime.NumGoroutine")=false) (hn:fn.ntmps=8) (hr:fn.results.toList=[.tmp 2])
  (hk:T.k t = .sl e) (he:T.k e ≠ .other) (hz:0<T.sz e) (hzl:(T.zero e).length=T.sz e) {n:Nat} {ds:List D} (hl:ds.length=n*T.sz e) (hm1:n≤maxLen) (hm2:n*T.by_ e≤140737488355328) :
  AC P f [.c (.d (.sl (T.sz e) n ds))] [] 0 fun r hp=>r = .c (.own 0 (T.sz e) 0 n)∧hp=[(0,.row e (T.sz e) (ds.map C.d))]:=by
 refine AC.enter2 hA hf hb hname (by rw[hn];show(1:Nat)≤8;omega) (fun cx hk0 hro=>?_)
 rw[hn,hr]
 have fin:∀(s:S) (r:R),s.get 2=r→q5P (po1 (T.sz e) true) 0 0 [t] s [r]=some (.c (.own 0 (T.sz e) 0 n),[(0,.row e (T.sz e) (ds.map C.d))])→∃rs,rvs T s [.tmp 2]=some rs∧
   ∀ρ a w,Sim cx ρ s a w→∃rs' hp' nx' ρ',(one rs' = .c (.own 0 (T.sz e) 0 n)∧hp'=[(0,.row e (T.sz e) (ds.map C.d))])∧Sim cx ρ' (ZN hp' nx') q5M w∧rs'.length=rs.length∧∀(j:Nat) (r r':R) (v:Value),rs[j]?=some r→rs'[j]?=some r'→RR w s.live ρ v r→RR w (ZN hp' nx').live ρ' v r':=by
  intro s r hr h
  refine⟨[r],by simp[rvs,qjZ,hr],fun ρ a w hs=>?_⟩
  obtain⟨rs',nx',ρ',g1,g2,g3,g4⟩:=q4Y hk0 h hs
  exact⟨rs',_,nx',ρ',⟨g1.symm,rfl⟩,g2,g3,g4⟩
 unfold q81
 refine J.seq (q67 (z:=T.sz e) hA (by rfl) hk0 (s':=⟨[(2,.c .nils),(0,.c (.d (.sl (T.sz e) n ds)))],[],0,8⟩) (e := .normal) (by rfl) ?_)
 refine J.seq (J.seq (J.nilTest hA rfl rfl rfl rfl rfl hk (by rfl) (by show(3:Nat)<8;omega) (fun d' h=>by injection h with h;subst h;show(4:Nat)<8;omega) (fun b hb0=>?_)))
 cases b with
 | true=>
  obtain⟨rfl,rfl⟩:=hb0 rfl
  refine J.cond (by rfl) (fun _=>?_) (fun h=>by cases h)
  refine q67 (z:=T.sz e) hA (by rfl) hk0 (s':=⟨[(2,.c .nils),(4,.c (.d (.bool true))),(3,.c (.d (.sl (T.sz e) 0 []))),(2,.c .nils),(0,.c (.d (.sl (T.sz e) 0 [])))],[],0,8⟩) (e := .ret) (by rfl) ?_
  refine⟨.inr rfl,[.c .nils],rfl,fun ρ a w hs=>?_⟩
  obtain⟨ids,nx',ρ',g1,g2,g3⟩:=q9D (rs:=[]) (r' := .tup []) (hp':=[]) hk0 rfl hs
  obtain⟨ρ2,g4,g5⟩:=Sim.rerow (id:=0) (w':=w) (v := .slice none 0 0) (v' := .slice none 0 0) (e:=e) (sz:=T.sz e) (n:=0) (cs:=[]) (us:=[]) g2 (.inr ⟨rfl,fun h=>by unfold S.live S.blk ZN at h;simp[lk,B.live] at h⟩) (World.grownBy.refl w _) (.inl rfl) ⟨by simp,.inl ⟨rfl,rfl⟩⟩ hz (by simp) (by rw[hk0];omega) (fun j c hj=>by simp at hj) (fun j c u hj=>by simp at hj)
  have hblk:∀i,(ZN [(0,B.row e (T.sz e) [])] 1).blk i=(((ZN [] nx').fg 0).up [(0,B.row e (T.sz e) [])]).blk i:=fun i=>rfl
  have hlive:(ZN [(0,B.row e (T.sz e) [])] 1).live=(((ZN [] nx').fg 0).up [(0,B.row e (T.sz e) [])]).live:=by funext i;unfold S.live;rw[hblk]
  refine⟨[.c (.own 0 (T.sz e) 0 0)],[(0,B.row e (T.sz e) [])],1,ρ2,⟨rfl,rfl⟩,g4.ext (fun i=>rfl) hblk rfl (fun i hi=>?_),rfl,fun j r r' v hj hj' hv=>?_⟩
  ·unfold S.live S.blk ZN at hi
   show i<1
   rcases Nat.lt_or_ge i 1 with h|h
   ·exact h
   ·simp[lk,show ¬ 0=i by omega,B.live] at hi
  ·cases j with
   | zero=>
    simp only[qxt,qy7] at hj hj'
    subst hj hj'
    rw[hv.inv_nils,hlive]
    exact g5
   | succ j=>simp at hj
 | false=>
  refine J.cond (by rfl) (fun h=>by cases h) (fun _=>?_)
  refine J.skip ?_
  have hall:(ds.map C.d).all C.known=true:=by rw[List.all_map];exact qxA.2 fun x _=>rfl
  have hfar:(ds.map C.d).all (C.far 0)=true:=by rw[List.all_map];exact qxA.2 fun x _=>rfl
  have hdat:(ds.map C.d).all C.dat=true:=by rw[List.all_map];exact qxA.2 fun x _=>rfl
  have hfg:(ds.map C.d).map (C.fg 0)=ds.map C.d:=by rw[List.map_map];rfl
  refine q67 (z:=T.sz e) hA (by rfl) hk0 (s':=⟨[(2,.c (.own 0 (T.sz e) 0 n)),(7,.c (.own 0 (T.sz e) 0 n)),(6,.c (.d (.sl (T.sz e) n ds))),(5,.c .any),(4,.c (.d (.bool false))),(3,.c (.d (.sl (T.sz e) n ds))),(2,.c .nils),(0,.c (.d (.sl (T.sz e) n ds)))],[(0,.row e (T.sz e) (ds.map C.d)),(0,.row e (T.sz e) [])],1,8⟩) (e := .ret) ?_ ?_
  ·simp[XD0,XD,xr,xgd,q8q,qfE,ipA,ipS,ipF,ipX,qi7,ldO,stO,xst,pre,qqs,q5d,q1T,R.rows,S.frz,xo,xCl,Jw,bld,q3g,S.seq,S.ev,S.get,lk,S.put,S.up,S.fg,R.fg,C.fg,B.fg,S.blk,hk,he,hz,hzl,hl,hm1,hm2,hall,hfar,q4U,sqD,q1S,tt,C.known,C.far]
  ·refine⟨.inr rfl,fin _ _ rfl ?_⟩
   have hz0:T.sz e≠0:=by omega
   have hcn:∀ids,(ds.map C.d).map (cn ids)=ds.map C.d:=fun ids=>by rw[List.map_map];rfl
   simp[cnB,B.live,B.refs,hcn,hdat,q5P,qb0,q5J,q8L,po1,q1T,R.rows,C.rows,C.rows0,S.frz,q5Q,qaO,dzR,dz,one,q16,rng,R.refs,C.refs,C.ref0,cnR,qbq,cn,cn0,cnH,S.get,lk,hz0,S.blk,B.isBlk,R.ptrs,S.frz1,fzR,qf8,fz,fz0,fzB,vis,q1v,hl,List.eraseDups_cons,pos,B.cells]
def q0X (T:Ty) (e:TypeId) (own:Bool):List R→Option (R×List (Nat×B))
 | [.c (.d (.sl z n ds))]=>if z=T.sz e∧ds.length=n*z∧n≤maxLen∧n*T.by_ e≤140737488355328 then(if own=true then some (.c (.own 0 z 0 n),[(0,.row e z (ds.map C.d))]) else some (.c (.d (.sl z n ds)),[])) else none
 | _=>none
theorem q49 (hA:Ag P T) {f:FuncId} {fn:Func} {t e bt:TypeId} (hf:P.funcs[f]?=some fn) (hb:fn.body=some (q81 t bt)) (hname:(fn.name == "runtime.NumGoroutine")=false) (hn:fn.ntmps=8) (hr:fn.results.toList=[.tmp 2])
  (hk:T.k t = .sl e) (he:T.k e ≠ .other) (hz:0<T.sz e) (hzl:(T.zero e).length=T.sz e) {own:Bool} {args:List R} {r:R} {G':List (Nat×B)} (h:q0X T e own args=some (r,G')):AC P f args [] 0 fun r' hp'=>r'=r∧hp'=G':=by
 unfold q0X at h
 split at h
 ·split at h
  ·rename_i hc
   obtain⟨rfl,h1,h2,h3⟩:=hc
   split at h
   ·injection h with h
    injection h with h4 h5
    subst h4 h5
    exact qd9 hA hf hb hname hn hr hk he hz hzl h1 h2 h3
   ·injection h with h
    injection h with h4 h5
    subst h4 h5
    exact qfm hA hf hb hname hn hr hk he hz hzl h1 h2 h3
  ·cases h
 ·cases h
end
end
noncomputable section
open Go.RowKit
section
variable {P:Program} {T:Ty} {cx:Cx} {ρ:Pl} {s:S} {a:Act} {w:World}
end
end
noncomputable section
open Go.RowKit Go.Maps Go.Sort Go.Shelf
def qj6 (x:ByteArray):List ByteArray→List ByteArray
 | []=>[x]
 | y::l=>if Op.bytesLess y.toList x.toList=true then y::qj6 x l else x::y::l
def q00:List ByteArray→List ByteArray
 | []=>[]
 | x::l=>qj6 x (q00 l)
theorem q58 (x:ByteArray):∀l:List ByteArray,(qj6 x l).Perm (x::l)
 | [] => .refl _
 | y::l=>by
  unfold qj6
  split
  ·exact((q58 x l).cons y).trans (.swap x y l)
  ·exact .refl _
theorem Zw:∀l:List ByteArray,(q00 l).Perm l
 | [] => .refl _
 | x::l=>by
  unfold q00
  exact(q58 x _).trans ((Zw l).cons x)
theorem q7v:∀(x y:List UInt8),Op.bytesLess x y=decide (x<y)
 | [],[]=>by simp[Op.bytesLess]
 | _::_,[]=>by simp[Op.bytesLess]
 | [],_::_=>by simp[Op.bytesLess]
 | a::x,b::y=>by
  rw[Op.bytesLess,q7v x y]
  simp only[List.cons_lt_cons_iff]
  by_cases h1:a<b<;>by_cases h2:a=b<;>by_cases h3:x<y<;>simp[h1,h2,h3]
def leK (x y:ByteArray):Prop:=¬ Op.bytesLess y.toList x.toList=true
theorem q5j (x y:ByteArray):leK x y↔x.toList≤y.toList:=by
 unfold leK
 rw[q7v,qyh]
 exact⟨fun h=>h,fun h=>h⟩
theorem qdE {x y z:ByteArray} (h:leK x y) (h':leK y z):leK x z:=(q5j x z).2 (List.le_trans ((q5j x y).1 h) ((q5j y z).1 h'))
theorem qpO {x y:ByteArray} (h:Op.bytesLess y.toList x.toList=true):leK y x:=by
 refine(q5j y x).2 ?_
 rw[q7v,qyh] at h
 exact List.le_of_lt h
theorem q5s (x:ByteArray):∀{l:List ByteArray},l.Pairwise leK→(qj6 x l).Pairwise leK
 | [],_=>by simp[qj6]
 | y::l,h=>by
  unfold qj6
  obtain⟨h1,h2⟩:=List.pairwise_cons.1 h
  split
  ·rename_i hxy
   exact List.pairwise_cons.2 ⟨fun z hz=>by
    rcases qxF.1 ((q58 x l).mem_iff.1 hz) with rfl|hz
    ·exact qpO hxy
    ·exact h1 z hz,q5s x h2⟩
  ·rename_i hxy
   exact List.pairwise_cons.2 ⟨fun z hz=>by
    rcases qxF.1 hz with rfl|hz
    ·exact hxy
    ·exact qdE hxy (h1 z hz),h⟩
theorem q1O:∀l:List ByteArray,(q00 l).Pairwise leK
 | [] => .nil
 | x::l=>q5s x (q1O l)
theorem q9e (x:ByteArray):x.toList=x.data.toList:=ByteArray.toList_eq x
theorem qh1 (ks:List ByteArray) {ss:List (List UInt8)} (h:ss.Perm (ks.map fun k=>k.data.toList)):ss.mergeSort leB=(q00 ks).map fun k=>k.data.toList:=by
 have tr:∀a b c:List UInt8,leB a b=true→leB b c=true→leB a c=true:=fun a b c h1 h2=>by simp only[leB,qyh] at *;exact List.le_trans h1 h2
 have to:∀a b:List UInt8,(leB a b||leB b a)=true:=fun a b=>by simp only[leB,qxO,qyh];exact List.le_total a b
 have hs:((q00 ks).map fun k=>k.data.toList).Pairwise (fun a b=>leB a b=true):=by
  refine List.pairwise_map.2 ((q1O ks).imp fun {a b} hab=>?_)
  have:=(q5j a b).1 hab
  rw[q9e,q9e] at this
  simpa [leB] using this
 refine List.Perm.eq_of_pairwise (le:=fun a b=>leB a b=true) (fun a b _ _ h1 h2=>?_) (List.pairwise_mergeSort tr to ss) hs ((List.mergeSort_perm ss leB).trans (h.trans ((Zw ks).map _).symm))
 simp only[leB,qyh] at h1 h2
 exact List.le_antisymm h1 h2
def q92:Value→List UInt8
 | .string s=>s.data.toList
 | _=>[]
section
variable {P:Program} {ρ:Ren}
theorem qsx (L6:SlLaysZ.n6 P ρ) (L10:SlLaysZ.n10 P ρ)
  (hs1:∀(blk off cap:Nat) (ss:List (List UInt8)) (W:World),Holds encStr W blk off ss.toArray→blk<W.heap.size→ss.length<4611686018427387904→
   Calls P (ρ.f 9) #[.slice (some ⟨blk,off,none⟩) ss.length cap] W fun e w'=>e = .returned (.tuple #[])∧∃k os,w'=grow (putRow encStr (Sort.ahead W k) blk off (ss.mergeSort fun x y=>decide (x≤y)).toArray) os)
  (hs2:∀(p:Option Addr) (cap:Nat) (W:World),Calls P (ρ.f 9) #[.slice p 0 cap] W fun e w'=>e = .returned (.tuple #[])∧w'=W)
  (e9:∀args w,(callFunc (ρ.f 9) args).run P w = .ok (.enter (ρ.f 9) args) w) (eg:∀args w,(callFunc (ρ.f 10) args).run P w = .ok (.enter (ρ.f 10) args) w)
  (Bm b:Nat) (es:Array MapEntry) (ck:Nat) (w:World) (hBm:Bm<w.heap.size) (hm:w.cell? ⟨Bm,0,none⟩=some (.map (some b))) (hb:w.heap[b]?=some (.map es ck))
  (hst:MapKept.Stamped es ck) (hk:∀x∈es.toList,∃s:ByteArray,x.key = .string s∧s.size≤maxLen) (hz:es.size≤maxLen) (hz2:es.size*16≤140737488355328) :
  Calls P (ρ.f 6) #[.func (.func (ρ.f 10)) #[] #[.pointer (some ⟨Bm,0,none⟩)]] w fun e w'=>∃(v:Value) (ss:List (List UInt8)),e = .returned v∧ss.Perm (es.toList.map fun x=>q92 x.key)∧
   w'.ownsRow w.heap.size (ρ.t 26) 1 v ss.length ((ss.mergeSort leB).map encStr)∧Below w.heap.size w w':=by
 let R:Value→Option (DataW Unit×List MemPlace):=fun _=>some (.lit (.bool true),[])
 have hreads:∀x∈es.toList,∃y,WideElems.rd P (ρ.t 26) R x=some y∧Go.strOf y.1=q92 x.key:=fun x hx=>by
  obtain⟨s,h1,h2⟩:=hk x hx
  have hkey:keyOf P (ρ.t 26) x.key=some (.string s.data.toList):=by
   rw[h1]
   simp[keyOf,L10.t26,mapKey,h2]
  refine⟨(.string s.data.toList,.lit (.bool true)),WideElems.rd_mk (R:=R) (yv:=(.lit (.bool true),[])) (key:=x.key) (val:=x.val) (born:=x.born) hkey rfl,?_⟩
  rw[h1];rfl
 have hfit:WideElems.Fit P (ρ.t 26) R es ck:=⟨hz,hst,fun x hx=>by obtain⟨y,h1,-⟩:=hreads x hx;exact⟨y,h1⟩⟩
 have hown:w.ownsMap P (ρ.t 26) R b es.size (.map ((es.toList.map (WideElems.rg P (ρ.t 26) R)).foldr DataW.insert [])):=⟨es,ck,hb,hfit,qxz _,rfl⟩
 have hsize:Maps.size (.map ((es.toList.map (WideElems.rg P (ρ.t 26) R)).foldr DataW.insert []):DataW Unit)=es.size:=by
  rw[Maps.size_eq,length_sorted];simp
 have hperm:(strKeys (.map ((es.toList.map (WideElems.rg P (ρ.t 26) R)).foldr DataW.insert []):DataW Unit)).Perm (es.toList.map fun x=>q92 x.key):=by
  have h1:=((WideShapes.sorted_perm (es.toList.map (WideElems.rg P (ρ.t 26) R))).map fun p:Lit×DataW Unit=>Go.strOf p.1)
  refine h1.trans (.of_eq ?_)
  rw[List.map_map]
  refine List.map_congr_left fun x hx=>?_
  obtain⟨y,h2,h3⟩:=hreads x hx
  show Go.strOf (WideElems.rg P (ρ.t 26) R x).1=_
  rw[WideElems.rg_of h2];exact h3
 have hseq:=AnyZ.keys_gives L10 Fence.wide 2 trivial rfl (by omega) Bm b es.size _ w hBm hm hown
 have hsort:AnyZ.SortsIn P ρ Fence.wide (5-1):=⟨fun blk off cap ss W hH hblk hsz=>callsIn_wide.2 (hs1 blk off cap ss W hH hblk hsz),fun p cap W=>callsIn_wide.2 (hs2 p cap W)⟩
 have cS:=AnyZ.sorted_in L6 Fence.wide 5 trivial trivial trivial trivial rfl (by omega) hsort e9 (ρ.f 10) #[.pointer (some ⟨Bm,0,none⟩)] trivial eg _ _ (by rw[hsize];exact hz) (by rw[hsize];exact hz2) w hseq
 refine(callsIn_wide.1 cS).mono ?_
 rintro e w' ⟨v,ss,rfl,h1,h2,-,h3⟩
 exact⟨v,ss,rfl,h1.trans hperm,h2,h3⟩
end
def qss:Value→Option ByteArray
 | .string s=>some s
 | _=>none
def q8I:Me→Option (List ByteArray)
 | []=>some []
 | e::es=>(qss e.1).bind fun k=>(q8I es).bind fun l=>some (k::l)
def qlt (ks:List ByteArray):Bool:=decide ks.Nodup&&ks.all (fun k=>decide (k.size≤maxLen))&&decide (ks.length*16≤140737488355328)
def skO:AO→Option (List ByteArray)
 | .mp es ck=>if(es.map (·.2.2)).Nodup∧es.all (fun e=>decide (e.2.2<ck))=true then q8I es else none
 | _=>none
def qmk (g:FuncId):Nat→List R→List (Nat×B)→Option (R×List (Nat×B))
 | 2,[.c (.fn h [] [.ptr 0 0])],[(0,.blk t [.hd .map 1]),(1,.ob o)]=>if h=g then(skO o).bind fun ks=>if qlt ks=true then some (.c (.d (.sl 1 ks.length ((q00 ks).map D.str))),[(0,.blk t [.hd .map 1]),(1,.ob o)]) else none else none
 | _,_,_=>none
theorem q9L:∀{es:Me} {ks:List ByteArray},q8I es=some ks→es.map (·.1)=ks.map Value.string
 | [],ks,h=>by injection h with h;subst h;rfl
 | e::es,ks,h=>by
  unfold q8I at h
  obtain⟨k,h1,h⟩:=qxo.1 h
  obtain⟨l,h2,h⟩:=qxo.1 h
  injection h with h
  subst h
  have h1:e.1 = .string k:=by
   unfold qss at h1
   split at h1
   ·rename_i s hs;injection h1 with h1;rw[hs,h1]
   ·cases h1
  rw[qxG,qxG,h1,q9L h2]
theorem qjE {P:Program} {f g:FuncId} {et:TypeId} {fn:Func} (hf:P.funcs[f]?=some fn) (hname:(fn.name == "runtime.NumGoroutine")=false) (hb:fn.body.isNone=false)
  (h1:∀(Bm b:Nat) (es:Array MapEntry) (ck:Nat) (w:World),Bm<w.heap.size→w.cell? ⟨Bm,0,none⟩=some (.map (some b))→w.heap[b]?=some (.map es ck)→
   MapKept.Stamped es ck→(∀x∈es.toList,∃s:ByteArray,x.key = .string s∧s.size≤maxLen)→es.size≤maxLen→es.size*16≤140737488355328→
   Calls P f #[.func (.func g) #[] #[.pointer (some ⟨Bm,0,none⟩)]] w fun e w'=>∃(v:Value) (ss:List (List UInt8)),e = .returned v∧ss.Perm (es.toList.map fun x=>q92 x.key)∧
    w'.ownsRow w.heap.size et 1 v ss.length ((ss.mergeSort leB).map encStr)∧Below w.heap.size w w')
  {k:Nat} {args:List R} {G G':List (Nat×B)} {r:R} (h:qmk g k args G=some (r,G')):AC P f args G k fun r' hp'=>r'=r∧hp'=G':=by
 refine⟨⟨fn,hf,hname,hb⟩,fun cx ρ w vs hw hk hρ hro hs hv=>?_⟩
 unfold qmk at h
 split at h
 ·rename_i h0 t o
  split at h
  ·rename_i hg
   subst hg
   obtain⟨ks,hks,h⟩:=qxo.1 h
   split at h
   ·rename_i hok
    injection h with h
    injection h with h3 h4
    subst h3 h4
    obtain⟨hvs,hvr⟩:=hv
    have hv0:RR w _ ρ (vs.getD 0 undef) _:=hvr 0 _ rfl
    obtain⟨us,cs,e0,e1,-,e3,e4⟩:=hv0.inv_fn
    have hus:us=#[]:=Array.eq_empty_of_size_eq_zero (by simpa using e1)
    subst hus
    have hc0:=e4 0 _ rfl
    obtain⟨Bm,capm,l0,r0,hp0⟩:∃b cap,_∧ρ 0=some (b,cap)∧cs.getD 0 undef = .pointer (some ⟨b,0,none⟩):=(RR.c _ _ hc0).inv_ptr
    have hcs1:cs=#[.pointer (some ⟨Bm,0,none⟩)]:=by
     apply Array.ext
     ·simpa using e3
     ·intro i hi hi'
      have:i=0:=by simp at hi';exact hi'
      subst this
      have:cs.getD 0 undef=cs[0]:=by simp[qxp,hi]
      rw[this] at hp0
      exact hp0
    subst hcs1
    have hvs1:vs=#[.func (.func h0) #[] #[.pointer (some ⟨Bm,0,none⟩)]]:=by
     apply Array.ext
     ·simpa using hvs
     ·intro i hi hi'
      have:i=0:=by simp at hi';exact hi'
      subst this
      have:vs.getD 0 undef=vs[0]:=by simp[qxp,hi]
      rw[this] at e0
      exact e0
    subst hvs1
    obtain⟨hB0,hBk0⟩:=hs.hp 0 Bm capm l0 r0
    obtain⟨bs,q1,q2,q3⟩:HB w _ ρ Bm capm (.blk t [.hd .map 1]):=hBk0
    obtain⟨b1,cap1,l1,r1,hb1⟩:=(RR.c _ _ (q3 0 _ rfl)).inv_hd
    have hcell:w.cell? ⟨Bm,0,none⟩=some (.map (some b1)):=by
     have hz:0<bs.size:=by rw[q2];simp
     have:bs.getD 0 undef=bs[0]:=by simp[qxp,hz]
     rw[this] at hb1
     simp[World.cell?,q1,hz,hb1,HK.val]
    obtain⟨hB1,hBk1⟩:=hs.hp 1 b1 cap1 l1 r1
    cases o with
    | mp es ck=>
     have hks:(if(es.map (·.2.2)).Nodup∧es.all (fun e=>decide (e.2.2<ck))=true then q8I es else none)=some ks:=hks
     split at hks
     ·rename_i hst
      obtain⟨mes,m1,m2,m3,m4⟩:=HO.keys (show HO w _ ρ b1 (.mp es ck) from hBk1)
      have hkeys:es.map (·.1)=ks.map Value.string:=q9L hks
      have hmk:mes.toList.map (·.key)=ks.map Value.string:=m3.trans hkeys
      have hlen:mes.size=ks.length:=by have:=congrArg List.length hmk;simpa using this
      have hborn:mes.toList.map (·.born)=es.map (·.2.2):=by
       apply List.ext_getElem?
       intro j
       rw[qxx,qxx]
       rcases Nat.lt_or_ge j es.length with hj|hj
       ·obtain⟨m,-,g1,-,-,g2⟩:=m4 j _ (qxl hj)
        rw[g1,qxl hj]
        simp only[Option.map_some,g2]
       ·rw[qxR hj,qxR (by simp;omega)];rfl
      simp only[qlt,qxP,qyh,qxA] at hok
      obtain⟨⟨k1,k2⟩,k3⟩:=hok
      have hstamp:MapKept.Stamped mes ck:=by
       refine⟨fun x hx=>?_,by rw[hborn];exact hst.1,?_⟩
       ·have:x.born∈mes.toList.map (·.born):=qy2.2 ⟨x,hx,rfl⟩
        rw[hborn] at this
        obtain⟨e,he,h5⟩:=qy2.1 this
        have:=qxA.1 hst.2 e he
        rw[←h5]
        simpa using this
       ·rw[hmk]
        exact List.pairwise_map.2 (k1.imp fun {a b} hne h=>hne (by injection h))
      have hkk:∀x∈mes.toList,∃s:ByteArray,x.key = .string s∧s.size≤maxLen:=fun x hx=>by
       have:x.key∈mes.toList.map (·.key):=qy2.2 ⟨x,hx,rfl⟩
       rw[hmk] at this
       obtain⟨s,hs1,hs2⟩:=qy2.1 this
       exact⟨s,hs2.symm,k2 s hs1⟩
      refine(h1 Bm b1 mes ck w hB0 hcell m1 hstamp hkk (by rw[hlen];unfold maxLen;omega) (by rw[hlen];exact k3)).mono fun e w'=>?_
      rintro⟨v,ss,rfl,hp,hrow,hbel⟩
      have hkl:(mes.toList.map fun x=>q92 x.key)=ks.map fun k=>k.data.toList:=by
       have:(mes.toList.map fun x=>q92 x.key)=(mes.toList.map (·.key)).map q92:=by rw[List.map_map];rfl
       rw[this,hmk,List.map_map];rfl
      rw[hkl] at hp
      have hss:=qh1 ks hp
      have hsl:ss.length=ks.length:=by rw[hp.length_eq];simp
      rw[hss,hsl] at hrow
      have hK:qag (fun _=>False) w w':=⟨hbel.os,hbel.tape,hbel.output,hbel.size,fun k hk _=>hbel.block k hk⟩
      have hs':=hs.grow hK
      have henc:((q00 ks).map fun k=>k.data.toList).map encStr=(q00 ks).map Value.string:=by
       rw[List.map_map]
       refine List.map_congr_left fun x _=>?_
       show Value.string ⟨x.data.toList.toArray⟩=_
       simp
      rw[henc] at hrow
      refine⟨v,_,_,_,ρ,rfl,⟨rfl,rfl⟩,hs',.c _ _ (.d _ _ ?_)⟩
      have hlenS:(q00 ks).length=ks.length:=(Zw ks).length_eq
      obtain⟨hr1,⟨rfl,hr2⟩|⟨gb,cap,cur,rfl,hr2,hr3,hr4,hr5,hr6,hr7⟩⟩:=hrow
      ·have:q00 ks=[]:=qxC (by rw[hlenS];exact hr2)
       rw[this,hr2]
       exact .nil _ _ _ (qxJ _) (fun _=>rfl)
      ·rw[Nat.mul_one] at hr6 hr7
       have hget:∀(j:Nat) (s:ByteArray),(q00 ks)[j]?=some s→cur[j]?=some (Value.string s):=fun j s hj=>by
        have h5:(cur.toList.take ks.length)[j]?=some (Value.string s):=by rw[hr7,qxx,hj];rfl
        have hj':j<ks.length:=by rw[←hlenS];exact(qxn.1 hj).1
        rw[qxS hj'] at h5
        simpa using h5
       refine .sl gb 0 ks.length cap 1 _ (fun j=>cur.getD j undef) (by simp[hlenS]) hr4 hr5 (Array.getElem?_eq_some_iff.1 hr3).1 (fun hO=>?_) (fun j c hj=>?_) (fun j c hj=>?_)
       ·rcases hO with hF|⟨i,c,hi,hρi⟩
        ·have:=hs.ows.lt gb hF
         omega
        ·have:=(hs.hp i gb c hi hρi).1
         omega
       ·rw[qxx] at hj
        obtain⟨s,hs3,rfl⟩:=qxw.1 hj
        have:=hget j s hs3
        simp[World.cell?,hr3,qxp,this]
       ·rw[qxx] at hj
        obtain⟨s,hs3,rfl⟩:=qxw.1 hj
        have:=hget j s hs3
        simp only[qxp,this,Option.getD_some]
        exact .str _
     ·cases hks
    | _=>cases hks
   ·cases h
  ·cases h
 ·cases h
end
noncomputable section
open Go.RowKit Go.Shelf
theorem qaU {P:Program} (w:World) (t e ty:TypeId) (z:Value) (zs:List Value) (ht:P.underlying t=some (.slice e)) (hv:∀w,(zeroValue e).run P w = .ok z w) (hz:z.cells.toList=zs) (h1:∀u∈zs,u.oneCell'=true) (b o c:Nat)
  (hc:∀j,j<zs.length→(w.cell? ⟨b,o+j,none⟩).isSome=true) (hf:∀j,j<zs.length→w.frozen? ⟨b,o+j,none⟩=false) (h0:0<zs.length) :
  (Builtin.clear_ #[t] ty #[.slice (some ⟨b,o,none⟩) 1 c]).run P w = .ok (.tuple #[]) (w.setCells b o zs):=by
 have hzc:(Builtin.zeroCells z.cells 1).toList=zs:=by
  subst hz
  simp only[Builtin.zeroCells]
  apply List.ext_getElem
  ·simp
  ·intro i h1 h2
   simp
   have h3:i<z.cells.size:=by simpa using h2
   rw[Nat.mod_eq_of_lt h3]
   exact getElem!_pos z.cells i h3
 have hst:=run_storeCells_cells (P:=P) b o zs 0 w (by simpa using hc) (by simpa using hf) h1
 simp only[Nat.add_zero] at hst
 simp[Builtin.clear_,run_underlying ht,hv,hzc,hst]
theorem q1L {b:Nat} {e:TypeId}:∀(vs:List Value) (o:Nat) (w:World) (cur:Array Value),w.heap[b]?=some (.cells cur e (0,0))→o+vs.length≤cur.size→
  w.grownBy (w.setCells b o vs) (some b)∧∃cur':Array Value,(w.setCells b o vs).heap[b]?=some (.cells cur' e (0,0))∧cur'.size=cur.size∧∀k,cur'[k]?=if k<o∨o+vs.length≤k then cur[k]? else vs[k-o]?
 | [],o,w,cur,hb,ho=>⟨World.grownBy.refl w _,cur,hb,rfl,fun k=>by rw[if_pos (by simp;omega)]⟩
 | v::vs,o,w,cur,hb,ho=>by
  simp only[qxu] at ho
  have h1:(w.setCell ⟨b,o,none⟩ v).heap[b]?=some (.cells (cur.setIfInBounds o v) e (0,0)):=by
   simp only[World.setCell,Array.getElem?_modify,hb,if_true,Option.map_some]
   rfl
  have g1:w.grownBy (w.setCell ⟨b,o,none⟩ v) (some b):=⟨rfl,rfl,rfl,by simp,fun k _ hk=>Below.heap_setCell _ _ _ k (fun e=>hk (by rw[e]))⟩
  obtain⟨g2,cur',h2,h3,h4⟩:=q1L vs (o+1) _ _ h1 (by simp;omega)
  refine⟨⟨g2.os.trans g1.os,g2.tape.trans g1.tape,g2.output.trans g1.output,qxU g1.size g2.size,fun k hk hn=>(g2.block k (qxT hk g1.size) hn).trans (g1.block k hk hn)⟩,cur',h2,by simpa using h3,fun k=>?_⟩
  rw[h4 k,qxu]
  by_cases hA:k<o+1∨o+1+vs.length≤k
  ·rw[if_pos hA]
   by_cases hk:o=k
   ·subst hk
    rw[if_neg (show ¬ (o<o∨o+(vs.length+1)≤o) by omega)]
    simp[Array.getElem?_setIfInBounds,(show o<cur.size by omega)]
   ·rw[if_pos (show k<o∨o+(vs.length+1)≤k by omega),Array.getElem?_setIfInBounds,if_neg hk]
  ·rw[if_neg hA,if_neg (show ¬ (k<o∨o+(vs.length+1)≤k) by omega),show k-o=(k-(o+1))+1 by omega,qxI]
def qqa (e:TypeId) (z sz sz':Nat) (e':TypeId) (n:Nat) (i j:Int) (cs:List C):Option (R×List (Nat×B)):=
 if e'=e∧sz=z∧sz'=z∧cs.length=n*z∧cs.all C.known=true∧cs.all (C.far 0)=true∧0≤i∧j=i+1∧i<n then some (.c (.own 0 z 0 (n-1)),[(0,.row e z (cs.take (i.toNat*z)++cs.drop ((i.toNat+1)*z)))]) else none
def qb9 (e:TypeId) (z:Nat):Nat→List R→List (Nat×B)→Option (R×List (Nat×B))
 | 0,[.c (.own 0 sz 0 n),.c (.d (.int .i64 i)),.c (.d (.int .i64 j))],[(0,.row e' sz' cs)]=>qqa e z sz sz' e' n i j cs
 | _,_,_=>none
theorem qgR {P:Program} {f:FuncId} {fn:Func} {e:TypeId} {z:Nat} (hf:P.funcs[f]?=some fn) (hname:(fn.name == "runtime.NumGoroutine")=false) (hb:fn.body.isNone=false)
  (h1:∀(b n cap i j:Nat) (cur:Array Value) (w:World),w.heap[b]?=some (.cells cur e (0,0))→n≤cap→cap≤9223372036854775807→cur.size=cap*z→i<n→Hid (j=i+1)→(∀u∈cur.toList.take (n*z),u.oneCell'=true)→
   Calls P f #[.slice (some ⟨b,0,none⟩) n cap,.int .i64 i,.int .i64 j] w fun e' w'=>e' = .returned (.slice (some ⟨b,0,none⟩) (n-1) cap)∧w.grownBy w' (some b)∧
    ∃cur':Array Value,w'.heap[b]?=some (.cells cur' e (0,0))∧cur'.size=cur.size∧cur'.toList.take ((n-1)*z)=cur.toList.take (i*z)++(cur.toList.drop (j*z)).take ((n-j)*z))
  {k:Nat} {args:List R} {G G':List (Nat×B)} {r:R} (h:qb9 e z k args G=some (r,G')):AC P f args G k fun r' hp'=>r'=r∧hp'=G':=by
 refine⟨⟨fn,hf,hname,hb⟩,fun cx ρ w vs hw hk hρ hro hs hv=>?_⟩
 unfold qb9 at h
 split at h
 ·rename_i sz n i j e' sz' cs
  unfold qqa at h
  split at h
  ·rename_i hc
   obtain⟨rfl,rfl,rfl,c1,c2,c3,c4,rfl,c5⟩:=hc
   injection h with h
   injection h with h3 h4
   subst h3 h4
   obtain⟨i,rfl⟩:=Int.eq_ofNat_of_zero_le c4
   have hi:i<n:=by omega
   obtain⟨hvs,hvr⟩:=hv
   have hv0:RR w _ ρ (vs.getD 0 undef) _:=hvr 0 _ rfl
   have hv1:RR w _ ρ (vs.getD 1 undef) _:=hvr 1 _ rfl
   have hv2:RR w _ ρ (vs.getD 2 undef) _:=hvr 2 _ rfl
   obtain⟨hl,hcase⟩:=hv0.inv_own
   rcases hcase with ⟨b,cap,e1,e2,e3,e4⟩|⟨-,-,-,e5⟩
   ·have hsz:vs.size=3:=by simpa using hvs
    have hvs1:vs=#[.slice (some ⟨b,0,none⟩) n cap,.int .i64 i,.int .i64 ((i+1:Nat):Int)]:=by
     apply Array.ext
     ·simpa using hvs
     ·intro k hk hk'
      have hg:vs.getD k undef=vs[k]:=by simp[qxp,hk]
      have:k=0∨k=1∨k=2:=by omega
      rcases this with rfl|rfl|rfl
      ·rw[←hg,e4];simp
      ·rw[←hg,hv1.inv_int];rfl
      ·rw[←hg,hv2.inv_int];rfl
    subst hvs1
    simp only[qxm]
    obtain⟨hbz,hBk⟩:=hs.hp 0 b cap hl e1
    obtain⟨cur,q1,q2,q3,q4,q5,q6⟩:HB w _ ρ b cap (.row e' sz' cs):=hBk
    have hcell:∀(k:Nat) (c:C),cs[k]?=some c→∃u,cur[k]?=some u∧RC w _ ρ u c:=fun k c hk=>by
     have hk':k<cur.size:=by have:=(qxn.1 hk).1;omega
     refine⟨cur.getD k undef,by simp[qxp,hk'],q6 k c hk⟩
    have hone:∀u∈cur.toList.take (n*sz'),u.oneCell'=true:=fun u hu=>by
     obtain⟨k,hk,rfl⟩:=List.mem_iff_getElem.1 hu
     have hk1:k<n*sz':=by simp at hk;omega
     have hk2:k<cs.length:=by omega
     obtain⟨u,u1,u2⟩:=hcell k _ (qxl hk2)
     have hone:=u2.one (qxA.1 c2 _ (qy9 hk2))
     rw[List.getElem_take,Array.getElem_toList]
     have hk3:k<cur.size:=by omega
     rw[qxK hk3] at u1
     injection u1 with u1
     rw[u1];exact hone
    refine(h1 b n cap i (i+1) cur w q1 (by omega) (by unfold maxLen at e3;omega) q3 hi rfl hone).mono fun e2 w'=>?_
    rintro⟨rfl,hg,cur',r1,r2,r3⟩
    have hus:(cur.toList.take (i*sz')++(cur.toList.drop ((i+1)*sz')).take ((n-(i+1))*sz')).length=(n-1)*sz':=by
     have hA:(n-(i+1))*sz'+(i+1)*sz'=n*sz':=by rw[←Nat.add_mul];congr 1;omega
     have hB:i*sz'≤n*sz':=Nat.mul_le_mul_right _ (by omega)
     have hC:(n-1)*sz'=i*sz'+(n-(i+1))*sz':=by rw[←Nat.add_mul];congr 1;omega
     have hD:n*sz'≤cap*sz':=Nat.mul_le_mul_right _ (by omega)
     rw[qxq,qxM,qxM,qy4,Array.length_toList]
     omega
    obtain⟨ρ2,g4,g5⟩:=Sim.rerow (id:=0) (v := .slice (some ⟨b,0,none⟩) n cap) (v' := .slice (some ⟨b,0,none⟩) (n-1) cap) (e:=e') (sz:=sz') (n:=n-1) (cs:=cs.take (i*sz')++cs.drop ((i+1)*sz')) (us:=cur.toList.take (i*sz')++(cur.toList.drop ((i+1)*sz')).take ((n-(i+1))*sz'))
     hs (.inl ⟨b,cap,hl,e1,rfl⟩) hg (.inl rfl) ⟨hus,.inr ⟨b,cap,cur',rfl,qxJ _,r1,by omega,q4,by omega,r3⟩⟩ q5
     (by
      have hA:(n-(i+1))*sz'+(i+1)*sz'=n*sz':=by rw[←Nat.add_mul];congr 1;omega
      have hC:(n-1)*sz'=i*sz'+(n-(i+1))*sz':=by rw[←Nat.add_mul];congr 1;omega
      have hB:i*sz'≤n*sz':=Nat.mul_le_mul_right _ (by omega)
      rw[qxq,qxM,qy4];omega) (by omega) (fun k c hk=>by
      have hB:i*sz'≤n*sz':=Nat.mul_le_mul_right _ (by omega)
      have hB2:(i+1)*sz'≤n*sz':=Nat.mul_le_mul_right _ (by omega)
      by_cases hki:k<i*sz'
      ·rw[qxW (by rw[qxM];omega),qxS hki] at hk
       obtain⟨u,u1,u2⟩:=hcell k c hk
       refine⟨qxA.1 c3 _ (qxk hk),u,?_,u2⟩
       have hk3:=(Array.getElem?_eq_some_iff.1 u1).1
       rw[qxW (by rw[qxM,Array.length_toList];omega),qxS hki,Array.getElem?_toList]
       exact u1
      ·rw[qxV (by rw[qxM];omega),qxM,Nat.min_eq_left (by omega),List.getElem?_drop] at hk
       obtain⟨u,u1,u2⟩:=hcell _ c hk
       have hk3:=(qxn.1 hk).1
       have hk4:=(Array.getElem?_eq_some_iff.1 u1).1
       have hA:(n-(i+1))*sz'+(i+1)*sz'=n*sz':=by rw[←Nat.add_mul];congr 1;omega
       refine⟨qxA.1 c3 _ (qxk hk),u,?_,u2⟩
       have hD:n*sz'≤cap*sz':=Nat.mul_le_mul_right _ (by omega)
       rw[qxV (by rw[qxM,Array.length_toList];omega),qxM,Array.length_toList,Nat.min_eq_left (by omega),qxS (by omega),List.getElem?_drop,Array.getElem?_toList]
       exact u1) (fun k c u hk ho _=>by
      have hm:c∈cs:=by
       rcases qxN.1 (qxk hk) with h|h
       ·exact List.mem_of_mem_take h
       ·exact List.mem_of_mem_drop h
      have:=C.noow_is (qxA.1 (q0C c2) c hm)
      rw[ho] at this;cases this)
    have hblk:∀x,(ZN [(0,B.row e' sz' (cs.take (i*sz')++cs.drop ((i+1)*sz')))] 1).blk x=(((ZN [(0,B.row e' sz' cs)] 1).fg 0).up [(0,B.row e' sz' (cs.take (i*sz')++cs.drop ((i+1)*sz')))]).blk x:=fun x=>by
     rw[S.blk_up]
     by_cases hx:0=x
     ·subst hx;rfl
     ·rw[if_neg hx,S.blk_fg]
      unfold S.blk ZN
      simp only[lk,if_neg hx,B.fg]
    have hlive:(ZN [(0,B.row e' sz' (cs.take (i*sz')++cs.drop ((i+1)*sz')))] 1).live=(((ZN [(0,B.row e' sz' cs)] 1).fg 0).up [(0,B.row e' sz' (cs.take (i*sz')++cs.drop ((i+1)*sz')))]).live:=by funext x;unfold S.live;rw[hblk]
    refine⟨_,_,_,1,ρ2,rfl,⟨rfl,rfl⟩,g4.ext (fun x=>rfl) hblk rfl (fun x hx=>?_),?_⟩
    ·unfold S.live S.blk ZN at hx
     show x<1
     rcases Nat.lt_or_ge x 1 with h|h
     ·exact h
     ·simp[lk,show ¬ 0=x by omega,B.live] at hx
    ·rw[hlive];exact g5
   ·omega
  ·cases h
 ·cases h
end
noncomputable section
def br {α:Type} (n k:Nat) (a b:α):α:=bif Nat.blt n k then a else b
def tk (t:TypeId):Kd:=bif Nat.blt t 133 then(br t 66 (br t 33 (br t 16 (br t 8 (br t 4 (br t 2 (br t 1 .other .fn) (.int .i64)) (br t 6 (br t 5 .bool (.int .u8)) (br t 7 (.int .u8) (.st [(0,2),(1,3),(2,4),(3,6)])))) (br t 12 (br t 10 (br t 9 (.st [(0,2),(1,3),(2,4),(3,6)]) .str) .str) (br t 14 (br t 13 (.int .u64) (.st [(0,9),(1,12)])) (br t 15 (.st [(0,9),(1,12)]) (.ptr 119))))) (br t 24 (br t 20 (br t 18 (br t 17 (.ptr 122) (.ptr 131)) (.st [(0,17)])) (br t 22 (br t 21 .other (.int .i32)) (br t 23 (.sl 3) (.arr 3 3)))) (br t 28 (br t 26 (br t 25 (.arr 2 23) (.sl 35)) .fn) (br t 30 .fn (br t 31 (.sl 25) (br t 32 (.int .i64) .fn)))))) (br t 49 (br t 41 (br t 37 (br t 35 (br t 34 (.sl 9) (.st [(0,9),(1,3),(2,3),(3,22),(4,33)])) (br t 36 (.st [(0,9),(1,3),(2,3),(3,22),(4,33)]) .fn)) .fn) (br t 45 (br t 43 (br t 42 .other .fn) .fn) (br t 47 (br t 46 .fn (.mp 9 4)) .fn))) (br t 57 (br t 53 (br t 51 .fn (br t 52 .fn (.sl 5))) .fn) (br t 61 (br t 59 (br t 58 (.ptr 59) (.st [(0,22),(1,3)])) (br t 60 (.st [(0,22),(1,3)]) .fn)) (br t 63 .fn (br t 64 (.ptr 35) (br t 65 .fn (.mp 9 33)))))))) (br t 99 (br t 82 (br t 74 (br t 70 (br t 68 .fn (br t 69 .other .fn)) .fn) .fn) (br t 90 .fn (br t 94 .fn (br t 96 (br t 95 (.int .u64) .fn) (br t 97 (.int .i64) (br t 98 .other .fn)))))) (br t 116 (br t 107 (br t 103 (br t 101 .fn (br t 102 .fn .other)) (br t 105 .fn (br t 106 (.int .u32) .fn))) (br t 111 (br t 109 (.int .u64) .fn) (br t 113 (br t 112 .fn (.ptr 3)) (br t 114 .fn (br t 115 (.ptr 108) .other))))) (br t 124 (br t 120 (br t 118 .fn (.st [(0,17),(1,17),(2,17),(3,9)])) (br t 122 (br t 121 (.arr 0 16) (.st [(0,120)])) (br t 123 (.st [(0,120)]) .fn))) (br t 128 (br t 126 (.int .u8) (br t 127 .fn (.ptr 5))) (br t 130 (.int .i32) (br t 131 (.st [(0,12),(1,12),(2,105),(3,124),(4,5),(5,5),(6,125),(7,126),(8,127),(9,128),(10,129)]) (br t 132 (.st [(0,12),(1,12),(2,105),(3,124),(4,5),(5,5),(6,125),(7,126),(8,127),(9,128),(10,129)]) .other)))))))) else .other
def tz (t:TypeId):Nat:=bif Nat.blt t 133 then(br t 66 (br t 33 (br t 16 (br t 8 (br t 4 (br t 2 (br t 1 0 1) 1) (br t 6 1 (br t 7 1 4))) (br t 12 (br t 10 (br t 9 4 1) 1) (br t 14 (br t 13 1 2) (br t 15 2 1)))) (br t 24 (br t 20 1 (br t 22 (br t 21 0 1) (br t 23 1 3))) (br t 28 (br t 26 (br t 25 6 1) 1) 1))) (br t 49 (br t 41 (br t 37 (br t 35 (br t 34 1 5) (br t 36 5 1)) 1) (br t 45 (br t 43 (br t 42 0 1) 1) 1)) (br t 57 1 (br t 61 (br t 59 (br t 58 1 2) (br t 60 2 1)) 1)))) (br t 99 (br t 82 (br t 74 (br t 70 (br t 68 1 (br t 69 0 1)) 1) 1) (br t 90 1 (br t 94 1 (br t 96 1 (br t 97 1 (br t 98 0 1)))))) (br t 116 (br t 107 (br t 103 (br t 101 1 (br t 102 1 0)) 1) (br t 111 1 (br t 113 1 (br t 114 1 (br t 115 1 0))))) (br t 124 (br t 120 (br t 118 1 4) (br t 122 0 (br t 123 0 1))) (br t 128 1 (br t 130 1 (br t 131 11 (br t 132 11 0)))))))) else 0
def tb (t:TypeId):Nat:=bif Nat.blt t 133 then(br t 66 (br t 33 (br t 16 (br t 8 (br t 4 (br t 2 (br t 1 0 8) 8) (br t 6 1 (br t 7 1 24))) (br t 12 (br t 10 (br t 9 24 16) 16) (br t 14 (br t 13 8 24) (br t 15 24 8)))) (br t 24 (br t 20 8 (br t 22 (br t 21 0 4) 24)) (br t 28 (br t 26 (br t 25 48 24) 8) (br t 30 8 (br t 31 24 8))))) (br t 49 (br t 41 (br t 37 (br t 35 (br t 34 24 80) (br t 36 80 8)) 8) (br t 45 (br t 43 (br t 42 0 8) 8) 8)) (br t 57 (br t 53 (br t 51 8 (br t 52 8 24)) 8) (br t 61 (br t 59 (br t 58 8 32) (br t 60 32 8)) 8)))) (br t 99 (br t 82 (br t 74 (br t 70 (br t 68 8 (br t 69 0 8)) 8) 8) (br t 90 8 (br t 94 8 (br t 96 8 (br t 97 8 (br t 98 0 8)))))) (br t 116 (br t 107 (br t 103 (br t 101 8 (br t 102 8 0)) (br t 105 8 (br t 106 4 8))) (br t 111 8 (br t 113 8 (br t 114 8 (br t 115 8 0))))) (br t 124 (br t 120 (br t 118 8 40) (br t 122 0 (br t 123 0 8))) (br t 128 (br t 126 1 8) (br t 130 4 (br t 131 48 (br t 132 48 0)))))))) else 0
def t0 (t:TypeId):List C:=bif Nat.blt t 133 then(br t 66 (br t 33 (br t 16 (br t 8 (br t 4 (br t 2 (br t 1 [] [.nilf]) [.d (.int .i64 0)]) (br t 6 (br t 5 [.d (.bool false)] [.d (.int .u8 0)]) (br t 7 [.d (.int .u8 0)] [.d (.int .i64 0),.d (.int .i64 0),.d (.bool false),.d (.int .u8 0)]))) (br t 12 (br t 10 (br t 9 [.d (.int .i64 0),.d (.int .i64 0),.d (.bool false),.d (.int .u8 0)] [.d (.str ⟨#[]⟩)]) [.d (.str ⟨#[]⟩)]) (br t 14 (br t 13 [.d (.int .u64 0)] [.d (.str ⟨#[]⟩),.d (.int .u64 0)]) (br t 15 [.d (.str ⟨#[]⟩),.d (.int .u64 0)] [.nilp])))) (br t 24 (br t 20 [.nilp] (br t 22 (br t 21 [] [.d (.int .i32 0)]) (br t 23 [.nils] [.d (.int .i64 0),.d (.int .i64 0),.d (.int .i64 0)]))) (br t 28 (br t 26 (br t 25 [.d (.int .i64 0),.d (.int .i64 0),.d (.int .i64 0),.d (.int .i64 0),.d (.int .i64 0),.d (.int .i64 0)] [.nils]) [.nilf]) (br t 30 [.nilf] (br t 31 [.nils] (br t 32 [.d (.int .i64 0)] [.nilf])))))) (br t 49 (br t 41 (br t 37 (br t 35 (br t 34 [.nils] [.d (.str ⟨#[]⟩),.d (.int .i64 0),.d (.int .i64 0),.nils,.nils]) (br t 36 [.d (.str ⟨#[]⟩),.d (.int .i64 0),.d (.int .i64 0),.nils,.nils] [.nilf])) [.nilf]) (br t 45 (br t 43 (br t 42 [] [.nilf]) [.nilf]) (br t 47 (br t 46 [.nilf] [.nilm]) [.nilf]))) (br t 57 (br t 53 (br t 51 [.nilf] (br t 52 [.nilf] [.nils])) [.nilf]) (br t 61 (br t 59 (br t 58 [.nilp] [.nils,.d (.int .i64 0)]) (br t 60 [.nils,.d (.int .i64 0)] [.nilf])) (br t 63 [.nilf] (br t 64 [.nilp] (br t 65 [.nilf] [.nilm]))))))) (br t 99 (br t 82 (br t 74 (br t 70 (br t 68 [.nilf] (br t 69 [] [.nilf])) [.nilf]) [.nilf]) (br t 90 [.nilf] (br t 94 [.nilf] (br t 96 (br t 95 [.d (.int .u64 0)] [.nilf]) (br t 97 [.d (.int .i64 0)] (br t 98 [] [.nilf])))))) (br t 116 (br t 107 (br t 103 (br t 101 [.nilf] (br t 102 [.nilf] [])) (br t 105 [.nilf] (br t 106 [.d (.int .u32 0)] [.nilf]))) (br t 111 (br t 109 [.d (.int .u64 0)] [.nilf]) (br t 113 (br t 112 [.nilf] [.nilp]) (br t 114 [.nilf] (br t 115 [.nilp] []))))) (br t 124 (br t 120 (br t 118 [.nilf] [.nilp,.nilp,.nilp,.d (.str ⟨#[]⟩)]) (br t 122 [] (br t 123 [] [.nilf]))) (br t 128 (br t 126 [.d (.int .u8 0)] (br t 127 [.nilf] [.nilp])) (br t 130 [.d (.int .i32 0)] (br t 131 [.d (.int .u64 0),.d (.int .u64 0),.d (.int .u32 0),.d (.int .u8 0),.d (.int .u8 0),.d (.int .u8 0),.d (.int .u8 0),.nilf,.nilp,.d (.int .i32 0),.d (.int .i32 0)] (br t 132 [.d (.int .u64 0),.d (.int .u64 0),.d (.int .u32 0),.d (.int .u8 0),.d (.int .u8 0),.d (.int .u8 0),.d (.int .u8 0),.nilf,.nilp,.d (.int .i32 0),.d (.int .i32 0)] [])))))))) else[]
def tip:FuncId→Option (List Int→List Int)
 | _=>none
def tsf:FuncId→Option TypeId
 | _=>none
def T:Ty:=⟨tk,tz,tb,t0,tip,tsf⟩
theorem qrN:(List.range 133).all (fun t=>decide (T.k t = .other)||Ty.okAt Try.prog T t)=true:=by kernel_rfl
theorem qng (t:Nat) (h:133≤t):T.k t = .other:=by
 have hb:Nat.blt t 133=false:=by
  cases h':Nat.blt t 133 with
  | false=>rfl
  | true=>exact absurd (Nat.le_of_ble_eq_true h') (by omega)
 show tk t = .other
 unfold tk
 rw[hb]
 rfl
theorem qvC:∀t,T.k t = .other∨Ty.okAt Try.prog T t=true:=fun t=>by
 rcases Nat.lt_or_ge t 133 with h|h
 ·have:=qxA.1 qrN t (qye.2 h)
  simp only[qxO,qyh] at this
  exact this
 ·exact .inl (qng t h)
theorem qx2:∀g h,T.ip g=some h→qvj Try.prog g h:=by
 intro g h hg
 replace hg:tip g=some h:=hg
 unfold tip at hg
 cases hg
theorem qwe:∀g e,T.sf g=some e→qu4 Try.prog g e:=by
 intro g e hg
 replace hg:tsf g=some e:=hg
 unfold tsf at hg
 cases hg
theorem qlp:Ag Try.prog T:=⟨qvC,qx2,qwe⟩
theorem k3:T.k 3 = .int .i64:=rfl
theorem k4:T.k 4 = .bool:=rfl
theorem k5:T.k 5 = .int .u8:=rfl
theorem k9:T.k 9 = .str:=rfl
theorem k22:T.k 22 = .sl 3:=rfl
theorem k23:T.k 23 = .arr 3 3:=rfl
theorem k24:T.k 24 = .arr 2 23:=rfl
theorem k25:T.k 25 = .sl 35:=rfl
theorem k30:T.k 30 = .sl 25:=rfl
theorem k33:T.k 33 = .sl 9:=rfl
theorem k35:T.k 35 = .st [(0,9),(1,3),(2,3),(3,22),(4,33)]:=rfl
theorem k46:T.k 46 = .mp 9 4:=rfl
theorem k52:T.k 52 = .sl 5:=rfl
theorem k59:T.k 59 = .st [(0,22),(1,3)]:=rfl
theorem k65:T.k 65 = .mp 9 33:=rfl
theorem k81:T.k 81 = .fn:=rfl
theorem z3:T.sz 3=1:=rfl
theorem z5:T.sz 5=1:=rfl
theorem z9:T.sz 9=1:=rfl
theorem z22:T.sz 22=1:=rfl
theorem z23:T.sz 23=3:=rfl
theorem z24:T.sz 24=6:=rfl
theorem z25:T.sz 25=1:=rfl
theorem z26:T.sz 26=1:=rfl
theorem z28:T.sz 28=1:=rfl
theorem z31:T.sz 31=1:=rfl
theorem z33:T.sz 33=1:=rfl
theorem z35:T.sz 35=5:=rfl
theorem z46:T.sz 46=1:=rfl
theorem z51:T.sz 51=1:=rfl
theorem z53:T.sz 53=1:=rfl
theorem z65:T.sz 65=1:=rfl
theorem z81:T.sz 81=1:=rfl
theorem z131:T.sz 131=11:=rfl
theorem b3:T.by_ 3=8:=rfl
theorem b9:T.by_ 9=16:=rfl
theorem b35:T.by_ 35=80:=rfl
theorem o3:T.zero 3=[.d (.int .i64 0)]:=rfl
theorem o4:T.zero 4=[.d (.bool false)]:=rfl
theorem o9:T.zero 9=[.d (.str ⟨#[]⟩)]:=rfl
theorem o33:T.zero 33=[.nils]:=rfl
theorem o35:T.zero 35=[.d (.str ⟨#[]⟩),.d (.int .i64 0),.d (.int .i64 0),.nils,.nils]:=rfl
theorem o46:T.zero 46=[.nilm]:=rfl
theorem o59:T.zero 59=[.nils,.d (.int .i64 0)]:=rfl
theorem o65:T.zero 65=[.nilm]:=rfl
theorem o81:T.zero 81=[.nilf]:=rfl
end
noncomputable section
open Go.Shelf Go.RowKit Go.Sort
set_option maxHeartbeats 4000000 in
set_option maxRecDepth 1000000 in
theorem qti (b n cap i j:Nat) (cur:Array Value) (w:World) (hb:w.heap[b]?=some (.cells cur 35 (0,0))) (hn:n≤cap) (hm:cap≤9223372036854775807) (hz:cur.size=cap*5) (hi:i<n) (hj:Hid (j=i+1)) (hone:∀u∈cur.toList.take (n*5),u.oneCell'=true) :
  Calls Try.prog 51 #[.slice (some ⟨b,0,none⟩) n cap,.int .i64 i,.int .i64 j] w fun e w'=>e = .returned (.slice (some ⟨b,0,none⟩) (n-1) cap)∧w.grownBy w' (some b)∧
   ∃cur':Array Value,w'.heap[b]?=some (.cells cur' 35 (0,0))∧cur'.size=cur.size∧cur'.toList.take ((n-1)*5)=cur.toList.take (i*5)++(cur.toList.drop (j*5)).take ((n-j)*5):=by
 have mixed:Try.prog.follows .mixedOrders=true:=by kernel_rfl
 have hic:i≤cap:=by omega
 have hij:i<j:=by have:=hj.out;omega
 have hjn:j≤n:=by have:=hj.out;omega
 have hjc:j≤cap:=by omega
 obtain⟨i0,hi0,hz1⟩:∃i0,Try.prog.info? 35=some i0∧i0.size=5:=by
  obtain⟨d,i0,z,ht⟩:=qlp.at_ (t:=35) (by rw[k35];simp)
  exact⟨i0,ht.info,ht.sz.trans z35⟩
 obtain⟨news,hnews⟩:∃news,news=(cur.toList.drop (j*5)).take ((n-j)*5):=⟨_,rfl⟩
 have hcl:cur.toList.length=cap*5:=by simpa using hz
 have hlen:news.length=(n-j)*5:=by rw[hnews,qxM,qy4,hcl];omega
 have hmem:∀u∈news,u∈cur.toList.take (n*5):=fun u hu=>by rw[hnews,show(n-j)*5=n*5-j*5 by omega,←List.drop_take] at hu;exact List.mem_of_mem_drop hu
 have hcell:∀k,k<cap*5→w.cell? ⟨b,k,none⟩=cur.toList[k]?:=fun k hk=>by
  have:k<cur.size:=by omega
  simp[World.cell?,hb]
 have hfz:∀k,w.frozen? ⟨b,k,none⟩=false:=fun k=>by simp[World.frozen?,hb]
 obtain⟨A,hA,hsrc⟩:∃A:Addr,(if cap=j then some (⟨b,0,none⟩:Addr) else some ⟨b,j*5,none⟩)=some A∧Hid (∀t u,news[t]?=some u→w.drew.cell? (A.add t)=some u):=by
  by_cases h:cap=j
  ·refine⟨⟨b,0,none⟩,by simp[h],fun t u hu=>?_⟩
   have h0:news.length=0:=by rw[hlen];omega
   rw[List.length_eq_zero_iff.1 h0] at hu
   simp at hu
  ·refine⟨⟨b,j*5,none⟩,by simp[h],fun t u hu=>?_⟩
   have ht:t<(n-j)*5:=by
    have:=(qxn.1 hu).1
    rwa [hlen] at this
   rw[hnews,qxS ht,List.getElem?_drop] at hu
   rw[Addr.add_lit]
   exact(hcell _ (by omega)).trans hu
 have s1:Hid (news.length=(n-j)*5):=hlen
 have s2:Hid (∀u∈news,u.oneCell'=true):=fun u hu=>hone u (hmem u hu)
 have s3:Hid (∀t,t<news.length→(w.drew.cell? ⟨b,0+i*5+t,none⟩).isSome=true∧w.drew.frozen? ⟨b,0+i*5+t,none⟩=false):=by
  intro t ht
  rw[hlen] at ht
  have:=hj.out
  refine⟨?_,hfz _⟩
  show(w.cell? _).isSome=true
  rw[hcell _ (by omega),qxl (by omega)];rfl
 obtain⟨W1,hW1⟩:∃W1,W1=w.drew.setCells b (0+i*5) news:=⟨_,rfl⟩
 have hW:Hid (W1=w.drew.setCells b (0+i*5) news):=hW1
 obtain⟨z,zs,hv,hzz,hz2,hz3⟩:∃(z:Value) (zs:List Value),(∀w,(zeroValue 35).run Try.prog w = .ok z w)∧z.cells.toList=zs∧zs.length=5∧∀u∈zs,u.oneCell'=true:=⟨_,_,Try.zeroValue35,rfl,by kernel_rfl,fun u hu=>by simp[Value.cells] at hu;rcases hu with rfl|rfl|rfl|rfl|rfl<;>rfl⟩
 obtain⟨hg1,c1,hc1,hc2,hc3⟩:=q1L (e:=35) news (0+i*5) w.drew cur hb (by rw[hlen];have:=hj.out;omega)
 rw[←hW1] at hg1 hc1
 obtain⟨hg2,c2,hd1,hd2,hd3⟩:=q1L (e:=35) zs ((i+(n-j))*5) W1 c1 hc1 (by rw[hz2,hc2];have:=hj.out;omega)
 have hfin:Hid (w.grownBy (W1.setCells b ((i+(n-j))*5) zs) (some b)∧∃cur':Array Value,(W1.setCells b ((i+(n-j))*5) zs).heap[b]?=some (.cells cur' 35 (0,0))∧cur'.size=cur.size∧cur'.toList.take ((n-1)*5)=cur.toList.take (i*5)++(cur.toList.drop (j*5)).take ((n-j)*5)):=by
  have hjo:=hj.out
  refine⟨⟨hg2.os.trans hg1.os,hg2.tape.trans hg1.tape,hg2.output.trans hg1.output,qxU hg1.size hg2.size,fun k hk hn=>(hg2.block k (qxT hk hg1.size) hn).trans (hg1.block k hk hn)⟩,c2,hd1,hd2.trans hc2,?_⟩
  rw[←hnews]
  apply List.ext_getElem?
  intro k
  rcases Nat.lt_or_ge k ((n-1)*5) with hk|hk
  ·rw[qxS hk,Array.getElem?_toList,hd3 k,if_pos (.inl (by omega)),hc3 k]
   by_cases hki:k<i*5
   ·rw[if_pos (.inl (by omega)),qxW (by rw[qxM,hcl];omega),qxS hki,Array.getElem?_toList]
   ·rw[if_neg (by rw[hlen];omega),qxV (by rw[qxM,hcl];omega),qxM,hcl,Nat.min_eq_left (by omega)]
    congr 1;omega
  ·rw[qxR (by rw[qxM];omega),qxR (by rw[qxq,qxM,hcl,hlen];omega)]
 have hclr:∀ty,(Builtin.clear_ #[25] ty #[.slice (some ⟨b,(i+(n-j))*5,none⟩) (n-(i+(n-j))) (cap-(i+(n-j)))]).run Try.prog W1 = .ok (.tuple #[]) (W1.setCells b ((i+(n-j))*5) zs):=fun ty=>by
  have hjo:=hj.out
  rw[show n-(i+(n-j))=1 by omega]
  refine qaU W1 25 35 ty z zs Try.underlying25 hv hzz hz3 b _ _ (fun k hk=>?_) (fun k _=>by simp[World.frozen?,hc1]) (by omega)
  have:(i+(n-j))*5+k<c1.size:=by rw[hc2];omega
  simp[World.cell?,hc1,this]
 have hout:Hid (i+(n-j)=n-1):=by have:=hj.out;show i+(n-j)=n-1;omega
 clear hW1 hnews hlen hmem hcell hfz hone hv hzz hz2 hz3 hcl hg1 hc1 hc2 hc3 hg2 hd1 hd2 hd3
 go_enter Try.func51,Try.ntmps51
 go_wp2_with fail
 go_region_law_o (refine step_append_room rfl (.tmp 22) (.tmp 25) 25 rfl 35 i0 5 Try.underlying25 hi0 hz1 b 0 i cap (by simp[Act.eval,Act.put]) A (n-j) (cap-j) news (by simp[Act.eval,Act.put]) s1.out hsrc.out s2.out (by omega) s3.out ?_;rw[←hW.out])
 go_wp2
 go_ret
 exact⟨by rw[←hout.out];rfl,hfin.out⟩
def q8V:Go.Shelf.Ren:=⟨fun | 190=>73 | 125=>77 | 258=>76 | 128=>87 | 129=>88 | 302=>78 | 303=>79 | 304=>80 | 305=>81 | 306=>82 | 307=>83 | 308=>84 | 309=>85 | 310=>86 | 333=>89 | 329=>90 | 330=>91 | 334=>92 | 335=>93 | 336=>94 | 344=>95|n=>n,fun | 31=>33 | 9=>9 | 3=>3 | 46=>94 | 0=>0 | 51=>105 | 53=>107 | 4=>4 | 183=>97 | 182=>96 | 131=>102 | 5=>5 | 218=>108 | 222=>112 | 228=>114 | 229=>115|n=>n,fun|n=>n⟩
theorem qbR:Go.Proofs.Lays.n190 Try.prog q8V:={
 mixed:=by kernel_rfl
 f125:=Try.func77.trans (congrArg some (by kernel_rfl))
 f128:=Try.func87.trans (congrArg some (by kernel_rfl))
 f129:=Try.func88.trans (congrArg some (by kernel_rfl))
 f190:=Try.func73.trans (congrArg some (by kernel_rfl))
 f258:=Try.func76.trans (congrArg some (by kernel_rfl))
 f302:=Try.func78.trans (congrArg some (by kernel_rfl))
 f303:=Try.func79.trans (congrArg some (by kernel_rfl))
 f304:=Try.func80.trans (congrArg some (by kernel_rfl))
 f305:=Try.func81.trans (congrArg some (by kernel_rfl))
 f306:=Try.func82.trans (congrArg some (by kernel_rfl))
 f307:=Try.func83.trans (congrArg some (by kernel_rfl))
 f308:=Try.func84.trans (congrArg some (by kernel_rfl))
 f309:=Try.func85.trans (congrArg some (by kernel_rfl))
 f310:=Try.func86.trans (congrArg some (by kernel_rfl))
 f329:=Try.func90.trans (congrArg some (by kernel_rfl))
 f330:=Try.func91.trans (congrArg some (by kernel_rfl))
 f333:=Try.func89.trans (congrArg some (by kernel_rfl))
 f334:=Try.func92.trans (congrArg some (by kernel_rfl))
 f335:=Try.func93.trans (congrArg some (by kernel_rfl))
 f336:=Try.func94.trans (congrArg some (by kernel_rfl))
 f344:=Try.func95.trans (congrArg some (by kernel_rfl))
 t0:=Try.underlying0
 a0:=Try.isAgg0
 z0:=Try.sizeOf0
 v0:=Try.zeroValue0
 t3:=Try.underlying3
 a3:=Try.isAgg3
 z3:=Try.sizeOf3
 v3:=Try.zeroValue3
 t4:=Try.underlying4
 a4:=Try.isAgg4
 z4:=Try.sizeOf4
 v4:=Try.zeroValue4
 t5:=Try.underlying5
 a5:=Try.isAgg5
 z5:=Try.sizeOf5
 v5:=Try.zeroValue5
 t9:=Try.underlying9
 a9:=Try.isAgg9
 z9:=Try.sizeOf9
 v9:=Try.zeroValue9
 t31:=Try.underlying33
 a31:=Try.isAgg33
 z31:=Try.sizeOf33
 v31:=Try.zeroValue33
 t46:=Try.underlying94
 a46:=Try.isAgg94
 z46:=Try.sizeOf94
 v46:=Try.zeroValue94
 t51:=Try.underlying105
 a51:=Try.isAgg105
 z51:=Try.sizeOf105
 v51:=Try.zeroValue105
 t53:=Try.underlying107
 a53:=Try.isAgg107
 z53:=Try.sizeOf107
 v53:=Try.zeroValue107
 t131:=Try.underlying102
 a131:=Try.isAgg102
 z131:=Try.sizeOf102
 v131:=Try.zeroValue102
 t182:=Try.underlying96
 a182:=Try.isAgg96
 z182:=Try.sizeOf96
 v182:=Try.zeroValue96
 t183:=Try.underlying97
 a183:=Try.isAgg97
 z183:=Try.sizeOf97
 v183:=Try.zeroValue97
 t218:=Try.underlying108
 a218:=Try.isAgg108
 z218:=Try.sizeOf108
 v218:=Try.zeroValue108
 t222:=Try.underlying112
 a222:=Try.isAgg112
 z222:=Try.sizeOf112
 v222:=Try.zeroValue112
 t228:=Try.underlying114
 a228:=Try.isAgg114
 z228:=Try.sizeOf114
 v228:=Try.zeroValue114
 t229:=Try.underlying115
 a229:=Try.isAgg115
 z229:=Try.sizeOf115
 v229:=Try.zeroValue115 }
def skr:Go.Shelf.Ren:=⟨fun | 6=>64 | 8=>72 | 9=>73 | 10=>74 | 11=>75|n=>n,fun | 3=>4 | 4=>4 | 23=>46 | 24=>33 | 26=>9 | 28=>84 | 33=>36|n=>n,fun n=>n⟩
theorem sk6:SlLaysZ.n6 Try.prog skr:={
 mixed:=by kernel_rfl
 f6:=⟨Try.f64.name,by kernel_rfl,Try.func64.trans (congrArg some (by kernel_rfl))⟩
 f8:=⟨Try.f72.name,by kernel_rfl,Try.func72.trans (congrArg some (by kernel_rfl))⟩
 f11:=⟨Try.f75.name,by kernel_rfl,Try.func75.trans (congrArg some (by kernel_rfl))⟩
 t0:=Try.underlying0
 a0:=Try.isAgg0
 z0:=Try.sizeOf0
 v0:=Try.zeroValue0
 t24:=Try.underlying33
 a24:=Try.isAgg33
 z24:=Try.sizeOf33
 v24:=Try.zeroValue33
 t26:=Try.underlying9
 a26:=Try.isAgg9
 z26:=Try.sizeOf9
 v26:=Try.zeroValue9
 t28:=Try.underlying84
 a28:=Try.isAgg84
 z28:=Try.sizeOf84
 v28:=Try.zeroValue84
 i26:=by kernel_rfl }
theorem qwx:SlLaysZ.n10 Try.prog skr:={
 mixed:=by kernel_rfl
 f10:=⟨Try.f74.name,by kernel_rfl,Try.func74.trans (congrArg some (by kernel_rfl))⟩
 t0:=Try.underlying0
 a0:=Try.isAgg0
 z0:=Try.sizeOf0
 v0:=Try.zeroValue0
 t4:=Try.underlying4
 a4:=Try.isAgg4
 z4:=Try.sizeOf4
 v4:=Try.zeroValue4
 t23:=Try.underlying46
 a23:=Try.isAgg46
 z23:=Try.sizeOf46
 v23:=Try.zeroValue46
 t26:=Try.underlying9
 a26:=Try.isAgg9
 z26:=Try.sizeOf9
 v26:=Try.zeroValue9
 t33:=Try.underlying36
 a33:=Try.isAgg36
 z33:=Try.sizeOf36
 v33:=Try.zeroValue36 }
end
noncomputable section
open Go.RowKit
def pq (t:TypeId):List Nat:=bif Nat.blt t 60 then(br t 30 (br t 15 [] (br t 22 [] (br t 26 (br t 24 (br t 23 [1] []) (br t 25 [] [5])) []))) (br t 45 (br t 37 (br t 33 (br t 31 [1] []) (br t 35 (br t 34 [1] [0,0,0,1,1]) (br t 36 [0,0,0,1,1] []))) []) (br t 52 [] (br t 56 (br t 54 (br t 53 [1] []) []) (br t 58 [] [1,0]))))) else[]
def pow (t:FuncId):List Nat:=bif Nat.blt t 52 then(br t 26 [] (br t 39 [] (br t 45 [] (br t 48 [] (br t 50 [] (br t 51 [] [0])))))) else[]
def pfz (f:FuncId):Bool:=([9,10,11,12,17,18,19,20,21,23,24,31,32,33,34,36,39,43,53,64,65,72,75]:List Nat).contains f
def pro (f:FuncId):Bool:=([33,36,47]:List Nat).contains f
def pkp (t:FuncId) (k:Nat):List Nat:=bif Nat.blt t 90 then(br t 45 (br t 22 (br t 11 (br t 5 (br t 2 [] (br t 3 [] (br t 4 (br k 12 (br k 6 [] (br k 9 (br k 7 [7,8,34,35,36] []) (br k 10 [] (br k 11 [] [7,8,34,35,36,45,46,47])))) []) (br k 24 (br k 12 (br k 6 (br k 3 [] (br k 4 [] (br k 5 [] [7,37,38,39]))) (br k 9 [] (br k 10 [] (br k 11 [] [7,11,12,13,37,38,39])))) (br k 18 (br k 15 [] (br k 16 [7,11,12,37,38,39,70,71,72] [])) (br k 21 [] (br k 22 [] (br k 23 [] [7,11,12,18,21,37,38,39,70,71,72]))))) [])))) (br t 8 (br t 6 (br k 14 (br k 7 [] (br k 10 (br k 8 [] (br k 9 [3,4,5,6,22,23,24] [])) (br k 12 [] (br k 13 [] [3,4,5,6,7,8,22,23,24,41,42,43])))) []) (br t 7 (br k 21 (br k 10 (br k 5 [] (br k 7 (br k 6 [5,32,33,34] []) (br k 8 [] (br k 9 [5,9,32,33,34,38,39,40] [])))) (br k 15 [] (br k 18 (br k 16 [] (br k 17 [5,9,12,15,32,33,34,38,39,40,70,71,72] [])) (br k 19 [] (br k 20 [] [5,9,12,15,32,33,34,38,39,40,70,71,72,81,82,83]))))) []) [])) (br t 9 [] (br t 10 (br k 4 (br k 2 [] (br k 3 [] [0,3,4])) []) (br k 17 (br k 8 (br k 4 [] (br k 6 (br k 5 [] [3,4,5,6]) [])) (br k 12 (br k 10 [] (br k 11 [3,4,5,6,7,8] [])) (br k 14 [] (br k 15 [] (br k 16 [] [3,4,5,6,7,9]))))) []))))) (br t 16 (br t 13 (br t 12 (br k 34 (br k 17 (br k 8 (br k 4 (br k 2 [] (br k 3 [] [0,3,5,6])) []) []) (br k 25 [] (br k 29 [] (br k 31 [] (br k 32 [] (br k 33 [] [5,7])))))) []) (br k 24 (br k 12 (br k 6 (br k 3 [] (br k 4 [] (br k 5 [0,13,14,15] []))) []) (br k 18 [] (br k 21 (br k 19 [6,62] []) (br k 22 [] (br k 23 [] [6,71]))))) [])) (br t 14 (br k 27 (br k 13 (br k 6 (br k 3 [] (br k 4 [] (br k 5 [0,3] []))) []) (br k 20 (br k 16 [] (br k 18 (br k 17 [] [0,6]) [])) (br k 23 (br k 21 [0,6,7] []) (br k 25 [] (br k 26 [] [0,10]))))) []) (br t 15 [] (br k 3 (br k 1 [] (br k 2 [] [0,3])) [])))) (br t 19 (br t 17 (br k 5 (br k 2 [] (br k 3 [] (br k 4 [] [0,1,5]))) []) (br t 18 (br k 6 (br k 3 [] (br k 4 [] (br k 5 [] [3,4]))) []) (br k 7 (br k 3 [] (br k 5 (br k 4 [] [0,3]) (br k 6 [] [0,3,4]))) []))) (br t 20 [] (br t 21 [] (br k 3 (br k 1 [] (br k 2 [] [0,1,4,6])) [])))))) (br t 33 (br t 27 (br t 24 [] (br t 25 (br k 8 (br k 4 [] (br k 6 (br k 5 [0,5,8] []) (br k 7 [] [0,5,8,9,10]))) []) (br t 26 [] (br k 4 (br k 2 [] (br k 3 [] [2,7,8,9])) [])))) (br t 30 (br t 28 [] (br t 29 (br k 6 (br k 3 (br k 1 [] (br k 2 [] [2,3,5])) (br k 4 [] (br k 5 [] [2,3,5,6]))) []) (br k 3 (br k 1 [] (br k 2 [] [0,3])) []))) (br t 31 (br k 3 (br k 1 [] (br k 2 [] [0,1,5])) []) (br t 32 (br k 5 (br k 2 [] (br k 3 [] (br k 4 [] [0,1,5]))) []) (br k 4 (br k 2 [] (br k 3 [] [0,2,3,4])) []))))) (br t 39 (br t 36 (br t 34 [] (br t 35 (br k 4 (br k 2 [] (br k 3 [] [0,3,4])) []) [])) []) (br t 42 (br t 40 (br k 4 (br k 2 [] (br k 3 [] [3,9,10,11])) []) []) (br t 43 [] (br t 44 [] (br k 10 (br k 5 (br k 2 [] (br k 3 [] (br k 4 [] [1,3]))) (br k 7 [] (br k 8 [] (br k 9 [] [1,4])))) []))))))) (br t 67 (br t 56 (br t 50 (br t 47 [] (br t 48 [] (br t 49 (br k 3 (br k 1 [] (br k 2 [] [0,1,7,8])) []) []))) (br t 53 [] (br t 54 [] (br t 55 (br k 5 (br k 2 [] (br k 3 [] (br k 4 [] [0,1,5]))) []) [])))) (br t 61 (br t 58 [] (br t 59 [] (br k 3 (br k 1 [] (br k 2 [] [0,3])) []))) (br t 64 (br t 62 (br k 3 (br k 1 [] (br k 2 [] [0,1,7,8])) []) (br t 63 (br k 3 (br k 1 [] (br k 2 [] [0,1,7,8])) []) (br k 2 (br k 1 [] [2,3,9,10,11]) []))) (br t 65 [] (br t 66 [] (br k 3 (br k 1 [] (br k 2 [] [1,2,10])) [])))))) (br t 78 (br t 72 (br t 69 [] (br t 70 [] (br k 3 (br k 1 [] (br k 2 [] [0,1,7,8])) []))) (br t 75 (br t 73 [] (br t 74 [] (br k 2 (br k 1 [] [0,5]) []))) (br t 76 [] (br t 77 (br k 3 (br k 1 [] (br k 2 [] [0,1,2,3,8,9])) []) [])))) (br t 84 (br t 81 (br t 79 (br k 5 (br k 2 (br k 1 [] [0,1,2,6]) (br k 3 [] (br k 4 [] [0,1,2,6,7]))) []) (br t 80 (br k 9 (br k 4 [] (br k 6 (br k 5 [0,6,7,8,9] []) (br k 7 [] (br k 8 [] [0,6,7,10])))) []) (br k 6 (br k 3 [] (br k 4 [] (br k 5 [] [0,1,6,7,8,9]))) []))) (br t 82 [] (br t 83 (br k 3 (br k 1 [] (br k 2 [] [0,6,7])) []) (br k 21 (br k 10 (br k 5 (br k 2 [] (br k 3 [] (br k 4 [0,1,2,7,8] []))) (br k 7 (br k 6 [0,1,2,7,8] []) [])) (br k 15 (br k 12 [] (br k 13 [] (br k 14 [] [0,1,2,7,8,9]))) (br k 18 [] (br k 19 [] (br k 20 [] [0,1,2,7,8,10]))))) [])))) (br t 87 (br t 85 [] (br t 86 (br k 6 (br k 3 [] (br k 4 [0,1,9,10] (br k 5 [] [0,1,9,10]))) []) (br k 16 (br k 8 (br k 4 (br k 2 [] (br k 3 [] [0,1,10,11])) (br k 6 (br k 5 [] [0,1,10,11]) [])) (br k 12 [] (br k 14 (br k 13 [] [0,1,10,11]) (br k 15 [] [0,1,10,11])))) []))) (br t 88 [] (br t 89 [] (br k 2 (br k 1 [] [0,2,3,8]) [])))))))) else[]
def pkx (t:FuncId) (k:Nat):List Nat:=bif Nat.blt t 90 then(br t 45 (br t 22 (br t 11 (br t 5 (br t 2 [] (br t 3 [] (br t 4 (br k 12 (br k 6 [] (br k 9 (br k 7 [6,7,8] []) (br k 10 [] (br k 11 [] [6,7,8,34,35,36])))) []) (br k 24 (br k 12 (br k 6 (br k 3 [] (br k 4 [] (br k 5 [] [6,7]))) (br k 9 [] (br k 10 [] (br k 11 [] [7,11,12,37,38,39])))) (br k 18 (br k 15 [] (br k 16 [6,7,37,38,39] [])) (br k 21 [] (br k 22 [] (br k 23 [] [6,7,11,12,37,38,39,70,71,72]))))) [])))) (br t 8 (br t 6 (br k 14 (br k 7 [] (br k 10 (br k 8 [] (br k 9 [2,3] [])) (br k 12 [] (br k 13 [] [2,3,4,5,6,8,22,23,24])))) []) (br t 7 (br k 21 (br k 10 (br k 5 [] (br k 7 (br k 6 [4,5] []) (br k 8 [] (br k 9 [4,5,32,33,34] [])))) (br k 15 [] (br k 18 (br k 16 [] (br k 17 [5,9,12,15,32,33,34,38,39,40] [])) (br k 19 [] (br k 20 [] [5,9,12,15,32,33,34,38,39,40,70,71,72]))))) []) [])) (br t 9 [] (br t 10 (br k 4 (br k 2 [] (br k 3 [] [3])) []) (br k 17 (br k 8 (br k 4 [] (br k 6 (br k 5 [] [4]) [])) (br k 12 (br k 10 [] (br k 11 [3,4,5,6,7] [])) (br k 14 [] (br k 15 [] (br k 16 [] [3,4,5,6,7]))))) []))))) (br t 16 (br t 13 (br t 12 (br k 34 (br k 17 (br k 8 (br k 4 (br k 2 [] (br k 3 [] [3,5])) []) []) (br k 25 [] (br k 29 [] (br k 31 [] (br k 32 [] (br k 33 [] [5])))))) []) (br k 24 (br k 12 (br k 6 (br k 3 [] (br k 4 [] (br k 5 [0,2] []))) []) (br k 18 [] (br k 21 (br k 19 [2,6] []) (br k 22 [] (br k 23 [] [2]))))) [])) (br t 14 (br k 27 (br k 13 (br k 6 (br k 3 [] (br k 4 [] (br k 5 [0,2] []))) []) (br k 20 (br k 16 [] (br k 18 (br k 17 [] [0,2]) [])) (br k 23 (br k 21 [0,2,6] []) (br k 25 [] (br k 26 [] [2]))))) []) (br t 15 [] (br k 3 (br k 1 [] (br k 2 [] [0,2])) [])))) (br t 19 (br t 17 (br k 5 (br k 2 [] (br k 3 [] (br k 4 [] [4]))) []) (br t 18 (br k 6 (br k 3 [] (br k 4 [] (br k 5 [] [3]))) []) (br k 7 (br k 3 [] (br k 5 (br k 4 [] [3]) (br k 6 [] [0,3]))) []))) (br t 20 [] (br t 21 [] (br k 3 (br k 1 [] (br k 2 [] [4,5])) [])))))) (br t 33 (br t 27 (br t 24 [] (br t 25 (br k 8 (br k 4 [] (br k 6 (br k 5 [5] []) (br k 7 [] [0,5,9]))) []) (br t 26 [] (br k 4 (br k 2 [] (br k 3 [] [8])) [])))) (br t 30 (br t 28 [] (br t 29 (br k 6 (br k 3 (br k 1 [] (br k 2 [] [4])) (br k 4 [] (br k 5 [] [2,3,4,5]))) []) (br k 3 (br k 1 [] (br k 2 [] [2])) []))) (br t 31 (br k 3 (br k 1 [] (br k 2 [] [4])) []) (br t 32 (br k 5 (br k 2 [] (br k 3 [] (br k 4 [] [0,1,5]))) []) (br k 4 (br k 2 [] (br k 3 [] [2,3])) []))))) (br t 39 (br t 36 (br t 34 [] (br t 35 (br k 4 (br k 2 [] (br k 3 [] [3])) []) [])) []) (br t 42 (br t 40 (br k 4 (br k 2 [] (br k 3 [] [3])) []) []) (br t 43 [] (br t 44 [] (br k 10 (br k 5 (br k 2 [] (br k 3 [] (br k 4 [] [1,2]))) (br k 7 [] (br k 8 [] (br k 9 [] [1,2])))) []))))))) (br t 67 (br t 56 (br t 50 (br t 47 [] (br t 48 [] (br t 49 (br k 3 (br k 1 [] (br k 2 [] [4])) []) []))) (br t 53 [] (br t 54 [] (br t 55 (br k 5 (br k 2 [] (br k 3 [] (br k 4 [] [4]))) []) [])))) (br t 61 (br t 58 [] (br t 59 [] (br k 3 (br k 1 [] (br k 2 [] [2])) []))) (br t 64 (br t 62 (br k 3 (br k 1 [] (br k 2 [] [4])) []) (br t 63 (br k 3 (br k 1 [] (br k 2 [] [4])) []) (br k 2 [] []))) (br t 65 [] (br t 66 [] (br k 3 (br k 1 [] (br k 2 [] [6])) [])))))) (br t 78 (br t 72 (br t 69 [] (br t 70 [] (br k 3 (br k 1 [] (br k 2 [] [4])) []))) (br t 75 (br t 73 [] (br t 74 [] (br k 2 [] []))) (br t 76 [] (br t 77 (br k 3 [] []) [])))) (br t 84 (br t 81 (br t 79 (br k 5 (br k 2 [] (br k 3 [] (br k 4 [] [0,1,2,6]))) []) (br t 80 (br k 9 (br k 4 [] (br k 6 (br k 5 [0,6,7,8] []) [])) []) (br k 6 [] []))) (br t 82 [] (br t 83 (br k 3 [] []) (br k 21 (br k 10 (br k 5 (br k 2 [] (br k 3 [] (br k 4 [6] []))) (br k 7 (br k 6 [0,1,2,7,8] []) [])) (br k 15 (br k 12 [] (br k 13 [] (br k 14 [] [0,1,2,7,8]))) (br k 18 [] (br k 19 [] (br k 20 [] [0,1,2,7,8]))))) [])))) (br t 87 (br t 85 [] (br t 86 (br k 6 (br k 3 [] (br k 4 [9] (br k 5 [] [0,1,9,10]))) []) (br k 16 (br k 8 (br k 4 (br k 2 [] (br k 3 [] [0,1,10,11])) (br k 6 (br k 5 [] [0,1,10,11]) [])) (br k 12 [] (br k 14 (br k 13 [] [0,1,11]) (br k 15 [] [0,1,10,11])))) []))) (br t 88 [] (br t 89 [] (br k 2 [] [])))))))) else[]
def prw (t:FuncId) (k:Nat):List Rw:=bif Nat.blt t 35 then(br t 17 (br t 8 (br t 4 [] (br t 6 (br t 5 (br k 16 (br k 8 [] (br k 12 (br k 10 [] (br k 11 [] [.slot 12 9 1])) (br k 14 [] (br k 15 [] [.fslot 12])))) []) []) [])) (br t 12 (br t 10 (br t 9 [] (br k 4 (br k 2 [] (br k 3 [] [.slot 3 35 5])) [])) (br t 11 (br k 17 (br k 8 (br k 4 [] (br k 6 (br k 5 [] [.slot 4 35 5]) [])) (br k 12 (br k 10 [] (br k 11 [.cell 7 3 3 1] [])) (br k 14 [] (br k 15 [] (br k 16 [] [.cell 7 4 9 1]))))) []) (br k 34 (br k 17 (br k 8 (br k 4 (br k 2 [] (br k 3 [] [.slot 5 35 5])) []) []) (br k 25 [] (br k 29 [] (br k 31 [] (br k 32 [] (br k 33 [] [.slot 5 35 5])))))) []))) [])) (br t 26 (br t 21 (br t 19 (br t 18 (br k 6 (br k 3 [] (br k 4 [] (br k 5 [] [.cell 3 0 9 1]))) []) (br k 7 (br k 3 [] (br k 5 (br k 4 [] [.slot 3 9 1]) (br k 6 [] [.slot 3 9 1]))) [])) []) (br t 23 [] (br t 24 [] (br t 25 (br k 8 (br k 4 [] (br k 6 (br k 5 [.dslot 5 1] []) (br k 7 [] [.slot 9 9 1]))) []) [])))) (br t 30 [] (br t 32 [] (br t 33 (br k 4 (br k 2 [] (br k 3 [] [.cell 3 3 3 1])) []) (br t 34 [] (br k 4 (br k 2 [] (br k 3 [] [.slot 3 9 1])) []))))))) else[]
def pdm (t:FuncId) (k:Nat):Nat:=bif Nat.blt t 96 then(br t 48 (br t 24 (br t 12 (br t 6 (br t 3 0 (br t 4 (br k 14 (br k 7 0 (br k 10 0 (br k 12 0 (br k 13 0 5)))) 0) (br t 5 (br k 26 (br k 13 0 (br k 19 0 (br k 22 0 (br k 24 0 (br k 25 0 11))))) 0) (br k 16 (br k 8 0 (br k 12 0 (br k 14 0 (br k 15 0 18)))) 0)))) (br t 9 (br t 7 0 (br t 8 (br k 7 (br k 3 0 (br k 5 0 (br k 6 0 41))) 0) (br k 9 (br k 4 0 (br k 6 0 (br k 7 0 (br k 8 0 30)))) 0))) (br t 10 0 (br t 11 (br k 20 (br k 10 (br k 5 0 (br k 7 0 (br k 8 0 (br k 9 16 0)))) (br k 15 0 (br k 17 0 (br k 18 0 (br k 19 0 8))))) 0) (br k 32 (br k 16 0 (br k 24 (br k 20 0 (br k 22 0 (br k 23 12 0))) (br k 28 0 (br k 30 0 (br k 31 0 12))))) 0))))) (br t 18 (br t 15 (br t 13 (br k 11 (br k 5 0 (br k 8 0 (br k 9 11 (br k 10 0 11)))) 0) (br t 14 (br k 29 (br k 14 (br k 7 0 (br k 10 (br k 8 0 (br k 9 0 14)) (br k 12 (br k 11 0 14) 0))) (br k 21 0 (br k 25 0 (br k 27 0 (br k 28 0 12))))) 0) 0)) (br t 16 0 (br t 17 (br k 7 (br k 3 0 (br k 5 0 (br k 6 0 8))) 0) (br k 8 (br k 4 0 (br k 6 0 (br k 7 0 7))) 0)))) 0)) (br t 36 (br t 30 (br t 27 0 (br t 28 0 (br t 29 (br k 8 (br k 4 0 (br k 6 0 (br k 7 0 10))) 0) (br k 5 (br k 2 0 (br k 3 0 (br k 4 0 9))) 0)))) (br t 33 (br t 31 0 (br t 32 (br k 8 (br k 4 0 (br k 6 0 (br k 7 0 7))) 0) (br k 6 (br k 3 0 (br k 4 0 (br k 5 0 10))) 0))) (br t 34 0 (br t 35 (br k 6 (br k 3 0 (br k 4 0 (br k 5 0 13))) 0) (br k 5 (br k 2 (br k 1 0 9) (br k 3 0 (br k 4 0 12))) 0))))) (br t 42 0 (br t 45 (br t 43 0 (br t 44 0 (br k 12 (br k 6 0 (br k 9 0 (br k 10 0 (br k 11 0 11)))) 0))) 0)))) (br t 72 (br t 60 (br t 54 (br t 51 0 (br t 52 (br k 6 (br k 3 0 (br k 4 0 (br k 5 0 6))) 0) (br t 53 0 (br k 2 (br k 1 0 7) 0)))) (br t 57 (br t 55 (br k 7 (br k 3 0 (br k 5 0 (br k 6 0 8))) 0) 0) (br t 58 0 (br t 59 0 (br k 5 (br k 2 0 (br k 3 0 (br k 4 0 9))) 0))))) (br t 66 (br t 63 (br t 61 (br k 5 (br k 2 0 (br k 3 0 (br k 4 0 9))) 0) 0) 0) 0)) (br t 84 (br t 78 (br t 75 0 (br t 76 0 (br t 77 (br k 18 (br k 9 0 (br k 13 0 (br k 15 0 (br k 16 0 (br k 17 0 12))))) 0) 0))) (br t 81 (br t 79 (br k 7 (br k 3 0 (br k 5 (br k 4 0 13) (br k 6 0 16))) 0) (br k 11 (br k 5 0 (br k 8 0 (br k 9 0 (br k 10 0 18)))) 0)) (br t 82 0 (br t 83 (br k 4 (br k 2 0 (br k 3 0 14)) 0) (br k 24 (br k 12 (br k 6 (br k 3 0 (br k 4 0 (br k 5 0 13))) (br k 9 0 (br k 10 0 (br k 11 0 16)))) (br k 18 (br k 15 0 (br k 16 0 (br k 17 9 16))) (br k 21 0 (br k 22 0 (br k 23 9 16))))) 0))))) (br t 90 (br t 87 (br t 85 0 (br t 86 (br k 9 (br k 4 (br k 2 (br k 1 0 14) (br k 3 0 12)) (br k 6 (br k 5 0 12) (br k 7 0 (br k 8 0 14)))) 0) (br k 22 (br k 11 (br k 5 (br k 2 (br k 1 0 14) (br k 3 0 (br k 4 12 0))) (br k 8 (br k 6 12 0) (br k 9 14 (br k 10 0 14)))) (br k 16 (br k 13 0 (br k 14 12 (br k 15 0 12))) (br k 19 (br k 17 0 (br k 18 0 14)) (br k 20 0 (br k 21 0 14))))) 0))) (br t 88 0 (br t 89 0 (br k 7 (br k 3 0 (br k 5 (br k 4 18 0) (br k 6 12 22))) 0)))) (br t 93 (br t 91 0 (br t 92 (br k 4 (br k 2 (br k 1 0 7) 7) 0) 0)) (br t 94 0 (br t 95 0 (br k 2 (br k 1 0 8) 0)))))))) else 0
def pan (t:FuncId) (k:Nat):List (List Nat):=bif Nat.blt t 96 then(br t 48 (br t 24 (br t 12 (br t 6 (br t 3 [] (br t 4 (br k 14 (br k 7 [] (br k 10 [] (br k 12 [] (br k 13 [] [[],[],[1],[],[]])))) []) (br t 5 (br k 26 (br k 13 [] (br k 19 [] (br k 22 [] (br k 24 [] (br k 25 [] [[],[],[],[],[],[0,4],[],[],[],[],[]]))))) []) (br k 16 (br k 8 [] (br k 12 [] (br k 14 [] (br k 15 [] [[],[],[],[],[],[],[],[2],[],[],[],[],[],[],[2,7],[],[],[]])))) [])))) (br t 9 (br t 7 [] (br t 8 (br k 7 (br k 3 [] (br k 5 [] (br k 6 [] [[],[],[],[],[],[3,4],[],[],[],[3,4,5],[3,4,5],[3,4,5,9,10],[],[3,4,5],[],[],[],[],[],[3,4,5,9,10,11,13],[],[3,4,5,9,10,11,13,19],[],[],[],[],[],[],[3,4,5,9,10,11,13,19,21],[3,4,5,9,10,11,13,19,21],[3,4,5,9,10,11,13,19,21,28,29],[],[],[],[3,4,5,9,10,11,13,19,21,28,29,30],[],[],[3,4,5,9,10,11,13,19,21,28,29,30],[],[3,4,5,9,10,11,13,19,21,28,29,30,37],[]]))) []) (br k 9 (br k 4 [] (br k 6 [] (br k 7 [] (br k 8 [] [[],[],[1],[],[],[1,2],[1,2,5],[],[],[],[],[1,2,5,6],[],[],[],[],[],[1,2,5,6,11],[],[],[1,2,5,6,11],[1,2,5,6,11,17,20],[],[],[],[],[1,2,5,6,11,17,20,21],[],[],[1,2,5,6,11,17,20,21]])))) []))) (br t 10 [] (br t 11 (br k 20 (br k 10 (br k 5 [] (br k 7 [] (br k 8 [] (br k 9 [[],[],[],[],[],[],[],[],[4,6],[],[],[6],[],[6,9,11],[],[]] [])))) (br k 15 [] (br k 17 [] (br k 18 [] (br k 19 [] [[],[],[],[],[],[],[],[6]]))))) []) (br k 32 (br k 16 [] (br k 24 (br k 20 [] (br k 22 [] (br k 23 [[],[],[],[],[],[],[],[],[],[5],[5,9],[1,2,3,4,5,6,7,8,9,10]] []))) (br k 28 [] (br k 30 [] (br k 31 [] [[],[],[],[],[],[],[],[],[],[],[],[6,9]]))))) []))))) (br t 18 (br t 15 (br t 13 (br k 11 (br k 5 [] (br k 8 [] (br k 9 [[],[],[],[],[],[],[],[],[],[],[]] (br k 10 [] [[],[],[],[],[],[],[],[],[],[],[]])))) []) (br t 14 (br k 29 (br k 14 (br k 7 [] (br k 10 (br k 8 [] (br k 9 [] [[],[],[],[],[],[],[],[],[],[],[],[],[],[]])) (br k 12 (br k 11 [] [[],[],[],[],[],[],[],[],[],[],[],[],[],[]]) []))) (br k 21 [] (br k 25 [] (br k 27 [] (br k 28 [] [[],[],[],[],[],[],[5],[],[],[],[],[]]))))) []) [])) (br t 16 [] (br t 17 (br k 7 (br k 3 [] (br k 5 [] (br k 6 [] [[],[],[],[],[],[],[],[]]))) []) (br k 8 (br k 4 [] (br k 6 [] (br k 7 [] [[],[],[],[],[],[],[5]]))) [])))) [])) (br t 36 (br t 30 (br t 27 [] (br t 28 [] (br t 29 (br k 8 (br k 4 [] (br k 6 [] (br k 7 [] [[],[],[],[],[1],[],[],[],[],[6]]))) []) (br k 5 (br k 2 [] (br k 3 [] (br k 4 [] [[],[],[],[],[],[],[],[],[]]))) [])))) (br t 33 (br t 31 [] (br t 32 (br k 8 (br k 4 [] (br k 6 [] (br k 7 [] [[],[],[],[0,1,2],[],[],[]]))) []) (br k 6 (br k 3 [] (br k 4 [] (br k 5 [] [[],[],[],[],[],[],[],[5],[],[5,7]]))) []))) (br t 34 [] (br t 35 (br k 6 (br k 3 [] (br k 4 [] (br k 5 [] [[],[],[],[],[],[],[],[],[],[],[],[],[4,8]]))) []) (br k 5 (br k 2 (br k 1 [] [[],[],[],[],[],[],[],[],[]]) (br k 3 [] (br k 4 [] [[],[],[],[],[],[],[],[],[],[],[3,7],[]]))) []))))) (br t 42 [] (br t 45 (br t 43 [] (br t 44 [] (br k 12 (br k 6 [] (br k 9 [] (br k 10 [] (br k 11 [] [[],[],[],[],[],[1],[],[],[],[],[7]])))) []))) [])))) (br t 72 (br t 60 (br t 54 (br t 51 [] (br t 52 (br k 6 (br k 3 [] (br k 4 [] (br k 5 [] [[],[],[],[],[],[]]))) []) (br t 53 [] (br k 2 (br k 1 [] [[],[],[1],[],[],[1,2,4],[]]) [])))) (br t 57 (br t 55 (br k 7 (br k 3 [] (br k 5 [] (br k 6 [] [[],[],[],[],[],[],[],[]]))) []) []) (br t 58 [] (br t 59 [] (br k 5 (br k 2 [] (br k 3 [] (br k 4 [] [[],[],[],[],[],[],[],[],[]]))) []))))) (br t 66 (br t 63 (br t 61 (br k 5 (br k 2 [] (br k 3 [] (br k 4 [] [[],[],[],[],[],[],[],[],[]]))) []) []) []) [])) (br t 84 (br t 78 (br t 75 [] (br t 76 [] (br t 77 (br k 18 (br k 9 [] (br k 13 [] (br k 15 [] (br k 16 [] (br k 17 [] [[],[],[],[],[],[],[],[],[],[],[],[]]))))) []) []))) (br t 81 (br t 79 (br k 7 (br k 3 [] (br k 5 (br k 4 [] [[],[],[],[],[],[],[],[],[],[],[],[],[]]) (br k 6 [] [[],[],[],[],[],[],[],[],[],[],[],[],[],[],[],[9,13]]))) []) (br k 11 (br k 5 [] (br k 8 [] (br k 9 [] (br k 10 [] [[],[],[],[],[],[],[],[],[],[],[],[],[],[],[],[],[],[11,15]])))) [])) (br t 82 [] (br t 83 (br k 4 (br k 2 [] (br k 3 [] [[],[],[],[],[],[],[],[],[],[],[],[],[],[7,11]])) []) (br k 24 (br k 12 (br k 6 (br k 3 [] (br k 4 [] (br k 5 [] [[],[],[],[],[],[],[],[],[],[],[],[],[]]))) (br k 9 [] (br k 10 [] (br k 11 [] [[],[],[],[],[],[],[],[],[],[],[],[],[],[],[],[9,13]])))) (br k 18 (br k 15 [] (br k 16 [] (br k 17 [[],[],[],[],[],[],[],[],[]] [[],[],[],[],[],[],[],[],[],[],[],[],[],[],[],[9,13]]))) (br k 21 [] (br k 22 [] (br k 23 [[],[],[],[],[],[],[],[],[]] [[],[],[],[],[],[],[],[],[],[],[],[],[],[],[],[9,13]]))))) []))))) (br t 90 (br t 87 (br t 85 [] (br t 86 (br k 9 (br k 4 (br k 2 (br k 1 [] [[],[],[],[],[],[],[],[],[],[],[],[],[],[7,11]]) (br k 3 [] [[],[],[],[],[],[],[],[],[],[],[],[]])) (br k 6 (br k 5 [] [[],[],[],[],[],[],[],[],[],[],[],[]]) (br k 7 [] (br k 8 [] [[],[],[],[],[],[],[],[],[],[],[],[],[],[7,11]])))) []) (br k 22 (br k 11 (br k 5 (br k 2 (br k 1 [] [[],[],[],[],[],[],[],[],[],[],[],[],[],[7,11]]) (br k 3 [] (br k 4 [[],[],[],[],[],[],[],[],[],[],[],[]] []))) (br k 8 (br k 6 [[],[],[],[],[],[],[],[],[],[],[],[]] []) (br k 9 [[],[],[],[],[],[],[],[],[],[],[],[],[],[7,11]] (br k 10 [] [[],[],[],[],[],[],[],[],[],[],[],[],[],[7,11]])))) (br k 16 (br k 13 [] (br k 14 [[],[],[],[],[],[],[],[],[],[],[],[]] (br k 15 [] [[],[],[],[],[],[],[],[],[],[],[],[]]))) (br k 19 (br k 17 [] (br k 18 [] [[],[],[],[],[],[],[],[],[],[],[],[],[],[7,11]])) (br k 20 [] (br k 21 [] [[],[],[],[],[],[],[],[],[],[],[],[],[],[7,11]]))))) []))) (br t 88 [] (br t 89 [] (br k 7 (br k 3 [] (br k 5 (br k 4 [[],[],[],[],[],[],[],[],[],[],[],[],[],[],[],[],[],[]] []) (br k 6 [[],[],[],[],[],[],[],[],[],[],[],[]] [[],[],[],[],[],[],[],[],[],[],[],[],[],[],[],[],[],[],[],[],[],[13,19]]))) [])))) (br t 93 (br t 91 [] (br t 92 (br k 4 (br k 2 (br k 1 [] [[],[],[],[],[],[],[]]) [[],[],[],[],[],[],[]]) []) [])) (br t 94 [] (br t 95 [] (br k 2 (br k 1 [] [[],[],[],[],[],[],[],[]]) [])))))))) else[]
def prk (t:FuncId) (k:Nat):List Nat:=bif Nat.blt t 76 then(br t 38 [] (br t 57 [] (br t 66 [] (br t 71 [] (br t 73 [] (br t 74 [] (br t 75 [] (br k 4 (br k 2 [] (br k 3 [] [2])) [])))))))) else[]
def ppr:FuncId→Option APr
 | 47=>some (.of (pr0 (q0X T 35 true)))
 | 68=>some (.of (pr0 (q0X T 3 false)))
 | 69=>some (.of (pr0 (q0X T 9 false)))
 | 64=>some (.of (qmk 74))
 | 51=>some (.of (qb9 35 5))
 | _=>none
def pab (f:FuncId):Bool:=([11]:List Nat).contains f
def pqo (t:TypeId):List (Option (Nat×Nat)):=bif Nat.blt t 36 then(br t 18 [] (br t 27 [] (br t 31 [] (br t 33 [] (br t 34 [] (br t 35 [] [none,none,none,some (3,1),some (9,1)])))))) else[]
def ptk (t:TypeId):Option Bool:=bif Nat.blt t 36 then(br t 18 none (br t 27 (br t 22 none (br t 24 (br t 23 (some true) none) (br t 25 none (br t 26 (some false) none)))) (br t 31 none (br t 33 none (br t 34 (some true) (br t 35 none (some false))))))) else none
def pol:Pol:=⟨pq,pow,pfz,pkp,pkx,prw,pro,pdm,pan,prk,ppr,pab,pqo,ptk⟩
abbrev Pw (f:Nat) (a:List Nat) (b c:Bool) (d:Option APr):Prop:=pol.ow f=a∧pol.fz f=b∧pol.ro f=c∧pol.pr f=d
abbrev Dr (f k a:Nat) (b:List (List Nat)):Prop:=pol.dm f k=a∧pol.an f k=b
abbrev Kp (f k:Nat) (a:List Nat) (b:List Rw) (c:List Nat):Prop:=pol.kp f k=a∧pol.rw f k=b∧pol.kx f k=c
theorem qod (f:FuncId):pol.ab f=([11]:List Nat).contains f:=rfl
theorem qvt:pol.tk 3=none:=rfl
theorem qww:pol.tk 4=none:=rfl
theorem qwf:pol.tk 9=none:=rfl
theorem qrv:pol.tk 21=none:=rfl
theorem qqL:pol.tk 22=some true:=rfl
theorem qrb:pol.tk 23=none:=rfl
theorem qtm:pol.tk 25=some false:=rfl
theorem qt9:pol.tk 30=none:=rfl
theorem qsM:pol.tk 33=some true:=rfl
theorem qtv:pol.tk 35=some false:=rfl
theorem qtf:pol.qo 35=[none,none,none,some (3,1),some (9,1)]:=rfl
theorem qsD:pol.tk 36=none:=rfl
theorem qqO:pol.tk 46=none:=rfl
theorem qs7:pol.tk 52=none:=rfl
theorem qse:pol.tk 57=none:=rfl
theorem qrI:pol.tk 65=none:=rfl
theorem qrp:pol.tk 70=none:=rfl
theorem qsB:pol.tk 73=none:=rfl
theorem qqS:pol.tk 78=none:=rfl
theorem qsp:pol.tk 81=none:=rfl
theorem qrd:pol.tk 84=none:=rfl
theorem qwK:T.ip 9=none:=rfl
theorem qrV:T.ip 10=none:=rfl
theorem qs6:T.sf 11=none:=rfl
theorem qra:T.ip 12=none:=rfl
theorem qtj:T.ip 13=none:=rfl
theorem qrG:T.ip 14=none:=rfl
theorem qsj:T.ip 15=none:=rfl
theorem qsJ:T.sf 16=none:=rfl
theorem qsL:T.ip 17=none:=rfl
theorem qrY:T.ip 18=none:=rfl
theorem qrQ:T.sf 20=none:=rfl
theorem qqZ:T.sf 21=none:=rfl
theorem qsd:T.sf 23=none:=rfl
theorem qqW:T.sf 28=none:=rfl
theorem qsR:T.ip 29=none:=rfl
theorem qs3:T.sf 30=none:=rfl
theorem qsy:T.sf 31=none:=rfl
theorem qt5:T.ip 34=none:=rfl
theorem qtr:T.sf 35=none:=rfl
theorem qrK:T.ip 36=none:=rfl
theorem qsu:T.sf 37=none:=rfl
theorem qrE:T.ip 38=none:=rfl
theorem qsG:T.ip 39=none:=rfl
theorem qsQ:T.sf 40=none:=rfl
theorem qtp:T.sf 42=none:=rfl
theorem qrC:T.sf 43=none:=rfl
theorem qta:T.ip 44=none:=rfl
theorem qrU:T.ip 45=none:=rfl
theorem qtx:T.ip 47=none:=rfl
theorem qrB:T.sf 48=none:=rfl
theorem qsb:T.sf 50=none:=rfl
theorem qt4:T.ip 53=none:=rfl
theorem qtg:T.sf 54=none:=rfl
theorem qs5:T.sf 55=none:=rfl
theorem qtk:T.sf 57=none:=rfl
theorem qsw:T.ip 58=none:=rfl
theorem qrZ:T.ip 59=none:=rfl
theorem qr6:T.ip 60=none:=rfl
theorem qry:T.sf 61=none:=rfl
theorem qrF:T.sf 62=none:=rfl
theorem qt8:T.ip 64=none:=rfl
theorem qst:T.ip 65=none:=rfl
theorem qs1:T.sf 70=none:=rfl
theorem qrA:T.sf 71=none:=rfl
theorem qoK:pol.rk 4 25=[]:=rfl
theorem qro:pol.rk 8 8=[]:=rfl
theorem qmr:pol.rk 10 8=[]:=rfl
theorem qjc:pol.rk 10 19=[]:=rfl
theorem qkA:pol.rk 11 22=[]:=rfl
theorem qiT:pol.rk 11 31=[]:=rfl
theorem qpA:pol.rk 12 8=[]:=rfl
theorem qji:pol.rk 12 10=[]:=rfl
theorem qlw:pol.rk 13 9=[]:=rfl
theorem qin:pol.rk 13 11=[]:=rfl
theorem qkS:pol.rk 13 28=[]:=rfl
theorem qnk:pol.rk 16 6=[]:=rfl
theorem qnQ:pol.rk 17 7=[]:=rfl
theorem qnp:pol.rk 28 7=[]:=rfl
theorem qlQ:pol.rk 29 4=[]:=rfl
theorem qov:pol.rk 31 7=[]:=rfl
theorem qn3:pol.rk 34 5=[]:=rfl
theorem qpk:pol.rk 35 1=[]:=rfl
theorem qoH:pol.rk 35 4=[]:=rfl
theorem qkw:pol.rk 44 11=[]:=rfl
theorem qnC:pol.rk 53 1=[]:=rfl
theorem qnO:pol.rk 54 6=[]:=rfl
theorem qnm:pol.rk 59 4=[]:=rfl
theorem qo9:pol.rk 60 4=[]:=rfl
theorem qlC:Dr 4 25 11 [[],[],[],[],[],[0,4],[],[],[],[],[]]:=⟨rfl,rfl⟩
theorem qsY:Dr 8 8 30 [[],[],[1],[],[],[1,2],[1,2,5],[],[],[],[],[1,2,5,6],[],[],[],[],[],[1,2,5,6,11],[],[],[1,2,5,6,11],[1,2,5,6,11,17,20],[],[],[],[],[1,2,5,6,11,17,20,21],[],[],[1,2,5,6,11,17,20,21]]:=⟨rfl,rfl⟩
theorem qpl:Dr 10 8 16 [[],[],[],[],[],[],[],[],[4,6],[],[],[6],[],[6,9,11],[],[]]:=⟨rfl,rfl⟩
theorem qkD:Dr 10 19 8 [[],[],[],[],[],[],[],[6]]:=⟨rfl,rfl⟩
theorem qiI:Dr 11 22 12 [[],[],[],[],[],[],[],[],[],[5],[5,9],[1,2,3,4,5,6,7,8,9,10]]:=⟨rfl,rfl⟩
theorem qkP:Dr 11 31 12 [[],[],[],[],[],[],[],[],[],[],[],[6,9]]:=⟨rfl,rfl⟩
theorem qlu:Dr 12 8 11 [[],[],[],[],[],[],[],[],[],[],[]]:=⟨rfl,rfl⟩
theorem qjP:Dr 12 10 11 [[],[],[],[],[],[],[],[],[],[],[]]:=⟨rfl,rfl⟩
theorem qmu:Dr 13 9 14 [[],[],[],[],[],[],[],[],[],[],[],[],[],[]]:=⟨rfl,rfl⟩
theorem qiz:Dr 13 11 14 [[],[],[],[],[],[],[],[],[],[],[],[],[],[]]:=⟨rfl,rfl⟩
theorem ql5:Dr 13 28 12 [[],[],[],[],[],[],[5],[],[],[],[],[]]:=⟨rfl,rfl⟩
theorem qlJ:Dr 16 6 8 [[],[],[],[],[],[],[],[]]:=⟨rfl,rfl⟩
theorem qnX:Dr 17 7 7 [[],[],[],[],[],[],[5]]:=⟨rfl,rfl⟩
theorem qo6:Dr 28 7 10 [[],[],[],[],[1],[],[],[],[],[6]]:=⟨rfl,rfl⟩
theorem qol:Dr 29 4 9 [[],[],[],[],[],[],[],[],[]]:=⟨rfl,rfl⟩
theorem qne:Dr 31 7 7 [[],[],[],[0,1,2],[],[],[]]:=⟨rfl,rfl⟩
theorem qlR:Dr 34 5 13 [[],[],[],[],[],[],[],[],[],[],[],[],[4,8]]:=⟨rfl,rfl⟩
theorem qnF:Dr 35 1 9 [[],[],[],[],[],[],[],[],[]]:=⟨rfl,rfl⟩
theorem qpo:Dr 35 4 12 [[],[],[],[],[],[],[],[],[],[],[3,7],[]]:=⟨rfl,rfl⟩
theorem qjQ:Dr 44 11 11 [[],[],[],[],[],[1],[],[],[],[],[7]]:=⟨rfl,rfl⟩
theorem qos:Dr 53 1 7 [[],[],[1],[],[],[1,2,4],[]]:=⟨rfl,rfl⟩
theorem qnf:Dr 54 6 8 [[],[],[],[],[],[],[],[]]:=⟨rfl,rfl⟩
theorem qnH:Dr 59 4 9 [[],[],[],[],[],[],[],[],[]]:=⟨rfl,rfl⟩
theorem qnd:Dr 60 4 9 [[],[],[],[],[],[],[],[],[]]:=⟨rfl,rfl⟩
theorem q22:pol.q 22=[1]:=rfl
theorem q25:pol.q 25=[5]:=rfl
theorem q33:pol.q 33=[1]:=rfl
theorem q35:pol.q 35=[0,0,0,1,1]:=rfl
theorem q3:pol.q 3=[]:=rfl
theorem q4:pol.q 4=[]:=rfl
theorem q9:pol.q 9=[]:=rfl
theorem q10:pol.q 10=[]:=rfl
theorem q11:pol.q 11=[]:=rfl
theorem q21:pol.q 21=[]:=rfl
theorem q23:pol.q 23=[]:=rfl
theorem q31:pol.q 31=[]:=rfl
theorem q36:pol.q 36=[]:=rfl
theorem q46:pol.q 46=[]:=rfl
theorem q57:pol.q 57=[]:=rfl
theorem q65:pol.q 65=[]:=rfl
theorem q70:pol.q 70=[]:=rfl
theorem q73:pol.q 73=[]:=rfl
theorem q78:pol.q 78=[]:=rfl
theorem q84:pol.q 84=[]:=rfl
def q8D:Code:=(Try.f4.body).getD .skip
theorem bd4:qE Try.prog pol 4=some ⟨q8D,154,[.tmp 6],[4]⟩:=by kernel_rfl
theorem pw4:Pw 4 [] false false none:=⟨rfl,rfl,rfl,rfl⟩
def qkn:Code:=(Try.f8.body).getD .skip
theorem bd8:qE Try.prog pol 8=some ⟨qkn,122,[.tmp 0],[4]⟩:=by kernel_rfl
theorem pw8:Pw 8 [] false false none:=⟨rfl,rfl,rfl,rfl⟩
def qgT:Code:=(Try.f9.body).getD .skip
theorem bd9:qE Try.prog pol 9=some ⟨qgT,45,[.tmp 2],[25]⟩:=by kernel_rfl
theorem pw9:Pw 9 [] true false none:=⟨rfl,rfl,rfl,rfl⟩
def q5V:Code:=(Try.f10.body).getD .skip
theorem qln:qE Try.prog pol 10=some ⟨q5V,101,[.tmp 2],[25]⟩:=by kernel_rfl
theorem qtC:Pw 10 [] true false none:=⟨rfl,rfl,rfl,rfl⟩
def q7x:Code:=(Try.f11.body).getD .skip
theorem qo0:qE Try.prog pol 11=some ⟨q7x,186,[.tmp 4],[25]⟩:=by kernel_rfl
theorem qur:Pw 11 [] true false none:=⟨rfl,rfl,rfl,rfl⟩
def q6f:Code:=(Try.f12.body).getD .skip
theorem qls:qE Try.prog pol 12=some ⟨q6f,81,[.tmp 2],[31]⟩:=by kernel_rfl
theorem qtS:Pw 12 [] true false none:=⟨rfl,rfl,rfl,rfl⟩
def q5u:Code:=(Try.f13.body).getD .skip
theorem qiC:qE Try.prog pol 13=some ⟨q5u,121,[.tmp 2],[31]⟩:=by kernel_rfl
theorem quR:Pw 13 [] false false none:=⟨rfl,rfl,rfl,rfl⟩
def qbX:Code:=(Try.f14.body).getD .skip
theorem qrM:qE Try.prog pol 14=some ⟨qbX,17,[.tmp 2],[4]⟩:=by kernel_rfl
theorem qtI:Pw 14 [] false false none:=⟨rfl,rfl,rfl,rfl⟩
def qas:Code:=(Try.f15.body).getD .skip
theorem qqB:qE Try.prog pol 15=some ⟨qas,46,[.tmp 2],[4]⟩:=by kernel_rfl
theorem qv4:Pw 15 [] false false none:=⟨rfl,rfl,rfl,rfl⟩
def qam:Code:=(Try.f16.body).getD .skip
theorem qqb:qE Try.prog pol 16=some ⟨qam,26,[.tmp 4],[4]⟩:=by kernel_rfl
theorem qtQ:Pw 16 [] false false none:=⟨rfl,rfl,rfl,rfl⟩
def q9d:Code:=(Try.f17.body).getD .skip
theorem qqc:qE Try.prog pol 17=some ⟨q9d,31,[.tmp 2],[33]⟩:=by kernel_rfl
theorem qtL:Pw 17 [] true false none:=⟨rfl,rfl,rfl,rfl⟩
def q85:Code:=(Try.f18.body).getD .skip
theorem qlP:qE Try.prog pol 18=some ⟨q85,46,[.tmp 2],[33]⟩:=by kernel_rfl
theorem quj:Pw 18 [] true false none:=⟨rfl,rfl,rfl,rfl⟩
def qdd:Code:=(Try.f19.body).getD .skip
theorem qrT:qE Try.prog pol 19=some ⟨qdd,2,[.tmp 0],[33]⟩:=by kernel_rfl
theorem qul:Pw 19 [] true false none:=⟨rfl,rfl,rfl,rfl⟩
def qcK:Code:=(Try.f20.body).getD .skip
theorem qqH:qE Try.prog pol 20=some ⟨qcK,18,[.cell 4 35,.tmp 5],[35,4]⟩:=by kernel_rfl
theorem qtN:Pw 20 [] true false none:=⟨rfl,rfl,rfl,rfl⟩
def qar:Code:=(Try.f21.body).getD .skip
theorem qqD:qE Try.prog pol 21=some ⟨qar,26,[.cell 4 35,.tmp 5],[35,4]⟩:=by kernel_rfl
theorem quN:Pw 21 [] true false none:=⟨rfl,rfl,rfl,rfl⟩
def qdf:Code:=(Try.f22.body).getD .skip
theorem qsz:qE Try.prog pol 22=some ⟨qdf,42,[.tmp 4],[4]⟩:=by kernel_rfl
theorem qtD:Pw 22 [] false false none:=⟨rfl,rfl,rfl,rfl⟩
def qdA:Code:=(Try.f23.body).getD .skip
theorem qsm:qE Try.prog pol 23=some ⟨qdA,9,[.tmp 4],[33]⟩:=by kernel_rfl
theorem qu6:Pw 23 [] true false none:=⟨rfl,rfl,rfl,rfl⟩
def q7D:Code:=(Try.f24.body).getD .skip
theorem qlT:qE Try.prog pol 24=some ⟨q7D,58,[.tmp 4],[33]⟩:=by kernel_rfl
theorem qut:Pw 24 [] true false none:=⟨rfl,rfl,rfl,rfl⟩
def qdw:Code:=(Try.f25.body).getD .skip
theorem qrf:qE Try.prog pol 25=some ⟨qdw,22,[.tmp 6],[4]⟩:=by kernel_rfl
theorem quY:Pw 25 [] false false none:=⟨rfl,rfl,rfl,rfl⟩
def qaC:Code:=(Try.f26.body).getD .skip
theorem qpV:qE Try.prog pol 26=some ⟨qaC,34,[.tmp 6],[4]⟩:=by kernel_rfl
theorem qtX:Pw 26 [] false false none:=⟨rfl,rfl,rfl,rfl⟩
def qdq:Code:=(Try.f27.body).getD .skip
theorem qri:qE Try.prog pol 27=some ⟨qdq,9,[.tmp 4],[4]⟩:=by kernel_rfl
theorem qv7:Pw 27 [] false false none:=⟨rfl,rfl,rfl,rfl⟩
def q7A:Code:=(Try.f28.body).getD .skip
theorem qoy:qE Try.prog pol 28=some ⟨q7A,32,[.tmp 4],[4]⟩:=by kernel_rfl
theorem qtH:Pw 28 [] false false none:=⟨rfl,rfl,rfl,rfl⟩
def qap:Code:=(Try.f29.body).getD .skip
theorem qqf:qE Try.prog pol 29=some ⟨qap,20,[.tmp 2],[4]⟩:=by kernel_rfl
theorem qtO:Pw 29 [] false false none:=⟨rfl,rfl,rfl,rfl⟩
def q9w:Code:=(Try.f30.body).getD .skip
theorem qqy:qE Try.prog pol 30=some ⟨q9w,18,[.tmp 4],[4]⟩:=by kernel_rfl
theorem quJ:Pw 30 [] false false none:=⟨rfl,rfl,rfl,rfl⟩
def q9x:Code:=(Try.f31.body).getD .skip
theorem qqe:qE Try.prog pol 31=some ⟨q9x,39,[.tmp 4],[33]⟩:=by kernel_rfl
theorem qu2:Pw 31 [] true false none:=⟨rfl,rfl,rfl,rfl⟩
def qdW:Code:=(Try.f33.body).getD .skip
theorem qsi:qE Try.prog pol 33=some ⟨qdW,15,[.tmp 0],[25]⟩:=by kernel_rfl
theorem qv1:Pw 33 [] true true none:=⟨rfl,rfl,rfl,rfl⟩
def q9F:Code:=(Try.f34.body).getD .skip
theorem qqC:qE Try.prog pol 34=some ⟨q9F,30,[.tmp 2],[33]⟩:=by kernel_rfl
theorem quI:Pw 34 [] true false none:=⟨rfl,rfl,rfl,rfl⟩
def qdC:Code:=(Try.f35.body).getD .skip
theorem qsr:qE Try.prog pol 35=some ⟨qdC,35,[.tmp 4],[3]⟩:=by kernel_rfl
theorem qu7:Pw 35 [] false false none:=⟨rfl,rfl,rfl,rfl⟩
def qcx:Code:=(Try.f36.body).getD .skip
theorem qrX:qE Try.prog pol 36=some ⟨qcx,14,[.cell 2 35],[35]⟩:=by kernel_rfl
theorem qv8:Pw 36 [] true true none:=⟨rfl,rfl,rfl,rfl⟩
def qdS:Code:=(Try.f37.body).getD .skip
theorem qr7:qE Try.prog pol 37=some ⟨qdS,12,[.tmp 4],[3]⟩:=by kernel_rfl
theorem que:Pw 37 [] false false none:=⟨rfl,rfl,rfl,rfl⟩
def qcS:Code:=(Try.f38.body).getD .skip
theorem qsv:qE Try.prog pol 38=some ⟨qcS,36,[.tmp 2],[31]⟩:=by kernel_rfl
theorem qtG:Pw 38 [] false false none:=⟨rfl,rfl,rfl,rfl⟩
def q95:Code:=(Try.f39.body).getD .skip
theorem qpX:qE Try.prog pol 39=some ⟨q95,31,[.tmp 2],[65]⟩:=by kernel_rfl
theorem quA:Pw 39 [] true false none:=⟨rfl,rfl,rfl,rfl⟩
def qcZ:Code:=(Try.f40.body).getD .skip
theorem qqr:qE Try.prog pol 40=some ⟨qcZ,9,[.tmp 4],[4]⟩:=by kernel_rfl
theorem qr0:Pw 40 [] false false none:=⟨rfl,rfl,rfl,rfl⟩
def qej:Code:=(Try.f41.body).getD .skip
theorem qqQ:qE Try.prog pol 41=some ⟨qej,14,[.tmp 3],[4]⟩:=by kernel_rfl
theorem quZ:Pw 41 [] false false none:=⟨rfl,rfl,rfl,rfl⟩
def qbF:Code:=(Try.f42.body).getD .skip
theorem qsf:qE Try.prog pol 42=some ⟨qbF,9,[.tmp 4],[4]⟩:=by kernel_rfl
theorem quX:Pw 42 [] false false none:=⟨rfl,rfl,rfl,rfl⟩
def qeY:Code:=(Try.f43.body).getD .skip
theorem qtc:qE Try.prog pol 43=some ⟨qeY,15,[.tmp 4],[33]⟩:=by kernel_rfl
theorem qtE:Pw 43 [] true false none:=⟨rfl,rfl,rfl,rfl⟩
def q7K:Code:=(Try.f44.body).getD .skip
theorem qnE:qE Try.prog pol 44=some ⟨q7K,71,[.tmp 2],[31]⟩:=by kernel_rfl
theorem quu:Pw 44 [] false false none:=⟨rfl,rfl,rfl,rfl⟩
def qbG:Code:=(Try.f45.body).getD .skip
theorem qqJ:qE Try.prog pol 45=some ⟨qbG,17,[.tmp 2],[4]⟩:=by kernel_rfl
theorem qtM:Pw 45 [] false false none:=⟨rfl,rfl,rfl,rfl⟩
def qbu:Code:=(Try.f46.body).getD .skip
theorem qtb:qE Try.prog pol 46=some ⟨qbu,8,[.tmp 4],[3]⟩:=by kernel_rfl
theorem quL:Pw 46 [] false false none:=⟨rfl,rfl,rfl,rfl⟩
theorem quO:Pw 47 [] false true (some (.of (pr0 (q0X T 35 true)))):=⟨rfl,rfl,rfl,rfl⟩
def q9U:Code:=(Try.f48.body).getD .skip
theorem qoQ:qE Try.prog pol 48=some ⟨q9U,19,[.tmp 4],[3]⟩:=by kernel_rfl
theorem qsS:Pw 48 [] false false none:=⟨rfl,rfl,rfl,rfl⟩
def qev:Code:=(Try.f49.body).getD .skip
theorem qsl:qE Try.prog pol 49=some ⟨qev,8,[.tmp 3],[4]⟩:=by kernel_rfl
theorem qtJ:Pw 49 [] false false none:=⟨rfl,rfl,rfl,rfl⟩
def qf1:Code:=(Try.f50.body).getD .skip
theorem qtq:qE Try.prog pol 50=some ⟨qf1,9,[.tmp 4],[4]⟩:=by kernel_rfl
theorem qv6:Pw 50 [] false false none:=⟨rfl,rfl,rfl,rfl⟩
theorem qvh:Pw 51 [0] false false (some (.of (qb9 35 5))):=⟨rfl,rfl,rfl,rfl⟩
def qdJ:Code:=(Try.f52.body).getD .skip
theorem qsX:qE Try.prog pol 52=some ⟨qdJ,8,[.tmp 3],[4]⟩:=by kernel_rfl
theorem quT:Pw 52 [] false false none:=⟨rfl,rfl,rfl,rfl⟩
def qc5:Code:=(Try.f53.body).getD .skip
theorem qsn:qE Try.prog pol 53=some ⟨qc5,12,[.cell 2 35],[35]⟩:=by kernel_rfl
theorem qv9:Pw 53 [] true false none:=⟨rfl,rfl,rfl,rfl⟩
def qa6:Code:=(Try.f54.body).getD .skip
theorem qq5:qE Try.prog pol 54=some ⟨qa6,26,[.tmp 4],[4]⟩:=by kernel_rfl
theorem quF:Pw 54 [] false false none:=⟨rfl,rfl,rfl,rfl⟩
def qcW:Code:=(Try.f55.body).getD .skip
theorem qq6:qE Try.prog pol 55=some ⟨qcW,9,[.tmp 4],[4]⟩:=by kernel_rfl
theorem qrP:Pw 55 [] false false none:=⟨rfl,rfl,rfl,rfl⟩
def qca:Code:=(Try.f56.body).getD .skip
theorem qsg:qE Try.prog pol 56=some ⟨qca,8,[.tmp 3],[4]⟩:=by kernel_rfl
theorem quc:Pw 56 [] false false none:=⟨rfl,rfl,rfl,rfl⟩
def qcI:Code:=(Try.f57.body).getD .skip
theorem qsO:qE Try.prog pol 57=some ⟨qcI,9,[.tmp 4],[4]⟩:=by kernel_rfl
theorem qtR:Pw 57 [] false false none:=⟨rfl,rfl,rfl,rfl⟩
def qct:Code:=(Try.f58.body).getD .skip
theorem qtd:qE Try.prog pol 58=some ⟨qct,9,[.tmp 2],[4]⟩:=by kernel_rfl
theorem qvf:Pw 58 [] false false none:=⟨rfl,rfl,rfl,rfl⟩
def q9O:Code:=(Try.f59.body).getD .skip
theorem qpZ:qE Try.prog pol 59=some ⟨q9O,20,[.tmp 2],[4]⟩:=by kernel_rfl
theorem qvi:Pw 59 [] false false none:=⟨rfl,rfl,rfl,rfl⟩
def q9Q:Code:=(Try.f60.body).getD .skip
theorem qql:qE Try.prog pol 60=some ⟨q9Q,20,[.tmp 2],[4]⟩:=by kernel_rfl
theorem qu5:Pw 60 [] false false none:=⟨rfl,rfl,rfl,rfl⟩
def q98:Code:=(Try.f61.body).getD .skip
theorem qpv:qE Try.prog pol 61=some ⟨q98,19,[.tmp 4],[3]⟩:=by kernel_rfl
theorem qqP:Pw 61 [] false false none:=⟨rfl,rfl,rfl,rfl⟩
def qaa:Code:=(Try.f62.body).getD .skip
theorem qqg:qE Try.prog pol 62=some ⟨qaa,19,[.tmp 4],[3]⟩:=by kernel_rfl
theorem qtP:Pw 62 [] false false none:=⟨rfl,rfl,rfl,rfl⟩
def q9S:Code:=(Try.f63.body).getD .skip
theorem qqu:qE Try.prog pol 63=some ⟨q9S,25,[],[]⟩:=by kernel_rfl
theorem qqG:Pw 63 [] false false none:=⟨rfl,rfl,rfl,rfl⟩
theorem qva:Pw 64 [] true false (some (.of (qmk 74))):=⟨rfl,rfl,rfl,rfl⟩
def qbS:Code:=(Try.f65.body).getD .skip
theorem qrs:qE Try.prog pol 65=some ⟨qbS,4,[.tmp 2],[84]⟩:=by kernel_rfl
theorem quH:Pw 65 [] true false none:=⟨rfl,rfl,rfl,rfl⟩
def qa7:Code:=(Try.f66.body).getD .skip
theorem qq4:qE Try.prog pol 66=some ⟨qa7,21,[.tmp 6],[3]⟩:=by kernel_rfl
theorem qtZ:Pw 66 [] false false none:=⟨rfl,rfl,rfl,rfl⟩
def qeu:Code:=(Try.f67.body).getD .skip
theorem qt6:qE Try.prog pol 67=some ⟨qeu,8,[.tmp 3],[4]⟩:=by kernel_rfl
theorem quw:Pw 67 [] false false none:=⟨rfl,rfl,rfl,rfl⟩
theorem qu1:Pw 68 [] false false (some (.of (pr0 (q0X T 3 false)))):=⟨rfl,rfl,rfl,rfl⟩
theorem qua:Pw 69 [] false false (some (.of (pr0 (q0X T 9 false)))):=⟨rfl,rfl,rfl,rfl⟩
def qaj:Code:=(Try.f70.body).getD .skip
theorem qpB:qE Try.prog pol 70=some ⟨qaj,19,[.tmp 4],[3]⟩:=by kernel_rfl
theorem qr8:Pw 70 [] false false none:=⟨rfl,rfl,rfl,rfl⟩
def q9E:Code:=(Try.f71.body).getD .skip
theorem qqw:qE Try.prog pol 71=some ⟨q9E,19,[.tmp 4],[3]⟩:=by kernel_rfl
theorem quy:Pw 71 [] false false none:=⟨rfl,rfl,rfl,rfl⟩
theorem qnb:Kp 4 23 [7,11,12,18,21,37,38,39,70,71,72] [] [6,7,11,12,37,38,39,70,71,72]:=⟨rfl,rfl,rfl⟩
theorem qnt:Kp 4 15 [7,11,12,37,38,39,70,71,72] [.fslot 12] [6,7,37,38,39]:=⟨rfl,rfl,rfl⟩
theorem qnw:Kp 4 11 [7,11,12,13,37,38,39] [.slot 12 9 1] [7,11,12,37,38,39]:=⟨rfl,rfl,rfl⟩
theorem qt1:Kp 4 5 [7,37,38,39] [] [6,7]:=⟨rfl,rfl,rfl⟩
theorem qrJ:Kp 9 3 [0,3,4] [.slot 3 35 5] [3]:=⟨rfl,rfl,rfl⟩
theorem qis:Kp 10 16 [3,4,5,6,7,9] [.cell 7 4 9 1] [3,4,5,6,7]:=⟨rfl,rfl,rfl⟩
theorem qla:Kp 10 10 [3,4,5,6,7,8] [.cell 7 3 3 1] [3,4,5,6,7]:=⟨rfl,rfl,rfl⟩
theorem qpQ:Kp 10 5 [3,4,5,6] [.slot 4 35 5] [4]:=⟨rfl,rfl,rfl⟩
theorem qjN:Kp 11 33 [5,7] [.slot 5 35 5] [5]:=⟨rfl,rfl,rfl⟩
theorem qlN:Kp 11 3 [0,3,5,6] [.slot 5 35 5] [3,5]:=⟨rfl,rfl,rfl⟩
theorem qlk:Kp 12 23 [6,71] [] [2]:=⟨rfl,rfl,rfl⟩
theorem qj2:Kp 12 18 [6,62] [] [2,6]:=⟨rfl,rfl,rfl⟩
theorem qmE:Kp 12 4 [0,13,14,15] [] [0,2]:=⟨rfl,rfl,rfl⟩
theorem qiq:Kp 13 26 [0,10] [] [2]:=⟨rfl,rfl,rfl⟩
theorem qkC:Kp 13 20 [0,6,7] [] [0,2,6]:=⟨rfl,rfl,rfl⟩
theorem qk3:Kp 13 17 [0,6] [] [0,2]:=⟨rfl,rfl,rfl⟩
theorem qlv:Kp 13 4 [0,3] [] [0,2]:=⟨rfl,rfl,rfl⟩
theorem qp7:Kp 15 2 [0,3] [] [0,2]:=⟨rfl,rfl,rfl⟩
theorem qpe:Kp 16 4 [0,1,5] [] [4]:=⟨rfl,rfl,rfl⟩
theorem qmv:Kp 17 5 [3,4] [.cell 3 0 9 1] [3]:=⟨rfl,rfl,rfl⟩
theorem qor:Kp 18 6 [0,3,4] [.slot 3 9 1] [0,3]:=⟨rfl,rfl,rfl⟩
theorem qpz:Kp 18 4 [0,3] [.slot 3 9 1] [3]:=⟨rfl,rfl,rfl⟩
theorem qnI:Kp 21 2 [0,1,4,6] [] [4,5]:=⟨rfl,rfl,rfl⟩
theorem qm1:Kp 24 7 [0,5,8,9,10] [.slot 9 9 1] [0,5,9]:=⟨rfl,rfl,rfl⟩
theorem qo4:Kp 24 4 [0,5,8] [.dslot 5 1] [5]:=⟨rfl,rfl,rfl⟩
theorem qon:Kp 26 3 [2,7,8,9] [] [8]:=⟨rfl,rfl,rfl⟩
theorem qow:Kp 28 5 [2,3,5,6] [] [2,3,4,5]:=⟨rfl,rfl,rfl⟩
theorem qou:Kp 28 2 [2,3,5] [] [4]:=⟨rfl,rfl,rfl⟩
theorem qn6:Kp 29 2 [0,3] [] [2]:=⟨rfl,rfl,rfl⟩
theorem qnl:Kp 30 2 [0,1,5] [] [4]:=⟨rfl,rfl,rfl⟩
theorem qps:Kp 31 4 [0,1,5] [] [0,1,5]:=⟨rfl,rfl,rfl⟩
theorem qmN:Kp 34 3 [0,3,4] [.slot 3 9 1] [3]:=⟨rfl,rfl,rfl⟩
theorem qnh:Kp 39 3 [3,9,10,11] [] [3]:=⟨rfl,rfl,rfl⟩
theorem qpq:Kp 44 9 [1,4] [] [1,2]:=⟨rfl,rfl,rfl⟩
theorem qmy:Kp 44 4 [1,3] [] [1,2]:=⟨rfl,rfl,rfl⟩
theorem qpn:Kp 48 2 [0,1,7,8] [] [4]:=⟨rfl,rfl,rfl⟩
theorem qoh:Kp 54 4 [0,1,5] [] [4]:=⟨rfl,rfl,rfl⟩
theorem qpa:Kp 59 2 [0,3] [] [2]:=⟨rfl,rfl,rfl⟩
theorem qpm:Kp 60 2 [0,3] [] [2]:=⟨rfl,rfl,rfl⟩
theorem qm5:Kp 61 2 [0,1,7,8] [] [4]:=⟨rfl,rfl,rfl⟩
theorem qoG:Kp 62 2 [0,1,7,8] [] [4]:=⟨rfl,rfl,rfl⟩
theorem qp4:Kp 63 1 [2,3,9,10,11] [] []:=⟨rfl,rfl,rfl⟩
theorem qnK:Kp 66 2 [1,2,10] [] [6]:=⟨rfl,rfl,rfl⟩
theorem qlx:Kp 70 2 [0,1,7,8] [] [4]:=⟨rfl,rfl,rfl⟩
theorem qp1:Kp 71 2 [0,1,7,8] [] [4]:=⟨rfl,rfl,rfl⟩
def qbt:Code:=(qY 23 q8D).getD .skip
def qef:Code:=(qY 15 q8D).getD .skip
def qcu:Code:=(qY 11 q8D).getD .skip
def qjj:Code:=(qY 5 q8D).getD .skip
def qiu:Code:=(qY 3 qgT).getD .skip
def q8E:Code:=(qY 16 q5V).getD .skip
def q8Z:Code:=(qY 10 q5V).getD .skip
def qez:Code:=(qY 5 q5V).getD .skip
def q8w:Code:=(qY 33 q7x).getD .skip
def qbN:Code:=(qY 3 q7x).getD .skip
def q75:Code:=(qY 23 q6f).getD .skip
def q6n:Code:=(qY 18 q6f).getD .skip
def qeN:Code:=(qY 4 q6f).getD .skip
def q93:Code:=(qY 26 q5u).getD .skip
def q8N:Code:=(qY 20 q5u).getD .skip
def q8l:Code:=(qY 17 q5u).getD .skip
def qbJ:Code:=(qY 4 q5u).getD .skip
def qcR:Code:=(qY 2 qas).getD .skip
def qcU:Code:=(qY 4 qam).getD .skip
def qbH:Code:=(qY 5 q9d).getD .skip
def qci:Code:=(qY 6 q85).getD .skip
def qdF:Code:=(qY 4 q85).getD .skip
def qeS:Code:=(qY 2 qar).getD .skip
def qah:Code:=(qY 7 q7D).getD .skip
def q9K:Code:=(qY 4 q7D).getD .skip
def qd1:Code:=(qY 3 qaC).getD .skip
def qdm:Code:=(qY 5 q7A).getD .skip
def qdO:Code:=(qY 2 q7A).getD .skip
def qcM:Code:=(qY 2 qap).getD .skip
def qeP:Code:=(qY 2 q9w).getD .skip
def qbB:Code:=(qY 4 q9x).getD .skip
def qeF:Code:=(qY 3 q9F).getD .skip
def qe7:Code:=(qY 3 q95).getD .skip
def qeM:Code:=(qY 9 q7K).getD .skip
def qcq:Code:=(qY 4 q7K).getD .skip
def q9T:Code:=(qY 2 q9U).getD .skip
def qbK:Code:=(qY 4 qa6).getD .skip
def qer:Code:=(qY 2 q9O).getD .skip
def qdD:Code:=(qY 2 q9Q).getD .skip
def q9W:Code:=(qY 2 q98).getD .skip
def qd2:Code:=(qY 2 qaa).getD .skip
def qex:Code:=(qY 1 q9S).getD .skip
def qcV:Code:=(qY 2 qa7).getD .skip
def q9G:Code:=(qY 2 qaj).getD .skip
def qdp:Code:=(qY 2 q9E).getD .skip
theorem qqM:qt3 Try.prog pol:=by
 intro E hE f g k args G r G' hf hg
 unfold pol ppr at hf
 simp only at hf
 split at hf
 ·injection hf with hf;subst hf;refine qeD (fun _ _ _ hg=>?_) hg;exact q49 qlp (fn:=Try.f47) (t:=25) (e:=35) (bt:=4) (by kernel_rfl) (by kernel_rfl) (by kernel_rfl) (by kernel_rfl) (by kernel_rfl) k25 (by rw[k35];simp) (by rw[z35];decide) (by kernel_rfl) hg
 ·injection hf with hf;subst hf;refine qeD (fun _ _ _ hg=>?_) hg;exact q49 qlp (fn:=Try.f68) (t:=22) (e:=3) (bt:=4) (by kernel_rfl) (by kernel_rfl) (by kernel_rfl) (by kernel_rfl) (by kernel_rfl) k22 (by rw[k3];simp) (by rw[z3];decide) (by kernel_rfl) hg
 ·injection hf with hf;subst hf;refine qeD (fun _ _ _ hg=>?_) hg;exact q49 qlp (fn:=Try.f69) (t:=33) (e:=9) (bt:=4) (by kernel_rfl) (by kernel_rfl) (by kernel_rfl) (by kernel_rfl) (by kernel_rfl) k33 (by rw[k9];simp) (by rw[z9];decide) (by kernel_rfl) hg
 ·injection hf with hf;subst hf;exact qjE (et:=9) (fn:=Try.f64) (by kernel_rfl) (by kernel_rfl) (by kernel_rfl) (qsx sk6 qwx (Any.slices_Sort_string qbR) (Any.slices_Sort_string_none qbR) (Go.Proofs.enters_of Try.func73 (by kernel_rfl) rfl) (Go.Proofs.enters_of Try.func74 (by kernel_rfl) rfl)) hg
 ·injection hf with hf;subst hf;exact qgR (fn:=Try.f51) (by kernel_rfl) (by kernel_rfl) (by kernel_rfl) qti hg
 ·cases hf
end
noncomputable section
open Go.RowKit
theorem Jb {α β:Type} {c:Prop} [Decidable c] (a b:Option α) (f:α→Option β):(if c then a else b).bind f=if c then a.bind f else b.bind f:=by split<;>rfl
theorem mixed:(Try.prog).follows .mixedOrders=true:=by kernel_rfl
def evo:Orc:=EE Try.prog T pol (D1 Try.prog T pol)
def ev (f:FuncId):Nat→List R→List (Nat×B)→Option (R×List (Nat×B)):=evo (.fn f)
def evr (f:FuncId) (asg bd:Code):Nat→List R→List (Nat×B)→Option (R×List (Nat×B)):=evo (.rd f asg bd)
theorem qtl {f k:Nat} {args:List R} {G G':List (Nat×B)} {r:R} (h:ev f k args G=some (r,G')):AC Try.prog f args G k fun r' hp'=>r'=r∧hp'=G':=(qn9 qlp (qsV qlp mixed) qqM).fn f k args G r G' h
def bkk (id:Nat) (r:XS):XS:=r.bind (bkD id)
def rgn (o:Option S):XS:=o.bind fun s'=>some (.normal,s')
def fnn (f k:Nat) (res:List ResultVar) (rt:List TypeId) (r:XS):Option (R×List (Nat×B)):=r.bind (qpS T pol f k ⟨.skip,0,res,rt⟩)
section
variable {f k:Nat} {s:S} {b:Code} {c:Prop} [Decidable c] {x y:XS} {α:Type} {o:Option α} {g:α→XS}
theorem qaK (i:Nat):bkk i (some (.normal,s))=some (.normal,s):=rfl
theorem qiR (i:Nat):bkk i (some (.ret,s))=some (.ret,s):=rfl
theorem qg2 (i j:Nat):bkk i (some (.exit j,s))=if j=i then some (.normal,s) else some (.exit j,s):=rfl
theorem qfg (i:Nat):bkk i none=none:=rfl
theorem qjG (i:Nat):bkk i (if c then x else y)=if c then bkk i x else bkk i y:=Jb _ _ _
theorem qfy (i:Nat):bkk i (o.bind g)=o.bind fun a=>bkk i (g a):=by cases o<;>rfl
theorem qgz:rgn (some s)=some (.normal,s):=rfl
theorem qfN:rgn none=none:=rfl
theorem ql6 (x y:Option S):rgn (if c then x else y)=if c then rgn x else rgn y:=Jb _ _ _
theorem qfj (g:α→Option S):rgn (o.bind g)=o.bind fun a=>rgn (g a):=by cases o<;>rfl
theorem qg7 (res:List ResultVar) (rt:List TypeId) (p:Exit×S):fnn f k res rt (some p)=qpS T pol f k ⟨.skip,0,res,rt⟩ p:=rfl
theorem qhh (res:List ResultVar) (rt:List TypeId):fnn f k res rt none=none:=rfl
theorem qlj (res:List ResultVar) (rt:List TypeId):fnn f k res rt (if c then x else y)=if c then fnn f k res rt x else fnn f k res rt y:=Jb _ _ _
theorem qgM (res:List ResultVar) (rt:List TypeId):fnn f k res rt (o.bind g)=o.bind fun a=>fnn f k res rt (g a):=by cases o<;>rfl
end
theorem qb7 (f k:Nat) (args:List R) (G:List (Nat×B)):ev f k args G=match pol.pr f with
 | some g=>prx (g.run evo) k args G
 | none=>(qE Try.prog pol f).bind fun bd=>q3E Try.prog T pol (D1 Try.prog T pol) evo Lim f k args G bd:=qr5 q5p qjV f k args G
section
variable {f k n:Nat} {s:S} {asg bd:Code} {c:Prop} [Decidable c] {x y:XS} {α:Type} {o:Option α} {g:α→XS}
end
def wst (q:RS) (d:Option Nat):Option S:=q.bind fun q=>if q4U q.2 d=true then some (q.2.put d q.1) else none
def wsF (q:RS) (s:S) (o:Oper):Option (S×Tx):=q.bind fun q=>if q4U q.2 o.dst=true then(qe1 pol s q.2 q.1 o.op).bind fun fp=>some ((q.2.kill fp.ks).put o.dst q.1,(q.1,fp.wb.map fun x=>(x,q.2.blk x)),fp) else none
def cll (q:Option (R×List (Nat×B))) (s:S) (bl rw ln:List Nat):RS:=q.bind fun q=>if qj4 ln q.1 q.2=true then some (q.1.rn (ren (bl++rw) s.nx),s.aft (bl++rw) bl.length q.2) else none
section
variable {s:S} {o:Oper} {c:Prop} [Decidable c] {α:Type} {v:Option α} {ops l:List Oper} {A:List (List Nat)} {s0:S} {m:Nat} {acc:List Tx}
theorem qfd (r:R) (d:Option Nat):wst (some (r,s)) d=if q4U s d=true then some (s.put d r) else none:=rfl
theorem qgW (d:Option Nat):wst none d=none:=rfl
theorem qj8 (x y:RS) (d:Option Nat):wst (if c then x else y) d=if c then wst x d else wst y d:=Jb _ _ _
theorem qfW (g:α→RS) (d:Option Nat):wst (v.bind g) d=v.bind fun a=>wst (g a) d:=by cases v<;>rfl
theorem qfc (r:R) (s':S):wsF (some (r,s')) s o=if q4U s' o.dst=true then(qe1 pol s s' r o.op).bind fun fp=>some ((s'.kill fp.ks).put o.dst r,(r,fp.wb.map fun x=>(x,s'.blk x)),fp) else none:=rfl
theorem qhk:wsF none s o=none:=rfl
theorem qkX (x y:RS):wsF (if c then x else y) s o=if c then wsF x s o else wsF y s o:=Jb _ _ _
theorem qfu (g:α→RS):wsF (v.bind g) s o=v.bind fun a=>wsF (g a) s o:=by cases v<;>rfl
theorem qge (r:R) (hp:List (Nat×B)) (bl rw ln:List Nat):cll (some (r,hp)) s bl rw ln=if qj4 ln r hp=true then some (r.rn (ren (bl++rw) s.nx),s.aft (bl++rw) bl.length hp) else none:=rfl
theorem qgj (g:α→Option (R×List (Nat×B))) (bl rw ln:List Nat):cll (v.bind g) s bl rw ln=v.bind fun a=>cll (g a) s bl rw ln:=by cases v<;>rfl
end
def ldx (T:Ty) (cs:List C) (off:Nat) (t:TypeId):Option R:=
 match T.k t with
 | .st _ | .arr _ _=>if off+T.sz t≤cs.length then some (.agg ((cs.drop off).take (T.sz t))) else none
 | .other=>none
 | _=>(cs[off]?).map .c
theorem qiP (c:C) (cs:List C) (off:Nat) (t:TypeId):ld T (c::cs) off t=ldx T (c::cs) off t:=rfl
section
variable {α:Type} {enc:α→List D} {sz:Nat}
theorem q3I (hsz:∀x,(enc x).length=sz):∀l:List α,(l.flatMap enc).length=l.length*sz
 | []=>by simp
 | x::l=>by rw[qyn,qxq,hsz,q3I hsz l,qxu,Nat.add_mul];omega
theorem q7u (hsz:∀x,(enc x).length=sz):∀(l:List α) (k:Nat) (x:α),l[k]?=some x→∃post,(l.flatMap enc).drop (k*sz)=enc x++post
 | [],k,x,h=>by simp at h
 | y::l,0,x,h=>by
  simp only[qxt,qy7] at h
  subst h
  exact⟨l.flatMap enc,by simp⟩
 | y::l,k+1,x,h=>by
  obtain⟨post,hp⟩:=q7u hsz l k x (by simpa using h)
  refine⟨post,?_⟩
  rw[qyn,show(k+1)*sz=(enc y).length+k*sz by rw[hsz,Nat.add_mul];omega,List.drop_length_add_append]
  exact hp
theorem q8O (hsz:∀x,(enc x).length=sz) (l:List α) (k fo:Nat) (t:TypeId) (h0:0<T.sz t) (hf:fo+T.sz t≤sz):ld T ((l.flatMap enc).map C.d) (k*sz+fo) t=(l[k]?).bind fun x=>ld T ((enc x).map C.d) fo t:=by
 have hl:=q3I hsz l
 cases hk:l[k]? with
 | none=>
  have hle:l.length≤k:=by simpa using hk
  have hle2:l.length*sz≤k*sz:=Nat.mul_le_mul_right _ hle
  show ld T _ _ t=none
  unfold ld
  split
  ·rw[if_neg (by rw[qy0,hl];omega)]
  ·rw[if_neg (by rw[qy0,hl];omega)]
  ·rfl
  ·rw[qxR (by rw[qy0,hl];omega)];rfl
 | some x=>
  obtain⟨post,hp⟩:=q7u hsz l k x hk
  have hx:=hsz x
  have hlen:k*sz+sz≤l.length*sz:=by
   have:k<l.length:=(qxn.1 hk).1
   have:=Nat.mul_le_mul_right sz (show k+1≤l.length from this)
   rw[Nat.add_mul] at this;omega
  have hd:∀n,n+fo≤sz→(((l.flatMap enc).map C.d).drop (k*sz+fo)).take n=(((enc x).map C.d).drop fo).take n:=fun n hn=>by
   rw[←qy5,←List.map_drop,hp,List.map_append,List.drop_append_of_le_length (by simp[hx];omega),List.take_append_of_le_length (by simp[hx];omega)]
  show _=ld T _ fo t
  unfold ld
  split
  ·rw[if_pos (by rw[qy0,hl];omega),if_pos (by rw[qy0,hx];omega),hd _ (by omega)]
  ·rw[if_pos (by rw[qy0,hl];omega),if_pos (by rw[qy0,hx];omega),hd _ (by omega)]
  ·rfl
  ·have h1:(((l.flatMap enc).map C.d).drop (k*sz))[fo]?=((enc x).map C.d)[fo]?:=by
    rw[←List.map_drop,hp,List.map_append,qxW (by simp[hx];omega)]
   rw[List.getElem?_drop] at h1
   rw[h1]
theorem q6u (hsz:∀x,(enc x).length=1) (l:List α) (k:Nat) (t:TypeId) (h:T.sz t=1):ld T ((l.flatMap enc).map C.d) k t=(l[k]?).bind fun x=>ld T ((enc x).map C.d) 0 t:=by
 have:=q8O hsz l k 0 t (by omega) (by omega)
 rwa [Nat.add_zero,Nat.mul_one] at this
theorem qan (hsz:∀x,(enc x).length=sz) (l:List α) (k:Nat) (t:TypeId) (h0:0<T.sz t) (hf:T.sz t≤sz):ld T ((l.flatMap enc).map C.d) (k*sz) t=(l[k]?).bind fun x=>ld T ((enc x).map C.d) 0 t:=by
 have:=q8O hsz l k 0 t h0 (by omega)
 rwa [Nat.add_zero] at this
end
theorem qk6 (i:Nat) (ds:List D):(ds.map C.d).all (C.far i)=true:=by rw[List.all_map];exact qxA.2 fun _ _=>rfl
theorem qcp (ds:List D):(ds.map C.d).all C.known=true:=by rw[List.all_map];exact qxA.2 fun _ _=>rfl
theorem qg3 (X:List Nat) (ds:List D):(ds.map C.d).all (C.farF X)=true:=by rw[List.all_map];exact qxA.2 fun _ _=>rfl
theorem qg9 (ds:List D):(ds.map C.d).flatMap C.rows=[]:=by rw[List.flatMap_map];exact List.flatMap_eq_nil_iff.2 fun _ _=>rfl
theorem qmC (b:Builtin) (args:Array Operand) (ts:Array TypeId):(Call.operands { callee := .builtin b,args:=args,argTypes:=ts }).toList=args.toList:=by simp[Call.operands]
theorem qmO (f:Operand) (args:Array Operand) (ts:Array TypeId):(Call.operands { callee := .value f,args:=args,argTypes:=ts }).toList=f::args.toList:=by simp[Call.operands]
theorem qot (i:Nat) (ds:List D):(ds.map C.d).map (C.fg i)=ds.map C.d:=by rw[List.map_map];rfl
theorem qiD (X:List Nat) (ds:List D):(ds.map C.d).map (C.fgL X)=ds.map C.d:=by rw[List.map_map];rfl
end
noncomputable section
open Go.RowKit
def ρ0:Pl:=⟨fun _=>none,fun _=>False⟩
def L0:Nat→Prop:=(ZN [] 0).live
theorem qw5 (b:Nat):¬ Occ L0 ρ0 b:=fun h=>by
 rcases h with h|⟨i,c,h1,h2⟩
 ·exact h
 ·cases h2
theorem rd0 {W:World} {v:Value} {d:D} (h:RD W (fun _=>False) v d):RD W (Occ L0 ρ0) v d:=h.occ fun b hb=>qw5 b hb
theorem qic {W:World} {v:Value} {d:D} (h:PV W [v] [d]):RR W L0 ρ0 v (.c (.d d)) := .c _ _ (.d _ _ (rd0 (h.2 0 v d rfl rfl)))
theorem qlK {W:World} {cs:Array Value} {ds:List D} (h:PV W cs.toList ds):RR W L0 ρ0 (.agg cs) (.agg (ds.map C.d)):=by
 refine .agg _ _ (by simpa using h.1) (fun j c hj=>?_)
 rw[qxx] at hj
 obtain⟨d,h1,h2⟩:=qxw.1 hj
 subst h2
 have hj':j<cs.size:=by have:=(qxn.1 h1).1;rw[←h.1] at this;simpa using this
 have h3:cs.toList[j]?=some (cs.getD j undef):=by simp[qxp,hj']
 exact .d _ _ (rd0 (h.2 j _ d h3 h1))
theorem qgY {f:FuncId} {rs:List R} {b:Bool} (h:ev f 0 rs []=some (.c (.d (.bool b)),[])) {W:World} {vs:Array Value} (hr:RRs W L0 ρ0 vs rs) :
  Calls Try.prog f vs W fun e W'=>e = .returned (.bool b)∧Below W.heap.size W W':=by
 have hac:=qtl h
 have hnl:∀i,¬ (ZN [] 0).live i:=fun i h=>by cases h
 have hs:Sim ⟨fun _=>False,W,ρ0,0,none⟩ ρ0 (ZN [] 0) q5M W:=
  ⟨Hd.none,rfl,fun i => .any _,fun i b c h=>absurd h (hnl i),fun i h=>absurd h (hnl i),fun i b c h=>absurd h (hnl i),fun i j b c c' h=>absurd h (hnl i),fun i h=>absurd h (hnl i),qag.refl _ _,fun b hb=>hb.elim,fun i hi=>absurd hi (Nat.not_lt_zero _),fun i b c h=>absurd h (hnl i),⟨fun b hb=>hb.elim,fun i j _ _ d h=>absurd h.choose_spec.choose_spec.choose_spec.choose_spec.choose_spec.1 (hnl i),fun i j d h=>absurd h.choose_spec.choose_spec.choose_spec.choose_spec.choose_spec.1 (hnl i)⟩⟩
 refine(hac.call ⟨fun _=>False,W,ρ0,0,none⟩ ρ0 W vs rfl rfl rfl rfl hs hr).mono ?_
 rintro e W' ⟨v,r,hp',nx',ρ',rfl,⟨rfl,rfl⟩,h3,h4⟩
 rw[h4.inv_bool]
 exact⟨rfl,h3.kept.os,h3.kept.tape,h3.kept.output,h3.kept.size,fun k hk=>h3.kept.block k hk (fun h=>h)⟩
end
noncomputable section
open Go.RowKit
set_option maxRecDepth 100000
abbrev w64 (n:Int):Int:=IntKind.i64.wrap n
def Zk:Code→List Code
 | .loop c=>c::Zk c
 | .seq a b=>Zk a++Zk b
 | .cond _ a b=>Zk a++Zk b
 | .block _ c=>Zk c
 | .scope c=>Zk c
 | .rangeFunc _ _ a b=>Zk a++Zk b
 | _=>[]
def QT:Code→List (Code×Code)
 | .rangeFunc _ _ a b=>(a,b)::(QT a++QT b)
 | .loop c=>QT c
 | .seq a b=>QT a++QT b
 | .cond _ a b=>QT a++QT b
 | .block _ c=>QT c
 | .scope c=>QT c
 | _=>[]
theorem q54:∀(c b:Code),b∈Zk c→(∀b'∈Zk b,b'∈Zk c)∧∀q∈QT b,q∈QT c:=by
 intro c
 induction c with
 | loop c ih=>
  intro b hb
  rcases qxF.1 hb with rfl|hb
  ·exact⟨fun b' h=>qxr _ h,fun q h=>h⟩
  ·exact⟨fun b' h=>qxr _ ((ih b hb).1 b' h),fun q h=>(ih b hb).2 q h⟩
 | seq a c iha ihc=>
  intro b hb
  rcases qxN.1 hb with hb|hb
  ·exact⟨fun b' h=>qxv _ ((iha b hb).1 b' h),fun q h=>qxv _ ((iha b hb).2 q h)⟩
  ·exact⟨fun b' h=>qxs _ ((ihc b hb).1 b' h),fun q h=>qxs _ ((ihc b hb).2 q h)⟩
 | cond x a c iha ihc=>
  intro b hb
  rcases qxN.1 hb with hb|hb
  ·exact⟨fun b' h=>qxv _ ((iha b hb).1 b' h),fun q h=>qxv _ ((iha b hb).2 q h)⟩
  ·exact⟨fun b' h=>qxs _ ((ihc b hb).1 b' h),fun q h=>qxs _ ((ihc b hb).2 q h)⟩
 | rangeFunc g ps a c iha ihc=>
  intro b hb
  rcases qxN.1 hb with hb|hb
  ·exact⟨fun b' h=>qxv _ ((iha b hb).1 b' h),fun q h=>qxr _ (qxv _ ((iha b hb).2 q h))⟩
  ·exact⟨fun b' h=>qxs _ ((ihc b hb).1 b' h),fun q h=>qxr _ (qxs _ ((ihc b hb).2 q h))⟩
 | block id c ih=>intro b hb;exact ih b hb
 | scope c ih=>intro b hb;exact ih b hb
 | _=>intro b hb;cases hb
def q5D (f:Nat):Code:=((qE Try.prog pol f).map Bd.code).getD .skip
def lbO (f key:Nat):Code:=(qY key (q5D f)).getD .skip
def raO (f key:Nat):Code:=((JI key (q5D f)).getD (.skip,.skip)).1
def rbO (f key:Nat):Code:=((JI key (q5D f)).getD (.skip,.skip)).2
structure okL (f:Nat) (c:Code):Prop where
 lo:∀b∈Zk c,lbO f (zg b)=b
 ro:∀q∈QT c,raO f (zg q.2)=q.1∧rbO f (zg q.2)=q.2
theorem qW {f:Nat} {c:Code} (hc:q5D f=c) (h:(Zk c).map (fun b=>(qY (zg b) c).getD .skip)=Zk c) (h':(QT c).map (fun q=>(JI (zg q.2) c).getD (.skip,.skip))=QT c):okL f c:=by
 refine⟨fun b hb=>?_,fun q hq=>?_⟩
 ·unfold lbO
  rw[hc]
  obtain⟨i,hi,rfl⟩:=List.mem_iff_getElem.1 hb
  have h1:((Zk c).map (fun b=>(qY (zg b) c).getD .skip))[i]?=(Zk c)[i]?:=by rw[h]
  rw[qxx,qxl hi] at h1
  simpa using h1
 ·unfold raO rbO
  rw[hc]
  obtain⟨i,hi,rfl⟩:=List.mem_iff_getElem.1 hq
  have h1:((QT c).map (fun q=>(JI (zg q.2) c).getD (.skip,.skip)))[i]?=(QT c)[i]?:=by rw[h']
  rw[qxx,qxl hi] at h1
  simp only[Option.map_some,qy7] at h1
  rw[h1]
  exact⟨rfl,rfl⟩
def XEo (E:Orc) (f k:Nat):Code→S→XS:=XD Try.prog T pol E (D1 Try.prog T pol E f k) Lim f k
def XL2 (E:Orc) (f k key:Nat) (s:S):XS:=Lim (fun s=>(XEo E f k (lbO f key) s).bind (lpx pol f key k)) s
def XM2 (E:Orc) (f k key:Nat) (it:Operand) (s:S):XS:=mlp it (fun s=>(XEo E f k (lbO f key) s).bind (lpx pol f key k)) s
def lp3 (E:Orc) (f k key:Nat) (o:Option Operand) (r:Option S):XS:=r.bind fun s=>match o with
 | none=>XL2 E f k key s
 | some it=>XM2 E f k key it s
def cnd (r:R) (x y:XS):XS:=
 match r with
 | .c (.d (.bool b))=>if b=true then x else y
 | _=>none
def XE2 (E:Orc) (f k:Nat):Code→S→XS
 | .skip,s=>some (.normal,s)
 | .label _,s=>some (.normal,s)
 | .ret,s=>some (.ret,s)
 | .exit id,s=>some (.exit id,s)
 | .seq a b,s=>(XE2 E f k a s).bind (sqD fun s'=>XE2 E f k b s')
 | .block id c,s=>(XE2 E f k c s).bind (bkD id)
 | .scope c,s=>(XE2 E f k c s).bind scD
 | .cond c x y,s=>cnd (s.ev c) (XE2 E f k x (s.ly c tt)) (XE2 E f k y (s.ly c ff))
 | .loop c,s=>lp3 E f k (zg c) (JX c) (nrm pol f (zg c) k s)
 | .rangeFunc g ps _ b,s=>xRF pol E f g ps.toList (raO f (zg b)) (rbO f (zg b)) ((s.dzr pol.q).frz (q5Y (s.dzr pol.q) (pol.rk f (zg b))))
 | c,s=>XEo E f k c s
section
variable {E:Orc} {f k:Nat} {s:S}
theorem qrq (a b:Code):XEo E f k (.seq a b) s=(XEo E f k a s).bind (sqD fun s'=>XEo E f k b s'):=rfl
theorem ql2 (i:Nat) (b:Code):XEo E f k (.block i b) s=(XEo E f k b s).bind (bkD i):=rfl
theorem qjb (b:Code):XEo E f k (.scope b) s=(XEo E f k b s).bind scD:=rfl
theorem qme (p:Operand) (a b:Code):XEo E f k (.cond p a b) s=cnd (s.ev p) (XEo E f k a (s.ly p tt)) (XEo E f k b (s.ly p ff)):=rfl
theorem qn8 (b:Code):XEo E f k (.loop b) s=(nrm pol f (zg b) k s).bind fun s0=>lpM Lim (JX b) (fun s=>(XEo E f k b s).bind (lpx pol f (zg b) k)) s0:=rfl
theorem qmj:XEo E f k .skip s=some (.normal,s):=rfl
theorem qjB (l:Nat):XEo E f k (.label l) s=some (.normal,s):=rfl
theorem qqU:XEo E f k .ret s=some (.ret,s):=rfl
theorem qoi (i:Nat):XEo E f k (.exit i) s=some (.exit i,s):=rfl
theorem qjL (g:Operand) (ps:Array Tmp) (asg bd:Code):XEo E f k (.rangeFunc g ps asg bd) s=xRF pol E f g ps.toList asg bd ((s.dzr pol.q).frz (q5Y (s.dzr pol.q) (pol.rk f (zg bd)))):=rfl
theorem qs9 (a b:Code):XE2 E f k (.seq a b) s=(XE2 E f k a s).bind (sqD fun s'=>XE2 E f k b s'):=rfl
theorem qka (i:Nat) (b:Code):XE2 E f k (.block i b) s=(XE2 E f k b s).bind (bkD i):=rfl
theorem qkO (b:Code):XE2 E f k (.scope b) s=(XE2 E f k b s).bind scD:=rfl
theorem qma (p:Operand) (a b:Code):XE2 E f k (.cond p a b) s=cnd (s.ev p) (XE2 E f k a (s.ly p tt)) (XE2 E f k b (s.ly p ff)):=rfl
theorem qjz (g:Operand) (ps:Array Tmp) (asg bd:Code):XE2 E f k (.rangeFunc g ps asg bd) s=xRF pol E f g ps.toList (raO f (zg bd)) (rbO f (zg bd)) ((s.dzr pol.q).frz (q5Y (s.dzr pol.q) (pol.rk f (zg bd)))):=rfl
theorem qlL (b:Code):XE2 E f k (.loop b) s=lp3 E f k (zg b) (JX b) (nrm pol f (zg b) k s):=rfl
end
theorem q9Y {E:Orc} {f k:Nat}:∀(c:Code),okL f c→∀s,XEo E f k c s=XE2 E f k c s:=by
 intro c
 induction c with
 | seq a b iha ihb=>
  intro h s
  have h1:=iha ⟨fun x hx=>h.lo x (qxv _ hx),fun x hx=>h.ro x (qxv _ hx)⟩
  have h2:=ihb ⟨fun x hx=>h.lo x (qxs _ hx),fun x hx=>h.ro x (qxs _ hx)⟩
  rw[qrq,qs9,h1,funext h2]
 | block id c ih=>intro h s;rw[ql2,qka,ih ⟨h.lo,h.ro⟩ s]
 | scope c ih=>intro h s;rw[qjb,qkO,ih ⟨h.lo,h.ro⟩ s]
 | cond x a b iha ihb=>
  intro h s
  have h1:=iha ⟨fun x hx=>h.lo x (qxv _ hx),fun x hx=>h.ro x (qxv _ hx)⟩
  have h2:=ihb ⟨fun x hx=>h.lo x (qxs _ hx),fun x hx=>h.ro x (qxs _ hx)⟩
  rw[qme,qma,h1,h2]
 | loop c ih=>
  intro h s
  rw[qn8,qlL]
  unfold lp3 lpM XL2 XM2
  rw[h.lo c qxy]
  cases JX c<;>rfl
 | rangeFunc g ps a b _ _=>
  intro h s
  obtain⟨h1,h2⟩:=h.ro (a,b) qxy
  rw[qjL,qjz]
  rw[h1,h2]
 | skip=>intro _ s;rw[qmj];rfl
 | label=>intro _ s;rw[qjB];rfl
 | ret=>intro _ s;rw[qqU];rfl
 | exit=>intro _ s;rw[qoi];rfl
 | _=>intro _ s;unfold XE2;rfl
def th2 (E:Orc) (f k:Nat) (r:XS) (b:Code):XS:=r.bind (sqD fun s'=>XE2 E f k b s')
def lp2 (E:Orc) (f k key:Nat) (o:Option S):XS:=o.bind fun s=>XL2 E f k key s
def lz2 (f k key:Nat) (r:XS):XS:=r.bind (lpx pol f key k)
def ly2 (e:Exit) (o:Option S):XS:=o.bind fun s=>some (e,s)
def rs2 (E:Orc) (ops:List Oper) (o:Option S) (l:List Oper):Option S:=o.bind fun s=>xr Try.prog T pol E ops l s
def qhE (E:Orc) (ops:List Oper) (A:List (List Nat)) (s0:S) (m:Nat) (o:Option (S×Tx)) (l:List Oper) (acc:List Tx):Option S:=o.bind fun q=>xdp Try.prog T pol E ops A s0 m l q.1 (acc++[q.2])
section
variable {E:Orc} {f k key:Nat} {s:S} {b:Code} {c:Prop} [Decidable c] {x y:XS} {α β:Type} {o:Option α} {g:α→XS} {h:β→XS} {e:α⊕β}
theorem qk1:XE2 E f k .skip s=some (.normal,s):=rfl
theorem qmI:XE2 E f k .ret s=some (.ret,s):=rfl
theorem qkc (i:Nat):XE2 E f k (.exit i) s=some (.exit i,s):=rfl
theorem qn4 (a:Code):XE2 E f k (.seq a b) s=th2 E f k (XE2 E f k a s) b:=rfl
theorem qgX (i:Nat):XE2 E f k (.block i b) s=bkk i (XE2 E f k b s):=rfl
theorem qj7 (p:Operand) (a b:Code):XE2 E f k (.cond p a b) s=match s.ev p with | .c (.d (.bool t))=>if t=true then XE2 E f k a (s.ly p tt) else XE2 E f k b (s.ly p ff)|_=>none:=rfl
theorem qbP (i:Nat) (ops:Array Oper):XE2 E f k (.region i ops false) s=rgn (xr Try.prog T pol E ops.toList ops.toList s):=rfl
theorem qiL (i:Nat) (ops:Array Oper):XE2 E f k (.region i ops true) s=rgn (D1 Try.prog T pol E f k i ops.toList (((s.uwD pol ops.toList).dzr pol.q).frk (pol.rk f i))):=rfl
theorem qkI:XE2 E f k (.loop b) s=lp3 E f k (zg b) (JX b) (nrm pol f (zg b) k s):=rfl
theorem qh7 (r:Option S):lp3 E f k key none r=lp2 E f k key r:=rfl
theorem qgF (it:Operand):lp3 E f k key (some it) (some s)=XM2 E f k key it s:=rfl
theorem qbe:th2 E f k (some (.normal,s)) b=XE2 E f k b s:=rfl
theorem qjg:th2 E f k (some (.ret,s)) b=some (.ret,s):=rfl
theorem qgy (i:Nat):th2 E f k (some (.exit i,s)) b=some (.exit i,s):=rfl
theorem qgH:th2 E f k none b=none:=rfl
theorem qiQ:th2 E f k (if c then x else y) b=if c then th2 E f k x b else th2 E f k y b:=Jb _ _ _
theorem qgc:th2 E f k (o.bind g) b=o.bind fun a=>th2 E f k (g a) b:=by cases o<;>rfl
theorem qiZ:th2 E f k (Sum.elim g h e) b=Sum.elim (fun a=>th2 E f k (g a) b) (fun a=>th2 E f k (h a) b) e:=by cases e<;>rfl
theorem qg1:lp2 E f k key (some s)=XL2 E f k key s:=rfl
theorem qb5:lz2 f k key (some (.normal,s))=ly2 .normal (nrm pol f key k s):=rfl
theorem qit:lz2 f k key (some (.ret,s))=ly2 .ret (qhL k (pol.kx f key) (s.fnB pol (pol.ab f))):=rfl
theorem qfq (i:Nat):lz2 f k key (some (.exit i,s))=ly2 (.exit i) (qhL k (pol.kx f key) (s.fnB pol (pol.ab f))):=rfl
theorem qfk:lz2 f k key none=none:=rfl
theorem qjT:lz2 f k key (if c then x else y)=if c then lz2 f k key x else lz2 f k key y:=Jb _ _ _
theorem qh9:lz2 f k key (o.bind g)=o.bind fun a=>lz2 f k key (g a):=by cases o<;>rfl
theorem qjf:lz2 f k key (Sum.elim g h e)=Sum.elim (fun a=>lz2 f k key (g a)) (fun a=>lz2 f k key (h a)) e:=by cases e<;>rfl
theorem qhb (x:Exit):ly2 x (some s)=some (x,s):=rfl
theorem qjD (i:Nat):bkk i (Sum.elim g h e)=Sum.elim (fun a=>bkk i (g a)) (fun a=>bkk i (h a)) e:=by cases e<;>rfl
theorem qii (res:List ResultVar) (rt:List TypeId):fnn f k res rt (Sum.elim g h e)=Sum.elim (fun a=>fnn f k res rt (g a)) (fun a=>fnn f k res rt (h a)) e:=by cases e<;>rfl
end
section
variable {E:Orc} {α β γ:Type} {e:α⊕β}
theorem qgA {δ:Type} (g:α→Option γ) (h:β→Option γ) (F:γ→Option δ):(Sum.elim g h e).bind F=Sum.elim (fun a=>(g a).bind F) (fun a=>(h a).bind F) e:=by cases e<;>rfl
end
section
variable {E:Orc} {s:S} {o:Oper} {c:Prop} [Decidable c] {α β:Type} {v:Option α} {e:α⊕β} {ops l:List Oper} {A:List (List Nat)} {s0:S} {m:Nat} {acc:List Tx}
theorem qwr:xst Try.prog T pol E o true s=wst (xo Try.prog T pol E (pre pol s o.op) o.op) o.dst:=rfl
theorem qx4:xst Try.prog T pol E o false s=if q4U s o.dst=true then some (s.put o.dst (.tup [])) else none:=rfl
theorem qs0:xsF Try.prog T pol E o true s=alX E s o (alC pol s o.op) (wsF (xo Try.prog T pol E s o.op) s o):=rfl
theorem qtz:xsF Try.prog T pol E o false s=if q4U s o.dst=true then some (s.put o.dst (.tup []),(.tup [],[]),⟨[],[],[],[],[]⟩) else none:=rfl
theorem qsT:xr Try.prog T pol E ops [] s=some s:=rfl
theorem qoI:xr Try.prog T pol E ops (o::l) s=rs2 E ops (xgd Try.prog T pol E ops o s) l:=rfl
theorem qms:rs2 E ops (some s) l=xr Try.prog T pol E ops l s:=rfl
theorem qlE:rs2 E ops none l=none:=rfl
theorem qsh (x y:Option S):rs2 E ops (if c then x else y) l=if c then rs2 E ops x l else rs2 E ops y l:=Jb _ _ _
theorem qlG (g:α→Option S):rs2 E ops (v.bind g) l=v.bind fun a=>rs2 E ops (g a) l:=by cases v<;>rfl
theorem qoC:xdp Try.prog T pol E ops A s0 0 l s acc=if okP A 0 [] acc=true∧okX ops A s0 acc 0 acc=true∧okK ops A acc=true∧okN acc 0 acc=true then xr Try.prog T pol E ops l s else none:=by cases l<;>rfl
theorem qmY:xdp Try.prog T pol E ops A s0 (m+1) (o::l) s acc=qhE E ops A s0 m (xgF Try.prog T pol E ops o s) l acc:=rfl
theorem qkT (x:Tx):qhE E ops A s0 m (some (s,x)) l acc=xdp Try.prog T pol E ops A s0 m l s (acc++[x]):=rfl
theorem qjy:qhE E ops A s0 m none l acc=none:=rfl
theorem qmi (x y:Option (S×Tx)):qhE E ops A s0 m (if c then x else y) l acc=if c then qhE E ops A s0 m x l acc else qhE E ops A s0 m y l acc:=Jb _ _ _
theorem ql0 (g:α→Option (S×Tx)):qhE E ops A s0 m (v.bind g) l acc=v.bind fun a=>qhE E ops A s0 m (g a) l acc:=by cases v<;>rfl
theorem qop (g:FuncId) (zs:List (List Nat)) (rs:List R) (bl rw ln:List Nat):Ji E s g zs rs bl rw ln=(qbp s (bl++rw) ln zs rs).bind fun rs'=>(cvG s (bl++rw) (bl++rw) 0).bind fun G=>
  if(bl++rw).all (fun i=>(s.blk i).live)=true∧(bl++rw).Nodup∧ln.all (fun i=>(s.blk i).live && !(bl++rw).contains i)=true∧bl.length≤G.length∧(List.range G.length).all (fun j=>(lk G j .dead).isBlk==decide (j<bl.length))=true then cll (E (.fn g) bl.length rs' G) s bl rw ln else none:=rfl
end
theorem qmZ (g k:Nat) (a:List R) (G:List (Nat×B)):evo (.fn g) k a G=ev g k a G:=rfl
def q8Q (E:Orc) (f k:Nat) (args:List R) (G:List (Nat×B)):Option (R×List (Nat×B)):=(qE Try.prog pol f).bind fun bd=>q3E Try.prog T pol (D1 Try.prog T pol) E Lim f k args G bd
theorem qc {f n:Nat} {c:Code} {res:List ResultVar} {rt:List TypeId} (hb:qE Try.prog pol f=some ⟨c,n,res,rt⟩):q5D f=c:=by unfold q5D;rw[hb];rfl
theorem q9u {E:Orc} {f n:Nat} {c:Code} {res:List ResultVar} {rt:List TypeId} (hb:qE Try.prog pol f=some ⟨c,n,res,rt⟩) (hl:okL f c) (k:Nat) (args:List R) (G:List (Nat×B)) :
  q8Q E f k args G=if args.length≤n then fnn f k res rt (XE2 E f k c ⟨q1S args 0,G,G.length,n⟩) else none:=by
 unfold q8Q
 rw[hb,qxj]
 unfold q3E
 split
 ·show Option.bind (XEo E f k c _) _=_
  rw[q9Y c hl]
  rfl
 ·rfl
theorem qeA {f k:Nat} (hp:pol.pr f=none) (args:List R) (G:List (Nat×B)):ev f k args G=q8Q evo f k args G:=by rw[qb7,hp];rfl
theorem qP {f n:Nat} {c:Code} {res:List ResultVar} {rt:List TypeId} (hb:qE Try.prog pol f=some ⟨c,n,res,rt⟩) (hp:pol.pr f=none) (hl:okL f c) (k:Nat) (args:List R) (G:List (Nat×B)) :
  ev f k args G=if args.length≤n then fnn f k res rt (XE2 evo f k c ⟨q1S args 0,G,G.length,n⟩) else none:=by
 rw[qeA hp,q9u hb hl]
section
variable {σ ε:Type}
def itT (step:σ→Option (σ⊕ε)):Nat→σ→Option ε
 | 0,_=>none
 | n+1,x=>(step x).bind (Sum.elim (itT step n) some)
theorem q6w {step:σ→Option (σ⊕ε)}:∀{n m:Nat},n≤m→∀x r,itT step n x=some r→itT step m x=some r
 | 0,_,_,x,r,h=>by cases h
 | n+1,0,h,_,_,_=>by omega
 | n+1,m+1,h,x,r,hx=>by
  unfold itT at hx ⊢
  obtain⟨a,h1,h2⟩:=qxo.1 hx
  rw[h1,qxj]
  cases a with
  | inl y=>exact q6w (by omega) y r h2
  | inr e=>exact h2
def qT (step:σ→Option (σ⊕ε)) (x:σ):Option ε:=open Classical in if h:∃r n,itT step n x=some r then some (Classical.choose h) else none
theorem q52 {step:σ→Option (σ⊕ε)} {n:Nat} {x:σ} {r:ε} (h:itT step n x=some r):qT step x=some r:=by
 have hex:∃r n,itT step n x=some r:=⟨r,n,h⟩
 unfold qT
 rw[dif_pos hex]
 obtain⟨m,hm⟩:=Classical.choose_spec hex
 have h1:=q6w (Nat.le_max_left n m) _ _ h
 have h2:=q6w (Nat.le_max_right n m) _ _ hm
 rw[h1] at h2
 injection h2 with h2
 rw[←h2]
theorem q3q {step:σ→Option (σ⊕ε)} {x:σ} {r:ε} (h:qT step x=some r):∃n,itT step n x=some r:=by
 unfold qT at h
 split at h
 ·rename_i hex
  injection h with h
  obtain⟨m,hm⟩:=Classical.choose_spec hex
  exact⟨m,h ▸ hm⟩
 ·cases h
theorem qbY (step:σ→Option (σ⊕ε)) (x:σ):qT step x=(step x).bind (Sum.elim (qT step) some):=by
 refine q5E (fun r h=>?_) (fun r h=>?_)
 ·obtain⟨n,hn⟩:=q3q h
  cases n with
  | zero=>cases hn
  | succ n=>
   unfold itT at hn
   obtain⟨a,h1,h2⟩:=qxo.1 hn
   rw[h1,qxj]
   cases a with
   | inl y=>exact q52 h2
   | inr e=>exact h2
 ·obtain⟨a,h1,h2⟩:=qxo.1 h
  cases a with
  | inl y=>
   obtain⟨n,hn⟩:=q3q h2
   refine q52 (n:=n+1) ?_
   unfold itT
   rw[h1];exact hn
  | inr e=>
   refine q52 (n:=1) ?_
   unfold itT
   rw[h1];exact h2
end
theorem qk7 {F:S→XS} {σ ε:Type} {st:σ→S} {ex:ε→Exit×S} {step:σ→Option (σ⊕ε)} (hne:∀e,(ex e).1 ≠ .normal)
  (h:∀x,F (st x)=(step x).bind (Sum.elim (fun y=>some (.normal,st y)) (fun e=>some (ex e)))) (x:σ):Lim F (st x)=(qT step x).bind fun e=>some (ex e):=by
 have hit:∀(n:Nat) (x:σ),iter n F (st x)=(itT step n x).bind fun e=>some (ex e):=by
  intro n
  induction n with
  | zero=>intro x;rfl
  | succ n ih=>
   intro x
   unfold iter itT
   rw[h x]
   cases step x with
   | none=>rfl
   | some a=>
    cases a with
    | inl y=>exact ih y
    | inr e=>
     show sqD (iter n F) (ex e)=some (ex e)
     have:=hne e
     generalize ex e=q at this
     obtain⟨z,t⟩:=q
     cases z<;>first|exact absurd rfl this|rfl
 refine q5E (fun r hr=>?_) (fun r hr=>?_)
 ·obtain⟨n,hn⟩:=q4W hr
  rw[hit n x] at hn
  obtain⟨e,h1,h2⟩:=qxo.1 hn
  rw[q52 h1];exact h2
 ·obtain⟨e,h1,h2⟩:=qxo.1 hr
  obtain⟨n,hn⟩:=q3q h1
  refine q83 (n:=n) ?_
  rw[hit n x,hn];exact h2
theorem q6Q {E:Orc} {f k key:Nat} {c:Code} {σ ε:Type} {st:σ→S} {ex:ε→Exit×S} {step:σ→Option (σ⊕ε)} (hc:lbO f key=c) (hl:okL f c) (hne:∀e,(ex e).1 ≠ .normal)
  (h:∀x,lz2 f k key (XE2 E f k c (st x))=(step x).bind (Sum.elim (fun y=>some (.normal,st y)) (fun e=>some (ex e)))) (x:σ):XL2 E f k key (st x)=(qT step x).bind fun e=>some (ex e):=by
 refine qk7 hne (fun x=>?_) x
 rw[hc,q9Y c hl]
 exact h x
def xk (E:Orc) (f k key:Nat) (r:XS):XS:=r.bind fun p=>match p.1 with | .normal=>XL2 E f k key p.2|e=>some (e,p.2)
section
variable {E:Orc} {f k key:Nat} {s:S} {c:Prop} [Decidable c] {α β:Type} {o:Option α} {g:α→XS} {h:β→XS} {e:α⊕β}
theorem qdy:xk E f k key (some (.normal,s))=XL2 E f k key s:=rfl
theorem qkH (i:Nat):xk E f k key (some (.exit i,s))=some (.exit i,s):=rfl
theorem qnn:xk E f k key (some (.ret,s))=some (.ret,s):=rfl
theorem qlb:xk E f k key none=none:=rfl
theorem qmf (x y:XS):xk E f k key (if c then x else y)=if c then xk E f k key x else xk E f k key y:=Jb _ _ _
theorem qjw:xk E f k key (o.bind g)=o.bind fun a=>xk E f k key (g a):=by cases o<;>rfl
theorem qok:xk E f k key (Sum.elim g h e)=Sum.elim (fun a=>xk E f k key (g a)) (fun a=>xk E f k key (h a)) e:=by cases e<;>rfl
end
theorem qjU {E:Orc} {f k key:Nat} {c:Code} {s:S} (hc:lbO f key=c) (hl:okL f c):XL2 E f k key s=xk E f k key (lz2 f k key (XE2 E f k c s)):=by
 unfold XL2
 rw[qpg,hc,q9Y c hl]
 show(lz2 f k key (XE2 E f k c s)).bind _=_
 unfold xk
 congr 1
 funext p
 obtain⟨e,t⟩:=p
 cases e<;>first|rfl|(show Lim _ t=Lim _ t;rw[hc])
theorem q2b {α:Type} {c:Prop} [Decidable c] (x y:α):(if c then some x else some y)=some (if c then x else y):=by split<;>rfl
theorem zE {f key:Nat} {c b:Code} (hc:q5D f=c) (h:(qY key c).getD .skip=b):lbO f key=b:=by unfold lbO;rw[hc];exact h
theorem qR {f:Nat} {c b:Code} (hl:okL f c) (hb:b∈Zk c):okL f b:=⟨fun x hx=>hl.lo x ((q54 c b hb).1 x hx),fun q hq=>hl.ro q ((q54 c b hb).2 q hq)⟩
section
variable {f k key:Nat} {s:S} {c:Prop} [Decidable c] {α β:Type} {o:Option α} {g:α→XS} {h:β→XS} {e:α⊕β}
end
section
variable {σ ε:Type} (f k:Nat) (enc:σ→List R×List (Nat×B)) (ex:ε→R×List (Nat×B))
def ovr (F:σ→Option ε):Orc:=fun g k' args G=>open Classical in if h:(g = .fn f∧k'=k)∧∃y,enc y=(args,G) then(F (Classical.choose h.2)).bind fun e=>some (ex e) else evo g k' args G
def q5O (y:σ):Option ε:=open Classical in if h:∃e,ev f k (enc y).1 (enc y).2=some (ex e) then some (Classical.choose h) else none
variable {f k enc ex}
theorem qdZ (hi:∀y z,enc y=enc z→y=z) (F:σ→Option ε) (y:σ):ovr f k enc ex F (.fn f) k (enc y).1 (enc y).2=(F y).bind fun e=>some (ex e):=by
 have h:((Fx.fn f=Fx.fn f)∧k=k)∧∃z,enc z=((enc y).1,(enc y).2):=⟨⟨rfl,rfl⟩,y,rfl⟩
 unfold ovr
 rw[dif_pos h]
 rw[hi _ _ ((Classical.choose_spec h.2).trans rfl)]
theorem qaA (F:σ→Option ε) (g k':Nat) (a:List R) (G:List (Nat×B)) (h:g≠f):ovr f k enc ex F (.fn g) k' a G=ev g k' a G:=by
 unfold ovr
 rw[dif_neg (fun h'=>h (by injection h'.1.1))]
 rfl
theorem qhy (F:σ→Option ε) (g:Nat) (asg bd:Code) (k':Nat) (a:List R) (G:List (Nat×B)):ovr f k enc ex F (.rd g asg bd) k' a G=evr g asg bd k' a G:=by
 unfold ovr
 rw[dif_neg (fun h'=>by cases h'.1.1)]
 rfl
def q7n (f k:Nat) (enc:σ→List R×List (Nat×B)) (ex:ε→R×List (Nat×B)) (step:(σ→Option ε)→σ→Option ε):Prop:=
 ∀(E:Orc) (F:σ→Option ε),(∀y,E (.fn f) k (enc y).1 (enc y).2=(F y).bind fun e=>some (ex e))→(∀g k' a G,g≠f→E (.fn g) k' a G=ev g k' a G)→(∀g asg bd k' a G,E (.rd g asg bd) k' a G=evr g asg bd k' a G)→
  ∀y,q8Q E f k (enc y).1 (enc y).2=(step F y).bind fun e=>some (ex e)
theorem q6h {E E':Orc} (h:OLe E E') (L:(S→XS)→S→XS) (hL:LLe L Lim) {f k:Nat} {args:List R} {G:List (Nat×B)} {bd:Bd} {x:R×List (Nat×B)} (hb:qE Try.prog pol f=some bd) (hx:q3E Try.prog T pol (D1 Try.prog T pol) E L f k args G bd=some x):q8Q E' f k args G=some x:=by
 unfold q8Q
 rw[hb,qxj]
 exact q6d q5p h hL hx
theorem qj3 (hp:pol.pr f=none) (hi:∀y z,enc y=enc z→y=z) {step:(σ→Option ε)→σ→Option ε} (hs:q7n f k enc ex step) :
  ∀(n:Nat) (y:σ) (z:R×List (Nat×B)),xf Try.prog T pol (D1 Try.prog T pol) n (.fn f) k (enc y).1 (enc y).2=some z→∃e,z=ex e:=by
 intro n
 induction n with
 | zero=>intro y z h;cases h
 | succ n ih=>
  intro y z h
  obtain⟨F,hF⟩:∃F:σ→Option ε,∀y z,xf Try.prog T pol (D1 Try.prog T pol) n (.fn f) k (enc y).1 (enc y).2=some z→(F y).bind (fun e=>some (ex e))=some z:=by
   refine⟨fun y=>open Classical in if h:∃e,xf Try.prog T pol (D1 Try.prog T pol) n (.fn f) k (enc y).1 (enc y).2=some (ex e) then some (Classical.choose h) else none,fun y z hz=>?_⟩
   obtain⟨e,rfl⟩:=ih y z hz
   have hex:∃e,xf Try.prog T pol (D1 Try.prog T pol) n (.fn f) k (enc y).1 (enc y).2=some (ex e):=⟨e,hz⟩
   simp only[dif_pos hex,qxj]
   rw[←Classical.choose_spec hex,hz]
  have hle:OLe (xf Try.prog T pol (D1 Try.prog T pol) n) (ovr f k enc ex F):=by
   intro g k' args G x hx
   unfold ovr
   split
   ·rename_i hh
    obtain⟨⟨rfl,rfl⟩,hy⟩:=hh
    have e1:=Classical.choose_spec hy
    refine hF _ _ ?_
    rw[e1];exact hx
   ·exact qcB q5p _ _ _ _ _ hx
  have h2:∃bd,qE Try.prog pol f=some bd∧q3E Try.prog T pol (D1 Try.prog T pol) (xf Try.prog T pol (D1 Try.prog T pol) n) (iter n) f k (enc y).1 (enc y).2 bd=some z:=by
   have h3:fnx Try.prog T pol (D1 Try.prog T pol) (xf Try.prog T pol (D1 Try.prog T pol) n) (iter n) f k (enc y).1 (enc y).2=some z:=h
   unfold fnx at h3
   rw[hp] at h3
   exact qxo.1 h3
  obtain⟨bd,hb,hx⟩:=h2
  have h4:=q6h hle (iter n) (q8K n) hb hx
  rw[hs _ F (qdZ hi F) (qaA F) (qhy F) y] at h4
  obtain⟨e,-,h5⟩:=qxo.1 h4
  injection h5 with h5
  exact⟨e,h5.symm⟩
theorem qal (hp:pol.pr f=none) (hi:∀y z,enc y=enc z→y=z) {step:(σ→Option ε)→σ→Option ε} (hs:q7n f k enc ex step) (y:σ):ev f k (enc y).1 (enc y).2=(q5O f k enc ex y).bind fun e=>some (ex e):=by
 unfold q5O
 split
 ·rename_i h
  rw[qxj]
  exact Classical.choose_spec h
 ·rename_i h
  cases hv:ev f k (enc y).1 (enc y).2 with
  | none=>rfl
  | some z=>
   obtain⟨n,hn⟩:=q4l (show EE Try.prog T pol (D1 Try.prog T pol) (.fn f) k (enc y).1 (enc y).2=some z from hv)
   obtain⟨e,rfl⟩:=qj3 hp hi hs n y z hn
   exact absurd ⟨e,hv⟩ h
theorem qmm (hp:pol.pr f=none) (hi:∀y z,enc y=enc z→y=z) (hj:∀d e,ex d=ex e→d=e) {step:(σ→Option ε)→σ→Option ε} (hs:q7n f k enc ex step) (y:σ):q5O f k enc ex y=step (q5O f k enc ex) y:=by
 have h1:=hs evo (q5O f k enc ex) (qal hp hi hs) (fun _ _ _ _ _=>rfl) (fun _ _ _ _ _ _=>rfl) y
 rw[←qeA hp,qal hp hi hs y] at h1
 cases h2:q5O f k enc ex y with
 | none=>
  rw[h2] at h1
  cases h3:step (q5O f k enc ex) y with
  | none=>rfl
  | some e=>rw[h3] at h1;cases h1
 | some d=>
  rw[h2] at h1
  cases h3:step (q5O f k enc ex) y with
  | none=>rw[h3] at h1;cases h1
  | some e=>
   rw[h3] at h1
   injection h1 with h1
   rw[hj _ _ h1]
end
end
end Go.Proofs.Ytcdegieiflmaeaa.Vc
