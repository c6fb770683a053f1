/- Part 4 of a proof. -/
import Derived.Test.YtcdegieiflmaeaaB3
import Derived.KernelRfl
set_option linter.unusedVariables false
set_option linter.unusedSimpArgs false
set_option linter.defProp false
set_option linter.unusedSectionVars false
set_option linter.unnecessarySimpa false
namespace Go.Proofs.Ytcdegieiflmaeaa.Vc
noncomputable section
open Go.RowKit
section
variable {α:Type} {E:α→List D} {n:Nat}
theorem qdQ (h:∀x,(E x).length=n):∀(v:List α) (a:Nat),(v.flatMap E).drop (a*n)=(v.drop a).flatMap E
 | [],a=>by simp
 | x::v,0=>by simp
 | x::v,a+1=>by
  rw[qwu,show(a+1)*n=(E x).length+a*n by rw[h,Nat.add_mul];omega,List.drop_length_add_append]
  exact qdQ h v a
theorem qdo (h:∀x,(E x).length=n):∀(v:List α) (a:Nat),(v.flatMap E).take (a*n)=(v.take a).flatMap E
 | [],a=>by simp
 | x::v,0=>by simp
 | x::v,a+1=>by
  rw[qwu,show(a+1)*n=(E x).length+a*n by rw[h,Nat.add_mul];omega,List.take_length_add_append,List.take_succ_cons,qwu,qdo h v a]
theorem qlh (v w:List α):v.flatMap E++w.flatMap E=(v++w).flatMap E:=List.flatMap_append.symm
theorem qk6 (v w:List α):(v.flatMap E).map C.d++(w.flatMap E).map C.d=((v++w).flatMap E).map C.d:=by rw[←List.map_append,qlh]
theorem q7y (v:List α) (x:α):(v.flatMap E).map C.d++(E x).map C.d=((v++[x]).flatMap E).map C.d:=by simp
theorem qbv {β:Type}:∀(ys p q:List β) (o:Nat),o+ys.length≤p.length→spl (p++q) o ys=spl p o ys++q
 | [],p,q,o,_=>rfl
 | y::ys,p,q,o,h=>by
  rw[qvC] at h
  rw[spl,spl,List.set_append_left _ _ (by omega),qbv ys _ q (o+1) (by rw[qwb];omega)]
theorem q9j {β:Type}:∀(ys p q:List β) (o:Nat),spl (p++q) (p.length+o) ys=p++spl q o ys
 | [],p,q,o=>rfl
 | y::ys,p,q,o=>by
  rw[spl,spl,List.set_append_right _ _ (by omega),show p.length+o-p.length=o by omega,show p.length+o+1=p.length+(o+1) by omega,q9j ys]
theorem qa0 {β:Type}:∀(ys p pre:List β),p.length=ys.length→spl (pre++p) pre.length ys=pre++ys
 | [],p,pre,h=>by rw[qvK h];rfl
 | y::ys,[],pre,h=>by cases h
 | y::ys,x::p,pre,h=>by
  have e:(pre++x::p).set pre.length y=(pre++[y])++p:=by rw[List.set_append_right _ _ (qvH _),Nat.sub_self];simp
  rw[spl,e,show pre.length+1=(pre++[y]).length by simp,qa0 ys p _ (by simpa using h)]
  simp
theorem qbH {β:Type}:∀(ys:List β) (o:Nat),spl [] o ys=[]
 | [],o=>rfl
 | y::ys,o=>by rw[spl,List.set_nil,qbH ys]
theorem qh9 (h:∀x,(E x).length=n):∀(v:List α) (i:Nat) (x:α),spl (v.flatMap E) (i*n) (E x)=(v.set i x).flatMap E
 | [],i,x=>by rw[List.flatMap_nil,qbH];rfl
 | y::v,0,x=>by
  rw[qwu,Nat.zero_mul,qbv _ _ _ _ (by rw[h,h];omega)]
  have:=qa0 (E x) (E y) [] (by rw[h,h])
  simp only[qvL,qw9] at this
  rw[this];rfl
 | y::v,i+1,x=>by
  rw[qwu,show(i+1)*n=(E y).length+i*n by rw[h,Nat.add_mul];omega,q9j,qh9 h v i x]
  rfl
theorem q56 {β γ:Type} (f:β→γ):∀(ys cs:List β) (o:Nat),spl (cs.map f) o (ys.map f)=(spl cs o ys).map f
 | [],cs,o=>rfl
 | y::ys,cs,o=>by rw[qvO,spl,spl,←List.map_set,q56 f ys]
theorem qjH (h:∀x,(E x).length=n) (v:List α) (i:Nat) (x:α):spl ((v.flatMap E).map C.d) (i*n) ((E x).map C.d)=((v.set i x).flatMap E).map C.d:=by rw[q56,qh9 h]
theorem qcy (h:∀x,(E x).length=n) {fo:Nat} {d:D} (g:α→α) (hf:fo<n) (hg:∀x,E (g x)=(E x).set fo d):∀(v:List α) (i:Nat),(v.flatMap E).set (i*n+fo) d=(v.modify i g).flatMap E
 | [],i=>by simp
 | y::v,0=>by
  rw[qwu,Nat.zero_mul,qvP,List.set_append_left _ _ (by rw[h];exact hf),←hg]
  simp
 | y::v,i+1=>by
  rw[qwu,show(i+1)*n+fo=(E y).length+(i*n+fo) by rw[h,Nat.add_mul];omega,List.set_append_right _ _ (by omega),show(E y).length+(i*n+fo)-(E y).length=i*n+fo by omega,qcy h g hf hg v i]
  simp
end
theorem q0z {α:Type} {E:α→List D} {n:Nat} (h:∀x,(E x).length=n) (hn:0<n) (hi:∀x y,E x=E y→x=y):∀(v w:List α),v.flatMap E=w.flatMap E→v=w
 | [],[],_=>rfl
 | [],y::w,e=>by
  have:=congrArg List.length e
  rw[qwu,qvy,h] at this
  simp at this;omega
 | x::v,[],e=>by
  have:=congrArg List.length e
  rw[qwu,qvy,h] at this
  simp at this;omega
 | x::v,y::w,e=>by
  rw[qwu,qwu] at e
  obtain⟨h1,h2⟩:=List.append_inj e (by rw[h,h])
  rw[hi x y h1,q0z h hn hi v w h2]
theorem q9i (a b:List D):(a.map C.d=b.map C.d)=(a=b):=by
 refine propext ⟨fun h=>?_,fun h=>by rw[h]⟩
 induction a generalizing b with
 | nil=>cases b with|nil=>rfl|cons=>cases h
 | cons x a ih=>
  cases b with
  | nil=>cases h
  | cons y b=>
   rw[qvO,qvO] at h
   injection h with h1 h2
   injection h1 with h1
   rw[h1,ih b h2]
def eI (x:Int):List D:=[.int .i64 x]
def eS (x:ByteArray):List D:=[.str x]
def eU8 (x:Int):List D:=[.int .u8 x]
def eL {α:Type} (n:Nat) (E:α→List D) (v:List α):List D:=[.sl n v.length (v.flatMap E)]
theorem qd2 {α β γ:Type} (f:β→γ) (o:Option α) (g:α→Option β):(o.bind g).map f=o.bind fun x=>(g x).map f:=by cases o<;>rfl
theorem qpb (P:Program) (T:Ty) (d:Nat) (t:TypeId) (x y:R):eqR P T (d+1) t x y =
  match T.k t,x,y with
  | .int _,.c (.d (.int k a)),.c (.d (.int k' b))=>if k=k' then some (a==b) else none
  | .bool,.c (.d (.bool a)),.c (.d (.bool b))=>some (a==b)
  | .str,.c (.d (.str a)),.c (.d (.str b))=>some (a.toList==b.toList)
  | .st fs,.agg xs,.agg ys=>if q8J P t=true then qeL T (eqR P T d) xs ys fs else none
  | .arr n e,.agg xs,.agg ys=>if qij P t=true∧T.k e ≠ .other then qeL T (eqR P T d) xs ys (qcn (T.sz e) e n 0) else none
  | _,_,_=>none:=by
 generalize hk:T.k t=kd
 unfold eqR
 rw[hk]
 cases kd<;>first
  | rfl
  | (rcases x with (c|_|_|_)<;>first
    | rfl
    | (rcases y with (c' | _|_|_)<;>first
      | rfl
      | (cases c<;>first
        | rfl
        | (cases c'<;>first
          | rfl
          | (rename_i d1 d2;cases d1<;>first
            | rfl
            | (cases d2<;>rfl))))))
section
variable {α β:Type} {c:Prop} [Decidable c] (a b:List α)
theorem qjk (f:α→Bool):(if c then a else b).any f=if c then a.any f else b.any f:=by split<;>rfl
theorem qjA (f:α→Bool):(if c then a else b).all f=if c then a.all f else b.all f:=by split<;>rfl
theorem qk4 (f:α→β):(if c then a else b).map f=if c then a.map f else b.map f:=by split<;>rfl
theorem q7Y:(if c then a else b).isEmpty=if c then a.isEmpty else b.isEmpty:=by split<;>rfl
theorem q7k [BEq α] (x:α):(if c then a else b).contains x=if c then a.contains x else b.contains x:=by split<;>rfl
end
def qrL (op:UnOp) (r:R) (s:S):RS:=
 match op,r with
 | .not,.c (.d (.bool b))=>some (.c (.d (.bool (!b))),s)
 | .neg,.c (.d (.int k n))=>some (.c (.d (.int k (k.wrap (0-n)))),s)
 | _,_=>none
theorem qnJ (s:S) (op:UnOp) (x:Operand):xUn s op x=qrL op (s.ev x) s:=by
 unfold xUn qrL
 generalize s.ev x=r
 cases op<;>first
  | rfl
  | (cases r with
     | c c=>cases c with
      | d d=>cases d<;>rfl
      | _=>rfl
     | _=>rfl)
def lkq (ok:Bool) (z:R):Option (Nat×R×Nat)→Option R
 | some q=>some (tt2 q.2.1 ok true)
 | none=>some (tt2 z ok false)
theorem qau (T:Ty) (s:S) (t:TypeId) (x y:Operand) (ok:Bool):q1c T s t x y ok =
  match T.k t,q2Y s x,(s.ev y).key with
  | .mp k e,some es,some kv=>if plK (T.k k) kv=true∧es.all (fun q=>plK (T.k k) q.1)=true then(zR T e).bind fun z=>lkq ok z (fnd kv es 0) else none
  | _,_,_=>none:=by
 unfold q1c
 generalize T.k t=kd
 generalize q2Y s x=m
 generalize (s.ev y).key=v
 cases kd<;>first
  | rfl
  | (cases m<;>first
    | rfl
    | (cases v<;>first
      | rfl
      | (simp only
         split
         ·congr 1
          funext z
          cases fnd _ _ _<;>rfl
         ·rfl)))
theorem qby (xs ys:List C):(xs++ys).flatMap C.rows=xs.flatMap C.rows++ys.flatMap C.rows:=List.flatMap_append
def qm {α:Type} (a b:Option α):Prop:=∀r,a=some r→b=some r
theorem qm.refl {α:Type} (a:Option α):qm a a:=fun _ h=>h
theorem qm.none {α:Type} (a:Option α):qm Option.none a:=fun _ h=>by cases h
theorem qm.bind {α β:Type} {a b:Option α} {f g:α→Option β} (h:qm a b) (hf:∀x,qm (f x) (g x)):qm (a.bind f) (b.bind g):=fun r hr=>by
 obtain⟨x,h1,h2⟩:=qvw.1 hr
 rw[h x h1]
 exact hf x r h2
theorem qm.ite {α:Type} {c:Prop} [Decidable c] {a b a' b':Option α} (h:qm a a') (h':qm b b'):qm (if c then a else b) (if c then a' else b'):=by
 split
 ·exact h
 ·exact h'
theorem qm.sum {α β γ:Type} {f f':α→Option γ} {g g':β→Option γ} {e:α⊕β} (h:∀x,qm (f x) (f' x)) (h':∀x,qm (g x) (g' x)):qm (Sum.elim f g e) (Sum.elim f' g' e):=by
 cases e with
 | inl x=>exact h x
 | inr x=>exact h' x
theorem qm.lim {σ ε:Type} {f g:σ→Option (σ⊕ε)} {n:Nat} {x:σ} (h:∀x,qm (f x) (g x)):qm (itT f n x) (zc g x):=by
 have key:∀(n:Nat) (x:σ),qm (itT f n x) (itT g n x):=by
  intro n
  induction n with
  | zero=>intro x r hr;cases hr
  | succ n ih=>
   intro x
   unfold itT
   refine qm.bind (h x) (fun y=>?_)
   cases y with
   | inl y=>exact ih y
   | inr e=>exact qm.refl _
 exact fun r hr=>q4Z (key n x r hr)
def itR {σ ε:Type} (step:(σ→Option ε)→σ→Option ε):Nat→σ→Option ε
 | 0,_=>none
 | n+1,x=>step (itR step n) x
theorem qm.rec {σ ε:Type} {c s:(σ→Option ε)→σ→Option ε} {f:σ→Option ε} (hs:∀x,f x=s f x) (h:∀F F',(∀y,qm (F y) (F' y))→∀x,qm (c F x) (s F' x)):∀(n:Nat) (x:σ),qm (itR c n x) (f x):=by
 intro n
 induction n with
 | zero=>intro x r hr;cases hr
 | succ n ih=>
  intro x
  rw[hs x]
  exact h _ _ ih x
def spr (cs:List C) (o:Nat) (ys:List C):List C:=spl cs o ys
theorem qbZ (t:TypeId) (cs ys:List C) (o:Nat):(B.blk t cs).set o ys = .blk t (spl cs o ys):=rfl
theorem qec (e:TypeId) (sz:Nat) (cs ys:List C) (o:Nat):(B.row e sz cs).set o ys = .row e sz (spr cs o ys):=rfl
theorem qf6 (c:C) (cs ys:List C) (o:Nat):spr (c::cs) o ys=spl (c::cs) o ys:=rfl
def xsl (T:Ty) (s:S) (t:TypeId) (x:R) (lo hi:Option Operand):RS:=
 match x,T.k t with
 | .c (.d (.str b)),.str=>
  match s.bd lo 0,s.bd hi b.size with
  | some l,some h=>if 0≤l∧l≤h∧h≤b.size then some (.c (.d (.str (b.extract l.toNat h.toNat))),s) else none
  | _,_=>none
 | .c (.d (.sl sz n cs)),.sl e=>
  if T.k e ≠ .other∧T.sz e=sz then
   match s.bd lo 0,s.bd hi n with
   | some l,some h=>if 0≤l∧l≤h∧h≤n then some (.c (.d (.sl sz (h.toNat-l.toNat) ((cs.drop (l.toNat*sz)).take ((h.toNat-l.toNat)*sz)))),s) else none
   | _,_=>none
  else none
 | .c (.own id sz off n),.sl e=>
  if T.k e ≠ .other∧T.sz e=sz then
   match s.bd lo 0,s.bd hi n with
   | some l,some h=>if 0≤l∧l≤h∧h≤n then(if l=0∨l<n then some (.c (.own id sz (off+l.toNat) (h.toNat-l.toNat)),s) else some (.c (.d (.sl sz 0 [])),s)) else none
   | _,_=>none
  else none
 | .c .nils,.sl e=>
  if T.k e ≠ .other then
   match s.bd lo 0,s.bd hi 0 with
   | some l,some h=>if l=0∧h=0 then some (.c .nils,s) else none
   | _,_=>none
  else none
 | _,_=>none
theorem qco (T:Ty) (s:S) (t:TypeId) (x:Operand) (lo hi:Option Operand):q7l T s t x lo hi none=xsl T s t (s.ev x) lo hi:=by
 unfold q7l xsl
 generalize s.ev x=r
 generalize T.k t=kd
 cases r with
 | c c=>
  cases c with
  | d d=>cases d<;>cases kd<;>rfl
  | _=>cases kd<;>rfl
 | _=>rfl
section
variable {T:Ty} {s:S} {t:TypeId} {lo hi:Option Operand}
theorem qjP {b:ByteArray} (hk:T.k t = .str):xsl T s t (.c (.d (.str b))) lo hi =
  match s.bd lo 0,s.bd hi b.size with
  | some l,some h=>if 0≤l∧l≤h∧h≤b.size then some (.c (.d (.str (b.extract l.toNat h.toNat))),s) else none
  | _,_=>none:=by unfold xsl;rw[hk]
theorem qkd {id sz off n:Nat}:xsl T s t (.c (.own id sz off n)) none hi =
  match T.k t with
  | .sl e=>if T.k e ≠ .other∧T.sz e=sz then
   match s.bd hi n with
   | some h=>if 0≤h∧h≤n then some (.c (.own id sz off (min h.toNat n)),s) else none
   | _=>none
   else none
  | _=>none:=by
 unfold xsl
 cases T.k t<;>try rfl
 dsimp only[S.bd]
 split
 ·split
  ·rename_i l h h1 h2
   injection h1 with h1
   subst h1
   rw[h2]
   dsimp only
   by_cases hc:0≤h∧h≤n
   ·rw[if_pos ⟨Int.le_refl _,hc⟩,if_pos (.inl rfl),if_pos hc,show min h.toNat n=h.toNat by omega]
    rfl
   ·rw[if_neg (fun q=>hc q.2),if_neg hc]
  ·rename_i h1
   split
   ·rename_i h h2
    exact absurd h2 (h1 0 h rfl)
   ·rfl
 ·rfl
end
def qoj {α:Type} (s:S) (E:α→List D) (n:Nat) (v:List α) (l h:Option Int):RS:=
 match l,h with
 | some l,some h=>if 0≤l∧l≤h∧h≤v.length then some (.c (.d (.sl n ((v.drop l.toNat).take (h.toNat-l.toNat)).length (((v.drop l.toNat).take (h.toNat-l.toNat)).flatMap E))),s) else none
 | _,_=>none
theorem qgH {α:Type} {E:α→List D} {n:Nat} (h:∀x,(E x).length=n) {T:Ty} {s:S} {t e:TypeId} (v:List α) (lo hi:Option Operand) (hk:T.k t = .sl e) (hz:T.sz e=n) (ho:T.k e ≠ .other) :
  xsl T s t (.c (.d (.sl n v.length (v.flatMap E)))) lo hi=qoj s E n v (s.bd lo 0) (s.bd hi v.length):=by
 unfold xsl
 simp only[hk]
 rw[if_pos ⟨ho,hz⟩]
 unfold qoj
 cases s.bd lo 0 with
 | none=>rfl
 | some l=>
  cases s.bd hi v.length with
  | none=>rfl
  | some h'=>
   simp only
   split
   ·rename_i hc
    rw[qdQ h,qdo h,qvU,qwc,Nat.min_eq_left (by omega)]
   ·rfl
abbrev dI (n:Int):C:=C.d (D.int .i64 n)
abbrev dS (s:ByteArray):C:=C.d (D.str s)
abbrev dL {α:Type} (n:Nat) (E:α→List D) (v:List α):C:=C.d (D.sl n v.length (v.flatMap E))
abbrev dO (i sz n:Nat):C:=C.own i sz 0 n
abbrev dP (i:Nat):C:=C.ptr i 0
abbrev rI (n:Int):R:=R.c (C.d (D.int .i64 n))
abbrev rS (s:ByteArray):R:=R.c (C.d (D.str s))
abbrev rB (b:Bool):R:=R.c (C.d (D.bool b))
abbrev rL {α:Type} (n:Nat) (E:α→List D) (v:List α):R:=R.c (C.d (D.sl n v.length (v.flatMap E)))
abbrev rO (i sz n:Nat):R:=R.c (C.own i sz 0 n)
abbrev rP (i:Nat):R:=R.c (C.ptr i 0)
abbrev bR {α:Type} (e sz:Nat) (E:α→List D) (v:List α):B:=B.row e sz ((v.flatMap E).map C.d)
theorem XLs {E:Orc} {f k key:Nat} {c:Code} {σ ε:Type} {st:σ→S} {ex:ε→XS} {step:σ→Option (σ⊕ε)} (hc:lbO f key=c) (hl:okL f c) (hne:∀e,∃p,ex e=some p∧p.1 ≠ .normal)
  (h:∀x,lz2 f k key (XE2 E f k c (st x))=(step x).bind (Sum.elim (fun y=>some (.normal,st y)) ex)) (x:σ):XL2 E f k key (st x)=(zc step x).bind ex:=by
 obtain⟨g,hg⟩:∃g:ε→Exit×S,∀e,ex e=some (g e)∧(g e).1 ≠ .normal:=⟨fun e=>Classical.choose (hne e),fun e=>Classical.choose_spec (hne e)⟩
 obtain rfl:ex=fun e=>some (g e):=funext fun e=>(hg e).1
 exact q5Q (ex:=g) hc hl (fun e=>(hg e).2) h x
theorem q3z {E:Orc} {f k key:Nat} {c:Code} {A1 ε:Type} {st:A1→S} {ex:ε→XS} {step:A1→Option ((A1)⊕ε)} (hc:lbO f key=c) (hl:okL f c) (hne:∀e,∃p,ex e=some p∧p.1 ≠ .normal)
  (h:∀a1,lz2 f k key (XE2 E f k c (st a1))=(step a1).bind (Sum.elim (fun y=>some (.normal,st y)) ex)) (a1:A1):XL2 E f k key (st a1)=(zc step a1).bind ex:=
 XLs (st:=fun y=>st y) hc hl hne (fun a1=>h a1) a1
theorem qks {E:Orc} {f k key:Nat} {c:Code} {A1 A2 ε:Type} {st:A1→A2→S} {ex:ε→XS} {step:(A1×A2)→Option ((A1×A2)⊕ε)} (hc:lbO f key=c) (hl:okL f c) (hne:∀e,∃p,ex e=some p∧p.1 ≠ .normal)
  (h:∀a1 a2,lz2 f k key (XE2 E f k c (st a1 a2))=(step (a1,a2)).bind (Sum.elim (fun y=>some (.normal,st y.1 y.2)) ex)) (a1:A1) (a2:A2):XL2 E f k key (st a1 a2)=(zc step (a1,a2)).bind ex:=
 XLs (st:=fun y=>st y.1 y.2) hc hl hne (fun⟨a1,a2⟩=>h a1 a2) (a1,a2)
theorem qqY {E:Orc} {f k key:Nat} {c:Code} {A1 A2 A3 ε:Type} {st:A1→A2→A3→S} {ex:ε→XS} {step:(A1×A2×A3)→Option ((A1×A2×A3)⊕ε)} (hc:lbO f key=c) (hl:okL f c) (hne:∀e,∃p,ex e=some p∧p.1 ≠ .normal)
  (h:∀a1 a2 a3,lz2 f k key (XE2 E f k c (st a1 a2 a3))=(step (a1,a2,a3)).bind (Sum.elim (fun y=>some (.normal,st y.1 y.2.1 y.2.2)) ex)) (a1:A1) (a2:A2) (a3:A3):XL2 E f k key (st a1 a2 a3)=(zc step (a1,a2,a3)).bind ex:=
 XLs (st:=fun y=>st y.1 y.2.1 y.2.2) hc hl hne (fun⟨a1,a2,a3⟩=>h a1 a2 a3) (a1,a2,a3)
def dzU (Q:TypeId→List Nat):B→B
 | .row e sz cs => .row e sz (dzc (Q e) [] cs)
 | b=>b
theorem qll (z:Nat) {c:C} (h:c.isNils=false):dz z c=c:=by
 cases c<;>first|rfl|cases h
theorem q7t (zs0:List Nat):∀{cs:List C} (zs:List Nat),cs.any C.isNils=false→dzc zs0 zs cs=cs
 | [],zs,_=>by cases zs<;>rfl
 | c::cs,zs,h=>by
  rw[List.any_cons,Bool.or_eq_false_iff] at h
  cases zs with
  | nil=>rw[dzc,qll _ h.1,q7t zs0 _ h.2]
  | cons z zs=>rw[dzc,qll _ h.1,q7t zs0 _ h.2]
theorem qps (Q:TypeId→List Nat) (b:B):dzB Q b=dzU Q b:=by
 cases b with
 | row e sz cs=>
  unfold dzB dzU
  simp only
  split
  ·rfl
  ·rename_i h
   rw[q7t _ _ (by simpa using h)]
 | _=>rfl
theorem qlT (Q:TypeId→List Nat) (b:B) (h:b.nilr=false):dzU Q b=b:=by
 cases b with
 | row e sz cs=>unfold dzU;simp only;rw[q7t _ _ h]
 | _=>rfl
theorem qlt (tm:List (Nat×R)) (hp:List (Nat×B)) (nx n:Nat) (Q:TypeId→List Nat):S.dzr (S.mk tm hp nx n) Q=S.mk tm (hp.map fun x=>(x.1,dzU Q x.2)) nx n:=by
 unfold S.dzr
 split
 ·simp only[qps]
 ·rename_i h
  congr 1
  have h2:∀x∈hp,x.2.nilr=false:=fun x hx=>by
   cases hb:x.2.nilr with
   | false=>rfl
   | true=>exact absurd (qwk.2 ⟨x,hx,hb⟩) h
  refine(List.map_id' hp).symm.trans (List.map_congr_left fun x hx=>?_)
  rw[qlT Q x.2 (h2 x hx)]
theorem qi7 (Q:TypeId→List Nat) (e sz:Nat) (cs:List C):dzU Q (.row e sz cs) = .row e sz (dzc (Q e) [] cs):=rfl
theorem qjx (Q:TypeId→List Nat) (t:Nat) (cs:List C):dzU Q (.blk t cs) = .blk t cs:=rfl
theorem qoe (Q:TypeId→List Nat) (o:AO):dzU Q (.ob o) = .ob o:=rfl
theorem qfy (Q:TypeId→List Nat):dzU Q .dead = .dead:=rfl
theorem qj9 {α:Type} (x:α):Option.toArray (some x)=[x].toArray:=rfl
theorem qj5 {α:Type}:Option.toArray (none:Option α)=([]:List α).toArray:=rfl
theorem qnz {α:Type} (l m:List α):l.toArray++m.toArray=(l++m).toArray:=by simp
theorem qiZ {α:Type} (l:List α):Array.toList l.toArray=l:=rfl
end
noncomputable section
open Go.RowKit
set_option maxRecDepth 20000
def mpE {κ ν:Type} (kE:κ→Value) (vE:ν→R):List (κ×ν)→Nat→List (Value×R×Nat)
 | [],_=>[]
 | p::M,i=>(kE p.1,vE p.2,i)::mpE kE vE M (i+1)
def mpB {κ ν:Type} (kE:κ→Value) (vE:ν→R) (M:List (κ×ν)):AO := .mp (mpE kE vE M 0) M.length
def qtH (k:IntKind) (n:Int):Value := .int k n
def Qc (s:ByteArray):Value := .string s
def qra (b:Bool):Value := .bool b
section
variable {κ ν:Type} [DecidableEq κ]
def q6G (M:List (κ×ν)) (k:κ):Nat:=match M with
 | []=>0
 | p::M=>if k=p.1 then 0 else q6G M k+1
def Qz (z:ν) (M:List (κ×ν)) (k:κ):ν:=match M with
 | []=>z
 | p::M=>if k=p.1 then p.2 else Qz z M k
def J3 (M:List (κ×ν)) (k:κ):Bool:=match M with
 | []=>false
 | p::M=>if k=p.1 then true else J3 M k
def q2e (M:List (κ×ν)) (k:κ) (v:ν):List (κ×ν):=match M with
 | []=>[(k,v)]
 | p::M=>if k=p.1 then(k,v)::M else p::q2e M k v
end
section
variable {κ ν:Type} {kE:κ→Value} {vE:ν→R}
theorem qik:∀(M:List (κ×ν)) (i:Nat),(mpE kE vE M i).length=M.length
 | [],_=>rfl
 | p::M,i=>by rw[mpE,qvC,qik M,qvC]
theorem qjD {q:Value×R×Nat}:∀{M:List (κ×ν)} {i:Nat},q∈mpE kE vE M i→∃p∈M,q.1=kE p.1∧q.2.1=vE p.2
 | [],_,h=>by simp[mpE] at h
 | p::M,i,h=>by
  rw[mpE] at h
  rcases qvN.1 h with rfl|h
  ·exact⟨p,qvG,rfl,rfl⟩
  ·obtain⟨p',h1,h2⟩:=qjD h
   exact⟨p',qvz _ h1,h2⟩
theorem q6B {f:Value×R×Nat→Bool} (hf:∀k r i,f (kE k,r,i)=true):∀(M:List (κ×ν)) (i:Nat),(mpE kE vE M i).all f=true
 | [],_=>rfl
 | p::M,i=>by rw[mpE,List.all_cons,hf,q6B hf M];rfl
theorem q4q {f:R→R} (hf:∀v,f (vE v)=vE v) (M:List (κ×ν)):AO.mapR f (mpB kE vE M)=mpB kE vE M:=by
 have:∀(M:List (κ×ν)) (i:Nat),(mpE kE vE M i).map (fun e=>(e.1,f e.2.1,e.2.2))=mpE kE vE M i:=by
  intro M
  induction M with
  | nil=>intro i;rfl
  | cons p M ih=>intro i;rw[mpE,qvO,ih,hf]
 unfold mpB
 show AO.mp _ _=_
 rw[this]
theorem qjm {f:R→Bool} (hf:∀v,f (vE v)=true) (M:List (κ×ν)):(mpB kE vE M).Rs.all f=true:=by
 have:∀(M:List (κ×ν)) (i:Nat),((mpE kE vE M i).map (·.2.1)).all f=true:=by
  intro M
  induction M with
  | nil=>intro i;rfl
  | cons p M ih=>intro i;rw[mpE,qvO,List.all_cons,ih,hf];rfl
 exact this M 0
theorem q8S {f:R→List Nat} (hf:∀v,f (vE v)=[]) (M:List (κ×ν)):(mpB kE vE M).Rs.flatMap f=[]:=by
 have:∀(M:List (κ×ν)) (i:Nat),((mpE kE vE M i).map (·.2.1)).flatMap f=[]:=by
  intro M
  induction M with
  | nil=>intro i;rfl
  | cons p M ih=>intro i;rw[mpE,qvO,qwu,ih,hf];rfl
 exact this M 0
variable [DecidableEq κ] (hk:∀a b,kq (kE a) (kE b)=decide (a=b))
include hk
theorem qdB (k:κ):∀(M:List (κ×ν)) (i:Nat) (z:ν),fnd (kE k) (mpE kE vE M i) i=if J3 M k=true then some (i+q6G M k,vE (Qz z M k),i+q6G M k) else none
 | [],i,z=>rfl
 | p::M,i,z=>by
  rw[mpE,fnd]
  simp only[hk,J3,q6G,Qz,qwp]
  by_cases h:k=p.1
  ·simp[h]
  ·simp only[if_neg h]
   rw[qdB k M (i+1) z]
   split
   ·rw[show i+1+q6G M k=i+(q6G M k+1) by omega]
   ·rfl
theorem qlj (z:ν) (ok:Bool) (k:κ) (M:List (κ×ν)):lkq ok (vE z) (fnd (kE k) (mpE kE vE M 0) 0)=some (tt2 (vE (Qz z M k)) ok (J3 M k)):=by
 rw[qdB hk k M 0 z]
 cases hm:J3 M k
 ·have:Qz z M k=z:=by
   clear hk
   induction M with
   | nil=>rfl
   | cons p M ih=>
    rw[J3] at hm
    rw[Qz]
    split
    ·rename_i h;rw[if_pos h] at hm;cases hm
    ·rename_i h;rw[if_neg h] at hm;exact ih hm
  rw[this];rfl
 ·rfl
end
section
variable {κ ν:Type} {kE:κ→Value} {vE:ν→R} [DecidableEq κ]
theorem q93 (k:κ) (v:ν):∀(M:List (κ×ν)) (i:Nat),J3 M k=true→(mpE kE vE M i).set (q6G M k) (kE k,vE v,i+q6G M k)=mpE kE vE (q2e M k v) i∧(q2e M k v).length=M.length
 | [],_,h=>by cases h
 | p::M,i,h=>by
  rw[J3] at h
  by_cases hp:k=p.1
  ·simp only[mpE,q6G,q2e,if_pos hp]
   exact⟨rfl,rfl⟩
  ·rw[if_neg hp] at h
   obtain⟨a,b⟩:=q93 k v M (i+1) h
   simp only[mpE,q6G,q2e,if_neg hp,qvC,List.set_cons_succ]
   rw[show i+(q6G M k+1)=i+1+q6G M k by omega,a,b]
   exact⟨rfl,rfl⟩
theorem q8r (k:κ) (v:ν):∀(M:List (κ×ν)) (i:Nat),J3 M k=false→mpE kE vE M i++[(kE k,vE v,i+M.length)]=mpE kE vE (q2e M k v) i∧(q2e M k v).length=M.length+1
 | [],i,_=>⟨rfl,rfl⟩
 | p::M,i,h=>by
  rw[J3] at h
  by_cases hp:k=p.1
  ·rw[if_pos hp] at h;cases h
  ·rw[if_neg hp] at h
   obtain⟨a,b⟩:=q8r k v M (i+1) h
   simp only[mpE,q2e,if_neg hp,qvC,qwv]
   rw[show i+(M.length+1)=i+1+M.length by omega,a,b]
   exact⟨rfl,rfl⟩
theorem qfc (k:κ) (v:ν):∀(M:List (κ×ν)),q6G (q2e M k v) k=q6G M k∧J3 (q2e M k v) k=true∧(J3 M k=false→q6G M k=M.length)
 | []=>by simp[q2e,q6G,J3]
 | p::M=>by
  obtain⟨a,b,c⟩:=qfc k v M
  by_cases hp:k=p.1
  ·simp[q2e,q6G,J3,if_pos hp]
  ·simp only[q2e,q6G,J3,if_neg hp,qvC]
   exact⟨by rw[a],b,fun h=>by rw[c h]⟩
end
def mpq:B→Option (List (Value×R×Nat))
 | .ob (.mp es _)=>some es
 | _=>none
def mpo (s:S):R→Option (List (Value×R×Nat))
 | .c .nilm=>some []
 | .c (.hd .map id)=>mpq (s.blk id)
 | _=>none
theorem qfQ (s:S) (x:Operand):q2Y s x=mpo s (s.ev x):=by
 unfold q2Y mpo mpq
 generalize s.ev x=r
 cases r with
 | c c=>
  cases c with
  | hd k id=>cases k<;>rfl
  | _=>rfl
 | _=>rfl
theorem qrE {κ ν:Type} (kE:κ→Value) (vE:ν→R) (M:List (κ×ν)):mpq (.ob (mpB kE vE M))=some (mpE kE vE M 0):=rfl
def mup (kt:Kd) (kv:Value) (r:R):B→Option B
 | .ob (.mp es ck)=>if plK kt kv=true∧es.all (fun q=>plK kt q.1)=true then
   (match fnd kv es 0 with
    | some q=>some (.ob (.mp (es.set q.1 (kv,r,q.2.2)) ck))
    | none=>some (.ob (.mp (es++[(kv,r,ck)]) (ck+1)))) else none
 | _=>none
def qug (n:Int) (r:R):B→Option B
 | .ob (.mp es ck)=>(fnb n es 0).bind fun i=>(es[i]?).bind fun e=>some (.ob (.mp (es.set i (e.1,r,e.2.2)) ck))
 | _=>none
def xmu (T:Ty) (s:S) (t:TypeId) (m:R) (kv:Option Value) (r:R):Option (R×S):=
 match T.k t,m,kv with
 | .mp kt _,.c (.hd .map id),some kv=>(mup (T.k kt) kv r (s.blk id)).bind fun b=>some (.any,s.up [(id,b)])
 | _,_,_=>none
theorem qmb (T:Ty) (s:S) (t:TypeId) (m:R) (kv:Option Value) (r:R):xmu T s t m kv r =
 match T.k t,m,kv with
 | .mp kt _,.c (.hd .map id),some kv=>(mup (T.k kt) kv r (s.blk id)).bind fun b=>some (.any,s.up [(id,b)])
 | _,_,_=>none:=rfl
theorem qaz (T:Ty) (s:S) (t:TypeId) (m k x:Operand):q1x T s t m k x=xmu T s t (s.ev m) (s.ev k).key (s.ev x):=by
 unfold q1x xmu mup
 generalize T.k t=kd
 generalize s.ev m=r
 generalize (s.ev k).key=kv
 cases kd with
 | mp kt e=>
  cases r with
  | c c=>
   cases c with
   | hd h id=>
    cases h with
    | map=>
     cases kv with
     | none=>rfl
     | some kv=>
      simp only
      generalize s.blk id=b
      cases b with
      | ob o=>
       cases o with
       | mp es ck=>
        simp only
        split
        ·cases fnd kv es 0<;>rfl
        ·rfl
       | _=>rfl
      | _=>rfl
    | _=>rfl
   | _=>rfl
  | _=>rfl
 | _=>rfl
def xes (s:S) (m st r:R):Option (R×S):=
 match m,st with
 | .c (.hd .map id),.c (.d (.int _ n))=>(qug n r (s.blk id)).bind fun b=>some (.any,s.up [(id,b)])
 | _,_=>none
section
variable {κ ν:Type} {kE:κ→Value} {vE:ν→R} [DecidableEq κ] (hk:∀a b,kq (kE a) (kE b)=decide (a=b)) {kt:Kd} (hp:∀a,plK kt (kE a)=true)
include hk hp
theorem qnO (k:κ) (v:ν) (M:List (κ×ν)):mup kt (kE k) (vE v) (.ob (mpB kE vE M))=some (.ob (mpB kE vE (q2e M k v))):=by
 unfold mpB mup
 simp only
 rw[if_pos ⟨hp k,q6B (fun k r i=>hp k) M 0⟩,qdB hk k M 0 v]
 cases hm:J3 M k
 ·obtain⟨a,b⟩:=q8r (kE:=kE) (vE:=vE) k v M 0 hm
  simp only[Bool.false_eq_true,if_false]
  rw[qvP] at a
  rw[a,b]
 ·obtain⟨a,b⟩:=q93 (kE:=kE) (vE:=vE) k v M 0 hm
  simp only[if_true]
  rw[qvP] at a ⊢
  rw[a,b]
end
theorem qd4 {κ ν:Type} {kE:κ→Value} {vE:ν→R} {s:S} {sel:List Nat} (h:∀v,qe4 s sel (vE v)=vE v) (M:List (κ×ν)):cvA s sel (mpB kE vE M)=some (mpB kE vE M):=by
 have:∀(M:List (κ×ν)) (i:Nat),(mpE kE vE M i).map (fun e=>(e.1,qe4 s sel e.2.1,e.2.2))=mpE kE vE M i:=by
  intro M
  induction M with
  | nil=>intro i;rfl
  | cons p M ih=>intro i;rw[mpE,qvO,ih,h]
 show some (AO.mp ((mpE kE vE M 0).map fun e=>(e.1,qe4 s sel e.2.1,e.2.2)) M.length)=_
 rw[this];rfl
theorem q8t (a b:ByteArray):kq (Qc a) (Qc b)=decide (a=b):=rfl
def mpc:B→Option Nat
 | .ob (.mp _ ck)=>some ck
 | _=>none
theorem qrc {κ ν:Type} (kE:κ→Value) (vE:ν→R) (M:List (κ×ν)):mpc (.ob (mpB kE vE M))=some M.length:=rfl
def xrg (s:S) (p:Nat) (kd:Kd) (r:R):Option (R×S):=
 match kd,r with
 | .str,.c (.d (.str b))=>some (.c (.hd .iter p),s.up [(p,.ob (.si b 0))])
 | .mp _ _,.c .nilm=>some (.c (.hd .iter p),s.up [(p,.ob (.mi (.c .nilm) 0 []))])
 | .mp _ _,.c (.hd .map id)=>(mpc (s.blk id)).bind fun ck=>some (.c (.hd .iter p),s.up [(p,.ob (.mi (.c (.hd .map id)) ck []))])
 | _,_=>none
theorem qea (T:Ty) (s:S) (p:Nat) (t:TypeId) (x:Operand):q2j T s p t x=xrg s p (T.k t) (s.ev x):=by
 unfold q2j xrg
 split
 ·rename_i h1 h2;rw[h1,h2]
 ·rename_i h1 h2;rw[h1,h2]
 ·rename_i id h1 h2
  rw[h1,h2]
  simp only
  generalize s.blk id=b
  cases b with
  | ob o=>cases o<;>rfl
  | _=>rfl
 ·rename_i h1 h2 h3
  split
  ·rename_i q1 q2;exact absurd q2 (h1 _ q1)
  ·rename_i q1 q2;exact absurd q2 (h2 _ _ q1)
  ·rename_i q1 q2;exact absurd q2 (h3 _ _ _ q1)
  ·rfl
def qqE (s:S) (b:B) (ck x:Nat):Option (R×S):=(mpq b).bind fun es=>(mpc b).bind fun c=>if c=ck then(q6E es x).bind fun r=>some (r,s) else none
def qqr (s:S):B→Option (R×S)
 | .ob (.mi (.c (.hd .map mid)) ck (x::_))=>qqE s (s.blk mid) ck x
 | _=>none
def xen (s:S):R→Option (R×S)
 | .c (.hd .iter id)=>qqr s (s.blk id)
 | _=>none
theorem qcb (s:S) (it:Operand):q5x s it=xen s (s.ev it):=by
 unfold q5x xen
 generalize s.ev it=r
 cases r with
 | c c=>
  cases c with
  | hd k id=>
   cases k with
   | iter=>
    simp only
    generalize s.blk id=b
    cases b with
    | ob o=>
     cases o with
     | mi m ck l=>
      cases m with
      | c c=>
       cases c with
       | hd k mid=>
        cases k with
        | map=>
         cases l with
         | nil=>rfl
         | cons x l=>
          simp only[qqr,qqE]
          generalize s.blk mid=b2
          cases b2 with
          | ob o=>
           cases o with
           | mp es c=>
            simp only[mpq,mpc,qvr]
            split
            ·cases q6E es x<;>rfl
            ·rfl
           | _=>rfl
          | _=>rfl
        | _=>rfl
       | _=>rfl
      | _=>rfl
     | _=>rfl
    | _=>rfl
   | _=>rfl
  | _=>rfl
 | _=>rfl
def qoI (s:S) (id:Nat):B→Option (R×S)
 | .ob (.m1 (some e) m since seen)=>some (.tup [.c (.d (.bool true)),kR e.1,e.2.1],s.up [(id,.ob (.mi m since (e.2.2::seen)))])
 | .ob (.m1 none m since seen)=>some (.tup [.c (.d (.bool false))],s.up [(id,.ob (.mi m since seen))])
 | _=>none
def xnm (s:S):R→Option (R×S)
 | .c (.hd .iter id)=>qoI s id (s.blk id)
 | _=>none
theorem qcz (s:S) (it:Operand):q2k s it=xnm s (s.ev it):=by
 unfold q2k xnm qoI
 rfl
theorem qb7 (b:ByteArray):kR (Qc b) = .c (.d (.str b)):=rfl
theorem qgX (k:IntKind) (n:Int):kR (qtH k n) = .c (.d (.int k n)):=rfl
theorem qdf (b:Bool):kR (qra b) = .c (.d (.bool b)):=rfl
theorem qdP {κ ν:Type} {kE:κ→Value} {vE:ν→R} (hk:∀a b,kE a=kE b→a=b) (hv:∀a b,vE a=vE b→a=b):∀(M M':List (κ×ν)) (i:Nat),mpE kE vE M i=mpE kE vE M' i→M=M'
 | [],[],_,_=>rfl
 | [],_::_,_,h=>by cases h
 | _::_,[],_,h=>by cases h
 | (a,v)::M,(b,w)::M',i,h=>by
  unfold mpE at h
  simp only[List.cons.injEq,Prod.mk.injEq] at h
  obtain⟨⟨h1,h2,_⟩,h3⟩:=h
  rw[hk _ _ h1,hv _ _ h2,qdP hk hv M M' _ h3]
theorem qdU {κ ν:Type} {kE:κ→Value} {vE:ν→R} (hk:∀a b,kE a=kE b→a=b) (hv:∀a b,vE a=vE b→a=b) (M M':List (κ×ν)):(B.ob (mpB kE vE M)=B.ob (mpB kE vE M'))=(M=M'):=
 propext ⟨fun h=>by
  injection h with h
  unfold mpB at h
  injection h with h
  exact qdP hk hv M M' 0 h,fun h=>by rw[h]⟩
section
variable {κ ν:Type}
def anyO (g:κ→ν→Option Bool):List (κ×ν)→Option Bool
 | []=>some false
 | q::M=>(g q.1 q.2).bind fun b=>(anyO g M).bind fun c=>some (b||c)
theorem q2L {g:κ→ν→Option Bool}:∀{M:List (κ×ν)} {b:Bool},anyO g M=some b→(∀q∈M,∃c,g q.1 q.2=some c)∧(b=true↔∃q∈M,g q.1 q.2=some true)
 | [],b,h=>by injection h with h;subst h;simp
 | q::M,b,h=>by
  unfold anyO at h
  obtain⟨c,h1,h⟩:=qvw.1 h
  obtain⟨d,h2,h⟩:=qvw.1 h
  injection h with h
  subst h
  obtain⟨h3,h4⟩:=q2L h2
  refine⟨fun p hp=>?_,?_⟩
  ·rcases qvN.1 hp with rfl|hp
   ·exact⟨c,h1⟩
   ·exact h3 p hp
  ·rw[qvW,h4]
   constructor
   ·rintro(rfl|⟨p,hp,h5⟩)
    ·exact⟨q,qvG,h1⟩
    ·exact⟨p,qvz _ hp,h5⟩
   ·rintro⟨p,hp,h5⟩
    rcases qvN.1 hp with rfl|hp
    ·rw[h1] at h5;injection h5 with h5;exact .inl h5
    ·exact .inr ⟨p,hp,h5⟩
theorem q6w {g:κ→ν→Option Bool}:∀{M:List (κ×ν)},(∀q∈M,∃c,g q.1 q.2=some c)→∃b,anyO g M=some b
 | [],_=>⟨false,rfl⟩
 | q::M,h=>by
  obtain⟨c,h1⟩:=h q qvG
  obtain⟨b,h2⟩:=q6w fun p hp=>h p (qvz _ hp)
  exact⟨c||b,by unfold anyO;rw[h1,qvr,h2];rfl⟩
theorem q3V {kE:κ→Value} {vE:ν→R} {e:Value×R×Nat}:∀{M:List (κ×ν)} {i:Nat},e∈mpE kE vE M i→∃q∈M,e.1=kE q.1∧e.2.1=vE q.2∧i≤e.2.2∧e.2.2<i+M.length∧q6E (mpE kE vE M i) e.2.2=some (.tup [kR (kE q.1),vE q.2])
 | [],_,h=>by simp[mpE] at h
 | p::M,i,h=>by
  rw[mpE] at h
  rcases qvN.1 h with rfl|h
  ·refine⟨p,qvG,rfl,rfl,qvH _,by simp,?_⟩
   unfold q6E
   rw[mpE,List.find?_cons]
   simp
  ·obtain⟨q,h1,h2,h3,h4,h5,h6⟩:=q3V h
   refine⟨q,qvz _ h1,h2,h3,by omega,by simp;omega,?_⟩
   unfold q6E at h6 ⊢
   rw[mpE,List.find?_cons]
   have:(i==e.2.2)=false:=by simp;omega
   simp only[this]
   exact h6
theorem q9m {kE:κ→Value} {vE:ν→R} {q:κ×ν}:∀{M:List (κ×ν)} {i:Nat},q∈M→∃j,(kE q.1,vE q.2,j)∈mpE kE vE M i
 | [],_,h=>by simp at h
 | p::M,i,h=>by
  rw[mpE]
  rcases qvN.1 h with rfl|h
  ·exact⟨i,qvG⟩
  ·obtain⟨j,hj⟩:=q9m (kE:=kE) (vE:=vE) (i:=i+1) h
   exact⟨j,qvz _ hj⟩
theorem q5W {kE:κ→Value} {vE:ν→R}:∀(M:List (κ×ν)) (i:Nat),(mpE kE vE M i).map (·.2.2)=List.range' i M.length
 | [],_=>rfl
 | p::M,i=>by rw[mpE,qvO,q5W M,qvC,List.range'_succ]
theorem qhN {E:Orc} {f k key:Nat} {c:Code} {it:Operand} (hc:lbO f key=c) (hl:okL f c) {kE:κ→Value} {vE:ν→R} {M:List (κ×ν)} {st:B→S} {id mid:Nat} {x z:Exit×S} {g:κ→ν→Option Bool}
  (hok:∀a,kOk (kE a)=true) (hit:∀b,(st b).ev it = .c (.hd .iter id)) (hid:∀b,(st b).blk id=b) (hmid:∀b,(st b).blk mid = .ob (mpB kE vE M)) (hne:mid≠id) (hgh:∀b b',(st b).gh id b'=st b')
  (hx:x.1 ≠ .normal) (hz:z.1 ≠ .normal)
  (hr:∀(a:κ) (v:ν) (j:Nat) (l:List Nat),q6E (mpE kE vE M 0) j=some (.tup [kR (kE a),vE v])→lz2 f k key (XE2 E f k c (st (.ob (.m1 (some (kE a,vE v,j)) (.c (.hd .map mid)) M.length l))))=(g a v).bind fun b=>if b=true then some x else some (.normal,st (.ob (.mi (.c (.hd .map mid)) M.length (j::l)))))
  (hn:∀(l:List Nat),lz2 f k key (XE2 E f k c (st (.ob (.m1 none (.c (.hd .map mid)) M.length l))))=some z) :
  XM2 E f k key it (st (.ob (.mi (.c (.hd .map mid)) M.length [])))=(anyO g M).bind fun b=>some (if b=true then x else z):=by
 have hF:∀s,(XEo E f k (lbO f key) s).bind (lpx pol f key k)=lz2 f k key (XE2 E f k c s):=fun s=>by rw[hc,q8A c hl];rfl
 have hHd:mHd it (st (.ob (.mi (.c (.hd .map mid)) M.length [])))=some (id,.c (.hd .map mid),M.length,mpE kE vE M 0):=by
  unfold mHd
  rw[hit]
  simp only[hid]
  have h1:mOf (st (.ob (.mi (.c (.hd .map mid)) M.length []))) id (.c (.hd .map mid)) M.length=some (mpE kE vE M 0):=by
   unfold mOf
   simp only[if_neg hne,hmid,mpB,if_true]
  rw[h1,qvr,if_pos]
  refine⟨by rw[q5W];exact List.nodup_range',qvI.2 fun e he=>?_⟩
  obtain⟨q,-,h2,-,-,h3,-⟩:=q3V he
  rw[h2,hok,qws,qwp];omega
 have hg1:∀e l,(st (.ob (.mi (.c (.hd .map mid)) M.length []))).m1 id (.c (.hd .map mid)) M.length e l=st (.ob (.m1 e (.c (.hd .map mid)) M.length l)):=fun e l=>hgh _ _
 have hg2:∀l,(st (.ob (.mi (.c (.hd .map mid)) M.length []))).mi id (.c (.hd .map mid)) M.length l=st (.ob (.mi (.c (.hd .map mid)) M.length l)):=fun l=>hgh _ _
 have hent:∀e∈mpE kE vE M 0,∃q∈M,∀l,(XEo E f k (lbO f key) ((st (.ob (.mi (.c (.hd .map mid)) M.length []))).m1 id (.c (.hd .map mid)) M.length (some e) l)).bind (lpx pol f key k)=(g q.1 q.2).bind fun b=>if b=true then some x else some (.normal,(st (.ob (.mi (.c (.hd .map mid)) M.length []))).mi id (.c (.hd .map mid)) M.length (e.2.2::l)):=fun e he=>by
  obtain⟨q,h1,h2,h3,-,-,h4⟩:=q3V he
  refine⟨q,h1,fun l=>?_⟩
  rw[hF,hg1,hg2]
  obtain⟨e1,e2,e3⟩:=e
  simp only at h2 h3 h4
  subst h2 h3
  exact hr q.1 q.2 e3 l h4
 refine q4z (fun r h=>?_) (fun r h=>?_)
 ·obtain⟨id',m',ck',es',h1,h2⟩:=q4i h
  rw[hHd] at h1
  injection h1 with h1
  injection h1 with h3 h1
  injection h1 with h4 h1
  injection h1 with h5 h6
  subst h3 h4 h5 h6
  have hall:∀q∈M,∃b,g q.1 q.2=some b:=fun q hq=>by
   obtain⟨j,hj⟩:=q9m (kE:=kE) (vE:=vE) (i:=0) hq
   obtain⟨q',h1,h3,-,-,-,h4⟩:=q3V hj
   have hF1:(XEo E f k (lbO f key) ((st (.ob (.mi (.c (.hd .map mid)) M.length []))).m1 id (.c (.hd .map mid)) M.length (some (kE q.1,vE q.2,j)) [])).bind (lpx pol f key k)=(g q.1 q.2).bind fun b=>if b=true then some x else some (.normal,(st (.ob (.mi (.c (.hd .map mid)) M.length []))).mi id (.c (.hd .map mid)) M.length (j::[])):=by
    rw[hF,hg1,hg2]
    refine hr q.1 q.2 j [] ?_
    obtain⟨q2,g1,g2,g3,g4,g5,g6⟩:=q3V hj
    rw[g6]
    simp only at g2 g3
    rw[←g2,←g3]
   cases hgq:g q.1 q.2 with
   | some b=>exact⟨b,rfl⟩
   | none=>
    rw[hgq] at hF1
    rcases h2.ent _ hj with h5|h5
    ·have:=(h5 [] (ZQ _ _)).symm.trans hF1;cases this
    ·have:=(h5 [] (ZQ _ _)).symm.trans hF1;cases this
  obtain⟨b,hb⟩:=q6w hall
  rw[hb,qvr]
  obtain⟨-,hb2⟩:=q2L hb
  congr 1
  rcases h2.fin with ⟨e,he,h5⟩|h5
  ·obtain⟨q,h6,h7⟩:=hent e he
   have h8:=(h7 []).symm.trans (h5 [] (ZQ _ _))
   obtain⟨c',hc'⟩:=hall q h6
   rw[hc',qvr] at h8
   cases c' with
   | true=>
    rw[if_pos rfl] at h8
    injection h8 with h8
    rw[if_pos (hb2.2 ⟨q,h6,hc'⟩),h8]
   | false=>
    rw[if_neg (by simp)] at h8
    injection h8 with h8
    exact absurd (by rw[←h8]) h2.ne
  ·have h6:=h5 [] (ZQ _ _)
   rw[hF,hg1,hn] at h6
   injection h6 with h6
   cases hbb:b with
   | false=>rw[if_neg (by simp),h6]
   | true=>
    obtain⟨q,hq,hq2⟩:=hb2.1 hbb
    obtain⟨j,hj⟩:=q9m (kE:=kE) (vE:=vE) (i:=0) hq
    have hF1:(XEo E f k (lbO f key) ((st (.ob (.mi (.c (.hd .map mid)) M.length []))).m1 id (.c (.hd .map mid)) M.length (some (kE q.1,vE q.2,j)) [])).bind (lpx pol f key k)=some x:=by
     rw[hF,hg1]
     obtain⟨q2,g1,g2,g3,g4,g5,g6⟩:=q3V hj
     have:=hr q.1 q.2 j [] (by rw[g6];simp only at g2 g3;rw[←g2,←g3])
     rw[this,hq2];rfl
    rw[if_pos rfl]
    rcases h2.ent _ hj with h7|h7
    ·have:=(h7 [] (ZQ _ _)).symm.trans hF1
     injection this with this
     exact absurd (by rw[←this]) hx
    ·have:=(h7 [] (ZQ _ _)).symm.trans hF1
     injection this with this
     first
      | exact this
      | exact this.symm
 ·obtain⟨b,hb,h⟩:=qvw.1 h
  injection h with h
  subst h
  obtain⟨hall,hb2⟩:=q2L hb
  refine qaY hHd ⟨?_,fun e he=>?_,?_⟩
  ·split
   ·exact hx
   ·exact hz
  ·obtain⟨q,h6,h7⟩:=hent e he
   obtain⟨c',hc'⟩:=hall q h6
   cases c' with
   | false=>exact .inl fun l _=>by rw[h7 l,hc'];rfl
   | true=>exact .inr fun l _=>by rw[h7 l,hc',if_pos (hb2.2 ⟨q,h6,hc'⟩)];rfl
  ·cases hbb:b with
   | false=>exact .inr fun l _=>by rw[hF,hg1,hn];rfl
   | true=>
    obtain⟨q,hq,hq2⟩:=hb2.1 hbb
    obtain⟨j,hj⟩:=q9m (kE:=kE) (vE:=vE) (i:=0) hq
    refine .inl ⟨_,hj,fun l _=>?_⟩
    rw[hF,hg1]
    obtain⟨q2,g1,g2,g3,g4,g5,g6⟩:=q3V hj
    have:=hr q.1 q.2 j l (by rw[g6];simp only at g2 g3;rw[←g2,←g3])
    rw[this,hq2];rfl
theorem q9D {E:Orc} {f k key:Nat} {c:Code} {it:Operand} (hc:lbO f key=c) (hl:okL f c) {kE:κ→Value} {vE:ν→R} {M:List (κ×ν)} {st:B→S} {id mid:Nat} {x z:Exit×S} {g:κ→ν→Option Bool}
  (hok:∀a,kOk (kE a)=true) (hit:∀b,(st b).ev it = .c (.hd .iter id)) (hid:∀b,(st b).blk id=b) (hmid:∀b,(st b).blk mid = .ob (mpB kE vE M)) (hne:mid≠id) (hgh:∀b b',(st b).gh id b'=st b')
  (hx:x.1 ≠ .normal) (hz:z.1 ≠ .normal)
  (hr:∀(a:κ) (v:ν) (j:Nat) (l:List Nat),q6E (mpE kE vE M 0) j=some (.tup [kR (kE a),vE v])→lz2 f k key (XE2 E f k c (st (.ob (.m1 (some (kE a,vE v,j)) (.c (.hd .map mid)) M.length l))))=(g a v).bind fun b=>if b=true then some x else some (.normal,st (.ob (.mi (.c (.hd .map mid)) M.length (j::l)))))
  (hn:∀(l:List Nat),lz2 f k key (XE2 E f k c (st (.ob (.m1 none (.c (.hd .map mid)) M.length l))))=some z) :
  XM2 E f k key it (st (.ob (.mi (.c (.hd .map mid)) M.length [])))=(anyO g M).bind fun b=>if b=true then some x else some z:=by
 rw[qhN hc hl hok hit hid hmid hne hgh hx hz hr hn]
 congr 1
 funext b
 cases b<;>rfl
theorem qm.anyO {g h:κ→ν→Option Bool} (hg:∀a v,qm (g a v) (h a v)):∀M:List (κ×ν),qm (Vc.anyO g M) (Vc.anyO h M)
 | []=>qm.refl _
 | q::M=>qm.bind (hg _ _) fun _=>qm.bind (qm.anyO hg M) fun _=>qm.refl _
end
end
noncomputable section
open Go.RowKit
theorem q9Z {ν:Type} {vE:ν→R}:∀(M:List (ByteArray×ν)) (i:Nat),q7P (mpE Qc vE M i)=some (M.map Prod.fst)
 | [],_=>rfl
 | p::M,i=>by
  rw[mpE]
  show(qrI (Qc p.1)).bind _=_
  rw[q9Z M];rfl
theorem qqg {ν:Type} {vE:ν→R} (M:List (ByteArray×ν)):skO (mpB Qc vE M)=some (M.map Prod.fst):=by
 show(if((mpE Qc vE M 0).map (·.2.2)).Nodup∧(mpE Qc vE M 0).all (fun e=>decide (e.2.2<M.length))=true then q7P (mpE Qc vE M 0) else none)=_
 rw[if_pos,q9Z]
 refine⟨by rw[q5W];exact List.nodup_range',qvI.2 fun e he=>?_⟩
 obtain⟨q,-,-,-,-,h3,-⟩:=q3V he
 simpa using h3
theorem q5y:∀l:List ByteArray,l.map D.str=l.flatMap eS
 | []=>rfl
 | x::l=>by rw[qwu,qvO,q5y l];rfl
theorem qkX {ν:Type} {vE:ν→R} (g t:Nat) (M:List (ByteArray×ν)):qlp g 2 [.c (.fn g [] [.ptr 0 0])] [(0,.blk t [.hd .map 1]),(1,.ob (mpB Qc vE M))] =
  if qgy (M.map Prod.fst)=true then some (.c (.d (.sl 1 (JD (M.map Prod.fst)).length ((JD (M.map Prod.fst)).flatMap eS))),[(0,.blk t [.hd .map 1]),(1,.ob (mpB Qc vE M))]) else none:=by
 show(if g=g then(skO (mpB Qc vE M)).bind _ else none)=_
 rw[if_pos rfl,qqg,qvr,q5y,(QG _).length_eq]
theorem q5C {α β:Type} {E:α→List β} {z:Nat} (hE:∀x,(E x).length=z):∀(l:List α) (i:Nat),i<l.length→(l.flatMap E).take (i*z)++(l.flatMap E).drop ((i+1)*z)=(l.eraseIdx i).flatMap E
 | [],_,h=>by simp at h
 | x::l,0,_=>by
  rw[qwu,Nat.zero_mul,List.take_zero,qvL,qvP,Nat.one_mul,←hE x,List.drop_left];rfl
 | x::l,i+1,h=>by
  rw[qwu,List.eraseIdx_cons_succ,qwu,←q5C hE l i (by simpa using h)]
  have e1:(i+1)*z=(E x).length+i*z:=by rw[hE,Nat.add_mul];omega
  have e2:(i+1+1)*z=(E x).length+(i+1)*z:=by rw[hE,Nat.add_mul (i+1)];omega
  rw[e2,List.drop_append,e1,List.take_append]
  simp[Nat.add_sub_cancel_left,qww,List.drop_of_length_le]
theorem qiv {α:Type} {E:α→List D} {e z:Nat} (hE:∀x,(E x).length=z) {n:Nat} (l:List α) (i j:Int) (hn:n=l.length):qap e z 0 [.c (.own 0 z 0 n),.c (.d (.int .i64 i)),.c (.d (.int .i64 j))] [(0,.row e z ((l.flatMap E).map C.d))] =
  if 0≤i∧j=i+1∧i<l.length then some (.c (.own 0 z 0 (l.eraseIdx i.toNat).length),[(0,.row e z (((l.eraseIdx i.toNat).flatMap E).map C.d))]) else none:=by
 subst hn
 show qoz e z z z e l.length i j _=_
 unfold qoz
 have h1:((l.flatMap E).map C.d).length=l.length*z:=by
  rw[qw8]
  induction l with
  | nil=>simp
  | cons x l ih=>rw[qwu,qvy,ih,hE,qvC,Nat.add_mul];omega
 have h2:((l.flatMap E).map C.d).all C.known=true:=by rw[List.all_map];exact qvI.2 fun x _=>rfl
 have h3:((l.flatMap E).map C.d).all (C.far 0)=true:=by rw[List.all_map];exact qvI.2 fun x _=>rfl
 by_cases hc:0≤i∧j=i+1∧i<(l.length:Int)
 ·rw[if_pos ⟨rfl,rfl,rfl,h1,h2,h3,hc⟩,if_pos hc]
  have hi:i.toNat<l.length:=by omega
  rw[←List.map_take,←List.map_drop,←List.map_append,q5C hE l _ hi,List.length_eraseIdx,if_pos hi]
 ·rw[if_neg (fun h=>hc h.2.2.2.2.2.2),if_neg hc]
end
noncomputable section
open Go.RowKit
def C.pl:C→Bool
 | .d _=>true
 | .ow _ _ _ _=>true
 | _=>false
section
variable {α:Type} {E:α→List C} {n:Nat}
theorem qem (h:∀x,(E x).all C.pl=true) (v:List α) {c:C} (hc:c∈v.flatMap E):c.pl=true:=by
 obtain⟨x,-,hx⟩:=List.mem_flatMap.1 hc
 exact qvI.1 (h x) c hx
theorem q94 (h:∀x,(E x).all C.pl=true) {f:C→C} (hf:∀c,c.pl=true→f c=c) (v:List α):(v.flatMap E).map f=v.flatMap E:=
 (List.map_congr_left fun c hc=>hf c (qem h v hc)).trans (List.map_id _)
theorem qhe (h:∀x,(E x).all C.pl=true) {p:C→Bool} (hf:∀c,c.pl=true→p c=true) (v:List α):(v.flatMap E).all p=true:=
 qvI.2 fun c hc=>hf c (qem h v hc)
theorem qni (h:∀x,(E x).all C.pl=true) {p:C→Bool} (hf:∀c,c.pl=true→p c=false) (v:List α):(v.flatMap E).any p=false:=
 List.any_eq_false.2 fun c hc=>by rw[hf c (qem h v hc)];decide
theorem qnC (h:∀x,(E x).all C.pl=true) {f:C→List Nat} (hf:∀c,c.pl=true→f c=[]) (v:List α):(v.flatMap E).flatMap f=[]:=
 List.flatMap_eq_nil_iff.2 fun c hc=>hf c (qem h v hc)
theorem qgE (h:∀x,(E x).length=n):∀l:List α,(l.flatMap E).length=l.length*n
 | []=>by simp
 | x::l=>by rw[qwu,qvy,h,qgE h l,qvC,Nat.add_mul];omega
theorem qds (h:∀x,(E x).length=n) {o:Nat} (ho:o<n):∀(v:List α) (i:Nat),(v.flatMap E)[i*n+o]?=(v[i]?).bind fun x=>(E x)[o]?
 | [],i=>by simp
 | x::v,0=>by
  rw[qwu,Nat.zero_mul,qvP,qw4 (by rw[h];exact ho)];rfl
 | x::v,i+1=>by
  rw[qwu,show(i+1)*n+o=(E x).length+(i*n+o) by rw[h,Nat.add_mul];omega,qw3 (by omega),show(E x).length+(i*n+o)-(E x).length=i*n+o by omega,qds h ho v i]
  rfl
theorem q8R (h:∀x,(E x).length=n) {fo:Nat} {d:C} (g:α→α) (hf:fo<n) (hg:∀x,E (g x)=(E x).set fo d):∀(v:List α) (i:Nat),(v.flatMap E).set (i*n+fo) d=(v.modify i g).flatMap E
 | [],i=>by simp
 | y::v,0=>by
  rw[qwu,Nat.zero_mul,qvP,List.set_append_left _ _ (by rw[h];exact hf),←hg]
  simp
 | y::v,i+1=>by
  rw[qwu,show(i+1)*n+fo=(E y).length+(i*n+fo) by rw[h,Nat.add_mul];omega,List.set_append_right _ _ (by omega),show(E y).length+(i*n+fo)-(E y).length=i*n+fo by omega,q8R h g hf hg v i]
  simp
theorem qh1 (v:List α) (x:α):v.flatMap E++E x=(v++[x]).flatMap E:=by simp
theorem qlq {F:α→List D} (h:∀x,(E x).map C.uw=(F x).map C.d):∀v:List α,(v.flatMap E).map C.uw=(v.flatMap F).map C.d
 | []=>rfl
 | x::v=>by rw[qwu,qwu,List.map_append,List.map_append,h,qlq h v]
theorem qry {T:Ty} {t:TypeId} {cs:List C} {off:Nat} (hk:∀fs,T.k t ≠ .st fs) (ha:∀n e,T.k t ≠ .arr n e) (ho:T.k t ≠ .other):ld T cs off t=(cs[off]?).map .c:=by
 unfold ld
 split
 ·rename_i h;exact absurd h (hk _)
 ·rename_i h;exact absurd h (ha _ _)
 ·rename_i h;exact absurd h ho
 ·rfl
theorem qee (zs0:List (Option (Nat×Nat))):∀(zs:List (Option (Nat×Nat))) (xs ys:List C),xs.all C.pl=true→zs.length=xs.length→q4W zs0 zs (xs++ys)=xs++q4W zs0 [] ys
 | [],[],ys,_,_=>rfl
 | [],d::ds,ys,_,h=>by cases h
 | z::zs,[],ys,_,h=>by cases h
 | z::zs,d::ds,ys,hp,h=>by
  rw[List.all_cons,qvX] at hp
  rw[qwv,q4W,qee zs0 zs ds ys hp.2 (by simpa using h)]
  have:qel z d=d:=by
   rcases q5Y z d with e|⟨e,-⟩
   ·exact e
   ·rw[e] at hp;cases hp.1
  rw[this];rfl
theorem qgJ (hp:∀x,(E x).all C.pl=true) (h:∀x,(E x).length=n+1) (zs0:List (Option (Nat×Nat))) (h0:zs0.length=n+1):∀(v:List α) (ys:List C),q4W zs0 [] (v.flatMap E++ys)=v.flatMap E++q4W zs0 [] ys
 | [],ys=>rfl
 | x::v,ys=>by
  have hx:=h x
  have hpx:=hp x
  rw[qwu,qw6,qw6,←qgJ hp h zs0 h0 v ys]
  cases hE:E x with
  | nil=>rw[hE] at hx;cases hx
  | cons d ds=>
   rw[hE] at hx hpx
   rw[List.all_cons,qvX] at hpx
   rw[qwv,q4W,qee zs0 zs0.tail ds _ hpx.2 (by rw[List.length_tail];simp at hx;omega)]
   have:qel (zs0.headD none) d=d:=by
    rcases q5Y (zs0.headD none) d with e|⟨e,-⟩
    ·exact e
    ·rw[e] at hpx;cases hpx.1
   rw[this];rfl
end
theorem qq9 (k:Nat) (c:C) (h:c.pl=true):c.fg k=c:=by cases c<;>first|rfl|cases h
theorem qrK (ids:List Nat) (c:C) (h:c.pl=true):cn ids c=c:=by cases c<;>first|rfl|cases h
theorem qqc (c:C) (h:c.pl=true):c.kw=c:=by cases c<;>first|rfl|cases h
theorem qqA (k e sz:Nat) (ds:List D) (c:C) (h:c.pl=true):c.ab k e sz ds=c:=by cases c<;>first|rfl|cases h
theorem qlO (k:Nat) (c:C) (h:c.pl=true):c.far k=true:=by cases c<;>first|rfl|cases h
theorem qk9 (X:List Nat) (c:C) (h:c.pl=true):c.farF X=true:=by cases c<;>first|rfl|cases h
theorem qiu (c:C) (h:c.pl=true):c.isNils=false:=by cases c<;>first|rfl|cases h
theorem qjc (c:C) (h:c.pl=true):c.refs=[]:=by cases c<;>first|rfl|cases h
theorem qhI (c:C) (h:c.pl=true):c.rows=[]:=by cases c<;>first|rfl|cases h
theorem qfg (f:C→C) (xs ys:List C):(xs++ys).map f=xs.map f++ys.map f:=List.map_append
theorem qep (f:C→C):∀(ys cs:List C) (o:Nat),(spr cs o ys).map f=spr (cs.map f) o (ys.map f):=fun ys cs o=>(q56 f ys cs o).symm
theorem qg0 (a b:C) (cs:List C) (o:Nat):spr (spr cs o [a]) o [b]=spr cs o [b]:=by
 show(cs.set o a).set o b=cs.set o b
 rw[List.set_set]
theorem qfd (cs:List C) (o:Nat) (c:C):((spr cs o [c])[o]?).map R.c=(cs[o]?).bind fun _=>some (R.c c):=by
 show((cs.set o c)[o]?).map R.c=_
 rcases Nat.lt_or_ge o cs.length with h|h
 ·rw[qwn h,qvt h];rfl
 ·rw[qvZ (by rw[qwb];exact h),qvZ h];rfl
theorem qal (ys cs:List C) (o:Nat):(spr cs o ys).length=cs.length:=q2p ys cs o
theorem qm2 (ds:List D):(ds.map C.d).map C.uw=ds.map C.d:=by rw[List.map_map];rfl
theorem qn1 (k e sz:Nat) (es ds:List D):(ds.map C.d).map (C.ab k e sz es)=ds.map C.d:=by rw[List.map_map];rfl
end
noncomputable section
open Go.RowKit
def bx0:=JA_ @S.uwD.eq_1 (JA_ @S.tkD.eq_1 (JA_ @S.tkP.eq_1 (JA_ @S.tkP.eq_2 (JA_ @qno.eq_1 (JA_ @qno.eq_2 (JA_ @qno.eq_10 (JA_ @tkL.eq_1 (JA_ @tkL.eq_2 (JA_ @S.frk.eq_1 (JA_ @qmY.eq_1 (JA_ @qbC.eq_1 (JA_ @qf1 (JA_ @qfA (JA_ @adL.eq_1 (JA_ @adS.eq_1 (JA_ @adP.eq_1 (JA_ @adP.eq_2 (JA_ @qtu.eq_1 (JA_ @qqG.eq_1 (JA_ @S.wk.eq_1 (JA_ @q97.eq_1 (JA_ @q97.eq_2 (JA_ @qqC.eq_1 (JA_ @S.abR.eq_1 (JA_ @uwR.eq_1 (@uwR.eq_2))))))))))))))))))))))))))
def bx1:=JA_ @ldO.eq_1 (JA_ @ldT.eq_1 (JA_ @ldT.eq_2 (JA_ @ldT.eq_10 (JA_ @ldP.eq_1 (JA_ @ldU.eq_1 (JA_ @stO.eq_1 (JA_ @qoK.eq_1 (JA_ @qoK.eq_2 (JA_ @qoR.eq_1 (JA_ @qhb.eq_1 (JA_ @S.fnB.eq_1 (JA_ @S.uwB.eq_1 (JA_ @Kd.isSl0.eq_1 (JA_ @tkS.eq_1 (JA_ @B.kw.eq_1 (JA_ @B.kw.eq_2 (JA_ @C.kw.eq_2 (JA_ @R.nw.eq_1 (JA_ @R.nw.eq_2 (JA_ @R.nw0.eq_1 (JA_ @R.nw0.eq_2 (JA_ @R.nw0.eq_4 (JA_ @C.nw.eq_2 (@C.nw.eq_3))))))))))))))))))))))))
def bx2:=JA_ @C.dn0.eq_3 (JA_ @S.uw.eq_1 (JA_ @B.uw.eq_1 (JA_ @B.uw.eq_2 (JA_ @B.uw.eq_4 (JA_ @C.uw.eq_1 (JA_ @C.uw.eq_2 (JA_ @S.dzo.eq_1 (JA_ @qdX.eq_1 (JA_ @qdX.eq_2 (JA_ @q4W.eq_1 (JA_ @q4W.eq_2 (JA_ @q4W.eq_3 (JA_ @qel.eq_1 (JA_ @qel.eq_2 (JA_ @S.abL.eq_1 (JA_ @S.abL.eq_2 (JA_ @S.ab1.eq_1 (JA_ @ab2.eq_1 (JA_ @qkq.eq_1 (JA_ @qkq.eq_2 (JA_ @qkG.eq_2 (JA_ @abS.eq_1 (JA_ @B.ab.eq_1 (JA_ @B.ab.eq_2 (JA_ @B.ab.eq_4 (JA_ @C.ab.eq_1 (JA_ @C.ab.eq_2 (JA_ @qdG.eq_1 (JA_ @q2H.eq_1 (JA_ @abAt.eq_1 (JA_ @C.noow.eq_2 (@qeK.eq_1))))))))))))))))))))))))))))))))
def bx3:=JA_ @qeK.eq_2 (JA_ @S.strip.eq_1 (JA_ @q2l.eq_1 (JA_ @q2l.eq_2 (JA_ @R.isA.eq_2 (JA_ @qsq.eq_1 (JA_ @qor.eq_1 (JA_ @qb2.eq_1 (JA_ @qe0.eq_1 (JA_ @S.ly.eq_1 (JA_ @alC.eq_1 (JA_ @alC.eq_2 (JA_ @alX.eq_2 (JA_ @ipX.eq_1 (JA_ @qoN.eq_1 (JA_ @qoN.eq_2 (JA_ @ipA.eq_1 (JA_ @ipS.eq_1 (JA_ @ipS.eq_2 (JA_ @ipF.eq_1 (JA_ @qle.eq_1 (@qle.eq_2)))))))))))))))))))))
def bx4:=JA_ @q85.eq_1 (JA_ @qg3.eq_1 (JA_ @qg3.eq_2 (JA_ @zmk.eq_1 (JA_ @zmk.eq_2 (JA_ @S.fin.eq_1 (JA_ @S.fn1.eq_1 (JA_ @S.inr.eq_1 (JA_ @prx.eq_1 (JA_ @APr.of_run (JA_ @pr0.eq_1 (JA_ @List.isEmpty_nil.{0} (JA_ @List.isEmpty_cons.{0} (JA_ @wbC.eq_1 (JA_ @B.beq.eq_1 (JA_ @B.beq.eq_3 (JA_ @C.beqL.eq_1 (JA_ @C.beqL.eq_2 (JA_ @C.beq0.eq_1 (JA_ @D.beq.eq_1 (@D.beq.eq_4))))))))))))))))))))
def bx5:=JA_ @qqf.eq_1 (JA_ @dzc.eq_2 (JA_ @dzc.eq_3 (JA_ @C.isNils.eq_1 (JA_ @C.isNils.eq_2 (JA_ @qfR (JA_ @List.any_append.{0} (JA_ @q0x.eq_1 (JA_ @q3U.eq_1 (JA_ @q3U.eq_2 (JA_ @qf7.eq_1 (JA_ @fpA.eq_1 (JA_ @qaE.eq_1 (JA_ @S.kill.eq_1 (JA_ @qjb.eq_1 (JA_ @qjb.eq_2 (JA_ @qe1.eq_1 (JA_ @qnT.eq_1 (JA_ @okX.eq_1 (JA_ @okX.eq_2 (JA_ @okK.eq_1 (JA_ @okN.eq_1 (JA_ @okN.eq_2 (JA_ @qjn.eq_1 (JA_ @qjn.eq_2 (JA_ @qko.eq_1 (JA_ @qko.eq_2 (JA_ @q3d.eq_1 (JA_ @qdL.eq_1 (@q0P.eq_1)))))))))))))))))))))))))))))
def bx6:=JA_ @qe3.eq_1 (JA_ @q2Z.eq_1 (@q5G.eq_1))
def bx7:=JA_ @qbQ.eq_1 (JA_ @D.key.eq_3 (JA_ @R.key.eq_1 (JA_ @plK.eq_2 (JA_ @zR.eq_1 (JA_ @tt2.eq_1 (JA_ @B.isOb.eq_2 (JA_ @AO.mapR.eq_3 (JA_ @AO.mapR.eq_4 (JA_ @AO.Rs.eq_3 (JA_ @AO.Rs.eq_4 (@R.refs0.eq_1)))))))))))
def bx8:=JA_ @xgd.eq_1 (JA_ @xgF.eq_1 (JA_ @xo.eq_1 (JA_ @xo.eq_2 (JA_ @xo.eq_3 (JA_ @xo.eq_4 (JA_ @xo.eq_5 (JA_ @xo.eq_6 (JA_ @xo.eq_7 (JA_ @xo.eq_8 (JA_ @xo.eq_9 (JA_ @xo.eq_10 (JA_ @xo.eq_11 (JA_ @xo.eq_12 (JA_ @xo.eq_13 (JA_ @xo.eq_14 (JA_ @xo.eq_16 (JA_ @xo.eq_17 (JA_ @xo.eq_19 (JA_ @xo.eq_20 (JA_ @xo.eq_21 (JA_ @xo.eq_22 (JA_ @xo.eq_23 (JA_ @xo.eq_24 (JA_ @xo.eq_25 (JA_ @xo.eq_29 (JA_ @xo.eq_30 (JA_ @xo.eq_31 (JA_ @xCl.eq_1 (JA_ @pre.eq_1 (JA_ @pre.eq_2 (@pre.eq_3)))))))))))))))))))))))))))))))
def bx9:=JA_ @q4M.eq_1 (JA_ @JX.eq_1 (JA_ @q5q.eq_1 (JA_ @q9y.eq_1 (JA_ @q8n.eq_1 (JA_ @q1k.eq_1 (JA_ @q0J.eq_2 (JA_ @q0J.eq_3 (JA_ @qrQ.eq_1 (JA_ @qaN.eq_1 (JA_ @qaN.eq_2 (JA_ @cvR.eq_1 (JA_ @cvR.eq_2 (JA_ @cvL.eq_1 (JA_ @cvL.eq_2 (JA_ @qeh.eq_1 (JA_ @qeh.eq_2 (JA_ @cv.eq_1 (JA_ @cv.eq_2 (JA_ @cv0.eq_1 (JA_ @cv0.eq_5 (JA_ @cv0.eq_8 (JA_ @cv0.eq_9 (JA_ @cv0.eq_10 (JA_ @cvG.eq_1 (JA_ @cvG.eq_2 (JA_ @cvB.eq_1 (JA_ @cvB.eq_2 (@cvB.eq_3))))))))))))))))))))))))))))
def quZ:=JA_ @vis.eq_1 (JA_ @q45.eq_1 (JA_ @q45.eq_2 (JA_ @q1A (JA_ @qhO.eq_1 (JA_ @pos.eq_1 (JA_ @pos.eq_2 (JA_ @qeR.eq_1 (JA_ @q6g.eq_1 (JA_ @q9P.eq_1 (JA_ @qoP.eq_1 (JA_ @q0N.eq_1 (JA_ @q0b.eq_1 (JA_ @q1D.eq_1 (JA_ @q4k.eq_1 (JA_ @q1e.eq_1 (JA_ @qam.eq_1 (JA_ @qam.eq_2 (JA_ @qam.eq_4 (JA_ @qam.eq_5 (JA_ @qam.eq_10 (JA_ @qam.eq_11 (JA_ @qam.eq_12 (JA_ @qam.eq_13 (JA_ @qam.eq_14 (JA_ @qam.eq_15 (JA_ @qgO.eq_1 (JA_ @qgO.eq_2 (@qgO.eq_3))))))))))))))))))))))))))))
def qvq:=JA_ @qgO.eq_6 (JA_ @qgO.eq_7 (JA_ @qly.eq_1 (JA_ @qly.eq_2 (JA_ @qp1.eq_1 (JA_ @qoD.eq_1 (JA_ @qoH.eq_1 (JA_ @qfX.eq_1 (JA_ @q9g.eq_1 (JA_ @q8G.eq_1 (JA_ @Jd.eq_1 (JA_ @q2I.eq_1 (JA_ @q2w.eq_1 (JA_ @Kd.isSl.eq_1 (JA_ @nrm.eq_1 (JA_ @qgA.eq_1 (JA_ @qqS.eq_1 (JA_ @rng.eq_1 (JA_ @rng.eq_2 (JA_ @rwAll.eq_1 (JA_ @rwAll.eq_2 (@rw1.eq_1)))))))))))))))))))))
def quu:=JA_ @rw1.eq_2 (JA_ @rw1.eq_4 (JA_ @cn.eq_1 (JA_ @cn.eq_2 (JA_ @cn0.eq_1 (JA_ @cn0.eq_2 (JA_ @cn0.eq_3 (JA_ @cn0.eq_5 (JA_ @cnR.eq_2 (JA_ @qaP.eq_1 (JA_ @qaP.eq_2 (JA_ @qaP.eq_3 (JA_ @cnB.eq_1 (JA_ @cnB.eq_2 (JA_ @cnB.eq_3 (JA_ @cnH.eq_1 (JA_ @cnH.eq_2 (JA_ @qmI (JA_ @z6.eq_1 (JA_ @z6.eq_2 (JA_ @qnW.eq_1 (JA_ @qan.eq_1 (JA_ @q5f.eq_1 (JA_ @qaf.eq_1 (JA_ @q5a.eq_1 (JA_ @q8f.eq_1 (JA_ @q59.eq_1 (JA_ @q59.eq_2 (JA_ @S.frz.eq_1 (JA_ @S.frz.eq_2 (@S.frz1.eq_1))))))))))))))))))))))))))))))
def quV:=JA_ @fz.eq_2 (JA_ @fz0.eq_1 (JA_ @fz0.eq_2 (JA_ @fz0.eq_5 (JA_ @fzR.eq_2 (JA_ @qei.eq_1 (JA_ @qei.eq_2 (JA_ @qei.eq_3 (JA_ @fzB.eq_1 (JA_ @fzB.eq_2 (JA_ @fzB.eq_4 (JA_ @qlQ (JA_ @dz.eq_1 (JA_ @dz.eq_2 (JA_ @dzL.eq_1 (JA_ @dzL.eq_2 (JA_ @dzR.eq_1 (JA_ @dzR.eq_2 (JA_ @qa4.eq_1 (JA_ @qa4.eq_2 (JA_ @one.eq_1 (JA_ @one.eq_2 (JA_ @rvs.eq_1 (JA_ @rvs.eq_2 (JA_ @qhs.eq_1 (JA_ @qhs.eq_2 (JA_ @tt.eq_1 (JA_ @ff.eq_1 (JA_ @q4f.eq_1 (JA_ @q4f.eq_2 (JA_ @C.ref0.eq_1 (JA_ @C.ref0.eq_2 (JA_ @C.ref0.eq_3 (@C.ref0.eq_4)))))))))))))))))))))))))))))))))
def qvi:=JA_ @C.refs.eq_1 (JA_ @C.refs.eq_2 (JA_ @B.refs.eq_1 (JA_ @B.refs.eq_2 (JA_ @B.refs.eq_3 (JA_ @B.refs.eq_4 (JA_ @R.refs.eq_1 (JA_ @R.refs.eq_2 (JA_ @R.refs.eq_4 (JA_ @C.rows0.eq_1 (JA_ @C.rows0.eq_2 (JA_ @C.rows.eq_1 (JA_ @C.rows.eq_2 (JA_ @R.rows.eq_1 (JA_ @R.rows.eq_2 (JA_ @C.ptrs0.eq_1 (JA_ @C.ptrs0.eq_2 (JA_ @C.ptrs0.eq_3 (JA_ @C.ptrs.eq_1 (JA_ @C.ptrs.eq_2 (JA_ @R.ptrs.eq_1 (JA_ @R.ptrs.eq_2 (JA_ @B.isBlk.eq_1 (JA_ @B.isBlk.eq_2 (JA_ @B.isBlk.eq_3 (JA_ @R.scl.eq_1 (JA_ @R.scl.eq_2 (JA_ @R.scl0.eq_1 (JA_ @R.scl0.eq_2 (JA_ @C.scl.eq_1 (JA_ @C.scl.eq_2 (JA_ @C.scl0.eq_1 (JA_ @C.scl0.eq_4 (@B.scl.eq_1)))))))))))))))))))))))))))))))))
def qv7:=JA_ @B.scl.eq_2 (JA_ @B.scl.eq_3 (JA_ @C.dat.eq_2 (JA_ @C.dat0.eq_1 (JA_ @C.dat0.eq_5 (JA_ @C.dat0.eq_8 (JA_ @ren.eq_1 (JA_ @R.rn.eq_1 (JA_ @R.rn.eq_2 (JA_ @R.rn0.eq_1 (JA_ @R.rn0.eq_2 (JA_ @C.rn.eq_1 (JA_ @C.rn.eq_2 (JA_ @C.rn0.eq_1 (JA_ @C.rn0.eq_2 (JA_ @C.rn0.eq_3 (JA_ @C.rn0.eq_6 (JA_ @B.rn.eq_1 (JA_ @B.rn.eq_2 (JA_ @B.rn.eq_3 (JA_ @qmQ (JA_ @S.aft.eq_1 (JA_ @S.fgL.eq_1 (JA_ @S.fgL.eq_2 (JA_ @C.fgL.eq_1 (JA_ @C.fgL.eq_3 (JA_ @C.fgL.eq_4 (@C.fgL.eq_5)))))))))))))))))))))))))))
def qu7:=JA_ @R.fgL.eq_1 (JA_ @R.fgL.eq_2 (JA_ @B.fgL.eq_1 (JA_ @B.fgL.eq_2 (JA_ @B.fgL.eq_4 (JA_ @C.farL.eq_1 (JA_ @C.farL.eq_3 (JA_ @C.farL.eq_5 (JA_ @R.farL.eq_1 (JA_ @B.farL.eq_1 (JA_ @B.farL.eq_2 (JA_ @qow.eq_3 (JA_ @S.ev.eq_1 (JA_ @S.ev.eq_2 (JA_ @S.ev.eq_3 (JA_ @S.get.eq_1 (JA_ @S.blk.eq_1 (JA_ @S.put.eq_1 (JA_ @S.put.eq_2 (JA_ @S.up.eq_1 (JA_ @S.bd.eq_1 (JA_ @S.bd.eq_2 (@S.seq.eq_1))))))))))))))))))))))
def qu4:=JA_ @S.cell1.eq_1 (JA_ @lk.eq_1 (JA_ @lk.eq_2 (JA_ @ZD.eq_1 (JA_ @ZD.eq_2 (JA_ @ZD.eq_3 (JA_ @ZD.eq_5 (JA_ @ZD.eq_6 (JA_ @ZD.eq_7 (JA_ @q16.eq_1 (JA_ @q16.eq_2 (JA_ @qjh (JA_ @ldx.eq_1 (JA_ @bld.eq_1 (JA_ @bld.eq_2 (JA_ @spl.eq_1 (JA_ @spl.eq_2 (JA_ @Je.eq_1 (JA_ @Ty.foff.eq_1 (JA_ @R.cells.eq_1 (JA_ @R.cells.eq_2 (JA_ @R.parts.eq_1 (JA_ @R.parts.eq_2 (JA_ @B.cells.eq_1 (JA_ @B.cells.eq_2 (JA_ @B.live.eq_1 (JA_ @B.live.eq_2 (JA_ @C.known.eq_3 (JA_ @C.far.eq_1 (@C.far.eq_3)))))))))))))))))))))))))))))
def qtU:=JA_ @C.far.eq_5 (JA_ @S.fg.eq_1 (JA_ @R.fg.eq_1 (JA_ @R.fg.eq_2 (JA_ @R.fg.eq_3 (JA_ @R.fg.eq_4 (JA_ @B.fg.eq_1 (JA_ @B.fg.eq_2 (JA_ @B.fg.eq_4 (JA_ @C.fg.eq_1 (JA_ @C.fg.eq_3 (JA_ @C.fg.eq_4 (JA_ @C.fg.eq_5 (JA_ @D1.eq_1 (JA_ @q0Y.eq_1 (JA_ @q0Y.eq_3 (JA_ @q0Y.eq_4 (JA_ @q0Y.eq_6 (JA_ @q0Y.eq_7 (JA_ @q0Y.eq_8 (JA_ @q0Y.eq_9 (JA_ @q0Y.eq_10 (JA_ @q0Y.eq_11 (JA_ @q0Y.eq_14 (JA_ @q0Y.eq_15 (JA_ @q0Y.eq_17 (JA_ @q0Y.eq_23 (@q0Y.eq_24)))))))))))))))))))))))))))
def quv:=JA_ @qe8.eq_1 (JA_ @qe8.eq_5 (JA_ @qe8.eq_6 (JA_ @q4N.eq_3 (JA_ @q4N.eq_5 (JA_ @q4N.eq_6 (JA_ @qcf.eq_1 (JA_ @qcf.eq_3 (JA_ @qcf.eq_4 (JA_ @qcf.eq_5 (JA_ @fpC.eq_1 (JA_ @qoc.eq_1 (JA_ @qms.eq_1 (JA_ @qos.eq_1 (JA_ @C.lt0.eq_4 (JA_ @C.ltn.eq_2 (JA_ @R.lt0.eq_1 (JA_ @R.ltn.eq_2 (JA_ @B.ltn.eq_1 (JA_ @B.ltn.eq_4 (JA_ @q1o.eq_1 (JA_ @Fp.none?.eq_1 (JA_ @okP.eq_1 (@okP.eq_2)))))))))))))))))))))))
def qul:=JA_ @qgi (JA_ @qfO (JA_ @qk7 (JA_ @qg7 (JA_ @qfv (JA_ @qeN (JA_ @qiM (JA_ @qfo (JA_ @qgt (JA_ @qew (JA_ @qav (JA_ @qio (JA_ @qgh (JA_ @qey (JA_ @qie (JA_ @qg2 (JA_ @qgj (JA_ @qfs (JA_ @qi5 (JA_ @qeS (JA_ @qfD (JA_ @qez (JA_ @qhy (JA_ @qfu (JA_ @qhT (JA_ @qcM (JA_ @qjy (JA_ @qeY (JA_ @qgo (JA_ @qnZ (JA_ @qjr (@C.farF.eq_2)))))))))))))))))))))))))))))))
def qtE:=JA_ @Op.operands.eq_1 (JA_ @Op.operands.eq_4 (JA_ @Op.operands.eq_7 (JA_ @Op.operands.eq_8 (JA_ @Op.operands.eq_9 (JA_ @Op.operands.eq_14 (JA_ @Op.operands.eq_23 (JA_ @Op.operands.eq_24 (JA_ @Op.operands.eq_25 (JA_ @Op.operands.eq_26 (JA_ @Op.operands.eq_27 (JA_ @Op.operands.eq_29 (JA_ @Op.operands.eq_36 (@Op.operands.eq_40)))))))))))))
def qup:=JA_ @qlM (JA_ @qlS (JA_ @qo1.eq_1 (JA_ @qo1.eq_2 (JA_ @Option.toList_some.{0} (JA_ @Option.toList_none.{0} (JA_ @List.getElem?_nil.{0} (JA_ @List.drop_zero.{0} (JA_ @Int.cast_ofNat_Int (JA_ @Int.le_refl (JA_ @qvH (JA_ @Option.bind_assoc.{0,0,0} (JA_ @List.any_nil.{0} (JA_ @List.any_cons.{0} (JA_ @List.getD_cons_zero.{0} (JA_ @List.getD_cons_succ.{0} (JA_ @true_and (JA_ @and_true (JA_ @false_and (JA_ @qwf.{0} (JA_ @Prod.mk.injEq.{0,0} (JA_ @qvr.{0,0} (JA_ @Option.bind_none.{0,0} (JA_ @Option.map_some.{0,0} (JA_ @Option.map_none.{0,0} (JA_ @Option.getD_some.{0} (JA_ @Option.getD_none.{0} (JA_ @ne_eq.{1} (@not_false_eq_true))))))))))))))))))))))))))))
def quD:=JA_ @or_false (JA_ @Bool.false_eq_true (JA_ @qvO.{0,0} (JA_ @List.map_nil.{0,0} (JA_ @List.all_cons.{0} (JA_ @List.all_nil.{0} (JA_ @qws (JA_ @qvY (JA_ @Bool.and_false (JA_ @Bool.false_and (JA_ @qvX (JA_ @Bool.or_true (JA_ @Bool.true_or (JA_ @Bool.or_false (JA_ @Bool.false_or (JA_ @qvC.{0} (JA_ @qw9.{0} (JA_ @qw8.{0,0} (JA_ @qvB.{0} (JA_ @qvQ.{0} (JA_ @qwt.{0,0} (JA_ @List.foldl_nil.{0,0} (JA_ @qwv.{0} (JA_ @qvL.{0} (JA_ @qvM.{0} (JA_ @Nat.max_def (JA_ @decide_true (JA_ @decide_false (JA_ @decide_not (JA_ @qwp (JA_ @qvR (JA_ @Nat.zero_mul (JA_ @Nat.mul_one (JA_ @Nat.one_mul (JA_ @Nat.add_zero (JA_ @qvP (JA_ @qvu (JA_ @List.mapM_cons.{0,0,0} (@List.mapM_nil.{0,0,0}))))))))))))))))))))))))))))))))))))))
def qub:=JA_ @List.drop_succ_cons.{0} (JA_ @List.drop_nil.{0} (JA_ @List.take_succ_cons.{0} (JA_ @List.take_zero.{0} (JA_ @List.replicate_succ.{0} (JA_ @List.replicate_zero.{0} (JA_ @List.set_cons_zero.{0} (JA_ @List.set_cons_succ.{0} (JA_ @and_self (JA_ @Bool.not_true (JA_ @Bool.not_false (JA_ @List.contains_cons.{0} (JA_ @List.contains_nil.{0} (JA_ @qwu.{0,0} (JA_ @List.flatMap_nil.{0,0} (JA_ @List.filter_cons.{0} (JA_ @List.filter_nil.{0} (JA_ @List.eraseDups_cons.{0} (JA_ @List.eraseDups_nil.{0} (JA_ @List.nodup_cons.{0} (JA_ @List.nodup_nil.{0} (JA_ @qvN.{0} (JA_ @List.not_mem_nil.{0} (JA_ @List.headD_cons.{0} (JA_ @List.headD_nil.{0} (JA_ @List.tail_cons.{0} (JA_ @List.tail_nil.{0} (JA_ @beq_self_eq_true.{0} (JA_ @ZU (JA_ @List.range_succ (JA_ @List.range_zero (JA_ @ite_self.{1} (JA_ @qfg (JA_ @qep (JA_ @qg0 (JA_ @qal (@qm2))))))))))))))))))))))))))))))))))))
def quM:=JA_ @qn1 (JA_ @frA.eq_1 (JA_ @R.dat.eq_1 (JA_ @R.dat.eq_2 (JA_ @qj9 (JA_ @qj5 (JA_ @qnz (JA_ @qiZ (JA_ @qlt (JA_ @qi7 (JA_ @qjx (JA_ @qoe (JA_ @qfy (JA_ @q7t (JA_ @qfQ (JA_ @mpo.eq_2 (JA_ @qrE (@qaz)))))))))))))))))
def qvc:=JA_ @qmb (JA_ @qiJ (JA_ @ql4 (JA_ @qj0 (JA_ @qlv (JA_ @qfK (JA_ @qia (JA_ @qdZ (JA_ @qjl (JA_ @qhH (JA_ @qfm (JA_ @qfI (JA_ @JN.eq_1 (@JN.eq_2)))))))))))))
def quI:=JA_ @qiz.eq_2 (JA_ @hdG.eq_1 (JA_ @qlD.eq_1 (JA_ @qlD.eq_2 (JA_ @qea (JA_ @xrg.eq_1 (JA_ @xrg.eq_3 (JA_ @qrc (JA_ @qcb (JA_ @xen.eq_1 (JA_ @qqr.eq_1 (JA_ @qqE.eq_1 (JA_ @qcz (JA_ @xnm.eq_1 (JA_ @qoI.eq_1 (JA_ @qoI.eq_2 (JA_ @qb7 (JA_ @qad (JA_ @qic (JA_ @qeT (JA_ @qf9 (JA_ @qju (@qff))))))))))))))))))))))
def qtM:=JA_ @qjO (JA_ @qfx (JA_ @qay (JA_ @qix (JA_ @qfe (JA_ @qfj (JA_ @qjK (JA_ @qgm (JA_ @qiH (JA_ @qeU (JA_ @qjY (JA_ @qjE (JA_ @qfN (JA_ @qtY (JA_ @qtS (JA_ @qrC (JA_ @qr9 (JA_ @qqJ (JA_ @qnX (JA_ @qlH (JA_ @qnE (JA_ @qrP (JA_ @qna (JA_ @ql1 (JA_ @qnL (JA_ @qhR (JA_ @qiU (JA_ @qnq (JA_ @qhC (@qnS)))))))))))))))))))))))))))))
def quz:=JA_ @qmf (JA_ @Sum.elim_inl.{0,1,0} (JA_ @Sum.elim_inr.{0,1,0} (JA_ @qk6 (JA_ @qbZ (JA_ @qec (JA_ @qf6 (JA_ @qoj.eq_1 (JA_ @qco (JA_ @qjP (JA_ @qkd (JA_ @qjk (JA_ @qjA (JA_ @qk4 (@q7Y))))))))))))))
def qun:=JA_ @q7k (JA_ @qnJ (JA_ @qrL.eq_1 (JA_ @qvy.{0} (JA_ @qwb.{0} (JA_ @List.length_modify.{0} (JA_ @qau (JA_ @qd2 (JA_ @List.take_nil.{0} (JA_ @qby (@qkX))))))))))
theorem quE (a0 a1 a2 a3:Int) (i:Nat):([C.d (D.int .i64 a0),C.d (D.int .i64 a1),C.d (D.int .i64 a2),C.d (D.int .i64 a3)]:List C)[i]?=([a0,a1,a2,a3][i]?).bind fun x=>some (C.d (D.int .i64 x)):=by rw[show([C.d (D.int .i64 a0),C.d (D.int .i64 a1),C.d (D.int .i64 a2),C.d (D.int .i64 a3)]:List C)=[a0,a1,a2,a3].map (fun x=>C.d (D.int .i64 x)) from rfl,qvF];cases([a0,a1,a2,a3]:List Int)[i]? <;> rfl
theorem qud (a0 a1 a2 a3 a4 a5:Int) (i:Nat):([C.d (D.int .i64 a0),C.d (D.int .i64 a1),C.d (D.int .i64 a2),C.d (D.int .i64 a3),C.d (D.int .i64 a4),C.d (D.int .i64 a5)]:List C)[i]?=([a0,a1,a2,a3,a4,a5][i]?).bind fun x=>some (C.d (D.int .i64 x)):=by rw[show([C.d (D.int .i64 a0),C.d (D.int .i64 a1),C.d (D.int .i64 a2),C.d (D.int .i64 a3),C.d (D.int .i64 a4),C.d (D.int .i64 a5)]:List C)=[a0,a1,a2,a3,a4,a5].map (fun x=>C.d (D.int .i64 x)) from rfl,qvF];cases([a0,a1,a2,a3,a4,a5]:List Int)[i]? <;> rfl
theorem qtP (a0 a1 a2 a3 a4 a5 a6 a7:ByteArray) (i:Nat):([C.d (D.str a0),C.d (D.str a1),C.d (D.str a2),C.d (D.str a3),C.d (D.str a4),C.d (D.str a5),C.d (D.str a6),C.d (D.str a7)]:List C)[i]?=([a0,a1,a2,a3,a4,a5,a6,a7][i]?).bind fun x=>some (C.d (D.str x)):=by rw[show([C.d (D.str a0),C.d (D.str a1),C.d (D.str a2),C.d (D.str a3),C.d (D.str a4),C.d (D.str a5),C.d (D.str a6),C.d (D.str a7)]:List C)=[a0,a1,a2,a3,a4,a5,a6,a7].map (fun x=>C.d (D.str x)) from rfl,qvF];cases([a0,a1,a2,a3,a4,a5,a6,a7]:List ByteArray)[i]? <;> rfl
theorem qo6 (k:Nat):(6=min k 6)=(6≤k):=by apply propext;omega
theorem qlz (k:Nat):(min k 6≤6)=True:=eq_true (Nat.min_le_right ..)
theorem qrj (a0 a1 a2 a3 a4 a5:Int) (k:Nat):(if 6≤k then some [D.int .i64 a0,D.int .i64 a1,D.int .i64 a2,D.int .i64 a3,D.int .i64 a4,D.int .i64 a5] else some ((List.take (min k 6) [a0,a1,a2,a3,a4,a5]).flatMap eI))=some ((List.take k [a0,a1,a2,a3,a4,a5]).flatMap eI):=by
 split
 ·rename_i h;rw[qww (show[a0,a1,a2,a3,a4,a5].length≤k from h)];rfl
 ·rename_i h;rw[show min k 6=k by omega]
theorem qkf (a0 a1 a2 a3 a4 a5:ByteArray) (k:Nat):(List.take (min k 6) [D.str a0,D.str a1,D.str a2,D.str a3,D.str a4,D.str a5]:List D)=(List.take (min k 6) [a0,a1,a2,a3,a4,a5]).flatMap eS:=by rw[show([D.str a0,D.str a1,D.str a2,D.str a3,D.str a4,D.str a5]:List D)=[a0,a1,a2,a3,a4,a5].map (fun x=>D.str x) from rfl,←List.map_take];generalize List.take (min k 6) [a0,a1,a2,a3,a4,a5]=l;induction l with
 | nil=>rfl
 | cons a l ih=>rw[qvO,ih];rfl
theorem qiK (a0 a1 a2 a3 a4 a5:ByteArray) (k:Nat):(if 6≤k then some [D.str a0,D.str a1,D.str a2,D.str a3,D.str a4,D.str a5] else some ((List.take (min k 6) [a0,a1,a2,a3,a4,a5]).flatMap eS))=some ((List.take k [a0,a1,a2,a3,a4,a5]).flatMap eS):=by
 split
 ·rename_i h;rw[qww (show[a0,a1,a2,a3,a4,a5].length≤k from h)];rfl
 ·rename_i h;rw[show min k 6=k by omega]
theorem qkj (a0 a1 a2 a3 a4 a5:ByteArray) (k:Nat):D.sl 1 (min k 6) ((List.take k [a0,a1,a2,a3,a4,a5]).flatMap eS)=D.sl 1 (List.take k [a0,a1,a2,a3,a4,a5]).length ((List.take k [a0,a1,a2,a3,a4,a5]).flatMap eS):=by rw[qvU];rfl
def bz0:=JA_ @quE (JA_ @qud (@qtP))
def bz2:=JA_ @qo6 (JA_ @qlz (JA_ @qkf (JA_ @qiK (@qkj))))
end
noncomputable section
open Go.RowKit
structure qmW (α:Type) where
 a0:α
 a1:α
structure q6F (α:Type) where
 a0:α
 a1:α
 a2:α
structure qa where
 Code:ByteArray
 Credits:Int
 Places:Int
 Slots:List Int
 Needs:List ByteArray
def qb (x:qa):List D:=[D.str x.Code,D.int .i64 x.Credits,D.int .i64 x.Places,D.sl 1 x.Slots.length (x.Slots.flatMap eI),D.sl 1 x.Needs.length (x.Needs.flatMap eS)]
theorem zI (x:qa):qb x=[D.str x.Code,D.int .i64 x.Credits,D.int .i64 x.Places,D.sl 1 x.Slots.length (x.Slots.flatMap eI),D.sl 1 x.Needs.length (x.Needs.flatMap eS)]:=rfl
theorem q1b (x:qa):(qb x).length=5:=rfl
theorem q4V (x:qa):qa.mk x.Code x.Credits x.Places x.Slots x.Needs=x:=rfl
structure qi where
 L:List Int
 At:Int
theorem q48 (x:qi):qi.mk x.L x.At=x:=rfl
theorem q9z:∀x:Int,(eI x).length=1:=fun _=>rfl
theorem qqR (v:List Int):(v.flatMap eI).length=v.length:=by rw[q2S q9z,Nat.mul_one]
theorem qeD (v:List Int) (i:Nat):ld T ((v.flatMap eI).map C.d) (i) 3=(v[i]?).bind fun x=>some (.c (.d (D.int .i64 x))):=by rw[q6f q9z v i _ (by decide)];cases v[i]? with|none=>rfl|some x=>rfl
theorem qru (v:List Int) (a:Int):(v.flatMap eI).map C.d++[C.d (D.int .i64 a)]=((v++[a]).flatMap eI).map C.d:=by have h:=q7y (E:=eI) v a;exact h
theorem qhV (s:S) (v:List Int) (lo hi:Option Operand):xsl T s 22 (.c (.d (.sl 1 v.length (v.flatMap eI)))) lo hi=qoj s eI 1 v (s.bd lo 0) (s.bd hi v.length):=qgH q9z v lo hi (by rfl) (by rfl) (by decide)
theorem q0M:∀x:qa,(qb x).length=5:=q1b
theorem qnI (v:List qa):(v.flatMap qb).length=v.length*5:=by rw[q2S q0M]
theorem qaF (v:List qa) (i:Nat):ld T ((v.flatMap qb).map C.d) (i*5) 35=(v[i]?).bind fun x=>some (.agg [.d (D.str x.Code),.d (D.int .i64 x.Credits),.d (D.int .i64 x.Places),.d (D.sl 1 x.Slots.length (x.Slots.flatMap eI)),.d (D.sl 1 x.Needs.length (x.Needs.flatMap eS))]):=by rw[q8O q0M v i _ (by decide) (by decide)];cases v[i]? with|none=>rfl|some x=>rw[qvr,qvr,zI];rfl
theorem qbj (v:List qa) (i:Nat):ld T ((v.flatMap qb).map C.d) (i*5) 9=(v[i]?).bind fun x=>some (.c (.d (D.str x.Code))):=by rw[q8O q0M v i _ (by decide) (by decide)];cases v[i]? with|none=>rfl|some x=>rw[qvr,qvr,zI];rfl
theorem qaC (v:List qa) (i:Nat):ld T ((v.flatMap qb).map C.d) (i*5+4) 33=(v[i]?).bind fun x=>some (.c (.d (D.sl 1 x.Needs.length (x.Needs.flatMap eS)))):=by rw[q7E q0M v i 4 _ (by decide) (by decide)];cases v[i]? with|none=>rfl|some x=>rw[qvr,qvr,zI];rfl
theorem qn3 (v:List qa) (a_Code:ByteArray) (a_Credits:Int) (a_Places:Int) (a_Slots:List Int) (a_Needs:List ByteArray):(v.flatMap qb).map C.d++[C.d (D.str a_Code),C.d (D.int .i64 a_Credits),C.d (D.int .i64 a_Places),C.d (D.sl 1 a_Slots.length (a_Slots.flatMap eI)),C.d (D.sl 1 a_Needs.length (a_Needs.flatMap eS))]=((v++[(qa.mk a_Code a_Credits a_Places a_Slots a_Needs)]).flatMap qb).map C.d:=by have h:=q7y (E:=qb) v (qa.mk a_Code a_Credits a_Places a_Slots a_Needs);rw[zI] at h;exact h
theorem qj8 (v:List qa) (i:Nat) (a_Code:ByteArray) (a_Credits:Int) (a_Places:Int) (a_Slots:List Int) (a_Needs:List ByteArray):spr ((v.flatMap qb).map C.d) (i*5) [C.d (D.str a_Code),C.d (D.int .i64 a_Credits),C.d (D.int .i64 a_Places),C.d (D.sl 1 a_Slots.length (a_Slots.flatMap eI)),C.d (D.sl 1 a_Needs.length (a_Needs.flatMap eS))]=((v.set i (qa.mk a_Code a_Credits a_Places a_Slots a_Needs)).flatMap qb).map C.d:=by have h:=qjH q0M v i (qa.mk a_Code a_Credits a_Places a_Slots a_Needs);rw[zI] at h;exact h
theorem qeJ (v:List qa) (i:Nat) (b:List Int):spr ((v.flatMap qb).map C.d) (i*5+3) [C.d (D.sl 1 b.length (b.flatMap eI))]=((v.modify i fun x=>{ x with Slots:=b }).flatMap qb).map C.d:=by have h:=qcy q0M (fo:=3) (d:=D.sl 1 b.length (b.flatMap eI)) (fun x=>{ x with Slots:=b }) (by decide) (fun x=>by rw[zI,zI];rfl) v i;rw[←h];exact(q56 C.d [D.sl 1 b.length (b.flatMap eI)] _ _)
theorem qb5 (v:List qa) (i:Nat) (w:List Int) (z:Int):spr ((v.flatMap qb).map C.d) (i*5+3) [C.d (D.sl 1 (w.length+1) ((w++[z]).flatMap eI))]=((v.modify i fun x=>{ x with Slots:=(w++[z]) }).flatMap qb).map C.d:=by have h:=qeJ v i (w++[z]);rw[qvy,qvJ] at h;exact h
theorem q6A (v:List qa) (i:Nat) (b:List ByteArray):spr ((v.flatMap qb).map C.d) (i*5+4) [C.d (D.sl 1 b.length (b.flatMap eS))]=((v.modify i fun x=>{ x with Needs:=b }).flatMap qb).map C.d:=by have h:=qcy q0M (fo:=4) (d:=D.sl 1 b.length (b.flatMap eS)) (fun x=>{ x with Needs:=b }) (by decide) (fun x=>by rw[zI,zI];rfl) v i;rw[←h];exact(q56 C.d [D.sl 1 b.length (b.flatMap eS)] _ _)
theorem qbS (v:List qa) (i:Nat) (w:List ByteArray) (z:ByteArray):spr ((v.flatMap qb).map C.d) (i*5+4) [C.d (D.sl 1 (w.length+1) ((w++[z]).flatMap eS))]=((v.modify i fun x=>{ x with Needs:=(w++[z]) }).flatMap qb).map C.d:=by have h:=q6A v i (w++[z]);rw[qvy,qvJ] at h;exact h
theorem qbe (v:List qa) (i:Nat) (z:ByteArray):spr ((v.flatMap qb).map C.d) (i*5+4) [C.d (D.sl 1 1 [D.str z])]=((v.modify i fun x=>{ x with Needs:=[z] }).flatMap qb).map C.d:=q6A v i [z]
theorem qdK:∀x:(List qa),((eL 5 qb) x).length=1:=fun _=>rfl
theorem qaw (v:List (List qa)) (i:Nat):ld T ((v.flatMap (eL 5 qb)).map C.d) (i) 25=(v[i]?).bind fun x=>some (.c (.d (D.sl 5 x.length (x.flatMap qb)))):=by rw[q6f qdK v i _ (by decide)];cases v[i]? with|none=>rfl|some x=>rfl
theorem q9K:∀x:ByteArray,(eS x).length=1:=fun _=>rfl
theorem qpm (v:List ByteArray):(v.flatMap eS).length=v.length:=by rw[q2S q9K,Nat.mul_one]
theorem qgf (v:List ByteArray) (i:Nat):ld T ((v.flatMap eS).map C.d) (i) 9=(v[i]?).bind fun x=>some (.c (.d (D.str x))):=by rw[q6f q9K v i _ (by decide)];cases v[i]? with|none=>rfl|some x=>rfl
theorem qqz (v:List ByteArray) (a:ByteArray):(v.flatMap eS).map C.d++[C.d (D.str a)]=((v++[a]).flatMap eS).map C.d:=by have h:=q7y (E:=eS) v a;exact h
theorem qjz (s:S) (v:List ByteArray) (lo hi:Option Operand):xsl T s 33 (.c (.d (.sl 1 v.length (v.flatMap eS)))) lo hi=qoj s eS 1 v (s.bd lo 0) (s.bd hi v.length):=qgH q9K v lo hi (by rfl) (by rfl) (by decide)
theorem qmx:∀x:Int,(eU8 x).length=1:=fun _=>rfl
def qn (x:qa):List C:=[C.d (D.str x.Code),C.d (D.int .i64 x.Credits),C.d (D.int .i64 x.Places),C.ow 3 1 x.Slots.length (x.Slots.flatMap eI),C.ow 9 1 x.Needs.length (x.Needs.flatMap eS)]
theorem q0K:∀x:qa,(qn x).length=5:=fun _=>rfl
theorem q04:∀x:qa,(qn x).all C.pl=true:=fun _=>rfl
theorem qiq (v:List qa):(v.flatMap qn).length=v.length*5:=by rw[qgE q0K]
theorem qir (v:List qa) (k:Nat):(v.flatMap qn).map (C.fg k)=v.flatMap qn:=q94 q04 (qq9 k) v
theorem qjv (v:List qa) (ids:List Nat):(v.flatMap qn).map (cn ids)=v.flatMap qn:=q94 q04 (qrK ids) v
theorem qiw (v:List qa)  : (v.flatMap qn).map (C.kw)=v.flatMap qn:=q94 q04 (qqc) v
theorem qhB (v:List qa) (k e sz:Nat) (ds:List D):(v.flatMap qn).map (C.ab k e sz ds)=v.flatMap qn:=q94 q04 (qqA k e sz ds) v
theorem qfh (v:List qa) (k:Nat):(v.flatMap qn).all (C.far k)=true:=qhe q04 (qlO k) v
theorem qcD (v:List qa) (X:List Nat):(v.flatMap qn).all (C.farF X)=true:=qhe q04 (qk9 X) v
theorem qcQ (v:List qa):(v.flatMap qn).any C.isNils=false:=qni q04 qiu v
theorem qdu (v:List qa):(v.flatMap qn).flatMap C.refs=[]:=qnC q04 qjc v
theorem qcA (v:List qa):(v.flatMap qn).flatMap C.rows=[]:=qnC q04 qhI v
theorem qi3 (v:List qa):(v.flatMap qn).map C.uw=(v.flatMap qb).map C.d:=qlq (E:=qn) (F:=qb) (fun _=>rfl) v
theorem qgc (v:List qa) (ys:List C):q4W [none,none,none,some (3,1),some (9,1)] [] (v.flatMap qn++ys)=v.flatMap qn++q4W [none,none,none,some (3,1),some (9,1)] [] ys:=qgJ q04 q0K [none,none,none,some (3,1),some (9,1)] rfl v ys
theorem qkh (v:List qa) (a_Code:ByteArray) (a_Credits:Int) (a_Places:Int) (a_Slots:List Int) (a_Needs:List ByteArray):v.flatMap qn++[C.d (D.str a_Code),C.d (D.int .i64 a_Credits),C.d (D.int .i64 a_Places),C.ow 3 1 a_Slots.length (a_Slots.flatMap eI),C.ow 9 1 a_Needs.length (a_Needs.flatMap eS)]=(v++[(qa.mk a_Code a_Credits a_Places a_Slots a_Needs)]).flatMap qn:=qh1 (E:=qn) v (qa.mk a_Code a_Credits a_Places a_Slots a_Needs)
theorem qeo (v:List qa) (a_Code:ByteArray) (a_Credits:Int) (a_Places:Int):v.flatMap qn++[C.d (D.str a_Code),C.d (D.int .i64 a_Credits),C.d (D.int .i64 a_Places),C.ow 3 1 0 [],C.ow 9 1 0 []]=(v++[(qa.mk a_Code a_Credits a_Places [] [])]).flatMap qn:=qh1 (E:=qn) v (qa.mk a_Code a_Credits a_Places [] [])
theorem qcG (v:List qa) (i:Nat) (b:ByteArray):spr (v.flatMap qn) (i*5) [C.d (D.str b)]=(v.modify i fun x=>{ x with Code:=b }).flatMap qn:=by have h:=q8R q0K (fo:=0) (d:=C.d (D.str b)) (fun x=>{ x with Code:=b }) (by decide) (fun x=>by rfl) v i;rw[Nat.add_zero] at h;exact h
theorem qdq (v:List qa) (i:Nat) (b:Int):spr (v.flatMap qn) (i*5+1) [C.d (D.int .i64 b)]=(v.modify i fun x=>{ x with Credits:=b }).flatMap qn:=by have h:=q8R q0K (fo:=1) (d:=C.d (D.int .i64 b)) (fun x=>{ x with Credits:=b }) (by decide) (fun x=>by rfl) v i;exact h
theorem qb3 (v:List qa) (i:Nat) (b:Int):spr (v.flatMap qn) (i*5+2) [C.d (D.int .i64 b)]=(v.modify i fun x=>{ x with Places:=b }).flatMap qn:=by have h:=q8R q0K (fo:=2) (d:=C.d (D.int .i64 b)) (fun x=>{ x with Places:=b }) (by decide) (fun x=>by rfl) v i;exact h
theorem qaS (v:List qa) (i:Nat):(v.flatMap qn)[i*5+3]?=(v[i]?).bind fun x=>some (C.ow 3 1 x.Slots.length (x.Slots.flatMap eI)):=by have h:=qds q0K (show 3<5 by decide) v i;exact h
theorem qdh (v:List qa) (i:Nat):(v.flatMap qn)[i*5+4]?=(v[i]?).bind fun x=>some (C.ow 9 1 x.Needs.length (x.Needs.flatMap eS)):=by have h:=qds q0K (show 4<5 by decide) v i;exact h
theorem qfZ (cs:List C) (o:Nat) (c:C):ld T (spr cs o [c]) o 33=(cs[o]?).bind fun _=>some (R.c c):=by rw[qry (by rw[k33];simp) (by rw[k33];simp) (by rw[k33];simp),qfd]
theorem q6Q (v w:List Int):(v.flatMap eI=w.flatMap eI)=(v=w):=propext ⟨fun h=>(q0z q9z (by decide) (fun x y h=>by injection h with h;injection h) _ _) h,fun h=>by rw[h]⟩
theorem q6K (v w:List ByteArray):(v.flatMap eS=w.flatMap eS)=(v=w):=propext ⟨fun h=>(q0z q9K (by decide) (fun x y h=>by injection h with h;injection h) _ _) h,fun h=>by rw[h]⟩
theorem q1l:∀x y:qa,qb x=qb y→x=y:=by
 rintro⟨a_0,a_1,a_2,a_3,a_4⟩ ⟨b_0,b_1,b_2,b_3,b_4⟩ h
 simp only[zI,List.cons.injEq,D.int.injEq,D.bool.injEq,D.str.injEq,D.sl.injEq,true_and,and_true,q6Q,q6K] at h
 simp only[h]
theorem q67 (v w:List qa):(v.flatMap qb=w.flatMap qb)=(v=w):=propext ⟨fun h=>(q0z q0M (by decide) q1l _ _) h,fun h=>by rw[h]⟩
theorem q6i (v w:List (List qa)):(v.flatMap (eL 5 qb)=w.flatMap (eL 5 qb))=(v=w):=propext ⟨fun h=>(q0z qdK (by decide) (fun x y h=>by injection h with h;injection h with _ _ h;exact(q0z q0M (by decide) q1l _ _) h) _ _) h,fun h=>by rw[h]⟩
theorem q8L (v w:List Int):(v.flatMap eU8=w.flatMap eU8)=(v=w):=propext ⟨fun h=>(q0z qmx (by decide) (fun x y h=>by injection h with h;injection h) _ _) h,fun h=>by rw[h]⟩
def QS (v:Bool):R:=R.c (C.d (D.bool v))
theorem q8P (M M':List (ByteArray×Bool)):(B.ob (mpB Qc QS M)=B.ob (mpB Qc QS M'))=(M=M'):=qdU (fun a b h=>by injection h) (fun a b h=>by simp only[QS,R.c.injEq,C.d.injEq,D.int.injEq,D.bool.injEq,D.str.injEq,D.sl.injEq,true_and,and_true,q6Q,q6K,q67,q6i,q8L] at h;simp only[h]) M M'
theorem qkB (f:Nat→Nat) (M:List (ByteArray×Bool)):AO.mapR (R.rn0 f) (mpB Qc QS M)=mpB Qc QS M:=q4q (vE:=QS) (fun v=>rfl) M
theorem qlo (ids:List Nat) (M:List (ByteArray×Bool)):AO.mapR (qaP ids) (mpB Qc QS M)=mpB Qc QS M:=q4q (vE:=QS) (fun v=>rfl) M
theorem qn2 (M:List (ByteArray×Bool)):(mpB Qc QS M).Rs.all (R.scl0)=true:=qjm (fun v=>rfl) M
theorem qnb (M:List (ByteArray×Bool)):(mpB Qc QS M).Rs.flatMap R.refs0=[]:=q8S (fun v=>rfl) M
theorem qhm (s:S) (sel:List Nat) (M:List (ByteArray×Bool)):cvA s sel (mpB Qc QS M)=some (mpB Qc QS M):=qd4 (fun v=>rfl) M
theorem qfC (M:List (ByteArray×Bool)):((mpE Qc QS M 0).all fun q=>plK Kd.str q.1)=true:=q6B (fun k r i=>rfl) M 0
theorem qjR (ok:Bool) (k:ByteArray) (M:List (ByteArray×Bool)):lkq ok (R.c (C.d (D.bool false))) (fnd (Value.string k) (mpE Qc QS M 0) 0)=some (tt2 (R.c (C.d (D.bool (Qz false M k)))) ok (J3 M k)):=qlj (vE:=QS) (kE:=Qc) (q8t) (false) ok k M
theorem qjt (k:ByteArray) (v:Bool) (M:List (ByteArray×Bool)):mup Kd.str (Value.string k) (R.c (C.d (D.bool v))) (.ob (mpB Qc QS M))=some (.ob (mpB Qc QS (q2e M k v))):=qnO (vE:=QS) (kE:=Qc) (q8t) (fun a=>rfl) k v M
theorem qkv (s:S) (p:Nat):JV T s p 46 none=some (.c (.hd .map p),s.up [(p,.ob (mpB Qc QS ([]:List (ByteArray×Bool))))]):=rfl
def zG (v:List ByteArray):R:=R.c (C.d (D.sl 1 v.length (v.flatMap eS)))
theorem q9A (M M':List (ByteArray×List ByteArray)):(B.ob (mpB Qc zG M)=B.ob (mpB Qc zG M'))=(M=M'):=qdU (fun a b h=>by injection h) (fun a b h=>by simp only[zG,R.c.injEq,C.d.injEq,D.int.injEq,D.bool.injEq,D.str.injEq,D.sl.injEq,true_and,and_true,q6Q,q6K,q67,q6i,q8L] at h;simp only[h]) M M'
theorem qmh (f:Nat→Nat) (M:List (ByteArray×List ByteArray)):AO.mapR (R.rn0 f) (mpB Qc zG M)=mpB Qc zG M:=q4q (vE:=zG) (fun v=>rfl) M
theorem qmZ (ids:List Nat) (M:List (ByteArray×List ByteArray)):AO.mapR (qaP ids) (mpB Qc zG M)=mpB Qc zG M:=q4q (vE:=zG) (fun v=>rfl) M
theorem qkz (M:List (ByteArray×List ByteArray)):(mpB Qc zG M).Rs.flatMap R.refs0=[]:=q8S (fun v=>rfl) M
theorem qho (s:S) (sel:List Nat) (M:List (ByteArray×List ByteArray)):cvA s sel (mpB Qc zG M)=some (mpB Qc zG M):=qd4 (fun v=>rfl) M
theorem qeG (M:List (ByteArray×List ByteArray)):((mpE Qc zG M 0).all fun q=>plK Kd.str q.1)=true:=q6B (fun k r i=>rfl) M 0
theorem qiQ (ok:Bool) (k:ByteArray) (M:List (ByteArray×List ByteArray)):lkq ok (R.c (C.d (D.sl 1 0 []))) (fnd (Value.string k) (mpE Qc zG M 0) 0)=some (tt2 (R.c (C.d (D.sl 1 (Qz [] M k).length ((Qz [] M k).flatMap eS)))) ok (J3 M k)):=qlj (vE:=zG) (kE:=Qc) (q8t) ([]) ok k M
theorem qis (k:ByteArray) (v:List ByteArray) (M:List (ByteArray×List ByteArray)):mup Kd.str (Value.string k) (R.c (C.d (D.sl 1 v.length (v.flatMap eS)))) (.ob (mpB Qc zG M))=some (.ob (mpB Qc zG (q2e M k v))):=qnO (vE:=zG) (kE:=Qc) (q8t) (fun a=>rfl) k v M
theorem ql0 (s:S) (p:Nat):JV T s p 65 none=some (.c (.hd .map p),s.up [(p,.ob (mpB Qc zG ([]:List (ByteArray×List ByteArray))))]):=rfl
theorem qhJ (l:List qa) (i j:Int):qap 35 5 0 [.c (.own 0 5 0 l.length),.c (.d (.int .i64 i)),.c (.d (.int .i64 j))] [(0,.row 35 5 ((l.flatMap qb).map C.d))]=if 0≤i∧j=i+1∧i<l.length then some (.c (.own 0 5 0 (l.eraseIdx i.toNat).length),[(0,.row 35 5 (((l.eraseIdx i.toNat).flatMap qb).map C.d))]) else none:=qiv q1b l i j rfl
end
noncomputable section
open Go.RowKit
def by0:=JA_ @k3 (JA_ @z3 (JA_ @b3 (JA_ @o3 (JA_ @q3 (JA_ @k4 (JA_ @o4 (JA_ @q4 (JA_ @k5 (@z5)))))))))
def by1:=JA_ @k9 (JA_ @z9 (JA_ @b9 (JA_ @o9 (@q9))))
def by2:=JA_ @q21 (JA_ @k22 (JA_ @z22 (JA_ @q22 (JA_ @k23 (JA_ @z23 (JA_ @q23 (JA_ @k24 (JA_ @k25 (@z25)))))))))
def by3:=JA_ @q25 (JA_ @k30 (JA_ @q31 (JA_ @k33 (@z33))))
def by4:=JA_ @o33 (JA_ @q33 (JA_ @k35 (JA_ @z35 (JA_ @b35 (JA_ @o35 (JA_ @q35 (@q36)))))))
def by5:=JA_ @k46 (JA_ @z46 (JA_ @o46 (@q46)))
def by6:=JA_ @k52 (@q57)
def by7:=JA_ @k59 (JA_ @o59 (JA_ @k65 (JA_ @z65 (JA_ @o65 (@q65)))))
def by8:=JA_ @q70 (@q73)
def by9:=JA_ @q78 (JA_ @k81 (JA_ @z81 (@o81)))
def qtB:=@q84
def qv5:=@qmc
def qtO:=JA_ @quG (JA_ @quL (@qv9))
def quj:=JA_ @qqM (JA_ @qqs (JA_ @qpC (JA_ @qrm (JA_ @qr0 (JA_ @qpX (JA_ @qq7 (JA_ @qpq (@qql))))))))
def qtT:=JA_ @qpf (JA_ @qqB (@qpi))
def qtA:=JA_ @qpA (JA_ @qrh (JA_ @qrw (@qqm)))
def quQ:=JA_ @qqZ (@qr8)
def qva:=JA_ @pw3 (JA_ @pw8 (JA_ @pw9 (JA_ @qrV (JA_ @qsH (JA_ @qti (JA_ @qsE (JA_ @qsc (JA_ @qsy (JA_ @qs3 (@qsX))))))))))
def quc:=JA_ @qsA (JA_ @qsY (JA_ @qs8 (JA_ @qt0 (JA_ @qts (JA_ @qtp (JA_ @qsg (JA_ @qt9 (JA_ @qsL (JA_ @qtt (JA_ @qsv (JA_ @qto (JA_ @qtk (JA_ @qs2 (JA_ @qsi (JA_ @qtx (JA_ @qst (JA_ @qpQ (JA_ @qt1 (JA_ @qsW (JA_ @qsG (JA_ @qsw (JA_ @qsu (JA_ @qs4 (JA_ @qs0 (JA_ @qpL (JA_ @qtr (JA_ @qrY (JA_ @qsr (JA_ @qte (JA_ @qsN (JA_ @qqH (JA_ @qsz (@qso)))))))))))))))))))))))))))))))))
def qty:=JA_ @qsP (JA_ @qtb (JA_ @qsZ (JA_ @qrJ (JA_ @qss (JA_ @qoW (JA_ @qsl (JA_ @qrX (JA_ @qsO (JA_ @qt2 (JA_ @qs1 (JA_ @qs5 (JA_ @qrf (@qtn)))))))))))))
def qtL:=JA_ @quF (JA_ @qqe (JA_ @qrq (JA_ @qrv (JA_ @qr6 (JA_ @qrT (JA_ @qrd (JA_ @qr5 (JA_ @qrF (JA_ @qpE (JA_ @qq8 (JA_ @qri (JA_ @qpG (JA_ @qq3 (JA_ @qp8 (JA_ @qp9 (JA_ @qpt (JA_ @qpB (JA_ @qqX (JA_ @qpS (JA_ @qpp (JA_ @qqF (JA_ @qpc (JA_ @qqQ (@qqo))))))))))))))))))))))))
def quJ:=JA_ @qrA (JA_ @qrD (JA_ @qrp (JA_ @qrl (JA_ @qq6 (JA_ @qpJ (JA_ @qrB (JA_ @qrb (JA_ @qpF (JA_ @qrz (JA_ @qrt (JA_ @qr7 (JA_ @qrH (JA_ @qrr (@qrM))))))))))))))
def qux:=JA_ @qo4 (JA_ @qph (JA_ @qpD (JA_ @qjw (JA_ @qhP (JA_ @qkL (JA_ @qjg (JA_ @qlL (JA_ @qhr (JA_ @qhq (JA_ @qmz (JA_ @qiC (JA_ @qje (JA_ @qhX (JA_ @qkQ (JA_ @qn5 (JA_ @qlk (JA_ @qme (JA_ @qo2 (@qlE)))))))))))))))))))
def qvb:=JA_ @qnH (JA_ @qlZ (JA_ @qlY (JA_ @qnv (JA_ @qmo (JA_ @qm7 (JA_ @qmF (JA_ @qmr (JA_ @qnV (JA_ @qmH (JA_ @qlC (JA_ @ql7 (JA_ @qne (JA_ @qnD (JA_ @qmw (JA_ @qkE (@qkD))))))))))))))))
def qvf:=JA_ @qmd (JA_ @qro (@qlB))
def qus:=JA_ @qiy (JA_ @qiW (JA_ @qjF (JA_ @qmP (JA_ @qkg (JA_ @qnn (JA_ @qhE (JA_ @qjI (JA_ @qmq (JA_ @qlg (JA_ @qmy (JA_ @qmB (JA_ @qkx (JA_ @qlc (JA_ @qnf (JA_ @qk0 (JA_ @qls (JA_ @qkT (@qmN))))))))))))))))))
def quS:=JA_ @qmj (JA_ @qqI (JA_ @qnj (JA_ @qhv (JA_ @qk5 (JA_ @qim (JA_ @qn4 (JA_ @qjG (JA_ @qmu (JA_ @qiF (JA_ @qig (JA_ @qop (JA_ @qkS (JA_ @qoq (JA_ @qkA (JA_ @qkN (JA_ @qkK (JA_ @qkU (@qkb))))))))))))))))))
def quh:=JA_ @qnN (JA_ @qkW (@qkC))
def bt0:=JA_ @qqR (JA_ @qeD (JA_ @qru (JA_ @qhV (JA_ @qnI (JA_ @qaF (JA_ @qbj (JA_ @qaC (JA_ @qn3 (@qj8)))))))))
def bt1:=JA_ @qb5 (JA_ @q6A (JA_ @qbS (JA_ @qbe (JA_ @qaw (JA_ @qpm (@qgf))))))
def bt2:=JA_ @qqz (JA_ @qjz (JA_ @qkB (JA_ @qlo (@qn2))))
def bt3:=JA_ @qnb (JA_ @qhm (JA_ @qfC (JA_ @qjR (JA_ @qjt (JA_ @qkv (JA_ @qmh (JA_ @qmZ (JA_ @qkz (JA_ @qho (JA_ @qeG (JA_ @qiQ (JA_ @qis (JA_ @ql0 (JA_ @qhJ (JA_ @qiq (JA_ @qir (JA_ @qjv (JA_ @qiw (JA_ @qhB (JA_ @qfh (JA_ @qcD (JA_ @qcQ (JA_ @qdu (@qcA))))))))))))))))))))))))
def bt4:=JA_ @qi3 (JA_ @qgc (JA_ @qkh (JA_ @qeo (JA_ @qcG (JA_ @qdq (JA_ @qb3 (JA_ @qaS (JA_ @qdh (JA_ @qfZ (JA_ @q4V (@q48)))))))))))
def bA:=JA_ @bx0 (JA_ @bx1 (JA_ @bx2 (JA_ @bx3 (JA_ @bx4 (JA_ @bx5 (JA_ @bx6 (JA_ @bx7 (JA_ @bx8 (JA_ @bx9 (JA_ @quZ (JA_ @qvq (JA_ @quu (JA_ @quV (JA_ @qvi (JA_ @qv7 (JA_ @qu7 (JA_ @qu4 (JA_ @qtU (JA_ @quv (JA_ @qul (JA_ @qtE (JA_ @qup (JA_ @quD (JA_ @qub (JA_ @quM (JA_ @qvc (JA_ @quI (JA_ @qtM (JA_ @quz (JA_ @qun (JA_ @bz0 (JA_ @bz2 (JA_ @by0 (JA_ @by1 (JA_ @by2 (JA_ @by3 (JA_ @by4 (JA_ @by5 (JA_ @by6 (JA_ @by7 (JA_ @by8 (JA_ @by9 (JA_ @qtB (JA_ @qv5 (JA_ @qtO (JA_ @quj (JA_ @qtT (JA_ @qtA (JA_ @quQ (JA_ @qva (JA_ @quc (JA_ @qty (JA_ @qtL (JA_ @quJ (JA_ @qux (JA_ @qvb (JA_ @qvf (JA_ @qus (JA_ @quS (JA_ @quh (JA_ @bt0 (JA_ @bt1 (JA_ @bt2 (JA_ @bt3 (@bt4)))))))))))))))))))))))))))))))))))))))))))))))))))))))))))))))))
def bZ:=JA_ @qvy.{0} (JA_ @qwb.{0} (JA_ @List.length_modify.{0} (JA_ @qvC.{0} (JA_ @qw9.{0} (JA_ @qvP (JA_ @qwu.{0,0} (JA_ @List.flatMap_nil.{0,0} (JA_ @qvO.{0,0} (JA_ @List.map_nil.{0,0} (JA_ @eS.eq_1 (JA_ @qwv.{0} (JA_ @qvL.{0} (JA_ @qvM.{0} (@List.flatMap_append.{0,0}))))))))))))))
theorem gA {P:Prop} (h:P:=by simp -implicitDefEqProofs (maxSteps:=10000000) only[bA,Int.reduceToNat,Int.reduceLT,Int.reduceLE,Int.reduceAdd,Int.reduceSub,Int.reduceMul,Int.reduceNeg,Int.reduceEq,Int.reduceNe,Int.reduceBEq,Int.reduceBNe,Nat.reduceLT,Nat.reduceAdd,Nat.reduceMul,Nat.reduceSub,Nat.reduceEqDiff,Nat.reduceLeDiff,Nat.reduceBEq,Nat.reduceBNe,↓reduceIte,reduceCtorEq,pure,bind,w64,zd,Jz,Option.or_some,Option.or_none,Option.none_or,Option.some_or, *]<;>simp only[rL,dL,bR,bZ,Nat.reduceAdd]):P:=h
end
noncomputable section
open Go.RowKit
section
variable {τ ε:Type} {step:τ→Option (τ⊕ε)}
theorem zL {x y:τ} (h:step x=some (.inl y)):zc step x=zc step y:=by
 rw[qbo,h];rfl
theorem qR {x:τ} {e:ε} (h:step x=some (.inr e)):zc step x=some e:=by
 rw[qbo,h];rfl
theorem q4d {e:ε} (st:Nat→τ) (i0 n:Nat) (h0:i0≤n) (h:∀i,i0≤i→i<n→step (st i)=some (.inl (st (i+1)))) (hn:step (st n)=some (.inr e)):zc step (st i0)=some e:=by
 have key:∀j i,j+i=n→i0≤i→zc step (st i)=some e:=by
  intro j
  induction j with
  | zero=>intro i hi _;rw[qvP] at hi;subst hi;exact qR hn
  | succ j ih=>intro i hi h1;rw[zL (h i h1 (by omega))];exact ih (i+1) (by omega) (by omega)
 exact key (n-i0) i0 (by omega) (qvH _)
def qah {α β ε:Type} (g:β→α→β⊕ε) (fin:β→ε):List α→β→ε
 | [],b=>fin b
 | a::l,b=>match g b a with
  | .inl b'=>qah g fin l b'
  | .inr e=>e
theorem qab {α β:Type} (l:List α) (st:β→Nat→τ) (g:β→α→β⊕ε) (fin:β→ε)
  (h:∀b i a,l[i]?=some a→step (st b i)=some (match g b a with | .inl b' => .inl (st b' (i+1)) | .inr e => .inr e)) (hn:∀b,step (st b l.length)=some (.inr (fin b))) (b:β):zc step (st b 0)=some (qah g fin l b):=by
 have key:∀(r:List α) (i:Nat) (b:β),r.length+i=l.length→(∀j,r[j]?=l[i+j]?)→zc step (st b i)=some (qah g fin r b):=by
  intro r
  induction r with
  | nil=>
   intro i b hi _
   have hi:i=l.length:=by simpa using hi
   subst hi;exact qR (hn b)
  | cons a r ih=>
   intro i b hi hr
   have ha:l[i]?=some a:=by have:=hr 0;simpa using this.symm
   have h1:=h b i a ha
   unfold qah
   cases hg:g b a with
   | inl b'=>
    rw[hg] at h1
    rw[zL h1]
    refine ih (i+1) b' (by simp at hi;omega) fun j=>?_
    have:=hr (j+1)
    rw[show i+1+j=i+(j+1) by omega,←this];rfl
   | inr e=>
    rw[hg] at h1
    exact qR h1
 exact key l 0 b (by simp) (by simp)
theorem qcO {α:Type} (l:List α) (st:Nat→τ) (p:α→Option ε) (d:ε)
  (h:∀i a,l[i]?=some a→step (st i)=some (match p a with|some e => .inr e|none => .inl (st (i+1)))) (hn:step (st l.length)=some (.inr d)):zc step (st 0)=some ((l.findSome? p).getD d):=by
 have h1:=qab (ε:=ε) (β:=Unit) l (fun _ i=>st i) (fun _ a=>match p a with|some e => .inr e|none => .inl ()) (fun _=>d) (fun b i a ha=>by
  rw[h i a ha];cases p a<;>rfl) (fun _=>hn) ()
 rw[h1]
 congr 1
 have:∀l:List α,qah (ε:=ε) (fun(_:Unit) a=>match p a with|some e => .inr e|none => .inl ()) (fun _=>d) l ()=(l.findSome? p).getD d:=by
  intro l
  induction l with
  | nil=>rfl
  | cons a l ih=>
   unfold qah
   rw[List.findSome?_cons]
   cases p a with
   | none=>simpa using ih
   | some e=>rfl
 exact this l
end
theorem QC {α:Type} {l:List α} {i:Nat} {a:α} (h:l[i]?=some a):i<l.length:=(qvv.1 h).1
theorem Zm {n:Int} (h0 : -9223372036854775808≤n) (h1:n≤9223372036854775807):w64 n=n:=wi n h0 h1
theorem qW {i n:Nat} (h:i<n) (hn:n≤9223372036854775807):w64 ((i:Int)+1)=((i+1:Nat):Int):=by
 rw[Zm (by omega) (by omega)];omega
end
noncomputable section
open Go.RowKit
section
variable {τ ε:Type} {step:τ→Option (τ⊕ε)}
theorem qeB {I:τ→Prop} {J:ε→Prop} (hs:∀x y,I x→step x=some (.inl y)→I y) (he:∀x e,I x→step x=some (.inr e)→J e) {x:τ} {e:ε} (h0:I x) (h:zc step x=some e):J e:=by
 obtain⟨n,hn⟩:=q2W h
 clear h
 induction n generalizing x with
 | zero=>cases hn
 | succ n ih=>
  unfold itT at hn
  obtain⟨r,h1,h2⟩:=qvw.1 hn
  cases r with
  | inl y=>exact ih (hs x y h0 h1) h2
  | inr z=>injection h2 with h2;subst h2;exact he x z h0 h1
end
section
variable {σ ε:Type} {f k:Nat} {enc:σ→List R×List (Nat×B)} {ex:ε→R×List (Nat×B)}
theorem qf2 (hp:pol.pr f=none) (hi:∀y z,enc y=enc z→y=z) (hj:∀d e,ex d=ex e→d=e) {step:(σ→Option ε)→σ→Option ε} (hs:q6I f k enc ex step) {Q:σ→ε→Prop}
  (hQ:∀F:σ→Option ε,(∀y e,F y=some e→Q y e)→∀y e,step F y=some e→Q y e) (y:σ) (e:ε) (h:q5h f k enc ex y=some e):Q y e:=by
 have key:∀(n:Nat) (y:σ) (z:R×List (Nat×B)),xf Try.prog T pol (D1 Try.prog T pol) n (.fn f) k (enc y).1 (enc y).2=some z→∃e,z=ex e∧Q y e:=by
  intro n
  induction n with
  | zero=>intro y z h;cases h
  | succ n ih=>
   intro y z h
   obtain⟨F,hF,hFQ⟩:∃F:σ→Option ε,(∀y z,xf Try.prog T pol (D1 Try.prog T pol) n (.fn f) k (enc y).1 (enc y).2=some z→(F y).bind (fun e=>some (ex e))=some z)∧∀y e,F y=some e→Q y e:=by
    refine⟨fun y=>open Classical in if h:∃e,xf Try.prog T pol (D1 Try.prog T pol) n (.fn f) k (enc y).1 (enc y).2=some (ex e)∧Q y e then some (Classical.choose h) else none,fun y z hz=>?_,fun y e he=>?_⟩
    ·obtain⟨e,rfl,hq⟩:=ih y z hz
     have hex:∃e,xf Try.prog T pol (D1 Try.prog T pol) n (.fn f) k (enc y).1 (enc y).2=some (ex e)∧Q y e:=⟨e,hz,hq⟩
     simp only[dif_pos hex,qvr]
     rw[←(Classical.choose_spec hex).1,hz]
    ·by_cases hex:∃e,xf Try.prog T pol (D1 Try.prog T pol) n (.fn f) k (enc y).1 (enc y).2=some (ex e)∧Q y e
     ·simp only[dif_pos hex] at he
      injection he with he
      rw[←he]
      exact(Classical.choose_spec hex).2
     ·simp only[dif_neg hex] at he
      cases he
   have hle:OLe (xf Try.prog T pol (D1 Try.prog T pol) n) (ovr f k enc ex F):=by
    intro g k' args G x hx
    unfold ovr
    split
    ·rename_i hh
     obtain⟨⟨rfl,rfl⟩,hy⟩:=hh
     have e1:=Classical.choose_spec hy
     refine hF _ _ ?_
     rw[e1];exact hx
    ·exact qdJ q4u _ _ _ _ _ hx
   have h2:∃bd,qJ Try.prog pol f=some bd∧q3i Try.prog T pol (D1 Try.prog T pol) (xf Try.prog T pol (D1 Try.prog T pol) n) (iter n) f k (enc y).1 (enc y).2 bd=some z:=by
    have h3:fnx Try.prog T pol (D1 Try.prog T pol) (xf Try.prog T pol (D1 Try.prog T pol) n) (iter n) f k (enc y).1 (enc y).2=some z:=h
    unfold fnx at h3
    rw[hp] at h3
    exact qvw.1 h3
   obtain⟨bd,hb,hx⟩:=h2
   have h4:=q5K hle (iter n) (q8j n) hb hx
   rw[hs _ F (qce hi F) (q9s F) (qgS F) y] at h4
   obtain⟨e,h6,h5⟩:=qvw.1 h4
   injection h5 with h5
   exact⟨e,h5.symm,hQ F hFQ y e h6⟩
 have hv:=q9X hp hi hs y
 rw[h,qvr] at hv
 obtain⟨n,hn⟩:=q3x (show EE Try.prog T pol (D1 Try.prog T pol) (.fn f) k (enc y).1 (enc y).2=some (ex e) from hv)
 obtain⟨e',h1,h2⟩:=key n y _ hn
 rw[hj _ _ h1]
 exact h2
end
end
noncomputable section
open Go.RowKit
set_option maxRecDepth 20000
set_option maxHeartbeats 8000000
theorem quA:okL 33 qcP:=z7 (qc qq4) (by kernel_rfl) (by kernel_rfl)
def qv4:=JA_ @qcP.eq_1 (JA_ @Try.f33.eq_1 @qq4)
theorem q2K:ev 33 0 [] []=some (rO 0 5 4,[(0,B.row 35 5 [dS (ByteArray.mk (List.toArray [65,49])),C.d (D.int IntKind.i64 5),C.d (D.int IntKind.i64 30),C.d (D.sl 1 2 [D.int IntKind.i64 1,D.int IntKind.i64 2]),C.d (D.sl 1 0 []),dS (ByteArray.mk (List.toArray [66,49])),C.d (D.int IntKind.i64 6),C.d (D.int IntKind.i64 10),C.d (D.sl 1 1 [D.int IntKind.i64 2]),C.d (D.sl 1 1 [D.str (ByteArray.mk (List.toArray [65,49]))]),dS (ByteArray.mk (List.toArray [66,50])),C.d (D.int IntKind.i64 3),C.d (D.int IntKind.i64 0),C.d (D.sl 1 0 []),C.d (D.sl 1 0 []),dS (ByteArray.mk (List.toArray [67,49])),C.d (D.int IntKind.i64 10),C.d (D.int IntKind.i64 200),C.d (D.sl 1 1 [D.int IntKind.i64 40]),C.d (D.sl 1 2 [D.str (ByteArray.mk (List.toArray [66,49])),D.str (ByteArray.mk (List.toArray [66,50]))])])]):=
 by
  rw[qU qq4 qsv.2.2.2 quA]
  have:=qv4;exact gA
theorem qp7:okL 12 q5u:=z7 (qc qkm) (by kernel_rfl) (by kernel_rfl)
def qkn:=JA_ @q5u.eq_1 (JA_ @Try.f12.eq_1 @qkm)
theorem qlN:lbO 12 4=qeb:=Q1 (qc qkm) rfl
theorem qnr:okL 12 qeb:=zl qp7 (qvs (i:=0) (by kernel_rfl))
theorem qif:lbO 12 18=q5O:=Q1 (qc qkm) rfl
theorem qi2:okL 12 q5O:=zl qp7 (qvs (i:=1) (by kernel_rfl))
theorem qke:lbO 12 23=q6s:=Q1 (qc qkm) rfl
theorem qjV:okL 12 q6s:=zl qp7 (qvs (i:=2) (by kernel_rfl))
theorem quT:okL 14 qc0:=z7 (qc qpY) (by kernel_rfl) (by kernel_rfl)
def qu5:=JA_ @qc0.eq_1 (JA_ @Try.f14.eq_1 @qpY)
theorem qtN:okL 46 qdg:=z7 (qc qqP) (by kernel_rfl) (by kernel_rfl)
def quy:=JA_ @qdg.eq_1 (JA_ @Try.f46.eq_1 @qqP)
theorem qtw:okL 66 q9U:=z7 (qc qoA) (by kernel_rfl) (by kernel_rfl)
def qtc:=JA_ @q9U.eq_1 (JA_ @Try.f66.eq_1 @qoA)
theorem ql8:lbO 66 2=qd1:=Q1 (qc qoA) rfl
theorem qng:okL 66 qd1:=zl qtw (qvs (i:=0) (by kernel_rfl))
theorem qtV:okL 45 qbB:=z7 (qc qpT) (by kernel_rfl) (by kernel_rfl)
def qv2:=JA_ @qbB.eq_1 (JA_ @Try.f45.eq_1 @qpT)
def ZV (c:Int):Option Bool:=if c<65 then if c<48 then some Bool.true else some (decide (57<c)) else if 90<c then if c<48 then some Bool.true else some (decide (57<c)) else some Bool.false
def zT (c:Int):Bool:=if c<65 then if c<48 then Bool.true else decide (57<c) else if 90<c then if c<48 then Bool.true else decide (57<c) else Bool.false
theorem q2o (c:Int):ZV c=some (zT c):=by
 unfold ZV zT
 simp only[q1B]
theorem q2T:∀(c:Int),ev 45 0 [R.c (C.d (D.int .i32 c))] []=some (rB (zT c),[]):=
 fun c=>by
  have h:ev 45 0 [R.c (C.d (D.int .i32 c))] []=(ZV c).bind (fun(e:Bool)=>some (rB e,[])):=by
   rw[qU qpT qsu.2.2.2 qtV]
   have:=qv2;have:=@ZV.eq_1;exact gA
  rw[q2o] at h
  exact h
def qN (it0_s:ByteArray) (truth:Bool):Nat→Option (Nat⊕(Int⊕Unit))|it0_p=>if it0_p<ByteArray.size it0_s then if(zT (((@Go.Utf8.decode it0_s it0_p).1:Nat):Int)==truth)=Bool.true then some (Sum.inr (Sum.inl ((it0_p:Nat):Int))) else some (Sum.inl (it0_p+(@Go.Utf8.decode it0_s it0_p).2)) else some (Sum.inr (Sum.inr ()))
theorem q09:∀(it0_s:ByteArray) (it0_p:Nat) (truth:Bool),XL2 evo 66 0 2 ⟨[(1,R.c (C.fn 45 [] [])),(2,rB truth),(10,R.c (C.hd .iter 0))],[(0,B.ob (AO.si it0_s it0_p))],1,21⟩=(zc (qN it0_s truth) it0_p).bind (Sum.elim (fun(e:Int)=>some (Exit.ret,⟨[(6,rI e)],[],0,21⟩)) (fun(e:Unit)=>some (Exit.exit 0,⟨[(6,R.any)],[],0,21⟩))):=
 fun it0_s it0_p truth=>by
  revert it0_p;exact q3z ql8 qng (fun e=>by rcases e with _|_<;>exact⟨_,rfl,fun h=>by cases h⟩) fun x=>by
   have:=qtc;have:=@qd1.eq_1;have:=@q2T;have:=@qN.eq_1;exact gA
def Q3 (s:ByteArray) (truth:Bool):Option Int:=Option.bind (zc (qN s truth) 0) fun(a:Sum Int Unit)=>Sum.elim (fun(a2:Int)=>some a2) (fun(a3:Unit)=>some (-1)) a
theorem q0X:∀(s:ByteArray) (truth:Bool),ev 66 0 [rS s,R.c (C.fn 45 [] []),rB truth] []=(Q3 s truth).bind (fun(e:Int)=>some (rI e,[])):=
 fun s truth=>by
  rw[qU qoA qsO.2.2.2 qtw]
  have:=qtc;have:=@q09;have:=@Q3.eq_1;exact gA
def Zy (fu:Nat) (s:ByteArray) (truth:Bool):Option Int:=Option.bind (itT (qN s truth) fu 0) fun(a:Sum Int Unit)=>Sum.elim (fun(a2:Int)=>some a2) (fun(a3:Unit)=>some (-1)) a
theorem q0R (fu:Nat) (s:ByteArray) (truth:Bool):qm (Zy fu s truth) (Q3 s truth):=by
 unfold Zy Q3
 repeat (first
  | with_reducible exact qm.refl _
  | with_reducible exact qm.none _
  | with_reducible refine qm.bind ?_ (fun _=>?_)
  | with_reducible refine qm.ite ?_ ?_
  | with_reducible refine qm.sum (fun _=>?_) (fun _=>?_)
  | with_reducible refine qm.lim (fun _=>?_))
def Q8 (s:ByteArray):Option Int:=Option.bind (Q3 s Bool.true) fun(e0:Int)=>some e0
theorem q13:∀(s:ByteArray),ev 46 0 [rS s,R.c (C.fn 45 [] [])] []=(Q8 s).bind (fun(e:Int)=>some (rI e,[])):=
 fun s=>by
  rw[qU qqP qs4.2.2.2 qtN]
  have:=quy;have:=@q0X;have:=@Q8.eq_1;exact gA
def Zz (fu:Nat) (s:ByteArray):Option Int:=Option.bind (Zy fu s Bool.true) fun(e0:Int)=>some e0
theorem q0Q (fu:Nat) (s:ByteArray):qm (Zz fu s) (Q8 s):=by
 unfold Zz Q8
 repeat (first
  | with_reducible exact qm.refl _
  | with_reducible exact qm.none _
  | with_reducible apply q0R
  | with_reducible refine qm.bind ?_ (fun _=>?_)
  | with_reducible refine qm.ite ?_ ?_
  | with_reducible refine qm.sum (fun _=>?_) (fun _=>?_)
  | with_reducible refine qm.lim (fun _=>?_))
def za (s:ByteArray):Option Bool:=if(!(ByteArray.toList s==ByteArray.toList (ByteArray.mk (List.toArray []))))=Bool.true then if((ByteArray.size s:Nat):Int)≤8 then Option.bind (Q8 s) fun(a:Int)=>some (decide (a<0)) else some Bool.false else some Bool.false
theorem Js:∀(s:ByteArray),ev 14 0 [rS s] []=(za s).bind (fun(e:Bool)=>some (rB e,[])):=
 fun s=>by
  rw[qU qpY qsc.2.2.2 quT]
  have:=qu5;have:=@q13;have:=@za.eq_1;exact gA
def QU (fu:Nat) (s:ByteArray):Option Bool:=if(!(ByteArray.toList s==ByteArray.toList (ByteArray.mk (List.toArray []))))=Bool.true then if((ByteArray.size s:Nat):Int)≤8 then Option.bind (Zz fu s) fun(a:Int)=>some (decide (a<0)) else some Bool.false else some Bool.false
theorem Jw (fu:Nat) (s:ByteArray):qm (QU fu s) (za s):=by
 unfold QU za
 repeat (first
  | with_reducible exact qm.refl _
  | with_reducible exact qm.none _
  | with_reducible apply q0Q
  | with_reducible refine qm.bind ?_ (fun _=>?_)
  | with_reducible refine qm.ite ?_ ?_
  | with_reducible refine qm.sum (fun _=>?_) (fun _=>?_)
  | with_reducible refine qm.lim (fun _=>?_))
theorem qv1:okL 38 qaQ:=z7 (qc qre) (by kernel_rfl) (by kernel_rfl)
def qtX:=JA_ @qaQ.eq_1 (JA_ @Try.f38.eq_1 @qre)
theorem qt4:okL 55 qb0:=z7 (qc qp5) (by kernel_rfl) (by kernel_rfl)
def qtl:=JA_ @qb0.eq_1 (JA_ @Try.f55.eq_1 @qp5)
theorem qqW:okL 70 q9f:=z7 (qc qmE) (by kernel_rfl) (by kernel_rfl)
def qp2:=JA_ @q9f.eq_1 (JA_ @Try.f70.eq_1 @qmE)
theorem qhg:lbO 70 2=q9V:=Q1 (qc qmE) rfl
theorem qgx:okL 70 q9V:=zl qqW (qvs (i:=0) (by kernel_rfl))
theorem qvo:okL 58 qbP:=z7 (qc qqO) (by kernel_rfl) (by kernel_rfl)
def qtK:=JA_ @qbP.eq_1 (JA_ @Try.f58.eq_1 @qqO)
def Zh (n:Int):Option Bool:=if n<1 then some Bool.true else some (decide (40<n))
def z8 (n:Int):Bool:=if n<1 then Bool.true else decide (40<n)
theorem q1a (n:Int):Zh n=some (z8 n):=by
 unfold Zh z8
 simp only[q1B]
theorem q1U:∀(n:Int),ev 58 0 [rI n] []=some (rB (z8 n),[]):=
 fun n=>by
  have h:ev 58 0 [rI n] []=(Zh n).bind (fun(e:Bool)=>some (rB e,[])):=by
   rw[qU qqO qsP.2.2.2 qvo]
   have:=qtK;have:=@Zh.eq_1;exact gA
  rw[q1a] at h
  exact h
def qr (s:List Int) (t7:Int):Int→Option (Int⊕(Int⊕Unit))|t8=>if t8<t7 then if 0≤t8∧t8<((s.length:Nat):Int) then Option.bind s[Int.toNat t8]? fun(a:Int)=>if z8 a=Bool.true then some (Sum.inr (Sum.inl t8)) else some (Sum.inl (w64 (t8+1))) else none else some (Sum.inr (Sum.inr ()))
theorem J0:∀(s:List Int) (t7 t8:Int),XL2 evo 70 0 2 ⟨[(0,rL 1 eI s),(1,R.c (C.fn 58 [] [])),(7,rI t7),(8,rI t8)],[],0,19⟩=(zc (qr s t7) t8).bind (Sum.elim (fun(e:Int)=>some (Exit.ret,⟨[(4,rI e)],[],0,19⟩)) (fun(e:Unit)=>some (Exit.exit 0,⟨[(4,R.any)],[],0,19⟩))):=
 fun s t7 t8=>by
  revert t8;exact q3z qhg qgx (fun e=>by rcases e with _|_<;>exact⟨_,rfl,fun h=>by cases h⟩) fun x=>by
   have:=qp2;have:=@q9V.eq_1;have:=@q1U;have:=@qr.eq_1;exact gA
def qP (s:List Int):Option Int:=Option.bind (zc (qr s ((s.length:Nat):Int)) 0) fun(a:Sum Int Unit)=>Sum.elim (fun(a2:Int)=>some a2) (fun(a3:Unit)=>some (-1)) a
theorem Jr:∀(s:List Int),ev 70 0 [rL 1 eI s,R.c (C.fn 58 [] [])] []=(qP s).bind (fun(e:Int)=>some (rI e,[])):=
 fun s=>by
  rw[qU qmE qrf.2.2.2 qqW]
  have:=qp2;have:=@J0;have:=@qP.eq_1;exact gA
def Qu (fu:Nat) (s:List Int):Option Int:=Option.bind (itT (qr s ((s.length:Nat):Int)) fu 0) fun(a:Sum Int Unit)=>Sum.elim (fun(a2:Int)=>some a2) (fun(a3:Unit)=>some (-1)) a
theorem Jt (fu:Nat) (s:List Int):qm (Qu fu s) (qP s):=by
 unfold Qu qP
 repeat (first
  | with_reducible exact qm.refl _
  | with_reducible exact qm.none _
  | with_reducible refine qm.bind ?_ (fun _=>?_)
  | with_reducible refine qm.ite ?_ ?_
  | with_reducible refine qm.sum (fun _=>?_) (fun _=>?_)
  | with_reducible refine qm.lim (fun _=>?_))
def qu (s:List Int):Option Bool:=Option.bind (qP s) fun(a:Int)=>some (decide (0≤a))
theorem J4:∀(s:List Int),ev 55 0 [rL 1 eI s,R.c (C.fn 58 [] [])] []=(qu s).bind (fun(e:Bool)=>some (rB e,[])):=
 fun s=>by
  rw[qU qp5 qqH.2.2.2 qt4]
  have:=qtl;have:=@Jr;have:=@qu.eq_1;exact gA
def Qd (fu:Nat) (s:List Int):Option Bool:=Option.bind (Qu fu s) fun(a:Int)=>some (decide (0≤a))
theorem J2 (fu:Nat) (s:List Int):qm (Qd fu s) (qu s):=by
 unfold Qd qu
 repeat (first
  | with_reducible exact qm.refl _
  | with_reducible exact qm.none _
  | with_reducible apply Jt
  | with_reducible refine qm.bind ?_ (fun _=>?_)
  | with_reducible refine qm.ite ?_ ?_
  | with_reducible refine qm.sum (fun _=>?_) (fun _=>?_)
  | with_reducible refine qm.lim (fun _=>?_))
theorem qsC:okL 59 q8C:=z7 (qc qoZ) (by kernel_rfl) (by kernel_rfl)
def qsR:=JA_ @q8C.eq_1 (JA_ @Try.f59.eq_1 @qoZ)
theorem qmt:lbO 59 2=qbY:=Q1 (qc qoZ) rfl
theorem qnx:okL 59 qbY:=zl qsC (qvs (i:=0) (by kernel_rfl))
def qs (l:List Int):Int→Option (Int⊕(Unit⊕Unit))|k=>if k<((l.length:Nat):Int) then if 0≤w64 (k-1)∧w64 (k-1)<((l.length:Nat):Int) then Option.bind l[Int.toNat (w64 (k-1))]? fun(a:Int)=>if 0≤k∧k<((l.length:Nat):Int) then Option.bind l[Int.toNat k]? fun(a2:Int)=>if a2≤a then some (Sum.inr (Sum.inl ())) else some (Sum.inl (w64 (k+1))) else none else none else some (Sum.inr (Sum.inr ()))
theorem Ju:∀(l:List Int) (k:Int),XL2 evo 59 0 2 ⟨[(0,rL 1 eI l),(3,rI k)],[],0,20⟩=(zc (qs l) k).bind (Sum.elim (fun(e:Unit)=>some (Exit.ret,⟨[(2,rB Bool.false)],[],0,20⟩)) (fun(e:Unit)=>some (Exit.exit 0,⟨[(2,R.any)],[],0,20⟩))):=
 fun l k=>by
  revert k;exact q3z qmt qnx (fun e=>by rcases e with _|_<;>exact⟨_,rfl,fun h=>by cases h⟩) fun x=>by
   have:=qsR;have:=@qbY.eq_1;have:=@qs.eq_1;exact gA
def qK (l:List Int):Option Bool:=Option.bind (zc (qs l) 1) fun(a:Sum Unit Unit)=>Sum.elim (fun(a2:Unit)=>some Bool.false) (fun(a3:Unit)=>some Bool.true) a
theorem JT:∀(l:List Int),ev 59 0 [rL 1 eI l] []=(qK l).bind (fun(e:Bool)=>some (rB e,[])):=
 fun l=>by
  rw[qU qoZ qtb.2.2.2 qsC]
  have:=qsR;have:=@Ju;have:=@qK.eq_1;exact gA
def QT (fu:Nat) (l:List Int):Option Bool:=Option.bind (itT (qs l) fu 1) fun(a:Sum Unit Unit)=>Sum.elim (fun(a2:Unit)=>some Bool.false) (fun(a3:Unit)=>some Bool.true) a
theorem JR (fu:Nat) (l:List Int):qm (QT fu l) (qK l):=by
 unfold QT qK
 repeat (first
  | with_reducible exact qm.refl _
  | with_reducible exact qm.none _
  | with_reducible refine qm.bind ?_ (fun _=>?_)
  | with_reducible refine qm.ite ?_ ?_
  | with_reducible refine qm.sum (fun _=>?_) (fun _=>?_)
  | with_reducible refine qm.lim (fun _=>?_))
theorem qsf:okL 60 q9b:=z7 (qc qp3) (by kernel_rfl) (by kernel_rfl)
def qsn:=JA_ @q9b.eq_1 (JA_ @Try.f60.eq_1 @qp3)
theorem qnM:lbO 60 2=qbz:=Q1 (qc qp3) rfl
theorem qkO:okL 60 qbz:=zl qsf (qvs (i:=0) (by kernel_rfl))
def qq (l:List ByteArray):Int→Option (Int⊕(Unit⊕Unit))|k=>if k<((l.length:Nat):Int) then if 0≤w64 (k-1)∧w64 (k-1)<((l.length:Nat):Int) then Option.bind l[Int.toNat (w64 (k-1))]? fun(a:ByteArray)=>if 0≤k∧k<((l.length:Nat):Int) then Option.bind l[Int.toNat k]? fun(a2:ByteArray)=>if(!(Op.bytesLess (ByteArray.toList a) (ByteArray.toList a2)))=Bool.true then some (Sum.inr (Sum.inl ())) else some (Sum.inl (w64 (k+1))) else none else none else some (Sum.inr (Sum.inr ()))
theorem J1:∀(l:List ByteArray) (k:Int),XL2 evo 60 0 2 ⟨[(0,rL 1 eS l),(3,rI k)],[],0,20⟩=(zc (qq l) k).bind (Sum.elim (fun(e:Unit)=>some (Exit.ret,⟨[(2,rB Bool.false)],[],0,20⟩)) (fun(e:Unit)=>some (Exit.exit 0,⟨[(2,R.any)],[],0,20⟩))):=
 fun l k=>by
  revert k;exact q3z qnM qkO (fun e=>by rcases e with _|_<;>exact⟨_,rfl,fun h=>by cases h⟩) fun x=>by
   have:=qsn;have:=@qbz.eq_1;have:=@qq.eq_1;exact gA
def qz (l:List ByteArray):Option Bool:=Option.bind (zc (qq l) 1) fun(a:Sum Unit Unit)=>Sum.elim (fun(a2:Unit)=>some Bool.false) (fun(a3:Unit)=>some Bool.true) a
theorem Jv:∀(l:List ByteArray),ev 60 0 [rL 1 eS l] []=(qz l).bind (fun(e:Bool)=>some (rB e,[])):=
 fun l=>by
  rw[qU qp3 qsZ.2.2.2 qsf]
  have:=qsn;have:=@J1;have:=@qz.eq_1;exact gA
def Qv (fu:Nat) (l:List ByteArray):Option Bool:=Option.bind (itT (qq l) fu 1) fun(a:Sum Unit Unit)=>Sum.elim (fun(a2:Unit)=>some Bool.false) (fun(a3:Unit)=>some Bool.true) a
theorem Jy (fu:Nat) (l:List ByteArray):qm (Qv fu l) (qz l):=by
 unfold Qv qz
 repeat (first
  | with_reducible exact qm.refl _
  | with_reducible exact qm.none _
  | with_reducible refine qm.bind ?_ (fun _=>?_)
  | with_reducible refine qm.ite ?_ ?_
  | with_reducible refine qm.sum (fun _=>?_) (fun _=>?_)
  | with_reducible refine qm.lim (fun _=>?_))
def zf (o:qa):Option Int:=if o.Credits<1 then some 3 else if 60<o.Credits then some 3 else if o.Places<0 then some 3 else if 200<o.Places then some 3 else Option.bind (qu o.Slots) fun(a:Bool)=>if a=Bool.true then some 3 else Option.bind (qK o.Slots) fun(a2:Bool)=>if(!a2)=Bool.true then some 7 else if 5<((o.Needs.length:Nat):Int) then some 2 else Option.bind (qz o.Needs) fun(a3:Bool)=>if(!a3)=Bool.true then some 7 else some 0
theorem q3j:∀(o_Code:ByteArray) (o_Credits o_Places:Int) (o_Slots:List Int) (o_Needs:List ByteArray),ev 38 0 [R.agg [dS o_Code,dI o_Credits,dI o_Places,dL 1 eI o_Slots,dL 1 eS o_Needs]] []=(zf (qa.mk o_Code o_Credits o_Places o_Slots o_Needs)).bind (fun(e:Int)=>some (rI e,[])):=
 fun o_Code o_Credits o_Places o_Slots o_Needs=>by
  rw[qU qre qtx.2.2.2 qv1]
  have:=qtX;have:=@J4;have:=@JT;have:=@Jv;have:=@zf.eq_1;exact gA
def QJ (fu:Nat) (o:qa):Option Int:=if o.Credits<1 then some 3 else if 60<o.Credits then some 3 else if o.Places<0 then some 3 else if 200<o.Places then some 3 else Option.bind (Qd fu o.Slots) fun(a:Bool)=>if a=Bool.true then some 3 else Option.bind (QT fu o.Slots) fun(a2:Bool)=>if(!a2)=Bool.true then some 7 else if 5<((o.Needs.length:Nat):Int) then some 2 else Option.bind (Qv fu o.Needs) fun(a3:Bool)=>if(!a3)=Bool.true then some 7 else some 0
theorem q38 (fu:Nat) (o:qa):qm (QJ fu o) (zf o):=by
 unfold QJ zf
 repeat (first
  | with_reducible exact qm.refl _
  | with_reducible exact qm.none _
  | with_reducible apply J2
  | with_reducible apply JR
  | with_reducible apply Jy
  | with_reducible refine qm.bind ?_ (fun _=>?_)
  | with_reducible refine qm.ite ?_ ?_
  | with_reducible refine qm.sum (fun _=>?_) (fun _=>?_)
  | with_reducible refine qm.lim (fun _=>?_))
def qC (t0:List qa) (t13:List qa) (t14:Int):Int→Option (Int⊕(Int⊕Unit))|t15=>if t15<t14 then if 0≤t15∧t15<((t13.length:Nat):Int) then Option.bind t13[Int.toNat t15]? fun(a:qa)=>Option.bind (za a.Code) fun(a2:Bool)=>if(!a2)=Bool.true then some (Sum.inr (Sum.inl 12)) else if 0<t15 then if 0≤w64 (t15-1)∧w64 (t15-1)<((t0.length:Nat):Int) then Option.bind t0[Int.toNat (w64 (t15-1))]? fun(a3:qa)=>if(ByteArray.toList a3.Code==ByteArray.toList a.Code)=Bool.true then some (Sum.inr (Sum.inl 6)) else if 0<t15 then if 0≤w64 (t15-1)∧w64 (t15-1)<((t0.length:Nat):Int) then Option.bind t0[Int.toNat (w64 (t15-1))]? fun(a4:qa)=>if(!(Op.bytesLess (ByteArray.toList a4.Code) (ByteArray.toList a.Code)||ByteArray.toList a4.Code==ByteArray.toList a.Code))=Bool.true then some (Sum.inr (Sum.inl 7)) else Option.bind (zf a) fun(a5:Int)=>if(a5 != 0)=Bool.true then some (Sum.inr (Sum.inl a5)) else some (Sum.inl (w64 (t15+1))) else none else Option.bind (zf a) fun(a6:Int)=>if(a6 != 0)=Bool.true then some (Sum.inr (Sum.inl a6)) else some (Sum.inl (w64 (t15+1))) else none else if 0<t15 then if 0≤w64 (t15-1)∧w64 (t15-1)<((t0.length:Nat):Int) then Option.bind t0[Int.toNat (w64 (t15-1))]? fun(a7:qa)=>if(!(Op.bytesLess (ByteArray.toList a7.Code) (ByteArray.toList a.Code)||ByteArray.toList a7.Code==ByteArray.toList a.Code))=Bool.true then some (Sum.inr (Sum.inl 7)) else Option.bind (zf a) fun(a8:Int)=>if(a8 != 0)=Bool.true then some (Sum.inr (Sum.inl a8)) else some (Sum.inl (w64 (t15+1))) else none else Option.bind (zf a) fun(a9:Int)=>if(a9 != 0)=Bool.true then some (Sum.inr (Sum.inl a9)) else some (Sum.inl (w64 (t15+1))) else none else some (Sum.inr (Sum.inr ()))
theorem q1L:∀(t0 t13:List qa) (t14 t15:Int),XL2 evo 12 0 4 ⟨[(0,rL 5 qb t0),(13,rL 5 qb t13),(14,rI t14),(15,rI t15)],[],0,81⟩=(zc (qC t0 t13 t14) t15).bind (Sum.elim (fun(e:Int)=>some (Exit.ret,⟨[(0,rL 5 qb t0),(2,rI e)],[],0,81⟩)) (fun(e:Unit)=>some (Exit.exit 0,⟨[(0,rL 5 qb t0),(2,R.any)],[],0,81⟩))):=
 fun t0 t13 t14 t15=>by
  revert t15;exact q3z qlN qnr (fun e=>by rcases e with _|_<;>exact⟨_,rfl,fun h=>by cases h⟩) fun x=>by
   have:=qkn;have:=@qeb.eq_1;have:=@Js;have:=@q3j;have:=@qC.eq_1;exact gA
def Ja (fu:Nat) (t0:List qa) (t13:List qa) (t14:Int):Int→Option (Int⊕(Int⊕Unit))|t15=>if t15<t14 then if 0≤t15∧t15<((t13.length:Nat):Int) then Option.bind t13[Int.toNat t15]? fun(a:qa)=>Option.bind (QU fu a.Code) fun(a2:Bool)=>if(!a2)=Bool.true then some (Sum.inr (Sum.inl 12)) else if 0<t15 then if 0≤w64 (t15-1)∧w64 (t15-1)<((t0.length:Nat):Int) then Option.bind t0[Int.toNat (w64 (t15-1))]? fun(a3:qa)=>if(ByteArray.toList a3.Code==ByteArray.toList a.Code)=Bool.true then some (Sum.inr (Sum.inl 6)) else if 0<t15 then if 0≤w64 (t15-1)∧w64 (t15-1)<((t0.length:Nat):Int) then Option.bind t0[Int.toNat (w64 (t15-1))]? fun(a4:qa)=>if(!(Op.bytesLess (ByteArray.toList a4.Code) (ByteArray.toList a.Code)||ByteArray.toList a4.Code==ByteArray.toList a.Code))=Bool.true then some (Sum.inr (Sum.inl 7)) else Option.bind (QJ fu a) fun(a5:Int)=>if(a5 != 0)=Bool.true then some (Sum.inr (Sum.inl a5)) else some (Sum.inl (w64 (t15+1))) else none else Option.bind (QJ fu a) fun(a6:Int)=>if(a6 != 0)=Bool.true then some (Sum.inr (Sum.inl a6)) else some (Sum.inl (w64 (t15+1))) else none else if 0<t15 then if 0≤w64 (t15-1)∧w64 (t15-1)<((t0.length:Nat):Int) then Option.bind t0[Int.toNat (w64 (t15-1))]? fun(a7:qa)=>if(!(Op.bytesLess (ByteArray.toList a7.Code) (ByteArray.toList a.Code)||ByteArray.toList a7.Code==ByteArray.toList a.Code))=Bool.true then some (Sum.inr (Sum.inl 7)) else Option.bind (QJ fu a) fun(a8:Int)=>if(a8 != 0)=Bool.true then some (Sum.inr (Sum.inl a8)) else some (Sum.inl (w64 (t15+1))) else none else Option.bind (QJ fu a) fun(a9:Int)=>if(a9 != 0)=Bool.true then some (Sum.inr (Sum.inl a9)) else some (Sum.inl (w64 (t15+1))) else none else some (Sum.inr (Sum.inr ()))
theorem q20 (fu:Nat) (t0 t13:List qa) (t14:Int):∀x,qm (Ja fu t0 t13 t14 x) (qC t0 t13 t14 x):=by
 rintro t15
 unfold Ja qC
 try dsimp only
 repeat (first
  | with_reducible exact qm.refl _
  | with_reducible exact qm.none _
  | with_reducible apply Jw
  | with_reducible apply q38
  | with_reducible refine qm.bind ?_ (fun _=>?_)
  | with_reducible refine qm.ite ?_ ?_
  | with_reducible refine qm.sum (fun _=>?_) (fun _=>?_)
  | with_reducible refine qm.lim (fun _=>?_))
theorem qsS:okL 39 q9c:=z7 (qc qoC) (by kernel_rfl) (by kernel_rfl)
def qrW:=JA_ @q9c.eq_1 (JA_ @Try.f39.eq_1 @qoC)
theorem qku:lbO 39 3=qdY:=Q1 (qc qoC) rfl
theorem qmJ:okL 39 qdY:=zl qsS (qvs (i:=0) (by kernel_rfl))
def qF (t9:List qa) (t10:Int):((List (ByteArray×(List ByteArray)))×Int)→Option (((List (ByteArray×(List ByteArray)))×Int)⊕((List (ByteArray×(List ByteArray)))))|(m0,t11)=>if t11<t10 then if 0≤t11∧t11<((t9.length:Nat):Int) then Option.bind t9[Int.toNat t11]? fun(a:qa)=>if(!(J3 m0 a.Code))=Bool.true then some (Sum.inl (q2e m0 a.Code a.Needs,w64 (t11+1))) else some (Sum.inl (m0,w64 (t11+1))) else none else some (Sum.inr m0)
theorem q28:∀(m0:List (ByteArray×(List ByteArray))) (t9:List qa) (t10 t11:Int),XL2 evo 39 0 3 ⟨[(3,R.c (C.hd .map 0)),(9,rL 5 qb t9),(10,rI t10),(11,rI t11)],[(0,B.ob (mpB Qc zG m0))],1,31⟩=(zc (qF t9 t10) (m0,t11)).bind (fun(e:(List (ByteArray×(List ByteArray))))=>some (Exit.exit 0,⟨[(3,R.c (C.hd .map 0))],[(0,B.ob (mpB Qc zG e))],1,31⟩)):=
 fun m0 t9 t10 t11=>by
  revert t11;revert m0;exact qks qku qmJ (fun e=>by exact⟨_,rfl,fun h=>by cases h⟩) fun m0 t11=>by
   have:=qrW;have:=@qdY.eq_1;have:=@qF.eq_1;exact gA
def zK (l:List qa):Option ((List (ByteArray×(List ByteArray)))):=Option.bind (zc (qF l ((l.length:Nat):Int)) ([],0)) fun(a:List (Prod ByteArray (List ByteArray)))=>some a
theorem q0k:∀(l:List qa),ev 39 0 [rL 5 qb l] []=(zK l).bind (fun(e:(List (ByteArray×(List ByteArray))))=>some (R.c (C.hd .map 0),[(0,B.ob (mpB Qc zG e))])):=
 fun l=>by
  rw[qU qoC qst.2.2.2 qsS]
  have:=qrW;have:=@q28;have:=@zK.eq_1;exact gA
def Jn (fu:Nat) (l:List qa):Option ((List (ByteArray×(List ByteArray)))):=Option.bind (itT (qF l ((l.length:Nat):Int)) fu ([],0)) fun(a:List (Prod ByteArray (List ByteArray)))=>some a
theorem q0d (fu:Nat) (l:List qa):qm (Jn fu l) (zK l):=by
 unfold Jn zK
 repeat (first
  | with_reducible exact qm.refl _
  | with_reducible exact qm.none _
  | with_reducible refine qm.bind ?_ (fun _=>?_)
  | with_reducible refine qm.ite ?_ ?_
  | with_reducible refine qm.sum (fun _=>?_) (fun _=>?_)
  | with_reducible refine qm.lim (fun _=>?_))
theorem qsD:okL 40 qc4:=z7 (qc qoJ) (by kernel_rfl) (by kernel_rfl)
def qsI:=JA_ @qc4.eq_1 (JA_ @Try.f40.eq_1 @qoJ)
theorem qqp:okL 61 q8Q:=z7 (qc qol) (by kernel_rfl) (by kernel_rfl)
def qot:=JA_ @q8Q.eq_1 (JA_ @Try.f61.eq_1 @qol)
theorem qhi:lbO 61 2=q9l:=Q1 (qc qol) rfl
theorem qgV:okL 61 q9l:=zl qqp (qvs (i:=0) (by kernel_rfl))
theorem qtz:okL 41 qdd:=z7 (qc qpe) (by kernel_rfl) (by kernel_rfl)
def quO:=JA_ @qdd.eq_1 (JA_ @Try.f41.eq_1 @qpe)
def Zx (c:ByteArray) (m1:List (ByteArray×(List ByteArray))):Option Bool:=
 some (!(J3 m1 c))
def zF (c:ByteArray) (m1:List (ByteArray×(List ByteArray))):Bool:=
 (!(J3 m1 c))
theorem q1Q (c:ByteArray) (m1:List (ByteArray×(List ByteArray))):Zx c m1=some (zF c m1):=by
 unfold Zx zF
 simp only[q1B]
theorem q2r:∀(c:ByteArray) (m1:List (ByteArray×(List ByteArray))),ev 41 2 [rS c,rP 0] [(0,B.blk 65 [C.hd .map 1]),(1,B.ob (mpB Qc zG m1))]=some (rB (zF c m1),[(0,B.blk 65 [C.hd .map 1]),(1,B.ob (mpB Qc zG m1))]):=
 fun c m1=>by
  have h:ev 41 2 [rS c,rP 0] [(0,B.blk 65 [C.hd .map 1]),(1,B.ob (mpB Qc zG m1))]=(Zx c m1).bind (fun(e:Bool)=>some (rB e,[(0,B.blk 65 [C.hd .map 1]),(1,B.ob (mpB Qc zG m1))])):=by
   rw[qU qpe qt1.2.2.2 qtz]
   have:=quO;have:=@Zx.eq_1;exact gA
  rw[q1Q] at h
  exact h
def ql (m1:List (ByteArray×(List ByteArray))) (s:List ByteArray) (t7:Int):Int→Option (Int⊕(Int⊕Unit))|t8=>if t8<t7 then if 0≤t8∧t8<((s.length:Nat):Int) then Option.bind s[Int.toNat t8]? fun(a:ByteArray)=>if zF a m1=Bool.true then some (Sum.inr (Sum.inl t8)) else some (Sum.inl (w64 (t8+1))) else none else some (Sum.inr (Sum.inr ()))
theorem Zj:∀(m1:List (ByteArray×(List ByteArray))) (s:List ByteArray) (t7 t8:Int),XL2 evo 61 2 2 ⟨[(0,rL 1 eS s),(1,R.c (C.fn 41 [] [dP 0])),(7,rI t7),(8,rI t8)],[(0,B.blk 65 [C.hd .map 1]),(1,B.ob (mpB Qc zG m1))],2,19⟩=(zc (ql m1 s t7) t8).bind (Sum.elim (fun(e:Int)=>some (Exit.ret,⟨[(4,rI e)],[(0,B.blk 65 [C.hd .map 1]),(1,B.ob (mpB Qc zG m1))],2,19⟩)) (fun(e:Unit)=>some (Exit.exit 0,⟨[(4,R.any)],[(0,B.blk 65 [C.hd .map 1]),(1,B.ob (mpB Qc zG m1))],2,19⟩))):=
 fun m1 s t7 t8=>by
  revert t8;exact q3z qhi qgV (fun e=>by rcases e with _|_<;>exact⟨_,rfl,fun h=>by cases h⟩) fun x=>by
   have:=qot;have:=@q9l.eq_1;have:=@q2r;have:=@ql.eq_1;exact gA
def qx (s:List ByteArray) (m1:List (ByteArray×(List ByteArray))):Option Int:=Option.bind (zc (ql m1 s ((s.length:Nat):Int)) 0) fun(a:Sum Int Unit)=>Sum.elim (fun(a2:Int)=>some a2) (fun(a3:Unit)=>some (-1)) a
theorem ZC:∀(s:List ByteArray) (m1:List (ByteArray×(List ByteArray))),ev 61 2 [rL 1 eS s,R.c (C.fn 41 [] [dP 0])] [(0,B.blk 65 [C.hd .map 1]),(1,B.ob (mpB Qc zG m1))]=(qx s m1).bind (fun(e:Int)=>some (rI e,[(0,B.blk 65 [C.hd .map 1]),(1,B.ob (mpB Qc zG m1))])):=
 fun s m1=>by
  rw[qU qol qrJ.2.2.2 qqp]
  have:=qot;have:=@Zj;have:=@qx.eq_1;exact gA
def zY (fu:Nat) (s:List ByteArray) (m1:List (ByteArray×(List ByteArray))):Option Int:=Option.bind (itT (ql m1 s ((s.length:Nat):Int)) fu 0) fun(a:Sum Int Unit)=>Sum.elim (fun(a2:Int)=>some a2) (fun(a3:Unit)=>some (-1)) a
theorem ZB (fu:Nat) (s:List ByteArray) (m1:List (ByteArray×(List ByteArray))):qm (zY fu s m1) (qx s m1):=by
 unfold zY qx
 repeat (first
  | with_reducible exact qm.refl _
  | with_reducible exact qm.none _
  | with_reducible refine qm.bind ?_ (fun _=>?_)
  | with_reducible refine qm.ite ?_ ?_
  | with_reducible refine qm.sum (fun _=>?_) (fun _=>?_)
  | with_reducible refine qm.lim (fun _=>?_))
def qj (s:List ByteArray) (m1:List (ByteArray×(List ByteArray))):Option Bool:=Option.bind (qx s m1) fun(a:Int)=>some (decide (0≤a))
theorem Zi:∀(s:List ByteArray) (m1:List (ByteArray×(List ByteArray))),ev 40 2 [rL 1 eS s,R.c (C.fn 41 [] [dP 0])] [(0,B.blk 65 [C.hd .map 1]),(1,B.ob (mpB Qc zG m1))]=(qj s m1).bind (fun(e:Bool)=>some (rB e,[(0,B.blk 65 [C.hd .map 1]),(1,B.ob (mpB Qc zG m1))])):=
 fun s m1=>by
  rw[qU qoJ qpQ.2.2.2 qsD]
  have:=qsI;have:=@ZC;have:=@qj.eq_1;exact gA
def zQ (fu:Nat) (s:List ByteArray) (m1:List (ByteArray×(List ByteArray))):Option Bool:=Option.bind (zY fu s m1) fun(a:Int)=>some (decide (0≤a))
theorem Zl (fu:Nat) (s:List ByteArray) (m1:List (ByteArray×(List ByteArray))):qm (zQ fu s m1) (qj s m1):=by
 unfold zQ qj
 repeat (first
  | with_reducible exact qm.refl _
  | with_reducible exact qm.none _
  | with_reducible apply ZB
  | with_reducible refine qm.bind ?_ (fun _=>?_)
  | with_reducible refine qm.ite ?_ ?_
  | with_reducible refine qm.sum (fun _=>?_) (fun _=>?_)
  | with_reducible refine qm.lim (fun _=>?_))
def zE (m1:List (ByteArray×(List ByteArray))):Option Bool:=anyO (fun(a:ByteArray) (v:List ByteArray)=>Option.bind (qj v m1) fun(a2:Bool)=>if a2=Bool.true then some true else some false) m1
theorem q1q:∀(m1:List (ByteArray×(List ByteArray))),XM2 evo 12 0 18 (@Operand.tmp 62) ⟨[(6,rP 0),(62,R.c (C.hd .iter 2))],[(0,B.blk 65 [C.hd .map 1]),(1,B.ob (mpB Qc zG m1)),(2,B.ob (AO.mi (R.c (C.hd HK.map 1)) m1.length []))],3,81⟩=(zE m1).bind (fun e=>if e=true then some (Exit.ret,⟨[(2,rI 5),(6,rP 0)],[(0,B.blk 65 [C.hd .map 1]),(1,B.ob (mpB Qc zG m1))],2,81⟩) else some (Exit.exit 3,⟨[(2,R.any),(6,rP 0)],[(0,B.blk 65 [C.hd .map 1]),(1,B.ob (mpB Qc zG m1))],2,81⟩)):=
 fun m1=>by
  have h:=q9D (E:=evo) (f:=12) (k:=0) (key:=18) (it:=@Operand.tmp 62) qif qi2 (kE:=Qc) (vE:=zG) (M:=m1) (st:=fun b=>(⟨[(6,rP 0),(62,R.c (C.hd .iter 2))],[(0,B.blk 65 [C.hd .map 1]),(1,B.ob (mpB Qc zG m1)),(2,b)],3,81⟩:S)) (id:=2) (mid:=1) (x:=(Exit.ret,⟨[(2,rI 5),(6,rP 0)],[(0,B.blk 65 [C.hd .map 1]),(1,B.ob (mpB Qc zG m1))],2,81⟩)) (z:=(Exit.exit 3,⟨[(2,R.any),(6,rP 0)],[(0,B.blk 65 [C.hd .map 1]),(1,B.ob (mpB Qc zG m1))],2,81⟩)) (g:=fun a v=>Option.bind (qj v m1) fun(a2:Bool) =>     if a2=Bool.true then some true     else some false) (fun _=>rfl) (fun _=>rfl) (fun _=>rfl) (fun _=>rfl) (by decide) (fun _ _=>rfl) (by intro h;cases h) (by intro h;cases h) (fun a v j l hE=>by
   simp only[qb7,qgX,qdf,zG] at hE
   have:=qkn;have:=@q5O.eq_1;have:=@zG;have:=@hE;have:=@Zi;exact gA) (fun l=>by
   have:=qkn;have:=@q5O.eq_1;have:=@zG;exact gA)
  exact h
def ZX (fu:Nat) (m1:List (ByteArray×(List ByteArray))):Option Bool:=anyO (fun(a:ByteArray) (v:List ByteArray)=>Option.bind (zQ fu v m1) fun(a2:Bool)=>if a2=Bool.true then some true else some false) m1
theorem q14 (fu:Nat) (m1:List (ByteArray×(List ByteArray))):qm (ZX fu m1) (zE m1):=by
 unfold ZX zE
 refine qm.anyO (fun _ _=>?_) _
 repeat (first
  | with_reducible exact qm.refl _
  | with_reducible exact qm.none _
  | with_reducible apply Zl
  | with_reducible refine qm.bind ?_ (fun _=>?_)
  | with_reducible refine qm.ite ?_ ?_
  | with_reducible refine qm.sum (fun _=>?_) (fun _=>?_)
  | with_reducible refine qm.lim (fun _=>?_))
theorem qvm:okL 43 qbn:=z7 (qc qqV) (by kernel_rfl) (by kernel_rfl)
def qtJ:=JA_ @qbn.eq_1 (JA_ @Try.f43.eq_1 @qqV)
theorem qta:okL 63 q8W:=z7 (qc qoY) (by kernel_rfl) (by kernel_rfl)
def qsQ:=JA_ @q8W.eq_1 (JA_ @Try.f63.eq_1 @qoY)
theorem qnP:lbO 63 1=qbI:=Q1 (qc qoY) rfl
theorem qoh:okL 63 qbI:=zl qta (qvs (i:=0) (by kernel_rfl))
def zu (x:(ByteArray×(List (ByteArray×(List ByteArray)))×(List (ByteArray×Bool)))):List R×List (Nat×B):=([R.c (C.d (D.str x.1)),R.c (C.ptr 0 0),R.c (C.ptr 2 0),R.c (C.ptr 4 0)],[(0,B.blk 65 [C.hd .map 1]),(1,B.ob (mpB Qc zG x.2.1)),(2,B.blk 46 [C.hd .map 3]),(3,B.ob (mpB Qc QS x.2.2)),(4,B.blk 81 [C.fn 63 [] [C.ptr 0 0,C.ptr 2 0,C.ptr 4 0]])])
def zD:((List (ByteArray×(List ByteArray)))×(List (ByteArray×Bool)))→R×List (Nat×B):=fun(e:(List (ByteArray×(List ByteArray)))×(List (ByteArray×Bool)))=>(R.tup [],[(0,B.blk 65 [C.hd .map 1]),(1,B.ob (mpB Qc zG e.1)),(2,B.blk 46 [C.hd .map 3]),(3,B.ob (mpB Qc QS e.2)),(4,B.blk 81 [C.fn 63 [] [C.ptr 0 0,C.ptr 2 0,C.ptr 4 0]])])
def qh (rF:(ByteArray×(List (ByteArray×(List ByteArray)))×(List (ByteArray×Bool)))→Option ((List (ByteArray×(List ByteArray)))×(List (ByteArray×Bool)))) (t9:List ByteArray) (t10:Int):((List (ByteArray×(List ByteArray)))×(List (ByteArray×Bool))×Int)→Option (((List (ByteArray×(List ByteArray)))×(List (ByteArray×Bool))×Int)⊕((List (ByteArray×(List ByteArray)))×(List (ByteArray×Bool))))|(m1,m3,t11)=>if t11<t10 then if 0≤t11∧t11<((t9.length:Nat):Int) then Option.bind t9[Int.toNat t11]? fun(a2:ByteArray)=>if(!(Qz Bool.false m3 a2))=Bool.true then Option.bind (rF (a2,(m1,q2e m3 a2 Bool.true))) fun(a3:Prod (List (Prod ByteArray (List ByteArray))) (List (Prod ByteArray Bool)))=>some (Sum.inl (a3.1,a3.2,w64 (t11+1))) else some (Sum.inl (m1,m3,w64 (t11+1))) else none else some (Sum.inr (m1,m3))
theorem q0F (rE:Orc) (rF:(ByteArray×(List (ByteArray×(List ByteArray)))×(List (ByteArray×Bool)))→Option ((List (ByteArray×(List ByteArray)))×(List (ByteArray×Bool)))) (hF:∀y,rE (.fn 63) 5 (zu y).1 (zu y).2=(rF y).bind fun e=>some (zD e)) (hM:∀g k a G,g≠63→rE (.fn g) k a G=ev g k a G) (hR:∀g asg bd k a G,rE (.rd g asg bd) k a G=evr g asg bd k a G):∀(m1:List (ByteArray×(List ByteArray))) (m3:List (ByteArray×Bool)) (t9:List ByteArray) (t10 t11:Int),XL2 rE 63 5 1 ⟨[(2,rP 2),(3,rP 4),(9,rL 1 eS t9),(10,rI t10),(11,rI t11)],[(0,B.blk 65 [C.hd .map 1]),(1,B.ob (mpB Qc zG m1)),(2,B.blk 46 [C.hd .map 3]),(3,B.ob (mpB Qc QS m3)),(4,B.blk 81 [C.fn 63 [] [dP 0,dP 2,dP 4]])],5,25⟩=(zc (qh rF t9 t10) (m1,m3,t11)).bind (fun(e:(List (ByteArray×(List ByteArray)))×(List (ByteArray×Bool)))=>some (Exit.exit 0,⟨[],[(0,B.blk 65 [C.hd .map 1]),(1,B.ob (mpB Qc zG e.1)),(2,B.blk 46 [C.hd .map 3]),(3,B.ob (mpB Qc QS e.2)),(4,B.blk 81 [C.fn 63 [] [dP 0,dP 2,dP 4]])],5,25⟩)):=
 fun m1 m3 t9 t10 t11=>by
  revert t11;revert m3;revert m1;exact qqY qnP qoh (fun e=>by exact⟨_,rfl,fun h=>by cases h⟩) fun m1 m3 t11=>by
   have hF':∀(c:ByteArray) (m1:List (ByteArray×(List ByteArray))) (m3:List (ByteArray×Bool)),rE (.fn 63) 5 [rS c,rP 0,rP 2,rP 4] [(0,B.blk 65 [C.hd .map 1]),(1,B.ob (mpB Qc zG m1)),(2,B.blk 46 [C.hd .map 3]),(3,B.ob (mpB Qc QS m3)),(4,B.blk 81 [C.fn 63 [] [dP 0,dP 2,dP 4]])]=(rF (c,m1,m3)).bind (fun e=>some (R.tup [],[(0,B.blk 65 [C.hd .map 1]),(1,B.ob (mpB Qc zG e.1)),(2,B.blk 46 [C.hd .map 3]),(3,B.ob (mpB Qc QS e.2)),(4,B.blk 81 [C.fn 63 [] [dP 0,dP 2,dP 4]])])):=fun c m1 m3=>hF (c,m1,m3)
   have:=qsQ;have:=@qbI.eq_1;have:=@qh.eq_1;exact gA
def Zu (fu:Nat) (rF:(ByteArray×(List (ByteArray×(List ByteArray)))×(List (ByteArray×Bool)))→Option ((List (ByteArray×(List ByteArray)))×(List (ByteArray×Bool)))) (t9:List ByteArray) (t10:Int):((List (ByteArray×(List ByteArray)))×(List (ByteArray×Bool))×Int)→Option (((List (ByteArray×(List ByteArray)))×(List (ByteArray×Bool))×Int)⊕((List (ByteArray×(List ByteArray)))×(List (ByteArray×Bool))))|(m1,m3,t11)=>if t11<t10 then if 0≤t11∧t11<((t9.length:Nat):Int) then Option.bind t9[Int.toNat t11]? fun(a2:ByteArray)=>if(!(Qz Bool.false m3 a2))=Bool.true then Option.bind (rF (a2,(m1,q2e m3 a2 Bool.true))) fun(a3:Prod (List (Prod ByteArray (List ByteArray))) (List (Prod ByteArray Bool)))=>some (Sum.inl (a3.1,a3.2,w64 (t11+1))) else some (Sum.inl (m1,m3,w64 (t11+1))) else none else some (Sum.inr (m1,m3))
theorem q0B (fu:Nat) (rF rF2:(ByteArray×(List (ByteArray×(List ByteArray)))×(List (ByteArray×Bool)))→Option ((List (ByteArray×(List ByteArray)))×(List (ByteArray×Bool)))) (hF:∀y,qm (rF y) (rF2 y)) (t9:List ByteArray) (t10:Int):∀x,qm (Zu fu rF t9 t10 x) (qh rF2 t9 t10 x):=by
 rintro⟨m1,m3,t11⟩
 unfold Zu qh
 try dsimp only
 repeat (first
  | with_reducible exact qm.refl _
  | with_reducible exact qm.none _
  | exact hF _
  | with_reducible refine qm.bind ?_ (fun _=>?_)
  | with_reducible refine qm.ite ?_ ?_
  | with_reducible refine qm.sum (fun _=>?_) (fun _=>?_)
  | with_reducible refine qm.lim (fun _=>?_))
def Q2 (rF:(ByteArray×(List (ByteArray×(List ByteArray)))×(List (ByteArray×Bool)))→Option ((List (ByteArray×(List ByteArray)))×(List (ByteArray×Bool)))):(ByteArray×(List (ByteArray×(List ByteArray)))×(List (ByteArray×Bool)))→Option ((List (ByteArray×(List ByteArray)))×(List (ByteArray×Bool)))|(c,m1,m3)=>Option.bind (zc (qh rF (Qz [] m1 c) (((Qz [] m1 c).length:Nat):Int)) (m1,(m3,0))) fun(a2:Prod (List (Prod ByteArray (List ByteArray))) (List (Prod ByteArray Bool)))=>some (a2.1,a2.2)
theorem Zq:q6I 63 5 zu zD Q2:=by
 intro rE rF hF hM hR x
 obtain⟨c,m1,m3⟩:=x
 show q86 rE 63 5 [rS c,rP 0,rP 2,rP 4] [(0,B.blk 65 [C.hd .map 1]),(1,B.ob (mpB Qc zG m1)),(2,B.blk 46 [C.hd .map 3]),(3,B.ob (mpB Qc QS m3)),(4,B.blk 81 [C.fn 63 [] [dP 0,dP 2,dP 4]])]=_
 have hF':∀(c:ByteArray) (m1:List (ByteArray×(List ByteArray))) (m3:List (ByteArray×Bool)),rE (.fn 63) 5 [rS c,rP 0,rP 2,rP 4] [(0,B.blk 65 [C.hd .map 1]),(1,B.ob (mpB Qc zG m1)),(2,B.blk 46 [C.hd .map 3]),(3,B.ob (mpB Qc QS m3)),(4,B.blk 81 [C.fn 63 [] [dP 0,dP 2,dP 4]])]=(rF (c,m1,m3)).bind (fun e=>some (R.tup [],[(0,B.blk 65 [C.hd .map 1]),(1,B.ob (mpB Qc zG e.1)),(2,B.blk 46 [C.hd .map 3]),(3,B.ob (mpB Qc QS e.2)),(4,B.blk 81 [C.fn 63 [] [dP 0,dP 2,dP 4]])])):=fun c m1 m3=>hF (c,m1,m3)
 rw[q9S qoY qta]
 have:=qsQ;have:=q0F rE rF hF hM hR;have:=@Q2.eq_1;have:=@zD.eq_1;exact gA
theorem QI:∀x y,zu x=zu y→x=y:=by
 rintro⟨a0,a1,a2⟩ ⟨b0,b1,b2⟩ h
 simp only[zu,Prod.mk.injEq,List.cons.injEq,R.c.injEq,R.agg.injEq,R.tup.injEq,C.d.injEq,C.own.injEq,C.ptr.injEq,C.eptr.injEq,D.int.injEq,D.bool.injEq,D.str.injEq,D.sl.injEq,B.blk.injEq,B.row.injEq,q9i,q6Q,q6K,q67,q6i,q8L,q8P,q9A,true_and,and_true,qvL] at h
 simp only[h]
theorem ZS:∀x y,zD x=zD y→x=y:=by
 rintro⟨a0,a1⟩ ⟨b0,b1⟩ h
 simp only[zD,Prod.mk.injEq,List.cons.injEq,R.c.injEq,R.agg.injEq,R.tup.injEq,C.d.injEq,C.own.injEq,C.ptr.injEq,C.eptr.injEq,D.int.injEq,D.bool.injEq,D.str.injEq,D.sl.injEq,B.blk.injEq,B.row.injEq,q9i,q6Q,q6K,q67,q6i,q8L,q8P,q9A,true_and,and_true,qvL] at h
 simp only[h]
def qv:(ByteArray×(List (ByteArray×(List ByteArray)))×(List (ByteArray×Bool)))→Option ((List (ByteArray×(List ByteArray)))×(List (ByteArray×Bool))):=q5h 63 5 zu zD
theorem Zp (x:(ByteArray×(List (ByteArray×(List ByteArray)))×(List (ByteArray×Bool)))):qv x=Q2 qv x:=qnd qoW.2.2.2 QI ZS Zq x
theorem q19 (c:ByteArray) (m1:List (ByteArray×(List ByteArray))) (m3:List (ByteArray×Bool)):ev 63 5 [rS c,rP 0,rP 2,rP 4] [(0,B.blk 65 [C.hd .map 1]),(1,B.ob (mpB Qc zG m1)),(2,B.blk 46 [C.hd .map 3]),(3,B.ob (mpB Qc QS m3)),(4,B.blk 81 [C.fn 63 [] [dP 0,dP 2,dP 4]])]=(qv (c,m1,m3)).bind (fun(e:(List (ByteArray×(List ByteArray)))×(List (ByteArray×Bool)))=>some (R.tup [],[(0,B.blk 65 [C.hd .map 1]),(1,B.ob (mpB Qc zG e.1)),(2,B.blk 46 [C.hd .map 3]),(3,B.ob (mpB Qc QS e.2)),(4,B.blk 81 [C.fn 63 [] [dP 0,dP 2,dP 4]])])):=(q9X qoW.2.2.2 QI Zq (c,m1,m3))
theorem q2d:∀(c:ByteArray) (m1:List (ByteArray×(List ByteArray))) (m3:List (ByteArray×Bool)),ev 63 5 [rS c,rP 0,rP 2,rP 4] [(0,B.blk 65 [C.hd .map 1]),(1,B.ob (mpB Qc zG m1)),(2,B.blk 46 [C.hd .map 3]),(3,B.ob (mpB Qc QS m3)),(4,B.blk 81 [C.fn 63 [] [dP 0,dP 2,dP 4]])]=(qv (c,m1,m3)).bind (fun(e:(List (ByteArray×(List ByteArray)))×(List (ByteArray×Bool)))=>some (R.tup [],[(0,B.blk 65 [C.hd .map 1]),(1,B.ob (mpB Qc zG e.1)),(2,B.blk 46 [C.hd .map 3]),(3,B.ob (mpB Qc QS e.2)),(4,B.blk 81 [C.fn 63 [] [dP 0,dP 2,dP 4]])])):=
 fun c m1 m3=>q19 c m1 m3
def Z4 (fu:Nat) (rF:(ByteArray×(List (ByteArray×(List ByteArray)))×(List (ByteArray×Bool)))→Option ((List (ByteArray×(List ByteArray)))×(List (ByteArray×Bool)))):(ByteArray×(List (ByteArray×(List ByteArray)))×(List (ByteArray×Bool)))→Option ((List (ByteArray×(List ByteArray)))×(List (ByteArray×Bool)))|(c,m1,m3)=>Option.bind (itT (Zu fu rF (Qz [] m1 c) (((Qz [] m1 c).length:Nat):Int)) fu (m1,(m3,0))) fun(a2:Prod (List (Prod ByteArray (List ByteArray))) (List (Prod ByteArray Bool)))=>some (a2.1,a2.2)
theorem q06 (fu:Nat) (rF rF2:(ByteArray×(List (ByteArray×(List ByteArray)))×(List (ByteArray×Bool)))→Option ((List (ByteArray×(List ByteArray)))×(List (ByteArray×Bool)))) (hF:∀y,qm (rF y) (rF2 y)):∀x,qm (Z4 fu rF x) (Q2 rF2 x):=by
 rintro⟨c,m1,m3⟩
 unfold Z4 Q2
 try dsimp only
 repeat (first
  | with_reducible exact qm.refl _
  | with_reducible exact qm.none _
  | exact hF _
  | (with_reducible refine q0B _ _ _ hF ..)
  | with_reducible refine qm.bind ?_ (fun _=>?_)
  | with_reducible refine qm.ite ?_ ?_
  | with_reducible refine qm.sum (fun _=>?_) (fun _=>?_)
  | with_reducible refine qm.lim (fun _=>?_))
def q0l (fu:Nat) (x:(ByteArray×(List (ByteArray×(List ByteArray)))×(List (ByteArray×Bool)))):Option ((List (ByteArray×(List ByteArray)))×(List (ByteArray×Bool))):=itR (Z4 fu) fu x
theorem q27 (fu:Nat) (x:(ByteArray×(List (ByteArray×(List ByteArray)))×(List (ByteArray×Bool)))):qm (q0l fu x) (qv x):=qm.rec Zp (q06 fu) fu x
theorem qvp:okL 65 qda:=z7 (qc qpk) (by kernel_rfl) (by kernel_rfl)
def quX:=JA_ @qda.eq_1 (JA_ @Try.f65.eq_1 @qpk)
def qS (m0:List (ByteArray×Bool)):Option Unit:=
 some ()
def zZ (m0:List (ByteArray×Bool)):Unit:=
 ()
theorem QP (m0:List (ByteArray×Bool)):qS m0=some (zZ m0):=by
 unfold qS zZ
 simp only[q1B]
theorem QX:∀(m0:List (ByteArray×Bool)),ev 65 1 [R.c (C.hd .map 0)] [(0,B.ob (mpB Qc QS m0))]=some (R.c (C.fn 74 [] [dP 1]),[(0,B.ob (mpB Qc QS m0)),(1,B.blk 46 [C.hd .map 0])]):=
 fun m0=>by
  have h:ev 65 1 [R.c (C.hd .map 0)] [(0,B.ob (mpB Qc QS m0))]=(qS m0).bind (fun(e:Unit)=>some (R.c (C.fn 74 [] [dP 1]),[(0,B.ob (mpB Qc QS m0)),(1,B.blk 46 [C.hd .map 0])])):=by
   rw[qU qpk qrX.2.2.2 qvp]
   have:=quX;have:=@qS.eq_1;exact gA
  rw[QP] at h
  exact h
def zn (m1:List (ByteArray×Bool)):Option (List ByteArray):=if @qgy (List.map (@Prod.fst ByteArray Bool) m1)=Bool.true then some (@JD (List.map (@Prod.fst ByteArray Bool) m1)) else none
theorem q05:∀(m1:List (ByteArray×Bool)),ev 64 2 [R.c (C.fn 74 [] [dP 0])] [(0,B.blk 46 [C.hd .map 1]),(1,B.ob (mpB Qc QS m1))]=(zn m1).bind (fun(e:List ByteArray)=>some (rL 1 eS e,[(0,B.blk 46 [C.hd .map 1]),(1,B.ob (mpB Qc QS m1))])):=
 fun m1=>by
  rw[qa8,qsl.2.2.2]
  have:=@zn.eq_1;exact gA
theorem q0Z (x:(ByteArray×(List (ByteArray×(List ByteArray)))×(List (ByteArray×Bool)))) (e:(List (ByteArray×(List ByteArray)))×(List (ByteArray×Bool))) (h:qv x=some e):e.1=x.2.1:=
 qf2 qoW.2.2.2 QI ZS Zq (Q:=fun x e=>e.1=x.2.1) (fun F hF y e he=>by
  obtain⟨c,m1,m3⟩:=y
  obtain⟨a,h1,h2⟩:=qvw.1 (show Option.bind (zc (qh F (Qz [] m1 c) (((Qz [] m1 c).length:Nat):Int)) (m1,(m3,0))) (fun a2=>some (a2.1,a2.2))=some e from he)
  injection h2 with h2
  have h3:=qeB (I:=fun x:(List (ByteArray×(List ByteArray)))×(List (ByteArray×Bool))×Int=>x.1=m1) (J:=fun e:(List (ByteArray×(List ByteArray)))×(List (ByteArray×Bool))=>e.1=m1) (fun x y hx hs=>by
   obtain⟨b,m,t⟩:=x
   obtain rfl:b=m1:=hx
   unfold qh at hs
   dsimp only at hs
   split at hs
   ·split at hs
    ·obtain⟨d,-,hs⟩:=qvw.1 hs
     split at hs
     ·obtain⟨r,hr,hs⟩:=qvw.1 hs
      injection hs with hs;injection hs with hs
      rw[←hs];exact hF _ _ hr
     ·injection hs with hs;injection hs with hs
      rw[←hs]
    ·cases hs
   ·cases hs) (fun x e hx hs=>by
   obtain⟨b,m,t⟩:=x
   obtain rfl:b=m1:=hx
   unfold qh at hs
   dsimp only at hs
   split at hs
   ·split at hs
    ·obtain⟨d,-,hs⟩:=qvw.1 hs
     split at hs
     ·obtain⟨r,hr,hs⟩:=qvw.1 hs
      cases hs
     ·cases hs
    ·cases hs
   ·injection hs with hs;injection hs with hs
    rw[←hs]) rfl h1
  rw[←h2];exact h3) x e h
def qA (code:ByteArray) (m0:List (ByteArray×(List ByteArray))):Option (List ByteArray×(List (ByteArray×(List ByteArray)))):=Option.bind (qv (code,(m0,[]))) fun(a:Prod (List (Prod ByteArray (List ByteArray))) (List (Prod ByteArray Bool)))=>Option.bind (zn a.2) fun(a2:List ByteArray)=>some (a2,a.1)
theorem JZ:∀(code:ByteArray) (m0:List (ByteArray×(List ByteArray))),ev 43 1 [R.c (C.hd .map 0),rS code] [(0,B.ob (mpB Qc zG m0))]=(qA code m0).bind (fun(e:List ByteArray×(List (ByteArray×(List ByteArray))))=>some (rL 1 eS e.1,[(0,B.ob (mpB Qc zG e.2))])):=
 fun code m0=>by
  rw[qU qqV qsG.2.2.2 qvm]
  have:=qtJ;have:=@q2d;have:=@QX;have:=@q05;have:=@qA.eq_1;exact gA
theorem q29 (code:ByteArray) (m0:List (ByteArray×(List ByteArray))) (r:List ByteArray×(List (ByteArray×(List ByteArray)))) (h:qA code m0=some r):r.2=m0:=by
 unfold qA at h
 obtain⟨a,h1,h⟩:=qvw.1 h
 obtain⟨b,h2,h⟩:=qvw.1 h
 injection h with h
 rw[←h];exact q0Z _ _ h1
theorem q3k:∀(code:ByteArray) (m0:List (ByteArray×(List ByteArray))),ev 43 1 [R.c (C.hd .map 0),rS code] [(0,B.ob (mpB Qc zG m0))]=(qA code m0).bind (fun(e:List ByteArray×(List (ByteArray×(List ByteArray))))=>some (rL 1 eS e.1,[(0,B.ob (mpB Qc zG m0))])):=fun code m0=>by
 rw[JZ]
 cases h:qA code m0 with
 | none=>rfl
 | some r=>rw[qvr,qvr,q29 _ _ _ h]
def ZW (fu:Nat) (code:ByteArray) (m0:List (ByteArray×(List ByteArray))):Option (List ByteArray×(List (ByteArray×(List ByteArray)))):=Option.bind (q0l fu (code,(m0,[]))) fun(a:Prod (List (Prod ByteArray (List ByteArray))) (List (Prod ByteArray Bool)))=>Option.bind (zn a.2) fun(a2:List ByteArray)=>some (a2,a.1)
theorem JU (fu:Nat) (code:ByteArray) (m0:List (ByteArray×(List ByteArray))):qm (ZW fu code m0) (qA code m0):=by
 unfold ZW qA
 repeat (first
  | with_reducible exact qm.refl _
  | with_reducible exact qm.none _
  | with_reducible apply q27
  | with_reducible refine qm.bind ?_ (fun _=>?_)
  | with_reducible refine qm.ite ?_ ?_
  | with_reducible refine qm.sum (fun _=>?_) (fun _=>?_)
  | with_reducible refine qm.lim (fun _=>?_))
theorem quK:okL 42 qbW:=z7 (qc qqk) (by kernel_rfl) (by kernel_rfl)
def qtG:=JA_ @qbW.eq_1 (JA_ @Try.f42.eq_1 @qqk)
theorem qsk:okL 62 q9Q:=z7 (qc qoQ) (by kernel_rfl) (by kernel_rfl)
def qt6:=JA_ @q9Q.eq_1 (JA_ @Try.f62.eq_1 @qoQ)
theorem qmV:lbO 62 2=qc1:=Q1 (qc qoQ) rfl
theorem qmM:okL 62 qc1:=zl qsk (qvs (i:=0) (by kernel_rfl))
def qD (s:List ByteArray) (v:ByteArray) (t7:Int):Int→Option (Int⊕(Int⊕Unit))|t8=>if t8<t7 then if 0≤t8∧t8<((s.length:Nat):Int) then Option.bind s[Int.toNat t8]? fun(a:ByteArray)=>if(ByteArray.toList v==ByteArray.toList a)=Bool.true then some (Sum.inr (Sum.inl t8)) else some (Sum.inl (w64 (t8+1))) else none else some (Sum.inr (Sum.inr ()))
theorem ZM:∀(s:List ByteArray) (v:ByteArray) (t7 t8:Int),XL2 evo 62 0 2 ⟨[(0,rL 1 eS s),(1,rS v),(7,rI t7),(8,rI t8)],[],0,19⟩=(zc (qD s v t7) t8).bind (Sum.elim (fun(e:Int)=>some (Exit.ret,⟨[(4,rI e)],[],0,19⟩)) (fun(e:Unit)=>some (Exit.exit 0,⟨[(4,R.any)],[],0,19⟩))):=
 fun s v t7 t8=>by
  revert t8;exact q3z qmV qmM (fun e=>by rcases e with _|_<;>exact⟨_,rfl,fun h=>by cases h⟩) fun x=>by
   have:=qt6;have:=@qc1.eq_1;have:=@qD.eq_1;exact gA
def qV (s:List ByteArray) (v:ByteArray):Option Int:=Option.bind (zc (qD s v ((s.length:Nat):Int)) 0) fun(a:Sum Int Unit)=>Sum.elim (fun(a2:Int)=>some a2) (fun(a3:Unit)=>some (-1)) a
theorem Jf:∀(s:List ByteArray) (v:ByteArray),ev 62 0 [rL 1 eS s,rS v] []=(qV s v).bind (fun(e:Int)=>some (rI e,[])):=
 fun s v=>by
  rw[qU qoQ qss.2.2.2 qsk]
  have:=qt6;have:=@ZM;have:=@qV.eq_1;exact gA
def Qi (fu:Nat) (s:List ByteArray) (v:ByteArray):Option Int:=Option.bind (itT (qD s v ((s.length:Nat):Int)) fu 0) fun(a:Sum Int Unit)=>Sum.elim (fun(a2:Int)=>some a2) (fun(a3:Unit)=>some (-1)) a
theorem Jb (fu:Nat) (s:List ByteArray) (v:ByteArray):qm (Qi fu s v) (qV s v):=by
 unfold Qi qV
 repeat (first
  | with_reducible exact qm.refl _
  | with_reducible exact qm.none _
  | with_reducible refine qm.bind ?_ (fun _=>?_)
  | with_reducible refine qm.ite ?_ ?_
  | with_reducible refine qm.sum (fun _=>?_) (fun _=>?_)
  | with_reducible refine qm.lim (fun _=>?_))
def qp (s:List ByteArray) (v:ByteArray):Option Bool:=Option.bind (qV s v) fun(a:Int)=>some (decide (0≤a))
theorem Qs:∀(s:List ByteArray) (v:ByteArray),ev 42 0 [rL 1 eS s,rS v] []=(qp s v).bind (fun(e:Bool)=>some (rB e,[])):=
 fun s v=>by
  rw[qU qqk qsW.2.2.2 quK]
  have:=qtG;have:=@Jf;have:=@qp.eq_1;exact gA
def zz (fu:Nat) (s:List ByteArray) (v:ByteArray):Option Bool:=Option.bind (Qi fu s v) fun(a:Int)=>some (decide (0≤a))
theorem Qt (fu:Nat) (s:List ByteArray) (v:ByteArray):qm (zz fu s v) (qp s v):=by
 unfold zz qp
 repeat (first
  | with_reducible exact qm.refl _
  | with_reducible exact qm.none _
  | with_reducible apply Jb
  | with_reducible refine qm.bind ?_ (fun _=>?_)
  | with_reducible refine qm.ite ?_ ?_
  | with_reducible refine qm.sum (fun _=>?_) (fun _=>?_)
  | with_reducible refine qm.lim (fun _=>?_))
def zW (m1:List (ByteArray×(List ByteArray))):Option Bool:=anyO (fun(a:ByteArray) (v:List ByteArray)=>Option.bind (qA a m1) fun(a2:Prod (List ByteArray) (List (Prod ByteArray (List ByteArray))))=>Option.bind (qp a2.1 a) fun(a3:Bool)=>if a3=Bool.true then some true else some false) m1
theorem q17:∀(m1:List (ByteArray×(List ByteArray))),XM2 evo 12 0 23 (@Operand.tmp 71) ⟨[(6,rP 0),(71,R.c (C.hd .iter 2))],[(0,B.blk 65 [C.hd .map 1]),(1,B.ob (mpB Qc zG m1)),(2,B.ob (AO.mi (R.c (C.hd HK.map 1)) m1.length []))],3,81⟩=(zW m1).bind (fun e=>if e=true then some (Exit.ret,⟨[(2,rI 14)],[],0,81⟩) else some (Exit.exit 5,⟨[(2,R.any)],[],0,81⟩)):=
 fun m1=>by
  have h:=q9D (E:=evo) (f:=12) (k:=0) (key:=23) (it:=@Operand.tmp 71) qke qjV (kE:=Qc) (vE:=zG) (M:=m1) (st:=fun b=>(⟨[(6,rP 0),(71,R.c (C.hd .iter 2))],[(0,B.blk 65 [C.hd .map 1]),(1,B.ob (mpB Qc zG m1)),(2,b)],3,81⟩:S)) (id:=2) (mid:=1) (x:=(Exit.ret,⟨[(2,rI 14)],[],0,81⟩)) (z:=(Exit.exit 5,⟨[(2,R.any)],[],0,81⟩)) (g:=fun a v=>Option.bind (qA a m1) fun(a2:Prod (List ByteArray) (List (Prod ByteArray (List ByteArray)))) =>     Option.bind (qp a2.1 a) fun(a3:Bool) =>     if a3=Bool.true then some true     else some false) (fun _=>rfl) (fun _=>rfl) (fun _=>rfl) (fun _=>rfl) (by decide) (fun _ _=>rfl) (by intro h;cases h) (by intro h;cases h) (fun a v j l hE=>by
   simp only[qb7,qgX,qdf,zG] at hE
   have:=qkn;have:=@q6s.eq_1;have:=@zG;have:=@hE;have:=@q3k;have:=@Qs;exact gA) (fun l=>by
   have:=qkn;have:=@q6s.eq_1;have:=@zG;exact gA)
  exact h
def ZR (fu:Nat) (m1:List (ByteArray×(List ByteArray))):Option Bool:=anyO (fun(a:ByteArray) (v:List ByteArray)=>Option.bind (ZW fu a m1) fun(a2:Prod (List ByteArray) (List (Prod ByteArray (List ByteArray))))=>Option.bind (zz fu a2.1 a) fun(a3:Bool)=>if a3=Bool.true then some true else some false) m1
theorem q1j (fu:Nat) (m1:List (ByteArray×(List ByteArray))):qm (ZR fu m1) (zW m1):=by
 unfold ZR zW
 refine qm.anyO (fun _ _=>?_) _
 repeat (first
  | with_reducible exact qm.refl _
  | with_reducible exact qm.none _
  | with_reducible apply JU
  | with_reducible apply Qt
  | with_reducible refine qm.bind ?_ (fun _=>?_)
  | with_reducible refine qm.ite ?_ ?_
  | with_reducible refine qm.sum (fun _=>?_) (fun _=>?_)
  | with_reducible refine qm.lim (fun _=>?_))
def qy (x0:List qa):Option Int:=if 60<((x0.length:Nat):Int) then some 2 else Option.bind (zc (qC x0 x0 ((x0.length:Nat):Int)) 0) fun(a:Sum Int Unit)=>Sum.elim (fun(a2:Int)=>some a2) (fun(a3:Unit)=>Option.bind (zK x0) fun(a4:List (Prod ByteArray (List ByteArray)))=>Option.bind (zE a4) fun(a5:Bool)=>if a5=Bool.true then some 5 else Option.bind (zW a4) fun(a6:Bool)=>if a6=Bool.true then some 14 else some 0) a
theorem Qo:∀(x0:List qa),ev 12 0 [rL 5 qb x0] []=(qy x0).bind (fun(e:Int)=>some (rI e,[])):=
 fun x0=>by
  rw[qU qkm qti.2.2.2 qp7]
  have:=qkn;have:=@q1L;have:=@q0k;have:=@q1q;have:=@q17;have:=@qy.eq_1;exact gA
theorem q24:∀(x00_Code:ByteArray) (x00_Credits x00_Places x00_Slots0 x00_Slots1:Int) (x01_Code:ByteArray) (x01_Credits x01_Places x01_Slots0:Int) (x01_Needs0 x02_Code:ByteArray) (x02_Credits x02_Places:Int) (x03_Code:ByteArray) (x03_Credits x03_Places x03_Slots0:Int) (x03_Needs0 x03_Needs1:ByteArray) , ev 12 0 [R.c (C.d (D.sl 5 4 [D.str x00_Code,D.int .i64 x00_Credits,D.int .i64 x00_Places,D.sl 1 2 [D.int .i64 x00_Slots0,D.int .i64 x00_Slots1],D.sl 1 0 [],D.str x01_Code,D.int .i64 x01_Credits,D.int .i64 x01_Places,D.sl 1 1 [D.int .i64 x01_Slots0],D.sl 1 1 [D.str x01_Needs0],D.str x02_Code,D.int .i64 x02_Credits,D.int .i64 x02_Places,D.sl 1 0 [],D.sl 1 0 [],D.str x03_Code,D.int .i64 x03_Credits,D.int .i64 x03_Places,D.sl 1 1 [D.int .i64 x03_Slots0],D.sl 1 2 [D.str x03_Needs0,D.str x03_Needs1]]))] []=(qy [(qa.mk x00_Code x00_Credits x00_Places [x00_Slots0,x00_Slots1] []),(qa.mk x01_Code x01_Credits x01_Places [x01_Slots0] [x01_Needs0]),(qa.mk x02_Code x02_Credits x02_Places [] []),(qa.mk x03_Code x03_Credits x03_Places [x03_Slots0] [x03_Needs0,x03_Needs1])]).bind (fun(e:Int)=>some (rI e,[])):=by
 intro x00_Code x00_Credits x00_Places x00_Slots0 x00_Slots1 x01_Code x01_Credits x01_Places x01_Slots0 x01_Needs0 x02_Code x02_Credits x02_Places x03_Code x03_Credits x03_Places x03_Slots0 x03_Needs0 x03_Needs1;have h:=Qo [(qa.mk x00_Code x00_Credits x00_Places [x00_Slots0,x00_Slots1] []),(qa.mk x01_Code x01_Credits x01_Places [x01_Slots0] [x01_Needs0]),(qa.mk x02_Code x02_Credits x02_Places [] []),(qa.mk x03_Code x03_Credits x03_Places [x03_Slots0] [x03_Needs0,x03_Needs1])]
 first
  | exact h
  | (simp only[rL,dL,bR,bZ,Nat.reduceAdd] at h;exact h)
theorem q2a:∀(x00_Code:ByteArray) (x00_Credits x00_Places x00_Slots0 x00_Slots1:Int) (x00_Needs0 x01_Code:ByteArray) (x01_Credits x01_Places x01_Slots0:Int) (x01_Needs0 x02_Code:ByteArray) (x02_Credits x02_Places:Int) (x03_Code:ByteArray) (x03_Credits x03_Places x03_Slots0:Int) (x03_Needs0 x03_Needs1:ByteArray) , ev 12 0 [R.c (C.d (D.sl 5 4 [D.str x00_Code,D.int .i64 x00_Credits,D.int .i64 x00_Places,D.sl 1 2 [D.int .i64 x00_Slots0,D.int .i64 x00_Slots1],D.sl 1 1 [D.str x00_Needs0],D.str x01_Code,D.int .i64 x01_Credits,D.int .i64 x01_Places,D.sl 1 1 [D.int .i64 x01_Slots0],D.sl 1 1 [D.str x01_Needs0],D.str x02_Code,D.int .i64 x02_Credits,D.int .i64 x02_Places,D.sl 1 0 [],D.sl 1 0 [],D.str x03_Code,D.int .i64 x03_Credits,D.int .i64 x03_Places,D.sl 1 1 [D.int .i64 x03_Slots0],D.sl 1 2 [D.str x03_Needs0,D.str x03_Needs1]]))] []=(qy [(qa.mk x00_Code x00_Credits x00_Places [x00_Slots0,x00_Slots1] [x00_Needs0]),(qa.mk x01_Code x01_Credits x01_Places [x01_Slots0] [x01_Needs0]),(qa.mk x02_Code x02_Credits x02_Places [] []),(qa.mk x03_Code x03_Credits x03_Places [x03_Slots0] [x03_Needs0,x03_Needs1])]).bind (fun(e:Int)=>some (rI e,[])):=by
 intro x00_Code x00_Credits x00_Places x00_Slots0 x00_Slots1 x00_Needs0 x01_Code x01_Credits x01_Places x01_Slots0 x01_Needs0 x02_Code x02_Credits x02_Places x03_Code x03_Credits x03_Places x03_Slots0 x03_Needs0 x03_Needs1;have h:=Qo [(qa.mk x00_Code x00_Credits x00_Places [x00_Slots0,x00_Slots1] [x00_Needs0]),(qa.mk x01_Code x01_Credits x01_Places [x01_Slots0] [x01_Needs0]),(qa.mk x02_Code x02_Credits x02_Places [] []),(qa.mk x03_Code x03_Credits x03_Places [x03_Slots0] [x03_Needs0,x03_Needs1])]
 first
  | exact h
  | (simp only[rL,dL,bR,bZ,Nat.reduceAdd] at h;exact h)
theorem q1O:∀(x00_Code:ByteArray) (x00_Credits x00_Places x00_Slots0 x00_Slots1:Int) (x01_Code:ByteArray) (x01_Credits x01_Places x01_Slots0:Int) (x01_Needs0 x02_Code:ByteArray) (x02_Credits x02_Places:Int) (x02_Needs0 x03_Code:ByteArray) (x03_Credits x03_Places x03_Slots0:Int) (x03_Needs0 x03_Needs1:ByteArray) , ev 12 0 [R.c (C.d (D.sl 5 4 [D.str x00_Code,D.int .i64 x00_Credits,D.int .i64 x00_Places,D.sl 1 2 [D.int .i64 x00_Slots0,D.int .i64 x00_Slots1],D.sl 1 0 [],D.str x01_Code,D.int .i64 x01_Credits,D.int .i64 x01_Places,D.sl 1 1 [D.int .i64 x01_Slots0],D.sl 1 1 [D.str x01_Needs0],D.str x02_Code,D.int .i64 x02_Credits,D.int .i64 x02_Places,D.sl 1 0 [],D.sl 1 1 [D.str x02_Needs0],D.str x03_Code,D.int .i64 x03_Credits,D.int .i64 x03_Places,D.sl 1 1 [D.int .i64 x03_Slots0],D.sl 1 2 [D.str x03_Needs0,D.str x03_Needs1]]))] []=(qy [(qa.mk x00_Code x00_Credits x00_Places [x00_Slots0,x00_Slots1] []),(qa.mk x01_Code x01_Credits x01_Places [x01_Slots0] [x01_Needs0]),(qa.mk x02_Code x02_Credits x02_Places [] [x02_Needs0]),(qa.mk x03_Code x03_Credits x03_Places [x03_Slots0] [x03_Needs0,x03_Needs1])]).bind (fun(e:Int)=>some (rI e,[])):=by
 intro x00_Code x00_Credits x00_Places x00_Slots0 x00_Slots1 x01_Code x01_Credits x01_Places x01_Slots0 x01_Needs0 x02_Code x02_Credits x02_Places x02_Needs0 x03_Code x03_Credits x03_Places x03_Slots0 x03_Needs0 x03_Needs1;have h:=Qo [(qa.mk x00_Code x00_Credits x00_Places [x00_Slots0,x00_Slots1] []),(qa.mk x01_Code x01_Credits x01_Places [x01_Slots0] [x01_Needs0]),(qa.mk x02_Code x02_Credits x02_Places [] [x02_Needs0]),(qa.mk x03_Code x03_Credits x03_Places [x03_Slots0] [x03_Needs0,x03_Needs1])]
 first
  | exact h
  | (simp only[rL,dL,bR,bZ,Nat.reduceAdd] at h;exact h)
def Qk (fu:Nat) (x0:List qa):Option Int:=if 60<((x0.length:Nat):Int) then some 2 else Option.bind (itT (Ja fu x0 x0 ((x0.length:Nat):Int)) fu 0) fun(a:Sum Int Unit)=>Sum.elim (fun(a2:Int)=>some a2) (fun(a3:Unit)=>Option.bind (Jn fu x0) fun(a4:List (Prod ByteArray (List ByteArray)))=>Option.bind (ZX fu a4) fun(a5:Bool)=>if a5=Bool.true then some 5 else Option.bind (ZR fu a4) fun(a6:Bool)=>if a6=Bool.true then some 14 else some 0) a
theorem q0j (fu:Nat) (x0:List qa):qm (Qk fu x0) (qy x0):=by
 unfold Qk qy
 repeat (first
  | with_reducible exact qm.refl _
  | with_reducible exact qm.none _
  | with_reducible apply q20
  | with_reducible apply q0d
  | with_reducible apply q14
  | with_reducible apply q1j
  | with_reducible refine qm.bind ?_ (fun _=>?_)
  | with_reducible refine qm.ite ?_ ?_
  | with_reducible refine qm.sum (fun _=>?_) (fun _=>?_)
  | with_reducible refine qm.lim (fun _=>?_))
theorem qu6:okL 23 qcF:=z7 (qc qpl) (by kernel_rfl) (by kernel_rfl)
def qu8:=JA_ @qcF.eq_1 (JA_ @Try.f23.eq_1 @qpl)
def qt (l:List qa) (code:ByteArray):Option (List ByteArray):=Option.bind (zK l) fun(a:List (Prod ByteArray (List ByteArray)))=>Option.bind (qA code a) fun(a2:Prod (List ByteArray) (List (Prod ByteArray (List ByteArray))))=>some a2.1
theorem q3n:∀(l:List qa) (code:ByteArray),ev 23 0 [rL 5 qb l,rS code] []=(qt l code).bind (fun(e:List ByteArray)=>some (rL 1 eS e,[])):=
 fun l code=>by
  rw[qU qpl qt0.2.2.2 qu6]
  have:=qu8;have:=@q0k;have:=@JZ;have:=@qt.eq_1;exact gA
theorem q1M:∀(l0_Code:ByteArray) (l0_Credits l0_Places l0_Slots0 l0_Slots1:Int) (l1_Code:ByteArray) (l1_Credits l1_Places l1_Slots0:Int) (l1_Needs0 l2_Code:ByteArray) (l2_Credits l2_Places:Int) (l3_Code:ByteArray) (l3_Credits l3_Places l3_Slots0:Int) (l3_Needs0 l3_Needs1 code:ByteArray),ev 23 0 [R.c (C.d (D.sl 5 4 [D.str l0_Code,D.int .i64 l0_Credits,D.int .i64 l0_Places,D.sl 1 2 [D.int .i64 l0_Slots0,D.int .i64 l0_Slots1],D.sl 1 0 [],D.str l1_Code,D.int .i64 l1_Credits,D.int .i64 l1_Places,D.sl 1 1 [D.int .i64 l1_Slots0],D.sl 1 1 [D.str l1_Needs0],D.str l2_Code,D.int .i64 l2_Credits,D.int .i64 l2_Places,D.sl 1 0 [],D.sl 1 0 [],D.str l3_Code,D.int .i64 l3_Credits,D.int .i64 l3_Places,D.sl 1 1 [D.int .i64 l3_Slots0],D.sl 1 2 [D.str l3_Needs0,D.str l3_Needs1]])),rS code] []=(qt [(qa.mk l0_Code l0_Credits l0_Places [l0_Slots0,l0_Slots1] []),(qa.mk l1_Code l1_Credits l1_Places [l1_Slots0] [l1_Needs0]),(qa.mk l2_Code l2_Credits l2_Places [] []),(qa.mk l3_Code l3_Credits l3_Places [l3_Slots0] [l3_Needs0,l3_Needs1])] code).bind (fun(e:List ByteArray)=>some (rL 1 eS e,[])):=by
 intro l0_Code l0_Credits l0_Places l0_Slots0 l0_Slots1 l1_Code l1_Credits l1_Places l1_Slots0 l1_Needs0 l2_Code l2_Credits l2_Places l3_Code l3_Credits l3_Places l3_Slots0 l3_Needs0 l3_Needs1 code;have h:=q3n [(qa.mk l0_Code l0_Credits l0_Places [l0_Slots0,l0_Slots1] []),(qa.mk l1_Code l1_Credits l1_Places [l1_Slots0] [l1_Needs0]),(qa.mk l2_Code l2_Credits l2_Places [] []),(qa.mk l3_Code l3_Credits l3_Places [l3_Slots0] [l3_Needs0,l3_Needs1])] code
 first
  | exact h
  | (simp only[rL,dL,bR,bZ,Nat.reduceAdd] at h;exact h)
def qM (fu:Nat) (l:List qa) (code:ByteArray):Option (List ByteArray):=Option.bind (Jn fu l) fun(a:List (Prod ByteArray (List ByteArray)))=>Option.bind (ZW fu code a) fun(a2:Prod (List ByteArray) (List (Prod ByteArray (List ByteArray))))=>some a2.1
theorem q3D (fu:Nat) (l:List qa) (code:ByteArray):qm (qM fu l code) (qt l code):=by
 unfold qM qt
 repeat (first
  | with_reducible exact qm.refl _
  | with_reducible exact qm.none _
  | with_reducible apply q0d
  | with_reducible apply JU
  | with_reducible refine qm.bind ?_ (fun _=>?_)
  | with_reducible refine qm.ite ?_ ?_
  | with_reducible refine qm.sum (fun _=>?_) (fun _=>?_)
  | with_reducible refine qm.lim (fun _=>?_))
theorem qt8:okL 16 q9J:=z7 (qc qoX) (by kernel_rfl) (by kernel_rfl)
def qtv:=JA_ @q9J.eq_1 (JA_ @Try.f16.eq_1 @qoX)
theorem qnu:lbO 16 4=qd6:=Q1 (qc qoX) rfl
theorem qm4:okL 16 qd6:=zl qt8 (qvs (i:=0) (by kernel_rfl))
def QF (a:List ByteArray) (b:List ByteArray):Int→Option (Int⊕(Unit⊕Unit))|k=>if k<((a.length:Nat):Int) then if 0≤k∧k<((a.length:Nat):Int) then Option.bind a[Int.toNat k]? fun(a2:ByteArray)=>if 0≤k∧k<((b.length:Nat):Int) then Option.bind b[Int.toNat k]? fun(a3:ByteArray)=>if(!(ByteArray.toList a2==ByteArray.toList a3))=Bool.true then some (Sum.inr (Sum.inl ())) else some (Sum.inl (w64 (k+1))) else none else none else some (Sum.inr (Sum.inr ()))
theorem q0C:∀(a b:List ByteArray) (k:Int),XL2 evo 16 0 4 ⟨[(0,rL 1 eS a),(1,rL 1 eS b),(5,rI k)],[],0,26⟩=(zc (QF a b) k).bind (Sum.elim (fun(e:Unit)=>some (Exit.ret,⟨[(4,rB Bool.false)],[],0,26⟩)) (fun(e:Unit)=>some (Exit.exit 0,⟨[(4,R.any)],[],0,26⟩))):=
 fun a b k=>by
  revert k;exact q3z qnu qm4 (fun e=>by rcases e with _|_<;>exact⟨_,rfl,fun h=>by cases h⟩) fun x=>by
   have:=qtv;have:=@qd6.eq_1;have:=@QF.eq_1;exact gA
def qw (a:List ByteArray) (b:List ByteArray):Option Bool:=if(((a.length:Nat):Int) != ((b.length:Nat):Int))=Bool.true then some Bool.false else Option.bind (zc (QF a b) 0) fun(a2:Sum Unit Unit)=>Sum.elim (fun(a3:Unit)=>some Bool.false) (fun(a4:Unit)=>some Bool.true) a2
theorem JB:∀(a b:List ByteArray),ev 16 0 [rL 1 eS a,rL 1 eS b] []=(qw a b).bind (fun(e:Bool)=>some (rB e,[])):=
 fun a b=>by
  rw[qU qoX qs3.2.2.2 qt8]
  have:=qtv;have:=@q0C;have:=@qw.eq_1;exact gA
theorem q0I:∀(b0 b1 b2:ByteArray) (a:List ByteArray),ev 16 0 [rL 1 eS a,R.c (C.d (D.sl 1 3 [D.str b0,D.str b1,D.str b2]))] []=(qw a [b0,b1,b2]).bind (fun(e:Bool)=>some (rB e,[])):=by
 intro b0 b1 b2 a;have h:=JB a [b0,b1,b2]
 first
  | exact h
  | (simp only[rL,dL,bR,bZ,Nat.reduceAdd] at h;exact h)
theorem q0L:∀(b0 b1 b2 b3:ByteArray) (a:List ByteArray),ev 16 0 [rL 1 eS a,R.c (C.d (D.sl 1 4 [D.str b0,D.str b1,D.str b2,D.str b3]))] []=(qw a [b0,b1,b2,b3]).bind (fun(e:Bool)=>some (rB e,[])):=by
 intro b0 b1 b2 b3 a;have h:=JB a [b0,b1,b2,b3]
 first
  | exact h
  | (simp only[rL,dL,bR,bZ,Nat.reduceAdd] at h;exact h)
def qQ (fu:Nat) (a:List ByteArray) (b:List ByteArray):Option Bool:=if(((a.length:Nat):Int) != ((b.length:Nat):Int))=Bool.true then some Bool.false else Option.bind (itT (QF a b) fu 0) fun(a2:Sum Unit Unit)=>Sum.elim (fun(a3:Unit)=>some Bool.false) (fun(a4:Unit)=>some Bool.true) a2
theorem q1T (fu:Nat) (a b:List ByteArray):qm (qQ fu a b) (qw a b):=by
 unfold qQ qw
 repeat (first
  | with_reducible exact qm.refl _
  | with_reducible exact qm.none _
  | with_reducible refine qm.bind ?_ (fun _=>?_)
  | with_reducible refine qm.ite ?_ ?_
  | with_reducible refine qm.sum (fun _=>?_) (fun _=>?_)
  | with_reducible refine qm.lim (fun _=>?_))
theorem qsV:okL 17 q9N:=z7 (qc qoy) (by kernel_rfl) (by kernel_rfl)
def qtd:=JA_ @q9N.eq_1 (JA_ @Try.f17.eq_1 @qoy)
theorem qld:lbO 17 5=qaR:=Q1 (qc qoy) rfl
theorem qnk:okL 17 qaR:=zl qsV (qvs (i:=0) (by kernel_rfl))
def zi (s:List qa):Option Unit:=if s.length≤maxLen∧s.length*80≤140737488355328 then some () else none
theorem Zr:∀(s:List qa),ev 47 0 [rL 5 qb s] []=(zi s).bind (fun(e:Unit)=>some (rO 0 5 s.length,[(0,bR 35 5 qb s)])):=
 fun s=>by
  rw[qa8,qs0.2.2.2]
  have:=@zi.eq_1;exact gA
theorem qrG:okL 48 q8V:=z7 (qc qnF) (by kernel_rfl) (by kernel_rfl)
def qou:=JA_ @q8V.eq_1 (JA_ @Try.f48.eq_1 @qnF)
theorem qh7:lbO 48 2=q91:=Q1 (qc qnF) rfl
theorem qgB:okL 48 q91:=zl qrG (qvs (i:=0) (by kernel_rfl))
theorem qvl:okL 49 qbu:=z7 (qc qqD) (by kernel_rfl) (by kernel_rfl)
def qum:=JA_ @qbu.eq_1 (JA_ @Try.f49.eq_1 @qqD)
theorem qu0:okL 50 qdC:=z7 (qc qpR) (by kernel_rfl) (by kernel_rfl)
def qtC:=JA_ @qdC.eq_1 (JA_ @Try.f50.eq_1 @qpR)
theorem qvd:okL 67 qcT:=z7 (qc qpP) (by kernel_rfl) (by kernel_rfl)
def qv6:=JA_ @qcT.eq_1 (JA_ @Try.f67.eq_1 @qpP)
def Zv (c:ByteArray) (v:List ByteArray):Option Bool:=Option.bind (qp v c) fun(a:Bool)=>some (!a)
theorem q3y:∀(c:ByteArray) (v:List ByteArray),ev 67 1 [rS c,rP 0] [(0,B.blk 33 [dL 1 eS v])]=(Zv c v).bind (fun(e:Bool)=>some (rB e,[(0,B.blk 33 [dL 1 eS v])])):=
 fun c v=>by
  rw[qU qpP qt2.2.2.2 qvd]
  have:=qv6;have:=@Qs;have:=@Zv.eq_1;exact gA
def q03 (fu:Nat) (c:ByteArray) (v:List ByteArray):Option Bool:=Option.bind (zz fu v c) fun(a:Bool)=>some (!a)
theorem q3N (fu:Nat) (c:ByteArray) (v:List ByteArray):qm (q03 fu c v) (Zv c v):=by
 unfold q03 Zv
 repeat (first
  | with_reducible exact qm.refl _
  | with_reducible exact qm.none _
  | with_reducible apply Qt
  | with_reducible refine qm.bind ?_ (fun _=>?_)
  | with_reducible refine qm.ite ?_ ?_
  | with_reducible refine qm.sum (fun _=>?_) (fun _=>?_)
  | with_reducible refine qm.lim (fun _=>?_))
def qH (b0:List ByteArray) (s:List ByteArray) (t7:Int):Int→Option (Int⊕(Int⊕Unit))|t8=>if t8<t7 then if 0≤t8∧t8<((s.length:Nat):Int) then Option.bind s[Int.toNat t8]? fun(a:ByteArray)=>Option.bind (Zv a b0) fun(a2:Bool)=>if a2=Bool.true then some (Sum.inr (Sum.inl t8)) else some (Sum.inl (w64 (t8+1))) else none else some (Sum.inr (Sum.inr ()))
theorem Za:∀(b0 s:List ByteArray) (t7 t8:Int),XL2 evo 61 1 2 ⟨[(0,rL 1 eS s),(1,R.c (C.fn 67 [] [dP 0])),(7,rI t7),(8,rI t8)],[(0,B.blk 33 [dL 1 eS b0])],1,19⟩=(zc (qH b0 s t7) t8).bind (Sum.elim (fun(e:Int)=>some (Exit.ret,⟨[(4,rI e)],[(0,B.blk 33 [dL 1 eS b0])],1,19⟩)) (fun(e:Unit)=>some (Exit.exit 0,⟨[(4,R.any)],[(0,B.blk 33 [dL 1 eS b0])],1,19⟩))):=
 fun b0 s t7 t8=>by
  revert t8;exact q3z qhi qgV (fun e=>by rcases e with _|_<;>exact⟨_,rfl,fun h=>by cases h⟩) fun x=>by
   have:=qot;have:=@q9l.eq_1;have:=@q3y;have:=@qH.eq_1;exact gA
def zC (fu:Nat) (b0:List ByteArray) (s:List ByteArray) (t7:Int):Int→Option (Int⊕(Int⊕Unit))|t8=>if t8<t7 then if 0≤t8∧t8<((s.length:Nat):Int) then Option.bind s[Int.toNat t8]? fun(a:ByteArray)=>Option.bind (q03 fu a b0) fun(a2:Bool)=>if a2=Bool.true then some (Sum.inr (Sum.inl t8)) else some (Sum.inl (w64 (t8+1))) else none else some (Sum.inr (Sum.inr ()))
theorem Z8 (fu:Nat) (b0 s:List ByteArray) (t7:Int):∀x,qm (zC fu b0 s t7 x) (qH b0 s t7 x):=by
 rintro t8
 unfold zC qH
 try dsimp only
 repeat (first
  | with_reducible exact qm.refl _
  | with_reducible exact qm.none _
  | with_reducible apply q3N
  | with_reducible refine qm.bind ?_ (fun _=>?_)
  | with_reducible refine qm.ite ?_ ?_
  | with_reducible refine qm.sum (fun _=>?_) (fun _=>?_)
  | with_reducible refine qm.lim (fun _=>?_))
def qO (s:List ByteArray) (b0:List ByteArray):Option Int:=Option.bind (zc (qH b0 s ((s.length:Nat):Int)) 0) fun(a:Sum Int Unit)=>Sum.elim (fun(a2:Int)=>some a2) (fun(a3:Unit)=>some (-1)) a
theorem Zs:∀(s b0:List ByteArray),ev 61 1 [rL 1 eS s,R.c (C.fn 67 [] [dP 0])] [(0,B.blk 33 [dL 1 eS b0])]=(qO s b0).bind (fun(e:Int)=>some (rI e,[(0,B.blk 33 [dL 1 eS b0])])):=
 fun s b0=>by
  rw[qU qol qrJ.2.2.2 qqp]
  have:=qot;have:=@Za;have:=@qO.eq_1;exact gA
def zU (fu:Nat) (s:List ByteArray) (b0:List ByteArray):Option Int:=Option.bind (itT (zC fu b0 s ((s.length:Nat):Int)) fu 0) fun(a:Sum Int Unit)=>Sum.elim (fun(a2:Int)=>some a2) (fun(a3:Unit)=>some (-1)) a
theorem Zt (fu:Nat) (s b0:List ByteArray):qm (zU fu s b0) (qO s b0):=by
 unfold zU qO
 repeat (first
  | with_reducible exact qm.refl _
  | with_reducible exact qm.none _
  | with_reducible apply Z8
  | with_reducible refine qm.bind ?_ (fun _=>?_)
  | with_reducible refine qm.ite ?_ ?_
  | with_reducible refine qm.sum (fun _=>?_) (fun _=>?_)
  | with_reducible refine qm.lim (fun _=>?_))
def qI (s:List ByteArray) (b0:List ByteArray):Option Bool:=Option.bind (qO s b0) fun(a:Int)=>some (decide (0≤a))
theorem Z7:∀(s b0:List ByteArray),ev 40 1 [rL 1 eS s,R.c (C.fn 67 [] [dP 0])] [(0,B.blk 33 [dL 1 eS b0])]=(qI s b0).bind (fun(e:Bool)=>some (rB e,[(0,B.blk 33 [dL 1 eS b0])])):=
 fun s b0=>by
  rw[qU qoJ qpQ.2.2.2 qsD]
  have:=qsI;have:=@Zs;have:=@qI.eq_1;exact gA
def zB (fu:Nat) (s:List ByteArray) (b0:List ByteArray):Option Bool:=Option.bind (zU fu s b0) fun(a:Int)=>some (decide (0≤a))
theorem Z9 (fu:Nat) (s b0:List ByteArray):qm (zB fu s b0) (qI s b0):=by
 unfold zB qI
 repeat (first
  | with_reducible exact qm.refl _
  | with_reducible exact qm.none _
  | with_reducible apply Zt
  | with_reducible refine qm.bind ?_ (fun _=>?_)
  | with_reducible refine qm.ite ?_ ?_
  | with_reducible refine qm.sum (fun _=>?_) (fun _=>?_)
  | with_reducible refine qm.lim (fun _=>?_))
def ZG (l:List ByteArray) (in0:List ByteArray):Option Bool:=Option.bind (qI l in0) fun(a:Bool)=>some (!a)
theorem q1v:∀(l in0:List ByteArray),ev 50 0 [rL 1 eS l,rL 1 eS in0] []=(ZG l in0).bind (fun(e:Bool)=>some (rB e,[])):=
 fun l in0=>by
  rw[qU qpR qrY.2.2.2 qu0]
  have:=qtC;have:=@Z7;have:=@ZG.eq_1;exact gA
def JW (fu:Nat) (l:List ByteArray) (in0:List ByteArray):Option Bool:=Option.bind (zB fu l in0) fun(a:Bool)=>some (!a)
theorem q1r (fu:Nat) (l in0:List ByteArray):qm (JW fu l in0) (ZG l in0):=by
 unfold JW ZG
 repeat (first
  | with_reducible exact qm.refl _
  | with_reducible exact qm.none _
  | with_reducible apply Z9
  | with_reducible refine qm.bind ?_ (fun _=>?_)
  | with_reducible refine qm.ite ?_ ?_
  | with_reducible refine qm.sum (fun _=>?_) (fun _=>?_)
  | with_reducible refine qm.lim (fun _=>?_))
def QV (o:qa) (w1:List ByteArray):Option Bool:=Option.bind (ZG o.Needs w1) fun(a:Bool)=>some a
theorem q2B:∀(o_Code:ByteArray) (o_Credits o_Places:Int) (o_Slots:List Int) (o_Needs w1:List ByteArray) (w1_len:Nat),w1_len=w1.length→ev 49 1 [R.agg [dS o_Code,dI o_Credits,dI o_Places,dL 1 eI o_Slots,dL 1 eS o_Needs],rP 0] [(0,B.blk 33 [dO 1 1 w1_len]),(1,bR 9 1 eS w1)]=(QV (qa.mk o_Code o_Credits o_Places o_Slots o_Needs) w1).bind (fun(e:Bool)=>some (rB e,[(0,B.blk 33 [dO 1 1 w1.length]),(1,bR 9 1 eS w1)])):=
 by
 intro o_Code o_Credits o_Places o_Slots o_Needs w1 w1_len h0
 subst h0
 rw[qU qqD qtr.2.2.2 qvl]
 have:=qum;have:=@q1v;have:=@QV.eq_1;exact gA
def Jq (fu:Nat) (o:qa) (w1:List ByteArray):Option Bool:=Option.bind (JW fu o.Needs w1) fun(a:Bool)=>some a
theorem q2y (fu:Nat) (o:qa) (w1:List ByteArray):qm (Jq fu o w1) (QV o w1):=by
 unfold Jq QV
 repeat (first
  | with_reducible exact qm.refl _
  | with_reducible exact qm.none _
  | with_reducible apply q1r
  | with_reducible refine qm.bind ?_ (fun _=>?_)
  | with_reducible refine qm.ite ?_ ?_
  | with_reducible refine qm.sum (fun _=>?_) (fun _=>?_)
  | with_reducible refine qm.lim (fun _=>?_))
def qB (w1:List ByteArray) (s:List qa) (t7:Int):Int→Option (Int⊕(Int⊕Unit))|t8=>if t8<t7 then if 0≤t8∧t8<((s.length:Nat):Int) then Option.bind s[Int.toNat t8]? fun(a:qa)=>Option.bind (QV a w1) fun(a2:Bool)=>if a2=Bool.true then some (Sum.inr (Sum.inl t8)) else some (Sum.inl (w64 (t8+1))) else none else some (Sum.inr (Sum.inr ()))
theorem QK:∀(w1:List ByteArray) (s:List qa) (t7 t8:Int) (w1_len:Nat),w1_len=w1.length→XL2 evo 48 1 2 ⟨[(0,rL 5 qb s),(1,R.c (C.fn 49 [] [dP 0])),(7,rI t7),(8,rI t8)],[(0,B.blk 33 [dO 1 1 w1_len]),(1,bR 9 1 eS w1)],2,19⟩=(zc (qB w1 s t7) t8).bind (Sum.elim (fun(e:Int)=>some (Exit.ret,⟨[(4,rI e)],[(0,B.blk 33 [dO 1 1 w1.length]),(1,bR 9 1 eS w1)],2,19⟩)) (fun(e:Unit)=>some (Exit.exit 0,⟨[(4,R.any)],[(0,B.blk 33 [dO 1 1 w1.length]),(1,bR 9 1 eS w1)],2,19⟩))):=
 by
 intro w1 s t7 t8 w1_len h0
 subst h0
 revert t8;exact q3z qh7 qgB (fun e=>by rcases e with _|_<;>exact⟨_,rfl,fun h=>by cases h⟩) fun x=>by
  have:=qou;have:=@q91.eq_1;have:=@q2B;have:=@qB.eq_1;exact gA
def zm (fu:Nat) (w1:List ByteArray) (s:List qa) (t7:Int):Int→Option (Int⊕(Int⊕Unit))|t8=>if t8<t7 then if 0≤t8∧t8<((s.length:Nat):Int) then Option.bind s[Int.toNat t8]? fun(a:qa)=>Option.bind (Jq fu a w1) fun(a2:Bool)=>if a2=Bool.true then some (Sum.inr (Sum.inl t8)) else some (Sum.inl (w64 (t8+1))) else none else some (Sum.inr (Sum.inr ()))
theorem QL (fu:Nat) (w1:List ByteArray) (s:List qa) (t7:Int):∀x,qm (zm fu w1 s t7 x) (qB w1 s t7 x):=by
 rintro t8
 unfold zm qB
 try dsimp only
 repeat (first
  | with_reducible exact qm.refl _
  | with_reducible exact qm.none _
  | with_reducible apply q2y
  | with_reducible refine qm.bind ?_ (fun _=>?_)
  | with_reducible refine qm.ite ?_ ?_
  | with_reducible refine qm.sum (fun _=>?_) (fun _=>?_)
  | with_reducible refine qm.lim (fun _=>?_))
def qG (s:List qa) (w1:List ByteArray):Option Int:=Option.bind (zc (qB w1 s ((s.length:Nat):Int)) 0) fun(a:Sum Int Unit)=>Sum.elim (fun(a2:Int)=>some a2) (fun(a3:Unit)=>some (-1)) a
theorem Z3:∀(s:List qa) (w1:List ByteArray) (w1_len:Nat),w1_len=w1.length→ev 48 1 [rL 5 qb s,R.c (C.fn 49 [] [dP 0])] [(0,B.blk 33 [dO 1 1 w1_len]),(1,bR 9 1 eS w1)]=(qG s w1).bind (fun(e:Int)=>some (rI e,[(0,B.blk 33 [dO 1 1 w1.length]),(1,bR 9 1 eS w1)])):=
 by
 intro s w1 w1_len h0
 subst h0
 rw[qU qnF qpL.2.2.2 qrG]
 have:=qou;have:=@QK;have:=@qG.eq_1;exact gA
def zx (fu:Nat) (s:List qa) (w1:List ByteArray):Option Int:=Option.bind (itT (zm fu w1 s ((s.length:Nat):Int)) fu 0) fun(a:Sum Int Unit)=>Sum.elim (fun(a2:Int)=>some a2) (fun(a3:Unit)=>some (-1)) a
theorem Z1 (fu:Nat) (s:List qa) (w1:List ByteArray):qm (zx fu s w1) (qG s w1):=by
 unfold zx qG
 repeat (first
  | with_reducible exact qm.refl _
  | with_reducible exact qm.none _
  | with_reducible apply QL
  | with_reducible refine qm.bind ?_ (fun _=>?_)
  | with_reducible refine qm.ite ?_ ?_
  | with_reducible refine qm.sum (fun _=>?_) (fun _=>?_)
  | with_reducible refine qm.lim (fun _=>?_))
def zb (i:Int) (j:Int) (s:List qa):Option (List qa):=if 0≤i∧j=i+1∧i<((s.length:Nat):Int) then some (@List.eraseIdx qa s (Int.toNat i)) else none
theorem Zk:∀(i j:Int) (s:List qa) (s_len:Nat),s_len=s.length→ev 51 0 [rO 0 5 s_len,rI i,rI j] [(0,bR 35 5 qb s)]=(zb i j s).bind (fun(e:List qa)=>some (rO 0 5 e.length,[(0,bR 35 5 qb e)])):=
 by
 intro i j s s_len h0
 subst h0
 rw[qa8,qsr.2.2.2]
 have:=@zb.eq_1;exact gA
def Qn:(List ByteArray×List qa)→Option ((List ByteArray×List qa)⊕(List ByteArray))|(w1,left)=>if 0<((left.length:Nat):Int) then Option.bind (qG left w1) fun(a:Int)=>if List.all (List.map C.d (List.flatMap eS w1)) C.scl=Bool.true then if 0≤a∧a<((left.length:Nat):Int) then Option.bind left[Int.toNat a]? fun(a2:qa)=>if w1.length+1≤maxLen∧(w1.length+1)*16≤140737488355328 then Option.bind (zb a (w64 (a+1)) left) fun(a3:List qa)=>some (Sum.inl (w1++[a2.Code],a3)) else none else none else none else some (Sum.inr w1)
theorem q2c:∀(w1:List ByteArray) (left:List qa) (left_len w1_len:Nat),left_len=left.length→w1_len=w1.length→XL2 evo 17 0 5 ⟨[(3,rP 0),(4,rO 2 5 left_len)],[(0,B.blk 33 [dO 1 1 w1_len]),(1,bR 9 1 eS w1),(2,bR 35 5 qb left)],3,31⟩=(zc Qn (w1,left)).bind (fun(e:List ByteArray)=>some (Exit.exit 0,⟨[(3,rP 0)],[(0,B.blk 33 [dO 1 1 e.length]),(1,bR 9 1 eS e)],2,31⟩)):=
 by
 intro w1 left left_len w1_len h0 h1
 subst h0 h1
 revert left;revert w1;exact qks qld qnk (fun e=>by exact⟨_,rfl,fun h=>by cases h⟩) fun w1 left=>by
  have:=qtd;have:=@qaR.eq_1;have:=@Z3;have:=@Zk;have:=@Qn.eq_1;exact gA
theorem q0A:∀  (left:List qa) (left_len:Nat),left_len=left.length→XL2 evo 17 0 5 ⟨[(3,rP 0),(4,rO 2 5 left_len)],[(0,B.blk 33 [dO 1 1 0]),(1,B.row 9 1 []),(2,bR 35 5 qb left)],3,31⟩=(zc Qn ([],left)).bind (fun(e:List ByteArray)=>some (Exit.exit 0,⟨[(3,rP 0)],[(0,B.blk 33 [dO 1 1 e.length]),(1,bR 9 1 eS e)],2,31⟩)):=by
 intro left left_len h0;subst h0;have h:=q2c [] left _ _ rfl rfl
 first
  | exact h
  | (simp only[rL,dL,bR,bZ,Nat.reduceAdd] at h;exact h)
def Jj (fu:Nat):(List ByteArray×List qa)→Option ((List ByteArray×List qa)⊕(List ByteArray))|(w1,left)=>if 0<((left.length:Nat):Int) then Option.bind (zx fu left w1) fun(a:Int)=>if List.all (List.map C.d (List.flatMap eS w1)) C.scl=Bool.true then if 0≤a∧a<((left.length:Nat):Int) then Option.bind left[Int.toNat a]? fun(a2:qa)=>if w1.length+1≤maxLen∧(w1.length+1)*16≤140737488355328 then Option.bind (zb a (w64 (a+1)) left) fun(a3:List qa)=>some (Sum.inl (w1++[a2.Code],a3)) else none else none else none else some (Sum.inr w1)
theorem q1X (fu:Nat):∀x,qm (Jj fu  x) (Qn  x):=by
 rintro⟨w1,left⟩
 unfold Jj Qn
 try dsimp only
 repeat (first
  | with_reducible exact qm.refl _
  | with_reducible exact qm.none _
  | with_reducible apply Z1
  | with_reducible refine qm.bind ?_ (fun _=>?_)
  | with_reducible refine qm.ite ?_ ?_
  | with_reducible refine qm.sum (fun _=>?_) (fun _=>?_)
  | with_reducible refine qm.lim (fun _=>?_))
def zV (l:List qa):Option (List ByteArray):=Option.bind (qy l) fun(a:Int)=>if(a != 0)=Bool.true then some [] else Option.bind (zi l) fun(a2:Unit)=>Option.bind (zc Qn ([],l)) fun(a3:List ByteArray)=>some a3
theorem q3r:∀(l:List qa),ev 17 0 [rL 5 qb l] []=(zV l).bind (fun(e:List ByteArray)=>some (rL 1 eS e,[])):=
 fun l=>by
  rw[qU qoy qsX.2.2.2 qsV]
  have:=qtd;have:=@Qo;have:=@Zr;have:=@q0A;have:=@zV.eq_1;exact gA
theorem q1Z:∀(l0_Code:ByteArray) (l0_Credits l0_Places l0_Slots0 l0_Slots1:Int) (l1_Code:ByteArray) (l1_Credits l1_Places l1_Slots0:Int) (l1_Needs0 l2_Code:ByteArray) (l2_Credits l2_Places:Int) (l3_Code:ByteArray) (l3_Credits l3_Places l3_Slots0:Int) (l3_Needs0 l3_Needs1:ByteArray) , ev 17 0 [R.c (C.d (D.sl 5 4 [D.str l0_Code,D.int .i64 l0_Credits,D.int .i64 l0_Places,D.sl 1 2 [D.int .i64 l0_Slots0,D.int .i64 l0_Slots1],D.sl 1 0 [],D.str l1_Code,D.int .i64 l1_Credits,D.int .i64 l1_Places,D.sl 1 1 [D.int .i64 l1_Slots0],D.sl 1 1 [D.str l1_Needs0],D.str l2_Code,D.int .i64 l2_Credits,D.int .i64 l2_Places,D.sl 1 0 [],D.sl 1 0 [],D.str l3_Code,D.int .i64 l3_Credits,D.int .i64 l3_Places,D.sl 1 1 [D.int .i64 l3_Slots0],D.sl 1 2 [D.str l3_Needs0,D.str l3_Needs1]]))] []=(zV [(qa.mk l0_Code l0_Credits l0_Places [l0_Slots0,l0_Slots1] []),(qa.mk l1_Code l1_Credits l1_Places [l1_Slots0] [l1_Needs0]),(qa.mk l2_Code l2_Credits l2_Places [] []),(qa.mk l3_Code l3_Credits l3_Places [l3_Slots0] [l3_Needs0,l3_Needs1])]).bind (fun(e:List ByteArray)=>some (rL 1 eS e,[])):=by
 intro l0_Code l0_Credits l0_Places l0_Slots0 l0_Slots1 l1_Code l1_Credits l1_Places l1_Slots0 l1_Needs0 l2_Code l2_Credits l2_Places l3_Code l3_Credits l3_Places l3_Slots0 l3_Needs0 l3_Needs1;have h:=q3r [(qa.mk l0_Code l0_Credits l0_Places [l0_Slots0,l0_Slots1] []),(qa.mk l1_Code l1_Credits l1_Places [l1_Slots0] [l1_Needs0]),(qa.mk l2_Code l2_Credits l2_Places [] []),(qa.mk l3_Code l3_Credits l3_Places [l3_Slots0] [l3_Needs0,l3_Needs1])]
 first
  | exact h
  | (simp only[rL,dL,bR,bZ,Nat.reduceAdd] at h;exact h)
def QA (fu:Nat) (l:List qa):Option (List ByteArray):=Option.bind (Qk fu l) fun(a:Int)=>if(a != 0)=Bool.true then some [] else Option.bind (zi l) fun(a2:Unit)=>Option.bind (itT (Jj fu) fu ([],l)) fun(a3:List ByteArray)=>some a3
theorem q3B (fu:Nat) (l:List qa):qm (QA fu l) (zV l):=by
 unfold QA zV
 repeat (first
  | with_reducible exact qm.refl _
  | with_reducible exact qm.none _
  | with_reducible apply q0j
  | with_reducible apply q1X
  | with_reducible refine qm.bind ?_ (fun _=>?_)
  | with_reducible refine qm.ite ?_ ?_
  | with_reducible refine qm.sum (fun _=>?_) (fun _=>?_)
  | with_reducible refine qm.lim (fun _=>?_))
theorem qv3:okL 25 qaT:=z7 (qc qpH) (by kernel_rfl) (by kernel_rfl)
def qtF:=JA_ @qaT.eq_1 (JA_ @Try.f25.eq_1 @qpH)
theorem quY:okL 20 qdW:=z7 (qc qpz) (by kernel_rfl) (by kernel_rfl)
def quB:=JA_ @qdW.eq_1 (JA_ @Try.f20.eq_1 @qpz)
theorem quN:okL 52 qcV:=z7 (qc qrO) (by kernel_rfl) (by kernel_rfl)
def quU:=JA_ @qcV.eq_1 (JA_ @Try.f52.eq_1 @qrO)
def ZZ (o:qa) (v:ByteArray):Option Bool:=
 some (ByteArray.toList o.Code==ByteArray.toList v)
def Ze (o:qa) (v:ByteArray):Bool:=
 ByteArray.toList o.Code==ByteArray.toList v
theorem q2E (o:qa) (v:ByteArray):ZZ o v=some (Ze o v):=by
 unfold ZZ Ze
 simp only[q1B]
theorem q39:∀(o_Code:ByteArray) (o_Credits o_Places:Int) (o_Slots:List Int) (o_Needs:List ByteArray) (v:ByteArray),ev 52 1 [R.agg [dS o_Code,dI o_Credits,dI o_Places,dL 1 eI o_Slots,dL 1 eS o_Needs],rP 0] [(0,B.blk 9 [dS v])]=some (rB (Ze (qa.mk o_Code o_Credits o_Places o_Slots o_Needs) v),[(0,B.blk 9 [dS v])]):=
 fun o_Code o_Credits o_Places o_Slots o_Needs v=>by
  have h:ev 52 1 [R.agg [dS o_Code,dI o_Credits,dI o_Places,dL 1 eI o_Slots,dL 1 eS o_Needs],rP 0] [(0,B.blk 9 [dS v])]=(ZZ (qa.mk o_Code o_Credits o_Places o_Slots o_Needs) v).bind (fun(e:Bool)=>some (rB e,[(0,B.blk 9 [dS v])])):=by
   rw[qU qrO qte.2.2.2 quN]
   have:=quU;have:=@ZZ.eq_1;exact gA
  rw[q2E] at h
  exact h
def qL (b0:ByteArray) (s:List qa) (t7:Int):Int→Option (Int⊕(Int⊕Unit))|t8=>if t8<t7 then if 0≤t8∧t8<((s.length:Nat):Int) then Option.bind s[Int.toNat t8]? fun(a:qa)=>if Ze a b0=Bool.true then some (Sum.inr (Sum.inl t8)) else some (Sum.inl (w64 (t8+1))) else none else some (Sum.inr (Sum.inr ()))
theorem QD:∀(b0:ByteArray) (s:List qa) (t7 t8:Int),XL2 evo 48 1 2 ⟨[(0,rL 5 qb s),(1,R.c (C.fn 52 [] [dP 0])),(7,rI t7),(8,rI t8)],[(0,B.blk 9 [dS b0])],1,19⟩=(zc (qL b0 s t7) t8).bind (Sum.elim (fun(e:Int)=>some (Exit.ret,⟨[(4,rI e)],[(0,B.blk 9 [dS b0])],1,19⟩)) (fun(e:Unit)=>some (Exit.exit 0,⟨[(4,R.any)],[(0,B.blk 9 [dS b0])],1,19⟩))):=
 fun b0 s t7 t8=>by
  revert t8;exact q3z qh7 qgB (fun e=>by rcases e with _|_<;>exact⟨_,rfl,fun h=>by cases h⟩) fun x=>by
   have:=qou;have:=@q91.eq_1;have:=@q39;have:=@qL.eq_1;exact gA
def qE (s:List qa) (b0:ByteArray):Option Int:=Option.bind (zc (qL b0 s ((s.length:Nat):Int)) 0) fun(a:Sum Int Unit)=>Sum.elim (fun(a2:Int)=>some a2) (fun(a3:Unit)=>some (-1)) a
theorem QO:∀(s:List qa) (b0:ByteArray),ev 48 1 [rL 5 qb s,R.c (C.fn 52 [] [dP 0])] [(0,B.blk 9 [dS b0])]=(qE s b0).bind (fun(e:Int)=>some (rI e,[(0,B.blk 9 [dS b0])])):=
 fun s b0=>by
  rw[qU qnF qpL.2.2.2 qrG]
  have:=qou;have:=@QD;have:=@qE.eq_1;exact gA
def zq (fu:Nat) (s:List qa) (b0:ByteArray):Option Int:=Option.bind (itT (qL b0 s ((s.length:Nat):Int)) fu 0) fun(a:Sum Int Unit)=>Sum.elim (fun(a2:Int)=>some a2) (fun(a3:Unit)=>some (-1)) a
theorem QQ (fu:Nat) (s:List qa) (b0:ByteArray):qm (zq fu s b0) (qE s b0):=by
 unfold zq qE
 repeat (first
  | with_reducible exact qm.refl _
  | with_reducible exact qm.none _
  | with_reducible refine qm.bind ?_ (fun _=>?_)
  | with_reducible refine qm.ite ?_ ?_
  | with_reducible refine qm.sum (fun _=>?_) (fun _=>?_)
  | with_reducible refine qm.lim (fun _=>?_))
theorem qut:okL 53 qcv:=z7 (qc qpU) (by kernel_rfl) (by kernel_rfl)
def qur:=JA_ @qcv.eq_1 (JA_ @Try.f53.eq_1 @qpU)
def Z5 (s:List Int):Option Unit:=if s.length≤maxLen∧s.length*8≤140737488355328 then some () else none
theorem q02:∀(s:List Int),ev 68 0 [rL 1 eI s] []=(Z5 s).bind (fun(e:Unit)=>some (rL 1 eI s,[])):=
 fun s=>by
  rw[qa8,qs1.2.2.2]
  have:=@Z5.eq_1;exact gA
def Qh (s:List ByteArray):Option Unit:=if s.length≤maxLen∧s.length*16≤140737488355328 then some () else none
theorem Ji:∀(s:List ByteArray),ev 69 0 [rL 1 eS s] []=(Qh s).bind (fun(e:Unit)=>some (rL 1 eS s,[])):=
 fun s=>by
  rw[qa8,qs5.2.2.2]
  have:=@Qh.eq_1;exact gA
def Jm (o:qa):Option Unit:=Option.bind (Z5 o.Slots) fun(a:Unit)=>Option.bind (Qh o.Needs) fun(a2:Unit)=>some ()
theorem q3M:∀(o_Code:ByteArray) (o_Credits o_Places:Int) (o_Slots:List Int) (o_Needs:List ByteArray),ev 53 0 [R.agg [dS o_Code,dI o_Credits,dI o_Places,dL 1 eI o_Slots,dL 1 eS o_Needs]] []=(Jm (qa.mk o_Code o_Credits o_Places o_Slots o_Needs)).bind (fun(e:Unit)=>some (R.agg [dS o_Code,dI o_Credits,dI o_Places,dL 1 eI o_Slots,dL 1 eS o_Needs],[])):=
 fun o_Code o_Credits o_Places o_Slots o_Needs=>by
  rw[qU qpU qsN.2.2.2 qut]
  have:=qur;have:=@q02;have:=@Ji;have:=@Jm.eq_1;exact gA
def ZT (l:List qa) (code:ByteArray):Option (qa×Bool):=Option.bind (qE l code) fun(a:Int)=>if a<0 then some (qa.mk (ByteArray.mk (List.toArray [])) 0 0 [] [],Bool.false) else if 0≤a∧a<((l.length:Nat):Int) then Option.bind l[Int.toNat a]? fun(a2:qa)=>Option.bind (Jm a2) fun(a3:Unit)=>some (a2,Bool.true) else none
theorem q43:∀(l:List qa) (code:ByteArray),ev 20 0 [rL 5 qb l,rS code] []=(ZT l code).bind (fun(e:qa×Bool)=>some (R.tup [R.agg [dS e.1.Code,dI e.1.Credits,dI e.1.Places,dL 1 eI e.1.Slots,dL 1 eS e.1.Needs],rB e.2],[])):=
 fun l code=>by
  rw[qU qpz qsY.2.2.2 quY]
  have:=quB;have:=@QO;have:=@q3M;have:=@ZT.eq_1;exact gA
def q0v (fu:Nat) (l:List qa) (code:ByteArray):Option (qa×Bool):=Option.bind (zq fu l code) fun(a:Int)=>if a<0 then some (qa.mk (ByteArray.mk (List.toArray [])) 0 0 [] [],Bool.false) else if 0≤a∧a<((l.length:Nat):Int) then Option.bind l[Int.toNat a]? fun(a2:qa)=>Option.bind (Jm a2) fun(a3:Unit)=>some (a2,Bool.true) else none
theorem q49 (fu:Nat) (l:List qa) (code:ByteArray):qm (q0v fu l code) (ZT l code):=by
 unfold q0v ZT
 repeat (first
  | with_reducible exact qm.refl _
  | with_reducible exact qm.none _
  | with_reducible apply QQ
  | with_reducible refine qm.bind ?_ (fun _=>?_)
  | with_reducible refine qm.ite ?_ ?_
  | with_reducible refine qm.sum (fun _=>?_) (fun _=>?_)
  | with_reducible refine qm.lim (fun _=>?_))
def qe (l:List qa) (code:ByteArray) (has:List ByteArray):Option Bool:=Option.bind (ZT l code) fun(a:Prod qa Bool)=>if a.2=Bool.true then Option.bind (ZG a.1.Needs has) fun(e0:Bool)=>some e0 else some Bool.false
theorem JK:∀(l:List qa) (code:ByteArray) (has:List ByteArray),ev 25 0 [rL 5 qb l,rS code,rL 1 eS has] []=(qe l code has).bind (fun(e:Bool)=>some (rB e,[])):=
 fun l code has=>by
  rw[qU qpH qtp.2.2.2 qv3]
  have:=qtF;have:=@q43;have:=@q1v;have:=@qe.eq_1;exact gA
theorem q32:∀(l0_Code:ByteArray) (l0_Credits l0_Places l0_Slots0 l0_Slots1:Int) (l1_Code:ByteArray) (l1_Credits l1_Places l1_Slots0:Int) (l1_Needs0 l2_Code:ByteArray) (l2_Credits l2_Places:Int) (l3_Code:ByteArray) (l3_Credits l3_Places l3_Slots0:Int) (l3_Needs0 l3_Needs1 has0 code:ByteArray),ev 25 0 [R.c (C.d (D.sl 5 4 [D.str l0_Code,D.int .i64 l0_Credits,D.int .i64 l0_Places,D.sl 1 2 [D.int .i64 l0_Slots0,D.int .i64 l0_Slots1],D.sl 1 0 [],D.str l1_Code,D.int .i64 l1_Credits,D.int .i64 l1_Places,D.sl 1 1 [D.int .i64 l1_Slots0],D.sl 1 1 [D.str l1_Needs0],D.str l2_Code,D.int .i64 l2_Credits,D.int .i64 l2_Places,D.sl 1 0 [],D.sl 1 0 [],D.str l3_Code,D.int .i64 l3_Credits,D.int .i64 l3_Places,D.sl 1 1 [D.int .i64 l3_Slots0],D.sl 1 2 [D.str l3_Needs0,D.str l3_Needs1]])),rS code,R.c (C.d (D.sl 1 1 [D.str has0]))] []=(qe [(qa.mk l0_Code l0_Credits l0_Places [l0_Slots0,l0_Slots1] []),(qa.mk l1_Code l1_Credits l1_Places [l1_Slots0] [l1_Needs0]),(qa.mk l2_Code l2_Credits l2_Places [] []),(qa.mk l3_Code l3_Credits l3_Places [l3_Slots0] [l3_Needs0,l3_Needs1])] code [has0]).bind (fun(e:Bool)=>some (rB e,[])):=by
 intro l0_Code l0_Credits l0_Places l0_Slots0 l0_Slots1 l1_Code l1_Credits l1_Places l1_Slots0 l1_Needs0 l2_Code l2_Credits l2_Places l3_Code l3_Credits l3_Places l3_Slots0 l3_Needs0 l3_Needs1 has0 code;have h:=JK [(qa.mk l0_Code l0_Credits l0_Places [l0_Slots0,l0_Slots1] []),(qa.mk l1_Code l1_Credits l1_Places [l1_Slots0] [l1_Needs0]),(qa.mk l2_Code l2_Credits l2_Places [] []),(qa.mk l3_Code l3_Credits l3_Places [l3_Slots0] [l3_Needs0,l3_Needs1])] code [has0]
 first
  | exact h
  | (simp only[rL,dL,bR,bZ,Nat.reduceAdd] at h;exact h)
theorem q3c:∀(l0_Code:ByteArray) (l0_Credits l0_Places l0_Slots0 l0_Slots1:Int) (l1_Code:ByteArray) (l1_Credits l1_Places l1_Slots0:Int) (l1_Needs0 l2_Code:ByteArray) (l2_Credits l2_Places:Int) (l3_Code:ByteArray) (l3_Credits l3_Places l3_Slots0:Int) (l3_Needs0 l3_Needs1 has0 has1 code:ByteArray),ev 25 0 [R.c (C.d (D.sl 5 4 [D.str l0_Code,D.int .i64 l0_Credits,D.int .i64 l0_Places,D.sl 1 2 [D.int .i64 l0_Slots0,D.int .i64 l0_Slots1],D.sl 1 0 [],D.str l1_Code,D.int .i64 l1_Credits,D.int .i64 l1_Places,D.sl 1 1 [D.int .i64 l1_Slots0],D.sl 1 1 [D.str l1_Needs0],D.str l2_Code,D.int .i64 l2_Credits,D.int .i64 l2_Places,D.sl 1 0 [],D.sl 1 0 [],D.str l3_Code,D.int .i64 l3_Credits,D.int .i64 l3_Places,D.sl 1 1 [D.int .i64 l3_Slots0],D.sl 1 2 [D.str l3_Needs0,D.str l3_Needs1]])),rS code,R.c (C.d (D.sl 1 2 [D.str has0,D.str has1]))] []=(qe [(qa.mk l0_Code l0_Credits l0_Places [l0_Slots0,l0_Slots1] []),(qa.mk l1_Code l1_Credits l1_Places [l1_Slots0] [l1_Needs0]),(qa.mk l2_Code l2_Credits l2_Places [] []),(qa.mk l3_Code l3_Credits l3_Places [l3_Slots0] [l3_Needs0,l3_Needs1])] code [has0,has1]).bind (fun(e:Bool)=>some (rB e,[])):=by
 intro l0_Code l0_Credits l0_Places l0_Slots0 l0_Slots1 l1_Code l1_Credits l1_Places l1_Slots0 l1_Needs0 l2_Code l2_Credits l2_Places l3_Code l3_Credits l3_Places l3_Slots0 l3_Needs0 l3_Needs1 has0 has1 code;have h:=JK [(qa.mk l0_Code l0_Credits l0_Places [l0_Slots0,l0_Slots1] []),(qa.mk l1_Code l1_Credits l1_Places [l1_Slots0] [l1_Needs0]),(qa.mk l2_Code l2_Credits l2_Places [] []),(qa.mk l3_Code l3_Credits l3_Places [l3_Slots0] [l3_Needs0,l3_Needs1])] code [has0,has1]
 first
  | exact h
  | (simp only[rL,dL,bR,bZ,Nat.reduceAdd] at h;exact h)
theorem q2U:∀(l0_Code:ByteArray) (l0_Credits l0_Places l0_Slots0 l0_Slots1:Int) (l1_Code:ByteArray) (l1_Credits l1_Places l1_Slots0:Int) (l1_Needs0 l2_Code:ByteArray) (l2_Credits l2_Places:Int) (l3_Code:ByteArray) (l3_Credits l3_Places l3_Slots0:Int) (l3_Needs0 l3_Needs1 code:ByteArray),ev 25 0 [R.c (C.d (D.sl 5 4 [D.str l0_Code,D.int .i64 l0_Credits,D.int .i64 l0_Places,D.sl 1 2 [D.int .i64 l0_Slots0,D.int .i64 l0_Slots1],D.sl 1 0 [],D.str l1_Code,D.int .i64 l1_Credits,D.int .i64 l1_Places,D.sl 1 1 [D.int .i64 l1_Slots0],D.sl 1 1 [D.str l1_Needs0],D.str l2_Code,D.int .i64 l2_Credits,D.int .i64 l2_Places,D.sl 1 0 [],D.sl 1 0 [],D.str l3_Code,D.int .i64 l3_Credits,D.int .i64 l3_Places,D.sl 1 1 [D.int .i64 l3_Slots0],D.sl 1 2 [D.str l3_Needs0,D.str l3_Needs1]])),rS code,R.c (C.d (D.sl 1 0 []))] []=(qe [(qa.mk l0_Code l0_Credits l0_Places [l0_Slots0,l0_Slots1] []),(qa.mk l1_Code l1_Credits l1_Places [l1_Slots0] [l1_Needs0]),(qa.mk l2_Code l2_Credits l2_Places [] []),(qa.mk l3_Code l3_Credits l3_Places [l3_Slots0] [l3_Needs0,l3_Needs1])] code []).bind (fun(e:Bool)=>some (rB e,[])):=by
 intro l0_Code l0_Credits l0_Places l0_Slots0 l0_Slots1 l1_Code l1_Credits l1_Places l1_Slots0 l1_Needs0 l2_Code l2_Credits l2_Places l3_Code l3_Credits l3_Places l3_Slots0 l3_Needs0 l3_Needs1 code;have h:=JK [(qa.mk l0_Code l0_Credits l0_Places [l0_Slots0,l0_Slots1] []),(qa.mk l1_Code l1_Credits l1_Places [l1_Slots0] [l1_Needs0]),(qa.mk l2_Code l2_Credits l2_Places [] []),(qa.mk l3_Code l3_Credits l3_Places [l3_Slots0] [l3_Needs0,l3_Needs1])] code []
 first
  | exact h
  | (simp only[rL,dL,bR,bZ,Nat.reduceAdd] at h;exact h)
def qf (fu:Nat) (l:List qa) (code:ByteArray) (has:List ByteArray):Option Bool:=Option.bind (q0v fu l code) fun(a:Prod qa Bool)=>if a.2=Bool.true then Option.bind (JW fu a.1.Needs has) fun(e0:Bool)=>some e0 else some Bool.false
theorem q4K (fu:Nat) (l:List qa) (code:ByteArray) (has:List ByteArray):qm (qf fu l code has) (qe l code has):=by
 unfold qf qe
 repeat (first
  | with_reducible exact qm.refl _
  | with_reducible exact qm.none _
  | with_reducible apply q49
  | with_reducible apply q1r
  | with_reducible refine qm.bind ?_ (fun _=>?_)
  | with_reducible refine qm.ite ?_ ?_
  | with_reducible refine qm.sum (fun _=>?_) (fun _=>?_)
  | with_reducible refine qm.lim (fun _=>?_))
theorem qtI:okL 27 qbc:=z7 (qc qqa) (by kernel_rfl) (by kernel_rfl)
def qve:=JA_ @qbc.eq_1 (JA_ @Try.f27.eq_1 @qqa)
theorem que:okL 56 qbD:=z7 (qc qqL) (by kernel_rfl) (by kernel_rfl)
def qu9:=JA_ @qbD.eq_1 (JA_ @Try.f56.eq_1 @qqL)
theorem qtQ:okL 57 qe5:=z7 (qc qpo) (by kernel_rfl) (by kernel_rfl)
def qtR:=JA_ @qe5.eq_1 (JA_ @Try.f57.eq_1 @qpo)
theorem qt3:okL 71 q9d:=z7 (qc qoV) (by kernel_rfl) (by kernel_rfl)
def qsj:=JA_ @q9d.eq_1 (JA_ @Try.f71.eq_1 @qoV)
theorem qkV:lbO 71 2=qbt:=Q1 (qc qoV) rfl
theorem qmS:okL 71 qbt:=zl qt3 (qvs (i:=0) (by kernel_rfl))
def Qb (s:List Int) (v:Int) (t7:Int):Int→Option (Int⊕(Int⊕Unit))|t8=>if t8<t7 then if 0≤t8∧t8<((s.length:Nat):Int) then Option.bind s[Int.toNat t8]? fun(a:Int)=>if(v==a)=Bool.true then some (Sum.inr (Sum.inl t8)) else some (Sum.inl (w64 (t8+1))) else none else some (Sum.inr (Sum.inr ()))
theorem JG:∀(s:List Int) (v t7 t8:Int),XL2 evo 71 0 2 ⟨[(0,rL 1 eI s),(1,rI v),(7,rI t7),(8,rI t8)],[],0,19⟩=(zc (Qb s v t7) t8).bind (Sum.elim (fun(e:Int)=>some (Exit.ret,⟨[(4,rI e)],[],0,19⟩)) (fun(e:Unit)=>some (Exit.exit 0,⟨[(4,R.any)],[],0,19⟩))):=
 fun s v t7 t8=>by
  revert t8;exact q3z qkV qmS (fun e=>by rcases e with _|_<;>exact⟨_,rfl,fun h=>by cases h⟩) fun x=>by
   have:=qsj;have:=@qbt.eq_1;have:=@Qb.eq_1;exact gA
def Q0 (s:List Int) (v:Int):Option Int:=Option.bind (zc (Qb s v ((s.length:Nat):Int)) 0) fun(a:Sum Int Unit)=>Sum.elim (fun(a2:Int)=>some a2) (fun(a3:Unit)=>some (-1)) a
theorem q07:∀(s:List Int) (v:Int),ev 71 0 [rL 1 eI s,rI v] []=(Q0 s v).bind (fun(e:Int)=>some (rI e,[])):=
 fun s v=>by
  rw[qU qoV qtn.2.2.2 qt3]
  have:=qsj;have:=@JG;have:=@Q0.eq_1;exact gA
def Z2 (fu:Nat) (s:List Int) (v:Int):Option Int:=Option.bind (itT (Qb s v ((s.length:Nat):Int)) fu 0) fun(a:Sum Int Unit)=>Sum.elim (fun(a2:Int)=>some a2) (fun(a3:Unit)=>some (-1)) a
theorem q00 (fu:Nat) (s:List Int) (v:Int):qm (Z2 fu s v) (Q0 s v):=by
 unfold Z2 Q0
 repeat (first
  | with_reducible exact qm.refl _
  | with_reducible exact qm.none _
  | with_reducible refine qm.bind ?_ (fun _=>?_)
  | with_reducible refine qm.ite ?_ ?_
  | with_reducible refine qm.sum (fun _=>?_) (fun _=>?_)
  | with_reducible refine qm.lim (fun _=>?_))
def zH (s:List Int) (v:Int):Option Bool:=Option.bind (Q0 s v) fun(a:Int)=>some (decide (0≤a))
theorem JC:∀(s:List Int) (v:Int),ev 57 0 [rL 1 eI s,rI v] []=(zH s v).bind (fun(e:Bool)=>some (rB e,[])):=
 fun s v=>by
  rw[qU qpo qso.2.2.2 qtQ]
  have:=qtR;have:=@q07;have:=@zH.eq_1;exact gA
def QB (fu:Nat) (s:List Int) (v:Int):Option Bool:=Option.bind (Z2 fu s v) fun(a:Int)=>some (decide (0≤a))
theorem JE (fu:Nat) (s:List Int) (v:Int):qm (QB fu s v) (zH s v):=by
 unfold QB zH
 repeat (first
  | with_reducible exact qm.refl _
  | with_reducible exact qm.none _
  | with_reducible apply q00
  | with_reducible refine qm.bind ?_ (fun _=>?_)
  | with_reducible refine qm.ite ?_ ?_
  | with_reducible refine qm.sum (fun _=>?_) (fun _=>?_)
  | with_reducible refine qm.lim (fun _=>?_))
end
noncomputable section
open Go.RowKit
set_option maxRecDepth 20000
set_option maxHeartbeats 8000000
def QW (n:Int) (v:qa):Option Bool:=Option.bind (zH v.Slots n) fun(a:Bool)=>some a
theorem q2v:∀(n:Int) (v_Code:ByteArray) (v_Credits v_Places:Int) (v_Slots:List Int) (v_Needs:List ByteArray),ev 56 1 [rI n,rP 0] [(0,B.blk 35 [dS v_Code,dI v_Credits,dI v_Places,dL 1 eI v_Slots,dL 1 eS v_Needs])]=(QW n (qa.mk v_Code v_Credits v_Places v_Slots v_Needs)).bind (fun(e:Bool)=>some (rB e,[(0,B.blk 35 [dS v_Code,dI v_Credits,dI v_Places,dL 1 eI v_Slots,dL 1 eS v_Needs])])):=
 fun n v_Code v_Credits v_Places v_Slots v_Needs=>by
  rw[qU qqL qsz.2.2.2 que]
  have:=qu9;have:=@JC;have:=@QW.eq_1;exact gA
def Jx (fu:Nat) (n:Int) (v:qa):Option Bool:=Option.bind (QB fu v.Slots n) fun(a:Bool)=>some a
theorem q2z (fu:Nat) (n:Int) (v:qa):qm (Jx fu n v) (QW n v):=by
 unfold Jx QW
 repeat (first
  | with_reducible exact qm.refl _
  | with_reducible exact qm.none _
  | with_reducible apply JE
  | with_reducible refine qm.bind ?_ (fun _=>?_)
  | with_reducible refine qm.ite ?_ ?_
  | with_reducible refine qm.sum (fun _=>?_) (fun _=>?_)
  | with_reducible refine qm.lim (fun _=>?_))
def qY (b0:qa) (s:List Int) (t7:Int):Int→Option (Int⊕(Int⊕Unit))|t8=>if t8<t7 then if 0≤t8∧t8<((s.length:Nat):Int) then Option.bind s[Int.toNat t8]? fun(a:Int)=>Option.bind (QW a b0) fun(a2:Bool)=>if a2=Bool.true then some (Sum.inr (Sum.inl t8)) else some (Sum.inl (w64 (t8+1))) else none else some (Sum.inr (Sum.inr ()))
theorem ZI:∀(b0_Code:ByteArray) (b0_Credits b0_Places:Int) (b0_Slots:List Int) (b0_Needs:List ByteArray) (s:List Int) (t7 t8:Int),XL2 evo 70 1 2 ⟨[(0,rL 1 eI s),(1,R.c (C.fn 56 [] [dP 0])),(7,rI t7),(8,rI t8)],[(0,B.blk 35 [dS b0_Code,dI b0_Credits,dI b0_Places,dL 1 eI b0_Slots,dL 1 eS b0_Needs])],1,19⟩=(zc (qY (qa.mk b0_Code b0_Credits b0_Places b0_Slots b0_Needs) s t7) t8).bind (Sum.elim (fun(e:Int)=>some (Exit.ret,⟨[(4,rI e)],[(0,B.blk 35 [dS b0_Code,dI b0_Credits,dI b0_Places,dL 1 eI b0_Slots,dL 1 eS b0_Needs])],1,19⟩)) (fun(e:Unit)=>some (Exit.exit 0,⟨[(4,R.any)],[(0,B.blk 35 [dS b0_Code,dI b0_Credits,dI b0_Places,dL 1 eI b0_Slots,dL 1 eS b0_Needs])],1,19⟩))):=
 fun b0_Code b0_Credits b0_Places b0_Slots b0_Needs s t7 t8=>by
  revert t8;exact q3z qhg qgx (fun e=>by rcases e with _|_<;>exact⟨_,rfl,fun h=>by cases h⟩) fun x=>by
   have:=qp2;have:=@q9V.eq_1;have:=@q2v;have:=@qY.eq_1;exact gA
def Q6 (fu:Nat) (b0:qa) (s:List Int) (t7:Int):Int→Option (Int⊕(Int⊕Unit))|t8=>if t8<t7 then if 0≤t8∧t8<((s.length:Nat):Int) then Option.bind s[Int.toNat t8]? fun(a:Int)=>Option.bind (Jx fu a b0) fun(a2:Bool)=>if a2=Bool.true then some (Sum.inr (Sum.inl t8)) else some (Sum.inl (w64 (t8+1))) else none else some (Sum.inr (Sum.inr ()))
theorem ZL (fu:Nat) (b0:qa) (s:List Int) (t7:Int):∀x,qm (Q6 fu b0 s t7 x) (qY b0 s t7 x):=by
 rintro t8
 unfold Q6 qY
 try dsimp only
 repeat (first
  | with_reducible exact qm.refl _
  | with_reducible exact qm.none _
  | with_reducible apply q2z
  | with_reducible refine qm.bind ?_ (fun _=>?_)
  | with_reducible refine qm.ite ?_ ?_
  | with_reducible refine qm.sum (fun _=>?_) (fun _=>?_)
  | with_reducible refine qm.lim (fun _=>?_))
def zp (s:List Int) (b0:qa):Option Int:=Option.bind (zc (qY b0 s ((s.length:Nat):Int)) 0) fun(a:Sum Int Unit)=>Sum.elim (fun(a2:Int)=>some a2) (fun(a3:Unit)=>some (-1)) a
theorem Jc:∀(s:List Int) (b0_Code:ByteArray) (b0_Credits b0_Places:Int) (b0_Slots:List Int) (b0_Needs:List ByteArray),ev 70 1 [rL 1 eI s,R.c (C.fn 56 [] [dP 0])] [(0,B.blk 35 [dS b0_Code,dI b0_Credits,dI b0_Places,dL 1 eI b0_Slots,dL 1 eS b0_Needs])]=(zp s (qa.mk b0_Code b0_Credits b0_Places b0_Slots b0_Needs)).bind (fun(e:Int)=>some (rI e,[(0,B.blk 35 [dS b0_Code,dI b0_Credits,dI b0_Places,dL 1 eI b0_Slots,dL 1 eS b0_Needs])])):=
 fun s b0_Code b0_Credits b0_Places b0_Slots b0_Needs=>by
  rw[qU qmE qrf.2.2.2 qqW]
  have:=qp2;have:=@ZI;have:=@zp.eq_1;exact gA
def Qg (fu:Nat) (s:List Int) (b0:qa):Option Int:=Option.bind (itT (Q6 fu b0 s ((s.length:Nat):Int)) fu 0) fun(a:Sum Int Unit)=>Sum.elim (fun(a2:Int)=>some a2) (fun(a3:Unit)=>some (-1)) a
theorem J9 (fu:Nat) (s:List Int) (b0:qa):qm (Qg fu s b0) (zp s b0):=by
 unfold Qg zp
 repeat (first
  | with_reducible exact qm.refl _
  | with_reducible exact qm.none _
  | with_reducible apply ZL
  | with_reducible refine qm.bind ?_ (fun _=>?_)
  | with_reducible refine qm.ite ?_ ?_
  | with_reducible refine qm.sum (fun _=>?_) (fun _=>?_)
  | with_reducible refine qm.lim (fun _=>?_))
def qZ (s:List Int) (b0:qa):Option Bool:=Option.bind (zp s b0) fun(a:Int)=>some (decide (0≤a))
theorem ZK:∀(s:List Int) (b0_Code:ByteArray) (b0_Credits b0_Places:Int) (b0_Slots:List Int) (b0_Needs:List ByteArray),ev 55 1 [rL 1 eI s,R.c (C.fn 56 [] [dP 0])] [(0,B.blk 35 [dS b0_Code,dI b0_Credits,dI b0_Places,dL 1 eI b0_Slots,dL 1 eS b0_Needs])]=(qZ s (qa.mk b0_Code b0_Credits b0_Places b0_Slots b0_Needs)).bind (fun(e:Bool)=>some (rB e,[(0,B.blk 35 [dS b0_Code,dI b0_Credits,dI b0_Places,dL 1 eI b0_Slots,dL 1 eS b0_Needs])])):=
 fun s b0_Code b0_Credits b0_Places b0_Slots b0_Needs=>by
  rw[qU qp5 qqH.2.2.2 qt4]
  have:=qtl;have:=@Jc;have:=@qZ.eq_1;exact gA
def Q5 (fu:Nat) (s:List Int) (b0:qa):Option Bool:=Option.bind (Qg fu s b0) fun(a:Int)=>some (decide (0≤a))
theorem ZJ (fu:Nat) (s:List Int) (b0:qa):qm (Q5 fu s b0) (qZ s b0):=by
 unfold Q5 qZ
 repeat (first
  | with_reducible exact qm.refl _
  | with_reducible exact qm.none _
  | with_reducible apply J9
  | with_reducible refine qm.bind ?_ (fun _=>?_)
  | with_reducible refine qm.ite ?_ ?_
  | with_reducible refine qm.sum (fun _=>?_) (fun _=>?_)
  | with_reducible refine qm.lim (fun _=>?_))
def qg (a:qa) (b:qa):Option Bool:=Option.bind (qZ a.Slots b) fun(a2:Bool)=>some a2
theorem q0n:∀(a_Code:ByteArray) (a_Credits a_Places:Int) (a_Slots:List Int) (a_Needs:List ByteArray) (b_Code:ByteArray) (b_Credits b_Places:Int) (b_Slots:List Int) (b_Needs:List ByteArray),ev 27 0 [R.agg [dS a_Code,dI a_Credits,dI a_Places,dL 1 eI a_Slots,dL 1 eS a_Needs],R.agg [dS b_Code,dI b_Credits,dI b_Places,dL 1 eI b_Slots,dL 1 eS b_Needs]] []=(qg (qa.mk a_Code a_Credits a_Places a_Slots a_Needs) (qa.mk b_Code b_Credits b_Places b_Slots b_Needs)).bind (fun(e:Bool)=>some (rB e,[])):=
 fun a_Code a_Credits a_Places a_Slots a_Needs b_Code b_Credits b_Places b_Slots b_Needs=>by
  rw[qU qqa qsg.2.2.2 qtI]
  have:=qve;have:=@ZK;have:=@qg.eq_1;exact gA
theorem q1P:∀(a_Code:ByteArray) (a_Credits a_Places a_Slots0 a_Slots1:Int) (b_Code:ByteArray) (b_Credits b_Places b_Slots0:Int) (b_Needs0:ByteArray) , ev 27 0 [R.agg [dS a_Code,dI a_Credits,dI a_Places,C.d (D.sl 1 2 [D.int .i64 a_Slots0,D.int .i64 a_Slots1]),C.d (D.sl 1 0 [])],R.agg [dS b_Code,dI b_Credits,dI b_Places,C.d (D.sl 1 1 [D.int .i64 b_Slots0]),C.d (D.sl 1 1 [D.str b_Needs0])]] []=(qg (qa.mk a_Code a_Credits a_Places [a_Slots0,a_Slots1] []) (qa.mk b_Code b_Credits b_Places [b_Slots0] [b_Needs0])).bind (fun(e:Bool)=>some (rB e,[])):=by
 intro a_Code a_Credits a_Places a_Slots0 a_Slots1 b_Code b_Credits b_Places b_Slots0 b_Needs0;have h:=q0n ((qa.mk a_Code a_Credits a_Places [a_Slots0,a_Slots1] [])).Code ((qa.mk a_Code a_Credits a_Places [a_Slots0,a_Slots1] [])).Credits ((qa.mk a_Code a_Credits a_Places [a_Slots0,a_Slots1] [])).Places ((qa.mk a_Code a_Credits a_Places [a_Slots0,a_Slots1] [])).Slots ((qa.mk a_Code a_Credits a_Places [a_Slots0,a_Slots1] [])).Needs ((qa.mk b_Code b_Credits b_Places [b_Slots0] [b_Needs0])).Code ((qa.mk b_Code b_Credits b_Places [b_Slots0] [b_Needs0])).Credits ((qa.mk b_Code b_Credits b_Places [b_Slots0] [b_Needs0])).Places ((qa.mk b_Code b_Credits b_Places [b_Slots0] [b_Needs0])).Slots ((qa.mk b_Code b_Credits b_Places [b_Slots0] [b_Needs0])).Needs
 first
  | exact h
  | (simp only[rL,dL,bR,bZ,Nat.reduceAdd] at h;exact h)
theorem q26:∀(a_Code:ByteArray) (a_Credits a_Places a_Slots0:Int) (a_Needs0 b_Code:ByteArray) (b_Credits b_Places:Int) , ev 27 0 [R.agg [dS a_Code,dI a_Credits,dI a_Places,C.d (D.sl 1 1 [D.int .i64 a_Slots0]),C.d (D.sl 1 1 [D.str a_Needs0])],R.agg [dS b_Code,dI b_Credits,dI b_Places,C.d (D.sl 1 0 []),C.d (D.sl 1 0 [])]] []=(qg (qa.mk a_Code a_Credits a_Places [a_Slots0] [a_Needs0]) (qa.mk b_Code b_Credits b_Places [] [])).bind (fun(e:Bool)=>some (rB e,[])):=by
 intro a_Code a_Credits a_Places a_Slots0 a_Needs0 b_Code b_Credits b_Places;have h:=q0n ((qa.mk a_Code a_Credits a_Places [a_Slots0] [a_Needs0])).Code ((qa.mk a_Code a_Credits a_Places [a_Slots0] [a_Needs0])).Credits ((qa.mk a_Code a_Credits a_Places [a_Slots0] [a_Needs0])).Places ((qa.mk a_Code a_Credits a_Places [a_Slots0] [a_Needs0])).Slots ((qa.mk a_Code a_Credits a_Places [a_Slots0] [a_Needs0])).Needs ((qa.mk b_Code b_Credits b_Places [] [])).Code ((qa.mk b_Code b_Credits b_Places [] [])).Credits ((qa.mk b_Code b_Credits b_Places [] [])).Places ((qa.mk b_Code b_Credits b_Places [] [])).Slots ((qa.mk b_Code b_Credits b_Places [] [])).Needs
 first
  | exact h
  | (simp only[rL,dL,bR,bZ,Nat.reduceAdd] at h;exact h)
def qk (fu:Nat) (a:qa) (b:qa):Option Bool:=Option.bind (Q5 fu a.Slots b) fun(a2:Bool)=>some a2
theorem q3S (fu:Nat) (a b:qa):qm (qk fu a b) (qg a b):=by
 unfold qk qg
 repeat (first
  | with_reducible exact qm.refl _
  | with_reducible exact qm.none _
  | with_reducible apply ZJ
  | with_reducible refine qm.bind ?_ (fun _=>?_)
  | with_reducible refine qm.ite ?_ ?_
  | with_reducible refine qm.sum (fun _=>?_) (fun _=>?_)
  | with_reducible refine qm.lim (fun _=>?_))
end

noncomputable section
open Go.RowKit
theorem q4S {α:Type} (l:List α) (q:α→Bool) (step:Int→Option (Int⊕(Int⊕Unit)))
  (h:∀(i:Nat) a,l[i]?=some a→step (i:Int)=some (if q a=true then .inr (.inl (i:Int)) else .inl ((i+1:Nat):Int)))
  (hn:step ((l.length:Nat):Int)=some (.inr (.inr ()))) :
  ∃r:Int⊕Unit,zc step 0=some r∧((∃(i:Nat) (a:α),r = .inl (i:Int)∧l[i]?=some a∧q a=true∧∀j b,j<i→l[j]?=some b→q b=false)∨(r = .inr ()∧∀a∈l,q a=false)):=by
 have key:∀(n i:Nat),n+i=l.length→(∀j b,j<i→l[j]?=some b→q b=false)→∃r:Int⊕Unit,zc step (i:Int)=some r∧((∃(i:Nat) (a:α),r = .inl (i:Int)∧l[i]?=some a∧q a=true∧∀j b,j<i→l[j]?=some b→q b=false)∨(r = .inr ()∧∀a∈l,q a=false)):=by
  intro n
  induction n with
  | zero=>
   intro i hi hlo
   obtain rfl:i=l.length:=by omega
   refine⟨.inr (),qR hn,.inr ⟨rfl,fun a ha=>?_⟩⟩
   obtain⟨j,hj,rfl⟩:=List.mem_iff_getElem.1 ha
   exact hlo j _ hj (qvt hj)
  | succ n ih=>
   intro i hi hlo
   have hlt:i<l.length:=by omega
   have ha:=qvt hlt
   have hs:=h i _ ha
   cases hq:q l[i] with
   | true=>
    rw[hq,if_pos rfl] at hs
    exact⟨_,qR hs,.inl ⟨i,_,rfl,ha,hq,hlo⟩⟩
   | false=>
    rw[hq,if_neg (by decide)] at hs
    rw[zL hs]
    refine ih (i+1) (by omega) fun j b hj hb=>?_
    by_cases e:j<i
    ·exact hlo j b e hb
    ·obtain rfl:j=i:=by omega
     rw[ha] at hb;injection hb with hb;subst hb;exact hq
 exact key l.length 0 (by omega) (fun j b hj _=>by omega)
theorem q50 {α:Type} {l:List α} {q:α→Bool} {r:Int⊕Unit} (h:(∃(i:Nat) (a:α),r = .inl (i:Int)∧l[i]?=some a∧q a=true∧∀j b,j<i→l[j]?=some b→q b=false)∨(r = .inr ()∧∀a∈l,q a=false)) :
  ∃n:Int,Sum.elim (fun(a2:Int)=>some a2) (fun(a3:Unit)=>some (-(1:Int))) r=some n∧decide ((0:Int)≤n)=l.any q:=by
 rcases h with ⟨i,a,rfl,h1,h2,_⟩|⟨rfl,h1⟩
 ·refine⟨_,rfl,?_⟩
  rw[qwq (by omega)]
  exact(qwk.2 ⟨a,qvs h1,h2⟩).symm
 ·refine⟨_,rfl,?_⟩
  rw[decide_eq_false (by decide)]
  symm;rw[List.any_eq_false];intro a ha;rw[h1 a ha];decide
end
noncomputable section
open Go.RowKit
set_option maxRecDepth 20000
set_option maxHeartbeats 8000000
theorem qky:okL 13 q4Q:=z7 (qc qhn) (by kernel_rfl) (by kernel_rfl)
def qmp:=JA_ @q4Q.eq_1 (JA_ @Try.f13.eq_1 @qhn)
theorem qln:lbO 13 4=qe9:=Q1 (qc qhn) rfl
theorem qmk:okL 13 qe9:=zl qky (qvs (i:=0) (by kernel_rfl))
theorem qk8:lbO 13 17=q7Z:=Q1 (qc qhn) rfl
theorem qiD:okL 13 q7Z:=zl qky (qvs (i:=1) (by kernel_rfl))
theorem qjZ:lbO 13 20=q7U:=Q1 (qc qhn) rfl
theorem qiV:okL 13 q7U:=zl qky (qvs (i:=2) (by kernel_rfl))
theorem qhz:lbO 13 26=q87:=Q1 (qc qhn) rfl
theorem qiL:okL 13 q87:=zl qky (qvs (i:=3) (by kernel_rfl))
theorem qsK:okL 15 q9n:=z7 (qc qoF) (by kernel_rfl) (by kernel_rfl)
def qth:=JA_ @q9n.eq_1 (JA_ @Try.f15.eq_1 @qoF)
theorem ql6:lbO 15 2=qde:=Q1 (qc qoF) rfl
theorem ql5:okL 15 qde:=zl qsK (qvs (i:=0) (by kernel_rfl))
def QH (s:ByteArray):Int→Option (Int⊕(Unit⊕Unit))|k=>if k<((ByteArray.size s:Nat):Int) then if 0≤k then Option.bind (Array.toList (ByteArray.data s))[Int.toNat k]? fun(a:UInt8)=>if 65≤((UInt8.toNat a:Nat):Int) then if 0≤k then Option.bind (Array.toList (ByteArray.data s))[Int.toNat k]? fun(a2:UInt8)=>if 0≤k then Option.bind (Array.toList (ByteArray.data s))[Int.toNat k]? fun(a3:UInt8)=>if 48≤((UInt8.toNat a3:Nat):Int) then if 0≤k then Option.bind (Array.toList (ByteArray.data s))[Int.toNat k]? fun(a4:UInt8)=>if(!(decide (((UInt8.toNat a2:Nat):Int)≤90)))=Bool.true then if(!(decide (((UInt8.toNat a4:Nat):Int)≤57)))=Bool.true then some (Sum.inr (Sum.inl ())) else some (Sum.inl (w64 (k+1))) else some (Sum.inl (w64 (k+1))) else none else if(!(decide (((UInt8.toNat a2:Nat):Int)≤90)))=Bool.true then some (Sum.inr (Sum.inl ())) else some (Sum.inl (w64 (k+1))) else none else none else if 0≤k then Option.bind (Array.toList (ByteArray.data s))[Int.toNat k]? fun(a5:UInt8)=>if 48≤((UInt8.toNat a5:Nat):Int) then if 0≤k then Option.bind (Array.toList (ByteArray.data s))[Int.toNat k]? fun(a6:UInt8)=>if(!(decide (((UInt8.toNat a6:Nat):Int)≤57)))=Bool.true then some (Sum.inr (Sum.inl ())) else some (Sum.inl (w64 (k+1))) else none else some (Sum.inr (Sum.inl ())) else none else none else some (Sum.inr (Sum.inr ()))
theorem q2O:∀(s:ByteArray) (k:Int),XL2 evo 15 0 2 ⟨[(0,rS s),(3,rI k)],[],0,46⟩=(zc (QH s) k).bind (Sum.elim (fun(e:Unit)=>some (Exit.ret,⟨[(0,rS s),(2,rB Bool.false)],[],0,46⟩)) (fun(e:Unit)=>some (Exit.exit 0,⟨[(0,rS s),(2,R.any)],[],0,46⟩))):=
 fun s k=>by
  revert k;exact q3z ql6 ql5 (fun e=>by rcases e with _|_<;>exact⟨_,rfl,fun h=>by cases h⟩) fun x=>by
   have:=qth;have:=@qde.eq_1;have:=@QH.eq_1;exact gA
def ZF (s:ByteArray):Option Bool:=Option.bind (zc (QH s) 0) fun(a:Sum Unit Unit)=>Sum.elim (fun(a2:Unit)=>some Bool.false) (fun(a3:Unit)=>if 1≤((ByteArray.size s:Nat):Int) then some (decide (((ByteArray.size s:Nat):Int)≤8)) else some Bool.false) a
theorem q1t:∀(s:ByteArray),ev 15 0 [rS s] []=(ZF s).bind (fun(e:Bool)=>some (rB e,[])):=
 fun s=>by
  rw[qU qoF qsy.2.2.2 qsK]
  have:=qth;have:=@q2O;have:=@ZF.eq_1;exact gA
theorem qqK:okL 44 q7b:=z7 (qc qoa) (by kernel_rfl) (by kernel_rfl)
def qpw:=JA_ @q7b.eq_1 (JA_ @Try.f44.eq_1 @qoa)
theorem qlb:lbO 44 4=qdi:=Q1 (qc qoa) rfl
theorem qo9:okL 44 qdi:=zl qqK (qvs (i:=0) (by kernel_rfl))
theorem qmn:lbO 44 9=qdn:=Q1 (qc qoa) rfl
theorem qo7:okL 44 qdn:=zl qqK (qvs (i:=1) (by kernel_rfl))
def Qp (b0:qa):Int→Option (Int⊕(Unit⊕Unit))|t3=>if t3<((b0.Slots.length:Nat):Int) then if 0≤t3∧t3<((b0.Slots.length:Nat):Int) then Option.bind b0.Slots[Int.toNat t3]? fun(a:Int)=>if a<1 then some (Sum.inr (Sum.inl ())) else if 0≤t3∧t3<((b0.Slots.length:Nat):Int) then Option.bind b0.Slots[Int.toNat t3]? fun(a2:Int)=>if 40<a2 then some (Sum.inr (Sum.inl ())) else some (Sum.inl (w64 (t3+1))) else none else none else some (Sum.inr (Sum.inr ()))
theorem q1S:∀(b0_Code:ByteArray) (b0_Credits b0_Places:Int) (b0_Slots:List Int) (b0_Needs:List ByteArray) (t3:Int),XL2 evo 44 0 4 ⟨[(1,rP 0),(3,rI t3)],[(0,B.blk 35 [dS b0_Code,dI b0_Credits,dI b0_Places,dL 1 eI b0_Slots,dL 1 eS b0_Needs])],1,71⟩=(zc (Qp (qa.mk b0_Code b0_Credits b0_Places b0_Slots b0_Needs)) t3).bind (Sum.elim (fun(e:Unit)=>some (Exit.ret,⟨[(1,rP 0),(2,rI 3)],[(0,B.blk 35 [dS b0_Code,dI b0_Credits,dI b0_Places,dL 1 eI b0_Slots,dL 1 eS b0_Needs])],1,71⟩)) (fun(e:Unit)=>some (Exit.exit 0,⟨[(1,rP 0),(2,R.any)],[(0,B.blk 35 [dS b0_Code,dI b0_Credits,dI b0_Places,dL 1 eI b0_Slots,dL 1 eS b0_Needs])],1,71⟩))):=
 fun b0_Code b0_Credits b0_Places b0_Slots b0_Needs t3=>by
  revert t3;exact q3z qlb qo9 (fun e=>by rcases e with _|_<;>exact⟨_,rfl,fun h=>by cases h⟩) fun x=>by
   have:=qpw;have:=@qdi.eq_1;have:=@Qp.eq_1;exact gA
def Q7 (b0:qa):Int→Option (Int⊕(Unit⊕Unit))|t4=>if t4<((b0.Slots.length:Nat):Int) then if 0≤w64 (t4-1)∧w64 (t4-1)<((b0.Slots.length:Nat):Int) then Option.bind b0.Slots[Int.toNat (w64 (t4-1))]? fun(a:Int)=>if 0≤t4∧t4<((b0.Slots.length:Nat):Int) then Option.bind b0.Slots[Int.toNat t4]? fun(a2:Int)=>if a2≤a then some (Sum.inr (Sum.inl ())) else some (Sum.inl (w64 (t4+1))) else none else none else some (Sum.inr (Sum.inr ()))
theorem q1R:∀(b0_Code:ByteArray) (b0_Credits b0_Places:Int) (b0_Slots:List Int) (b0_Needs:List ByteArray) (t4:Int),XL2 evo 44 0 9 ⟨[(1,rP 0),(4,rI t4)],[(0,B.blk 35 [dS b0_Code,dI b0_Credits,dI b0_Places,dL 1 eI b0_Slots,dL 1 eS b0_Needs])],1,71⟩=(zc (Q7 (qa.mk b0_Code b0_Credits b0_Places b0_Slots b0_Needs)) t4).bind (Sum.elim (fun(e:Unit)=>some (Exit.ret,⟨[(1,rP 0),(2,rI 7)],[(0,B.blk 35 [dS b0_Code,dI b0_Credits,dI b0_Places,dL 1 eI b0_Slots,dL 1 eS b0_Needs])],1,71⟩)) (fun(e:Unit)=>some (Exit.exit 2,⟨[(1,rP 0),(2,R.any)],[(0,B.blk 35 [dS b0_Code,dI b0_Credits,dI b0_Places,dL 1 eI b0_Slots,dL 1 eS b0_Needs])],1,71⟩))):=
 fun b0_Code b0_Credits b0_Places b0_Slots b0_Needs t4=>by
  revert t4;exact q3z qmn qo7 (fun e=>by rcases e with _|_<;>exact⟨_,rfl,fun h=>by cases h⟩) fun x=>by
   have:=qpw;have:=@qdn.eq_1;have:=@Q7.eq_1;exact gA
theorem qt5:okL 29 q9k:=z7 (qc qoL) (by kernel_rfl) (by kernel_rfl)
def qsM:=JA_ @q9k.eq_1 (JA_ @Try.f29.eq_1 @qoL)
theorem qkP:lbO 29 2=qdN:=Q1 (qc qoL) rfl
theorem qlW:okL 29 qdN:=zl qt5 (qvs (i:=0) (by kernel_rfl))
def zt (l:List ByteArray):Int→Option (Int⊕(Unit⊕Unit))|k=>if k<((l.length:Nat):Int) then if 0≤w64 (k-1)∧w64 (k-1)<((l.length:Nat):Int) then Option.bind l[Int.toNat (w64 (k-1))]? fun(a:ByteArray)=>if 0≤k∧k<((l.length:Nat):Int) then Option.bind l[Int.toNat k]? fun(a2:ByteArray)=>if(!(Op.bytesLess (ByteArray.toList a) (ByteArray.toList a2)))=Bool.true then some (Sum.inr (Sum.inl ())) else some (Sum.inl (w64 (k+1))) else none else none else some (Sum.inr (Sum.inr ()))
theorem q0i:∀(l:List ByteArray) (k:Int),XL2 evo 29 0 2 ⟨[(0,rL 1 eS l),(3,rI k)],[],0,20⟩=(zc (zt l) k).bind (Sum.elim (fun(e:Unit)=>some (Exit.ret,⟨[(2,rB Bool.false)],[],0,20⟩)) (fun(e:Unit)=>some (Exit.exit 0,⟨[(2,R.any)],[],0,20⟩))):=
 fun l k=>by
  revert k;exact q3z qkP qlW (fun e=>by rcases e with _|_<;>exact⟨_,rfl,fun h=>by cases h⟩) fun x=>by
   have:=qsM;have:=@qdN.eq_1;have:=@zt.eq_1;exact gA
def Qy (l:List ByteArray):Option Bool:=Option.bind (zc (zt l) 1) fun(a:Sum Unit Unit)=>Sum.elim (fun(a2:Unit)=>some Bool.false) (fun(a3:Unit)=>some Bool.true) a
theorem q18:∀(l:List ByteArray),ev 29 0 [rL 1 eS l] []=(Qy l).bind (fun(e:Bool)=>some (rB e,[])):=
 fun l=>by
  rw[qU qoL qt9.2.2.2 qt5]
  have:=qsM;have:=@q0i;have:=@Qy.eq_1;exact gA
def Ql (x0:qa):Option Int:=if x0.Credits<1 then some 3 else if 60<x0.Credits then some 3 else if x0.Places<0 then some 3 else if 200<x0.Places then some 3 else Option.bind (zc (Qp x0) 0) fun(a:Sum Unit Unit)=>Sum.elim (fun(a2:Unit)=>some 3) (fun(a3:Unit)=>Option.bind (zc (Q7 x0) 1) fun(a4:Sum Unit Unit)=>Sum.elim (fun(a5:Unit)=>some 7) (fun(a6:Unit)=>if 5<((x0.Needs.length:Nat):Int) then some 2 else Option.bind (Qy x0.Needs) fun(a7:Bool)=>if(!a7)=Bool.true then some 7 else some 0) a4) a
theorem q3G:∀(x0_Code:ByteArray) (x0_Credits x0_Places:Int) (x0_Slots:List Int) (x0_Needs:List ByteArray),ev 44 0 [R.agg [dS x0_Code,dI x0_Credits,dI x0_Places,dL 1 eI x0_Slots,dL 1 eS x0_Needs]] []=(Ql (qa.mk x0_Code x0_Credits x0_Places x0_Slots x0_Needs)).bind (fun(e:Int)=>some (rI e,[])):=
 fun x0_Code x0_Credits x0_Places x0_Slots x0_Needs=>by
  rw[qU qoa qsw.2.2.2 qqK]
  have:=qpw;have:=@q1S;have:=@q1R;have:=@q18;have:=@Ql.eq_1;exact gA
def zP (t0:List qa):Int→Option (Int⊕(Int⊕Unit))|t3=>if t3<((t0.length:Nat):Int) then if 0≤t3∧t3<((t0.length:Nat):Int) then Option.bind t0[Int.toNat t3]? fun(a:qa)=>Option.bind (ZF a.Code) fun(a2:Bool)=>if(!a2)=Bool.true then some (Sum.inr (Sum.inl 12)) else if 0<t3 then if 0≤w64 (t3-1)∧w64 (t3-1)<((t0.length:Nat):Int) then Option.bind t0[Int.toNat (w64 (t3-1))]? fun(a3:qa)=>if 0≤t3∧t3<((t0.length:Nat):Int) then Option.bind t0[Int.toNat t3]? fun(a4:qa)=>if(ByteArray.toList a3.Code==ByteArray.toList a4.Code)=Bool.true then some (Sum.inr (Sum.inl 6)) else if 0<t3 then if 0≤w64 (t3-1)∧w64 (t3-1)<((t0.length:Nat):Int) then Option.bind t0[Int.toNat (w64 (t3-1))]? fun(a5:qa)=>if 0≤t3∧t3<((t0.length:Nat):Int) then Option.bind t0[Int.toNat t3]? fun(a6:qa)=>if(!(Op.bytesLess (ByteArray.toList a5.Code) (ByteArray.toList a6.Code)||ByteArray.toList a5.Code==ByteArray.toList a6.Code))=Bool.true then some (Sum.inr (Sum.inl 7)) else if 0≤t3∧t3<((t0.length:Nat):Int) then Option.bind t0[Int.toNat t3]? fun(a7:qa)=>Option.bind (Ql a7) fun(a8:Int)=>if(a8 != 0)=Bool.true then some (Sum.inr (Sum.inl a8)) else some (Sum.inl (w64 (t3+1))) else none else none else none else if 0≤t3∧t3<((t0.length:Nat):Int) then Option.bind t0[Int.toNat t3]? fun(a9:qa)=>Option.bind (Ql a9) fun(a10:Int)=>if(a10 != 0)=Bool.true then some (Sum.inr (Sum.inl a10)) else some (Sum.inl (w64 (t3+1))) else none else none else none else if 0<t3 then if 0≤w64 (t3-1)∧w64 (t3-1)<((t0.length:Nat):Int) then Option.bind t0[Int.toNat (w64 (t3-1))]? fun(a11:qa)=>if 0≤t3∧t3<((t0.length:Nat):Int) then Option.bind t0[Int.toNat t3]? fun(a12:qa)=>if(!(Op.bytesLess (ByteArray.toList a11.Code) (ByteArray.toList a12.Code)||ByteArray.toList a11.Code==ByteArray.toList a12.Code))=Bool.true then some (Sum.inr (Sum.inl 7)) else if 0≤t3∧t3<((t0.length:Nat):Int) then Option.bind t0[Int.toNat t3]? fun(a13:qa)=>Option.bind (Ql a13) fun(a14:Int)=>if(a14 != 0)=Bool.true then some (Sum.inr (Sum.inl a14)) else some (Sum.inl (w64 (t3+1))) else none else none else none else if 0≤t3∧t3<((t0.length:Nat):Int) then Option.bind t0[Int.toNat t3]? fun(a15:qa)=>Option.bind (Ql a15) fun(a16:Int)=>if(a16 != 0)=Bool.true then some (Sum.inr (Sum.inl a16)) else some (Sum.inl (w64 (t3+1))) else none else none else some (Sum.inr (Sum.inr ()))
theorem q2C:∀(t0:List qa) (t3:Int),XL2 evo 13 0 4 ⟨[(0,rL 5 qb t0),(3,rI t3)],[],0,121⟩=(zc (zP t0) t3).bind (Sum.elim (fun(e:Int)=>some (Exit.ret,⟨[(0,rL 5 qb t0),(2,rI e)],[],0,121⟩)) (fun(e:Unit)=>some (Exit.exit 0,⟨[(0,rL 5 qb t0),(2,R.any)],[],0,121⟩))):=
 fun t0 t3=>by
  revert t3;exact q3z qln qmk (fun e=>by rcases e with _|_<;>exact⟨_,rfl,fun h=>by cases h⟩) fun x=>by
   have:=qmp;have:=@qe9.eq_1;have:=@q1t;have:=@q3G;have:=@zP.eq_1;exact gA
theorem qsa:okL 21 q8T:=z7 (qc qp0) (by kernel_rfl) (by kernel_rfl)
def qsd:=JA_ @q8T.eq_1 (JA_ @Try.f21.eq_1 @qp0)
theorem qns:lbO 21 2=qbM:=Q1 (qc qp0) rfl
theorem ql3:okL 21 qbM:=zl qsa (qvs (i:=0) (by kernel_rfl))
theorem qv8:okL 36 qdO:=z7 (qc qrg) (by kernel_rfl) (by kernel_rfl)
def qui:=JA_ @qdO.eq_1 (JA_ @Try.f36.eq_1 @qrg)
def ZH (o:qa):Option (ByteArray×Int×Int×List Int×List ByteArray):=if o.Slots.length≤maxLen∧o.Slots.length*8≤140737488355328 then if o.Needs.length≤maxLen∧o.Needs.length*16≤140737488355328 then some (o.Code,o.Credits,o.Places,o.Slots,o.Needs) else none else none
theorem q1f:∀(o_Code:ByteArray) (o_Credits o_Places:Int) (o_Slots:List Int) (o_Needs:List ByteArray),ev 36 0 [R.agg [dS o_Code,dI o_Credits,dI o_Places,dL 1 eI o_Slots,dL 1 eS o_Needs]] []=(ZH (qa.mk o_Code o_Credits o_Places o_Slots o_Needs)).bind (fun(e:ByteArray×Int×Int×List Int×List ByteArray)=>some (R.agg [dS e.1,dI e.2.1,dI e.2.2.1,dO 0 1 e.2.2.2.1.length,dO 1 1 e.2.2.2.2.length],[(0,bR 3 1 eI e.2.2.2.1),(1,bR 9 1 eS e.2.2.2.2)])):=
 fun o_Code o_Credits o_Places o_Slots o_Needs=>by
  rw[qU qrg qs2.2.2.2 qv8]
  have:=qui;have:=@ZH.eq_1;exact gA
def Qq (b0_Code:ByteArray) (b0_Credits:Int) (b0_Places:Int) (l:List qa) (code:ByteArray):Int→Option (Int⊕((List Int×List ByteArray×ByteArray×Int×Int)⊕Unit))|k=>if k<((l.length:Nat):Int) then if 0≤k∧k<((l.length:Nat):Int) then Option.bind l[Int.toNat k]? fun(a:qa)=>if(ByteArray.toList a.Code==ByteArray.toList code)=Bool.true then if 0≤k∧k<((l.length:Nat):Int) then Option.bind l[Int.toNat k]? fun(a2:qa)=>Option.bind (ZH a2) fun(a3:Prod ByteArray (Prod Int (Prod Int (Prod (List Int) (List ByteArray)))))=>some (Sum.inr (Sum.inl (a3.2.2.2.1,a3.2.2.2.2,a3.1,a3.2.1,a3.2.2.1))) else none else some (Sum.inl (w64 (k+1))) else none else some (Sum.inr (Sum.inr ()))
theorem q2Q:∀(b0_Code:ByteArray) (b0_Credits b0_Places:Int) (l:List qa) (code:ByteArray) (k:Int),XL2 evo 21 0 2 ⟨[(0,rL 5 qb l),(1,rS code),(4,rP 0),(6,rI k)],[(0,B.blk 35 [dS b0_Code,dI b0_Credits,dI b0_Places,C.nils,C.nils])],1,26⟩=(zc (Qq b0_Code b0_Credits b0_Places l code) k).bind (Sum.elim (fun(e:List Int×List ByteArray×ByteArray×Int×Int)=>some (Exit.ret,⟨[(4,rP 0),(5,rB Bool.true)],[(0,B.blk 35 [dS e.2.2.1,dI e.2.2.2.1,dI e.2.2.2.2,dO 1 1 e.1.length,dO 2 1 e.2.1.length]),(1,bR 3 1 eI e.1),(2,bR 9 1 eS e.2.1)],3,26⟩)) (fun(e:Unit)=>some (Exit.exit 0,⟨[(4,rP 0),(5,R.any)],[(0,B.blk 35 [dS b0_Code,dI b0_Credits,dI b0_Places,C.nils,C.nils])],1,26⟩))):=
 fun b0_Code b0_Credits b0_Places l code k=>by
  revert k;exact q3z qns ql3 (fun e=>by rcases e with _|_<;>exact⟨_,rfl,fun h=>by cases h⟩) fun x=>by
   have:=qsd;have:=@qbM.eq_1;have:=@q1f;have:=@Qq.eq_1;exact gA
def QM (l:List qa) (code:ByteArray):Option (qa×Bool):=Option.bind (zc (Qq (ByteArray.mk (List.toArray [])) 0 0 l code) 0) fun(a:Sum (Prod (List Int) (Prod (List ByteArray) (Prod ByteArray (Prod Int Int)))) Unit)=>Sum.elim (fun(a2:Prod (List Int) (Prod (List ByteArray) (Prod ByteArray (Prod Int Int))))=>some (qa.mk a2.2.2.1 a2.2.2.2.1 a2.2.2.2.2 a2.1 a2.2.1,Bool.true)) (fun(a3:Unit)=>some (qa.mk (ByteArray.mk (List.toArray [])) 0 0 [] [],Bool.false)) a
theorem ZY:∀(l:List qa) (code:ByteArray),ev 21 0 [rL 5 qb l,rS code] []=(QM l code).bind (fun(e:qa×Bool)=>some (R.tup [R.agg [dS e.1.Code,dI e.1.Credits,dI e.1.Places,dL 1 eI e.1.Slots,dL 1 eS e.1.Needs],rB e.2],[])):=
 fun l code=>by
  rw[qU qp0 qs8.2.2.2 qsa]
  have:=qsd;have:=@q2Q;have:=@QM.eq_1;exact gA
def Qm (t0:List qa) (t6:Int):Int→Option (Int⊕(Unit⊕Unit))|t7=>if 0≤t6∧t6<((t0.length:Nat):Int) then Option.bind t0[Int.toNat t6]? fun(a:qa)=>if t7<((a.Needs.length:Nat):Int) then if 0≤t6∧t6<((t0.length:Nat):Int) then Option.bind t0[Int.toNat t6]? fun(a2:qa)=>if 0≤t7∧t7<((a2.Needs.length:Nat):Int) then Option.bind a2.Needs[Int.toNat t7]? fun(a3:ByteArray)=>Option.bind (QM t0 a3) fun(a4:Prod qa Bool)=>if(!a4.2)=Bool.true then some (Sum.inr (Sum.inl ())) else some (Sum.inl (w64 (t7+1))) else none else none else some (Sum.inr (Sum.inr ())) else none
theorem q1V:∀(t0:List qa) (t6 t7:Int),XL2 evo 13 0 20 ⟨[(0,rL 5 qb t0),(6,rI t6),(7,rI t7)],[],0,121⟩=(zc (Qm t0 t6) t7).bind (Sum.elim (fun(e:Unit)=>some (Exit.ret,⟨[(0,rL 5 qb t0),(2,rI 5),(6,rI t6)],[],0,121⟩)) (fun(e:Unit)=>some (Exit.exit 5,⟨[(0,rL 5 qb t0),(2,R.any),(6,rI t6)],[],0,121⟩))):=
 fun t0 t6 t7=>by
  revert t7;exact q3z qjZ qiV (fun e=>by rcases e with _|_<;>exact⟨_,rfl,fun h=>by cases h⟩) fun x=>by
   have:=qmp;have:=@q7U.eq_1;have:=@ZY;have:=@Qm.eq_1;exact gA
def Q4 (t0:List qa):Int→Option (Int⊕(Unit⊕Unit))|t6=>if t6<((t0.length:Nat):Int) then Option.bind (zc (Qm t0 t6) 0) fun(a:Sum Unit Unit)=>Sum.elim (fun(a2:Unit)=>some (Sum.inr (Sum.inl ()))) (fun(a3:Unit)=>some (Sum.inl (w64 (t6+1)))) a else some (Sum.inr (Sum.inr ()))
theorem q1N:∀(t0:List qa) (t6:Int),XL2 evo 13 0 17 ⟨[(0,rL 5 qb t0),(6,rI t6)],[],0,121⟩=(zc (Q4 t0) t6).bind (Sum.elim (fun(e:Unit)=>some (Exit.ret,⟨[(0,rL 5 qb t0),(2,rI 5)],[],0,121⟩)) (fun(e:Unit)=>some (Exit.exit 3,⟨[(0,rL 5 qb t0),(2,R.any)],[],0,121⟩))):=
 fun t0 t6=>by
  revert t6;exact q3z qk8 qiD (fun e=>by rcases e with _|_<;>exact⟨_,rfl,fun h=>by cases h⟩) fun x=>by
   have:=qmp;have:=@q7Z.eq_1;have:=@q1V;have:=@Q4.eq_1;exact gA
theorem qpM:okL 24 q7d:=z7 (qc qo3) (by kernel_rfl) (by kernel_rfl)
def qo5:=JA_ @q7d.eq_1 (JA_ @Try.f24.eq_1 @qo3)
theorem qhk:lbO 24 4=q9W:=Q1 (qc qo3) rfl
theorem qha:okL 24 q9W:=zl qpM (qvs (i:=0) (by kernel_rfl))
theorem qgR:lbO 24 7=q8I:=Q1 (qc qo3) rfl
theorem qgT:okL 24 q8I:=zl qpM (qvs (i:=1) (by kernel_rfl))
theorem qtj:okL 30 q8y:=z7 (qc qoB) (by kernel_rfl) (by kernel_rfl)
def qtg:=JA_ @q8y.eq_1 (JA_ @Try.f30.eq_1 @qoB)
theorem qnA:lbO 30 2=qbG:=Q1 (qc qoB) rfl
theorem qmO:okL 30 qbG:=zl qtj (qvs (i:=0) (by kernel_rfl))
def Z0 (l:List ByteArray) (s:ByteArray):Int→Option (Int⊕(Unit⊕Unit))|k=>if k<((l.length:Nat):Int) then if 0≤k∧k<((l.length:Nat):Int) then Option.bind l[Int.toNat k]? fun(a:ByteArray)=>if(ByteArray.toList a==ByteArray.toList s)=Bool.true then some (Sum.inr (Sum.inl ())) else some (Sum.inl (w64 (k+1))) else none else some (Sum.inr (Sum.inr ()))
theorem q3s:∀(l:List ByteArray) (s:ByteArray) (k:Int),XL2 evo 30 0 2 ⟨[(0,rL 1 eS l),(1,rS s),(5,rI k)],[],0,18⟩=(zc (Z0 l s) k).bind (Sum.elim (fun(e:Unit)=>some (Exit.ret,⟨[(4,rB Bool.true)],[],0,18⟩)) (fun(e:Unit)=>some (Exit.exit 0,⟨[(4,R.any)],[],0,18⟩))):=
 fun l s k=>by
  revert k;exact q3z qnA qmO (fun e=>by rcases e with _|_<;>exact⟨_,rfl,fun h=>by cases h⟩) fun x=>by
   have:=qtg;have:=@qbG.eq_1;have:=@Z0.eq_1;exact gA
def Zb (l:List ByteArray) (s:ByteArray):Option Bool:=Option.bind (zc (Z0 l s) 0) fun(a:Sum Unit Unit)=>Sum.elim (fun(a2:Unit)=>some Bool.true) (fun(a3:Unit)=>some Bool.false) a
theorem Jk:∀(l:List ByteArray) (s:ByteArray),ev 30 0 [rL 1 eS l,rS s] []=(Zb l s).bind (fun(e:Bool)=>some (rB e,[])):=
 fun l s=>by
  rw[qU qoB qsL.2.2.2 qtj]
  have:=qtg;have:=@q3s;have:=@Zb.eq_1;exact gA
theorem qsJ:okL 31 q8N:=z7 (qc qox) (by kernel_rfl) (by kernel_rfl)
def qsh:=JA_ @q8N.eq_1 (JA_ @Try.f31.eq_1 @qox)
theorem qoo:lbO 31 4=qd8:=Q1 (qc qox) rfl
theorem qm5:okL 31 qd8:=zl qsJ (qvs (i:=0) (by kernel_rfl))
def QY (l:List ByteArray) (s:ByteArray):Int→Option (Int⊕Int)|at0=>if 0<at0 then if 0≤w64 (at0-1)∧w64 (at0-1)<((l.length:Nat):Int) then Option.bind l[Int.toNat (w64 (at0-1))]? fun(a:ByteArray)=>if(!(Op.bytesLess (ByteArray.toList a) (ByteArray.toList s)||ByteArray.toList a==ByteArray.toList s))=Bool.true then some (Sum.inl (w64 (at0-1))) else some (Sum.inr at0) else none else some (Sum.inr at0)
theorem q3p:∀(l:List ByteArray) (s:ByteArray) (at0:Int),XL2 evo 31 0 4 ⟨[(0,rL 1 eS l),(1,rS s),(5,rI at0)],[],0,39⟩=(zc (QY l s) at0).bind (fun(e:Int)=>some (Exit.exit 0,⟨[(0,rL 1 eS l),(1,rS s),(5,rI e)],[],0,39⟩)):=
 fun l s at0=>by
  revert at0;exact q3z qoo qm5 (fun e=>by exact⟨_,rfl,fun h=>by cases h⟩) fun x=>by
   have:=qsh;have:=@qd8.eq_1;have:=@QY.eq_1;exact gA
def J8 (l:List ByteArray) (s:ByteArray):Option (List ByteArray):=Option.bind (Zb l s) fun(a:Bool)=>if a=Bool.true then some l else Option.bind (zc (QY l s) ((l.length:Nat):Int)) fun(a2:Int)=>if 0≤a2∧a2≤((l.length:Nat):Int) then if(List.take (Int.toNat a2-0) l).length≤maxLen∧(List.take (Int.toNat a2-0) l).length*16≤140737488355328 then if(List.take (Int.toNat a2-0) l).length+1≤maxLen∧((List.take (Int.toNat a2-0) l).length+1)*16≤140737488355328 then if 0≤a2∧a2≤((l.length:Nat):Int) then if(List.take (Int.toNat a2-0) l).length+1+(List.take (l.length-Int.toNat a2) (List.drop (Int.toNat a2) l)).length≤maxLen∧((List.take (Int.toNat a2-0) l).length+1+(List.take (l.length-Int.toNat a2) (List.drop (Int.toNat a2) l)).length)*16≤140737488355328 then some ((List.take (Int.toNat a2-0) l++[s])++List.take (l.length-Int.toNat a2) (List.drop (Int.toNat a2) l)) else none else none else none else none else none
theorem q2h:∀(l:List ByteArray) (s:ByteArray),ev 31 0 [rL 1 eS l,rS s] []=(J8 l s).bind (fun(e:List ByteArray)=>some (rL 1 eS e,[])):=
 fun l s=>by
  rw[qU qox qtt.2.2.2 qsJ]
  have:=qsh;have:=@Jk;have:=@q3p;have:=@J8.eq_1;exact gA
theorem lo9:okL 9 qet:=z7 (qc bd9) (by kernel_rfl) (by kernel_rfl)
def cx9:=JA_ @qet.eq_1 (JA_ @Try.f9.eq_1 @bd9)
theorem qr3:lbO 9 3=qhS:=Q1 (qc bd9) rfl
theorem qpI:okL 9 qhS:=zl lo9 (qvs (i:=0) (by kernel_rfl))
theorem qsU:okL 34 q98:=z7 (qc qoS) (by kernel_rfl) (by kernel_rfl)
def qse:=JA_ @q98.eq_1 (JA_ @Try.f34.eq_1 @qoS)
theorem qlF:lbO 34 3=qdT:=Q1 (qc qoS) rfl
theorem qla:okL 34 qdT:=zl qsU (qvs (i:=0) (by kernel_rfl))
def zM (l:List ByteArray):(List ByteArray×Int)→Option ((List ByteArray×Int)⊕(List ByteArray))|(out,k)=>if k<((l.length:Nat):Int) then if k<7 then if 0≤k∧k<((l.length:Nat):Int) then Option.bind l[Int.toNat k]? fun(a:ByteArray)=>if 0≤k∧k<((l.length:Nat):Int) then Option.bind l[Int.toNat k]? fun(a2:ByteArray)=>if 0≤min ((ByteArray.size a2:Nat):Int) 12∧min ((ByteArray.size a2:Nat):Int) 12≤((ByteArray.size a:Nat):Int) then if out.length+1≤maxLen∧(out.length+1)*16≤140737488355328 then some (Sum.inl (out++[ByteArray.extract a 0 (Int.toNat (min ((ByteArray.size a2:Nat):Int) 12))],w64 (k+1))) else none else none else none else none else some (Sum.inr out) else some (Sum.inr out)
theorem q2n:∀(out l:List ByteArray) (k:Int) (out_len:Nat),out_len=out.length→XL2 evo 34 0 3 ⟨[(0,rL 1 eS l),(3,rO 0 1 out_len),(4,rI k)],[(0,bR 9 1 eS out)],1,30⟩=(zc (zM l) (out,k)).bind (fun(e:List ByteArray)=>some (Exit.exit 0,⟨[(3,rO 0 1 e.length)],[(0,bR 9 1 eS e)],1,30⟩)):=
 by
 intro out l k out_len h0
 subst h0
 revert k;revert out;exact qks qlF qla (fun e=>by exact⟨_,rfl,fun h=>by cases h⟩) fun out k=>by
  have:=qse;have:=@qdT.eq_1;have:=@zM.eq_1;exact gA
theorem q0W:∀  (l:List ByteArray) (k:Int),XL2 evo 34 0 3 ⟨[(0,rL 1 eS l),(3,rO 0 1 0),(4,rI k)],[(0,B.row 9 1 [])],1,30⟩=(zc (zM l) ([],k)).bind (fun(e:List ByteArray)=>some (Exit.exit 0,⟨[(3,rO 0 1 e.length)],[(0,bR 9 1 eS e)],1,30⟩)):=by
 intro l k;have h:=q2n [] l k _ rfl
 first
  | exact h
  | (simp only[rL,dL,bR,bZ,Nat.reduceAdd] at h;exact h)
def ZN (l:List ByteArray):Option (List ByteArray):=Option.bind (zc (zM l) ([],0)) fun(a:List ByteArray)=>some a
theorem q44:∀(l:List ByteArray),ev 34 0 [rL 1 eS l] []=(ZN l).bind (fun(e:List ByteArray)=>some (rL 1 eS e,[])):=
 fun l=>by
  rw[qU qoS qto.2.2.2 qsU]
  have:=qse;have:=@q0W;have:=@ZN.eq_1;exact gA
def Qa (l:List qa):(List qa×Int)→Option ((List qa×Int)⊕(List qa))|(out,k)=>if k<((l.length:Nat):Int) then if k<6 then if 0≤k∧k<((l.length:Nat):Int) then Option.bind l[Int.toNat k]? fun(a:qa)=>if 0≤min ((ByteArray.size a.Code:Nat):Int) 12∧min ((ByteArray.size a.Code:Nat):Int) 12≤((ByteArray.size a.Code:Nat):Int) then if 0≤min ((a.Slots.length:Nat):Int) 6∧min ((a.Slots.length:Nat):Int) 6≤((a.Slots.length:Nat):Int) then Option.bind (ZN a.Needs) fun(a2:List ByteArray)=>if out.length+1≤maxLen∧(out.length+1)*80≤140737488355328 then some (Sum.inl (out++[qa.mk (ByteArray.extract a.Code 0 (Int.toNat (min ((ByteArray.size a.Code:Nat):Int) 12))) a.Credits a.Places (List.take (Int.toNat (min ((a.Slots.length:Nat):Int) 6)-0) a.Slots) a2],w64 (k+1))) else none else none else none else none else some (Sum.inr out) else some (Sum.inr out)
theorem q3A:∀(out l:List qa) (k:Int) (out_len:Nat),out_len=out.length→XL2 evo 9 0 3 ⟨[(0,rL 5 qb l),(3,rO 0 5 out_len),(4,rI k)],[(0,bR 35 5 qb out)],1,45⟩=(zc (Qa l) (out,k)).bind (fun(e:List qa)=>some (Exit.exit 0,⟨[(3,rO 0 5 e.length)],[(0,bR 35 5 qb e)],1,45⟩)):=
 by
 intro out l k out_len h0
 subst h0
 revert k;revert out;exact qks qr3 qpI (fun e=>by exact⟨_,rfl,fun h=>by cases h⟩) fun out k=>by
  have:=cx9;have:=@qhS.eq_1;have:=@q44;have:=@Qa.eq_1;exact gA
theorem q2b:∀  (l:List qa) (k:Int),XL2 evo 9 0 3 ⟨[(0,rL 5 qb l),(3,rO 0 5 0),(4,rI k)],[(0,B.row 35 5 [])],1,45⟩=(zc (Qa l) ([],k)).bind (fun(e:List qa)=>some (Exit.exit 0,⟨[(3,rO 0 5 e.length)],[(0,bR 35 5 qb e)],1,45⟩)):=by
 intro l k;have h:=q3A [] l k _ rfl
 first
  | exact h
  | (simp only[rL,dL,bR,bZ,Nat.reduceAdd] at h;exact h)
def JL (l:List qa):Option (List qa):=Option.bind (zc (Qa l) ([],0)) fun(a:List qa)=>some a
theorem q5d:∀(l:List qa),ev 9 0 [rL 5 qb l] []=(JL l).bind (fun(e:List qa)=>some (rL 5 qb e,[])):=
 fun l=>by
  rw[qU bd9 pw9.2.2.2 lo9]
  have:=cx9;have:=@q2b;have:=@JL.eq_1;exact gA
theorem qoM:okL 10 q5s:=z7 (qc qkl) (by kernel_rfl) (by kernel_rfl)
def qoT:=JA_ @q5s.eq_1 (JA_ @Try.f10.eq_1 @qkl)
theorem qo0:lbO 10 5=qaU:=Q1 (qc qkl) rfl
theorem qkR:okL 10 qaU:=zl qoM (qvs (i:=0) (by kernel_rfl))
theorem qi1:lbO 10 10=q83:=Q1 (qc qkl) rfl
theorem qjX:okL 10 q83:=zl qoM (qvs (i:=1) (by kernel_rfl))
theorem qki:lbO 10 16=q8q:=Q1 (qc qkl) rfl
theorem qih:okL 10 q8q:=zl qoM (qvs (i:=2) (by kernel_rfl))
theorem qu1:okL 19 qba:=z7 (qc qqw) (by kernel_rfl) (by kernel_rfl)
def qvj:=JA_ @qba.eq_1 (JA_ @Try.f19.eq_1 @qqw)
def JH:Option (List ByteArray):=
 some [ByteArray.mk (List.toArray [65,49]),ByteArray.mk (List.toArray [66,49]),ByteArray.mk (List.toArray [66,50]),ByteArray.mk (List.toArray [67,49]),ByteArray.mk (List.toArray [68,49]),ByteArray.mk (List.toArray [69,57])]
def qd:List ByteArray:=
 [ByteArray.mk (List.toArray [65,49]),ByteArray.mk (List.toArray [66,49]),ByteArray.mk (List.toArray [66,50]),ByteArray.mk (List.toArray [67,49]),ByteArray.mk (List.toArray [68,49]),ByteArray.mk (List.toArray [69,57])]
theorem q3P:JH=some (qd):=by
 unfold JH qd
 simp only[q1B]
theorem q0O:ev 19 0 [] []=some (R.c (C.d (D.sl 1 (qd).length ((qd).flatMap eS))),[]):=
 by
  have h:ev 19 0 [] []=(JH).bind (fun(e:List ByteArray)=>some (rL 1 eS e,[])):=by
   rw[qU qqw qsA.2.2.2 qu1]
   have:=qvj;have:=@JH.eq_1;exact gA
  rw[q3P] at h
  exact h
theorem qu3:okL 35 qcq:=z7 (qc qpO) (by kernel_rfl) (by kernel_rfl)
def quH:=JA_ @qcq.eq_1 (JA_ @Try.f35.eq_1 @qpO)
theorem qvg:okL 37 qd5:=z7 (qc qqb) (by kernel_rfl) (by kernel_rfl)
def qv0:=JA_ @qd5.eq_1 (JA_ @Try.f37.eq_1 @qqb)
def Zc (n:Int) (m:Int):Option Int:=if m=0 then none else if m=0 then none else some (Int.tmod (w64 (Int.tmod n m+m)) m)
theorem q2g:∀(n m:Int),ev 37 0 [rI n,rI m] []=(Zc n m).bind (fun(e:Int)=>some (rI e,[])):=
 fun n m=>by
  rw[qU qqb qsi.2.2.2 qvg]
  have:=qv0;have:=@Zc.eq_1;exact gA
def zj (n:Int) (d:qi):Option (Int×qi):=if((d.L.length:Nat):Int)≤d.At then some (0,d) else if 0≤w64 (w64 (d.At+1)-1)∧w64 (w64 (d.At+1)-1)<((d.L.length:Nat):Int) then Option.bind d.L[Int.toNat (w64 (w64 (d.At+1)-1))]? fun(a:Int)=>Option.bind (Zc a n) fun(a2:Int)=>some (a2,qi.mk d.L (w64 (d.At+1))) else none
theorem Zn:∀(n:Int) (d_L:List Int) (d_At:Int),ev 35 1 [rP 0,rI n] [(0,B.blk 59 [dL 1 eI d_L,dI d_At])]=(zj n (qi.mk d_L d_At)).bind (fun(e:Int×qi)=>some (rI e.1,[(0,B.blk 59 [dL 1 eI e.2.L,dI e.2.At])])):=
 fun n d_L d_At=>by
  rw[qU qpO qtk.2.2.2 qu3]
  have:=quH;have:=@q2g;have:=@zj.eq_1;exact gA
def zw (w1:List qa) (b2_Code:ByteArray) (b2_Credits:Int) (b2_Places:Int) (t5:List ByteArray) (t6:Int):(List Int×qi×Int)→Option ((List Int×qi×Int)⊕(List Int×qi))|(w3,b0,t8)=>if 0<t8 then if w3.length+1≤maxLen∧(w3.length+1)*8≤140737488355328 then Option.bind (zj 2 b0) fun(a:Prod Int qi)=>if(a.1==1)=Bool.true then if 0≤w64 (((w3.length+1:Nat):Int)-1)∧w64 (((w3.length+1:Nat):Int)-1)<((w3.length+1:Nat):Int) then Option.bind (w3++[t8])[Int.toNat (w64 (((w3.length+1:Nat):Int)-1))]? fun(a2:Int)=>if a2<4 then if 0≤w64 (((w3.length+1:Nat):Int)-1)∧w64 (((w3.length+1:Nat):Int)-1)<((w3.length+1:Nat):Int) then Option.bind (w3++[t8])[Int.toNat (w64 (((w3.length+1:Nat):Int)-1))]? fun(a3:Int)=>some (Sum.inl (w3++[t8],a.2,w64 (a3+1))) else none else some (Sum.inl (w3++[t8],a.2,0)) else none else some (Sum.inl (w3++[t8],a.2,0)) else none else some (Sum.inr (w3,b0))
theorem q2s:∀(w1:List qa) (w3 b0_L:List Int) (b0_At:Int) (b2_Code:ByteArray) (b2_Credits b2_Places:Int) (t5:List ByteArray) (t6 t8:Int) (w1_len w3_len:Nat),w1_len=w1.length→w3_len=w3.length→XL2 evo 10 0 10 ⟨[(3,rP 0),(4,rO 1 5 w1_len),(5,rL 1 eS t5),(6,rI t6),(7,rP 2),(8,rI t8)],[(0,B.blk 59 [dL 1 eI b0_L,dI b0_At]),(1,bR 35 5 qb w1),(2,B.blk 35 [dS b2_Code,dI b2_Credits,dI b2_Places,dO 3 1 w3_len,C.nils]),(3,bR 3 1 eI w3)],4,101⟩=(zc (zw w1 b2_Code b2_Credits b2_Places t5 t6) (w3,(qi.mk b0_L b0_At),t8)).bind (fun(e:List Int×qi)=>some (Exit.exit 2,⟨[(3,rP 0),(4,rO 1 5 w1.length),(5,rL 1 eS t5),(6,rI t6),(7,rP 2)],[(0,B.blk 59 [dL 1 eI e.2.L,dI e.2.At]),(1,bR 35 5 qb w1),(2,B.blk 35 [dS b2_Code,dI b2_Credits,dI b2_Places,dO 3 1 e.1.length,C.nils]),(3,bR 3 1 eI e.1)],4,101⟩)):=
 by
 intro w1 w3 b0_L b0_At b2_Code b2_Credits b2_Places t5 t6 t8 w1_len w3_len h0 h1
 subst h0 h1
 have h:=q5Q (E:=evo) (f:=10) (k:=0) (st:=fun x:List Int×qi×Int=>(⟨[(3,rP 0),(4,rO 1 5 w1.length),(5,rL 1 eS t5),(6,rI t6),(7,rP 2),(8,rI x.2.2)],[(0,B.blk 59 [dL 1 eI x.2.1.L,dI x.2.1.At]),(1,bR 35 5 qb w1),(2,B.blk 35 [dS b2_Code,dI b2_Credits,dI b2_Places,dO 3 1 x.1.length,C.nils]),(3,bR 3 1 eI x.1)],4,101⟩:S)) (ex:=fun(e:List Int×qi)=>(Exit.exit 2,⟨[(3,rP 0),(4,rO 1 5 w1.length),(5,rL 1 eS t5),(6,rI t6),(7,rP 2)],[(0,B.blk 59 [dL 1 eI e.2.L,dI e.2.At]),(1,bR 35 5 qb w1),(2,B.blk 35 [dS b2_Code,dI b2_Credits,dI b2_Places,dO 3 1 e.1.length,C.nils]),(3,bR 3 1 eI e.1)],4,101⟩)) (step:=(zw w1 b2_Code b2_Credits b2_Places t5 t6)) qi1 qjX (fun e h=>by cases h) (fun x=>by
  obtain⟨w3,b0,t8⟩:=x;have:=qoT;have:=@q83.eq_1;have:=@Zn;have:=@zw.eq_1;exact gA) (w3,(qi.mk b0_L b0_At),t8)
 exact h
theorem q0V:∀  (w1:List qa) (b0_L:List Int) (b0_At:Int) (b2_Code:ByteArray) (b2_Credits b2_Places:Int) (t5:List ByteArray) (t6 t8:Int) (w1_len:Nat),w1_len=w1.length→XL2 evo 10 0 10 ⟨[(3,rP 0),(4,rO 1 5 w1_len),(5,rL 1 eS t5),(6,rI t6),(7,rP 2),(8,rI t8)],[(0,B.blk 59 [dL 1 eI b0_L,dI b0_At]),(1,bR 35 5 qb w1),(2,B.blk 35 [dS b2_Code,dI b2_Credits,dI b2_Places,dO 3 1 0,C.nils]),(3,B.row 3 1 [])],4,101⟩=(zc (zw w1 b2_Code b2_Credits b2_Places t5 t6) ([],(qi.mk b0_L b0_At),t8)).bind (fun(e:List Int×qi)=>some (Exit.exit 2,⟨[(3,rP 0),(4,rO 1 5 w1.length),(5,rL 1 eS t5),(6,rI t6),(7,rP 2)],[(0,B.blk 59 [dL 1 eI e.2.L,dI e.2.At]),(1,bR 35 5 qb w1),(2,B.blk 35 [dS b2_Code,dI b2_Credits,dI b2_Places,dO 3 1 e.1.length,C.nils]),(3,bR 3 1 eI e.1)],4,101⟩)):=by
 intro w1 b0_L b0_At b2_Code b2_Credits b2_Places t5 t6 t8 w1_len h0;subst h0;have h:=q2s w1 [] ((qi.mk b0_L b0_At)).L ((qi.mk b0_L b0_At)).At b2_Code b2_Credits b2_Places t5 t6 t8 _ _ rfl rfl
 first
  | exact h
  | (simp only[rL,dL,bR,bZ,Nat.reduceAdd] at h;exact h)
def zN (w1:List qa) (w3:List Int) (b2_Code:ByteArray) (b2_Credits:Int) (b2_Places:Int) (t5:List ByteArray) (t6:Int):(List ByteArray×qi×Int)→Option ((List ByteArray×qi×Int)⊕(List ByteArray×qi))|(w4,b0,t9)=>if t9<((w1.length:Nat):Int) then Option.bind (zj 3 b0) fun(a:Prod Int qi)=>if(a.1==0)=Bool.true then if((w4.length:Nat):Int)<2 then if 0≤t9∧t9<((w1.length:Nat):Int) then Option.bind w1[Int.toNat t9]? fun(a2:qa)=>if w4.length+1≤maxLen∧(w4.length+1)*16≤140737488355328 then some (Sum.inl (w4++[a2.Code],a.2,w64 (t9+1))) else none else none else some (Sum.inl (w4,a.2,w64 (t9+1))) else some (Sum.inl (w4,a.2,w64 (t9+1))) else some (Sum.inr (w4,b0))
theorem q2D:∀(w1:List qa) (w3:List Int) (w4:List ByteArray) (b0_L:List Int) (b0_At:Int) (b2_Code:ByteArray) (b2_Credits b2_Places:Int) (t5:List ByteArray) (t6 t9:Int) (w1_len w3_len w4_len:Nat),w1_len=w1.length→w3_len=w3.length→w4_len=w4.length→XL2 evo 10 0 16 ⟨[(3,rP 0),(4,rO 1 5 w1_len),(5,rL 1 eS t5),(6,rI t6),(7,rP 2),(9,rI t9)],[(0,B.blk 59 [dL 1 eI b0_L,dI b0_At]),(1,bR 35 5 qb w1),(2,B.blk 35 [dS b2_Code,dI b2_Credits,dI b2_Places,dO 3 1 w3_len,dO 4 1 w4_len]),(3,bR 3 1 eI w3),(4,bR 9 1 eS w4)],5,101⟩=(zc (zN w1 w3 b2_Code b2_Credits b2_Places t5 t6) (w4,(qi.mk b0_L b0_At),t9)).bind (fun(e:List ByteArray×qi)=>some (Exit.exit 4,⟨[(3,rP 0),(4,rO 1 5 w1.length),(5,rL 1 eS t5),(6,rI t6),(7,rP 2)],[(0,B.blk 59 [dL 1 eI e.2.L,dI e.2.At]),(1,bR 35 5 qb w1),(2,B.blk 35 [dS b2_Code,dI b2_Credits,dI b2_Places,dO 3 1 w3.length,dO 4 1 e.1.length]),(3,bR 3 1 eI w3),(4,bR 9 1 eS e.1)],5,101⟩)):=
 by
 intro w1 w3 w4 b0_L b0_At b2_Code b2_Credits b2_Places t5 t6 t9 w1_len w3_len w4_len h0 h1 h2
 subst h0 h1 h2
 have h:=q5Q (E:=evo) (f:=10) (k:=0) (st:=fun x:List ByteArray×qi×Int=>(⟨[(3,rP 0),(4,rO 1 5 w1.length),(5,rL 1 eS t5),(6,rI t6),(7,rP 2),(9,rI x.2.2)],[(0,B.blk 59 [dL 1 eI x.2.1.L,dI x.2.1.At]),(1,bR 35 5 qb w1),(2,B.blk 35 [dS b2_Code,dI b2_Credits,dI b2_Places,dO 3 1 w3.length,dO 4 1 x.1.length]),(3,bR 3 1 eI w3),(4,bR 9 1 eS x.1)],5,101⟩:S)) (ex:=fun(e:List ByteArray×qi)=>(Exit.exit 4,⟨[(3,rP 0),(4,rO 1 5 w1.length),(5,rL 1 eS t5),(6,rI t6),(7,rP 2)],[(0,B.blk 59 [dL 1 eI e.2.L,dI e.2.At]),(1,bR 35 5 qb w1),(2,B.blk 35 [dS b2_Code,dI b2_Credits,dI b2_Places,dO 3 1 w3.length,dO 4 1 e.1.length]),(3,bR 3 1 eI w3),(4,bR 9 1 eS e.1)],5,101⟩)) (step:=(zN w1 w3 b2_Code b2_Credits b2_Places t5 t6)) qki qih (fun e h=>by cases h) (fun x=>by
  obtain⟨w4,b0,t9⟩:=x;have:=qoT;have:=@q8q.eq_1;have:=@Zn;have:=@zN.eq_1;exact gA) (w4,(qi.mk b0_L b0_At),t9)
 exact h
theorem q12:∀  (w1:List qa) (w3 b0_L:List Int) (b0_At:Int) (b2_Code:ByteArray) (b2_Credits b2_Places:Int) (t5:List ByteArray) (t6 t9:Int) (w1_len w3_len:Nat),w1_len=w1.length→w3_len=w3.length→XL2 evo 10 0 16 ⟨[(3,rP 0),(4,rO 1 5 w1_len),(5,rL 1 eS t5),(6,rI t6),(7,rP 2),(9,rI t9)],[(0,B.blk 59 [dL 1 eI b0_L,dI b0_At]),(1,bR 35 5 qb w1),(2,B.blk 35 [dS b2_Code,dI b2_Credits,dI b2_Places,dO 3 1 w3_len,dO 4 1 0]),(3,bR 3 1 eI w3),(4,B.row 9 1 [])],5,101⟩=(zc (zN w1 w3 b2_Code b2_Credits b2_Places t5 t6) ([],(qi.mk b0_L b0_At),t9)).bind (fun(e:List ByteArray×qi)=>some (Exit.exit 4,⟨[(3,rP 0),(4,rO 1 5 w1.length),(5,rL 1 eS t5),(6,rI t6),(7,rP 2)],[(0,B.blk 59 [dL 1 eI e.2.L,dI e.2.At]),(1,bR 35 5 qb w1),(2,B.blk 35 [dS b2_Code,dI b2_Credits,dI b2_Places,dO 3 1 w3.length,dO 4 1 e.1.length]),(3,bR 3 1 eI w3),(4,bR 9 1 eS e.1)],5,101⟩)):=by
 intro w1 w3 b0_L b0_At b2_Code b2_Credits b2_Places t5 t6 t9 w1_len w3_len h0 h1;subst h0 h1;have h:=q2D w1 w3 [] ((qi.mk b0_L b0_At)).L ((qi.mk b0_L b0_At)).At b2_Code b2_Credits b2_Places t5 t6 t9 _ _ _ rfl rfl rfl
 first
  | exact h
  | (simp only[rL,dL,bR,bZ,Nat.reduceAdd] at h;exact h)
def zg (t5:List ByteArray):(List qa×qi×Int)→Option ((List qa×qi×Int)⊕(List qa))|(w1,b0,t6)=>if t6<((t5.length:Nat):Int) then Option.bind (zj 5 b0) fun(a:Prod Int qi)=>if(a.1==4)=Bool.true then some (Sum.inl (w1,a.2,w64 (t6+1))) else if 0≤t6∧t6<((t5.length:Nat):Int) then Option.bind t5[Int.toNat t6]? fun(a2:ByteArray)=>Option.bind (zj 6 a.2) fun(a3:Prod Int qi)=>if 0≤a3.1∧a3.1<6 then Option.bind [(5:Int),6,3,10,5,20][Int.toNat a3.1]? fun(a4:Int)=>Option.bind (zj 6 a3.2) fun(a5:Prod Int qi)=>if 0≤a5.1∧a5.1<6 then Option.bind [(2:Int),1,0,30,200,3][Int.toNat a5.1]? fun(a6:Int)=>Option.bind (zj 4 a5.2) fun(a7:Prod Int qi)=>Option.bind (zc (zw w1 a2 a4 a6 t5 t6) ([],(a7.2,a7.1))) fun(a8:Prod (List Int) qi)=>Option.bind (zc (zN w1 a8.1 a2 a4 a6 t5 t6) ([],(a8.2,0))) fun(a9:Prod (List ByteArray) qi)=>if w1.length+1≤maxLen∧(w1.length+1)*80≤140737488355328 then some (Sum.inl (w1++[qa.mk a2 a4 a6 a8.1 a9.1],a9.2,w64 (t6+1))) else none else none else none else none else some (Sum.inr w1)
theorem q2P:∀(w1:List qa) (b0_L:List Int) (b0_At:Int) (t5:List ByteArray) (t6:Int) (w1_len:Nat),w1_len=w1.length→XL2 evo 10 0 5 ⟨[(3,rP 0),(4,rO 1 5 w1_len),(5,rL 1 eS t5),(6,rI t6)],[(0,B.blk 59 [dL 1 eI b0_L,dI b0_At]),(1,bR 35 5 qb w1)],2,101⟩=(zc (zg t5) (w1,(qi.mk b0_L b0_At),t6)).bind (fun(e:List qa)=>some (Exit.exit 0,⟨[(4,rO 0 5 e.length)],[(0,bR 35 5 qb e)],1,101⟩)):=
 by
 intro w1 b0_L b0_At t5 t6 w1_len h0
 subst h0
 have h:=q5Q (E:=evo) (f:=10) (k:=0) (st:=fun x:List qa×qi×Int=>(⟨[(3,rP 0),(4,rO 1 5 x.1.length),(5,rL 1 eS t5),(6,rI x.2.2)],[(0,B.blk 59 [dL 1 eI x.2.1.L,dI x.2.1.At]),(1,bR 35 5 qb x.1)],2,101⟩:S)) (ex:=fun(e:List qa)=>(Exit.exit 0,⟨[(4,rO 0 5 e.length)],[(0,bR 35 5 qb e)],1,101⟩)) (step:=(zg t5)) qo0 qkR (fun e h=>by cases h) (fun x=>by
  obtain⟨w1,b0,t6⟩:=x;have:=qoT;have:=@qaU.eq_1;have:=@Zn;have:=@q0V;have:=@q12;have:=@zg.eq_1;exact gA) (w1,(qi.mk b0_L b0_At),t6)
 exact h
theorem q1d:∀  (b0_L:List Int) (b0_At:Int) (t5:List ByteArray) (t6:Int),XL2 evo 10 0 5 ⟨[(3,rP 0),(4,rO 1 5 0),(5,rL 1 eS t5),(6,rI t6)],[(0,B.blk 59 [dL 1 eI b0_L,dI b0_At]),(1,B.row 35 5 [])],2,101⟩=(zc (zg t5) ([],(qi.mk b0_L b0_At),t6)).bind (fun(e:List qa)=>some (Exit.exit 0,⟨[(4,rO 0 5 e.length)],[(0,bR 35 5 qb e)],1,101⟩)):=by
 intro b0_L b0_At t5 t6;have h:=q2P [] ((qi.mk b0_L b0_At)).L ((qi.mk b0_L b0_At)).At t5 t6 _ rfl
 first
  | exact h
  | (simp only[rL,dL,bR,bZ,Nat.reduceAdd] at h;exact h)
def ZE (x0:List Int):Option (List qa):=Option.bind (zc (zg qd) ([],(qi.mk x0 0,0))) fun(a:List qa)=>some a
theorem q4O:∀(x0:List Int),ev 10 0 [rL 1 eI x0] []=(ZE x0).bind (fun(e:List qa)=>some (rL 5 qb e,[])):=
 fun x0=>by
  rw[qU qkl qrV.2.2.2 qoM]
  have:=qoT;have:=@q0O;have:=@q1d;have:=@ZE.eq_1;exact gA
def zh (l:List qa) (next:List ByteArray):(List ByteArray×List ByteArray×Int)→Option ((List ByteArray×List ByteArray×Int)⊕(List ByteArray×List ByteArray))|(more,out,k)=>if k<((next.length:Nat):Int) then if 0≤k∧k<((next.length:Nat):Int) then Option.bind next[Int.toNat k]? fun(a:ByteArray)=>Option.bind (Zb out a) fun(a2:Bool)=>if(!a2)=Bool.true then if 0≤k∧k<((next.length:Nat):Int) then Option.bind next[Int.toNat k]? fun(a3:ByteArray)=>Option.bind (J8 out a3) fun(a4:List ByteArray)=>if 0≤k∧k<((next.length:Nat):Int) then Option.bind next[Int.toNat k]? fun(a5:ByteArray)=>Option.bind (QM l a5) fun(a6:Prod qa Bool)=>if more.length+a6.1.Needs.length≤maxLen∧(more.length+a6.1.Needs.length)*16≤140737488355328 then some (Sum.inl (more++a6.1.Needs,a4,w64 (k+1))) else none else none else none else some (Sum.inl (more,out,w64 (k+1))) else none else some (Sum.inr (more,out))
theorem q2F:∀(more:List ByteArray) (l:List qa) (out next:List ByteArray) (k:Int) (more_len:Nat),more_len=more.length→XL2 evo 24 0 7 ⟨[(0,rL 5 qb l),(5,rL 1 eS out),(8,rL 1 eS next),(9,rO 0 1 more_len),(10,rI k)],[(0,bR 9 1 eS more)],1,58⟩=(zc (zh l next) (more,out,k)).bind (fun(e:List ByteArray×List ByteArray)=>some (Exit.exit 2,⟨[(0,rL 5 qb l),(5,rL 1 eS e.2),(9,rO 0 1 e.1.length)],[(0,bR 9 1 eS e.1)],1,58⟩)):=
 by
 intro more l out next k more_len h0
 subst h0
 revert k;revert out;revert more;exact qqY qgR qgT (fun e=>by exact⟨_,rfl,fun h=>by cases h⟩) fun more out k=>by
  have:=qo5;have:=@q8I.eq_1;have:=@Jk;have:=@q2h;have:=@ZY;have:=@zh.eq_1;exact gA
theorem q0S:∀  (l:List qa) (out next:List ByteArray) (k:Int),XL2 evo 24 0 7 ⟨[(0,rL 5 qb l),(5,rL 1 eS out),(8,rL 1 eS next),(9,rO 0 1 0),(10,rI k)],[(0,B.row 9 1 [])],1,58⟩=(zc (zh l next) ([],out,k)).bind (fun(e:List ByteArray×List ByteArray)=>some (Exit.exit 2,⟨[(0,rL 5 qb l),(5,rL 1 eS e.2),(9,rO 0 1 e.1.length)],[(0,bR 9 1 eS e.1)],1,58⟩)):=by
 intro l out next k;have h:=q2F [] l out next k _ rfl
 first
  | exact h
  | (simp only[rL,dL,bR,bZ,Nat.reduceAdd] at h;exact h)
def Qx (next:List ByteArray) (l:List qa):(List ByteArray×List ByteArray×Int)→Option ((List ByteArray×List ByteArray×Int)⊕(List ByteArray×List ByteArray))|(more,out,k)=>if k<((next.length:Nat):Int) then if 0≤k∧k<((next.length:Nat):Int) then Option.bind next[Int.toNat k]? fun(a:ByteArray)=>Option.bind (Zb out a) fun(a2:Bool)=>if(!a2)=Bool.true then if 0≤k∧k<((next.length:Nat):Int) then Option.bind next[Int.toNat k]? fun(a3:ByteArray)=>Option.bind (J8 out a3) fun(a4:List ByteArray)=>if 0≤k∧k<((next.length:Nat):Int) then Option.bind next[Int.toNat k]? fun(a5:ByteArray)=>Option.bind (QM l a5) fun(a6:Prod qa Bool)=>if more.length+a6.1.Needs.length≤maxLen∧(more.length+a6.1.Needs.length)*16≤140737488355328 then some (Sum.inl (more++a6.1.Needs,a4,w64 (k+1))) else none else none else none else some (Sum.inl (more,out,w64 (k+1))) else none else some (Sum.inr (more,out))
theorem q1n:∀(next more:List ByteArray) (l:List qa) (out:List ByteArray) (k:Int) (next_len more_len:Nat),next_len=next.length→more_len=more.length→XL2 evo 24 0 7 ⟨[(0,rL 5 qb l),(5,rL 1 eS out),(8,rO 0 1 next_len),(9,rO 1 1 more_len),(10,rI k)],[(0,bR 9 1 eS next),(1,bR 9 1 eS more)],2,58⟩=(zc (Qx next l) (more,out,k)).bind (fun(e:List ByteArray×List ByteArray)=>some (Exit.exit 2,⟨[(0,rL 5 qb l),(5,rL 1 eS e.2),(9,rO 0 1 e.1.length)],[(0,bR 9 1 eS e.1)],1,58⟩)):=
 by
 intro next more l out k next_len more_len h0 h1
 subst h0 h1
 revert k;revert out;revert more;exact qqY qgR qgT (fun e=>by exact⟨_,rfl,fun h=>by cases h⟩) fun more out k=>by
  have:=qo5;have:=@q8I.eq_1;have:=@Jk;have:=@q2h;have:=@ZY;have:=@Qx.eq_1;exact gA
theorem q0h:∀  (next:List ByteArray) (l:List qa) (out:List ByteArray) (k:Int) (next_len:Nat),next_len=next.length→XL2 evo 24 0 7 ⟨[(0,rL 5 qb l),(5,rL 1 eS out),(8,rO 0 1 next_len),(9,rO 1 1 0),(10,rI k)],[(0,bR 9 1 eS next),(1,B.row 9 1 [])],2,58⟩=(zc (Qx next l) ([],out,k)).bind (fun(e:List ByteArray×List ByteArray)=>some (Exit.exit 2,⟨[(0,rL 5 qb l),(5,rL 1 eS e.2),(9,rO 0 1 e.1.length)],[(0,bR 9 1 eS e.1)],1,58⟩)):=by
 intro next l out k next_len h0;subst h0;have h:=q1n next [] l out k _ _ rfl rfl
 first
  | exact h
  | (simp only[rL,dL,bR,bZ,Nat.reduceAdd] at h;exact h)
def zo (l:List qa):(List ByteArray×List ByteArray)→Option ((List ByteArray×List ByteArray)⊕(List ByteArray))|(next,out)=>if 0<((next.length:Nat):Int) then Option.bind (zc (Qx next l) ([],(out,0))) fun(a:Prod (List ByteArray) (List ByteArray))=>some (Sum.inl (a.1,a.2)) else some (Sum.inr out)
theorem q1g:∀(next:List ByteArray) (l:List qa) (out:List ByteArray) (next_len:Nat),next_len=next.length→XL2 evo 24 0 4 ⟨[(0,rL 5 qb l),(5,rL 1 eS out),(8,rO 0 1 next_len)],[(0,bR 9 1 eS next)],1,58⟩=(zc (zo l) (next,out)).bind (fun(e:List ByteArray)=>some (Exit.exit 0,⟨[(5,rL 1 eS e)],[],0,58⟩)):=
 by
 intro next l out next_len h0
 subst h0
 revert out;revert next;exact qks qhk qha (fun e=>by exact⟨_,rfl,fun h=>by cases h⟩) fun next out=>by
  have:=qo5;have:=@q9W.eq_1;have:=@q0h;have:=@zo.eq_1;exact gA
def Qw (l:List qa) (out:List ByteArray) (next:List ByteArray):Option (List ByteArray):=if 0<((next.length:Nat):Int) then Option.bind (zc (zh l next) ([],(out,0))) fun(a:Prod (List ByteArray) (List ByteArray))=>Option.bind (zc (zo l) (a.1,a.2)) fun(e0:List ByteArray)=>some e0 else some out
theorem q1s:∀(l:List qa) (out next:List ByteArray),XL2 evo 24 0 4 ⟨[(0,rL 5 qb l),(5,rL 1 eS out),(8,rL 1 eS next)],[],0,58⟩=(Qw l out next).bind (fun(e:List ByteArray)=>some (Exit.exit 0,⟨[(5,rL 1 eS e)],[],0,58⟩)):=
 fun l out next=>by
  rw[qii qhk qha]
  have:=qo5;have:=@q9W.eq_1;have:=@qbA;have:=@qip;have:=@qnh;have:=@qhZ;have:=@qo8;have:=@qj1;have:=@qm3;have:=@q1g;have:=@q0S;have:=@Qw.eq_1;exact gA
theorem q0t:∀  (l:List qa) (next:List ByteArray),XL2 evo 24 0 4 ⟨[(0,rL 5 qb l),(5,R.c (C.d (D.sl 1 0 []))),(8,rL 1 eS next)],[],0,58⟩=(Qw l [] next).bind (fun(e:List ByteArray)=>some (Exit.exit 0,⟨[(5,rL 1 eS e)],[],0,58⟩)):=by
 intro l next;have h:=q1s l [] next
 first
  | exact h
  | (simp only[rL,dL,bR,bZ,Nat.reduceAdd] at h;exact h)
def ZO (l:List qa) (code:ByteArray):Option (List ByteArray):=Option.bind (QM l code) fun(a:Prod qa Bool)=>Option.bind (Qw l [] a.1.Needs) fun(a2:List ByteArray)=>some a2
theorem q40:∀(l:List qa) (code:ByteArray),ev 24 0 [rL 5 qb l,rS code] []=(ZO l code).bind (fun(e:List ByteArray)=>some (rL 1 eS e,[])):=
 fun l code=>by
  rw[qU qo3 qts.2.2.2 qpM]
  have:=qo5;have:=@ZY;have:=@q0t;have:=@ZO.eq_1;exact gA
def Q9 (t0:List qa):Int→Option (Int⊕(Unit⊕Unit))|t10=>if t10<((t0.length:Nat):Int) then if 0≤t10∧t10<((t0.length:Nat):Int) then Option.bind t0[Int.toNat t10]? fun(a:qa)=>Option.bind (ZO t0 a.Code) fun(a2:List ByteArray)=>if 0≤t10∧t10<((t0.length:Nat):Int) then Option.bind t0[Int.toNat t10]? fun(a3:qa)=>Option.bind (Zb a2 a3.Code) fun(a4:Bool)=>if a4=Bool.true then some (Sum.inr (Sum.inl ())) else some (Sum.inl (w64 (t10+1))) else none else none else some (Sum.inr (Sum.inr ()))
theorem q1Y:∀(t0:List qa) (t10:Int),XL2 evo 13 0 26 ⟨[(0,rL 5 qb t0),(10,rI t10)],[],0,121⟩=(zc (Q9 t0) t10).bind (Sum.elim (fun(e:Unit)=>some (Exit.ret,⟨[(2,rI 14)],[],0,121⟩)) (fun(e:Unit)=>some (Exit.exit 7,⟨[(2,R.any)],[],0,121⟩))):=
 fun t0 t10=>by
  revert t10;exact q3z qhz qiL (fun e=>by rcases e with _|_<;>exact⟨_,rfl,fun h=>by cases h⟩) fun x=>by
   have:=qmp;have:=@q87.eq_1;have:=@q40;have:=@Jk;have:=@Q9.eq_1;exact gA
def ZP (x0:List qa):Option Int:=if 60<((x0.length:Nat):Int) then some 2 else Option.bind (zc (zP x0) 0) fun(a:Sum Int Unit)=>Sum.elim (fun(a2:Int)=>some a2) (fun(a3:Unit)=>Option.bind (zc (Q4 x0) 0) fun(a4:Sum Unit Unit)=>Sum.elim (fun(a5:Unit)=>some 5) (fun(a6:Unit)=>Option.bind (zc (Q9 x0) 0) fun(a7:Sum Unit Unit)=>Sum.elim (fun(a8:Unit)=>some 14) (fun(a9:Unit)=>some 0) a7) a4) a
theorem q47:∀(x0:List qa),ev 13 0 [rL 5 qb x0] []=(ZP x0).bind (fun(e:Int)=>some (rI e,[])):=
 fun x0=>by
  rw[qU qhn qsE.2.2.2 qky]
  have:=qmp;have:=@q2C;have:=@q1N;have:=@q1Y;have:=@ZP.eq_1;exact gA
theorem qrN:okL 11 q7o:=z7 (qc ql2) (by kernel_rfl) (by kernel_rfl)
def qrS:=JA_ @q7o.eq_1 (JA_ @Try.f11.eq_1 @ql2)
theorem qkF:lbO 11 3=qbg:=Q1 (qc ql2) rfl
theorem qmU:okL 11 qbg:=zl qrN (qvs (i:=0) (by kernel_rfl))
theorem qiB:lbO 11 33=q7G:=Q1 (qc ql2) rfl
theorem qhu:okL 11 q7G:=zl qrN (qvs (i:=1) (by kernel_rfl))
def Qj (b0:q6F Int) (t0:List qa):(List qa×Int)→Option ((List qa×Int)⊕(List qa))|(w1,t6)=>if t6<((t0.length:Nat):Int) then if 0≤t6∧t6<((t0.length:Nat):Int) then Option.bind t0[Int.toNat t6]? fun(a:qa)=>Option.bind (ZH a) fun(a2:Prod ByteArray (Prod Int (Prod Int (Prod (List Int) (List ByteArray)))))=>if w1.length+1≤maxLen∧(w1.length+1)*80≤140737488355328 then some (Sum.inl (w1++[qa.mk a2.1 a2.2.1 a2.2.2.1 a2.2.2.2.1 a2.2.2.2.2],w64 (t6+1))) else none else none else some (Sum.inr w1)
theorem q3m:∀(w1:List qa) (b0_0 b0_1 b0_2:Int) (t0:List qa) (t6:Int) (w1_len:Nat),w1_len=w1.length→XL2 evo 11 0 3 ⟨[(0,rL 5 qb t0),(3,rP 0),(5,rO 1 5 w1_len),(6,rI t6)],[(0,B.blk 23 [dI b0_0,dI b0_1,dI b0_2]),(1,B.row 35 5 (w1.flatMap qn))],2,186⟩=(zc (Qj (q6F.mk b0_0 b0_1 b0_2) t0) (w1,t6)).bind (fun(e:List qa)=>some (Exit.exit 0,⟨[(3,rP 0),(5,rO 1 5 e.length)],[(0,B.blk 23 [dI b0_0,dI b0_1,dI b0_2]),(1,B.row 35 5 (e.flatMap qn))],2,186⟩)):=
 by
 intro w1 b0_0 b0_1 b0_2 t0 t6 w1_len h0
 subst h0
 revert t6;revert w1;exact qks qkF qmU (fun e=>by exact⟨_,rfl,fun h=>by cases h⟩) fun w1 t6=>by
  have:=qrS;have:=@qbg.eq_1;have:=@q1f;have:=@Qj.eq_1;exact gA
theorem q1W:∀  (b0_0 b0_1 b0_2:Int) (t0:List qa) (t6:Int),XL2 evo 11 0 3 ⟨[(0,rL 5 qb t0),(3,rP 0),(5,rO 1 5 0),(6,rI t6)],[(0,B.blk 23 [dI b0_0,dI b0_1,dI b0_2]),(1,B.row 35 5 [])],2,186⟩=(zc (Qj (q6F.mk b0_0 b0_1 b0_2) t0) ([],t6)).bind (fun(e:List qa)=>some (Exit.exit 0,⟨[(3,rP 0),(5,rO 1 5 e.length)],[(0,B.blk 23 [dI b0_0,dI b0_1,dI b0_2]),(1,B.row 35 5 (e.flatMap qn))],2,186⟩)):=by
 intro b0_0 b0_1 b0_2 t0 t6;have h:=q3m [] ((q6F.mk b0_0 b0_1 b0_2)).a0 ((q6F.mk b0_0 b0_1 b0_2)).a1 ((q6F.mk b0_0 b0_1 b0_2)).a2 t0 t6 _ rfl
 first
  | exact h
  | (simp only[rL,dL,bR,bZ,Nat.reduceAdd] at h;exact h)
def Qr (t7:Int):(List qa)→Option ((List qa)⊕(List qa))|w0=>if((w0.length:Nat):Int)<w64 (60+Int.tmod t7 2) then if ByteArray.size (ByteArray.mk (List.toArray [89]))+ByteArray.size (strOf [IntKind.wrap IntKind.u8 (w64 (65+w64 (Int.tdiv ((w0.length:Nat):Int) 10))),IntKind.wrap IntKind.u8 (w64 (48+Int.tmod ((w0.length:Nat):Int) 10))])≤9223372036854775807 then if w0.length+1≤maxLen∧(w0.length+1)*80≤140737488355328 then some (Sum.inl (w0++[qa.mk (ByteArray.mk (List.toArray [89])++strOf [IntKind.wrap IntKind.u8 (w64 (65+w64 (Int.tdiv ((w0.length:Nat):Int) 10))),IntKind.wrap IntKind.u8 (w64 (48+Int.tmod ((w0.length:Nat):Int) 10))]) 1 0 [] []])) else none else none else some (Sum.inr w0)
theorem q2X:∀(w0:List qa) (t7:Int) (w0_len:Nat),w0_len=w0.length→XL2 evo 11 0 33 ⟨[(5,rO 0 5 w0_len),(7,rI t7)],[(0,B.row 35 5 (w0.flatMap qn))],1,186⟩=(zc (Qr t7) w0).bind (fun(e:List qa)=>some (Exit.exit 3,⟨[(5,rO 0 5 e.length)],[(0,B.row 35 5 (e.flatMap qn))],1,186⟩)):=
 by
 intro w0 t7 w0_len h0
 subst h0
 revert w0;exact q3z qiB qhu (fun e=>by exact⟨_,rfl,fun h=>by cases h⟩) fun x=>by
  have:=qrS;have:=@q7G.eq_1;have:=@Qr.eq_1;exact gA
def Zd (x0:List qa) (x1:q6F Int):Option (List qa):=Option.bind (zc (Qj x1 x0) ([],0)) fun(a:List qa)=>if(((a.length:Nat):Int)==0)=Bool.true then some a else Option.bind (Zc x1.a1 72) fun(a2:Int)=>Option.bind (Zc x1.a2 ((a.length:Nat):Int)) fun(a3:Int)=>if 0≤a3∧a3<((a.length:Nat):Int) then Option.bind (Zc x1.a0 11) fun(a4:Int)=>if(a4==0)=Bool.true then if 0≤Int.tmod a2 8∧Int.tmod a2 8<8 then Option.bind [ByteArray.mk (List.toArray []),ByteArray.mk (List.toArray [97]),ByteArray.mk (List.toArray [65,66,67,68,69,70,71,72,73]),ByteArray.mk (List.toArray [65,49]),ByteArray.mk (List.toArray [66,50]),ByteArray.mk (List.toArray [90]),ByteArray.mk (List.toArray [65,66,67,68,69,70,71,72]),ByteArray.mk (List.toArray [65,32,49])][Int.toNat (Int.tmod a2 8)]? fun(a5:ByteArray)=>if Int.toNat a3*5+1≤a.length*5 then some (List.modify a (Int.toNat a3) (fun(x:qa)=>qa.mk a5 x.Credits x.Places x.Slots x.Needs)) else none else none else if(a4==1)=Bool.true then if Int.toNat a3*5+1+1≤a.length*5 then some (List.modify a (Int.toNat a3) (fun(x2:qa)=>qa.mk x2.Code (w64 (a2-5)) x2.Places x2.Slots x2.Needs)) else none else if(a4==2)=Bool.true then if 0≤Int.tmod a2 4∧Int.tmod a2 4<4 then Option.bind [(-1),0,200,201][Int.toNat (Int.tmod a2 4)]? fun(a6:Int)=>if Int.toNat a3*5+2+1≤a.length*5 then some (List.modify a (Int.toNat a3) (fun(x3:qa)=>qa.mk x3.Code x3.Credits a6 x3.Slots x3.Needs)) else none else none else if(a4==3)=Bool.true then Option.bind a[Int.toNat a3]? fun(a7:qa)=>if a7.Slots.length+1≤maxLen∧(a7.Slots.length+1)*8≤140737488355328 then if Int.toNat a3*5+3<a.length*5 then some (List.modify a (Int.toNat a3) (fun(x4:qa)=>qa.mk x4.Code x4.Credits x4.Places (a7.Slots++[w64 (a2-20)]) x4.Needs)) else none else none else if(a4==4)=Bool.true then Option.bind a[Int.toNat a3]? fun(a8:qa)=>if a8.Slots.length+1≤maxLen∧(a8.Slots.length+1)*8≤140737488355328 then if Int.toNat a3*5+3<a.length*5 then some (List.modify a (Int.toNat a3) (fun(x5:qa)=>qa.mk x5.Code x5.Credits x5.Places (a8.Slots++[w64 (40+Int.tmod a2 2)]) x5.Needs)) else none else none else if(a4==5)=Bool.true then Option.bind a[Int.toNat a3]? fun(a9:qa)=>Option.bind a[Int.toNat a3]? fun(a10:qa)=>if 0≤Int.tmod a2 6∧Int.tmod a2 6<((qd.length:Nat):Int) then Option.bind qd[Int.toNat (Int.tmod a2 6)]? fun(a11:ByteArray)=>if a9.Needs.length+1≤maxLen∧(a9.Needs.length+1)*16≤140737488355328 then if((if(!(List.all (@spr (List.flatMap qn a) (Int.toNat a3*5+4) [C.own 2 1 0 a9.Needs.length]) (@C.farF [2])))=Bool.true then Bool.true else Bool.false)||List.all (@spr (List.flatMap qn a) (Int.toNat a3*5+4) [C.own 2 1 0 a9.Needs.length]) (@C.farF [2]))=Bool.true then if Int.toNat a3*5+4<a.length*5 then some (List.modify a (Int.toNat a3) (fun(x6:qa)=>qa.mk x6.Code x6.Credits x6.Places x6.Slots (a9.Needs++[a11]))) else none else none else none else none else if(a4==6)=Bool.true then if 0≤Int.tmod a2 6∧Int.tmod a2 6<((qd.length:Nat):Int) then Option.bind qd[Int.toNat (Int.tmod a2 6)]? fun(a12:ByteArray)=>if Int.toNat a3*5+4<a.length*5 then some (List.modify a (Int.toNat a3) (fun(x7:qa)=>qa.mk x7.Code x7.Credits x7.Places x7.Slots [a12])) else none else none else if(a4==7)=Bool.true then Option.bind a[Int.toNat a3]? fun(a13:qa)=>if a13.Needs.length+1≤maxLen∧(a13.Needs.length+1)*16≤140737488355328 then if Int.toNat a3*5+4<a.length*5 then some (List.modify a (Int.toNat a3) (fun(x8:qa)=>qa.mk x8.Code x8.Credits x8.Places x8.Slots (a13.Needs++[ByteArray.mk (List.toArray [90])]))) else none else none else if(a4==8)=Bool.true then if 0≤Int.tmod a2 7∧Int.tmod a2 7≤6 then if Int.toNat a3*5+4<a.length*5 then some (List.modify a (Int.toNat a3) (fun(x9:qa)=>qa.mk x9.Code x9.Credits x9.Places x9.Slots (List.take (Int.toNat (Int.tmod a2 7)) [ByteArray.mk (List.toArray [65,49]),ByteArray.mk (List.toArray [66,49]),ByteArray.mk (List.toArray [66,50]),ByteArray.mk (List.toArray [67,49]),ByteArray.mk (List.toArray [68,49]),ByteArray.mk (List.toArray [69,57])]))) else none else none else if(a4==9)=Bool.true then if((a.length:Nat):Int)=0 then none else if 0≤Int.tmod a2 ((a.length:Nat):Int)∧Int.tmod a2 ((a.length:Nat):Int)<((a.length:Nat):Int) then Option.bind a[Int.toNat (Int.tmod a2 ((a.length:Nat):Int))]? fun(a14:qa)=>Option.bind a[Int.toNat a3]? fun(a15:qa)=>if Int.toNat a3*5+5≤a.length*5 then if 0≤Int.tmod a2 ((a.length:Nat):Int)∧Int.tmod a2 ((a.length:Nat):Int)<((a.length:Nat):Int) then if Int.toNat (Int.tmod a2 ((a.length:Nat):Int))*5+5≤a.length*5 then some (List.set (List.set a (Int.toNat a3) a14) (Int.toNat (Int.tmod a2 ((a.length:Nat):Int))) a15) else none else none else none else none else if(a4==10)=Bool.true then Option.bind (zc (Qr a2) a) fun(a16:List qa)=>some a16 else some a else none
theorem q5j:∀(x0:List qa) (x1_0 x1_1 x1_2:Int),ev 11 0 [rL 5 qb x0,R.agg [dI x1_0,dI x1_1,dI x1_2]] []=(Zd x0 (q6F.mk x1_0 x1_1 x1_2)).bind (fun(e:List qa)=>some (rL 5 qb e,[])):=
 fun x0 x1_0 x1_1 x1_2=>by
  rw[qU ql2 qsH.2.2.2 qrN]
  have:=qrS;have:=@q1W;have:=@q2g;have:=@q0O;have:=@q2X;have:=@Zd.eq_1;exact gA
end


noncomputable section
open Go.RowKit
def qj4 (d:qi):Prop:=d.L.length≤maxLen∧0≤d.At∧d.At≤(d.L.length:Int)
theorem q8v (a n:Int) (h0:0<n) (h1:n≤1000):∃v,Zc a n=some v∧0≤v∧v<n:=by
 unfold Zc
 rw[if_neg (by omega),if_neg (by omega)]
 refine⟨_,rfl,?_⟩
 have h2 : -n<Int.tmod a n:=Int.lt_tmod_of_pos a h0
 have h3:Int.tmod a n<n:=Int.tmod_lt_of_pos a h0
 rw[Zm (by omega) (by omega)]
 exact⟨Int.tmod_nonneg _ (by omega),Int.tmod_lt_of_pos _ h0⟩
theorem q3u {d:qi} (hd:qj4 d) (n:Int) (h0:0<n) (h1:n≤1000):∃v d',zj n d=some (v,d')∧0≤v∧v<n∧qj4 d':=by
 obtain⟨h2,h3,h4⟩:=hd
 unfold maxLen at h2
 unfold zj
 by_cases h:((d.L.length:Nat):Int)≤d.At
 ·rw[if_pos h]
  exact⟨_,_,rfl,Int.le_refl _,h0,by unfold maxLen;exact h2,h3,h4⟩
 ·rw[if_neg h,Zm (n:=d.At+1) (by omega) (by omega),Zm (n:=d.At+1-1) (by omega) (by omega),if_pos (by omega),qvt (show(d.At+1-1).toNat<d.L.length by omega),qvr]
  obtain⟨v,h5,h6,h7⟩:=q8v (d.L[(d.At+1-1).toNat]'(by omega)) n h0 h1
  rw[h5]
  exact⟨v,_,rfl,h6,h7,by unfold maxLen;exact h2,by show(0:Int)≤d.At+1;omega,by show d.At+1≤(d.L.length:Int);omega⟩
def qsT (l:List Int):Prop:=l.length≤6∧(∀x∈l,1≤x∧x≤40)∧l.Pairwise (· < ·)
theorem q8h {α:Type} {r:α→α→Prop} {l:List α} {a:α} (h:l.Pairwise r) (h2:∀x∈l,r x a):(l++[a]).Pairwise r:=by
 rw[List.pairwise_append]
 exact⟨h,List.pairwise_singleton _ _,fun x hx y hy=>by rw[qwg] at hy;subst hy;exact h2 x hx⟩
theorem qkI (w1:List qa) (b2_Code:ByteArray) (b2_Credits b2_Places:Int) (t5:List ByteArray) (t6:Int) :
  ∀(n:Nat) (w3:List Int) (b0:qi) (t8:Int),qj4 b0→0≤t8→t8≤4→(t8=0∨t8+n=5)→w3.length≤4→(0<t8→(w3.length:Int)<t8)→(∀x∈w3,1≤x∧x≤4)→w3.Pairwise (· < ·)→(0<t8→∀x∈w3,x<t8)→
   ∃w b,zc (zw w1 b2_Code b2_Credits b2_Places t5 t6) (w3,(b0,t8))=some (w,b)∧qsT w∧qj4 b:=by
 intro n
 induction n with
 | zero=>
  intro w3 b0 t8 hb h0 h4 ht hl hl2 hx hp hlt
  obtain rfl:t8=0:=by omega
  exact⟨w3,b0,qR (by unfold zw;rfl),⟨by omega,fun x h=>by have:=hx x h;omega,hp⟩,hb⟩
 | succ n ih=>
  intro w3 b0 t8 hb h0 h4 ht hl hl2 hx hp hlt
  by_cases h:0<t8
  ·have hl3:=hl2 h
   have hlt:=hlt h
   obtain⟨v,d,h5,h6,h7,h8⟩:=q3u hb 2 (by omega) (by omega)
   have hx':∀x∈w3++[t8],1≤x∧x≤4:=fun x h=>by
    rcases qvV.1 h with h|h
    ·exact hx x h
    ·rw[qwg] at h;subst h;omega
   have hp':(w3++[t8]).Pairwise (· < ·):=q8h hp hlt
   have hidx:w64 (((w3.length+1:Nat):Int)-1)=(w3.length:Int):=by rw[Zm (by omega) (by omega)];omega
   have hget:(w3++[t8])[w3.length]?=some t8:=by simp
   have hs:zw w1 b2_Code b2_Credits b2_Places t5 t6 (w3,(b0,t8))=some (.inl (w3++[t8],(d,if v=1∧t8<4 then t8+1 else 0))):=by
    unfold zw
    simp only[]
    rw[if_pos h,if_pos (by unfold maxLen;omega),h5,qvr]
    simp only[hidx,qvu,hget,qvr]
    by_cases hv:v=1
    ·subst hv
     rw[if_pos (by decide),if_pos (by omega)]
     by_cases h9:t8<4
     ·rw[if_pos h9,if_pos (by omega),if_pos ⟨rfl,h9⟩,Zm (by omega) (by omega)]
     ·rw[if_neg h9,if_neg (by omega)]
    ·rw[if_neg (by simpa using hv),if_neg (by omega)]
   rw[zL hs]
   by_cases h9:v=1∧t8<4
   ·rw[if_pos h9]
    exact ih _ d (t8+1) h8 (by omega) (by omega) (by omega) (by simp;omega) (fun _=>by simp;omega) hx' hp' (fun _ x hx=>by
     rcases qvV.1 hx with hx|hx
     ·have:=hlt x hx;omega
     ·rw[qwg] at hx;omega)
   ·rw[if_neg h9]
    exact ih _ d 0 h8 (by omega) (by omega) (.inl rfl) (by simp;omega) (fun h=>by omega) hx' hp' (fun h=>by omega)
  ·obtain rfl:t8=0:=by omega
   exact⟨w3,b0,qR (by unfold zw;rfl),⟨by omega,fun x h=>by have:=hx x h;omega,hp⟩,hb⟩
def blt (a b:ByteArray):Prop:=Op.bytesLess a.toList b.toList=true
def qsp (M:List qa) (i:Nat) (o:qa):Prop:=
 o.Code∈qd∧1≤o.Credits∧o.Credits≤60∧0≤o.Places∧o.Places≤200∧qsT o.Slots∧o.Needs.length≤2∧o.Needs.Pairwise blt∧∀c∈o.Needs,∃j p,j<i∧M[j]?=some p∧p.Code=c
def J7 (M:List qa):Prop:=M.length≤6∧(∀i o,M[i]?=some o→qsp M i o)∧M.Pairwise fun a b=>blt a.Code b.Code
theorem qmT (w1:List qa) (hw:w1.length≤6) (hp:w1.Pairwise fun a b=>blt a.Code b.Code) (w3:List Int) (b2_Code:ByteArray) (b2_Credits b2_Places:Int) (t5:List ByteArray) (t6:Int) :
  ∀(n i:Nat) (w4:List ByteArray) (b0:qi),n+i=w1.length→qj4 b0→w4.length≤2→w4.Pairwise blt→(∀c∈w4,∃j p,j<i∧w1[j]?=some p∧p.Code=c)→
   ∃w b,zc (zN w1 w3 b2_Code b2_Credits b2_Places t5 t6) (w4,(b0,(i:Int)))=some (w,b)∧qj4 b∧w.length≤2∧w.Pairwise blt∧∀c∈w,∃j p,j<w1.length∧w1[j]?=some p∧p.Code=c:=by
 intro n
 induction n with
 | zero=>
  intro i w4 b0 hi hb hl hpw hin
  obtain rfl:i=w1.length:=by omega
  exact⟨w4,b0,qR (by unfold zN;simp only[];rw[if_neg (by omega)]),hb,hl,hpw,hin⟩
 | succ n ih=>
  intro i w4 b0 hi hb hl hpw hin
  have hlt:i<w1.length:=by omega
  obtain⟨v,d,h5,h6,h7,h8⟩:=q3u hb 3 (by omega) (by omega)
  have hs:zN w1 w3 b2_Code b2_Credits b2_Places t5 t6 (w4,(b0,(i:Int)))=some (.inl (if v=0∧w4.length<2 then w4++[w1[i].Code] else w4,(d,((i+1:Nat):Int)))):=by
   unfold zN
   simp only[]
   rw[if_pos (by omega),h5,qvr]
   simp only[qvu,qvt hlt,qvr,qW hlt (by omega)]
   by_cases hv:v=0
   ·subst hv
    rw[if_pos (by decide)]
    by_cases h9:w4.length<2
    ·rw[if_pos (by omega),if_pos (by omega),if_pos (by unfold maxLen;omega),if_pos ⟨rfl,h9⟩]
    ·rw[if_neg (by omega),if_neg (by omega)]
   ·rw[if_neg (by simpa using hv),if_neg (by omega)]
  rw[zL hs]
  have hin':∀c∈w4,∃j p,j<i+1∧w1[j]?=some p∧p.Code=c:=fun c hc=>by
   obtain⟨j,p,h1,h2⟩:=hin c hc
   exact⟨j,p,by omega,h2⟩
  by_cases h9:v=0∧w4.length<2
  ·rw[if_pos h9]
   refine ih (i+1) _ d (by omega) h8 (by simp;omega) (q8h hpw fun c hc=>?_) (fun c hc=>?_)
   ·obtain⟨j,p,h1,h2,rfl⟩:=hin c hc
    have hj:=QC h2
    rw[qvt hj] at h2
    injection h2 with h2
    subst h2
    exact(List.pairwise_iff_getElem.1 hp) j i hj hlt h1
   ·rcases qvV.1 hc with hc|hc
    ·exact hin' c hc
    ·rw[qwg] at hc;subst hc
     exact⟨i,_,by omega,qvt hlt,rfl⟩
  ·rw[if_neg h9]
   exact ih (i+1) _ d (by omega) h8 hl hpw hin'
theorem qfw:qd.Pairwise blt:=by
 unfold qd
 show List.Pairwise (fun(a b:ByteArray)=>Op.bytesLess a.toList b.toList=true) _
 decide +kernel
theorem q2M:qd.length=6:=rfl
theorem qq5:∀(n i:Nat) (w1:List qa) (b0:qi),n+i=6→qj4 b0→w1.length≤i→J7 w1→(∀o∈w1,∃j,j<i∧qd[j]?=some o.Code)→
  ∃w,zc (zg qd) (w1,(b0,(i:Int)))=some w∧J7 w:=by
 intro n
 induction n with
 | zero=>
  intro i w1 b0 hi hb hl hm hc
  obtain rfl:i=6:=by omega
  exact⟨w1,qR (by unfold zg;simp only[];rw[q2M,if_neg (by omega)]),hm⟩
 | succ n ih=>
  intro i w1 b0 hi hb hl hm hc
  have hlt:i<qd.length:=by rw[q2M];omega
  have hc':∀o∈w1,∃j,j<i+1∧qd[j]?=some o.Code:=fun o ho=>by
   obtain⟨j,h1,h2⟩:=hc o ho
   exact⟨j,by omega,h2⟩
  obtain⟨v1,d1,h11,h12,h13,h14⟩:=q3u hb 5 (by omega) (by omega)
  by_cases hv:v1=4
  ·have hs:zg qd (w1,(b0,(i:Int)))=some (.inl (w1,(d1,((i+1:Nat):Int)))):=by
    unfold zg
    simp only[]
    rw[if_pos (by omega),h11,qvr,if_pos (by subst hv;rfl),qW hlt (by rw[q2M];omega)]
   rw[zL hs]
   exact ih (i+1) w1 d1 (by omega) h14 (by omega) hm hc'
  ·obtain⟨v2,d2,h21,h22,h23,h24⟩:=q3u h14 6 (by omega) (by omega)
   obtain⟨v3,d3,h31,h32,h33,h34⟩:=q3u h24 6 (by omega) (by omega)
   obtain⟨v4,d4,h41,h42,h43,h44⟩:=q3u h34 4 (by omega) (by omega)
   obtain⟨cr,hcr,hcr1,hcr2⟩:∃cr,[(5:Int),(6:Int),(3:Int),(10:Int),(5:Int),(20:Int)][Int.toNat v2]?=some cr∧1≤cr∧cr≤60:=by
    have:v2=0∨v2=1∨v2=2∨v2=3∨v2=4∨v2=5:=by omega
    rcases this with rfl|rfl|rfl|rfl|rfl|rfl<;>exact⟨_,rfl,by decide,by decide⟩
   obtain⟨pl,hpl,hpl1,hpl2⟩:∃cr,[(2:Int),(1:Int),(0:Int),(30:Int),(200:Int),(3:Int)][Int.toNat v3]?=some cr∧0≤cr∧cr≤200:=by
    have:v3=0∨v3=1∨v3=2∨v3=3∨v3=4∨v3=5:=by omega
    rcases this with rfl|rfl|rfl|rfl|rfl|rfl<;>exact⟨_,rfl,by decide,by decide⟩
   obtain⟨sl,d5,h51,h52,h53⟩:=qkI w1 qd[i] cr pl qd (i:Int) (5-v4.toNat) [] d4 v4 h44 h42 (by omega) (by omega) (by decide) (fun h=>by simpa using h) (fun x hx=>by cases hx) List.Pairwise.nil (fun _ x hx=>by cases hx)
   obtain⟨nd,d6,h61,h62,h63,h64,h65⟩:=qmT w1 hm.1 hm.2.2 sl qd[i] cr pl qd (i:Int) w1.length 0 [] d5 (by omega) h53 (by decide) List.Pairwise.nil (fun x hx=>by cases hx)
   have hs:zg qd (w1,(b0,(i:Int)))=some (.inl (w1++[⟨qd[i],cr,pl,sl,nd⟩],(d6,((i+1:Nat):Int)))):=by
    unfold zg
    simp only[]
    rw[if_pos (by omega),h11,qvr,if_neg (by simpa using hv),if_pos (by omega),qvu,qvt hlt,qvr,h21,qvr]
    simp only[]
    rw[if_pos (by omega),hcr,qvr,h31,qvr]
    simp only[]
    rw[if_pos (by omega),hpl,qvr,h41,qvr]
    simp only[]
    rw[h51,qvr]
    simp only[]
    rw[show(0:Int)=((0:Nat):Int) from rfl,h61,qvr,if_pos (by unfold maxLen;have:=hm.1;omega),qW hlt (by rw[q2M];omega)]
   rw[zL hs]
   have hmem:∀o∈w1,blt o.Code qd[i]:=fun o ho=>by
    obtain⟨j,h1,h2⟩:=hc o ho
    have hj:=QC h2
    rw[qvt hj] at h2
    injection h2 with h2
    rw[←h2]
    exact(List.pairwise_iff_getElem.1 qfw) j i hj hlt h1
   refine ih (i+1) _ d6 (by omega) h62 (by simp;omega) ⟨by simp;omega,fun j o hj=>?_,?_⟩ (fun o ho=>?_)
   ·by_cases e:j<w1.length
    ·rw[qw4 e] at hj
     obtain⟨a1,a2,a3,a4,a5,a6,a7,a8,a9⟩:=hm.2.1 j o hj
     refine⟨a1,a2,a3,a4,a5,a6,a7,a8,fun c hc=>?_⟩
     obtain⟨k,p,b1,b2,b3⟩:=a9 c hc
     exact⟨k,p,b1,by rw[qw4 (QC b2)];exact b2,b3⟩
    ·have hj2:=QC hj
     simp only[qvy,qvC,qw9] at hj2
     obtain rfl:j=w1.length:=by omega
     simp only[List.getElem?_concat_length,qwf] at hj
     subst hj
     refine⟨qwh hlt,hcr1,hcr2,hpl1,hpl2,h52,h63,h64,fun c hc=>?_⟩
     obtain⟨k,p,b1,b2,b3⟩:=h65 c hc
     exact⟨k,p,b1,by rw[qw4 b1];exact b2,b3⟩
   ·exact q8h hm.2.2 hmem
   ·rcases qvV.1 ho with ho|ho
    ·exact hc' o ho
    ·rw[qwg] at ho;subst ho
     exact⟨i,by omega,qvt hlt⟩
theorem qhx (x0:List Int) (h:x0.length≤maxLen):∃M,ZE x0=some M∧J7 M:=by
 obtain⟨w,h1,h2⟩:=qq5 6 0 [] ⟨x0,0⟩ rfl ⟨h,Int.le_refl _,by show(0:Int)≤(x0.length:Int);omega⟩ (by decide) ⟨by decide,fun i o hi=>by simp at hi,List.Pairwise.nil⟩ (fun o ho=>by cases ho)
 refine⟨w,?_,h2⟩
 unfold ZE
 have h1:zc (zg qd) ([],(qi.mk x0 (0:Int),(0:Int)))=some w:=h1
 rw[h1];rfl
end
noncomputable section
open Go.RowKit
theorem qgz {a b:ByteArray} (h:a.toList=b.toList):a=b:=by
 rw[ByteArray.toList_eq,ByteArray.toList_eq] at h
 cases a with|mk a=>cases b with|mk b=>
 congr 1
 exact Array.toList_inj.1 h
theorem q8i (a b:ByteArray):(a.toList==b.toList)=decide (a=b):=by
 by_cases h:a=b
 ·subst h;simp
 ·rw[decide_eq_false h,beq_eq_false_iff_ne];exact fun e=>h (qgz e)
theorem q2G {a:ByteArray} (h:blt a a):False:=by
 unfold blt at h
 rw[q6H,qwp] at h
 exact List.lt_irrefl _ h
theorem q5t {a b:ByteArray} (h:blt a b):a≠b:=fun e=>by subst e;exact q2G h
theorem q7D {M:List qa} (hM:J7 M) {i j:Nat} {a b:qa} (hi:M[i]?=some a) (hj:M[j]?=some b) (h:i<j):blt a.Code b.Code:=by
 have h1:=QC hi
 have h2:=QC hj
 rw[qvt h1] at hi
 rw[qvt h2] at hj
 injection hi with hi;injection hj with hj
 subst hi hj
 exact(List.pairwise_iff_getElem.1 hM.2.2) i j h1 h2 h
theorem q8Z {M:List qa} (hM:J7 M) {i j:Nat} {a b:qa} (hi:M[i]?=some a) (hj:M[j]?=some b) (h:a.Code=b.Code):i=j:=by
 rcases Nat.lt_trichotomy i j with h1|h1|h1
 ·exact absurd h (q5t (q7D hM hi hj h1))
 ·exact h1
 ·exact absurd h.symm (q5t (q7D hM hj hi h1))
theorem qe2 {M:List qa} (hM:J7 M) {i:Nat} {a:qa} (hi:M[i]?=some a):a.Code∈qd:=(hM.2.1 i a hi).1
theorem qj2 {c:ByteArray} (h:c∈qd):za c=some true:=by
 have key:∀c∈qd,QU 20 c=some true:=by
  intro c hc
  unfold qd at hc
  simp only[qvN,List.not_mem_nil,or_false] at hc
  rcases hc with rfl|rfl|rfl|rfl|rfl|rfl<;>kernel_rfl
 exact Jw 20 c _ (key c h)
theorem q90 {α:Type} (l:List α) (step:Int→Option (Int⊕(Unit⊕Unit))) (h:∀i:Nat,0<i→i<l.length→step (i:Int)=some (.inl ((i+1:Nat):Int))) (hn:∀i:Nat,l.length≤i→step (i:Int)=some (.inr (.inr ()))):zc step 1=some (.inr ()):=by
 by_cases h0:l.length≤1
 ·exact qR (hn 1 h0)
 ·exact q4d (step:=step) (e := .inr ()) (fun i=>(i:Int)) 1 l.length (by omega) (fun i h1 h2=>h i h1 h2) (hn _ (qvH _))
theorem q7s {M:List qa} {i:Nat} {o:qa} (h:qsp M i o):zf o=some 0:=by
 obtain⟨h1,h2,h3,h4,h5,⟨h6,h7,h8⟩,h9,h10,-⟩:=h
 have hc:qu o.Slots=some false:=by
  obtain⟨r,g1,g2⟩:=q4S o.Slots z8 (qr o.Slots ((o.Slots.length:Nat):Int))
   (fun i a ha=>by
    have:=QC ha
    unfold qr
    rw[if_pos (by omega),if_pos (by omega),qvu,ha,qvr]
    cases(z8 a) with
    | true=>rfl
    | false=>rw[if_neg (by decide),if_neg (by decide),qW this (by omega)])
   (by unfold qr;rw[if_neg (by omega)])
  obtain⟨n,g3,g4⟩:=q50 g2
  unfold qu qP
  rw[g1,qvr,g3,qvr,g4]
  congr 1
  rw[List.any_eq_false]
  intro x hx
  have:=h7 x hx
  unfold z8
  rw[if_neg (by omega)]
  simpa using this.2
 have hi:qK o.Slots=some true:=by
  unfold qK
  rw[q90 o.Slots (qs o.Slots) (fun i g1 g2=>by
   unfold qs
   rw[if_pos (by omega),Zm (n:=(i:Int)-1) (by omega) (by omega),if_pos (by omega),show((i:Int)-1).toNat=i-1 by omega,qvt (by omega),qvr,if_pos (by omega),qvu,qvt g2,qvr]
   have:=(List.pairwise_iff_getElem.1 h8) (i-1) i (by omega) g2 (by omega)
   rw[if_neg (by omega),qW g2 (by omega)]) (fun i g=>by
   unfold qs
   rw[if_neg (by omega)])]
  rfl
 have hs:qz o.Needs=some true:=by
  unfold qz
  rw[q90 o.Needs (qq o.Needs) (fun i g1 g2=>by
   unfold qq
   rw[if_pos (by omega),Zm (n:=(i:Int)-1) (by omega) (by omega),if_pos (by omega),show((i:Int)-1).toNat=i-1 by omega,qvt (by omega),qvr,if_pos (by omega),qvu,qvt g2,qvr]
   have:=(List.pairwise_iff_getElem.1 h10) (i-1) i (by omega) g2 (by omega)
   unfold blt at this
   rw[this,if_neg (by decide),qW g2 (by omega)]) (fun i g=>by
   unfold qq
   rw[if_neg (by omega)])]
  rfl
 unfold zf
 rw[if_neg (by omega),if_neg (by omega),if_neg (by omega),if_neg (by omega),hc,qvr,if_neg (by decide),hi,qvr,if_neg (by decide),if_neg (by omega),hs,qvr,if_neg (by decide)]
theorem qqn {M:List qa} (hM:J7 M):zc (qC M M ((M.length:Nat):Int)) 0=some (.inr ()):=by
 have h6:=hM.1
 refine q4d (step:=qC M M ((M.length:Nat):Int)) (e := .inr ()) (fun i=>(i:Int)) 0 M.length (qvR _) (fun i _ hi=>?_) ?_
 ·have ho:=hM.2.1 i _ (qvt hi)
  unfold qC
  dsimp only
  rw[if_pos (by omega),if_pos (by omega),qvu,qvt hi,qvr,qj2 ho.1,qvr,if_neg (by decide)]
  by_cases h0:(0:Int)<(i:Int)
  ·have hb:=q7D hM (qvt (show i-1<M.length by omega)) (qvt hi) (by omega)
   have hne:=q5t hb
   unfold blt at hb
   simp only[if_pos h0]
   rw[Zm (n:=(i:Int)-1) (by omega) (by omega),if_pos (by omega),show((i:Int)-1).toNat=i-1 by omega,qvt (show i-1<M.length by omega),qvr,q8i,decide_eq_false hne,if_neg (by decide),if_pos (by omega),qvr,hb,Bool.true_or,if_neg (by decide),q7s ho,qvr,if_neg (by decide),qW hi (by omega)]
  ·simp only[if_neg h0]
   rw[q7s ho,qvr,if_neg (by decide),qW hi (by omega)]
 ·unfold qC
  dsimp only
  rw[if_neg (by omega)]
section
variable {κ ν:Type} [DecidableEq κ]
theorem JF {m:List (κ×ν)} {k:κ}:J3 m k=true↔k∈m.map Prod.fst:=by
 induction m with
 | nil=>simp[J3]
 | cons p m ih=>
  unfold J3
  by_cases h:k=p.1
  ·simp[h]
  ·simp[h,ih]
theorem q6b {m:List (κ×ν)} {k:κ} (v:ν) (h:J3 m k=false):q2e m k v=m++[(k,v)]:=by
 induction m with
 | nil=>rfl
 | cons p m ih=>
  unfold J3 at h
  unfold q2e
  by_cases e:k=p.1
  ·rw[if_pos e] at h;cases h
  ·rw[if_neg e] at h
   rw[if_neg e,ih h];rfl
theorem q9w (m:List (κ×ν)) (k:κ) (v:ν):(q2e m k v).map Prod.fst=if k∈m.map Prod.fst then m.map Prod.fst else m.map Prod.fst++[k]:=by
 induction m with
 | nil=>rfl
 | cons p m ih=>
  unfold q2e
  by_cases e:k=p.1
  ·rw[if_pos e,if_pos (by simp[e])];simp[e]
  ·rw[if_neg e,qvO,ih,qvO]
   by_cases h:k∈m.map Prod.fst
   ·rw[if_pos h,if_pos (qvz _ h)]
   ·rw[if_neg h,if_neg (fun h'=>(qvN.1 h').elim e h)];rfl
theorem q9F {m:List (κ×ν)} (z:ν) {k:κ} {v:ν} (hn:(m.map Prod.fst).Nodup) (h:(k,v)∈m):Qz z m k=v:=by
 induction m with
 | nil=>cases h
 | cons p m ih=>
  rw[qvO,List.nodup_cons] at hn
  unfold Qz
  rcases qvN.1 h with rfl|h
  ·rw[if_pos rfl]
  ·rw[if_neg (fun e=>hn.1 (by rw[←e];exact qwa.2 ⟨_,h,rfl⟩)),ih hn.2 h]
theorem q6y {m:List (κ×ν)} {z:ν} {k:κ} (h:k ∉ m.map Prod.fst):Qz z m k=z:=by
 induction m with
 | nil=>rfl
 | cons p m ih=>
  unfold Qz
  rw[if_neg (fun e=>h (by rw[e];exact qvG)),ih (fun h'=>h (qvz _ h'))]
theorem q3f {l t:List κ} (hn:l.Nodup) (h:∀x∈l,x∈t):l.length≤t.length:=by
 induction l generalizing t with
 | nil=>simp
 | cons x l ih=>
  rw[List.nodup_cons] at hn
  have hx:=h x qvG
  have:=ih (t:=t.erase x) hn.2 fun y hy=>(List.mem_erase_of_ne (fun e=>hn.1 (by rw[←e];exact hy))).2 (h y (qvz _ hy))
  rw[List.length_erase_of_mem hx] at this
  have:=List.length_pos_of_mem hx
  simp only[qvC];omega
end
def cm (M:List qa):List (ByteArray×List ByteArray):=M.map fun o=>(o.Code,o.Needs)
theorem qbr (M:List qa):(cm M).map Prod.fst=M.map (·.Code):=by unfold cm;simp
theorem q7A {M:List qa} (hM:J7 M):(M.map (·.Code)).Nodup:=by
 rw[List.Nodup,List.pairwise_map]
 exact hM.2.2.imp fun h=>q5t h
theorem q79 {M:List qa} {c:ByteArray}:c∈M.map (·.Code)↔∃(j:Nat) (p:qa),M[j]?=some p∧p.Code=c:=by
 rw[qwa]
 constructor
 ·rintro⟨p,hp,rfl⟩
  obtain⟨j,hj,rfl⟩:=List.mem_iff_getElem.1 hp
  exact⟨j,_,qvt hj,rfl⟩
 ·rintro⟨j,p,hj,rfl⟩
  exact⟨p,qvs hj,rfl⟩
theorem q5g {M:List qa} {k:Nat} {c:ByteArray}:c∈(M.take k).map (·.Code)↔∃(j:Nat) (p:qa),j<k∧M[j]?=some p∧p.Code=c:=by
 rw[q79]
 constructor
 ·rintro⟨j,p,hj,rfl⟩
  rw[List.getElem?_take] at hj
  split at hj
  ·rename_i h;exact⟨j,p,h,hj,rfl⟩
  ·cases hj
 ·rintro⟨j,p,h,hj,rfl⟩
  exact⟨j,p,by rw[List.getElem?_take,if_pos h];exact hj,rfl⟩
theorem qat {M:List qa} (hM:J7 M) {k:Nat} {o:qa} (hk:M[k]?=some o):o.Code ∉ (M.take k).map (·.Code):=by
 rw[q5g]
 rintro⟨j,p,h,hj,e⟩
 have:=q8Z hM hj hk e
 omega
theorem qfY {M:List qa} (hM:J7 M):zK M=some (cm M):=by
 have h6:=hM.1
 have h1:=q4d (step:=qF M ((M.length:Nat):Int)) (e:=cm M) (fun i=>(cm (M.take i),(i:Int))) 0 M.length (qvR _) (fun i _ hi=>by
   unfold qF
   dsimp only
   rw[if_pos (by omega),if_pos (by omega),qvu,qvt hi,qvr]
   have hn:J3 (cm (M.take i)) M[i].Code=false:=by
    cases h:J3 (cm (M.take i)) M[i].Code with
    | false=>rfl
    | true=>rw[JF,qbr] at h;exact absurd h (qat hM (qvt hi))
   rw[hn,if_pos (by decide),q6b _ hn,qW hi (by omega),List.take_add_one,qvt hi]
   unfold cm
   rw[List.map_append];rfl) (by
   unfold qF
   dsimp only
   rw[if_neg (by omega),List.take_length])
 unfold zK
 have h1:zc (qF M ((M.length:Nat):Int)) ([],0)=some (cm M):=h1
 rw[h1];rfl
theorem q3o {κ ν:Type} {g:κ→ν→Option Bool}:∀{M:List (κ×ν)},(∀q∈M,g q.1 q.2=some false)→anyO g M=some false
 | [],_=>rfl
 | q::M,h=>by
  unfold anyO
  rw[h q qvG,qvr,q3o fun p hp=>h p (qvz _ hp)];rfl
theorem qmG {M:List qa} (hM:J7 M):zE (cm M)=some false:=by
 unfold zE
 refine q3o fun q hq=>?_
 obtain⟨o,ho,rfl⟩:=qwa.1 hq
 obtain⟨i,hi,rfl⟩:=List.mem_iff_getElem.1 ho
 have hof:=hM.2.1 i _ (qvt hi)
 have hc:qj M[i].Needs (cm M)=some false:=by
  obtain⟨r,g1,g2⟩:=q4S M[i].Needs (fun a=>zF a (cm M)) (ql (cm M) M[i].Needs ((M[i].Needs.length:Nat):Int))
   (fun i a ha=>by
    have:=QC ha
    have hl:=hof.2.2.2.2.2.2.1
    unfold ql
    rw[if_pos (by omega),if_pos (by omega),qvu,ha,qvr]
    cases(zF a (cm M)) with
    | true=>rfl
    | false=>rw[if_neg (by decide),if_neg (by decide),qW this (by omega)])
   (by unfold ql;rw[if_neg (by omega)])
  obtain⟨n,g3,g4⟩:=q50 g2
  unfold qj qx
  rw[g1,qvr,g3,qvr,g4]
  congr 1
  rw[List.any_eq_false]
  intro x hx
  obtain⟨j,p,h1,h2,h3⟩:=hof.2.2.2.2.2.2.2.2 x hx
  have:J3 (cm M) x=true:=by rw[JF,qbr,q79];exact⟨j,p,h2,h3⟩
  unfold zF
  rw[this];decide
 show Option.bind (qj M[i].Needs (cm M)) _=_
 rw[hc];rfl
end
noncomputable section
open Go.RowKit
def Bel (M:List qa) (i:Nat) (c:ByteArray):Prop:=∃(j:Nat) (p:qa),j<i∧M[j]?=some p∧p.Code=c
theorem Bel.mono {M:List qa} {i j:Nat} {c:ByteArray} (h:Bel M i c) (hij:i≤j):Bel M j c:=by
 obtain⟨a,p,h1,h2⟩:=h
 exact⟨a,p,by omega,h2⟩
def KpS (m3:List (ByteArray×Bool)):Prop:=(m3.map Prod.fst).Nodup∧∀k∈m3.map Prod.fst,k∈qd
theorem KpS.put {m3:List (ByteArray×Bool)} (h:KpS m3) {d:ByteArray} (hd:d∈qd):KpS (q2e m3 d true):=by
 unfold KpS
 rw[q9w]
 by_cases e:d∈m3.map Prod.fst
 ·rw[if_pos e];exact h
 ·rw[if_neg e]
  refine⟨?_,fun k hk=>?_⟩
  ·rw[List.nodup_append]
   exact⟨h.1,by simp,fun a ha b hb=>by rw[qwg] at hb;subst hb;exact fun e'=>e (by rw[←e'];exact ha)⟩
  ·rcases qvV.1 hk with hk|hk
   ·exact h.2 k hk
   ·rw[qwg] at hk;subst hk;exact hd
theorem qgC {M:List qa} (hM:J7 M) {i:Nat} {o:qa} (hi:M[i]?=some o):Qz [] (cm M) o.Code=o.Needs:=
 q9F [] (by rw[qbr];exact q7A hM) (qwa.2 ⟨o,qvs hi,rfl⟩)
theorem qa2 {M:List qa} (hM:J7 M):∀(i:Nat) (c:ByteArray) (m3:List (ByteArray×Bool)),(Qz [] (cm M) c).length≤2→(∀d∈Qz [] (cm M) c,Bel M i d)→KpS m3→
  ∃m3',qv (c,(cm M,m3))=some (cm M,m3')∧KpS m3'∧∀k∈m3'.map Prod.fst,k∈m3.map Prod.fst∨Bel M i k:=by
 intro i
 induction i using Nat.strongRecOn with
 | ind i ih=>
  intro c m3 hl hn hk
  have key:∀(n t:Nat) (m3:List (ByteArray×Bool)),n+t=(Qz [] (cm M) c).length→KpS m3→
    ∃m3',zc (qh qv (Qz [] (cm M) c) (((Qz [] (cm M) c).length:Nat):Int)) (cm M,(m3,(t:Int)))=some (cm M,m3')∧KpS m3'∧∀k∈m3'.map Prod.fst,k∈m3.map Prod.fst∨Bel M i k:=by
   intro n
   induction n with
   | zero=>
    intro t m3 ht hk
    refine⟨m3,qR ?_,hk,fun k h => .inl h⟩
    unfold qh
    dsimp only
    rw[if_neg (by omega)]
   | succ n ihn=>
    intro t m3 ht hk
    have hlt:t<(Qz [] (cm M) c).length:=by omega
    obtain⟨j,p,h1,h2,h3⟩:=hn _ (qwh hlt)
    by_cases hb:Qz false m3 (Qz [] (cm M) c)[t]=true
    ·have hs:qh qv (Qz [] (cm M) c) (((Qz [] (cm M) c).length:Nat):Int) (cm M,(m3,(t:Int)))=some (.inl (cm M,(m3,((t+1:Nat):Int)))):=by
      unfold qh
      dsimp only
      rw[if_pos (by omega),if_pos (by omega),qvu,qvt hlt,qvr,hb,if_neg (by decide),qW hlt (by omega)]
     rw[zL hs]
     exact ihn (t+1) m3 (by omega) hk
    ·rw[qwr] at hb
     have hcode:(Qz [] (cm M) c)[t]∈qd:=by rw[←h3];exact qe2 hM h2
     have hof:=hM.2.1 j p h2
     have hget:Qz [] (cm M) (Qz [] (cm M) c)[t]=p.Needs:=by rw[←h3];exact qgC hM h2
     obtain⟨m4,g1,g2,g3⟩:=ih j h1 (Qz [] (cm M) c)[t] (q2e m3 (Qz [] (cm M) c)[t] true) (by rw[hget];exact hof.2.2.2.2.2.2.1) (fun d hd=>by rw[hget] at hd;exact hof.2.2.2.2.2.2.2.2 d hd) (hk.put hcode)
     have hs:qh qv (Qz [] (cm M) c) (((Qz [] (cm M) c).length:Nat):Int) (cm M,(m3,(t:Int)))=some (.inl (cm M,(m4,((t+1:Nat):Int)))):=by
      unfold qh
      dsimp only
      rw[if_pos (by omega),if_pos (by omega),qvu,qvt hlt,qvr,hb,if_pos (by decide),g1,qvr,qW hlt (by omega)]
     rw[zL hs]
     obtain⟨m5,k1,k2,k3⟩:=ihn (t+1) m4 (by omega) g2
     refine⟨m5,k1,k2,fun k h=>?_⟩
     rcases k3 k h with h|h
     ·rcases g3 k h with h|h
      ·rw[q9w] at h
       split at h
       ·exact .inl h
       ·rcases qvV.1 h with h|h
        ·exact .inl h
        ·rw[qwg] at h;subst h
         exact .inr ⟨j,p,h1,h2,h3⟩
      ·exact .inr (h.mono (by omega))
     ·exact .inr h
  obtain⟨m3',g1,g2,g3⟩:=key _ 0 m3 rfl hk
  refine⟨m3',?_,g2,g3⟩
  rw[Zp]
  show Option.bind (zc (qh qv (Qz [] (cm M) c) (((Qz [] (cm M) c).length:Nat):Int)) (cm M,(m3,((0:Nat):Int)))) _=_
  rw[g1];rfl
theorem q7j {l:List ByteArray} (hl:l.length≤1000000) (v:ByteArray):qp l v=some (l.any fun a=>decide (v=a)):=by
 obtain⟨r,h1,h2⟩:=q4S l (fun a=>decide (v=a)) (qD l v ((l.length:Nat):Int))
  (fun i a ha=>by
   have:=QC ha
   unfold qD
   rw[if_pos (by omega),if_pos (by omega),qvu,ha,qvr,q8i]
   cases(decide (v=a)) with
   | true=>rfl
   | false=>rw[if_neg (by decide),if_neg (by decide),qW this (by omega)])
  (by unfold qD;rw[if_neg (by omega)])
 obtain⟨n,h3,h4⟩:=q50 h2
 unfold qp qV
 rw[h1,qvr,h3,qvr,h4]
theorem qi9 {l:List ByteArray} {v:ByteArray} (h:v ∉ l):(l.any fun a=>decide (v=a))=false:=by
 rw[List.any_eq_false];intro x hx;rw[qwp];intro e;exact h (by rw[e];exact hx)
theorem qaI:∀c∈qd,c.size≤maxLen:=by
 unfold qd
 decide +kernel
theorem qaZ {m3:List (ByteArray×Bool)} (h:KpS m3):∃l,zn m3=some l∧l.length≤6∧∀k,k∈l↔k∈m3.map Prod.fst:=by
 have hlen:(m3.map Prod.fst).length≤6:=q3f h.1 h.2
 have hok:qgy (m3.map Prod.fst)=true:=by
  unfold qgy
  rw[qvX,qvX,qwp,qwp,qvI]
  exact⟨⟨h.1,fun k hk=>qwq (qaI k (h.2 k hk))⟩,by omega⟩
 refine⟨JD (m3.map Prod.fst),?_,?_,fun k=>(QG _).mem_iff⟩
 ·unfold zn
  rw[if_pos hok]
 ·rw[(QG _).length_eq];exact hlen
theorem qc3 {M:List qa} (hM:J7 M) {i:Nat} {o:qa} (hi:M[i]?=some o):∃l,qA o.Code (cm M)=some (l,cm M)∧l.length≤6∧o.Code ∉ l:=by
 have hof:=hM.2.1 i o hi
 have hget:=qgC hM hi
 obtain⟨m3,h1,h2,h3⟩:=qa2 hM i o.Code [] (by rw[hget];exact hof.2.2.2.2.2.2.1) (fun d hd=>by rw[hget] at hd;exact hof.2.2.2.2.2.2.2.2 d hd) ⟨List.Pairwise.nil,fun k hk=>by cases hk⟩
 obtain⟨l,h4,h5,h6⟩:=qaZ h2
 refine⟨l,?_,h5,fun h=>?_⟩
 ·unfold qA
  rw[h1,qvr]
  dsimp only
  rw[h4];rfl
 ·rcases h3 _ ((h6 _).1 h) with h|⟨j,p,a1,a2,a3⟩
  ·cases h
  ·have:=q8Z hM a2 hi a3;omega
theorem qes {M:List qa} (hM:J7 M):qy M=some 0:=by
 have h6:=hM.1
 have h23:zW (cm M)=some false:=by
  unfold zW
  refine q3o fun q hq=>?_
  obtain⟨o,ho,rfl⟩:=qwa.1 hq
  obtain⟨i,hi,rfl⟩:=List.mem_iff_getElem.1 ho
  obtain⟨l,h1,h2,h3⟩:=qc3 hM (qvt hi)
  show Option.bind (qA M[i].Code (cm M)) _=_
  rw[h1,qvr]
  dsimp only
  rw[q7j (by omega),qi9 h3];rfl
 unfold qy
 rw[if_neg (by omega),qqn hM,qvr]
 show Option.bind (zK M) _=_
 rw[qfY hM,qvr,qmG hM,qvr,if_neg (by decide),h23,qvr,if_neg (by decide)]
end
noncomputable section
open Go.RowKit
end
end Go.Proofs.Ytcdegieiflmaeaa.Vc
