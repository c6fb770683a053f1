/- Part 4 of a proof. -/
import Derived.Test.YtcdegieiflmaeaaC3
import Derived.KernelRfl
set_option linter.unusedVariables false
set_option linter.unusedSimpArgs false
set_option linter.defProp false
set_option linter.unusedSectionVars false
set_option linter.unnecessarySimpa false
namespace Go.Proofs.Ytcdegieiflmaeaa.Vc
noncomputable section
open Go.RowKit
section
variable {α:Type} {E:α→List D} {n:Nat}
theorem qeE (h:∀x,(E x).length=n):∀(v:List α) (a:Nat),(v.flatMap E).drop (a*n)=(v.drop a).flatMap E
 | [],a=>by simp
 | x::v,0=>by simp
 | x::v,a+1=>by
  rw[qyn,show(a+1)*n=(E x).length+a*n by rw[h,Nat.add_mul];omega,List.drop_length_add_append]
  exact qeE h v a
theorem qe2 (h:∀x,(E x).length=n):∀(v:List α) (a:Nat),(v.flatMap E).take (a*n)=(v.take a).flatMap E
 | [],a=>by simp
 | x::v,0=>by simp
 | x::v,a+1=>by
  rw[qyn,show(a+1)*n=(E x).length+a*n by rw[h,Nat.add_mul];omega,List.take_length_add_append,List.take_succ_cons,qyn,qe2 h v a]
theorem qnM (v w:List α):v.flatMap E++w.flatMap E=(v++w).flatMap E:=List.flatMap_append.symm
theorem qkG (v w:List α):(v.flatMap E).map C.d++(w.flatMap E).map C.d=((v++w).flatMap E).map C.d:=by rw[←List.map_append,qnM]
theorem q8t (v:List α) (x:α):(v.flatMap E).map C.d++(E x).map C.d=((v++[x]).flatMap E).map C.d:=by simp
theorem qda {β:Type}:∀(ys p q:List β) (o:Nat),o+ys.length≤p.length→spl (p++q) o ys=spl p o ys++q
 | [],p,q,o,_=>rfl
 | y::ys,p,q,o,h=>by
  rw[qxu] at h
  rw[spl,spl,List.set_append_left _ _ (by omega),qda ys _ q (o+1) (by rw[qy3];omega)]
theorem qa5 {β:Type}:∀(ys p q:List β) (o:Nat),spl (p++q) (p.length+o) ys=p++spl q o ys
 | [],p,q,o=>rfl
 | y::ys,p,q,o=>by
  rw[spl,spl,List.set_append_right _ _ (by omega),show p.length+o-p.length=o by omega,show p.length+o+1=p.length+(o+1) by omega,qa5 ys]
theorem q9y {β:Type}:∀(ys p pre:List β),p.length=ys.length→spl (pre++p) pre.length ys=pre++ys
 | [],p,pre,h=>by rw[qxC h];rfl
 | y::ys,[],pre,h=>by cases h
 | y::ys,x::p,pre,h=>by
  have e:(pre++x::p).set pre.length y=(pre++[y])++p:=by rw[List.set_append_right _ _ (qxz _),Nat.sub_self];simp
  rw[spl,e,show pre.length+1=(pre++[y]).length by simp,q9y ys p _ (by simpa using h)]
  simp
theorem qf0 {β:Type}:∀(ys:List β) (o:Nat),spl [] o ys=[]
 | [],o=>rfl
 | y::ys,o=>by rw[spl,List.set_nil,qf0 ys]
theorem qhI (h:∀x,(E x).length=n):∀(v:List α) (i:Nat) (x:α),spl (v.flatMap E) (i*n) (E x)=(v.set i x).flatMap E
 | [],i,x=>by rw[List.flatMap_nil,qf0];rfl
 | y::v,0,x=>by
  rw[qyn,Nat.zero_mul,qda _ _ _ _ (by rw[h,h];omega)]
  have:=q9y (E x) (E y) [] (by rw[h,h])
  simp only[qxD,qy1] at this
  rw[this];rfl
 | y::v,i+1,x=>by
  rw[qyn,show(i+1)*n=(E y).length+i*n by rw[h,Nat.add_mul];omega,qa5,qhI h v i x]
  rfl
theorem q5h {β γ:Type} (f:β→γ):∀(ys cs:List β) (o:Nat),spl (cs.map f) o (ys.map f)=(spl cs o ys).map f
 | [],cs,o=>rfl
 | y::ys,cs,o=>by rw[qxG,spl,spl,←List.map_set,q5h f ys]
theorem qiF (h:∀x,(E x).length=n) (v:List α) (i:Nat) (x:α):spl ((v.flatMap E).map C.d) (i*n) ((E x).map C.d)=((v.set i x).flatMap E).map C.d:=by rw[q5h,qhI h]
theorem qc3 (h:∀x,(E x).length=n) {fo:Nat} {d:D} (g:α→α) (hf:fo<n) (hg:∀x,E (g x)=(E x).set fo d):∀(v:List α) (i:Nat),(v.flatMap E).set (i*n+fo) d=(v.modify i g).flatMap E
 | [],i=>by simp
 | y::v,0=>by
  rw[qyn,Nat.zero_mul,qxH,List.set_append_left _ _ (by rw[h];exact hf),←hg]
  simp
 | y::v,i+1=>by
  rw[qyn,show(i+1)*n+fo=(E y).length+(i*n+fo) by rw[h,Nat.add_mul];omega,List.set_append_right _ _ (by omega),show(E y).length+(i*n+fo)-(E y).length=i*n+fo by omega,qc3 h g hf hg v i]
  simp
end
theorem q0Q {α:Type} {E:α→List D} {n:Nat} (h:∀x,(E x).length=n) (hn:0<n) (hi:∀x y,E x=E y→x=y):∀(v w:List α),v.flatMap E=w.flatMap E→v=w
 | [],[],_=>rfl
 | [],y::w,e=>by
  have:=congrArg List.length e
  rw[qyn,qxq,h] at this
  simp at this;omega
 | x::v,[],e=>by
  have:=congrArg List.length e
  rw[qyn,qxq,h] at this
  simp at this;omega
 | x::v,y::w,e=>by
  rw[qyn,qyn] at e
  obtain⟨h1,h2⟩:=List.append_inj e (by rw[h,h])
  rw[hi x y h1,q0Q h hn hi v w h2]
theorem qaD (a b:List D):(a.map C.d=b.map C.d)=(a=b):=by
 refine propext ⟨fun h=>?_,fun h=>by rw[h]⟩
 induction a generalizing b with
 | nil=>cases b with|nil=>rfl|cons=>cases h
 | cons x a ih=>
  cases b with
  | nil=>cases h
  | cons y b=>
   rw[qxG,qxG] at h
   injection h with h1 h2
   injection h1 with h1
   rw[h1,ih b h2]
def eI (x:Int):List D:=[.int .i64 x]
def eS (x:ByteArray):List D:=[.str x]
def eU8 (x:Int):List D:=[.int .u8 x]
def eL {α:Type} (n:Nat) (E:α→List D) (v:List α):List D:=[.sl n v.length (v.flatMap E)]
theorem qeo {α β γ:Type} (f:β→γ) (o:Option α) (g:α→Option β):(o.bind g).map f=o.bind fun x=>(g x).map f:=by cases o<;>rfl
theorem qto (P:Program) (T:Ty) (d:Nat) (t:TypeId) (x y:R):eqR P T (d+1) t x y =
  match T.k t,x,y with
  | .int _,.c (.d (.int k a)),.c (.d (.int k' b))=>if k=k' then some (a==b) else none
  | .bool,.c (.d (.bool a)),.c (.d (.bool b))=>some (a==b)
  | .str,.c (.d (.str a)),.c (.d (.str b))=>some (a.toList==b.toList)
  | .st fs,.agg xs,.agg ys=>if qax P t=true then qgd T (eqR P T d) xs ys fs else none
  | .arr n e,.agg xs,.agg ys=>if qjq P t=true∧T.k e ≠ .other then qgd T (eqR P T d) xs ys (qdM (T.sz e) e n 0) else none
  | _,_,_=>none:=by
 generalize hk:T.k t=kd
 unfold eqR
 rw[hk]
 cases kd<;>first
  | rfl
  | (rcases x with (c|_|_|_)<;>first
    | rfl
    | (rcases y with (c' | _|_|_)<;>first
      | rfl
      | (cases c<;>first
        | rfl
        | (cases c'<;>first
          | rfl
          | (rename_i d1 d2;cases d1<;>first
            | rfl
            | (cases d2<;>rfl))))))
section
variable {α β:Type} {c:Prop} [Decidable c] (a b:List α)
theorem ql1 (f:α→Bool):(if c then a else b).any f=if c then a.any f else b.any f:=by split<;>rfl
theorem qjr (f:α→Bool):(if c then a else b).all f=if c then a.all f else b.all f:=by split<;>rfl
theorem qkg (f:α→β):(if c then a else b).map f=if c then a.map f else b.map f:=by split<;>rfl
theorem q8M:(if c then a else b).isEmpty=if c then a.isEmpty else b.isEmpty:=by split<;>rfl
theorem q7E [BEq α] (x:α):(if c then a else b).contains x=if c then a.contains x else b.contains x:=by split<;>rfl
end
def qsE (op:UnOp) (r:R) (s:S):RS:=
 match op,r with
 | .not,.c (.d (.bool b))=>some (.c (.d (.bool (!b))),s)
 | .neg,.c (.d (.int k n))=>some (.c (.d (.int k (k.wrap (0-n)))),s)
 | _,_=>none
theorem qoD (s:S) (op:UnOp) (x:Operand):xUn s op x=qsE op (s.ev x) s:=by
 unfold xUn qsE
 generalize s.ev x=r
 cases op<;>first
  | rfl
  | (cases r with
     | c c=>cases c with
      | d d=>cases d<;>rfl
      | _=>rfl
     | _=>rfl)
def lkq (ok:Bool) (z:R):Option (Nat×R×Nat)→Option R
 | some q=>some (tt2 q.2.1 ok true)
 | none=>some (tt2 z ok false)
theorem qbm (T:Ty) (s:S) (t:TypeId) (x y:Operand) (ok:Bool):q1E T s t x y ok =
  match T.k t,q3J s x,(s.ev y).key with
  | .mp k e,some es,some kv=>if plK (T.k k) kv=true∧es.all (fun q=>plK (T.k k) q.1)=true then(zR T e).bind fun z=>lkq ok z (fnd kv es 0) else none
  | _,_,_=>none:=by
 unfold q1E
 generalize T.k t=kd
 generalize q3J s x=m
 generalize (s.ev y).key=v
 cases kd<;>first
  | rfl
  | (cases m<;>first
    | rfl
    | (cases v<;>first
      | rfl
      | (simp only
         split
         ·congr 1
          funext z
          cases fnd _ _ _<;>rfl
         ·rfl)))
theorem qdx (xs ys:List C):(xs++ys).flatMap C.rows=xs.flatMap C.rows++ys.flatMap C.rows:=List.flatMap_append
def qk {α:Type} (a b:Option α):Prop:=∀r,a=some r→b=some r
theorem qk.refl {α:Type} (a:Option α):qk a a:=fun _ h=>h
theorem qk.none {α:Type} (a:Option α):qk Option.none a:=fun _ h=>by cases h
theorem qk.bind {α β:Type} {a b:Option α} {f g:α→Option β} (h:qk a b) (hf:∀x,qk (f x) (g x)):qk (a.bind f) (b.bind g):=fun r hr=>by
 obtain⟨x,h1,h2⟩:=qxo.1 hr
 rw[h x h1]
 exact hf x r h2
theorem qk.ite {α:Type} {c:Prop} [Decidable c] {a b a' b':Option α} (h:qk a a') (h':qk b b'):qk (if c then a else b) (if c then a' else b'):=by
 split
 ·exact h
 ·exact h'
theorem qk.sum {α β γ:Type} {f f':α→Option γ} {g g':β→Option γ} {e:α⊕β} (h:∀x,qk (f x) (f' x)) (h':∀x,qk (g x) (g' x)):qk (Sum.elim f g e) (Sum.elim f' g' e):=by
 cases e with
 | inl x=>exact h x
 | inr x=>exact h' x
theorem qk.lim {σ ε:Type} {f g:σ→Option (σ⊕ε)} {n:Nat} {x:σ} (h:∀x,qk (f x) (g x)):qk (itT f n x) (qT g x):=by
 have key:∀(n:Nat) (x:σ),qk (itT f n x) (itT g n x):=by
  intro n
  induction n with
  | zero=>intro x r hr;cases hr
  | succ n ih=>
   intro x
   unfold itT
   refine qk.bind (h x) (fun y=>?_)
   cases y with
   | inl y=>exact ih y
   | inr e=>exact qk.refl _
 exact fun r hr=>q52 (key n x r hr)
def itR {σ ε:Type} (step:(σ→Option ε)→σ→Option ε):Nat→σ→Option ε
 | 0,_=>none
 | n+1,x=>step (itR step n) x
theorem qk.rec {σ ε:Type} {c s:(σ→Option ε)→σ→Option ε} {f:σ→Option ε} (hs:∀x,f x=s f x) (h:∀F F',(∀y,qk (F y) (F' y))→∀x,qk (c F x) (s F' x)):∀(n:Nat) (x:σ),qk (itR c n x) (f x):=by
 intro n
 induction n with
 | zero=>intro x r hr;cases hr
 | succ n ih=>
  intro x
  rw[hs x]
  exact h _ _ ih x
def spr (cs:List C) (o:Nat) (ys:List C):List C:=spl cs o ys
theorem qdu (t:TypeId) (cs ys:List C) (o:Nat):(B.blk t cs).set o ys = .blk t (spl cs o ys):=rfl
theorem qc1 (e:TypeId) (sz:Nat) (cs ys:List C) (o:Nat):(B.row e sz cs).set o ys = .row e sz (spr cs o ys):=rfl
theorem qhd (c:C) (cs ys:List C) (o:Nat):spr (c::cs) o ys=spl (c::cs) o ys:=rfl
def xsl (T:Ty) (s:S) (t:TypeId) (x:R) (lo hi:Option Operand):RS:=
 match x,T.k t with
 | .c (.d (.str b)),.str=>
  match s.bd lo 0,s.bd hi b.size with
  | some l,some h=>if 0≤l∧l≤h∧h≤b.size then some (.c (.d (.str (b.extract l.toNat h.toNat))),s) else none
  | _,_=>none
 | .c (.d (.sl sz n cs)),.sl e=>
  if T.k e ≠ .other∧T.sz e=sz then
   match s.bd lo 0,s.bd hi n with
   | some l,some h=>if 0≤l∧l≤h∧h≤n then some (.c (.d (.sl sz (h.toNat-l.toNat) ((cs.drop (l.toNat*sz)).take ((h.toNat-l.toNat)*sz)))),s) else none
   | _,_=>none
  else none
 | .c (.own id sz off n),.sl e=>
  if T.k e ≠ .other∧T.sz e=sz then
   match s.bd lo 0,s.bd hi n with
   | some l,some h=>if 0≤l∧l≤h∧h≤n then(if l=0∨l<n then some (.c (.own id sz (off+l.toNat) (h.toNat-l.toNat)),s) else some (.c (.d (.sl sz 0 [])),s)) else none
   | _,_=>none
  else none
 | .c .nils,.sl e=>
  if T.k e ≠ .other then
   match s.bd lo 0,s.bd hi 0 with
   | some l,some h=>if l=0∧h=0 then some (.c .nils,s) else none
   | _,_=>none
  else none
 | _,_=>none
theorem qdU (T:Ty) (s:S) (t:TypeId) (x:Operand) (lo hi:Option Operand):q7U T s t x lo hi none=xsl T s t (s.ev x) lo hi:=by
 unfold q7U xsl
 generalize s.ev x=r
 generalize T.k t=kd
 cases r with
 | c c=>
  cases c with
  | d d=>cases d<;>cases kd<;>rfl
  | _=>cases kd<;>rfl
 | _=>rfl
section
variable {T:Ty} {s:S} {t:TypeId} {lo hi:Option Operand}
theorem qik {b:ByteArray} (hk:T.k t = .str):xsl T s t (.c (.d (.str b))) lo hi =
  match s.bd lo 0,s.bd hi b.size with
  | some l,some h=>if 0≤l∧l≤h∧h≤b.size then some (.c (.d (.str (b.extract l.toNat h.toNat))),s) else none
  | _,_=>none:=by unfold xsl;rw[hk]
theorem qky {id sz off n:Nat}:xsl T s t (.c (.own id sz off n)) none hi =
  match T.k t with
  | .sl e=>if T.k e ≠ .other∧T.sz e=sz then
   match s.bd hi n with
   | some h=>if 0≤h∧h≤n then some (.c (.own id sz off (min h.toNat n)),s) else none
   | _=>none
   else none
  | _=>none:=by
 unfold xsl
 cases T.k t<;>try rfl
 dsimp only[S.bd]
 split
 ·split
  ·rename_i l h h1 h2
   injection h1 with h1
   subst h1
   rw[h2]
   dsimp only
   by_cases hc:0≤h∧h≤n
   ·rw[if_pos ⟨Int.le_refl _,hc⟩,if_pos (.inl rfl),if_pos hc,show min h.toNat n=h.toNat by omega]
    rfl
   ·rw[if_neg (fun q=>hc q.2),if_neg hc]
  ·rename_i h1
   split
   ·rename_i h h2
    exact absurd h2 (h1 0 h rfl)
   ·rfl
 ·rfl
end
def qnW {α:Type} (s:S) (E:α→List D) (n:Nat) (v:List α) (l h:Option Int):RS:=
 match l,h with
 | some l,some h=>if 0≤l∧l≤h∧h≤v.length then some (.c (.d (.sl n ((v.drop l.toNat).take (h.toNat-l.toNat)).length (((v.drop l.toNat).take (h.toNat-l.toNat)).flatMap E))),s) else none
 | _,_=>none
theorem qhU {α:Type} {E:α→List D} {n:Nat} (h:∀x,(E x).length=n) {T:Ty} {s:S} {t e:TypeId} (v:List α) (lo hi:Option Operand) (hk:T.k t = .sl e) (hz:T.sz e=n) (ho:T.k e ≠ .other) :
  xsl T s t (.c (.d (.sl n v.length (v.flatMap E)))) lo hi=qnW s E n v (s.bd lo 0) (s.bd hi v.length):=by
 unfold xsl
 simp only[hk]
 rw[if_pos ⟨ho,hz⟩]
 unfold qnW
 cases s.bd lo 0 with
 | none=>rfl
 | some l=>
  cases s.bd hi v.length with
  | none=>rfl
  | some h'=>
   simp only
   split
   ·rename_i hc
    rw[qeE h,qe2 h,qxM,qy4,Nat.min_eq_left (by omega)]
   ·rfl
abbrev dI (n:Int):C:=C.d (D.int .i64 n)
abbrev dS (s:ByteArray):C:=C.d (D.str s)
abbrev dL {α:Type} (n:Nat) (E:α→List D) (v:List α):C:=C.d (D.sl n v.length (v.flatMap E))
abbrev dO (i sz n:Nat):C:=C.own i sz 0 n
abbrev dP (i:Nat):C:=C.ptr i 0
abbrev rI (n:Int):R:=R.c (C.d (D.int .i64 n))
abbrev rS (s:ByteArray):R:=R.c (C.d (D.str s))
abbrev rB (b:Bool):R:=R.c (C.d (D.bool b))
abbrev rL {α:Type} (n:Nat) (E:α→List D) (v:List α):R:=R.c (C.d (D.sl n v.length (v.flatMap E)))
abbrev rO (i sz n:Nat):R:=R.c (C.own i sz 0 n)
abbrev rP (i:Nat):R:=R.c (C.ptr i 0)
abbrev bR {α:Type} (e sz:Nat) (E:α→List D) (v:List α):B:=B.row e sz ((v.flatMap E).map C.d)
theorem XLs {E:Orc} {f k key:Nat} {c:Code} {σ ε:Type} {st:σ→S} {ex:ε→XS} {step:σ→Option (σ⊕ε)} (hc:lbO f key=c) (hl:okL f c) (hne:∀e,∃p,ex e=some p∧p.1 ≠ .normal)
  (h:∀x,lz2 f k key (XE2 E f k c (st x))=(step x).bind (Sum.elim (fun y=>some (.normal,st y)) ex)) (x:σ):XL2 E f k key (st x)=(qT step x).bind ex:=by
 obtain⟨g,hg⟩:∃g:ε→Exit×S,∀e,ex e=some (g e)∧(g e).1 ≠ .normal:=⟨fun e=>Classical.choose (hne e),fun e=>Classical.choose_spec (hne e)⟩
 obtain rfl:ex=fun e=>some (g e):=funext fun e=>(hg e).1
 exact q6Q (ex:=g) hc hl (fun e=>(hg e).2) h x
theorem q2s {E:Orc} {f k key:Nat} {c:Code} {A1 ε:Type} {st:A1→S} {ex:ε→XS} {step:A1→Option ((A1)⊕ε)} (hc:lbO f key=c) (hl:okL f c) (hne:∀e,∃p,ex e=some p∧p.1 ≠ .normal)
  (h:∀a1,lz2 f k key (XE2 E f k c (st a1))=(step a1).bind (Sum.elim (fun y=>some (.normal,st y)) ex)) (a1:A1):XL2 E f k key (st a1)=(qT step a1).bind ex:=
 XLs (st:=fun y=>st y) hc hl hne (fun a1=>h a1) a1
theorem qie {E:Orc} {f k key:Nat} {c:Code} {A1 A2 ε:Type} {st:A1→A2→S} {ex:ε→XS} {step:(A1×A2)→Option ((A1×A2)⊕ε)} (hc:lbO f key=c) (hl:okL f c) (hne:∀e,∃p,ex e=some p∧p.1 ≠ .normal)
  (h:∀a1 a2,lz2 f k key (XE2 E f k c (st a1 a2))=(step (a1,a2)).bind (Sum.elim (fun y=>some (.normal,st y.1 y.2)) ex)) (a1:A1) (a2:A2):XL2 E f k key (st a1 a2)=(qT step (a1,a2)).bind ex:=
 XLs (st:=fun y=>st y.1 y.2) hc hl hne (fun⟨a1,a2⟩=>h a1 a2) (a1,a2)
theorem qrc {E:Orc} {f k key:Nat} {c:Code} {A1 A2 A3 ε:Type} {st:A1→A2→A3→S} {ex:ε→XS} {step:(A1×A2×A3)→Option ((A1×A2×A3)⊕ε)} (hc:lbO f key=c) (hl:okL f c) (hne:∀e,∃p,ex e=some p∧p.1 ≠ .normal)
  (h:∀a1 a2 a3,lz2 f k key (XE2 E f k c (st a1 a2 a3))=(step (a1,a2,a3)).bind (Sum.elim (fun y=>some (.normal,st y.1 y.2.1 y.2.2)) ex)) (a1:A1) (a2:A2) (a3:A3):XL2 E f k key (st a1 a2 a3)=(qT step (a1,a2,a3)).bind ex:=
 XLs (st:=fun y=>st y.1 y.2.1 y.2.2) hc hl hne (fun⟨a1,a2,a3⟩=>h a1 a2 a3) (a1,a2,a3)
def dzU (Q:TypeId→List Nat):B→B
 | .row e sz cs => .row e sz (dzc (Q e) [] cs)
 | b=>b
theorem qnR (z:Nat) {c:C} (h:c.isNils=false):dz z c=c:=by
 cases c<;>first|rfl|cases h
theorem q8c (zs0:List Nat):∀{cs:List C} (zs:List Nat),cs.any C.isNils=false→dzc zs0 zs cs=cs
 | [],zs,_=>by cases zs<;>rfl
 | c::cs,zs,h=>by
  rw[List.any_cons,Bool.or_eq_false_iff] at h
  cases zs with
  | nil=>rw[dzc,qnR _ h.1,q8c zs0 _ h.2]
  | cons z zs=>rw[dzc,qnR _ h.1,q8c zs0 _ h.2]
theorem qrR (Q:TypeId→List Nat) (b:B):dzB Q b=dzU Q b:=by
 cases b with
 | row e sz cs=>
  unfold dzB dzU
  simp only
  split
  ·rfl
  ·rename_i h
   rw[q8c _ _ (by simpa using h)]
 | _=>rfl
theorem qoJ (Q:TypeId→List Nat) (b:B) (h:b.nilr=false):dzU Q b=b:=by
 cases b with
 | row e sz cs=>unfold dzU;simp only;rw[q8c _ _ h]
 | _=>rfl
theorem qoP (tm:List (Nat×R)) (hp:List (Nat×B)) (nx n:Nat) (Q:TypeId→List Nat):S.dzr (S.mk tm hp nx n) Q=S.mk tm (hp.map fun x=>(x.1,dzU Q x.2)) nx n:=by
 unfold S.dzr
 split
 ·simp only[qrR]
 ·rename_i h
  congr 1
  have h2:∀x∈hp,x.2.nilr=false:=fun x hx=>by
   cases hb:x.2.nilr with
   | false=>rfl
   | true=>exact absurd (qyc.2 ⟨x,hx,hb⟩) h
  refine(List.map_id' hp).symm.trans (List.map_congr_left fun x hx=>?_)
  rw[qoJ Q x.2 (h2 x hx)]
theorem qkz (Q:TypeId→List Nat) (e sz:Nat) (cs:List C):dzU Q (.row e sz cs) = .row e sz (dzc (Q e) [] cs):=rfl
theorem qkf (Q:TypeId→List Nat) (t:Nat) (cs:List C):dzU Q (.blk t cs) = .blk t cs:=rfl
theorem qny (Q:TypeId→List Nat) (o:AO):dzU Q (.ob o) = .ob o:=rfl
theorem qfr (Q:TypeId→List Nat):dzU Q .dead = .dead:=rfl
theorem qkK {α:Type} (x:α):Option.toArray (some x)=[x].toArray:=rfl
theorem qkq {α:Type}:Option.toArray (none:Option α)=([]:List α).toArray:=rfl
theorem qmA {α:Type} (l m:List α):l.toArray++m.toArray=(l++m).toArray:=by simp
theorem qkY {α:Type} (l:List α):Array.toList l.toArray=l:=rfl
end
noncomputable section
open Go.RowKit
set_option maxRecDepth 20000
def mpE {κ ν:Type} (kE:κ→Value) (vE:ν→R):List (κ×ν)→Nat→List (Value×R×Nat)
 | [],_=>[]
 | p::M,i=>(kE p.1,vE p.2,i)::mpE kE vE M (i+1)
def mpB {κ ν:Type} (kE:κ→Value) (vE:ν→R) (M:List (κ×ν)):AO := .mp (mpE kE vE M 0) M.length
def qx9 (k:IntKind) (n:Int):Value := .int k n
def Qg (s:ByteArray):Value := .string s
def qsk (b:Bool):Value := .bool b
section
variable {κ ν:Type} [DecidableEq κ]
def q7m (M:List (κ×ν)) (k:κ):Nat:=match M with
 | []=>0
 | p::M=>if k=p.1 then 0 else q7m M k+1
def Zs (z:ν) (M:List (κ×ν)) (k:κ):ν:=match M with
 | []=>z
 | p::M=>if k=p.1 then p.2 else Zs z M k
def Jy (M:List (κ×ν)) (k:κ):Bool:=match M with
 | []=>false
 | p::M=>if k=p.1 then true else Jy M k
def q2E (M:List (κ×ν)) (k:κ) (v:ν):List (κ×ν):=match M with
 | []=>[(k,v)]
 | p::M=>if k=p.1 then(k,v)::M else p::q2E M k v
end
section
variable {κ ν:Type} {kE:κ→Value} {vE:ν→R}
theorem qkp:∀(M:List (κ×ν)) (i:Nat),(mpE kE vE M i).length=M.length
 | [],_=>rfl
 | p::M,i=>by rw[mpE,qxu,qkp M,qxu]
theorem qiV {q:Value×R×Nat}:∀{M:List (κ×ν)} {i:Nat},q∈mpE kE vE M i→∃p∈M,q.1=kE p.1∧q.2.1=vE p.2
 | [],_,h=>by simp[mpE] at h
 | p::M,i,h=>by
  rw[mpE] at h
  rcases qxF.1 h with rfl|h
  ·exact⟨p,qxy,rfl,rfl⟩
  ·obtain⟨p',h1,h2⟩:=qiV h
   exact⟨p',qxr _ h1,h2⟩
theorem q6L {f:Value×R×Nat→Bool} (hf:∀k r i,f (kE k,r,i)=true):∀(M:List (κ×ν)) (i:Nat),(mpE kE vE M i).all f=true
 | [],_=>rfl
 | p::M,i=>by rw[mpE,List.all_cons,hf,q6L hf M];rfl
theorem q4K {f:R→R} (hf:∀v,f (vE v)=vE v) (M:List (κ×ν)):AO.mapR f (mpB kE vE M)=mpB kE vE M:=by
 have:∀(M:List (κ×ν)) (i:Nat),(mpE kE vE M i).map (fun e=>(e.1,f e.2.1,e.2.2))=mpE kE vE M i:=by
  intro M
  induction M with
  | nil=>intro i;rfl
  | cons p M ih=>intro i;rw[mpE,qxG,ih,hf]
 unfold mpB
 show AO.mp _ _=_
 rw[this]
theorem qkR {f:R→Bool} (hf:∀v,f (vE v)=true) (M:List (κ×ν)):(mpB kE vE M).Rs.all f=true:=by
 have:∀(M:List (κ×ν)) (i:Nat),((mpE kE vE M i).map (·.2.1)).all f=true:=by
  intro M
  induction M with
  | nil=>intro i;rfl
  | cons p M ih=>intro i;rw[mpE,qxG,List.all_cons,ih,hf];rfl
 exact this M 0
theorem q9z {f:R→List Nat} (hf:∀v,f (vE v)=[]) (M:List (κ×ν)):(mpB kE vE M).Rs.flatMap f=[]:=by
 have:∀(M:List (κ×ν)) (i:Nat),((mpE kE vE M i).map (·.2.1)).flatMap f=[]:=by
  intro M
  induction M with
  | nil=>intro i;rfl
  | cons p M ih=>intro i;rw[mpE,qxG,qyn,ih,hf];rfl
 exact this M 0
variable [DecidableEq κ] (hk:∀a b,kq (kE a) (kE b)=decide (a=b))
include hk
theorem qd4 (k:κ):∀(M:List (κ×ν)) (i:Nat) (z:ν),fnd (kE k) (mpE kE vE M i) i=if Jy M k=true then some (i+q7m M k,vE (Zs z M k),i+q7m M k) else none
 | [],i,z=>rfl
 | p::M,i,z=>by
  rw[mpE,fnd]
  simp only[hk,Jy,q7m,Zs,qyh]
  by_cases h:k=p.1
  ·simp[h]
  ·simp only[if_neg h]
   rw[qd4 k M (i+1) z]
   split
   ·rw[show i+1+q7m M k=i+(q7m M k+1) by omega]
   ·rfl
theorem qn0 (z:ν) (ok:Bool) (k:κ) (M:List (κ×ν)):lkq ok (vE z) (fnd (kE k) (mpE kE vE M 0) 0)=some (tt2 (vE (Zs z M k)) ok (Jy M k)):=by
 rw[qd4 hk k M 0 z]
 cases hm:Jy M k
 ·have:Zs z M k=z:=by
   clear hk
   induction M with
   | nil=>rfl
   | cons p M ih=>
    rw[Jy] at hm
    rw[Zs]
    split
    ·rename_i h;rw[if_pos h] at hm;cases hm
    ·rename_i h;rw[if_neg h] at hm;exact ih hm
  rw[this];rfl
 ·rfl
end
section
variable {κ ν:Type} {kE:κ→Value} {vE:ν→R} [DecidableEq κ]
theorem q9s (k:κ) (v:ν):∀(M:List (κ×ν)) (i:Nat),Jy M k=true→(mpE kE vE M i).set (q7m M k) (kE k,vE v,i+q7m M k)=mpE kE vE (q2E M k v) i∧(q2E M k v).length=M.length
 | [],_,h=>by cases h
 | p::M,i,h=>by
  rw[Jy] at h
  by_cases hp:k=p.1
  ·simp only[mpE,q7m,q2E,if_pos hp]
   exact⟨rfl,rfl⟩
  ·rw[if_neg hp] at h
   obtain⟨a,b⟩:=q9s k v M (i+1) h
   simp only[mpE,q7m,q2E,if_neg hp,qxu,List.set_cons_succ]
   rw[show i+(q7m M k+1)=i+1+q7m M k by omega,a,b]
   exact⟨rfl,rfl⟩
theorem q96 (k:κ) (v:ν):∀(M:List (κ×ν)) (i:Nat),Jy M k=false→mpE kE vE M i++[(kE k,vE v,i+M.length)]=mpE kE vE (q2E M k v) i∧(q2E M k v).length=M.length+1
 | [],i,_=>⟨rfl,rfl⟩
 | p::M,i,h=>by
  rw[Jy] at h
  by_cases hp:k=p.1
  ·rw[if_pos hp] at h;cases h
  ·rw[if_neg hp] at h
   obtain⟨a,b⟩:=q96 k v M (i+1) h
   simp only[mpE,q2E,if_neg hp,qxu,qyo]
   rw[show i+(M.length+1)=i+1+M.length by omega,a,b]
   exact⟨rfl,rfl⟩
theorem qg5 (k:κ) (v:ν):∀(M:List (κ×ν)),q7m (q2E M k v) k=q7m M k∧Jy (q2E M k v) k=true∧(Jy M k=false→q7m M k=M.length)
 | []=>by simp[q2E,q7m,Jy]
 | p::M=>by
  obtain⟨a,b,c⟩:=qg5 k v M
  by_cases hp:k=p.1
  ·simp[q2E,q7m,Jy,if_pos hp]
  ·simp only[q2E,q7m,Jy,if_neg hp,qxu]
   exact⟨by rw[a],b,fun h=>by rw[c h]⟩
end
def mpq:B→Option (List (Value×R×Nat))
 | .ob (.mp es _)=>some es
 | _=>none
def mpo (s:S):R→Option (List (Value×R×Nat))
 | .c .nilm=>some []
 | .c (.hd .map id)=>mpq (s.blk id)
 | _=>none
theorem qfJ (s:S) (x:Operand):q3J s x=mpo s (s.ev x):=by
 unfold q3J mpo mpq
 generalize s.ev x=r
 cases r with
 | c c=>
  cases c with
  | hd k id=>cases k<;>rfl
  | _=>rfl
 | _=>rfl
theorem qsK {κ ν:Type} (kE:κ→Value) (vE:ν→R) (M:List (κ×ν)):mpq (.ob (mpB kE vE M))=some (mpE kE vE M 0):=rfl
def mup (kt:Kd) (kv:Value) (r:R):B→Option B
 | .ob (.mp es ck)=>if plK kt kv=true∧es.all (fun q=>plK kt q.1)=true then
   (match fnd kv es 0 with
    | some q=>some (.ob (.mp (es.set q.1 (kv,r,q.2.2)) ck))
    | none=>some (.ob (.mp (es++[(kv,r,ck)]) (ck+1)))) else none
 | _=>none
def qwI (n:Int) (r:R):B→Option B
 | .ob (.mp es ck)=>(fnb n es 0).bind fun i=>(es[i]?).bind fun e=>some (.ob (.mp (es.set i (e.1,r,e.2.2)) ck))
 | _=>none
def xmu (T:Ty) (s:S) (t:TypeId) (m:R) (kv:Option Value) (r:R):Option (R×S):=
 match T.k t,m,kv with
 | .mp kt _,.c (.hd .map id),some kv=>(mup (T.k kt) kv r (s.blk id)).bind fun b=>some (.any,s.up [(id,b)])
 | _,_,_=>none
theorem qo2 (T:Ty) (s:S) (t:TypeId) (m:R) (kv:Option Value) (r:R):xmu T s t m kv r =
 match T.k t,m,kv with
 | .mp kt _,.c (.hd .map id),some kv=>(mup (T.k kt) kv r (s.blk id)).bind fun b=>some (.any,s.up [(id,b)])
 | _,_,_=>none:=rfl
theorem qaX (T:Ty) (s:S) (t:TypeId) (m k x:Operand):q1s T s t m k x=xmu T s t (s.ev m) (s.ev k).key (s.ev x):=by
 unfold q1s xmu mup
 generalize T.k t=kd
 generalize s.ev m=r
 generalize (s.ev k).key=kv
 cases kd with
 | mp kt e=>
  cases r with
  | c c=>
   cases c with
   | hd h id=>
    cases h with
    | map=>
     cases kv with
     | none=>rfl
     | some kv=>
      simp only
      generalize s.blk id=b
      cases b with
      | ob o=>
       cases o with
       | mp es ck=>
        simp only
        split
        ·cases fnd kv es 0<;>rfl
        ·rfl
       | _=>rfl
      | _=>rfl
    | _=>rfl
   | _=>rfl
  | _=>rfl
 | _=>rfl
def xes (s:S) (m st r:R):Option (R×S):=
 match m,st with
 | .c (.hd .map id),.c (.d (.int _ n))=>(qwI n r (s.blk id)).bind fun b=>some (.any,s.up [(id,b)])
 | _,_=>none
section
variable {κ ν:Type} {kE:κ→Value} {vE:ν→R} [DecidableEq κ] (hk:∀a b,kq (kE a) (kE b)=decide (a=b)) {kt:Kd} (hp:∀a,plK kt (kE a)=true)
include hk hp
theorem qmd (k:κ) (v:ν) (M:List (κ×ν)):mup kt (kE k) (vE v) (.ob (mpB kE vE M))=some (.ob (mpB kE vE (q2E M k v))):=by
 unfold mpB mup
 simp only
 rw[if_pos ⟨hp k,q6L (fun k r i=>hp k) M 0⟩,qd4 hk k M 0 v]
 cases hm:Jy M k
 ·obtain⟨a,b⟩:=q96 (kE:=kE) (vE:=vE) k v M 0 hm
  simp only[Bool.false_eq_true,if_false]
  rw[qxH] at a
  rw[a,b]
 ·obtain⟨a,b⟩:=q9s (kE:=kE) (vE:=vE) k v M 0 hm
  simp only[if_true]
  rw[qxH] at a ⊢
  rw[a,b]
end
theorem qcb {κ ν:Type} {kE:κ→Value} {vE:ν→R} {s:S} {sel:List Nat} (h:∀v,qeB s sel (vE v)=vE v) (M:List (κ×ν)):cvA s sel (mpB kE vE M)=some (mpB kE vE M):=by
 have:∀(M:List (κ×ν)) (i:Nat),(mpE kE vE M i).map (fun e=>(e.1,qeB s sel e.2.1,e.2.2))=mpE kE vE M i:=by
  intro M
  induction M with
  | nil=>intro i;rfl
  | cons p M ih=>intro i;rw[mpE,qxG,ih,h]
 show some (AO.mp ((mpE kE vE M 0).map fun e=>(e.1,qeB s sel e.2.1,e.2.2)) M.length)=_
 rw[this];rfl
theorem q9k (a b:ByteArray):kq (Qg a) (Qg b)=decide (a=b):=rfl
def mpc:B→Option Nat
 | .ob (.mp _ ck)=>some ck
 | _=>none
theorem qqR {κ ν:Type} (kE:κ→Value) (vE:ν→R) (M:List (κ×ν)):mpc (.ob (mpB kE vE M))=some M.length:=rfl
def xrg (s:S) (p:Nat) (kd:Kd) (r:R):Option (R×S):=
 match kd,r with
 | .str,.c (.d (.str b))=>some (.c (.hd .iter p),s.up [(p,.ob (.si b 0))])
 | .mp _ _,.c .nilm=>some (.c (.hd .iter p),s.up [(p,.ob (.mi (.c .nilm) 0 []))])
 | .mp _ _,.c (.hd .map id)=>(mpc (s.blk id)).bind fun ck=>some (.c (.hd .iter p),s.up [(p,.ob (.mi (.c (.hd .map id)) ck []))])
 | _,_=>none
theorem qdo (T:Ty) (s:S) (p:Nat) (t:TypeId) (x:Operand):q2H T s p t x=xrg s p (T.k t) (s.ev x):=by
 unfold q2H xrg
 split
 ·rename_i h1 h2;rw[h1,h2]
 ·rename_i h1 h2;rw[h1,h2]
 ·rename_i id h1 h2
  rw[h1,h2]
  simp only
  generalize s.blk id=b
  cases b with
  | ob o=>cases o<;>rfl
  | _=>rfl
 ·rename_i h1 h2 h3
  split
  ·rename_i q1 q2;exact absurd q2 (h1 _ q1)
  ·rename_i q1 q2;exact absurd q2 (h2 _ _ q1)
  ·rename_i q1 q2;exact absurd q2 (h3 _ _ _ q1)
  ·rfl
def qre (s:S) (b:B) (ck x:Nat):Option (R×S):=(mpq b).bind fun es=>(mpc b).bind fun c=>if c=ck then(q72 es x).bind fun r=>some (r,s) else none
def qr3 (s:S):B→Option (R×S)
 | .ob (.mi (.c (.hd .map mid)) ck (x::_))=>qre s (s.blk mid) ck x
 | _=>none
def xen (s:S):R→Option (R×S)
 | .c (.hd .iter id)=>qr3 s (s.blk id)
 | _=>none
theorem qeh (s:S) (it:Operand):q6c s it=xen s (s.ev it):=by
 unfold q6c xen
 generalize s.ev it=r
 cases r with
 | c c=>
  cases c with
  | hd k id=>
   cases k with
   | iter=>
    simp only
    generalize s.blk id=b
    cases b with
    | ob o=>
     cases o with
     | mi m ck l=>
      cases m with
      | c c=>
       cases c with
       | hd k mid=>
        cases k with
        | map=>
         cases l with
         | nil=>rfl
         | cons x l=>
          simp only[qr3,qre]
          generalize s.blk mid=b2
          cases b2 with
          | ob o=>
           cases o with
           | mp es c=>
            simp only[mpq,mpc,qxj]
            split
            ·cases q72 es x<;>rfl
            ·rfl
           | _=>rfl
          | _=>rfl
        | _=>rfl
       | _=>rfl
      | _=>rfl
     | _=>rfl
    | _=>rfl
   | _=>rfl
  | _=>rfl
 | _=>rfl
def qpY (s:S) (id:Nat):B→Option (R×S)
 | .ob (.m1 (some e) m since seen)=>some (.tup [.c (.d (.bool true)),kR e.1,e.2.1],s.up [(id,.ob (.mi m since (e.2.2::seen)))])
 | .ob (.m1 none m since seen)=>some (.tup [.c (.d (.bool false))],s.up [(id,.ob (.mi m since seen))])
 | _=>none
def xnm (s:S):R→Option (R×S)
 | .c (.hd .iter id)=>qpY s id (s.blk id)
 | _=>none
theorem qe6 (s:S) (it:Operand):q2K s it=xnm s (s.ev it):=by
 unfold q2K xnm qpY
 rfl
theorem qcs (b:ByteArray):kR (Qg b) = .c (.d (.str b)):=rfl
theorem qhu (k:IntKind) (n:Int):kR (qx9 k n) = .c (.d (.int k n)):=rfl
theorem qea (b:Bool):kR (qsk b) = .c (.d (.bool b)):=rfl
theorem qek {κ ν:Type} {kE:κ→Value} {vE:ν→R} (hk:∀a b,kE a=kE b→a=b) (hv:∀a b,vE a=vE b→a=b):∀(M M':List (κ×ν)) (i:Nat),mpE kE vE M i=mpE kE vE M' i→M=M'
 | [],[],_,_=>rfl
 | [],_::_,_,h=>by cases h
 | _::_,[],_,h=>by cases h
 | (a,v)::M,(b,w)::M',i,h=>by
  unfold mpE at h
  simp only[List.cons.injEq,Prod.mk.injEq] at h
  obtain⟨⟨h1,h2,_⟩,h3⟩:=h
  rw[hk _ _ h1,hv _ _ h2,qek hk hv M M' _ h3]
theorem qdG {κ ν:Type} {kE:κ→Value} {vE:ν→R} (hk:∀a b,kE a=kE b→a=b) (hv:∀a b,vE a=vE b→a=b) (M M':List (κ×ν)):(B.ob (mpB kE vE M)=B.ob (mpB kE vE M'))=(M=M'):=
 propext ⟨fun h=>by
  injection h with h
  unfold mpB at h
  injection h with h
  exact qek hk hv M M' 0 h,fun h=>by rw[h]⟩
section
variable {κ ν:Type}
def anyO (g:κ→ν→Option Bool):List (κ×ν)→Option Bool
 | []=>some false
 | q::M=>(g q.1 q.2).bind fun b=>(anyO g M).bind fun c=>some (b||c)
theorem q3z {g:κ→ν→Option Bool}:∀{M:List (κ×ν)} {b:Bool},anyO g M=some b→(∀q∈M,∃c,g q.1 q.2=some c)∧(b=true↔∃q∈M,g q.1 q.2=some true)
 | [],b,h=>by injection h with h;subst h;simp
 | q::M,b,h=>by
  unfold anyO at h
  obtain⟨c,h1,h⟩:=qxo.1 h
  obtain⟨d,h2,h⟩:=qxo.1 h
  injection h with h
  subst h
  obtain⟨h3,h4⟩:=q3z h2
  refine⟨fun p hp=>?_,?_⟩
  ·rcases qxF.1 hp with rfl|hp
   ·exact⟨c,h1⟩
   ·exact h3 p hp
  ·rw[qxO,h4]
   constructor
   ·rintro(rfl|⟨p,hp,h5⟩)
    ·exact⟨q,qxy,h1⟩
    ·exact⟨p,qxr _ hp,h5⟩
   ·rintro⟨p,hp,h5⟩
    rcases qxF.1 hp with rfl|hp
    ·rw[h1] at h5;injection h5 with h5;exact .inl h5
    ·exact .inr ⟨p,hp,h5⟩
theorem q6p {g:κ→ν→Option Bool}:∀{M:List (κ×ν)},(∀q∈M,∃c,g q.1 q.2=some c)→∃b,anyO g M=some b
 | [],_=>⟨false,rfl⟩
 | q::M,h=>by
  obtain⟨c,h1⟩:=h q qxy
  obtain⟨b,h2⟩:=q6p fun p hp=>h p (qxr _ hp)
  exact⟨c||b,by unfold anyO;rw[h1,qxj,h2];rfl⟩
theorem q4s {kE:κ→Value} {vE:ν→R} {e:Value×R×Nat}:∀{M:List (κ×ν)} {i:Nat},e∈mpE kE vE M i→∃q∈M,e.1=kE q.1∧e.2.1=vE q.2∧i≤e.2.2∧e.2.2<i+M.length∧q72 (mpE kE vE M i) e.2.2=some (.tup [kR (kE q.1),vE q.2])
 | [],_,h=>by simp[mpE] at h
 | p::M,i,h=>by
  rw[mpE] at h
  rcases qxF.1 h with rfl|h
  ·refine⟨p,qxy,rfl,rfl,qxz _,by simp,?_⟩
   unfold q72
   rw[mpE,List.find?_cons]
   simp
  ·obtain⟨q,h1,h2,h3,h4,h5,h6⟩:=q4s h
   refine⟨q,qxr _ h1,h2,h3,by omega,by simp;omega,?_⟩
   unfold q72 at h6 ⊢
   rw[mpE,List.find?_cons]
   have:(i==e.2.2)=false:=by simp;omega
   simp only[this]
   exact h6
theorem qae {kE:κ→Value} {vE:ν→R} {q:κ×ν}:∀{M:List (κ×ν)} {i:Nat},q∈M→∃j,(kE q.1,vE q.2,j)∈mpE kE vE M i
 | [],_,h=>by simp at h
 | p::M,i,h=>by
  rw[mpE]
  rcases qxF.1 h with rfl|h
  ·exact⟨i,qxy⟩
  ·obtain⟨j,hj⟩:=qae (kE:=kE) (vE:=vE) (i:=i+1) h
   exact⟨j,qxr _ hj⟩
theorem q6m {kE:κ→Value} {vE:ν→R}:∀(M:List (κ×ν)) (i:Nat),(mpE kE vE M i).map (·.2.2)=List.range' i M.length
 | [],_=>rfl
 | p::M,i=>by rw[mpE,qxG,q6m M,qxu,List.range'_succ]
theorem qjd {E:Orc} {f k key:Nat} {c:Code} {it:Operand} (hc:lbO f key=c) (hl:okL f c) {kE:κ→Value} {vE:ν→R} {M:List (κ×ν)} {st:B→S} {id mid:Nat} {x z:Exit×S} {g:κ→ν→Option Bool}
  (hok:∀a,kOk (kE a)=true) (hit:∀b,(st b).ev it = .c (.hd .iter id)) (hid:∀b,(st b).blk id=b) (hmid:∀b,(st b).blk mid = .ob (mpB kE vE M)) (hne:mid≠id) (hgh:∀b b',(st b).gh id b'=st b')
  (hx:x.1 ≠ .normal) (hz:z.1 ≠ .normal)
  (hr:∀(a:κ) (v:ν) (j:Nat) (l:List Nat),q72 (mpE kE vE M 0) j=some (.tup [kR (kE a),vE v])→lz2 f k key (XE2 E f k c (st (.ob (.m1 (some (kE a,vE v,j)) (.c (.hd .map mid)) M.length l))))=(g a v).bind fun b=>if b=true then some x else some (.normal,st (.ob (.mi (.c (.hd .map mid)) M.length (j::l)))))
  (hn:∀(l:List Nat),lz2 f k key (XE2 E f k c (st (.ob (.m1 none (.c (.hd .map mid)) M.length l))))=some z) :
  XM2 E f k key it (st (.ob (.mi (.c (.hd .map mid)) M.length [])))=(anyO g M).bind fun b=>some (if b=true then x else z):=by
 have hF:∀s,(XEo E f k (lbO f key) s).bind (lpx pol f key k)=lz2 f k key (XE2 E f k c s):=fun s=>by rw[hc,q9Y c hl];rfl
 have hHd:mHd it (st (.ob (.mi (.c (.hd .map mid)) M.length [])))=some (id,.c (.hd .map mid),M.length,mpE kE vE M 0):=by
  unfold mHd
  rw[hit]
  simp only[hid]
  have h1:mOf (st (.ob (.mi (.c (.hd .map mid)) M.length []))) id (.c (.hd .map mid)) M.length=some (mpE kE vE M 0):=by
   unfold mOf
   simp only[if_neg hne,hmid,mpB,if_true]
  rw[h1,qxj,if_pos]
  refine⟨by rw[q6m];exact List.nodup_range',qxA.2 fun e he=>?_⟩
  obtain⟨q,-,h2,-,-,h3,-⟩:=q4s he
  rw[h2,hok,qyk,qyh];omega
 have hg1:∀e l,(st (.ob (.mi (.c (.hd .map mid)) M.length []))).m1 id (.c (.hd .map mid)) M.length e l=st (.ob (.m1 e (.c (.hd .map mid)) M.length l)):=fun e l=>hgh _ _
 have hg2:∀l,(st (.ob (.mi (.c (.hd .map mid)) M.length []))).mi id (.c (.hd .map mid)) M.length l=st (.ob (.mi (.c (.hd .map mid)) M.length l)):=fun l=>hgh _ _
 have hent:∀e∈mpE kE vE M 0,∃q∈M,∀l,(XEo E f k (lbO f key) ((st (.ob (.mi (.c (.hd .map mid)) M.length []))).m1 id (.c (.hd .map mid)) M.length (some e) l)).bind (lpx pol f key k)=(g q.1 q.2).bind fun b=>if b=true then some x else some (.normal,(st (.ob (.mi (.c (.hd .map mid)) M.length []))).mi id (.c (.hd .map mid)) M.length (e.2.2::l)):=fun e he=>by
  obtain⟨q,h1,h2,h3,-,-,h4⟩:=q4s he
  refine⟨q,h1,fun l=>?_⟩
  rw[hF,hg1,hg2]
  obtain⟨e1,e2,e3⟩:=e
  simp only at h2 h3 h4
  subst h2 h3
  exact hr q.1 q.2 e3 l h4
 refine q5E (fun r h=>?_) (fun r h=>?_)
 ·obtain⟨id',m',ck',es',h1,h2⟩:=q4M h
  rw[hHd] at h1
  injection h1 with h1
  injection h1 with h3 h1
  injection h1 with h4 h1
  injection h1 with h5 h6
  subst h3 h4 h5 h6
  have hall:∀q∈M,∃b,g q.1 q.2=some b:=fun q hq=>by
   obtain⟨j,hj⟩:=qae (kE:=kE) (vE:=vE) (i:=0) hq
   obtain⟨q',h1,h3,-,-,-,h4⟩:=q4s hj
   have hF1:(XEo E f k (lbO f key) ((st (.ob (.mi (.c (.hd .map mid)) M.length []))).m1 id (.c (.hd .map mid)) M.length (some (kE q.1,vE q.2,j)) [])).bind (lpx pol f key k)=(g q.1 q.2).bind fun b=>if b=true then some x else some (.normal,(st (.ob (.mi (.c (.hd .map mid)) M.length []))).mi id (.c (.hd .map mid)) M.length (j::[])):=by
    rw[hF,hg1,hg2]
    refine hr q.1 q.2 j [] ?_
    obtain⟨q2,g1,g2,g3,g4,g5,g6⟩:=q4s hj
    rw[g6]
    simp only at g2 g3
    rw[←g2,←g3]
   cases hgq:g q.1 q.2 with
   | some b=>exact⟨b,rfl⟩
   | none=>
    rw[hgq] at hF1
    rcases h2.ent _ hj with h5|h5
    ·have:=(h5 [] (Ja _ _)).symm.trans hF1;cases this
    ·have:=(h5 [] (Ja _ _)).symm.trans hF1;cases this
  obtain⟨b,hb⟩:=q6p hall
  rw[hb,qxj]
  obtain⟨-,hb2⟩:=q3z hb
  congr 1
  rcases h2.fin with ⟨e,he,h5⟩|h5
  ·obtain⟨q,h6,h7⟩:=hent e he
   have h8:=(h7 []).symm.trans (h5 [] (Ja _ _))
   obtain⟨c',hc'⟩:=hall q h6
   rw[hc',qxj] at h8
   cases c' with
   | true=>
    rw[if_pos rfl] at h8
    injection h8 with h8
    rw[if_pos (hb2.2 ⟨q,h6,hc'⟩),h8]
   | false=>
    rw[if_neg (by simp)] at h8
    injection h8 with h8
    exact absurd (by rw[←h8]) h2.ne
  ·have h6:=h5 [] (Ja _ _)
   rw[hF,hg1,hn] at h6
   injection h6 with h6
   cases hbb:b with
   | false=>rw[if_neg (by simp),h6]
   | true=>
    obtain⟨q,hq,hq2⟩:=hb2.1 hbb
    obtain⟨j,hj⟩:=qae (kE:=kE) (vE:=vE) (i:=0) hq
    have hF1:(XEo E f k (lbO f key) ((st (.ob (.mi (.c (.hd .map mid)) M.length []))).m1 id (.c (.hd .map mid)) M.length (some (kE q.1,vE q.2,j)) [])).bind (lpx pol f key k)=some x:=by
     rw[hF,hg1]
     obtain⟨q2,g1,g2,g3,g4,g5,g6⟩:=q4s hj
     have:=hr q.1 q.2 j [] (by rw[g6];simp only at g2 g3;rw[←g2,←g3])
     rw[this,hq2];rfl
    rw[if_pos rfl]
    rcases h2.ent _ hj with h7|h7
    ·have:=(h7 [] (Ja _ _)).symm.trans hF1
     injection this with this
     exact absurd (by rw[←this]) hx
    ·have:=(h7 [] (Ja _ _)).symm.trans hF1
     injection this with this
     first
      | exact this
      | exact this.symm
 ·obtain⟨b,hb,h⟩:=qxo.1 h
  injection h with h
  subst h
  obtain⟨hall,hb2⟩:=q3z hb
  refine qcY hHd ⟨?_,fun e he=>?_,?_⟩
  ·split
   ·exact hx
   ·exact hz
  ·obtain⟨q,h6,h7⟩:=hent e he
   obtain⟨c',hc'⟩:=hall q h6
   cases c' with
   | false=>exact .inl fun l _=>by rw[h7 l,hc'];rfl
   | true=>exact .inr fun l _=>by rw[h7 l,hc',if_pos (hb2.2 ⟨q,h6,hc'⟩)];rfl
  ·cases hbb:b with
   | false=>exact .inr fun l _=>by rw[hF,hg1,hn];rfl
   | true=>
    obtain⟨q,hq,hq2⟩:=hb2.1 hbb
    obtain⟨j,hj⟩:=qae (kE:=kE) (vE:=vE) (i:=0) hq
    refine .inl ⟨_,hj,fun l _=>?_⟩
    rw[hF,hg1]
    obtain⟨q2,g1,g2,g3,g4,g5,g6⟩:=q4s hj
    have:=hr q.1 q.2 j l (by rw[g6];simp only at g2 g3;rw[←g2,←g3])
    rw[this,hq2];rfl
theorem q9P {E:Orc} {f k key:Nat} {c:Code} {it:Operand} (hc:lbO f key=c) (hl:okL f c) {kE:κ→Value} {vE:ν→R} {M:List (κ×ν)} {st:B→S} {id mid:Nat} {x z:Exit×S} {g:κ→ν→Option Bool}
  (hok:∀a,kOk (kE a)=true) (hit:∀b,(st b).ev it = .c (.hd .iter id)) (hid:∀b,(st b).blk id=b) (hmid:∀b,(st b).blk mid = .ob (mpB kE vE M)) (hne:mid≠id) (hgh:∀b b',(st b).gh id b'=st b')
  (hx:x.1 ≠ .normal) (hz:z.1 ≠ .normal)
  (hr:∀(a:κ) (v:ν) (j:Nat) (l:List Nat),q72 (mpE kE vE M 0) j=some (.tup [kR (kE a),vE v])→lz2 f k key (XE2 E f k c (st (.ob (.m1 (some (kE a,vE v,j)) (.c (.hd .map mid)) M.length l))))=(g a v).bind fun b=>if b=true then some x else some (.normal,st (.ob (.mi (.c (.hd .map mid)) M.length (j::l)))))
  (hn:∀(l:List Nat),lz2 f k key (XE2 E f k c (st (.ob (.m1 none (.c (.hd .map mid)) M.length l))))=some z) :
  XM2 E f k key it (st (.ob (.mi (.c (.hd .map mid)) M.length [])))=(anyO g M).bind fun b=>if b=true then some x else some z:=by
 rw[qjd hc hl hok hit hid hmid hne hgh hx hz hr hn]
 congr 1
 funext b
 cases b<;>rfl
theorem qk.anyO {g h:κ→ν→Option Bool} (hg:∀a v,qk (g a v) (h a v)):∀M:List (κ×ν),qk (Vc.anyO g M) (Vc.anyO h M)
 | []=>qk.refl _
 | q::M=>qk.bind (hg _ _) fun _=>qk.bind (qk.anyO hg M) fun _=>qk.refl _
end
end
noncomputable section
open Go.RowKit
theorem qa1 {ν:Type} {vE:ν→R}:∀(M:List (ByteArray×ν)) (i:Nat),q8I (mpE Qg vE M i)=some (M.map Prod.fst)
 | [],_=>rfl
 | p::M,i=>by
  rw[mpE]
  show(qss (Qg p.1)).bind _=_
  rw[qa1 M];rfl
theorem qr9 {ν:Type} {vE:ν→R} (M:List (ByteArray×ν)):skO (mpB Qg vE M)=some (M.map Prod.fst):=by
 show(if((mpE Qg vE M 0).map (·.2.2)).Nodup∧(mpE Qg vE M 0).all (fun e=>decide (e.2.2<M.length))=true then q8I (mpE Qg vE M 0) else none)=_
 rw[if_pos,qa1]
 refine⟨by rw[q6m];exact List.nodup_range',qxA.2 fun e he=>?_⟩
 obtain⟨q,-,-,-,-,h3,-⟩:=q4s he
 simpa using h3
theorem q6g:∀l:List ByteArray,l.map D.str=l.flatMap eS
 | []=>rfl
 | x::l=>by rw[qyn,qxG,q6g l];rfl
theorem qoe {ν:Type} {vE:ν→R} (g t:Nat) (M:List (ByteArray×ν)):qmk g 2 [.c (.fn g [] [.ptr 0 0])] [(0,.blk t [.hd .map 1]),(1,.ob (mpB Qg vE M))] =
  if qlt (M.map Prod.fst)=true then some (.c (.d (.sl 1 (q00 (M.map Prod.fst)).length ((q00 (M.map Prod.fst)).flatMap eS))),[(0,.blk t [.hd .map 1]),(1,.ob (mpB Qg vE M))]) else none:=by
 show(if g=g then(skO (mpB Qg vE M)).bind _ else none)=_
 rw[if_pos rfl,qr9,qxj,q6g,(Zw _).length_eq]
theorem q5T {α β:Type} {E:α→List β} {z:Nat} (hE:∀x,(E x).length=z):∀(l:List α) (i:Nat),i<l.length→(l.flatMap E).take (i*z)++(l.flatMap E).drop ((i+1)*z)=(l.eraseIdx i).flatMap E
 | [],_,h=>by simp at h
 | x::l,0,_=>by
  rw[qyn,Nat.zero_mul,List.take_zero,qxD,qxH,Nat.one_mul,←hE x,List.drop_left];rfl
 | x::l,i+1,h=>by
  rw[qyn,List.eraseIdx_cons_succ,qyn,←q5T hE l i (by simpa using h)]
  have e1:(i+1)*z=(E x).length+i*z:=by rw[hE,Nat.add_mul];omega
  have e2:(i+1+1)*z=(E x).length+(i+1)*z:=by rw[hE,Nat.add_mul (i+1)];omega
  rw[e2,List.drop_append,e1,List.take_append]
  simp[Nat.add_sub_cancel_left,qyp,List.drop_of_length_le]
theorem qkr {α:Type} {E:α→List D} {e z:Nat} (hE:∀x,(E x).length=z) {n:Nat} (l:List α) (i j:Int) (hn:n=l.length):qb9 e z 0 [.c (.own 0 z 0 n),.c (.d (.int .i64 i)),.c (.d (.int .i64 j))] [(0,.row e z ((l.flatMap E).map C.d))] =
  if 0≤i∧j=i+1∧i<l.length then some (.c (.own 0 z 0 (l.eraseIdx i.toNat).length),[(0,.row e z (((l.eraseIdx i.toNat).flatMap E).map C.d))]) else none:=by
 subst hn
 show qqa e z z z e l.length i j _=_
 unfold qqa
 have h1:((l.flatMap E).map C.d).length=l.length*z:=by
  rw[qy0]
  induction l with
  | nil=>simp
  | cons x l ih=>rw[qyn,qxq,ih,hE,qxu,Nat.add_mul];omega
 have h2:((l.flatMap E).map C.d).all C.known=true:=by rw[List.all_map];exact qxA.2 fun x _=>rfl
 have h3:((l.flatMap E).map C.d).all (C.far 0)=true:=by rw[List.all_map];exact qxA.2 fun x _=>rfl
 by_cases hc:0≤i∧j=i+1∧i<(l.length:Int)
 ·rw[if_pos ⟨rfl,rfl,rfl,h1,h2,h3,hc⟩,if_pos hc]
  have hi:i.toNat<l.length:=by omega
  rw[←List.map_take,←List.map_drop,←List.map_append,q5T hE l _ hi,List.length_eraseIdx,if_pos hi]
 ·rw[if_neg (fun h=>hc h.2.2.2.2.2.2),if_neg hc]
end
noncomputable section
open Go.RowKit
def C.pl:C→Bool
 | .d _=>true
 | .ow _ _ _ _=>true
 | _=>false
section
variable {α:Type} {E:α→List C} {n:Nat}
theorem qgf (h:∀x,(E x).all C.pl=true) (v:List α) {c:C} (hc:c∈v.flatMap E):c.pl=true:=by
 obtain⟨x,-,hx⟩:=List.mem_flatMap.1 hc
 exact qxA.1 (h x) c hx
theorem q9X (h:∀x,(E x).all C.pl=true) {f:C→C} (hf:∀c,c.pl=true→f c=c) (v:List α):(v.flatMap E).map f=v.flatMap E:=
 (List.map_congr_left fun c hc=>hf c (qgf h v hc)).trans (List.map_id _)
theorem qhF (h:∀x,(E x).all C.pl=true) {p:C→Bool} (hf:∀c,c.pl=true→p c=true) (v:List α):(v.flatMap E).all p=true:=
 qxA.2 fun c hc=>hf c (qgf h v hc)
theorem qmR (h:∀x,(E x).all C.pl=true) {p:C→Bool} (hf:∀c,c.pl=true→p c=false) (v:List α):(v.flatMap E).any p=false:=
 List.any_eq_false.2 fun c hc=>by rw[hf c (qgf h v hc)];decide
theorem qpR (h:∀x,(E x).all C.pl=true) {f:C→List Nat} (hf:∀c,c.pl=true→f c=[]) (v:List α):(v.flatMap E).flatMap f=[]:=
 List.flatMap_eq_nil_iff.2 fun c hc=>hf c (qgf h v hc)
theorem qhZ (h:∀x,(E x).length=n):∀l:List α,(l.flatMap E).length=l.length*n
 | []=>by simp
 | x::l=>by rw[qyn,qxq,h,qhZ h l,qxu,Nat.add_mul];omega
theorem qe0 (h:∀x,(E x).length=n) {o:Nat} (ho:o<n):∀(v:List α) (i:Nat),(v.flatMap E)[i*n+o]?=(v[i]?).bind fun x=>(E x)[o]?
 | [],i=>by simp
 | x::v,0=>by
  rw[qyn,Nat.zero_mul,qxH,qxW (by rw[h];exact ho)];rfl
 | x::v,i+1=>by
  rw[qyn,show(i+1)*n+o=(E x).length+(i*n+o) by rw[h,Nat.add_mul];omega,qxV (by omega),show(E x).length+(i*n+o)-(E x).length=i*n+o by omega,qe0 h ho v i]
  rfl
theorem q9V (h:∀x,(E x).length=n) {fo:Nat} {d:C} (g:α→α) (hf:fo<n) (hg:∀x,E (g x)=(E x).set fo d):∀(v:List α) (i:Nat),(v.flatMap E).set (i*n+fo) d=(v.modify i g).flatMap E
 | [],i=>by simp
 | y::v,0=>by
  rw[qyn,Nat.zero_mul,qxH,List.set_append_left _ _ (by rw[h];exact hf),←hg]
  simp
 | y::v,i+1=>by
  rw[qyn,show(i+1)*n+fo=(E y).length+(i*n+fo) by rw[h,Nat.add_mul];omega,List.set_append_right _ _ (by omega),show(E y).length+(i*n+fo)-(E y).length=i*n+fo by omega,q9V h g hf hg v i]
  simp
theorem qhz (v:List α) (x:α):v.flatMap E++E x=(v++[x]).flatMap E:=by simp
theorem qns {F:α→List D} (h:∀x,(E x).map C.uw=(F x).map C.d):∀v:List α,(v.flatMap E).map C.uw=(v.flatMap F).map C.d
 | []=>rfl
 | x::v=>by rw[qyn,qyn,List.map_append,List.map_append,h,qns h v]
theorem qqT {T:Ty} {t:TypeId} {cs:List C} {off:Nat} (hk:∀fs,T.k t ≠ .st fs) (ha:∀n e,T.k t ≠ .arr n e) (ho:T.k t ≠ .other):ld T cs off t=(cs[off]?).map .c:=by
 unfold ld
 split
 ·rename_i h;exact absurd h (hk _)
 ·rename_i h;exact absurd h (ha _ _)
 ·rename_i h;exact absurd h ho
 ·rfl
theorem qbU (zs0:List (Option (Nat×Nat))):∀(zs:List (Option (Nat×Nat))) (xs ys:List C),xs.all C.pl=true→zs.length=xs.length→q5w zs0 zs (xs++ys)=xs++q5w zs0 [] ys
 | [],[],ys,_,_=>rfl
 | [],d::ds,ys,_,h=>by cases h
 | z::zs,[],ys,_,h=>by cases h
 | z::zs,d::ds,ys,hp,h=>by
  rw[List.all_cons,qxP] at hp
  rw[qyo,q5w,qbU zs0 zs ds ys hp.2 (by simpa using h)]
  have:qf2 z d=d:=by
   rcases q6R z d with e|⟨e,-⟩
   ·exact e
   ·rw[e] at hp;cases hp.1
  rw[this];rfl
theorem qhQ (hp:∀x,(E x).all C.pl=true) (h:∀x,(E x).length=n+1) (zs0:List (Option (Nat×Nat))) (h0:zs0.length=n+1):∀(v:List α) (ys:List C),q5w zs0 [] (v.flatMap E++ys)=v.flatMap E++q5w zs0 [] ys
 | [],ys=>rfl
 | x::v,ys=>by
  have hx:=h x
  have hpx:=hp x
  rw[qyn,qxY,qxY,←qhQ hp h zs0 h0 v ys]
  cases hE:E x with
  | nil=>rw[hE] at hx;cases hx
  | cons d ds=>
   rw[hE] at hx hpx
   rw[List.all_cons,qxP] at hpx
   rw[qyo,q5w,qbU zs0 zs0.tail ds _ hpx.2 (by rw[List.length_tail];simp at hx;omega)]
   have:qf2 (zs0.headD none) d=d:=by
    rcases q6R (zs0.headD none) d with e|⟨e,-⟩
    ·exact e
    ·rw[e] at hpx;cases hpx.1
   rw[this];rfl
end
theorem qsH (k:Nat) (c:C) (h:c.pl=true):c.fg k=c:=by cases c<;>first|rfl|cases h
theorem qrg (ids:List Nat) (c:C) (h:c.pl=true):cn ids c=c:=by cases c<;>first|rfl|cases h
theorem qs8 (c:C) (h:c.pl=true):c.kw=c:=by cases c<;>first|rfl|cases h
theorem qrr (k e sz:Nat) (ds:List D) (c:C) (h:c.pl=true):c.ab k e sz ds=c:=by cases c<;>first|rfl|cases h
theorem qoa (k:Nat) (c:C) (h:c.pl=true):c.far k=true:=by cases c<;>first|rfl|cases h
theorem qkd (X:List Nat) (c:C) (h:c.pl=true):c.farF X=true:=by cases c<;>first|rfl|cases h
theorem qj9 (c:C) (h:c.pl=true):c.isNils=false:=by cases c<;>first|rfl|cases h
theorem qkW (c:C) (h:c.pl=true):c.refs=[]:=by cases c<;>first|rfl|cases h
theorem qjY (c:C) (h:c.pl=true):c.rows=[]:=by cases c<;>first|rfl|cases h
theorem qhm (f:C→C) (xs ys:List C):(xs++ys).map f=xs.map f++ys.map f:=List.map_append
theorem qgb (f:C→C):∀(ys cs:List C) (o:Nat),(spr cs o ys).map f=spr (cs.map f) o (ys.map f):=fun ys cs o=>(q5h f ys cs o).symm
theorem qgv (a b:C) (cs:List C) (o:Nat):spr (spr cs o [a]) o [b]=spr cs o [b]:=by
 show(cs.set o a).set o b=cs.set o b
 rw[List.set_set]
theorem qfA (cs:List C) (o:Nat) (c:C):((spr cs o [c])[o]?).map R.c=(cs[o]?).bind fun _=>some (R.c c):=by
 show((cs.set o c)[o]?).map R.c=_
 rcases Nat.lt_or_ge o cs.length with h|h
 ·rw[qyf h,qxl h];rfl
 ·rw[qxR (by rw[qy3];exact h),qxR h];rfl
theorem qaP (ys cs:List C) (o:Nat):(spr cs o ys).length=cs.length:=q2P ys cs o
theorem qoE (ds:List D):(ds.map C.d).map C.uw=ds.map C.d:=by rw[List.map_map];rfl
theorem qpi (k e sz:Nat) (es ds:List D):(ds.map C.d).map (C.ab k e sz es)=ds.map C.d:=by rw[List.map_map];rfl
end
noncomputable section
open Go.RowKit
def bx0:=JA_ @S.uwD.eq_1 (JA_ @S.tkD.eq_1 (JA_ @S.tkP.eq_1 (JA_ @S.tkP.eq_2 (JA_ @qlI.eq_1 (JA_ @qlI.eq_2 (JA_ @qlI.eq_10 (JA_ @tkL.eq_1 (JA_ @tkL.eq_2 (JA_ @S.frk.eq_1 (JA_ @qnJ.eq_1 (JA_ @qeH.eq_1 (JA_ @qfv (JA_ @qgO (JA_ @adL.eq_1 (JA_ @adS.eq_1 (JA_ @adP.eq_1 (JA_ @adP.eq_2 (JA_ @qtW.eq_1 (JA_ @qt7.eq_1 (JA_ @S.wk.eq_1 (JA_ @q9g.eq_1 (JA_ @q9g.eq_2 (JA_ @qth.eq_1 (JA_ @S.abR.eq_1 (JA_ @uwR.eq_1 (@uwR.eq_2))))))))))))))))))))))))))
def bx1:=JA_ @ldO.eq_1 (JA_ @ldT.eq_1 (JA_ @ldT.eq_2 (JA_ @ldT.eq_10 (JA_ @ldP.eq_1 (JA_ @ldU.eq_1 (JA_ @stO.eq_1 (JA_ @qqi.eq_1 (JA_ @qqi.eq_2 (JA_ @qqF.eq_1 (JA_ @qi7.eq_1 (JA_ @S.fnB.eq_1 (JA_ @S.uwB.eq_1 (JA_ @Kd.isSl0.eq_1 (JA_ @tkS.eq_1 (JA_ @B.kw.eq_1 (JA_ @B.kw.eq_2 (JA_ @C.kw.eq_2 (JA_ @R.nw.eq_1 (JA_ @R.nw.eq_2 (JA_ @R.nw0.eq_1 (JA_ @R.nw0.eq_2 (JA_ @R.nw0.eq_4 (JA_ @C.nw.eq_2 (@C.nw.eq_3))))))))))))))))))))))))
def bx2:=JA_ @C.dn0.eq_3 (JA_ @S.uw.eq_1 (JA_ @B.uw.eq_1 (JA_ @B.uw.eq_2 (JA_ @B.uw.eq_4 (JA_ @C.uw.eq_1 (JA_ @C.uw.eq_2 (JA_ @S.dzo.eq_1 (JA_ @qdb.eq_1 (JA_ @qdb.eq_2 (JA_ @q5w.eq_1 (JA_ @q5w.eq_2 (JA_ @q5w.eq_3 (JA_ @qf2.eq_1 (JA_ @qf2.eq_2 (JA_ @S.abL.eq_1 (JA_ @S.abL.eq_2 (JA_ @S.ab1.eq_1 (JA_ @ab2.eq_1 (JA_ @qll.eq_1 (JA_ @qll.eq_2 (JA_ @qoc.eq_2 (JA_ @abS.eq_1 (JA_ @B.ab.eq_1 (JA_ @B.ab.eq_2 (JA_ @B.ab.eq_4 (JA_ @C.ab.eq_1 (JA_ @C.ab.eq_2 (JA_ @qeU.eq_1 (JA_ @q3B.eq_1 (JA_ @abAt.eq_1 (JA_ @C.noow.eq_2 (@qfh.eq_1))))))))))))))))))))))))))))))))
def bx3:=JA_ @qfh.eq_2 (JA_ @S.strip.eq_1 (JA_ @q2G.eq_1 (JA_ @q2G.eq_2 (JA_ @R.isA.eq_2 (JA_ @qtF.eq_1 (JA_ @qqs.eq_1 (JA_ @qd3.eq_1 (JA_ @qc0.eq_1 (JA_ @S.ly.eq_1 (JA_ @alC.eq_1 (JA_ @alC.eq_2 (JA_ @alX.eq_2 (JA_ @ipX.eq_1 (JA_ @qqn.eq_1 (JA_ @qqn.eq_2 (JA_ @ipA.eq_1 (JA_ @ipS.eq_1 (JA_ @ipS.eq_2 (JA_ @ipF.eq_1 (JA_ @qm6.eq_1 (@qm6.eq_2)))))))))))))))))))))
def bx4:=JA_ @q8q.eq_1 (JA_ @qfE.eq_1 (JA_ @qfE.eq_2 (JA_ @zmk.eq_1 (JA_ @zmk.eq_2 (JA_ @S.fin.eq_1 (JA_ @S.fn1.eq_1 (JA_ @S.inr.eq_1 (JA_ @prx.eq_1 (JA_ @APr.of_run (JA_ @pr0.eq_1 (JA_ @List.isEmpty_nil.{0} (JA_ @List.isEmpty_cons.{0} (JA_ @wbC.eq_1 (JA_ @B.beq.eq_1 (JA_ @B.beq.eq_3 (JA_ @C.beqL.eq_1 (JA_ @C.beqL.eq_2 (JA_ @C.beq0.eq_1 (JA_ @D.beq.eq_1 (@D.beq.eq_4))))))))))))))))))))
def bx5:=JA_ @qsN.eq_1 (JA_ @dzc.eq_2 (JA_ @dzc.eq_3 (JA_ @C.isNils.eq_1 (JA_ @C.isNils.eq_2 (JA_ @qfS (JA_ @List.any_append.{0} (JA_ @q0X.eq_1 (JA_ @q4t.eq_1 (JA_ @q4t.eq_2 (JA_ @qfF.eq_1 (JA_ @fpA.eq_1 (JA_ @qaQ.eq_1 (JA_ @S.kill.eq_1 (JA_ @qkL.eq_1 (JA_ @qkL.eq_2 (JA_ @qcH.eq_1 (JA_ @qoz.eq_1 (JA_ @okX.eq_1 (JA_ @okX.eq_2 (JA_ @okK.eq_1 (JA_ @okN.eq_1 (JA_ @okN.eq_2 (JA_ @qiU.eq_1 (JA_ @qiU.eq_2 (JA_ @qlr.eq_1 (JA_ @qlr.eq_2 (JA_ @q3L.eq_1 (JA_ @qey.eq_1 (@q1c.eq_1)))))))))))))))))))))))))))))
def bx6:=JA_ @qe5.eq_1 (JA_ @q3H.eq_1 (@q5Y.eq_1))
def bx7:=JA_ @qcA.eq_1 (JA_ @D.key.eq_3 (JA_ @R.key.eq_1 (JA_ @plK.eq_2 (JA_ @zR.eq_1 (JA_ @tt2.eq_1 (JA_ @B.isOb.eq_2 (JA_ @AO.mapR.eq_3 (JA_ @AO.mapR.eq_4 (JA_ @AO.Rs.eq_3 (JA_ @AO.Rs.eq_4 (@R.refs0.eq_1)))))))))))
def bx8:=JA_ @xgd.eq_1 (JA_ @xgF.eq_1 (JA_ @xo.eq_1 (JA_ @xo.eq_2 (JA_ @xo.eq_3 (JA_ @xo.eq_4 (JA_ @xo.eq_5 (JA_ @xo.eq_6 (JA_ @xo.eq_7 (JA_ @xo.eq_8 (JA_ @xo.eq_9 (JA_ @xo.eq_10 (JA_ @xo.eq_11 (JA_ @xo.eq_12 (JA_ @xo.eq_13 (JA_ @xo.eq_14 (JA_ @xo.eq_16 (JA_ @xo.eq_17 (JA_ @xo.eq_19 (JA_ @xo.eq_20 (JA_ @xo.eq_21 (JA_ @xo.eq_22 (JA_ @xo.eq_23 (JA_ @xo.eq_24 (JA_ @xo.eq_25 (JA_ @xo.eq_29 (JA_ @xo.eq_30 (JA_ @xo.eq_31 (JA_ @xCl.eq_1 (JA_ @pre.eq_1 (JA_ @pre.eq_2 (@pre.eq_3)))))))))))))))))))))))))))))))
def bx9:=JA_ @q5d.eq_1 (JA_ @q0b.eq_1 (JA_ @q69.eq_1 (JA_ @qaw.eq_1 (JA_ @q8r.eq_1 (JA_ @q1T.eq_1 (JA_ @q16.eq_2 (JA_ @q16.eq_3 (JA_ @qsc.eq_1 (JA_ @qbp.eq_1 (JA_ @qbp.eq_2 (JA_ @cvR.eq_1 (JA_ @cvR.eq_2 (JA_ @cvL.eq_1 (JA_ @cvL.eq_2 (JA_ @qf9.eq_1 (JA_ @qf9.eq_2 (JA_ @cv.eq_1 (JA_ @cv.eq_2 (JA_ @cv0.eq_1 (JA_ @cv0.eq_5 (JA_ @cv0.eq_8 (JA_ @cv0.eq_9 (JA_ @cv0.eq_10 (JA_ @cvG.eq_1 (JA_ @cvG.eq_2 (JA_ @cvB.eq_1 (JA_ @cvB.eq_2 (@cvB.eq_3))))))))))))))))))))))))))))
def qvr:=JA_ @vis.eq_1 (JA_ @q4v.eq_1 (JA_ @q4v.eq_2 (JA_ @q1v (JA_ @qj4.eq_1 (JA_ @pos.eq_1 (JA_ @pos.eq_2 (JA_ @qg0.eq_1 (JA_ @q6s.eq_1 (JA_ @q9v.eq_1 (JA_ @qqE.eq_1 (JA_ @q1b.eq_1 (JA_ @q0H.eq_1 (JA_ @q26.eq_1 (JA_ @q4H.eq_1 (JA_ @q1H.eq_1 (JA_ @qbk.eq_1 (JA_ @qbk.eq_2 (JA_ @qbk.eq_4 (JA_ @qbk.eq_5 (JA_ @qbk.eq_10 (JA_ @qbk.eq_11 (JA_ @qbk.eq_12 (JA_ @qbk.eq_13 (JA_ @qbk.eq_14 (JA_ @qbk.eq_15 (JA_ @qi6.eq_1 (JA_ @qi6.eq_2 (@qi6.eq_3))))))))))))))))))))))))))))
def qvv:=JA_ @qi6.eq_6 (JA_ @qi6.eq_7 (JA_ @qpb.eq_1 (JA_ @qpb.eq_2 (JA_ @qq7.eq_1 (JA_ @qqj.eq_1 (JA_ @qqk.eq_1 (JA_ @qfL.eq_1 (JA_ @qad.eq_1 (JA_ @q99.eq_1 (JA_ @Jw.eq_1 (JA_ @q3p.eq_1 (JA_ @q3g.eq_1 (JA_ @Kd.isSl.eq_1 (JA_ @nrm.eq_1 (JA_ @qhL.eq_1 (JA_ @qqY.eq_1 (JA_ @rng.eq_1 (JA_ @rng.eq_2 (JA_ @rwAll.eq_1 (JA_ @rwAll.eq_2 (@rw1.eq_1)))))))))))))))))))))
def qvs:=JA_ @rw1.eq_2 (JA_ @rw1.eq_4 (JA_ @rw1.eq_5 (JA_ @cn.eq_1 (JA_ @cn.eq_2 (JA_ @cn0.eq_1 (JA_ @cn0.eq_2 (JA_ @cn0.eq_3 (JA_ @cn0.eq_5 (JA_ @cnR.eq_2 (JA_ @qbq.eq_1 (JA_ @qbq.eq_2 (JA_ @qbq.eq_3 (JA_ @cnB.eq_1 (JA_ @cnB.eq_2 (JA_ @cnB.eq_3 (JA_ @cnH.eq_1 (JA_ @cnH.eq_2 (JA_ @qmT (JA_ @zg.eq_1 (JA_ @zg.eq_2 (JA_ @qpS.eq_1 (JA_ @qbn.eq_1 (JA_ @q5P.eq_1 (JA_ @qb0.eq_1 (JA_ @q5J.eq_1 (JA_ @q8L.eq_1 (JA_ @q5Q.eq_1 (JA_ @q5Q.eq_2 (JA_ @S.frz.eq_1 (JA_ @S.frz.eq_2 (@S.frz1.eq_1)))))))))))))))))))))))))))))))
def qwq:=JA_ @fz.eq_2 (JA_ @fz0.eq_1 (JA_ @fz0.eq_2 (JA_ @fz0.eq_5 (JA_ @fzR.eq_2 (JA_ @qf8.eq_1 (JA_ @qf8.eq_2 (JA_ @qf8.eq_3 (JA_ @fzB.eq_1 (JA_ @fzB.eq_2 (JA_ @fzB.eq_4 (JA_ @qm2 (JA_ @dz.eq_1 (JA_ @dz.eq_2 (JA_ @dzL.eq_1 (JA_ @dzL.eq_2 (JA_ @dzR.eq_1 (JA_ @dzR.eq_2 (JA_ @qaO.eq_1 (JA_ @qaO.eq_2 (JA_ @one.eq_1 (JA_ @one.eq_2 (JA_ @rvs.eq_1 (JA_ @rvs.eq_2 (JA_ @qjZ.eq_1 (JA_ @qjZ.eq_2 (JA_ @tt.eq_1 (JA_ @ff.eq_1 (JA_ @q4U.eq_1 (JA_ @q4U.eq_2 (JA_ @C.ref0.eq_1 (JA_ @C.ref0.eq_2 (JA_ @C.ref0.eq_3 (@C.ref0.eq_4)))))))))))))))))))))))))))))))))
def qwW:=JA_ @C.refs.eq_1 (JA_ @C.refs.eq_2 (JA_ @B.refs.eq_1 (JA_ @B.refs.eq_2 (JA_ @B.refs.eq_3 (JA_ @B.refs.eq_4 (JA_ @R.refs.eq_1 (JA_ @R.refs.eq_2 (JA_ @R.refs.eq_4 (JA_ @C.rows0.eq_1 (JA_ @C.rows0.eq_2 (JA_ @C.rows.eq_1 (JA_ @C.rows.eq_2 (JA_ @R.rows.eq_1 (JA_ @R.rows.eq_2 (JA_ @C.ptrs0.eq_1 (JA_ @C.ptrs0.eq_2 (JA_ @C.ptrs0.eq_3 (JA_ @C.ptrs.eq_1 (JA_ @C.ptrs.eq_2 (JA_ @R.ptrs.eq_1 (JA_ @R.ptrs.eq_2 (JA_ @B.isBlk.eq_1 (JA_ @B.isBlk.eq_2 (JA_ @B.isBlk.eq_3 (JA_ @R.scl.eq_1 (JA_ @R.scl.eq_2 (JA_ @R.scl0.eq_1 (JA_ @R.scl0.eq_2 (JA_ @C.scl.eq_1 (JA_ @C.scl.eq_2 (JA_ @C.scl0.eq_1 (JA_ @C.scl0.eq_4 (@B.scl.eq_1)))))))))))))))))))))))))))))))))
def qwh:=JA_ @B.scl.eq_2 (JA_ @B.scl.eq_3 (JA_ @C.dat.eq_2 (JA_ @C.dat0.eq_1 (JA_ @C.dat0.eq_5 (JA_ @C.dat0.eq_8 (JA_ @ren.eq_1 (JA_ @R.rn.eq_1 (JA_ @R.rn.eq_2 (JA_ @R.rn0.eq_1 (JA_ @R.rn0.eq_2 (JA_ @C.rn.eq_1 (JA_ @C.rn.eq_2 (JA_ @C.rn0.eq_1 (JA_ @C.rn0.eq_2 (JA_ @C.rn0.eq_3 (JA_ @C.rn0.eq_6 (JA_ @B.rn.eq_1 (JA_ @B.rn.eq_2 (JA_ @B.rn.eq_3 (JA_ @qo1 (JA_ @S.aft.eq_1 (JA_ @S.fgL.eq_1 (JA_ @S.fgL.eq_2 (JA_ @C.fgL.eq_1 (JA_ @C.fgL.eq_3 (JA_ @C.fgL.eq_4 (@C.fgL.eq_5)))))))))))))))))))))))))))
def qvT:=JA_ @R.fgL.eq_1 (JA_ @R.fgL.eq_2 (JA_ @B.fgL.eq_1 (JA_ @B.fgL.eq_2 (JA_ @B.fgL.eq_4 (JA_ @C.farL.eq_1 (JA_ @C.farL.eq_3 (JA_ @C.farL.eq_5 (JA_ @R.farL.eq_1 (JA_ @B.farL.eq_1 (JA_ @B.farL.eq_2 (JA_ @qqz.eq_3 (JA_ @S.ev.eq_1 (JA_ @S.ev.eq_2 (JA_ @S.ev.eq_3 (JA_ @S.get.eq_1 (JA_ @S.blk.eq_1 (JA_ @S.put.eq_1 (JA_ @S.put.eq_2 (JA_ @S.up.eq_1 (JA_ @S.bd.eq_1 (JA_ @S.bd.eq_2 (@S.seq.eq_1))))))))))))))))))))))
def qvW:=JA_ @S.cell1.eq_1 (JA_ @lk.eq_1 (JA_ @lk.eq_2 (JA_ @ZQ.eq_1 (JA_ @ZQ.eq_2 (JA_ @ZQ.eq_3 (JA_ @ZQ.eq_5 (JA_ @ZQ.eq_6 (JA_ @ZQ.eq_7 (JA_ @q1S.eq_1 (JA_ @q1S.eq_2 (JA_ @qiP (JA_ @ldx.eq_1 (JA_ @bld.eq_1 (JA_ @bld.eq_2 (JA_ @spl.eq_1 (JA_ @spl.eq_2 (JA_ @Jn.eq_1 (JA_ @Ty.foff.eq_1 (JA_ @R.cells.eq_1 (JA_ @R.cells.eq_2 (JA_ @R.parts.eq_1 (JA_ @R.parts.eq_2 (JA_ @B.cells.eq_1 (JA_ @B.cells.eq_2 (JA_ @B.live.eq_1 (JA_ @B.live.eq_2 (JA_ @C.known.eq_3 (JA_ @C.far.eq_1 (@C.far.eq_3)))))))))))))))))))))))))))))
def qvu:=JA_ @C.far.eq_5 (JA_ @S.fg.eq_1 (JA_ @R.fg.eq_1 (JA_ @R.fg.eq_2 (JA_ @R.fg.eq_3 (JA_ @R.fg.eq_4 (JA_ @B.fg.eq_1 (JA_ @B.fg.eq_2 (JA_ @B.fg.eq_4 (JA_ @C.fg.eq_1 (JA_ @C.fg.eq_3 (JA_ @C.fg.eq_4 (JA_ @C.fg.eq_5 (JA_ @D1.eq_1 (JA_ @q1k.eq_1 (JA_ @q1k.eq_3 (JA_ @q1k.eq_4 (JA_ @q1k.eq_6 (JA_ @q1k.eq_7 (JA_ @q1k.eq_8 (JA_ @q1k.eq_9 (JA_ @q1k.eq_10 (JA_ @q1k.eq_11 (JA_ @q1k.eq_14 (JA_ @q1k.eq_15 (JA_ @q1k.eq_17 (JA_ @q1k.eq_23 (@q1k.eq_24)))))))))))))))))))))))))))
def qvK:=JA_ @qc2.eq_1 (JA_ @qc2.eq_5 (JA_ @qc2.eq_6 (JA_ @q5t.eq_3 (JA_ @q5t.eq_5 (JA_ @q5t.eq_6 (JA_ @qe1.eq_1 (JA_ @qe1.eq_3 (JA_ @qe1.eq_4 (JA_ @qe1.eq_5 (JA_ @fpC.eq_1 (JA_ @qmB.eq_1 (JA_ @qoj.eq_1 (JA_ @qqv.eq_1 (JA_ @C.lt0.eq_4 (JA_ @C.ltn.eq_2 (JA_ @R.lt0.eq_1 (JA_ @R.ltn.eq_2 (JA_ @B.ltn.eq_1 (JA_ @B.ltn.eq_4 (JA_ @q1t.eq_1 (JA_ @Fp.none?.eq_1 (JA_ @okP.eq_1 (@okP.eq_2)))))))))))))))))))))))
def qwi:=JA_ @qfd (JA_ @qgW (JA_ @qj8 (JA_ @qfW (JA_ @qfc (JA_ @qhk (JA_ @qkX (JA_ @qfu (JA_ @qge (JA_ @qgj (JA_ @qaK (JA_ @qiR (JA_ @qg2 (JA_ @qfg (JA_ @qjG (JA_ @qfy (JA_ @qgz (JA_ @qfN (JA_ @ql6 (JA_ @qfj (JA_ @qg7 (JA_ @qhh (JA_ @qlj (JA_ @qgM (JA_ @qk6 (JA_ @qcp (JA_ @qkv (JA_ @qg3 (JA_ @qg9 (JA_ @qot (JA_ @qiD (@C.farF.eq_2)))))))))))))))))))))))))))))))
def qvq:=JA_ @Op.operands.eq_1 (JA_ @Op.operands.eq_4 (JA_ @Op.operands.eq_7 (JA_ @Op.operands.eq_8 (JA_ @Op.operands.eq_9 (JA_ @Op.operands.eq_14 (JA_ @Op.operands.eq_23 (JA_ @Op.operands.eq_24 (JA_ @Op.operands.eq_25 (JA_ @Op.operands.eq_26 (JA_ @Op.operands.eq_27 (JA_ @Op.operands.eq_29 (JA_ @Op.operands.eq_36 (@Op.operands.eq_40)))))))))))))
def qwv:=JA_ @qmC (JA_ @qmO (JA_ @qn1.eq_1 (JA_ @qn1.eq_2 (JA_ @Option.toList_some.{0} (JA_ @Option.toList_none.{0} (JA_ @List.getElem?_nil.{0} (JA_ @List.drop_zero.{0} (JA_ @Int.cast_ofNat_Int (JA_ @Int.le_refl (JA_ @qxz (JA_ @Option.bind_assoc.{0,0,0} (JA_ @List.any_nil.{0} (JA_ @List.any_cons.{0} (JA_ @List.getD_cons_zero.{0} (JA_ @List.getD_cons_succ.{0} (JA_ @true_and (JA_ @and_true (JA_ @false_and (JA_ @qy7.{0} (JA_ @Prod.mk.injEq.{0,0} (JA_ @qxj.{0,0} (JA_ @Option.bind_none.{0,0} (JA_ @Option.map_some.{0,0} (JA_ @Option.map_none.{0,0} (JA_ @Option.getD_some.{0} (JA_ @Option.getD_none.{0} (JA_ @ne_eq.{1} (@not_false_eq_true))))))))))))))))))))))))))))
def qwM:=JA_ @or_false (JA_ @Bool.false_eq_true (JA_ @qxG.{0,0} (JA_ @List.map_nil.{0,0} (JA_ @List.all_cons.{0} (JA_ @List.all_nil.{0} (JA_ @qyk (JA_ @qxQ (JA_ @Bool.and_false (JA_ @qyl (JA_ @qxP (JA_ @Bool.or_true (JA_ @Bool.true_or (JA_ @Bool.or_false (JA_ @Bool.false_or (JA_ @qxu.{0} (JA_ @qy1.{0} (JA_ @qy0.{0,0} (JA_ @qxt.{0} (JA_ @qxI.{0} (JA_ @qym.{0,0} (JA_ @List.foldl_nil.{0,0} (JA_ @qyo.{0} (JA_ @qxD.{0} (JA_ @qxE.{0} (JA_ @Nat.max_def (JA_ @decide_true (JA_ @decide_false (JA_ @decide_not (JA_ @qyh (JA_ @qxJ (JA_ @Nat.zero_mul (JA_ @Nat.mul_one (JA_ @Nat.one_mul (JA_ @Nat.add_zero (JA_ @qxH (JA_ @qxm (JA_ @List.mapM_cons.{0,0,0} (@List.mapM_nil.{0,0,0}))))))))))))))))))))))))))))))))))))))
def qvo:=JA_ @List.drop_succ_cons.{0} (JA_ @List.drop_nil.{0} (JA_ @List.take_succ_cons.{0} (JA_ @List.take_zero.{0} (JA_ @List.replicate_succ.{0} (JA_ @List.replicate_zero.{0} (JA_ @List.set_cons_zero.{0} (JA_ @List.set_cons_succ.{0} (JA_ @and_self (JA_ @Bool.not_true (JA_ @Bool.not_false (JA_ @List.contains_cons.{0} (JA_ @List.contains_nil.{0} (JA_ @qyn.{0,0} (JA_ @List.flatMap_nil.{0,0} (JA_ @List.filter_cons.{0} (JA_ @List.filter_nil.{0} (JA_ @List.eraseDups_cons.{0} (JA_ @List.eraseDups_nil.{0} (JA_ @List.nodup_cons.{0} (JA_ @List.nodup_nil.{0} (JA_ @qxF.{0} (JA_ @List.not_mem_nil.{0} (JA_ @List.headD_cons.{0} (JA_ @List.headD_nil.{0} (JA_ @List.tail_cons.{0} (JA_ @List.tail_nil.{0} (JA_ @beq_self_eq_true.{0} (JA_ @Jb (JA_ @List.range_succ (JA_ @List.range_zero (JA_ @ite_self.{1} (JA_ @qhm (JA_ @qgb (JA_ @qgv (JA_ @qaP (@qoE))))))))))))))))))))))))))))))))))))
def qwu:=JA_ @qpi (JA_ @frA.eq_1 (JA_ @R.dat.eq_1 (JA_ @R.dat.eq_2 (JA_ @qkK (JA_ @qkq (JA_ @qmA (JA_ @qkY (JA_ @qoP (JA_ @qkz (JA_ @qkf (JA_ @qny (JA_ @qfr (JA_ @q8c (JA_ @qfJ (JA_ @mpo.eq_2 (JA_ @qsK (@qaX)))))))))))))))))
def qx7:=JA_ @qo2 (JA_ @qk1 (JA_ @qmI (JA_ @qkc (JA_ @qn4 (JA_ @qgX (JA_ @qj7 (JA_ @qbP (JA_ @qiL (JA_ @qkI (JA_ @qh7 (JA_ @qgF (JA_ @JX.eq_1 (@JX.eq_2)))))))))))))
def qxg:=JA_ @qiO.eq_2 (JA_ @hdG.eq_1 (JA_ @qml.eq_1 (JA_ @qml.eq_2 (JA_ @qdo (JA_ @xrg.eq_1 (JA_ @xrg.eq_3 (JA_ @qqR (JA_ @qeh (JA_ @xen.eq_1 (JA_ @qr3.eq_1 (JA_ @qre.eq_1 (JA_ @qe6 (JA_ @xnm.eq_1 (JA_ @qpY.eq_1 (JA_ @qpY.eq_2 (JA_ @qcs (JA_ @qbe (JA_ @qjg (JA_ @qgy (JA_ @qgH (JA_ @qiQ (@qgc))))))))))))))))))))))
def qwD:=JA_ @qiZ (JA_ @qg1 (JA_ @qb5 (JA_ @qit (JA_ @qfq (JA_ @qfk (JA_ @qjT (JA_ @qh9 (JA_ @qjf (JA_ @qhb (JA_ @qjD (JA_ @qii (JA_ @qgA (JA_ @qwr (JA_ @qx4 (JA_ @qs0 (JA_ @qtz (JA_ @qsT (JA_ @qoI (JA_ @qms (JA_ @qlE (JA_ @qsh (JA_ @qlG (JA_ @qoC (JA_ @qmY (JA_ @qkT (JA_ @qjy (JA_ @qmi (JA_ @ql0 (@qop)))))))))))))))))))))))))))))
def qvm:=JA_ @qmZ (JA_ @Sum.elim_inl.{0,1,0} (JA_ @Sum.elim_inr.{0,1,0} (JA_ @qkG (JA_ @qdu (JA_ @qc1 (JA_ @qhd (JA_ @qnW.eq_1 (JA_ @qdU (JA_ @qik (JA_ @qky (JA_ @ql1 (JA_ @qjr (JA_ @qkg (@q8M))))))))))))))
def qvZ:=JA_ @q7E (JA_ @qoD (JA_ @qsE.eq_1 (JA_ @qxq.{0} (JA_ @qy3.{0} (JA_ @List.length_modify.{0} (JA_ @qbm (JA_ @qeo (JA_ @List.take_nil.{0} (JA_ @qdx (@qoe))))))))))
theorem qx0 (a0 a1 a2 a3:Int) (i:Nat):([C.d (D.int .i64 a0),C.d (D.int .i64 a1),C.d (D.int .i64 a2),C.d (D.int .i64 a3)]:List C)[i]?=([a0,a1,a2,a3][i]?).bind fun x=>some (C.d (D.int .i64 x)):=by rw[show([C.d (D.int .i64 a0),C.d (D.int .i64 a1),C.d (D.int .i64 a2),C.d (D.int .i64 a3)]:List C)=[a0,a1,a2,a3].map (fun x=>C.d (D.int .i64 x)) from rfl,qxx];cases([a0,a1,a2,a3]:List Int)[i]? <;> rfl
theorem qwd (a0 a1 a2 a3 a4 a5:Int) (i:Nat):([C.d (D.int .i64 a0),C.d (D.int .i64 a1),C.d (D.int .i64 a2),C.d (D.int .i64 a3),C.d (D.int .i64 a4),C.d (D.int .i64 a5)]:List C)[i]?=([a0,a1,a2,a3,a4,a5][i]?).bind fun x=>some (C.d (D.int .i64 x)):=by rw[show([C.d (D.int .i64 a0),C.d (D.int .i64 a1),C.d (D.int .i64 a2),C.d (D.int .i64 a3),C.d (D.int .i64 a4),C.d (D.int .i64 a5)]:List C)=[a0,a1,a2,a3,a4,a5].map (fun x=>C.d (D.int .i64 x)) from rfl,qxx];cases([a0,a1,a2,a3,a4,a5]:List Int)[i]? <;> rfl
theorem qvF (a0 a1 a2 a3 a4 a5 a6 a7:ByteArray) (i:Nat):([C.d (D.str a0),C.d (D.str a1),C.d (D.str a2),C.d (D.str a3),C.d (D.str a4),C.d (D.str a5),C.d (D.str a6),C.d (D.str a7)]:List C)[i]?=([a0,a1,a2,a3,a4,a5,a6,a7][i]?).bind fun x=>some (C.d (D.str x)):=by rw[show([C.d (D.str a0),C.d (D.str a1),C.d (D.str a2),C.d (D.str a3),C.d (D.str a4),C.d (D.str a5),C.d (D.str a6),C.d (D.str a7)]:List C)=[a0,a1,a2,a3,a4,a5,a6,a7].map (fun x=>C.d (D.str x)) from rfl,qxx];cases([a0,a1,a2,a3,a4,a5,a6,a7]:List ByteArray)[i]? <;> rfl
theorem qp9 (k:Nat):(6=min k 6)=(6≤k):=by apply propext;omega
theorem qnV (k:Nat):(min k 6≤6)=True:=eq_true (Nat.min_le_right ..)
theorem qrx (a0 a1 a2 a3 a4 a5:Int) (k:Nat):(if 6≤k then some [D.int .i64 a0,D.int .i64 a1,D.int .i64 a2,D.int .i64 a3,D.int .i64 a4,D.int .i64 a5] else some ((List.take (min k 6) [a0,a1,a2,a3,a4,a5]).flatMap eI))=some ((List.take k [a0,a1,a2,a3,a4,a5]).flatMap eI):=by
 split
 ·rename_i h;rw[qyp (show[a0,a1,a2,a3,a4,a5].length≤k from h)];rfl
 ·rename_i h;rw[show min k 6=k by omega]
theorem qke (a0 a1 a2 a3 a4 a5:ByteArray) (k:Nat):(List.take (min k 6) [D.str a0,D.str a1,D.str a2,D.str a3,D.str a4,D.str a5]:List D)=(List.take (min k 6) [a0,a1,a2,a3,a4,a5]).flatMap eS:=by rw[show([D.str a0,D.str a1,D.str a2,D.str a3,D.str a4,D.str a5]:List D)=[a0,a1,a2,a3,a4,a5].map (fun x=>D.str x) from rfl,←List.map_take];generalize List.take (min k 6) [a0,a1,a2,a3,a4,a5]=l;induction l with
 | nil=>rfl
 | cons a l ih=>rw[qxG,ih];rfl
theorem qjI (a0 a1 a2 a3 a4 a5:ByteArray) (k:Nat):(if 6≤k then some [D.str a0,D.str a1,D.str a2,D.str a3,D.str a4,D.str a5] else some ((List.take (min k 6) [a0,a1,a2,a3,a4,a5]).flatMap eS))=some ((List.take k [a0,a1,a2,a3,a4,a5]).flatMap eS):=by
 split
 ·rename_i h;rw[qyp (show[a0,a1,a2,a3,a4,a5].length≤k from h)];rfl
 ·rename_i h;rw[show min k 6=k by omega]
theorem qjo (a0 a1 a2 a3 a4 a5:ByteArray) (k:Nat):D.sl 1 (min k 6) ((List.take k [a0,a1,a2,a3,a4,a5]).flatMap eS)=D.sl 1 (List.take k [a0,a1,a2,a3,a4,a5]).length ((List.take k [a0,a1,a2,a3,a4,a5]).flatMap eS):=by rw[qxM];rfl
def bz0:=JA_ @qx0 (JA_ @qwd (@qvF))
def bz2:=JA_ @qp9 (JA_ @qnV (JA_ @qke (JA_ @qjI (@qjo))))
end
noncomputable section
open Go.RowKit
structure qp8 (α:Type) where
 a0:α
 a1:α
structure q7k (α:Type) where
 a0:α
 a1:α
 a2:α
structure qa where
 Code:ByteArray
 Credits:Int
 Places:Int
 Slots:List Int
 Needs:List ByteArray
def qb (x:qa):List D:=[D.str x.Code,D.int .i64 x.Credits,D.int .i64 x.Places,D.sl 1 x.Slots.length (x.Slots.flatMap eI),D.sl 1 x.Needs.length (x.Needs.flatMap eS)]
theorem zL (x:qa):qb x=[D.str x.Code,D.int .i64 x.Credits,D.int .i64 x.Places,D.sl 1 x.Slots.length (x.Slots.flatMap eI),D.sl 1 x.Needs.length (x.Needs.flatMap eS)]:=rfl
theorem q1I (x:qa):(qb x).length=5:=rfl
theorem q51 (x:qa):qa.mk x.Code x.Credits x.Places x.Slots x.Needs=x:=rfl
structure qh where
 L:List Int
 At:Int
theorem q4w (x:qh):qh.mk x.L x.At=x:=rfl
theorem q9h:∀x:Int,(eI x).length=1:=fun _=>rfl
theorem qts (v:List Int):(v.flatMap eI).length=v.length:=by rw[q3I q9h,Nat.mul_one]
theorem qgr (v:List Int) (i:Nat):ld T ((v.flatMap eI).map C.d) (i) 3=(v[i]?).bind fun x=>some (.c (.d (D.int .i64 x))):=by rw[q6u q9h v i _ (by decide)];cases v[i]? with|none=>rfl|some x=>rfl
theorem qsZ (v:List Int) (a:Int):(v.flatMap eI).map C.d++[C.d (D.int .i64 a)]=((v++[a]).flatMap eI).map C.d:=by have h:=q8t (E:=eI) v a;exact h
theorem qk5 (s:S) (v:List Int) (lo hi:Option Operand):xsl T s 22 (.c (.d (.sl 1 v.length (v.flatMap eI)))) lo hi=qnW s eI 1 v (s.bd lo 0) (s.bd hi v.length):=qhU q9h v lo hi (by rfl) (by rfl) (by decide)
theorem q0R:∀x:qa,(qb x).length=5:=q1I
theorem qlF (v:List qa):(v.flatMap qb).length=v.length*5:=by rw[q3I q0R]
theorem qbi (v:List qa) (i:Nat):ld T ((v.flatMap qb).map C.d) (i*5) 35=(v[i]?).bind fun x=>some (.agg [.d (D.str x.Code),.d (D.int .i64 x.Credits),.d (D.int .i64 x.Places),.d (D.sl 1 x.Slots.length (x.Slots.flatMap eI)),.d (D.sl 1 x.Needs.length (x.Needs.flatMap eS))]):=by rw[qan q0R v i _ (by decide) (by decide)];cases v[i]? with|none=>rfl|some x=>rw[qxj,qxj,zL];rfl
theorem qdi (v:List qa) (i:Nat):ld T ((v.flatMap qb).map C.d) (i*5) 9=(v[i]?).bind fun x=>some (.c (.d (D.str x.Code))):=by rw[qan q0R v i _ (by decide) (by decide)];cases v[i]? with|none=>rfl|some x=>rw[qxj,qxj,zL];rfl
theorem qaT (v:List qa) (i:Nat):ld T ((v.flatMap qb).map C.d) (i*5+4) 33=(v[i]?).bind fun x=>some (.c (.d (D.sl 1 x.Needs.length (x.Needs.flatMap eS)))):=by rw[q8O q0R v i 4 _ (by decide) (by decide)];cases v[i]? with|none=>rfl|some x=>rw[qxj,qxj,zL];rfl
theorem qn5 (v:List qa) (a_Code:ByteArray) (a_Credits:Int) (a_Places:Int) (a_Slots:List Int) (a_Needs:List ByteArray):(v.flatMap qb).map C.d++[C.d (D.str a_Code),C.d (D.int .i64 a_Credits),C.d (D.int .i64 a_Places),C.d (D.sl 1 a_Slots.length (a_Slots.flatMap eI)),C.d (D.sl 1 a_Needs.length (a_Needs.flatMap eS))]=((v++[(qa.mk a_Code a_Credits a_Places a_Slots a_Needs)]).flatMap qb).map C.d:=by have h:=q8t (E:=qb) v (qa.mk a_Code a_Credits a_Places a_Slots a_Needs);rw[zL] at h;exact h
theorem qiX (v:List qa) (i:Nat) (a_Code:ByteArray) (a_Credits:Int) (a_Places:Int) (a_Slots:List Int) (a_Needs:List ByteArray):spr ((v.flatMap qb).map C.d) (i*5) [C.d (D.str a_Code),C.d (D.int .i64 a_Credits),C.d (D.int .i64 a_Places),C.d (D.sl 1 a_Slots.length (a_Slots.flatMap eI)),C.d (D.sl 1 a_Needs.length (a_Needs.flatMap eS))]=((v.set i (qa.mk a_Code a_Credits a_Places a_Slots a_Needs)).flatMap qb).map C.d:=by have h:=qiF q0R v i (qa.mk a_Code a_Credits a_Places a_Slots a_Needs);rw[zL] at h;exact h
theorem qgn (v:List qa) (i:Nat) (b:List Int):spr ((v.flatMap qb).map C.d) (i*5+3) [C.d (D.sl 1 b.length (b.flatMap eI))]=((v.modify i fun x=>{ x with Slots:=b }).flatMap qb).map C.d:=by have h:=qc3 q0R (fo:=3) (d:=D.sl 1 b.length (b.flatMap eI)) (fun x=>{ x with Slots:=b }) (by decide) (fun x=>by rw[zL,zL];rfl) v i;rw[←h];exact(q5h C.d [D.sl 1 b.length (b.flatMap eI)] _ _)
theorem qeK (v:List qa) (i:Nat) (w:List Int) (z:Int):spr ((v.flatMap qb).map C.d) (i*5+3) [C.d (D.sl 1 (w.length+1) ((w++[z]).flatMap eI))]=((v.modify i fun x=>{ x with Slots:=(w++[z]) }).flatMap qb).map C.d:=by have h:=qgn v i (w++[z]);rw[qxq,qxB] at h;exact h
theorem q6B (v:List qa) (i:Nat) (b:List ByteArray):spr ((v.flatMap qb).map C.d) (i*5+4) [C.d (D.sl 1 b.length (b.flatMap eS))]=((v.modify i fun x=>{ x with Needs:=b }).flatMap qb).map C.d:=by have h:=qc3 q0R (fo:=4) (d:=D.sl 1 b.length (b.flatMap eS)) (fun x=>{ x with Needs:=b }) (by decide) (fun x=>by rw[zL,zL];rfl) v i;rw[←h];exact(q5h C.d [D.sl 1 b.length (b.flatMap eS)] _ _)
theorem qem (v:List qa) (i:Nat) (w:List ByteArray) (z:ByteArray):spr ((v.flatMap qb).map C.d) (i*5+4) [C.d (D.sl 1 (w.length+1) ((w++[z]).flatMap eS))]=((v.modify i fun x=>{ x with Needs:=(w++[z]) }).flatMap qb).map C.d:=by have h:=q6B v i (w++[z]);rw[qxq,qxB] at h;exact h
theorem qbI (v:List qa) (i:Nat) (z:ByteArray):spr ((v.flatMap qb).map C.d) (i*5+4) [C.d (D.sl 1 1 [D.str z])]=((v.modify i fun x=>{ x with Needs:=[z] }).flatMap qb).map C.d:=q6B v i [z]
theorem qcP:∀x:(List qa),((eL 5 qb) x).length=1:=fun _=>rfl
theorem qaL (v:List (List qa)) (i:Nat):ld T ((v.flatMap (eL 5 qb)).map C.d) (i) 25=(v[i]?).bind fun x=>some (.c (.d (D.sl 5 x.length (x.flatMap qb)))):=by rw[q6u qcP v i _ (by decide)];cases v[i]? with|none=>rfl|some x=>rfl
theorem q9C:∀x:ByteArray,(eS x).length=1:=fun _=>rfl
theorem qrk (v:List ByteArray):(v.flatMap eS).length=v.length:=by rw[q3I q9C,Nat.mul_one]
theorem qfR (v:List ByteArray) (i:Nat):ld T ((v.flatMap eS).map C.d) (i) 9=(v[i]?).bind fun x=>some (.c (.d (D.str x))):=by rw[q6u q9C v i _ (by decide)];cases v[i]? with|none=>rfl|some x=>rfl
theorem qrS (v:List ByteArray) (a:ByteArray):(v.flatMap eS).map C.d++[C.d (D.str a)]=((v++[a]).flatMap eS).map C.d:=by have h:=q8t (E:=eS) v a;exact h
theorem qjA (s:S) (v:List ByteArray) (lo hi:Option Operand):xsl T s 33 (.c (.d (.sl 1 v.length (v.flatMap eS)))) lo hi=qnW s eS 1 v (s.bd lo 0) (s.bd hi v.length):=qhU q9C v lo hi (by rfl) (by rfl) (by decide)
theorem qnB:∀x:Int,(eU8 x).length=1:=fun _=>rfl
def ql (x:qa):List C:=[C.d (D.str x.Code),C.d (D.int .i64 x.Credits),C.d (D.int .i64 x.Places),C.ow 3 1 x.Slots.length (x.Slots.flatMap eI),C.ow 9 1 x.Needs.length (x.Needs.flatMap eS)]
theorem q12:∀x:qa,(ql x).length=5:=fun _=>rfl
theorem q0o:∀x:qa,(ql x).all C.pl=true:=fun _=>rfl
theorem qil (v:List qa):(v.flatMap ql).length=v.length*5:=by rw[qhZ q12]
theorem qle (v:List qa) (k:Nat):(v.flatMap ql).map (C.fg k)=v.flatMap ql:=q9X q0o (qsH k) v
theorem ql7 (v:List qa) (ids:List Nat):(v.flatMap ql).map (cn ids)=v.flatMap ql:=q9X q0o (qrg ids) v
theorem qir (v:List qa)  : (v.flatMap ql).map (C.kw)=v.flatMap ql:=q9X q0o (qs8) v
theorem qjJ (v:List qa) (k e sz:Nat) (ds:List D):(v.flatMap ql).map (C.ab k e sz ds)=v.flatMap ql:=q9X q0o (qrr k e sz ds) v
theorem qgZ (v:List qa) (k:Nat):(v.flatMap ql).all (C.far k)=true:=qhF q0o (qoa k) v
theorem qco (v:List qa) (X:List Nat):(v.flatMap ql).all (C.farF X)=true:=qhF q0o (qkd X) v
theorem qcg (v:List qa):(v.flatMap ql).any C.isNils=false:=qmR q0o qj9 v
theorem qds (v:List qa):(v.flatMap ql).flatMap C.refs=[]:=qpR q0o qkW v
theorem qes (v:List qa):(v.flatMap ql).flatMap C.rows=[]:=qpR q0o qjY v
theorem qjt (v:List qa):(v.flatMap ql).map C.uw=(v.flatMap qb).map C.d:=qns (E:=ql) (F:=qb) (fun _=>rfl) v
theorem qfY (v:List qa) (ys:List C):q5w [none,none,none,some (3,1),some (9,1)] [] (v.flatMap ql++ys)=v.flatMap ql++q5w [none,none,none,some (3,1),some (9,1)] [] ys:=qhQ q0o q12 [none,none,none,some (3,1),some (9,1)] rfl v ys
theorem qig (v:List qa) (a_Code:ByteArray) (a_Credits:Int) (a_Places:Int) (a_Slots:List Int) (a_Needs:List ByteArray):v.flatMap ql++[C.d (D.str a_Code),C.d (D.int .i64 a_Credits),C.d (D.int .i64 a_Places),C.ow 3 1 a_Slots.length (a_Slots.flatMap eI),C.ow 9 1 a_Needs.length (a_Needs.flatMap eS)]=(v++[(qa.mk a_Code a_Credits a_Places a_Slots a_Needs)]).flatMap ql:=qhz (E:=ql) v (qa.mk a_Code a_Credits a_Places a_Slots a_Needs)
theorem qhq (v:List qa) (a_Code:ByteArray) (a_Credits:Int) (a_Places:Int):v.flatMap ql++[C.d (D.str a_Code),C.d (D.int .i64 a_Credits),C.d (D.int .i64 a_Places),C.ow 3 1 0 [],C.ow 9 1 0 []]=(v++[(qa.mk a_Code a_Credits a_Places [] [])]).flatMap ql:=qhz (E:=ql) v (qa.mk a_Code a_Credits a_Places [] [])
theorem qcz (v:List qa) (i:Nat) (b:ByteArray):spr (v.flatMap ql) (i*5) [C.d (D.str b)]=(v.modify i fun x=>{ x with Code:=b }).flatMap ql:=by have h:=q9V q12 (fo:=0) (d:=C.d (D.str b)) (fun x=>{ x with Code:=b }) (by decide) (fun x=>by rfl) v i;rw[Nat.add_zero] at h;exact h
theorem qcF (v:List qa) (i:Nat) (b:Int):spr (v.flatMap ql) (i*5+1) [C.d (D.int .i64 b)]=(v.modify i fun x=>{ x with Credits:=b }).flatMap ql:=by have h:=q9V q12 (fo:=1) (d:=C.d (D.int .i64 b)) (fun x=>{ x with Credits:=b }) (by decide) (fun x=>by rfl) v i;exact h
theorem qdl (v:List qa) (i:Nat) (b:Int):spr (v.flatMap ql) (i*5+2) [C.d (D.int .i64 b)]=(v.modify i fun x=>{ x with Places:=b }).flatMap ql:=by have h:=q9V q12 (fo:=2) (d:=C.d (D.int .i64 b)) (fun x=>{ x with Places:=b }) (by decide) (fun x=>by rfl) v i;exact h
theorem qdN (v:List qa) (i:Nat):(v.flatMap ql)[i*5+3]?=(v[i]?).bind fun x=>some (C.ow 3 1 x.Slots.length (x.Slots.flatMap eI)):=by have h:=qe0 q12 (show 3<5 by decide) v i;exact h
theorem qbA (v:List qa) (i:Nat):(v.flatMap ql)[i*5+4]?=(v[i]?).bind fun x=>some (C.ow 9 1 x.Needs.length (x.Needs.flatMap eS)):=by have h:=qe0 q12 (show 4<5 by decide) v i;exact h
theorem qfI (cs:List C) (o:Nat) (c:C):ld T (spr cs o [c]) o 33=(cs[o]?).bind fun _=>some (R.c c):=by rw[qqT (by rw[k33];simp) (by rw[k33];simp) (by rw[k33];simp),qfA]
theorem q7H (v w:List Int):(v.flatMap eI=w.flatMap eI)=(v=w):=propext ⟨fun h=>(q0Q q9h (by decide) (fun x y h=>by injection h with h;injection h) _ _) h,fun h=>by rw[h]⟩
theorem q7B (v w:List ByteArray):(v.flatMap eS=w.flatMap eS)=(v=w):=propext ⟨fun h=>(q0Q q9C (by decide) (fun x y h=>by injection h with h;injection h) _ _) h,fun h=>by rw[h]⟩
theorem q1X:∀x y:qa,qb x=qb y→x=y:=by
 rintro⟨a_0,a_1,a_2,a_3,a_4⟩ ⟨b_0,b_1,b_2,b_3,b_4⟩ h
 simp only[zL,List.cons.injEq,D.int.injEq,D.bool.injEq,D.str.injEq,D.sl.injEq,true_and,and_true,q7H,q7B] at h
 simp only[h]
theorem q7g (v w:List qa):(v.flatMap qb=w.flatMap qb)=(v=w):=propext ⟨fun h=>(q0Q q0R (by decide) q1X _ _) h,fun h=>by rw[h]⟩
theorem q76 (v w:List (List qa)):(v.flatMap (eL 5 qb)=w.flatMap (eL 5 qb))=(v=w):=propext ⟨fun h=>(q0Q qcP (by decide) (fun x y h=>by injection h with h;injection h with _ _ h;exact(q0Q q0R (by decide) q1X _ _) h) _ _) h,fun h=>by rw[h]⟩
theorem q9N (v w:List Int):(v.flatMap eU8=w.flatMap eU8)=(v=w):=propext ⟨fun h=>(q0Q qnB (by decide) (fun x y h=>by injection h with h;injection h) _ _) h,fun h=>by rw[h]⟩
def Z5 (v:Bool):R:=R.c (C.d (D.bool v))
theorem qaB (M M':List (ByteArray×Bool)):(B.ob (mpB Qg Z5 M)=B.ob (mpB Qg Z5 M'))=(M=M'):=qdG (fun a b h=>by injection h) (fun a b h=>by simp only[Z5,R.c.injEq,C.d.injEq,D.int.injEq,D.bool.injEq,D.str.injEq,D.sl.injEq,true_and,and_true,q7H,q7B,q7g,q76,q9N] at h;simp only[h]) M M'
theorem qoY (f:Nat→Nat) (M:List (ByteArray×Bool)):AO.mapR (R.rn0 f) (mpB Qg Z5 M)=mpB Qg Z5 M:=q4K (vE:=Z5) (fun v=>rfl) M
theorem qna (ids:List Nat) (M:List (ByteArray×Bool)):AO.mapR (qbq ids) (mpB Qg Z5 M)=mpB Qg Z5 M:=q4K (vE:=Z5) (fun v=>rfl) M
theorem qpM (M:List (ByteArray×Bool)):(mpB Qg Z5 M).Rs.all (R.scl0)=true:=qkR (fun v=>rfl) M
theorem qmP (M:List (ByteArray×Bool)):(mpB Qg Z5 M).Rs.flatMap R.refs0=[]:=q9z (fun v=>rfl) M
theorem qki (s:S) (sel:List Nat) (M:List (ByteArray×Bool)):cvA s sel (mpB Qg Z5 M)=some (mpB Qg Z5 M):=qcb (fun v=>rfl) M
theorem qhe (M:List (ByteArray×Bool)):((mpE Qg Z5 M 0).all fun q=>plK Kd.str q.1)=true:=q6L (fun k r i=>rfl) M 0
theorem qiB (ok:Bool) (k:ByteArray) (M:List (ByteArray×Bool)):lkq ok (R.c (C.d (D.bool false))) (fnd (Value.string k) (mpE Qg Z5 M 0) 0)=some (tt2 (R.c (C.d (D.bool (Zs false M k)))) ok (Jy M k)):=qn0 (vE:=Z5) (kE:=Qg) (q9k) (false) ok k M
theorem qk2 (k:ByteArray) (v:Bool) (M:List (ByteArray×Bool)):mup Kd.str (Value.string k) (R.c (C.d (D.bool v))) (.ob (mpB Qg Z5 M))=some (.ob (mpB Qg Z5 (q2E M k v))):=qmd (vE:=Z5) (kE:=Qg) (q9k) (fun a=>rfl) k v M
theorem qnU (s:S) (p:Nat):q0a T s p 46 none=some (.c (.hd .map p),s.up [(p,.ob (mpB Qg Z5 ([]:List (ByteArray×Bool))))]):=rfl
def zI (v:List ByteArray):R:=R.c (C.d (D.sl 1 v.length (v.flatMap eS)))
theorem q9Z (M M':List (ByteArray×List ByteArray)):(B.ob (mpB Qg zI M)=B.ob (mpB Qg zI M'))=(M=M'):=qdG (fun a b h=>by injection h) (fun a b h=>by simp only[zI,R.c.injEq,C.d.injEq,D.int.injEq,D.bool.injEq,D.str.injEq,D.sl.injEq,true_and,and_true,q7H,q7B,q7g,q76,q9N] at h;simp only[h]) M M'
theorem qmp (f:Nat→Nat) (M:List (ByteArray×List ByteArray)):AO.mapR (R.rn0 f) (mpB Qg zI M)=mpB Qg zI M:=q4K (vE:=zI) (fun v=>rfl) M
theorem qpy (ids:List Nat) (M:List (ByteArray×List ByteArray)):AO.mapR (qbq ids) (mpB Qg zI M)=mpB Qg zI M:=q4K (vE:=zI) (fun v=>rfl) M
theorem qnD (M:List (ByteArray×List ByteArray)):(mpB Qg zI M).Rs.flatMap R.refs0=[]:=q9z (fun v=>rfl) M
theorem qip (s:S) (sel:List Nat) (M:List (ByteArray×List ByteArray)):cvA s sel (mpB Qg zI M)=some (mpB Qg zI M):=qcb (fun v=>rfl) M
theorem qfD (M:List (ByteArray×List ByteArray)):((mpE Qg zI M 0).all fun q=>plK Kd.str q.1)=true:=q6L (fun k r i=>rfl) M 0
theorem qkj (ok:Bool) (k:ByteArray) (M:List (ByteArray×List ByteArray)):lkq ok (R.c (C.d (D.sl 1 0 []))) (fnd (Value.string k) (mpE Qg zI M 0) 0)=some (tt2 (R.c (C.d (D.sl 1 (Zs [] M k).length ((Zs [] M k).flatMap eS)))) ok (Jy M k)):=qn0 (vE:=zI) (kE:=Qg) (q9k) ([]) ok k M
theorem qkF (k:ByteArray) (v:List ByteArray) (M:List (ByteArray×List ByteArray)):mup Kd.str (Value.string k) (R.c (C.d (D.sl 1 v.length (v.flatMap eS)))) (.ob (mpB Qg zI M))=some (.ob (mpB Qg zI (q2E M k v))):=qmd (vE:=zI) (kE:=Qg) (q9k) (fun a=>rfl) k v M
theorem qnq (s:S) (p:Nat):q0a T s p 65 none=some (.c (.hd .map p),s.up [(p,.ob (mpB Qg zI ([]:List (ByteArray×List ByteArray))))]):=rfl
theorem qiY (l:List qa) (i j:Int):qb9 35 5 0 [.c (.own 0 5 0 l.length),.c (.d (.int .i64 i)),.c (.d (.int .i64 j))] [(0,.row 35 5 ((l.flatMap qb).map C.d))]=if 0≤i∧j=i+1∧i<l.length then some (.c (.own 0 5 0 (l.eraseIdx i.toNat).length),[(0,.row 35 5 (((l.eraseIdx i.toNat).flatMap qb).map C.d))]) else none:=qkr q1I l i j rfl
end
noncomputable section
open Go.RowKit
def by0:=JA_ @k3 (JA_ @z3 (JA_ @b3 (JA_ @o3 (JA_ @q3 (JA_ @k4 (JA_ @o4 (JA_ @q4 (JA_ @k5 (@z5)))))))))
def by1:=JA_ @k9 (JA_ @z9 (JA_ @b9 (JA_ @o9 (@q9))))
def by2:=JA_ @q21 (JA_ @k22 (JA_ @z22 (JA_ @q22 (JA_ @k23 (JA_ @z23 (JA_ @q23 (JA_ @k24 (JA_ @k25 (@z25)))))))))
def by3:=JA_ @q25 (JA_ @k30 (JA_ @q31 (JA_ @k33 (@z33))))
def by4:=JA_ @o33 (JA_ @q33 (JA_ @k35 (JA_ @z35 (JA_ @b35 (JA_ @o35 (JA_ @q35 (@q36)))))))
def by5:=JA_ @k46 (JA_ @z46 (JA_ @o46 (@q46)))
def by6:=JA_ @k52 (@q57)
def by7:=JA_ @k59 (JA_ @o59 (JA_ @k65 (JA_ @z65 (JA_ @o65 (@q65)))))
def by8:=JA_ @q70 (@q73)
def by9:=JA_ @q78 (JA_ @k81 (JA_ @z81 (@o81)))
def qxh:=@q84
def qwp:=@qod
def qw6:=JA_ @qvt (JA_ @qww (@qwf))
def qwU:=JA_ @qrv (JA_ @qqL (JA_ @qrb (JA_ @qtm (JA_ @qt9 (JA_ @qsM (JA_ @qtv (JA_ @qtf (@qsD))))))))
def qw9:=JA_ @qqO (JA_ @qs7 (@qse))
def qvO:=JA_ @qrI (JA_ @qrp (JA_ @qsB (@qqS)))
def qwN:=JA_ @qsp (@qrd)
def qxi:=JA_ @pw4 (JA_ @pw8 (JA_ @pw9 (JA_ @qtC (JA_ @qur (JA_ @qtS (JA_ @quR (JA_ @qtI (JA_ @qv4 (JA_ @qtQ (@qtL))))))))))
def qvw:=JA_ @quj (JA_ @qul (JA_ @qtN (JA_ @quN (JA_ @qtD (JA_ @qu6 (JA_ @qut (JA_ @quY (JA_ @qtX (JA_ @qv7 (JA_ @qtH (JA_ @qtO (JA_ @quJ (JA_ @qu2 (JA_ @qv1 (JA_ @quI (JA_ @qu7 (JA_ @qv8 (JA_ @que (JA_ @qtG (JA_ @quA (JA_ @qr0 (JA_ @quZ (JA_ @quX (JA_ @qtE (JA_ @quu (JA_ @qtM (JA_ @quL (JA_ @quO (JA_ @qsS (JA_ @qtJ (JA_ @qv6 (JA_ @qvh (JA_ @quT (JA_ @qv9 (JA_ @quF (JA_ @qrP (JA_ @quc (@qtR))))))))))))))))))))))))))))))))))))))
def qwQ:=JA_ @qvf (JA_ @qvi (JA_ @qu5 (JA_ @qqP (JA_ @qtP (JA_ @qqG (JA_ @qva (JA_ @quH (JA_ @qtZ (JA_ @quw (JA_ @qu1 (JA_ @qua (JA_ @qr8 (@quy)))))))))))))
def qwy:=JA_ @qwK (JA_ @qrV (JA_ @qs6 (JA_ @qra (JA_ @qtj (JA_ @qrG (JA_ @qsj (JA_ @qsJ (JA_ @qsL (JA_ @qrY (JA_ @qrQ (JA_ @qqZ (JA_ @qsd (JA_ @qqW (JA_ @qsR (JA_ @qs3 (JA_ @qsy (JA_ @qt5 (JA_ @qtr (JA_ @qrK (JA_ @qsu (JA_ @qrE (JA_ @qsG (JA_ @qsQ (JA_ @qtp (JA_ @qrC (JA_ @qta (@qrU)))))))))))))))))))))))))))
def qxd:=JA_ @qtx (JA_ @qrB (JA_ @qsb (JA_ @qt4 (JA_ @qtg (JA_ @qs5 (JA_ @qtk (JA_ @qsw (JA_ @qrZ (JA_ @qr6 (JA_ @qry (JA_ @qrF (JA_ @qt8 (JA_ @qst (JA_ @qs1 (@qrA)))))))))))))))
def qwG:=JA_ @qnb (JA_ @qnt (JA_ @qnw (JA_ @qt1 (JA_ @qrJ (JA_ @qis (JA_ @qla (JA_ @qpQ (JA_ @qjN (JA_ @qlN (JA_ @qlk (JA_ @qj2 (JA_ @qmE (JA_ @qiq (JA_ @qkC (JA_ @qk3 (JA_ @qlv (JA_ @qp7 (JA_ @qpe (JA_ @qmv (JA_ @qor (JA_ @qpz (JA_ @qnI (@qm1)))))))))))))))))))))))
def qwJ:=JA_ @qo4 (JA_ @qon (JA_ @qow (JA_ @qou (JA_ @qn6 (JA_ @qnl (JA_ @qps (JA_ @qmN (JA_ @qnh (JA_ @qpq (JA_ @qmy (JA_ @qpn (JA_ @qoh (JA_ @qpa (JA_ @qpm (JA_ @qm5 (JA_ @qoG (JA_ @qp4 (JA_ @qnK (JA_ @qlx (@qp1))))))))))))))))))))
def qwE:=JA_ @qlC (JA_ @qsY (@qpl))
def qvL:=JA_ @qkD (JA_ @qiI (JA_ @qkP (JA_ @qlu (JA_ @qjP (JA_ @qmu (JA_ @qiz (JA_ @ql5 (JA_ @qlJ (JA_ @qnX (JA_ @qo6 (JA_ @qol (JA_ @qne (JA_ @qlR (JA_ @qnF (JA_ @qpo (JA_ @qjQ (JA_ @qos (JA_ @qnf (JA_ @qnH (@qnd))))))))))))))))))))
def qwA:=JA_ @qoK (JA_ @qro (JA_ @qmr (JA_ @qjc (JA_ @qkA (JA_ @qiT (JA_ @qpA (JA_ @qji (JA_ @qlw (JA_ @qin (JA_ @qkS (JA_ @qnk (JA_ @qnQ (JA_ @qnp (JA_ @qlQ (JA_ @qov (JA_ @qn3 (JA_ @qpk (JA_ @qoH (@qkw)))))))))))))))))))
def qxb:=JA_ @qnC (JA_ @qnO (JA_ @qnm (@qo9)))
def bt0:=JA_ @qts (JA_ @qgr (JA_ @qsZ (JA_ @qk5 (JA_ @qlF (JA_ @qbi (JA_ @qdi (JA_ @qaT (JA_ @qn5 (@qiX)))))))))
def bt1:=JA_ @qeK (JA_ @q6B (JA_ @qem (JA_ @qbI (JA_ @qaL (JA_ @qrk (@qfR))))))
def bt2:=JA_ @qrS (JA_ @qjA (JA_ @qoY (JA_ @qna (@qpM))))
def bt3:=JA_ @qmP (JA_ @qki (JA_ @qhe (JA_ @qiB (JA_ @qk2 (JA_ @qnU (JA_ @qmp (JA_ @qpy (JA_ @qnD (JA_ @qip (JA_ @qfD (JA_ @qkj (JA_ @qkF (JA_ @qnq (JA_ @qiY (JA_ @qil (JA_ @qle (JA_ @ql7 (JA_ @qir (JA_ @qjJ (JA_ @qgZ (JA_ @qco (JA_ @qcg (JA_ @qds (@qes))))))))))))))))))))))))
def bt4:=JA_ @qjt (JA_ @qfY (JA_ @qig (JA_ @qhq (JA_ @qcz (JA_ @qcF (JA_ @qdl (JA_ @qdN (JA_ @qbA (JA_ @qfI (JA_ @q51 (@q4w)))))))))))
def bA:=JA_ @bx0 (JA_ @bx1 (JA_ @bx2 (JA_ @bx3 (JA_ @bx4 (JA_ @bx5 (JA_ @bx6 (JA_ @bx7 (JA_ @bx8 (JA_ @bx9 (JA_ @qvr (JA_ @qvv (JA_ @qvs (JA_ @qwq (JA_ @qwW (JA_ @qwh (JA_ @qvT (JA_ @qvW (JA_ @qvu (JA_ @qvK (JA_ @qwi (JA_ @qvq (JA_ @qwv (JA_ @qwM (JA_ @qvo (JA_ @qwu (JA_ @qx7 (JA_ @qxg (JA_ @qwD (JA_ @qvm (JA_ @qvZ (JA_ @bz0 (JA_ @bz2 (JA_ @by0 (JA_ @by1 (JA_ @by2 (JA_ @by3 (JA_ @by4 (JA_ @by5 (JA_ @by6 (JA_ @by7 (JA_ @by8 (JA_ @by9 (JA_ @qxh (JA_ @qwp (JA_ @qw6 (JA_ @qwU (JA_ @qw9 (JA_ @qvO (JA_ @qwN (JA_ @qxi (JA_ @qvw (JA_ @qwQ (JA_ @qwy (JA_ @qxd (JA_ @qwG (JA_ @qwJ (JA_ @qwE (JA_ @qvL (JA_ @qwA (JA_ @qxb (JA_ @bt0 (JA_ @bt1 (JA_ @bt2 (JA_ @bt3 (@bt4)))))))))))))))))))))))))))))))))))))))))))))))))))))))))))))))))
def bZ:=JA_ @qxq.{0} (JA_ @qy3.{0} (JA_ @List.length_modify.{0} (JA_ @qxu.{0} (JA_ @qy1.{0} (JA_ @qxH (JA_ @qyn.{0,0} (JA_ @List.flatMap_nil.{0,0} (JA_ @qxG.{0,0} (JA_ @List.map_nil.{0,0} (JA_ @eS.eq_1 (JA_ @qyo.{0} (JA_ @qxD.{0} (JA_ @qxE.{0} (@List.flatMap_append.{0,0}))))))))))))))
theorem gA {P:Prop} (h:P:=by simp -implicitDefEqProofs (maxSteps:=10000000) only[bA,Int.reduceToNat,Int.reduceLT,Int.reduceLE,Int.reduceAdd,Int.reduceSub,Int.reduceMul,Int.reduceNeg,Int.reduceEq,Int.reduceNe,Int.reduceBEq,Int.reduceBNe,Nat.reduceLT,Nat.reduceAdd,Nat.reduceMul,Nat.reduceSub,Nat.reduceEqDiff,Nat.reduceLeDiff,Nat.reduceBEq,Nat.reduceBNe,↓reduceIte,reduceCtorEq,pure,bind,w64,qY,JI,Option.or_some,Option.or_none,Option.none_or,Option.some_or, *]<;>simp only[rL,dL,bR,bZ,Nat.reduceAdd]):P:=h
end
noncomputable section
open Go.RowKit
section
variable {τ ε:Type} {step:τ→Option (τ⊕ε)}
theorem zC {x y:τ} (h:step x=some (.inl y)):qT step x=qT step y:=by
 rw[qbY,h];rfl
theorem qJ {x:τ} {e:ε} (h:step x=some (.inr e)):qT step x=some e:=by
 rw[qbY,h];rfl
theorem qgQ {e:ε} (st:Nat→τ) (i0 n:Nat) (h0:i0≤n) (h:∀i,i0≤i→i<n→step (st i)=some (.inl (st (i+1)))) (hn:step (st n)=some (.inr e)):qT step (st i0)=some e:=by
 have key:∀j i,j+i=n→i0≤i→qT step (st i)=some e:=by
  intro j
  induction j with
  | zero=>intro i hi _;rw[qxH] at hi;subst hi;exact qJ hn
  | succ j ih=>intro i hi h1;rw[zC (h i h1 (by omega))];exact ih (i+1) (by omega) (by omega)
 exact key (n-i0) i0 (by omega) (qxz _)
def q6D {α β ε:Type} (g:β→α→β⊕ε) (fin:β→ε):List α→β→ε
 | [],b=>fin b
 | a::l,b=>match g b a with
  | .inl b'=>q6D g fin l b'
  | .inr e=>e
theorem q62 {α β:Type} (l:List α) (st:β→Nat→τ) (g:β→α→β⊕ε) (fin:β→ε)
  (h:∀b i a,l[i]?=some a→step (st b i)=some (match g b a with | .inl b' => .inl (st b' (i+1)) | .inr e => .inr e)) (hn:∀b,step (st b l.length)=some (.inr (fin b))) (b:β):qT step (st b 0)=some (q6D g fin l b):=by
 have key:∀(r:List α) (i:Nat) (b:β),r.length+i=l.length→(∀j,r[j]?=l[i+j]?)→qT step (st b i)=some (q6D g fin r b):=by
  intro r
  induction r with
  | nil=>
   intro i b hi _
   have hi:i=l.length:=by simpa using hi
   subst hi;exact qJ (hn b)
  | cons a r ih=>
   intro i b hi hr
   have ha:l[i]?=some a:=by have:=hr 0;simpa using this.symm
   have h1:=h b i a ha
   unfold q6D
   cases hg:g b a with
   | inl b'=>
    rw[hg] at h1
    rw[zC h1]
    refine ih (i+1) b' (by simp at hi;omega) fun j=>?_
    have:=hr (j+1)
    rw[show i+1+j=i+(j+1) by omega,←this];rfl
   | inr e=>
    rw[hg] at h1
    exact qJ h1
 exact key l 0 b (by simp) (by simp)
theorem qaY {α β:Type} (l:List α) (st:β→Nat→τ) (g:β→α→β) (fin:β→ε)
  (h:∀b i a,l[i]?=some a→step (st b i)=some (.inl (st (g b a) (i+1)))) (hn:∀b,step (st b l.length)=some (.inr (fin b))) (b:β):qT step (st b 0)=some (fin (l.foldl g b)):=by
 rw[q62 l st (fun b a => .inl (g b a)) fin h hn b]
 congr 1
 induction l generalizing b with
 | nil=>rfl
 | cons a l ih=>
  unfold q6D
  simp only[qym]
  clear h hn
  have:∀(l:List α) (b:β),q6D (ε:=ε) (fun b a => .inl (g b a)) fin l b=fin (l.foldl g b):=by
   intro l
   induction l with
   | nil=>intro b;rfl
   | cons a l ih=>intro b;unfold q6D;simp only[qym];exact ih _
  exact this l _
theorem q86 {α:Type} (l:List α) (st:Nat→τ) (p:α→Option ε) (d:ε)
  (h:∀i a,l[i]?=some a→step (st i)=some (match p a with|some e => .inr e|none => .inl (st (i+1)))) (hn:step (st l.length)=some (.inr d)):qT step (st 0)=some ((l.findSome? p).getD d):=by
 have h1:=q62 (ε:=ε) (β:=Unit) l (fun _ i=>st i) (fun _ a=>match p a with|some e => .inr e|none => .inl ()) (fun _=>d) (fun b i a ha=>by
  rw[h i a ha];cases p a<;>rfl) (fun _=>hn) ()
 rw[h1]
 congr 1
 have:∀l:List α,q6D (ε:=ε) (fun(_:Unit) a=>match p a with|some e => .inr e|none => .inl ()) (fun _=>d) l ()=(l.findSome? p).getD d:=by
  intro l
  induction l with
  | nil=>rfl
  | cons a l ih=>
   unfold q6D
   rw[List.findSome?_cons]
   cases p a with
   | none=>simpa using ih
   | some e=>rfl
 exact this l
end
theorem Qe {α:Type} {l:List α} {i:Nat} {a:α} (h:l[i]?=some a):i<l.length:=(qxn.1 h).1
theorem ZT {n:Int} (h0 : -9223372036854775808≤n) (h1:n≤9223372036854775807):w64 n=n:=wi n h0 h1
theorem qN {i n:Nat} (h:i<n) (hn:n≤9223372036854775807):w64 ((i:Int)+1)=((i+1:Nat):Int):=by
 rw[ZT (by omega) (by omega)];omega
end
noncomputable section
open Go.RowKit
section
variable {τ ε:Type} {step:τ→Option (τ⊕ε)}
theorem qfb {I:τ→Prop} {J:ε→Prop} (hs:∀x y,I x→step x=some (.inl y)→I y) (he:∀x e,I x→step x=some (.inr e)→J e) {x:τ} {e:ε} (h0:I x) (h:qT step x=some e):J e:=by
 obtain⟨n,hn⟩:=q3q h
 clear h
 induction n generalizing x with
 | zero=>cases hn
 | succ n ih=>
  unfold itT at hn
  obtain⟨r,h1,h2⟩:=qxo.1 hn
  cases r with
  | inl y=>exact ih (hs x y h0 h1) h2
  | inr z=>injection h2 with h2;subst h2;exact he x z h0 h1
end
section
variable {σ ε:Type} {f k:Nat} {enc:σ→List R×List (Nat×B)} {ex:ε→R×List (Nat×B)}
theorem qgK (hp:pol.pr f=none) (hi:∀y z,enc y=enc z→y=z) (hj:∀d e,ex d=ex e→d=e) {step:(σ→Option ε)→σ→Option ε} (hs:q7n f k enc ex step) {Q:σ→ε→Prop}
  (hQ:∀F:σ→Option ε,(∀y e,F y=some e→Q y e)→∀y e,step F y=some e→Q y e) (y:σ) (e:ε) (h:q5O f k enc ex y=some e):Q y e:=by
 have key:∀(n:Nat) (y:σ) (z:R×List (Nat×B)),xf Try.prog T pol (D1 Try.prog T pol) n (.fn f) k (enc y).1 (enc y).2=some z→∃e,z=ex e∧Q y e:=by
  intro n
  induction n with
  | zero=>intro y z h;cases h
  | succ n ih=>
   intro y z h
   obtain⟨F,hF,hFQ⟩:∃F:σ→Option ε,(∀y z,xf Try.prog T pol (D1 Try.prog T pol) n (.fn f) k (enc y).1 (enc y).2=some z→(F y).bind (fun e=>some (ex e))=some z)∧∀y e,F y=some e→Q y e:=by
    refine⟨fun y=>open Classical in if h:∃e,xf Try.prog T pol (D1 Try.prog T pol) n (.fn f) k (enc y).1 (enc y).2=some (ex e)∧Q y e then some (Classical.choose h) else none,fun y z hz=>?_,fun y e he=>?_⟩
    ·obtain⟨e,rfl,hq⟩:=ih y z hz
     have hex:∃e,xf Try.prog T pol (D1 Try.prog T pol) n (.fn f) k (enc y).1 (enc y).2=some (ex e)∧Q y e:=⟨e,hz,hq⟩
     simp only[dif_pos hex,qxj]
     rw[←(Classical.choose_spec hex).1,hz]
    ·by_cases hex:∃e,xf Try.prog T pol (D1 Try.prog T pol) n (.fn f) k (enc y).1 (enc y).2=some (ex e)∧Q y e
     ·simp only[dif_pos hex] at he
      injection he with he
      rw[←he]
      exact(Classical.choose_spec hex).2
     ·simp only[dif_neg hex] at he
      cases he
   have hle:OLe (xf Try.prog T pol (D1 Try.prog T pol) n) (ovr f k enc ex F):=by
    intro g k' args G x hx
    unfold ovr
    split
    ·rename_i hh
     obtain⟨⟨rfl,rfl⟩,hy⟩:=hh
     have e1:=Classical.choose_spec hy
     refine hF _ _ ?_
     rw[e1];exact hx
    ·exact qcB q5p _ _ _ _ _ hx
   have h2:∃bd,qE Try.prog pol f=some bd∧q3E Try.prog T pol (D1 Try.prog T pol) (xf Try.prog T pol (D1 Try.prog T pol) n) (iter n) f k (enc y).1 (enc y).2 bd=some z:=by
    have h3:fnx Try.prog T pol (D1 Try.prog T pol) (xf Try.prog T pol (D1 Try.prog T pol) n) (iter n) f k (enc y).1 (enc y).2=some z:=h
    unfold fnx at h3
    rw[hp] at h3
    exact qxo.1 h3
   obtain⟨bd,hb,hx⟩:=h2
   have h4:=q6h hle (iter n) (q8K n) hb hx
   rw[hs _ F (qdZ hi F) (qaA F) (qhy F) y] at h4
   obtain⟨e,h6,h5⟩:=qxo.1 h4
   injection h5 with h5
   exact⟨e,h5.symm,hQ F hFQ y e h6⟩
 have hv:=qal hp hi hs y
 rw[h,qxj] at hv
 obtain⟨n,hn⟩:=q4l (show EE Try.prog T pol (D1 Try.prog T pol) (.fn f) k (enc y).1 (enc y).2=some (ex e) from hv)
 obtain⟨e',h1,h2⟩:=key n y _ hn
 rw[hj _ _ h1]
 exact h2
end
end
noncomputable section
open Go.RowKit
set_option maxRecDepth 20000
set_option maxHeartbeats 8000000
theorem qvE:okL 33 qdW:=qW (qc qsi) (by kernel_rfl) (by kernel_rfl)
def qx8:=JA_ @qdW.eq_1 (JA_ @Try.f33.eq_1 @qsi)
theorem q3F:ev 33 0 [] []=some (rO 0 5 4,[(0,B.row 35 5 [dS (ByteArray.mk (List.toArray [65,49])),C.d (D.int IntKind.i64 5),C.d (D.int IntKind.i64 30),C.d (D.sl 1 2 [D.int IntKind.i64 1,D.int IntKind.i64 2]),C.d (D.sl 1 0 []),dS (ByteArray.mk (List.toArray [66,49])),C.d (D.int IntKind.i64 6),C.d (D.int IntKind.i64 10),C.d (D.sl 1 1 [D.int IntKind.i64 2]),C.d (D.sl 1 1 [D.str (ByteArray.mk (List.toArray [65,49]))]),dS (ByteArray.mk (List.toArray [66,50])),C.d (D.int IntKind.i64 3),C.d (D.int IntKind.i64 0),C.d (D.sl 1 0 []),C.d (D.sl 1 0 []),dS (ByteArray.mk (List.toArray [67,49])),C.d (D.int IntKind.i64 10),C.d (D.int IntKind.i64 200),C.d (D.sl 1 1 [D.int IntKind.i64 40]),C.d (D.sl 1 2 [D.str (ByteArray.mk (List.toArray [66,49])),D.str (ByteArray.mk (List.toArray [66,50]))])])]):=
 by
  rw[qP qsi qv1.2.2.2 qvE]
  have:=qx8;exact gA
theorem qqm:okL 12 q6f:=qW (qc qls) (by kernel_rfl) (by kernel_rfl)
def qlo:=JA_ @q6f.eq_1 (JA_ @Try.f12.eq_1 @qls)
theorem qpN:lbO 12 4=qeN:=zE (qc qls) rfl
theorem qmX:okL 12 qeN:=qR qqm (qxk (i:=0) (by kernel_rfl))
theorem qkU:lbO 12 18=q6n:=zE (qc qls) rfl
theorem qiG:okL 12 q6n:=qR qqm (qxk (i:=1) (by kernel_rfl))
theorem qiS:lbO 12 23=q75:=zE (qc qls) rfl
theorem qkB:okL 12 q75:=qR qqm (qxk (i:=2) (by kernel_rfl))
theorem qvx:okL 14 qbX:=qW (qc qrM) (by kernel_rfl) (by kernel_rfl)
def qwH:=JA_ @qbX.eq_1 (JA_ @Try.f14.eq_1 @qrM)
theorem qwY:okL 46 qbu:=qW (qc qtb) (by kernel_rfl) (by kernel_rfl)
def qwO:=JA_ @qbu.eq_1 (JA_ @Try.f46.eq_1 @qtb)
theorem quq:okL 66 qa7:=qW (qc qq4) (by kernel_rfl) (by kernel_rfl)
def qui:=JA_ @qa7.eq_1 (JA_ @Try.f66.eq_1 @qq4)
theorem qob:lbO 66 2=qcV:=zE (qc qq4) rfl
theorem qnL:okL 66 qcV:=qR quq (qxk (i:=0) (by kernel_rfl))
theorem qwz:okL 45 qbG:=qW (qc qqJ) (by kernel_rfl) (by kernel_rfl)
def qvP:=JA_ @qbG.eq_1 (JA_ @Try.f45.eq_1 @qqJ)
def J1 (c:Int):Option Bool:=if c<65 then if c<48 then some Bool.true else some (decide (57<c)) else if 90<c then if c<48 then some Bool.true else some (decide (57<c)) else some Bool.false
def zX (c:Int):Bool:=if c<65 then if c<48 then Bool.true else decide (57<c) else if 90<c then if c<48 then Bool.true else decide (57<c) else Bool.false
theorem q2T (c:Int):J1 c=some (zX c):=by
 unfold J1 zX
 simp only[q2b]
theorem q3O:∀(c:Int),ev 45 0 [R.c (C.d (D.int .i32 c))] []=some (rB (zX c),[]):=
 fun c=>by
  have h:ev 45 0 [R.c (C.d (D.int .i32 c))] []=(J1 c).bind (fun(e:Bool)=>some (rB e,[])):=by
   rw[qP qqJ qtM.2.2.2 qwz]
   have:=qvP;have:=@J1.eq_1;exact gA
  rw[q2T] at h
  exact h
def qQ (it0_s:ByteArray) (truth:Bool):Nat→Option (Nat⊕(Int⊕Unit))|it0_p=>if it0_p<ByteArray.size it0_s then if(zX (((@Go.Utf8.decode it0_s it0_p).1:Nat):Int)==truth)=Bool.true then some (Sum.inr (Sum.inl ((it0_p:Nat):Int))) else some (Sum.inl (it0_p+(@Go.Utf8.decode it0_s it0_p).2)) else some (Sum.inr (Sum.inr ()))
theorem q0q:∀(it0_s:ByteArray) (it0_p:Nat) (truth:Bool),XL2 evo 66 0 2 ⟨[(1,R.c (C.fn 45 [] [])),(2,rB truth),(10,R.c (C.hd .iter 0))],[(0,B.ob (AO.si it0_s it0_p))],1,21⟩=(qT (qQ it0_s truth) it0_p).bind (Sum.elim (fun(e:Int)=>some (Exit.ret,⟨[(6,rI e)],[],0,21⟩)) (fun(e:Unit)=>some (Exit.exit 0,⟨[(6,R.any)],[],0,21⟩))):=
 fun it0_s it0_p truth=>by
  revert it0_p;exact q2s qob qnL (fun e=>by rcases e with _|_<;>exact⟨_,rfl,fun h=>by cases h⟩) fun x=>by
   have:=qui;have:=@qcV.eq_1;have:=@q3O;have:=@qQ.eq_1;exact gA
def Qb (s:ByteArray) (truth:Bool):Option Int:=Option.bind (qT (qQ s truth) 0) fun(a:Sum Int Unit)=>Sum.elim (fun(a2:Int)=>some a2) (fun(a3:Unit)=>some (-1)) a
theorem q1n:∀(s:ByteArray) (truth:Bool),ev 66 0 [rS s,R.c (C.fn 45 [] []),rB truth] []=(Qb s truth).bind (fun(e:Int)=>some (rI e,[])):=
 fun s truth=>by
  rw[qP qq4 qtZ.2.2.2 quq]
  have:=qui;have:=@q0q;have:=@Qb.eq_1;exact gA
def ZR (fu:Nat) (s:ByteArray) (truth:Bool):Option Int:=Option.bind (itT (qQ s truth) fu 0) fun(a:Sum Int Unit)=>Sum.elim (fun(a2:Int)=>some a2) (fun(a3:Unit)=>some (-1)) a
theorem q1q (fu:Nat) (s:ByteArray) (truth:Bool):qk (ZR fu s truth) (Qb s truth):=by
 unfold ZR Qb
 repeat (first
  | with_reducible exact qk.refl _
  | with_reducible exact qk.none _
  | with_reducible refine qk.bind ?_ (fun _=>?_)
  | with_reducible refine qk.ite ?_ ?_
  | with_reducible refine qk.sum (fun _=>?_) (fun _=>?_)
  | with_reducible refine qk.lim (fun _=>?_))
def Q8 (s:ByteArray):Option Int:=Option.bind (Qb s Bool.true) fun(e0:Int)=>some e0
theorem q1m:∀(s:ByteArray),ev 46 0 [rS s,R.c (C.fn 45 [] [])] []=(Q8 s).bind (fun(e:Int)=>some (rI e,[])):=
 fun s=>by
  rw[qP qtb quL.2.2.2 qwY]
  have:=qwO;have:=@q1n;have:=@Q8.eq_1;exact gA
def ZO (fu:Nat) (s:ByteArray):Option Int:=Option.bind (ZR fu s Bool.true) fun(e0:Int)=>some e0
theorem q1o (fu:Nat) (s:ByteArray):qk (ZO fu s) (Q8 s):=by
 unfold ZO Q8
 repeat (first
  | with_reducible exact qk.refl _
  | with_reducible exact qk.none _
  | with_reducible apply q1q
  | with_reducible refine qk.bind ?_ (fun _=>?_)
  | with_reducible refine qk.ite ?_ ?_
  | with_reducible refine qk.sum (fun _=>?_) (fun _=>?_)
  | with_reducible refine qk.lim (fun _=>?_))
def zr (s:ByteArray):Option Bool:=if(!(ByteArray.toList s==ByteArray.toList (ByteArray.mk (List.toArray []))))=Bool.true then if((ByteArray.size s:Nat):Int)≤8 then Option.bind (Q8 s) fun(a:Int)=>some (decide (a<0)) else some Bool.false else some Bool.false
theorem q17:∀(s:ByteArray),ev 14 0 [rS s] []=(zr s).bind (fun(e:Bool)=>some (rB e,[])):=
 fun s=>by
  rw[qP qrM qtI.2.2.2 qvx]
  have:=qwH;have:=@q1m;have:=@zr.eq_1;exact gA
def ZB (fu:Nat) (s:ByteArray):Option Bool:=if(!(ByteArray.toList s==ByteArray.toList (ByteArray.mk (List.toArray []))))=Bool.true then if((ByteArray.size s:Nat):Int)≤8 then Option.bind (ZO fu s) fun(a:Int)=>some (decide (a<0)) else some Bool.false else some Bool.false
theorem q18 (fu:Nat) (s:ByteArray):qk (ZB fu s) (zr s):=by
 unfold ZB zr
 repeat (first
  | with_reducible exact qk.refl _
  | with_reducible exact qk.none _
  | with_reducible apply q1o
  | with_reducible refine qk.bind ?_ (fun _=>?_)
  | with_reducible refine qk.ite ?_ ?_
  | with_reducible refine qk.sum (fun _=>?_) (fun _=>?_)
  | with_reducible refine qk.lim (fun _=>?_))
theorem qvX:okL 38 qcS:=qW (qc qsv) (by kernel_rfl) (by kernel_rfl)
def qx3:=JA_ @qcS.eq_1 (JA_ @Try.f38.eq_1 @qsv)
theorem quG:okL 55 qcW:=qW (qc qq6) (by kernel_rfl) (by kernel_rfl)
def qu0:=JA_ @qcW.eq_1 (JA_ @Try.f55.eq_1 @qq6)
theorem qrO:okL 70 qaj:=qW (qc qpB) (by kernel_rfl) (by kernel_rfl)
def qqt:=JA_ @qaj.eq_1 (JA_ @Try.f70.eq_1 @qpB)
theorem qhV:lbO 70 2=q9G:=zE (qc qpB) rfl
theorem qhJ:okL 70 q9G:=qR qrO (qxk (i:=0) (by kernel_rfl))
theorem qw7:okL 58 qct:=qW (qc qtd) (by kernel_rfl) (by kernel_rfl)
def qwT:=JA_ @qct.eq_1 (JA_ @Try.f58.eq_1 @qtd)
def Zy (n:Int):Option Bool:=if n<1 then some Bool.true else some (decide (40<n))
def Qc (n:Int):Bool:=if n<1 then Bool.true else decide (40<n)
theorem q1y (n:Int):Zy n=some (Qc n):=by
 unfold Zy Qc
 simp only[q2b]
theorem q2z:∀(n:Int),ev 58 0 [rI n] []=some (rB (Qc n),[]):=
 fun n=>by
  have h:ev 58 0 [rI n] []=(Zy n).bind (fun(e:Bool)=>some (rB e,[])):=by
   rw[qP qtd qvf.2.2.2 qw7]
   have:=qwT;have:=@Zy.eq_1;exact gA
  rw[q1y] at h
  exact h
def qF (s:List Int) (t7:Int):Int→Option (Int⊕(Int⊕Unit))|t8=>if t8<t7 then if 0≤t8∧t8<((s.length:Nat):Int) then Option.bind s[Int.toNat t8]? fun(a:Int)=>if Qc a=Bool.true then some (Sum.inr (Sum.inl t8)) else some (Sum.inl (w64 (t8+1))) else none else some (Sum.inr (Sum.inr ()))
theorem Jd:∀(s:List Int) (t7 t8:Int),XL2 evo 70 0 2 ⟨[(0,rL 1 eI s),(1,R.c (C.fn 58 [] [])),(7,rI t7),(8,rI t8)],[],0,19⟩=(qT (qF s t7) t8).bind (Sum.elim (fun(e:Int)=>some (Exit.ret,⟨[(4,rI e)],[],0,19⟩)) (fun(e:Unit)=>some (Exit.exit 0,⟨[(4,R.any)],[],0,19⟩))):=
 fun s t7 t8=>by
  revert t8;exact q2s qhV qhJ (fun e=>by rcases e with _|_<;>exact⟨_,rfl,fun h=>by cases h⟩) fun x=>by
   have:=qqt;have:=@q9G.eq_1;have:=@q2z;have:=@qF.eq_1;exact gA
def zh (s:List Int):Option Int:=Option.bind (qT (qF s ((s.length:Nat):Int)) 0) fun(a:Sum Int Unit)=>Sum.elim (fun(a2:Int)=>some a2) (fun(a3:Unit)=>some (-1)) a
theorem JG:∀(s:List Int),ev 70 0 [rL 1 eI s,R.c (C.fn 58 [] [])] []=(zh s).bind (fun(e:Int)=>some (rI e,[])):=
 fun s=>by
  rw[qP qpB qr8.2.2.2 qrO]
  have:=qqt;have:=@Jd;have:=@zh.eq_1;exact gA
def QE (fu:Nat) (s:List Int):Option Int:=Option.bind (itT (qF s ((s.length:Nat):Int)) fu 0) fun(a:Sum Int Unit)=>Sum.elim (fun(a2:Int)=>some a2) (fun(a3:Unit)=>some (-1)) a
theorem JH (fu:Nat) (s:List Int):qk (QE fu s) (zh s):=by
 unfold QE zh
 repeat (first
  | with_reducible exact qk.refl _
  | with_reducible exact qk.none _
  | with_reducible refine qk.bind ?_ (fun _=>?_)
  | with_reducible refine qk.ite ?_ ?_
  | with_reducible refine qk.sum (fun _=>?_) (fun _=>?_)
  | with_reducible refine qk.lim (fun _=>?_))
def qG (s:List Int):Option Bool:=Option.bind (zh s) fun(a:Int)=>some (decide (0≤a))
theorem Jg:∀(s:List Int),ev 55 0 [rL 1 eI s,R.c (C.fn 58 [] [])] []=(qG s).bind (fun(e:Bool)=>some (rB e,[])):=
 fun s=>by
  rw[qP qq6 qrP.2.2.2 quG]
  have:=qu0;have:=@JG;have:=@qG.eq_1;exact gA
def Qj (fu:Nat) (s:List Int):Option Bool:=Option.bind (QE fu s) fun(a:Int)=>some (decide (0≤a))
theorem Je (fu:Nat) (s:List Int):qk (Qj fu s) (qG s):=by
 unfold Qj qG
 repeat (first
  | with_reducible exact qk.refl _
  | with_reducible exact qk.none _
  | with_reducible apply JH
  | with_reducible refine qk.bind ?_ (fun _=>?_)
  | with_reducible refine qk.ite ?_ ?_
  | with_reducible refine qk.sum (fun _=>?_) (fun _=>?_)
  | with_reducible refine qk.lim (fun _=>?_))
theorem qvd:okL 59 q9O:=qW (qc qpZ) (by kernel_rfl) (by kernel_rfl)
def quP:=JA_ @q9O.eq_1 (JA_ @Try.f59.eq_1 @qpZ)
theorem qlz:lbO 59 2=qer:=zE (qc qpZ) rfl
theorem qp3:okL 59 qer:=qR qvd (qxk (i:=0) (by kernel_rfl))
def qH (l:List Int):Int→Option (Int⊕(Unit⊕Unit))|k=>if k<((l.length:Nat):Int) then if 0≤w64 (k-1)∧w64 (k-1)<((l.length:Nat):Int) then Option.bind l[Int.toNat (w64 (k-1))]? fun(a:Int)=>if 0≤k∧k<((l.length:Nat):Int) then Option.bind l[Int.toNat k]? fun(a2:Int)=>if a2≤a then some (Sum.inr (Sum.inl ())) else some (Sum.inl (w64 (k+1))) else none else none else some (Sum.inr (Sum.inr ()))
theorem JL:∀(l:List Int) (k:Int),XL2 evo 59 0 2 ⟨[(0,rL 1 eI l),(3,rI k)],[],0,20⟩=(qT (qH l) k).bind (Sum.elim (fun(e:Unit)=>some (Exit.ret,⟨[(2,rB Bool.false)],[],0,20⟩)) (fun(e:Unit)=>some (Exit.exit 0,⟨[(2,R.any)],[],0,20⟩))):=
 fun l k=>by
  revert k;exact q2s qlz qp3 (fun e=>by rcases e with _|_<;>exact⟨_,rfl,fun h=>by cases h⟩) fun x=>by
   have:=quP;have:=@qer.eq_1;have:=@qH.eq_1;exact gA
def zi (l:List Int):Option Bool:=Option.bind (qT (qH l) 1) fun(a:Sum Unit Unit)=>Sum.elim (fun(a2:Unit)=>some Bool.false) (fun(a3:Unit)=>some Bool.true) a
theorem q06:∀(l:List Int),ev 59 0 [rL 1 eI l] []=(zi l).bind (fun(e:Bool)=>some (rB e,[])):=
 fun l=>by
  rw[qP qpZ qvi.2.2.2 qvd]
  have:=quP;have:=@JL;have:=@zi.eq_1;exact gA
def Z4 (fu:Nat) (l:List Int):Option Bool:=Option.bind (itT (qH l) fu 1) fun(a:Sum Unit Unit)=>Sum.elim (fun(a2:Unit)=>some Bool.false) (fun(a3:Unit)=>some Bool.true) a
theorem q07 (fu:Nat) (l:List Int):qk (Z4 fu l) (zi l):=by
 unfold Z4 zi
 repeat (first
  | with_reducible exact qk.refl _
  | with_reducible exact qk.none _
  | with_reducible refine qk.bind ?_ (fun _=>?_)
  | with_reducible refine qk.ite ?_ ?_
  | with_reducible refine qk.sum (fun _=>?_) (fun _=>?_)
  | with_reducible refine qk.lim (fun _=>?_))
theorem qub:okL 60 q9Q:=qW (qc qql) (by kernel_rfl) (by kernel_rfl)
def qv5:=JA_ @q9Q.eq_1 (JA_ @Try.f60.eq_1 @qql)
theorem qmg:lbO 60 2=qdD:=zE (qc qql) rfl
theorem qoL:okL 60 qdD:=qR qub (qxk (i:=0) (by kernel_rfl))
def qz (l:List ByteArray):Int→Option (Int⊕(Unit⊕Unit))|k=>if k<((l.length:Nat):Int) then if 0≤w64 (k-1)∧w64 (k-1)<((l.length:Nat):Int) then Option.bind l[Int.toNat (w64 (k-1))]? fun(a:ByteArray)=>if 0≤k∧k<((l.length:Nat):Int) then Option.bind l[Int.toNat k]? fun(a2:ByteArray)=>if(!(Op.bytesLess (ByteArray.toList a) (ByteArray.toList a2)))=Bool.true then some (Sum.inr (Sum.inl ())) else some (Sum.inl (w64 (k+1))) else none else none else some (Sum.inr (Sum.inr ()))
theorem Jf:∀(l:List ByteArray) (k:Int),XL2 evo 60 0 2 ⟨[(0,rL 1 eS l),(3,rI k)],[],0,20⟩=(qT (qz l) k).bind (Sum.elim (fun(e:Unit)=>some (Exit.ret,⟨[(2,rB Bool.false)],[],0,20⟩)) (fun(e:Unit)=>some (Exit.exit 0,⟨[(2,R.any)],[],0,20⟩))):=
 fun l k=>by
  revert k;exact q2s qmg qoL (fun e=>by rcases e with _|_<;>exact⟨_,rfl,fun h=>by cases h⟩) fun x=>by
   have:=qv5;have:=@qdD.eq_1;have:=@qz.eq_1;exact gA
def qS (l:List ByteArray):Option Bool:=Option.bind (qT (qz l) 1) fun(a:Sum Unit Unit)=>Sum.elim (fun(a2:Unit)=>some Bool.false) (fun(a3:Unit)=>some Bool.true) a
theorem JF:∀(l:List ByteArray),ev 60 0 [rL 1 eS l] []=(qS l).bind (fun(e:Bool)=>some (rB e,[])):=
 fun l=>by
  rw[qP qql qu5.2.2.2 qub]
  have:=qv5;have:=@Jf;have:=@qS.eq_1;exact gA
def QD (fu:Nat) (l:List ByteArray):Option Bool:=Option.bind (itT (qz l) fu 1) fun(a:Sum Unit Unit)=>Sum.elim (fun(a2:Unit)=>some Bool.false) (fun(a3:Unit)=>some Bool.true) a
theorem JO (fu:Nat) (l:List ByteArray):qk (QD fu l) (qS l):=by
 unfold QD qS
 repeat (first
  | with_reducible exact qk.refl _
  | with_reducible exact qk.none _
  | with_reducible refine qk.bind ?_ (fun _=>?_)
  | with_reducible refine qk.ite ?_ ?_
  | with_reducible refine qk.sum (fun _=>?_) (fun _=>?_)
  | with_reducible refine qk.lim (fun _=>?_))
def zN (o:qa):Option Int:=if o.Credits<1 then some 3 else if 60<o.Credits then some 3 else if o.Places<0 then some 3 else if 200<o.Places then some 3 else Option.bind (qG o.Slots) fun(a:Bool)=>if a=Bool.true then some 3 else Option.bind (zi o.Slots) fun(a2:Bool)=>if(!a2)=Bool.true then some 7 else if 5<((o.Needs.length:Nat):Int) then some 2 else Option.bind (qS o.Needs) fun(a3:Bool)=>if(!a3)=Bool.true then some 7 else some 0
theorem q3A:∀(o_Code:ByteArray) (o_Credits o_Places:Int) (o_Slots:List Int) (o_Needs:List ByteArray),ev 38 0 [R.agg [dS o_Code,dI o_Credits,dI o_Places,dL 1 eI o_Slots,dL 1 eS o_Needs]] []=(zN (qa.mk o_Code o_Credits o_Places o_Slots o_Needs)).bind (fun(e:Int)=>some (rI e,[])):=
 fun o_Code o_Credits o_Places o_Slots o_Needs=>by
  rw[qP qsv qtG.2.2.2 qvX]
  have:=qx3;have:=@Jg;have:=@q06;have:=@JF;have:=@zN.eq_1;exact gA
def QX (fu:Nat) (o:qa):Option Int:=if o.Credits<1 then some 3 else if 60<o.Credits then some 3 else if o.Places<0 then some 3 else if 200<o.Places then some 3 else Option.bind (Qj fu o.Slots) fun(a:Bool)=>if a=Bool.true then some 3 else Option.bind (Z4 fu o.Slots) fun(a2:Bool)=>if(!a2)=Bool.true then some 7 else if 5<((o.Needs.length:Nat):Int) then some 2 else Option.bind (QD fu o.Needs) fun(a3:Bool)=>if(!a3)=Bool.true then some 7 else some 0
theorem q3N (fu:Nat) (o:qa):qk (QX fu o) (zN o):=by
 unfold QX zN
 repeat (first
  | with_reducible exact qk.refl _
  | with_reducible exact qk.none _
  | with_reducible apply Je
  | with_reducible apply q07
  | with_reducible apply JO
  | with_reducible refine qk.bind ?_ (fun _=>?_)
  | with_reducible refine qk.ite ?_ ?_
  | with_reducible refine qk.sum (fun _=>?_) (fun _=>?_)
  | with_reducible refine qk.lim (fun _=>?_))
def zd (t0:List qa) (t13:List qa) (t14:Int):Int→Option (Int⊕(Int⊕Unit))|t15=>if t15<t14 then if 0≤t15∧t15<((t13.length:Nat):Int) then Option.bind t13[Int.toNat t15]? fun(a:qa)=>Option.bind (zr a.Code) fun(a2:Bool)=>if(!a2)=Bool.true then some (Sum.inr (Sum.inl 12)) else if 0<t15 then if 0≤w64 (t15-1)∧w64 (t15-1)<((t0.length:Nat):Int) then Option.bind t0[Int.toNat (w64 (t15-1))]? fun(a3:qa)=>if(ByteArray.toList a3.Code==ByteArray.toList a.Code)=Bool.true then some (Sum.inr (Sum.inl 6)) else if 0<t15 then if 0≤w64 (t15-1)∧w64 (t15-1)<((t0.length:Nat):Int) then Option.bind t0[Int.toNat (w64 (t15-1))]? fun(a4:qa)=>if(!(Op.bytesLess (ByteArray.toList a4.Code) (ByteArray.toList a.Code)||ByteArray.toList a4.Code==ByteArray.toList a.Code))=Bool.true then some (Sum.inr (Sum.inl 7)) else Option.bind (zN a) fun(a5:Int)=>if(a5 != 0)=Bool.true then some (Sum.inr (Sum.inl a5)) else some (Sum.inl (w64 (t15+1))) else none else Option.bind (zN a) fun(a6:Int)=>if(a6 != 0)=Bool.true then some (Sum.inr (Sum.inl a6)) else some (Sum.inl (w64 (t15+1))) else none else if 0<t15 then if 0≤w64 (t15-1)∧w64 (t15-1)<((t0.length:Nat):Int) then Option.bind t0[Int.toNat (w64 (t15-1))]? fun(a7:qa)=>if(!(Op.bytesLess (ByteArray.toList a7.Code) (ByteArray.toList a.Code)||ByteArray.toList a7.Code==ByteArray.toList a.Code))=Bool.true then some (Sum.inr (Sum.inl 7)) else Option.bind (zN a) fun(a8:Int)=>if(a8 != 0)=Bool.true then some (Sum.inr (Sum.inl a8)) else some (Sum.inl (w64 (t15+1))) else none else Option.bind (zN a) fun(a9:Int)=>if(a9 != 0)=Bool.true then some (Sum.inr (Sum.inl a9)) else some (Sum.inl (w64 (t15+1))) else none else some (Sum.inr (Sum.inr ()))
theorem q2j:∀(t0 t13:List qa) (t14 t15:Int),XL2 evo 12 0 4 ⟨[(0,rL 5 qb t0),(13,rL 5 qb t13),(14,rI t14),(15,rI t15)],[],0,81⟩=(qT (zd t0 t13 t14) t15).bind (Sum.elim (fun(e:Int)=>some (Exit.ret,⟨[(0,rL 5 qb t0),(2,rI e)],[],0,81⟩)) (fun(e:Unit)=>some (Exit.exit 0,⟨[(0,rL 5 qb t0),(2,R.any)],[],0,81⟩))):=
 fun t0 t13 t14 t15=>by
  revert t15;exact q2s qpN qmX (fun e=>by rcases e with _|_<;>exact⟨_,rfl,fun h=>by cases h⟩) fun x=>by
   have:=qlo;have:=@qeN.eq_1;have:=@q17;have:=@q3A;have:=@zd.eq_1;exact gA
def Ju (fu:Nat) (t0:List qa) (t13:List qa) (t14:Int):Int→Option (Int⊕(Int⊕Unit))|t15=>if t15<t14 then if 0≤t15∧t15<((t13.length:Nat):Int) then Option.bind t13[Int.toNat t15]? fun(a:qa)=>Option.bind (ZB fu a.Code) fun(a2:Bool)=>if(!a2)=Bool.true then some (Sum.inr (Sum.inl 12)) else if 0<t15 then if 0≤w64 (t15-1)∧w64 (t15-1)<((t0.length:Nat):Int) then Option.bind t0[Int.toNat (w64 (t15-1))]? fun(a3:qa)=>if(ByteArray.toList a3.Code==ByteArray.toList a.Code)=Bool.true then some (Sum.inr (Sum.inl 6)) else if 0<t15 then if 0≤w64 (t15-1)∧w64 (t15-1)<((t0.length:Nat):Int) then Option.bind t0[Int.toNat (w64 (t15-1))]? fun(a4:qa)=>if(!(Op.bytesLess (ByteArray.toList a4.Code) (ByteArray.toList a.Code)||ByteArray.toList a4.Code==ByteArray.toList a.Code))=Bool.true then some (Sum.inr (Sum.inl 7)) else Option.bind (QX fu a) fun(a5:Int)=>if(a5 != 0)=Bool.true then some (Sum.inr (Sum.inl a5)) else some (Sum.inl (w64 (t15+1))) else none else Option.bind (QX fu a) fun(a6:Int)=>if(a6 != 0)=Bool.true then some (Sum.inr (Sum.inl a6)) else some (Sum.inl (w64 (t15+1))) else none else if 0<t15 then if 0≤w64 (t15-1)∧w64 (t15-1)<((t0.length:Nat):Int) then Option.bind t0[Int.toNat (w64 (t15-1))]? fun(a7:qa)=>if(!(Op.bytesLess (ByteArray.toList a7.Code) (ByteArray.toList a.Code)||ByteArray.toList a7.Code==ByteArray.toList a.Code))=Bool.true then some (Sum.inr (Sum.inl 7)) else Option.bind (QX fu a) fun(a8:Int)=>if(a8 != 0)=Bool.true then some (Sum.inr (Sum.inl a8)) else some (Sum.inl (w64 (t15+1))) else none else Option.bind (QX fu a) fun(a9:Int)=>if(a9 != 0)=Bool.true then some (Sum.inr (Sum.inl a9)) else some (Sum.inl (w64 (t15+1))) else none else some (Sum.inr (Sum.inr ()))
theorem q2y (fu:Nat) (t0 t13:List qa) (t14:Int):∀x,qk (Ju fu t0 t13 t14 x) (zd t0 t13 t14 x):=by
 rintro t15
 unfold Ju zd
 try dsimp only
 repeat (first
  | with_reducible exact qk.refl _
  | with_reducible exact qk.none _
  | with_reducible apply q18
  | with_reducible apply q3N
  | with_reducible refine qk.bind ?_ (fun _=>?_)
  | with_reducible refine qk.ite ?_ ?_
  | with_reducible refine qk.sum (fun _=>?_) (fun _=>?_)
  | with_reducible refine qk.lim (fun _=>?_))
theorem qtY:okL 39 q95:=qW (qc qpX) (by kernel_rfl) (by kernel_rfl)
def quV:=JA_ @q95.eq_1 (JA_ @Try.f39.eq_1 @qpX)
theorem qpd:lbO 39 3=qe7:=zE (qc qpX) rfl
theorem qp5:okL 39 qe7:=qR qtY (qxk (i:=0) (by kernel_rfl))
def zn (t9:List qa) (t10:Int):((List (ByteArray×(List ByteArray)))×Int)→Option (((List (ByteArray×(List ByteArray)))×Int)⊕((List (ByteArray×(List ByteArray)))))|(m0,t11)=>if t11<t10 then if 0≤t11∧t11<((t9.length:Nat):Int) then Option.bind t9[Int.toNat t11]? fun(a:qa)=>if(!(Jy m0 a.Code))=Bool.true then some (Sum.inl (q2E m0 a.Code a.Needs,w64 (t11+1))) else some (Sum.inl (m0,w64 (t11+1))) else none else some (Sum.inr m0)
theorem q2r:∀(m0:List (ByteArray×(List ByteArray))) (t9:List qa) (t10 t11:Int),XL2 evo 39 0 3 ⟨[(3,R.c (C.hd .map 0)),(9,rL 5 qb t9),(10,rI t10),(11,rI t11)],[(0,B.ob (mpB Qg zI m0))],1,31⟩=(qT (zn t9 t10) (m0,t11)).bind (fun(e:(List (ByteArray×(List ByteArray))))=>some (Exit.exit 0,⟨[(3,R.c (C.hd .map 0))],[(0,B.ob (mpB Qg zI e))],1,31⟩)):=
 fun m0 t9 t10 t11=>by
  revert t11;revert m0;exact qie qpd qp5 (fun e=>by exact⟨_,rfl,fun h=>by cases h⟩) fun m0 t11=>by
   have:=quV;have:=@qe7.eq_1;have:=@zn.eq_1;exact gA
def Qt (l:List qa):Option ((List (ByteArray×(List ByteArray)))):=Option.bind (qT (zn l ((l.length:Nat):Int)) ([],0)) fun(a:List (Prod ByteArray (List ByteArray)))=>some a
theorem q0w:∀(l:List qa),ev 39 0 [rL 5 qb l] []=(Qt l).bind (fun(e:(List (ByteArray×(List ByteArray))))=>some (R.c (C.hd .map 0),[(0,B.ob (mpB Qg zI e))])):=
 fun l=>by
  rw[qP qpX quA.2.2.2 qtY]
  have:=quV;have:=@q2r;have:=@Qt.eq_1;exact gA
def Jz (fu:Nat) (l:List qa):Option ((List (ByteArray×(List ByteArray)))):=Option.bind (itT (zn l ((l.length:Nat):Int)) fu ([],0)) fun(a:List (Prod ByteArray (List ByteArray)))=>some a
theorem q0I (fu:Nat) (l:List qa):qk (Jz fu l) (Qt l):=by
 unfold Jz Qt
 repeat (first
  | with_reducible exact qk.refl _
  | with_reducible exact qk.none _
  | with_reducible refine qk.bind ?_ (fun _=>?_)
  | with_reducible refine qk.ite ?_ ?_
  | with_reducible refine qk.sum (fun _=>?_) (fun _=>?_)
  | with_reducible refine qk.lim (fun _=>?_))
theorem qu3:okL 40 qcZ:=qW (qc qqr) (by kernel_rfl) (by kernel_rfl)
def qv0:=JA_ @qcZ.eq_1 (JA_ @Try.f40.eq_1 @qqr)
theorem qsq:okL 61 q98:=qW (qc qpv) (by kernel_rfl) (by kernel_rfl)
def qqp:=JA_ @q98.eq_1 (JA_ @Try.f61.eq_1 @qpv)
theorem qia:lbO 61 2=q9W:=zE (qc qpv) rfl
theorem qi0:okL 61 q9W:=qR qsq (qxk (i:=0) (by kernel_rfl))
theorem qw0:okL 41 qej:=qW (qc qqQ) (by kernel_rfl) (by kernel_rfl)
def qvG:=JA_ @qej.eq_1 (JA_ @Try.f41.eq_1 @qqQ)
def ZL (c:ByteArray) (m1:List (ByteArray×(List ByteArray))):Option Bool:=
 some (!(Jy m1 c))
def QL (c:ByteArray) (m1:List (ByteArray×(List ByteArray))):Bool:=
 (!(Jy m1 c))
theorem q2q (c:ByteArray) (m1:List (ByteArray×(List ByteArray))):ZL c m1=some (QL c m1):=by
 unfold ZL QL
 simp only[q2b]
theorem q3e:∀(c:ByteArray) (m1:List (ByteArray×(List ByteArray))),ev 41 2 [rS c,rP 0] [(0,B.blk 65 [C.hd .map 1]),(1,B.ob (mpB Qg zI m1))]=some (rB (QL c m1),[(0,B.blk 65 [C.hd .map 1]),(1,B.ob (mpB Qg zI m1))]):=
 fun c m1=>by
  have h:ev 41 2 [rS c,rP 0] [(0,B.blk 65 [C.hd .map 1]),(1,B.ob (mpB Qg zI m1))]=(ZL c m1).bind (fun(e:Bool)=>some (rB e,[(0,B.blk 65 [C.hd .map 1]),(1,B.ob (mpB Qg zI m1))])):=by
   rw[qP qqQ quZ.2.2.2 qw0]
   have:=qvG;have:=@ZL.eq_1;exact gA
  rw[q2q] at h
  exact h
def qw (m1:List (ByteArray×(List ByteArray))) (s:List ByteArray) (t7:Int):Int→Option (Int⊕(Int⊕Unit))|t8=>if t8<t7 then if 0≤t8∧t8<((s.length:Nat):Int) then Option.bind s[Int.toNat t8]? fun(a:ByteArray)=>if QL a m1=Bool.true then some (Sum.inr (Sum.inl t8)) else some (Sum.inl (w64 (t8+1))) else none else some (Sum.inr (Sum.inr ()))
theorem Zz:∀(m1:List (ByteArray×(List ByteArray))) (s:List ByteArray) (t7 t8:Int),XL2 evo 61 2 2 ⟨[(0,rL 1 eS s),(1,R.c (C.fn 41 [] [dP 0])),(7,rI t7),(8,rI t8)],[(0,B.blk 65 [C.hd .map 1]),(1,B.ob (mpB Qg zI m1))],2,19⟩=(qT (qw m1 s t7) t8).bind (Sum.elim (fun(e:Int)=>some (Exit.ret,⟨[(4,rI e)],[(0,B.blk 65 [C.hd .map 1]),(1,B.ob (mpB Qg zI m1))],2,19⟩)) (fun(e:Unit)=>some (Exit.exit 0,⟨[(4,R.any)],[(0,B.blk 65 [C.hd .map 1]),(1,B.ob (mpB Qg zI m1))],2,19⟩))):=
 fun m1 s t7 t8=>by
  revert t8;exact q2s qia qi0 (fun e=>by rcases e with _|_<;>exact⟨_,rfl,fun h=>by cases h⟩) fun x=>by
   have:=qqp;have:=@q9W.eq_1;have:=@q3e;have:=@qw.eq_1;exact gA
def qI (s:List ByteArray) (m1:List (ByteArray×(List ByteArray))):Option Int:=Option.bind (qT (qw m1 s ((s.length:Nat):Int)) 0) fun(a:Sum Int Unit)=>Sum.elim (fun(a2:Int)=>some a2) (fun(a3:Unit)=>some (-1)) a
theorem ZM:∀(s:List ByteArray) (m1:List (ByteArray×(List ByteArray))),ev 61 2 [rL 1 eS s,R.c (C.fn 41 [] [dP 0])] [(0,B.blk 65 [C.hd .map 1]),(1,B.ob (mpB Qg zI m1))]=(qI s m1).bind (fun(e:Int)=>some (rI e,[(0,B.blk 65 [C.hd .map 1]),(1,B.ob (mpB Qg zI m1))])):=
 fun s m1=>by
  rw[qP qpv qqP.2.2.2 qsq]
  have:=qqp;have:=@Zz;have:=@qI.eq_1;exact gA
def Q2 (fu:Nat) (s:List ByteArray) (m1:List (ByteArray×(List ByteArray))):Option Int:=Option.bind (itT (qw m1 s ((s.length:Nat):Int)) fu 0) fun(a:Sum Int Unit)=>Sum.elim (fun(a2:Int)=>some a2) (fun(a3:Unit)=>some (-1)) a
theorem ZP (fu:Nat) (s:List ByteArray) (m1:List (ByteArray×(List ByteArray))):qk (Q2 fu s m1) (qI s m1):=by
 unfold Q2 qI
 repeat (first
  | with_reducible exact qk.refl _
  | with_reducible exact qk.none _
  | with_reducible refine qk.bind ?_ (fun _=>?_)
  | with_reducible refine qk.ite ?_ ?_
  | with_reducible refine qk.sum (fun _=>?_) (fun _=>?_)
  | with_reducible refine qk.lim (fun _=>?_))
def qr (s:List ByteArray) (m1:List (ByteArray×(List ByteArray))):Option Bool:=Option.bind (qI s m1) fun(a:Int)=>some (decide (0≤a))
theorem ZA:∀(s:List ByteArray) (m1:List (ByteArray×(List ByteArray))),ev 40 2 [rL 1 eS s,R.c (C.fn 41 [] [dP 0])] [(0,B.blk 65 [C.hd .map 1]),(1,B.ob (mpB Qg zI m1))]=(qr s m1).bind (fun(e:Bool)=>some (rB e,[(0,B.blk 65 [C.hd .map 1]),(1,B.ob (mpB Qg zI m1))])):=
 fun s m1=>by
  rw[qP qqr qr0.2.2.2 qu3]
  have:=qv0;have:=@ZM;have:=@qr.eq_1;exact gA
def zU (fu:Nat) (s:List ByteArray) (m1:List (ByteArray×(List ByteArray))):Option Bool:=Option.bind (Q2 fu s m1) fun(a:Int)=>some (decide (0≤a))
theorem Zv (fu:Nat) (s:List ByteArray) (m1:List (ByteArray×(List ByteArray))):qk (zU fu s m1) (qr s m1):=by
 unfold zU qr
 repeat (first
  | with_reducible exact qk.refl _
  | with_reducible exact qk.none _
  | with_reducible apply ZP
  | with_reducible refine qk.bind ?_ (fun _=>?_)
  | with_reducible refine qk.ite ?_ ?_
  | with_reducible refine qk.sum (fun _=>?_) (fun _=>?_)
  | with_reducible refine qk.lim (fun _=>?_))
def Qh (m1:List (ByteArray×(List ByteArray))):Option Bool:=anyO (fun(a:ByteArray) (v:List ByteArray)=>Option.bind (qr v m1) fun(a2:Bool)=>if a2=Bool.true then some true else some false) m1
theorem q1M:∀(m1:List (ByteArray×(List ByteArray))),XM2 evo 12 0 18 (@Operand.tmp 62) ⟨[(6,rP 0),(62,R.c (C.hd .iter 2))],[(0,B.blk 65 [C.hd .map 1]),(1,B.ob (mpB Qg zI m1)),(2,B.ob (AO.mi (R.c (C.hd HK.map 1)) m1.length []))],3,81⟩=(Qh m1).bind (fun e=>if e=true then some (Exit.ret,⟨[(2,rI 5),(6,rP 0)],[(0,B.blk 65 [C.hd .map 1]),(1,B.ob (mpB Qg zI m1))],2,81⟩) else some (Exit.exit 3,⟨[(2,R.any),(6,rP 0)],[(0,B.blk 65 [C.hd .map 1]),(1,B.ob (mpB Qg zI m1))],2,81⟩)):=
 fun m1=>by
  have h:=q9P (E:=evo) (f:=12) (k:=0) (key:=18) (it:=@Operand.tmp 62) qkU qiG (kE:=Qg) (vE:=zI) (M:=m1) (st:=fun b=>(⟨[(6,rP 0),(62,R.c (C.hd .iter 2))],[(0,B.blk 65 [C.hd .map 1]),(1,B.ob (mpB Qg zI m1)),(2,b)],3,81⟩:S)) (id:=2) (mid:=1) (x:=(Exit.ret,⟨[(2,rI 5),(6,rP 0)],[(0,B.blk 65 [C.hd .map 1]),(1,B.ob (mpB Qg zI m1))],2,81⟩)) (z:=(Exit.exit 3,⟨[(2,R.any),(6,rP 0)],[(0,B.blk 65 [C.hd .map 1]),(1,B.ob (mpB Qg zI m1))],2,81⟩)) (g:=fun a v=>Option.bind (qr v m1) fun(a2:Bool) =>     if a2=Bool.true then some true     else some false) (fun _=>rfl) (fun _=>rfl) (fun _=>rfl) (fun _=>rfl) (by decide) (fun _ _=>rfl) (by intro h;cases h) (by intro h;cases h) (fun a v j l hE=>by
   simp only[qcs,qhu,qea,zI] at hE
   have:=qlo;have:=@q6n.eq_1;have:=@zI;have:=@hE;have:=@ZA;exact gA) (fun l=>by
   have:=qlo;have:=@q6n.eq_1;have:=@zI;exact gA)
  exact h
def J0 (fu:Nat) (m1:List (ByteArray×(List ByteArray))):Option Bool:=anyO (fun(a:ByteArray) (v:List ByteArray)=>Option.bind (zU fu v m1) fun(a2:Bool)=>if a2=Bool.true then some true else some false) m1
theorem q1C (fu:Nat) (m1:List (ByteArray×(List ByteArray))):qk (J0 fu m1) (Qh m1):=by
 unfold J0 Qh
 refine qk.anyO (fun _ _=>?_) _
 repeat (first
  | with_reducible exact qk.refl _
  | with_reducible exact qk.none _
  | with_reducible apply Zv
  | with_reducible refine qk.bind ?_ (fun _=>?_)
  | with_reducible refine qk.ite ?_ ?_
  | with_reducible refine qk.sum (fun _=>?_) (fun _=>?_)
  | with_reducible refine qk.lim (fun _=>?_))
theorem qwF:okL 43 qeY:=qW (qc qtc) (by kernel_rfl) (by kernel_rfl)
def qvQ:=JA_ @qeY.eq_1 (JA_ @Try.f43.eq_1 @qtc)
theorem qug:okL 63 q9S:=qW (qc qqu) (by kernel_rfl) (by kernel_rfl)
def quE:=JA_ @q9S.eq_1 (JA_ @Try.f63.eq_1 @qqu)
theorem qmF:lbO 63 1=qex:=zE (qc qqu) rfl
theorem qmz:okL 63 qex:=qR qug (qxk (i:=0) (by kernel_rfl))
def zw (x:(ByteArray×(List (ByteArray×(List ByteArray)))×(List (ByteArray×Bool)))):List R×List (Nat×B):=([R.c (C.d (D.str x.1)),R.c (C.ptr 0 0),R.c (C.ptr 2 0),R.c (C.ptr 4 0)],[(0,B.blk 65 [C.hd .map 1]),(1,B.ob (mpB Qg zI x.2.1)),(2,B.blk 46 [C.hd .map 3]),(3,B.ob (mpB Qg Z5 x.2.2)),(4,B.blk 81 [C.fn 63 [] [C.ptr 0 0,C.ptr 2 0,C.ptr 4 0]])])
def zG:((List (ByteArray×(List ByteArray)))×(List (ByteArray×Bool)))→R×List (Nat×B):=fun(e:(List (ByteArray×(List ByteArray)))×(List (ByteArray×Bool)))=>(R.tup [],[(0,B.blk 65 [C.hd .map 1]),(1,B.ob (mpB Qg zI e.1)),(2,B.blk 46 [C.hd .map 3]),(3,B.ob (mpB Qg Z5 e.2)),(4,B.blk 81 [C.fn 63 [] [C.ptr 0 0,C.ptr 2 0,C.ptr 4 0]])])
def qu (rF:(ByteArray×(List (ByteArray×(List ByteArray)))×(List (ByteArray×Bool)))→Option ((List (ByteArray×(List ByteArray)))×(List (ByteArray×Bool)))) (t9:List ByteArray) (t10:Int):((List (ByteArray×(List ByteArray)))×(List (ByteArray×Bool))×Int)→Option (((List (ByteArray×(List ByteArray)))×(List (ByteArray×Bool))×Int)⊕((List (ByteArray×(List ByteArray)))×(List (ByteArray×Bool))))|(m1,m3,t11)=>if t11<t10 then if 0≤t11∧t11<((t9.length:Nat):Int) then Option.bind t9[Int.toNat t11]? fun(a2:ByteArray)=>if(!(Zs Bool.false m3 a2))=Bool.true then Option.bind (rF (a2,(m1,q2E m3 a2 Bool.true))) fun(a3:Prod (List (Prod ByteArray (List ByteArray))) (List (Prod ByteArray Bool)))=>some (Sum.inl (a3.1,a3.2,w64 (t11+1))) else some (Sum.inl (m1,m3,w64 (t11+1))) else none else some (Sum.inr (m1,m3))
theorem q14 (rE:Orc) (rF:(ByteArray×(List (ByteArray×(List ByteArray)))×(List (ByteArray×Bool)))→Option ((List (ByteArray×(List ByteArray)))×(List (ByteArray×Bool)))) (hF:∀y,rE (.fn 63) 5 (zw y).1 (zw y).2=(rF y).bind fun e=>some (zG e)) (hM:∀g k a G,g≠63→rE (.fn g) k a G=ev g k a G) (hR:∀g asg bd k a G,rE (.rd g asg bd) k a G=evr g asg bd k a G):∀(m1:List (ByteArray×(List ByteArray))) (m3:List (ByteArray×Bool)) (t9:List ByteArray) (t10 t11:Int),XL2 rE 63 5 1 ⟨[(2,rP 2),(3,rP 4),(9,rL 1 eS t9),(10,rI t10),(11,rI t11)],[(0,B.blk 65 [C.hd .map 1]),(1,B.ob (mpB Qg zI m1)),(2,B.blk 46 [C.hd .map 3]),(3,B.ob (mpB Qg Z5 m3)),(4,B.blk 81 [C.fn 63 [] [dP 0,dP 2,dP 4]])],5,25⟩=(qT (qu rF t9 t10) (m1,m3,t11)).bind (fun(e:(List (ByteArray×(List ByteArray)))×(List (ByteArray×Bool)))=>some (Exit.exit 0,⟨[],[(0,B.blk 65 [C.hd .map 1]),(1,B.ob (mpB Qg zI e.1)),(2,B.blk 46 [C.hd .map 3]),(3,B.ob (mpB Qg Z5 e.2)),(4,B.blk 81 [C.fn 63 [] [dP 0,dP 2,dP 4]])],5,25⟩)):=
 fun m1 m3 t9 t10 t11=>by
  revert t11;revert m3;revert m1;exact qrc qmF qmz (fun e=>by exact⟨_,rfl,fun h=>by cases h⟩) fun m1 m3 t11=>by
   have hF':∀(c:ByteArray) (m1:List (ByteArray×(List ByteArray))) (m3:List (ByteArray×Bool)),rE (.fn 63) 5 [rS c,rP 0,rP 2,rP 4] [(0,B.blk 65 [C.hd .map 1]),(1,B.ob (mpB Qg zI m1)),(2,B.blk 46 [C.hd .map 3]),(3,B.ob (mpB Qg Z5 m3)),(4,B.blk 81 [C.fn 63 [] [dP 0,dP 2,dP 4]])]=(rF (c,m1,m3)).bind (fun e=>some (R.tup [],[(0,B.blk 65 [C.hd .map 1]),(1,B.ob (mpB Qg zI e.1)),(2,B.blk 46 [C.hd .map 3]),(3,B.ob (mpB Qg Z5 e.2)),(4,B.blk 81 [C.fn 63 [] [dP 0,dP 2,dP 4]])])):=fun c m1 m3=>hF (c,m1,m3)
   have:=quE;have:=@qex.eq_1;have:=@qu.eq_1;exact gA
def ZJ (fu:Nat) (rF:(ByteArray×(List (ByteArray×(List ByteArray)))×(List (ByteArray×Bool)))→Option ((List (ByteArray×(List ByteArray)))×(List (ByteArray×Bool)))) (t9:List ByteArray) (t10:Int):((List (ByteArray×(List ByteArray)))×(List (ByteArray×Bool))×Int)→Option (((List (ByteArray×(List ByteArray)))×(List (ByteArray×Bool))×Int)⊕((List (ByteArray×(List ByteArray)))×(List (ByteArray×Bool))))|(m1,m3,t11)=>if t11<t10 then if 0≤t11∧t11<((t9.length:Nat):Int) then Option.bind t9[Int.toNat t11]? fun(a2:ByteArray)=>if(!(Zs Bool.false m3 a2))=Bool.true then Option.bind (rF (a2,(m1,q2E m3 a2 Bool.true))) fun(a3:Prod (List (Prod ByteArray (List ByteArray))) (List (Prod ByteArray Bool)))=>some (Sum.inl (a3.1,a3.2,w64 (t11+1))) else some (Sum.inl (m1,m3,w64 (t11+1))) else none else some (Sum.inr (m1,m3))
theorem q0N (fu:Nat) (rF rF2:(ByteArray×(List (ByteArray×(List ByteArray)))×(List (ByteArray×Bool)))→Option ((List (ByteArray×(List ByteArray)))×(List (ByteArray×Bool)))) (hF:∀y,qk (rF y) (rF2 y)) (t9:List ByteArray) (t10:Int):∀x,qk (ZJ fu rF t9 t10 x) (qu rF2 t9 t10 x):=by
 rintro⟨m1,m3,t11⟩
 unfold ZJ qu
 try dsimp only
 repeat (first
  | with_reducible exact qk.refl _
  | with_reducible exact qk.none _
  | exact hF _
  | with_reducible refine qk.bind ?_ (fun _=>?_)
  | with_reducible refine qk.ite ?_ ?_
  | with_reducible refine qk.sum (fun _=>?_) (fun _=>?_)
  | with_reducible refine qk.lim (fun _=>?_))
def Q3 (rF:(ByteArray×(List (ByteArray×(List ByteArray)))×(List (ByteArray×Bool)))→Option ((List (ByteArray×(List ByteArray)))×(List (ByteArray×Bool)))):(ByteArray×(List (ByteArray×(List ByteArray)))×(List (ByteArray×Bool)))→Option ((List (ByteArray×(List ByteArray)))×(List (ByteArray×Bool)))|(c,m1,m3)=>Option.bind (qT (qu rF (Zs [] m1 c) (((Zs [] m1 c).length:Nat):Int)) (m1,(m3,0))) fun(a2:Prod (List (Prod ByteArray (List ByteArray))) (List (Prod ByteArray Bool)))=>some (a2.1,a2.2)
theorem ZD:q7n 63 5 zw zG Q3:=by
 intro rE rF hF hM hR x
 obtain⟨c,m1,m3⟩:=x
 show q8Q rE 63 5 [rS c,rP 0,rP 2,rP 4] [(0,B.blk 65 [C.hd .map 1]),(1,B.ob (mpB Qg zI m1)),(2,B.blk 46 [C.hd .map 3]),(3,B.ob (mpB Qg Z5 m3)),(4,B.blk 81 [C.fn 63 [] [dP 0,dP 2,dP 4]])]=_
 have hF':∀(c:ByteArray) (m1:List (ByteArray×(List ByteArray))) (m3:List (ByteArray×Bool)),rE (.fn 63) 5 [rS c,rP 0,rP 2,rP 4] [(0,B.blk 65 [C.hd .map 1]),(1,B.ob (mpB Qg zI m1)),(2,B.blk 46 [C.hd .map 3]),(3,B.ob (mpB Qg Z5 m3)),(4,B.blk 81 [C.fn 63 [] [dP 0,dP 2,dP 4]])]=(rF (c,m1,m3)).bind (fun e=>some (R.tup [],[(0,B.blk 65 [C.hd .map 1]),(1,B.ob (mpB Qg zI e.1)),(2,B.blk 46 [C.hd .map 3]),(3,B.ob (mpB Qg Z5 e.2)),(4,B.blk 81 [C.fn 63 [] [dP 0,dP 2,dP 4]])])):=fun c m1 m3=>hF (c,m1,m3)
 rw[q9u qqu qug]
 have:=quE;have:=q14 rE rF hF hM hR;have:=@Q3.eq_1;have:=@zG.eq_1;exact gA
theorem QW:∀x y,zw x=zw y→x=y:=by
 rintro⟨a0,a1,a2⟩ ⟨b0,b1,b2⟩ h
 simp only[zw,Prod.mk.injEq,List.cons.injEq,R.c.injEq,R.agg.injEq,R.tup.injEq,C.d.injEq,C.own.injEq,C.ptr.injEq,C.eptr.injEq,D.int.injEq,D.bool.injEq,D.str.injEq,D.sl.injEq,B.blk.injEq,B.row.injEq,qaD,q7H,q7B,q7g,q76,q9N,qaB,q9Z,true_and,and_true,qxD] at h
 simp only[h]
theorem J2:∀x y,zG x=zG y→x=y:=by
 rintro⟨a0,a1⟩ ⟨b0,b1⟩ h
 simp only[zG,Prod.mk.injEq,List.cons.injEq,R.c.injEq,R.agg.injEq,R.tup.injEq,C.d.injEq,C.own.injEq,C.ptr.injEq,C.eptr.injEq,D.int.injEq,D.bool.injEq,D.str.injEq,D.sl.injEq,B.blk.injEq,B.row.injEq,qaD,q7H,q7B,q7g,q76,q9N,qaB,q9Z,true_and,and_true,qxD] at h
 simp only[h]
def qV:(ByteArray×(List (ByteArray×(List ByteArray)))×(List (ByteArray×Bool)))→Option ((List (ByteArray×(List ByteArray)))×(List (ByteArray×Bool))):=q5O 63 5 zw zG
theorem JP (x:(ByteArray×(List (ByteArray×(List ByteArray)))×(List (ByteArray×Bool)))):qV x=Q3 qV x:=qmm qqG.2.2.2 QW J2 ZD x
theorem q1w (c:ByteArray) (m1:List (ByteArray×(List ByteArray))) (m3:List (ByteArray×Bool)):ev 63 5 [rS c,rP 0,rP 2,rP 4] [(0,B.blk 65 [C.hd .map 1]),(1,B.ob (mpB Qg zI m1)),(2,B.blk 46 [C.hd .map 3]),(3,B.ob (mpB Qg Z5 m3)),(4,B.blk 81 [C.fn 63 [] [dP 0,dP 2,dP 4]])]=(qV (c,m1,m3)).bind (fun(e:(List (ByteArray×(List ByteArray)))×(List (ByteArray×Bool)))=>some (R.tup [],[(0,B.blk 65 [C.hd .map 1]),(1,B.ob (mpB Qg zI e.1)),(2,B.blk 46 [C.hd .map 3]),(3,B.ob (mpB Qg Z5 e.2)),(4,B.blk 81 [C.fn 63 [] [dP 0,dP 2,dP 4]])])):=(qal qqG.2.2.2 QW ZD (c,m1,m3))
theorem q2x:∀(c:ByteArray) (m1:List (ByteArray×(List ByteArray))) (m3:List (ByteArray×Bool)),ev 63 5 [rS c,rP 0,rP 2,rP 4] [(0,B.blk 65 [C.hd .map 1]),(1,B.ob (mpB Qg zI m1)),(2,B.blk 46 [C.hd .map 3]),(3,B.ob (mpB Qg Z5 m3)),(4,B.blk 81 [C.fn 63 [] [dP 0,dP 2,dP 4]])]=(qV (c,m1,m3)).bind (fun(e:(List (ByteArray×(List ByteArray)))×(List (ByteArray×Bool)))=>some (R.tup [],[(0,B.blk 65 [C.hd .map 1]),(1,B.ob (mpB Qg zI e.1)),(2,B.blk 46 [C.hd .map 3]),(3,B.ob (mpB Qg Z5 e.2)),(4,B.blk 81 [C.fn 63 [] [dP 0,dP 2,dP 4]])])):=
 fun c m1 m3=>q1w c m1 m3
def Zi (fu:Nat) (rF:(ByteArray×(List (ByteArray×(List ByteArray)))×(List (ByteArray×Bool)))→Option ((List (ByteArray×(List ByteArray)))×(List (ByteArray×Bool)))):(ByteArray×(List (ByteArray×(List ByteArray)))×(List (ByteArray×Bool)))→Option ((List (ByteArray×(List ByteArray)))×(List (ByteArray×Bool)))|(c,m1,m3)=>Option.bind (itT (ZJ fu rF (Zs [] m1 c) (((Zs [] m1 c).length:Nat):Int)) fu (m1,(m3,0))) fun(a2:Prod (List (Prod ByteArray (List ByteArray))) (List (Prod ByteArray Bool)))=>some (a2.1,a2.2)
theorem q0m (fu:Nat) (rF rF2:(ByteArray×(List (ByteArray×(List ByteArray)))×(List (ByteArray×Bool)))→Option ((List (ByteArray×(List ByteArray)))×(List (ByteArray×Bool)))) (hF:∀y,qk (rF y) (rF2 y)):∀x,qk (Zi fu rF x) (Q3 rF2 x):=by
 rintro⟨c,m1,m3⟩
 unfold Zi Q3
 try dsimp only
 repeat (first
  | with_reducible exact qk.refl _
  | with_reducible exact qk.none _
  | exact hF _
  | (with_reducible refine q0N _ _ _ hF ..)
  | with_reducible refine qk.bind ?_ (fun _=>?_)
  | with_reducible refine qk.ite ?_ ?_
  | with_reducible refine qk.sum (fun _=>?_) (fun _=>?_)
  | with_reducible refine qk.lim (fun _=>?_))
def q0F (fu:Nat) (x:(ByteArray×(List (ByteArray×(List ByteArray)))×(List (ByteArray×Bool)))):Option ((List (ByteArray×(List ByteArray)))×(List (ByteArray×Bool))):=itR (Zi fu) fu x
theorem q2B (fu:Nat) (x:(ByteArray×(List (ByteArray×(List ByteArray)))×(List (ByteArray×Bool)))):qk (q0F fu x) (qV x):=qk.rec JP (q0m fu) fu x
theorem qvz:okL 65 qbS:=qW (qc qrs) (by kernel_rfl) (by kernel_rfl)
def qx1:=JA_ @qbS.eq_1 (JA_ @Try.f65.eq_1 @qrs)
def qZ (m0:List (ByteArray×Bool)):Option Unit:=
 some ()
def Q4 (m0:List (ByteArray×Bool)):Unit:=
 ()
theorem Z7 (m0:List (ByteArray×Bool)):qZ m0=some (Q4 m0):=by
 unfold qZ Q4
 simp only[q2b]
theorem Za:∀(m0:List (ByteArray×Bool)),ev 65 1 [R.c (C.hd .map 0)] [(0,B.ob (mpB Qg Z5 m0))]=some (R.c (C.fn 74 [] [dP 1]),[(0,B.ob (mpB Qg Z5 m0)),(1,B.blk 46 [C.hd .map 0])]):=
 fun m0=>by
  have h:ev 65 1 [R.c (C.hd .map 0)] [(0,B.ob (mpB Qg Z5 m0))]=(qZ m0).bind (fun(e:Unit)=>some (R.c (C.fn 74 [] [dP 1]),[(0,B.ob (mpB Qg Z5 m0)),(1,B.blk 46 [C.hd .map 0])])):=by
   rw[qP qrs quH.2.2.2 qvz]
   have:=qx1;have:=@qZ.eq_1;exact gA
  rw[Z7] at h
  exact h
def Q5 (m1:List (ByteArray×Bool)):Option (List ByteArray):=if @qlt (List.map (@Prod.fst ByteArray Bool) m1)=Bool.true then some (@q00 (List.map (@Prod.fst ByteArray Bool) m1)) else none
theorem q0k:∀(m1:List (ByteArray×Bool)),ev 64 2 [R.c (C.fn 74 [] [dP 0])] [(0,B.blk 46 [C.hd .map 1]),(1,B.ob (mpB Qg Z5 m1))]=(Q5 m1).bind (fun(e:List ByteArray)=>some (rL 1 eS e,[(0,B.blk 46 [C.hd .map 1]),(1,B.ob (mpB Qg Z5 m1))])):=
 fun m1=>by
  rw[qb7,qva.2.2.2]
  have:=@Q5.eq_1;exact gA
theorem q1r (x:(ByteArray×(List (ByteArray×(List ByteArray)))×(List (ByteArray×Bool)))) (e:(List (ByteArray×(List ByteArray)))×(List (ByteArray×Bool))) (h:qV x=some e):e.1=x.2.1:=
 qgK qqG.2.2.2 QW J2 ZD (Q:=fun x e=>e.1=x.2.1) (fun F hF y e he=>by
  obtain⟨c,m1,m3⟩:=y
  obtain⟨a,h1,h2⟩:=qxo.1 (show Option.bind (qT (qu F (Zs [] m1 c) (((Zs [] m1 c).length:Nat):Int)) (m1,(m3,0))) (fun a2=>some (a2.1,a2.2))=some e from he)
  injection h2 with h2
  have h3:=qfb (I:=fun x:(List (ByteArray×(List ByteArray)))×(List (ByteArray×Bool))×Int=>x.1=m1) (J:=fun e:(List (ByteArray×(List ByteArray)))×(List (ByteArray×Bool))=>e.1=m1) (fun x y hx hs=>by
   obtain⟨b,m,t⟩:=x
   obtain rfl:b=m1:=hx
   unfold qu at hs
   dsimp only at hs
   split at hs
   ·split at hs
    ·obtain⟨d,-,hs⟩:=qxo.1 hs
     split at hs
     ·obtain⟨r,hr,hs⟩:=qxo.1 hs
      injection hs with hs;injection hs with hs
      rw[←hs];exact hF _ _ hr
     ·injection hs with hs;injection hs with hs
      rw[←hs]
    ·cases hs
   ·cases hs) (fun x e hx hs=>by
   obtain⟨b,m,t⟩:=x
   obtain rfl:b=m1:=hx
   unfold qu at hs
   dsimp only at hs
   split at hs
   ·split at hs
    ·obtain⟨d,-,hs⟩:=qxo.1 hs
     split at hs
     ·obtain⟨r,hr,hs⟩:=qxo.1 hs
      cases hs
     ·cases hs
    ·cases hs
   ·injection hs with hs;injection hs with hs
    rw[←hs]) rfl h1
  rw[←h2];exact h3) x e h
def qO (code:ByteArray) (m0:List (ByteArray×(List ByteArray))):Option (List ByteArray×(List (ByteArray×(List ByteArray)))):=Option.bind (qV (code,(m0,[]))) fun(a:Prod (List (Prod ByteArray (List ByteArray))) (List (Prod ByteArray Bool)))=>Option.bind (Q5 a.2) fun(a2:List ByteArray)=>some (a2,a.1)
theorem q08:∀(code:ByteArray) (m0:List (ByteArray×(List ByteArray))),ev 43 1 [R.c (C.hd .map 0),rS code] [(0,B.ob (mpB Qg zI m0))]=(qO code m0).bind (fun(e:List ByteArray×(List (ByteArray×(List ByteArray))))=>some (rL 1 eS e.1,[(0,B.ob (mpB Qg zI e.2))])):=
 fun code m0=>by
  rw[qP qtc qtE.2.2.2 qwF]
  have:=qvQ;have:=@q2x;have:=@Za;have:=@q0k;have:=@qO.eq_1;exact gA
theorem q2d (code:ByteArray) (m0:List (ByteArray×(List ByteArray))) (r:List ByteArray×(List (ByteArray×(List ByteArray)))) (h:qO code m0=some r):r.2=m0:=by
 unfold qO at h
 obtain⟨a,h1,h⟩:=qxo.1 h
 obtain⟨b,h2,h⟩:=qxo.1 h
 injection h with h
 rw[←h];exact q1r _ _ h1
theorem q3r:∀(code:ByteArray) (m0:List (ByteArray×(List ByteArray))),ev 43 1 [R.c (C.hd .map 0),rS code] [(0,B.ob (mpB Qg zI m0))]=(qO code m0).bind (fun(e:List ByteArray×(List (ByteArray×(List ByteArray))))=>some (rL 1 eS e.1,[(0,B.ob (mpB Qg zI m0))])):=fun code m0=>by
 rw[q08]
 cases h:qO code m0 with
 | none=>rfl
 | some r=>rw[qxj,qxj,q2d _ _ _ h]
def J4 (fu:Nat) (code:ByteArray) (m0:List (ByteArray×(List ByteArray))):Option (List ByteArray×(List (ByteArray×(List ByteArray)))):=Option.bind (q0F fu (code,(m0,[]))) fun(a:Prod (List (Prod ByteArray (List ByteArray))) (List (Prod ByteArray Bool)))=>Option.bind (Q5 a.2) fun(a2:List ByteArray)=>some (a2,a.1)
theorem q09 (fu:Nat) (code:ByteArray) (m0:List (ByteArray×(List ByteArray))):qk (J4 fu code m0) (qO code m0):=by
 unfold J4 qO
 repeat (first
  | with_reducible exact qk.refl _
  | with_reducible exact qk.none _
  | with_reducible apply q2B
  | with_reducible refine qk.bind ?_ (fun _=>?_)
  | with_reducible refine qk.ite ?_ ?_
  | with_reducible refine qk.sum (fun _=>?_) (fun _=>?_)
  | with_reducible refine qk.lim (fun _=>?_))
theorem qwV:okL 42 qbF:=qW (qc qsf) (by kernel_rfl) (by kernel_rfl)
def qwS:=JA_ @qbF.eq_1 (JA_ @Try.f42.eq_1 @qsf)
theorem qtV:okL 62 qaa:=qW (qc qqg) (by kernel_rfl) (by kernel_rfl)
def qvb:=JA_ @qaa.eq_1 (JA_ @Try.f62.eq_1 @qqg)
theorem qog:lbO 62 2=qd2:=zE (qc qqg) rfl
theorem qpx:okL 62 qd2:=qR qtV (qxk (i:=0) (by kernel_rfl))
def qB (s:List ByteArray) (v:ByteArray) (t7:Int):Int→Option (Int⊕(Int⊕Unit))|t8=>if t8<t7 then if 0≤t8∧t8<((s.length:Nat):Int) then Option.bind s[Int.toNat t8]? fun(a:ByteArray)=>if(ByteArray.toList v==ByteArray.toList a)=Bool.true then some (Sum.inr (Sum.inl t8)) else some (Sum.inl (w64 (t8+1))) else none else some (Sum.inr (Sum.inr ()))
theorem ZX:∀(s:List ByteArray) (v:ByteArray) (t7 t8:Int),XL2 evo 62 0 2 ⟨[(0,rL 1 eS s),(1,rS v),(7,rI t7),(8,rI t8)],[],0,19⟩=(qT (qB s v t7) t8).bind (Sum.elim (fun(e:Int)=>some (Exit.ret,⟨[(4,rI e)],[],0,19⟩)) (fun(e:Unit)=>some (Exit.exit 0,⟨[(4,R.any)],[],0,19⟩))):=
 fun s v t7 t8=>by
  revert t8;exact q2s qog qpx (fun e=>by rcases e with _|_<;>exact⟨_,rfl,fun h=>by cases h⟩) fun x=>by
   have:=qvb;have:=@qd2.eq_1;have:=@qB.eq_1;exact gA
def zc (s:List ByteArray) (v:ByteArray):Option Int:=Option.bind (qT (qB s v ((s.length:Nat):Int)) 0) fun(a:Sum Int Unit)=>Sum.elim (fun(a2:Int)=>some a2) (fun(a3:Unit)=>some (-1)) a
theorem Jq:∀(s:List ByteArray) (v:ByteArray),ev 62 0 [rL 1 eS s,rS v] []=(zc s v).bind (fun(e:Int)=>some (rI e,[])):=
 fun s v=>by
  rw[qP qqg qtP.2.2.2 qtV]
  have:=qvb;have:=@ZX;have:=@zc.eq_1;exact gA
def Qp (fu:Nat) (s:List ByteArray) (v:ByteArray):Option Int:=Option.bind (itT (qB s v ((s.length:Nat):Int)) fu 0) fun(a:Sum Int Unit)=>Sum.elim (fun(a2:Int)=>some a2) (fun(a3:Unit)=>some (-1)) a
theorem Js (fu:Nat) (s:List ByteArray) (v:ByteArray):qk (Qp fu s v) (zc s v):=by
 unfold Qp zc
 repeat (first
  | with_reducible exact qk.refl _
  | with_reducible exact qk.none _
  | with_reducible refine qk.bind ?_ (fun _=>?_)
  | with_reducible refine qk.ite ?_ ?_
  | with_reducible refine qk.sum (fun _=>?_) (fun _=>?_)
  | with_reducible refine qk.lim (fun _=>?_))
def qm (s:List ByteArray) (v:ByteArray):Option Bool:=Option.bind (zc s v) fun(a:Int)=>some (decide (0≤a))
theorem QC:∀(s:List ByteArray) (v:ByteArray),ev 42 0 [rL 1 eS s,rS v] []=(qm s v).bind (fun(e:Bool)=>some (rB e,[])):=
 fun s v=>by
  rw[qP qsf quX.2.2.2 qwV]
  have:=qwS;have:=@Jq;have:=@qm.eq_1;exact gA
def zA (fu:Nat) (s:List ByteArray) (v:ByteArray):Option Bool:=Option.bind (Qp fu s v) fun(a:Int)=>some (decide (0≤a))
theorem QB (fu:Nat) (s:List ByteArray) (v:ByteArray):qk (zA fu s v) (qm s v):=by
 unfold zA qm
 repeat (first
  | with_reducible exact qk.refl _
  | with_reducible exact qk.none _
  | with_reducible apply Js
  | with_reducible refine qk.bind ?_ (fun _=>?_)
  | with_reducible refine qk.ite ?_ ?_
  | with_reducible refine qk.sum (fun _=>?_) (fun _=>?_)
  | with_reducible refine qk.lim (fun _=>?_))
def QM (m1:List (ByteArray×(List ByteArray))):Option Bool:=anyO (fun(a:ByteArray) (v:List ByteArray)=>Option.bind (qO a m1) fun(a2:Prod (List ByteArray) (List (Prod ByteArray (List ByteArray))))=>Option.bind (qm a2.1 a) fun(a3:Bool)=>if a3=Bool.true then some true else some false) m1
theorem q1F:∀(m1:List (ByteArray×(List ByteArray))),XM2 evo 12 0 23 (@Operand.tmp 71) ⟨[(6,rP 0),(71,R.c (C.hd .iter 2))],[(0,B.blk 65 [C.hd .map 1]),(1,B.ob (mpB Qg zI m1)),(2,B.ob (AO.mi (R.c (C.hd HK.map 1)) m1.length []))],3,81⟩=(QM m1).bind (fun e=>if e=true then some (Exit.ret,⟨[(2,rI 14)],[],0,81⟩) else some (Exit.exit 5,⟨[(2,R.any)],[],0,81⟩)):=
 fun m1=>by
  have h:=q9P (E:=evo) (f:=12) (k:=0) (key:=23) (it:=@Operand.tmp 71) qiS qkB (kE:=Qg) (vE:=zI) (M:=m1) (st:=fun b=>(⟨[(6,rP 0),(71,R.c (C.hd .iter 2))],[(0,B.blk 65 [C.hd .map 1]),(1,B.ob (mpB Qg zI m1)),(2,b)],3,81⟩:S)) (id:=2) (mid:=1) (x:=(Exit.ret,⟨[(2,rI 14)],[],0,81⟩)) (z:=(Exit.exit 5,⟨[(2,R.any)],[],0,81⟩)) (g:=fun a v=>Option.bind (qO a m1) fun(a2:Prod (List ByteArray) (List (Prod ByteArray (List ByteArray)))) =>     Option.bind (qm a2.1 a) fun(a3:Bool) =>     if a3=Bool.true then some true     else some false) (fun _=>rfl) (fun _=>rfl) (fun _=>rfl) (fun _=>rfl) (by decide) (fun _ _=>rfl) (by intro h;cases h) (by intro h;cases h) (fun a v j l hE=>by
   simp only[qcs,qhu,qea,zI] at hE
   have:=qlo;have:=@q75.eq_1;have:=@zI;have:=@hE;have:=@q3r;have:=@QC;exact gA) (fun l=>by
   have:=qlo;have:=@q75.eq_1;have:=@zI;exact gA)
  exact h
def J3 (fu:Nat) (m1:List (ByteArray×(List ByteArray))):Option Bool:=anyO (fun(a:ByteArray) (v:List ByteArray)=>Option.bind (J4 fu a m1) fun(a2:Prod (List ByteArray) (List (Prod ByteArray (List ByteArray))))=>Option.bind (zA fu a2.1 a) fun(a3:Bool)=>if a3=Bool.true then some true else some false) m1
theorem q1Z (fu:Nat) (m1:List (ByteArray×(List ByteArray))):qk (J3 fu m1) (QM m1):=by
 unfold J3 QM
 refine qk.anyO (fun _ _=>?_) _
 repeat (first
  | with_reducible exact qk.refl _
  | with_reducible exact qk.none _
  | with_reducible apply q09
  | with_reducible apply QB
  | with_reducible refine qk.bind ?_ (fun _=>?_)
  | with_reducible refine qk.ite ?_ ?_
  | with_reducible refine qk.sum (fun _=>?_) (fun _=>?_)
  | with_reducible refine qk.lim (fun _=>?_))
def z7 (x0:List qa):Option Int:=if 60<((x0.length:Nat):Int) then some 2 else Option.bind (qT (zd x0 x0 ((x0.length:Nat):Int)) 0) fun(a:Sum Int Unit)=>Sum.elim (fun(a2:Int)=>some a2) (fun(a3:Unit)=>Option.bind (Qt x0) fun(a4:List (Prod ByteArray (List ByteArray)))=>Option.bind (Qh a4) fun(a5:Bool)=>if a5=Bool.true then some 5 else Option.bind (QM a4) fun(a6:Bool)=>if a6=Bool.true then some 14 else some 0) a
theorem Zx:∀(x0:List qa),ev 12 0 [rL 5 qb x0] []=(z7 x0).bind (fun(e:Int)=>some (rI e,[])):=
 fun x0=>by
  rw[qP qls qtS.2.2.2 qqm]
  have:=qlo;have:=@q2j;have:=@q0w;have:=@q1M;have:=@q1F;have:=@z7.eq_1;exact gA
theorem q2f:∀(x00_Code:ByteArray) (x00_Credits x00_Places x00_Slots0 x00_Slots1:Int) (x01_Code:ByteArray) (x01_Credits x01_Places x01_Slots0:Int) (x01_Needs0 x02_Code:ByteArray) (x02_Credits x02_Places:Int) (x03_Code:ByteArray) (x03_Credits x03_Places x03_Slots0:Int) (x03_Needs0 x03_Needs1:ByteArray) , ev 12 0 [R.c (C.d (D.sl 5 4 [D.str x00_Code,D.int .i64 x00_Credits,D.int .i64 x00_Places,D.sl 1 2 [D.int .i64 x00_Slots0,D.int .i64 x00_Slots1],D.sl 1 0 [],D.str x01_Code,D.int .i64 x01_Credits,D.int .i64 x01_Places,D.sl 1 1 [D.int .i64 x01_Slots0],D.sl 1 1 [D.str x01_Needs0],D.str x02_Code,D.int .i64 x02_Credits,D.int .i64 x02_Places,D.sl 1 0 [],D.sl 1 0 [],D.str x03_Code,D.int .i64 x03_Credits,D.int .i64 x03_Places,D.sl 1 1 [D.int .i64 x03_Slots0],D.sl 1 2 [D.str x03_Needs0,D.str x03_Needs1]]))] []=(z7 [(qa.mk x00_Code x00_Credits x00_Places [x00_Slots0,x00_Slots1] []),(qa.mk x01_Code x01_Credits x01_Places [x01_Slots0] [x01_Needs0]),(qa.mk x02_Code x02_Credits x02_Places [] []),(qa.mk x03_Code x03_Credits x03_Places [x03_Slots0] [x03_Needs0,x03_Needs1])]).bind (fun(e:Int)=>some (rI e,[])):=by
 intro x00_Code x00_Credits x00_Places x00_Slots0 x00_Slots1 x01_Code x01_Credits x01_Places x01_Slots0 x01_Needs0 x02_Code x02_Credits x02_Places x03_Code x03_Credits x03_Places x03_Slots0 x03_Needs0 x03_Needs1;have h:=Zx [(qa.mk x00_Code x00_Credits x00_Places [x00_Slots0,x00_Slots1] []),(qa.mk x01_Code x01_Credits x01_Places [x01_Slots0] [x01_Needs0]),(qa.mk x02_Code x02_Credits x02_Places [] []),(qa.mk x03_Code x03_Credits x03_Places [x03_Slots0] [x03_Needs0,x03_Needs1])]
 first
  | exact h
  | (simp only[rL,dL,bR,bZ,Nat.reduceAdd] at h;exact h)
theorem q2o:∀(x00_Code:ByteArray) (x00_Credits x00_Places x00_Slots0 x00_Slots1:Int) (x00_Needs0 x01_Code:ByteArray) (x01_Credits x01_Places x01_Slots0:Int) (x01_Needs0 x02_Code:ByteArray) (x02_Credits x02_Places:Int) (x03_Code:ByteArray) (x03_Credits x03_Places x03_Slots0:Int) (x03_Needs0 x03_Needs1:ByteArray) , ev 12 0 [R.c (C.d (D.sl 5 4 [D.str x00_Code,D.int .i64 x00_Credits,D.int .i64 x00_Places,D.sl 1 2 [D.int .i64 x00_Slots0,D.int .i64 x00_Slots1],D.sl 1 1 [D.str x00_Needs0],D.str x01_Code,D.int .i64 x01_Credits,D.int .i64 x01_Places,D.sl 1 1 [D.int .i64 x01_Slots0],D.sl 1 1 [D.str x01_Needs0],D.str x02_Code,D.int .i64 x02_Credits,D.int .i64 x02_Places,D.sl 1 0 [],D.sl 1 0 [],D.str x03_Code,D.int .i64 x03_Credits,D.int .i64 x03_Places,D.sl 1 1 [D.int .i64 x03_Slots0],D.sl 1 2 [D.str x03_Needs0,D.str x03_Needs1]]))] []=(z7 [(qa.mk x00_Code x00_Credits x00_Places [x00_Slots0,x00_Slots1] [x00_Needs0]),(qa.mk x01_Code x01_Credits x01_Places [x01_Slots0] [x01_Needs0]),(qa.mk x02_Code x02_Credits x02_Places [] []),(qa.mk x03_Code x03_Credits x03_Places [x03_Slots0] [x03_Needs0,x03_Needs1])]).bind (fun(e:Int)=>some (rI e,[])):=by
 intro x00_Code x00_Credits x00_Places x00_Slots0 x00_Slots1 x00_Needs0 x01_Code x01_Credits x01_Places x01_Slots0 x01_Needs0 x02_Code x02_Credits x02_Places x03_Code x03_Credits x03_Places x03_Slots0 x03_Needs0 x03_Needs1;have h:=Zx [(qa.mk x00_Code x00_Credits x00_Places [x00_Slots0,x00_Slots1] [x00_Needs0]),(qa.mk x01_Code x01_Credits x01_Places [x01_Slots0] [x01_Needs0]),(qa.mk x02_Code x02_Credits x02_Places [] []),(qa.mk x03_Code x03_Credits x03_Places [x03_Slots0] [x03_Needs0,x03_Needs1])]
 first
  | exact h
  | (simp only[rL,dL,bR,bZ,Nat.reduceAdd] at h;exact h)
theorem q2h:∀(x00_Code:ByteArray) (x00_Credits x00_Places x00_Slots0 x00_Slots1:Int) (x01_Code:ByteArray) (x01_Credits x01_Places x01_Slots0:Int) (x01_Needs0 x02_Code:ByteArray) (x02_Credits x02_Places:Int) (x02_Needs0 x03_Code:ByteArray) (x03_Credits x03_Places x03_Slots0:Int) (x03_Needs0 x03_Needs1:ByteArray) , ev 12 0 [R.c (C.d (D.sl 5 4 [D.str x00_Code,D.int .i64 x00_Credits,D.int .i64 x00_Places,D.sl 1 2 [D.int .i64 x00_Slots0,D.int .i64 x00_Slots1],D.sl 1 0 [],D.str x01_Code,D.int .i64 x01_Credits,D.int .i64 x01_Places,D.sl 1 1 [D.int .i64 x01_Slots0],D.sl 1 1 [D.str x01_Needs0],D.str x02_Code,D.int .i64 x02_Credits,D.int .i64 x02_Places,D.sl 1 0 [],D.sl 1 1 [D.str x02_Needs0],D.str x03_Code,D.int .i64 x03_Credits,D.int .i64 x03_Places,D.sl 1 1 [D.int .i64 x03_Slots0],D.sl 1 2 [D.str x03_Needs0,D.str x03_Needs1]]))] []=(z7 [(qa.mk x00_Code x00_Credits x00_Places [x00_Slots0,x00_Slots1] []),(qa.mk x01_Code x01_Credits x01_Places [x01_Slots0] [x01_Needs0]),(qa.mk x02_Code x02_Credits x02_Places [] [x02_Needs0]),(qa.mk x03_Code x03_Credits x03_Places [x03_Slots0] [x03_Needs0,x03_Needs1])]).bind (fun(e:Int)=>some (rI e,[])):=by
 intro x00_Code x00_Credits x00_Places x00_Slots0 x00_Slots1 x01_Code x01_Credits x01_Places x01_Slots0 x01_Needs0 x02_Code x02_Credits x02_Places x02_Needs0 x03_Code x03_Credits x03_Places x03_Slots0 x03_Needs0 x03_Needs1;have h:=Zx [(qa.mk x00_Code x00_Credits x00_Places [x00_Slots0,x00_Slots1] []),(qa.mk x01_Code x01_Credits x01_Places [x01_Slots0] [x01_Needs0]),(qa.mk x02_Code x02_Credits x02_Places [] [x02_Needs0]),(qa.mk x03_Code x03_Credits x03_Places [x03_Slots0] [x03_Needs0,x03_Needs1])]
 first
  | exact h
  | (simp only[rL,dL,bR,bZ,Nat.reduceAdd] at h;exact h)
def Qr (fu:Nat) (x0:List qa):Option Int:=if 60<((x0.length:Nat):Int) then some 2 else Option.bind (itT (Ju fu x0 x0 ((x0.length:Nat):Int)) fu 0) fun(a:Sum Int Unit)=>Sum.elim (fun(a2:Int)=>some a2) (fun(a3:Unit)=>Option.bind (Jz fu x0) fun(a4:List (Prod ByteArray (List ByteArray)))=>Option.bind (J0 fu a4) fun(a5:Bool)=>if a5=Bool.true then some 5 else Option.bind (J3 fu a4) fun(a6:Bool)=>if a6=Bool.true then some 14 else some 0) a
theorem q0A (fu:Nat) (x0:List qa):qk (Qr fu x0) (z7 x0):=by
 unfold Qr z7
 repeat (first
  | with_reducible exact qk.refl _
  | with_reducible exact qk.none _
  | with_reducible apply q2y
  | with_reducible apply q0I
  | with_reducible apply q1C
  | with_reducible apply q1Z
  | with_reducible refine qk.bind ?_ (fun _=>?_)
  | with_reducible refine qk.ite ?_ ?_
  | with_reducible refine qk.sum (fun _=>?_) (fun _=>?_)
  | with_reducible refine qk.lim (fun _=>?_))
theorem qvA:okL 23 qdA:=qW (qc qsm) (by kernel_rfl) (by kernel_rfl)
def qvN:=JA_ @qdA.eq_1 (JA_ @Try.f23.eq_1 @qsm)
def qs (l:List qa) (code:ByteArray):Option (List ByteArray):=Option.bind (Qt l) fun(a:List (Prod ByteArray (List ByteArray)))=>Option.bind (qO code a) fun(a2:Prod (List ByteArray) (List (Prod ByteArray (List ByteArray))))=>some a2.1
theorem q0L:∀(l:List qa) (code:ByteArray),ev 23 0 [rL 5 qb l,rS code] []=(qs l code).bind (fun(e:List ByteArray)=>some (rL 1 eS e,[])):=
 fun l code=>by
  rw[qP qsm qu6.2.2.2 qvA]
  have:=qvN;have:=@q0w;have:=@q08;have:=@qs.eq_1;exact gA
theorem q2w:∀(l0_Code:ByteArray) (l0_Credits l0_Places l0_Slots0 l0_Slots1:Int) (l1_Code:ByteArray) (l1_Credits l1_Places l1_Slots0:Int) (l1_Needs0 l2_Code:ByteArray) (l2_Credits l2_Places:Int) (l3_Code:ByteArray) (l3_Credits l3_Places l3_Slots0:Int) (l3_Needs0 l3_Needs1 code:ByteArray),ev 23 0 [R.c (C.d (D.sl 5 4 [D.str l0_Code,D.int .i64 l0_Credits,D.int .i64 l0_Places,D.sl 1 2 [D.int .i64 l0_Slots0,D.int .i64 l0_Slots1],D.sl 1 0 [],D.str l1_Code,D.int .i64 l1_Credits,D.int .i64 l1_Places,D.sl 1 1 [D.int .i64 l1_Slots0],D.sl 1 1 [D.str l1_Needs0],D.str l2_Code,D.int .i64 l2_Credits,D.int .i64 l2_Places,D.sl 1 0 [],D.sl 1 0 [],D.str l3_Code,D.int .i64 l3_Credits,D.int .i64 l3_Places,D.sl 1 1 [D.int .i64 l3_Slots0],D.sl 1 2 [D.str l3_Needs0,D.str l3_Needs1]])),rS code] []=(qs [(qa.mk l0_Code l0_Credits l0_Places [l0_Slots0,l0_Slots1] []),(qa.mk l1_Code l1_Credits l1_Places [l1_Slots0] [l1_Needs0]),(qa.mk l2_Code l2_Credits l2_Places [] []),(qa.mk l3_Code l3_Credits l3_Places [l3_Slots0] [l3_Needs0,l3_Needs1])] code).bind (fun(e:List ByteArray)=>some (rL 1 eS e,[])):=by
 intro l0_Code l0_Credits l0_Places l0_Slots0 l0_Slots1 l1_Code l1_Credits l1_Places l1_Slots0 l1_Needs0 l2_Code l2_Credits l2_Places l3_Code l3_Credits l3_Places l3_Slots0 l3_Needs0 l3_Needs1 code;have h:=q0L [(qa.mk l0_Code l0_Credits l0_Places [l0_Slots0,l0_Slots1] []),(qa.mk l1_Code l1_Credits l1_Places [l1_Slots0] [l1_Needs0]),(qa.mk l2_Code l2_Credits l2_Places [] []),(qa.mk l3_Code l3_Credits l3_Places [l3_Slots0] [l3_Needs0,l3_Needs1])] code
 first
  | exact h
  | (simp only[rL,dL,bR,bZ,Nat.reduceAdd] at h;exact h)
def qL (fu:Nat) (l:List qa) (code:ByteArray):Option (List ByteArray):=Option.bind (Jz fu l) fun(a:List (Prod ByteArray (List ByteArray)))=>Option.bind (J4 fu code a) fun(a2:Prod (List ByteArray) (List (Prod ByteArray (List ByteArray))))=>some a2.1
theorem q41 (fu:Nat) (l:List qa) (code:ByteArray):qk (qL fu l code) (qs l code):=by
 unfold qL qs
 repeat (first
  | with_reducible exact qk.refl _
  | with_reducible exact qk.none _
  | with_reducible apply q0I
  | with_reducible apply q09
  | with_reducible refine qk.bind ?_ (fun _=>?_)
  | with_reducible refine qk.ite ?_ ?_
  | with_reducible refine qk.sum (fun _=>?_) (fun _=>?_)
  | with_reducible refine qk.lim (fun _=>?_))
theorem qvc:okL 16 qam:=qW (qc qqb) (by kernel_rfl) (by kernel_rfl)
def qu8:=JA_ @qam.eq_1 (JA_ @Try.f16.eq_1 @qqb)
theorem qlD:lbO 16 4=qcU:=zE (qc qqb) rfl
theorem qm3:okL 16 qcU:=qR qvc (qxk (i:=0) (by kernel_rfl))
def zp (a:List ByteArray) (b:List ByteArray):Int→Option (Int⊕(Unit⊕Unit))|k=>if k<((a.length:Nat):Int) then if 0≤k∧k<((a.length:Nat):Int) then Option.bind a[Int.toNat k]? fun(a2:ByteArray)=>if 0≤k∧k<((b.length:Nat):Int) then Option.bind b[Int.toNat k]? fun(a3:ByteArray)=>if(!(ByteArray.toList a2==ByteArray.toList a3))=Bool.true then some (Sum.inr (Sum.inl ())) else some (Sum.inl (w64 (k+1))) else none else none else some (Sum.inr (Sum.inr ()))
theorem q0M:∀(a b:List ByteArray) (k:Int),XL2 evo 16 0 4 ⟨[(0,rL 1 eS a),(1,rL 1 eS b),(5,rI k)],[],0,26⟩=(qT (zp a b) k).bind (Sum.elim (fun(e:Unit)=>some (Exit.ret,⟨[(4,rB Bool.false)],[],0,26⟩)) (fun(e:Unit)=>some (Exit.exit 0,⟨[(4,R.any)],[],0,26⟩))):=
 fun a b k=>by
  revert k;exact q2s qlD qm3 (fun e=>by rcases e with _|_<;>exact⟨_,rfl,fun h=>by cases h⟩) fun x=>by
   have:=qu8;have:=@qcU.eq_1;have:=@zp.eq_1;exact gA
def qp (a:List ByteArray) (b:List ByteArray):Option Bool:=if(((a.length:Nat):Int) != ((b.length:Nat):Int))=Bool.true then some Bool.false else Option.bind (qT (zp a b) 0) fun(a2:Sum Unit Unit)=>Sum.elim (fun(a3:Unit)=>some Bool.false) (fun(a4:Unit)=>some Bool.true) a2
theorem Qm:∀(a b:List ByteArray),ev 16 0 [rL 1 eS a,rL 1 eS b] []=(qp a b).bind (fun(e:Bool)=>some (rB e,[])):=
 fun a b=>by
  rw[qP qqb qtQ.2.2.2 qvc]
  have:=qu8;have:=@q0M;have:=@qp.eq_1;exact gA
theorem q0O:∀(b0 b1 b2:ByteArray) (a:List ByteArray),ev 16 0 [rL 1 eS a,R.c (C.d (D.sl 1 3 [D.str b0,D.str b1,D.str b2]))] []=(qp a [b0,b1,b2]).bind (fun(e:Bool)=>some (rB e,[])):=by
 intro b0 b1 b2 a;have h:=Qm a [b0,b1,b2]
 first
  | exact h
  | (simp only[rL,dL,bR,bZ,Nat.reduceAdd] at h;exact h)
theorem q0Z:∀(b0 b1 b2 b3:ByteArray) (a:List ByteArray),ev 16 0 [rL 1 eS a,R.c (C.d (D.sl 1 4 [D.str b0,D.str b1,D.str b2,D.str b3]))] []=(qp a [b0,b1,b2,b3]).bind (fun(e:Bool)=>some (rB e,[])):=by
 intro b0 b1 b2 b3 a;have h:=Qm a [b0,b1,b2,b3]
 first
  | exact h
  | (simp only[rL,dL,bR,bZ,Nat.reduceAdd] at h;exact h)
def qU (fu:Nat) (a:List ByteArray) (b:List ByteArray):Option Bool:=if(((a.length:Nat):Int) != ((b.length:Nat):Int))=Bool.true then some Bool.false else Option.bind (itT (zp a b) fu 0) fun(a2:Sum Unit Unit)=>Sum.elim (fun(a3:Unit)=>some Bool.false) (fun(a4:Unit)=>some Bool.true) a2
theorem q2e (fu:Nat) (a b:List ByteArray):qk (qU fu a b) (qp a b):=by
 unfold qU qp
 repeat (first
  | with_reducible exact qk.refl _
  | with_reducible exact qk.none _
  | with_reducible refine qk.bind ?_ (fun _=>?_)
  | with_reducible refine qk.ite ?_ ?_
  | with_reducible refine qk.sum (fun _=>?_) (fun _=>?_)
  | with_reducible refine qk.lim (fun _=>?_))
theorem qvg:okL 17 q9d:=qW (qc qqc) (by kernel_rfl) (by kernel_rfl)
def qtB:=JA_ @q9d.eq_1 (JA_ @Try.f17.eq_1 @qqc)
theorem qoU:lbO 17 5=qbH:=zE (qc qqc) rfl
theorem qpD:okL 17 qbH:=qR qvg (qxk (i:=0) (by kernel_rfl))
def qD (s:List qa):Option Unit:=if s.length≤maxLen∧s.length*80≤140737488355328 then some () else none
theorem ZE:∀(s:List qa),ev 47 0 [rL 5 qb s] []=(qD s).bind (fun(e:Unit)=>some (rO 0 5 s.length,[(0,bR 35 5 qb s)])):=
 fun s=>by
  rw[qb7,quO.2.2.2]
  have:=@qD.eq_1;exact gA
theorem qrW:okL 48 q9U:=qW (qc qoQ) (by kernel_rfl) (by kernel_rfl)
def qq3:=JA_ @q9U.eq_1 (JA_ @Try.f48.eq_1 @qoQ)
theorem qhS:lbO 48 2=q9T:=zE (qc qoQ) rfl
theorem qhG:okL 48 q9T:=qR qrW (qxk (i:=0) (by kernel_rfl))
theorem qwl:okL 49 qev:=qW (qc qsl) (by kernel_rfl) (by kernel_rfl)
def qwn:=JA_ @qev.eq_1 (JA_ @Try.f49.eq_1 @qsl)
theorem qwX:okL 50 qf1:=qW (qc qtq) (by kernel_rfl) (by kernel_rfl)
def qvD:=JA_ @qf1.eq_1 (JA_ @Try.f50.eq_1 @qtq)
theorem qvV:okL 67 qeu:=qW (qc qt6) (by kernel_rfl) (by kernel_rfl)
def qvI:=JA_ @qeu.eq_1 (JA_ @Try.f67.eq_1 @qt6)
def QQ (c:ByteArray) (v:List ByteArray):Option Bool:=Option.bind (qm v c) fun(a:Bool)=>some (!a)
theorem q4a:∀(c:ByteArray) (v:List ByteArray),ev 67 1 [rS c,rP 0] [(0,B.blk 33 [dL 1 eS v])]=(QQ c v).bind (fun(e:Bool)=>some (rB e,[(0,B.blk 33 [dL 1 eS v])])):=
 fun c v=>by
  rw[qP qt6 quw.2.2.2 qvV]
  have:=qvI;have:=@QC;have:=@QQ.eq_1;exact gA
def q0l (fu:Nat) (c:ByteArray) (v:List ByteArray):Option Bool:=Option.bind (zA fu v c) fun(a:Bool)=>some (!a)
theorem q43 (fu:Nat) (c:ByteArray) (v:List ByteArray):qk (q0l fu c v) (QQ c v):=by
 unfold q0l QQ
 repeat (first
  | with_reducible exact qk.refl _
  | with_reducible exact qk.none _
  | with_reducible apply QB
  | with_reducible refine qk.bind ?_ (fun _=>?_)
  | with_reducible refine qk.ite ?_ ?_
  | with_reducible refine qk.sum (fun _=>?_) (fun _=>?_)
  | with_reducible refine qk.lim (fun _=>?_))
def qq (b0:List ByteArray) (s:List ByteArray) (t7:Int):Int→Option (Int⊕(Int⊕Unit))|t8=>if t8<t7 then if 0≤t8∧t8<((s.length:Nat):Int) then Option.bind s[Int.toNat t8]? fun(a:ByteArray)=>Option.bind (QQ a b0) fun(a2:Bool)=>if a2=Bool.true then some (Sum.inr (Sum.inl t8)) else some (Sum.inl (w64 (t8+1))) else none else some (Sum.inr (Sum.inr ()))
theorem Zo:∀(b0 s:List ByteArray) (t7 t8:Int),XL2 evo 61 1 2 ⟨[(0,rL 1 eS s),(1,R.c (C.fn 67 [] [dP 0])),(7,rI t7),(8,rI t8)],[(0,B.blk 33 [dL 1 eS b0])],1,19⟩=(qT (qq b0 s t7) t8).bind (Sum.elim (fun(e:Int)=>some (Exit.ret,⟨[(4,rI e)],[(0,B.blk 33 [dL 1 eS b0])],1,19⟩)) (fun(e:Unit)=>some (Exit.exit 0,⟨[(4,R.any)],[(0,B.blk 33 [dL 1 eS b0])],1,19⟩))):=
 fun b0 s t7 t8=>by
  revert t8;exact q2s qia qi0 (fun e=>by rcases e with _|_<;>exact⟨_,rfl,fun h=>by cases h⟩) fun x=>by
   have:=qqp;have:=@q9W.eq_1;have:=@q4a;have:=@qq.eq_1;exact gA
def zH (fu:Nat) (b0:List ByteArray) (s:List ByteArray) (t7:Int):Int→Option (Int⊕(Int⊕Unit))|t8=>if t8<t7 then if 0≤t8∧t8<((s.length:Nat):Int) then Option.bind s[Int.toNat t8]? fun(a:ByteArray)=>Option.bind (q0l fu a b0) fun(a2:Bool)=>if a2=Bool.true then some (Sum.inr (Sum.inl t8)) else some (Sum.inl (w64 (t8+1))) else none else some (Sum.inr (Sum.inr ()))
theorem Zn (fu:Nat) (b0 s:List ByteArray) (t7:Int):∀x,qk (zH fu b0 s t7 x) (qq b0 s t7 x):=by
 rintro t8
 unfold zH qq
 try dsimp only
 repeat (first
  | with_reducible exact qk.refl _
  | with_reducible exact qk.none _
  | with_reducible apply q43
  | with_reducible refine qk.bind ?_ (fun _=>?_)
  | with_reducible refine qk.ite ?_ ?_
  | with_reducible refine qk.sum (fun _=>?_) (fun _=>?_)
  | with_reducible refine qk.lim (fun _=>?_))
def qC (s:List ByteArray) (b0:List ByteArray):Option Int:=Option.bind (qT (qq b0 s ((s.length:Nat):Int)) 0) fun(a:Sum Int Unit)=>Sum.elim (fun(a2:Int)=>some a2) (fun(a3:Unit)=>some (-1)) a
theorem ZI:∀(s b0:List ByteArray),ev 61 1 [rL 1 eS s,R.c (C.fn 67 [] [dP 0])] [(0,B.blk 33 [dL 1 eS b0])]=(qC s b0).bind (fun(e:Int)=>some (rI e,[(0,B.blk 33 [dL 1 eS b0])])):=
 fun s b0=>by
  rw[qP qpv qqP.2.2.2 qsq]
  have:=qqp;have:=@Zo;have:=@qC.eq_1;exact gA
def zZ (fu:Nat) (s:List ByteArray) (b0:List ByteArray):Option Int:=Option.bind (itT (zH fu b0 s ((s.length:Nat):Int)) fu 0) fun(a:Sum Int Unit)=>Sum.elim (fun(a2:Int)=>some a2) (fun(a3:Unit)=>some (-1)) a
theorem ZH (fu:Nat) (s b0:List ByteArray):qk (zZ fu s b0) (qC s b0):=by
 unfold zZ qC
 repeat (first
  | with_reducible exact qk.refl _
  | with_reducible exact qk.none _
  | with_reducible apply Zn
  | with_reducible refine qk.bind ?_ (fun _=>?_)
  | with_reducible refine qk.ite ?_ ?_
  | with_reducible refine qk.sum (fun _=>?_) (fun _=>?_)
  | with_reducible refine qk.lim (fun _=>?_))
def qy (s:List ByteArray) (b0:List ByteArray):Option Bool:=Option.bind (qC s b0) fun(a:Int)=>some (decide (0≤a))
theorem Zp:∀(s b0:List ByteArray),ev 40 1 [rL 1 eS s,R.c (C.fn 67 [] [dP 0])] [(0,B.blk 33 [dL 1 eS b0])]=(qy s b0).bind (fun(e:Bool)=>some (rB e,[(0,B.blk 33 [dL 1 eS b0])])):=
 fun s b0=>by
  rw[qP qqr qr0.2.2.2 qu3]
  have:=qv0;have:=@ZI;have:=@qy.eq_1;exact gA
def zF (fu:Nat) (s:List ByteArray) (b0:List ByteArray):Option Bool:=Option.bind (zZ fu s b0) fun(a:Int)=>some (decide (0≤a))
theorem Zm (fu:Nat) (s b0:List ByteArray):qk (zF fu s b0) (qy s b0):=by
 unfold zF qy
 repeat (first
  | with_reducible exact qk.refl _
  | with_reducible exact qk.none _
  | with_reducible apply ZH
  | with_reducible refine qk.bind ?_ (fun _=>?_)
  | with_reducible refine qk.ite ?_ ?_
  | with_reducible refine qk.sum (fun _=>?_) (fun _=>?_)
  | with_reducible refine qk.lim (fun _=>?_))
def Z1 (l:List ByteArray) (in0:List ByteArray):Option Bool:=Option.bind (qy l in0) fun(a:Bool)=>some (!a)
theorem q1W:∀(l in0:List ByteArray),ev 50 0 [rL 1 eS l,rL 1 eS in0] []=(Z1 l in0).bind (fun(e:Bool)=>some (rB e,[])):=
 fun l in0=>by
  rw[qP qtq qv6.2.2.2 qwX]
  have:=qvD;have:=@Zp;have:=@Z1.eq_1;exact gA
def q0c (fu:Nat) (l:List ByteArray) (in0:List ByteArray):Option Bool:=Option.bind (zF fu l in0) fun(a:Bool)=>some (!a)
theorem q1x (fu:Nat) (l in0:List ByteArray):qk (q0c fu l in0) (Z1 l in0):=by
 unfold q0c Z1
 repeat (first
  | with_reducible exact qk.refl _
  | with_reducible exact qk.none _
  | with_reducible apply Zm
  | with_reducible refine qk.bind ?_ (fun _=>?_)
  | with_reducible refine qk.ite ?_ ?_
  | with_reducible refine qk.sum (fun _=>?_) (fun _=>?_)
  | with_reducible refine qk.lim (fun _=>?_))
def Qi (o:qa) (w1:List ByteArray):Option Bool:=Option.bind (Z1 o.Needs w1) fun(a:Bool)=>some a
theorem q2U:∀(o_Code:ByteArray) (o_Credits o_Places:Int) (o_Slots:List Int) (o_Needs w1:List ByteArray) (w1_len:Nat),w1_len=w1.length→ev 49 1 [R.agg [dS o_Code,dI o_Credits,dI o_Places,dL 1 eI o_Slots,dL 1 eS o_Needs],rP 0] [(0,B.blk 33 [dO 1 1 w1_len]),(1,bR 9 1 eS w1)]=(Qi (qa.mk o_Code o_Credits o_Places o_Slots o_Needs) w1).bind (fun(e:Bool)=>some (rB e,[(0,B.blk 33 [dO 1 1 w1.length]),(1,bR 9 1 eS w1)])):=
 by
 intro o_Code o_Credits o_Places o_Slots o_Needs w1 w1_len h0
 subst h0
 rw[qP qsl qtJ.2.2.2 qwl]
 have:=qwn;have:=@q1W;have:=@Qi.eq_1;exact gA
def JK (fu:Nat) (o:qa) (w1:List ByteArray):Option Bool:=Option.bind (q0c fu o.Needs w1) fun(a:Bool)=>some a
theorem q2R (fu:Nat) (o:qa) (w1:List ByteArray):qk (JK fu o w1) (Qi o w1):=by
 unfold JK Qi
 repeat (first
  | with_reducible exact qk.refl _
  | with_reducible exact qk.none _
  | with_reducible apply q1x
  | with_reducible refine qk.bind ?_ (fun _=>?_)
  | with_reducible refine qk.ite ?_ ?_
  | with_reducible refine qk.sum (fun _=>?_) (fun _=>?_)
  | with_reducible refine qk.lim (fun _=>?_))
def qj (w1:List ByteArray) (s:List qa) (t7:Int):Int→Option (Int⊕(Int⊕Unit))|t8=>if t8<t7 then if 0≤t8∧t8<((s.length:Nat):Int) then Option.bind s[Int.toNat t8]? fun(a:qa)=>Option.bind (Qi a w1) fun(a2:Bool)=>if a2=Bool.true then some (Sum.inr (Sum.inl t8)) else some (Sum.inl (w64 (t8+1))) else none else some (Sum.inr (Sum.inr ()))
theorem QZ:∀(w1:List ByteArray) (s:List qa) (t7 t8:Int) (w1_len:Nat),w1_len=w1.length→XL2 evo 48 1 2 ⟨[(0,rL 5 qb s),(1,R.c (C.fn 49 [] [dP 0])),(7,rI t7),(8,rI t8)],[(0,B.blk 33 [dO 1 1 w1_len]),(1,bR 9 1 eS w1)],2,19⟩=(qT (qj w1 s t7) t8).bind (Sum.elim (fun(e:Int)=>some (Exit.ret,⟨[(4,rI e)],[(0,B.blk 33 [dO 1 1 w1.length]),(1,bR 9 1 eS w1)],2,19⟩)) (fun(e:Unit)=>some (Exit.exit 0,⟨[(4,R.any)],[(0,B.blk 33 [dO 1 1 w1.length]),(1,bR 9 1 eS w1)],2,19⟩))):=
 by
 intro w1 s t7 t8 w1_len h0
 subst h0
 revert t8;exact q2s qhS qhG (fun e=>by rcases e with _|_<;>exact⟨_,rfl,fun h=>by cases h⟩) fun x=>by
  have:=qq3;have:=@q9T.eq_1;have:=@q2U;have:=@qj.eq_1;exact gA
def zq (fu:Nat) (w1:List ByteArray) (s:List qa) (t7:Int):Int→Option (Int⊕(Int⊕Unit))|t8=>if t8<t7 then if 0≤t8∧t8<((s.length:Nat):Int) then Option.bind s[Int.toNat t8]? fun(a:qa)=>Option.bind (JK fu a w1) fun(a2:Bool)=>if a2=Bool.true then some (Sum.inr (Sum.inl t8)) else some (Sum.inl (w64 (t8+1))) else none else some (Sum.inr (Sum.inr ()))
theorem Z0 (fu:Nat) (w1:List ByteArray) (s:List qa) (t7:Int):∀x,qk (zq fu w1 s t7 x) (qj w1 s t7 x):=by
 rintro t8
 unfold zq qj
 try dsimp only
 repeat (first
  | with_reducible exact qk.refl _
  | with_reducible exact qk.none _
  | with_reducible apply q2R
  | with_reducible refine qk.bind ?_ (fun _=>?_)
  | with_reducible refine qk.ite ?_ ?_
  | with_reducible refine qk.sum (fun _=>?_) (fun _=>?_)
  | with_reducible refine qk.lim (fun _=>?_))
def qt (s:List qa) (w1:List ByteArray):Option Int:=Option.bind (qT (qj w1 s ((s.length:Nat):Int)) 0) fun(a:Sum Int Unit)=>Sum.elim (fun(a2:Int)=>some a2) (fun(a3:Unit)=>some (-1)) a
theorem Zj:∀(s:List qa) (w1:List ByteArray) (w1_len:Nat),w1_len=w1.length→ev 48 1 [rL 5 qb s,R.c (C.fn 49 [] [dP 0])] [(0,B.blk 33 [dO 1 1 w1_len]),(1,bR 9 1 eS w1)]=(qt s w1).bind (fun(e:Int)=>some (rI e,[(0,B.blk 33 [dO 1 1 w1.length]),(1,bR 9 1 eS w1)])):=
 by
 intro s w1 w1_len h0
 subst h0
 rw[qP qoQ qsS.2.2.2 qrW]
 have:=qq3;have:=@QZ;have:=@qt.eq_1;exact gA
def zB (fu:Nat) (s:List qa) (w1:List ByteArray):Option Int:=Option.bind (itT (zq fu w1 s ((s.length:Nat):Int)) fu 0) fun(a:Sum Int Unit)=>Sum.elim (fun(a2:Int)=>some a2) (fun(a3:Unit)=>some (-1)) a
theorem Zh (fu:Nat) (s:List qa) (w1:List ByteArray):qk (zB fu s w1) (qt s w1):=by
 unfold zB qt
 repeat (first
  | with_reducible exact qk.refl _
  | with_reducible exact qk.none _
  | with_reducible apply Z0
  | with_reducible refine qk.bind ?_ (fun _=>?_)
  | with_reducible refine qk.ite ?_ ?_
  | with_reducible refine qk.sum (fun _=>?_) (fun _=>?_)
  | with_reducible refine qk.lim (fun _=>?_))
def qA (i:Int) (j:Int) (s:List qa):Option (List qa):=if 0≤i∧j=i+1∧i<((s.length:Nat):Int) then some (@List.eraseIdx qa s (Int.toNat i)) else none
theorem Zt:∀(i j:Int) (s:List qa) (s_len:Nat),s_len=s.length→ev 51 0 [rO 0 5 s_len,rI i,rI j] [(0,bR 35 5 qb s)]=(qA i j s).bind (fun(e:List qa)=>some (rO 0 5 e.length,[(0,bR 35 5 qb e)])):=
 by
 intro i j s s_len h0
 subst h0
 rw[qb7,qvh.2.2.2]
 have:=@qA.eq_1;exact gA
def zW:(List ByteArray×List qa)→Option ((List ByteArray×List qa)⊕(List ByteArray))|(w1,left)=>if 0<((left.length:Nat):Int) then Option.bind (qt left w1) fun(a:Int)=>if List.all (List.map C.d (List.flatMap eS w1)) C.scl=Bool.true then if 0≤a∧a<((left.length:Nat):Int) then Option.bind left[Int.toNat a]? fun(a2:qa)=>if w1.length+1≤maxLen∧(w1.length+1)*16≤140737488355328 then Option.bind (qA a (w64 (a+1)) left) fun(a3:List qa)=>some (Sum.inl (w1++[a2.Code],a3)) else none else none else none else some (Sum.inr w1)
theorem q2m:∀(w1:List ByteArray) (left:List qa) (left_len w1_len:Nat),left_len=left.length→w1_len=w1.length→XL2 evo 17 0 5 ⟨[(3,rP 0),(4,rO 2 5 left_len)],[(0,B.blk 33 [dO 1 1 w1_len]),(1,bR 9 1 eS w1),(2,bR 35 5 qb left)],3,31⟩=(qT zW (w1,left)).bind (fun(e:List ByteArray)=>some (Exit.exit 0,⟨[(3,rP 0)],[(0,B.blk 33 [dO 1 1 e.length]),(1,bR 9 1 eS e)],2,31⟩)):=
 by
 intro w1 left left_len w1_len h0 h1
 subst h0 h1
 revert left;revert w1;exact qie qoU qpD (fun e=>by exact⟨_,rfl,fun h=>by cases h⟩) fun w1 left=>by
  have:=qtB;have:=@qbH.eq_1;have:=@Zj;have:=@Zt;have:=@zW.eq_1;exact gA
theorem q0U:∀  (left:List qa) (left_len:Nat),left_len=left.length→XL2 evo 17 0 5 ⟨[(3,rP 0),(4,rO 2 5 left_len)],[(0,B.blk 33 [dO 1 1 0]),(1,B.row 9 1 []),(2,bR 35 5 qb left)],3,31⟩=(qT zW ([],left)).bind (fun(e:List ByteArray)=>some (Exit.exit 0,⟨[(3,rP 0)],[(0,B.blk 33 [dO 1 1 e.length]),(1,bR 9 1 eS e)],2,31⟩)):=by
 intro left left_len h0;subst h0;have h:=q2m [] left _ _ rfl rfl
 first
  | exact h
  | (simp only[rL,dL,bR,bZ,Nat.reduceAdd] at h;exact h)
def Jr (fu:Nat):(List ByteArray×List qa)→Option ((List ByteArray×List qa)⊕(List ByteArray))|(w1,left)=>if 0<((left.length:Nat):Int) then Option.bind (zB fu left w1) fun(a:Int)=>if List.all (List.map C.d (List.flatMap eS w1)) C.scl=Bool.true then if 0≤a∧a<((left.length:Nat):Int) then Option.bind left[Int.toNat a]? fun(a2:qa)=>if w1.length+1≤maxLen∧(w1.length+1)*16≤140737488355328 then Option.bind (qA a (w64 (a+1)) left) fun(a3:List qa)=>some (Sum.inl (w1++[a2.Code],a3)) else none else none else none else some (Sum.inr w1)
theorem q2p (fu:Nat):∀x,qk (Jr fu  x) (zW  x):=by
 rintro⟨w1,left⟩
 unfold Jr zW
 try dsimp only
 repeat (first
  | with_reducible exact qk.refl _
  | with_reducible exact qk.none _
  | with_reducible apply Zh
  | with_reducible refine qk.bind ?_ (fun _=>?_)
  | with_reducible refine qk.ite ?_ ?_
  | with_reducible refine qk.sum (fun _=>?_) (fun _=>?_)
  | with_reducible refine qk.lim (fun _=>?_))
def zo (l:List qa):Option (List ByteArray):=Option.bind (z7 l) fun(a:Int)=>if(a != 0)=Bool.true then some [] else Option.bind (qD l) fun(a2:Unit)=>Option.bind (qT zW ([],l)) fun(a3:List ByteArray)=>some a3
theorem q0z:∀(l:List qa),ev 17 0 [rL 5 qb l] []=(zo l).bind (fun(e:List ByteArray)=>some (rL 1 eS e,[])):=
 fun l=>by
  rw[qP qqc qtL.2.2.2 qvg]
  have:=qtB;have:=@Zx;have:=@ZE;have:=@q0U;have:=@zo.eq_1;exact gA
theorem q2C:∀(l0_Code:ByteArray) (l0_Credits l0_Places l0_Slots0 l0_Slots1:Int) (l1_Code:ByteArray) (l1_Credits l1_Places l1_Slots0:Int) (l1_Needs0 l2_Code:ByteArray) (l2_Credits l2_Places:Int) (l3_Code:ByteArray) (l3_Credits l3_Places l3_Slots0:Int) (l3_Needs0 l3_Needs1:ByteArray) , ev 17 0 [R.c (C.d (D.sl 5 4 [D.str l0_Code,D.int .i64 l0_Credits,D.int .i64 l0_Places,D.sl 1 2 [D.int .i64 l0_Slots0,D.int .i64 l0_Slots1],D.sl 1 0 [],D.str l1_Code,D.int .i64 l1_Credits,D.int .i64 l1_Places,D.sl 1 1 [D.int .i64 l1_Slots0],D.sl 1 1 [D.str l1_Needs0],D.str l2_Code,D.int .i64 l2_Credits,D.int .i64 l2_Places,D.sl 1 0 [],D.sl 1 0 [],D.str l3_Code,D.int .i64 l3_Credits,D.int .i64 l3_Places,D.sl 1 1 [D.int .i64 l3_Slots0],D.sl 1 2 [D.str l3_Needs0,D.str l3_Needs1]]))] []=(zo [(qa.mk l0_Code l0_Credits l0_Places [l0_Slots0,l0_Slots1] []),(qa.mk l1_Code l1_Credits l1_Places [l1_Slots0] [l1_Needs0]),(qa.mk l2_Code l2_Credits l2_Places [] []),(qa.mk l3_Code l3_Credits l3_Places [l3_Slots0] [l3_Needs0,l3_Needs1])]).bind (fun(e:List ByteArray)=>some (rL 1 eS e,[])):=by
 intro l0_Code l0_Credits l0_Places l0_Slots0 l0_Slots1 l1_Code l1_Credits l1_Places l1_Slots0 l1_Needs0 l2_Code l2_Credits l2_Places l3_Code l3_Credits l3_Places l3_Slots0 l3_Needs0 l3_Needs1;have h:=q0z [(qa.mk l0_Code l0_Credits l0_Places [l0_Slots0,l0_Slots1] []),(qa.mk l1_Code l1_Credits l1_Places [l1_Slots0] [l1_Needs0]),(qa.mk l2_Code l2_Credits l2_Places [] []),(qa.mk l3_Code l3_Credits l3_Places [l3_Slots0] [l3_Needs0,l3_Needs1])]
 first
  | exact h
  | (simp only[rL,dL,bR,bZ,Nat.reduceAdd] at h;exact h)
def QP (fu:Nat) (l:List qa):Option (List ByteArray):=Option.bind (Qr fu l) fun(a:Int)=>if(a != 0)=Bool.true then some [] else Option.bind (qD l) fun(a2:Unit)=>Option.bind (itT (Jr fu) fu ([],l)) fun(a3:List ByteArray)=>some a3
theorem q47 (fu:Nat) (l:List qa):qk (QP fu l) (zo l):=by
 unfold QP zo
 repeat (first
  | with_reducible exact qk.refl _
  | with_reducible exact qk.none _
  | with_reducible apply q0A
  | with_reducible apply q2p
  | with_reducible refine qk.bind ?_ (fun _=>?_)
  | with_reducible refine qk.ite ?_ ?_
  | with_reducible refine qk.sum (fun _=>?_) (fun _=>?_)
  | with_reducible refine qk.lim (fun _=>?_))
theorem qvY:okL 25 qdw:=qW (qc qrf) (by kernel_rfl) (by kernel_rfl)
def qvM:=JA_ @qdw.eq_1 (JA_ @Try.f25.eq_1 @qrf)
theorem qvp:okL 20 qcK:=qW (qc qqH) (by kernel_rfl) (by kernel_rfl)
def qxa:=JA_ @qcK.eq_1 (JA_ @Try.f20.eq_1 @qqH)
theorem qw2:okL 52 qdJ:=qW (qc qsX) (by kernel_rfl) (by kernel_rfl)
def qvH:=JA_ @qdJ.eq_1 (JA_ @Try.f52.eq_1 @qsX)
def J8 (o:qa) (v:ByteArray):Option Bool:=
 some (ByteArray.toList o.Code==ByteArray.toList v)
def QV (o:qa) (v:ByteArray):Bool:=
 ByteArray.toList o.Code==ByteArray.toList v
theorem q2Z (o:qa) (v:ByteArray):J8 o v=some (QV o v):=by
 unfold J8 QV
 simp only[q2b]
theorem q3k:∀(o_Code:ByteArray) (o_Credits o_Places:Int) (o_Slots:List Int) (o_Needs:List ByteArray) (v:ByteArray),ev 52 1 [R.agg [dS o_Code,dI o_Credits,dI o_Places,dL 1 eI o_Slots,dL 1 eS o_Needs],rP 0] [(0,B.blk 9 [dS v])]=some (rB (QV (qa.mk o_Code o_Credits o_Places o_Slots o_Needs) v),[(0,B.blk 9 [dS v])]):=
 fun o_Code o_Credits o_Places o_Slots o_Needs v=>by
  have h:ev 52 1 [R.agg [dS o_Code,dI o_Credits,dI o_Places,dL 1 eI o_Slots,dL 1 eS o_Needs],rP 0] [(0,B.blk 9 [dS v])]=(J8 (qa.mk o_Code o_Credits o_Places o_Slots o_Needs) v).bind (fun(e:Bool)=>some (rB e,[(0,B.blk 9 [dS v])])):=by
   rw[qP qsX quT.2.2.2 qw2]
   have:=qvH;have:=@J8.eq_1;exact gA
  rw[q2Z] at h
  exact h
def qn (b0:ByteArray) (s:List qa) (t7:Int):Int→Option (Int⊕(Int⊕Unit))|t8=>if t8<t7 then if 0≤t8∧t8<((s.length:Nat):Int) then Option.bind s[Int.toNat t8]? fun(a:qa)=>if QV a b0=Bool.true then some (Sum.inr (Sum.inl t8)) else some (Sum.inl (w64 (t8+1))) else none else some (Sum.inr (Sum.inr ()))
theorem QS:∀(b0:ByteArray) (s:List qa) (t7 t8:Int),XL2 evo 48 1 2 ⟨[(0,rL 5 qb s),(1,R.c (C.fn 52 [] [dP 0])),(7,rI t7),(8,rI t8)],[(0,B.blk 9 [dS b0])],1,19⟩=(qT (qn b0 s t7) t8).bind (Sum.elim (fun(e:Int)=>some (Exit.ret,⟨[(4,rI e)],[(0,B.blk 9 [dS b0])],1,19⟩)) (fun(e:Unit)=>some (Exit.exit 0,⟨[(4,R.any)],[(0,B.blk 9 [dS b0])],1,19⟩))):=
 fun b0 s t7 t8=>by
  revert t8;exact q2s qhS qhG (fun e=>by rcases e with _|_<;>exact⟨_,rfl,fun h=>by cases h⟩) fun x=>by
   have:=qq3;have:=@q9T.eq_1;have:=@q3k;have:=@qn.eq_1;exact gA
def qv (s:List qa) (b0:ByteArray):Option Int:=Option.bind (qT (qn b0 s ((s.length:Nat):Int)) 0) fun(a:Sum Int Unit)=>Sum.elim (fun(a2:Int)=>some a2) (fun(a3:Unit)=>some (-1)) a
theorem Z6:∀(s:List qa) (b0:ByteArray),ev 48 1 [rL 5 qb s,R.c (C.fn 52 [] [dP 0])] [(0,B.blk 9 [dS b0])]=(qv s b0).bind (fun(e:Int)=>some (rI e,[(0,B.blk 9 [dS b0])])):=
 fun s b0=>by
  rw[qP qoQ qsS.2.2.2 qrW]
  have:=qq3;have:=@QS;have:=@qv.eq_1;exact gA
def zu (fu:Nat) (s:List qa) (b0:ByteArray):Option Int:=Option.bind (itT (qn b0 s ((s.length:Nat):Int)) fu 0) fun(a:Sum Int Unit)=>Sum.elim (fun(a2:Int)=>some a2) (fun(a3:Unit)=>some (-1)) a
theorem Z2 (fu:Nat) (s:List qa) (b0:ByteArray):qk (zu fu s b0) (qv s b0):=by
 unfold zu qv
 repeat (first
  | with_reducible exact qk.refl _
  | with_reducible exact qk.none _
  | with_reducible refine qk.bind ?_ (fun _=>?_)
  | with_reducible refine qk.ite ?_ ?_
  | with_reducible refine qk.sum (fun _=>?_) (fun _=>?_)
  | with_reducible refine qk.lim (fun _=>?_))
theorem qwB:okL 53 qc5:=qW (qc qsn) (by kernel_rfl) (by kernel_rfl)
def qxc:=JA_ @qc5.eq_1 (JA_ @Try.f53.eq_1 @qsn)
def QA (s:List Int):Option Unit:=if s.length≤maxLen∧s.length*8≤140737488355328 then some () else none
theorem q0g:∀(s:List Int),ev 68 0 [rL 1 eI s] []=(QA s).bind (fun(e:Unit)=>some (rL 1 eI s,[])):=
 fun s=>by
  rw[qb7,qu1.2.2.2]
  have:=@QA.eq_1;exact gA
def zY (s:List ByteArray):Option Unit:=if s.length≤maxLen∧s.length*16≤140737488355328 then some () else none
theorem Jk:∀(s:List ByteArray),ev 69 0 [rL 1 eS s] []=(zY s).bind (fun(e:Unit)=>some (rL 1 eS s,[])):=
 fun s=>by
  rw[qb7,qua.2.2.2]
  have:=@zY.eq_1;exact gA
def Zf (o:qa):Option Unit:=Option.bind (QA o.Slots) fun(a:Unit)=>Option.bind (zY o.Needs) fun(a2:Unit)=>some ()
theorem q4n:∀(o_Code:ByteArray) (o_Credits o_Places:Int) (o_Slots:List Int) (o_Needs:List ByteArray),ev 53 0 [R.agg [dS o_Code,dI o_Credits,dI o_Places,dL 1 eI o_Slots,dL 1 eS o_Needs]] []=(Zf (qa.mk o_Code o_Credits o_Places o_Slots o_Needs)).bind (fun(e:Unit)=>some (R.agg [dS o_Code,dI o_Credits,dI o_Places,dL 1 eI o_Slots,dL 1 eS o_Needs],[])):=
 fun o_Code o_Credits o_Places o_Slots o_Needs=>by
  rw[qP qsn qv9.2.2.2 qwB]
  have:=qxc;have:=@q0g;have:=@Jk;have:=@Zf.eq_1;exact gA
def QI (l:List qa) (code:ByteArray):Option (qa×Bool):=Option.bind (qv l code) fun(a:Int)=>if a<0 then some (qa.mk (ByteArray.mk (List.toArray [])) 0 0 [] [],Bool.false) else if 0≤a∧a<((l.length:Nat):Int) then Option.bind l[Int.toNat a]? fun(a2:qa)=>Option.bind (Zf a2) fun(a3:Unit)=>some (a2,Bool.true) else none
theorem q19:∀(l:List qa) (code:ByteArray),ev 20 0 [rL 5 qb l,rS code] []=(QI l code).bind (fun(e:qa×Bool)=>some (R.tup [R.agg [dS e.1.Code,dI e.1.Credits,dI e.1.Places,dL 1 eI e.1.Slots,dL 1 eS e.1.Needs],rB e.2],[])):=
 fun l code=>by
  rw[qP qqH qtN.2.2.2 qvp]
  have:=qxa;have:=@Z6;have:=@q4n;have:=@QI.eq_1;exact gA
def q0T (fu:Nat) (l:List qa) (code:ByteArray):Option (qa×Bool):=Option.bind (zu fu l code) fun(a:Int)=>if a<0 then some (qa.mk (ByteArray.mk (List.toArray [])) 0 0 [] [],Bool.false) else if 0≤a∧a<((l.length:Nat):Int) then Option.bind l[Int.toNat a]? fun(a2:qa)=>Option.bind (Zf a2) fun(a3:Unit)=>some (a2,Bool.true) else none
theorem q4B (fu:Nat) (l:List qa) (code:ByteArray):qk (q0T fu l code) (QI l code):=by
 unfold q0T QI
 repeat (first
  | with_reducible exact qk.refl _
  | with_reducible exact qk.none _
  | with_reducible apply Z2
  | with_reducible refine qk.bind ?_ (fun _=>?_)
  | with_reducible refine qk.ite ?_ ?_
  | with_reducible refine qk.sum (fun _=>?_) (fun _=>?_)
  | with_reducible refine qk.lim (fun _=>?_))
def qd (l:List qa) (code:ByteArray) (has:List ByteArray):Option Bool:=Option.bind (QI l code) fun(a:Prod qa Bool)=>if a.2=Bool.true then Option.bind (Z1 a.1.Needs has) fun(e0:Bool)=>some e0 else some Bool.false
theorem J5:∀(l:List qa) (code:ByteArray) (has:List ByteArray),ev 25 0 [rL 5 qb l,rS code,rL 1 eS has] []=(qd l code has).bind (fun(e:Bool)=>some (rB e,[])):=
 fun l code has=>by
  rw[qP qrf quY.2.2.2 qvY]
  have:=qvM;have:=@q19;have:=@q1W;have:=@qd.eq_1;exact gA
theorem q3t:∀(l0_Code:ByteArray) (l0_Credits l0_Places l0_Slots0 l0_Slots1:Int) (l1_Code:ByteArray) (l1_Credits l1_Places l1_Slots0:Int) (l1_Needs0 l2_Code:ByteArray) (l2_Credits l2_Places:Int) (l3_Code:ByteArray) (l3_Credits l3_Places l3_Slots0:Int) (l3_Needs0 l3_Needs1 has0 code:ByteArray),ev 25 0 [R.c (C.d (D.sl 5 4 [D.str l0_Code,D.int .i64 l0_Credits,D.int .i64 l0_Places,D.sl 1 2 [D.int .i64 l0_Slots0,D.int .i64 l0_Slots1],D.sl 1 0 [],D.str l1_Code,D.int .i64 l1_Credits,D.int .i64 l1_Places,D.sl 1 1 [D.int .i64 l1_Slots0],D.sl 1 1 [D.str l1_Needs0],D.str l2_Code,D.int .i64 l2_Credits,D.int .i64 l2_Places,D.sl 1 0 [],D.sl 1 0 [],D.str l3_Code,D.int .i64 l3_Credits,D.int .i64 l3_Places,D.sl 1 1 [D.int .i64 l3_Slots0],D.sl 1 2 [D.str l3_Needs0,D.str l3_Needs1]])),rS code,R.c (C.d (D.sl 1 1 [D.str has0]))] []=(qd [(qa.mk l0_Code l0_Credits l0_Places [l0_Slots0,l0_Slots1] []),(qa.mk l1_Code l1_Credits l1_Places [l1_Slots0] [l1_Needs0]),(qa.mk l2_Code l2_Credits l2_Places [] []),(qa.mk l3_Code l3_Credits l3_Places [l3_Slots0] [l3_Needs0,l3_Needs1])] code [has0]).bind (fun(e:Bool)=>some (rB e,[])):=by
 intro l0_Code l0_Credits l0_Places l0_Slots0 l0_Slots1 l1_Code l1_Credits l1_Places l1_Slots0 l1_Needs0 l2_Code l2_Credits l2_Places l3_Code l3_Credits l3_Places l3_Slots0 l3_Needs0 l3_Needs1 has0 code;have h:=J5 [(qa.mk l0_Code l0_Credits l0_Places [l0_Slots0,l0_Slots1] []),(qa.mk l1_Code l1_Credits l1_Places [l1_Slots0] [l1_Needs0]),(qa.mk l2_Code l2_Credits l2_Places [] []),(qa.mk l3_Code l3_Credits l3_Places [l3_Slots0] [l3_Needs0,l3_Needs1])] code [has0]
 first
  | exact h
  | (simp only[rL,dL,bR,bZ,Nat.reduceAdd] at h;exact h)
theorem q3y:∀(l0_Code:ByteArray) (l0_Credits l0_Places l0_Slots0 l0_Slots1:Int) (l1_Code:ByteArray) (l1_Credits l1_Places l1_Slots0:Int) (l1_Needs0 l2_Code:ByteArray) (l2_Credits l2_Places:Int) (l3_Code:ByteArray) (l3_Credits l3_Places l3_Slots0:Int) (l3_Needs0 l3_Needs1 has0 has1 code:ByteArray),ev 25 0 [R.c (C.d (D.sl 5 4 [D.str l0_Code,D.int .i64 l0_Credits,D.int .i64 l0_Places,D.sl 1 2 [D.int .i64 l0_Slots0,D.int .i64 l0_Slots1],D.sl 1 0 [],D.str l1_Code,D.int .i64 l1_Credits,D.int .i64 l1_Places,D.sl 1 1 [D.int .i64 l1_Slots0],D.sl 1 1 [D.str l1_Needs0],D.str l2_Code,D.int .i64 l2_Credits,D.int .i64 l2_Places,D.sl 1 0 [],D.sl 1 0 [],D.str l3_Code,D.int .i64 l3_Credits,D.int .i64 l3_Places,D.sl 1 1 [D.int .i64 l3_Slots0],D.sl 1 2 [D.str l3_Needs0,D.str l3_Needs1]])),rS code,R.c (C.d (D.sl 1 2 [D.str has0,D.str has1]))] []=(qd [(qa.mk l0_Code l0_Credits l0_Places [l0_Slots0,l0_Slots1] []),(qa.mk l1_Code l1_Credits l1_Places [l1_Slots0] [l1_Needs0]),(qa.mk l2_Code l2_Credits l2_Places [] []),(qa.mk l3_Code l3_Credits l3_Places [l3_Slots0] [l3_Needs0,l3_Needs1])] code [has0,has1]).bind (fun(e:Bool)=>some (rB e,[])):=by
 intro l0_Code l0_Credits l0_Places l0_Slots0 l0_Slots1 l1_Code l1_Credits l1_Places l1_Slots0 l1_Needs0 l2_Code l2_Credits l2_Places l3_Code l3_Credits l3_Places l3_Slots0 l3_Needs0 l3_Needs1 has0 has1 code;have h:=J5 [(qa.mk l0_Code l0_Credits l0_Places [l0_Slots0,l0_Slots1] []),(qa.mk l1_Code l1_Credits l1_Places [l1_Slots0] [l1_Needs0]),(qa.mk l2_Code l2_Credits l2_Places [] []),(qa.mk l3_Code l3_Credits l3_Places [l3_Slots0] [l3_Needs0,l3_Needs1])] code [has0,has1]
 first
  | exact h
  | (simp only[rL,dL,bR,bZ,Nat.reduceAdd] at h;exact h)
theorem q3D:∀(l0_Code:ByteArray) (l0_Credits l0_Places l0_Slots0 l0_Slots1:Int) (l1_Code:ByteArray) (l1_Credits l1_Places l1_Slots0:Int) (l1_Needs0 l2_Code:ByteArray) (l2_Credits l2_Places:Int) (l3_Code:ByteArray) (l3_Credits l3_Places l3_Slots0:Int) (l3_Needs0 l3_Needs1 code:ByteArray),ev 25 0 [R.c (C.d (D.sl 5 4 [D.str l0_Code,D.int .i64 l0_Credits,D.int .i64 l0_Places,D.sl 1 2 [D.int .i64 l0_Slots0,D.int .i64 l0_Slots1],D.sl 1 0 [],D.str l1_Code,D.int .i64 l1_Credits,D.int .i64 l1_Places,D.sl 1 1 [D.int .i64 l1_Slots0],D.sl 1 1 [D.str l1_Needs0],D.str l2_Code,D.int .i64 l2_Credits,D.int .i64 l2_Places,D.sl 1 0 [],D.sl 1 0 [],D.str l3_Code,D.int .i64 l3_Credits,D.int .i64 l3_Places,D.sl 1 1 [D.int .i64 l3_Slots0],D.sl 1 2 [D.str l3_Needs0,D.str l3_Needs1]])),rS code,R.c (C.d (D.sl 1 0 []))] []=(qd [(qa.mk l0_Code l0_Credits l0_Places [l0_Slots0,l0_Slots1] []),(qa.mk l1_Code l1_Credits l1_Places [l1_Slots0] [l1_Needs0]),(qa.mk l2_Code l2_Credits l2_Places [] []),(qa.mk l3_Code l3_Credits l3_Places [l3_Slots0] [l3_Needs0,l3_Needs1])] code []).bind (fun(e:Bool)=>some (rB e,[])):=by
 intro l0_Code l0_Credits l0_Places l0_Slots0 l0_Slots1 l1_Code l1_Credits l1_Places l1_Slots0 l1_Needs0 l2_Code l2_Credits l2_Places l3_Code l3_Credits l3_Places l3_Slots0 l3_Needs0 l3_Needs1 code;have h:=J5 [(qa.mk l0_Code l0_Credits l0_Places [l0_Slots0,l0_Slots1] []),(qa.mk l1_Code l1_Credits l1_Places [l1_Slots0] [l1_Needs0]),(qa.mk l2_Code l2_Credits l2_Places [] []),(qa.mk l3_Code l3_Credits l3_Places [l3_Slots0] [l3_Needs0,l3_Needs1])] code []
 first
  | exact h
  | (simp only[rL,dL,bR,bZ,Nat.reduceAdd] at h;exact h)
def qf (fu:Nat) (l:List qa) (code:ByteArray) (has:List ByteArray):Option Bool:=Option.bind (q0T fu l code) fun(a:Prod qa Bool)=>if a.2=Bool.true then Option.bind (q0c fu a.1.Needs has) fun(e0:Bool)=>some e0 else some Bool.false
theorem q5y (fu:Nat) (l:List qa) (code:ByteArray) (has:List ByteArray):qk (qf fu l code has) (qd l code has):=by
 unfold qf qd
 repeat (first
  | with_reducible exact qk.refl _
  | with_reducible exact qk.none _
  | with_reducible apply q4B
  | with_reducible apply q1x
  | with_reducible refine qk.bind ?_ (fun _=>?_)
  | with_reducible refine qk.ite ?_ ?_
  | with_reducible refine qk.sum (fun _=>?_) (fun _=>?_)
  | with_reducible refine qk.lim (fun _=>?_))
theorem qvS:okL 27 qdq:=qW (qc qri) (by kernel_rfl) (by kernel_rfl)
def qwt:=JA_ @qdq.eq_1 (JA_ @Try.f27.eq_1 @qri)
theorem qvR:okL 56 qca:=qW (qc qsg) (by kernel_rfl) (by kernel_rfl)
def qvy:=JA_ @qca.eq_1 (JA_ @Try.f56.eq_1 @qsg)
theorem qvB:okL 57 qcI:=qW (qc qsO) (by kernel_rfl) (by kernel_rfl)
def qwP:=JA_ @qcI.eq_1 (JA_ @Try.f57.eq_1 @qsO)
theorem quS:okL 71 q9E:=qW (qc qqw) (by kernel_rfl) (by kernel_rfl)
def qun:=JA_ @q9E.eq_1 (JA_ @Try.f71.eq_1 @qqw)
theorem qp0:lbO 71 2=qdp:=zE (qc qqw) rfl
theorem qmw:okL 71 qdp:=qR quS (qxk (i:=0) (by kernel_rfl))
def z8 (s:List Int) (v:Int) (t7:Int):Int→Option (Int⊕(Int⊕Unit))|t8=>if t8<t7 then if 0≤t8∧t8<((s.length:Nat):Int) then Option.bind s[Int.toNat t8]? fun(a:Int)=>if(v==a)=Bool.true then some (Sum.inr (Sum.inl t8)) else some (Sum.inl (w64 (t8+1))) else none else some (Sum.inr (Sum.inr ()))
theorem JT:∀(s:List Int) (v t7 t8:Int),XL2 evo 71 0 2 ⟨[(0,rL 1 eI s),(1,rI v),(7,rI t7),(8,rI t8)],[],0,19⟩=(qT (z8 s v t7) t8).bind (Sum.elim (fun(e:Int)=>some (Exit.ret,⟨[(4,rI e)],[],0,19⟩)) (fun(e:Unit)=>some (Exit.exit 0,⟨[(4,R.any)],[],0,19⟩))):=
 fun s v t7 t8=>by
  revert t8;exact q2s qp0 qmw (fun e=>by rcases e with _|_<;>exact⟨_,rfl,fun h=>by cases h⟩) fun x=>by
   have:=qun;have:=@qdp.eq_1;have:=@z8.eq_1;exact gA
def zJ (s:List Int) (v:Int):Option Int:=Option.bind (qT (z8 s v ((s.length:Nat):Int)) 0) fun(a:Sum Int Unit)=>Sum.elim (fun(a2:Int)=>some a2) (fun(a3:Unit)=>some (-1)) a
theorem q0p:∀(s:List Int) (v:Int),ev 71 0 [rL 1 eI s,rI v] []=(zJ s v).bind (fun(e:Int)=>some (rI e,[])):=
 fun s v=>by
  rw[qP qqw quy.2.2.2 quS]
  have:=qun;have:=@JT;have:=@zJ.eq_1;exact gA
def Zl (fu:Nat) (s:List Int) (v:Int):Option Int:=Option.bind (itT (z8 s v ((s.length:Nat):Int)) fu 0) fun(a:Sum Int Unit)=>Sum.elim (fun(a2:Int)=>some a2) (fun(a3:Unit)=>some (-1)) a
theorem q0j (fu:Nat) (s:List Int) (v:Int):qk (Zl fu s v) (zJ s v):=by
 unfold Zl zJ
 repeat (first
  | with_reducible exact qk.refl _
  | with_reducible exact qk.none _
  | with_reducible refine qk.bind ?_ (fun _=>?_)
  | with_reducible refine qk.ite ?_ ?_
  | with_reducible refine qk.sum (fun _=>?_) (fun _=>?_)
  | with_reducible refine qk.lim (fun _=>?_))
def za (s:List Int) (v:Int):Option Bool:=Option.bind (zJ s v) fun(a:Int)=>some (decide (0≤a))
theorem JU:∀(s:List Int) (v:Int),ev 57 0 [rL 1 eI s,rI v] []=(za s v).bind (fun(e:Bool)=>some (rB e,[])):=
 fun s v=>by
  rw[qP qsO qtR.2.2.2 qvB]
  have:=qwP;have:=@q0p;have:=@za.eq_1;exact gA
def QR (fu:Nat) (s:List Int) (v:Int):Option Bool:=Option.bind (Zl fu s v) fun(a:Int)=>some (decide (0≤a))
theorem JS (fu:Nat) (s:List Int) (v:Int):qk (QR fu s v) (za s v):=by
 unfold QR za
 repeat (first
  | with_reducible exact qk.refl _
  | with_reducible exact qk.none _
  | with_reducible apply q0j
  | with_reducible refine qk.bind ?_ (fun _=>?_)
  | with_reducible refine qk.ite ?_ ?_
  | with_reducible refine qk.sum (fun _=>?_) (fun _=>?_)
  | with_reducible refine qk.lim (fun _=>?_))
end
noncomputable section
open Go.RowKit
set_option maxRecDepth 20000
set_option maxHeartbeats 8000000
def Ql (n:Int) (v:qa):Option Bool:=Option.bind (za v.Slots n) fun(a:Bool)=>some a
theorem q38:∀(n:Int) (v_Code:ByteArray) (v_Credits v_Places:Int) (v_Slots:List Int) (v_Needs:List ByteArray),ev 56 1 [rI n,rP 0] [(0,B.blk 35 [dS v_Code,dI v_Credits,dI v_Places,dL 1 eI v_Slots,dL 1 eS v_Needs])]=(Ql n (qa.mk v_Code v_Credits v_Places v_Slots v_Needs)).bind (fun(e:Bool)=>some (rB e,[(0,B.blk 35 [dS v_Code,dI v_Credits,dI v_Places,dL 1 eI v_Slots,dL 1 eS v_Needs])])):=
 fun n v_Code v_Credits v_Places v_Slots v_Needs=>by
  rw[qP qsg quc.2.2.2 qvR]
  have:=qvy;have:=@JU;have:=@Ql.eq_1;exact gA
def JE (fu:Nat) (n:Int) (v:qa):Option Bool:=Option.bind (QR fu v.Slots n) fun(a:Bool)=>some a
theorem q2W (fu:Nat) (n:Int) (v:qa):qk (JE fu n v) (Ql n v):=by
 unfold JE Ql
 repeat (first
  | with_reducible exact qk.refl _
  | with_reducible exact qk.none _
  | with_reducible apply JS
  | with_reducible refine qk.bind ?_ (fun _=>?_)
  | with_reducible refine qk.ite ?_ ?_
  | with_reducible refine qk.sum (fun _=>?_) (fun _=>?_)
  | with_reducible refine qk.lim (fun _=>?_))
def qx (b0:qa) (s:List Int) (t7:Int):Int→Option (Int⊕(Int⊕Unit))|t8=>if t8<t7 then if 0≤t8∧t8<((s.length:Nat):Int) then Option.bind s[Int.toNat t8]? fun(a:Int)=>Option.bind (Ql a b0) fun(a2:Bool)=>if a2=Bool.true then some (Sum.inr (Sum.inl t8)) else some (Sum.inl (w64 (t8+1))) else none else some (Sum.inr (Sum.inr ()))
theorem ZY:∀(b0_Code:ByteArray) (b0_Credits b0_Places:Int) (b0_Slots:List Int) (b0_Needs:List ByteArray) (s:List Int) (t7 t8:Int),XL2 evo 70 1 2 ⟨[(0,rL 1 eI s),(1,R.c (C.fn 56 [] [dP 0])),(7,rI t7),(8,rI t8)],[(0,B.blk 35 [dS b0_Code,dI b0_Credits,dI b0_Places,dL 1 eI b0_Slots,dL 1 eS b0_Needs])],1,19⟩=(qT (qx (qa.mk b0_Code b0_Credits b0_Places b0_Slots b0_Needs) s t7) t8).bind (Sum.elim (fun(e:Int)=>some (Exit.ret,⟨[(4,rI e)],[(0,B.blk 35 [dS b0_Code,dI b0_Credits,dI b0_Places,dL 1 eI b0_Slots,dL 1 eS b0_Needs])],1,19⟩)) (fun(e:Unit)=>some (Exit.exit 0,⟨[(4,R.any)],[(0,B.blk 35 [dS b0_Code,dI b0_Credits,dI b0_Places,dL 1 eI b0_Slots,dL 1 eS b0_Needs])],1,19⟩))):=
 fun b0_Code b0_Credits b0_Places b0_Slots b0_Needs s t7 t8=>by
  revert t8;exact q2s qhV qhJ (fun e=>by rcases e with _|_<;>exact⟨_,rfl,fun h=>by cases h⟩) fun x=>by
   have:=qqt;have:=@q9G.eq_1;have:=@q38;have:=@qx.eq_1;exact gA
def Qd (fu:Nat) (b0:qa) (s:List Int) (t7:Int):Int→Option (Int⊕(Int⊕Unit))|t8=>if t8<t7 then if 0≤t8∧t8<((s.length:Nat):Int) then Option.bind s[Int.toNat t8]? fun(a:Int)=>Option.bind (JE fu a b0) fun(a2:Bool)=>if a2=Bool.true then some (Sum.inr (Sum.inl t8)) else some (Sum.inl (w64 (t8+1))) else none else some (Sum.inr (Sum.inr ()))
theorem ZW (fu:Nat) (b0:qa) (s:List Int) (t7:Int):∀x,qk (Qd fu b0 s t7 x) (qx b0 s t7 x):=by
 rintro t8
 unfold Qd qx
 try dsimp only
 repeat (first
  | with_reducible exact qk.refl _
  | with_reducible exact qk.none _
  | with_reducible apply q2W
  | with_reducible refine qk.bind ?_ (fun _=>?_)
  | with_reducible refine qk.ite ?_ ?_
  | with_reducible refine qk.sum (fun _=>?_) (fun _=>?_)
  | with_reducible refine qk.lim (fun _=>?_))
def zb (s:List Int) (b0:qa):Option Int:=Option.bind (qT (qx b0 s ((s.length:Nat):Int)) 0) fun(a:Sum Int Unit)=>Sum.elim (fun(a2:Int)=>some a2) (fun(a3:Unit)=>some (-1)) a
theorem Jl:∀(s:List Int) (b0_Code:ByteArray) (b0_Credits b0_Places:Int) (b0_Slots:List Int) (b0_Needs:List ByteArray),ev 70 1 [rL 1 eI s,R.c (C.fn 56 [] [dP 0])] [(0,B.blk 35 [dS b0_Code,dI b0_Credits,dI b0_Places,dL 1 eI b0_Slots,dL 1 eS b0_Needs])]=(zb s (qa.mk b0_Code b0_Credits b0_Places b0_Slots b0_Needs)).bind (fun(e:Int)=>some (rI e,[(0,B.blk 35 [dS b0_Code,dI b0_Credits,dI b0_Places,dL 1 eI b0_Slots,dL 1 eS b0_Needs])])):=
 fun s b0_Code b0_Credits b0_Places b0_Slots b0_Needs=>by
  rw[qP qpB qr8.2.2.2 qrO]
  have:=qqt;have:=@ZY;have:=@zb.eq_1;exact gA
def Qo (fu:Nat) (s:List Int) (b0:qa):Option Int:=Option.bind (itT (Qd fu b0 s ((s.length:Nat):Int)) fu 0) fun(a:Sum Int Unit)=>Sum.elim (fun(a2:Int)=>some a2) (fun(a3:Unit)=>some (-1)) a
theorem Jm (fu:Nat) (s:List Int) (b0:qa):qk (Qo fu s b0) (zb s b0):=by
 unfold Qo zb
 repeat (first
  | with_reducible exact qk.refl _
  | with_reducible exact qk.none _
  | with_reducible apply ZW
  | with_reducible refine qk.bind ?_ (fun _=>?_)
  | with_reducible refine qk.ite ?_ ?_
  | with_reducible refine qk.sum (fun _=>?_) (fun _=>?_)
  | with_reducible refine qk.lim (fun _=>?_))
def qM (s:List Int) (b0:qa):Option Bool:=Option.bind (zb s b0) fun(a:Int)=>some (decide (0≤a))
theorem ZZ:∀(s:List Int) (b0_Code:ByteArray) (b0_Credits b0_Places:Int) (b0_Slots:List Int) (b0_Needs:List ByteArray),ev 55 1 [rL 1 eI s,R.c (C.fn 56 [] [dP 0])] [(0,B.blk 35 [dS b0_Code,dI b0_Credits,dI b0_Places,dL 1 eI b0_Slots,dL 1 eS b0_Needs])]=(qM s (qa.mk b0_Code b0_Credits b0_Places b0_Slots b0_Needs)).bind (fun(e:Bool)=>some (rB e,[(0,B.blk 35 [dS b0_Code,dI b0_Credits,dI b0_Places,dL 1 eI b0_Slots,dL 1 eS b0_Needs])])):=
 fun s b0_Code b0_Credits b0_Places b0_Slots b0_Needs=>by
  rw[qP qq6 qrP.2.2.2 quG]
  have:=qu0;have:=@Jl;have:=@qM.eq_1;exact gA
def Qa (fu:Nat) (s:List Int) (b0:qa):Option Bool:=Option.bind (Qo fu s b0) fun(a:Int)=>some (decide (0≤a))
theorem ZV (fu:Nat) (s:List Int) (b0:qa):qk (Qa fu s b0) (qM s b0):=by
 unfold Qa qM
 repeat (first
  | with_reducible exact qk.refl _
  | with_reducible exact qk.none _
  | with_reducible apply Jm
  | with_reducible refine qk.bind ?_ (fun _=>?_)
  | with_reducible refine qk.ite ?_ ?_
  | with_reducible refine qk.sum (fun _=>?_) (fun _=>?_)
  | with_reducible refine qk.lim (fun _=>?_))
def qe (a:qa) (b:qa):Option Bool:=Option.bind (qM a.Slots b) fun(a2:Bool)=>some a2
theorem Jv:∀(a_Code:ByteArray) (a_Credits a_Places:Int) (a_Slots:List Int) (a_Needs:List ByteArray) (b_Code:ByteArray) (b_Credits b_Places:Int) (b_Slots:List Int) (b_Needs:List ByteArray),ev 27 0 [R.agg [dS a_Code,dI a_Credits,dI a_Places,dL 1 eI a_Slots,dL 1 eS a_Needs],R.agg [dS b_Code,dI b_Credits,dI b_Places,dL 1 eI b_Slots,dL 1 eS b_Needs]] []=(qe (qa.mk a_Code a_Credits a_Places a_Slots a_Needs) (qa.mk b_Code b_Credits b_Places b_Slots b_Needs)).bind (fun(e:Bool)=>some (rB e,[])):=
 fun a_Code a_Credits a_Places a_Slots a_Needs b_Code b_Credits b_Places b_Slots b_Needs=>by
  rw[qP qri qv7.2.2.2 qvS]
  have:=qwt;have:=@ZZ;have:=@qe.eq_1;exact gA
theorem q2A:∀(a_Code:ByteArray) (a_Credits a_Places a_Slots0 a_Slots1:Int) (b_Code:ByteArray) (b_Credits b_Places b_Slots0:Int) (b_Needs0:ByteArray) , ev 27 0 [R.agg [dS a_Code,dI a_Credits,dI a_Places,C.d (D.sl 1 2 [D.int .i64 a_Slots0,D.int .i64 a_Slots1]),C.d (D.sl 1 0 [])],R.agg [dS b_Code,dI b_Credits,dI b_Places,C.d (D.sl 1 1 [D.int .i64 b_Slots0]),C.d (D.sl 1 1 [D.str b_Needs0])]] []=(qe (qa.mk a_Code a_Credits a_Places [a_Slots0,a_Slots1] []) (qa.mk b_Code b_Credits b_Places [b_Slots0] [b_Needs0])).bind (fun(e:Bool)=>some (rB e,[])):=by
 intro a_Code a_Credits a_Places a_Slots0 a_Slots1 b_Code b_Credits b_Places b_Slots0 b_Needs0;have h:=Jv ((qa.mk a_Code a_Credits a_Places [a_Slots0,a_Slots1] [])).Code ((qa.mk a_Code a_Credits a_Places [a_Slots0,a_Slots1] [])).Credits ((qa.mk a_Code a_Credits a_Places [a_Slots0,a_Slots1] [])).Places ((qa.mk a_Code a_Credits a_Places [a_Slots0,a_Slots1] [])).Slots ((qa.mk a_Code a_Credits a_Places [a_Slots0,a_Slots1] [])).Needs ((qa.mk b_Code b_Credits b_Places [b_Slots0] [b_Needs0])).Code ((qa.mk b_Code b_Credits b_Places [b_Slots0] [b_Needs0])).Credits ((qa.mk b_Code b_Credits b_Places [b_Slots0] [b_Needs0])).Places ((qa.mk b_Code b_Credits b_Places [b_Slots0] [b_Needs0])).Slots ((qa.mk b_Code b_Credits b_Places [b_Slots0] [b_Needs0])).Needs
 first
  | exact h
  | (simp only[rL,dL,bR,bZ,Nat.reduceAdd] at h;exact h)
theorem q2v:∀(a_Code:ByteArray) (a_Credits a_Places a_Slots0:Int) (a_Needs0 b_Code:ByteArray) (b_Credits b_Places:Int) , ev 27 0 [R.agg [dS a_Code,dI a_Credits,dI a_Places,C.d (D.sl 1 1 [D.int .i64 a_Slots0]),C.d (D.sl 1 1 [D.str a_Needs0])],R.agg [dS b_Code,dI b_Credits,dI b_Places,C.d (D.sl 1 0 []),C.d (D.sl 1 0 [])]] []=(qe (qa.mk a_Code a_Credits a_Places [a_Slots0] [a_Needs0]) (qa.mk b_Code b_Credits b_Places [] [])).bind (fun(e:Bool)=>some (rB e,[])):=by
 intro a_Code a_Credits a_Places a_Slots0 a_Needs0 b_Code b_Credits b_Places;have h:=Jv ((qa.mk a_Code a_Credits a_Places [a_Slots0] [a_Needs0])).Code ((qa.mk a_Code a_Credits a_Places [a_Slots0] [a_Needs0])).Credits ((qa.mk a_Code a_Credits a_Places [a_Slots0] [a_Needs0])).Places ((qa.mk a_Code a_Credits a_Places [a_Slots0] [a_Needs0])).Slots ((qa.mk a_Code a_Credits a_Places [a_Slots0] [a_Needs0])).Needs ((qa.mk b_Code b_Credits b_Places [] [])).Code ((qa.mk b_Code b_Credits b_Places [] [])).Credits ((qa.mk b_Code b_Credits b_Places [] [])).Places ((qa.mk b_Code b_Credits b_Places [] [])).Slots ((qa.mk b_Code b_Credits b_Places [] [])).Needs
 first
  | exact h
  | (simp only[rL,dL,bR,bZ,Nat.reduceAdd] at h;exact h)
def qi (fu:Nat) (a:qa) (b:qa):Option Bool:=Option.bind (Qa fu a.Slots b) fun(a2:Bool)=>some a2
theorem q3U (fu:Nat) (a b:qa):qk (qi fu a b) (qe a b):=by
 unfold qi qe
 repeat (first
  | with_reducible exact qk.refl _
  | with_reducible exact qk.none _
  | with_reducible apply ZV
  | with_reducible refine qk.bind ?_ (fun _=>?_)
  | with_reducible refine qk.ite ?_ ?_
  | with_reducible refine qk.sum (fun _=>?_) (fun _=>?_)
  | with_reducible refine qk.lim (fun _=>?_))
end

noncomputable section
open Go.RowKit
theorem q1N {α:Type} (l:List α) (q:α→Bool) (step:Int→Option (Int⊕(Int⊕Unit)))
  (h:∀(i:Nat) a,l[i]?=some a→step (i:Int)=some (if q a=true then .inr (.inl (i:Int)) else .inl ((i+1:Nat):Int)))
  (hn:step ((l.length:Nat):Int)=some (.inr (.inr ()))) :
  ∃r:Int⊕Unit,qT step 0=some r∧((∃(i:Nat) (a:α),r = .inl (i:Int)∧l[i]?=some a∧q a=true∧∀j b,j<i→l[j]?=some b→q b=false)∨(r = .inr ()∧∀a∈l,q a=false)):=by
 have key:∀(n i:Nat),n+i=l.length→(∀j b,j<i→l[j]?=some b→q b=false)→∃r:Int⊕Unit,qT step (i:Int)=some r∧((∃(i:Nat) (a:α),r = .inl (i:Int)∧l[i]?=some a∧q a=true∧∀j b,j<i→l[j]?=some b→q b=false)∨(r = .inr ()∧∀a∈l,q a=false)):=by
  intro n
  induction n with
  | zero=>
   intro i hi hlo
   obtain rfl:i=l.length:=by omega
   refine⟨.inr (),qJ hn,.inr ⟨rfl,fun a ha=>?_⟩⟩
   obtain⟨j,hj,rfl⟩:=List.mem_iff_getElem.1 ha
   exact hlo j _ hj (qxl hj)
  | succ n ih=>
   intro i hi hlo
   have hlt:i<l.length:=by omega
   have ha:=qxl hlt
   have hs:=h i _ ha
   cases hq:q l[i] with
   | true=>
    rw[hq,if_pos rfl] at hs
    exact⟨_,qJ hs,.inl ⟨i,_,rfl,ha,hq,hlo⟩⟩
   | false=>
    rw[hq,if_neg (by decide)] at hs
    rw[zC hs]
    refine ih (i+1) (by omega) fun j b hj hb=>?_
    by_cases e:j<i
    ·exact hlo j b e hb
    ·obtain rfl:j=i:=by omega
     rw[ha] at hb;injection hb with hb;subst hb;exact hq
 exact key l.length 0 (by omega) (fun j b hj _=>by omega)
theorem q3X {α:Type} {l:List α} {q:α→Bool} {r:Int⊕Unit} (h:(∃(i:Nat) (a:α),r = .inl (i:Int)∧l[i]?=some a∧q a=true∧∀j b,j<i→l[j]?=some b→q b=false)∨(r = .inr ()∧∀a∈l,q a=false)) :
  ∃n:Int,Sum.elim (fun(a2:Int)=>some a2) (fun(a3:Unit)=>some (-(1:Int))) r=some n∧decide ((0:Int)≤n)=l.any q:=by
 rcases h with ⟨i,a,rfl,h1,h2,_⟩|⟨rfl,h1⟩
 ·refine⟨_,rfl,?_⟩
  rw[qyi (by omega)]
  exact(qyc.2 ⟨a,qxk h1,h2⟩).symm
 ·refine⟨_,rfl,?_⟩
  rw[decide_eq_false (by decide)]
  symm;rw[List.any_eq_false];intro a ha;rw[h1 a ha];decide
theorem qeC {l:List Int} (hl:l.length≤1000000) (v:Int):za l v=some (l.any fun a=>v==a):=by
 obtain⟨r,h1,h2⟩:=q1N l (fun a=>v==a) (z8 l v ((l.length:Nat):Int))
  (fun i a ha=>by
   have:=Qe ha
   unfold z8
   rw[if_pos (by omega),if_pos (by omega),qxm,ha,qxj]
   cases(v==a) with
   | true=>rfl
   | false=>rw[if_neg (by decide),if_neg (by decide),qN this (by omega)])
  (by unfold z8;rw[if_neg (by omega)])
 obtain⟨n,h3,h4⟩:=q3X h2
 unfold za zJ
 rw[h1,qxj,h3,qxj,h4]
theorem qfP {a b:qa} (ha:a.Slots.length≤1000000) (hb:b.Slots.length≤1000000):qe a b=some (a.Slots.any fun x=>b.Slots.any fun y=>x==y):=by
 have hc:∀n,Ql n b=some (b.Slots.any fun y=>n==y):=fun n=>by
  unfold Ql
  rw[qeC hb];rfl
 obtain⟨r,h1,h2⟩:=q1N a.Slots (fun x=>b.Slots.any fun y=>x==y) (qx b a.Slots ((a.Slots.length:Nat):Int))
  (fun i x hx=>by
   have:=Qe hx
   unfold qx
   rw[if_pos (by omega),if_pos (by omega),qxm,hx,qxj,hc,qxj]
   cases(b.Slots.any fun y=>x==y) with
   | true=>rfl
   | false=>rw[if_neg (by decide),if_neg (by decide),qN this (by omega)])
  (by unfold qx;rw[if_neg (by omega)])
 obtain⟨n,h3,h4⟩:=q3X h2
 unfold qe qM zb
 rw[h1,qxj,h3,qxj,h4];rfl
end
noncomputable section
open Go.RowKit
set_option maxRecDepth 20000
set_option maxHeartbeats 8000000
theorem qp6:okL 13 q5u:=qW (qc qiC) (by kernel_rfl) (by kernel_rfl)
def qnv:=JA_ @q5u.eq_1 (JA_ @Try.f13.eq_1 @qiC)
theorem qpU:lbO 13 4=qbJ:=zE (qc qiC) rfl
theorem qpH:okL 13 qbJ:=qR qp6 (qxk (i:=0) (by kernel_rfl))
theorem qk4:lbO 13 17=q8l:=zE (qc qiC) rfl
theorem qj0:okL 13 q8l:=qR qp6 (qxk (i:=1) (by kernel_rfl))
theorem qjC:lbO 13 20=q8N:=zE (qc qiC) rfl
theorem qk9:okL 13 q8N:=qR qp6 (qxk (i:=2) (by kernel_rfl))
theorem qkh:lbO 13 26=q93:=zE (qc qiC) rfl
theorem qjS:okL 13 q93:=qR qp6 (qxk (i:=3) (by kernel_rfl))
theorem qud:okL 15 qas:=qW (qc qqB) (by kernel_rfl) (by kernel_rfl)
def qve:=JA_ @qas.eq_1 (JA_ @Try.f15.eq_1 @qqB)
theorem qmh:lbO 15 2=qcR:=zE (qc qqB) rfl
theorem qm4:okL 15 qcR:=qR qud (qxk (i:=0) (by kernel_rfl))
def QU (s:ByteArray):Int→Option (Int⊕(Unit⊕Unit))|k=>if k<((ByteArray.size s:Nat):Int) then if 0≤k then Option.bind (Array.toList (ByteArray.data s))[Int.toNat k]? fun(a:UInt8)=>if 65≤((UInt8.toNat a:Nat):Int) then if 0≤k then Option.bind (Array.toList (ByteArray.data s))[Int.toNat k]? fun(a2:UInt8)=>if 0≤k then Option.bind (Array.toList (ByteArray.data s))[Int.toNat k]? fun(a3:UInt8)=>if 48≤((UInt8.toNat a3:Nat):Int) then if 0≤k then Option.bind (Array.toList (ByteArray.data s))[Int.toNat k]? fun(a4:UInt8)=>if(!(decide (((UInt8.toNat a2:Nat):Int)≤90)))=Bool.true then if(!(decide (((UInt8.toNat a4:Nat):Int)≤57)))=Bool.true then some (Sum.inr (Sum.inl ())) else some (Sum.inl (w64 (k+1))) else some (Sum.inl (w64 (k+1))) else none else if(!(decide (((UInt8.toNat a2:Nat):Int)≤90)))=Bool.true then some (Sum.inr (Sum.inl ())) else some (Sum.inl (w64 (k+1))) else none else none else if 0≤k then Option.bind (Array.toList (ByteArray.data s))[Int.toNat k]? fun(a5:UInt8)=>if 48≤((UInt8.toNat a5:Nat):Int) then if 0≤k then Option.bind (Array.toList (ByteArray.data s))[Int.toNat k]? fun(a6:UInt8)=>if(!(decide (((UInt8.toNat a6:Nat):Int)≤57)))=Bool.true then some (Sum.inr (Sum.inl ())) else some (Sum.inl (w64 (k+1))) else none else some (Sum.inr (Sum.inl ())) else none else none else some (Sum.inr (Sum.inr ()))
theorem q3K:∀(s:ByteArray) (k:Int),XL2 evo 15 0 2 ⟨[(0,rS s),(3,rI k)],[],0,46⟩=(qT (QU s) k).bind (Sum.elim (fun(e:Unit)=>some (Exit.ret,⟨[(0,rS s),(2,rB Bool.false)],[],0,46⟩)) (fun(e:Unit)=>some (Exit.exit 0,⟨[(0,rS s),(2,R.any)],[],0,46⟩))):=
 fun s k=>by
  revert k;exact q2s qmh qm4 (fun e=>by rcases e with _|_<;>exact⟨_,rfl,fun h=>by cases h⟩) fun x=>by
   have:=qve;have:=@qcR.eq_1;have:=@QU.eq_1;exact gA
def JC (s:ByteArray):Option Bool:=Option.bind (qT (QU s) 0) fun(a:Sum Unit Unit)=>Sum.elim (fun(a2:Unit)=>some Bool.false) (fun(a3:Unit)=>if 1≤((ByteArray.size s:Nat):Int) then some (decide (((ByteArray.size s:Nat):Int)≤8)) else some Bool.false) a
theorem q5C:∀(s:ByteArray),ev 15 0 [rS s] []=(JC s).bind (fun(e:Bool)=>some (rB e,[])):=
 fun s=>by
  rw[qP qqB qv4.2.2.2 qud]
  have:=qve;have:=@q3K;have:=@JC.eq_1;exact gA
theorem qsC:okL 44 q7K:=qW (qc qnE) (by kernel_rfl) (by kernel_rfl)
def qt2:=JA_ @q7K.eq_1 (JA_ @Try.f44.eq_1 @qnE)
theorem qpj:lbO 44 4=qcq:=zE (qc qnE) rfl
theorem qpT:okL 44 qcq:=qR qsC (qxk (i:=0) (by kernel_rfl))
theorem qlY:lbO 44 9=qeM:=zE (qc qnE) rfl
theorem qmL:okL 44 qeM:=qR qsC (qxk (i:=1) (by kernel_rfl))
def Qw (b0:qa):Int→Option (Int⊕(Unit⊕Unit))|t3=>if t3<((b0.Slots.length:Nat):Int) then if 0≤t3∧t3<((b0.Slots.length:Nat):Int) then Option.bind b0.Slots[Int.toNat t3]? fun(a:Int)=>if a<1 then some (Sum.inr (Sum.inl ())) else if 0≤t3∧t3<((b0.Slots.length:Nat):Int) then Option.bind b0.Slots[Int.toNat t3]? fun(a2:Int)=>if 40<a2 then some (Sum.inr (Sum.inl ())) else some (Sum.inl (w64 (t3+1))) else none else none else some (Sum.inr (Sum.inr ()))
theorem q2g:∀(b0_Code:ByteArray) (b0_Credits b0_Places:Int) (b0_Slots:List Int) (b0_Needs:List ByteArray) (t3:Int),XL2 evo 44 0 4 ⟨[(1,rP 0),(3,rI t3)],[(0,B.blk 35 [dS b0_Code,dI b0_Credits,dI b0_Places,dL 1 eI b0_Slots,dL 1 eS b0_Needs])],1,71⟩=(qT (Qw (qa.mk b0_Code b0_Credits b0_Places b0_Slots b0_Needs)) t3).bind (Sum.elim (fun(e:Unit)=>some (Exit.ret,⟨[(1,rP 0),(2,rI 3)],[(0,B.blk 35 [dS b0_Code,dI b0_Credits,dI b0_Places,dL 1 eI b0_Slots,dL 1 eS b0_Needs])],1,71⟩)) (fun(e:Unit)=>some (Exit.exit 0,⟨[(1,rP 0),(2,R.any)],[(0,B.blk 35 [dS b0_Code,dI b0_Credits,dI b0_Places,dL 1 eI b0_Slots,dL 1 eS b0_Needs])],1,71⟩))):=
 fun b0_Code b0_Credits b0_Places b0_Slots b0_Needs t3=>by
  revert t3;exact q2s qpj qpT (fun e=>by rcases e with _|_<;>exact⟨_,rfl,fun h=>by cases h⟩) fun x=>by
   have:=qt2;have:=@qcq.eq_1;have:=@Qw.eq_1;exact gA
def Q9 (b0:qa):Int→Option (Int⊕(Unit⊕Unit))|t4=>if t4<((b0.Slots.length:Nat):Int) then if 0≤w64 (t4-1)∧w64 (t4-1)<((b0.Slots.length:Nat):Int) then Option.bind b0.Slots[Int.toNat (w64 (t4-1))]? fun(a:Int)=>if 0≤t4∧t4<((b0.Slots.length:Nat):Int) then Option.bind b0.Slots[Int.toNat t4]? fun(a2:Int)=>if a2≤a then some (Sum.inr (Sum.inl ())) else some (Sum.inl (w64 (t4+1))) else none else none else some (Sum.inr (Sum.inr ()))
theorem q2k:∀(b0_Code:ByteArray) (b0_Credits b0_Places:Int) (b0_Slots:List Int) (b0_Needs:List ByteArray) (t4:Int),XL2 evo 44 0 9 ⟨[(1,rP 0),(4,rI t4)],[(0,B.blk 35 [dS b0_Code,dI b0_Credits,dI b0_Places,dL 1 eI b0_Slots,dL 1 eS b0_Needs])],1,71⟩=(qT (Q9 (qa.mk b0_Code b0_Credits b0_Places b0_Slots b0_Needs)) t4).bind (Sum.elim (fun(e:Unit)=>some (Exit.ret,⟨[(1,rP 0),(2,rI 7)],[(0,B.blk 35 [dS b0_Code,dI b0_Credits,dI b0_Places,dL 1 eI b0_Slots,dL 1 eS b0_Needs])],1,71⟩)) (fun(e:Unit)=>some (Exit.exit 2,⟨[(1,rP 0),(2,R.any)],[(0,B.blk 35 [dS b0_Code,dI b0_Credits,dI b0_Places,dL 1 eI b0_Slots,dL 1 eS b0_Needs])],1,71⟩))):=
 fun b0_Code b0_Credits b0_Places b0_Slots b0_Needs t4=>by
  revert t4;exact q2s qlY qmL (fun e=>by rcases e with _|_<;>exact⟨_,rfl,fun h=>by cases h⟩) fun x=>by
   have:=qt2;have:=@qeM.eq_1;have:=@Q9.eq_1;exact gA
theorem quk:okL 29 qap:=qW (qc qqf) (by kernel_rfl) (by kernel_rfl)
def qtK:=JA_ @qap.eq_1 (JA_ @Try.f29.eq_1 @qqf)
theorem qmo:lbO 29 2=qcM:=zE (qc qqf) rfl
theorem qoS:okL 29 qcM:=qR quk (qxk (i:=0) (by kernel_rfl))
def zx (l:List ByteArray):Int→Option (Int⊕(Unit⊕Unit))|k=>if k<((l.length:Nat):Int) then if 0≤w64 (k-1)∧w64 (k-1)<((l.length:Nat):Int) then Option.bind l[Int.toNat (w64 (k-1))]? fun(a:ByteArray)=>if 0≤k∧k<((l.length:Nat):Int) then Option.bind l[Int.toNat k]? fun(a2:ByteArray)=>if(!(Op.bytesLess (ByteArray.toList a) (ByteArray.toList a2)))=Bool.true then some (Sum.inr (Sum.inl ())) else some (Sum.inl (w64 (k+1))) else none else none else some (Sum.inr (Sum.inr ()))
theorem q0J:∀(l:List ByteArray) (k:Int),XL2 evo 29 0 2 ⟨[(0,rL 1 eS l),(3,rI k)],[],0,20⟩=(qT (zx l) k).bind (Sum.elim (fun(e:Unit)=>some (Exit.ret,⟨[(2,rB Bool.false)],[],0,20⟩)) (fun(e:Unit)=>some (Exit.exit 0,⟨[(2,R.any)],[],0,20⟩))):=
 fun l k=>by
  revert k;exact q2s qmo qoS (fun e=>by rcases e with _|_<;>exact⟨_,rfl,fun h=>by cases h⟩) fun x=>by
   have:=qtK;have:=@qcM.eq_1;have:=@zx.eq_1;exact gA
def QH (l:List ByteArray):Option Bool:=Option.bind (qT (zx l) 1) fun(a:Sum Unit Unit)=>Sum.elim (fun(a2:Unit)=>some Bool.false) (fun(a3:Unit)=>some Bool.true) a
theorem q1R:∀(l:List ByteArray),ev 29 0 [rL 1 eS l] []=(QH l).bind (fun(e:Bool)=>some (rB e,[])):=
 fun l=>by
  rw[qP qqf qtO.2.2.2 quk]
  have:=qtK;have:=@q0J;have:=@QH.eq_1;exact gA
def Qq (x0:qa):Option Int:=if x0.Credits<1 then some 3 else if 60<x0.Credits then some 3 else if x0.Places<0 then some 3 else if 200<x0.Places then some 3 else Option.bind (qT (Qw x0) 0) fun(a:Sum Unit Unit)=>Sum.elim (fun(a2:Unit)=>some 3) (fun(a3:Unit)=>Option.bind (qT (Q9 x0) 1) fun(a4:Sum Unit Unit)=>Sum.elim (fun(a5:Unit)=>some 7) (fun(a6:Unit)=>if 5<((x0.Needs.length:Nat):Int) then some 2 else Option.bind (QH x0.Needs) fun(a7:Bool)=>if(!a7)=Bool.true then some 7 else some 0) a4) a
theorem q3S:∀(x0_Code:ByteArray) (x0_Credits x0_Places:Int) (x0_Slots:List Int) (x0_Needs:List ByteArray),ev 44 0 [R.agg [dS x0_Code,dI x0_Credits,dI x0_Places,dL 1 eI x0_Slots,dL 1 eS x0_Needs]] []=(Qq (qa.mk x0_Code x0_Credits x0_Places x0_Slots x0_Needs)).bind (fun(e:Int)=>some (rI e,[])):=
 fun x0_Code x0_Credits x0_Places x0_Slots x0_Needs=>by
  rw[qP qnE quu.2.2.2 qsC]
  have:=qt2;have:=@q2g;have:=@q2k;have:=@q1R;have:=@Qq.eq_1;exact gA
def zP (t0:List qa):Int→Option (Int⊕(Int⊕Unit))|t3=>if t3<((t0.length:Nat):Int) then if 0≤t3∧t3<((t0.length:Nat):Int) then Option.bind t0[Int.toNat t3]? fun(a:qa)=>Option.bind (JC a.Code) fun(a2:Bool)=>if(!a2)=Bool.true then some (Sum.inr (Sum.inl 12)) else if 0<t3 then if 0≤w64 (t3-1)∧w64 (t3-1)<((t0.length:Nat):Int) then Option.bind t0[Int.toNat (w64 (t3-1))]? fun(a3:qa)=>if 0≤t3∧t3<((t0.length:Nat):Int) then Option.bind t0[Int.toNat t3]? fun(a4:qa)=>if(ByteArray.toList a3.Code==ByteArray.toList a4.Code)=Bool.true then some (Sum.inr (Sum.inl 6)) else if 0<t3 then if 0≤w64 (t3-1)∧w64 (t3-1)<((t0.length:Nat):Int) then Option.bind t0[Int.toNat (w64 (t3-1))]? fun(a5:qa)=>if 0≤t3∧t3<((t0.length:Nat):Int) then Option.bind t0[Int.toNat t3]? fun(a6:qa)=>if(!(Op.bytesLess (ByteArray.toList a5.Code) (ByteArray.toList a6.Code)||ByteArray.toList a5.Code==ByteArray.toList a6.Code))=Bool.true then some (Sum.inr (Sum.inl 7)) else if 0≤t3∧t3<((t0.length:Nat):Int) then Option.bind t0[Int.toNat t3]? fun(a7:qa)=>Option.bind (Qq a7) fun(a8:Int)=>if(a8 != 0)=Bool.true then some (Sum.inr (Sum.inl a8)) else some (Sum.inl (w64 (t3+1))) else none else none else none else if 0≤t3∧t3<((t0.length:Nat):Int) then Option.bind t0[Int.toNat t3]? fun(a9:qa)=>Option.bind (Qq a9) fun(a10:Int)=>if(a10 != 0)=Bool.true then some (Sum.inr (Sum.inl a10)) else some (Sum.inl (w64 (t3+1))) else none else none else none else if 0<t3 then if 0≤w64 (t3-1)∧w64 (t3-1)<((t0.length:Nat):Int) then Option.bind t0[Int.toNat (w64 (t3-1))]? fun(a11:qa)=>if 0≤t3∧t3<((t0.length:Nat):Int) then Option.bind t0[Int.toNat t3]? fun(a12:qa)=>if(!(Op.bytesLess (ByteArray.toList a11.Code) (ByteArray.toList a12.Code)||ByteArray.toList a11.Code==ByteArray.toList a12.Code))=Bool.true then some (Sum.inr (Sum.inl 7)) else if 0≤t3∧t3<((t0.length:Nat):Int) then Option.bind t0[Int.toNat t3]? fun(a13:qa)=>Option.bind (Qq a13) fun(a14:Int)=>if(a14 != 0)=Bool.true then some (Sum.inr (Sum.inl a14)) else some (Sum.inl (w64 (t3+1))) else none else none else none else if 0≤t3∧t3<((t0.length:Nat):Int) then Option.bind t0[Int.toNat t3]? fun(a15:qa)=>Option.bind (Qq a15) fun(a16:Int)=>if(a16 != 0)=Bool.true then some (Sum.inr (Sum.inl a16)) else some (Sum.inl (w64 (t3+1))) else none else none else some (Sum.inr (Sum.inr ()))
theorem q2V:∀(t0:List qa) (t3:Int),XL2 evo 13 0 4 ⟨[(0,rL 5 qb t0),(3,rI t3)],[],0,121⟩=(qT (zP t0) t3).bind (Sum.elim (fun(e:Int)=>some (Exit.ret,⟨[(0,rL 5 qb t0),(2,rI e)],[],0,121⟩)) (fun(e:Unit)=>some (Exit.exit 0,⟨[(0,rL 5 qb t0),(2,R.any)],[],0,121⟩))):=
 fun t0 t3=>by
  revert t3;exact q2s qpU qpH (fun e=>by rcases e with _|_<;>exact⟨_,rfl,fun h=>by cases h⟩) fun x=>by
   have:=qnv;have:=@qbJ.eq_1;have:=@q5C;have:=@q3S;have:=@zP.eq_1;exact gA
theorem quC:okL 21 qar:=qW (qc qqD) (by kernel_rfl) (by kernel_rfl)
def qvl:=JA_ @qar.eq_1 (JA_ @Try.f21.eq_1 @qqD)
theorem qox:lbO 21 2=qeS:=zE (qc qqD) rfl
theorem qpC:okL 21 qeS:=qR quC (qxk (i:=0) (by kernel_rfl))
theorem qw8:okL 36 qcx:=qW (qc qrX) (by kernel_rfl) (by kernel_rfl)
def qwR:=JA_ @qcx.eq_1 (JA_ @Try.f36.eq_1 @qrX)
def ZS (o:qa):Option (ByteArray×Int×Int×List Int×List ByteArray):=if o.Slots.length≤maxLen∧o.Slots.length*8≤140737488355328 then if o.Needs.length≤maxLen∧o.Needs.length*16≤140737488355328 then some (o.Code,o.Credits,o.Places,o.Slots,o.Needs) else none else none
theorem q1U:∀(o_Code:ByteArray) (o_Credits o_Places:Int) (o_Slots:List Int) (o_Needs:List ByteArray),ev 36 0 [R.agg [dS o_Code,dI o_Credits,dI o_Places,dL 1 eI o_Slots,dL 1 eS o_Needs]] []=(ZS (qa.mk o_Code o_Credits o_Places o_Slots o_Needs)).bind (fun(e:ByteArray×Int×Int×List Int×List ByteArray)=>some (R.agg [dS e.1,dI e.2.1,dI e.2.2.1,dO 0 1 e.2.2.2.1.length,dO 1 1 e.2.2.2.2.length],[(0,bR 3 1 eI e.2.2.2.1),(1,bR 9 1 eS e.2.2.2.2)])):=
 fun o_Code o_Credits o_Places o_Slots o_Needs=>by
  rw[qP qrX qv8.2.2.2 qw8]
  have:=qwR;have:=@ZS.eq_1;exact gA
def Qy (b0_Code:ByteArray) (b0_Credits:Int) (b0_Places:Int) (l:List qa) (code:ByteArray):Int→Option (Int⊕((List Int×List ByteArray×ByteArray×Int×Int)⊕Unit))|k=>if k<((l.length:Nat):Int) then if 0≤k∧k<((l.length:Nat):Int) then Option.bind l[Int.toNat k]? fun(a:qa)=>if(ByteArray.toList a.Code==ByteArray.toList code)=Bool.true then if 0≤k∧k<((l.length:Nat):Int) then Option.bind l[Int.toNat k]? fun(a2:qa)=>Option.bind (ZS a2) fun(a3:Prod ByteArray (Prod Int (Prod Int (Prod (List Int) (List ByteArray)))))=>some (Sum.inr (Sum.inl (a3.2.2.2.1,a3.2.2.2.2,a3.1,a3.2.1,a3.2.2.1))) else none else some (Sum.inl (w64 (k+1))) else none else some (Sum.inr (Sum.inr ()))
theorem q3l:∀(b0_Code:ByteArray) (b0_Credits b0_Places:Int) (l:List qa) (code:ByteArray) (k:Int),XL2 evo 21 0 2 ⟨[(0,rL 5 qb l),(1,rS code),(4,rP 0),(6,rI k)],[(0,B.blk 35 [dS b0_Code,dI b0_Credits,dI b0_Places,C.nils,C.nils])],1,26⟩=(qT (Qy b0_Code b0_Credits b0_Places l code) k).bind (Sum.elim (fun(e:List Int×List ByteArray×ByteArray×Int×Int)=>some (Exit.ret,⟨[(4,rP 0),(5,rB Bool.true)],[(0,B.blk 35 [dS e.2.2.1,dI e.2.2.2.1,dI e.2.2.2.2,dO 1 1 e.1.length,dO 2 1 e.2.1.length]),(1,bR 3 1 eI e.1),(2,bR 9 1 eS e.2.1)],3,26⟩)) (fun(e:Unit)=>some (Exit.exit 0,⟨[(4,rP 0),(5,R.any)],[(0,B.blk 35 [dS b0_Code,dI b0_Credits,dI b0_Places,C.nils,C.nils])],1,26⟩))):=
 fun b0_Code b0_Credits b0_Places l code k=>by
  revert k;exact q2s qox qpC (fun e=>by rcases e with _|_<;>exact⟨_,rfl,fun h=>by cases h⟩) fun x=>by
   have:=qvl;have:=@qeS.eq_1;have:=@q1U;have:=@Qy.eq_1;exact gA
def Qu (l:List qa) (code:ByteArray):Option (qa×Bool):=Option.bind (qT (Qy (ByteArray.mk (List.toArray [])) 0 0 l code) 0) fun(a:Sum (Prod (List Int) (Prod (List ByteArray) (Prod ByteArray (Prod Int Int)))) Unit)=>Sum.elim (fun(a2:Prod (List Int) (Prod (List ByteArray) (Prod ByteArray (Prod Int Int))))=>some (qa.mk a2.2.2.1 a2.2.2.2.1 a2.2.2.2.2 a2.1 a2.2.1,Bool.true)) (fun(a3:Unit)=>some (qa.mk (ByteArray.mk (List.toArray [])) 0 0 [] [],Bool.false)) a
theorem QY:∀(l:List qa) (code:ByteArray),ev 21 0 [rL 5 qb l,rS code] []=(Qu l code).bind (fun(e:qa×Bool)=>some (R.tup [R.agg [dS e.1.Code,dI e.1.Credits,dI e.1.Places,dL 1 eI e.1.Slots,dL 1 eS e.1.Needs],rB e.2],[])):=
 fun l code=>by
  rw[qP qqD quN.2.2.2 quC]
  have:=qvl;have:=@q3l;have:=@Qu.eq_1;exact gA
def Qv (t0:List qa) (t6:Int):Int→Option (Int⊕(Unit⊕Unit))|t7=>if 0≤t6∧t6<((t0.length:Nat):Int) then Option.bind t0[Int.toNat t6]? fun(a:qa)=>if t7<((a.Needs.length:Nat):Int) then if 0≤t6∧t6<((t0.length:Nat):Int) then Option.bind t0[Int.toNat t6]? fun(a2:qa)=>if 0≤t7∧t7<((a2.Needs.length:Nat):Int) then Option.bind a2.Needs[Int.toNat t7]? fun(a3:ByteArray)=>Option.bind (Qu t0 a3) fun(a4:Prod qa Bool)=>if(!a4.2)=Bool.true then some (Sum.inr (Sum.inl ())) else some (Sum.inl (w64 (t7+1))) else none else none else some (Sum.inr (Sum.inr ())) else none
theorem q2u:∀(t0:List qa) (t6 t7:Int),XL2 evo 13 0 20 ⟨[(0,rL 5 qb t0),(6,rI t6),(7,rI t7)],[],0,121⟩=(qT (Qv t0 t6) t7).bind (Sum.elim (fun(e:Unit)=>some (Exit.ret,⟨[(0,rL 5 qb t0),(2,rI 5),(6,rI t6)],[],0,121⟩)) (fun(e:Unit)=>some (Exit.exit 5,⟨[(0,rL 5 qb t0),(2,R.any),(6,rI t6)],[],0,121⟩))):=
 fun t0 t6 t7=>by
  revert t7;exact q2s qjC qk9 (fun e=>by rcases e with _|_<;>exact⟨_,rfl,fun h=>by cases h⟩) fun x=>by
   have:=qnv;have:=@q8N.eq_1;have:=@QY;have:=@Qv.eq_1;exact gA
def Q6 (t0:List qa):Int→Option (Int⊕(Unit⊕Unit))|t6=>if t6<((t0.length:Nat):Int) then Option.bind (qT (Qv t0 t6) 0) fun(a:Sum Unit Unit)=>Sum.elim (fun(a2:Unit)=>some (Sum.inr (Sum.inl ()))) (fun(a3:Unit)=>some (Sum.inl (w64 (t6+1)))) a else some (Sum.inr (Sum.inr ()))
theorem q2l:∀(t0:List qa) (t6:Int),XL2 evo 13 0 17 ⟨[(0,rL 5 qb t0),(6,rI t6)],[],0,121⟩=(qT (Q6 t0) t6).bind (Sum.elim (fun(e:Unit)=>some (Exit.ret,⟨[(0,rL 5 qb t0),(2,rI 5)],[],0,121⟩)) (fun(e:Unit)=>some (Exit.exit 3,⟨[(0,rL 5 qb t0),(2,R.any)],[],0,121⟩))):=
 fun t0 t6=>by
  revert t6;exact q2s qk4 qj0 (fun e=>by rcases e with _|_<;>exact⟨_,rfl,fun h=>by cases h⟩) fun x=>by
   have:=qnv;have:=@q8l.eq_1;have:=@q2u;have:=@Q6.eq_1;exact gA
theorem qte:okL 24 q7D:=qW (qc qlT) (by kernel_rfl) (by kernel_rfl)
def qni:=JA_ @q7D.eq_1 (JA_ @Try.f24.eq_1 @qlT)
theorem qi2:lbO 24 4=q9K:=zE (qc qlT) rfl
theorem qhX:okL 24 q9K:=qR qte (qxk (i:=0) (by kernel_rfl))
theorem qhB:lbO 24 7=qah:=zE (qc qlT) rfl
theorem qhr:okL 24 qah:=qR qte (qxk (i:=1) (by kernel_rfl))
theorem qv2:okL 30 q9w:=qW (qc qqy) (by kernel_rfl) (by kernel_rfl)
def quM:=JA_ @q9w.eq_1 (JA_ @Try.f30.eq_1 @qqy)
theorem qnz:lbO 30 2=qeP:=zE (qc qqy) rfl
theorem qpu:okL 30 qeP:=qR qv2 (qxk (i:=0) (by kernel_rfl))
def Zc (l:List ByteArray) (s:ByteArray):Int→Option (Int⊕(Unit⊕Unit))|k=>if k<((l.length:Nat):Int) then if 0≤k∧k<((l.length:Nat):Int) then Option.bind l[Int.toNat k]? fun(a:ByteArray)=>if(ByteArray.toList a==ByteArray.toList s)=Bool.true then some (Sum.inr (Sum.inl ())) else some (Sum.inl (w64 (k+1))) else none else some (Sum.inr (Sum.inr ()))
theorem q4m:∀(l:List ByteArray) (s:ByteArray) (k:Int),XL2 evo 30 0 2 ⟨[(0,rL 1 eS l),(1,rS s),(5,rI k)],[],0,18⟩=(qT (Zc l s) k).bind (Sum.elim (fun(e:Unit)=>some (Exit.ret,⟨[(4,rB Bool.true)],[],0,18⟩)) (fun(e:Unit)=>some (Exit.exit 0,⟨[(4,R.any)],[],0,18⟩))):=
 fun l s k=>by
  revert k;exact q2s qnz qpu (fun e=>by rcases e with _|_<;>exact⟨_,rfl,fun h=>by cases h⟩) fun x=>by
   have:=quM;have:=@qeP.eq_1;have:=@Zc.eq_1;exact gA
def QN (l:List ByteArray) (s:ByteArray):Option Bool:=Option.bind (qT (Zc l s) 0) fun(a:Sum Unit Unit)=>Sum.elim (fun(a2:Unit)=>some Bool.true) (fun(a3:Unit)=>some Bool.false) a
theorem Zg:∀(l:List ByteArray) (s:ByteArray),ev 30 0 [rL 1 eS l,rS s] []=(QN l s).bind (fun(e:Bool)=>some (rB e,[])):=
 fun l s=>by
  rw[qP qqy quJ.2.2.2 qv2]
  have:=quM;have:=@q4m;have:=@QN.eq_1;exact gA
theorem quh:okL 31 q9x:=qW (qc qqe) (by kernel_rfl) (by kernel_rfl)
def qus:=JA_ @q9x.eq_1 (JA_ @Try.f31.eq_1 @qqe)
theorem qof:lbO 31 4=qbB:=zE (qc qqe) rfl
theorem qpI:okL 31 qbB:=qR quh (qxk (i:=0) (by kernel_rfl))
def Zd (l:List ByteArray) (s:ByteArray):Int→Option (Int⊕Int)|at0=>if 0<at0 then if 0≤w64 (at0-1)∧w64 (at0-1)<((l.length:Nat):Int) then Option.bind l[Int.toNat (w64 (at0-1))]? fun(a:ByteArray)=>if(!(Op.bytesLess (ByteArray.toList a) (ByteArray.toList s)||ByteArray.toList a==ByteArray.toList s))=Bool.true then some (Sum.inl (w64 (at0-1))) else some (Sum.inr at0) else none else some (Sum.inr at0)
theorem q3R:∀(l:List ByteArray) (s:ByteArray) (at0:Int),XL2 evo 31 0 4 ⟨[(0,rL 1 eS l),(1,rS s),(5,rI at0)],[],0,39⟩=(qT (Zd l s) at0).bind (fun(e:Int)=>some (Exit.exit 0,⟨[(0,rL 1 eS l),(1,rS s),(5,rI e)],[],0,39⟩)):=
 fun l s at0=>by
  revert at0;exact q2s qof qpI (fun e=>by exact⟨_,rfl,fun h=>by cases h⟩) fun x=>by
   have:=qus;have:=@qbB.eq_1;have:=@Zd.eq_1;exact gA
def Jp (l:List ByteArray) (s:ByteArray):Option (List ByteArray):=Option.bind (QN l s) fun(a:Bool)=>if a=Bool.true then some l else Option.bind (qT (Zd l s) ((l.length:Nat):Int)) fun(a2:Int)=>if 0≤a2∧a2≤((l.length:Nat):Int) then if(List.take (Int.toNat a2-0) l).length≤maxLen∧(List.take (Int.toNat a2-0) l).length*16≤140737488355328 then if(List.take (Int.toNat a2-0) l).length+1≤maxLen∧((List.take (Int.toNat a2-0) l).length+1)*16≤140737488355328 then if 0≤a2∧a2≤((l.length:Nat):Int) then if(List.take (Int.toNat a2-0) l).length+1+(List.take (l.length-Int.toNat a2) (List.drop (Int.toNat a2) l)).length≤maxLen∧((List.take (Int.toNat a2-0) l).length+1+(List.take (l.length-Int.toNat a2) (List.drop (Int.toNat a2) l)).length)*16≤140737488355328 then some ((List.take (Int.toNat a2-0) l++[s])++List.take (l.length-Int.toNat a2) (List.drop (Int.toNat a2) l)) else none else none else none else none else none
theorem q2D:∀(l:List ByteArray) (s:ByteArray),ev 31 0 [rL 1 eS l,rS s] []=(Jp l s).bind (fun(e:List ByteArray)=>some (rL 1 eS e,[])):=
 fun l s=>by
  rw[qP qqe qu2.2.2.2 quh]
  have:=qus;have:=@Zg;have:=@q3R;have:=@Jp.eq_1;exact gA
theorem qtw:okL 18 q85:=qW (qc qlP) (by kernel_rfl) (by kernel_rfl)
def qsF:=JA_ @q85.eq_1 (JA_ @Try.f18.eq_1 @qlP)
theorem qpK:lbO 18 4=qdF:=zE (qc qlP) rfl
theorem qpJ:okL 18 qdF:=qR qtw (qxk (i:=0) (by kernel_rfl))
theorem qnu:lbO 18 6=qci:=zE (qc qlP) rfl
theorem qpr:okL 18 qci:=qR qtw (qxk (i:=1) (by kernel_rfl))
theorem quQ:okL 26 qaC:=qW (qc qpV) (by kernel_rfl) (by kernel_rfl)
def quD:=JA_ @qaC.eq_1 (JA_ @Try.f26.eq_1 @qpV)
theorem qnc:lbO 26 3=qd1:=zE (qc qpV) rfl
theorem qmx:okL 26 qd1:=qR quQ (qxk (i:=0) (by kernel_rfl))
def QO (o:qa) (has:List ByteArray):(Bool×Int)→Option ((Bool×Int)⊕Bool)|(ok,k)=>if k<((o.Needs.length:Nat):Int) then if ok=Bool.true then if 0≤k∧k<((o.Needs.length:Nat):Int) then Option.bind o.Needs[Int.toNat k]? fun(a:ByteArray)=>Option.bind (QN has a) fun(a2:Bool)=>some (Sum.inl (a2,w64 (k+1))) else none else some (Sum.inl (Bool.false,w64 (k+1))) else some (Sum.inr ok)
theorem q3W:∀(o_Code:ByteArray) (o_Credits o_Places:Int) (o_Slots:List Int) (o_Needs has:List ByteArray) (ok:Bool) (k:Int),XL2 evo 26 0 3 ⟨[(2,rL 1 eS has),(7,rP 0),(8,rB ok),(9,rI k)],[(0,B.blk 35 [dS o_Code,dI o_Credits,dI o_Places,dL 1 eI o_Slots,dL 1 eS o_Needs])],1,34⟩=(qT (QO (qa.mk o_Code o_Credits o_Places o_Slots o_Needs) has) (ok,k)).bind (fun(e:Bool)=>some (Exit.exit 0,⟨[(8,rB e)],[],0,34⟩)):=
 fun o_Code o_Credits o_Places o_Slots o_Needs has ok k=>by
  revert k;revert ok;exact qie qnc qmx (fun e=>by exact⟨_,rfl,fun h=>by cases h⟩) fun ok k=>by
   have:=quD;have:=@qd1.eq_1;have:=@Zg;have:=@QO.eq_1;exact gA
def Jt (l:List qa) (code:ByteArray) (has:List ByteArray):Option Bool:=Option.bind (Qu l code) fun(a:Prod qa Bool)=>Option.bind (qT (QO a.1 has) (a.2,0)) fun(a2:Bool)=>some a2
theorem q2F:∀(l:List qa) (code:ByteArray) (has:List ByteArray),ev 26 0 [rL 5 qb l,rS code,rL 1 eS has] []=(Jt l code has).bind (fun(e:Bool)=>some (rB e,[])):=
 fun l code has=>by
  rw[qP qpV qtX.2.2.2 quQ]
  have:=quD;have:=@QY;have:=@q3W;have:=@Jt.eq_1;exact gA
theorem qrL:okL 28 q7A:=qW (qc qoy) (by kernel_rfl) (by kernel_rfl)
def qrh:=JA_ @q7A.eq_1 (JA_ @Try.f28.eq_1 @qoy)
theorem qly:lbO 28 2=qdO:=zE (qc qoy) rfl
theorem qnZ:okL 28 qdO:=qR qrL (qxk (i:=0) (by kernel_rfl))
theorem qlS:lbO 28 5=qdm:=zE (qc qoy) rfl
theorem qpf:okL 28 qdm:=qR qrL (qxk (i:=1) (by kernel_rfl))
def QG (a:qa) (b:qa) (k:Int):Int→Option (Int⊕(Unit⊕Unit))|i=>if i<((b.Slots.length:Nat):Int) then if 0≤k∧k<((a.Slots.length:Nat):Int) then Option.bind a.Slots[Int.toNat k]? fun(a2:Int)=>if 0≤i∧i<((b.Slots.length:Nat):Int) then Option.bind b.Slots[Int.toNat i]? fun(a3:Int)=>if(a2==a3)=Bool.true then some (Sum.inr (Sum.inl ())) else some (Sum.inl (w64 (i+1))) else none else none else some (Sum.inr (Sum.inr ()))
theorem q34:∀(a_Code:ByteArray) (a_Credits a_Places:Int) (a_Slots:List Int) (a_Needs:List ByteArray) (b_Code:ByteArray) (b_Credits b_Places:Int) (b_Slots:List Int) (b_Needs:List ByteArray) (k i:Int),XL2 evo 28 0 5 ⟨[(2,rP 0),(3,rP 1),(5,rI k),(6,rI i)],[(0,B.blk 35 [dS a_Code,dI a_Credits,dI a_Places,dL 1 eI a_Slots,dL 1 eS a_Needs]),(1,B.blk 35 [dS b_Code,dI b_Credits,dI b_Places,dL 1 eI b_Slots,dL 1 eS b_Needs])],2,32⟩=(qT (QG (qa.mk a_Code a_Credits a_Places a_Slots a_Needs) (qa.mk b_Code b_Credits b_Places b_Slots b_Needs) k) i).bind (Sum.elim (fun(e:Unit)=>some (Exit.ret,⟨[(2,rP 0),(3,rP 1),(4,rB Bool.true),(5,rI k)],[(0,B.blk 35 [dS a_Code,dI a_Credits,dI a_Places,dL 1 eI a_Slots,dL 1 eS a_Needs]),(1,B.blk 35 [dS b_Code,dI b_Credits,dI b_Places,dL 1 eI b_Slots,dL 1 eS b_Needs])],2,32⟩)) (fun(e:Unit)=>some (Exit.exit 2,⟨[(2,rP 0),(3,rP 1),(4,R.any),(5,rI k)],[(0,B.blk 35 [dS a_Code,dI a_Credits,dI a_Places,dL 1 eI a_Slots,dL 1 eS a_Needs]),(1,B.blk 35 [dS b_Code,dI b_Credits,dI b_Places,dL 1 eI b_Slots,dL 1 eS b_Needs])],2,32⟩))):=
 fun a_Code a_Credits a_Places a_Slots a_Needs b_Code b_Credits b_Places b_Slots b_Needs k i=>by
  revert i;exact q2s qlS qpf (fun e=>by rcases e with _|_<;>exact⟨_,rfl,fun h=>by cases h⟩) fun x=>by
   have:=qrh;have:=@qdm.eq_1;have:=@QG.eq_1;exact gA
def QF (a:qa) (b:qa):Int→Option (Int⊕(Unit⊕Unit))|k=>if k<((a.Slots.length:Nat):Int) then Option.bind (qT (QG a b k) 0) fun(a2:Sum Unit Unit)=>Sum.elim (fun(a3:Unit)=>some (Sum.inr (Sum.inl ()))) (fun(a4:Unit)=>some (Sum.inl (w64 (k+1)))) a2 else some (Sum.inr (Sum.inr ()))
theorem q32:∀(a_Code:ByteArray) (a_Credits a_Places:Int) (a_Slots:List Int) (a_Needs:List ByteArray) (b_Code:ByteArray) (b_Credits b_Places:Int) (b_Slots:List Int) (b_Needs:List ByteArray) (k:Int),XL2 evo 28 0 2 ⟨[(2,rP 0),(3,rP 1),(5,rI k)],[(0,B.blk 35 [dS a_Code,dI a_Credits,dI a_Places,dL 1 eI a_Slots,dL 1 eS a_Needs]),(1,B.blk 35 [dS b_Code,dI b_Credits,dI b_Places,dL 1 eI b_Slots,dL 1 eS b_Needs])],2,32⟩=(qT (QF (qa.mk a_Code a_Credits a_Places a_Slots a_Needs) (qa.mk b_Code b_Credits b_Places b_Slots b_Needs)) k).bind (Sum.elim (fun(e:Unit)=>some (Exit.ret,⟨[(4,rB Bool.true)],[],0,32⟩)) (fun(e:Unit)=>some (Exit.exit 0,⟨[(4,R.any)],[],0,32⟩))):=
 fun a_Code a_Credits a_Places a_Slots a_Needs b_Code b_Credits b_Places b_Slots b_Needs k=>by
  revert k;exact q2s qly qnZ (fun e=>by rcases e with _|_<;>exact⟨_,rfl,fun h=>by cases h⟩) fun x=>by
   have:=qrh;have:=@qdO.eq_1;have:=@q34;have:=@QF.eq_1;exact gA
def J9 (a:qa) (b:qa):Option Bool:=Option.bind (qT (QF a b) 0) fun(a2:Sum Unit Unit)=>Sum.elim (fun(a3:Unit)=>some Bool.true) (fun(a4:Unit)=>some Bool.false) a2
theorem q4z:∀(a_Code:ByteArray) (a_Credits a_Places:Int) (a_Slots:List Int) (a_Needs:List ByteArray) (b_Code:ByteArray) (b_Credits b_Places:Int) (b_Slots:List Int) (b_Needs:List ByteArray),ev 28 0 [R.agg [dS a_Code,dI a_Credits,dI a_Places,dL 1 eI a_Slots,dL 1 eS a_Needs],R.agg [dS b_Code,dI b_Credits,dI b_Places,dL 1 eI b_Slots,dL 1 eS b_Needs]] []=(J9 (qa.mk a_Code a_Credits a_Places a_Slots a_Needs) (qa.mk b_Code b_Credits b_Places b_Slots b_Needs)).bind (fun(e:Bool)=>some (rB e,[])):=
 fun a_Code a_Credits a_Places a_Slots a_Needs b_Code b_Credits b_Places b_Slots b_Needs=>by
  rw[qP qoy qtH.2.2.2 qrL]
  have:=qrh;have:=@q32;have:=@J9.eq_1;exact gA
theorem qwC:okL 22 qdf:=qW (qc qsz) (by kernel_rfl) (by kernel_rfl)
def qwL:=JA_ @qdf.eq_1 (JA_ @Try.f22.eq_1 @qsz)
theorem qtU:okL 54 qa6:=qW (qc qq5) (by kernel_rfl) (by kernel_rfl)
def qup:=JA_ @qa6.eq_1 (JA_ @Try.f54.eq_1 @qq5)
theorem qnG:lbO 54 4=qbK:=zE (qc qq5) rfl
theorem qlW:okL 54 qbK:=qR qtU (qxk (i:=0) (by kernel_rfl))
def zT (a:List Int) (b:List Int):Int→Option (Int⊕(Unit⊕Unit))|k=>if k<((a.length:Nat):Int) then if 0≤k∧k<((a.length:Nat):Int) then Option.bind a[Int.toNat k]? fun(a2:Int)=>if 0≤k∧k<((b.length:Nat):Int) then Option.bind b[Int.toNat k]? fun(a3:Int)=>if(a2 != a3)=Bool.true then some (Sum.inr (Sum.inl ())) else some (Sum.inl (w64 (k+1))) else none else none else some (Sum.inr (Sum.inr ()))
theorem q1e:∀(a b:List Int) (k:Int),XL2 evo 54 0 4 ⟨[(0,rL 1 eI a),(1,rL 1 eI b),(5,rI k)],[],0,26⟩=(qT (zT a b) k).bind (Sum.elim (fun(e:Unit)=>some (Exit.ret,⟨[(4,rB Bool.false)],[],0,26⟩)) (fun(e:Unit)=>some (Exit.exit 0,⟨[(4,R.any)],[],0,26⟩))):=
 fun a b k=>by
  revert k;exact q2s qnG qlW (fun e=>by rcases e with _|_<;>exact⟨_,rfl,fun h=>by cases h⟩) fun x=>by
   have:=qup;have:=@qbK.eq_1;have:=@zT.eq_1;exact gA
def Zb (a:List Int) (b:List Int):Option Bool:=if(((a.length:Nat):Int) != ((b.length:Nat):Int))=Bool.true then some Bool.false else Option.bind (qT (zT a b) 0) fun(a2:Sum Unit Unit)=>Sum.elim (fun(a3:Unit)=>some Bool.false) (fun(a4:Unit)=>some Bool.true) a2
theorem q2S:∀(a b:List Int),ev 54 0 [rL 1 eI a,rL 1 eI b] []=(Zb a b).bind (fun(e:Bool)=>some (rB e,[])):=
 fun a b=>by
  rw[qP qq5 quF.2.2.2 qtU]
  have:=qup;have:=@q1e;have:=@Zb.eq_1;exact gA
def JD (a:qa) (b:qa):Option Bool:=Option.bind (Zb a.Slots b.Slots) fun(a2:Bool)=>Option.bind (qp a.Needs b.Needs) fun(a3:Bool)=>if a2=Bool.true then if a3=Bool.true then if(ByteArray.toList a.Code==ByteArray.toList b.Code)=Bool.true then if(a.Credits==b.Credits)=Bool.true then some (a.Places==b.Places) else some Bool.false else some Bool.false else some Bool.false else some Bool.false
theorem q5I:∀(a_Code:ByteArray) (a_Credits a_Places:Int) (a_Slots:List Int) (a_Needs:List ByteArray) (b_Code:ByteArray) (b_Credits b_Places:Int) (b_Slots:List Int) (b_Needs:List ByteArray),ev 22 0 [R.agg [dS a_Code,dI a_Credits,dI a_Places,dL 1 eI a_Slots,dL 1 eS a_Needs],R.agg [dS b_Code,dI b_Credits,dI b_Places,dL 1 eI b_Slots,dL 1 eS b_Needs]] []=(JD (qa.mk a_Code a_Credits a_Places a_Slots a_Needs) (qa.mk b_Code b_Credits b_Places b_Slots b_Needs)).bind (fun(e:Bool)=>some (rB e,[])):=
 fun a_Code a_Credits a_Places a_Slots a_Needs b_Code b_Credits b_Places b_Slots b_Needs=>by
  rw[qP qsz qtD.2.2.2 qwC]
  have:=qwL;have:=@q2S;have:=@Qm;have:=@JD.eq_1;exact gA
theorem lo9:okL 9 qgT:=qW (qc bd9) (by kernel_rfl) (by kernel_rfl)
def cx9:=JA_ @qgT.eq_1 (JA_ @Try.f9.eq_1 @bd9)
theorem qrD:lbO 9 3=qiu:=zE (qc bd9) rfl
theorem qtt:okL 9 qiu:=qR lo9 (qxk (i:=0) (by kernel_rfl))
theorem qv3:okL 34 q9F:=qW (qc qqC) (by kernel_rfl) (by kernel_rfl)
def quU:=JA_ @q9F.eq_1 (JA_ @Try.f34.eq_1 @qqC)
theorem qmV:lbO 34 3=qeF:=zE (qc qqC) rfl
theorem qoF:okL 34 qeF:=qR qv3 (qxk (i:=0) (by kernel_rfl))
def zS (l:List ByteArray):(List ByteArray×Int)→Option ((List ByteArray×Int)⊕(List ByteArray))|(out,k)=>if k<((l.length:Nat):Int) then if k<7 then if 0≤k∧k<((l.length:Nat):Int) then Option.bind l[Int.toNat k]? fun(a:ByteArray)=>if 0≤k∧k<((l.length:Nat):Int) then Option.bind l[Int.toNat k]? fun(a2:ByteArray)=>if 0≤min ((ByteArray.size a2:Nat):Int) 12∧min ((ByteArray.size a2:Nat):Int) 12≤((ByteArray.size a:Nat):Int) then if out.length+1≤maxLen∧(out.length+1)*16≤140737488355328 then some (Sum.inl (out++[ByteArray.extract a 0 (Int.toNat (min ((ByteArray.size a2:Nat):Int) 12))],w64 (k+1))) else none else none else none else none else some (Sum.inr out) else some (Sum.inr out)
theorem q30:∀(out l:List ByteArray) (k:Int) (out_len:Nat),out_len=out.length→XL2 evo 34 0 3 ⟨[(0,rL 1 eS l),(3,rO 0 1 out_len),(4,rI k)],[(0,bR 9 1 eS out)],1,30⟩=(qT (zS l) (out,k)).bind (fun(e:List ByteArray)=>some (Exit.exit 0,⟨[(3,rO 0 1 e.length)],[(0,bR 9 1 eS e)],1,30⟩)):=
 by
 intro out l k out_len h0
 subst h0
 revert k;revert out;exact qie qmV qoF (fun e=>by exact⟨_,rfl,fun h=>by cases h⟩) fun out k=>by
  have:=quU;have:=@qeF.eq_1;have:=@zS.eq_1;exact gA
theorem q1g:∀  (l:List ByteArray) (k:Int),XL2 evo 34 0 3 ⟨[(0,rL 1 eS l),(3,rO 0 1 0),(4,rI k)],[(0,B.row 9 1 [])],1,30⟩=(qT (zS l) ([],k)).bind (fun(e:List ByteArray)=>some (Exit.exit 0,⟨[(3,rO 0 1 e.length)],[(0,bR 9 1 eS e)],1,30⟩)):=by
 intro l k;have h:=q30 [] l k _ rfl
 first
  | exact h
  | (simp only[rL,dL,bR,bZ,Nat.reduceAdd] at h;exact h)
def Jc (l:List ByteArray):Option (List ByteArray):=Option.bind (qT (zS l) ([],0)) fun(a:List ByteArray)=>some a
theorem q4E:∀(l:List ByteArray),ev 34 0 [rL 1 eS l] []=(Jc l).bind (fun(e:List ByteArray)=>some (rL 1 eS e,[])):=
 fun l=>by
  rw[qP qqC quI.2.2.2 qv3]
  have:=quU;have:=@q1g;have:=@Jc.eq_1;exact gA
def Qf (l:List qa):(List qa×Int)→Option ((List qa×Int)⊕(List qa))|(out,k)=>if k<((l.length:Nat):Int) then if k<6 then if 0≤k∧k<((l.length:Nat):Int) then Option.bind l[Int.toNat k]? fun(a:qa)=>if 0≤min ((ByteArray.size a.Code:Nat):Int) 12∧min ((ByteArray.size a.Code:Nat):Int) 12≤((ByteArray.size a.Code:Nat):Int) then if 0≤min ((a.Slots.length:Nat):Int) 6∧min ((a.Slots.length:Nat):Int) 6≤((a.Slots.length:Nat):Int) then Option.bind (Jc a.Needs) fun(a2:List ByteArray)=>if out.length+1≤maxLen∧(out.length+1)*80≤140737488355328 then some (Sum.inl (out++[qa.mk (ByteArray.extract a.Code 0 (Int.toNat (min ((ByteArray.size a.Code:Nat):Int) 12))) a.Credits a.Places (List.take (Int.toNat (min ((a.Slots.length:Nat):Int) 6)-0) a.Slots) a2],w64 (k+1))) else none else none else none else none else some (Sum.inr out) else some (Sum.inr out)
theorem q45:∀(out l:List qa) (k:Int) (out_len:Nat),out_len=out.length→XL2 evo 9 0 3 ⟨[(0,rL 5 qb l),(3,rO 0 5 out_len),(4,rI k)],[(0,bR 35 5 qb out)],1,45⟩=(qT (Qf l) (out,k)).bind (fun(e:List qa)=>some (Exit.exit 0,⟨[(3,rO 0 5 e.length)],[(0,bR 35 5 qb e)],1,45⟩)):=
 by
 intro out l k out_len h0
 subst h0
 revert k;revert out;exact qie qrD qtt (fun e=>by exact⟨_,rfl,fun h=>by cases h⟩) fun out k=>by
  have:=cx9;have:=@qiu.eq_1;have:=@q4E;have:=@Qf.eq_1;exact gA
theorem q2t:∀  (l:List qa) (k:Int),XL2 evo 9 0 3 ⟨[(0,rL 5 qb l),(3,rO 0 5 0),(4,rI k)],[(0,B.row 35 5 [])],1,45⟩=(qT (Qf l) ([],k)).bind (fun(e:List qa)=>some (Exit.exit 0,⟨[(3,rO 0 5 e.length)],[(0,bR 35 5 qb e)],1,45⟩)):=by
 intro l k;have h:=q45 [] l k _ rfl
 first
  | exact h
  | (simp only[rL,dL,bR,bZ,Nat.reduceAdd] at h;exact h)
def q01 (l:List qa):Option (List qa):=Option.bind (qT (Qf l) ([],0)) fun(a:List qa)=>some a
theorem q5N:∀(l:List qa),ev 9 0 [rL 5 qb l] []=(q01 l).bind (fun(e:List qa)=>some (rL 5 qb e,[])):=
 fun l=>by
  rw[qP bd9 pw9.2.2.2 lo9]
  have:=cx9;have:=@q2t;have:=@q01.eq_1;exact gA
theorem qqq:okL 10 q5V:=qW (qc qln) (by kernel_rfl) (by kernel_rfl)
def qqh:=JA_ @q5V.eq_1 (JA_ @Try.f10.eq_1 @qln)
theorem qm9:lbO 10 5=qez:=zE (qc qln) rfl
theorem qmq:okL 10 qez:=qR qqq (qxk (i:=0) (by kernel_rfl))
theorem qko:lbO 10 10=q8Z:=zE (qc qln) rfl
theorem qiN:okL 10 q8Z:=qR qqq (qxk (i:=1) (by kernel_rfl))
theorem qld:lbO 10 16=q8E:=zE (qc qln) rfl
theorem qlh:okL 10 q8E:=qR qqq (qxk (i:=2) (by kernel_rfl))
theorem qw4:okL 19 qdd:=qW (qc qrT) (by kernel_rfl) (by kernel_rfl)
def qvn:=JA_ @qdd.eq_1 (JA_ @Try.f19.eq_1 @qrT)
def JR:Option (List ByteArray):=
 some [ByteArray.mk (List.toArray [65,49]),ByteArray.mk (List.toArray [66,49]),ByteArray.mk (List.toArray [66,50]),ByteArray.mk (List.toArray [67,49]),ByteArray.mk (List.toArray [68,49]),ByteArray.mk (List.toArray [69,57])]
def qg:List ByteArray:=
 [ByteArray.mk (List.toArray [65,49]),ByteArray.mk (List.toArray [66,49]),ByteArray.mk (List.toArray [66,50]),ByteArray.mk (List.toArray [67,49]),ByteArray.mk (List.toArray [68,49]),ByteArray.mk (List.toArray [69,57])]
theorem q4j:JR=some (qg):=by
 unfold JR qg
 simp only[q2b]
theorem JM:ev 19 0 [] []=some (R.c (C.d (D.sl 1 (qg).length ((qg).flatMap eS))),[]):=
 by
  have h:ev 19 0 [] []=(JR).bind (fun(e:List ByteArray)=>some (rL 1 eS e,[])):=by
   rw[qP qrT qul.2.2.2 qw4]
   have:=qvn;have:=@JR.eq_1;exact gA
  rw[q4j] at h
  exact h
theorem qvJ:okL 35 qdC:=qW (qc qsr) (by kernel_rfl) (by kernel_rfl)
def qxe:=JA_ @qdC.eq_1 (JA_ @Try.f35.eq_1 @qsr)
theorem qwk:okL 37 qdS:=qW (qc qr7) (by kernel_rfl) (by kernel_rfl)
def qw3:=JA_ @qdS.eq_1 (JA_ @Try.f37.eq_1 @qr7)
def Zq (n:Int) (m:Int):Option Int:=if m=0 then none else if m=0 then none else some (Int.tmod (w64 (Int.tmod n m+m)) m)
theorem q2L:∀(n m:Int),ev 37 0 [rI n,rI m] []=(Zq n m).bind (fun(e:Int)=>some (rI e,[])):=
 fun n m=>by
  rw[qP qr7 que.2.2.2 qwk]
  have:=qw3;have:=@Zq.eq_1;exact gA
def zm (n:Int) (d:qh):Option (Int×qh):=if((d.L.length:Nat):Int)≤d.At then some (0,d) else if 0≤w64 (w64 (d.At+1)-1)∧w64 (w64 (d.At+1)-1)<((d.L.length:Nat):Int) then Option.bind d.L[Int.toNat (w64 (w64 (d.At+1)-1))]? fun(a:Int)=>Option.bind (Zq a n) fun(a2:Int)=>some (a2,qh.mk d.L (w64 (d.At+1))) else none
theorem ZF:∀(n:Int) (d_L:List Int) (d_At:Int),ev 35 1 [rP 0,rI n] [(0,B.blk 59 [dL 1 eI d_L,dI d_At])]=(zm n (qh.mk d_L d_At)).bind (fun(e:Int×qh)=>some (rI e.1,[(0,B.blk 59 [dL 1 eI e.2.L,dI e.2.At])])):=
 fun n d_L d_At=>by
  rw[qP qsr qu7.2.2.2 qvJ]
  have:=qxe;have:=@q2L;have:=@zm.eq_1;exact gA
def zy (w1:List qa) (b2_Code:ByteArray) (b2_Credits:Int) (b2_Places:Int) (t5:List ByteArray) (t6:Int):(List Int×qh×Int)→Option ((List Int×qh×Int)⊕(List Int×qh))|(w3,b0,t8)=>if 0<t8 then if w3.length+1≤maxLen∧(w3.length+1)*8≤140737488355328 then Option.bind (zm 2 b0) fun(a:Prod Int qh)=>if(a.1==1)=Bool.true then if 0≤w64 (((w3.length+1:Nat):Int)-1)∧w64 (((w3.length+1:Nat):Int)-1)<((w3.length+1:Nat):Int) then Option.bind (w3++[t8])[Int.toNat (w64 (((w3.length+1:Nat):Int)-1))]? fun(a2:Int)=>if a2<4 then if 0≤w64 (((w3.length+1:Nat):Int)-1)∧w64 (((w3.length+1:Nat):Int)-1)<((w3.length+1:Nat):Int) then Option.bind (w3++[t8])[Int.toNat (w64 (((w3.length+1:Nat):Int)-1))]? fun(a3:Int)=>some (Sum.inl (w3++[t8],a.2,w64 (a3+1))) else none else some (Sum.inl (w3++[t8],a.2,0)) else none else some (Sum.inl (w3++[t8],a.2,0)) else none else some (Sum.inr (w3,b0))
theorem q2Y:∀(w1:List qa) (w3 b0_L:List Int) (b0_At:Int) (b2_Code:ByteArray) (b2_Credits b2_Places:Int) (t5:List ByteArray) (t6 t8:Int) (w1_len w3_len:Nat),w1_len=w1.length→w3_len=w3.length→XL2 evo 10 0 10 ⟨[(3,rP 0),(4,rO 1 5 w1_len),(5,rL 1 eS t5),(6,rI t6),(7,rP 2),(8,rI t8)],[(0,B.blk 59 [dL 1 eI b0_L,dI b0_At]),(1,bR 35 5 qb w1),(2,B.blk 35 [dS b2_Code,dI b2_Credits,dI b2_Places,dO 3 1 w3_len,C.nils]),(3,bR 3 1 eI w3)],4,101⟩=(qT (zy w1 b2_Code b2_Credits b2_Places t5 t6) (w3,(qh.mk b0_L b0_At),t8)).bind (fun(e:List Int×qh)=>some (Exit.exit 2,⟨[(3,rP 0),(4,rO 1 5 w1.length),(5,rL 1 eS t5),(6,rI t6),(7,rP 2)],[(0,B.blk 59 [dL 1 eI e.2.L,dI e.2.At]),(1,bR 35 5 qb w1),(2,B.blk 35 [dS b2_Code,dI b2_Credits,dI b2_Places,dO 3 1 e.1.length,C.nils]),(3,bR 3 1 eI e.1)],4,101⟩)):=
 by
 intro w1 w3 b0_L b0_At b2_Code b2_Credits b2_Places t5 t6 t8 w1_len w3_len h0 h1
 subst h0 h1
 have h:=q6Q (E:=evo) (f:=10) (k:=0) (st:=fun x:List Int×qh×Int=>(⟨[(3,rP 0),(4,rO 1 5 w1.length),(5,rL 1 eS t5),(6,rI t6),(7,rP 2),(8,rI x.2.2)],[(0,B.blk 59 [dL 1 eI x.2.1.L,dI x.2.1.At]),(1,bR 35 5 qb w1),(2,B.blk 35 [dS b2_Code,dI b2_Credits,dI b2_Places,dO 3 1 x.1.length,C.nils]),(3,bR 3 1 eI x.1)],4,101⟩:S)) (ex:=fun(e:List Int×qh)=>(Exit.exit 2,⟨[(3,rP 0),(4,rO 1 5 w1.length),(5,rL 1 eS t5),(6,rI t6),(7,rP 2)],[(0,B.blk 59 [dL 1 eI e.2.L,dI e.2.At]),(1,bR 35 5 qb w1),(2,B.blk 35 [dS b2_Code,dI b2_Credits,dI b2_Places,dO 3 1 e.1.length,C.nils]),(3,bR 3 1 eI e.1)],4,101⟩)) (step:=(zy w1 b2_Code b2_Credits b2_Places t5 t6)) qko qiN (fun e h=>by cases h) (fun x=>by
  obtain⟨w3,b0,t8⟩:=x;have:=qqh;have:=@q8Z.eq_1;have:=@ZF;have:=@zy.eq_1;exact gA) (w3,(qh.mk b0_L b0_At),t8)
 exact h
theorem q1f:∀  (w1:List qa) (b0_L:List Int) (b0_At:Int) (b2_Code:ByteArray) (b2_Credits b2_Places:Int) (t5:List ByteArray) (t6 t8:Int) (w1_len:Nat),w1_len=w1.length→XL2 evo 10 0 10 ⟨[(3,rP 0),(4,rO 1 5 w1_len),(5,rL 1 eS t5),(6,rI t6),(7,rP 2),(8,rI t8)],[(0,B.blk 59 [dL 1 eI b0_L,dI b0_At]),(1,bR 35 5 qb w1),(2,B.blk 35 [dS b2_Code,dI b2_Credits,dI b2_Places,dO 3 1 0,C.nils]),(3,B.row 3 1 [])],4,101⟩=(qT (zy w1 b2_Code b2_Credits b2_Places t5 t6) ([],(qh.mk b0_L b0_At),t8)).bind (fun(e:List Int×qh)=>some (Exit.exit 2,⟨[(3,rP 0),(4,rO 1 5 w1.length),(5,rL 1 eS t5),(6,rI t6),(7,rP 2)],[(0,B.blk 59 [dL 1 eI e.2.L,dI e.2.At]),(1,bR 35 5 qb w1),(2,B.blk 35 [dS b2_Code,dI b2_Credits,dI b2_Places,dO 3 1 e.1.length,C.nils]),(3,bR 3 1 eI e.1)],4,101⟩)):=by
 intro w1 b0_L b0_At b2_Code b2_Credits b2_Places t5 t6 t8 w1_len h0;subst h0;have h:=q2Y w1 [] ((qh.mk b0_L b0_At)).L ((qh.mk b0_L b0_At)).At b2_Code b2_Credits b2_Places t5 t6 t8 _ _ rfl rfl
 first
  | exact h
  | (simp only[rL,dL,bR,bZ,Nat.reduceAdd] at h;exact h)
def zQ (w1:List qa) (w3:List Int) (b2_Code:ByteArray) (b2_Credits:Int) (b2_Places:Int) (t5:List ByteArray) (t6:Int):(List ByteArray×qh×Int)→Option ((List ByteArray×qh×Int)⊕(List ByteArray×qh))|(w4,b0,t9)=>if t9<((w1.length:Nat):Int) then Option.bind (zm 3 b0) fun(a:Prod Int qh)=>if(a.1==0)=Bool.true then if((w4.length:Nat):Int)<2 then if 0≤t9∧t9<((w1.length:Nat):Int) then Option.bind w1[Int.toNat t9]? fun(a2:qa)=>if w4.length+1≤maxLen∧(w4.length+1)*16≤140737488355328 then some (Sum.inl (w4++[a2.Code],a.2,w64 (t9+1))) else none else none else some (Sum.inl (w4,a.2,w64 (t9+1))) else some (Sum.inl (w4,a.2,w64 (t9+1))) else some (Sum.inr (w4,b0))
theorem q39:∀(w1:List qa) (w3:List Int) (w4:List ByteArray) (b0_L:List Int) (b0_At:Int) (b2_Code:ByteArray) (b2_Credits b2_Places:Int) (t5:List ByteArray) (t6 t9:Int) (w1_len w3_len w4_len:Nat),w1_len=w1.length→w3_len=w3.length→w4_len=w4.length→XL2 evo 10 0 16 ⟨[(3,rP 0),(4,rO 1 5 w1_len),(5,rL 1 eS t5),(6,rI t6),(7,rP 2),(9,rI t9)],[(0,B.blk 59 [dL 1 eI b0_L,dI b0_At]),(1,bR 35 5 qb w1),(2,B.blk 35 [dS b2_Code,dI b2_Credits,dI b2_Places,dO 3 1 w3_len,dO 4 1 w4_len]),(3,bR 3 1 eI w3),(4,bR 9 1 eS w4)],5,101⟩=(qT (zQ w1 w3 b2_Code b2_Credits b2_Places t5 t6) (w4,(qh.mk b0_L b0_At),t9)).bind (fun(e:List ByteArray×qh)=>some (Exit.exit 4,⟨[(3,rP 0),(4,rO 1 5 w1.length),(5,rL 1 eS t5),(6,rI t6),(7,rP 2)],[(0,B.blk 59 [dL 1 eI e.2.L,dI e.2.At]),(1,bR 35 5 qb w1),(2,B.blk 35 [dS b2_Code,dI b2_Credits,dI b2_Places,dO 3 1 w3.length,dO 4 1 e.1.length]),(3,bR 3 1 eI w3),(4,bR 9 1 eS e.1)],5,101⟩)):=
 by
 intro w1 w3 w4 b0_L b0_At b2_Code b2_Credits b2_Places t5 t6 t9 w1_len w3_len w4_len h0 h1 h2
 subst h0 h1 h2
 have h:=q6Q (E:=evo) (f:=10) (k:=0) (st:=fun x:List ByteArray×qh×Int=>(⟨[(3,rP 0),(4,rO 1 5 w1.length),(5,rL 1 eS t5),(6,rI t6),(7,rP 2),(9,rI x.2.2)],[(0,B.blk 59 [dL 1 eI x.2.1.L,dI x.2.1.At]),(1,bR 35 5 qb w1),(2,B.blk 35 [dS b2_Code,dI b2_Credits,dI b2_Places,dO 3 1 w3.length,dO 4 1 x.1.length]),(3,bR 3 1 eI w3),(4,bR 9 1 eS x.1)],5,101⟩:S)) (ex:=fun(e:List ByteArray×qh)=>(Exit.exit 4,⟨[(3,rP 0),(4,rO 1 5 w1.length),(5,rL 1 eS t5),(6,rI t6),(7,rP 2)],[(0,B.blk 59 [dL 1 eI e.2.L,dI e.2.At]),(1,bR 35 5 qb w1),(2,B.blk 35 [dS b2_Code,dI b2_Credits,dI b2_Places,dO 3 1 w3.length,dO 4 1 e.1.length]),(3,bR 3 1 eI w3),(4,bR 9 1 eS e.1)],5,101⟩)) (step:=(zQ w1 w3 b2_Code b2_Credits b2_Places t5 t6)) qld qlh (fun e h=>by cases h) (fun x=>by
  obtain⟨w4,b0,t9⟩:=x;have:=qqh;have:=@q8E.eq_1;have:=@ZF;have:=@zQ.eq_1;exact gA) (w4,(qh.mk b0_L b0_At),t9)
 exact h
theorem q1h:∀  (w1:List qa) (w3 b0_L:List Int) (b0_At:Int) (b2_Code:ByteArray) (b2_Credits b2_Places:Int) (t5:List ByteArray) (t6 t9:Int) (w1_len w3_len:Nat),w1_len=w1.length→w3_len=w3.length→XL2 evo 10 0 16 ⟨[(3,rP 0),(4,rO 1 5 w1_len),(5,rL 1 eS t5),(6,rI t6),(7,rP 2),(9,rI t9)],[(0,B.blk 59 [dL 1 eI b0_L,dI b0_At]),(1,bR 35 5 qb w1),(2,B.blk 35 [dS b2_Code,dI b2_Credits,dI b2_Places,dO 3 1 w3_len,dO 4 1 0]),(3,bR 3 1 eI w3),(4,B.row 9 1 [])],5,101⟩=(qT (zQ w1 w3 b2_Code b2_Credits b2_Places t5 t6) ([],(qh.mk b0_L b0_At),t9)).bind (fun(e:List ByteArray×qh)=>some (Exit.exit 4,⟨[(3,rP 0),(4,rO 1 5 w1.length),(5,rL 1 eS t5),(6,rI t6),(7,rP 2)],[(0,B.blk 59 [dL 1 eI e.2.L,dI e.2.At]),(1,bR 35 5 qb w1),(2,B.blk 35 [dS b2_Code,dI b2_Credits,dI b2_Places,dO 3 1 w3.length,dO 4 1 e.1.length]),(3,bR 3 1 eI w3),(4,bR 9 1 eS e.1)],5,101⟩)):=by
 intro w1 w3 b0_L b0_At b2_Code b2_Credits b2_Places t5 t6 t9 w1_len w3_len h0 h1;subst h0 h1;have h:=q39 w1 w3 [] ((qh.mk b0_L b0_At)).L ((qh.mk b0_L b0_At)).At b2_Code b2_Credits b2_Places t5 t6 t9 _ _ _ rfl rfl rfl
 first
  | exact h
  | (simp only[rL,dL,bR,bZ,Nat.reduceAdd] at h;exact h)
def zl (t5:List ByteArray):(List qa×qh×Int)→Option ((List qa×qh×Int)⊕(List qa))|(w1,b0,t6)=>if t6<((t5.length:Nat):Int) then Option.bind (zm 5 b0) fun(a:Prod Int qh)=>if(a.1==4)=Bool.true then some (Sum.inl (w1,a.2,w64 (t6+1))) else if 0≤t6∧t6<((t5.length:Nat):Int) then Option.bind t5[Int.toNat t6]? fun(a2:ByteArray)=>Option.bind (zm 6 a.2) fun(a3:Prod Int qh)=>if 0≤a3.1∧a3.1<6 then Option.bind [(5:Int),6,3,10,5,20][Int.toNat a3.1]? fun(a4:Int)=>Option.bind (zm 6 a3.2) fun(a5:Prod Int qh)=>if 0≤a5.1∧a5.1<6 then Option.bind [(2:Int),1,0,30,200,3][Int.toNat a5.1]? fun(a6:Int)=>Option.bind (zm 4 a5.2) fun(a7:Prod Int qh)=>Option.bind (qT (zy w1 a2 a4 a6 t5 t6) ([],(a7.2,a7.1))) fun(a8:Prod (List Int) qh)=>Option.bind (qT (zQ w1 a8.1 a2 a4 a6 t5 t6) ([],(a8.2,0))) fun(a9:Prod (List ByteArray) qh)=>if w1.length+1≤maxLen∧(w1.length+1)*80≤140737488355328 then some (Sum.inl (w1++[qa.mk a2 a4 a6 a8.1 a9.1],a9.2,w64 (t6+1))) else none else none else none else none else some (Sum.inr w1)
theorem q3G:∀(w1:List qa) (b0_L:List Int) (b0_At:Int) (t5:List ByteArray) (t6:Int) (w1_len:Nat),w1_len=w1.length→XL2 evo 10 0 5 ⟨[(3,rP 0),(4,rO 1 5 w1_len),(5,rL 1 eS t5),(6,rI t6)],[(0,B.blk 59 [dL 1 eI b0_L,dI b0_At]),(1,bR 35 5 qb w1)],2,101⟩=(qT (zl t5) (w1,(qh.mk b0_L b0_At),t6)).bind (fun(e:List qa)=>some (Exit.exit 0,⟨[(4,rO 0 5 e.length)],[(0,bR 35 5 qb e)],1,101⟩)):=
 by
 intro w1 b0_L b0_At t5 t6 w1_len h0
 subst h0
 have h:=q6Q (E:=evo) (f:=10) (k:=0) (st:=fun x:List qa×qh×Int=>(⟨[(3,rP 0),(4,rO 1 5 x.1.length),(5,rL 1 eS t5),(6,rI x.2.2)],[(0,B.blk 59 [dL 1 eI x.2.1.L,dI x.2.1.At]),(1,bR 35 5 qb x.1)],2,101⟩:S)) (ex:=fun(e:List qa)=>(Exit.exit 0,⟨[(4,rO 0 5 e.length)],[(0,bR 35 5 qb e)],1,101⟩)) (step:=(zl t5)) qm9 qmq (fun e h=>by cases h) (fun x=>by
  obtain⟨w1,b0,t6⟩:=x;have:=qqh;have:=@qez.eq_1;have:=@ZF;have:=@q1f;have:=@q1h;have:=@zl.eq_1;exact gA) (w1,(qh.mk b0_L b0_At),t6)
 exact h
theorem q1D:∀  (b0_L:List Int) (b0_At:Int) (t5:List ByteArray) (t6:Int),XL2 evo 10 0 5 ⟨[(3,rP 0),(4,rO 1 5 0),(5,rL 1 eS t5),(6,rI t6)],[(0,B.blk 59 [dL 1 eI b0_L,dI b0_At]),(1,B.row 35 5 [])],2,101⟩=(qT (zl t5) ([],(qh.mk b0_L b0_At),t6)).bind (fun(e:List qa)=>some (Exit.exit 0,⟨[(4,rO 0 5 e.length)],[(0,bR 35 5 qb e)],1,101⟩)):=by
 intro b0_L b0_At t5 t6;have h:=q3G [] ((qh.mk b0_L b0_At)).L ((qh.mk b0_L b0_At)).At t5 t6 _ rfl
 first
  | exact h
  | (simp only[rL,dL,bR,bZ,Nat.reduceAdd] at h;exact h)
def ZU (x0:List Int):Option (List qa):=Option.bind (qT (zl qg) ([],(qh.mk x0 0,0))) fun(a:List qa)=>some a
theorem q5A:∀(x0:List Int),ev 10 0 [rL 1 eI x0] []=(ZU x0).bind (fun(e:List qa)=>some (rL 5 qb e,[])):=
 fun x0=>by
  rw[qP qln qtC.2.2.2 qqq]
  have:=qqh;have:=@JM;have:=@q1D;have:=@ZU.eq_1;exact gA
def zj (l:List qa) (next:List ByteArray):(List ByteArray×List ByteArray×Int)→Option ((List ByteArray×List ByteArray×Int)⊕(List ByteArray×List ByteArray))|(more,out,k)=>if k<((next.length:Nat):Int) then if 0≤k∧k<((next.length:Nat):Int) then Option.bind next[Int.toNat k]? fun(a:ByteArray)=>Option.bind (QN out a) fun(a2:Bool)=>if(!a2)=Bool.true then if 0≤k∧k<((next.length:Nat):Int) then Option.bind next[Int.toNat k]? fun(a3:ByteArray)=>Option.bind (Jp out a3) fun(a4:List ByteArray)=>if 0≤k∧k<((next.length:Nat):Int) then Option.bind next[Int.toNat k]? fun(a5:ByteArray)=>Option.bind (Qu l a5) fun(a6:Prod qa Bool)=>if more.length+a6.1.Needs.length≤maxLen∧(more.length+a6.1.Needs.length)*16≤140737488355328 then some (Sum.inl (more++a6.1.Needs,a4,w64 (k+1))) else none else none else none else some (Sum.inl (more,out,w64 (k+1))) else none else some (Sum.inr (more,out))
theorem q3c:∀(more:List ByteArray) (l:List qa) (out next:List ByteArray) (k:Int) (more_len:Nat),more_len=more.length→XL2 evo 24 0 7 ⟨[(0,rL 5 qb l),(5,rL 1 eS out),(8,rL 1 eS next),(9,rO 0 1 more_len),(10,rI k)],[(0,bR 9 1 eS more)],1,58⟩=(qT (zj l next) (more,out,k)).bind (fun(e:List ByteArray×List ByteArray)=>some (Exit.exit 2,⟨[(0,rL 5 qb l),(5,rL 1 eS e.2),(9,rO 0 1 e.1.length)],[(0,bR 9 1 eS e.1)],1,58⟩)):=
 by
 intro more l out next k more_len h0
 subst h0
 revert k;revert out;revert more;exact qrc qhB qhr (fun e=>by exact⟨_,rfl,fun h=>by cases h⟩) fun more out k=>by
  have:=qni;have:=@qah.eq_1;have:=@Zg;have:=@q2D;have:=@QY;have:=@zj.eq_1;exact gA
theorem q1i:∀  (l:List qa) (out next:List ByteArray) (k:Int),XL2 evo 24 0 7 ⟨[(0,rL 5 qb l),(5,rL 1 eS out),(8,rL 1 eS next),(9,rO 0 1 0),(10,rI k)],[(0,B.row 9 1 [])],1,58⟩=(qT (zj l next) ([],out,k)).bind (fun(e:List ByteArray×List ByteArray)=>some (Exit.exit 2,⟨[(0,rL 5 qb l),(5,rL 1 eS e.2),(9,rO 0 1 e.1.length)],[(0,bR 9 1 eS e.1)],1,58⟩)):=by
 intro l out next k;have h:=q3c [] l out next k _ rfl
 first
  | exact h
  | (simp only[rL,dL,bR,bZ,Nat.reduceAdd] at h;exact h)
def QK (next:List ByteArray) (l:List qa):(List ByteArray×List ByteArray×Int)→Option ((List ByteArray×List ByteArray×Int)⊕(List ByteArray×List ByteArray))|(more,out,k)=>if k<((next.length:Nat):Int) then if 0≤k∧k<((next.length:Nat):Int) then Option.bind next[Int.toNat k]? fun(a:ByteArray)=>Option.bind (QN out a) fun(a2:Bool)=>if(!a2)=Bool.true then if 0≤k∧k<((next.length:Nat):Int) then Option.bind next[Int.toNat k]? fun(a3:ByteArray)=>Option.bind (Jp out a3) fun(a4:List ByteArray)=>if 0≤k∧k<((next.length:Nat):Int) then Option.bind next[Int.toNat k]? fun(a5:ByteArray)=>Option.bind (Qu l a5) fun(a6:Prod qa Bool)=>if more.length+a6.1.Needs.length≤maxLen∧(more.length+a6.1.Needs.length)*16≤140737488355328 then some (Sum.inl (more++a6.1.Needs,a4,w64 (k+1))) else none else none else none else some (Sum.inl (more,out,w64 (k+1))) else none else some (Sum.inr (more,out))
theorem q1z:∀(next more:List ByteArray) (l:List qa) (out:List ByteArray) (k:Int) (next_len more_len:Nat),next_len=next.length→more_len=more.length→XL2 evo 24 0 7 ⟨[(0,rL 5 qb l),(5,rL 1 eS out),(8,rO 0 1 next_len),(9,rO 1 1 more_len),(10,rI k)],[(0,bR 9 1 eS next),(1,bR 9 1 eS more)],2,58⟩=(qT (QK next l) (more,out,k)).bind (fun(e:List ByteArray×List ByteArray)=>some (Exit.exit 2,⟨[(0,rL 5 qb l),(5,rL 1 eS e.2),(9,rO 0 1 e.1.length)],[(0,bR 9 1 eS e.1)],1,58⟩)):=
 by
 intro next more l out k next_len more_len h0 h1
 subst h0 h1
 revert k;revert out;revert more;exact qrc qhB qhr (fun e=>by exact⟨_,rfl,fun h=>by cases h⟩) fun more out k=>by
  have:=qni;have:=@qah.eq_1;have:=@Zg;have:=@q2D;have:=@QY;have:=@QK.eq_1;exact gA
theorem q0t:∀  (next:List ByteArray) (l:List qa) (out:List ByteArray) (k:Int) (next_len:Nat),next_len=next.length→XL2 evo 24 0 7 ⟨[(0,rL 5 qb l),(5,rL 1 eS out),(8,rO 0 1 next_len),(9,rO 1 1 0),(10,rI k)],[(0,bR 9 1 eS next),(1,B.row 9 1 [])],2,58⟩=(qT (QK next l) ([],out,k)).bind (fun(e:List ByteArray×List ByteArray)=>some (Exit.exit 2,⟨[(0,rL 5 qb l),(5,rL 1 eS e.2),(9,rO 0 1 e.1.length)],[(0,bR 9 1 eS e.1)],1,58⟩)):=by
 intro next l out k next_len h0;subst h0;have h:=q1z next [] l out k _ _ rfl rfl
 first
  | exact h
  | (simp only[rL,dL,bR,bZ,Nat.reduceAdd] at h;exact h)
def zt (l:List qa):(List ByteArray×List ByteArray)→Option ((List ByteArray×List ByteArray)⊕(List ByteArray))|(next,out)=>if 0<((next.length:Nat):Int) then Option.bind (qT (QK next l) ([],(out,0))) fun(a:Prod (List ByteArray) (List ByteArray))=>some (Sum.inl (a.1,a.2)) else some (Sum.inr out)
theorem q1u:∀(next:List ByteArray) (l:List qa) (out:List ByteArray) (next_len:Nat),next_len=next.length→XL2 evo 24 0 4 ⟨[(0,rL 5 qb l),(5,rL 1 eS out),(8,rO 0 1 next_len)],[(0,bR 9 1 eS next)],1,58⟩=(qT (zt l) (next,out)).bind (fun(e:List ByteArray)=>some (Exit.exit 0,⟨[(5,rL 1 eS e)],[],0,58⟩)):=
 by
 intro next l out next_len h0
 subst h0
 revert out;revert next;exact qie qi2 qhX (fun e=>by exact⟨_,rfl,fun h=>by cases h⟩) fun next out=>by
  have:=qni;have:=@q9K.eq_1;have:=@q0t;have:=@zt.eq_1;exact gA
def QJ (l:List qa) (out:List ByteArray) (next:List ByteArray):Option (List ByteArray):=if 0<((next.length:Nat):Int) then Option.bind (qT (zj l next) ([],(out,0))) fun(a:Prod (List ByteArray) (List ByteArray))=>Option.bind (qT (zt l) (a.1,a.2)) fun(e0:List ByteArray)=>some e0 else some out
theorem q1Q:∀(l:List qa) (out next:List ByteArray),XL2 evo 24 0 4 ⟨[(0,rL 5 qb l),(5,rL 1 eS out),(8,rL 1 eS next)],[],0,58⟩=(QJ l out next).bind (fun(e:List ByteArray)=>some (Exit.exit 0,⟨[(5,rL 1 eS e)],[],0,58⟩)):=
 fun l out next=>by
  rw[qjU qi2 qhX]
  have:=qni;have:=@q9K.eq_1;have:=@qdy;have:=@qkH;have:=@qnn;have:=@qlb;have:=@qmf;have:=@qjw;have:=@qok;have:=@q1u;have:=@q1i;have:=@QJ.eq_1;exact gA
theorem q0v:∀  (l:List qa) (next:List ByteArray),XL2 evo 24 0 4 ⟨[(0,rL 5 qb l),(5,R.c (C.d (D.sl 1 0 []))),(8,rL 1 eS next)],[],0,58⟩=(QJ l [] next).bind (fun(e:List ByteArray)=>some (Exit.exit 0,⟨[(5,rL 1 eS e)],[],0,58⟩)):=by
 intro l next;have h:=q1Q l [] next
 first
  | exact h
  | (simp only[rL,dL,bR,bZ,Nat.reduceAdd] at h;exact h)
def Z3 (l:List qa) (code:ByteArray):Option (List ByteArray):=Option.bind (Qu l code) fun(a:Prod qa Bool)=>Option.bind (QJ l [] a.1.Needs) fun(a2:List ByteArray)=>some a2
theorem q1a:∀(l:List qa) (code:ByteArray),ev 24 0 [rL 5 qb l,rS code] []=(Z3 l code).bind (fun(e:List ByteArray)=>some (rL 1 eS e,[])):=
 fun l code=>by
  rw[qP qlT qut.2.2.2 qte]
  have:=qni;have:=@QY;have:=@q0v;have:=@Z3.eq_1;exact gA
def Q7 (t0:List qa):Int→Option (Int⊕(Unit⊕Unit))|t10=>if t10<((t0.length:Nat):Int) then if 0≤t10∧t10<((t0.length:Nat):Int) then Option.bind t0[Int.toNat t10]? fun(a:qa)=>Option.bind (Z3 t0 a.Code) fun(a2:List ByteArray)=>if 0≤t10∧t10<((t0.length:Nat):Int) then Option.bind t0[Int.toNat t10]? fun(a3:qa)=>Option.bind (QN a2 a3.Code) fun(a4:Bool)=>if a4=Bool.true then some (Sum.inr (Sum.inl ())) else some (Sum.inl (w64 (t10+1))) else none else none else some (Sum.inr (Sum.inr ()))
theorem q2n:∀(t0:List qa) (t10:Int),XL2 evo 13 0 26 ⟨[(0,rL 5 qb t0),(10,rI t10)],[],0,121⟩=(qT (Q7 t0) t10).bind (Sum.elim (fun(e:Unit)=>some (Exit.ret,⟨[(2,rI 14)],[],0,121⟩)) (fun(e:Unit)=>some (Exit.exit 7,⟨[(2,R.any)],[],0,121⟩))):=
 fun t0 t10=>by
  revert t10;exact q2s qkh qjS (fun e=>by rcases e with _|_<;>exact⟨_,rfl,fun h=>by cases h⟩) fun x=>by
   have:=qnv;have:=@q93.eq_1;have:=@q1a;have:=@Zg;have:=@Q7.eq_1;exact gA
def J7 (x0:List qa):Option Int:=if 60<((x0.length:Nat):Int) then some 2 else Option.bind (qT (zP x0) 0) fun(a:Sum Int Unit)=>Sum.elim (fun(a2:Int)=>some a2) (fun(a3:Unit)=>Option.bind (qT (Q6 x0) 0) fun(a4:Sum Unit Unit)=>Sum.elim (fun(a5:Unit)=>some 5) (fun(a6:Unit)=>Option.bind (qT (Q7 x0) 0) fun(a7:Sum Unit Unit)=>Sum.elim (fun(a8:Unit)=>some 14) (fun(a9:Unit)=>some 0) a7) a4) a
theorem q4A:∀(x0:List qa),ev 13 0 [rL 5 qb x0] []=(J7 x0).bind (fun(e:Int)=>some (rI e,[])):=
 fun x0=>by
  rw[qP qiC quR.2.2.2 qp6]
  have:=qnv;have:=@q2V;have:=@q2l;have:=@q2n;have:=@J7.eq_1;exact gA
def Q1 (out:List ByteArray) (l:List qa):Int→Option (Int⊕(List ByteArray))|k=>if k<((l.length:Nat):Int) then if 0≤k∧k<((l.length:Nat):Int) then Option.bind l[Int.toNat k]? fun(a:qa)=>Option.bind (QN out a.Code) fun(a2:Bool)=>if(!a2)=Bool.true then if 0≤k∧k<((l.length:Nat):Int) then Option.bind l[Int.toNat k]? fun(a3:qa)=>Option.bind (Jt l a3.Code out) fun(a4:Bool)=>if a4=Bool.true then if 0≤k∧k<((l.length:Nat):Int) then Option.bind l[Int.toNat k]? fun(a5:qa)=>if out.length+1≤maxLen∧(out.length+1)*16≤140737488355328 then some (Sum.inr (out++[a5.Code])) else none else none else some (Sum.inl (w64 (k+1))) else none else some (Sum.inl (w64 (k+1))) else none else some (Sum.inr out)
theorem q2Q:∀(out:List ByteArray) (l:List qa) (k:Int) (out_len:Nat),out_len=out.length→XL2 evo 18 0 6 ⟨[(0,rL 5 qb l),(3,rO 0 1 out_len),(4,rI k)],[(0,bR 9 1 eS out)],1,46⟩=(qT (Q1 out l) k).bind (fun(e:List ByteArray)=>some (Exit.exit 2,⟨[(0,rL 5 qb l),(3,rO 0 1 e.length)],[(0,bR 9 1 eS e)],1,46⟩)):=
 by
 intro out l k out_len h0
 subst h0
 revert k;exact q2s qnu qpr (fun e=>by exact⟨_,rfl,fun h=>by cases h⟩) fun x=>by
  have:=qsF;have:=@qci.eq_1;have:=@Zg;have:=@q2F;have:=@Q1.eq_1;exact gA
def Qk (l:List qa):(List ByteArray)→Option ((List ByteArray)⊕(List ByteArray))|out=>if((out.length:Nat):Int)<((l.length:Nat):Int) then Option.bind (qT (Q1 out l) 0) fun(a:List ByteArray)=>some (Sum.inl a) else some (Sum.inr out)
theorem q2O:∀(out:List ByteArray) (l:List qa) (out_len:Nat),out_len=out.length→XL2 evo 18 0 4 ⟨[(0,rL 5 qb l),(3,rO 0 1 out_len)],[(0,bR 9 1 eS out)],1,46⟩=(qT (Qk l) out).bind (fun(e:List ByteArray)=>some (Exit.exit 0,⟨[(3,rO 0 1 e.length)],[(0,bR 9 1 eS e)],1,46⟩)):=
 by
 intro out l out_len h0
 subst h0
 revert out;exact q2s qpK qpJ (fun e=>by exact⟨_,rfl,fun h=>by cases h⟩) fun x=>by
  have:=qsF;have:=@qdF.eq_1;have:=@q2Q;have:=@Qk.eq_1;exact gA
theorem q1d:∀  (l:List qa),XL2 evo 18 0 4 ⟨[(0,rL 5 qb l),(3,rO 0 1 0)],[(0,B.row 9 1 [])],1,46⟩=(qT (Qk l) []).bind (fun(e:List ByteArray)=>some (Exit.exit 0,⟨[(3,rO 0 1 e.length)],[(0,bR 9 1 eS e)],1,46⟩)):=by
 intro l;have h:=q2O [] l _ rfl
 first
  | exact h
  | (simp only[rL,dL,bR,bZ,Nat.reduceAdd] at h;exact h)
def J6 (l:List qa):Option (List ByteArray):=Option.bind (J7 l) fun(a:Int)=>if(a != 0)=Bool.true then some [] else Option.bind (qT (Qk l) []) fun(a2:List ByteArray)=>some a2
theorem q4D:∀(l:List qa),ev 18 0 [rL 5 qb l] []=(J6 l).bind (fun(e:List ByteArray)=>some (rL 1 eS e,[])):=
 fun l=>by
  rw[qP qlP quj.2.2.2 qtw]
  have:=qsF;have:=@q4A;have:=@q1d;have:=@J6.eq_1;exact gA
theorem qsW:okL 11 q7x:=qW (qc qo0) (by kernel_rfl) (by kernel_rfl)
def qty:=JA_ @q7x.eq_1 (JA_ @Try.f11.eq_1 @qo0)
theorem qlO:lbO 11 3=qbN:=zE (qc qo0) rfl
theorem qmn:okL 11 qbN:=qR qsW (qxk (i:=0) (by kernel_rfl))
theorem qja:lbO 11 33=q8w:=zE (qc qo0) rfl
theorem qj5:okL 11 q8w:=qR qsW (qxk (i:=1) (by kernel_rfl))
def Qs (b0:q7k Int) (t0:List qa):(List qa×Int)→Option ((List qa×Int)⊕(List qa))|(w1,t6)=>if t6<((t0.length:Nat):Int) then if 0≤t6∧t6<((t0.length:Nat):Int) then Option.bind t0[Int.toNat t6]? fun(a:qa)=>Option.bind (ZS a) fun(a2:Prod ByteArray (Prod Int (Prod Int (Prod (List Int) (List ByteArray)))))=>if w1.length+1≤maxLen∧(w1.length+1)*80≤140737488355328 then some (Sum.inl (w1++[qa.mk a2.1 a2.2.1 a2.2.2.1 a2.2.2.2.1 a2.2.2.2.2],w64 (t6+1))) else none else none else some (Sum.inr w1)
theorem q3T:∀(w1:List qa) (b0_0 b0_1 b0_2:Int) (t0:List qa) (t6:Int) (w1_len:Nat),w1_len=w1.length→XL2 evo 11 0 3 ⟨[(0,rL 5 qb t0),(3,rP 0),(5,rO 1 5 w1_len),(6,rI t6)],[(0,B.blk 23 [dI b0_0,dI b0_1,dI b0_2]),(1,B.row 35 5 (w1.flatMap ql))],2,186⟩=(qT (Qs (q7k.mk b0_0 b0_1 b0_2) t0) (w1,t6)).bind (fun(e:List qa)=>some (Exit.exit 0,⟨[(3,rP 0),(5,rO 1 5 e.length)],[(0,B.blk 23 [dI b0_0,dI b0_1,dI b0_2]),(1,B.row 35 5 (e.flatMap ql))],2,186⟩)):=
 by
 intro w1 b0_0 b0_1 b0_2 t0 t6 w1_len h0
 subst h0
 revert t6;revert w1;exact qie qlO qmn (fun e=>by exact⟨_,rfl,fun h=>by cases h⟩) fun w1 t6=>by
  have:=qty;have:=@qbN.eq_1;have:=@q1U;have:=@Qs.eq_1;exact gA
theorem q2i:∀  (b0_0 b0_1 b0_2:Int) (t0:List qa) (t6:Int),XL2 evo 11 0 3 ⟨[(0,rL 5 qb t0),(3,rP 0),(5,rO 1 5 0),(6,rI t6)],[(0,B.blk 23 [dI b0_0,dI b0_1,dI b0_2]),(1,B.row 35 5 [])],2,186⟩=(qT (Qs (q7k.mk b0_0 b0_1 b0_2) t0) ([],t6)).bind (fun(e:List qa)=>some (Exit.exit 0,⟨[(3,rP 0),(5,rO 1 5 e.length)],[(0,B.blk 23 [dI b0_0,dI b0_1,dI b0_2]),(1,B.row 35 5 (e.flatMap ql))],2,186⟩)):=by
 intro b0_0 b0_1 b0_2 t0 t6;have h:=q3T [] ((q7k.mk b0_0 b0_1 b0_2)).a0 ((q7k.mk b0_0 b0_1 b0_2)).a1 ((q7k.mk b0_0 b0_1 b0_2)).a2 t0 t6 _ rfl
 first
  | exact h
  | (simp only[rL,dL,bR,bZ,Nat.reduceAdd] at h;exact h)
def Qz (t7:Int):(List qa)→Option ((List qa)⊕(List qa))|w0=>if((w0.length:Nat):Int)<w64 (60+Int.tmod t7 2) then if ByteArray.size (ByteArray.mk (List.toArray [89]))+ByteArray.size (strOf [IntKind.wrap IntKind.u8 (w64 (65+w64 (Int.tdiv ((w0.length:Nat):Int) 10))),IntKind.wrap IntKind.u8 (w64 (48+Int.tmod ((w0.length:Nat):Int) 10))])≤9223372036854775807 then if w0.length+1≤maxLen∧(w0.length+1)*80≤140737488355328 then some (Sum.inl (w0++[qa.mk (ByteArray.mk (List.toArray [89])++strOf [IntKind.wrap IntKind.u8 (w64 (65+w64 (Int.tdiv ((w0.length:Nat):Int) 10))),IntKind.wrap IntKind.u8 (w64 (48+Int.tmod ((w0.length:Nat):Int) 10))]) 1 0 [] []])) else none else none else some (Sum.inr w0)
theorem q3n:∀(w0:List qa) (t7:Int) (w0_len:Nat),w0_len=w0.length→XL2 evo 11 0 33 ⟨[(5,rO 0 5 w0_len),(7,rI t7)],[(0,B.row 35 5 (w0.flatMap ql))],1,186⟩=(qT (Qz t7) w0).bind (fun(e:List qa)=>some (Exit.exit 3,⟨[(5,rO 0 5 e.length)],[(0,B.row 35 5 (e.flatMap ql))],1,186⟩)):=
 by
 intro w0 t7 w0_len h0
 subst h0
 revert w0;exact q2s qja qj5 (fun e=>by exact⟨_,rfl,fun h=>by cases h⟩) fun x=>by
  have:=qty;have:=@q8w.eq_1;have:=@Qz.eq_1;exact gA
def Zr (x0:List qa) (x1:q7k Int):Option (List qa):=Option.bind (qT (Qs x1 x0) ([],0)) fun(a:List qa)=>if(((a.length:Nat):Int)==0)=Bool.true then some a else Option.bind (Zq x1.a1 72) fun(a2:Int)=>Option.bind (Zq x1.a2 ((a.length:Nat):Int)) fun(a3:Int)=>if 0≤a3∧a3<((a.length:Nat):Int) then Option.bind (Zq x1.a0 11) fun(a4:Int)=>if(a4==0)=Bool.true then if 0≤Int.tmod a2 8∧Int.tmod a2 8<8 then Option.bind [ByteArray.mk (List.toArray []),ByteArray.mk (List.toArray [97]),ByteArray.mk (List.toArray [65,66,67,68,69,70,71,72,73]),ByteArray.mk (List.toArray [65,49]),ByteArray.mk (List.toArray [66,50]),ByteArray.mk (List.toArray [90]),ByteArray.mk (List.toArray [65,66,67,68,69,70,71,72]),ByteArray.mk (List.toArray [65,32,49])][Int.toNat (Int.tmod a2 8)]? fun(a5:ByteArray)=>if Int.toNat a3*5+1≤a.length*5 then some (List.modify a (Int.toNat a3) (fun(x:qa)=>qa.mk a5 x.Credits x.Places x.Slots x.Needs)) else none else none else if(a4==1)=Bool.true then if Int.toNat a3*5+1+1≤a.length*5 then some (List.modify a (Int.toNat a3) (fun(x2:qa)=>qa.mk x2.Code (w64 (a2-5)) x2.Places x2.Slots x2.Needs)) else none else if(a4==2)=Bool.true then if 0≤Int.tmod a2 4∧Int.tmod a2 4<4 then Option.bind [(-1),0,200,201][Int.toNat (Int.tmod a2 4)]? fun(a6:Int)=>if Int.toNat a3*5+2+1≤a.length*5 then some (List.modify a (Int.toNat a3) (fun(x3:qa)=>qa.mk x3.Code x3.Credits a6 x3.Slots x3.Needs)) else none else none else if(a4==3)=Bool.true then Option.bind a[Int.toNat a3]? fun(a7:qa)=>if a7.Slots.length+1≤maxLen∧(a7.Slots.length+1)*8≤140737488355328 then if Int.toNat a3*5+3<a.length*5 then some (List.modify a (Int.toNat a3) (fun(x4:qa)=>qa.mk x4.Code x4.Credits x4.Places (a7.Slots++[w64 (a2-20)]) x4.Needs)) else none else none else if(a4==4)=Bool.true then Option.bind a[Int.toNat a3]? fun(a8:qa)=>if a8.Slots.length+1≤maxLen∧(a8.Slots.length+1)*8≤140737488355328 then if Int.toNat a3*5+3<a.length*5 then some (List.modify a (Int.toNat a3) (fun(x5:qa)=>qa.mk x5.Code x5.Credits x5.Places (a8.Slots++[w64 (40+Int.tmod a2 2)]) x5.Needs)) else none else none else if(a4==5)=Bool.true then Option.bind a[Int.toNat a3]? fun(a9:qa)=>Option.bind a[Int.toNat a3]? fun(a10:qa)=>if 0≤Int.tmod a2 6∧Int.tmod a2 6<((qg.length:Nat):Int) then Option.bind qg[Int.toNat (Int.tmod a2 6)]? fun(a11:ByteArray)=>if a9.Needs.length+1≤maxLen∧(a9.Needs.length+1)*16≤140737488355328 then if((if(!(List.all (@spr (List.flatMap ql a) (Int.toNat a3*5+4) [C.own 2 1 0 a9.Needs.length]) (@C.farF [2])))=Bool.true then Bool.true else Bool.false)||List.all (@spr (List.flatMap ql a) (Int.toNat a3*5+4) [C.own 2 1 0 a9.Needs.length]) (@C.farF [2]))=Bool.true then if Int.toNat a3*5+4<a.length*5 then some (List.modify a (Int.toNat a3) (fun(x6:qa)=>qa.mk x6.Code x6.Credits x6.Places x6.Slots (a9.Needs++[a11]))) else none else none else none else none else if(a4==6)=Bool.true then if 0≤Int.tmod a2 6∧Int.tmod a2 6<((qg.length:Nat):Int) then Option.bind qg[Int.toNat (Int.tmod a2 6)]? fun(a12:ByteArray)=>if Int.toNat a3*5+4<a.length*5 then some (List.modify a (Int.toNat a3) (fun(x7:qa)=>qa.mk x7.Code x7.Credits x7.Places x7.Slots [a12])) else none else none else if(a4==7)=Bool.true then Option.bind a[Int.toNat a3]? fun(a13:qa)=>if a13.Needs.length+1≤maxLen∧(a13.Needs.length+1)*16≤140737488355328 then if Int.toNat a3*5+4<a.length*5 then some (List.modify a (Int.toNat a3) (fun(x8:qa)=>qa.mk x8.Code x8.Credits x8.Places x8.Slots (a13.Needs++[ByteArray.mk (List.toArray [90])]))) else none else none else if(a4==8)=Bool.true then if 0≤Int.tmod a2 7∧Int.tmod a2 7≤6 then if Int.toNat a3*5+4<a.length*5 then some (List.modify a (Int.toNat a3) (fun(x9:qa)=>qa.mk x9.Code x9.Credits x9.Places x9.Slots (List.take (Int.toNat (Int.tmod a2 7)) [ByteArray.mk (List.toArray [65,49]),ByteArray.mk (List.toArray [66,49]),ByteArray.mk (List.toArray [66,50]),ByteArray.mk (List.toArray [67,49]),ByteArray.mk (List.toArray [68,49]),ByteArray.mk (List.toArray [69,57])]))) else none else none else if(a4==9)=Bool.true then if((a.length:Nat):Int)=0 then none else if 0≤Int.tmod a2 ((a.length:Nat):Int)∧Int.tmod a2 ((a.length:Nat):Int)<((a.length:Nat):Int) then Option.bind a[Int.toNat (Int.tmod a2 ((a.length:Nat):Int))]? fun(a14:qa)=>Option.bind a[Int.toNat a3]? fun(a15:qa)=>if Int.toNat a3*5+5≤a.length*5 then if 0≤Int.tmod a2 ((a.length:Nat):Int)∧Int.tmod a2 ((a.length:Nat):Int)<((a.length:Nat):Int) then if Int.toNat (Int.tmod a2 ((a.length:Nat):Int))*5+5≤a.length*5 then some (List.set (List.set a (Int.toNat a3) a14) (Int.toNat (Int.tmod a2 ((a.length:Nat):Int))) a15) else none else none else none else none else if(a4==10)=Bool.true then Option.bind (qT (Qz a2) a) fun(a16:List qa)=>some a16 else some a else none
theorem q5L:∀(x0:List qa) (x1_0 x1_1 x1_2:Int),ev 11 0 [rL 5 qb x0,R.agg [dI x1_0,dI x1_1,dI x1_2]] []=(Zr x0 (q7k.mk x1_0 x1_1 x1_2)).bind (fun(e:List qa)=>some (rL 5 qb e,[])):=
 fun x0 x1_0 x1_1 x1_2=>by
  rw[qP qo0 qur.2.2.2 qsW]
  have:=qty;have:=@q2i;have:=@q2L;have:=@JM;have:=@q3n;have:=@Zr.eq_1;exact gA
end


noncomputable section
open Go.RowKit
def qk0 (d:qh):Prop:=d.L.length≤maxLen∧0≤d.At∧d.At≤(d.L.length:Int)
theorem q9m (a n:Int) (h0:0<n) (h1:n≤1000):∃v,Zq a n=some v∧0≤v∧v<n:=by
 unfold Zq
 rw[if_neg (by omega),if_neg (by omega)]
 refine⟨_,rfl,?_⟩
 have h2 : -n<Int.tmod a n:=Int.lt_tmod_of_pos a h0
 have h3:Int.tmod a n<n:=Int.tmod_lt_of_pos a h0
 rw[ZT (by omega) (by omega)]
 exact⟨Int.tmod_nonneg _ (by omega),Int.tmod_lt_of_pos _ h0⟩
theorem q4e {d:qh} (hd:qk0 d) (n:Int) (h0:0<n) (h1:n≤1000):∃v d',zm n d=some (v,d')∧0≤v∧v<n∧qk0 d':=by
 obtain⟨h2,h3,h4⟩:=hd
 unfold maxLen at h2
 unfold zm
 by_cases h:((d.L.length:Nat):Int)≤d.At
 ·rw[if_pos h]
  exact⟨_,_,rfl,Int.le_refl _,h0,by unfold maxLen;exact h2,h3,h4⟩
 ·rw[if_neg h,ZT (n:=d.At+1) (by omega) (by omega),ZT (n:=d.At+1-1) (by omega) (by omega),if_pos (by omega),qxl (show(d.At+1-1).toNat<d.L.length by omega),qxj]
  obtain⟨v,h5,h6,h7⟩:=q9m (d.L[(d.At+1-1).toNat]'(by omega)) n h0 h1
  rw[h5]
  exact⟨v,_,rfl,h6,h7,by unfold maxLen;exact h2,by show(0:Int)≤d.At+1;omega,by show d.At+1≤(d.L.length:Int);omega⟩
def quv (l:List Int):Prop:=l.length≤6∧(∀x∈l,1≤x∧x≤40)∧l.Pairwise (· < ·)
theorem q8C {α:Type} {r:α→α→Prop} {l:List α} {a:α} (h:l.Pairwise r) (h2:∀x∈l,r x a):(l++[a]).Pairwise r:=by
 rw[List.pairwise_append]
 exact⟨h,List.pairwise_singleton _ _,fun x hx y hy=>by rw[qy8] at hy;subst hy;exact h2 x hx⟩
theorem qmJ (w1:List qa) (b2_Code:ByteArray) (b2_Credits b2_Places:Int) (t5:List ByteArray) (t6:Int) :
  ∀(n:Nat) (w3:List Int) (b0:qh) (t8:Int),qk0 b0→0≤t8→t8≤4→(t8=0∨t8+n=5)→w3.length≤4→(0<t8→(w3.length:Int)<t8)→(∀x∈w3,1≤x∧x≤4)→w3.Pairwise (· < ·)→(0<t8→∀x∈w3,x<t8)→
   ∃w b,qT (zy w1 b2_Code b2_Credits b2_Places t5 t6) (w3,(b0,t8))=some (w,b)∧quv w∧qk0 b:=by
 intro n
 induction n with
 | zero=>
  intro w3 b0 t8 hb h0 h4 ht hl hl2 hx hp hlt
  obtain rfl:t8=0:=by omega
  exact⟨w3,b0,qJ (by unfold zy;rfl),⟨by omega,fun x h=>by have:=hx x h;omega,hp⟩,hb⟩
 | succ n ih=>
  intro w3 b0 t8 hb h0 h4 ht hl hl2 hx hp hlt
  by_cases h:0<t8
  ·have hl3:=hl2 h
   have hlt:=hlt h
   obtain⟨v,d,h5,h6,h7,h8⟩:=q4e hb 2 (by omega) (by omega)
   have hx':∀x∈w3++[t8],1≤x∧x≤4:=fun x h=>by
    rcases qxN.1 h with h|h
    ·exact hx x h
    ·rw[qy8] at h;subst h;omega
   have hp':(w3++[t8]).Pairwise (· < ·):=q8C hp hlt
   have hidx:w64 (((w3.length+1:Nat):Int)-1)=(w3.length:Int):=by rw[ZT (by omega) (by omega)];omega
   have hget:(w3++[t8])[w3.length]?=some t8:=by simp
   have hs:zy w1 b2_Code b2_Credits b2_Places t5 t6 (w3,(b0,t8))=some (.inl (w3++[t8],(d,if v=1∧t8<4 then t8+1 else 0))):=by
    unfold zy
    simp only[]
    rw[if_pos h,if_pos (by unfold maxLen;omega),h5,qxj]
    simp only[hidx,qxm,hget,qxj]
    by_cases hv:v=1
    ·subst hv
     rw[if_pos (by decide),if_pos (by omega)]
     by_cases h9:t8<4
     ·rw[if_pos h9,if_pos (by omega),if_pos ⟨rfl,h9⟩,ZT (by omega) (by omega)]
     ·rw[if_neg h9,if_neg (by omega)]
    ·rw[if_neg (by simpa using hv),if_neg (by omega)]
   rw[zC hs]
   by_cases h9:v=1∧t8<4
   ·rw[if_pos h9]
    exact ih _ d (t8+1) h8 (by omega) (by omega) (by omega) (by simp;omega) (fun _=>by simp;omega) hx' hp' (fun _ x hx=>by
     rcases qxN.1 hx with hx|hx
     ·have:=hlt x hx;omega
     ·rw[qy8] at hx;omega)
   ·rw[if_neg h9]
    exact ih _ d 0 h8 (by omega) (by omega) (.inl rfl) (by simp;omega) (fun h=>by omega) hx' hp' (fun h=>by omega)
  ·obtain rfl:t8=0:=by omega
   exact⟨w3,b0,qJ (by unfold zy;rfl),⟨by omega,fun x h=>by have:=hx x h;omega,hp⟩,hb⟩
def blt (a b:ByteArray):Prop:=Op.bytesLess a.toList b.toList=true
def qwc (M:List qa) (i:Nat) (o:qa):Prop:=
 o.Code∈qg∧1≤o.Credits∧o.Credits≤60∧0≤o.Places∧o.Places≤200∧quv o.Slots∧o.Needs.length≤2∧o.Needs.Pairwise blt∧∀c∈o.Needs,∃j p,j<i∧M[j]?=some p∧p.Code=c
def q5S (M:List qa):Prop:=M.length≤6∧(∀i o,M[i]?=some o→qwc M i o)∧M.Pairwise fun a b=>blt a.Code b.Code
theorem qoA (w1:List qa) (hw:w1.length≤6) (hp:w1.Pairwise fun a b=>blt a.Code b.Code) (w3:List Int) (b2_Code:ByteArray) (b2_Credits b2_Places:Int) (t5:List ByteArray) (t6:Int) :
  ∀(n i:Nat) (w4:List ByteArray) (b0:qh),n+i=w1.length→qk0 b0→w4.length≤2→w4.Pairwise blt→(∀c∈w4,∃j p,j<i∧w1[j]?=some p∧p.Code=c)→
   ∃w b,qT (zQ w1 w3 b2_Code b2_Credits b2_Places t5 t6) (w4,(b0,(i:Int)))=some (w,b)∧qk0 b∧w.length≤2∧w.Pairwise blt∧∀c∈w,∃j p,j<w1.length∧w1[j]?=some p∧p.Code=c:=by
 intro n
 induction n with
 | zero=>
  intro i w4 b0 hi hb hl hpw hin
  obtain rfl:i=w1.length:=by omega
  exact⟨w4,b0,qJ (by unfold zQ;simp only[];rw[if_neg (by omega)]),hb,hl,hpw,hin⟩
 | succ n ih=>
  intro i w4 b0 hi hb hl hpw hin
  have hlt:i<w1.length:=by omega
  obtain⟨v,d,h5,h6,h7,h8⟩:=q4e hb 3 (by omega) (by omega)
  have hs:zQ w1 w3 b2_Code b2_Credits b2_Places t5 t6 (w4,(b0,(i:Int)))=some (.inl (if v=0∧w4.length<2 then w4++[w1[i].Code] else w4,(d,((i+1:Nat):Int)))):=by
   unfold zQ
   simp only[]
   rw[if_pos (by omega),h5,qxj]
   simp only[qxm,qxl hlt,qxj,qN hlt (by omega)]
   by_cases hv:v=0
   ·subst hv
    rw[if_pos (by decide)]
    by_cases h9:w4.length<2
    ·rw[if_pos (by omega),if_pos (by omega),if_pos (by unfold maxLen;omega),if_pos ⟨rfl,h9⟩]
    ·rw[if_neg (by omega),if_neg (by omega)]
   ·rw[if_neg (by simpa using hv),if_neg (by omega)]
  rw[zC hs]
  have hin':∀c∈w4,∃j p,j<i+1∧w1[j]?=some p∧p.Code=c:=fun c hc=>by
   obtain⟨j,p,h1,h2⟩:=hin c hc
   exact⟨j,p,by omega,h2⟩
  by_cases h9:v=0∧w4.length<2
  ·rw[if_pos h9]
   refine ih (i+1) _ d (by omega) h8 (by simp;omega) (q8C hpw fun c hc=>?_) (fun c hc=>?_)
   ·obtain⟨j,p,h1,h2,rfl⟩:=hin c hc
    have hj:=Qe h2
    rw[qxl hj] at h2
    injection h2 with h2
    subst h2
    exact(List.pairwise_iff_getElem.1 hp) j i hj hlt h1
   ·rcases qxN.1 hc with hc|hc
    ·exact hin' c hc
    ·rw[qy8] at hc;subst hc
     exact⟨i,_,by omega,qxl hlt,rfl⟩
  ·rw[if_neg h9]
   exact ih (i+1) _ d (by omega) h8 hl hpw hin'
theorem qh5:qg.Pairwise blt:=by
 unfold qg
 show List.Pairwise (fun(a b:ByteArray)=>Op.bytesLess a.toList b.toList=true) _
 decide +kernel
theorem q3s:qg.length=6:=rfl
theorem qs2:∀(n i:Nat) (w1:List qa) (b0:qh),n+i=6→qk0 b0→w1.length≤i→q5S w1→(∀o∈w1,∃j,j<i∧qg[j]?=some o.Code)→
  ∃w,qT (zl qg) (w1,(b0,(i:Int)))=some w∧q5S w:=by
 intro n
 induction n with
 | zero=>
  intro i w1 b0 hi hb hl hm hc
  obtain rfl:i=6:=by omega
  exact⟨w1,qJ (by unfold zl;simp only[];rw[q3s,if_neg (by omega)]),hm⟩
 | succ n ih=>
  intro i w1 b0 hi hb hl hm hc
  have hlt:i<qg.length:=by rw[q3s];omega
  have hc':∀o∈w1,∃j,j<i+1∧qg[j]?=some o.Code:=fun o ho=>by
   obtain⟨j,h1,h2⟩:=hc o ho
   exact⟨j,by omega,h2⟩
  obtain⟨v1,d1,h11,h12,h13,h14⟩:=q4e hb 5 (by omega) (by omega)
  by_cases hv:v1=4
  ·have hs:zl qg (w1,(b0,(i:Int)))=some (.inl (w1,(d1,((i+1:Nat):Int)))):=by
    unfold zl
    simp only[]
    rw[if_pos (by omega),h11,qxj,if_pos (by subst hv;rfl),qN hlt (by rw[q3s];omega)]
   rw[zC hs]
   exact ih (i+1) w1 d1 (by omega) h14 (by omega) hm hc'
  ·obtain⟨v2,d2,h21,h22,h23,h24⟩:=q4e h14 6 (by omega) (by omega)
   obtain⟨v3,d3,h31,h32,h33,h34⟩:=q4e h24 6 (by omega) (by omega)
   obtain⟨v4,d4,h41,h42,h43,h44⟩:=q4e h34 4 (by omega) (by omega)
   obtain⟨cr,hcr,hcr1,hcr2⟩:∃cr,[(5:Int),(6:Int),(3:Int),(10:Int),(5:Int),(20:Int)][Int.toNat v2]?=some cr∧1≤cr∧cr≤60:=by
    have:v2=0∨v2=1∨v2=2∨v2=3∨v2=4∨v2=5:=by omega
    rcases this with rfl|rfl|rfl|rfl|rfl|rfl<;>exact⟨_,rfl,by decide,by decide⟩
   obtain⟨pl,hpl,hpl1,hpl2⟩:∃cr,[(2:Int),(1:Int),(0:Int),(30:Int),(200:Int),(3:Int)][Int.toNat v3]?=some cr∧0≤cr∧cr≤200:=by
    have:v3=0∨v3=1∨v3=2∨v3=3∨v3=4∨v3=5:=by omega
    rcases this with rfl|rfl|rfl|rfl|rfl|rfl<;>exact⟨_,rfl,by decide,by decide⟩
   obtain⟨sl,d5,h51,h52,h53⟩:=qmJ w1 qg[i] cr pl qg (i:Int) (5-v4.toNat) [] d4 v4 h44 h42 (by omega) (by omega) (by decide) (fun h=>by simpa using h) (fun x hx=>by cases hx) List.Pairwise.nil (fun _ x hx=>by cases hx)
   obtain⟨nd,d6,h61,h62,h63,h64,h65⟩:=qoA w1 hm.1 hm.2.2 sl qg[i] cr pl qg (i:Int) w1.length 0 [] d5 (by omega) h53 (by decide) List.Pairwise.nil (fun x hx=>by cases hx)
   have hs:zl qg (w1,(b0,(i:Int)))=some (.inl (w1++[⟨qg[i],cr,pl,sl,nd⟩],(d6,((i+1:Nat):Int)))):=by
    unfold zl
    simp only[]
    rw[if_pos (by omega),h11,qxj,if_neg (by simpa using hv),if_pos (by omega),qxm,qxl hlt,qxj,h21,qxj]
    simp only[]
    rw[if_pos (by omega),hcr,qxj,h31,qxj]
    simp only[]
    rw[if_pos (by omega),hpl,qxj,h41,qxj]
    simp only[]
    rw[h51,qxj]
    simp only[]
    rw[show(0:Int)=((0:Nat):Int) from rfl,h61,qxj,if_pos (by unfold maxLen;have:=hm.1;omega),qN hlt (by rw[q3s];omega)]
   rw[zC hs]
   have hmem:∀o∈w1,blt o.Code qg[i]:=fun o ho=>by
    obtain⟨j,h1,h2⟩:=hc o ho
    have hj:=Qe h2
    rw[qxl hj] at h2
    injection h2 with h2
    rw[←h2]
    exact(List.pairwise_iff_getElem.1 qh5) j i hj hlt h1
   refine ih (i+1) _ d6 (by omega) h62 (by simp;omega) ⟨by simp;omega,fun j o hj=>?_,?_⟩ (fun o ho=>?_)
   ·by_cases e:j<w1.length
    ·rw[qxW e] at hj
     obtain⟨a1,a2,a3,a4,a5,a6,a7,a8,a9⟩:=hm.2.1 j o hj
     refine⟨a1,a2,a3,a4,a5,a6,a7,a8,fun c hc=>?_⟩
     obtain⟨k,p,b1,b2,b3⟩:=a9 c hc
     exact⟨k,p,b1,by rw[qxW (Qe b2)];exact b2,b3⟩
    ·have hj2:=Qe hj
     simp only[qxq,qxu,qy1] at hj2
     obtain rfl:j=w1.length:=by omega
     simp only[List.getElem?_concat_length,qy7] at hj
     subst hj
     refine⟨qy9 hlt,hcr1,hcr2,hpl1,hpl2,h52,h63,h64,fun c hc=>?_⟩
     obtain⟨k,p,b1,b2,b3⟩:=h65 c hc
     exact⟨k,p,b1,by rw[qxW b1];exact b2,b3⟩
   ·exact q8C hm.2.2 hmem
   ·rcases qxN.1 ho with ho|ho
    ·exact hc' o ho
    ·rw[qy8] at ho;subst ho
     exact⟨i,by omega,qxl hlt⟩
theorem qjK (x0:List Int) (h:x0.length≤maxLen):∃M,ZU x0=some M∧q5S M:=by
 obtain⟨w,h1,h2⟩:=qs2 6 0 [] ⟨x0,0⟩ rfl ⟨h,Int.le_refl _,by show(0:Int)≤(x0.length:Int);omega⟩ (by decide) ⟨by decide,fun i o hi=>by simp at hi,List.Pairwise.nil⟩ (fun o ho=>by cases ho)
 refine⟨w,?_,h2⟩
 unfold ZU
 have h1:qT (zl qg) ([],(qh.mk x0 (0:Int),(0:Int)))=some w:=h1
 rw[h1];rfl
end
noncomputable section
open Go.RowKit
theorem qi5 {a b:ByteArray} (h:a.toList=b.toList):a=b:=by
 rw[ByteArray.toList_eq,ByteArray.toList_eq] at h
 cases a with|mk a=>cases b with|mk b=>
 congr 1
 exact Array.toList_inj.1 h
theorem q7f (a b:ByteArray):(a.toList==b.toList)=decide (a=b):=by
 by_cases h:a=b
 ·subst h;simp
 ·rw[decide_eq_false h,beq_eq_false_iff_ne];exact fun e=>h (qi5 e)
theorem q37 {a:ByteArray} (h:blt a a):False:=by
 unfold blt at h
 rw[q7v,qyh] at h
 exact List.lt_irrefl _ h
theorem qi1 {a b:ByteArray} (h:blt a b):a≠b:=fun e=>by subst e;exact q37 h
section
variable {κ ν:Type} [DecidableEq κ]
theorem q0Y {m:List (κ×ν)} {k:κ}:Jy m k=true↔k∈m.map Prod.fst:=by
 induction m with
 | nil=>simp[Jy]
 | cons p m ih=>
  unfold Jy
  by_cases h:k=p.1
  ·simp[h]
  ·simp[h,ih]
theorem q9n {m:List (κ×ν)} {k:κ} (v:ν) (h:Jy m k=false):q2E m k v=m++[(k,v)]:=by
 induction m with
 | nil=>rfl
 | cons p m ih=>
  unfold Jy at h
  unfold q2E
  by_cases e:k=p.1
  ·rw[if_pos e] at h;cases h
  ·rw[if_neg e] at h
   rw[if_neg e,ih h];rfl
theorem qgw (m:List (κ×ν)) (k:κ) (v:ν):(q2E m k v).map Prod.fst=if k∈m.map Prod.fst then m.map Prod.fst else m.map Prod.fst++[k]:=by
 induction m with
 | nil=>rfl
 | cons p m ih=>
  unfold q2E
  by_cases e:k=p.1
  ·rw[if_pos e,if_pos (by simp[e])];simp[e]
  ·rw[if_neg e,qxG,ih,qxG]
   by_cases h:k∈m.map Prod.fst
   ·rw[if_pos h,if_pos (qxr _ h)]
   ·rw[if_neg h,if_neg (fun h'=>(qxF.1 h').elim e h)];rfl
theorem q9c {m:List (κ×ν)} (z:ν) {k:κ} {v:ν} (hn:(m.map Prod.fst).Nodup) (h:(k,v)∈m):Zs z m k=v:=by
 induction m with
 | nil=>cases h
 | cons p m ih=>
  rw[qxG,List.nodup_cons] at hn
  unfold Zs
  rcases qxF.1 h with rfl|h
  ·rw[if_pos rfl]
  ·rw[if_neg (fun e=>hn.1 (by rw[←e];exact qy2.2 ⟨_,h,rfl⟩)),ih hn.2 h]
theorem q6Z {m:List (κ×ν)} {z:ν} {k:κ} (h:k ∉ m.map Prod.fst):Zs z m k=z:=by
 induction m with
 | nil=>rfl
 | cons p m ih=>
  unfold Zs
  rw[if_neg (fun e=>h (by rw[e];exact qxy)),ih (fun h'=>h (qxr _ h'))]
theorem q1Y {l t:List κ} (hn:l.Nodup) (h:∀x∈l,x∈t):l.length≤t.length:=by
 induction l generalizing t with
 | nil=>simp
 | cons x l ih=>
  rw[List.nodup_cons] at hn
  have hx:=h x qxy
  have:=ih (t:=t.erase x) hn.2 fun y hy=>(List.mem_erase_of_ne (fun e=>hn.1 (by rw[←e];exact hy))).2 (h y (qxr _ hy))
  rw[List.length_erase_of_mem hx] at this
  have:=List.length_pos_of_mem hx
  simp only[qxu];omega
end
end
noncomputable section
open Go.RowKit
def KpS (m3:List (ByteArray×Bool)):Prop:=(m3.map Prod.fst).Nodup∧∀k∈m3.map Prod.fst,k∈qg
theorem KpS.put {m3:List (ByteArray×Bool)} (h:KpS m3) {d:ByteArray} (hd:d∈qg):KpS (q2E m3 d true):=by
 unfold KpS
 rw[qgw]
 by_cases e:d∈m3.map Prod.fst
 ·rw[if_pos e];exact h
 ·rw[if_neg e]
  refine⟨?_,fun k hk=>?_⟩
  ·rw[List.nodup_append]
   exact⟨h.1,by simp,fun a ha b hb=>by rw[qy8] at hb;subst hb;exact fun e'=>e (by rw[←e'];exact ha)⟩
  ·rcases qxN.1 hk with hk|hk
   ·exact h.2 k hk
   ·rw[qy8] at hk;subst hk;exact hd
theorem q7L {l:List ByteArray} (hl:l.length≤1000000) (v:ByteArray):qm l v=some (l.any fun a=>decide (v=a)):=by
 obtain⟨r,h1,h2⟩:=q1N l (fun a=>decide (v=a)) (qB l v ((l.length:Nat):Int))
  (fun i a ha=>by
   have:=Qe ha
   unfold qB
   rw[if_pos (by omega),if_pos (by omega),qxm,ha,qxj,q7f]
   cases(decide (v=a)) with
   | true=>rfl
   | false=>rw[if_neg (by decide),if_neg (by decide),qN this (by omega)])
  (by unfold qB;rw[if_neg (by omega)])
 obtain⟨n,h3,h4⟩:=q3X h2
 unfold qm zc
 rw[h1,qxj,h3,qxj,h4]
end
noncomputable section
open Go.RowKit
theorem qhW {l w:List ByteArray} (hl:l.length≤1000000) (hw:w.length≤1000000):Z1 l w=some (l.all fun c=>w.any fun a=>decide (c=a)):=by
 have h1:∀c,QQ c w=some (!(w.any fun a=>decide (c=a))):=fun c=>by
  unfold QQ
  rw[q7L hw];rfl
 obtain⟨r,g1,g2⟩:=q1N l (fun c => !(w.any fun a=>decide (c=a))) (qq w l ((l.length:Nat):Int))
  (fun i a ha=>by
   have:=Qe ha
   unfold qq
   rw[if_pos (by omega),if_pos (by omega),qxm,ha,qxj,h1,qxj]
   cases(!(w.any fun x=>decide (a=x))) with
   | true=>rfl
   | false=>rw[if_neg (by decide),if_neg (by decide),qN this (by omega)])
  (by unfold qq;rw[if_neg (by omega)])
 obtain⟨n,g3,g4⟩:=q3X g2
 unfold Z1 qy qC
 rw[g1,qxj,g3,qxj,qxj,g4]
 congr 1
 rw[List.all_eq_not_any_not]
theorem qha (w:List ByteArray):List.all (List.map C.d (List.flatMap eS w)) C.scl=true:=by
 rw[qxA]
 intro x hx
 obtain⟨d,hd,rfl⟩:=qy2.1 hx
 obtain⟨c,-,hc⟩:=List.mem_flatMap.1 hd
 unfold eS at hc
 rw[qy8] at hc
 subst hc;rfl
end
end Go.Proofs.Ytcdegieiflmaeaa.Vc
