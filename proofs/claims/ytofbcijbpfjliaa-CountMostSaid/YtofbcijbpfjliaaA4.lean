/- Part 4 of a proof. -/
import Derived.Test.YtofbcijbpfjliaaA3
import Derived.Shelf.SlIter.Sorted
set_option linter.unusedVariables false
set_option linter.unusedSimpArgs false
set_option linter.defProp false
set_option linter.unusedSectionVars false
set_option linter.unnecessarySimpa false
namespace Go.Proofs.Ytofbcijbpfjliaa.Vc
noncomputable section
open Go.RowKit
set_option maxRecDepth 100000
abbrev w64 (n:Int):Int:=IntKind.i64.wrap n
def Ql:Code→List Code
 | .loop c=>c::Ql c
 | .seq a b=>Ql a++Ql b
 | .cond _ a b=>Ql a++Ql b
 | .block _ c=>Ql c
 | .scope c=>Ql c
 | .rangeFunc _ _ a b=>Ql a++Ql b
 | _=>[]
def zH:Code→List (Code×Code)
 | .rangeFunc _ _ a b=>(a,b)::(zH a++zH b)
 | .loop c=>zH c
 | .seq a b=>zH a++zH b
 | .cond _ a b=>zH a++zH b
 | .block _ c=>zH c
 | .scope c=>zH c
 | _=>[]
theorem q40:∀(c b:Code),b∈Ql c→(∀b'∈Ql b,b'∈Ql c)∧∀q∈zH b,q∈zH c:=by
 intro c
 induction c with
 | loop c ih=>
  intro b hb
  rcases qxd.1 hb with rfl|hb
  ·exact⟨fun b' h=>qwZ _ h,fun q h=>h⟩
  ·exact⟨fun b' h=>qwZ _ ((ih b hb).1 b' h),fun q h=>(ih b hb).2 q h⟩
 | seq a c iha ihc=>
  intro b hb
  rcases qxl.1 hb with hb|hb
  ·exact⟨fun b' h=>qx3 _ ((iha b hb).1 b' h),fun q h=>qx3 _ ((iha b hb).2 q h)⟩
  ·exact⟨fun b' h=>qx0 _ ((ihc b hb).1 b' h),fun q h=>qx0 _ ((ihc b hb).2 q h)⟩
 | cond x a c iha ihc=>
  intro b hb
  rcases qxl.1 hb with hb|hb
  ·exact⟨fun b' h=>qx3 _ ((iha b hb).1 b' h),fun q h=>qx3 _ ((iha b hb).2 q h)⟩
  ·exact⟨fun b' h=>qx0 _ ((ihc b hb).1 b' h),fun q h=>qx0 _ ((ihc b hb).2 q h)⟩
 | rangeFunc g ps a c iha ihc=>
  intro b hb
  rcases qxl.1 hb with hb|hb
  ·exact⟨fun b' h=>qx3 _ ((iha b hb).1 b' h),fun q h=>qwZ _ (qx3 _ ((iha b hb).2 q h))⟩
  ·exact⟨fun b' h=>qx0 _ ((ihc b hb).1 b' h),fun q h=>qwZ _ (qx0 _ ((ihc b hb).2 q h))⟩
 | block id c ih=>intro b hb;exact ih b hb
 | scope c ih=>intro b hb;exact ih b hb
 | _=>intro b hb;cases hb
theorem J3:∀(c:Code) (q:Code×Code),q∈zH c→(∀b'∈Ql q.1++Ql q.2,b'∈Ql c)∧∀q'∈zH q.1++zH q.2,q'∈zH c:=by
 intro c
 induction c with
 | loop c ih=>intro q hq;exact⟨fun b' h=>qwZ _ ((ih q hq).1 b' h),(ih q hq).2⟩
 | seq a c iha ihc=>
  intro q hq
  rcases qxl.1 hq with hq|hq
  ·exact⟨fun b' h=>qx3 _ ((iha q hq).1 b' h),fun q' h=>qx3 _ ((iha q hq).2 q' h)⟩
  ·exact⟨fun b' h=>qx0 _ ((ihc q hq).1 b' h),fun q' h=>qx0 _ ((ihc q hq).2 q' h)⟩
 | cond x a c iha ihc=>
  intro q hq
  rcases qxl.1 hq with hq|hq
  ·exact⟨fun b' h=>qx3 _ ((iha q hq).1 b' h),fun q' h=>qx3 _ ((iha q hq).2 q' h)⟩
  ·exact⟨fun b' h=>qx0 _ ((ihc q hq).1 b' h),fun q' h=>qx0 _ ((ihc q hq).2 q' h)⟩
 | rangeFunc g ps a c iha ihc=>
  intro q hq
  rcases qxd.1 hq with rfl|hq
  ·exact⟨fun b' h=>h,fun q' h=>qwZ _ h⟩
  ·rcases qxl.1 hq with hq|hq
   ·exact⟨fun b' h=>qx3 _ ((iha q hq).1 b' h),fun q' h=>qwZ _ (qx3 _ ((iha q hq).2 q' h))⟩
   ·exact⟨fun b' h=>qx0 _ ((ihc q hq).1 b' h),fun q' h=>qwZ _ (qx0 _ ((ihc q hq).2 q' h))⟩
 | block id c ih=>intro q hq;exact ih q hq
 | scope c ih=>intro q hq;exact ih q hq
 | _=>intro q hq;cases hq
def q1E (f:Nat):Code:=((qw Try.prog pol f).map Bd.code).getD .skip
def lbO (f key:Nat):Code:=(qM key (q1E f)).getD .skip
def raO (f key:Nat):Code:=((QN key (q1E f)).getD (.skip,.skip)).1
def rbO (f key:Nat):Code:=((QN key (q1E f)).getD (.skip,.skip)).2
structure okL (f:Nat) (c:Code):Prop where
 lo:∀b∈Ql c,lbO f (qy b)=b
 ro:∀q∈zH c,raO f (qy q.2)=q.1∧rbO f (qy q.2)=q.2
theorem qF {f:Nat} {c:Code} (hc:q1E f=c) (h:(Ql c).map (fun b=>(qM (qy b) c).getD .skip)=Ql c) (h':(zH c).map (fun q=>(QN (qy q.2) c).getD (.skip,.skip))=zH c):okL f c:=by
 refine⟨fun b hb=>?_,fun q hq=>?_⟩
 ·unfold lbO
  rw[hc]
  obtain⟨i,hi,rfl⟩:=List.mem_iff_getElem.1 hb
  have h1:((Ql c).map (fun b=>(qM (qy b) c).getD .skip))[i]?=(Ql c)[i]?:=by rw[h]
  rw[qx5,qwT hi] at h1
  simpa using h1
 ·unfold raO rbO
  rw[hc]
  obtain⟨i,hi,rfl⟩:=List.mem_iff_getElem.1 hq
  have h1:((zH c).map (fun q=>(QN (qy q.2) c).getD (.skip,.skip)))[i]?=(zH c)[i]?:=by rw[h']
  rw[qx5,qwT hi] at h1
  simp only[Option.map_some,qxG] at h1
  rw[h1]
  exact⟨rfl,rfl⟩
def XEo (E:Orc) (f k:Nat):Code→S→XS:=XD Try.prog T pol E (D1 Try.prog T pol E f k) Lim f k
def XL2 (E:Orc) (f k key:Nat) (s:S):XS:=Lim (fun s=>(XEo E f k (lbO f key) s).bind (lpx pol f key k)) s
def XM2 (E:Orc) (f k key:Nat) (it:Operand) (s:S):XS:=mlp it (fun s=>(XEo E f k (lbO f key) s).bind (lpx pol f key k)) s
def lp3 (E:Orc) (f k key:Nat) (o:Option Operand) (r:Option S):XS:=r.bind fun s=>match o with
 | none=>XL2 E f k key s
 | some it=>XM2 E f k key it s
def cnd (r:R) (x y:XS):XS:=
 match r with
 | .c (.d (.bool b))=>if b=true then x else y
 | _=>none
def XE2 (E:Orc) (f k:Nat):Code→S→XS
 | .skip,s=>some (.normal,s)
 | .label _,s=>some (.normal,s)
 | .ret,s=>some (.ret,s)
 | .exit id,s=>some (.exit id,s)
 | .seq a b,s=>(XE2 E f k a s).bind (sqD fun s'=>XE2 E f k b s')
 | .block id c,s=>(XE2 E f k c s).bind (bkD id)
 | .scope c,s=>(XE2 E f k c s).bind scD
 | .cond c x y,s=>cnd (s.ev c) (XE2 E f k x (s.ly c tt)) (XE2 E f k y (s.ly c ff))
 | .loop c,s=>lp3 E f k (qy c) (ZW c) (nrm pol f (qy c) k s)
 | .rangeFunc g ps _ b,s=>xRF pol E f g ps.toList (raO f (qy b)) (rbO f (qy b)) ((s.dzr pol.q).frz (q4h (s.dzr pol.q) (pol.rk f (qy b))))
 | c,s=>XEo E f k c s
section
variable {E:Orc} {f k:Nat} {s:S}
theorem qra (a b:Code):XEo E f k (.seq a b) s=(XEo E f k a s).bind (sqD fun s'=>XEo E f k b s'):=rfl
theorem qhN (i:Nat) (b:Code):XEo E f k (.block i b) s=(XEo E f k b s).bind (bkD i):=rfl
theorem qi8 (b:Code):XEo E f k (.scope b) s=(XEo E f k b s).bind scD:=rfl
theorem qmm (p:Operand) (a b:Code):XEo E f k (.cond p a b) s=cnd (s.ev p) (XEo E f k a (s.ly p tt)) (XEo E f k b (s.ly p ff)):=rfl
theorem qmD (b:Code):XEo E f k (.loop b) s=(nrm pol f (qy b) k s).bind fun s0=>lpM Lim (ZW b) (fun s=>(XEo E f k b s).bind (lpx pol f (qy b) k)) s0:=rfl
theorem qpD:XEo E f k .skip s=some (.normal,s):=rfl
theorem qhG (l:Nat):XEo E f k (.label l) s=some (.normal,s):=rfl
theorem qrt:XEo E f k .ret s=some (.ret,s):=rfl
theorem qn0 (i:Nat):XEo E f k (.exit i) s=some (.exit i,s):=rfl
theorem qiJ (g:Operand) (ps:Array Tmp) (asg bd:Code):XEo E f k (.rangeFunc g ps asg bd) s=xRF pol E f g ps.toList asg bd ((s.dzr pol.q).frz (q4h (s.dzr pol.q) (pol.rk f (qy bd)))):=rfl
theorem qrK (a b:Code):XE2 E f k (.seq a b) s=(XE2 E f k a s).bind (sqD fun s'=>XE2 E f k b s'):=rfl
theorem qjP (i:Nat) (b:Code):XE2 E f k (.block i b) s=(XE2 E f k b s).bind (bkD i):=rfl
theorem qim (b:Code):XE2 E f k (.scope b) s=(XE2 E f k b s).bind scD:=rfl
theorem qmA (p:Operand) (a b:Code):XE2 E f k (.cond p a b) s=cnd (s.ev p) (XE2 E f k a (s.ly p tt)) (XE2 E f k b (s.ly p ff)):=rfl
theorem qkK (g:Operand) (ps:Array Tmp) (asg bd:Code):XE2 E f k (.rangeFunc g ps asg bd) s=xRF pol E f g ps.toList (raO f (qy bd)) (rbO f (qy bd)) ((s.dzr pol.q).frz (q4h (s.dzr pol.q) (pol.rk f (qy bd)))):=rfl
theorem qna (b:Code):XE2 E f k (.loop b) s=lp3 E f k (qy b) (ZW b) (nrm pol f (qy b) k s):=rfl
end
theorem q6L {E:Orc} {f k:Nat}:∀(c:Code),okL f c→∀s,XEo E f k c s=XE2 E f k c s:=by
 intro c
 induction c with
 | seq a b iha ihb=>
  intro h s
  have h1:=iha ⟨fun x hx=>h.lo x (qx3 _ hx),fun x hx=>h.ro x (qx3 _ hx)⟩
  have h2:=ihb ⟨fun x hx=>h.lo x (qx0 _ hx),fun x hx=>h.ro x (qx0 _ hx)⟩
  rw[qra,qrK,h1,funext h2]
 | block id c ih=>intro h s;rw[qhN,qjP,ih ⟨h.lo,h.ro⟩ s]
 | scope c ih=>intro h s;rw[qi8,qim,ih ⟨h.lo,h.ro⟩ s]
 | cond x a b iha ihb=>
  intro h s
  have h1:=iha ⟨fun x hx=>h.lo x (qx3 _ hx),fun x hx=>h.ro x (qx3 _ hx)⟩
  have h2:=ihb ⟨fun x hx=>h.lo x (qx0 _ hx),fun x hx=>h.ro x (qx0 _ hx)⟩
  rw[qmm,qmA,h1,h2]
 | loop c ih=>
  intro h s
  rw[qmD,qna]
  unfold lp3 lpM XL2 XM2
  rw[h.lo c qx6]
  cases ZW c<;>rfl
 | rangeFunc g ps a b _ _=>
  intro h s
  obtain⟨h1,h2⟩:=h.ro (a,b) qx6
  rw[qiJ,qkK]
  rw[h1,h2]
 | skip=>intro _ s;rw[qpD];rfl
 | label=>intro _ s;rw[qhG];rfl
 | ret=>intro _ s;rw[qrt];rfl
 | exit=>intro _ s;rw[qn0];rfl
 | _=>intro _ s;unfold XE2;rfl
def th2 (E:Orc) (f k:Nat) (r:XS) (b:Code):XS:=r.bind (sqD fun s'=>XE2 E f k b s')
def lp2 (E:Orc) (f k key:Nat) (o:Option S):XS:=o.bind fun s=>XL2 E f k key s
def lz2 (f k key:Nat) (r:XS):XS:=r.bind (lpx pol f key k)
def ly2 (e:Exit) (o:Option S):XS:=o.bind fun s=>some (e,s)
def rs2 (E:Orc) (ops:List Oper) (o:Option S) (l:List Oper):Option S:=o.bind fun s=>xr Try.prog T pol E ops l s
def qgV (E:Orc) (ops:List Oper) (A:List (List Nat)) (s0:S) (m:Nat) (o:Option (S×Tx)) (l:List Oper) (acc:List Tx):Option S:=o.bind fun q=>xdp Try.prog T pol E ops A s0 m l q.1 (acc++[q.2])
section
variable {E:Orc} {f k key:Nat} {s:S} {b:Code} {c:Prop} [Decidable c] {x y:XS} {α β:Type} {o:Option α} {g:α→XS} {h:β→XS} {e:α⊕β}
theorem qi0:XE2 E f k .skip s=some (.normal,s):=rfl
theorem qp1:XE2 E f k .ret s=some (.ret,s):=rfl
theorem qke (i:Nat):XE2 E f k (.exit i) s=some (.exit i,s):=rfl
theorem qpB (a:Code):XE2 E f k (.seq a b) s=th2 E f k (XE2 E f k a s) b:=rfl
theorem qfg (i:Nat):XE2 E f k (.block i b) s=bkk i (XE2 E f k b s):=rfl
theorem qku (p:Operand) (a b:Code):XE2 E f k (.cond p a b) s=match s.ev p with | .c (.d (.bool t))=>if t=true then XE2 E f k a (s.ly p tt) else XE2 E f k b (s.ly p ff)|_=>none:=rfl
theorem qcY (i:Nat) (ops:Array Oper):XE2 E f k (.region i ops false) s=rgn (xr Try.prog T pol E ops.toList ops.toList s):=rfl
theorem qiF (i:Nat) (ops:Array Oper):XE2 E f k (.region i ops true) s=rgn (D1 Try.prog T pol E f k i ops.toList (((s.uwD pol ops.toList).dzr pol.q).frk (pol.rk f i))):=rfl
theorem qfe (g:Operand) (ps:Array Tmp) (asg bd:Code):XE2 E f k (.rangeFunc g ps asg bd) s=xRF pol E f g ps.toList (raO f (qy bd)) (rbO f (qy bd)) ((s.dzr pol.q).frz (q4h (s.dzr pol.q) (pol.rk f (qy bd)))):=rfl
theorem qis:XE2 E f k (.loop b) s=lp3 E f k (qy b) (ZW b) (nrm pol f (qy b) k s):=rfl
theorem qfZ (r:Option S):lp3 E f k key none r=lp2 E f k key r:=rfl
theorem q9W:th2 E f k (some (.normal,s)) b=XE2 E f k b s:=rfl
theorem qhU:th2 E f k (some (.ret,s)) b=some (.ret,s):=rfl
theorem qeK (i:Nat):th2 E f k (some (.exit i,s)) b=some (.exit i,s):=rfl
theorem qgv:th2 E f k none b=none:=rfl
theorem qjD:th2 E f k (if c then x else y) b=if c then th2 E f k x b else th2 E f k y b:=Z9 _ _ _
theorem qfd:th2 E f k (o.bind g) b=o.bind fun a=>th2 E f k (g a) b:=by cases o<;>rfl
theorem qkQ:th2 E f k (Sum.elim g h e) b=Sum.elim (fun a=>th2 E f k (g a) b) (fun a=>th2 E f k (h a) b) e:=by cases e<;>rfl
theorem qf9:lp2 E f k key (some s)=XL2 E f k key s:=rfl
theorem q9B:lz2 f k key (some (.normal,s))=ly2 .normal (nrm pol f key k s):=rfl
theorem qki:lz2 f k key (some (.ret,s))=ly2 .ret (qhc k (pol.kx f key) (s.fnB pol (pol.ab f))):=rfl
theorem qg9 (i:Nat):lz2 f k key (some (.exit i,s))=ly2 (.exit i) (qhc k (pol.kx f key) (s.fnB pol (pol.ab f))):=rfl
theorem qex:lz2 f k key none=none:=rfl
theorem qhO:lz2 f k key (if c then x else y)=if c then lz2 f k key x else lz2 f k key y:=Z9 _ _ _
theorem qeR:lz2 f k key (o.bind g)=o.bind fun a=>lz2 f k key (g a):=by cases o<;>rfl
theorem qhP:lz2 f k key (Sum.elim g h e)=Sum.elim (fun a=>lz2 f k key (g a)) (fun a=>lz2 f k key (h a)) e:=by cases e<;>rfl
theorem qfm (x:Exit):ly2 x (some s)=some (x,s):=rfl
theorem qk8 (i:Nat):bkk i (Sum.elim g h e)=Sum.elim (fun a=>bkk i (g a)) (fun a=>bkk i (h a)) e:=by cases e<;>rfl
theorem qib (res:List ResultVar) (rt:List TypeId):fnn f k res rt (Sum.elim g h e)=Sum.elim (fun a=>fnn f k res rt (g a)) (fun a=>fnn f k res rt (h a)) e:=by cases e<;>rfl
end
section
variable {E:Orc} {α β γ:Type} {e:α⊕β}
theorem qfM {δ:Type} (g:α→Option γ) (h:β→Option γ) (F:γ→Option δ):(Sum.elim g h e).bind F=Sum.elim (fun a=>(g a).bind F) (fun a=>(h a).bind F) e:=by cases e<;>rfl
theorem qjb (g:α→RS) (h:β→RS) (d:Option Nat):wst (Sum.elim g h e) d=Sum.elim (fun a=>wst (g a) d) (fun a=>wst (h a) d) e:=by cases e<;>rfl
theorem qih (g:α→Option S) (h:β→Option S):rgn (Sum.elim g h e)=Sum.elim (fun a=>rgn (g a)) (fun a=>rgn (h a)) e:=by cases e<;>rfl
theorem qiN {s:S} (g:α→Option (R×List (Nat×B))) (h:β→Option (R×List (Nat×B))) (bl rw ln:List Nat):cll (Sum.elim g h e) s bl rw ln=Sum.elim (fun a=>cll (g a) s bl rw ln) (fun a=>cll (h a) s bl rw ln) e:=by cases e<;>rfl
end
section
variable {E:Orc} {s:S} {o:Oper} {c:Prop} [Decidable c] {α β:Type} {v:Option α} {e:α⊕β} {ops l:List Oper} {A:List (List Nat)} {s0:S} {m:Nat} {acc:List Tx}
theorem quJ:xst Try.prog T pol E o true s=wst (xo Try.prog T pol E (pre pol s o.op) o.op) o.dst:=rfl
theorem qw6:xst Try.prog T pol E o false s=if q3A s o.dst=true then some (s.put o.dst (.tup [])) else none:=rfl
theorem qrC:xsF Try.prog T pol E o true s=alX E s o (alC pol s o.op) (wsF (xo Try.prog T pol E s o.op) s o):=rfl
theorem qsT:xsF Try.prog T pol E o false s=if q3A s o.dst=true then some (s.put o.dst (.tup []),(.tup [],[]),⟨[],[],[],[],[]⟩) else none:=rfl
theorem qrp:xr Try.prog T pol E ops [] s=some s:=rfl
theorem qnX:xr Try.prog T pol E ops (o::l) s=rs2 E ops (xgd Try.prog T pol E ops o s) l:=rfl
theorem qn3:rs2 E ops (some s) l=xr Try.prog T pol E ops l s:=rfl
theorem qny:rs2 E ops none l=none:=rfl
theorem qsg (x y:Option S):rs2 E ops (if c then x else y) l=if c then rs2 E ops x l else rs2 E ops y l:=Z9 _ _ _
theorem qob (g:α→Option S):rs2 E ops (v.bind g) l=v.bind fun a=>rs2 E ops (g a) l:=by cases v<;>rfl
theorem qsN (g:α→Option S) (h:β→Option S):rs2 E ops (Sum.elim g h e) l=Sum.elim (fun a=>rs2 E ops (g a) l) (fun a=>rs2 E ops (h a) l) e:=by cases e<;>rfl
theorem qof:xdp Try.prog T pol E ops A s0 0 l s acc=if okP A 0 [] acc=true∧okX ops A s0 acc 0 acc=true∧okK ops A acc=true∧okN acc 0 acc=true then xr Try.prog T pol E ops l s else none:=by cases l<;>rfl
theorem qm1:xdp Try.prog T pol E ops A s0 (m+1) (o::l) s acc=qgV E ops A s0 m (xgF Try.prog T pol E ops o s) l acc:=rfl
theorem qij (x:Tx):qgV E ops A s0 m (some (s,x)) l acc=xdp Try.prog T pol E ops A s0 m l s (acc++[x]):=rfl
theorem qiv:qgV E ops A s0 m none l acc=none:=rfl
theorem qoD (x y:Option (S×Tx)):qgV E ops A s0 m (if c then x else y) l acc=if c then qgV E ops A s0 m x l acc else qgV E ops A s0 m y l acc:=Z9 _ _ _
theorem qjV (g:α→Option (S×Tx)):qgV E ops A s0 m (v.bind g) l acc=v.bind fun a=>qgV E ops A s0 m (g a) l acc:=by cases v<;>rfl
theorem qo8 (g:FuncId) (zs:List (List Nat)) (rs:List R) (bl rw ln:List Nat):Zg E s g zs rs bl rw ln=(qaF s (bl++rw) ln zs rs).bind fun rs'=>(cvG s (bl++rw) (bl++rw) 0).bind fun G=>
  if(bl++rw).all (fun i=>(s.blk i).live)=true∧(bl++rw).Nodup∧ln.all (fun i=>(s.blk i).live && !(bl++rw).contains i)=true∧bl.length≤G.length∧(List.range G.length).all (fun j=>(lk G j .dead).isBlk==decide (j<bl.length))=true then cll (E (.fn g) bl.length rs' G) s bl rw ln else none:=rfl
theorem qkl (rid:Nat) (f:FuncId) (asg bd:Code) (rs:List R) (bl rw ln:List Nat):q1s E s rid f asg bd rs bl rw ln=(cvG s (bl++rw) (bl++rw) 0).bind fun G=>
  if(bl++rw).all (fun i=>(s.blk i).live)=true∧(bl++rw).Nodup∧ln.all (fun i=>(s.blk i).live && !(bl++rw).contains i)=true∧bl.length≤G.length∧(List.range G.length).all (fun j=>(lk G j .dead).isBlk==decide (j<bl.length))=true∧0<bl.length∧(bl++rw)[bl.length-1]?=some rid then
   cll (E (.rd f asg bd) bl.length (rs.map (cvT s (bl++rw) ln)) G) s bl rw ln else none:=rfl
theorem qw0 (f:Nat) (asg bd:Code) (g:Operand) (ps:List Nat):xRF pol E f g ps asg bd s=match s.ev g with
 | .c (.fn g' fs caps)=>rfk s.n (q3F E (s.rf f (q7z s (pol.rk f (qy bd))) ps asg bd) g' (pol.ow g') [] (fs.map R.c++[.c (.hd .yield s.nx)]++caps.map R.c))
 | _=>none:=rfl
end
theorem qnw (g k:Nat) (a:List R) (G:List (Nat×B)):evo (.fn g) k a G=ev g k a G:=rfl
def q6p (E:Orc) (f k:Nat) (args:List R) (G:List (Nat×B)):Option (R×List (Nat×B)):=(qw Try.prog pol f).bind fun bd=>q2B Try.prog T pol (D1 Try.prog T pol) E Lim f k args G bd
theorem qf {f n:Nat} {c:Code} {res:List ResultVar} {rt:List TypeId} (hb:qw Try.prog pol f=some ⟨c,n,res,rt⟩):q1E f=c:=by unfold q1E;rw[hb];rfl
theorem q5F {E:Orc} {f n:Nat} {c:Code} {res:List ResultVar} {rt:List TypeId} (hb:qw Try.prog pol f=some ⟨c,n,res,rt⟩) (hl:okL f c) (k:Nat) (args:List R) (G:List (Nat×B)) :
  q6p E f k args G=if args.length≤n then fnn f k res rt (XE2 E f k c ⟨JO args 0,G,G.length,n⟩) else none:=by
 unfold q6p
 rw[hb,qwR]
 unfold q2B
 split
 ·show Option.bind (XEo E f k c _) _=_
  rw[q6L c hl]
  rfl
 ·rfl
theorem qci {f k:Nat} (hp:pol.pr f=none) (args:List R) (G:List (Nat×B)):ev f k args G=q6p evo f k args G:=by rw[qfq,hp];rfl
theorem qD {f n:Nat} {c:Code} {res:List ResultVar} {rt:List TypeId} (hb:qw Try.prog pol f=some ⟨c,n,res,rt⟩) (hp:pol.pr f=none) (hl:okL f c) (k:Nat) (args:List R) (G:List (Nat×B)) :
  ev f k args G=if args.length≤n then fnn f k res rt (XE2 evo f k c ⟨JO args 0,G,G.length,n⟩) else none:=by
 rw[qci hp,q5F hb hl]
section
variable {σ ε:Type}
def itT (step:σ→Option (σ⊕ε)):Nat→σ→Option ε
 | 0,_=>none
 | n+1,x=>(step x).bind (Sum.elim (itT step n) some)
theorem q5i {step:σ→Option (σ⊕ε)}:∀{n m:Nat},n≤m→∀x r,itT step n x=some r→itT step m x=some r
 | 0,_,_,x,r,h=>by cases h
 | n+1,0,h,_,_,_=>by omega
 | n+1,m+1,h,x,r,hx=>by
  unfold itT at hx ⊢
  obtain⟨a,h1,h2⟩:=qwW.1 hx
  rw[h1,qwR]
  cases a with
  | inl y=>exact q5i (by omega) y r h2
  | inr e=>exact h2
def qx (step:σ→Option (σ⊕ε)) (x:σ):Option ε:=open Classical in if h:∃r n,itT step n x=some r then some (Classical.choose h) else none
theorem q5H {step:σ→Option (σ⊕ε)} {n:Nat} {x:σ} {r:ε} (h:itT step n x=some r):qx step x=some r:=by
 have hex:∃r n,itT step n x=some r:=⟨r,n,h⟩
 unfold qx
 rw[dif_pos hex]
 obtain⟨m,hm⟩:=Classical.choose_spec hex
 have h1:=q5i (Nat.le_max_left n m) _ _ h
 have h2:=q5i (Nat.le_max_right n m) _ _ hm
 rw[h1] at h2
 injection h2 with h2
 rw[←h2]
theorem q4e {step:σ→Option (σ⊕ε)} {x:σ} {r:ε} (h:qx step x=some r):∃n,itT step n x=some r:=by
 unfold qx at h
 split at h
 ·rename_i hex
  injection h with h
  obtain⟨m,hm⟩:=Classical.choose_spec hex
  exact⟨m,h ▸ hm⟩
 ·cases h
theorem qaP (step:σ→Option (σ⊕ε)) (x:σ):qx step x=(step x).bind (Sum.elim (qx step) some):=by
 refine q3P (fun r h=>?_) (fun r h=>?_)
 ·obtain⟨n,hn⟩:=q4e h
  cases n with
  | zero=>cases hn
  | succ n=>
   unfold itT at hn
   obtain⟨a,h1,h2⟩:=qwW.1 hn
   rw[h1,qwR]
   cases a with
   | inl y=>exact q5H h2
   | inr e=>exact h2
 ·obtain⟨a,h1,h2⟩:=qwW.1 h
  cases a with
  | inl y=>
   obtain⟨n,hn⟩:=q4e h2
   refine q5H (n:=n+1) ?_
   unfold itT
   rw[h1];exact hn
  | inr e=>
   refine q5H (n:=1) ?_
   unfold itT
   rw[h1];exact h2
end
theorem qkd {F:S→XS} {σ ε:Type} {st:σ→S} {ex:ε→Exit×S} {step:σ→Option (σ⊕ε)} (hne:∀e,(ex e).1 ≠ .normal)
  (h:∀x,F (st x)=(step x).bind (Sum.elim (fun y=>some (.normal,st y)) (fun e=>some (ex e)))) (x:σ):Lim F (st x)=(qx step x).bind fun e=>some (ex e):=by
 have hit:∀(n:Nat) (x:σ),iter n F (st x)=(itT step n x).bind fun e=>some (ex e):=by
  intro n
  induction n with
  | zero=>intro x;rfl
  | succ n ih=>
   intro x
   unfold iter itT
   rw[h x]
   cases step x with
   | none=>rfl
   | some a=>
    cases a with
    | inl y=>exact ih y
    | inr e=>
     show sqD (iter n F) (ex e)=some (ex e)
     have:=hne e
     generalize ex e=q at this
     obtain⟨z,t⟩:=q
     cases z<;>first|exact absurd rfl this|rfl
 refine q3P (fun r hr=>?_) (fun r hr=>?_)
 ·obtain⟨n,hn⟩:=q3j hr
  rw[hit n x] at hn
  obtain⟨e,h1,h2⟩:=qwW.1 hn
  rw[q5H h1];exact h2
 ·obtain⟨e,h1,h2⟩:=qwW.1 hr
  obtain⟨n,hn⟩:=q4e h1
  refine q6U (n:=n) ?_
  rw[hit n x,hn];exact h2
theorem q7I {E:Orc} {f k key:Nat} {c:Code} {σ ε:Type} {st:σ→S} {ex:ε→Exit×S} {step:σ→Option (σ⊕ε)} (hc:lbO f key=c) (hl:okL f c) (hne:∀e,(ex e).1 ≠ .normal)
  (h:∀x,lz2 f k key (XE2 E f k c (st x))=(step x).bind (Sum.elim (fun y=>some (.normal,st y)) (fun e=>some (ex e)))) (x:σ):XL2 E f k key (st x)=(qx step x).bind fun e=>some (ex e):=by
 refine qkd hne (fun x=>?_) x
 rw[hc,q6L c hl]
 exact h x
def xk (E:Orc) (f k key:Nat) (r:XS):XS:=r.bind fun p=>match p.1 with | .normal=>XL2 E f k key p.2|e=>some (e,p.2)
section
variable {E:Orc} {f k key:Nat} {s:S} {c:Prop} [Decidable c] {α β:Type} {o:Option α} {g:α→XS} {h:β→XS} {e:α⊕β}
theorem q4z:xk E f k key (some (.normal,s))=XL2 E f k key s:=rfl
theorem q7b (i:Nat):xk E f k key (some (.exit i,s))=some (.exit i,s):=rfl
theorem qdV:xk E f k key (some (.ret,s))=some (.ret,s):=rfl
theorem q88:xk E f k key none=none:=rfl
theorem qdU (x y:XS):xk E f k key (if c then x else y)=if c then xk E f k key x else xk E f k key y:=Z9 _ _ _
theorem q8d:xk E f k key (o.bind g)=o.bind fun a=>xk E f k key (g a):=by cases o<;>rfl
theorem qdN:xk E f k key (Sum.elim g h e)=Sum.elim (fun a=>xk E f k key (g a)) (fun a=>xk E f k key (h a)) e:=by cases e<;>rfl
end
theorem q7M {E:Orc} {f k key:Nat} {c:Code} {s:S} (hc:lbO f key=c) (hl:okL f c):XL2 E f k key s=xk E f k key (lz2 f k key (XE2 E f k c s)):=by
 unfold XL2
 rw[qpE,hc,q6L c hl]
 show(lz2 f k key (XE2 E f k c s)).bind _=_
 unfold xk
 congr 1
 funext p
 obtain⟨e,t⟩:=p
 cases e<;>first|rfl|(show Lim _ t=Lim _ t;rw[hc])
theorem q0U {α:Type} {c:Prop} [Decidable c] (x y:α):(if c then some x else some y)=some (if c then x else y):=by split<;>rfl
theorem zt {f key:Nat} {c b:Code} (hc:q1E f=c) (h:(qM key c).getD .skip=b):lbO f key=b:=by unfold lbO;rw[hc];exact h
theorem qN {f:Nat} {c b:Code} (hl:okL f c) (hb:b∈Ql c):okL f b:=⟨fun x hx=>hl.lo x ((q40 c b hb).1 x hx),fun q hq=>hl.ro q ((q40 c b hb).2 q hq)⟩
theorem qlt {f key:Nat} {c:Code} {q:Code×Code} (hl:okL f c) (hq:q∈zH c):okL f q.1∧okL f q.2:=
 ⟨⟨fun x hx=>hl.lo x ((J3 c q hq).1 x (qx3 _ hx)),fun x hx=>hl.ro x ((J3 c q hq).2 x (qx3 _ hx))⟩,
   ⟨fun x hx=>hl.lo x ((J3 c q hq).1 x (qx0 _ hx)),fun x hx=>hl.ro x ((J3 c q hq).2 x (qx0 _ hx))⟩⟩
def rn2 (f k key:Nat) (o:Option B) (s:S):Option (R×List (Nat×B)):=o.bind fun b=>rd3 k (XE2 evo f k (rbO f key) (s.up [(k-1,b)]))
def rn1 (f k key:Nat) (r:XS):Option (R×List (Nat×B)):=r.bind fun p=>match p.1 with | .normal=>rn2 f k key (rdB (p.2.blk (k-1))) p.2|_=>none
section
variable {f k key:Nat} {s:S} {c:Prop} [Decidable c] {α β:Type} {o:Option α} {g:α→XS} {h:β→XS} {e:α⊕β}
theorem qa8:rn1 f k key (some (.normal,s))=rn2 f k key (rdB (s.blk (k-1))) s:=rfl
theorem qfW (b:B):rn2 f k key (some b) s=rd3 k (XE2 evo f k (rbO f key) (s.up [(k-1,b)])):=rfl
end
theorem qjk {f key k:Nat} {asg bd:Code} (ha:raO f key=asg) (hb:rbO f key=bd) (hk:0<k) (hc:q1A (drq pol f) false asg=true∧q1A (drq pol f) false bd=true) (la:okL f asg) (lb:okL f bd) (tm:List R) (G:List (Nat×B)) :
  evr f (raO f key) (rbO f key) k tm G=rn1 f k key (XE2 evo f k (raO f key) ⟨JO tm 0,G,G.length,tm.length⟩):=by
 rw[qm6 ha hb hk hc tm G,ha]
 have e1:∀s,XE f k asg s=XE2 evo f k asg s:=fun s=>q6L asg la s
 have e2:∀s,XE f k bd s=XE2 evo f k bd s:=fun s=>q6L bd lb s
 rw[e1]
 unfold rd1 rn1
 congr 1
 funext p
 obtain⟨x,t⟩:=p
 cases x<;>first
  | rfl
  | (show rd2 f k bd t (rdB (t.blk (k-1)))=rn2 f k key (rdB (t.blk (k-1))) t
     unfold rd2 rn2
     rw[hb]
     congr 1
     funext b
     rw[e2])
theorem qmL {f key:Nat} {c b:Code} (hc:q1E f=c) (h:((QN key c).getD (.skip,.skip)).1=b):raO f key=b:=by unfold raO;rw[hc];exact h
theorem qla {f key:Nat} {c b:Code} (hc:q1E f=c) (h:((QN key c).getD (.skip,.skip)).2=b):rbO f key=b:=by unfold rbO;rw[hc];exact h
section
variable {σ ε:Type} (f k:Nat) (enc:σ→List R×List (Nat×B)) (ex:ε→R×List (Nat×B))
def ovr (F:σ→Option ε):Orc:=fun g k' args G=>open Classical in if h:(g = .fn f∧k'=k)∧∃y,enc y=(args,G) then(F (Classical.choose h.2)).bind fun e=>some (ex e) else evo g k' args G
def q4Q (y:σ):Option ε:=open Classical in if h:∃e,ev f k (enc y).1 (enc y).2=some (ex e) then some (Classical.choose h) else none
variable {f k enc ex}
theorem qkM (hi:∀y z,enc y=enc z→y=z) (F:σ→Option ε) (y:σ):ovr f k enc ex F (.fn f) k (enc y).1 (enc y).2=(F y).bind fun e=>some (ex e):=by
 have h:((Fx.fn f=Fx.fn f)∧k=k)∧∃z,enc z=((enc y).1,(enc y).2):=⟨⟨rfl,rfl⟩,y,rfl⟩
 unfold ovr
 rw[dif_pos h]
 rw[hi _ _ ((Classical.choose_spec h.2).trans rfl)]
theorem qeS (F:σ→Option ε) (g k':Nat) (a:List R) (G:List (Nat×B)) (h:g≠f):ovr f k enc ex F (.fn g) k' a G=ev g k' a G:=by
 unfold ovr
 rw[dif_neg (fun h'=>h (by injection h'.1.1))]
 rfl
theorem qnC (F:σ→Option ε) (g:Nat) (asg bd:Code) (k':Nat) (a:List R) (G:List (Nat×B)):ovr f k enc ex F (.rd g asg bd) k' a G=evr g asg bd k' a G:=by
 unfold ovr
 rw[dif_neg (fun h'=>by cases h'.1.1)]
 rfl
def q6I (f k:Nat) (enc:σ→List R×List (Nat×B)) (ex:ε→R×List (Nat×B)) (step:(σ→Option ε)→σ→Option ε):Prop:=
 ∀(E:Orc) (F:σ→Option ε),(∀y,E (.fn f) k (enc y).1 (enc y).2=(F y).bind fun e=>some (ex e))→(∀g k' a G,g≠f→E (.fn g) k' a G=ev g k' a G)→(∀g asg bd k' a G,E (.rd g asg bd) k' a G=evr g asg bd k' a G)→
  ∀y,q6p E f k (enc y).1 (enc y).2=(step F y).bind fun e=>some (ex e)
theorem q9R {E E':Orc} (h:OLe E E') (L:(S→XS)→S→XS) (hL:LLe L Lim) {f k:Nat} {args:List R} {G:List (Nat×B)} {bd:Bd} {x:R×List (Nat×B)} (hb:qw Try.prog pol f=some bd) (hx:q2B Try.prog T pol (D1 Try.prog T pol) E L f k args G bd=some x):q6p E' f k args G=some x:=by
 unfold q6p
 rw[hb,qwR]
 exact q55 q3S h hL hx
theorem qjy (hp:pol.pr f=none) (hi:∀y z,enc y=enc z→y=z) {step:(σ→Option ε)→σ→Option ε} (hs:q6I f k enc ex step) :
  ∀(n:Nat) (y:σ) (z:R×List (Nat×B)),xf Try.prog T pol (D1 Try.prog T pol) n (.fn f) k (enc y).1 (enc y).2=some z→∃e,z=ex e:=by
 intro n
 induction n with
 | zero=>intro y z h;cases h
 | succ n ih=>
  intro y z h
  obtain⟨F,hF⟩:∃F:σ→Option ε,∀y z,xf Try.prog T pol (D1 Try.prog T pol) n (.fn f) k (enc y).1 (enc y).2=some z→(F y).bind (fun e=>some (ex e))=some z:=by
   refine⟨fun y=>open Classical in if h:∃e,xf Try.prog T pol (D1 Try.prog T pol) n (.fn f) k (enc y).1 (enc y).2=some (ex e) then some (Classical.choose h) else none,fun y z hz=>?_⟩
   obtain⟨e,rfl⟩:=ih y z hz
   have hex:∃e,xf Try.prog T pol (D1 Try.prog T pol) n (.fn f) k (enc y).1 (enc y).2=some (ex e):=⟨e,hz⟩
   simp only[dif_pos hex,qwR]
   rw[←Classical.choose_spec hex,hz]
  have hle:OLe (xf Try.prog T pol (D1 Try.prog T pol) n) (ovr f k enc ex F):=by
   intro g k' args G x hx
   unfold ovr
   split
   ·rename_i hh
    obtain⟨⟨rfl,rfl⟩,hy⟩:=hh
    have e1:=Classical.choose_spec hy
    refine hF _ _ ?_
    rw[e1];exact hx
   ·exact q9V q3S _ _ _ _ _ hx
  have h2:∃bd,qw Try.prog pol f=some bd∧q2B Try.prog T pol (D1 Try.prog T pol) (xf Try.prog T pol (D1 Try.prog T pol) n) (iter n) f k (enc y).1 (enc y).2 bd=some z:=by
   have h3:fnx Try.prog T pol (D1 Try.prog T pol) (xf Try.prog T pol (D1 Try.prog T pol) n) (iter n) f k (enc y).1 (enc y).2=some z:=h
   unfold fnx at h3
   rw[hp] at h3
   exact qwW.1 h3
  obtain⟨bd,hb,hx⟩:=h2
  have h4:=q9R hle (iter n) (q7Y n) hb hx
  rw[hs _ F (qkM hi F) (qeS F) (qnC F) y] at h4
  obtain⟨e,-,h5⟩:=qwW.1 h4
  injection h5 with h5
  exact⟨e,h5.symm⟩
theorem q9A (hp:pol.pr f=none) (hi:∀y z,enc y=enc z→y=z) {step:(σ→Option ε)→σ→Option ε} (hs:q6I f k enc ex step) (y:σ):ev f k (enc y).1 (enc y).2=(q4Q f k enc ex y).bind fun e=>some (ex e):=by
 unfold q4Q
 split
 ·rename_i h
  rw[qwR]
  exact Classical.choose_spec h
 ·rename_i h
  cases hv:ev f k (enc y).1 (enc y).2 with
  | none=>rfl
  | some z=>
   obtain⟨n,hn⟩:=q2m (show EE Try.prog T pol (D1 Try.prog T pol) (.fn f) k (enc y).1 (enc y).2=some z from hv)
   obtain⟨e,rfl⟩:=qjy hp hi hs n y z hn
   exact absurd ⟨e,hv⟩ h
theorem qh4 (hp:pol.pr f=none) (hi:∀y z,enc y=enc z→y=z) (hj:∀d e,ex d=ex e→d=e) {step:(σ→Option ε)→σ→Option ε} (hs:q6I f k enc ex step) (y:σ):q4Q f k enc ex y=step (q4Q f k enc ex) y:=by
 have h1:=hs evo (q4Q f k enc ex) (q9A hp hi hs) (fun _ _ _ _ _=>rfl) (fun _ _ _ _ _ _=>rfl) y
 rw[←qci hp,q9A hp hi hs y] at h1
 cases h2:q4Q f k enc ex y with
 | none=>
  rw[h2] at h1
  cases h3:step (q4Q f k enc ex) y with
  | none=>rfl
  | some e=>rw[h3] at h1;cases h1
 | some d=>
  rw[h2] at h1
  cases h3:step (q4Q f k enc ex) y with
  | none=>rw[h3] at h1;cases h1
  | some e=>
   rw[h3] at h1
   injection h1 with h1
   rw[hj _ _ h1]
end
end
noncomputable section
open Go.RowKit
section
variable {α:Type} {E:α→List D} {n:Nat}
theorem q7y (h:∀x,(E x).length=n):∀(v:List α) (a:Nat),(v.flatMap E).drop (a*n)=(v.drop a).flatMap E
 | [],a=>by simp
 | x::v,0=>by simp
 | x::v,a+1=>by
  rw[qxU,show(a+1)*n=(E x).length+a*n by rw[h,Nat.add_mul];omega,List.drop_length_add_append]
  exact q7y h v a
theorem q5E (h:∀x,(E x).length=n):∀(v:List α) (a:Nat),(v.flatMap E).take (a*n)=(v.take a).flatMap E
 | [],a=>by simp
 | x::v,0=>by simp
 | x::v,a+1=>by
  rw[qxU,show(a+1)*n=(E x).length+a*n by rw[h,Nat.add_mul];omega,List.take_length_add_append,List.take_succ_cons,qxU,q5E h v a]
theorem qn6 (v w:List α):v.flatMap E++w.flatMap E=(v++w).flatMap E:=List.flatMap_append.symm
theorem qkN (v w:List α):(v.flatMap E).map C.d++(w.flatMap E).map C.d=((v++w).flatMap E).map C.d:=by rw[←List.map_append,qn6]
theorem q2O (v:List α) (x:α):(v.flatMap E).map C.d++(E x).map C.d=((v++[x]).flatMap E).map C.d:=by simp
theorem qbg {β:Type}:∀(ys p q:List β) (o:Nat),o+ys.length≤p.length→spl (p++q) o ys=spl p o ys++q
 | [],p,q,o,_=>rfl
 | y::ys,p,q,o,h=>by
  rw[qx2] at h
  rw[spl,spl,List.set_append_left _ _ (by omega),qbg ys _ q (o+1) (by rw[qxC];omega)]
theorem q9g {β:Type}:∀(ys p q:List β) (o:Nat),spl (p++q) (p.length+o) ys=p++spl q o ys
 | [],p,q,o=>rfl
 | y::ys,p,q,o=>by
  rw[spl,spl,List.set_append_right _ _ (by omega),show p.length+o-p.length=o by omega,show p.length+o+1=p.length+(o+1) by omega,q9g ys]
theorem q9x {β:Type}:∀(ys p pre:List β),p.length=ys.length→spl (pre++p) pre.length ys=pre++ys
 | [],p,pre,h=>by rw[qxa h];rfl
 | y::ys,[],pre,h=>by cases h
 | y::ys,x::p,pre,h=>by
  have e:(pre++x::p).set pre.length y=(pre++[y])++p:=by rw[List.set_append_right _ _ (qx7 _),Nat.sub_self];simp
  rw[spl,e,show pre.length+1=(pre++[y]).length by simp,q9x ys p _ (by simpa using h)]
  simp
theorem qd1 {β:Type}:∀(ys:List β) (o:Nat),spl [] o ys=[]
 | [],o=>rfl
 | y::ys,o=>by rw[spl,List.set_nil,qd1 ys]
theorem qbF (h:∀x,(E x).length=n):∀(v:List α) (i:Nat) (x:α),spl (v.flatMap E) (i*n) (E x)=(v.set i x).flatMap E
 | [],i,x=>by rw[List.flatMap_nil,qd1];rfl
 | y::v,0,x=>by
  rw[qxU,Nat.zero_mul,qbg _ _ _ _ (by rw[h,h];omega)]
  have:=q9x (E x) (E y) [] (by rw[h,h])
  simp only[qxb,qxA] at this
  rw[this];rfl
 | y::v,i+1,x=>by
  rw[qxU,show(i+1)*n=(E y).length+i*n by rw[h,Nat.add_mul];omega,q9g,qbF h v i x]
  rfl
theorem q60 {β γ:Type} (f:β→γ):∀(ys cs:List β) (o:Nat),spl (cs.map f) o (ys.map f)=(spl cs o ys).map f
 | [],cs,o=>rfl
 | y::ys,cs,o=>by rw[qxe,spl,spl,←List.map_set,q60 f ys]
theorem q7X (h:∀x,(E x).length=n) (v:List α) (i:Nat) (x:α):spl ((v.flatMap E).map C.d) (i*n) ((E x).map C.d)=((v.set i x).flatMap E).map C.d:=by rw[q60,qbF h]
theorem qbq {β:Type}:∀(ys zs cs:List β) (o:Nat),spl cs o (ys++zs)=spl (spl cs o ys) (o+ys.length) zs
 | [],zs,cs,o=>rfl
 | y::ys,zs,cs,o=>by rw[qxV,spl,spl,qbq ys,qx2,show o+1+ys.length=o+(ys.length+1) by omega]
theorem qcW (h:∀x,(E x).length=n):∀(w v:List α) (i:Nat),spl (v.flatMap E) (i*n) (w.flatMap E)=(spl v i w).flatMap E
 | [],v,i=>rfl
 | x::w,v,i=>by rw[qxU,qbq,qbF h,h,spl,show i*n+n=(i+1)*n by rw[Nat.add_mul];omega,qcW h w]
theorem qnj (m:Nat) (x:α):(List.replicate m (E x)).flatten=(List.replicate m x).flatMap E:=by
 rw[List.flatMap_def,List.map_replicate]
theorem qjH {cs:List C} (x:α) (hx:cs=(E x).map C.d) (m:Nat):(List.replicate m cs).flatten=((List.replicate m x).flatMap E).map C.d:=by
 subst hx
 rw[←qnj,List.map_flatten,List.map_replicate]
end
theorem QL {α:Type} {E:α→List D} {n:Nat} (h:∀x,(E x).length=n) (hn:0<n) (hi:∀x y,E x=E y→x=y):∀(v w:List α),v.flatMap E=w.flatMap E→v=w
 | [],[],_=>rfl
 | [],y::w,e=>by
  have:=congrArg List.length e
  rw[qxU,qwY,h] at this
  simp at this;omega
 | x::v,[],e=>by
  have:=congrArg List.length e
  rw[qxU,qwY,h] at this
  simp at this;omega
 | x::v,y::w,e=>by
  rw[qxU,qxU] at e
  obtain⟨h1,h2⟩:=List.append_inj e (by rw[h,h])
  rw[hi x y h1,QL h hn hi v w h2]
theorem q3h (a b:List D):(a.map C.d=b.map C.d)=(a=b):=by
 refine propext ⟨fun h=>?_,fun h=>by rw[h]⟩
 induction a generalizing b with
 | nil=>cases b with|nil=>rfl|cons=>cases h
 | cons x a ih=>
  cases b with
  | nil=>cases h
  | cons y b=>
   rw[qxe,qxe] at h
   injection h with h1 h2
   injection h1 with h1
   rw[h1,ih b h2]
def eI (x:Int):List D:=[.int .i64 x]
def eS (x:ByteArray):List D:=[.str x]
def eL {α:Type} (n:Nat) (E:α→List D) (v:List α):List D:=[.sl n v.length (v.flatMap E)]
theorem qcF {α β γ:Type} (f:β→γ) (o:Option α) (g:α→Option β):(o.bind g).map f=o.bind fun x=>(g x).map f:=by cases o<;>rfl
theorem qji (P:Program) (T:Ty) (d:Nat) (t:TypeId) (x y:R):eqR P T (d+1) t x y =
  match T.k t,x,y with
  | .int _,.c (.d (.int k a)),.c (.d (.int k' b))=>if k=k' then some (a==b) else none
  | .bool,.c (.d (.bool a)),.c (.d (.bool b))=>some (a==b)
  | .str,.c (.d (.str a)),.c (.d (.str b))=>some (a.toList==b.toList)
  | .st fs,.agg xs,.agg ys=>if q6X P t=true then qct T (eqR P T d) xs ys fs else none
  | .arr n e,.agg xs,.agg ys=>if qjU P t=true∧T.k e ≠ .other then qct T (eqR P T d) xs ys (qdE (T.sz e) e n 0) else none
  | _,_,_=>none:=by
 generalize hk:T.k t=kd
 unfold eqR
 rw[hk]
 cases kd<;>first
  | rfl
  | (rcases x with (c|_|_|_)<;>first
    | rfl
    | (rcases y with (c' | _|_|_)<;>first
      | rfl
      | (cases c<;>first
        | rfl
        | (cases c'<;>first
          | rfl
          | (rename_i d1 d2;cases d1<;>first
            | rfl
            | (cases d2<;>rfl))))))
section
variable {α β:Type} {c:Prop} [Decidable c] (a b:List α)
theorem qk3 (f:α→Bool):(if c then a else b).any f=if c then a.any f else b.any f:=by split<;>rfl
theorem qhY (f:α→Bool):(if c then a else b).all f=if c then a.all f else b.all f:=by split<;>rfl
theorem qkn (f:α→β):(if c then a else b).map f=if c then a.map f else b.map f:=by split<;>rfl
theorem q7Z:(if c then a else b).isEmpty=if c then a.isEmpty else b.isEmpty:=by split<;>rfl
theorem q64 [BEq α] (x:α):(if c then a else b).contains x=if c then a.contains x else b.contains x:=by split<;>rfl
end
def qrc (op:UnOp) (r:R) (s:S):RS:=
 match op,r with
 | .not,.c (.d (.bool b))=>some (.c (.d (.bool (!b))),s)
 | .neg,.c (.d (.int k n))=>some (.c (.d (.int k (k.wrap (0-n)))),s)
 | _,_=>none
theorem qmB (s:S) (op:UnOp) (x:Operand):xUn s op x=qrc op (s.ev x) s:=by
 unfold xUn qrc
 generalize s.ev x=r
 cases op<;>first
  | rfl
  | (cases r with
     | c c=>cases c with
      | d d=>cases d<;>rfl
      | _=>rfl
     | _=>rfl)
def lkq (ok:Bool) (z:R):Option (Nat×R×Nat)→Option R
 | some q=>some (tt2 q.2.1 ok true)
 | none=>some (tt2 z ok false)
theorem qat (T:Ty) (s:S) (t:TypeId) (x y:Operand) (ok:Bool):JI T s t x y ok =
  match T.k t,q1U s x,(s.ev y).key with
  | .mp k e,some es,some kv=>if plK (T.k k) kv=true∧es.all (fun q=>plK (T.k k) q.1)=true then(zR T e).bind fun z=>lkq ok z (fnd kv es 0) else none
  | _,_,_=>none:=by
 unfold JI
 generalize T.k t=kd
 generalize q1U s x=m
 generalize (s.ev y).key=v
 cases kd<;>first
  | rfl
  | (cases m<;>first
    | rfl
    | (cases v<;>first
      | rfl
      | (simp only
         split
         ·congr 1
          funext z
          cases fnd _ _ _<;>rfl
         ·rfl)))
theorem qc3 (xs ys:List C):(xs++ys).flatMap C.rows=xs.flatMap C.rows++ys.flatMap C.rows:=List.flatMap_append
theorem qdD (zs0:List Nat):∀(zs:List Nat) (ds:List D) (ys:List C),zs.length=ds.length→dzc zs0 zs (ds.map C.d++ys)=ds.map C.d++dzc zs0 [] ys
 | [],[],ys,_=>rfl
 | [],d::ds,ys,h=>by cases h
 | z::zs,[],ys,h=>by cases h
 | z::zs,d::ds,ys,h=>by
  rw[qxe,qxV,dzc,qdD zs0 zs ds ys (by simpa using h)]
  rfl
theorem qhe {α:Type} {E:α→List D} {n:Nat} (h:∀x,(E x).length=n+1) (zs0:List Nat) (h0:zs0.length=n+1):∀(v:List α) (ys:List C),dzc zs0 [] ((v.flatMap E).map C.d++ys)=(v.flatMap E).map C.d++dzc zs0 [] ys
 | [],ys=>rfl
 | x::v,ys=>by
  have hx:=h x
  rw[qxU,List.map_append,qxw,qxw,←qhe h zs0 h0 v ys]
  cases hE:E x with
  | nil=>rw[hE] at hx;cases hx
  | cons d ds=>
   rw[hE] at hx
   rw[qxe,qxV,dzc,qdD zs0 zs0.tail ds _ (by rw[List.length_tail];simp at hx;omega)]
   rfl
def qh9 {α:Type} (a b:Option α):Prop:=∀r,a=some r→b=some r
theorem qh9.bind {α β:Type} {a b:Option α} {f g:α→Option β} (h:qh9 a b) (hf:∀x,qh9 (f x) (g x)):qh9 (a.bind f) (b.bind g):=fun r hr=>by
 obtain⟨x,h1,h2⟩:=qwW.1 hr
 rw[h x h1]
 exact hf x r h2
theorem qh9.sum {α β γ:Type} {f f':α→Option γ} {g g':β→Option γ} {e:α⊕β} (h:∀x,qh9 (f x) (f' x)) (h':∀x,qh9 (g x) (g' x)):qh9 (Sum.elim f g e) (Sum.elim f' g' e):=by
 cases e with
 | inl x=>exact h x
 | inr x=>exact h' x
def spr (cs:List C) (o:Nat) (ys:List C):List C:=spl cs o ys
theorem qcD (t:TypeId) (cs ys:List C) (o:Nat):(B.blk t cs).set o ys = .blk t (spl cs o ys):=rfl
theorem qbx (e:TypeId) (sz:Nat) (cs ys:List C) (o:Nat):(B.row e sz cs).set o ys = .row e sz (spr cs o ys):=rfl
theorem qfv (c:C) (cs ys:List C) (o:Nat):spr (c::cs) o ys=spl (c::cs) o ys:=rfl
def xsl (T:Ty) (s:S) (t:TypeId) (x:R) (lo hi:Option Operand):RS:=
 match x,T.k t with
 | .c (.d (.str b)),.str=>
  match s.bd lo 0,s.bd hi b.size with
  | some l,some h=>if 0≤l∧l≤h∧h≤b.size then some (.c (.d (.str (b.extract l.toNat h.toNat))),s) else none
  | _,_=>none
 | .c (.d (.sl sz n cs)),.sl e=>
  if T.k e ≠ .other∧T.sz e=sz then
   match s.bd lo 0,s.bd hi n with
   | some l,some h=>if 0≤l∧l≤h∧h≤n then some (.c (.d (.sl sz (h.toNat-l.toNat) ((cs.drop (l.toNat*sz)).take ((h.toNat-l.toNat)*sz)))),s) else none
   | _,_=>none
  else none
 | .c (.own id sz off n),.sl e=>
  if T.k e ≠ .other∧T.sz e=sz then
   match s.bd lo 0,s.bd hi n with
   | some l,some h=>if 0≤l∧l≤h∧h≤n then(if l=0∨l<n then some (.c (.own id sz (off+l.toNat) (h.toNat-l.toNat)),s) else some (.c (.d (.sl sz 0 [])),s)) else none
   | _,_=>none
  else none
 | .c .nils,.sl e=>
  if T.k e ≠ .other then
   match s.bd lo 0,s.bd hi 0 with
   | some l,some h=>if l=0∧h=0 then some (.c .nils,s) else none
   | _,_=>none
  else none
 | _,_=>none
theorem qco (T:Ty) (s:S) (t:TypeId) (x:Operand) (lo hi:Option Operand):q72 T s t x lo hi none=xsl T s t (s.ev x) lo hi:=by
 unfold q72 xsl
 generalize s.ev x=r
 generalize T.k t=kd
 cases r with
 | c c=>
  cases c with
  | d d=>cases d<;>cases kd<;>rfl
  | _=>cases kd<;>rfl
 | _=>rfl
theorem qoF (b:Bool):((if(!b)=true then true else false)||b)=true:=by cases b<;>rfl
def xcl (T:Ty) (s:S) (hi mx:Option Operand):Kd→R→RS
 | .sl e,.c (.d (.sl sz n cs))=>if T.k e ≠ .other∧T.sz e=sz then(match s.bd hi 0,s.bd mx 0 with|some h,some m=>if h=(n:Int)∧m=(n:Int) then some (.c (.clp sz n cs),s) else none|_,_=>none) else none
 | .sl e,.c .nils=>if T.k e ≠ .other then(match s.bd hi 0,s.bd mx 0 with|some h,some m=>if h=0∧m=0 then some (.c (.clp (T.sz e) 0 []),s) else none|_,_=>none) else none
 | _,_=>none
theorem ql9 (T:Ty) (s:S) (hi mx:Option Operand) (e:TypeId) (sz n:Nat) (cs:List D):xcl T s hi mx (.sl e) (.c (.d (.sl sz n cs)))=if T.k e ≠ .other∧T.sz e=sz then(match s.bd hi 0,s.bd mx 0 with|some h,some m=>if h=(n:Int)∧m=(n:Int) then some (.c (.clp sz n cs),s) else none|_,_=>none) else none:=rfl
theorem qey (T:Ty) (s:S) (t:TypeId) (x y:Operand) (mx:Option Operand):qdg T s t x none (some y) mx=xcl T s (some y) mx (T.k t) (s.ev x):=by
 unfold qdg
 generalize s.ev x=r
 generalize T.k t=kd
 cases kd with
 | sl e=>
  cases r with
  | c c=>
   cases c with
   | d d=>
    cases d with
    | sl sz n cs=>
     simp only[xcl,Option.isSome_some,true_and]
     cases s.bd (some y) 0 with
     | none=>simp
     | some h=>cases s.bd mx 0 with
      | none=>simp
      | some m=>simp only[qxG];split<;>rename_i hc<;>simp_all
    | _=>rfl
   | nils=>
    simp only[xcl,Option.isSome_some,true_and]
    cases s.bd (some y) 0 with
    | none=>simp
    | some h=>cases s.bd mx 0 with
     | none=>simp
     | some m=>simp only[qxG];split<;>rename_i hc<;>simp_all
   | _=>rfl
  | _=>rfl
 | _=>rfl
section
variable {T:Ty} {s:S} {t:TypeId} {lo hi:Option Operand}
theorem qiO {id sz off n:Nat}:xsl T s t (.c (.own id sz off n)) none hi =
  match T.k t with
  | .sl e=>if T.k e ≠ .other∧T.sz e=sz then
   match s.bd hi n with
   | some h=>if 0≤h∧h≤n then some (.c (.own id sz off (min h.toNat n)),s) else none
   | _=>none
   else none
  | _=>none:=by
 unfold xsl
 cases T.k t<;>try rfl
 dsimp only[S.bd]
 split
 ·split
  ·rename_i l h h1 h2
   injection h1 with h1
   subst h1
   rw[h2]
   dsimp only
   by_cases hc:0≤h∧h≤n
   ·rw[if_pos ⟨Int.le_refl _,hc⟩,if_pos (.inl rfl),if_pos hc,show min h.toNat n=h.toNat by omega]
    rfl
   ·rw[if_neg (fun q=>hc q.2),if_neg hc]
  ·rename_i h1
   split
   ·rename_i h h2
    exact absurd h2 (h1 0 h rfl)
   ·rfl
 ·rfl
theorem qk6 {id sz off n:Nat} {lo:Operand}:xsl T s t (.c (.own id sz off n)) (some lo) hi =
  match T.k t with
  | .sl e=>if T.k e ≠ .other∧T.sz e=sz then
   match s.bd (some lo) 0,s.bd hi n with
   | some l,some h=>if 0≤l∧l≤h∧h≤n then(if l=0∨l<n then some (.c (.own id sz (off+l.toNat) (h.toNat-l.toNat)),s) else some (.c (.d (.sl sz 0 [])),s)) else none
   | _,_=>none
   else none
  | _=>none:=by unfold xsl;cases T.k t<;>rfl
end
def qq5 {α:Type} (s:S) (E:α→List D) (n:Nat) (v:List α) (l h:Option Int):RS:=
 match l,h with
 | some l,some h=>if 0≤l∧l≤h∧h≤v.length then some (.c (.d (.sl n ((v.drop l.toNat).take (h.toNat-l.toNat)).length (((v.drop l.toNat).take (h.toNat-l.toNat)).flatMap E))),s) else none
 | _,_=>none
theorem qoc {α:Type} {E:α→List D} {n:Nat} (h:∀x,(E x).length=n) {T:Ty} {s:S} {t e:TypeId} (v:List α) (lo hi:Option Operand) (hk:T.k t = .sl e) (hz:T.sz e=n) (ho:T.k e ≠ .other) :
  xsl T s t (.c (.d (.sl n v.length (v.flatMap E)))) lo hi=qq5 s E n v (s.bd lo 0) (s.bd hi v.length):=by
 unfold xsl
 simp only[hk]
 rw[if_pos ⟨ho,hz⟩]
 unfold qq5
 cases s.bd lo 0 with
 | none=>rfl
 | some l=>
  cases s.bd hi v.length with
  | none=>rfl
  | some h'=>
   simp only
   split
   ·rename_i hc
    rw[q7y h,q5E h,qxk,qxD,Nat.min_eq_left (by omega)]
   ·rfl
abbrev dI (n:Int):C:=C.d (D.int .i64 n)
abbrev dS (s:ByteArray):C:=C.d (D.str s)
abbrev dL {α:Type} (n:Nat) (E:α→List D) (v:List α):C:=C.d (D.sl n v.length (v.flatMap E))
abbrev dO (i sz n:Nat):C:=C.own i sz 0 n
abbrev dP (i:Nat):C:=C.ptr i 0
abbrev rI (n:Int):R:=R.c (C.d (D.int .i64 n))
abbrev rS (s:ByteArray):R:=R.c (C.d (D.str s))
abbrev rB (b:Bool):R:=R.c (C.d (D.bool b))
abbrev rL {α:Type} (n:Nat) (E:α→List D) (v:List α):R:=R.c (C.d (D.sl n v.length (v.flatMap E)))
abbrev rO (i sz n:Nat):R:=R.c (C.own i sz 0 n)
abbrev rP (i:Nat):R:=R.c (C.ptr i 0)
abbrev bR {α:Type} (e sz:Nat) (E:α→List D) (v:List α):B:=B.row e sz ((v.flatMap E).map C.d)
theorem XLs {E:Orc} {f k key:Nat} {c:Code} {σ ε:Type} {st:σ→S} {ex:ε→XS} {step:σ→Option (σ⊕ε)} (hc:lbO f key=c) (hl:okL f c) (hne:∀e,∃p,ex e=some p∧p.1 ≠ .normal)
  (h:∀x,lz2 f k key (XE2 E f k c (st x))=(step x).bind (Sum.elim (fun y=>some (.normal,st y)) ex)) (x:σ):XL2 E f k key (st x)=(qx step x).bind ex:=by
 obtain⟨g,hg⟩:∃g:ε→Exit×S,∀e,ex e=some (g e)∧(g e).1 ≠ .normal:=⟨fun e=>Classical.choose (hne e),fun e=>Classical.choose_spec (hne e)⟩
 obtain rfl:ex=fun e=>some (g e):=funext fun e=>(hg e).1
 exact q7I (ex:=g) hc hl (fun e=>(hg e).2) h x
theorem q75 {E:Orc} {f k key:Nat} {c:Code} {A1 ε:Type} {st:A1→S} {ex:ε→XS} {step:A1→Option ((A1)⊕ε)} (hc:lbO f key=c) (hl:okL f c) (hne:∀e,∃p,ex e=some p∧p.1 ≠ .normal)
  (h:∀a1,lz2 f k key (XE2 E f k c (st a1))=(step a1).bind (Sum.elim (fun y=>some (.normal,st y)) ex)) (a1:A1):XL2 E f k key (st a1)=(qx step a1).bind ex:=
 XLs (st:=fun y=>st y) hc hl hne (fun a1=>h a1) a1
theorem q6H {E:Orc} {f k key:Nat} {c:Code} {A1 A2 ε:Type} {st:A1→A2→S} {ex:ε→XS} {step:(A1×A2)→Option ((A1×A2)⊕ε)} (hc:lbO f key=c) (hl:okL f c) (hne:∀e,∃p,ex e=some p∧p.1 ≠ .normal)
  (h:∀a1 a2,lz2 f k key (XE2 E f k c (st a1 a2))=(step (a1,a2)).bind (Sum.elim (fun y=>some (.normal,st y.1 y.2)) ex)) (a1:A1) (a2:A2):XL2 E f k key (st a1 a2)=(qx step (a1,a2)).bind ex:=
 XLs (st:=fun y=>st y.1 y.2) hc hl hne (fun⟨a1,a2⟩=>h a1 a2) (a1,a2)
theorem qnl {E:Orc} {f k key:Nat} {c:Code} {A1 A2 A3 ε:Type} {st:A1→A2→A3→S} {ex:ε→XS} {step:(A1×A2×A3)→Option ((A1×A2×A3)⊕ε)} (hc:lbO f key=c) (hl:okL f c) (hne:∀e,∃p,ex e=some p∧p.1 ≠ .normal)
  (h:∀a1 a2 a3,lz2 f k key (XE2 E f k c (st a1 a2 a3))=(step (a1,a2,a3)).bind (Sum.elim (fun y=>some (.normal,st y.1 y.2.1 y.2.2)) ex)) (a1:A1) (a2:A2) (a3:A3):XL2 E f k key (st a1 a2 a3)=(qx step (a1,a2,a3)).bind ex:=
 XLs (st:=fun y=>st y.1 y.2.1 y.2.2) hc hl hne (fun⟨a1,a2,a3⟩=>h a1 a2 a3) (a1,a2,a3)
abbrev aY4:List R:=[R.any,R.any,R.any,R.any]
abbrev aY8:List R:=R.any::R.any::R.any::R.any::aY4
abbrev q76:List R:=R.any::R.any::R.any::R.any::aY8
def dzU (Q:TypeId→List Nat):B→B
 | .row e sz cs => .row e sz (dzc (Q e) [] cs)
 | b=>b
theorem qnp (z:Nat) {c:C} (h:c.isNils=false):dz z c=c:=by
 cases c<;>first|rfl|cases h
theorem q6S (zs0:List Nat):∀{cs:List C} (zs:List Nat),cs.any C.isNils=false→dzc zs0 zs cs=cs
 | [],zs,_=>by cases zs<;>rfl
 | c::cs,zs,h=>by
  rw[List.any_cons,Bool.or_eq_false_iff] at h
  cases zs with
  | nil=>rw[dzc,qnp _ h.1,q6S zs0 _ h.2]
  | cons z zs=>rw[dzc,qnp _ h.1,q6S zs0 _ h.2]
theorem qss (Q:TypeId→List Nat) (b:B):dzB Q b=dzU Q b:=by
 cases b with
 | row e sz cs=>
  unfold dzB dzU
  simp only
  split
  ·rfl
  ·rename_i h
   rw[q6S _ _ (by simpa using h)]
 | _=>rfl
theorem qlq (Q:TypeId→List Nat) (b:B) (h:b.nilr=false):dzU Q b=b:=by
 cases b with
 | row e sz cs=>unfold dzU;simp only;rw[q6S _ _ h]
 | _=>rfl
theorem qnF (tm:List (Nat×R)) (hp:List (Nat×B)) (nx n:Nat) (Q:TypeId→List Nat):S.dzr (S.mk tm hp nx n) Q=S.mk tm (hp.map fun x=>(x.1,dzU Q x.2)) nx n:=by
 unfold S.dzr
 split
 ·simp only[qss]
 ·rename_i h
  congr 1
  have h2:∀x∈hp,x.2.nilr=false:=fun x hx=>by
   cases hb:x.2.nilr with
   | false=>rfl
   | true=>exact absurd (qxL.2 ⟨x,hx,hb⟩) h
  refine(List.map_id' hp).symm.trans (List.map_congr_left fun x hx=>?_)
  rw[qlq Q x.2 (h2 x hx)]
theorem qhX (Q:TypeId→List Nat) (e sz:Nat) (cs:List C):dzU Q (.row e sz cs) = .row e sz (dzc (Q e) [] cs):=rfl
theorem qkC (Q:TypeId→List Nat) (t:Nat) (cs:List C):dzU Q (.blk t cs) = .blk t cs:=rfl
theorem qlF (Q:TypeId→List Nat) (o:AO):dzU Q (.ob o) = .ob o:=rfl
theorem qfV (Q:TypeId→List Nat):dzU Q .dead = .dead:=rfl
theorem qjY {α:Type} (x:α):Option.toArray (some x)=[x].toArray:=rfl
theorem qjZ {α:Type}:Option.toArray (none:Option α)=([]:List α).toArray:=rfl
theorem qpy {α:Type} (l m:List α):l.toArray++m.toArray=(l++m).toArray:=by simp
theorem qiw {α:Type} (l:List α):Array.toList l.toArray=l:=rfl
end
noncomputable section
open Go.RowKit
set_option maxRecDepth 20000
def mpE {κ ν:Type} (kE:κ→Value) (vE:ν→R):List (κ×ν)→Nat→List (Value×R×Nat)
 | [],_=>[]
 | p::M,i=>(kE p.1,vE p.2,i)::mpE kE vE M (i+1)
def mpB {κ ν:Type} (kE:κ→Value) (vE:ν→R) (M:List (κ×ν)):AO := .mp (mpE kE vE M 0) M.length
def Jm (k:IntKind) (n:Int):Value := .int k n
section
variable {κ ν:Type} [DecidableEq κ]
def qaE (M:List (κ×ν)) (k:κ):Nat:=match M with
 | []=>0
 | p::M=>if k=p.1 then 0 else qaE M k+1
def Z8 (z:ν) (M:List (κ×ν)) (k:κ):ν:=match M with
 | []=>z
 | p::M=>if k=p.1 then p.2 else Z8 z M k
def qaC (M:List (κ×ν)) (k:κ):Bool:=match M with
 | []=>false
 | p::M=>if k=p.1 then true else qaC M k
def q2R (M:List (κ×ν)) (k:κ) (v:ν):List (κ×ν):=match M with
 | []=>[(k,v)]
 | p::M=>if k=p.1 then(k,v)::M else p::q2R M k v
end
section
variable {κ ν:Type} {kE:κ→Value} {vE:ν→R}
theorem qcp:∀(M:List (κ×ν)) (i:Nat),(mpE kE vE M i).length=M.length
 | [],_=>rfl
 | p::M,i=>by rw[mpE,qx2,qcp M,qx2]
theorem q84 {f:Value×R×Nat→Bool} (hf:∀k r i,f (kE k,r,i)=true):∀(M:List (κ×ν)) (i:Nat),(mpE kE vE M i).all f=true
 | [],_=>rfl
 | p::M,i=>by rw[mpE,List.all_cons,hf,q84 hf M];rfl
theorem q20 {f:R→R} (hf:∀v,f (vE v)=vE v) (M:List (κ×ν)):AO.mapR f (mpB kE vE M)=mpB kE vE M:=by
 have:∀(M:List (κ×ν)) (i:Nat),(mpE kE vE M i).map (fun e=>(e.1,f e.2.1,e.2.2))=mpE kE vE M i:=by
  intro M
  induction M with
  | nil=>intro i;rfl
  | cons p M ih=>intro i;rw[mpE,qxe,ih,hf]
 unfold mpB
 show AO.mp _ _=_
 rw[this]
theorem qbv {f:R→Bool} (hf:∀v,f (vE v)=true) (M:List (κ×ν)):(mpB kE vE M).Rs.all f=true:=by
 have:∀(M:List (κ×ν)) (i:Nat),((mpE kE vE M i).map (·.2.1)).all f=true:=by
  intro M
  induction M with
  | nil=>intro i;rfl
  | cons p M ih=>intro i;rw[mpE,qxe,List.all_cons,ih,hf];rfl
 exact this M 0
theorem qgc {f:R→List Nat} (hf:∀v,f (vE v)=[]) (M:List (κ×ν)):(mpB kE vE M).Rs.flatMap f=[]:=by
 have:∀(M:List (κ×ν)) (i:Nat),((mpE kE vE M i).map (·.2.1)).flatMap f=[]:=by
  intro M
  induction M with
  | nil=>intro i;rfl
  | cons p M ih=>intro i;rw[mpE,qxe,qxU,ih,hf];rfl
 exact this M 0
variable [DecidableEq κ] (hk:∀a b,kq (kE a) (kE b)=decide (a=b))
include hk
theorem qcb (k:κ):∀(M:List (κ×ν)) (i:Nat) (z:ν),fnd (kE k) (mpE kE vE M i) i=if qaC M k=true then some (i+qaE M k,vE (Z8 z M k),i+qaE M k) else none
 | [],i,z=>rfl
 | p::M,i,z=>by
  rw[mpE,fnd]
  simp only[hk,qaC,qaE,Z8,qxQ]
  by_cases h:k=p.1
  ·simp[h]
  ·simp only[if_neg h]
   rw[qcb k M (i+1) z]
   split
   ·rw[show i+1+qaE M k=i+(qaE M k+1) by omega]
   ·rfl
theorem qsr (z:ν) (ok:Bool) (k:κ) (M:List (κ×ν)):lkq ok (vE z) (fnd (kE k) (mpE kE vE M 0) 0)=some (tt2 (vE (Z8 z M k)) ok (qaC M k)):=by
 rw[qcb hk k M 0 z]
 cases hm:qaC M k
 ·have:Z8 z M k=z:=by
   clear hk
   induction M with
   | nil=>rfl
   | cons p M ih=>
    rw[qaC] at hm
    rw[Z8]
    split
    ·rename_i h;rw[if_pos h] at hm;cases hm
    ·rename_i h;rw[if_neg h] at hm;exact ih hm
  rw[this];rfl
 ·rfl
end
section
variable {κ ν:Type} {kE:κ→Value} {vE:ν→R} [DecidableEq κ]
theorem q9e (k:κ) (v:ν):∀(M:List (κ×ν)) (i:Nat),qaC M k=true→(mpE kE vE M i).set (qaE M k) (kE k,vE v,i+qaE M k)=mpE kE vE (q2R M k v) i∧(q2R M k v).length=M.length
 | [],_,h=>by cases h
 | p::M,i,h=>by
  rw[qaC] at h
  by_cases hp:k=p.1
  ·simp only[mpE,qaE,q2R,if_pos hp]
   exact⟨rfl,rfl⟩
  ·rw[if_neg hp] at h
   obtain⟨a,b⟩:=q9e k v M (i+1) h
   simp only[mpE,qaE,q2R,if_neg hp,qx2,List.set_cons_succ]
   rw[show i+(qaE M k+1)=i+1+qaE M k by omega,a,b]
   exact⟨rfl,rfl⟩
theorem q9p (k:κ) (v:ν):∀(M:List (κ×ν)) (i:Nat),qaC M k=false→mpE kE vE M i++[(kE k,vE v,i+M.length)]=mpE kE vE (q2R M k v) i∧(q2R M k v).length=M.length+1
 | [],i,_=>⟨rfl,rfl⟩
 | p::M,i,h=>by
  rw[qaC] at h
  by_cases hp:k=p.1
  ·rw[if_pos hp] at h;cases h
  ·rw[if_neg hp] at h
   obtain⟨a,b⟩:=q9p k v M (i+1) h
   simp only[mpE,q2R,if_neg hp,qx2,qxV]
   rw[show i+(M.length+1)=i+1+M.length by omega,a,b]
   exact⟨rfl,rfl⟩
end
def mpq:B→Option (List (Value×R×Nat))
 | .ob (.mp es _)=>some es
 | _=>none
def mpo (s:S):R→Option (List (Value×R×Nat))
 | .c .nilm=>some []
 | .c (.hd .map id)=>mpq (s.blk id)
 | _=>none
theorem qgh (s:S) (x:Operand):q1U s x=mpo s (s.ev x):=by
 unfold q1U mpo mpq
 generalize s.ev x=r
 cases r with
 | c c=>
  cases c with
  | hd k id=>cases k<;>rfl
  | _=>rfl
 | _=>rfl
theorem qsI {κ ν:Type} (kE:κ→Value) (vE:ν→R) (M:List (κ×ν)):mpq (.ob (mpB kE vE M))=some (mpE kE vE M 0):=rfl
def mup (kt:Kd) (kv:Value) (r:R):B→Option B
 | .ob (.mp es ck)=>if plK kt kv=true∧es.all (fun q=>plK kt q.1)=true then
   (match fnd kv es 0 with
    | some q=>some (.ob (.mp (es.set q.1 (kv,r,q.2.2)) ck))
    | none=>some (.ob (.mp (es++[(kv,r,ck)]) (ck+1)))) else none
 | _=>none
def xmu (T:Ty) (s:S) (t:TypeId) (m:R) (kv:Option Value) (r:R):Option (R×S):=
 match T.k t,m,kv with
 | .mp kt _,.c (.hd .map id),some kv=>(mup (T.k kt) kv r (s.blk id)).bind fun b=>some (.any,s.up [(id,b)])
 | _,_,_=>none
theorem qlv (T:Ty) (s:S) (t:TypeId) (m:R) (kv:Option Value) (r:R):xmu T s t m kv r =
 match T.k t,m,kv with
 | .mp kt _,.c (.hd .map id),some kv=>(mup (T.k kt) kv r (s.blk id)).bind fun b=>some (.any,s.up [(id,b)])
 | _,_,_=>none:=rfl
theorem qah (T:Ty) (s:S) (t:TypeId) (m k x:Operand):q0f T s t m k x=xmu T s t (s.ev m) (s.ev k).key (s.ev x):=by
 unfold q0f xmu mup
 generalize T.k t=kd
 generalize s.ev m=r
 generalize (s.ev k).key=kv
 cases kd with
 | mp kt e=>
  cases r with
  | c c=>
   cases c with
   | hd h id=>
    cases h with
    | map=>
     cases kv with
     | none=>rfl
     | some kv=>
      simp only
      generalize s.blk id=b
      cases b with
      | ob o=>
       cases o with
       | mp es ck=>
        simp only
        split
        ·cases fnd kv es 0<;>rfl
        ·rfl
       | _=>rfl
      | _=>rfl
    | _=>rfl
   | _=>rfl
  | _=>rfl
 | _=>rfl
section
variable {κ ν:Type} {kE:κ→Value} {vE:ν→R} [DecidableEq κ] (hk:∀a b,kq (kE a) (kE b)=decide (a=b)) {kt:Kd} (hp:∀a,plK kt (kE a)=true)
include hk hp
theorem qqA (k:κ) (v:ν) (M:List (κ×ν)):mup kt (kE k) (vE v) (.ob (mpB kE vE M))=some (.ob (mpB kE vE (q2R M k v))):=by
 unfold mpB mup
 simp only
 rw[if_pos ⟨hp k,q84 (fun k r i=>hp k) M 0⟩,qcb hk k M 0 v]
 cases hm:qaC M k
 ·obtain⟨a,b⟩:=q9p (kE:=kE) (vE:=vE) k v M 0 hm
  simp only[Bool.false_eq_true,if_false]
  rw[qxf] at a
  rw[a,b]
 ·obtain⟨a,b⟩:=q9e (kE:=kE) (vE:=vE) k v M 0 hm
  simp only[if_true]
  rw[qxf] at a ⊢
  rw[a,b]
end
theorem qjI {κ ν:Type} {kE:κ→Value} {vE:ν→R} {s:S} {sel:List Nat} (h:∀v,qaD s sel (vE v)=vE v) (M:List (κ×ν)):cvA s sel (mpB kE vE M)=some (mpB kE vE M):=by
 have:∀(M:List (κ×ν)) (i:Nat),(mpE kE vE M i).map (fun e=>(e.1,qaD s sel e.2.1,e.2.2))=mpE kE vE M i:=by
  intro M
  induction M with
  | nil=>intro i;rfl
  | cons p M ih=>intro i;rw[mpE,qxe,ih,h]
 show some (AO.mp ((mpE kE vE M 0).map fun e=>(e.1,qaD s sel e.2.1,e.2.2)) M.length)=_
 rw[this];rfl
theorem qhl (k:IntKind) (a b:Int):kq (Jm k a) (Jm k b)=decide (a=b):=rfl
theorem qbn {κ ν:Type} {kE:κ→Value} {vE:ν→R} (hk:∀a b,kE a=kE b→a=b) (hv:∀a b,vE a=vE b→a=b):∀(M M':List (κ×ν)) (i:Nat),mpE kE vE M i=mpE kE vE M' i→M=M'
 | [],[],_,_=>rfl
 | [],_::_,_,h=>by cases h
 | _::_,[],_,h=>by cases h
 | (a,v)::M,(b,w)::M',i,h=>by
  unfold mpE at h
  simp only[List.cons.injEq,Prod.mk.injEq] at h
  obtain⟨⟨h1,h2,_⟩,h3⟩:=h
  rw[hk _ _ h1,hv _ _ h2,qbn hk hv M M' _ h3]
theorem qhR {κ ν:Type} {kE:κ→Value} {vE:ν→R} (hk:∀a b,kE a=kE b→a=b) (hv:∀a b,vE a=vE b→a=b) (M M':List (κ×ν)):(B.ob (mpB kE vE M)=B.ob (mpB kE vE M'))=(M=M'):=
 propext ⟨fun h=>by
  injection h with h
  unfold mpB at h
  injection h with h
  exact qbn hk hv M M' 0 h,fun h=>by rw[h]⟩
section
variable {κ ν:Type}
end
end
noncomputable section
open Go.RowKit Go.Maps Go.Sort Go.Shelf
section
variable {P:Program} {ρ:Ren}
end
end
noncomputable section
open Go.RowKit
theorem q5P:∀l:List Int,q3I ((l.flatMap eI).map C.d)=some l
 | []=>rfl
 | x::l=>by
  rw[qxU,List.map_append]
  show(q3I ((l.flatMap eI).map C.d)).map (x :: ·)=_
  rw[q5P l];rfl
theorem q2u:∀l:List Int,(l.map fun z=>C.d (.int .i64 z))=(l.flatMap eI).map C.d
 | []=>rfl
 | x::l=>by
  rw[qxU,List.map_append,qxe,q2u l];rfl
theorem qoa (e:TypeId) (n:Nat) (l:List Int):qnW e 0 [.c (.own 0 1 0 n)] [(0,.row e 1 ((l.flatMap eI).map C.d))]=if n=l.length then some (.c (.own 0 1 0 (cpI l).length),[(0,.row e 1 (((cpI l).flatMap eI).map C.d))]) else none:=by
 show(if e=e then cpX 0 n e _ else none)=_
 rw[if_pos rfl]
 unfold cpX
 rw[q5P,qwR,q2u]
theorem q51 {α β:Type} {E:α→List β} {z:Nat} (hE:∀x,(E x).length=z):∀(l:List α) (i:Nat),i<l.length→(l.flatMap E).take (i*z)++(l.flatMap E).drop ((i+1)*z)=(l.eraseIdx i).flatMap E
 | [],_,h=>by simp at h
 | x::l,0,_=>by
  rw[qxU,Nat.zero_mul,List.take_zero,qxb,qxf,Nat.one_mul,←hE x,List.drop_left];rfl
 | x::l,i+1,h=>by
  rw[qxU,List.eraseIdx_cons_succ,qxU,←q51 hE l i (by simpa using h)]
  have e1:(i+1)*z=(E x).length+i*z:=by rw[hE,Nat.add_mul];omega
  have e2:(i+1+1)*z=(E x).length+(i+1)*z:=by rw[hE,Nat.add_mul (i+1)];omega
  rw[e2,List.drop_append,e1,List.take_append]
  simp[Nat.add_sub_cancel_left,qxW,List.drop_of_length_le]
theorem qjl {α:Type} {E:α→List D} {e z:Nat} (hE:∀x,(E x).length=z) {n:Nat} (l:List α) (i j:Int) (hn:n=l.length):q9U e z 0 [.c (.own 0 z 0 n),.c (.d (.int .i64 i)),.c (.d (.int .i64 j))] [(0,.row e z ((l.flatMap E).map C.d))] =
  if 0≤i∧j=i+1∧i<l.length then some (.c (.own 0 z 0 (l.eraseIdx i.toNat).length),[(0,.row e z (((l.eraseIdx i.toNat).flatMap E).map C.d))]) else none:=by
 subst hn
 show qpM e z z z e l.length i j _=_
 unfold qpM
 have h1:((l.flatMap E).map C.d).length=l.length*z:=by
  rw[qxz]
  induction l with
  | nil=>simp
  | cons x l ih=>rw[qxU,qwY,ih,hE,qx2,Nat.add_mul];omega
 have h2:((l.flatMap E).map C.d).all C.known=true:=by rw[List.all_map];exact qx8.2 fun x _=>rfl
 have h3:((l.flatMap E).map C.d).all (C.far 0)=true:=by rw[List.all_map];exact qx8.2 fun x _=>rfl
 by_cases hc:0≤i∧j=i+1∧i<(l.length:Int)
 ·rw[if_pos ⟨rfl,rfl,rfl,h1,h2,h3,hc⟩,if_pos hc]
  have hi:i.toNat<l.length:=by omega
  rw[←List.map_take,←List.map_drop,←List.map_append,q51 hE l _ hi,List.length_eraseIdx,if_pos hi]
 ·rw[if_neg (fun h=>hc h.2.2.2.2.2.2),if_neg hc]
end
noncomputable section
open Go.RowKit
def C.pl:C→Bool
 | .d _=>true
 | .ow _ _ _ _=>true
 | _=>false
section
variable {α:Type} {E:α→List C} {n:Nat}
theorem qgC (h:∀x,(E x).all C.pl=true) (v:List α) {c:C} (hc:c∈v.flatMap E):c.pl=true:=by
 obtain⟨x,-,hx⟩:=List.mem_flatMap.1 hc
 exact qx8.1 (h x) c hx
theorem qda (h:∀x,(E x).all C.pl=true) {f:C→C} (hf:∀c,c.pl=true→f c=c) (v:List α):(v.flatMap E).map f=v.flatMap E:=
 (List.map_congr_left fun c hc=>hf c (qgC h v hc)).trans (List.map_id _)
theorem qh2 (h:∀x,(E x).all C.pl=true) {p:C→Bool} (hf:∀c,c.pl=true→p c=true) (v:List α):(v.flatMap E).all p=true:=
 qx8.2 fun c hc=>hf c (qgC h v hc)
theorem qnE (h:∀x,(E x).all C.pl=true) {p:C→Bool} (hf:∀c,c.pl=true→p c=false) (v:List α):(v.flatMap E).any p=false:=
 List.any_eq_false.2 fun c hc=>by rw[hf c (qgC h v hc)];decide
theorem qmn (h:∀x,(E x).all C.pl=true) {f:C→List Nat} (hf:∀c,c.pl=true→f c=[]) (v:List α):(v.flatMap E).flatMap f=[]:=
 List.flatMap_eq_nil_iff.2 fun c hc=>hf c (qgC h v hc)
theorem qht (h:∀x,(E x).length=n):∀l:List α,(l.flatMap E).length=l.length*n
 | []=>by simp
 | x::l=>by rw[qxU,qwY,h,qht h l,qx2,Nat.add_mul];omega
theorem qgY (h:∀x,(E x).length=n) {o:Nat} (ho:o<n):∀(v:List α) (i:Nat),(v.flatMap E)[i*n+o]?=(v[i]?).bind fun x=>(E x)[o]?
 | [],i=>by simp
 | x::v,0=>by
  rw[qxU,Nat.zero_mul,qxf,qxu (by rw[h];exact ho)];rfl
 | x::v,i+1=>by
  rw[qxU,show(i+1)*n+o=(E x).length+(i*n+o) by rw[h,Nat.add_mul];omega,qxt (by omega),show(E x).length+(i*n+o)-(E x).length=i*n+o by omega,qgY h ho v i]
  rfl
theorem qgS (h:∀x,(E x).length=1) {x:α} {d:C} (hx:E x=[d]):∀(v:List α) (i:Nat),(v.flatMap E).set i d=(v.set i x).flatMap E
 | [],i=>by simp
 | y::v,0=>by
  have hy:=h y
  rw[qxU,List.set_append_left _ _ (by rw[hy];decide),List.set_cons_zero,qxU,hx]
  match hE:E y,hy with
  | [c],_=>rfl
 | y::v,i+1=>by
  rw[qxU,show i+1=(E y).length+i by rw[h];omega,List.set_append_right _ _ (by omega),show(E y).length+i-(E y).length=i by omega,qgS h hx v i,h,Nat.add_comm,List.set_cons_succ,qxU]
theorem ql8 (v:List α) (x:α):v.flatMap E++E x=(v++[x]).flatMap E:=by simp
theorem qpr {F:α→List D} (h:∀x,(E x).map C.uw=(F x).map C.d):∀v:List α,(v.flatMap E).map C.uw=(v.flatMap F).map C.d
 | []=>rfl
 | x::v=>by rw[qxU,qxU,List.map_append,List.map_append,h,qpr h v]
theorem qt6 {T:Ty} {t:TypeId} {cs:List C} {off:Nat} (hk:∀fs,T.k t ≠ .st fs) (ha:∀n e,T.k t ≠ .arr n e) (ho:T.k t ≠ .other):ld T cs off t=(cs[off]?).map .c:=by
 unfold ld
 split
 ·rename_i h;exact absurd h (hk _)
 ·rename_i h;exact absurd h (ha _ _)
 ·rename_i h;exact absurd h ho
 ·rfl
theorem qdA (zs0:List (Option (Nat×Nat))):∀(zs:List (Option (Nat×Nat))) (xs ys:List C),xs.all C.pl=true→zs.length=xs.length→q4A zs0 zs (xs++ys)=xs++q4A zs0 [] ys
 | [],[],ys,_,_=>rfl
 | [],d::ds,ys,_,h=>by cases h
 | z::zs,[],ys,_,h=>by cases h
 | z::zs,d::ds,ys,hp,h=>by
  rw[List.all_cons,qxn] at hp
  rw[qxV,q4A,qdA zs0 zs ds ys hp.2 (by simpa using h)]
  have:qfR z d=d:=by
   rcases q5C z d with e|⟨e,-⟩
   ·exact e
   ·rw[e] at hp;cases hp.1
  rw[this];rfl
theorem qhr (hp:∀x,(E x).all C.pl=true) (h:∀x,(E x).length=n+1) (zs0:List (Option (Nat×Nat))) (h0:zs0.length=n+1):∀(v:List α) (ys:List C),q4A zs0 [] (v.flatMap E++ys)=v.flatMap E++q4A zs0 [] ys
 | [],ys=>rfl
 | x::v,ys=>by
  have hx:=h x
  have hpx:=hp x
  rw[qxU,qxw,qxw,←qhr hp h zs0 h0 v ys]
  cases hE:E x with
  | nil=>rw[hE] at hx;cases hx
  | cons d ds=>
   rw[hE] at hx hpx
   rw[List.all_cons,qxn] at hpx
   rw[qxV,q4A,qdA zs0 zs0.tail ds _ hpx.2 (by rw[List.length_tail];simp at hx;omega)]
   have:qfR (zs0.headD none) d=d:=by
    rcases q5C (zs0.headD none) d with e|⟨e,-⟩
    ·exact e
    ·rw[e] at hpx;cases hpx.1
   rw[this];rfl
end
theorem qqz (k:Nat) (c:C) (h:c.pl=true):c.fg k=c:=by cases c<;>first|rfl|cases h
theorem qt4 (ids:List Nat) (c:C) (h:c.pl=true):cn ids c=c:=by cases c<;>first|rfl|cases h
theorem qs9 (c:C) (h:c.pl=true):c.kw=c:=by cases c<;>first|rfl|cases h
theorem qmq (k:Nat) (c:C) (h:c.pl=true):c.far k=true:=by cases c<;>first|rfl|cases h
theorem qkc (X:List Nat) (c:C) (h:c.pl=true):c.farF X=true:=by cases c<;>first|rfl|cases h
theorem qk7 (c:C) (h:c.pl=true):c.isNils=false:=by cases c<;>first|rfl|cases h
theorem qi6 (c:C) (h:c.pl=true):c.refs=[]:=by cases c<;>first|rfl|cases h
theorem qjg (c:C) (h:c.pl=true):c.rows=[]:=by cases c<;>first|rfl|cases h
theorem qf5 (f:C→C) (xs ys:List C):(xs++ys).map f=xs.map f++ys.map f:=List.map_append
def oL {α:Type} (e n:Nat) (F:α→List D) (v:List α):List C:=[.ow e n v.length (v.flatMap F)]
theorem qg6 (f:C→C):∀(ys cs:List C) (o:Nat),(spr cs o ys).map f=spr (cs.map f) o (ys.map f):=fun ys cs o=>(q60 f ys cs o).symm
theorem qeX (a b:C) (cs:List C) (o:Nat):spr (spr cs o [a]) o [b]=spr cs o [b]:=by
 show(cs.set o a).set o b=cs.set o b
 rw[List.set_set]
theorem qfK (cs:List C) (o:Nat) (c:C):((spr cs o [c])[o]?).map R.c=(cs[o]?).bind fun _=>some (R.c c):=by
 show((cs.set o c)[o]?).map R.c=_
 rcases Nat.lt_or_ge o cs.length with h|h
 ·rw[qxO h,qwT h];rfl
 ·rw[qxp (by rw[qxC];exact h),qxp h];rfl
theorem qaj (ys cs:List C) (o:Nat):(spr cs o ys).length=cs.length:=JQ ys cs o
theorem qoP (ds:List D):(ds.map C.d).map C.uw=ds.map C.d:=by rw[List.map_map];rfl
theorem qmp (ds:List D):(ds.map C.d).map C.kw=ds.map C.d:=by rw[List.map_map];rfl
end
noncomputable section
open Go.RowKit
def bx0:=JA_ @qhE (JA_ @qqj.eq_1 (JA_ @qqj.eq_2 (JA_ @S.uwD.eq_1 (JA_ @S.tkD.eq_1 (JA_ @S.tkP.eq_1 (JA_ @S.tkP.eq_2 (JA_ @qpS.eq_1 (JA_ @qpS.eq_2 (JA_ @tkL.eq_1 (JA_ @tkL.eq_2 (JA_ @S.frk.eq_1 (JA_ @qo9.eq_1 (JA_ @qdv.eq_1 (JA_ @qgF (JA_ @qeA (JA_ @adL.eq_1 (JA_ @adS.eq_1 (JA_ @adI.eq_1 (JA_ @adI.eq_2 (@adP.eq_1))))))))))))))))))))
def bx1:=JA_ @qtd.eq_1 (JA_ @qqG.eq_1 (JA_ @uwR.eq_2 (JA_ @ldO.eq_1 (JA_ @ldT.eq_2 (JA_ @ldT.eq_11 (JA_ @ldP.eq_1 (JA_ @ldU.eq_1 (JA_ @stO.eq_1 (JA_ @qqa.eq_1 (JA_ @qqa.eq_2 (JA_ @qqk.eq_1 (JA_ @qgU.eq_1 (JA_ @S.fnB.eq_1 (JA_ @S.uwB.eq_1 (JA_ @Kd.isSl0.eq_1 (JA_ @tkS.eq_1 (JA_ @B.kw.eq_2 (@B.kw.eq_3))))))))))))))))))
def bx2:=JA_ @R.nw.eq_1 (JA_ @R.nw.eq_2 (JA_ @R.nw0.eq_1 (JA_ @R.nw0.eq_2 (JA_ @R.nw0.eq_4 (JA_ @C.nw.eq_3 (JA_ @S.uw.eq_1 (JA_ @B.uw.eq_1 (JA_ @B.uw.eq_2 (JA_ @B.uw.eq_4 (JA_ @C.uw.eq_2 (JA_ @S.dzo.eq_1 (JA_ @qcV.eq_1 (JA_ @qcV.eq_2 (JA_ @q4A.eq_1 (JA_ @q4A.eq_2 (JA_ @qfR.eq_1 (@S.abL.eq_1)))))))))))))))))
def bx3:=JA_ @abAt.eq_1 (JA_ @C.noow.eq_2 (JA_ @S.strip.eq_1 (JA_ @q1k.eq_1 (JA_ @q1k.eq_2 (JA_ @qkV.eq_1 (JA_ @qkV.eq_2 (JA_ @R.isA.eq_1 (JA_ @R.isA.eq_2 (JA_ @qut.eq_1 (JA_ @qpX.eq_1 (JA_ @qee.eq_1 (JA_ @qbt.eq_1 (JA_ @S.ly.eq_1 (JA_ @alC.eq_1 (JA_ @alC.eq_2 (JA_ @alX.eq_1 (JA_ @alX.eq_2 (JA_ @qts.eq_1 (JA_ @qoL.eq_1 (JA_ @qq7.eq_1 (JA_ @ipX.eq_1 (@qpL.eq_1))))))))))))))))))))))
def bx4:=JA_ @qpL.eq_2 (JA_ @qrd.eq_1 (JA_ @qrW.eq_1 (JA_ @ipA.eq_1 (JA_ @ipS.eq_1 (JA_ @ipS.eq_2 (JA_ @ipF.eq_1 (JA_ @ql7.eq_1 (JA_ @ql7.eq_2 (JA_ @q7r.eq_1 (JA_ @qg2.eq_1 (JA_ @qg2.eq_2 (JA_ @zmk.eq_1 (JA_ @zmk.eq_2 (JA_ @S.fin.eq_1 (JA_ @S.fn1.eq_1 (JA_ @S.inr.eq_1 (JA_ @prx.eq_1 (JA_ @APr.of_run (JA_ @pr0.eq_1 (JA_ @List.isEmpty_nil.{0} (JA_ @List.isEmpty_cons.{0} (JA_ @wbC.eq_1 (JA_ @B.beq.eq_1 (JA_ @C.beqL.eq_1 (JA_ @C.beqL.eq_2 (@C.beq0.eq_1))))))))))))))))))))))))))
def bx5:=JA_ @D.beq.eq_1 (JA_ @D.beq.eq_4 (JA_ @qsE.eq_1 (JA_ @dzc.eq_2 (JA_ @dzc.eq_3 (JA_ @C.isNils.eq_1 (JA_ @C.isNils.eq_2 (JA_ @qgz (JA_ @List.any_append.{0} (JA_ @q4m.eq_1 (JA_ @q2V.eq_1 (JA_ @q2V.eq_2 (JA_ @qeH.eq_1 (JA_ @fpA.eq_1 (JA_ @qaq.eq_1 (JA_ @S.kill.eq_1 (JA_ @qiT.eq_1 (JA_ @qiT.eq_2 (JA_ @qaV.eq_1 (JA_ @qmU.eq_1 (JA_ @okX.eq_1 (JA_ @okX.eq_2 (@okK.eq_1))))))))))))))))))))))
def bx6:=JA_ @okN.eq_1 (JA_ @okN.eq_2 (JA_ @q2G.eq_1 (JA_ @qjN.eq_1 (JA_ @qjN.eq_2 (JA_ @ql1.eq_1 (JA_ @ql1.eq_2 (JA_ @q2h.eq_1 (JA_ @qek.eq_1 (JA_ @q02.eq_1 (JA_ @qaS.eq_1 (JA_ @q1V.eq_1 (JA_ @q0x.eq_1 (JA_ @q5O.eq_1 (JA_ @q3b.eq_1 (JA_ @q3b.eq_2 (JA_ @cvT.eq_1 (JA_ @q7z.eq_1 (JA_ @q4h.eq_1 (JA_ @qoO.eq_1 (JA_ @qiY.eq_1 (JA_ @S.rf.eq_1 (JA_ @S.rfx.eq_1 (JA_ @qnh.eq_1 (JA_ @rdB.eq_1 (JA_ @qhs.eq_1 (JA_ @q4i.eq_1 (@qfS)))))))))))))))))))))))))))
def bx7:=JA_ @qfn (JA_ @qft (JA_ @qgi (JA_ @q2z.eq_1 (JA_ @qaI.eq_1 (JA_ @D.key.eq_1 (JA_ @R.key.eq_1 (JA_ @plK.eq_1 (JA_ @zR.eq_1 (JA_ @tt2.eq_1 (JA_ @B.isOb.eq_2 (@AO.mapR.eq_2)))))))))))
def bx8:=JA_ @AO.Rs.eq_2 (JA_ @R.refs0.eq_1 (JA_ @R.refs0.eq_3 (JA_ @cvA.eq_2 (JA_ @qaD.eq_1 (JA_ @xgd.eq_1 (JA_ @xgF.eq_1 (JA_ @xo.eq_1 (JA_ @xo.eq_2 (JA_ @xo.eq_3 (JA_ @xo.eq_4 (JA_ @xo.eq_5 (JA_ @xo.eq_6 (JA_ @xo.eq_7 (JA_ @xo.eq_8 (JA_ @xo.eq_9 (JA_ @xo.eq_10 (JA_ @xo.eq_11 (JA_ @xo.eq_12 (JA_ @xo.eq_13 (JA_ @xo.eq_14 (JA_ @xo.eq_15 (JA_ @xo.eq_16 (JA_ @xo.eq_17 (JA_ @xo.eq_19 (JA_ @xo.eq_20 (JA_ @xo.eq_21 (JA_ @xo.eq_22 (JA_ @xo.eq_23 (@xo.eq_24)))))))))))))))))))))))))))))
def bx9:=JA_ @xo.eq_25 (JA_ @xCl.eq_1 (JA_ @pre.eq_1 (JA_ @pre.eq_2 (JA_ @pre.eq_3 (JA_ @q4k.eq_1 (JA_ @J0.eq_1 (JA_ @q3F.eq_1 (JA_ @q9d.eq_1 (JA_ @q7q.eq_1 (JA_ @q0E.eq_1 (JA_ @JW.eq_2 (JA_ @JW.eq_3 (JA_ @qsD.eq_1 (JA_ @qaF.eq_1 (JA_ @qaF.eq_2 (JA_ @cvR.eq_1 (JA_ @cvR.eq_2 (JA_ @cvR.eq_3 (JA_ @cvL.eq_1 (JA_ @cvL.eq_2 (JA_ @qet.eq_1 (JA_ @qet.eq_2 (JA_ @cv.eq_1 (JA_ @cv.eq_2 (JA_ @cv0.eq_1 (@cv0.eq_5))))))))))))))))))))))))))
def qvU:=JA_ @cv0.eq_9 (JA_ @cv0.eq_10 (JA_ @cv0.eq_11 (JA_ @cvG.eq_1 (JA_ @cvG.eq_2 (JA_ @cvB.eq_1 (JA_ @cvB.eq_2 (JA_ @cvB.eq_3 (JA_ @vis.eq_1 (JA_ @q38.eq_1 (JA_ @q38.eq_2 (JA_ @q0e (JA_ @qiR.eq_1 (JA_ @pos.eq_1 (JA_ @pos.eq_2 (JA_ @qfi.eq_1 (JA_ @q5Y.eq_1 (JA_ @q8m.eq_1 (JA_ @qpU.eq_1 (JA_ @q04.eq_1 (JA_ @JD.eq_1 (JA_ @q12.eq_1 (JA_ @q3m.eq_1 (JA_ @q0i.eq_1 (JA_ @q61.eq_1 (JA_ @q61.eq_2 (JA_ @q61.eq_3 (JA_ @q61.eq_4 (JA_ @q61.eq_5 (@q61.eq_6)))))))))))))))))))))))))))))
def qv9:=JA_ @q61.eq_10 (JA_ @q61.eq_11 (JA_ @q61.eq_12 (JA_ @q61.eq_13 (JA_ @q61.eq_14 (JA_ @q61.eq_15 (JA_ @q61.eq_16 (JA_ @q61.eq_17 (JA_ @qlu.eq_3 (JA_ @qlu.eq_4 (JA_ @qpZ.eq_1 (JA_ @qpY.eq_1 (JA_ @qpV.eq_1 (JA_ @qqb.eq_1 (JA_ @qq8.eq_1 (JA_ @qq3.eq_1 (JA_ @qeP.eq_1 (JA_ @q8X.eq_1 (JA_ @q9y.eq_1 (JA_ @Zi.eq_1 (JA_ @q27.eq_1 (@q7B.eq_1)))))))))))))))))))))
def quN:=JA_ @q1m.eq_1 (JA_ @Kd.isSl.eq_1 (JA_ @nrm.eq_1 (JA_ @qhc.eq_1 (JA_ @qrk.eq_1 (JA_ @rng.eq_1 (JA_ @rng.eq_2 (JA_ @rwAll.eq_1 (JA_ @rwAll.eq_2 (JA_ @rw1.eq_1 (JA_ @rw1.eq_2 (JA_ @cn.eq_1 (JA_ @cn.eq_2 (JA_ @cn0.eq_1 (JA_ @cn0.eq_2 (JA_ @cn0.eq_3 (JA_ @cn0.eq_5 (JA_ @cnR.eq_2 (JA_ @qaW.eq_1 (JA_ @qaW.eq_2 (JA_ @qaW.eq_3 (JA_ @cnB.eq_1 (JA_ @cnB.eq_2 (JA_ @cnB.eq_3 (JA_ @cnH.eq_1 (JA_ @cnH.eq_2 (JA_ @qlS (JA_ @qy.eq_1 (JA_ @qy.eq_2 (@qy.eq_3)))))))))))))))))))))))))))))
def qvV:=JA_ @qli.eq_1 (JA_ @qam.eq_1 (JA_ @q4L.eq_1 (JA_ @qar.eq_1 (JA_ @q4J.eq_1 (JA_ @q80.eq_1 (JA_ @q4H.eq_1 (JA_ @q4H.eq_2 (JA_ @S.frz.eq_1 (JA_ @S.frz.eq_2 (JA_ @S.frz1.eq_1 (JA_ @fz.eq_1 (JA_ @fz.eq_2 (JA_ @fz0.eq_1 (JA_ @fz0.eq_2 (JA_ @fz0.eq_3 (JA_ @fz0.eq_5 (JA_ @fzR.eq_1 (JA_ @fzR.eq_2 (JA_ @qeu.eq_1 (JA_ @qeu.eq_2 (JA_ @qeu.eq_3 (JA_ @fzB.eq_1 (JA_ @fzB.eq_2 (JA_ @fzB.eq_3 (JA_ @fzB.eq_4 (JA_ @qnY (JA_ @dz.eq_1 (JA_ @dz.eq_2 (JA_ @dzL.eq_1 (JA_ @dzL.eq_2 (JA_ @dzR.eq_1 (JA_ @dzR.eq_2 (JA_ @q9F.eq_1 (JA_ @q9F.eq_2 (@one.eq_1)))))))))))))))))))))))))))))))))))
def qwG:=JA_ @one.eq_2 (JA_ @rvs.eq_1 (JA_ @rvs.eq_2 (JA_ @qjO.eq_1 (JA_ @qjO.eq_2 (JA_ @tt.eq_1 (JA_ @ff.eq_1 (JA_ @q3A.eq_1 (JA_ @q3A.eq_2 (JA_ @C.ref0.eq_1 (JA_ @C.ref0.eq_2 (JA_ @C.ref0.eq_3 (JA_ @C.ref0.eq_4 (JA_ @C.refs.eq_1 (JA_ @C.refs.eq_2 (JA_ @B.refs.eq_1 (JA_ @B.refs.eq_2 (JA_ @B.refs.eq_3 (JA_ @B.refs.eq_4 (JA_ @R.refs.eq_1 (JA_ @R.refs.eq_2 (JA_ @R.refs.eq_4 (JA_ @C.rows0.eq_1 (JA_ @C.rows0.eq_2 (JA_ @C.rows.eq_1 (JA_ @C.rows.eq_2 (JA_ @R.rows.eq_1 (JA_ @R.rows.eq_2 (JA_ @R.rows.eq_3 (JA_ @C.ptrs0.eq_1 (JA_ @C.ptrs0.eq_2 (JA_ @C.ptrs0.eq_3 (JA_ @C.ptrs.eq_1 (JA_ @C.ptrs.eq_2 (JA_ @R.ptrs.eq_1 (JA_ @R.ptrs.eq_2 (JA_ @R.ptrs.eq_3 (JA_ @B.isBlk.eq_1 (@B.isBlk.eq_2))))))))))))))))))))))))))))))))))))))
def qvD:=JA_ @B.isBlk.eq_3 (JA_ @R.scl.eq_1 (JA_ @R.scl.eq_2 (JA_ @R.scl0.eq_1 (JA_ @R.scl0.eq_2 (JA_ @R.scl0.eq_3 (JA_ @C.scl.eq_1 (JA_ @C.scl.eq_2 (JA_ @C.scl0.eq_1 (JA_ @C.scl0.eq_3 (JA_ @C.scl0.eq_5 (JA_ @B.scl.eq_1 (JA_ @B.scl.eq_2 (JA_ @B.scl.eq_3 (JA_ @C.dat.eq_2 (JA_ @C.dat0.eq_1 (JA_ @C.dat0.eq_9 (JA_ @ren.eq_1 (JA_ @R.rn.eq_1 (JA_ @R.rn.eq_2 (JA_ @R.rn0.eq_1 (JA_ @R.rn0.eq_2 (JA_ @R.rn0.eq_3 (JA_ @C.rn.eq_1 (JA_ @C.rn.eq_2 (JA_ @C.rn0.eq_1 (JA_ @C.rn0.eq_2 (@C.rn0.eq_3)))))))))))))))))))))))))))
def qvW:=JA_ @C.rn0.eq_6 (JA_ @B.rn.eq_1 (JA_ @B.rn.eq_2 (JA_ @B.rn.eq_3 (JA_ @qni (JA_ @S.aft.eq_1 (JA_ @S.fgL.eq_1 (JA_ @S.fgL.eq_2 (JA_ @C.fgL.eq_1 (JA_ @C.fgL.eq_2 (JA_ @C.fgL.eq_3 (JA_ @C.fgL.eq_5 (JA_ @R.fgL.eq_1 (JA_ @R.fgL.eq_2 (JA_ @R.fgL.eq_3 (JA_ @B.fgL.eq_1 (JA_ @B.fgL.eq_2 (JA_ @B.fgL.eq_3 (JA_ @B.fgL.eq_4 (JA_ @C.farL.eq_1 (JA_ @C.farL.eq_2 (JA_ @C.farL.eq_3 (JA_ @C.farL.eq_5 (JA_ @R.farL.eq_1 (JA_ @B.farL.eq_2 (JA_ @B.farL.eq_3 (JA_ @qkW.eq_1 (JA_ @qkW.eq_2 (JA_ @qkW.eq_3 (@qct.eq_1)))))))))))))))))))))))))))))
def qvR:=JA_ @qct.eq_2 (JA_ @S.ev.eq_1 (JA_ @S.ev.eq_2 (JA_ @S.ev.eq_3 (JA_ @S.get.eq_1 (JA_ @S.blk.eq_1 (JA_ @S.put.eq_1 (JA_ @S.put.eq_2 (JA_ @S.up.eq_1 (JA_ @S.bd.eq_1 (JA_ @S.bd.eq_2 (JA_ @S.seq.eq_1 (JA_ @S.cell1.eq_1 (JA_ @lk.eq_1 (JA_ @lk.eq_2 (JA_ @Z4.eq_1 (JA_ @Z4.eq_2 (JA_ @Z4.eq_3 (JA_ @Z4.eq_5 (JA_ @Z4.eq_6 (JA_ @Z4.eq_7 (JA_ @JO.eq_1 (JA_ @JO.eq_2 (JA_ @qiE (JA_ @ldx.eq_1 (JA_ @bld.eq_1 (JA_ @bld.eq_2 (JA_ @spl.eq_1 (JA_ @spl.eq_2 (JA_ @Zl.eq_1 (JA_ @Ty.foff.eq_1 (JA_ @R.cells.eq_1 (JA_ @R.cells.eq_2 (@R.parts.eq_1)))))))))))))))))))))))))))))))))
def qvH:=JA_ @R.parts.eq_2 (JA_ @B.cells.eq_1 (JA_ @B.cells.eq_2 (JA_ @B.live.eq_1 (JA_ @B.live.eq_2 (JA_ @C.known.eq_3 (JA_ @C.far.eq_1 (JA_ @C.far.eq_3 (JA_ @C.far.eq_5 (JA_ @S.fg.eq_1 (JA_ @R.fg.eq_1 (JA_ @R.fg.eq_2 (JA_ @R.fg.eq_3 (JA_ @R.fg.eq_4 (JA_ @B.fg.eq_1 (JA_ @B.fg.eq_2 (JA_ @B.fg.eq_3 (JA_ @B.fg.eq_4 (JA_ @C.fg.eq_1 (JA_ @C.fg.eq_2 (JA_ @C.fg.eq_3 (JA_ @C.fg.eq_4 (JA_ @C.fg.eq_5 (JA_ @D1.eq_1 (JA_ @JC.eq_1 (JA_ @JC.eq_2 (JA_ @JC.eq_4 (JA_ @JC.eq_6 (JA_ @JC.eq_7 (JA_ @JC.eq_8 (@JC.eq_9))))))))))))))))))))))))))))))
def qvl:=JA_ @JC.eq_10 (JA_ @JC.eq_11 (JA_ @JC.eq_12 (JA_ @JC.eq_14 (JA_ @JC.eq_15 (JA_ @JC.eq_17 (JA_ @JC.eq_21 (JA_ @JC.eq_23 (JA_ @JC.eq_24 (JA_ @qas.eq_1 (JA_ @qas.eq_2 (JA_ @qas.eq_3 (JA_ @qas.eq_5 (JA_ @qas.eq_6 (JA_ @q3L.eq_3 (JA_ @q3L.eq_5 (JA_ @q3L.eq_6 (JA_ @qaM.eq_1 (JA_ @qaM.eq_3 (JA_ @qaM.eq_4 (JA_ @qaM.eq_5 (JA_ @fpC.eq_1 (JA_ @qlW.eq_1 (JA_ @qpc.eq_1 (JA_ @qqe.eq_1 (JA_ @C.lt0.eq_3 (@C.lt0.eq_4))))))))))))))))))))))))))
def qwM:=JA_ @C.ltn.eq_2 (JA_ @R.lt0.eq_1 (JA_ @R.lt0.eq_2 (JA_ @R.ltn.eq_2 (JA_ @B.ltn.eq_1 (JA_ @q0L.eq_1 (JA_ @Fp.none?.eq_1 (JA_ @okP.eq_1 (JA_ @okP.eq_2 (JA_ @qgx (JA_ @qgm (JA_ @qj2 (JA_ @qfY (JA_ @qgR (JA_ @qgf (JA_ @qj3 (JA_ @qg4 (JA_ @qeN (JA_ @qfh (JA_ @qal (JA_ @qkB (JA_ @qgo (JA_ @qfx (JA_ @qif (JA_ @qez (JA_ @qfz (JA_ @qgI (JA_ @qiz (JA_ @qeU (JA_ @qfy (JA_ @qfH (@qjQ)))))))))))))))))))))))))))))))
def qvM:=JA_ @qgO (JA_ @qj9 (JA_ @qdB (JA_ @qiQ (JA_ @qfC (JA_ @qf3 (JA_ @qo5 (JA_ @qj8 (JA_ @C.farF.eq_2 (JA_ @Op.operands.eq_1 (JA_ @Op.operands.eq_4 (JA_ @Op.operands.eq_5 (JA_ @Op.operands.eq_7 (JA_ @Op.operands.eq_8 (JA_ @Op.operands.eq_9 (JA_ @Op.operands.eq_10 (JA_ @Op.operands.eq_14 (JA_ @Op.operands.eq_24 (@Op.operands.eq_25))))))))))))))))))
def qw3:=JA_ @Op.operands.eq_26 (JA_ @Op.operands.eq_27 (JA_ @Op.operands.eq_29 (JA_ @Op.operands.eq_31 (JA_ @Op.operands.eq_36 (JA_ @Op.operands.eq_40 (JA_ @qn8 (JA_ @qnv (JA_ @Option.isNone_none.{0} (JA_ @qpb.eq_1 (JA_ @qpb.eq_2 (JA_ @Option.toList_some.{0} (JA_ @Option.toList_none.{0} (JA_ @List.all_append.{0} (JA_ @List.getElem?_nil.{0} (JA_ @List.drop_zero.{0} (JA_ @wi (JA_ @Int.cast_ofNat_Int (JA_ @Int.le_refl (JA_ @qx7 (JA_ @Option.bind_assoc.{0,0,0} (JA_ @List.any_nil.{0} (JA_ @List.any_cons.{0} (JA_ @List.getD_cons_zero.{0} (JA_ @List.getD_cons_succ.{0} (JA_ @true_and (@and_true))))))))))))))))))))))))))
def qwv:=JA_ @and_false (JA_ @qxG.{0} (JA_ @Prod.mk.injEq.{0,0} (JA_ @qwR.{0,0} (JA_ @Option.bind_none.{0,0} (JA_ @Option.map_some.{0,0} (JA_ @Option.map_none.{0,0} (JA_ @Option.getD_some.{0} (JA_ @Option.getD_none.{0} (JA_ @ne_eq.{1} (JA_ @not_false_eq_true (JA_ @or_true (JA_ @or_false (JA_ @Bool.false_eq_true (JA_ @qxe.{0,0} (JA_ @List.map_nil.{0,0} (JA_ @List.all_cons.{0} (JA_ @List.all_nil.{0} (JA_ @qxS (JA_ @qxo (JA_ @Bool.and_false (JA_ @Bool.false_and (JA_ @qxn (JA_ @Bool.or_true (JA_ @Bool.true_or (JA_ @Bool.or_false (JA_ @Bool.false_or (JA_ @qx2.{0} (JA_ @qxA.{0} (JA_ @qxz.{0,0} (JA_ @qx1.{0} (JA_ @qxg.{0} (JA_ @qxT.{0,0} (JA_ @List.foldl_nil.{0,0} (JA_ @qxV.{0} (@qxb.{0})))))))))))))))))))))))))))))))))))
def qvy:=JA_ @qxc.{0} (JA_ @Nat.max_def (JA_ @decide_true (JA_ @decide_false (JA_ @decide_not (JA_ @qxQ (JA_ @qxh (JA_ @Nat.zero_mul (JA_ @Nat.mul_one (JA_ @Nat.one_mul (JA_ @Nat.add_zero (JA_ @qxf (JA_ @qwU (JA_ @List.mapM_cons.{0,0,0} (JA_ @List.mapM_nil.{0,0,0} (JA_ @List.drop_succ_cons.{0} (JA_ @List.drop_nil.{0} (JA_ @List.take_succ_cons.{0} (JA_ @List.take_zero.{0} (JA_ @List.replicate_succ.{0} (JA_ @List.replicate_zero.{0} (JA_ @List.set_cons_zero.{0} (JA_ @List.set_cons_succ.{0} (JA_ @and_self (JA_ @Bool.not_true (JA_ @Bool.not_false (JA_ @List.contains_cons.{0} (JA_ @List.contains_nil.{0} (JA_ @qxU.{0,0} (JA_ @List.flatMap_nil.{0,0} (JA_ @List.filter_cons.{0} (JA_ @List.filter_nil.{0} (JA_ @List.eraseDups_cons.{0} (JA_ @List.eraseDups_nil.{0} (JA_ @List.nodup_cons.{0} (JA_ @List.nodup_nil.{0} (JA_ @qxd.{0} (JA_ @List.not_mem_nil.{0} (JA_ @List.headD_cons.{0} (@List.headD_nil.{0})))))))))))))))))))))))))))))))))))))))
def qwO:=JA_ @List.tail_cons.{0} (JA_ @List.tail_nil.{0} (JA_ @beq_self_eq_true.{0} (JA_ @Z9 (JA_ @List.range_succ (JA_ @List.range_zero (JA_ @ite_self.{1} (JA_ @qf5 (JA_ @qg6 (JA_ @qeX (JA_ @qaj (JA_ @qoP (JA_ @qmp (JA_ @frA.eq_1 (JA_ @R.dat.eq_1 (JA_ @R.dat.eq_2 (JA_ @qjY (JA_ @qjZ (JA_ @qpy (JA_ @qiw (JA_ @qnF (JA_ @qhX (JA_ @qkC (@qlF)))))))))))))))))))))))
def qv1:=JA_ @qfV (JA_ @q6S (JA_ @qgh (JA_ @mpo.eq_2 (JA_ @qsI (JA_ @qah (JA_ @qlv (JA_ @qcp (JA_ @qi0 (JA_ @qp1 (JA_ @qke (JA_ @qpB (JA_ @qfg (JA_ @qku (JA_ @qcY (JA_ @qiF (JA_ @qfe (JA_ @qis (@qfZ))))))))))))))))))
def qvF:=JA_ @ZW.eq_1 (JA_ @ZW.eq_2 (JA_ @qkx.eq_2 (JA_ @hdG.eq_1 (@qq6.eq_2))))
def qvo:=JA_ @q9W (JA_ @qhU (JA_ @qeK (JA_ @qgv (JA_ @qjD (JA_ @qfd (JA_ @qkQ (JA_ @qf9 (JA_ @q9B (JA_ @qki (JA_ @qg9 (JA_ @qex (JA_ @qhO (JA_ @qeR (JA_ @qhP (JA_ @qfm (JA_ @qk8 (JA_ @qib (JA_ @qfM (JA_ @qjb (JA_ @quJ (JA_ @qw6 (JA_ @qrC (@qsT)))))))))))))))))))))))
def qwA:=JA_ @qrp (JA_ @qnX (JA_ @qn3 (JA_ @qny (JA_ @qsg (JA_ @qob (JA_ @qsN (JA_ @qof (JA_ @qm1 (JA_ @qij (JA_ @qiv (JA_ @qoD (JA_ @qjV (JA_ @qo8 (JA_ @qkl (JA_ @qw0 (JA_ @qa8 (JA_ @qfW (JA_ @qnw (JA_ @qih (JA_ @qiN (JA_ @Sum.elim_inl.{0,1,0} (JA_ @Sum.elim_inr.{0,1,0} (JA_ @qkN (JA_ @q60 (JA_ @qcD (JA_ @qbx (JA_ @qfv (JA_ @qq5.eq_1 (@qoF)))))))))))))))))))))))))))))
def qvP:=JA_ @qco (JA_ @qey (JA_ @ql9 (JA_ @qiO (JA_ @qk6 (JA_ @qji (JA_ @qk3 (JA_ @qhY (JA_ @qkn (JA_ @q7Z (JA_ @q64 (JA_ @qmB (JA_ @qrc.eq_1 (JA_ @qwY.{0} (JA_ @qxC.{0} (JA_ @qxy.{0} (JA_ @qat (JA_ @qcF (JA_ @List.take_nil.{0} (@qc3)))))))))))))))))))
def qwD:=JA_ @JQ (JA_ @q5P (JA_ @q2u (@qoa)))
theorem quY (a0 a1 a2:Int) (i:Nat):([C.d (D.int .i64 a0),C.d (D.int .i64 a1),C.d (D.int .i64 a2)]:List C)[i]?=([a0,a1,a2][i]?).bind fun x=>some (C.d (D.int .i64 x)):=by rw[show([C.d (D.int .i64 a0),C.d (D.int .i64 a1),C.d (D.int .i64 a2)]:List C)=[a0,a1,a2].map (fun x=>C.d (D.int .i64 x)) from rfl,qx5];cases([a0,a1,a2]:List Int)[i]? <;> rfl
theorem quM (a0 a1 a2 a3:Int) (i:Nat):([C.d (D.int .i64 a0),C.d (D.int .i64 a1),C.d (D.int .i64 a2),C.d (D.int .i64 a3)]:List C)[i]?=([a0,a1,a2,a3][i]?).bind fun x=>some (C.d (D.int .i64 x)):=by rw[show([C.d (D.int .i64 a0),C.d (D.int .i64 a1),C.d (D.int .i64 a2),C.d (D.int .i64 a3)]:List C)=[a0,a1,a2,a3].map (fun x=>C.d (D.int .i64 x)) from rfl,qx5];cases([a0,a1,a2,a3]:List Int)[i]? <;> rfl
theorem qvA (a0 a1 a2 a3 a4:Int) (i:Nat):([C.d (D.int .i64 a0),C.d (D.int .i64 a1),C.d (D.int .i64 a2),C.d (D.int .i64 a3),C.d (D.int .i64 a4)]:List C)[i]?=([a0,a1,a2,a3,a4][i]?).bind fun x=>some (C.d (D.int .i64 x)):=by rw[show([C.d (D.int .i64 a0),C.d (D.int .i64 a1),C.d (D.int .i64 a2),C.d (D.int .i64 a3),C.d (D.int .i64 a4)]:List C)=[a0,a1,a2,a3,a4].map (fun x=>C.d (D.int .i64 x)) from rfl,qx5];cases([a0,a1,a2,a3,a4]:List Int)[i]? <;> rfl
theorem qvn (a0 a1 a2 a3 a4 a5:Int) (i:Nat):([C.d (D.int .i64 a0),C.d (D.int .i64 a1),C.d (D.int .i64 a2),C.d (D.int .i64 a3),C.d (D.int .i64 a4),C.d (D.int .i64 a5)]:List C)[i]?=([a0,a1,a2,a3,a4,a5][i]?).bind fun x=>some (C.d (D.int .i64 x)):=by rw[show([C.d (D.int .i64 a0),C.d (D.int .i64 a1),C.d (D.int .i64 a2),C.d (D.int .i64 a3),C.d (D.int .i64 a4),C.d (D.int .i64 a5)]:List C)=[a0,a1,a2,a3,a4,a5].map (fun x=>C.d (D.int .i64 x)) from rfl,qx5];cases([a0,a1,a2,a3,a4,a5]:List Int)[i]? <;> rfl
theorem qwx (a0 a1 a2:ByteArray) (i:Nat):([C.d (D.str a0),C.d (D.str a1),C.d (D.str a2)]:List C)[i]?=([a0,a1,a2][i]?).bind fun x=>some (C.d (D.str x)):=by rw[show([C.d (D.str a0),C.d (D.str a1),C.d (D.str a2)]:List C)=[a0,a1,a2].map (fun x=>C.d (D.str x)) from rfl,qx5];cases([a0,a1,a2]:List ByteArray)[i]? <;> rfl
theorem qws (a0 a1 a2 a3:ByteArray) (i:Nat):([C.d (D.str a0),C.d (D.str a1),C.d (D.str a2),C.d (D.str a3)]:List C)[i]?=([a0,a1,a2,a3][i]?).bind fun x=>some (C.d (D.str x)):=by rw[show([C.d (D.str a0),C.d (D.str a1),C.d (D.str a2),C.d (D.str a3)]:List C)=[a0,a1,a2,a3].map (fun x=>C.d (D.str x)) from rfl,qx5];cases([a0,a1,a2,a3]:List ByteArray)[i]? <;> rfl
theorem qqw {α:Type} (l:List α) (k:Nat):List.take (min k l.length) l=List.take k l:=by
 by_cases h:k≤l.length
 ·rw[Nat.min_eq_left h]
 ·rw[Nat.min_eq_right (by omega),List.take_length,qxW (by omega)]
theorem qlZ {α:Type} (e:α→List D) (l:List α) (k:Nat):(if l.length≤k then some (l.flatMap e) else some ((l.take k).flatMap e))=some ((l.take k).flatMap e):=by
 split
 ·rename_i h;rw[qxW h]
 ·rfl
theorem qqq {α:Type} (l:List α) (j:Nat):List.take (l.length-j) (List.drop j l)=List.drop j l:=by rw[qxW];rw[qxD];exact qx7 _
theorem qnG (sz:Nat) (x:Int):D.sl sz 1 (eI x)=D.sl sz 1 [D.int .i64 x]:=rfl
theorem qne:(min 3 4:Nat)=3:=rfl
theorem qow {α:Type} (a b:List α) (k:Nat):List.take (min k (a.length+b.length)) (a++b)=List.take k (a++b):=by rw[←qwY,qqw]
theorem qpm {α:Type} (e:α→List D) (a b:List α) (k:Nat):(if a.length+b.length≤k then some ((a++b).flatMap e) else some (((a++b).take k).flatMap e))=some (((a++b).take k).flatMap e):=by rw[←qwY,qlZ]
theorem qo3 {α:Type} (e:α→List D) (sz:Nat) (a b:List α) (k:Nat):D.sl sz (min k (a.length+b.length)) (((a++b).take k).flatMap e)=D.sl sz ((a++b).take k).length (((a++b).take k).flatMap e):=by rw[qxk,qwY]
theorem qkH (a b k:Nat):((a+b)*8=min k (a+b)*8)=(a+b≤k):=by apply propext;omega
theorem qko (a b k:Nat):(min k (a+b)*8≤(a+b)*8)=True:=eq_true (by omega)
theorem qhF (l:List Int):(l.length=(ZK l).length)=True:=eq_true (q0j l).symm
def bz0:=JA_ @quY (JA_ @quM (JA_ @qvA (JA_ @qvn (JA_ @qwx (@qws)))))
def bz1:=JA_ @qqq (@qnG)
def bz2:=JA_ @qne (JA_ @qow (JA_ @qpm (JA_ @qo3 (JA_ @qkH (@qko)))))
def bz5:=@qhF
end
noncomputable section
open Go.RowKit
structure QT (α:Type) where
 a0:α
 a1:α
def eA2 {α:Type} (E:α→List D) (x:QT α):List D:=E x.a0++E x.a1
structure qhA (α:Type) where
 a0:α
 a1:α
 a2:α
structure Qq where
 Has:List (List Int)
 Odd:QT (qhA Int)
 Programme:List Int
 Day:Int
structure qe where
 Worst:Int
 Best:Int
 Pass:Int
def Z2 (x:qe):List D:=[D.int .i64 x.Worst,D.int .i64 x.Best,D.int .i64 x.Pass]
theorem q4E (x:qe):Z2 x=[D.int .i64 x.Worst,D.int .i64 x.Best,D.int .i64 x.Pass]:=rfl
theorem q3R (x:qe):(Z2 x).length=3:=rfl
structure qb where
 School:Int
 Code:ByteArray
def qj (x:qb):List D:=[D.int .i64 x.School,D.str x.Code]
theorem QG (x:qb):qj x=[D.int .i64 x.School,D.str x.Code]:=rfl
theorem q00 (x:qb):(qj x).length=2:=rfl
theorem q3e (x:qb):qb.mk x.School x.Code=x:=rfl
structure qa where
 Course:qb
 Credits:Int
 Grade:Int
 Day:Int
 Sources:List Int
 Bundle:Int
 Path:List Int
def qc (x:qa):List D:=[D.int .i64 x.Course.School,D.str x.Course.Code,D.int .i64 x.Credits,D.int .i64 x.Grade,D.int .i64 x.Day,D.sl 1 x.Sources.length (x.Sources.flatMap eI),D.int .i64 x.Bundle,D.sl 1 x.Path.length (x.Path.flatMap eI)]
theorem qI (x:qa):qc x=[D.int .i64 x.Course.School,D.str x.Course.Code,D.int .i64 x.Credits,D.int .i64 x.Grade,D.int .i64 x.Day,D.sl 1 x.Sources.length (x.Sources.flatMap eI),D.int .i64 x.Bundle,D.sl 1 x.Path.length (x.Path.flatMap eI)]:=rfl
theorem Zy (x:qa):(qc x).length=8:=rfl
theorem q0P (x:qa):qa.mk x.Course x.Credits x.Grade x.Day x.Sources x.Bundle x.Path=x:=rfl
structure qh where
 Kind:Int
 N:Int
 Min:Int
 Set:List qb
 L:List qh
mutual
def qq:qh→List D
 | ⟨a0,a1,a2,a3,a4⟩=>[D.int .i64 a0,D.int .i64 a1,D.int .i64 a2,D.sl 2 a3.length (a3.flatMap qj),D.sl 5 a4.length (zY a4)]
def zY:List qh→List D
 | []=>[]
 | x::l=>qq x++zY l
end
theorem q03:∀l:List qh,zY l=l.flatMap qq
 | []=>rfl
 | x::l=>by rw[qxU,←q03 l,zY]
theorem q2d (x:qh):qq x=[D.int .i64 x.Kind,D.int .i64 x.N,D.int .i64 x.Min,D.sl 2 x.Set.length (x.Set.flatMap qj),D.sl 5 x.L.length (x.L.flatMap qq)]:=by cases x;rw[qq,q03]
theorem QQ (x:qh):(qq x).length=5:=by rw[q2d];rfl
theorem q4B (x:qh):qh.mk x.Kind x.N x.Min x.Set x.L=x:=by cases x;rfl
structure qg where
 School:Int
 Id:Int
 Version:Int
 From:Int
 Name:ByteArray
 Need:qh
 Total:Int
 Own:Int
 Age:Int
 Exclude:List (QT qb)
structure qd where
 L:List Int
 At:Int
theorem q37 (x:qd):qd.mk x.L x.At=x:=rfl
theorem q7p:∀x:(List Int),((eL 1 eI) x).length=1:=fun _=>rfl
theorem qod (v:List (List Int)):(v.flatMap (eL 1 eI)).length=v.length:=by rw[J6 q7p,Nat.mul_one]
theorem q9G (v:List (List Int)) (i:Nat):ld T ((v.flatMap (eL 1 eI)).map C.d) (i) 25=(v[i]?).bind fun x=>some (.c (.d (D.sl 1 x.length (x.flatMap eI)))):=by rw[q3q q7p v i _ (by decide)];cases v[i]? with|none=>rfl|some x=>rfl
theorem qn4 (v:List (List Int)) (a:List Int):(v.flatMap (eL 1 eI)).map C.d++[C.d (D.sl 1 a.length (a.flatMap eI))]=((v++[a]).flatMap (eL 1 eI)).map C.d:=by have h:=q2O (E:=(eL 1 eI)) v a;exact h
theorem q6O:∀x:Int,(eI x).length=1:=fun _=>rfl
theorem qqP (v:List Int):(v.flatMap eI).length=v.length:=by rw[J6 q6O,Nat.mul_one]
theorem qeW (v:List Int) (i:Nat):ld T ((v.flatMap eI).map C.d) (i) 3=(v[i]?).bind fun x=>some (.c (.d (D.int .i64 x))):=by rw[q3q q6O v i _ (by decide)];cases v[i]? with|none=>rfl|some x=>rfl
theorem qro (v:List Int) (a:Int):(v.flatMap eI).map C.d++[C.d (D.int .i64 a)]=((v++[a]).flatMap eI).map C.d:=by have h:=q2O (E:=eI) v a;exact h
theorem qls (v:List Int) (i:Nat) (a:Int):spr ((v.flatMap eI).map C.d) (i) [C.d (D.int .i64 a)]=((v.set i a).flatMap eI).map C.d:=by have h:=q7X q6O v i a;rw[Nat.mul_one] at h;exact h
theorem qoU (m:Nat):(List.replicate m [C.d (D.int .i64 0)]).flatten=((List.replicate m 0).flatMap eI).map C.d:=qjH (E:=eI) 0 (by rfl) m
theorem ZC:∀x:qa,(qc x).length=8:=Zy
theorem qnP (v:List qa):(v.flatMap qc).length=v.length*8:=by rw[J6 ZC]
theorem qa4 (v:List qa) (i:Nat):ld T ((v.flatMap qc).map C.d) (i*8) 52=(v[i]?).bind fun x=>some (.agg [.d (D.int .i64 x.Course.School),.d (D.str x.Course.Code),.d (D.int .i64 x.Credits),.d (D.int .i64 x.Grade),.d (D.int .i64 x.Day),.d (D.sl 1 x.Sources.length (x.Sources.flatMap eI)),.d (D.int .i64 x.Bundle),.d (D.sl 1 x.Path.length (x.Path.flatMap eI))]):=by rw[q5A ZC v i _ (by decide) (by decide)];cases v[i]? with|none=>rfl|some x=>rw[qwR,qwR,qI];rfl
theorem qep (v:List qa) (i:Nat):ld T ((v.flatMap qc).map C.d) (i*8+1) 9=(v[i]?).bind fun x=>some (.c (.d (D.str x.Course.Code))):=by rw[q2k ZC v i 1 _ (by decide) (by decide)];cases v[i]? with|none=>rfl|some x=>rw[qwR,qwR,qI];rfl
theorem qbf (v:List qa):ld T ((v.flatMap qc).map C.d) 9 9=(v[1]?).bind fun x=>some (.c (.d (D.str x.Course.Code))):=by have h:=qep v 1;exact h
theorem qbY (v:List qa) (i:Nat):ld T ((v.flatMap qc).map C.d) (i*8+2) 3=(v[i]?).bind fun x=>some (.c (.d (D.int .i64 x.Credits))):=by rw[q2k ZC v i 2 _ (by decide) (by decide)];cases v[i]? with|none=>rfl|some x=>rw[qwR,qwR,qI];rfl
theorem qbL (v:List qa) (i:Nat):ld T ((v.flatMap qc).map C.d) (i*8+3) 3=(v[i]?).bind fun x=>some (.c (.d (D.int .i64 x.Grade))):=by rw[q2k ZC v i 3 _ (by decide) (by decide)];cases v[i]? with|none=>rfl|some x=>rw[qwR,qwR,qI];rfl
theorem qbu (v:List qa):ld T ((v.flatMap qc).map C.d) 3 3=(v[0]?).bind fun x=>some (.c (.d (D.int .i64 x.Grade))):=by have h:=qbL v 0;rwa [Nat.zero_mul,qxf] at h
theorem q9H (v:List qa) (i:Nat):ld T ((v.flatMap qc).map C.d) (i*8+5) 25=(v[i]?).bind fun x=>some (.c (.d (D.sl 1 x.Sources.length (x.Sources.flatMap eI)))):=by rw[q2k ZC v i 5 _ (by decide) (by decide)];cases v[i]? with|none=>rfl|some x=>rw[qwR,qwR,qI];rfl
theorem qpn (v:List qa) (a_Course_School:Int) (a_Course_Code:ByteArray) (a_Credits:Int) (a_Grade:Int) (a_Day:Int) (a_Sources:List Int) (a_Bundle:Int) (a_Path:List Int):(v.flatMap qc).map C.d++[C.d (D.int .i64 a_Course_School),C.d (D.str a_Course_Code),C.d (D.int .i64 a_Credits),C.d (D.int .i64 a_Grade),C.d (D.int .i64 a_Day),C.d (D.sl 1 a_Sources.length (a_Sources.flatMap eI)),C.d (D.int .i64 a_Bundle),C.d (D.sl 1 a_Path.length (a_Path.flatMap eI))]=((v++[(qa.mk (qb.mk a_Course_School a_Course_Code) a_Credits a_Grade a_Day a_Sources a_Bundle a_Path)]).flatMap qc).map C.d:=by have h:=q2O (E:=qc) v (qa.mk (qb.mk a_Course_School a_Course_Code) a_Credits a_Grade a_Day a_Sources a_Bundle a_Path);rw[qI] at h;exact h
theorem qkP (v:List qa) (i:Nat) (a_Course_School:Int) (a_Course_Code:ByteArray) (a_Credits:Int) (a_Grade:Int) (a_Day:Int) (a_Sources:List Int) (a_Bundle:Int) (a_Path:List Int):spr ((v.flatMap qc).map C.d) (i*8) [C.d (D.int .i64 a_Course_School),C.d (D.str a_Course_Code),C.d (D.int .i64 a_Credits),C.d (D.int .i64 a_Grade),C.d (D.int .i64 a_Day),C.d (D.sl 1 a_Sources.length (a_Sources.flatMap eI)),C.d (D.int .i64 a_Bundle),C.d (D.sl 1 a_Path.length (a_Path.flatMap eI))]=((v.set i (qa.mk (qb.mk a_Course_School a_Course_Code) a_Credits a_Grade a_Day a_Sources a_Bundle a_Path)).flatMap qc).map C.d:=by have h:=q7X ZC v i (qa.mk (qb.mk a_Course_School a_Course_Code) a_Credits a_Grade a_Day a_Sources a_Bundle a_Path);rw[qI] at h;exact h
theorem qmN (v:List qa) (ys:List C):dzc [0,0,0,0,0,1,0,1] [] ((v.flatMap qc).map C.d++ys)=(v.flatMap qc).map C.d++dzc [0,0,0,0,0,1,0,1] [] ys:=qhe ZC [0,0,0,0,0,1,0,1] rfl v ys
theorem qlj (v:List qa) (a:Nat):(v.flatMap qc).take (a*8)=(v.take a).flatMap qc:=by have h:=q5E ZC v a;exact h
theorem qkw (v:List qa) (a:Nat):((v.flatMap qc).map C.d).take (a*8)=((v.take a).flatMap qc).map C.d:=by rw[←List.map_take,qlj]
theorem qg5 (s:S) (v:List qa) (lo hi:Option Operand):xsl T s 32 (.c (.d (.sl 8 v.length (v.flatMap qc)))) lo hi=qq5 s qc 8 v (s.bd lo 0) (s.bd hi v.length):=qoc ZC v lo hi (by rfl) (by rfl) (by decide)
theorem q1l:∀x:qb,(qj x).length=2:=q00
theorem qpj (v:List qb):(v.flatMap qj).length=v.length*2:=by rw[J6 q1l]
theorem qac (v:List qb) (i:Nat):ld T ((v.flatMap qj).map C.d) (i*2) 50=(v[i]?).bind fun x=>some (.agg [.d (D.int .i64 x.School),.d (D.str x.Code)]):=by rw[q5A q1l v i _ (by decide) (by decide)];cases v[i]? with|none=>rfl|some x=>rw[qwR,qwR,QG];rfl
theorem qmZ (v:List qb) (a_School:Int) (a_Code:ByteArray):(v.flatMap qj).map C.d++[C.d (D.int .i64 a_School),C.d (D.str a_Code)]=((v++[(qb.mk a_School a_Code)]).flatMap qj).map C.d:=by have h:=q2O (E:=qj) v (qb.mk a_School a_Code);rw[QG] at h;exact h
theorem qkj (v:List qb) (i:Nat) (a_School:Int) (a_Code:ByteArray):spr ((v.flatMap qj).map C.d) (i*2) [C.d (D.int .i64 a_School),C.d (D.str a_Code)]=((v.set i (qb.mk a_School a_Code)).flatMap qj).map C.d:=by have h:=q7X q1l v i (qb.mk a_School a_Code);rw[QG] at h;exact h
theorem qle (v:List qb) (a:Nat):(v.flatMap qj).drop (a*2)=(v.drop a).flatMap qj:=by have h:=q7y q1l v a;exact h
theorem qpl (v:List qb) (a:Nat):(v.flatMap qj).take (a*2)=(v.take a).flatMap qj:=by have h:=q5E q1l v a;exact h
theorem qjL (v:List qb) (a:Nat):((v.flatMap qj).map C.d).drop (a*2)=((v.drop a).flatMap qj).map C.d:=by rw[←List.map_drop,qle]
theorem qk0 (v:List qb) (a:Nat):((v.flatMap qj).map C.d).take (a*2)=((v.take a).flatMap qj).map C.d:=by rw[←List.map_take,qpl]
theorem qi5 (v w:List qb) (i:Nat):spl (v.flatMap qj) (i*2) (w.flatMap qj)=(spl v i w).flatMap qj:=by have h:=qcW q1l w v i;exact h
theorem qb3:∀x:qh,(qq x).length=5:=QQ
theorem qmE (v:List qh):(v.flatMap qq).length=v.length*5:=by rw[J6 qb3]
theorem qpd (v:List qh) (a_Kind:Int) (a_N:Int) (a_Min:Int) (a_Set:List qb) (a_L:List qh):(v.flatMap qq).map C.d++[C.d (D.int .i64 a_Kind),C.d (D.int .i64 a_N),C.d (D.int .i64 a_Min),C.d (D.sl 2 a_Set.length (a_Set.flatMap qj)),C.d (D.sl 5 a_L.length (a_L.flatMap qq))]=((v++[(qh.mk a_Kind a_N a_Min a_Set a_L)]).flatMap qq).map C.d:=by have h:=q2O (E:=qq) v (qh.mk a_Kind a_N a_Min a_Set a_L);rw[q2d] at h;exact h
theorem qjo:∀x:(QT qb),((eA2 qj) x).length=4:=fun _=>rfl
theorem qir:∀x:qe,(Z2 x).length=3:=q3R
theorem qbQ:∀x:(List qa),((eL 8 qc) x).length=1:=fun _=>rfl
theorem qae (v:List (List qa)) (i:Nat):ld T ((v.flatMap (eL 8 qc)).map C.d) (i) 32=(v[i]?).bind fun x=>some (.c (.d (D.sl 8 x.length (x.flatMap qc)))):=by rw[q3q qbQ v i _ (by decide)];cases v[i]? with|none=>rfl|some x=>rfl
theorem q7x:∀x:(QT Int),((eA2 eI) x).length=2:=fun _=>rfl
theorem ql3 (v:List (QT Int)):(v.flatMap (eA2 eI)).length=v.length*2:=by rw[J6 q7x]
theorem qag (v:List (QT Int)) (i:Nat):ld T ((v.flatMap (eA2 eI)).map C.d) (i*2) 81=(v[i]?).bind fun x=>some (.agg [.d (D.int .i64 x.a0),.d (D.int .i64 x.a1)]):=by rw[q5A q7x v i _ (by decide) (by decide)];cases v[i]? with|none=>rfl|some x=>rw[qwR,qwR];rfl
theorem qp7 (v:List (QT Int)) (a_0:Int) (a_1:Int):(v.flatMap (eA2 eI)).map C.d++[C.d (D.int .i64 a_0),C.d (D.int .i64 a_1)]=((v++[(QT.mk a_0 a_1)]).flatMap (eA2 eI)).map C.d:=by have h:=q2O (E:=(eA2 eI)) v (QT.mk a_0 a_1);exact h
theorem qhx:∀x:ByteArray,(eS x).length=1:=fun _=>rfl
theorem qfI (v:List ByteArray) (i:Nat):ld T ((v.flatMap eS).map C.d) (i) 9=(v[i]?).bind fun x=>some (.c (.d (D.str x))):=by rw[q3q qhx v i _ (by decide)];cases v[i]? with|none=>rfl|some x=>rfl
theorem q3s:∀x:(List Int),((oL 3 1 eI) x).length=1:=fun _=>rfl
theorem JS:∀x:(List Int),((oL 3 1 eI) x).all C.pl=true:=fun _=>rfl
theorem qie (v:List (List Int)):(v.flatMap (oL 3 1 eI)).length=v.length:=by rw[qht q3s,Nat.mul_one]
theorem qkS (v:List (List Int)) (k:Nat):(v.flatMap (oL 3 1 eI)).map (C.fg k)=v.flatMap (oL 3 1 eI):=qda JS (qqz k) v
theorem qid (v:List (List Int)) (ids:List Nat):(v.flatMap (oL 3 1 eI)).map (cn ids)=v.flatMap (oL 3 1 eI):=qda JS (qt4 ids) v
theorem qjJ (v:List (List Int))  : (v.flatMap (oL 3 1 eI)).map (C.kw)=v.flatMap (oL 3 1 eI):=qda JS (qs9) v
theorem qg7 (v:List (List Int)) (k:Nat):(v.flatMap (oL 3 1 eI)).all (C.far k)=true:=qh2 JS (qmq k) v
theorem qcQ (v:List (List Int)) (X:List Nat):(v.flatMap (oL 3 1 eI)).all (C.farF X)=true:=qh2 JS (qkc X) v
theorem qcI (v:List (List Int)):(v.flatMap (oL 3 1 eI)).any C.isNils=false:=qnE JS qk7 v
theorem qd2 (v:List (List Int)):(v.flatMap (oL 3 1 eI)).flatMap C.refs=[]:=qmn JS qi6 v
theorem qdK (v:List (List Int)):(v.flatMap (oL 3 1 eI)).flatMap C.rows=[]:=qmn JS qjg v
theorem qjx (v:List (List Int)):(v.flatMap (oL 3 1 eI)).map C.uw=(v.flatMap (eL 1 eI)).map C.d:=qpr (E:=(oL 3 1 eI)) (F:=(eL 1 eI)) (fun _=>rfl) v
theorem qeQ (v:List (List Int)) (ys:List C):q4A [some (3,1)] [] (v.flatMap (oL 3 1 eI)++ys)=v.flatMap (oL 3 1 eI)++q4A [some (3,1)] [] ys:=qhr JS q3s [some (3,1)] rfl v ys
theorem qcj (v:List (List Int)) (i:Nat):(v.flatMap (oL 3 1 eI))[i]?=(v[i]?).bind fun x=>some (C.ow 3 1 x.length (x.flatMap eI)):=by have h:=qgY q3s (show 0<1 by decide) v i;rwa [Nat.mul_one,Nat.add_zero] at h
theorem qff (cs:List C) (o:Nat) (c:C):ld T (spr cs o [c]) o 25=(cs[o]?).bind fun _=>some (R.c c):=by rw[qt6 (by rw[k25];simp) (by rw[k25];simp) (by rw[k25];simp),qfK]
theorem qaH (v:List (List Int)) (i:Nat) (b:List Int):spr (v.flatMap (oL 3 1 eI)) i [C.ow 3 1 b.length (b.flatMap eI)]=(v.set i b).flatMap (oL 3 1 eI):=qgS q3s (x:=b) rfl v i
theorem q9D (v:List (List Int)) (i:Nat) (w:List Int) (z:Int):spr (v.flatMap (oL 3 1 eI)) i [C.ow 3 1 (w.length+1) ((w++[z]).flatMap eI)]=(v.set i (w++[z])).flatMap (oL 3 1 eI):=by have h:=qaH v i (w++[z]);rw[qwY] at h;exact h
theorem qfE (v:List (List Int)):v.flatMap (oL 3 1 eI)++[C.ow 3 1 0 []]=(v++[[]]).flatMap (oL 3 1 eI):=ql8 (E:=(oL 3 1 eI)) v []
theorem qc8 {α:Type} {E:α→List D} {k:Nat} (h:∀x,(E x).length=k) (hi:∀x y,E x=E y→x=y):∀x y:QT α,eA2 E x=eA2 E y→x=y:=by
 rintro⟨a0,a1⟩ ⟨b0,b1⟩ e
 unfold eA2 at e
 dsimp only at e
 obtain⟨e,h1⟩:=List.append_inj' e (by rw[h,h])
 rw[hi _ _ e,hi _ _ h1]
theorem q1L (v w:List Int):(v.flatMap eI=w.flatMap eI)=(v=w):=propext ⟨fun h=>(QL q6O (by decide) (fun x y h=>by injection h with h;injection h) _ _) h,fun h=>by rw[h]⟩
theorem JU (v w:List (List Int)):(v.flatMap (eL 1 eI)=w.flatMap (eL 1 eI))=(v=w):=propext ⟨fun h=>(QL q7p (by decide) (fun x y h=>by injection h with h;injection h with _ _ h;exact(QL q6O (by decide) (fun x y h=>by injection h with h;injection h) _ _) h) _ _) h,fun h=>by rw[h]⟩
theorem q4o:∀x y:qe,Z2 x=Z2 y→x=y:=by
 rintro⟨a_0,a_1,a_2⟩ ⟨b_0,b_1,b_2⟩ h
 simp only[q4E,List.cons.injEq,D.int.injEq,D.bool.injEq,D.str.injEq,D.sl.injEq,true_and,and_true,q1L,JU] at h
 simp only[h]
theorem JZ:∀x y:qb,qj x=qj y→x=y:=by
 rintro⟨a_0,a_1⟩ ⟨b_0,b_1⟩ h
 simp only[QG,List.cons.injEq,D.int.injEq,D.bool.injEq,D.str.injEq,D.sl.injEq,true_and,and_true,q1L,JU] at h
 simp only[h]
theorem Zs:∀x y:qa,qc x=qc y→x=y:=by
 rintro⟨⟨a_0_0,a_0_1⟩,a_1,a_2,a_3,a_4,a_5,a_6⟩ ⟨⟨b_0_0,b_0_1⟩,b_1,b_2,b_3,b_4,b_5,b_6⟩ h
 simp only[qI,List.cons.injEq,D.int.injEq,D.bool.injEq,D.str.injEq,D.sl.injEq,true_and,and_true,q1L,JU] at h
 simp only[h]
theorem q2y (v w:List qa):(v.flatMap qc=w.flatMap qc)=(v=w):=propext ⟨fun h=>(QL ZC (by decide) Zs _ _) h,fun h=>by rw[h]⟩
theorem q2P (v w:List qb):(v.flatMap qj=w.flatMap qj)=(v=w):=propext ⟨fun h=>(QL q1l (by decide) JZ _ _) h,fun h=>by rw[h]⟩
mutual
theorem q1i:∀x y:qh,qq x=qq y→x=y
 | ⟨a0,a1,a2,a3,a4⟩,⟨b0,b1,b2,b3,b4⟩,h=>by
  rw[qq,qq] at h
  simp only[List.cons.injEq,D.int.injEq,D.bool.injEq,D.str.injEq,D.sl.injEq,true_and,and_true,q1L,JU,q2y,q2P] at h
  have hl:a4=b4:=q0I a4 b4 (by simp only[h])
  subst hl
  simp only[h]
theorem q0I:∀v w:List qh,zY v=zY w→v=w
 | [],[],_=>rfl
 | [],y::w,e=>by
  have:=congrArg List.length e
  rw[zY,zY,qwY,QQ] at this
  first|omega|(simp at this;done)|(simp at this;omega)
 | x::v,[],e=>by
  have:=congrArg List.length e
  rw[zY,zY,qwY,QQ] at this
  first|omega|(simp at this;done)|(simp at this;omega)
 | x::v,y::w,e=>by
  rw[zY,zY] at e
  obtain⟨h1,h2⟩:=List.append_inj e (by rw[QQ,QQ])
  rw[q1i x y h1,q0I v w h2]
end
theorem q3X (v w:List qh):(v.flatMap qq=w.flatMap qq)=(v=w):=propext ⟨fun h=>(QL qb3 (by decide) q1i _ _) h,fun h=>by rw[h]⟩
theorem q49 (v w:List (QT qb)):(v.flatMap (eA2 qj)=w.flatMap (eA2 qj))=(v=w):=propext ⟨fun h=>(QL qjo (by decide) (qc8 q00 JZ) _ _) h,fun h=>by rw[h]⟩
theorem q3E (v w:List qe):(v.flatMap Z2=w.flatMap Z2)=(v=w):=propext ⟨fun h=>(QL qir (by decide) q4o _ _) h,fun h=>by rw[h]⟩
theorem q4n (v w:List (List qa)):(v.flatMap (eL 8 qc)=w.flatMap (eL 8 qc))=(v=w):=propext ⟨fun h=>(QL qbQ (by decide) (fun x y h=>by injection h with h;injection h with _ _ h;exact(QL ZC (by decide) Zs _ _) h) _ _) h,fun h=>by rw[h]⟩
theorem q4l (v w:List (QT Int)):(v.flatMap (eA2 eI)=w.flatMap (eA2 eI))=(v=w):=propext ⟨fun h=>(QL q7x (by decide) (qc8 (fun _=>rfl) (fun x y h=>by injection h with h;injection h)) _ _) h,fun h=>by rw[h]⟩
theorem q6y (v w:List ByteArray):(v.flatMap eS=w.flatMap eS)=(v=w):=propext ⟨fun h=>(QL qhx (by decide) (fun x y h=>by injection h with h;injection h) _ _) h,fun h=>by rw[h]⟩
def Qc (v:Int):R:=R.c (C.d (D.int .i64 v))
theorem q3g (M M':List (Int×Int)):(B.ob (mpB (Jm .i64) Qc M)=B.ob (mpB (Jm .i64) Qc M'))=(M=M'):=qhR (fun a b h=>by injection h) (fun a b h=>by simp only[Qc,R.c.injEq,C.d.injEq,D.int.injEq,D.bool.injEq,D.str.injEq,D.sl.injEq,true_and,and_true,q1L,JU,q2y,q2P,q3X,q49,q3E,q4n,q4l,q6y] at h;simp only[h]) M M'
theorem qpf (id:Nat) (M:List (Int×Int)):AO.mapR (R.fg id) (mpB (Jm .i64) Qc M)=mpB (Jm .i64) Qc M:=q20 (vE:=Qc) (fun v=>rfl) M
theorem qmo (f:Nat→Nat) (M:List (Int×Int)):AO.mapR (R.rn0 f) (mpB (Jm .i64) Qc M)=mpB (Jm .i64) Qc M:=q20 (vE:=Qc) (fun v=>rfl) M
theorem qnk (X:List Nat) (M:List (Int×Int)):AO.mapR (R.fgL X) (mpB (Jm .i64) Qc M)=mpB (Jm .i64) Qc M:=q20 (vE:=Qc) (fun v=>rfl) M
theorem qpi (ids:List Nat) (M:List (Int×Int)):AO.mapR (qaW ids) (mpB (Jm .i64) Qc M)=mpB (Jm .i64) Qc M:=q20 (vE:=Qc) (fun v=>rfl) M
theorem qk4 (M:List (Int×Int)):AO.mapR (R.nw0) (mpB (Jm .i64) Qc M)=mpB (Jm .i64) Qc M:=q20 (vE:=Qc) (fun v=>rfl) M
theorem qlr (M:List (Int×Int)):(mpB (Jm .i64) Qc M).Rs.all (R.scl0)=true:=qbv (fun v=>rfl) M
theorem qoQ (X:List Nat) (M:List (Int×Int)):(mpB (Jm .i64) Qc M).Rs.all (R.farL X)=true:=qbv (fun v=>rfl) M
theorem qo1 (M:List (Int×Int)):(mpB (Jm .i64) Qc M).Rs.flatMap R.refs0=[]:=qgc (fun v=>rfl) M
theorem qjK (s:S) (sel:List Nat) (M:List (Int×Int)):cvA s sel (mpB (Jm .i64) Qc M)=some (mpB (Jm .i64) Qc M):=qjI (fun v=>rfl) M
theorem qfr (M:List (Int×Int)):((mpE (Jm .i64) Qc M 0).all fun q=>plK (Kd.int .i64) q.1)=true:=q84 (fun k r i=>rfl) M 0
theorem qkT (ok:Bool) (k:Int) (M:List (Int×Int)):lkq ok (R.c (C.d (D.int .i64 0))) (fnd (Value.int .i64 k) (mpE (Jm .i64) Qc M 0) 0)=some (tt2 (R.c (C.d (D.int .i64 (Z8 (0:Int) M k)))) ok (qaC M k)):=qsr (vE:=Qc) (kE:=(Jm .i64)) (qhl _) ((0:Int)) ok k M
theorem qiA (k:Int) (v:Int) (M:List (Int×Int)):mup (Kd.int .i64) (Value.int .i64 k) (R.c (C.d (D.int .i64 v))) (.ob (mpB (Jm .i64) Qc M))=some (.ob (mpB (Jm .i64) Qc (q2R M k v))):=qqA (vE:=Qc) (kE:=(Jm .i64)) (qhl _) (fun a=>rfl) k v M
theorem qmg (s:S) (p:Nat):JN T s p 82 none=some (.c (.hd .map p),s.up [(p,.ob (mpB (Jm .i64) Qc ([]:List (Int×Int))))]):=rfl
theorem qja (l:List qa) (i j:Int):q9U 52 8 0 [.c (.own 0 8 0 l.length),.c (.d (.int .i64 i)),.c (.d (.int .i64 j))] [(0,.row 52 8 ((l.flatMap qc).map C.d))]=if 0≤i∧j=i+1∧i<l.length then some (.c (.own 0 8 0 (l.eraseIdx i.toNat).length),[(0,.row 52 8 (((l.eraseIdx i.toNat).flatMap qc).map C.d))]) else none:=qjl Zy l i j rfl
end
noncomputable section
open Go.RowKit
theorem qst:q6X Try.prog 50=true:=by kernel_rfl
def by0:=JA_ @k3 (JA_ @z3 (JA_ @b3 (JA_ @o3 (JA_ @q3 (JA_ @k4 (@q4))))))
def by1:=JA_ @k9 (JA_ @z9 (@q9))
def by2:=JA_ @k22 (JA_ @z22 (JA_ @q22 (JA_ @k23 (JA_ @z23 (JA_ @o23 (JA_ @k24 (JA_ @z24 (JA_ @k25 (JA_ @z25 (@b25))))))))))
def by3:=JA_ @o25 (JA_ @q25 (JA_ @k26 (JA_ @z26 (JA_ @k28 (JA_ @z28 (JA_ @q28 (JA_ @k30 (JA_ @z30 (JA_ @o30 (JA_ @q30 (JA_ @k32 (JA_ @z32 (JA_ @q32 (JA_ @k33 (@z33)))))))))))))))
def by4:=JA_ @q33 (JA_ @k34 (JA_ @z34 (JA_ @k36 (JA_ @z36 (JA_ @b36 (JA_ @o36 (JA_ @q36 (JA_ @k37 (JA_ @z37 (JA_ @k39 (JA_ @z39 (JA_ @o39 (@q39)))))))))))))
def by5:=JA_ @k44 (JA_ @q45 (JA_ @k50 (JA_ @z50 (JA_ @b50 (JA_ @o50 (@q50))))))
def by6:=JA_ @k52 (JA_ @z52 (JA_ @b52 (JA_ @o52 (@q52))))
def by7:=@k60
def by8:=JA_ @k69 (JA_ @o69 (@q69))
def by9:=JA_ @q78 (JA_ @k80 (JA_ @k81 (JA_ @z81 (JA_ @b81 (JA_ @o81 (JA_ @q81 (JA_ @k82 (JA_ @z82 (JA_ @o82 (JA_ @q82 (@q83)))))))))))
def qvp:=JA_ @q87 (JA_ @k89 (JA_ @o89 (JA_ @k90 (@q90))))
def qwc:=JA_ @q92 (JA_ @k93 (JA_ @o93 (JA_ @k96 (JA_ @z96 (JA_ @o96 (@q96))))))
def qvO:=JA_ @qwe (JA_ @quL (JA_ @qwz (@qvi)))
def qvC:=JA_ @qst (JA_ @bk_ (JA_ @qvw (JA_ @qpg (JA_ @qve (@qvf)))))
def qvX:=JA_ @qqF (JA_ @qqE (JA_ @qrI (JA_ @qrM (JA_ @qr3 (JA_ @qrB (JA_ @qrh (JA_ @qsk (JA_ @qsX (JA_ @qt1 (@qs3))))))))))
def qvI:=JA_ @qrV (JA_ @qr1 (JA_ @qs4 (JA_ @qrr (JA_ @qsb (@qrg)))))
def qvQ:=JA_ @qrL (@qqJ)
def qwm:=JA_ @qsW (JA_ @qrl (JA_ @qsU (JA_ @qs6 (JA_ @qsm (JA_ @qqs (@qs1))))))
def qvK:=JA_ @qld (@qml)
def qvS:=JA_ @pw4 (JA_ @pw8 (JA_ @pw9 (JA_ @qtx (JA_ @qrG (JA_ @qtK (JA_ @quD (JA_ @qti (JA_ @qu2 (JA_ @quh (JA_ @qth (JA_ @qtJ (JA_ @qt8 (JA_ @quu (JA_ @qty (JA_ @quk (JA_ @quE (JA_ @qux (JA_ @qtf (JA_ @qur (JA_ @qtU (JA_ @qtM (JA_ @quy (@qtW)))))))))))))))))))))))
def qwo:=JA_ @qus (JA_ @qtC (JA_ @quC (JA_ @qug (JA_ @qtE (JA_ @qua (JA_ @qtR (JA_ @qub (JA_ @qtO (JA_ @qu3 (JA_ @qtY (JA_ @qtF (JA_ @qtc (JA_ @qui (JA_ @qtX (JA_ @qtS (JA_ @qrJ (JA_ @quj (JA_ @que (JA_ @qtI (JA_ @qtq (JA_ @qs8 (JA_ @qu4 (JA_ @qta (JA_ @qsx (JA_ @quB (JA_ @qtZ (JA_ @qtj (JA_ @qtT (JA_ @qtk (@qto))))))))))))))))))))))))))))))
def qvB:=JA_ @qv5 (JA_ @qtm (JA_ @quG (JA_ @qsw (JA_ @qu9 (JA_ @qtu (@qw4))))))
def qvz:=JA_ @qsh (JA_ @qsR (JA_ @qrb (JA_ @qqZ (JA_ @qrD (JA_ @qqr (JA_ @qrS (JA_ @qs0 (JA_ @qqI (JA_ @qrN (JA_ @qrs (JA_ @qrR (JA_ @qsz (JA_ @qsp (@qrq))))))))))))))
def qwy:=JA_ @qrm (JA_ @qsv (JA_ @qqt (JA_ @qrQ (JA_ @qrU (JA_ @qsl (JA_ @qrY (JA_ @qrz (JA_ @qqN (JA_ @qt0 (JA_ @qrE (JA_ @qqB (JA_ @qsn (JA_ @qqT (JA_ @qsB (@qr5)))))))))))))))
def qva:=JA_ @qry (JA_ @qrn (JA_ @qpG (JA_ @qno (JA_ @qph (@qm9)))))
def quK:=JA_ @qlf (JA_ @qii (JA_ @qix (JA_ @qkk (JA_ @qjc (JA_ @qoN (JA_ @qnU (JA_ @qkL (JA_ @qig (JA_ @qkh (JA_ @qkm (JA_ @qlT (JA_ @qlc (JA_ @qlX (JA_ @qmu (JA_ @qnA (JA_ @qlw (JA_ @qly (JA_ @qo6 (JA_ @qmt (JA_ @qoR (JA_ @qnu (JA_ @qpF (JA_ @qpz (JA_ @qoi (JA_ @qlM (JA_ @qn9 (JA_ @qmY (JA_ @qlQ (JA_ @qnS (JA_ @qoy (@qnL)))))))))))))))))))))))))))))))
def qwr:=JA_ @qlg (@qpu)
def qvh:=JA_ @qrA (@qrP)
def qwl:=JA_ @qou (JA_ @qn5 (JA_ @qkr (JA_ @qiI (JA_ @qiS (JA_ @qkO (JA_ @qio (JA_ @qhT (JA_ @qmw (JA_ @qnI (JA_ @qom (JA_ @qos (JA_ @qov (JA_ @qoG (JA_ @qms (JA_ @qm4 (JA_ @qo2 (JA_ @qot (JA_ @qmd (JA_ @qmM (JA_ @ql2 (JA_ @qiC (JA_ @qp5 (JA_ @qnc (JA_ @qoW (JA_ @qi3 (JA_ @qkR (@qm5)))))))))))))))))))))))))))
def qvs:=JA_ @qlh (JA_ @qqy (JA_ @qre (@qnz)))
def qvj:=JA_ @qjn (JA_ @qhW (JA_ @qiD (JA_ @qkg (JA_ @qhS (JA_ @qiu (JA_ @qn1 (JA_ @qlE (JA_ @qlb (JA_ @qmX (JA_ @qmJ (JA_ @qmF (JA_ @qo7 (JA_ @qol (JA_ @qoJ (JA_ @qmx (JA_ @qm3 (JA_ @qlJ (JA_ @qoB (JA_ @qk5 (JA_ @qmT (JA_ @qmV (JA_ @qnt (JA_ @qjW (JA_ @qjF (@qlB)))))))))))))))))))))))))
def bt0:=JA_ @qod (JA_ @q9G (JA_ @qn4 (JA_ @qqP (JA_ @qeW (JA_ @qro (JA_ @qls (JA_ @qoU (JA_ @qnP (@qa4)))))))))
def bt1:=JA_ @qbf (JA_ @qbY (JA_ @qbu (JA_ @q9H (JA_ @qpn (@qkP)))))
def bt2:=JA_ @qmN (JA_ @qkw (JA_ @qg5 (JA_ @qpj (JA_ @qac (JA_ @qmZ (JA_ @qkj (@qjL)))))))
def bt3:=JA_ @qk0 (JA_ @qi5 (JA_ @qmE (@qpd)))
def bt6:=JA_ @qae (JA_ @ql3 (JA_ @qag (@qp7)))
def bt7:=JA_ @qfI (JA_ @qpf (JA_ @qmo (JA_ @qnk (JA_ @qpi (JA_ @qk4 (@qlr))))))
def bt8:=JA_ @qoQ (JA_ @qo1 (JA_ @qjK (JA_ @qfr (JA_ @qkT (JA_ @qiA (JA_ @qmg (JA_ @qja (JA_ @qie (JA_ @qkS (JA_ @qid (JA_ @qjJ (JA_ @qg7 (JA_ @qcQ (JA_ @qcI (JA_ @qd2 (JA_ @qdK (JA_ @qjx (JA_ @qeQ (JA_ @qcj (JA_ @qff (JA_ @q9D (@qfE))))))))))))))))))))))
def bt9:=JA_ @q4B (JA_ @q3e (JA_ @q0P (@q37)))
def bA:=JA_ @bx0 (JA_ @bx1 (JA_ @bx2 (JA_ @bx3 (JA_ @bx4 (JA_ @bx5 (JA_ @bx6 (JA_ @bx7 (JA_ @bx8 (JA_ @bx9 (JA_ @qvU (JA_ @qv9 (JA_ @quN (JA_ @qvV (JA_ @qwG (JA_ @qvD (JA_ @qvW (JA_ @qvR (JA_ @qvH (JA_ @qvl (JA_ @qwM (JA_ @qvM (JA_ @qw3 (JA_ @qwv (JA_ @qvy (JA_ @qwO (JA_ @qv1 (JA_ @qvF (JA_ @qvo (JA_ @qwA (JA_ @qvP (JA_ @qwD (JA_ @bz0 (JA_ @bz1 (JA_ @bz2 (JA_ @bz5 (JA_ @by0 (JA_ @by1 (JA_ @by2 (JA_ @by3 (JA_ @by4 (JA_ @by5 (JA_ @by6 (JA_ @by7 (JA_ @by8 (JA_ @by9 (JA_ @qvp (JA_ @qwc (JA_ @qvO (JA_ @qvC (JA_ @qvX (JA_ @qvI (JA_ @qvQ (JA_ @qwm (JA_ @qvK (JA_ @qvS (JA_ @qwo (JA_ @qvB (JA_ @qvz (JA_ @qwy (JA_ @qva (JA_ @quK (JA_ @qwr (JA_ @qvh (JA_ @qwl (JA_ @qvs (JA_ @qvj (JA_ @bt0 (JA_ @bt1 (JA_ @bt2 (JA_ @bt3 (JA_ @bt6 (JA_ @bt7 (JA_ @bt8 (@bt9))))))))))))))))))))))))))))))))))))))))))))))))))))))))))))))))))))))))))
def bZ:=JA_ @qwY.{0} (JA_ @qxC.{0} (JA_ @JQ (JA_ @qxy.{0} (JA_ @qx2.{0} (JA_ @qxA.{0} (JA_ @qxf (JA_ @qxU.{0,0} (JA_ @List.flatMap_nil.{0,0} (JA_ @qxe.{0,0} (JA_ @List.map_nil.{0,0} (JA_ @eI.eq_1 (JA_ @eS.eq_1 (JA_ @qxV.{0} (JA_ @qxb.{0} (JA_ @qxc.{0} (JA_ @List.flatMap_append.{0,0} (JA_ @List.map_append.{0,0} (JA_ @QG (JA_ @qI (@eA2.eq_1))))))))))))))))))))
theorem gA {P:Prop} (h:P:=by simp -implicitDefEqProofs (maxSteps:=10000000) only[bA,Int.reduceToNat,Int.reduceLT,Int.reduceLE,Int.reduceAdd,Int.reduceSub,Int.reduceMul,Int.reduceNeg,Int.reduceEq,Int.reduceNe,Int.reduceBEq,Int.reduceBNe,Nat.reduceLT,Nat.reduceAdd,Nat.reduceMul,Nat.reduceSub,Nat.reduceEqDiff,Nat.reduceLeDiff,Nat.reduceBEq,Nat.reduceBNe,↓reduceIte,reduceCtorEq,pure,bind,w64,qM,QN,Option.or_some,Option.or_none,Option.none_or,Option.some_or, *]<;>simp only[rL,dL,bR,bZ,Nat.reduceAdd]):P:=h
end
noncomputable section
open Go.RowKit
section
variable {τ ε:Type} {step:τ→Option (τ⊕ε)}
theorem zS {x y:τ} (h:step x=some (.inl y)):qx step x=qx step y:=by
 rw[qaP,h];rfl
theorem qW {x:τ} {e:ε} (h:step x=some (.inr e)):qx step x=some e:=by
 rw[qaP,h];rfl
theorem Zp {e:ε} (st:Nat→τ) (i0 n:Nat) (h0:i0≤n) (h:∀i,i0≤i→i<n→step (st i)=some (.inl (st (i+1)))) (hn:step (st n)=some (.inr e)):qx step (st i0)=some e:=by
 have key:∀j i,j+i=n→i0≤i→qx step (st i)=some e:=by
  intro j
  induction j with
  | zero=>intro i hi _;rw[qxf] at hi;subst hi;exact qW hn
  | succ j ih=>intro i hi h1;rw[zS (h i h1 (by omega))];exact ih (i+1) (by omega) (by omega)
 exact key (n-i0) i0 (by omega) (qx7 _)
def q5W {α β ε:Type} (g:β→α→β⊕ε) (fin:β→ε):List α→β→ε
 | [],b=>fin b
 | a::l,b=>match g b a with
  | .inl b'=>q5W g fin l b'
  | .inr e=>e
theorem q58 {α β:Type} (l:List α) (st:β→Nat→τ) (g:β→α→β⊕ε) (fin:β→ε)
  (h:∀b i a,l[i]?=some a→step (st b i)=some (match g b a with | .inl b' => .inl (st b' (i+1)) | .inr e => .inr e)) (hn:∀b,step (st b l.length)=some (.inr (fin b))) (b:β):qx step (st b 0)=some (q5W g fin l b):=by
 have key:∀(r:List α) (i:Nat) (b:β),r.length+i=l.length→(∀j,r[j]?=l[i+j]?)→qx step (st b i)=some (q5W g fin r b):=by
  intro r
  induction r with
  | nil=>
   intro i b hi _
   have hi:i=l.length:=by simpa using hi
   subst hi;exact qW (hn b)
  | cons a r ih=>
   intro i b hi hr
   have ha:l[i]?=some a:=by have:=hr 0;simpa using this.symm
   have h1:=h b i a ha
   unfold q5W
   cases hg:g b a with
   | inl b'=>
    rw[hg] at h1
    rw[zS h1]
    refine ih (i+1) b' (by simp at hi;omega) fun j=>?_
    have:=hr (j+1)
    rw[show i+1+j=i+(j+1) by omega,←this];rfl
   | inr e=>
    rw[hg] at h1
    exact qW h1
 exact key l 0 b (by simp) (by simp)
theorem q0Y {α β:Type} (l:List α) (st:β→Nat→τ) (g:β→α→β) (fin:β→ε)
  (h:∀b i a,l[i]?=some a→step (st b i)=some (.inl (st (g b a) (i+1)))) (hn:∀b,step (st b l.length)=some (.inr (fin b))) (b:β):qx step (st b 0)=some (fin (l.foldl g b)):=by
 rw[q58 l st (fun b a => .inl (g b a)) fin h hn b]
 congr 1
 induction l generalizing b with
 | nil=>rfl
 | cons a l ih=>
  unfold q5W
  simp only[qxT]
  clear h hn
  have:∀(l:List α) (b:β),q5W (ε:=ε) (fun b a => .inl (g b a)) fin l b=fin (l.foldl g b):=by
   intro l
   induction l with
   | nil=>intro b;rfl
   | cons a l ih=>intro b;unfold q5W;simp only[qxT];exact ih _
  exact this l _
theorem qcA {α:Type} (l:List α) (st:Nat→τ) (p:α→Option ε) (d:ε)
  (h:∀i a,l[i]?=some a→step (st i)=some (match p a with|some e => .inr e|none => .inl (st (i+1)))) (hn:step (st l.length)=some (.inr d)):qx step (st 0)=some ((l.findSome? p).getD d):=by
 have h1:=q58 (ε:=ε) (β:=Unit) l (fun _ i=>st i) (fun _ a=>match p a with|some e => .inr e|none => .inl ()) (fun _=>d) (fun b i a ha=>by
  rw[h i a ha];cases p a<;>rfl) (fun _=>hn) ()
 rw[h1]
 congr 1
 have:∀l:List α,q5W (ε:=ε) (fun(_:Unit) a=>match p a with|some e => .inr e|none => .inl ()) (fun _=>d) l ()=(l.findSome? p).getD d:=by
  intro l
  induction l with
  | nil=>rfl
  | cons a l ih=>
   unfold q5W
   rw[List.findSome?_cons]
   cases p a with
   | none=>simpa using ih
   | some e=>rfl
 exact this l
def q7F {α β ε:Type} (g:Nat→β→α→β⊕ε) (fin:β→ε):List α→Nat→β→ε
 | [],_,b=>fin b
 | a::l,i,b=>match g i b a with
  | .inl b'=>q7F g fin l (i+1) b'
  | .inr e=>e
theorem q9M {α β:Type} (l:List α) (st:β→Nat→τ) (g:Nat→β→α→β⊕ε) (fin:β→ε)
  (h:∀b i a,l[i]?=some a→step (st b i)=some (match g i b a with | .inl b' => .inl (st b' (i+1)) | .inr e => .inr e)) (hn:∀b,step (st b l.length)=some (.inr (fin b))) (b:β):qx step (st b 0)=some (q7F g fin l 0 b):=by
 have key:∀(r:List α) (i:Nat) (b:β),r.length+i=l.length→(∀j,r[j]?=l[i+j]?)→qx step (st b i)=some (q7F g fin r i b):=by
  intro r
  induction r with
  | nil=>
   intro i b hi _
   have hi:i=l.length:=by simpa using hi
   subst hi;exact qW (hn b)
  | cons a r ih=>
   intro i b hi hr
   have ha:l[i]?=some a:=by have:=hr 0;simpa using this.symm
   have h1:=h b i a ha
   unfold q7F
   cases hg:g i b a with
   | inl b'=>
    rw[hg] at h1
    rw[zS h1]
    refine ih (i+1) b' (by simp at hi;omega) fun j=>?_
    have:=hr (j+1)
    rw[show i+1+j=i+(j+1) by omega,←this];rfl
   | inr e=>
    rw[hg] at h1
    exact qW h1
 exact key l 0 b (by simp) (by simp)
end
theorem Q5 {α:Type} {l:List α} {i:Nat} {a:α} (h:l[i]?=some a):i<l.length:=(qwV.1 h).1
theorem Qo {n:Int} (h0 : -9223372036854775808≤n) (h1:n≤9223372036854775807):w64 n=n:=wi n h0 h1
theorem q5z {i n:Nat} (h:i<n) (hn:n≤9223372036854775807):w64 ((i:Int)+1)=((i+1:Nat):Int):=by
 rw[Qo (by omega) (by omega)];omega
end
noncomputable section
open Go.RowKit
set_option maxRecDepth 20000
set_option maxHeartbeats 8000000
theorem qhL:okL 19 q1N:=qF (qf qg1) (by kernel_rfl) (by kernel_rfl)
def qic:=JA_ @q1N.eq_1 (JA_ @Try.f19.eq_1 @qg1)
theorem qp6:lbO 19 4=qdM:=zt (qf qg1) rfl
theorem qpk:okL 19 qdM:=qN qhL (qwS (i:=0) (by kernel_rfl))
theorem qmk:lbO 19 8=qbz:=zt (qf qg1) rfl
theorem qmr:okL 19 qbz:=qN qhL (qwS (i:=1) (by kernel_rfl))
theorem qiV:lbO 19 15=q7g:=zt (qf qg1) rfl
theorem qkF:okL 19 q7g:=qN qhL (qwS (i:=2) (by kernel_rfl))
theorem qjX:lbO 19 17=q7T:=zt (qf qg1) rfl
theorem qkq:okL 19 q7T:=qN qhL (qwS (i:=3) (by kernel_rfl))
theorem qjR:lbO 19 25=q7t:=zt (qf qg1) rfl
theorem qjB:okL 19 q7t:=qN qhL (qwS (i:=4) (by kernel_rfl))
theorem qjE:lbO 19 32=q86:=zt (qf qg1) rfl
theorem qhV:okL 19 q86:=qN qhL (qwS (i:=5) (by kernel_rfl))
theorem qvu:okL 23 qb5:=qF (qf qrF) (by kernel_rfl) (by kernel_rfl)
def qv7:=JA_ @qb5.eq_1 (JA_ @Try.f23.eq_1 @qrF)
theorem qu1:okL 38 q8p:=qF (qf qqi) (by kernel_rfl) (by kernel_rfl)
def qu6:=JA_ @q8p.eq_1 (JA_ @Try.f38.eq_1 @qqi)
theorem qmj:lbO 38 4=qcn:=zt (qf qqi) rfl
theorem qnO:okL 38 qcn:=qN qu1 (qwS (i:=0) (by kernel_rfl))
def qE (s1:List Int) (s2:List Int) (t12:Int):Int→Option (Int⊕(Unit⊕Unit))|t13=>if t13<t12 then if 0≤t13∧t13<((s1.length:Nat):Int) then Option.bind s1[Int.toNat t13]? fun(a:Int)=>if 0≤t13∧t13<((s2.length:Nat):Int) then Option.bind s2[Int.toNat t13]? fun(a2:Int)=>if(a != a2)=Bool.true then some (Sum.inr (Sum.inl ())) else some (Sum.inl (w64 (t13+1))) else none else none else some (Sum.inr (Sum.inr ()))
theorem ZI:∀(s1 s2:List Int) (t12 t13:Int),XL2 evo 38 0 4 ⟨[(0,rL 1 eI s1),(1,rL 1 eI s2),(12,rI t12),(13,rI t13)],[],0,26⟩=(qx (qE s1 s2 t12) t13).bind (Sum.elim (fun(e:Unit)=>some (Exit.ret,⟨[(4,rB Bool.false)],[],0,26⟩)) (fun(e:Unit)=>some (Exit.exit 0,⟨[(4,R.any)],[],0,26⟩))):=
 fun s1 s2 t12 t13=>by
  revert t13;exact q75 qmj qnO (fun e=>by rcases e with _|_<;>exact⟨_,rfl,fun h=>by cases h⟩) fun x=>by
   have:=qu6;have:=@qcn.eq_1;have:=@qE.eq_1;exact gA
def za (s1:List Int) (s2:List Int):Option Bool:=if(((s1.length:Nat):Int) != ((s2.length:Nat):Int))=Bool.true then some Bool.false else Option.bind (qx (qE s1 s2 ((s1.length:Nat):Int)) 0) fun(a:Sum Unit Unit)=>Sum.elim (fun(a2:Unit)=>some Bool.false) (fun(a3:Unit)=>some Bool.true) a
theorem QR:∀(s1 s2:List Int),ev 38 0 [rL 1 eI s1,rL 1 eI s2] []=(za s1 s2).bind (fun(e:Bool)=>some (rB e,[])):=
 fun s1 s2=>by
  rw[qD qqi qus.2.2.2 qu1]
  have:=qu6;have:=@ZI;have:=@za.eq_1;exact gA
theorem qw9:okL 48 qbc:=qF (qf qqM) (by kernel_rfl) (by kernel_rfl)
def quI:=JA_ @qbc.eq_1 (JA_ @Try.f48.eq_1 @qqM)
theorem quv:okL 61 qcG:=qF (qf qpK) (by kernel_rfl) (by kernel_rfl)
def quz:=JA_ @qcG.eq_1 (JA_ @Try.f61.eq_1 @qpK)
theorem qsM:okL 81 q8r:=qF (qf qmb) (by kernel_rfl) (by kernel_rfl)
def qqo:=JA_ @q8r.eq_1 (JA_ @Try.f81.eq_1 @qmb)
theorem qhu:lbO 81 2=q8V:=zt (qf qmb) rfl
theorem qhz:okL 81 q8V:=qN qsM (qwS (i:=0) (by kernel_rfl))
theorem quR:okL 71 qbN:=qF (qf qt5) (by kernel_rfl) (by kernel_rfl)
def quT:=JA_ @qbN.eq_1 (JA_ @Try.f71.eq_1 @qt5)
theorem qw1:okL 60 qdi:=qF (qf qrw) (by kernel_rfl) (by kernel_rfl)
def qwb:=JA_ @qdi.eq_1 (JA_ @Try.f60.eq_1 @qrw)
theorem qtr:okL 80 q8D:=qF (qf qqg) (by kernel_rfl) (by kernel_rfl)
def qtg:=JA_ @q8D.eq_1 (JA_ @Try.f80.eq_1 @qqg)
theorem qnm:lbO 80 2=qbP:=zt (qf qqg) rfl
theorem qnR:okL 80 qbP:=qN qtr (qwS (i:=0) (by kernel_rfl))
def qQ (s:List Int) (v:Int) (t7:Int):Int→Option (Int⊕(Int⊕Unit))|t8=>if t8<t7 then if 0≤t8∧t8<((s.length:Nat):Int) then Option.bind s[Int.toNat t8]? fun(a:Int)=>if(v==a)=Bool.true then some (Sum.inr (Sum.inl t8)) else some (Sum.inl (w64 (t8+1))) else none else some (Sum.inr (Sum.inr ()))
theorem ZF:∀(s:List Int) (v t7 t8:Int),XL2 evo 80 0 2 ⟨[(0,rL 1 eI s),(1,rI v),(7,rI t7),(8,rI t8)],[],0,19⟩=(qx (qQ s v t7) t8).bind (Sum.elim (fun(e:Int)=>some (Exit.ret,⟨[(4,rI e)],[],0,19⟩)) (fun(e:Unit)=>some (Exit.exit 0,⟨[(4,R.any)],[],0,19⟩))):=
 fun s v t7 t8=>by
  revert t8;exact q75 qnm qnR (fun e=>by rcases e with _|_<;>exact⟨_,rfl,fun h=>by cases h⟩) fun x=>by
   have:=qtg;have:=@qbP.eq_1;have:=@qQ.eq_1;exact gA
def Qb (s:List Int) (v:Int):Option Int:=Option.bind (qx (qQ s v ((s.length:Nat):Int)) 0) fun(a:Sum Int Unit)=>Sum.elim (fun(a2:Int)=>some a2) (fun(a3:Unit)=>some (-1)) a
theorem Jl:∀(s:List Int) (v:Int),ev 80 0 [rL 1 eI s,rI v] []=(Qb s v).bind (fun(e:Int)=>some (rI e,[])):=
 fun s v=>by
  rw[qD qqg quG.2.2.2 qtr]
  have:=qtg;have:=@ZF;have:=@Qb.eq_1;exact gA
def qP (s:List Int) (v:Int):Option Bool:=Option.bind (Qb s v) fun(a:Int)=>some (decide (0≤a))
theorem QE:∀(s:List Int) (v:Int),ev 60 0 [rL 1 eI s,rI v] []=(qP s v).bind (fun(e:Bool)=>some (rB e,[])):=
 fun s v=>by
  rw[qD qrw qtq.2.2.2 qw1]
  have:=qwb;have:=@Jl;have:=@qP.eq_1;exact gA
def QD (x:Int) (v:List Int):Option Bool:=Option.bind (qP v x) fun(a:Bool)=>some a
theorem q0H:∀(x:Int) (v:List Int),ev 71 1 [rI x,rP 0] [(0,B.blk 25 [dL 1 eI v])]=(QD x v).bind (fun(e:Bool)=>some (rB e,[(0,B.blk 25 [dL 1 eI v])])):=
 fun x v=>by
  rw[qD qt5 qtT.2.2.2 quR]
  have:=quT;have:=@QE;have:=@QD.eq_1;exact gA
def qC (b0:List Int) (s:List Int) (t7:Int):Int→Option (Int⊕(Int⊕Unit))|t8=>if t8<t7 then if 0≤t8∧t8<((s.length:Nat):Int) then Option.bind s[Int.toNat t8]? fun(a:Int)=>Option.bind (QD a b0) fun(a2:Bool)=>if a2=Bool.true then some (Sum.inr (Sum.inl t8)) else some (Sum.inl (w64 (t8+1))) else none else some (Sum.inr (Sum.inr ()))
theorem Ze:∀(b0 s:List Int) (t7 t8:Int),XL2 evo 81 1 2 ⟨[(0,rL 1 eI s),(1,R.c (C.fn 71 [] [dP 0])),(7,rI t7),(8,rI t8)],[(0,B.blk 25 [dL 1 eI b0])],1,19⟩=(qx (qC b0 s t7) t8).bind (Sum.elim (fun(e:Int)=>some (Exit.ret,⟨[(4,rI e)],[(0,B.blk 25 [dL 1 eI b0])],1,19⟩)) (fun(e:Unit)=>some (Exit.exit 0,⟨[(4,R.any)],[(0,B.blk 25 [dL 1 eI b0])],1,19⟩))):=
 fun b0 s t7 t8=>by
  revert t8;exact q75 qhu qhz (fun e=>by rcases e with _|_<;>exact⟨_,rfl,fun h=>by cases h⟩) fun x=>by
   have:=qqo;have:=@q8V.eq_1;have:=@q0H;have:=@qC.eq_1;exact gA
def zD (s:List Int) (b0:List Int):Option Int:=Option.bind (qx (qC b0 s ((s.length:Nat):Int)) 0) fun(a:Sum Int Unit)=>Sum.elim (fun(a2:Int)=>some a2) (fun(a3:Unit)=>some (-1)) a
theorem ZD:∀(s b0:List Int),ev 81 1 [rL 1 eI s,R.c (C.fn 71 [] [dP 0])] [(0,B.blk 25 [dL 1 eI b0])]=(zD s b0).bind (fun(e:Int)=>some (rI e,[(0,B.blk 25 [dL 1 eI b0])])):=
 fun s b0=>by
  rw[qD qmb qsw.2.2.2 qsM]
  have:=qqo;have:=@Ze;have:=@zD.eq_1;exact gA
def zf (s:List Int) (b0:List Int):Option Bool:=Option.bind (zD s b0) fun(a:Int)=>some (decide (0≤a))
theorem Zf:∀(s b0:List Int),ev 61 1 [rL 1 eI s,R.c (C.fn 71 [] [dP 0])] [(0,B.blk 25 [dL 1 eI b0])]=(zf s b0).bind (fun(e:Bool)=>some (rB e,[(0,B.blk 25 [dL 1 eI b0])])):=
 fun s b0=>by
  rw[qD qpK qs8.2.2.2 quv]
  have:=quz;have:=@ZD;have:=@zf.eq_1;exact gA
def Q4 (a:List Int) (b:List Int):Option Bool:=Option.bind (zf a b) fun(a2:Bool)=>some a2
theorem q1D:∀(a b:List Int),ev 48 0 [rL 1 eI a,rL 1 eI b] []=(Q4 a b).bind (fun(e:Bool)=>some (rB e,[])):=
 fun a b=>by
  rw[qD qqM qu3.2.2.2 qw9]
  have:=quI;have:=@Zf;have:=@Q4.eq_1;exact gA
def Z5 (a:qa) (b:qa):Option Bool:=if(a.Course.School==b.Course.School)=Bool.true∧(ByteArray.toList a.Course.Code==ByteArray.toList b.Course.Code)=Bool.true then some Bool.false else if 0<a.Bundle then if(a.Bundle==b.Bundle)=Bool.true then Option.bind (za a.Path b.Path) fun(a2:Bool)=>if a2=Bool.true then some Bool.true else Option.bind (Q4 a.Sources b.Sources) fun(a3:Bool)=>some (!a3) else Option.bind (Q4 a.Sources b.Sources) fun(a4:Bool)=>some (!a4) else Option.bind (Q4 a.Sources b.Sources) fun(a5:Bool)=>some (!a5)
theorem q0l:∀(a_Course_School:Int) (a_Course_Code:ByteArray) (a_Credits a_Grade a_Day:Int) (a_Sources:List Int) (a_Bundle:Int) (a_Path:List Int) (b_Course_School:Int) (b_Course_Code:ByteArray) (b_Credits b_Grade b_Day:Int) (b_Sources:List Int) (b_Bundle:Int) (b_Path:List Int),ev 23 0 [R.agg [dI a_Course_School,dS a_Course_Code,dI a_Credits,dI a_Grade,dI a_Day,dL 1 eI a_Sources,dI a_Bundle,dL 1 eI a_Path],R.agg [dI b_Course_School,dS b_Course_Code,dI b_Credits,dI b_Grade,dI b_Day,dL 1 eI b_Sources,dI b_Bundle,dL 1 eI b_Path]] []=(Z5 (qa.mk (qb.mk a_Course_School a_Course_Code) a_Credits a_Grade a_Day a_Sources a_Bundle a_Path) (qa.mk (qb.mk b_Course_School b_Course_Code) b_Credits b_Grade b_Day b_Sources b_Bundle b_Path)).bind (fun(e:Bool)=>some (rB e,[])):=
 fun a_Course_School a_Course_Code a_Credits a_Grade a_Day a_Sources a_Bundle a_Path b_Course_School b_Course_Code b_Credits b_Grade b_Day b_Sources b_Bundle b_Path=>by
  rw[qD qrF quu.2.2.2 qvu]
  have:=qv7;have:=@QR;have:=@q1D;have:=@Z5.eq_1;exact gA
def zF (w1:List Int) (t0:List qa) (t5:Int) (t19:Int) (t20:Int) (t27:Int):(List (QT Int)×Int)→Option ((List (QT Int)×Int)⊕(List (QT Int)))|(w0,t28)=>if t28<t27 then if 0≤t28∧t28<((t0.length:Nat):Int) then Option.bind t0[Int.toNat t28]? fun(a:qa)=>if 0≤t5∧t5<((t0.length:Nat):Int) then Option.bind t0[Int.toNat t5]? fun(a2:qa)=>Option.bind (Z5 a a2) fun(a3:Bool)=>if(!a3)=Bool.true then if w0.length+1≤maxLen∧(w0.length+1)*16≤140737488355328 then some (Sum.inl (w0++[QT.mk t28 t5],w64 (t28+1))) else none else some (Sum.inl (w0,w64 (t28+1))) else none else none else some (Sum.inr w0)
theorem q15:∀(w0:List (QT Int)) (w1:List Int) (t0:List qa) (t5 t19 t20 t27 t28:Int) (w0_len w1_len:Nat),w0_len=w0.length→w1_len=w1.length→XL2 evo 19 0 8 ⟨[(0,rL 8 qc t0),(3,rO 0 2 w0_len),(4,rO 1 1 w1_len),(5,rI t5),(19,rI t19),(20,rI t20),(27,rI t27),(28,rI t28)],[(0,bR 81 2 (eA2 eI) w0),(1,bR 3 1 eI w1)],2,128⟩=(qx (zF w1 t0 t5 t19 t20 t27) (w0,t28)).bind (fun(e:List (QT Int))=>some (Exit.exit 2,⟨[(0,rL 8 qc t0),(3,rO 0 2 e.length),(4,rO 1 1 w1.length),(19,rI t19),(20,rI t20)],[(0,bR 81 2 (eA2 eI) e),(1,bR 3 1 eI w1)],2,128⟩)):=
 by
 intro w0 w1 t0 t5 t19 t20 t27 t28 w0_len w1_len h0 h1
 subst h0 h1
 revert t28;revert w0;exact q6H qmk qmr (fun e=>by exact⟨_,rfl,fun h=>by cases h⟩) fun w0 t28=>by
  have:=qic;have:=@qbz.eq_1;have:=@q0l;have:=@zF.eq_1;exact gA
def zo (t0:List qa) (t19:Int):(List (QT Int)×List Int×Int)→Option ((List (QT Int)×List Int×Int)⊕(List (QT Int)×List Int))|(w0,w1,t20)=>if t20<t19 then if 0≤t20∧t20<((w1.length:Nat):Int) then if Int.toNat t20+1≤w1.length then Option.bind (qx (zF (List.set w1 (Int.toNat t20) t20) t0 t20 t19 t20 t20) (w0,0)) fun(a:List (@QT Int))=>some (Sum.inl (a,List.set w1 (Int.toNat t20) t20,w64 (t20+1))) else none else none else some (Sum.inr (w0,w1))
theorem q19:∀(w0:List (QT Int)) (w1:List Int) (t0:List qa) (t19 t20:Int) (w0_len w1_len:Nat),w0_len=w0.length→w1_len=w1.length→XL2 evo 19 0 4 ⟨[(0,rL 8 qc t0),(3,rO 0 2 w0_len),(4,rO 1 1 w1_len),(19,rI t19),(20,rI t20)],[(0,bR 81 2 (eA2 eI) w0),(1,bR 3 1 eI w1)],2,128⟩=(qx (zo t0 t19) (w0,w1,t20)).bind (fun(e:List (QT Int)×List Int)=>some (Exit.exit 0,⟨[(0,rL 8 qc t0),(3,rO 0 2 e.1.length),(4,rO 1 1 e.2.length)],[(0,bR 81 2 (eA2 eI) e.1),(1,bR 3 1 eI e.2)],2,128⟩)):=
 by
 intro w0 w1 t0 t19 t20 w0_len w1_len h0 h1
 subst h0 h1
 revert t20;revert w1;revert w0;exact qnl qp6 qpk (fun e=>by exact⟨_,rfl,fun h=>by cases h⟩) fun w0 w1 t20=>by
  have:=qic;have:=@qdM.eq_1;have:=@q15;have:=@zo.eq_1;exact gA
theorem JR:∀  (w1:List Int) (t0:List qa) (t19 t20:Int) (w1_len:Nat),w1_len=w1.length→XL2 evo 19 0 4 ⟨[(0,rL 8 qc t0),(3,rO 0 2 0),(4,rO 1 1 w1_len),(19,rI t19),(20,rI t20)],[(0,B.row 81 2 []),(1,bR 3 1 eI w1)],2,128⟩=(qx (zo t0 t19) ([],w1,t20)).bind (fun(e:List (QT Int)×List Int)=>some (Exit.exit 0,⟨[(0,rL 8 qc t0),(3,rO 0 2 e.1.length),(4,rO 1 1 e.2.length)],[(0,bR 81 2 (eA2 eI) e.1),(1,bR 3 1 eI e.2)],2,128⟩)):=by
 intro w1 t0 t19 t20 w1_len h0;subst h0;have h:=q19 [] w1 t0 t19 t20 _ _ rfl rfl
 first
  | exact h
  | (simp only[rL,dL,bR,bZ,Nat.reduceAdd] at h;exact h)
def zw (w0:List (QT Int)) (t0:List qa) (t50:Int) (t51:Int) (t54:Int):(List Int×Int)→Option ((List Int×Int)⊕(List Int))|(w1,t55)=>if t55<t54 then if 0≤t55∧t55<((w0.length:Nat):Int) then Option.bind w0[Int.toNat t55]? fun(a:@QT Int)=>if 0≤a.a0∧a.a0<((w1.length:Nat):Int) then Option.bind w1[Int.toNat a.a0]? fun(a2:Int)=>if 0≤a.a1∧a.a1<((w1.length:Nat):Int) then Option.bind w1[Int.toNat a.a1]? fun(a3:Int)=>if 0≤a.a0∧a.a0<((w1.length:Nat):Int) then if Int.toNat a.a0+1≤w1.length then if 0≤a.a1∧a.a1<((w1.length:Nat):Int) then if Int.toNat a.a1+1≤w1.length then some (Sum.inl (List.set (List.set w1 (Int.toNat a.a0) (min a2 a3)) (Int.toNat a.a1) (min a2 a3),w64 (t55+1))) else none else none else none else none else none else none else none else some (Sum.inr w1)
theorem q0m:∀(w0:List (QT Int)) (w1:List Int) (t0:List qa) (t50 t51 t54 t55:Int) (w0_len w1_len:Nat),w0_len=w0.length→w1_len=w1.length→XL2 evo 19 0 17 ⟨[(0,rL 8 qc t0),(3,rO 0 2 w0_len),(4,rO 1 1 w1_len),(50,rI t50),(51,rI t51),(53,rO 0 2 w0_len),(54,rI t54),(55,rI t55)],[(0,bR 81 2 (eA2 eI) w0),(1,bR 3 1 eI w1)],2,128⟩=(qx (zw w0 t0 t50 t51 t54) (w1,t55)).bind (fun(e:List Int)=>some (Exit.exit 6,⟨[(0,rL 8 qc t0),(3,rO 0 2 w0.length),(4,rO 1 1 e.length),(50,rI t50),(51,rI t51)],[(0,bR 81 2 (eA2 eI) w0),(1,bR 3 1 eI e)],2,128⟩)):=
 by
 intro w0 w1 t0 t50 t51 t54 t55 w0_len w1_len h0 h1
 subst h0 h1
 revert t55;revert w1;exact q6H qjX qkq (fun e=>by exact⟨_,rfl,fun h=>by cases h⟩) fun w1 t55=>by
  have:=qic;have:=@q7T.eq_1;have:=@zw.eq_1;exact gA
def zx (w0:List (QT Int)) (t0:List qa) (t50:Int):(List Int×Int)→Option ((List Int×Int)⊕(List Int))|(w1,t51)=>if t51<t50 then Option.bind (qx (zw w0 t0 t50 t51 ((w0.length:Nat):Int)) (w1,0)) fun(a:List Int)=>some (Sum.inl (a,w64 (t51+1))) else some (Sum.inr w1)
theorem q0d:∀(w0:List (QT Int)) (w1:List Int) (t0:List qa) (t50 t51:Int) (w0_len w1_len:Nat),w0_len=w0.length→w1_len=w1.length→XL2 evo 19 0 15 ⟨[(0,rL 8 qc t0),(3,rO 0 2 w0_len),(4,rO 1 1 w1_len),(50,rI t50),(51,rI t51)],[(0,bR 81 2 (eA2 eI) w0),(1,bR 3 1 eI w1)],2,128⟩=(qx (zx w0 t0 t50) (w1,t51)).bind (fun(e:List Int)=>some (Exit.exit 4,⟨[(0,rL 8 qc t0),(4,rO 0 1 e.length)],[(0,bR 3 1 eI e)],1,128⟩)):=
 by
 intro w0 w1 t0 t50 t51 w0_len w1_len h0 h1
 subst h0 h1
 revert t51;revert w1;exact q6H qiV qkF (fun e=>by exact⟨_,rfl,fun h=>by cases h⟩) fun w1 t51=>by
  have:=qic;have:=@q7g.eq_1;have:=@q0m;have:=@zx.eq_1;exact gA
def z6 (w0:List Int) (t83:Int):(List (List Int)×Int)→Option ((List (List Int)×Int)⊕(List (List Int)))|(w1,t84)=>if t84<t83 then if 0≤t84∧t84<((w0.length:Nat):Int) then Option.bind w0[Int.toNat t84]? fun(a:Int)=>if(a==t84)=Bool.true then if w1.length+1≤maxLen∧(w1.length+1)*24≤140737488355328 then some (Sum.inl (w1++[[]],w64 (t84+1))) else none else some (Sum.inl (w1,w64 (t84+1))) else none else some (Sum.inr w1)
theorem q0M:∀(w0:List Int) (w1:List (List Int)) (t83 t84:Int) (w0_len w1_len:Nat),w0_len=w0.length→w1_len=w1.length→XL2 evo 19 0 25 ⟨[(4,rO 0 1 w0_len),(10,rO 1 1 w1_len),(83,rI t83),(84,rI t84)],[(0,bR 3 1 eI w0),(1,B.row 25 1 (w1.flatMap (oL 3 1 eI)))],2,128⟩=(qx (z6 w0 t83) (w1,t84)).bind (fun(e:List (List Int))=>some (Exit.exit 8,⟨[(4,rO 0 1 w0.length),(10,rO 1 1 e.length)],[(0,bR 3 1 eI w0),(1,B.row 25 1 (e.flatMap (oL 3 1 eI)))],2,128⟩)):=
 by
 intro w0 w1 t83 t84 w0_len w1_len h0 h1
 subst h0 h1
 revert t84;revert w1;exact q6H qjR qjB (fun e=>by exact⟨_,rfl,fun h=>by cases h⟩) fun w1 t84=>by
  have:=qic;have:=@q7t.eq_1;have:=@z6.eq_1;exact gA
theorem JF:∀  (w0:List Int) (t83 t84:Int) (w0_len:Nat),w0_len=w0.length→XL2 evo 19 0 25 ⟨[(4,rO 0 1 w0_len),(10,rO 1 1 0),(83,rI t83),(84,rI t84)],[(0,bR 3 1 eI w0),(1,B.row 25 1 [])],2,128⟩=(qx (z6 w0 t83) ([],t84)).bind (fun(e:List (List Int))=>some (Exit.exit 8,⟨[(4,rO 0 1 w0.length),(10,rO 1 1 e.length)],[(0,bR 3 1 eI w0),(1,B.row 25 1 (e.flatMap (oL 3 1 eI)))],2,128⟩)):=by
 intro w0 t83 t84 w0_len h0;subst h0;have h:=q0M w0 [] t83 t84 _ _ rfl rfl
 first
  | exact h
  | (simp only[rL,dL,bR,bZ,Nat.reduceAdd] at h;exact h)
def zz (w2:List Int) (t99:Int):(List (List Int)×(List (Int×Int))×Int)→Option ((List (List Int)×(List (Int×Int))×Int)⊕(List (List Int)))|(w0,m1,t100)=>if t100<t99 then if 0≤t100∧t100<((w2.length:Nat):Int) then Option.bind w2[Int.toNat t100]? fun(a:Int)=>if(a==t100)=Bool.true then Option.bind w0[Int.toNat (Z8 0 (q2R m1 t100 ((m1.length:Nat):Int)) a)]? fun(a2:List Int)=>if 0≤Z8 0 (q2R m1 t100 ((m1.length:Nat):Int)) a∧Z8 0 (q2R m1 t100 ((m1.length:Nat):Int)) a<((w0.length:Nat):Int) then Option.bind w0[Int.toNat (Z8 0 (q2R m1 t100 ((m1.length:Nat):Int)) a)]? fun(a3:List Int)=>if a2.length+1≤maxLen∧(a2.length+1)*8≤140737488355328 then if 0≤Z8 0 (q2R m1 t100 ((m1.length:Nat):Int)) a∧Z8 0 (q2R m1 t100 ((m1.length:Nat):Int)) a<((w0.length:Nat):Int) then if Int.toNat (Z8 0 (q2R m1 t100 ((m1.length:Nat):Int)) a)<w0.length then some (Sum.inl (List.set w0 (Int.toNat (Z8 0 (q2R m1 t100 ((m1.length:Nat):Int)) a)) (a2++[t100]),q2R m1 t100 ((m1.length:Nat):Int),w64 (t100+1))) else none else none else none else none else Option.bind w0[Int.toNat (Z8 0 m1 a)]? fun(a4:List Int)=>if 0≤Z8 0 m1 a∧Z8 0 m1 a<((w0.length:Nat):Int) then Option.bind w0[Int.toNat (Z8 0 m1 a)]? fun(a5:List Int)=>if a4.length+1≤maxLen∧(a4.length+1)*8≤140737488355328 then if 0≤Z8 0 m1 a∧Z8 0 m1 a<((w0.length:Nat):Int) then if Int.toNat (Z8 0 m1 a)<w0.length then some (Sum.inl (List.set w0 (Int.toNat (Z8 0 m1 a)) (a4++[t100]),m1,w64 (t100+1))) else none else none else none else none else none else some (Sum.inr w0)
theorem q0s:∀(w0:List (List Int)) (w2:List Int) (m1:List (Int×Int)) (t99 t100:Int) (w0_len w2_len:Nat),w0_len=w0.length→w2_len=w2.length→XL2 evo 19 0 32 ⟨[(10,rO 0 1 w0_len),(12,R.c (C.hd .map 1)),(98,rO 2 1 w2_len),(99,rI t99),(100,rI t100)],[(0,B.row 25 1 (w0.flatMap (oL 3 1 eI))),(1,B.ob (mpB (Jm .i64) Qc m1)),(2,bR 3 1 eI w2)],3,128⟩=(qx (zz w2 t99) (w0,m1,t100)).bind (fun(e:List (List Int))=>some (Exit.exit 10,⟨[(10,rO 0 1 e.length)],[(0,B.row 25 1 (e.flatMap (oL 3 1 eI)))],1,128⟩)):=
 by
 intro w0 w2 m1 t99 t100 w0_len w2_len h0 h1
 subst h0 h1
 revert t100;revert m1;revert w0;exact qnl qjE qhV (fun e=>by exact⟨_,rfl,fun h=>by cases h⟩) fun w0 m1 t100=>by
  have:=qic;have:=@q86.eq_1;have:=@zz.eq_1;exact gA
def Q0 (x0:List qa):Option (List (List Int)):=if 0≤((x0.length:Nat):Int)∧8*((x0.length:Nat):Int)≤281474976710656∧((x0.length:Nat):Int)≤9223372036854775807 then Option.bind (qx (zo x0 ((x0.length:Nat):Int)) ([],(List.replicate x0.length 0,0))) fun(a:Prod (List (@QT Int)) (List Int))=>Option.bind (qx (zx a.1 x0 ((x0.length:Nat):Int)) (a.2,0)) fun(a2:List Int)=>Option.bind (qx (z6 a2 ((x0.length:Nat):Int)) ([],0)) fun(a3:List (List Int))=>Option.bind (qx (zz a2 ((a2.length:Nat):Int)) (a3,([],0))) fun(a4:List (List Int))=>some a4 else none
theorem Jr:∀(x0:List qa),ev 19 0 [rL 8 qc x0] []=(Q0 x0).bind (fun(e:List (List Int))=>some (rL 1 (eL 1 eI) e,[])):=
 fun x0=>by
  rw[qD qg1 quh.2.2.2 qhL]
  have:=qic;have:=@JR;have:=@q0d;have:=@JF;have:=@q0s;have:=@Q0.eq_1;exact gA
theorem q14:∀(x00_Course_School:Int) (x00_Course_Code:ByteArray) (x00_Credits x00_Grade x00_Day x00_Sources0 x00_Bundle x01_Course_School:Int) (x01_Course_Code:ByteArray) (x01_Credits x01_Grade x01_Day x01_Sources0 x01_Bundle x02_Course_School:Int) (x02_Course_Code:ByteArray) (x02_Credits x02_Grade x02_Day x02_Sources0 x02_Bundle x03_Course_School:Int) (x03_Course_Code:ByteArray) (x03_Credits x03_Grade x03_Day x03_Sources0 x03_Bundle:Int) , ev 19 0 [R.c (C.d (D.sl 8 4 [D.int .i64 x00_Course_School,D.str x00_Course_Code,D.int .i64 x00_Credits,D.int .i64 x00_Grade,D.int .i64 x00_Day,D.sl 1 1 [D.int .i64 x00_Sources0],D.int .i64 x00_Bundle,D.sl 1 0 [],D.int .i64 x01_Course_School,D.str x01_Course_Code,D.int .i64 x01_Credits,D.int .i64 x01_Grade,D.int .i64 x01_Day,D.sl 1 1 [D.int .i64 x01_Sources0],D.int .i64 x01_Bundle,D.sl 1 0 [],D.int .i64 x02_Course_School,D.str x02_Course_Code,D.int .i64 x02_Credits,D.int .i64 x02_Grade,D.int .i64 x02_Day,D.sl 1 1 [D.int .i64 x02_Sources0],D.int .i64 x02_Bundle,D.sl 1 0 [],D.int .i64 x03_Course_School,D.str x03_Course_Code,D.int .i64 x03_Credits,D.int .i64 x03_Grade,D.int .i64 x03_Day,D.sl 1 1 [D.int .i64 x03_Sources0],D.int .i64 x03_Bundle,D.sl 1 0 []]))] []=(Q0 [(qa.mk (qb.mk x00_Course_School x00_Course_Code) x00_Credits x00_Grade x00_Day [x00_Sources0] x00_Bundle ([]:List Int)),(qa.mk (qb.mk x01_Course_School x01_Course_Code) x01_Credits x01_Grade x01_Day [x01_Sources0] x01_Bundle ([]:List Int)),(qa.mk (qb.mk x02_Course_School x02_Course_Code) x02_Credits x02_Grade x02_Day [x02_Sources0] x02_Bundle ([]:List Int)),(qa.mk (qb.mk x03_Course_School x03_Course_Code) x03_Credits x03_Grade x03_Day [x03_Sources0] x03_Bundle ([]:List Int))]).bind (fun(e:List (List Int))=>some (rL 1 (eL 1 eI) e,[])):=by
 intro x00_Course_School x00_Course_Code x00_Credits x00_Grade x00_Day x00_Sources0 x00_Bundle x01_Course_School x01_Course_Code x01_Credits x01_Grade x01_Day x01_Sources0 x01_Bundle x02_Course_School x02_Course_Code x02_Credits x02_Grade x02_Day x02_Sources0 x02_Bundle x03_Course_School x03_Course_Code x03_Credits x03_Grade x03_Day x03_Sources0 x03_Bundle;have h:=Jr [(qa.mk (qb.mk x00_Course_School x00_Course_Code) x00_Credits x00_Grade x00_Day [x00_Sources0] x00_Bundle ([]:List Int)),(qa.mk (qb.mk x01_Course_School x01_Course_Code) x01_Credits x01_Grade x01_Day [x01_Sources0] x01_Bundle ([]:List Int)),(qa.mk (qb.mk x02_Course_School x02_Course_Code) x02_Credits x02_Grade x02_Day [x02_Sources0] x02_Bundle ([]:List Int)),(qa.mk (qb.mk x03_Course_School x03_Course_Code) x03_Credits x03_Grade x03_Day [x03_Sources0] x03_Bundle ([]:List Int))]
 first
  | exact h
  | (simp only[rL,dL,bR,bZ,Nat.reduceAdd] at h;exact h)
theorem qtH:okL 40 q9l:=qF (qf qq9) (by kernel_rfl) (by kernel_rfl)
def qul:=JA_ @q9l.eq_1 (JA_ @Try.f40.eq_1 @qq9)
theorem qon:lbO 40 4=qdS:=zt (qf qq9) rfl
theorem qmI:okL 40 qdS:=qN qtH (qwS (i:=0) (by kernel_rfl))
def zh (a:List Int) (b:List Int):Int→Option (Int⊕(Unit⊕Unit))|k=>if k<((a.length:Nat):Int) then if 0≤k∧k<((a.length:Nat):Int) then Option.bind a[Int.toNat k]? fun(a2:Int)=>if 0≤k∧k<((b.length:Nat):Int) then Option.bind b[Int.toNat k]? fun(a3:Int)=>if(a2 != a3)=Bool.true then some (Sum.inr (Sum.inl ())) else some (Sum.inl (w64 (k+1))) else none else none else some (Sum.inr (Sum.inr ()))
theorem q09:∀(a b:List Int) (k:Int),XL2 evo 40 0 4 ⟨[(0,rL 1 eI a),(1,rL 1 eI b),(5,rI k)],[],0,26⟩=(qx (zh a b) k).bind (Sum.elim (fun(e:Unit)=>some (Exit.ret,⟨[(4,rB Bool.false)],[],0,26⟩)) (fun(e:Unit)=>some (Exit.exit 0,⟨[(4,R.any)],[],0,26⟩))):=
 fun a b k=>by
  revert k;exact q75 qon qmI (fun e=>by rcases e with _|_<;>exact⟨_,rfl,fun h=>by cases h⟩) fun x=>by
   have:=qul;have:=@qdS.eq_1;have:=@zh.eq_1;exact gA
def Qe (a:List Int) (b:List Int):Option Bool:=if(((a.length:Nat):Int) != ((b.length:Nat):Int))=Bool.true then some Bool.false else Option.bind (qx (zh a b) 0) fun(a2:Sum Unit Unit)=>Sum.elim (fun(a3:Unit)=>some Bool.false) (fun(a4:Unit)=>some Bool.true) a2
theorem ZV:∀(a b:List Int),ev 40 0 [rL 1 eI a,rL 1 eI b] []=(Qe a b).bind (fun(e:Bool)=>some (rB e,[])):=
 fun a b=>by
  rw[qD qq9 quC.2.2.2 qtH]
  have:=qul;have:=@q09;have:=@Qe.eq_1;exact gA
theorem qu0:okL 16 q6J:=qF (qf qp3) (by kernel_rfl) (by kernel_rfl)
def qu7:=JA_ @q6J.eq_1 (JA_ @Try.f16.eq_1 @qp3)
theorem qho:raO 16 6=q59:=qmL (qf qp3) rfl
theorem qdT:rbO 16 6=q4g:=qla (qf qp3) rfl
theorem qha:okL 16 q59∧okL 16 q4g:=qlt (key:=0) (q:=(q59,q4g)) qu0 (qwS (i:=0) (by kernel_rfl))
theorem qhj:qy (rbO 16 6)=6:=by rw[qdT];exact qng
theorem qoo:∀k s,XE2 evo 16 k (raO 16 6) s=XE2 evo 16 k q59 s:=fun _ _=>by rw[qho]
theorem qp8:∀k s,XE2 evo 16 k (rbO 16 6) s=XE2 evo 16 k q4g s:=fun _ _=>by rw[qdT]
theorem qv6:okL 42 qdJ:=qF (qf qsS) (by kernel_rfl) (by kernel_rfl)
def quW:=JA_ @qdJ.eq_1 (JA_ @Try.f42.eq_1 @qsS)
def J5 (l:List qa):Option Unit:=
 some ()
def q1j (l:List qa):Unit:=
 ()
theorem q3f (l:List qa):J5 l=some (q1j l):=by
 unfold J5 q1j
 simp only[q0U]
theorem q3O:∀(l:List qa),ev 42 0 [rL 8 qc l] []=some (R.c (C.fn 66 [] [dP 0]),[(0,B.blk 32 [dL 8 qc l])]):=
 fun l=>by
  have h:ev 42 0 [rL 8 qc l] []=(J5 l).bind (fun(e:Unit)=>some (R.c (C.fn 66 [] [dP 0]),[(0,B.blk 32 [dL 8 qc l])])):=by
   rw[qD qsS qug.2.2.2 qv6]
   have:=quW;have:=@J5.eq_1;exact gA
  rw[q3f] at h
  exact h
theorem qvE:okL 66 qaJ:=qF (qf qse) (by kernel_rfl) (by kernel_rfl)
def qwh:=JA_ @qaJ.eq_1 (JA_ @Try.f66.eq_1 @qse)
theorem qu5:okL 67 q8A:=qF (qf qpO) (by kernel_rfl) (by kernel_rfl)
def qtV:=JA_ @q8A.eq_1 (JA_ @Try.f67.eq_1 @qpO)
theorem qn2:lbO 67 4=qbh:=zt (qf qpO) rfl
theorem qpp:okL 67 qbh:=qN qu5 (qwS (i:=0) (by kernel_rfl))
theorem qud:okL 22 q8l:=qF (qf qqh) (by kernel_rfl) (by kernel_rfl)
def quf:=JA_ @q8l.eq_1 (JA_ @Try.f22.eq_1 @qqh)
theorem qmQ:lbO 22 3=qeq:=zt (qf qqh) rfl
theorem qnf:okL 22 qeq:=qN qud (qwS (i:=0) (by kernel_rfl))
def Q2 (t6:List qa) (t7:Int):(Int×Int)→Option ((Int×Int)⊕Int)|(n,t8)=>if t8<t7 then if 0≤t8∧t8<((t6.length:Nat):Int) then Option.bind t6[Int.toNat t8]? fun(a:qa)=>some (Sum.inl (w64 (n+a.Credits),w64 (t8+1))) else none else some (Sum.inr n)
theorem q1g:∀(n:Int) (t6:List qa) (t7 t8:Int),XL2 evo 22 0 3 ⟨[(3,rI n),(6,rL 8 qc t6),(7,rI t7),(8,rI t8)],[],0,18⟩=(qx (Q2 t6 t7) (n,t8)).bind (fun(e:Int)=>some (Exit.exit 0,⟨[(3,rI e)],[],0,18⟩)):=
 fun n t6 t7 t8=>by
  revert t8;revert n;exact q6H qmQ qnf (fun e=>by exact⟨_,rfl,fun h=>by cases h⟩) fun n t8=>by
   have:=quf;have:=@qeq.eq_1;have:=@Q2.eq_1;exact gA
def QZ (l:List qa):Option Int:=Option.bind (qx (Q2 l ((l.length:Nat):Int)) (0,0)) fun(a:Int)=>some a
theorem q2K:∀(l:List qa),ev 22 0 [rL 8 qc l] []=(QZ l).bind (fun(e:Int)=>some (rI e,[])):=
 fun l=>by
  rw[qD qqh qt8.2.2.2 qud]
  have:=quf;have:=@q1g;have:=@QZ.eq_1;exact gA
def QH (t11:List qa) (best:Int):Option Int:=Option.bind (QZ t11) fun(a:Int)=>some (max best a)
theorem q1J:∀(t11:List qa) (best:Int),evr 16 (raO 16 6) (rbO 16 6) 2 [R.any,R.any,R.any,R.any,rP 0,R.any,R.any,R.any,R.any,R.any,R.any,rL 8 qc t11,R.any,R.any,R.any,R.any,R.any] [(0,B.blk 3 [dI best]),(1,B.ob (AO.lp 16 (R.any::R.any::R.any::R.any::rP 0::q76) [11] (raO 16 6) (rbO 16 6) LoopState.ready none))]=(QH t11 best).bind (fun(e:Int)=>some (rB Bool.true,[(0,B.blk 3 [dI e]),(1,B.ob (AO.lp 16 (R.any::R.any::R.any::R.any::rP 0::q76) [11] (raO 16 6) (rbO 16 6) LoopState.ready none))])):=
 fun t11 best=>by
  rw[qjk qho qdT (by decide) qnM qha.1 qha.2]
  have:=qu7;have:=@qoo;have:=@qp8;have:=@q59.eq_1;have:=@q4g.eq_1;have:=@q2K;have:=@QH.eq_1;have:=@qhj;exact gA
theorem qwj:okL 68 qdO:=qF (qf qrf) (by kernel_rfl) (by kernel_rfl)
def quV:=JA_ @qdO.eq_1 (JA_ @Try.f68.eq_1 @qrf)
def qu (s:List qa):Option Unit:=
 some ()
def zb (s:List qa):Unit:=
 ()
theorem Qd (s:List qa):qu s=some (zb s):=by
 unfold qu zb
 simp only[q0U]
theorem Qi:∀(s:List qa),ev 68 0 [rL 8 qc s] []=some (R.c (C.clp 8 s.length (s.flatMap qc)),[]):=
 fun s=>by
  have h:ev 68 0 [rL 8 qc s] []=(qu s).bind (fun(e:Unit)=>some (R.c (C.clp 8 s.length (s.flatMap qc)),[])):=by
   rw[qD qrf quB.2.2.2 qwj]
   have:=quV;have:=@qu.eq_1;exact gA
  rw[Qd] at h
  exact h
theorem qt9:okL 21 q8n:=qF (qf qpT) (by kernel_rfl) (by kernel_rfl)
def quA:=JA_ @q8n.eq_1 (JA_ @Try.f21.eq_1 @qpT)
theorem qmO:lbO 21 2=qbU:=zt (qf qpT) rfl
theorem qm7:okL 21 qbU:=qN qt9 (qwS (i:=0) (by kernel_rfl))
theorem qvg:okL 47 qcd:=qF (qf qsG) (by kernel_rfl) (by kernel_rfl)
def qw5:=JA_ @qcd.eq_1 (JA_ @Try.f47.eq_1 @qsG)
theorem qtl:okL 70 q9m:=qF (qf qpH) (by kernel_rfl) (by kernel_rfl)
def qtQ:=JA_ @q9m.eq_1 (JA_ @Try.f70.eq_1 @qpH)
theorem qoY:lbO 70 2=qdt:=zt (qf qpH) rfl
theorem qmz:okL 70 qdt:=qN qtl (qwS (i:=0) (by kernel_rfl))
theorem qwp:okL 46 qdC:=qF (qf qqC) (by kernel_rfl) (by kernel_rfl)
def qwu:=JA_ @qdC.eq_1 (JA_ @Try.f46.eq_1 @qqC)
def ZH (b:qa) (v:qa):Option Bool:=Option.bind (Z5 v b) fun(a:Bool)=>some (!a)
theorem q3c:∀(b_Course_School:Int) (b_Course_Code:ByteArray) (b_Credits b_Grade b_Day:Int) (b_Sources:List Int) (b_Bundle:Int) (b_Path:List Int) (v_Course_School:Int) (v_Course_Code:ByteArray) (v_Credits v_Grade v_Day:Int) (v_Sources:List Int) (v_Bundle:Int) (v_Path:List Int),ev 46 1 [R.agg [dI b_Course_School,dS b_Course_Code,dI b_Credits,dI b_Grade,dI b_Day,dL 1 eI b_Sources,dI b_Bundle,dL 1 eI b_Path],rP 0] [(0,B.blk 52 [dI v_Course_School,dS v_Course_Code,dI v_Credits,dI v_Grade,dI v_Day,dL 1 eI v_Sources,dI v_Bundle,dL 1 eI v_Path])]=(ZH (qa.mk (qb.mk b_Course_School b_Course_Code) b_Credits b_Grade b_Day b_Sources b_Bundle b_Path) (qa.mk (qb.mk v_Course_School v_Course_Code) v_Credits v_Grade v_Day v_Sources v_Bundle v_Path)).bind (fun(e:Bool)=>some (rB e,[(0,B.blk 52 [dI v_Course_School,dS v_Course_Code,dI v_Credits,dI v_Grade,dI v_Day,dL 1 eI v_Sources,dI v_Bundle,dL 1 eI v_Path])])):=
 fun b_Course_School b_Course_Code b_Credits b_Grade b_Day b_Sources b_Bundle b_Path v_Course_School v_Course_Code v_Credits v_Grade v_Day v_Sources v_Bundle v_Path=>by
  rw[qD qqC qub.2.2.2 qwp]
  have:=qwu;have:=@q0l;have:=@ZH.eq_1;exact gA
def ql (b0:qa) (s:List qa) (t7:Int):Int→Option (Int⊕(Int⊕Unit))|t8=>if t8<t7 then if 0≤t8∧t8<((s.length:Nat):Int) then Option.bind s[Int.toNat t8]? fun(a:qa)=>Option.bind (ZH a b0) fun(a2:Bool)=>if a2=Bool.true then some (Sum.inr (Sum.inl t8)) else some (Sum.inl (w64 (t8+1))) else none else some (Sum.inr (Sum.inr ()))
theorem zN:∀(b0_Course_School:Int) (b0_Course_Code:ByteArray) (b0_Credits b0_Grade b0_Day:Int) (b0_Sources:List Int) (b0_Bundle:Int) (b0_Path:List Int) (s:List qa) (t7 t8:Int),XL2 evo 70 1 2 ⟨[(0,rL 8 qc s),(1,R.c (C.fn 46 [] [dP 0])),(7,rI t7),(8,rI t8)],[(0,B.blk 52 [dI b0_Course_School,dS b0_Course_Code,dI b0_Credits,dI b0_Grade,dI b0_Day,dL 1 eI b0_Sources,dI b0_Bundle,dL 1 eI b0_Path])],1,19⟩=(qx (ql (qa.mk (qb.mk b0_Course_School b0_Course_Code) b0_Credits b0_Grade b0_Day b0_Sources b0_Bundle b0_Path) s t7) t8).bind (Sum.elim (fun(e:Int)=>some (Exit.ret,⟨[(4,rI e)],[(0,B.blk 52 [dI b0_Course_School,dS b0_Course_Code,dI b0_Credits,dI b0_Grade,dI b0_Day,dL 1 eI b0_Sources,dI b0_Bundle,dL 1 eI b0_Path])],1,19⟩)) (fun(e:Unit)=>some (Exit.exit 0,⟨[(4,R.any)],[(0,B.blk 52 [dI b0_Course_School,dS b0_Course_Code,dI b0_Credits,dI b0_Grade,dI b0_Day,dL 1 eI b0_Sources,dI b0_Bundle,dL 1 eI b0_Path])],1,19⟩))):=
 fun b0_Course_School b0_Course_Code b0_Credits b0_Grade b0_Day b0_Sources b0_Bundle b0_Path s t7 t8=>by
  revert t8;exact q75 qoY qmz (fun e=>by rcases e with _|_<;>exact⟨_,rfl,fun h=>by cases h⟩) fun x=>by
   have:=qtQ;have:=@qdt.eq_1;have:=@q3c;have:=@ql.eq_1;exact gA
def qs (s:List qa) (b0:qa):Option Int:=Option.bind (qx (ql b0 s ((s.length:Nat):Int)) 0) fun(a:Sum Int Unit)=>Sum.elim (fun(a2:Int)=>some a2) (fun(a3:Unit)=>some (-1)) a
theorem zZ:∀(s:List qa) (b0_Course_School:Int) (b0_Course_Code:ByteArray) (b0_Credits b0_Grade b0_Day:Int) (b0_Sources:List Int) (b0_Bundle:Int) (b0_Path:List Int),ev 70 1 [rL 8 qc s,R.c (C.fn 46 [] [dP 0])] [(0,B.blk 52 [dI b0_Course_School,dS b0_Course_Code,dI b0_Credits,dI b0_Grade,dI b0_Day,dL 1 eI b0_Sources,dI b0_Bundle,dL 1 eI b0_Path])]=(qs s (qa.mk (qb.mk b0_Course_School b0_Course_Code) b0_Credits b0_Grade b0_Day b0_Sources b0_Bundle b0_Path)).bind (fun(e:Int)=>some (rI e,[(0,B.blk 52 [dI b0_Course_School,dS b0_Course_Code,dI b0_Credits,dI b0_Grade,dI b0_Day,dL 1 eI b0_Sources,dI b0_Bundle,dL 1 eI b0_Path])])):=
 fun s b0_Course_School b0_Course_Code b0_Credits b0_Grade b0_Day b0_Sources b0_Bundle b0_Path=>by
  rw[qD qpH qtj.2.2.2 qtl]
  have:=qtQ;have:=@zN;have:=@qs.eq_1;exact gA
def qn (s:List qa) (b0:qa):Option Bool:=Option.bind (qs s b0) fun(a:Int)=>some (decide (0≤a))
theorem zO:∀(s:List qa) (b0_Course_School:Int) (b0_Course_Code:ByteArray) (b0_Credits b0_Grade b0_Day:Int) (b0_Sources:List Int) (b0_Bundle:Int) (b0_Path:List Int),ev 47 1 [rL 8 qc s,R.c (C.fn 46 [] [dP 0])] [(0,B.blk 52 [dI b0_Course_School,dS b0_Course_Code,dI b0_Credits,dI b0_Grade,dI b0_Day,dL 1 eI b0_Sources,dI b0_Bundle,dL 1 eI b0_Path])]=(qn s (qa.mk (qb.mk b0_Course_School b0_Course_Code) b0_Credits b0_Grade b0_Day b0_Sources b0_Bundle b0_Path)).bind (fun(e:Bool)=>some (rB e,[(0,B.blk 52 [dI b0_Course_School,dS b0_Course_Code,dI b0_Credits,dI b0_Grade,dI b0_Day,dL 1 eI b0_Sources,dI b0_Bundle,dL 1 eI b0_Path])])):=
 fun s b0_Course_School b0_Course_Code b0_Credits b0_Grade b0_Day b0_Sources b0_Bundle b0_Path=>by
  rw[qD qsG qtO.2.2.2 qvg]
  have:=qw5;have:=@zZ;have:=@qn.eq_1;exact gA
def Qk (l:List qa) (t6:List qa) (t7:Int):Int→Option (Int⊕(Unit⊕Unit))|t8=>if t8<t7 then if 0≤t8∧t8<((t6.length:Nat):Int) then Option.bind t6[Int.toNat t8]? fun(a:qa)=>if 0≤w64 (t8+1)∧w64 (t8+1)≤((l.length:Nat):Int) then Option.bind (qn (List.take (l.length-Int.toNat (w64 (t8+1))) (List.drop (Int.toNat (w64 (t8+1))) l)) a) fun(a2:Bool)=>if a2=Bool.true then some (Sum.inr (Sum.inl ())) else some (Sum.inl (w64 (t8+1))) else none else none else some (Sum.inr (Sum.inr ()))
theorem q2i:∀(l t6:List qa) (t7 t8:Int),XL2 evo 21 0 2 ⟨[(0,rL 8 qc l),(6,rL 8 qc t6),(7,rI t7),(8,rI t8)],[],0,21⟩=(qx (Qk l t6 t7) t8).bind (Sum.elim (fun(e:Unit)=>some (Exit.ret,⟨[(2,rB Bool.false)],[],0,21⟩)) (fun(e:Unit)=>some (Exit.exit 0,⟨[(2,R.any)],[],0,21⟩))):=
 fun l t6 t7 t8=>by
  revert t8;exact q75 qmO qm7 (fun e=>by rcases e with _|_<;>exact⟨_,rfl,fun h=>by cases h⟩) fun x=>by
   have:=quA;have:=@qbU.eq_1;have:=@zO;have:=@Qk.eq_1;exact gA
def Zk (l:List qa):Option Bool:=Option.bind (qx (Qk l l ((l.length:Nat):Int)) 0) fun(a:Sum Unit Unit)=>Sum.elim (fun(a2:Unit)=>some Bool.false) (fun(a3:Unit)=>some Bool.true) a
theorem q4P:∀(l:List qa),ev 21 0 [rL 8 qc l] []=(Zk l).bind (fun(e:Bool)=>some (rB e,[])):=
 fun l=>by
  rw[qD qpT qtJ.2.2.2 qt9]
  have:=quA;have:=@q2i;have:=@Zk.eq_1;exact gA
theorem q2n:∀(l2:List qa) (l2_len:Nat),l2_len=l2.length→ev 21 0 [R.c (C.d (D.sl 8 l2_len (l2.flatMap qc)))] []=(Zk l2).bind (fun(e:Bool)=>some (rB e,[])):=by
 intro l2 l2_len h0;subst h0;have h:=q4P l2
 first
  | exact h
  | (simp only[rL,dL,bR,bZ,Nat.reduceAdd] at h;exact h)
def qZ (x:(List qa×Int×Int×List qa)):List R×List (Nat×B):=([R.c (C.d (D.sl 8 x.1.length (x.1.flatMap qc))),R.c (C.d (D.int .i64 x.2.1)),R.c (C.ptr 0 0),R.c (C.ptr 3 0),R.c (C.ptr 4 0)],[(0,B.blk 60 [C.hd .yield 1]),(1,B.ob (AO.lp 16 [R.any,R.any,R.any,R.any,R.c (C.ptr 2 0),R.any,R.any,R.any,R.any,R.any,R.any,R.any,R.any,R.any,R.any,R.any,R.any] [11] (raO 16 6) (rbO 16 6) LoopState.ready none)),(2,B.blk 3 [C.d (D.int .i64 x.2.2.1)]),(3,B.blk 32 [C.d (D.sl 8 x.2.2.2.length (x.2.2.2.flatMap qc))]),(4,B.blk 105 [C.fn 67 [] [C.ptr 0 0,C.ptr 3 0,C.ptr 4 0]])])
def zj:(Bool×Int×List qa)→R×List (Nat×B):=fun(e:Bool×Int×List qa)=>(R.c (C.d (D.bool e.1)),[(0,B.blk 60 [C.hd .yield 1]),(1,B.ob (AO.lp 16 [R.any,R.any,R.any,R.any,R.c (C.ptr 2 0),R.any,R.any,R.any,R.any,R.any,R.any,R.any,R.any,R.any,R.any,R.any,R.any] [11] (raO 16 6) (rbO 16 6) LoopState.ready none)),(2,B.blk 3 [C.d (D.int .i64 e.2.1)]),(3,B.blk 32 [C.d (D.sl 8 e.2.2.length (e.2.2.flatMap qc))]),(4,B.blk 105 [C.fn 67 [] [C.ptr 0 0,C.ptr 3 0,C.ptr 4 0]])])
def zi (rF:(List qa×Int×Int×List qa)→Option (Bool×Int×List qa)) (set0:List qa):(Int×List qa×Int)→Option ((Int×List qa×Int)⊕((Int×List qa)⊕(Int×List qa)))|(b2,b3,k)=>if k<((b3.length:Nat):Int) then if 0≤k∧k<((b3.length:Nat):Int) then Option.bind b3[Int.toNat k]? fun(a2:qa)=>if set0.length+1≤maxLen∧(set0.length+1)*104≤140737488355328 then Option.bind (Zk (set0++[a2])) fun(a3:Bool)=>if a3=Bool.true then Option.bind (rF (set0++[a2],(w64 (k+1),(b2,b3)))) fun(a4:Prod Bool (Prod Int (List qa)))=>if(!a4.1)=Bool.true then some (Sum.inr (Sum.inl (a4.2.1,a4.2.2))) else some (Sum.inl (a4.2.1,a4.2.2,w64 (k+1))) else some (Sum.inl (b2,b3,w64 (k+1))) else none else none else some (Sum.inr (Sum.inr (b2,b3)))
theorem q06 (rE:Orc) (rF:(List qa×Int×Int×List qa)→Option (Bool×Int×List qa)) (hF:∀y,rE (.fn 67) 5 (qZ y).1 (qZ y).2=(rF y).bind fun e=>some (zj e)) (hM:∀g k a G,g≠67→rE (.fn g) k a G=ev g k a G) (hR:∀g asg bd k a G,rE (.rd g asg bd) k a G=evr g asg bd k a G):∀(b2:Int) (b3 set0:List qa) (k:Int),XL2 rE 67 5 4 ⟨[(0,rL 8 qc set0),(3,rP 3),(4,rP 4),(8,rI k)],[(0,B.blk 60 [C.hd .yield 1]),(1,B.ob (AO.lp 16 (R.any::R.any::R.any::R.any::rP 2::q76) [11] (raO 16 6) (rbO 16 6) LoopState.ready none)),(2,B.blk 3 [dI b2]),(3,B.blk 32 [dL 8 qc b3]),(4,B.blk 105 [C.fn 67 [] [dP 0,dP 3,dP 4]])],5,39⟩=(qx (zi rF set0) (b2,b3,k)).bind (Sum.elim (fun(e:Int×List qa)=>some (Exit.ret,⟨[(7,rB Bool.false)],[(0,B.blk 60 [C.hd .yield 1]),(1,B.ob (AO.lp 16 (R.any::R.any::R.any::R.any::rP 2::q76) [11] (raO 16 6) (rbO 16 6) LoopState.ready none)),(2,B.blk 3 [dI e.1]),(3,B.blk 32 [dL 8 qc e.2]),(4,B.blk 105 [C.fn 67 [] [dP 0,dP 3,dP 4]])],5,39⟩)) (fun(e:Int×List qa)=>some (Exit.exit 0,⟨[(7,R.any)],[(0,B.blk 60 [C.hd .yield 1]),(1,B.ob (AO.lp 16 (R.any::R.any::R.any::R.any::rP 2::q76) [11] (raO 16 6) (rbO 16 6) LoopState.ready none)),(2,B.blk 3 [dI e.1]),(3,B.blk 32 [dL 8 qc e.2]),(4,B.blk 105 [C.fn 67 [] [dP 0,dP 3,dP 4]])],5,39⟩))):=
 fun b2 b3 set0 k=>by
  revert k;revert b3;revert b2;exact qnl qn2 qpp (fun e=>by rcases e with _|_<;>exact⟨_,rfl,fun h=>by cases h⟩) fun b2 b3 k=>by
   have hF':∀(set0:List qa) (from0 b2:Int) (v:List qa) (set0_len:Nat),set0_len=set0.length→rE (.fn 67) 5 [R.c (C.d (D.sl 8 set0_len (set0.flatMap qc))),rI from0,rP 0,rP 3,rP 4] [(0,B.blk 60 [C.hd .yield 1]),(1,B.ob (AO.lp 16 (R.any::R.any::R.any::R.any::rP 2::q76) [11] (raO 16 6) (rbO 16 6) LoopState.ready none)),(2,B.blk 3 [dI b2]),(3,B.blk 32 [dL 8 qc v]),(4,B.blk 105 [C.fn 67 [] [dP 0,dP 3,dP 4]])]=(rF (set0,from0,b2,v)).bind (fun e=>some (rB e.1,[(0,B.blk 60 [C.hd .yield 1]),(1,B.ob (AO.lp 16 (R.any::R.any::R.any::R.any::rP 2::q76) [11] (raO 16 6) (rbO 16 6) LoopState.ready none)),(2,B.blk 3 [dI e.2.1]),(3,B.blk 32 [dL 8 qc e.2.2]),(4,B.blk 105 [C.fn 67 [] [dP 0,dP 3,dP 4]])])):=by intro set0 from0 b2 v set0_len h0;subst h0;exact hF (set0,from0,b2,v)
   have:=qtV;have:=@qbh.eq_1;have:=@Qi;have:=@q2n;have:=@zi.eq_1;exact gA
def zI (rF:(List qa×Int×Int×List qa)→Option (Bool×Int×List qa)):(List qa×Int×Int×List qa)→Option (Bool×Int×List qa)|(set0,from0,b2,v)=>Option.bind (QH set0 b2) fun(a2:Int)=>Option.bind (qx (zi rF set0) (a2,(v,from0))) fun(a3:Sum (Prod Int (List qa)) (Prod Int (List qa)))=>Sum.elim (fun(a4:Prod Int (List qa))=>some (Bool.false,a4.1,a4.2)) (fun(a5:Prod Int (List qa))=>some (Bool.true,a5.1,a5.2)) a3
theorem ZT:q6I 67 5 qZ zj zI:=by
 intro rE rF hF hM hR x
 obtain⟨set0,from0,b2,v⟩:=x
 show q6p rE 67 5 [rL 8 qc set0,rI from0,rP 0,rP 3,rP 4] [(0,B.blk 60 [C.hd .yield 1]),(1,B.ob (AO.lp 16 (R.any::R.any::R.any::R.any::rP 2::q76) [11] (raO 16 6) (rbO 16 6) LoopState.ready none)),(2,B.blk 3 [dI b2]),(3,B.blk 32 [dL 8 qc v]),(4,B.blk 105 [C.fn 67 [] [dP 0,dP 3,dP 4]])]=_
 have hF':∀(set0:List qa) (from0 b2:Int) (v:List qa) (set0_len:Nat),set0_len=set0.length→rE (.fn 67) 5 [R.c (C.d (D.sl 8 set0_len (set0.flatMap qc))),rI from0,rP 0,rP 3,rP 4] [(0,B.blk 60 [C.hd .yield 1]),(1,B.ob (AO.lp 16 (R.any::R.any::R.any::R.any::rP 2::q76) [11] (raO 16 6) (rbO 16 6) LoopState.ready none)),(2,B.blk 3 [dI b2]),(3,B.blk 32 [dL 8 qc v]),(4,B.blk 105 [C.fn 67 [] [dP 0,dP 3,dP 4]])]=(rF (set0,from0,b2,v)).bind (fun e=>some (rB e.1,[(0,B.blk 60 [C.hd .yield 1]),(1,B.ob (AO.lp 16 (R.any::R.any::R.any::R.any::rP 2::q76) [11] (raO 16 6) (rbO 16 6) LoopState.ready none)),(2,B.blk 3 [dI e.2.1]),(3,B.blk 32 [dL 8 qc e.2.2]),(4,B.blk 105 [C.fn 67 [] [dP 0,dP 3,dP 4]])])):=by intro set0 from0 b2 v set0_len h0;subst h0;exact hF (set0,from0,b2,v)
 rw[q5F qpO qu5]
 have:=qtV;have:=@q1J;have:=q06 rE rF hF hM hR;have:=@zI.eq_1;have:=@zj.eq_1;exact gA
theorem Zb:∀x y,qZ x=qZ y→x=y:=by
 rintro⟨a0,a1,a2,a3⟩ ⟨b0,b1,b2,b3⟩ h
 simp only[qZ,Prod.mk.injEq,List.cons.injEq,R.c.injEq,R.agg.injEq,R.tup.injEq,C.d.injEq,C.own.injEq,C.ptr.injEq,C.eptr.injEq,C.clp.injEq,D.int.injEq,D.bool.injEq,D.str.injEq,D.sl.injEq,B.blk.injEq,B.row.injEq,q3h,q1L,JU,q2y,q2P,q3X,q49,q3E,q4n,q4l,q6y,q3g,true_and,and_true,qxb] at h
 simp only[h]
theorem q07:∀x y,zj x=zj y→x=y:=by
 rintro⟨a0,a1,a2⟩ ⟨b0,b1,b2⟩ h
 simp only[zj,Prod.mk.injEq,List.cons.injEq,R.c.injEq,R.agg.injEq,R.tup.injEq,C.d.injEq,C.own.injEq,C.ptr.injEq,C.eptr.injEq,C.clp.injEq,D.int.injEq,D.bool.injEq,D.str.injEq,D.sl.injEq,B.blk.injEq,B.row.injEq,q3h,q1L,JU,q2y,q2P,q3X,q49,q3E,q4n,q4l,q6y,q3g,true_and,and_true,qxb] at h
 simp only[h]
def zX:(List qa×Int×Int×List qa)→Option (Bool×Int×List qa):=q4Q 67 5 qZ zj
theorem ZX (x:(List qa×Int×Int×List qa)):zX x=zI zX x:=qh4 qsx.2.2.2 Zb q07 ZT x
theorem q1f (set0:List qa) (from0 b2:Int) (v:List qa):ev 67 5 [rL 8 qc set0,rI from0,rP 0,rP 3,rP 4] [(0,B.blk 60 [C.hd .yield 1]),(1,B.ob (AO.lp 16 (R.any::R.any::R.any::R.any::rP 2::q76) [11] (raO 16 6) (rbO 16 6) LoopState.ready none)),(2,B.blk 3 [dI b2]),(3,B.blk 32 [dL 8 qc v]),(4,B.blk 105 [C.fn 67 [] [dP 0,dP 3,dP 4]])]=(zX (set0,from0,b2,v)).bind (fun(e:Bool×Int×List qa)=>some (rB e.1,[(0,B.blk 60 [C.hd .yield 1]),(1,B.ob (AO.lp 16 (R.any::R.any::R.any::R.any::rP 2::q76) [11] (raO 16 6) (rbO 16 6) LoopState.ready none)),(2,B.blk 3 [dI e.2.1]),(3,B.blk 32 [dL 8 qc e.2.2]),(4,B.blk 105 [C.fn 67 [] [dP 0,dP 3,dP 4]])])):=(q9A qsx.2.2.2 Zb ZT (set0,from0,b2,v))
theorem q0c:∀  (from0 b2:Int) (v:List qa),ev 67 5 [R.c (C.d (D.sl 8 0 [])),rI from0,rP 0,rP 3,rP 4] [(0,B.blk 60 [C.hd .yield 1]),(1,B.ob (AO.lp 16 (R.any::R.any::R.any::R.any::rP 2::q76) [11] (raO 16 6) (rbO 16 6) LoopState.ready none)),(2,B.blk 3 [dI b2]),(3,B.blk 32 [dL 8 qc v]),(4,B.blk 105 [C.fn 67 [] [dP 0,dP 3,dP 4]])]=(zX ([],from0,b2,v)).bind (fun(e:Bool×Int×List qa)=>some (rB e.1,[(0,B.blk 60 [C.hd .yield 1]),(1,B.ob (AO.lp 16 (R.any::R.any::R.any::R.any::rP 2::q76) [11] (raO 16 6) (rbO 16 6) LoopState.ready none)),(2,B.blk 3 [dI e.2.1]),(3,B.blk 32 [dL 8 qc e.2.2]),(4,B.blk 105 [C.fn 67 [] [dP 0,dP 3,dP 4]])])):=by
 intro from0 b2 v;have h:=q1f [] from0 b2 v
 first
  | exact h
  | (simp only[rL,dL,bR,bZ,Nat.reduceAdd] at h;exact h)
def Zq (b1:Int) (v:List qa):Option (Int×List qa):=Option.bind (zX ([],(0,(b1,v)))) fun(a:Prod Bool (Prod Int (List qa)))=>some (a.2.1,a.2.2)
theorem q2F:∀(b1:Int) (v:List qa),ev 66 3 [R.c (C.hd .yield 0),rP 2] [(0,B.ob (AO.lp 16 (R.any::R.any::R.any::R.any::rP 1::q76) [11] (raO 16 6) (rbO 16 6) LoopState.ready none)),(1,B.blk 3 [dI b1]),(2,B.blk 32 [dL 8 qc v])]=(Zq b1 v).bind (fun(e:Int×List qa)=>some (R.tup [],[(0,B.ob (AO.lp 16 (R.any::R.any::R.any::R.any::rP 1::q76) [11] (raO 16 6) (rbO 16 6) LoopState.ready none)),(1,B.blk 3 [dI e.1]),(2,B.blk 32 [dL 8 qc e.2])])):=
 fun b1 v=>by
  rw[qD qse qta.2.2.2 qvE]
  have:=qwh;have:=@q0c;have:=@Zq.eq_1;exact gA
def zL (l:List qa):Option (Int×Int):=if 10<((l.length:Nat):Int) then some (0,2) else Option.bind (Zq 0 l) fun(a:Prod Int (List qa))=>some (a.1,0)
theorem q0k:∀(l:List qa),ev 16 0 [rL 8 qc l] []=(zL l).bind (fun(e:Int×Int)=>some (R.tup [rI e.1,rI e.2],[])):=
 fun l=>by
  rw[qD qp3 quD.2.2.2 qu0]
  have:=qu7;have:=@q3O;have:=@q2F;have:=@zL.eq_1;have:=@qhj;exact gA
theorem q1T:∀(l0_Course_School:Int) (l0_Course_Code:ByteArray) (l0_Credits l0_Grade l0_Day l0_Sources0 l0_Bundle l1_Course_School:Int) (l1_Course_Code:ByteArray) (l1_Credits l1_Grade l1_Day l1_Sources0 l1_Bundle l2_Course_School:Int) (l2_Course_Code:ByteArray) (l2_Credits l2_Grade l2_Day l2_Sources0 l2_Bundle:Int) , ev 16 0 [R.c (C.d (D.sl 8 3 [D.int .i64 l0_Course_School,D.str l0_Course_Code,D.int .i64 l0_Credits,D.int .i64 l0_Grade,D.int .i64 l0_Day,D.sl 1 1 [D.int .i64 l0_Sources0],D.int .i64 l0_Bundle,D.sl 1 0 [],D.int .i64 l1_Course_School,D.str l1_Course_Code,D.int .i64 l1_Credits,D.int .i64 l1_Grade,D.int .i64 l1_Day,D.sl 1 1 [D.int .i64 l1_Sources0],D.int .i64 l1_Bundle,D.sl 1 0 [],D.int .i64 l2_Course_School,D.str l2_Course_Code,D.int .i64 l2_Credits,D.int .i64 l2_Grade,D.int .i64 l2_Day,D.sl 1 1 [D.int .i64 l2_Sources0],D.int .i64 l2_Bundle,D.sl 1 0 []]))] []=(zL [(qa.mk (qb.mk l0_Course_School l0_Course_Code) l0_Credits l0_Grade l0_Day [l0_Sources0] l0_Bundle ([]:List Int)),(qa.mk (qb.mk l1_Course_School l1_Course_Code) l1_Credits l1_Grade l1_Day [l1_Sources0] l1_Bundle ([]:List Int)),(qa.mk (qb.mk l2_Course_School l2_Course_Code) l2_Credits l2_Grade l2_Day [l2_Sources0] l2_Bundle ([]:List Int))]).bind (fun(e:Int×Int)=>some (R.tup [rI e.1,rI e.2],[])):=by
 intro l0_Course_School l0_Course_Code l0_Credits l0_Grade l0_Day l0_Sources0 l0_Bundle l1_Course_School l1_Course_Code l1_Credits l1_Grade l1_Day l1_Sources0 l1_Bundle l2_Course_School l2_Course_Code l2_Credits l2_Grade l2_Day l2_Sources0 l2_Bundle;have h:=q0k [(qa.mk (qb.mk l0_Course_School l0_Course_Code) l0_Credits l0_Grade l0_Day [l0_Sources0] l0_Bundle ([]:List Int)),(qa.mk (qb.mk l1_Course_School l1_Course_Code) l1_Credits l1_Grade l1_Day [l1_Sources0] l1_Bundle ([]:List Int)),(qa.mk (qb.mk l2_Course_School l2_Course_Code) l2_Credits l2_Grade l2_Day [l2_Sources0] l2_Bundle ([]:List Int))]
 first
  | exact h
  | (simp only[rL,dL,bR,bZ,Nat.reduceAdd] at h;exact h)
theorem qqn:okL 11 q66:=qF (qf qkU) (by kernel_rfl) (by kernel_rfl)
def qpR:=JA_ @q66.eq_1 (JA_ @Try.f11.eq_1 @qkU)
theorem qhy:lbO 11 3=q8q:=zt (qf qkU) rfl
theorem qgZ:okL 11 q8q:=qN qqn (qwS (i:=0) (by kernel_rfl))
theorem qh1:lbO 11 9=q8o:=zt (qf qkU) rfl
theorem qh6:okL 11 q8o:=qN qqn (qwS (i:=1) (by kernel_rfl))
theorem qwP:okL 25 qdF:=qF (qf qqL) (by kernel_rfl) (by kernel_rfl)
def qww:=JA_ @qdF.eq_1 (JA_ @Try.f25.eq_1 @qqL)
theorem qv4:okL 50 qdW:=qF (qf qqX) (by kernel_rfl) (by kernel_rfl)
def quQ:=JA_ @qdW.eq_1 (JA_ @Try.f50.eq_1 @qqX)
theorem quX:okL 76 qbD:=qF (qf qqR) (by kernel_rfl) (by kernel_rfl)
def qwQ:=JA_ @qbD.eq_1 (JA_ @Try.f76.eq_1 @qqR)
def ZE (n:Int) (by0:Int):Option Int:=if by0=0 then none else if by0=0 then none else if by0=0 then none else some (w64 (Int.tdiv (w64 (n-Int.tmod (w64 (Int.tmod n by0+by0)) by0)) by0))
theorem q34:∀(n by0:Int),ev 76 0 [rI n,rI by0] []=(ZE n by0).bind (fun(e:Int)=>some (rI e,[])):=
 fun n by0=>by
  rw[qD qqR qtk.2.2.2 quX]
  have:=qwQ;have:=@ZE.eq_1;exact gA
def JL (day:Int):Option Int:=if day<(-4611686018427387904) then Option.bind (ZE (w64 (day+100)) 100) fun(a:Int)=>some (w64 (a-1)) else Option.bind (ZE day 100) fun(e0:Int)=>some e0
theorem q4I:∀(day:Int),ev 50 0 [rI day] []=(JL day).bind (fun(e:Int)=>some (rI e,[])):=
 fun day=>by
  rw[qD qqX qtY.2.2.2 qv4]
  have:=quQ;have:=@q34;have:=@JL.eq_1;exact gA
def qG (p:qg) (a:qa) (day:Int):Option Bool:=if 0<p.Age then Option.bind (JL day) fun(a2:Int)=>Option.bind (JL a.Day) fun(a3:Int)=>some (decide (p.Age<w64 (a2-a3))) else some Bool.false
theorem q0y:∀(p_School p_Id p_Version p_From:Int) (p_Name:ByteArray) (p_Need_Kind p_Need_N p_Need_Min:Int) (p_Need_Set:List qb) (p_Need_L:List qh) (p_Total p_Own p_Age:Int) (p_Exclude:List (QT qb)) (a_Course_School:Int) (a_Course_Code:ByteArray) (a_Credits a_Grade a_Day:Int) (a_Sources:List Int) (a_Bundle:Int) (a_Path:List Int) (day:Int),ev 25 0 [R.agg [dI p_School,dI p_Id,dI p_Version,dI p_From,dS p_Name,dI p_Need_Kind,dI p_Need_N,dI p_Need_Min,dL 2 qj p_Need_Set,dL 5 qq p_Need_L,dI p_Total,dI p_Own,dI p_Age,dL 4 (eA2 qj) p_Exclude],R.agg [dI a_Course_School,dS a_Course_Code,dI a_Credits,dI a_Grade,dI a_Day,dL 1 eI a_Sources,dI a_Bundle,dL 1 eI a_Path],rI day] []=(qG (qg.mk p_School p_Id p_Version p_From p_Name (qh.mk p_Need_Kind p_Need_N p_Need_Min p_Need_Set p_Need_L) p_Total p_Own p_Age p_Exclude) (qa.mk (qb.mk a_Course_School a_Course_Code) a_Credits a_Grade a_Day a_Sources a_Bundle a_Path) day).bind (fun(e:Bool)=>some (rB e,[])):=
 fun p_School p_Id p_Version p_From p_Name p_Need_Kind p_Need_N p_Need_Min p_Need_Set p_Need_L p_Total p_Own p_Age p_Exclude a_Course_School a_Course_Code a_Credits a_Grade a_Day a_Sources a_Bundle a_Path day=>by
  rw[qD qqL qty.2.2.2 qwP]
  have:=qww;have:=@q4I;have:=@qG.eq_1;exact gA
theorem qwL:okL 31 qaX:=qF (qf qsQ) (by kernel_rfl) (by kernel_rfl)
def qvm:=JA_ @qaX.eq_1 (JA_ @Try.f31.eq_1 @qsQ)
def qR (s:List Int):Option Unit:=if s.length≤maxLen∧s.length*8≤140737488355328 then some () else none
theorem QV:∀(s:List Int),ev 57 0 [rL 1 eI s] []=(qR s).bind (fun(e:Unit)=>some (rO 0 1 s.length,[(0,bR 3 1 eI s)])):=
 fun s=>by
  rw[qfq,quj.2.2.2]
  have:=@qR.eq_1;exact gA
def qv (a:qa):Option Unit:=Option.bind (qR a.Sources) fun(a2:Unit)=>Option.bind (qR a.Path) fun(a3:Unit)=>some ()
theorem Jo:∀(a_Course_School:Int) (a_Course_Code:ByteArray) (a_Credits a_Grade a_Day:Int) (a_Sources:List Int) (a_Bundle:Int) (a_Path:List Int),ev 31 0 [R.agg [dI a_Course_School,dS a_Course_Code,dI a_Credits,dI a_Grade,dI a_Day,dL 1 eI a_Sources,dI a_Bundle,dL 1 eI a_Path]] []=(qv (qa.mk (qb.mk a_Course_School a_Course_Code) a_Credits a_Grade a_Day a_Sources a_Bundle a_Path)).bind (fun(e:Unit)=>some (R.agg [dI a_Course_School,dS a_Course_Code,dI a_Credits,dI a_Grade,dI a_Day,dL 1 eI a_Sources,dI a_Bundle,dL 1 eI a_Path],[])):=
 fun a_Course_School a_Course_Code a_Credits a_Grade a_Day a_Sources a_Bundle a_Path=>by
  rw[qD qsQ qtU.2.2.2 qwL]
  have:=qvm;have:=@QV;have:=@qv.eq_1;exact gA
theorem quc:okL 32 q9f:=qF (qf qpW) (by kernel_rfl) (by kernel_rfl)
def qt7:=JA_ @q9f.eq_1 (JA_ @Try.f32.eq_1 @qpW)
theorem qoS:lbO 32 3=qeh:=zt (qf qpW) rfl
theorem qm0:okL 32 qeh:=qN quc (qwS (i:=0) (by kernel_rfl))
theorem qsJ:okL 58 q6B:=qF (qf qln) (by kernel_rfl) (by kernel_rfl)
def qqv:=JA_ @q6B.eq_1 (JA_ @Try.f58.eq_1 @qln)
theorem qlV:lbO 58 3=qaK:=zt (qf qln) rfl
theorem qpa:okL 58 qaK:=qN qsJ (qwS (i:=0) (by kernel_rfl))
theorem qnB:lbO 58 8=qbd:=zt (qf qln) rfl
theorem qpt:okL 58 qbd:=qN qsJ (qwS (i:=1) (by kernel_rfl))
def zT (s:List Int):Option (List Int):=
 some (@cpI s)
def qB (s:List Int):List Int:=
 @cpI s
theorem ZJ (s:List Int):zT s=some (qB s):=by
 unfold zT qB
 simp only[q0U]
theorem ZP:∀(s:List Int) (s_len:Nat),s_len=s.length→ev 79 0 [rO 0 1 s_len] [(0,bR 3 1 eI s)]=some (rO 0 1 (qB s).length,[(0,B.row 3 1 (((qB s).flatMap eI).map C.d))]):=
 by
 intro s s_len h0
 subst h0
 have h:ev 79 0 [rO 0 1 s.length] [(0,bR 3 1 eI s)]=(zT s).bind (fun(e:List Int)=>some (rO 0 1 e.length,[(0,bR 3 1 eI e)])):=by
  rw[qfq,qtm.2.2.2]
  have:=@zT.eq_1;exact gA
 rw[ZJ] at h
 exact h
def Qj (w1:List Int) (t10:List qa) (t11:Int) (t12:Int) (t23:Int):((List (Int×Int))×Int)→Option (((List (Int×Int))×Int)⊕((List (Int×Int))))|(m0,t24)=>if t24<t23 then if 0≤t24∧t24<((w1.length:Nat):Int) then Option.bind w1[Int.toNat t24]? fun(a:Int)=>some (Sum.inl (q2R m0 a (w64 (Z8 0 m0 a+1)),w64 (t24+1))) else none else some (Sum.inr m0)
theorem q2v:∀(w1:List Int) (m0:List (Int×Int)) (t10:List qa) (t11 t12 t23 t24:Int) (w1_len:Nat),w1_len=w1.length→XL2 evo 58 0 8 ⟨[(3,R.c (C.hd .map 0)),(10,rL 8 qc t10),(11,rI t11),(12,rI t12),(22,rO 1 1 w1_len),(23,rI t23),(24,rI t24)],[(0,B.ob (mpB (Jm .i64) Qc m0)),(1,bR 3 1 eI w1)],2,35⟩=(qx (Qj w1 t10 t11 t12 t23) (m0,t24)).bind (fun(e:(List (Int×Int)))=>some (Exit.exit 2,⟨[(3,R.c (C.hd .map 0)),(10,rL 8 qc t10),(11,rI t11),(12,rI t12)],[(0,B.ob (mpB (Jm .i64) Qc e))],1,35⟩)):=
 by
 intro w1 m0 t10 t11 t12 t23 t24 w1_len h0
 subst h0
 revert t24;revert m0;exact q6H qnB qpt (fun e=>by exact⟨_,rfl,fun h=>by cases h⟩) fun m0 t24=>by
  have:=qqv;have:=@qbd.eq_1;have:=@Qj.eq_1;exact gA
def QA (t10:List qa) (t11:Int):((List (Int×Int))×Int)→Option (((List (Int×Int))×Int)⊕((List (Int×Int))))|(m0,t12)=>if t12<t11 then if 0≤t12∧t12<((t10.length:Nat):Int) then Option.bind t10[Int.toNat t12]? fun(a:qa)=>Option.bind (qR a.Sources) fun(a2:Unit)=>if a.Sources.length<4611686018427387904 then Option.bind (qx (Qj (qB (@ZK a.Sources)) t10 t11 t12 (((qB (@ZK a.Sources)).length:Nat):Int)) (m0,0)) fun(a3:List (Prod Int Int))=>some (Sum.inl (a3,w64 (t12+1))) else none else none else some (Sum.inr m0)
theorem q2E:∀(m0:List (Int×Int)) (t10:List qa) (t11 t12:Int),XL2 evo 58 0 3 ⟨[(3,R.c (C.hd .map 0)),(10,rL 8 qc t10),(11,rI t11),(12,rI t12)],[(0,B.ob (mpB (Jm .i64) Qc m0))],1,35⟩=(qx (QA t10 t11) (m0,t12)).bind (fun(e:(List (Int×Int)))=>some (Exit.exit 0,⟨[(3,R.c (C.hd .map 0))],[(0,B.ob (mpB (Jm .i64) Qc e))],1,35⟩)):=
 fun m0 t10 t11 t12=>by
  revert t12;revert m0;exact q6H qlV qpa (fun e=>by exact⟨_,rfl,fun h=>by cases h⟩) fun m0 t12=>by
   have:=qqv;have:=@qaK.eq_1;have:=@QV;have:=@ZP;have:=@q2v;have:=@QA.eq_1;exact gA
def ZY (l:List qa):Option ((List (Int×Int))):=Option.bind (qx (QA l ((l.length:Nat):Int)) ([],0)) fun(a:List (Prod Int Int))=>some a
theorem q4D:∀(l:List qa),ev 58 0 [rL 8 qc l] []=(ZY l).bind (fun(e:(List (Int×Int)))=>some (R.c (C.hd .map 0),[(0,B.ob (mpB (Jm .i64) Qc e))])):=
 fun l=>by
  rw[qD qln que.2.2.2 qsJ]
  have:=qqv;have:=@q2E;have:=@ZY.eq_1;exact gA
theorem qwH:okL 14 qbb:=qF (qf qsc) (by kernel_rfl) (by kernel_rfl)
def qw8:=JA_ @qbb.eq_1 (JA_ @Try.f14.eq_1 @qsc)
theorem qvv:okL 39 qd5:=qF (qf qrH) (by kernel_rfl) (by kernel_rfl)
def qwt:=JA_ @qd5.eq_1 (JA_ @Try.f39.eq_1 @qrH)
theorem qvt:okL 64 qeg:=qF (qf qqK) (by kernel_rfl) (by kernel_rfl)
def qwN:=JA_ @qeg.eq_1 (JA_ @Try.f64.eq_1 @qqK)
theorem qte:okL 84 q8R:=qF (qf qqf) (by kernel_rfl) (by kernel_rfl)
def qtp:=JA_ @q8R.eq_1 (JA_ @Try.f84.eq_1 @qqf)
theorem qoM:lbO 84 2=qdH:=zt (qf qqf) rfl
theorem qmP:okL 84 qdH:=qN qte (qwS (i:=0) (by kernel_rfl))
theorem qvL:okL 85 qcM:=qF (qf qt2) (by kernel_rfl) (by kernel_rfl)
def quU:=JA_ @qcM.eq_1 (JA_ @Try.f85.eq_1 @qt2)
def Qz (n:Int) (a:Int) (b:Int):Option Int:=
 some (max (min a b) (min n (max a b)))
def qO (n:Int) (a:Int) (b:Int):Int:=
 max (min a b) (min n (max a b))
theorem JV (n a b:Int):Qz n a b=some (qO n a b):=by
 unfold Qz qO
 simp only[q0U]
theorem QC:∀(n a b:Int),ev 85 0 [rI n,rI a,rI b] []=some (rI (qO n a b),[]):=
 fun n a b=>by
  have h:ev 85 0 [rI n,rI a,rI b] []=(Qz n a b).bind (fun(e:Int)=>some (rI e,[])):=by
   rw[qD qt2 qtu.2.2.2 qvL]
   have:=quU;have:=@Qz.eq_1;exact gA
  rw[JV] at h
  exact h
end
noncomputable section
open Go.RowKit
set_option maxRecDepth 20000
set_option maxHeartbeats 8000000
def zW (w1:List Int) (s:qe) (t10:Int):Int→Option (Int⊕(Unit⊕Unit))|t11=>if t11<t10 then if 0≤t11∧t11<((w1.length:Nat):Int) then Option.bind w1[Int.toNat t11]? fun(a:Int)=>if(qO a (-1000) 1000 != a)=Bool.true then some (Sum.inr (Sum.inl ())) else some (Sum.inl (w64 (t11+1))) else none else some (Sum.inr (Sum.inr ()))
theorem q1n:∀(w1:List Int) (s_Worst s_Best s_Pass t10 t11:Int) (w1_len:Nat),w1_len=w1.length→XL2 evo 84 0 2 ⟨[(1,rP 0),(9,rO 1 1 w1_len),(10,rI t10),(11,rI t11)],[(0,B.blk 30 [dI s_Worst,dI s_Best,dI s_Pass]),(1,bR 3 1 eI w1)],2,37⟩=(qx (zW w1 (qe.mk s_Worst s_Best s_Pass) t10) t11).bind (Sum.elim (fun(e:Unit)=>some (Exit.ret,⟨[(1,rP 0),(2,rI 10)],[(0,B.blk 30 [dI s_Worst,dI s_Best,dI s_Pass])],1,37⟩)) (fun(e:Unit)=>some (Exit.exit 0,⟨[(1,rP 0),(2,R.any)],[(0,B.blk 30 [dI s_Worst,dI s_Best,dI s_Pass])],1,37⟩))):=
 by
 intro w1 s_Worst s_Best s_Pass t10 t11 w1_len h0
 subst h0
 revert t11;exact q75 qoM qmP (fun e=>by rcases e with _|_<;>exact⟨_,rfl,fun h=>by cases h⟩) fun x=>by
  have:=qtp;have:=@qdH.eq_1;have:=@QC;have:=@zW.eq_1;exact gA
theorem q08:∀(w10 w11 s_Worst s_Best s_Pass t10 t11:Int),XL2 evo 84 0 2 ⟨[(1,rP 0),(9,rO 1 1 2),(10,rI t10),(11,rI t11)],[(0,B.blk 30 [dI s_Worst,dI s_Best,dI s_Pass]),(1,B.row 3 1 [dI w10,dI w11])],2,37⟩=(qx (zW [w10,w11] (qe.mk s_Worst s_Best s_Pass) t10) t11).bind (Sum.elim (fun(e:Unit)=>some (Exit.ret,⟨[(1,rP 0),(2,rI 10)],[(0,B.blk 30 [dI s_Worst,dI s_Best,dI s_Pass])],1,37⟩)) (fun(e:Unit)=>some (Exit.exit 0,⟨[(1,rP 0),(2,R.any)],[(0,B.blk 30 [dI s_Worst,dI s_Best,dI s_Pass])],1,37⟩))):=by
 intro w10 w11 s_Worst s_Best s_Pass t10 t11;have h:=q1n [w10,w11] ((qe.mk s_Worst s_Best s_Pass)).Worst ((qe.mk s_Worst s_Best s_Pass)).Best ((qe.mk s_Worst s_Best s_Pass)).Pass t10 t11 _ rfl
 first
  | exact h
  | (simp only[rL,dL,bR,bZ,Nat.reduceAdd] at h;exact h)
def Zd (s:qe):Option Int:=Option.bind (qx (zW [s.Worst,s.Best] s 2) 0) fun(a:Sum Unit Unit)=>Sum.elim (fun(a2:Unit)=>some 10) (fun(a3:Unit)=>if(s.Worst==s.Best)=Bool.true then some 10 else if(qO s.Pass s.Worst s.Best != s.Pass)=Bool.true then some 10 else some 0) a
theorem q31:∀(s_Worst s_Best s_Pass:Int),ev 84 0 [R.agg [dI s_Worst,dI s_Best,dI s_Pass]] []=(Zd (qe.mk s_Worst s_Best s_Pass)).bind (fun(e:Int)=>some (rI e,[])):=
 fun s_Worst s_Best s_Pass=>by
  rw[qD qqf qu9.2.2.2 qte]
  have:=qtp;have:=@q08;have:=@QC;have:=@Zd.eq_1;exact gA
def Zc (s:qe) (g:Int):Option Bool:=Option.bind (Zd s) fun(a:Int)=>if(a==0)=Bool.true then some (qO g s.Worst s.Best==g) else some Bool.false
theorem q3d:∀(s_Worst s_Best s_Pass g:Int),ev 64 0 [R.agg [dI s_Worst,dI s_Best,dI s_Pass],rI g] []=(Zc (qe.mk s_Worst s_Best s_Pass) g).bind (fun(e:Bool)=>some (rB e,[])):=
 fun s_Worst s_Best s_Pass g=>by
  rw[qD qqK qu4.2.2.2 qvt]
  have:=qwN;have:=@q31;have:=@QC;have:=@Zc.eq_1;exact gA
def QJ (s:qe) (g:Int) (min:Int):Option Bool:=Option.bind (Zc s g) fun(a:Bool)=>if a=Bool.true then if(g==min)=Bool.true then some Bool.true else some (decide (min<g)==decide (s.Worst<s.Best)) else some Bool.false
theorem q29:∀(s_Worst s_Best s_Pass g min:Int),ev 39 0 [R.agg [dI s_Worst,dI s_Best,dI s_Pass],rI g,rI min] []=(QJ (qe.mk s_Worst s_Best s_Pass) g min).bind (fun(e:Bool)=>some (rB e,[])):=
 fun s_Worst s_Best s_Pass g min=>by
  rw[qD qrH qtC.2.2.2 qvv]
  have:=qwt;have:=@q3d;have:=@QJ.eq_1;exact gA
def QX (s:qe) (a:qa) (b:qa):Option Bool:=if(a.Course.School==b.Course.School)=Bool.true∧(ByteArray.toList a.Course.Code==ByteArray.toList b.Course.Code)=Bool.true then if(a.Bundle==b.Bundle)=Bool.true then Option.bind (za a.Path b.Path) fun(a2:Bool)=>if a2=Bool.true then if b.Credits≤a.Credits then if b.Day≤a.Day then Option.bind (QJ s a.Grade b.Grade) fun(e0:Bool)=>some e0 else some Bool.false else some Bool.false else some Bool.false else some Bool.false else some Bool.false
theorem q2s:∀(s_Worst s_Best s_Pass a_Course_School:Int) (a_Course_Code:ByteArray) (a_Credits a_Grade a_Day:Int) (a_Sources:List Int) (a_Bundle:Int) (a_Path:List Int) (b_Course_School:Int) (b_Course_Code:ByteArray) (b_Credits b_Grade b_Day:Int) (b_Sources:List Int) (b_Bundle:Int) (b_Path:List Int),ev 14 0 [R.agg [dI s_Worst,dI s_Best,dI s_Pass],R.agg [dI a_Course_School,dS a_Course_Code,dI a_Credits,dI a_Grade,dI a_Day,dL 1 eI a_Sources,dI a_Bundle,dL 1 eI a_Path],R.agg [dI b_Course_School,dS b_Course_Code,dI b_Credits,dI b_Grade,dI b_Day,dL 1 eI b_Sources,dI b_Bundle,dL 1 eI b_Path]] []=(QX (qe.mk s_Worst s_Best s_Pass) (qa.mk (qb.mk a_Course_School a_Course_Code) a_Credits a_Grade a_Day a_Sources a_Bundle a_Path) (qa.mk (qb.mk b_Course_School b_Course_Code) b_Credits b_Grade b_Day b_Sources b_Bundle b_Path)).bind (fun(e:Bool)=>some (rB e,[])):=
 fun s_Worst s_Best s_Pass a_Course_School a_Course_Code a_Credits a_Grade a_Day a_Sources a_Bundle a_Path b_Course_School b_Course_Code b_Credits b_Grade b_Day b_Sources b_Bundle b_Path=>by
  rw[qD qsc qtK.2.2.2 qwH]
  have:=qw8;have:=@QR;have:=@q29;have:=@QX.eq_1;exact gA
theorem qv3:okL 59 qcN:=qF (qf qsH) (by kernel_rfl) (by kernel_rfl)
def qvJ:=JA_ @qcN.eq_1 (JA_ @Try.f59.eq_1 @qsH)
def Qt (n:Int) (m1:List (Int×Int)) (v:List qa) (v2:Int):Option Bool:=if 1<Z8 0 m1 n then if 0≤v2∧v2<((v.length:Nat):Int) then Option.bind v[Int.toNat v2]? fun(a:qa)=>Option.bind (qP a.Sources n) fun(a2:Bool)=>some (!a2) else none else some Bool.false
theorem q16:∀(n:Int) (m1:List (Int×Int)) (v:List qa) (v2:Int),ev 59 4 [rI n,rP 0,rP 2,rP 3] [(0,B.blk 82 [C.hd .map 1]),(1,B.ob (mpB (Jm .i64) Qc m1)),(2,B.blk 32 [dL 8 qc v]),(3,B.blk 3 [dI v2])]=(Qt n m1 v v2).bind (fun(e:Bool)=>some (rB e,[(0,B.blk 82 [C.hd .map 1]),(1,B.ob (mpB (Jm .i64) Qc m1)),(2,B.blk 32 [dL 8 qc v]),(3,B.blk 3 [dI v2])])):=
 fun n m1 v v2=>by
  rw[qD qsH qtI.2.2.2 qv3]
  have:=qvJ;have:=@QE;have:=@Qt.eq_1;exact gA
def qm (i:Int) (j:Int) (s:List qa):Option (List qa):=if 0≤i∧j=i+1∧i<((s.length:Nat):Int) then some (@List.eraseIdx qa s (Int.toNat i)) else none
theorem qV:∀(i j:Int) (s:List qa) (s_len:Nat),s_len=s.length→ev 33 0 [rO 0 8 s_len,rI i,rI j] [(0,bR 52 8 qc s)]=(qm i j s).bind (fun(e:List qa)=>some (rO 0 8 e.length,[(0,bR 52 8 qc e)])):=
 by
 intro i j s s_len h0
 subst h0
 rw[qfq,quy.2.2.2]
 have:=@qm.eq_1;exact gA
def qz (m1:List (Int×Int)) (b2:List qa) (b3:Int) (s:List Int) (t7:Int):Int→Option (Int⊕(Int⊕Unit))|t8=>if t8<t7 then if 0≤t8∧t8<((s.length:Nat):Int) then Option.bind s[Int.toNat t8]? fun(a:Int)=>Option.bind (Qt a m1 b2 b3) fun(a2:Bool)=>if a2=Bool.true then some (Sum.inr (Sum.inl t8)) else some (Sum.inl (w64 (t8+1))) else none else some (Sum.inr (Sum.inr ()))
theorem Z6:∀(m1:List (Int×Int)) (b2:List qa) (b3:Int) (s:List Int) (t7 t8:Int),XL2 evo 81 4 2 ⟨[(0,rL 1 eI s),(1,R.c (C.fn 59 [] [dP 0,dP 2,dP 3])),(7,rI t7),(8,rI t8)],[(0,B.blk 82 [C.hd .map 1]),(1,B.ob (mpB (Jm .i64) Qc m1)),(2,B.blk 32 [dL 8 qc b2]),(3,B.blk 3 [dI b3])],4,19⟩=(qx (qz m1 b2 b3 s t7) t8).bind (Sum.elim (fun(e:Int)=>some (Exit.ret,⟨[(4,rI e)],[(0,B.blk 82 [C.hd .map 1]),(1,B.ob (mpB (Jm .i64) Qc m1)),(2,B.blk 32 [dL 8 qc b2]),(3,B.blk 3 [dI b3])],4,19⟩)) (fun(e:Unit)=>some (Exit.exit 0,⟨[(4,R.any)],[(0,B.blk 82 [C.hd .map 1]),(1,B.ob (mpB (Jm .i64) Qc m1)),(2,B.blk 32 [dL 8 qc b2]),(3,B.blk 3 [dI b3])],4,19⟩))):=
 fun m1 b2 b3 s t7 t8=>by
  revert t8;exact q75 qhu qhz (fun e=>by rcases e with _|_<;>exact⟨_,rfl,fun h=>by cases h⟩) fun x=>by
   have:=qqo;have:=@q8V.eq_1;have:=@q16;have:=@qz.eq_1;exact gA
def zp (s:List Int) (m1:List (Int×Int)) (b2:List qa) (b3:Int):Option Int:=Option.bind (qx (qz m1 b2 b3 s ((s.length:Nat):Int)) 0) fun(a:Sum Int Unit)=>Sum.elim (fun(a2:Int)=>some a2) (fun(a3:Unit)=>some (-1)) a
theorem Zo:∀(s:List Int) (m1:List (Int×Int)) (b2:List qa) (b3:Int),ev 81 4 [rL 1 eI s,R.c (C.fn 59 [] [dP 0,dP 2,dP 3])] [(0,B.blk 82 [C.hd .map 1]),(1,B.ob (mpB (Jm .i64) Qc m1)),(2,B.blk 32 [dL 8 qc b2]),(3,B.blk 3 [dI b3])]=(zp s m1 b2 b3).bind (fun(e:Int)=>some (rI e,[(0,B.blk 82 [C.hd .map 1]),(1,B.ob (mpB (Jm .i64) Qc m1)),(2,B.blk 32 [dL 8 qc b2]),(3,B.blk 3 [dI b3])])):=
 fun s m1 b2 b3=>by
  rw[qD qmb qsw.2.2.2 qsM]
  have:=qqo;have:=@Z6;have:=@zp.eq_1;exact gA
def qL (s:List Int) (m1:List (Int×Int)) (b2:List qa) (b3:Int):Option Bool:=Option.bind (zp s m1 b2 b3) fun(a:Int)=>some (decide (0≤a))
theorem Z7:∀(s:List Int) (m1:List (Int×Int)) (b2:List qa) (b3:Int),ev 61 4 [rL 1 eI s,R.c (C.fn 59 [] [dP 0,dP 2,dP 3])] [(0,B.blk 82 [C.hd .map 1]),(1,B.ob (mpB (Jm .i64) Qc m1)),(2,B.blk 32 [dL 8 qc b2]),(3,B.blk 3 [dI b3])]=(qL s m1 b2 b3).bind (fun(e:Bool)=>some (rB e,[(0,B.blk 82 [C.hd .map 1]),(1,B.ob (mpB (Jm .i64) Qc m1)),(2,B.blk 32 [dL 8 qc b2]),(3,B.blk 3 [dI b3])])):=
 fun s m1 b2 b3=>by
  rw[qD qpK qs8.2.2.2 quv]
  have:=quz;have:=@Zo;have:=@qL.eq_1;exact gA
def zP (l:List qa) (s:qe) (at0:Int) (m4:List (Int×Int)) (t13:List qa) (t14:Int):Int→Option (Int⊕(Unit⊕Unit))|t15=>if t15<t14 then if 0≤t15∧t15<((t13.length:Nat):Int) then Option.bind t13[Int.toNat t15]? fun(a:qa)=>if(t15==at0)=Bool.true then some (Sum.inl (w64 (t15+1))) else if 0≤at0∧at0<((l.length:Nat):Int) then Option.bind l[Int.toNat at0]? fun(a2:qa)=>Option.bind (QX s a a2) fun(a3:Bool)=>if(!a3)=Bool.true then some (Sum.inl (w64 (t15+1))) else Option.bind (qL a.Sources m4 l at0) fun(a4:Bool)=>if(!a4)=Bool.true then some (Sum.inr (Sum.inl ())) else some (Sum.inl (w64 (t15+1))) else none else none else some (Sum.inr (Sum.inr ()))
theorem q0G:∀(l:List qa) (s_Worst s_Best s_Pass at0:Int) (m4:List (Int×Int)) (t13:List qa) (t14 t15:Int),XL2 evo 32 0 3 ⟨[(3,rP 0),(4,rP 1),(5,rP 2),(7,rP 3),(13,rL 8 qc t13),(14,rI t14),(15,rI t15)],[(0,B.blk 32 [dL 8 qc l]),(1,B.blk 30 [dI s_Worst,dI s_Best,dI s_Pass]),(2,B.blk 3 [dI at0]),(3,B.blk 82 [C.hd .map 4]),(4,B.ob (mpB (Jm .i64) Qc m4))],5,40⟩=(qx (zP l (qe.mk s_Worst s_Best s_Pass) at0 m4 t13 t14) t15).bind (Sum.elim (fun(e:Unit)=>some (Exit.ret,⟨[(6,rB Bool.true)],[],0,40⟩)) (fun(e:Unit)=>some (Exit.exit 0,⟨[(6,R.any)],[],0,40⟩))):=
 fun l s_Worst s_Best s_Pass at0 m4 t13 t14 t15=>by
  revert t15;exact q75 qoS qm0 (fun e=>by rcases e with _|_<;>exact⟨_,rfl,fun h=>by cases h⟩) fun x=>by
   have:=qt7;have:=@qeh.eq_1;have:=@q2s;have:=@Z7;have:=@zP.eq_1;exact gA
def Q7 (l:List qa) (s:qe) (at0:Int):Option Bool:=Option.bind (ZY l) fun(a:List (Prod Int Int))=>Option.bind (qx (zP l s at0 a l ((l.length:Nat):Int)) 0) fun(a2:Sum Unit Unit)=>Sum.elim (fun(a3:Unit)=>some Bool.true) (fun(a4:Unit)=>some Bool.false) a2
theorem J4:∀(l:List qa) (s_Worst s_Best s_Pass at0:Int),ev 32 0 [rL 8 qc l,R.agg [dI s_Worst,dI s_Best,dI s_Pass],rI at0] []=(Q7 l (qe.mk s_Worst s_Best s_Pass) at0).bind (fun(e:Bool)=>some (rB e,[])):=
 fun l s_Worst s_Best s_Pass at0=>by
  rw[qD qpW qtM.2.2.2 quc]
  have:=qt7;have:=@q4D;have:=@q0G;have:=@Q7.eq_1;exact gA
theorem lo8:okL 8 qky:=qF (qf bd8) (by kernel_rfl) (by kernel_rfl)
def cx8:=JA_ @qky.eq_1 (JA_ @Try.f8.eq_1 @bd8)
theorem qvx:okL 26 qb7:=qF (qf qs7) (by kernel_rfl) (by kernel_rfl)
def qwC:=JA_ @qb7.eq_1 (JA_ @Try.f26.eq_1 @qs7)
theorem q4N:∀(code:ByteArray) (grade source day:Int),ev 26 0 [rS code,rI grade,rI source,rI day] []=some (R.agg [C.d (D.int IntKind.i64 1),dS code,C.d (D.int IntKind.i64 5),C.d (D.int IntKind.i64 grade),C.d (D.int IntKind.i64 day),C.d (D.sl 1 1 [D.int IntKind.i64 source]),C.d (D.int IntKind.i64 0),C.d (D.sl 1 0 [])],[]):=
 fun code grade source day=>by
  rw[qD qs7 quk.2.2.2 qvx]
  have:=qwC;exact gA
theorem qwd:okL 10 qcq:=qF (qf qrj) (by kernel_rfl) (by kernel_rfl)
def qwk:=JA_ @qcq.eq_1 (JA_ @Try.f10.eq_1 @qrj)
theorem q2b:ev 10 0 [] []=some (R.agg [C.d (D.int IntKind.i64 0),C.d (D.int IntKind.i64 100),C.d (D.int IntKind.i64 50)],[]):=
 by
  rw[qD qrj qtx.2.2.2 qwd]
  have:=qwk;exact gA
theorem lo9:okL 9 qfP:=qF (qf bd9) (by kernel_rfl) (by kernel_rfl)
def cx9:=JA_ @qfP.eq_1 (JA_ @Try.f9.eq_1 @bd9)
theorem qsj:lbO 9 3=qje:=zt (qf bd9) rfl
theorem qsa:okL 9 qje:=qN lo9 (qwS (i:=0) (by kernel_rfl))
theorem quH:okL 27 q8i:=qF (qf qpP) (by kernel_rfl) (by kernel_rfl)
def qtG:=JA_ @q8i.eq_1 (JA_ @Try.f27.eq_1 @qpP)
theorem qpA:lbO 27 3=qe6:=zt (qf qpP) rfl
theorem qmR:okL 27 qe6:=qN quH (qwS (i:=0) (by kernel_rfl))
theorem qv0:okL 51 qc6:=qF (qf qsf) (by kernel_rfl) (by kernel_rfl)
def qwf:=JA_ @qc6.eq_1 (JA_ @Try.f51.eq_1 @qsf)
def ZG:Option (List ByteArray):=
 some [ByteArray.mk (List.toArray [65,49]),ByteArray.mk (List.toArray [66,49]),ByteArray.mk (List.toArray [66,50]),ByteArray.mk (List.toArray [67,49]),ByteArray.mk (List.toArray [68,49]),ByteArray.mk (List.toArray [69,57])]
def qt:List ByteArray:=
 [ByteArray.mk (List.toArray [65,49]),ByteArray.mk (List.toArray [66,49]),ByteArray.mk (List.toArray [66,50]),ByteArray.mk (List.toArray [67,49]),ByteArray.mk (List.toArray [68,49]),ByteArray.mk (List.toArray [69,57])]
theorem q2L:ZG=some (qt):=by
 unfold ZG qt
 simp only[q0U]
theorem JX:ev 51 0 [] []=some (R.c (C.d (D.sl 1 (qt).length ((qt).flatMap eS))),[]):=
 by
  have h:ev 51 0 [] []=(ZG).bind (fun(e:List ByteArray)=>some (rL 1 eS e,[])):=by
   rw[qD qsf qtF.2.2.2 qv0]
   have:=qwf;have:=@ZG.eq_1;exact gA
  rw[q2L] at h
  exact h
theorem qvZ:okL 52 qdX:=qF (qf qsC) (by kernel_rfl) (by kernel_rfl)
def qvT:=JA_ @qdX.eq_1 (JA_ @Try.f52.eq_1 @qsC)
theorem qv8:okL 28 qbV:=qF (qf qs5) (by kernel_rfl) (by kernel_rfl)
def qw7:=JA_ @qbV.eq_1 (JA_ @Try.f28.eq_1 @qs5)
def zV (n:Int) (m:Int):Option Int:=if m=0 then none else if m=0 then none else some (Int.tmod (w64 (Int.tmod n m+m)) m)
theorem Jg:∀(n m:Int),ev 28 0 [rI n,rI m] []=(zV n m).bind (fun(e:Int)=>some (rI e,[])):=
 fun n m=>by
  rw[qD qs5 qux.2.2.2 qv8]
  have:=qw7;have:=@zV.eq_1;exact gA
def qr (n:Int) (d:qd):Option (Int×qd):=if((d.L.length:Nat):Int)≤d.At then some (0,d) else if 0≤w64 (w64 (d.At+1)-1)∧w64 (w64 (d.At+1)-1)<((d.L.length:Nat):Int) then Option.bind d.L[Int.toNat (w64 (w64 (d.At+1)-1))]? fun(a:Int)=>Option.bind (zV a n) fun(a2:Int)=>some (a2,qd.mk d.L (w64 (d.At+1))) else none
theorem q18:∀(n:Int) (d_L:List Int) (d_At:Int),ev 52 1 [rP 0,rI n] [(0,B.blk 89 [dL 1 eI d_L,dI d_At])]=(qr n (qd.mk d_L d_At)).bind (fun(e:Int×qd)=>some (rI e.1,[(0,B.blk 89 [dL 1 eI e.2.L,dI e.2.At])])):=
 fun n d_L d_At=>by
  rw[qD qsC qtc.2.2.2 qvZ]
  have:=qvT;have:=@Jg;have:=@qr.eq_1;exact gA
theorem quO:okL 30 qbB:=qF (qf qqD) (by kernel_rfl) (by kernel_rfl)
def qw2:=JA_ @qbB.eq_1 (JA_ @Try.f30.eq_1 @qqD)
theorem qwi:okL 53 qck:=qF (qf qsY) (by kernel_rfl) (by kernel_rfl)
def qvG:=JA_ @qck.eq_1 (JA_ @Try.f53.eq_1 @qsY)
def qi (most:Int) (d:qd):Option (Int×qd):=if((d.L.length:Nat):Int)≤d.At then some (0,d) else if 0≤d.At∧d.At<((d.L.length:Nat):Int) then Option.bind d.L[Int.toNat d.At]? fun(a:Int)=>if most=0 then none else if most=0 then none else some (Int.tmod (w64 (Int.tmod a most+most)) most,qd.mk d.L (w64 (d.At+1))) else none
theorem Qp:∀(most:Int) (d_L:List Int) (d_At:Int),ev 53 1 [rP 0,rI most] [(0,B.blk 93 [dL 1 eI d_L,dI d_At])]=(qi most (qd.mk d_L d_At)).bind (fun(e:Int×qd)=>some (rI e.1,[(0,B.blk 93 [dL 1 eI e.2.L,dI e.2.At])])):=
 fun most d_L d_At=>by
  rw[qD qsY qui.2.2.2 qwi]
  have:=qvG;have:=@qi.eq_1;exact gA
theorem qvc:okL 54 qb0:=qF (qf qrx) (by kernel_rfl) (by kernel_rfl)
def qwB:=JA_ @qb0.eq_1 (JA_ @Try.f54.eq_1 @qrx)
def Qn (d:qd):Option (qb×qd):=Option.bind (qi 6 d) fun(a:Prod Int qd)=>if 0≤a.1∧a.1<6 then Option.bind [(1:Int),1,1,2,2,3][Int.toNat a.1]? fun(a2:Int)=>Option.bind (qi ((qt.length:Nat):Int) a.2) fun(a3:Prod Int qd)=>if 0≤a3.1∧a3.1<((qt.length:Nat):Int) then Option.bind qt[Int.toNat a3.1]? fun(a4:ByteArray)=>some (qb.mk a2 a4,a3.2) else none else none
theorem JG:∀(d_L:List Int) (d_At:Int),ev 54 1 [rP 0] [(0,B.blk 93 [dL 1 eI d_L,dI d_At])]=(Qn (qd.mk d_L d_At)).bind (fun(e:qb×qd)=>some (R.agg [dI e.1.School,dS e.1.Code],[(0,B.blk 93 [dL 1 eI e.2.L,dI e.2.At])])):=
 fun d_L d_At=>by
  rw[qD qrx qtX.2.2.2 qvc]
  have:=qwB;have:=@Qp;have:=@JX;have:=@Qn.eq_1;exact gA
theorem qtz:okL 56 q8F:=qF (qf qpJ) (by kernel_rfl) (by kernel_rfl)
def qtA:=JA_ @q8F.eq_1 (JA_ @Try.f56.eq_1 @qpJ)
theorem qlR:lbO 56 9=qcy:=zt (qf qpJ) rfl
theorem ql6:okL 56 qcy:=qN qtz (qwS (i:=0) (by kernel_rfl))
theorem qqV:okL 77 q6C:=qF (qf qor) (by kernel_rfl) (by kernel_rfl)
def qqu:=JA_ @q6C.eq_1 (JA_ @Try.f77.eq_1 @qor)
theorem qpC:lbO 77 4=qbl:=zt (qf qor) rfl
theorem qmC:okL 77 qbl:=qN qqV (qwS (i:=0) (by kernel_rfl))
theorem qlm:lbO 77 8=qcH:=zt (qf qor) rfl
theorem qlo:okL 77 qcH:=qN qqV (qwS (i:=1) (by kernel_rfl))
theorem qvY:okL 55 qde:=qF (qf qsF) (by kernel_rfl) (by kernel_rfl)
def qvk:=JA_ @qde.eq_1 (JA_ @Try.f55.eq_1 @qsF)
def Z0 (a:qb) (b:qb):Option Bool:=if a.School<b.School then some Bool.true else if(a.School==b.School)=Bool.true then some (Op.bytesLess (ByteArray.toList a.Code) (ByteArray.toList b.Code)) else some Bool.false
def zu (a:qb) (b:qb):Bool:=if a.School<b.School then Bool.true else if(a.School==b.School)=Bool.true then Op.bytesLess (ByteArray.toList a.Code) (ByteArray.toList b.Code) else Bool.false
theorem q13 (a b:qb):Z0 a b=some (zu a b):=by
 unfold Z0 zu
 simp only[q0U]
theorem ZR:∀(a_School:Int) (a_Code:ByteArray) (b_School:Int) (b_Code:ByteArray),ev 55 0 [R.agg [dI a_School,dS a_Code],R.agg [dI b_School,dS b_Code]] []=some (rB (zu (qb.mk a_School a_Code) (qb.mk b_School b_Code)),[]):=
 fun a_School a_Code b_School b_Code=>by
  have h:ev 55 0 [R.agg [dI a_School,dS a_Code],R.agg [dI b_School,dS b_Code]] []=(Z0 (qb.mk a_School a_Code) (qb.mk b_School b_Code)).bind (fun(e:Bool)=>some (rB e,[])):=by
   rw[qD qsF qtS.2.2.2 qvY]
   have:=qvk;have:=@Z0.eq_1;exact gA
  rw[q13] at h
  exact h
def Qm (out:List qb) (d:qd) (c:qb) (many:Int) (k:Int):Int→Option (Int⊕Int)|at0=>if at0<((out.length:Nat):Int) then if 0≤at0∧at0<((out.length:Nat):Int) then Option.bind out[Int.toNat at0]? fun(a:qb)=>if zu a c=Bool.true then some (Sum.inl (w64 (at0+1))) else some (Sum.inr at0) else none else some (Sum.inr at0)
theorem q2H:∀(out:List qb) (d_L:List Int) (d_At c_School:Int) (c_Code:ByteArray) (many k at0:Int) (out_len:Nat),out_len=out.length→XL2 evo 77 1 8 ⟨[(0,rP 0),(3,rI many),(4,rO 1 2 out_len),(5,rI k),(6,rP 2),(7,rI at0)],[(0,B.blk 93 [dL 1 eI d_L,dI d_At]),(1,bR 50 2 qj out),(2,B.blk 50 [dI c_School,dS c_Code])],3,61⟩=(qx (Qm out (qd.mk d_L d_At) (qb.mk c_School c_Code) many k) at0).bind (fun(e:Int)=>some (Exit.exit 2,⟨[(0,rP 0),(3,rI many),(4,rO 1 2 out.length),(5,rI k),(6,rP 2),(7,rI e)],[(0,B.blk 93 [dL 1 eI d_L,dI d_At]),(1,bR 50 2 qj out),(2,B.blk 50 [dI c_School,dS c_Code])],3,61⟩)):=
 by
 intro out d_L d_At c_School c_Code many k at0 out_len h0
 subst h0
 revert at0;exact q75 qlm qlo (fun e=>by exact⟨_,rfl,fun h=>by cases h⟩) fun x=>by
  have:=qqu;have:=@qcH.eq_1;have:=@ZR;have:=@Qm.eq_1;exact gA
def zG (many:Int):(List qb×qd×Int)→Option ((List qb×qd×Int)⊕(List qb×qd))|(out,d,k)=>if k<many then Option.bind (Qn d) fun(a:Prod qb qd)=>Option.bind (qx (Qm out a.2 a.1 many k) 0) fun(a2:Int)=>if a2<((out.length:Nat):Int) then if 0≤a2∧a2<((out.length:Nat):Int) then Option.bind out[Int.toNat a2]? fun(a3:qb)=>if(a3.School==a.1.School)=Bool.true∧(ByteArray.toList a3.Code==ByteArray.toList a.1.Code)=Bool.true then some (Sum.inl (out,a.2,w64 (k+1))) else if out.length+1≤maxLen∧(out.length+1)*24≤140737488355328 then if 0≤w64 (a2+1)∧w64 (a2+1)≤((out.length+1:Nat):Int) then if w64 (a2+1)=0∨w64 (a2+1)<((out.length+1:Nat):Int) then if 0≤a2∧a2≤((out.length+1:Nat):Int) then if a2=0∨a2<((out.length+1:Nat):Int) then if(List.take (out.length+1-Int.toNat a2) (List.drop (Int.toNat a2) (out++[qb.mk 0 (ByteArray.mk (List.toArray []))]))).length*2=(out.length+1-Int.toNat a2)*2∧Int.toNat (w64 (a2+1))*2+(out.length+1-Int.toNat (w64 (a2+1)))*2≤(out.length+1)*2 then if 0≤a2∧a2<((out.length+1:Nat):Int) then if Int.toNat a2*2+2≤(out.length+1)*2 then some (Sum.inl (List.set (spl (out++[qb.mk 0 (ByteArray.mk (List.toArray []))]) (Int.toNat (w64 (a2+1))) (List.take (min (out.length+1-Int.toNat a2) (out.length+1-Int.toNat (w64 (a2+1)))) (List.take (out.length+1-Int.toNat a2) (List.drop (Int.toNat a2) (out++[qb.mk 0 (ByteArray.mk (List.toArray []))]))))) (Int.toNat a2) a.1,a.2,w64 (k+1))) else none else none else none else if Int.toNat (w64 (a2+1))*2+(out.length+1-Int.toNat (w64 (a2+1)))*2≤(out.length+1)*2 then if 0≤a2∧a2<((out.length+1:Nat):Int) then if Int.toNat a2*2+2≤(out.length+1)*2 then some (Sum.inl (List.set (out++[qb.mk 0 (ByteArray.mk (List.toArray []))]) (Int.toNat a2) a.1,a.2,w64 (k+1))) else none else none else none else none else if 0≤a2∧a2≤((out.length+1:Nat):Int) then if a2=0∨a2<((out.length+1:Nat):Int) then if(List.take (out.length+1-Int.toNat a2) (List.drop (Int.toNat a2) (out++[qb.mk 0 (ByteArray.mk (List.toArray []))]))).length*2=(out.length+1-Int.toNat a2)*2 then if 0≤a2∧a2<((out.length+1:Nat):Int) then if Int.toNat a2*2+2≤(out.length+1)*2 then some (Sum.inl (List.set (out++[qb.mk 0 (ByteArray.mk (List.toArray []))]) (Int.toNat a2) a.1,a.2,w64 (k+1))) else none else none else none else if 0≤a2∧a2<((out.length+1:Nat):Int) then if Int.toNat a2*2+2≤(out.length+1)*2 then some (Sum.inl (List.set (out++[qb.mk 0 (ByteArray.mk (List.toArray []))]) (Int.toNat a2) a.1,a.2,w64 (k+1))) else none else none else none else none else none else none else if out.length+1≤maxLen∧(out.length+1)*24≤140737488355328 then if 0≤w64 (a2+1)∧w64 (a2+1)≤((out.length+1:Nat):Int) then if w64 (a2+1)=0∨w64 (a2+1)<((out.length+1:Nat):Int) then if 0≤a2∧a2≤((out.length+1:Nat):Int) then if a2=0∨a2<((out.length+1:Nat):Int) then if(List.take (out.length+1-Int.toNat a2) (List.drop (Int.toNat a2) (out++[qb.mk 0 (ByteArray.mk (List.toArray []))]))).length*2=(out.length+1-Int.toNat a2)*2∧Int.toNat (w64 (a2+1))*2+(out.length+1-Int.toNat (w64 (a2+1)))*2≤(out.length+1)*2 then if 0≤a2∧a2<((out.length+1:Nat):Int) then if Int.toNat a2*2+2≤(out.length+1)*2 then some (Sum.inl (List.set (spl (out++[qb.mk 0 (ByteArray.mk (List.toArray []))]) (Int.toNat (w64 (a2+1))) (List.take (min (out.length+1-Int.toNat a2) (out.length+1-Int.toNat (w64 (a2+1)))) (List.take (out.length+1-Int.toNat a2) (List.drop (Int.toNat a2) (out++[qb.mk 0 (ByteArray.mk (List.toArray []))]))))) (Int.toNat a2) a.1,a.2,w64 (k+1))) else none else none else none else if Int.toNat (w64 (a2+1))*2+(out.length+1-Int.toNat (w64 (a2+1)))*2≤(out.length+1)*2 then if 0≤a2∧a2<((out.length+1:Nat):Int) then if Int.toNat a2*2+2≤(out.length+1)*2 then some (Sum.inl (List.set (out++[qb.mk 0 (ByteArray.mk (List.toArray []))]) (Int.toNat a2) a.1,a.2,w64 (k+1))) else none else none else none else none else if 0≤a2∧a2≤((out.length+1:Nat):Int) then if a2=0∨a2<((out.length+1:Nat):Int) then if(List.take (out.length+1-Int.toNat a2) (List.drop (Int.toNat a2) (out++[qb.mk 0 (ByteArray.mk (List.toArray []))]))).length*2=(out.length+1-Int.toNat a2)*2 then if 0≤a2∧a2<((out.length+1:Nat):Int) then if Int.toNat a2*2+2≤(out.length+1)*2 then some (Sum.inl (List.set (out++[qb.mk 0 (ByteArray.mk (List.toArray []))]) (Int.toNat a2) a.1,a.2,w64 (k+1))) else none else none else none else if 0≤a2∧a2<((out.length+1:Nat):Int) then if Int.toNat a2*2+2≤(out.length+1)*2 then some (Sum.inl (List.set (out++[qb.mk 0 (ByteArray.mk (List.toArray []))]) (Int.toNat a2) a.1,a.2,w64 (k+1))) else none else none else none else none else none else some (Sum.inr (out,d))
theorem q2J:∀(out:List qb) (d_L:List Int) (d_At many k:Int) (out_len:Nat),out_len=out.length→XL2 evo 77 1 4 ⟨[(0,rP 0),(3,rI many),(4,rO 1 2 out_len),(5,rI k)],[(0,B.blk 93 [dL 1 eI d_L,dI d_At]),(1,bR 50 2 qj out)],2,61⟩=(qx (zG many) (out,(qd.mk d_L d_At),k)).bind (fun(e:List qb×qd)=>some (Exit.exit 0,⟨[(4,rO 1 2 e.1.length)],[(0,B.blk 93 [dL 1 eI e.2.L,dI e.2.At]),(1,bR 50 2 qj e.1)],2,61⟩)):=
 by
 intro out d_L d_At many k out_len h0
 subst h0
 have h:=q7I (E:=evo) (f:=77) (k:=1) (st:=fun x:List qb×qd×Int=>(⟨[(0,rP 0),(3,rI many),(4,rO 1 2 x.1.length),(5,rI x.2.2)],[(0,B.blk 93 [dL 1 eI x.2.1.L,dI x.2.1.At]),(1,bR 50 2 qj x.1)],2,61⟩:S)) (ex:=fun(e:List qb×qd)=>(Exit.exit 0,⟨[(4,rO 1 2 e.1.length)],[(0,B.blk 93 [dL 1 eI e.2.L,dI e.2.At]),(1,bR 50 2 qj e.1)],2,61⟩)) (step:=(zG many)) qpC qmC (fun e h=>by cases h) (fun x=>by
  obtain⟨out,d,k⟩:=x;have:=qqu;have:=@qbl.eq_1;have:=@JG;have:=@q2H;have:=@zG.eq_1;exact gA) (out,(qd.mk d_L d_At),k)
 exact h
theorem q1c:∀  (d_L:List Int) (d_At many k:Int),XL2 evo 77 1 4 ⟨[(0,rP 0),(3,rI many),(4,rO 1 2 0),(5,rI k)],[(0,B.blk 93 [dL 1 eI d_L,dI d_At]),(1,B.row 50 2 [])],2,61⟩=(qx (zG many) ([],(qd.mk d_L d_At),k)).bind (fun(e:List qb×qd)=>some (Exit.exit 0,⟨[(4,rO 1 2 e.1.length)],[(0,B.blk 93 [dL 1 eI e.2.L,dI e.2.At]),(1,bR 50 2 qj e.1)],2,61⟩)):=by
 intro d_L d_At many k;have h:=q2J [] ((qd.mk d_L d_At)).L ((qd.mk d_L d_At)).At many k _ rfl
 first
  | exact h
  | (simp only[rL,dL,bR,bZ,Nat.reduceAdd] at h;exact h)
def zU (d:qd):Option (List qb×qd):=Option.bind (qi 3 d) fun(a:Prod Int qd)=>Option.bind (qx (zG (w64 (1+a.1))) ([],(a.2,0))) fun(a2:Prod (List qb) qd)=>some (a2.1,a2.2)
theorem q4K:∀(d_L:List Int) (d_At:Int),ev 77 1 [rP 0] [(0,B.blk 93 [dL 1 eI d_L,dI d_At])]=(zU (qd.mk d_L d_At)).bind (fun(e:List qb×qd)=>some (rL 2 qj e.1,[(0,B.blk 93 [dL 1 eI e.2.L,dI e.2.At])])):=
 fun d_L d_At=>by
  rw[qD qor qto.2.2.2 qqV]
  have:=qqu;have:=@Qp;have:=@q1c;have:=@zU.eq_1;exact gA
def zg (x:(Int×Int×qd)):List R×List (Nat×B):=([R.c (C.ptr 0 0),R.c (C.d (D.int .i64 x.1)),R.c (C.d (D.int .i64 x.2.1))],[(0,B.blk 93 [C.d (D.sl 1 x.2.2.L.length (x.2.2.L.flatMap eI)),C.d (D.int .i64 x.2.2.At)])])
def zM:(qh×qd)→R×List (Nat×B):=fun(e:qh×qd)=>(R.agg [C.d (D.int .i64 e.1.Kind),C.d (D.int .i64 e.1.N),C.d (D.int .i64 e.1.Min),C.d (D.sl 2 e.1.Set.length (e.1.Set.flatMap qj)),C.d (D.sl 5 e.1.L.length (e.1.L.flatMap qq))],[(0,B.blk 93 [C.d (D.sl 1 e.2.L.length (e.2.L.flatMap eI)),C.d (D.int .i64 e.2.At)])])
def zc (rF:(Int×Int×qd)→Option (qh×qd)) (b1_Kind:Int) (b1_N:Int) (b1_Min:Int) (b2_Kind:Int) (b2_N:Int) (b2_Min:Int) (t1:Int) (t2:Int) (t7:Int) (t8:Int):(List qh×qd×Int)→Option ((List qh×qd×Int)⊕(List qh×qd))|(w3,b0,t10)=>if t10<t8 then if t8=0 then none else Option.bind (rF (w64 (t1-1),(w64 (Int.tdiv t2 t8),b0))) fun(a2:Prod qh qd)=>if w3.length+1≤maxLen∧(w3.length+1)*72≤140737488355328 then some (Sum.inl (w3++[a2.1],a2.2,w64 (t10+1))) else none else some (Sum.inr (w3,b0))
theorem q1M (rE:Orc) (rF:(Int×Int×qd)→Option (qh×qd)) (hF:∀y,rE (.fn 56) 1 (zg y).1 (zg y).2=(rF y).bind fun e=>some (zM e)) (hM:∀g k a G,g≠56→rE (.fn g) k a G=ev g k a G) (hR:∀g asg bd k a G,rE (.rd g asg bd) k a G=evr g asg bd k a G):∀(w3:List qh) (b0_L:List Int) (b0_At b1_Kind b1_N b1_Min b2_Kind b2_N b2_Min t1 t2 t7 t8 t10:Int) (w3_len:Nat),w3_len=w3.length→XL2 rE 56 1 9 ⟨[(0,rP 0),(1,rI t1),(2,rI t2),(6,rP 1),(7,rI t7),(8,rI t8),(9,rP 2),(10,rI t10)],[(0,B.blk 93 [dL 1 eI b0_L,dI b0_At]),(1,B.blk 36 [dI b1_Kind,dI b1_N,dI b1_Min,C.nils,C.nils]),(2,B.blk 36 [dI b2_Kind,dI b2_N,dI b2_Min,C.nils,dO 3 5 w3_len]),(3,bR 36 5 qq w3)],4,77⟩=(qx (zc rF b1_Kind b1_N b1_Min b2_Kind b2_N b2_Min t1 t2 t7 t8) (w3,(qd.mk b0_L b0_At),t10)).bind (fun(e:List qh×qd)=>some (Exit.exit 0,⟨[(0,rP 0),(6,rP 1),(7,rI t7),(8,rI t8),(9,rP 2)],[(0,B.blk 93 [dL 1 eI e.2.L,dI e.2.At]),(1,B.blk 36 [dI b1_Kind,dI b1_N,dI b1_Min,C.nils,C.nils]),(2,B.blk 36 [dI b2_Kind,dI b2_N,dI b2_Min,C.nils,dO 3 5 e.1.length]),(3,bR 36 5 qq e.1)],4,77⟩)):=
 by
 intro w3 b0_L b0_At b1_Kind b1_N b1_Min b2_Kind b2_N b2_Min t1 t2 t7 t8 t10 w3_len h0
 subst h0
 have h:=q7I (E:=rE) (f:=56) (k:=1) (st:=fun x:List qh×qd×Int=>(⟨[(0,rP 0),(1,rI t1),(2,rI t2),(6,rP 1),(7,rI t7),(8,rI t8),(9,rP 2),(10,rI x.2.2)],[(0,B.blk 93 [dL 1 eI x.2.1.L,dI x.2.1.At]),(1,B.blk 36 [dI b1_Kind,dI b1_N,dI b1_Min,C.nils,C.nils]),(2,B.blk 36 [dI b2_Kind,dI b2_N,dI b2_Min,C.nils,dO 3 5 x.1.length]),(3,bR 36 5 qq x.1)],4,77⟩:S)) (ex:=fun(e:List qh×qd)=>(Exit.exit 0,⟨[(0,rP 0),(6,rP 1),(7,rI t7),(8,rI t8),(9,rP 2)],[(0,B.blk 93 [dL 1 eI e.2.L,dI e.2.At]),(1,B.blk 36 [dI b1_Kind,dI b1_N,dI b1_Min,C.nils,C.nils]),(2,B.blk 36 [dI b2_Kind,dI b2_N,dI b2_Min,C.nils,dO 3 5 e.1.length]),(3,bR 36 5 qq e.1)],4,77⟩)) (step:=(zc rF b1_Kind b1_N b1_Min b2_Kind b2_N b2_Min t1 t2 t7 t8)) qlR ql6 (fun e h=>by cases h) (fun x=>by
  obtain⟨w3,b0,t10⟩:=x;have hF':∀(x1 x2:Int) (v_L:List Int) (v_At:Int),rE (.fn 56) 1 [rP 0,rI x1,rI x2] [(0,B.blk 93 [dL 1 eI v_L,dI v_At])]=(rF (x1,x2,(qd.mk v_L v_At))).bind (fun e=>some (R.agg [dI e.1.Kind,dI e.1.N,dI e.1.Min,dL 2 qj e.1.Set,dL 5 qq e.1.L],[(0,B.blk 93 [dL 1 eI e.2.L,dI e.2.At])])):=fun x1 x2 v_L v_At=>hF (x1,x2,(qd.mk v_L v_At))
  have:=qtA;have:=@qcy.eq_1;have:=@zc.eq_1;exact gA) (w3,(qd.mk b0_L b0_At),t10)
 exact h
theorem q0h:∀(rE:Orc) (rF:(Int×Int×qd)→Option (qh×qd)) (hF:∀y,rE (.fn 56) 1 (zg y).1 (zg y).2=(rF y).bind fun e=>some (zM e)) (hM:∀g k a G,g≠56→rE (.fn g) k a G=ev g k a G) (hR:∀g asg bd k a G,rE (.rd g asg bd) k a G=evr g asg bd k a G),∀  (b0_L:List Int) (b0_At b1_Kind b1_N b1_Min b2_Kind b2_N b2_Min t1 t2 t7 t8 t10:Int),XL2 rE 56 1 9 ⟨[(0,rP 0),(1,rI t1),(2,rI t2),(6,rP 1),(7,rI t7),(8,rI t8),(9,rP 2),(10,rI t10)],[(0,B.blk 93 [dL 1 eI b0_L,dI b0_At]),(1,B.blk 36 [dI b1_Kind,dI b1_N,dI b1_Min,C.nils,C.nils]),(2,B.blk 36 [dI b2_Kind,dI b2_N,dI b2_Min,C.nils,dO 3 5 0]),(3,B.row 36 5 [])],4,77⟩=(qx (zc rF b1_Kind b1_N b1_Min b2_Kind b2_N b2_Min t1 t2 t7 t8) ([],(qd.mk b0_L b0_At),t10)).bind (fun(e:List qh×qd)=>some (Exit.exit 0,⟨[(0,rP 0),(6,rP 1),(7,rI t7),(8,rI t8),(9,rP 2)],[(0,B.blk 93 [dL 1 eI e.2.L,dI e.2.At]),(1,B.blk 36 [dI b1_Kind,dI b1_N,dI b1_Min,C.nils,C.nils]),(2,B.blk 36 [dI b2_Kind,dI b2_N,dI b2_Min,C.nils,dO 3 5 e.1.length]),(3,bR 36 5 qq e.1)],4,77⟩)):=by
 intro rE rF hF hM hR b0_L b0_At b1_Kind b1_N b1_Min b2_Kind b2_N b2_Min t1 t2 t7 t8 t10;have h:=q1M rE rF hF hM hR [] ((qd.mk b0_L b0_At)).L ((qd.mk b0_L b0_At)).At b1_Kind b1_N b1_Min b2_Kind b2_N b2_Min t1 t2 t7 t8 t10 _ rfl
 first
  | exact h
  | (simp only[rL,dL,bR,bZ,Nat.reduceAdd] at h;exact h)
def QM (rF:(Int×Int×qd)→Option (qh×qd)):(Int×Int×qd)→Option (qh×qd)|(x1,x2,v)=>Option.bind (qi 6 v) fun(a2:Prod Int qd)=>if x1≤0 then Option.bind (qi 3 a2.2) fun(a3:Prod Int qd)=>if(a3.1==0)=Bool.true then Option.bind (qi 12 a3.2) fun(a4:Prod Int qd)=>Option.bind (qi 3 a4.2) fun(a5:Prod Int qd)=>if 0≤a5.1∧a5.1<3 then Option.bind [(0:Int),50,60][Int.toNat a5.1]? fun(a6:Int)=>Option.bind (zU a5.2) fun(a7:Prod (List qb) qd)=>some (qh.mk 2 (w64 (1+a4.1)) a6 a7.1 [],a7.2) else none else Option.bind (qi 4 a3.2) fun(a8:Prod Int qd)=>if 0≤a8.1∧a8.1<4 then Option.bind [(0:Int),50,60,80][Int.toNat a8.1]? fun(a9:Int)=>Option.bind (zU a8.2) fun(a10:Prod (List qb) qd)=>some (qh.mk 1 0 a9 a10.1 [],a10.2) else none else if x2<2 then Option.bind (qi 3 a2.2) fun(a11:Prod Int qd)=>if(a11.1==0)=Bool.true then Option.bind (qi 12 a11.2) fun(a12:Prod Int qd)=>Option.bind (qi 3 a12.2) fun(a13:Prod Int qd)=>if 0≤a13.1∧a13.1<3 then Option.bind [(0:Int),50,60][Int.toNat a13.1]? fun(a14:Int)=>Option.bind (zU a13.2) fun(a15:Prod (List qb) qd)=>some (qh.mk 2 (w64 (1+a12.1)) a14 a15.1 [],a15.2) else none else Option.bind (qi 4 a11.2) fun(a16:Prod Int qd)=>if 0≤a16.1∧a16.1<4 then Option.bind [(0:Int),50,60,80][Int.toNat a16.1]? fun(a17:Int)=>Option.bind (zU a16.2) fun(a18:Prod (List qb) qd)=>some (qh.mk 1 0 a17 a18.1 [],a18.2) else none else if a2.1<2 then Option.bind (qi 3 a2.2) fun(a19:Prod Int qd)=>if(a19.1==0)=Bool.true then Option.bind (qi 12 a19.2) fun(a20:Prod Int qd)=>Option.bind (qi 3 a20.2) fun(a21:Prod Int qd)=>if 0≤a21.1∧a21.1<3 then Option.bind [(0:Int),50,60][Int.toNat a21.1]? fun(a22:Int)=>Option.bind (zU a21.2) fun(a23:Prod (List qb) qd)=>some (qh.mk 2 (w64 (1+a20.1)) a22 a23.1 [],a23.2) else none else Option.bind (qi 4 a19.2) fun(a24:Prod Int qd)=>if 0≤a24.1∧a24.1<4 then Option.bind [(0:Int),50,60,80][Int.toNat a24.1]? fun(a25:Int)=>Option.bind (zU a24.2) fun(a26:Prod (List qb) qd)=>some (qh.mk 1 0 a25 a26.1 [],a26.2) else none else Option.bind (qi (min 3 x2) a2.2) fun(a27:Prod Int qd)=>Option.bind (qx (zc rF 0 0 0 3 0 0 x1 x2 a2.1 (w64 (1+a27.1))) ([],(a27.2,0))) fun(a28:Prod (List qh) qd)=>if 3<a2.1 then Option.bind (qi (w64 (1+a27.1)) a28.2) fun(a29:Prod Int qd)=>some (qh.mk 4 (w64 (1+a29.1)) 0 [] a28.1,a29.2) else some (qh.mk 3 0 0 [] a28.1,a28.2)
theorem q0v:q6I 56 1 zg zM QM:=by
 intro rE rF hF hM hR x
 obtain⟨x1,x2,v⟩:=x
 show q6p rE 56 1 [rP 0,rI x1,rI x2] [(0,B.blk 93 [dL 1 eI v.L,dI v.At])]=_
 have hF':∀(x1 x2:Int) (v_L:List Int) (v_At:Int),rE (.fn 56) 1 [rP 0,rI x1,rI x2] [(0,B.blk 93 [dL 1 eI v_L,dI v_At])]=(rF (x1,x2,(qd.mk v_L v_At))).bind (fun e=>some (R.agg [dI e.1.Kind,dI e.1.N,dI e.1.Min,dL 2 qj e.1.Set,dL 5 qq e.1.L],[(0,B.blk 93 [dL 1 eI e.2.L,dI e.2.At])])):=fun x1 x2 v_L v_At=>hF (x1,x2,(qd.mk v_L v_At))
 rw[q5F qpJ qtz]
 have:=qtA;have:=@Qp;have:=@q4K;have:=q0h rE rF hF hM hR;have:=@QM.eq_1;have:=@zM.eq_1;exact gA
theorem ZQ:∀x y,zg x=zg y→x=y:=by
 rintro⟨a0,a1,⟨a2_0,a2_1⟩⟩ ⟨b0,b1,⟨b2_0,b2_1⟩⟩ h
 simp only[zg,Prod.mk.injEq,List.cons.injEq,R.c.injEq,R.agg.injEq,R.tup.injEq,C.d.injEq,C.own.injEq,C.ptr.injEq,C.eptr.injEq,C.clp.injEq,D.int.injEq,D.bool.injEq,D.str.injEq,D.sl.injEq,B.blk.injEq,B.row.injEq,q3h,q1L,JU,q2y,q2P,q3X,q49,q3E,q4n,q4l,q6y,q3g,true_and,and_true,qxb] at h
 simp only[h]
theorem q1G:∀x y,zM x=zM y→x=y:=by
 rintro⟨⟨a0_0,a0_1,a0_2,a0_3,a0_4⟩,⟨a1_0,a1_1⟩⟩ ⟨⟨b0_0,b0_1,b0_2,b0_3,b0_4⟩,⟨b1_0,b1_1⟩⟩ h
 simp only[zM,Prod.mk.injEq,List.cons.injEq,R.c.injEq,R.agg.injEq,R.tup.injEq,C.d.injEq,C.own.injEq,C.ptr.injEq,C.eptr.injEq,C.clp.injEq,D.int.injEq,D.bool.injEq,D.str.injEq,D.sl.injEq,B.blk.injEq,B.row.injEq,q3h,q1L,JU,q2y,q2P,q3X,q49,q3E,q4n,q4l,q6y,q3g,true_and,and_true,qxb] at h
 simp only[h]
def zC:(Int×Int×qd)→Option (qh×qd):=q4Q 56 1 zg zM
theorem q0w (x:(Int×Int×qd)):zC x=QM zC x:=qh4 qrJ.2.2.2 ZQ q1G q0v x
theorem q3a (x1 x2:Int) (v:qd):ev 56 1 [rP 0,rI x1,rI x2] [(0,B.blk 93 [dL 1 eI v.L,dI v.At])]=(zC (x1,x2,v)).bind (fun(e:qh×qd)=>some (R.agg [dI e.1.Kind,dI e.1.N,dI e.1.Min,dL 2 qj e.1.Set,dL 5 qq e.1.L],[(0,B.blk 93 [dL 1 eI e.2.L,dI e.2.At])])):=(q9A qrJ.2.2.2 ZQ q0v (x1,x2,v))
theorem q3Q:∀(x1 x2:Int) (v_L:List Int) (v_At:Int),ev 56 1 [rP 0,rI x1,rI x2] [(0,B.blk 93 [dL 1 eI v_L,dI v_At])]=(zC (x1,x2,(qd.mk v_L v_At))).bind (fun(e:qh×qd)=>some (R.agg [dI e.1.Kind,dI e.1.N,dI e.1.Min,dL 2 qj e.1.Set,dL 5 qq e.1.L],[(0,B.blk 93 [dL 1 eI e.2.L,dI e.2.At])])):=
 fun x1 x2 v_L v_At=>q3a x1 x2 (qd.mk v_L v_At)
def qK (l:List Int):Option qg:=Option.bind (qi 3 (qd.mk l 0)) fun(a:Prod Int qd)=>Option.bind (qi 3 a.2) fun(a2:Prod Int qd)=>Option.bind (qi 5 a2.2) fun(a3:Prod Int qd)=>Option.bind (qi 3 a3.2) fun(a4:Prod Int qd)=>if 0≤a4.1∧a4.1<3 then Option.bind [ByteArray.mk (List.toArray [77,117,115,105,99]),ByteArray.mk (List.toArray [76,97,119]),ByteArray.mk (List.toArray [79,108,100,32,109,97,112,115])][Int.toNat a4.1]? fun(a5:ByteArray)=>Option.bind (qi 20 a4.2) fun(a6:Prod Int qd)=>Option.bind (qi 3 a6.2) fun(a7:Prod Int qd)=>Option.bind (qi 6 a7.2) fun(a8:Prod Int qd)=>Option.bind (qi 5 a8.2) fun(a9:Prod Int qd)=>if 0≤a9.1∧a9.1<5 then Option.bind [(0:Int),0,0,2,5][Int.toNat a9.1]? fun(a10:Int)=>Option.bind (qi 3 a9.2) fun(a11:Prod Int qd)=>if(a11.1==0)=Bool.true then Option.bind (Qn a11.2) fun(a12:Prod qb qd)=>Option.bind (Qn a12.2) fun(a13:Prod qb qd)=>if zu a12.1 a13.1=Bool.true then Option.bind (zC (3,(6,a13.2))) fun(a14:Prod qh qd)=>some (qg.mk 1 (w64 (1+a.1)) (w64 (1+a2.1)) (w64 (100*a3.1)) a5 a14.1 a6.1 (w64 (a7.1*a8.1)) a10 [QT.mk a12.1 a13.1]) else Option.bind (zC (3,(6,a13.2))) fun(a15:Prod qh qd)=>some (qg.mk 1 (w64 (1+a.1)) (w64 (1+a2.1)) (w64 (100*a3.1)) a5 a15.1 a6.1 (w64 (a7.1*a8.1)) a10 []) else Option.bind (zC (3,(6,a11.2))) fun(a16:Prod qh qd)=>some (qg.mk 1 (w64 (1+a.1)) (w64 (1+a2.1)) (w64 (100*a3.1)) a5 a16.1 a6.1 (w64 (a7.1*a8.1)) a10 []) else none else none
theorem q2g:∀(l:List Int),ev 30 0 [rL 1 eI l] []=(qK l).bind (fun(e:qg)=>some (R.agg [dI e.School,dI e.Id,dI e.Version,dI e.From,dS e.Name,dI e.Need.Kind,dI e.Need.N,dI e.Need.Min,dL 2 qj e.Need.Set,dL 5 qq e.Need.L,dI e.Total,dI e.Own,dI e.Age,dL 4 (eA2 qj) e.Exclude],[])):=
 fun l=>by
  rw[qD qqD qur.2.2.2 quO]
  have:=qw2;have:=@Qp;have:=@JG;have:=@q3Q;have:=@ZR;have:=@qK.eq_1;exact gA
theorem qwg:okL 29 qd6:=qF (qf qs2) (by kernel_rfl) (by kernel_rfl)
def qwJ:=JA_ @qd6.eq_1 (JA_ @Try.f29.eq_1 @qs2)
theorem quS:okL 35 qe3:=qF (qf qr9) (by kernel_rfl) (by kernel_rfl)
def qv2:=JA_ @qe3.eq_1 (JA_ @Try.f35.eq_1 @qr9)
def ZA (a:qa):Option (Int×ByteArray×Int×Int×Int×Int×List Int×List Int):=if a.Sources.length≤maxLen∧a.Sources.length*8≤140737488355328 then if a.Path.length≤maxLen∧a.Path.length*8≤140737488355328 then some (a.Course.School,a.Course.Code,a.Credits,a.Grade,a.Day,a.Bundle,a.Sources,a.Path) else none else none
theorem q3G:∀(a_Course_School:Int) (a_Course_Code:ByteArray) (a_Credits a_Grade a_Day:Int) (a_Sources:List Int) (a_Bundle:Int) (a_Path:List Int),ev 35 0 [R.agg [dI a_Course_School,dS a_Course_Code,dI a_Credits,dI a_Grade,dI a_Day,dL 1 eI a_Sources,dI a_Bundle,dL 1 eI a_Path]] []=(ZA (qa.mk (qb.mk a_Course_School a_Course_Code) a_Credits a_Grade a_Day a_Sources a_Bundle a_Path)).bind (fun(e:Int×ByteArray×Int×Int×Int×Int×List Int×List Int)=>some (R.agg [dI e.1,dS e.2.1,dI e.2.2.1,dI e.2.2.2.1,dI e.2.2.2.2.1,dO 0 1 e.2.2.2.2.2.2.1.length,dI e.2.2.2.2.2.1,dO 1 1 e.2.2.2.2.2.2.2.length],[(0,bR 3 1 eI e.2.2.2.2.2.2.1),(1,bR 3 1 eI e.2.2.2.2.2.2.2)])):=
 fun a_Course_School a_Course_Code a_Credits a_Grade a_Day a_Sources a_Bundle a_Path=>by
  rw[qD qr9 qtW.2.2.2 quS]
  have:=qv2;have:=@ZA.eq_1;exact gA
def Qy (x0:qa) (x1:QT Int):Option qa:=Option.bind (ZA x0) fun(a:Prod Int (Prod ByteArray (Prod Int (Prod Int (Prod Int (Prod Int (Prod (List Int) (List Int))))))))=>Option.bind (zV x1.a1 40) fun(a2:Int)=>Option.bind (zV x1.a0 8) fun(a3:Int)=>if(a3==0)=Bool.true then some (qa.mk (qb.mk (Int.tmod a2 9) a.2.1) a.2.2.1 a.2.2.2.1 a.2.2.2.2.1 a.2.2.2.2.2.2.1 a.2.2.2.2.2.1 a.2.2.2.2.2.2.2) else if(a3==1)=Bool.true then if 0≤Int.tmod a2 4∧Int.tmod a2 4<4 then Option.bind [ByteArray.mk (List.toArray [65,49]),ByteArray.mk (List.toArray [66,49]),ByteArray.mk (List.toArray []),ByteArray.mk (List.toArray [65])][Int.toNat (Int.tmod a2 4)]? fun(a4:ByteArray)=>some (qa.mk (qb.mk a.1 a4) a.2.2.1 a.2.2.2.1 a.2.2.2.2.1 a.2.2.2.2.2.2.1 a.2.2.2.2.2.1 a.2.2.2.2.2.2.2) else none else if(a3==2)=Bool.true then some (qa.mk (qb.mk a.1 a.2.1) a2 a.2.2.2.1 a.2.2.2.2.1 a.2.2.2.2.2.2.1 a.2.2.2.2.2.1 a.2.2.2.2.2.2.2) else if(a3==3)=Bool.true then some (qa.mk (qb.mk a.1 a.2.1) a.2.2.1 (w64 (w64 (5*a2)-50)) a.2.2.2.2.1 a.2.2.2.2.2.2.1 a.2.2.2.2.2.1 a.2.2.2.2.2.2.2) else if(a3==4)=Bool.true then some (qa.mk (qb.mk a.1 a.2.1) a.2.2.1 a.2.2.2.1 (w64 (20*a2)) a.2.2.2.2.2.2.1 a.2.2.2.2.2.1 a.2.2.2.2.2.2.2) else if(a3==5)=Bool.true then if a.2.2.2.2.2.2.1.length+1≤maxLen∧(a.2.2.2.2.2.2.1.length+1)*8≤140737488355328 then some (qa.mk (qb.mk a.1 a.2.1) a.2.2.1 a.2.2.2.1 a.2.2.2.2.1 (a.2.2.2.2.2.2.1++[w64 (1000000+a2)]) a.2.2.2.2.2.1 a.2.2.2.2.2.2.2) else none else if(a3==6)=Bool.true then some (qa.mk (qb.mk a.1 a.2.1) a.2.2.1 a.2.2.2.1 a.2.2.2.2.1 a.2.2.2.2.2.2.1 (w64 (Int.tmod a2 5-1)) a.2.2.2.2.2.2.2) else if(a3==7)=Bool.true then if a.2.2.2.2.2.2.2.length+1≤maxLen∧(a.2.2.2.2.2.2.2.length+1)*8≤140737488355328 then some (qa.mk (qb.mk a.1 a.2.1) a.2.2.1 a.2.2.2.1 a.2.2.2.2.1 a.2.2.2.2.2.2.1 a.2.2.2.2.2.1 (a.2.2.2.2.2.2.2++[Int.tmod a2 3])) else none else some (qa.mk (qb.mk a.1 a.2.1) a.2.2.1 a.2.2.2.1 a.2.2.2.2.1 a.2.2.2.2.2.2.1 a.2.2.2.2.2.1 a.2.2.2.2.2.2.2)
theorem q4C:∀(x0_Course_School:Int) (x0_Course_Code:ByteArray) (x0_Credits x0_Grade x0_Day:Int) (x0_Sources:List Int) (x0_Bundle:Int) (x0_Path:List Int) (x1_0 x1_1:Int),ev 29 0 [R.agg [dI x0_Course_School,dS x0_Course_Code,dI x0_Credits,dI x0_Grade,dI x0_Day,dL 1 eI x0_Sources,dI x0_Bundle,dL 1 eI x0_Path],R.agg [dI x1_0,dI x1_1]] []=(Qy (qa.mk (qb.mk x0_Course_School x0_Course_Code) x0_Credits x0_Grade x0_Day x0_Sources x0_Bundle x0_Path) (QT.mk x1_0 x1_1)).bind (fun(e:qa)=>some (R.agg [dI e.Course.School,dS e.Course.Code,dI e.Credits,dI e.Grade,dI e.Day,dL 1 eI e.Sources,dI e.Bundle,dL 1 eI e.Path],[])):=
 fun x0_Course_School x0_Course_Code x0_Credits x0_Grade x0_Day x0_Sources x0_Bundle x0_Path x1_0 x1_1=>by
  rw[qD qs2 qtf.2.2.2 qwg]
  have:=qwJ;have:=@q3G;have:=@Jg;have:=@Qy.eq_1;exact gA
def zK (t0:List (List Int)):(List qa×Int)→Option ((List qa×Int)⊕(List qa))|(w0,t4)=>if t4<((t0.length:Nat):Int) then if t4<8 then if 0≤t4∧t4<((t0.length:Nat):Int) then Option.bind t0[Int.toNat t4]? fun(a:List Int)=>Option.bind (qr 6 (qd.mk a 0)) fun(a2:Prod Int qd)=>if 0≤a2.1∧a2.1<((qt.length:Nat):Int) then Option.bind qt[Int.toNat a2.1]? fun(a3:ByteArray)=>Option.bind (qr 3 a2.2) fun(a4:Prod Int qd)=>if 0≤a4.1∧a4.1<3 then Option.bind [(5:Int),6,10][Int.toNat a4.1]? fun(a5:Int)=>Option.bind (qr 11 a4.2) fun(a6:Prod Int qd)=>Option.bind (qr 60 a6.2) fun(a7:Prod Int qd)=>Option.bind (qr 9 a7.2) fun(a8:Prod Int qd)=>Option.bind (qr 3 a8.2) fun(a9:Prod Int qd)=>if(a9.1==0)=Bool.true then Option.bind (qr 3 a9.2) fun(a10:Prod Int qd)=>Option.bind (qr 4 a10.2) fun(a11:Prod Int qd)=>Option.bind (qr 3 a11.2) fun(a12:Prod Int qd)=>if(a12.1==0)=Bool.true then Option.bind (qr 3 a12.2) fun(a13:Prod Int qd)=>Option.bind (qr 3 a13.2) fun(a14:Prod Int qd)=>if w0.length+1≤maxLen∧(w0.length+1)*104≤140737488355328 then some (Sum.inl (w0++[qa.mk (qb.mk (w64 (1+a10.1)) a3) a5 (w64 (50+w64 (5*a6.1))) (w64 (10*a7.1)) [w64 (2000001+a11.1),w64 (w64 (w64 (2000001+a11.1)+1)+a13.1)] (w64 (1+a14.1)) [w64 (1+a14.1)]],w64 (t4+1))) else none else Option.bind (qr 3 a12.2) fun(a15:Prod Int qd)=>if w0.length+1≤maxLen∧(w0.length+1)*104≤140737488355328 then some (Sum.inl (w0++[qa.mk (qb.mk (w64 (1+a10.1)) a3) a5 (w64 (50+w64 (5*a6.1))) (w64 (10*a7.1)) [w64 (2000001+a11.1)] (w64 (1+a15.1)) [w64 (1+a15.1)]],w64 (t4+1))) else none else if w0.length+1≤maxLen∧(w0.length+1)*104≤140737488355328 then some (Sum.inl (w0++[qa.mk (qb.mk 1 a3) a5 (w64 (50+w64 (5*a6.1))) (w64 (10*a7.1)) [w64 (1000001+a8.1)] 0 []],w64 (t4+1))) else none else none else none else none else some (Sum.inr w0) else some (Sum.inr w0)
theorem q1Y:∀(w0:List qa) (t0:List (List Int)) (t4:Int) (w0_len:Nat),w0_len=w0.length→XL2 evo 27 0 3 ⟨[(0,rL 1 (eL 1 eI) t0),(3,rO 0 8 w0_len),(4,rI t4)],[(0,bR 52 8 qc w0)],1,89⟩=(qx (zK t0) (w0,t4)).bind (fun(e:List qa)=>some (Exit.exit 0,⟨[(3,rO 0 8 e.length)],[(0,bR 52 8 qc e)],1,89⟩)):=
 by
 intro w0 t0 t4 w0_len h0
 subst h0
 revert t4;revert w0;exact q6H qpA qmR (fun e=>by exact⟨_,rfl,fun h=>by cases h⟩) fun w0 t4=>by
  have:=qtG;have:=@qe6.eq_1;have:=@JX;have:=@q18;have:=@zK.eq_1;exact gA
theorem q0J:∀  (t0:List (List Int)) (t4:Int),XL2 evo 27 0 3 ⟨[(0,rL 1 (eL 1 eI) t0),(3,rO 0 8 0),(4,rI t4)],[(0,B.row 52 8 [])],1,89⟩=(qx (zK t0) ([],t4)).bind (fun(e:List qa)=>some (Exit.exit 0,⟨[(3,rO 0 8 e.length)],[(0,bR 52 8 qc e)],1,89⟩)):=by
 intro t0 t4;have h:=q1Y [] t0 t4 _ rfl
 first
  | exact h
  | (simp only[rL,dL,bR,bZ,Nat.reduceAdd] at h;exact h)
def Zx (x0:List (List Int)):Option (List qa):=Option.bind (qx (zK x0) ([],0)) fun(a:List qa)=>some a
theorem q3C:∀(x0:List (List Int)),ev 27 0 [rL 1 (eL 1 eI) x0] []=(Zx x0).bind (fun(e:List qa)=>some (rO 0 8 e.length,[(0,bR 52 8 qc e)])):=
 fun x0=>by
  rw[qD qpP quE.2.2.2 quH]
  have:=qtG;have:=@q0J;have:=@Zx.eq_1;exact gA
def Q1 (c:Qq):Option (List qa×qg×Int):=Option.bind (Zx c.Has) fun(a:List qa)=>if 0<((a.length:Nat):Int) then if 0<c.Odd.a0.a0 then Option.bind (zV c.Odd.a0.a2 ((a.length:Nat):Int)) fun(a2:Int)=>if 0≤a2∧a2<((a.length:Nat):Int) then Option.bind a[Int.toNat a2]? fun(a3:qa)=>Option.bind (Qy a3 (QT.mk c.Odd.a0.a0 c.Odd.a0.a1)) fun(a4:qa)=>if 0≤a2∧a2<((a.length:Nat):Int) then if Int.toNat a2*8+8≤a.length*8 then if 0<((a.length:Nat):Int) then if 0<c.Odd.a1.a0 then Option.bind (zV c.Odd.a1.a2 ((a.length:Nat):Int)) fun(a5:Int)=>if 0≤a5∧a5<((a.length:Nat):Int) then Option.bind (List.set a (Int.toNat a2) a4)[Int.toNat a5]? fun(a6:qa)=>Option.bind (Qy a6 (QT.mk c.Odd.a1.a0 c.Odd.a1.a1)) fun(a7:qa)=>if 0≤a5∧a5<((a.length:Nat):Int) then if Int.toNat a5*8+8≤a.length*8 then Option.bind (qK c.Programme) fun(a8:qg)=>some (List.set (List.set a (Int.toNat a2) a4) (Int.toNat a5) a7,a8,Int.tmod (w64 c.Day) 800) else none else none else none else Option.bind (qK c.Programme) fun(a9:qg)=>some (List.set a (Int.toNat a2) a4,a9,Int.tmod (w64 c.Day) 800) else Option.bind (qK c.Programme) fun(a10:qg)=>some (List.set a (Int.toNat a2) a4,a10,Int.tmod (w64 c.Day) 800) else none else none else none else if 0<((a.length:Nat):Int) then if 0<c.Odd.a1.a0 then Option.bind (zV c.Odd.a1.a2 ((a.length:Nat):Int)) fun(a11:Int)=>if 0≤a11∧a11<((a.length:Nat):Int) then Option.bind a[Int.toNat a11]? fun(a12:qa)=>Option.bind (Qy a12 (QT.mk c.Odd.a1.a0 c.Odd.a1.a1)) fun(a13:qa)=>if 0≤a11∧a11<((a.length:Nat):Int) then if Int.toNat a11*8+8≤a.length*8 then Option.bind (qK c.Programme) fun(a14:qg)=>some (List.set a (Int.toNat a11) a13,a14,Int.tmod (w64 c.Day) 800) else none else none else none else Option.bind (qK c.Programme) fun(a15:qg)=>some (a,a15,Int.tmod (w64 c.Day) 800) else Option.bind (qK c.Programme) fun(a16:qg)=>some (a,a16,Int.tmod (w64 c.Day) 800) else if 0<((a.length:Nat):Int) then if 0<c.Odd.a1.a0 then Option.bind (zV c.Odd.a1.a2 ((a.length:Nat):Int)) fun(a17:Int)=>if 0≤a17∧a17<((a.length:Nat):Int) then Option.bind a[Int.toNat a17]? fun(a18:qa)=>Option.bind (Qy a18 (QT.mk c.Odd.a1.a0 c.Odd.a1.a1)) fun(a19:qa)=>if 0≤a17∧a17<((a.length:Nat):Int) then if Int.toNat a17*8+8≤a.length*8 then Option.bind (qK c.Programme) fun(a20:qg)=>some (List.set a (Int.toNat a17) a19,a20,Int.tmod (w64 c.Day) 800) else none else none else none else Option.bind (qK c.Programme) fun(a21:qg)=>some (a,a21,Int.tmod (w64 c.Day) 800) else Option.bind (qK c.Programme) fun(a22:qg)=>some (a,a22,Int.tmod (w64 c.Day) 800)
theorem q1h:∀(c_Has:List (List Int)) (c_Odd_0_0 c_Odd_0_1 c_Odd_0_2 c_Odd_1_0 c_Odd_1_1 c_Odd_1_2:Int) (c_Programme:List Int) (c_Day:Int),ev 9 0 [R.agg [dL 1 (eL 1 eI) c_Has,dI c_Odd_0_0,dI c_Odd_0_1,dI c_Odd_0_2,dI c_Odd_1_0,dI c_Odd_1_1,dI c_Odd_1_2,dL 1 eI c_Programme,C.d (D.int .u16 c_Day)]] []=(Q1 (Qq.mk c_Has (QT.mk (qhA.mk c_Odd_0_0 c_Odd_0_1 c_Odd_0_2) (qhA.mk c_Odd_1_0 c_Odd_1_1 c_Odd_1_2)) c_Programme c_Day)).bind (fun(e:List qa×qg×Int)=>some (R.tup [rL 8 qc e.1,R.agg [dI e.2.1.School,dI e.2.1.Id,dI e.2.1.Version,dI e.2.1.From,dS e.2.1.Name,dI e.2.1.Need.Kind,dI e.2.1.Need.N,dI e.2.1.Need.Min,dL 2 qj e.2.1.Need.Set,dL 5 qq e.2.1.Need.L,dI e.2.1.Total,dI e.2.1.Own,dI e.2.1.Age,dL 4 (eA2 qj) e.2.1.Exclude],rI e.2.2],[])):=
 fun c_Has c_Odd_0_0 c_Odd_0_1 c_Odd_0_2 c_Odd_1_0 c_Odd_1_1 c_Odd_1_2 c_Programme c_Day=>by
  rw[qD bd9 pw9.2.2.2 lo9]
  have:=cx9;have:=@q3C;have:=@Jg;have:=@q2g;have:=@q4C;have:=@Q1.eq_1;have:=fun(E:Orc) (k:Nat) (s:S)=>q7M (E:=E) (k:=k) (s:=s) qsj qsa;have:=@qje.eq_1;have:=@q4z;have:=@q7b;have:=@qdV;have:=@q88;have:=@qdU;have:=@q8d;have:=@qdN;exact gA
end
end Go.Proofs.Ytofbcijbpfjliaa.Vc
