/- Part 4 of a proof. -/
import Derived.Test.YtofbcijbpfjliaaF3
import Derived.Shelf.SlIter.Sorted
set_option linter.unusedVariables false
set_option linter.unusedSimpArgs false
set_option linter.defProp false
set_option linter.unusedSectionVars false
set_option linter.unnecessarySimpa false
namespace Go.Proofs.Ytofbcijbpfjliaa.Vc
noncomputable section
open Go.RowKit
set_option maxRecDepth 100000
abbrev w64 (n:Int):Int:=IntKind.i64.wrap n
def Qm:Code→List Code
 | .loop c=>c::Qm c
 | .seq a b=>Qm a++Qm b
 | .cond _ a b=>Qm a++Qm b
 | .block _ c=>Qm c
 | .scope c=>Qm c
 | .rangeFunc _ _ a b=>Qm a++Qm b
 | _=>[]
def zL:Code→List (Code×Code)
 | .rangeFunc _ _ a b=>(a,b)::(zL a++zL b)
 | .loop c=>zL c
 | .seq a b=>zL a++zL b
 | .cond _ a b=>zL a++zL b
 | .block _ c=>zL c
 | .scope c=>zL c
 | _=>[]
theorem q4n:∀(c b:Code),b∈Qm c→(∀b'∈Qm b,b'∈Qm c)∧∀q∈zL b,q∈zL c:=by
 intro c
 induction c with
 | loop c ih=>
  intro b hb
  rcases qy3.1 hb with rfl|hb
  ·exact⟨fun b' h=>qxP _ h,fun q h=>h⟩
  ·exact⟨fun b' h=>qxP _ ((ih b hb).1 b' h),fun q h=>(ih b hb).2 q h⟩
 | seq a c iha ihc=>
  intro b hb
  rcases qyb.1 hb with hb|hb
  ·exact⟨fun b' h=>qxT _ ((iha b hb).1 b' h),fun q h=>qxT _ ((iha b hb).2 q h)⟩
  ·exact⟨fun b' h=>qxQ _ ((ihc b hb).1 b' h),fun q h=>qxQ _ ((ihc b hb).2 q h)⟩
 | cond x a c iha ihc=>
  intro b hb
  rcases qyb.1 hb with hb|hb
  ·exact⟨fun b' h=>qxT _ ((iha b hb).1 b' h),fun q h=>qxT _ ((iha b hb).2 q h)⟩
  ·exact⟨fun b' h=>qxQ _ ((ihc b hb).1 b' h),fun q h=>qxQ _ ((ihc b hb).2 q h)⟩
 | rangeFunc g ps a c iha ihc=>
  intro b hb
  rcases qyb.1 hb with hb|hb
  ·exact⟨fun b' h=>qxT _ ((iha b hb).1 b' h),fun q h=>qxP _ (qxT _ ((iha b hb).2 q h))⟩
  ·exact⟨fun b' h=>qxQ _ ((ihc b hb).1 b' h),fun q h=>qxP _ (qxQ _ ((ihc b hb).2 q h))⟩
 | block id c ih=>intro b hb;exact ih b hb
 | scope c ih=>intro b hb;exact ih b hb
 | _=>intro b hb;cases hb
theorem Jr:∀(c:Code) (q:Code×Code),q∈zL c→(∀b'∈Qm q.1++Qm q.2,b'∈Qm c)∧∀q'∈zL q.1++zL q.2,q'∈zL c:=by
 intro c
 induction c with
 | loop c ih=>intro q hq;exact⟨fun b' h=>qxP _ ((ih q hq).1 b' h),(ih q hq).2⟩
 | seq a c iha ihc=>
  intro q hq
  rcases qyb.1 hq with hq|hq
  ·exact⟨fun b' h=>qxT _ ((iha q hq).1 b' h),fun q' h=>qxT _ ((iha q hq).2 q' h)⟩
  ·exact⟨fun b' h=>qxQ _ ((ihc q hq).1 b' h),fun q' h=>qxQ _ ((ihc q hq).2 q' h)⟩
 | cond x a c iha ihc=>
  intro q hq
  rcases qyb.1 hq with hq|hq
  ·exact⟨fun b' h=>qxT _ ((iha q hq).1 b' h),fun q' h=>qxT _ ((iha q hq).2 q' h)⟩
  ·exact⟨fun b' h=>qxQ _ ((ihc q hq).1 b' h),fun q' h=>qxQ _ ((ihc q hq).2 q' h)⟩
 | rangeFunc g ps a c iha ihc=>
  intro q hq
  rcases qy3.1 hq with rfl|hq
  ·exact⟨fun b' h=>h,fun q' h=>qxP _ h⟩
  ·rcases qyb.1 hq with hq|hq
   ·exact⟨fun b' h=>qxT _ ((iha q hq).1 b' h),fun q' h=>qxP _ (qxT _ ((iha q hq).2 q' h))⟩
   ·exact⟨fun b' h=>qxQ _ ((ihc q hq).1 b' h),fun q' h=>qxP _ (qxQ _ ((ihc q hq).2 q' h))⟩
 | block id c ih=>intro q hq;exact ih q hq
 | scope c ih=>intro q hq;exact ih q hq
 | _=>intro q hq;cases hq
def q2q (f:Nat):Code:=((qu Try.prog pol f).map Bd.code).getD .skip
def lbO (f key:Nat):Code:=(qS key (q2q f)).getD .skip
def raO (f key:Nat):Code:=((QV key (q2q f)).getD (.skip,.skip)).1
def rbO (f key:Nat):Code:=((QV key (q2q f)).getD (.skip,.skip)).2
structure okL (f:Nat) (c:Code):Prop where
 lo:∀b∈Qm c,lbO f (qD b)=b
 ro:∀q∈zL c,raO f (qD q.2)=q.1∧rbO f (qD q.2)=q.2
theorem qB {f:Nat} {c:Code} (hc:q2q f=c) (h:(Qm c).map (fun b=>(qS (qD b) c).getD .skip)=Qm c) (h':(zL c).map (fun q=>(QV (qD q.2) c).getD (.skip,.skip))=zL c):okL f c:=by
 refine⟨fun b hb=>?_,fun q hq=>?_⟩
 ·unfold lbO
  rw[hc]
  obtain⟨i,hi,rfl⟩:=List.mem_iff_getElem.1 hb
  have h1:((Qm c).map (fun b=>(qS (qD b) c).getD .skip))[i]?=(Qm c)[i]?:=by rw[h]
  rw[qxV,qxJ hi] at h1
  simpa using h1
 ·unfold raO rbO
  rw[hc]
  obtain⟨i,hi,rfl⟩:=List.mem_iff_getElem.1 hq
  have h1:((zL c).map (fun q=>(QV (qD q.2) c).getD (.skip,.skip)))[i]?=(zL c)[i]?:=by rw[h']
  rw[qxV,qxJ hi] at h1
  simp only[Option.map_some,qyw] at h1
  rw[h1]
  exact⟨rfl,rfl⟩
def XEo (E:Orc) (f k:Nat):Code→S→XS:=XD Try.prog T pol E (D1 Try.prog T pol E f k) Lim f k
def XL2 (E:Orc) (f k key:Nat) (s:S):XS:=Lim (fun s=>(XEo E f k (lbO f key) s).bind (lpx pol f key k)) s
def XM2 (E:Orc) (f k key:Nat) (it:Operand) (s:S):XS:=mlp it (fun s=>(XEo E f k (lbO f key) s).bind (lpx pol f key k)) s
def lp3 (E:Orc) (f k key:Nat) (o:Option Operand) (r:Option S):XS:=r.bind fun s=>match o with
 | none=>XL2 E f k key s
 | some it=>XM2 E f k key it s
def cnd (r:R) (x y:XS):XS:=
 match r with
 | .c (.d (.bool b))=>if b=true then x else y
 | _=>none
def XE2 (E:Orc) (f k:Nat):Code→S→XS
 | .skip,s=>some (.normal,s)
 | .label _,s=>some (.normal,s)
 | .ret,s=>some (.ret,s)
 | .exit id,s=>some (.exit id,s)
 | .seq a b,s=>(XE2 E f k a s).bind (sqD fun s'=>XE2 E f k b s')
 | .block id c,s=>(XE2 E f k c s).bind (bkD id)
 | .scope c,s=>(XE2 E f k c s).bind scD
 | .cond c x y,s=>cnd (s.ev c) (XE2 E f k x (s.ly c tt)) (XE2 E f k y (s.ly c ff))
 | .loop c,s=>lp3 E f k (qD c) (Jk c) (nrm pol f (qD c) k s)
 | .rangeFunc g ps _ b,s=>xRF pol E f g ps.toList (raO f (qD b)) (rbO f (qD b)) ((s.dzr pol.q).frz (q4P (s.dzr pol.q) (pol.rk f (qD b))))
 | c,s=>XEo E f k c s
section
variable {E:Orc} {f k:Nat} {s:S}
theorem qrd (a b:Code):XEo E f k (.seq a b) s=(XEo E f k a s).bind (sqD fun s'=>XEo E f k b s'):=rfl
theorem qhX (i:Nat) (b:Code):XEo E f k (.block i b) s=(XEo E f k b s).bind (bkD i):=rfl
theorem qke (b:Code):XEo E f k (.scope b) s=(XEo E f k b s).bind scD:=rfl
theorem qlA (p:Operand) (a b:Code):XEo E f k (.cond p a b) s=cnd (s.ev p) (XEo E f k a (s.ly p tt)) (XEo E f k b (s.ly p ff)):=rfl
theorem qme (b:Code):XEo E f k (.loop b) s=(nrm pol f (qD b) k s).bind fun s0=>lpM Lim (Jk b) (fun s=>(XEo E f k b s).bind (lpx pol f (qD b) k)) s0:=rfl
theorem qla:XEo E f k .skip s=some (.normal,s):=rfl
theorem qiZ (l:Nat):XEo E f k (.label l) s=some (.normal,s):=rfl
theorem qqV:XEo E f k .ret s=some (.ret,s):=rfl
theorem qoM (i:Nat):XEo E f k (.exit i) s=some (.exit i,s):=rfl
theorem qkN (g:Operand) (ps:Array Tmp) (asg bd:Code):XEo E f k (.rangeFunc g ps asg bd) s=xRF pol E f g ps.toList asg bd ((s.dzr pol.q).frz (q4P (s.dzr pol.q) (pol.rk f (qD bd)))):=rfl
theorem qrl (a b:Code):XE2 E f k (.seq a b) s=(XE2 E f k a s).bind (sqD fun s'=>XE2 E f k b s'):=rfl
theorem qih (i:Nat) (b:Code):XE2 E f k (.block i b) s=(XE2 E f k b s).bind (bkD i):=rfl
theorem qi8 (b:Code):XE2 E f k (.scope b) s=(XE2 E f k b s).bind scD:=rfl
theorem qos (p:Operand) (a b:Code):XE2 E f k (.cond p a b) s=cnd (s.ev p) (XE2 E f k a (s.ly p tt)) (XE2 E f k b (s.ly p ff)):=rfl
theorem qkh (g:Operand) (ps:Array Tmp) (asg bd:Code):XE2 E f k (.rangeFunc g ps asg bd) s=xRF pol E f g ps.toList (raO f (qD bd)) (rbO f (qD bd)) ((s.dzr pol.q).frz (q4P (s.dzr pol.q) (pol.rk f (qD bd)))):=rfl
theorem qnC (b:Code):XE2 E f k (.loop b) s=lp3 E f k (qD b) (Jk b) (nrm pol f (qD b) k s):=rfl
end
theorem q75 {E:Orc} {f k:Nat}:∀(c:Code),okL f c→∀s,XEo E f k c s=XE2 E f k c s:=by
 intro c
 induction c with
 | seq a b iha ihb=>
  intro h s
  have h1:=iha ⟨fun x hx=>h.lo x (qxT _ hx),fun x hx=>h.ro x (qxT _ hx)⟩
  have h2:=ihb ⟨fun x hx=>h.lo x (qxQ _ hx),fun x hx=>h.ro x (qxQ _ hx)⟩
  rw[qrd,qrl,h1,funext h2]
 | block id c ih=>intro h s;rw[qhX,qih,ih ⟨h.lo,h.ro⟩ s]
 | scope c ih=>intro h s;rw[qke,qi8,ih ⟨h.lo,h.ro⟩ s]
 | cond x a b iha ihb=>
  intro h s
  have h1:=iha ⟨fun x hx=>h.lo x (qxT _ hx),fun x hx=>h.ro x (qxT _ hx)⟩
  have h2:=ihb ⟨fun x hx=>h.lo x (qxQ _ hx),fun x hx=>h.ro x (qxQ _ hx)⟩
  rw[qlA,qos,h1,h2]
 | loop c ih=>
  intro h s
  rw[qme,qnC]
  unfold lp3 lpM XL2 XM2
  rw[h.lo c qxW]
  cases Jk c<;>rfl
 | rangeFunc g ps a b _ _=>
  intro h s
  obtain⟨h1,h2⟩:=h.ro (a,b) qxW
  rw[qkN,qkh]
  rw[h1,h2]
 | skip=>intro _ s;rw[qla];rfl
 | label=>intro _ s;rw[qiZ];rfl
 | ret=>intro _ s;rw[qqV];rfl
 | exit=>intro _ s;rw[qoM];rfl
 | _=>intro _ s;unfold XE2;rfl
def th2 (E:Orc) (f k:Nat) (r:XS) (b:Code):XS:=r.bind (sqD fun s'=>XE2 E f k b s')
def lp2 (E:Orc) (f k key:Nat) (o:Option S):XS:=o.bind fun s=>XL2 E f k key s
def lz2 (f k key:Nat) (r:XS):XS:=r.bind (lpx pol f key k)
def ly2 (e:Exit) (o:Option S):XS:=o.bind fun s=>some (e,s)
def rs2 (E:Orc) (ops:List Oper) (o:Option S) (l:List Oper):Option S:=o.bind fun s=>xr Try.prog T pol E ops l s
def qhL (E:Orc) (ops:List Oper) (A:List (List Nat)) (s0:S) (m:Nat) (o:Option (S×Tx)) (l:List Oper) (acc:List Tx):Option S:=o.bind fun q=>xdp Try.prog T pol E ops A s0 m l q.1 (acc++[q.2])
section
variable {E:Orc} {f k key:Nat} {s:S} {b:Code} {c:Prop} [Decidable c] {x y:XS} {α β:Type} {o:Option α} {g:α→XS} {h:β→XS} {e:α⊕β}
theorem qkb:XE2 E f k .skip s=some (.normal,s):=rfl
theorem qmF:XE2 E f k .ret s=some (.ret,s):=rfl
theorem qie (i:Nat):XE2 E f k (.exit i) s=some (.exit i,s):=rfl
theorem qmA (a:Code):XE2 E f k (.seq a b) s=th2 E f k (XE2 E f k a s) b:=rfl
theorem qeU (i:Nat):XE2 E f k (.block i b) s=bkk i (XE2 E f k b s):=rfl
theorem qib (p:Operand) (a b:Code):XE2 E f k (.cond p a b) s=match s.ev p with | .c (.d (.bool t))=>if t=true then XE2 E f k a (s.ly p tt) else XE2 E f k b (s.ly p ff)|_=>none:=rfl
theorem qco (i:Nat) (ops:Array Oper):XE2 E f k (.region i ops false) s=rgn (xr Try.prog T pol E ops.toList ops.toList s):=rfl
theorem qkT (i:Nat) (ops:Array Oper):XE2 E f k (.region i ops true) s=rgn (D1 Try.prog T pol E f k i ops.toList (((s.uwD pol ops.toList).dzr pol.q).frk (pol.rk f i))):=rfl
theorem qg5 (g:Operand) (ps:Array Tmp) (asg bd:Code):XE2 E f k (.rangeFunc g ps asg bd) s=xRF pol E f g ps.toList (raO f (qD bd)) (rbO f (qD bd)) ((s.dzr pol.q).frz (q4P (s.dzr pol.q) (pol.rk f (qD bd)))):=rfl
theorem qkS:XE2 E f k (.loop b) s=lp3 E f k (qD b) (Jk b) (nrm pol f (qD b) k s):=rfl
theorem qeV (r:Option S):lp3 E f k key none r=lp2 E f k key r:=rfl
theorem qaH:th2 E f k (some (.normal,s)) b=XE2 E f k b s:=rfl
theorem qjT:th2 E f k (some (.ret,s)) b=some (.ret,s):=rfl
theorem qg2 (i:Nat):th2 E f k (some (.exit i,s)) b=some (.exit i,s):=rfl
theorem qfq:th2 E f k none b=none:=rfl
theorem qk0:th2 E f k (if c then x else y) b=if c then th2 E f k x b else th2 E f k y b:=Zj _ _ _
theorem qf2:th2 E f k (o.bind g) b=o.bind fun a=>th2 E f k (g a) b:=by cases o<;>rfl
theorem qkp:th2 E f k (Sum.elim g h e) b=Sum.elim (fun a=>th2 E f k (g a) b) (fun a=>th2 E f k (h a) b) e:=by cases e<;>rfl
theorem qfW:lp2 E f k key (some s)=XL2 E f k key s:=rfl
theorem qaT:lz2 f k key (some (.normal,s))=ly2 .normal (nrm pol f key k s):=rfl
theorem qji:lz2 f k key (some (.ret,s))=ly2 .ret (qhA k (pol.kx f key) (s.fnB pol (pol.ab f))):=rfl
theorem qg7 (i:Nat):lz2 f k key (some (.exit i,s))=ly2 (.exit i) (qhA k (pol.kx f key) (s.fnB pol (pol.ab f))):=rfl
theorem qgZ:lz2 f k key none=none:=rfl
theorem qjL:lz2 f k key (if c then x else y)=if c then lz2 f k key x else lz2 f k key y:=Zj _ _ _
theorem qh1:lz2 f k key (o.bind g)=o.bind fun a=>lz2 f k key (g a):=by cases o<;>rfl
theorem qjP:lz2 f k key (Sum.elim g h e)=Sum.elim (fun a=>lz2 f k key (g a)) (fun a=>lz2 f k key (h a)) e:=by cases e<;>rfl
theorem qfc (x:Exit):ly2 x (some s)=some (x,s):=rfl
theorem qjK (i:Nat):bkk i (Sum.elim g h e)=Sum.elim (fun a=>bkk i (g a)) (fun a=>bkk i (h a)) e:=by cases e<;>rfl
theorem qis (res:List ResultVar) (rt:List TypeId):fnn f k res rt (Sum.elim g h e)=Sum.elim (fun a=>fnn f k res rt (g a)) (fun a=>fnn f k res rt (h a)) e:=by cases e<;>rfl
end
section
variable {E:Orc} {α β γ:Type} {e:α⊕β}
theorem qg9 {δ:Type} (g:α→Option γ) (h:β→Option γ) (F:γ→Option δ):(Sum.elim g h e).bind F=Sum.elim (fun a=>(g a).bind F) (fun a=>(h a).bind F) e:=by cases e<;>rfl
theorem qkB (g:α→RS) (h:β→RS) (d:Option Nat):wst (Sum.elim g h e) d=Sum.elim (fun a=>wst (g a) d) (fun a=>wst (h a) d) e:=by cases e<;>rfl
theorem qiB (g:α→Option S) (h:β→Option S):rgn (Sum.elim g h e)=Sum.elim (fun a=>rgn (g a)) (fun a=>rgn (h a)) e:=by cases e<;>rfl
theorem qkU {s:S} (g:α→Option (R×List (Nat×B))) (h:β→Option (R×List (Nat×B))) (bl rw ln:List Nat):cll (Sum.elim g h e) s bl rw ln=Sum.elim (fun a=>cll (g a) s bl rw ln) (fun a=>cll (h a) s bl rw ln) e:=by cases e<;>rfl
end
section
variable {E:Orc} {s:S} {o:Oper} {c:Prop} [Decidable c] {α β:Type} {v:Option α} {e:α⊕β} {ops l:List Oper} {A:List (List Nat)} {s0:S} {m:Nat} {acc:List Tx}
theorem qwx:xst Try.prog T pol E o true s=wst (xo Try.prog T pol E (pre pol s o.op) o.op) o.dst:=rfl
theorem qvq:xst Try.prog T pol E o false s=if q3W s o.dst=true then some (s.put o.dst (.tup [])) else none:=rfl
theorem qr5:xsF Try.prog T pol E o true s=alX E s o (alC pol s o.op) (wsF (xo Try.prog T pol E s o.op) s o):=rfl
theorem qtv:xsF Try.prog T pol E o false s=if q3W s o.dst=true then some (s.put o.dst (.tup []),(.tup [],[]),⟨[],[],[],[],[]⟩) else none:=rfl
theorem qr6:xr Try.prog T pol E ops [] s=some s:=rfl
theorem qpg:xr Try.prog T pol E ops (o::l) s=rs2 E ops (xgd Try.prog T pol E ops o s) l:=rfl
theorem qlW:rs2 E ops (some s) l=xr Try.prog T pol E ops l s:=rfl
theorem qp4:rs2 E ops none l=none:=rfl
theorem qt9 (x y:Option S):rs2 E ops (if c then x else y) l=if c then rs2 E ops x l else rs2 E ops y l:=Zj _ _ _
theorem qov (g:α→Option S):rs2 E ops (v.bind g) l=v.bind fun a=>rs2 E ops (g a) l:=by cases v<;>rfl
theorem qrO (g:α→Option S) (h:β→Option S):rs2 E ops (Sum.elim g h e) l=Sum.elim (fun a=>rs2 E ops (g a) l) (fun a=>rs2 E ops (h a) l) e:=by cases e<;>rfl
theorem qoV:xdp Try.prog T pol E ops A s0 0 l s acc=if okP A 0 [] acc=true∧okX ops A s0 acc 0 acc=true∧okK ops A acc=true∧okN acc 0 acc=true then xr Try.prog T pol E ops l s else none:=by cases l<;>rfl
theorem qog:xdp Try.prog T pol E ops A s0 (m+1) (o::l) s acc=qhL E ops A s0 m (xgF Try.prog T pol E ops o s) l acc:=rfl
theorem qj4 (x:Tx):qhL E ops A s0 m (some (s,x)) l acc=xdp Try.prog T pol E ops A s0 m l s (acc++[x]):=rfl
theorem qiK:qhL E ops A s0 m none l acc=none:=rfl
theorem qm5 (x y:Option (S×Tx)):qhL E ops A s0 m (if c then x else y) l acc=if c then qhL E ops A s0 m x l acc else qhL E ops A s0 m y l acc:=Zj _ _ _
theorem qkm (g:α→Option (S×Tx)):qhL E ops A s0 m (v.bind g) l acc=v.bind fun a=>qhL E ops A s0 m (g a) l acc:=by cases v<;>rfl
theorem qpD (g:FuncId) (zs:List (List Nat)) (rs:List R) (bl rw ln:List Nat):Zv E s g zs rs bl rw ln=(qba s (bl++rw) ln zs rs).bind fun rs'=>(cvG s (bl++rw) (bl++rw) 0).bind fun G=>
  if(bl++rw).all (fun i=>(s.blk i).live)=true∧(bl++rw).Nodup∧ln.all (fun i=>(s.blk i).live && !(bl++rw).contains i)=true∧bl.length≤G.length∧(List.range G.length).all (fun j=>(lk G j .dead).isBlk==decide (j<bl.length))=true then cll (E (.fn g) bl.length rs' G) s bl rw ln else none:=rfl
theorem qjI (rid:Nat) (f:FuncId) (asg bd:Code) (rs:List R) (bl rw ln:List Nat):q1O E s rid f asg bd rs bl rw ln=(cvG s (bl++rw) (bl++rw) 0).bind fun G=>
  if(bl++rw).all (fun i=>(s.blk i).live)=true∧(bl++rw).Nodup∧ln.all (fun i=>(s.blk i).live && !(bl++rw).contains i)=true∧bl.length≤G.length∧(List.range G.length).all (fun j=>(lk G j .dead).isBlk==decide (j<bl.length))=true∧0<bl.length∧(bl++rw)[bl.length-1]?=some rid then
   cll (E (.rd f asg bd) bl.length (rs.map (cvT s (bl++rw) ln)) G) s bl rw ln else none:=rfl
theorem qxq (f:Nat) (asg bd:Code) (g:Operand) (ps:List Nat):xRF pol E f g ps asg bd s=match s.ev g with
 | .c (.fn g' fs caps)=>rfk s.n (q4K E (s.rf f (q8l s (pol.rk f (qD bd))) ps asg bd) g' (pol.ow g') [] (fs.map R.c++[.c (.hd .yield s.nx)]++caps.map R.c))
 | _=>none:=rfl
end
theorem qnM (g k:Nat) (a:List R) (G:List (Nat×B)):evo (.fn g) k a G=ev g k a G:=rfl
def q7y (E:Orc) (f k:Nat) (args:List R) (G:List (Nat×B)):Option (R×List (Nat×B)):=(qu Try.prog pol f).bind fun bd=>q2H Try.prog T pol (D1 Try.prog T pol) E Lim f k args G bd
theorem qi {f n:Nat} {c:Code} {res:List ResultVar} {rt:List TypeId} (hb:qu Try.prog pol f=some ⟨c,n,res,rt⟩):q2q f=c:=by unfold q2q;rw[hb];rfl
theorem q6s {E:Orc} {f n:Nat} {c:Code} {res:List ResultVar} {rt:List TypeId} (hb:qu Try.prog pol f=some ⟨c,n,res,rt⟩) (hl:okL f c) (k:Nat) (args:List R) (G:List (Nat×B)) :
  q7y E f k args G=if args.length≤n then fnn f k res rt (XE2 E f k c ⟨q0j args 0,G,G.length,n⟩) else none:=by
 unfold q7y
 rw[hb,qxH]
 unfold q2H
 split
 ·show Option.bind (XEo E f k c _) _=_
  rw[q75 c hl]
  rfl
 ·rfl
theorem qdv {f k:Nat} (hp:pol.pr f=none) (args:List R) (G:List (Nat×B)):ev f k args G=q7y evo f k args G:=by rw[qgy,hp];rfl
theorem qy {f n:Nat} {c:Code} {res:List ResultVar} {rt:List TypeId} (hb:qu Try.prog pol f=some ⟨c,n,res,rt⟩) (hp:pol.pr f=none) (hl:okL f c) (k:Nat) (args:List R) (G:List (Nat×B)) :
  ev f k args G=if args.length≤n then fnn f k res rt (XE2 evo f k c ⟨q0j args 0,G,G.length,n⟩) else none:=by
 rw[qdv hp,q6s hb hl]
section
variable {σ ε:Type}
def itT (step:σ→Option (σ⊕ε)):Nat→σ→Option ε
 | 0,_=>none
 | n+1,x=>(step x).bind (Sum.elim (itT step n) some)
theorem q5S {step:σ→Option (σ⊕ε)}:∀{n m:Nat},n≤m→∀x r,itT step n x=some r→itT step m x=some r
 | 0,_,_,x,r,h=>by cases h
 | n+1,0,h,_,_,_=>by omega
 | n+1,m+1,h,x,r,hx=>by
  unfold itT at hx ⊢
  obtain⟨a,h1,h2⟩:=qxM.1 hx
  rw[h1,qxH]
  cases a with
  | inl y=>exact q5S (by omega) y r h2
  | inr e=>exact h2
def qz (step:σ→Option (σ⊕ε)) (x:σ):Option ε:=open Classical in if h:∃r n,itT step n x=some r then some (Classical.choose h) else none
theorem q5P {step:σ→Option (σ⊕ε)} {n:Nat} {x:σ} {r:ε} (h:itT step n x=some r):qz step x=some r:=by
 have hex:∃r n,itT step n x=some r:=⟨r,n,h⟩
 unfold qz
 rw[dif_pos hex]
 obtain⟨m,hm⟩:=Classical.choose_spec hex
 have h1:=q5S (Nat.le_max_left n m) _ _ h
 have h2:=q5S (Nat.le_max_right n m) _ _ hm
 rw[h1] at h2
 injection h2 with h2
 rw[←h2]
theorem q4S {step:σ→Option (σ⊕ε)} {x:σ} {r:ε} (h:qz step x=some r):∃n,itT step n x=some r:=by
 unfold qz at h
 split at h
 ·rename_i hex
  injection h with h
  obtain⟨m,hm⟩:=Classical.choose_spec hex
  exact⟨m,h ▸ hm⟩
 ·cases h
theorem qbk (step:σ→Option (σ⊕ε)) (x:σ):qz step x=(step x).bind (Sum.elim (qz step) some):=by
 refine q4L (fun r h=>?_) (fun r h=>?_)
 ·obtain⟨n,hn⟩:=q4S h
  cases n with
  | zero=>cases hn
  | succ n=>
   unfold itT at hn
   obtain⟨a,h1,h2⟩:=qxM.1 hn
   rw[h1,qxH]
   cases a with
   | inl y=>exact q5P h2
   | inr e=>exact h2
 ·obtain⟨a,h1,h2⟩:=qxM.1 h
  cases a with
  | inl y=>
   obtain⟨n,hn⟩:=q4S h2
   refine q5P (n:=n+1) ?_
   unfold itT
   rw[h1];exact hn
  | inr e=>
   refine q5P (n:=1) ?_
   unfold itT
   rw[h1];exact h2
end
theorem qin {F:S→XS} {σ ε:Type} {st:σ→S} {ex:ε→Exit×S} {step:σ→Option (σ⊕ε)} (hne:∀e,(ex e).1 ≠ .normal)
  (h:∀x,F (st x)=(step x).bind (Sum.elim (fun y=>some (.normal,st y)) (fun e=>some (ex e)))) (x:σ):Lim F (st x)=(qz step x).bind fun e=>some (ex e):=by
 have hit:∀(n:Nat) (x:σ),iter n F (st x)=(itT step n x).bind fun e=>some (ex e):=by
  intro n
  induction n with
  | zero=>intro x;rfl
  | succ n ih=>
   intro x
   unfold iter itT
   rw[h x]
   cases step x with
   | none=>rfl
   | some a=>
    cases a with
    | inl y=>exact ih y
    | inr e=>
     show sqD (iter n F) (ex e)=some (ex e)
     have:=hne e
     generalize ex e=q at this
     obtain⟨z,t⟩:=q
     cases z<;>first|exact absurd rfl this|rfl
 refine q4L (fun r hr=>?_) (fun r hr=>?_)
 ·obtain⟨n,hn⟩:=q3P hr
  rw[hit n x] at hn
  obtain⟨e,h1,h2⟩:=qxM.1 hn
  rw[q5P h1];exact h2
 ·obtain⟨e,h1,h2⟩:=qxM.1 hr
  obtain⟨n,hn⟩:=q4S h1
  refine q7J (n:=n) ?_
  rw[hit n x,hn];exact h2
theorem q8F {E:Orc} {f k key:Nat} {c:Code} {σ ε:Type} {st:σ→S} {ex:ε→Exit×S} {step:σ→Option (σ⊕ε)} (hc:lbO f key=c) (hl:okL f c) (hne:∀e,(ex e).1 ≠ .normal)
  (h:∀x,lz2 f k key (XE2 E f k c (st x))=(step x).bind (Sum.elim (fun y=>some (.normal,st y)) (fun e=>some (ex e)))) (x:σ):XL2 E f k key (st x)=(qz step x).bind fun e=>some (ex e):=by
 refine qin hne (fun x=>?_) x
 rw[hc,q75 c hl]
 exact h x
def xk (E:Orc) (f k key:Nat) (r:XS):XS:=r.bind fun p=>match p.1 with | .normal=>XL2 E f k key p.2|e=>some (e,p.2)
section
variable {E:Orc} {f k key:Nat} {s:S} {c:Prop} [Decidable c] {α β:Type} {o:Option α} {g:α→XS} {h:β→XS} {e:α⊕β}
theorem q21:xk E f k key (some (.normal,s))=XL2 E f k key s:=rfl
theorem q6q (i:Nat):xk E f k key (some (.exit i,s))=some (.exit i,s):=rfl
theorem q9a:xk E f k key (some (.ret,s))=some (.ret,s):=rfl
theorem q68:xk E f k key none=none:=rfl
theorem q8Z (x y:XS):xk E f k key (if c then x else y)=if c then xk E f k key x else xk E f k key y:=Zj _ _ _
theorem q6g:xk E f k key (o.bind g)=o.bind fun a=>xk E f k key (g a):=by cases o<;>rfl
theorem q9O:xk E f k key (Sum.elim g h e)=Sum.elim (fun a=>xk E f k key (g a)) (fun a=>xk E f k key (h a)) e:=by cases e<;>rfl
end
theorem q6d {E:Orc} {f k key:Nat} {c:Code} {s:S} (hc:lbO f key=c) (hl:okL f c):XL2 E f k key s=xk E f k key (lz2 f k key (XE2 E f k c s)):=by
 unfold XL2
 rw[qms,hc,q75 c hl]
 show(lz2 f k key (XE2 E f k c s)).bind _=_
 unfold xk
 congr 1
 funext p
 obtain⟨e,t⟩:=p
 cases e<;>first|rfl|(show Lim _ t=Lim _ t;rw[hc])
theorem ZG {α:Type} {c:Prop} [Decidable c] (x y:α):(if c then some x else some y)=some (if c then x else y):=by split<;>rfl
theorem zE {f key:Nat} {c b:Code} (hc:q2q f=c) (h:(qS key c).getD .skip=b):lbO f key=b:=by unfold lbO;rw[hc];exact h
theorem qT {f:Nat} {c b:Code} (hl:okL f c) (hb:b∈Qm c):okL f b:=⟨fun x hx=>hl.lo x ((q4n c b hb).1 x hx),fun q hq=>hl.ro q ((q4n c b hb).2 q hq)⟩
theorem qlH {f key:Nat} {c:Code} {q:Code×Code} (hl:okL f c) (hq:q∈zL c):okL f q.1∧okL f q.2:=
 ⟨⟨fun x hx=>hl.lo x ((Jr c q hq).1 x (qxT _ hx)),fun x hx=>hl.ro x ((Jr c q hq).2 x (qxT _ hx))⟩,
   ⟨fun x hx=>hl.lo x ((Jr c q hq).1 x (qxQ _ hx)),fun x hx=>hl.ro x ((Jr c q hq).2 x (qxQ _ hx))⟩⟩
def rn2 (f k key:Nat) (o:Option B) (s:S):Option (R×List (Nat×B)):=o.bind fun b=>rd3 k (XE2 evo f k (rbO f key) (s.up [(k-1,b)]))
def rn1 (f k key:Nat) (r:XS):Option (R×List (Nat×B)):=r.bind fun p=>match p.1 with | .normal=>rn2 f k key (rdB (p.2.blk (k-1))) p.2|_=>none
section
variable {f k key:Nat} {s:S} {c:Prop} [Decidable c] {α β:Type} {o:Option α} {g:α→XS} {h:β→XS} {e:α⊕β}
theorem qaR:rn1 f k key (some (.normal,s))=rn2 f k key (rdB (s.blk (k-1))) s:=rfl
theorem qgc (b:B):rn2 f k key (some b) s=rd3 k (XE2 evo f k (rbO f key) (s.up [(k-1,b)])):=rfl
end
theorem qju {f key k:Nat} {asg bd:Code} (ha:raO f key=asg) (hb:rbO f key=bd) (hk:0<k) (hc:q1X (drq pol f) false asg=true∧q1X (drq pol f) false bd=true) (la:okL f asg) (lb:okL f bd) (tm:List R) (G:List (Nat×B)) :
  evr f (raO f key) (rbO f key) k tm G=rn1 f k key (XE2 evo f k (raO f key) ⟨q0j tm 0,G,G.length,tm.length⟩):=by
 rw[qnc ha hb hk hc tm G,ha]
 have e1:∀s,XE f k asg s=XE2 evo f k asg s:=fun s=>q75 asg la s
 have e2:∀s,XE f k bd s=XE2 evo f k bd s:=fun s=>q75 bd lb s
 rw[e1]
 unfold rd1 rn1
 congr 1
 funext p
 obtain⟨x,t⟩:=p
 cases x<;>first
  | rfl
  | (show rd2 f k bd t (rdB (t.blk (k-1)))=rn2 f k key (rdB (t.blk (k-1))) t
     unfold rd2 rn2
     rw[hb]
     congr 1
     funext b
     rw[e2])
theorem qmR {f key:Nat} {c b:Code} (hc:q2q f=c) (h:((QV key c).getD (.skip,.skip)).1=b):raO f key=b:=by unfold raO;rw[hc];exact h
theorem qoi {f key:Nat} {c b:Code} (hc:q2q f=c) (h:((QV key c).getD (.skip,.skip)).2=b):rbO f key=b:=by unfold rbO;rw[hc];exact h
section
variable {σ ε:Type} (f k:Nat) (enc:σ→List R×List (Nat×B)) (ex:ε→R×List (Nat×B))
def ovr (F:σ→Option ε):Orc:=fun g k' args G=>open Classical in if h:(g = .fn f∧k'=k)∧∃y,enc y=(args,G) then(F (Classical.choose h.2)).bind fun e=>some (ex e) else evo g k' args G
def q5j (y:σ):Option ε:=open Classical in if h:∃e,ev f k (enc y).1 (enc y).2=some (ex e) then some (Classical.choose h) else none
variable {f k enc ex}
theorem qkM (hi:∀y z,enc y=enc z→y=z) (F:σ→Option ε) (y:σ):ovr f k enc ex F (.fn f) k (enc y).1 (enc y).2=(F y).bind fun e=>some (ex e):=by
 have h:((Fx.fn f=Fx.fn f)∧k=k)∧∃z,enc z=((enc y).1,(enc y).2):=⟨⟨rfl,rfl⟩,y,rfl⟩
 unfold ovr
 rw[dif_pos h]
 rw[hi _ _ ((Classical.choose_spec h.2).trans rfl)]
theorem qfv (F:σ→Option ε) (g k':Nat) (a:List R) (G:List (Nat×B)) (h:g≠f):ovr f k enc ex F (.fn g) k' a G=ev g k' a G:=by
 unfold ovr
 rw[dif_neg (fun h'=>h (by injection h'.1.1))]
 rfl
theorem qon (F:σ→Option ε) (g:Nat) (asg bd:Code) (k':Nat) (a:List R) (G:List (Nat×B)):ovr f k enc ex F (.rd g asg bd) k' a G=evr g asg bd k' a G:=by
 unfold ovr
 rw[dif_neg (fun h'=>by cases h'.1.1)]
 rfl
def q7E (f k:Nat) (enc:σ→List R×List (Nat×B)) (ex:ε→R×List (Nat×B)) (step:(σ→Option ε)→σ→Option ε):Prop:=
 ∀(E:Orc) (F:σ→Option ε),(∀y,E (.fn f) k (enc y).1 (enc y).2=(F y).bind fun e=>some (ex e))→(∀g k' a G,g≠f→E (.fn g) k' a G=ev g k' a G)→(∀g asg bd k' a G,E (.rd g asg bd) k' a G=evr g asg bd k' a G)→
  ∀y,q7y E f k (enc y).1 (enc y).2=(step F y).bind fun e=>some (ex e)
theorem qaJ {E E':Orc} (h:OLe E E') (L:(S→XS)→S→XS) (hL:LLe L Lim) {f k:Nat} {args:List R} {G:List (Nat×B)} {bd:Bd} {x:R×List (Nat×B)} (hb:qu Try.prog pol f=some bd) (hx:q2H Try.prog T pol (D1 Try.prog T pol) E L f k args G bd=some x):q7y E' f k args G=some x:=by
 unfold q7y
 rw[hb,qxH]
 exact q5z q4x h hL hx
theorem qix (hp:pol.pr f=none) (hi:∀y z,enc y=enc z→y=z) {step:(σ→Option ε)→σ→Option ε} (hs:q7E f k enc ex step) :
  ∀(n:Nat) (y:σ) (z:R×List (Nat×B)),xf Try.prog T pol (D1 Try.prog T pol) n (.fn f) k (enc y).1 (enc y).2=some z→∃e,z=ex e:=by
 intro n
 induction n with
 | zero=>intro y z h;cases h
 | succ n ih=>
  intro y z h
  obtain⟨F,hF⟩:∃F:σ→Option ε,∀y z,xf Try.prog T pol (D1 Try.prog T pol) n (.fn f) k (enc y).1 (enc y).2=some z→(F y).bind (fun e=>some (ex e))=some z:=by
   refine⟨fun y=>open Classical in if h:∃e,xf Try.prog T pol (D1 Try.prog T pol) n (.fn f) k (enc y).1 (enc y).2=some (ex e) then some (Classical.choose h) else none,fun y z hz=>?_⟩
   obtain⟨e,rfl⟩:=ih y z hz
   have hex:∃e,xf Try.prog T pol (D1 Try.prog T pol) n (.fn f) k (enc y).1 (enc y).2=some (ex e):=⟨e,hz⟩
   simp only[dif_pos hex,qxH]
   rw[←Classical.choose_spec hex,hz]
  have hle:OLe (xf Try.prog T pol (D1 Try.prog T pol) n) (ovr f k enc ex F):=by
   intro g k' args G x hx
   unfold ovr
   split
   ·rename_i hh
    obtain⟨⟨rfl,rfl⟩,hy⟩:=hh
    have e1:=Classical.choose_spec hy
    refine hF _ _ ?_
    rw[e1];exact hx
   ·exact qaW q4x _ _ _ _ _ hx
  have h2:∃bd,qu Try.prog pol f=some bd∧q2H Try.prog T pol (D1 Try.prog T pol) (xf Try.prog T pol (D1 Try.prog T pol) n) (iter n) f k (enc y).1 (enc y).2 bd=some z:=by
   have h3:fnx Try.prog T pol (D1 Try.prog T pol) (xf Try.prog T pol (D1 Try.prog T pol) n) (iter n) f k (enc y).1 (enc y).2=some z:=h
   unfold fnx at h3
   rw[hp] at h3
   exact qxM.1 h3
  obtain⟨bd,hb,hx⟩:=h2
  have h4:=qaJ hle (iter n) (q7Z n) hb hx
  rw[hs _ F (qkM hi F) (qfv F) (qon F) y] at h4
  obtain⟨e,-,h5⟩:=qxM.1 h4
  injection h5 with h5
  exact⟨e,h5.symm⟩
theorem q9x (hp:pol.pr f=none) (hi:∀y z,enc y=enc z→y=z) {step:(σ→Option ε)→σ→Option ε} (hs:q7E f k enc ex step) (y:σ):ev f k (enc y).1 (enc y).2=(q5j f k enc ex y).bind fun e=>some (ex e):=by
 unfold q5j
 split
 ·rename_i h
  rw[qxH]
  exact Classical.choose_spec h
 ·rename_i h
  cases hv:ev f k (enc y).1 (enc y).2 with
  | none=>rfl
  | some z=>
   obtain⟨n,hn⟩:=q2T (show EE Try.prog T pol (D1 Try.prog T pol) (.fn f) k (enc y).1 (enc y).2=some z from hv)
   obtain⟨e,rfl⟩:=qix hp hi hs n y z hn
   exact absurd ⟨e,hv⟩ h
theorem qhl (hp:pol.pr f=none) (hi:∀y z,enc y=enc z→y=z) (hj:∀d e,ex d=ex e→d=e) {step:(σ→Option ε)→σ→Option ε} (hs:q7E f k enc ex step) (y:σ):q5j f k enc ex y=step (q5j f k enc ex) y:=by
 have h1:=hs evo (q5j f k enc ex) (q9x hp hi hs) (fun _ _ _ _ _=>rfl) (fun _ _ _ _ _ _=>rfl) y
 rw[←qdv hp,q9x hp hi hs y] at h1
 cases h2:q5j f k enc ex y with
 | none=>
  rw[h2] at h1
  cases h3:step (q5j f k enc ex) y with
  | none=>rfl
  | some e=>rw[h3] at h1;cases h1
 | some d=>
  rw[h2] at h1
  cases h3:step (q5j f k enc ex) y with
  | none=>rw[h3] at h1;cases h1
  | some e=>
   rw[h3] at h1
   injection h1 with h1
   rw[hj _ _ h1]
end
end
noncomputable section
open Go.RowKit
section
variable {α:Type} {E:α→List D} {n:Nat}
theorem q5R (h:∀x,(E x).length=n):∀(v:List α) (a:Nat),(v.flatMap E).drop (a*n)=(v.drop a).flatMap E
 | [],a=>by simp
 | x::v,0=>by simp
 | x::v,a+1=>by
  rw[qyL,show(a+1)*n=(E x).length+a*n by rw[h,Nat.add_mul];omega,List.drop_length_add_append]
  exact q5R h v a
theorem q65 (h:∀x,(E x).length=n):∀(v:List α) (a:Nat),(v.flatMap E).take (a*n)=(v.take a).flatMap E
 | [],a=>by simp
 | x::v,0=>by simp
 | x::v,a+1=>by
  rw[qyL,show(a+1)*n=(E x).length+a*n by rw[h,Nat.add_mul];omega,List.take_length_add_append,List.take_succ_cons,qyL,q65 h v a]
theorem qnF (v w:List α):v.flatMap E++w.flatMap E=(v++w).flatMap E:=List.flatMap_append.symm
theorem qk1 (v w:List α):(v.flatMap E).map C.d++(w.flatMap E).map C.d=((v++w).flatMap E).map C.d:=by rw[←List.map_append,qnF]
theorem q4c (v:List α) (x:α):(v.flatMap E).map C.d++(E x).map C.d=((v++[x]).flatMap E).map C.d:=by simp
theorem qcO {β:Type}:∀(ys p q:List β) (o:Nat),o+ys.length≤p.length→spl (p++q) o ys=spl p o ys++q
 | [],p,q,o,_=>rfl
 | y::ys,p,q,o,h=>by
  rw[qxS] at h
  rw[spl,spl,List.set_append_left _ _ (by omega),qcO ys _ q (o+1) (by rw[qys];omega)]
theorem q8Y {β:Type}:∀(ys p q:List β) (o:Nat),spl (p++q) (p.length+o) ys=p++spl q o ys
 | [],p,q,o=>rfl
 | y::ys,p,q,o=>by
  rw[spl,spl,List.set_append_right _ _ (by omega),show p.length+o-p.length=o by omega,show p.length+o+1=p.length+(o+1) by omega,q8Y ys]
theorem q9e {β:Type}:∀(ys p pre:List β),p.length=ys.length→spl (pre++p) pre.length ys=pre++ys
 | [],p,pre,h=>by rw[qy0 h];rfl
 | y::ys,[],pre,h=>by cases h
 | y::ys,x::p,pre,h=>by
  have e:(pre++x::p).set pre.length y=(pre++[y])++p:=by rw[List.set_append_right _ _ (qxX _),Nat.sub_self];simp
  rw[spl,e,show pre.length+1=(pre++[y]).length by simp,q9e ys p _ (by simpa using h)]
  simp
theorem qbb {β:Type}:∀(ys:List β) (o:Nat),spl [] o ys=[]
 | [],o=>rfl
 | y::ys,o=>by rw[spl,List.set_nil,qbb ys]
theorem qd4 (h:∀x,(E x).length=n):∀(v:List α) (i:Nat) (x:α),spl (v.flatMap E) (i*n) (E x)=(v.set i x).flatMap E
 | [],i,x=>by rw[List.flatMap_nil,qbb];rfl
 | y::v,0,x=>by
  rw[qyL,Nat.zero_mul,qcO _ _ _ _ (by rw[h,h];omega)]
  have:=q9e (E x) (E y) [] (by rw[h,h])
  simp only[qy1,qyq] at this
  rw[this];rfl
 | y::v,i+1,x=>by
  rw[qyL,show(i+1)*n=(E y).length+i*n by rw[h,Nat.add_mul];omega,q8Y,qd4 h v i x]
  rfl
theorem q63 {β γ:Type} (f:β→γ):∀(ys cs:List β) (o:Nat),spl (cs.map f) o (ys.map f)=(spl cs o ys).map f
 | [],cs,o=>rfl
 | y::ys,cs,o=>by rw[qy4,spl,spl,←List.map_set,q63 f ys]
theorem q7U (h:∀x,(E x).length=n) (v:List α) (i:Nat) (x:α):spl ((v.flatMap E).map C.d) (i*n) ((E x).map C.d)=((v.set i x).flatMap E).map C.d:=by rw[q63,qd4 h]
theorem qbq {β:Type}:∀(ys zs cs:List β) (o:Nat),spl cs o (ys++zs)=spl (spl cs o ys) (o+ys.length) zs
 | [],zs,cs,o=>rfl
 | y::ys,zs,cs,o=>by rw[qyM,spl,spl,qbq ys,qxS,show o+1+ys.length=o+(ys.length+1) by omega]
theorem qcm (h:∀x,(E x).length=n):∀(w v:List α) (i:Nat),spl (v.flatMap E) (i*n) (w.flatMap E)=(spl v i w).flatMap E
 | [],v,i=>rfl
 | x::w,v,i=>by rw[qyL,qbq,qd4 h,h,spl,show i*n+n=(i+1)*n by rw[Nat.add_mul];omega,qcm h w]
theorem qna (m:Nat) (x:α):(List.replicate m (E x)).flatten=(List.replicate m x).flatMap E:=by
 rw[List.flatMap_def,List.map_replicate]
theorem qkI {cs:List C} (x:α) (hx:cs=(E x).map C.d) (m:Nat):(List.replicate m cs).flatten=((List.replicate m x).flatMap E).map C.d:=by
 subst hx
 rw[←qna,List.map_flatten,List.map_replicate]
end
theorem QY {α:Type} {E:α→List D} {n:Nat} (h:∀x,(E x).length=n) (hn:0<n) (hi:∀x y,E x=E y→x=y):∀(v w:List α),v.flatMap E=w.flatMap E→v=w
 | [],[],_=>rfl
 | [],y::w,e=>by
  have:=congrArg List.length e
  rw[qyL,qxO,h] at this
  simp at this;omega
 | x::v,[],e=>by
  have:=congrArg List.length e
  rw[qyL,qxO,h] at this
  simp at this;omega
 | x::v,y::w,e=>by
  rw[qyL,qyL] at e
  obtain⟨h1,h2⟩:=List.append_inj e (by rw[h,h])
  rw[hi x y h1,QY h hn hi v w h2]
theorem q3L (a b:List D):(a.map C.d=b.map C.d)=(a=b):=by
 refine propext ⟨fun h=>?_,fun h=>by rw[h]⟩
 induction a generalizing b with
 | nil=>cases b with|nil=>rfl|cons=>cases h
 | cons x a ih=>
  cases b with
  | nil=>cases h
  | cons y b=>
   rw[qy4,qy4] at h
   injection h with h1 h2
   injection h1 with h1
   rw[h1,ih b h2]
def eI (x:Int):List D:=[.int .i64 x]
def eS (x:ByteArray):List D:=[.str x]
def eL {α:Type} (n:Nat) (E:α→List D) (v:List α):List D:=[.sl n v.length (v.flatMap E)]
theorem qbH {α β γ:Type} (f:β→γ) (o:Option α) (g:α→Option β):(o.bind g).map f=o.bind fun x=>(g x).map f:=by cases o<;>rfl
theorem qid (P:Program) (T:Ty) (d:Nat) (t:TypeId) (x y:R):eqR P T (d+1) t x y =
  match T.k t,x,y with
  | .int _,.c (.d (.int k a)),.c (.d (.int k' b))=>if k=k' then some (a==b) else none
  | .bool,.c (.d (.bool a)),.c (.d (.bool b))=>some (a==b)
  | .str,.c (.d (.str a)),.c (.d (.str b))=>some (a.toList==b.toList)
  | .st fs,.agg xs,.agg ys=>if q7D P t=true then qcZ T (eqR P T d) xs ys fs else none
  | .arr n e,.agg xs,.agg ys=>if qi1 P t=true∧T.k e ≠ .other then qcZ T (eqR P T d) xs ys (qbz (T.sz e) e n 0) else none
  | _,_,_=>none:=by
 generalize hk:T.k t=kd
 unfold eqR
 rw[hk]
 cases kd<;>first
  | rfl
  | (rcases x with (c|_|_|_)<;>first
    | rfl
    | (rcases y with (c' | _|_|_)<;>first
      | rfl
      | (cases c<;>first
        | rfl
        | (cases c'<;>first
          | rfl
          | (rename_i d1 d2;cases d1<;>first
            | rfl
            | (cases d2<;>rfl))))))
section
variable {α β:Type} {c:Prop} [Decidable c] (a b:List α)
theorem qiJ (f:α→Bool):(if c then a else b).any f=if c then a.any f else b.any f:=by split<;>rfl
theorem qkE (f:α→Bool):(if c then a else b).all f=if c then a.all f else b.all f:=by split<;>rfl
theorem qjc (f:α→β):(if c then a else b).map f=if c then a.map f else b.map f:=by split<;>rfl
theorem q8b:(if c then a else b).isEmpty=if c then a.isEmpty else b.isEmpty:=by split<;>rfl
theorem q7B [BEq α] (x:α):(if c then a else b).contains x=if c then a.contains x else b.contains x:=by split<;>rfl
end
def qpT (op:UnOp) (r:R) (s:S):RS:=
 match op,r with
 | .not,.c (.d (.bool b))=>some (.c (.d (.bool (!b))),s)
 | .neg,.c (.d (.int k n))=>some (.c (.d (.int k (k.wrap (0-n)))),s)
 | _,_=>none
theorem qlN (s:S) (op:UnOp) (x:Operand):xUn s op x=qpT op (s.ev x) s:=by
 unfold xUn qpT
 generalize s.ev x=r
 cases op<;>first
  | rfl
  | (cases r with
     | c c=>cases c with
      | d d=>cases d<;>rfl
      | _=>rfl
     | _=>rfl)
def lkq (ok:Bool) (z:R):Option (Nat×R×Nat)→Option R
 | some q=>some (tt2 q.2.1 ok true)
 | none=>some (tt2 z ok false)
theorem qat (T:Ty) (s:S) (t:TypeId) (x y:Operand) (ok:Bool):q0d T s t x y ok =
  match T.k t,q2y s x,(s.ev y).key with
  | .mp k e,some es,some kv=>if plK (T.k k) kv=true∧es.all (fun q=>plK (T.k k) q.1)=true then(zR T e).bind fun z=>lkq ok z (fnd kv es 0) else none
  | _,_,_=>none:=by
 unfold q0d
 generalize T.k t=kd
 generalize q2y s x=m
 generalize (s.ev y).key=v
 cases kd<;>first
  | rfl
  | (cases m<;>first
    | rfl
    | (cases v<;>first
      | rfl
      | (simp only
         split
         ·congr 1
          funext z
          cases fnd _ _ _<;>rfl
         ·rfl)))
theorem qbE (xs ys:List C):(xs++ys).flatMap C.rows=xs.flatMap C.rows++ys.flatMap C.rows:=List.flatMap_append
theorem qd3 (zs0:List Nat):∀(zs:List Nat) (ds:List D) (ys:List C),zs.length=ds.length→dzc zs0 zs (ds.map C.d++ys)=ds.map C.d++dzc zs0 [] ys
 | [],[],ys,_=>rfl
 | [],d::ds,ys,h=>by cases h
 | z::zs,[],ys,h=>by cases h
 | z::zs,d::ds,ys,h=>by
  rw[qy4,qyM,dzc,qd3 zs0 zs ds ys (by simpa using h)]
  rfl
theorem qhx {α:Type} {E:α→List D} {n:Nat} (h:∀x,(E x).length=n+1) (zs0:List Nat) (h0:zs0.length=n+1):∀(v:List α) (ys:List C),dzc zs0 [] ((v.flatMap E).map C.d++ys)=(v.flatMap E).map C.d++dzc zs0 [] ys
 | [],ys=>rfl
 | x::v,ys=>by
  have hx:=h x
  rw[qyL,List.map_append,qym,qym,←qhx h zs0 h0 v ys]
  cases hE:E x with
  | nil=>rw[hE] at hx;cases hx
  | cons d ds=>
   rw[hE] at hx
   rw[qy4,qyM,dzc,qd3 zs0 zs0.tail ds _ (by rw[List.length_tail];simp at hx;omega)]
   rfl
def qqr {α:Type} (a b:Option α):Prop:=∀r,a=some r→b=some r
theorem qqr.bind {α β:Type} {a b:Option α} {f g:α→Option β} (h:qqr a b) (hf:∀x,qqr (f x) (g x)):qqr (a.bind f) (b.bind g):=fun r hr=>by
 obtain⟨x,h1,h2⟩:=qxM.1 hr
 rw[h x h1]
 exact hf x r h2
def spr (cs:List C) (o:Nat) (ys:List C):List C:=spl cs o ys
theorem qdS (t:TypeId) (cs ys:List C) (o:Nat):(B.blk t cs).set o ys = .blk t (spl cs o ys):=rfl
theorem qdm (e:TypeId) (sz:Nat) (cs ys:List C) (o:Nat):(B.row e sz cs).set o ys = .row e sz (spr cs o ys):=rfl
theorem qfM (c:C) (cs ys:List C) (o:Nat):spr (c::cs) o ys=spl (c::cs) o ys:=rfl
def xsl (T:Ty) (s:S) (t:TypeId) (x:R) (lo hi:Option Operand):RS:=
 match x,T.k t with
 | .c (.d (.str b)),.str=>
  match s.bd lo 0,s.bd hi b.size with
  | some l,some h=>if 0≤l∧l≤h∧h≤b.size then some (.c (.d (.str (b.extract l.toNat h.toNat))),s) else none
  | _,_=>none
 | .c (.d (.sl sz n cs)),.sl e=>
  if T.k e ≠ .other∧T.sz e=sz then
   match s.bd lo 0,s.bd hi n with
   | some l,some h=>if 0≤l∧l≤h∧h≤n then some (.c (.d (.sl sz (h.toNat-l.toNat) ((cs.drop (l.toNat*sz)).take ((h.toNat-l.toNat)*sz)))),s) else none
   | _,_=>none
  else none
 | .c (.own id sz off n),.sl e=>
  if T.k e ≠ .other∧T.sz e=sz then
   match s.bd lo 0,s.bd hi n with
   | some l,some h=>if 0≤l∧l≤h∧h≤n then(if l=0∨l<n then some (.c (.own id sz (off+l.toNat) (h.toNat-l.toNat)),s) else some (.c (.d (.sl sz 0 [])),s)) else none
   | _,_=>none
  else none
 | .c .nils,.sl e=>
  if T.k e ≠ .other then
   match s.bd lo 0,s.bd hi 0 with
   | some l,some h=>if l=0∧h=0 then some (.c .nils,s) else none
   | _,_=>none
  else none
 | _,_=>none
theorem qc4 (T:Ty) (s:S) (t:TypeId) (x:Operand) (lo hi:Option Operand):q7K T s t x lo hi none=xsl T s t (s.ev x) lo hi:=by
 unfold q7K xsl
 generalize s.ev x=r
 generalize T.k t=kd
 cases r with
 | c c=>
  cases c with
  | d d=>cases d<;>cases kd<;>rfl
  | _=>cases kd<;>rfl
 | _=>rfl
theorem qlQ (b:Bool):((if(!b)=true then true else false)||b)=true:=by cases b<;>rfl
def xcl (T:Ty) (s:S) (hi mx:Option Operand):Kd→R→RS
 | .sl e,.c (.d (.sl sz n cs))=>if T.k e ≠ .other∧T.sz e=sz then(match s.bd hi 0,s.bd mx 0 with|some h,some m=>if h=(n:Int)∧m=(n:Int) then some (.c (.clp sz n cs),s) else none|_,_=>none) else none
 | .sl e,.c .nils=>if T.k e ≠ .other then(match s.bd hi 0,s.bd mx 0 with|some h,some m=>if h=0∧m=0 then some (.c (.clp (T.sz e) 0 []),s) else none|_,_=>none) else none
 | _,_=>none
theorem qp6 (T:Ty) (s:S) (hi mx:Option Operand) (e:TypeId) (sz n:Nat) (cs:List D):xcl T s hi mx (.sl e) (.c (.d (.sl sz n cs)))=if T.k e ≠ .other∧T.sz e=sz then(match s.bd hi 0,s.bd mx 0 with|some h,some m=>if h=(n:Int)∧m=(n:Int) then some (.c (.clp sz n cs),s) else none|_,_=>none) else none:=rfl
theorem qeS (T:Ty) (s:S) (t:TypeId) (x y:Operand) (mx:Option Operand):qbV T s t x none (some y) mx=xcl T s (some y) mx (T.k t) (s.ev x):=by
 unfold qbV
 generalize s.ev x=r
 generalize T.k t=kd
 cases kd with
 | sl e=>
  cases r with
  | c c=>
   cases c with
   | d d=>
    cases d with
    | sl sz n cs=>
     simp only[xcl,Option.isSome_some,true_and]
     cases s.bd (some y) 0 with
     | none=>simp
     | some h=>cases s.bd mx 0 with
      | none=>simp
      | some m=>simp only[qyw];split<;>rename_i hc<;>simp_all
    | _=>rfl
   | nils=>
    simp only[xcl,Option.isSome_some,true_and]
    cases s.bd (some y) 0 with
    | none=>simp
    | some h=>cases s.bd mx 0 with
     | none=>simp
     | some m=>simp only[qyw];split<;>rename_i hc<;>simp_all
   | _=>rfl
  | _=>rfl
 | _=>rfl
section
variable {T:Ty} {s:S} {t:TypeId} {lo hi:Option Operand}
theorem qiM {id sz off n:Nat}:xsl T s t (.c (.own id sz off n)) none hi =
  match T.k t with
  | .sl e=>if T.k e ≠ .other∧T.sz e=sz then
   match s.bd hi n with
   | some h=>if 0≤h∧h≤n then some (.c (.own id sz off (min h.toNat n)),s) else none
   | _=>none
   else none
  | _=>none:=by
 unfold xsl
 cases T.k t<;>try rfl
 dsimp only[S.bd]
 split
 ·split
  ·rename_i l h h1 h2
   injection h1 with h1
   subst h1
   rw[h2]
   dsimp only
   by_cases hc:0≤h∧h≤n
   ·rw[if_pos ⟨Int.le_refl _,hc⟩,if_pos (.inl rfl),if_pos hc,show min h.toNat n=h.toNat by omega]
    rfl
   ·rw[if_neg (fun q=>hc q.2),if_neg hc]
  ·rename_i h1
   split
   ·rename_i h h2
    exact absurd h2 (h1 0 h rfl)
   ·rfl
 ·rfl
theorem qiV {id sz off n:Nat} {lo:Operand}:xsl T s t (.c (.own id sz off n)) (some lo) hi =
  match T.k t with
  | .sl e=>if T.k e ≠ .other∧T.sz e=sz then
   match s.bd (some lo) 0,s.bd hi n with
   | some l,some h=>if 0≤l∧l≤h∧h≤n then(if l=0∨l<n then some (.c (.own id sz (off+l.toNat) (h.toNat-l.toNat)),s) else some (.c (.d (.sl sz 0 [])),s)) else none
   | _,_=>none
   else none
  | _=>none:=by unfold xsl;cases T.k t<;>rfl
end
def qpU {α:Type} (s:S) (E:α→List D) (n:Nat) (v:List α) (l h:Option Int):RS:=
 match l,h with
 | some l,some h=>if 0≤l∧l≤h∧h≤v.length then some (.c (.d (.sl n ((v.drop l.toNat).take (h.toNat-l.toNat)).length (((v.drop l.toNat).take (h.toNat-l.toNat)).flatMap E))),s) else none
 | _,_=>none
theorem qoU {α:Type} {E:α→List D} {n:Nat} (h:∀x,(E x).length=n) {T:Ty} {s:S} {t e:TypeId} (v:List α) (lo hi:Option Operand) (hk:T.k t = .sl e) (hz:T.sz e=n) (ho:T.k e ≠ .other) :
  xsl T s t (.c (.d (.sl n v.length (v.flatMap E)))) lo hi=qpU s E n v (s.bd lo 0) (s.bd hi v.length):=by
 unfold xsl
 simp only[hk]
 rw[if_pos ⟨ho,hz⟩]
 unfold qpU
 cases s.bd lo 0 with
 | none=>rfl
 | some l=>
  cases s.bd hi v.length with
  | none=>rfl
  | some h'=>
   simp only
   split
   ·rename_i hc
    rw[q5R h,q65 h,qya,qyt,Nat.min_eq_left (by omega)]
   ·rfl
abbrev dI (n:Int):C:=C.d (D.int .i64 n)
abbrev dS (s:ByteArray):C:=C.d (D.str s)
abbrev dL {α:Type} (n:Nat) (E:α→List D) (v:List α):C:=C.d (D.sl n v.length (v.flatMap E))
abbrev dO (i sz n:Nat):C:=C.own i sz 0 n
abbrev dP (i:Nat):C:=C.ptr i 0
abbrev rI (n:Int):R:=R.c (C.d (D.int .i64 n))
abbrev rS (s:ByteArray):R:=R.c (C.d (D.str s))
abbrev rB (b:Bool):R:=R.c (C.d (D.bool b))
abbrev rL {α:Type} (n:Nat) (E:α→List D) (v:List α):R:=R.c (C.d (D.sl n v.length (v.flatMap E)))
abbrev rO (i sz n:Nat):R:=R.c (C.own i sz 0 n)
abbrev rP (i:Nat):R:=R.c (C.ptr i 0)
abbrev bR {α:Type} (e sz:Nat) (E:α→List D) (v:List α):B:=B.row e sz ((v.flatMap E).map C.d)
theorem XLs {E:Orc} {f k key:Nat} {c:Code} {σ ε:Type} {st:σ→S} {ex:ε→XS} {step:σ→Option (σ⊕ε)} (hc:lbO f key=c) (hl:okL f c) (hne:∀e,∃p,ex e=some p∧p.1 ≠ .normal)
  (h:∀x,lz2 f k key (XE2 E f k c (st x))=(step x).bind (Sum.elim (fun y=>some (.normal,st y)) ex)) (x:σ):XL2 E f k key (st x)=(qz step x).bind ex:=by
 obtain⟨g,hg⟩:∃g:ε→Exit×S,∀e,ex e=some (g e)∧(g e).1 ≠ .normal:=⟨fun e=>Classical.choose (hne e),fun e=>Classical.choose_spec (hne e)⟩
 obtain rfl:ex=fun e=>some (g e):=funext fun e=>(hg e).1
 exact q8F (ex:=g) hc hl (fun e=>(hg e).2) h x
theorem q5l {E:Orc} {f k key:Nat} {c:Code} {A1 ε:Type} {st:A1→S} {ex:ε→XS} {step:A1→Option ((A1)⊕ε)} (hc:lbO f key=c) (hl:okL f c) (hne:∀e,∃p,ex e=some p∧p.1 ≠ .normal)
  (h:∀a1,lz2 f k key (XE2 E f k c (st a1))=(step a1).bind (Sum.elim (fun y=>some (.normal,st y)) ex)) (a1:A1):XL2 E f k key (st a1)=(qz step a1).bind ex:=
 XLs (st:=fun y=>st y) hc hl hne (fun a1=>h a1) a1
theorem qa0 {E:Orc} {f k key:Nat} {c:Code} {A1 A2 ε:Type} {st:A1→A2→S} {ex:ε→XS} {step:(A1×A2)→Option ((A1×A2)⊕ε)} (hc:lbO f key=c) (hl:okL f c) (hne:∀e,∃p,ex e=some p∧p.1 ≠ .normal)
  (h:∀a1 a2,lz2 f k key (XE2 E f k c (st a1 a2))=(step (a1,a2)).bind (Sum.elim (fun y=>some (.normal,st y.1 y.2)) ex)) (a1:A1) (a2:A2):XL2 E f k key (st a1 a2)=(qz step (a1,a2)).bind ex:=
 XLs (st:=fun y=>st y.1 y.2) hc hl hne (fun⟨a1,a2⟩=>h a1 a2) (a1,a2)
theorem qtt {E:Orc} {f k key:Nat} {c:Code} {A1 A2 A3 ε:Type} {st:A1→A2→A3→S} {ex:ε→XS} {step:(A1×A2×A3)→Option ((A1×A2×A3)⊕ε)} (hc:lbO f key=c) (hl:okL f c) (hne:∀e,∃p,ex e=some p∧p.1 ≠ .normal)
  (h:∀a1 a2 a3,lz2 f k key (XE2 E f k c (st a1 a2 a3))=(step (a1,a2,a3)).bind (Sum.elim (fun y=>some (.normal,st y.1 y.2.1 y.2.2)) ex)) (a1:A1) (a2:A2) (a3:A3):XL2 E f k key (st a1 a2 a3)=(qz step (a1,a2,a3)).bind ex:=
 XLs (st:=fun y=>st y.1 y.2.1 y.2.2) hc hl hne (fun⟨a1,a2,a3⟩=>h a1 a2 a3) (a1,a2,a3)
abbrev aY4:List R:=[R.any,R.any,R.any,R.any]
abbrev aY8:List R:=R.any::R.any::R.any::R.any::aY4
abbrev q7M:List R:=R.any::R.any::R.any::R.any::aY8
def dzU (Q:TypeId→List Nat):B→B
 | .row e sz cs => .row e sz (dzc (Q e) [] cs)
 | b=>b
theorem qlg (z:Nat) {c:C} (h:c.isNils=false):dz z c=c:=by
 cases c<;>first|rfl|cases h
theorem q6Q (zs0:List Nat):∀{cs:List C} (zs:List Nat),cs.any C.isNils=false→dzc zs0 zs cs=cs
 | [],zs,_=>by cases zs<;>rfl
 | c::cs,zs,h=>by
  rw[List.any_cons,Bool.or_eq_false_iff] at h
  cases zs with
  | nil=>rw[dzc,qlg _ h.1,q6Q zs0 _ h.2]
  | cons z zs=>rw[dzc,qlg _ h.1,q6Q zs0 _ h.2]
theorem qqJ (Q:TypeId→List Nat) (b:B):dzB Q b=dzU Q b:=by
 cases b with
 | row e sz cs=>
  unfold dzB dzU
  simp only
  split
  ·rfl
  ·rename_i h
   rw[q6Q _ _ (by simpa using h)]
 | _=>rfl
theorem qp2 (Q:TypeId→List Nat) (b:B) (h:b.nilr=false):dzU Q b=b:=by
 cases b with
 | row e sz cs=>unfold dzU;simp only;rw[q6Q _ _ h]
 | _=>rfl
theorem qnu (tm:List (Nat×R)) (hp:List (Nat×B)) (nx n:Nat) (Q:TypeId→List Nat):S.dzr (S.mk tm hp nx n) Q=S.mk tm (hp.map fun x=>(x.1,dzU Q x.2)) nx n:=by
 unfold S.dzr
 split
 ·simp only[qqJ]
 ·rename_i h
  congr 1
  have h2:∀x∈hp,x.2.nilr=false:=fun x hx=>by
   cases hb:x.2.nilr with
   | false=>rfl
   | true=>exact absurd (qyB.2 ⟨x,hx,hb⟩) h
  refine(List.map_id' hp).symm.trans (List.map_congr_left fun x hx=>?_)
  rw[qp2 Q x.2 (h2 x hx)]
theorem qio (Q:TypeId→List Nat) (e sz:Nat) (cs:List C):dzU Q (.row e sz cs) = .row e sz (dzc (Q e) [] cs):=rfl
theorem qj8 (Q:TypeId→List Nat) (t:Nat) (cs:List C):dzU Q (.blk t cs) = .blk t cs:=rfl
theorem qoj (Q:TypeId→List Nat) (o:AO):dzU Q (.ob o) = .ob o:=rfl
theorem qge (Q:TypeId→List Nat):dzU Q .dead = .dead:=rfl
theorem qia {α:Type} (x:α):Option.toArray (some x)=[x].toArray:=rfl
theorem qjr {α:Type}:Option.toArray (none:Option α)=([]:List α).toArray:=rfl
theorem qmW {α:Type} (l m:List α):l.toArray++m.toArray=(l++m).toArray:=by simp
theorem qkc {α:Type} (l:List α):Array.toList l.toArray=l:=rfl
end
noncomputable section
open Go.RowKit
set_option maxRecDepth 20000
def mpE {κ ν:Type} (kE:κ→Value) (vE:ν→R):List (κ×ν)→Nat→List (Value×R×Nat)
 | [],_=>[]
 | p::M,i=>(kE p.1,vE p.2,i)::mpE kE vE M (i+1)
def mpB {κ ν:Type} (kE:κ→Value) (vE:ν→R) (M:List (κ×ν)):AO := .mp (mpE kE vE M 0) M.length
def JJ (k:IntKind) (n:Int):Value := .int k n
section
variable {κ ν:Type} [DecidableEq κ]
def qb9 (M:List (κ×ν)) (k:κ):Nat:=match M with
 | []=>0
 | p::M=>if k=p.1 then 0 else qb9 M k+1
def Zi (z:ν) (M:List (κ×ν)) (k:κ):ν:=match M with
 | []=>z
 | p::M=>if k=p.1 then p.2 else Zi z M k
def qb7 (M:List (κ×ν)) (k:κ):Bool:=match M with
 | []=>false
 | p::M=>if k=p.1 then true else qb7 M k
def q3m (M:List (κ×ν)) (k:κ) (v:ν):List (κ×ν):=match M with
 | []=>[(k,v)]
 | p::M=>if k=p.1 then(k,v)::M else p::q3m M k v
end
section
variable {κ ν:Type} {kE:κ→Value} {vE:ν→R}
theorem qcy:∀(M:List (κ×ν)) (i:Nat),(mpE kE vE M i).length=M.length
 | [],_=>rfl
 | p::M,i=>by rw[mpE,qxS,qcy M,qxS]
theorem q8e {f:Value×R×Nat→Bool} (hf:∀k r i,f (kE k,r,i)=true):∀(M:List (κ×ν)) (i:Nat),(mpE kE vE M i).all f=true
 | [],_=>rfl
 | p::M,i=>by rw[mpE,List.all_cons,hf,q8e hf M];rfl
theorem q2o {f:R→R} (hf:∀v,f (vE v)=vE v) (M:List (κ×ν)):AO.mapR f (mpB kE vE M)=mpB kE vE M:=by
 have:∀(M:List (κ×ν)) (i:Nat),(mpE kE vE M i).map (fun e=>(e.1,f e.2.1,e.2.2))=mpE kE vE M i:=by
  intro M
  induction M with
  | nil=>intro i;rfl
  | cons p M ih=>intro i;rw[mpE,qy4,ih,hf]
 unfold mpB
 show AO.mp _ _=_
 rw[this]
theorem qeI {f:R→Bool} (hf:∀v,f (vE v)=true) (M:List (κ×ν)):(mpB kE vE M).Rs.all f=true:=by
 have:∀(M:List (κ×ν)) (i:Nat),((mpE kE vE M i).map (·.2.1)).all f=true:=by
  intro M
  induction M with
  | nil=>intro i;rfl
  | cons p M ih=>intro i;rw[mpE,qy4,List.all_cons,ih,hf];rfl
 exact this M 0
theorem qgQ {f:R→List Nat} (hf:∀v,f (vE v)=[]) (M:List (κ×ν)):(mpB kE vE M).Rs.flatMap f=[]:=by
 have:∀(M:List (κ×ν)) (i:Nat),((mpE kE vE M i).map (·.2.1)).flatMap f=[]:=by
  intro M
  induction M with
  | nil=>intro i;rfl
  | cons p M ih=>intro i;rw[mpE,qy4,qyL,ih,hf];rfl
 exact this M 0
variable [DecidableEq κ] (hk:∀a b,kq (kE a) (kE b)=decide (a=b))
include hk
theorem qdU (k:κ):∀(M:List (κ×ν)) (i:Nat) (z:ν),fnd (kE k) (mpE kE vE M i) i=if qb7 M k=true then some (i+qb9 M k,vE (Zi z M k),i+qb9 M k) else none
 | [],i,z=>rfl
 | p::M,i,z=>by
  rw[mpE,fnd]
  simp only[hk,qb7,qb9,Zi,qyG]
  by_cases h:k=p.1
  ·simp[h]
  ·simp only[if_neg h]
   rw[qdU k M (i+1) z]
   split
   ·rw[show i+1+qb9 M k=i+(qb9 M k+1) by omega]
   ·rfl
theorem qss (z:ν) (ok:Bool) (k:κ) (M:List (κ×ν)):lkq ok (vE z) (fnd (kE k) (mpE kE vE M 0) 0)=some (tt2 (vE (Zi z M k)) ok (qb7 M k)):=by
 rw[qdU hk k M 0 z]
 cases hm:qb7 M k
 ·have:Zi z M k=z:=by
   clear hk
   induction M with
   | nil=>rfl
   | cons p M ih=>
    rw[qb7] at hm
    rw[Zi]
    split
    ·rename_i h;rw[if_pos h] at hm;cases hm
    ·rename_i h;rw[if_neg h] at hm;exact ih hm
  rw[this];rfl
 ·rfl
end
section
variable {κ ν:Type} {kE:κ→Value} {vE:ν→R} [DecidableEq κ]
theorem q9m (k:κ) (v:ν):∀(M:List (κ×ν)) (i:Nat),qb7 M k=true→(mpE kE vE M i).set (qb9 M k) (kE k,vE v,i+qb9 M k)=mpE kE vE (q3m M k v) i∧(q3m M k v).length=M.length
 | [],_,h=>by cases h
 | p::M,i,h=>by
  rw[qb7] at h
  by_cases hp:k=p.1
  ·simp only[mpE,qb9,q3m,if_pos hp]
   exact⟨rfl,rfl⟩
  ·rw[if_neg hp] at h
   obtain⟨a,b⟩:=q9m k v M (i+1) h
   simp only[mpE,qb9,q3m,if_neg hp,qxS,List.set_cons_succ]
   rw[show i+(qb9 M k+1)=i+1+qb9 M k by omega,a,b]
   exact⟨rfl,rfl⟩
theorem q8V (k:κ) (v:ν):∀(M:List (κ×ν)) (i:Nat),qb7 M k=false→mpE kE vE M i++[(kE k,vE v,i+M.length)]=mpE kE vE (q3m M k v) i∧(q3m M k v).length=M.length+1
 | [],i,_=>⟨rfl,rfl⟩
 | p::M,i,h=>by
  rw[qb7] at h
  by_cases hp:k=p.1
  ·rw[if_pos hp] at h;cases h
  ·rw[if_neg hp] at h
   obtain⟨a,b⟩:=q8V k v M (i+1) h
   simp only[mpE,q3m,if_neg hp,qxS,qyM]
   rw[show i+(M.length+1)=i+1+M.length by omega,a,b]
   exact⟨rfl,rfl⟩
end
def mpq:B→Option (List (Value×R×Nat))
 | .ob (.mp es _)=>some es
 | _=>none
def mpo (s:S):R→Option (List (Value×R×Nat))
 | .c .nilm=>some []
 | .c (.hd .map id)=>mpq (s.blk id)
 | _=>none
theorem qf9 (s:S) (x:Operand):q2y s x=mpo s (s.ev x):=by
 unfold q2y mpo mpq
 generalize s.ev x=r
 cases r with
 | c c=>
  cases c with
  | hd k id=>cases k<;>rfl
  | _=>rfl
 | _=>rfl
theorem qsY {κ ν:Type} (kE:κ→Value) (vE:ν→R) (M:List (κ×ν)):mpq (.ob (mpB kE vE M))=some (mpE kE vE M 0):=rfl
def mup (kt:Kd) (kv:Value) (r:R):B→Option B
 | .ob (.mp es ck)=>if plK kt kv=true∧es.all (fun q=>plK kt q.1)=true then
   (match fnd kv es 0 with
    | some q=>some (.ob (.mp (es.set q.1 (kv,r,q.2.2)) ck))
    | none=>some (.ob (.mp (es++[(kv,r,ck)]) (ck+1)))) else none
 | _=>none
def xmu (T:Ty) (s:S) (t:TypeId) (m:R) (kv:Option Value) (r:R):Option (R×S):=
 match T.k t,m,kv with
 | .mp kt _,.c (.hd .map id),some kv=>(mup (T.k kt) kv r (s.blk id)).bind fun b=>some (.any,s.up [(id,b)])
 | _,_,_=>none
theorem qo4 (T:Ty) (s:S) (t:TypeId) (m:R) (kv:Option Value) (r:R):xmu T s t m kv r =
 match T.k t,m,kv with
 | .mp kt _,.c (.hd .map id),some kv=>(mup (T.k kt) kv r (s.blk id)).bind fun b=>some (.any,s.up [(id,b)])
 | _,_,_=>none:=rfl
theorem qaU (T:Ty) (s:S) (t:TypeId) (m k x:Operand):q0I T s t m k x=xmu T s t (s.ev m) (s.ev k).key (s.ev x):=by
 unfold q0I xmu mup
 generalize T.k t=kd
 generalize s.ev m=r
 generalize (s.ev k).key=kv
 cases kd with
 | mp kt e=>
  cases r with
  | c c=>
   cases c with
   | hd h id=>
    cases h with
    | map=>
     cases kv with
     | none=>rfl
     | some kv=>
      simp only
      generalize s.blk id=b
      cases b with
      | ob o=>
       cases o with
       | mp es ck=>
        simp only
        split
        ·cases fnd kv es 0<;>rfl
        ·rfl
       | _=>rfl
      | _=>rfl
    | _=>rfl
   | _=>rfl
  | _=>rfl
 | _=>rfl
section
variable {κ ν:Type} {kE:κ→Value} {vE:ν→R} [DecidableEq κ] (hk:∀a b,kq (kE a) (kE b)=decide (a=b)) {kt:Kd} (hp:∀a,plK kt (kE a)=true)
include hk hp
theorem qr0 (k:κ) (v:ν) (M:List (κ×ν)):mup kt (kE k) (vE v) (.ob (mpB kE vE M))=some (.ob (mpB kE vE (q3m M k v))):=by
 unfold mpB mup
 simp only
 rw[if_pos ⟨hp k,q8e (fun k r i=>hp k) M 0⟩,qdU hk k M 0 v]
 cases hm:qb7 M k
 ·obtain⟨a,b⟩:=q8V (kE:=kE) (vE:=vE) k v M 0 hm
  simp only[Bool.false_eq_true,if_false]
  rw[qy5] at a
  rw[a,b]
 ·obtain⟨a,b⟩:=q9m (kE:=kE) (vE:=vE) k v M 0 hm
  simp only[if_true]
  rw[qy5] at a ⊢
  rw[a,b]
end
theorem qhS {κ ν:Type} {kE:κ→Value} {vE:ν→R} {s:S} {sel:List Nat} (h:∀v,qb8 s sel (vE v)=vE v) (M:List (κ×ν)):cvA s sel (mpB kE vE M)=some (mpB kE vE M):=by
 have:∀(M:List (κ×ν)) (i:Nat),(mpE kE vE M i).map (fun e=>(e.1,qb8 s sel e.2.1,e.2.2))=mpE kE vE M i:=by
  intro M
  induction M with
  | nil=>intro i;rfl
  | cons p M ih=>intro i;rw[mpE,qy4,ih,h]
 show some (AO.mp ((mpE kE vE M 0).map fun e=>(e.1,qb8 s sel e.2.1,e.2.2)) M.length)=_
 rw[this];rfl
theorem qh9 (k:IntKind) (a b:Int):kq (JJ k a) (JJ k b)=decide (a=b):=rfl
theorem qbC {κ ν:Type} {kE:κ→Value} {vE:ν→R} (hk:∀a b,kE a=kE b→a=b) (hv:∀a b,vE a=vE b→a=b):∀(M M':List (κ×ν)) (i:Nat),mpE kE vE M i=mpE kE vE M' i→M=M'
 | [],[],_,_=>rfl
 | [],_::_,_,h=>by cases h
 | _::_,[],_,h=>by cases h
 | (a,v)::M,(b,w)::M',i,h=>by
  unfold mpE at h
  simp only[List.cons.injEq,Prod.mk.injEq] at h
  obtain⟨⟨h1,h2,_⟩,h3⟩:=h
  rw[hk _ _ h1,hv _ _ h2,qbC hk hv M M' _ h3]
theorem qjx {κ ν:Type} {kE:κ→Value} {vE:ν→R} (hk:∀a b,kE a=kE b→a=b) (hv:∀a b,vE a=vE b→a=b) (M M':List (κ×ν)):(B.ob (mpB kE vE M)=B.ob (mpB kE vE M'))=(M=M'):=
 propext ⟨fun h=>by
  injection h with h
  unfold mpB at h
  injection h with h
  exact qbC hk hv M M' 0 h,fun h=>by rw[h]⟩
section
variable {κ ν:Type}
end
end
noncomputable section
open Go.RowKit Go.Maps Go.Sort Go.Shelf
section
variable {P:Program} {ρ:Ren}
end
end
noncomputable section
open Go.RowKit
theorem q5Q:∀l:List Int,q4U ((l.flatMap eI).map C.d)=some l
 | []=>rfl
 | x::l=>by
  rw[qyL,List.map_append]
  show(q4U ((l.flatMap eI).map C.d)).map (x :: ·)=_
  rw[q5Q l];rfl
theorem q3b:∀l:List Int,(l.map fun z=>C.d (.int .i64 z))=(l.flatMap eI).map C.d
 | []=>rfl
 | x::l=>by
  rw[qyL,List.map_append,qy4,q3b l];rfl
theorem qlG (e:TypeId) (n:Nat) (l:List Int):qoW e 0 [.c (.own 0 1 0 n)] [(0,.row e 1 ((l.flatMap eI).map C.d))]=if n=l.length then some (.c (.own 0 1 0 (cpI l).length),[(0,.row e 1 (((cpI l).flatMap eI).map C.d))]) else none:=by
 show(if e=e then cpX 0 n e _ else none)=_
 rw[if_pos rfl]
 unfold cpX
 rw[q5Q,qxH,q3b]
theorem q5w {α β:Type} {E:α→List β} {z:Nat} (hE:∀x,(E x).length=z):∀(l:List α) (i:Nat),i<l.length→(l.flatMap E).take (i*z)++(l.flatMap E).drop ((i+1)*z)=(l.eraseIdx i).flatMap E
 | [],_,h=>by simp at h
 | x::l,0,_=>by
  rw[qyL,Nat.zero_mul,List.take_zero,qy1,qy5,Nat.one_mul,←hE x,List.drop_left];rfl
 | x::l,i+1,h=>by
  rw[qyL,List.eraseIdx_cons_succ,qyL,←q5w hE l i (by simpa using h)]
  have e1:(i+1)*z=(E x).length+i*z:=by rw[hE,Nat.add_mul];omega
  have e2:(i+1+1)*z=(E x).length+(i+1)*z:=by rw[hE,Nat.add_mul (i+1)];omega
  rw[e2,List.drop_append,e1,List.take_append]
  simp[Nat.add_sub_cancel_left,qyN,List.drop_of_length_le]
theorem qjR {α:Type} {E:α→List D} {e z:Nat} (hE:∀x,(E x).length=z) {n:Nat} (l:List α) (i j:Int) (hn:n=l.length):qaC e z 0 [.c (.own 0 z 0 n),.c (.d (.int .i64 i)),.c (.d (.int .i64 j))] [(0,.row e z ((l.flatMap E).map C.d))] =
  if 0≤i∧j=i+1∧i<l.length then some (.c (.own 0 z 0 (l.eraseIdx i.toNat).length),[(0,.row e z (((l.eraseIdx i.toNat).flatMap E).map C.d))]) else none:=by
 subst hn
 show qqi e z z z e l.length i j _=_
 unfold qqi
 have h1:((l.flatMap E).map C.d).length=l.length*z:=by
  rw[qyp]
  induction l with
  | nil=>simp
  | cons x l ih=>rw[qyL,qxO,ih,hE,qxS,Nat.add_mul];omega
 have h2:((l.flatMap E).map C.d).all C.known=true:=by rw[List.all_map];exact qxY.2 fun x _=>rfl
 have h3:((l.flatMap E).map C.d).all (C.far 0)=true:=by rw[List.all_map];exact qxY.2 fun x _=>rfl
 by_cases hc:0≤i∧j=i+1∧i<(l.length:Int)
 ·rw[if_pos ⟨rfl,rfl,rfl,h1,h2,h3,hc⟩,if_pos hc]
  have hi:i.toNat<l.length:=by omega
  rw[←List.map_take,←List.map_drop,←List.map_append,q5w hE l _ hi,List.length_eraseIdx,if_pos hi]
 ·rw[if_neg (fun h=>hc h.2.2.2.2.2.2),if_neg hc]
end
noncomputable section
open Go.RowKit
def C.pl:C→Bool
 | .d _=>true
 | .ow _ _ _ _=>true
 | _=>false
section
variable {α:Type} {E:α→List C} {n:Nat}
theorem qfF (h:∀x,(E x).all C.pl=true) (v:List α) {c:C} (hc:c∈v.flatMap E):c.pl=true:=by
 obtain⟨x,-,hx⟩:=List.mem_flatMap.1 hc
 exact qxY.1 (h x) c hx
theorem qcM (h:∀x,(E x).all C.pl=true) {f:C→C} (hf:∀c,c.pl=true→f c=c) (v:List α):(v.flatMap E).map f=v.flatMap E:=
 (List.map_congr_left fun c hc=>hf c (qfF h v hc)).trans (List.map_id _)
theorem qhD (h:∀x,(E x).all C.pl=true) {p:C→Bool} (hf:∀c,c.pl=true→p c=true) (v:List α):(v.flatMap E).all p=true:=
 qxY.2 fun c hc=>hf c (qfF h v hc)
theorem qm7 (h:∀x,(E x).all C.pl=true) {p:C→Bool} (hf:∀c,c.pl=true→p c=false) (v:List α):(v.flatMap E).any p=false:=
 List.any_eq_false.2 fun c hc=>by rw[hf c (qfF h v hc)];decide
theorem qol (h:∀x,(E x).all C.pl=true) {f:C→List Nat} (hf:∀c,c.pl=true→f c=[]) (v:List α):(v.flatMap E).flatMap f=[]:=
 List.flatMap_eq_nil_iff.2 fun c hc=>hf c (qfF h v hc)
theorem qhG (h:∀x,(E x).length=n):∀l:List α,(l.flatMap E).length=l.length*n
 | []=>by simp
 | x::l=>by rw[qyL,qxO,h,qhG h l,qxS,Nat.add_mul];omega
theorem qhN (h:∀x,(E x).length=n) {o:Nat} (ho:o<n):∀(v:List α) (i:Nat),(v.flatMap E)[i*n+o]?=(v[i]?).bind fun x=>(E x)[o]?
 | [],i=>by simp
 | x::v,0=>by
  rw[qyL,Nat.zero_mul,qy5,qyk (by rw[h];exact ho)];rfl
 | x::v,i+1=>by
  rw[qyL,show(i+1)*n+o=(E x).length+(i*n+o) by rw[h,Nat.add_mul];omega,qyj (by omega),show(E x).length+(i*n+o)-(E x).length=i*n+o by omega,qhN h ho v i]
  rfl
theorem qhH (h:∀x,(E x).length=1) {x:α} {d:C} (hx:E x=[d]):∀(v:List α) (i:Nat),(v.flatMap E).set i d=(v.set i x).flatMap E
 | [],i=>by simp
 | y::v,0=>by
  have hy:=h y
  rw[qyL,List.set_append_left _ _ (by rw[hy];decide),List.set_cons_zero,qyL,hx]
  match hE:E y,hy with
  | [c],_=>rfl
 | y::v,i+1=>by
  rw[qyL,show i+1=(E y).length+i by rw[h];omega,List.set_append_right _ _ (by omega),show(E y).length+i-(E y).length=i by omega,qhH h hx v i,h,Nat.add_comm,List.set_cons_succ,qyL]
theorem qoz (v:List α) (x:α):v.flatMap E++E x=(v++[x]).flatMap E:=by simp
theorem qnA {F:α→List D} (h:∀x,(E x).map C.uw=(F x).map C.d):∀v:List α,(v.flatMap E).map C.uw=(v.flatMap F).map C.d
 | []=>rfl
 | x::v=>by rw[qyL,qyL,List.map_append,List.map_append,h,qnA h v]
theorem qt6 {T:Ty} {t:TypeId} {cs:List C} {off:Nat} (hk:∀fs,T.k t ≠ .st fs) (ha:∀n e,T.k t ≠ .arr n e) (ho:T.k t ≠ .other):ld T cs off t=(cs[off]?).map .c:=by
 unfold ld
 split
 ·rename_i h;exact absurd h (hk _)
 ·rename_i h;exact absurd h (ha _ _)
 ·rename_i h;exact absurd h ho
 ·rfl
theorem qcB (zs0:List (Option (Nat×Nat))):∀(zs:List (Option (Nat×Nat))) (xs ys:List C),xs.all C.pl=true→zs.length=xs.length→q5d zs0 zs (xs++ys)=xs++q5d zs0 [] ys
 | [],[],ys,_,_=>rfl
 | [],d::ds,ys,_,h=>by cases h
 | z::zs,[],ys,_,h=>by cases h
 | z::zs,d::ds,ys,hp,h=>by
  rw[List.all_cons,qyd] at hp
  rw[qyM,q5d,qcB zs0 zs ds ys hp.2 (by simpa using h)]
  have:qgS z d=d:=by
   rcases q6i z d with e|⟨e,-⟩
   ·exact e
   ·rw[e] at hp;cases hp.1
  rw[this];rfl
theorem qht (hp:∀x,(E x).all C.pl=true) (h:∀x,(E x).length=n+1) (zs0:List (Option (Nat×Nat))) (h0:zs0.length=n+1):∀(v:List α) (ys:List C),q5d zs0 [] (v.flatMap E++ys)=v.flatMap E++q5d zs0 [] ys
 | [],ys=>rfl
 | x::v,ys=>by
  have hx:=h x
  have hpx:=hp x
  rw[qyL,qym,qym,←qht hp h zs0 h0 v ys]
  cases hE:E x with
  | nil=>rw[hE] at hx;cases hx
  | cons d ds=>
   rw[hE] at hx hpx
   rw[List.all_cons,qyd] at hpx
   rw[qyM,q5d,qcB zs0 zs0.tail ds _ hpx.2 (by rw[List.length_tail];simp at hx;omega)]
   have:qgS (zs0.headD none) d=d:=by
    rcases q6i (zs0.headD none) d with e|⟨e,-⟩
    ·exact e
    ·rw[e] at hpx;cases hpx.1
   rw[this];rfl
end
theorem qrV (k:Nat) (c:C) (h:c.pl=true):c.fg k=c:=by cases c<;>first|rfl|cases h
theorem qrs (ids:List Nat) (c:C) (h:c.pl=true):cn ids c=c:=by cases c<;>first|rfl|cases h
theorem qr2 (c:C) (h:c.pl=true):c.kw=c:=by cases c<;>first|rfl|cases h
theorem qoC (k:Nat) (c:C) (h:c.pl=true):c.far k=true:=by cases c<;>first|rfl|cases h
theorem qj7 (X:List Nat) (c:C) (h:c.pl=true):c.farF X=true:=by cases c<;>first|rfl|cases h
theorem qhU (c:C) (h:c.pl=true):c.isNils=false:=by cases c<;>first|rfl|cases h
theorem qiE (c:C) (h:c.pl=true):c.refs=[]:=by cases c<;>first|rfl|cases h
theorem qjH (c:C) (h:c.pl=true):c.rows=[]:=by cases c<;>first|rfl|cases h
theorem qfi (f:C→C) (xs ys:List C):(xs++ys).map f=xs.map f++ys.map f:=List.map_append
def oL {α:Type} (e n:Nat) (F:α→List D) (v:List α):List C:=[.ow e n v.length (v.flatMap F)]
theorem qf4 (f:C→C):∀(ys cs:List C) (o:Nat),(spr cs o ys).map f=spr (cs.map f) o (ys.map f):=fun ys cs o=>(q63 f ys cs o).symm
theorem qfx (a b:C) (cs:List C) (o:Nat):spr (spr cs o [a]) o [b]=spr cs o [b]:=by
 show(cs.set o a).set o b=cs.set o b
 rw[List.set_set]
theorem qgi (cs:List C) (o:Nat) (c:C):((spr cs o [c])[o]?).map R.c=(cs[o]?).bind fun _=>some (R.c c):=by
 show((cs.set o c)[o]?).map R.c=_
 rcases Nat.lt_or_ge o cs.length with h|h
 ·rw[qyE h,qxJ h];rfl
 ·rw[qyf (by rw[qys];exact h),qyf h];rfl
theorem qb4 (ys cs:List C) (o:Nat):(spr cs o ys).length=cs.length:=q0h ys cs o
theorem qnN (ds:List D):(ds.map C.d).map C.uw=ds.map C.d:=by rw[List.map_map];rfl
theorem qns (ds:List D):(ds.map C.d).map C.kw=ds.map C.d:=by rw[List.map_map];rfl
end
noncomputable section
open Go.RowKit
def bx0:=JA_ @qkx (JA_ @qkg (JA_ @qpX.eq_1 (JA_ @qpX.eq_2 (JA_ @S.uwD.eq_1 (JA_ @S.tkD.eq_1 (JA_ @S.tkP.eq_1 (JA_ @S.tkP.eq_2 (JA_ @qqb.eq_1 (JA_ @qqb.eq_2 (JA_ @tkL.eq_1 (JA_ @tkL.eq_2 (JA_ @S.frk.eq_1 (JA_ @qnd.eq_1 (JA_ @qce.eq_1 (JA_ @qfj (JA_ @qfn (JA_ @adL.eq_1 (JA_ @adS.eq_1 (JA_ @adI.eq_1 (JA_ @adI.eq_2 (@adP.eq_1)))))))))))))))))))))
def bx1:=JA_ @quO.eq_1 (JA_ @qrf.eq_1 (JA_ @uwR.eq_2 (JA_ @ldO.eq_1 (JA_ @ldT.eq_2 (JA_ @ldT.eq_11 (JA_ @ldP.eq_1 (JA_ @ldU.eq_1 (JA_ @stO.eq_1 (JA_ @qqn.eq_1 (JA_ @qqn.eq_2 (JA_ @qpW.eq_1 (JA_ @qhj.eq_1 (JA_ @S.fnB.eq_1 (JA_ @S.uwB.eq_1 (JA_ @Kd.isSl0.eq_1 (JA_ @tkS.eq_1 (JA_ @B.kw.eq_2 (@B.kw.eq_3))))))))))))))))))
def bx2:=JA_ @R.nw.eq_1 (JA_ @R.nw.eq_2 (JA_ @R.nw0.eq_1 (JA_ @R.nw0.eq_2 (JA_ @R.nw0.eq_4 (JA_ @C.nw.eq_3 (JA_ @S.uw.eq_1 (JA_ @B.uw.eq_1 (JA_ @B.uw.eq_2 (JA_ @B.uw.eq_4 (JA_ @C.uw.eq_2 (JA_ @S.dzo.eq_1 (JA_ @qdM.eq_1 (JA_ @qdM.eq_2 (JA_ @q5d.eq_1 (JA_ @q5d.eq_2 (JA_ @qgS.eq_1 (@S.abL.eq_1)))))))))))))))))
def bx3:=JA_ @abAt.eq_1 (JA_ @C.noow.eq_2 (JA_ @S.strip.eq_1 (JA_ @q1z.eq_1 (JA_ @q1z.eq_2 (JA_ @qkY.eq_1 (JA_ @qkY.eq_2 (JA_ @R.isA.eq_1 (JA_ @R.isA.eq_2 (JA_ @quq.eq_1 (JA_ @qqA.eq_1 (JA_ @qcS.eq_1 (JA_ @qbr.eq_1 (JA_ @S.ly.eq_1 (JA_ @alC.eq_1 (JA_ @alC.eq_2 (JA_ @alX.eq_1 (JA_ @alX.eq_2 (JA_ @qu1.eq_1 (JA_ @qlR.eq_1 (JA_ @qpZ.eq_1 (JA_ @ipX.eq_1 (@qq9.eq_1))))))))))))))))))))))
def bx4:=JA_ @qq9.eq_2 (JA_ @qrM.eq_1 (JA_ @qr1.eq_1 (JA_ @ipA.eq_1 (JA_ @ipS.eq_1 (JA_ @ipS.eq_2 (JA_ @ipF.eq_1 (JA_ @qmT.eq_1 (JA_ @qmT.eq_2 (JA_ @q8t.eq_1 (JA_ @qgK.eq_1 (JA_ @qgK.eq_2 (JA_ @zmk.eq_1 (JA_ @zmk.eq_2 (JA_ @S.fin.eq_1 (JA_ @S.fn1.eq_1 (JA_ @S.inr.eq_1 (JA_ @prx.eq_1 (JA_ @APr.of_run (JA_ @pr0.eq_1 (JA_ @List.isEmpty_nil.{0} (JA_ @List.isEmpty_cons.{0} (JA_ @wbC.eq_1 (JA_ @B.beq.eq_1 (JA_ @C.beqL.eq_1 (JA_ @C.beqL.eq_2 (@C.beq0.eq_1))))))))))))))))))))))))))
def bx5:=JA_ @D.beq.eq_1 (JA_ @D.beq.eq_4 (JA_ @qsQ.eq_1 (JA_ @dzc.eq_2 (JA_ @dzc.eq_3 (JA_ @C.isNils.eq_1 (JA_ @C.isNils.eq_2 (JA_ @qgu (JA_ @List.any_append.{0} (JA_ @q4f.eq_1 (JA_ @q3n.eq_1 (JA_ @q3n.eq_2 (JA_ @qga.eq_1 (JA_ @fpA.eq_1 (JA_ @qaz.eq_1 (JA_ @S.kill.eq_1 (JA_ @qkq.eq_1 (JA_ @qkq.eq_2 (JA_ @qcY.eq_1 (JA_ @qpb.eq_1 (JA_ @okX.eq_1 (JA_ @okX.eq_2 (@okK.eq_1))))))))))))))))))))))
def bx6:=JA_ @okN.eq_1 (JA_ @okN.eq_2 (JA_ @q3e.eq_1 (JA_ @qkG.eq_1 (JA_ @qkG.eq_2 (JA_ @qkV.eq_1 (JA_ @qkV.eq_2 (JA_ @q2m.eq_1 (JA_ @qea.eq_1 (JA_ @q0r.eq_1 (JA_ @qen.eq_1 (JA_ @q2s.eq_1 (JA_ @q0E.eq_1 (JA_ @q6r.eq_1 (JA_ @q3A.eq_1 (JA_ @q3A.eq_2 (JA_ @cvT.eq_1 (JA_ @q8l.eq_1 (JA_ @q4P.eq_1 (JA_ @qlJ.eq_1 (JA_ @qjb.eq_1 (JA_ @S.rf.eq_1 (JA_ @S.rfx.eq_1 (JA_ @qmN.eq_1 (JA_ @rdB.eq_1 (JA_ @qhM.eq_1 (JA_ @q4k.eq_1 (@qgj)))))))))))))))))))))))))))
def bx7:=JA_ @qfe (JA_ @qfK (JA_ @qfT (JA_ @q3c.eq_1 (JA_ @qdE.eq_1 (JA_ @D.key.eq_1 (JA_ @R.key.eq_1 (JA_ @plK.eq_1 (JA_ @zR.eq_1 (JA_ @tt2.eq_1 (JA_ @B.isOb.eq_2 (@AO.mapR.eq_2)))))))))))
def bx8:=JA_ @AO.Rs.eq_2 (JA_ @R.refs0.eq_1 (JA_ @R.refs0.eq_3 (JA_ @cvA.eq_2 (JA_ @qb8.eq_1 (JA_ @xgd.eq_1 (JA_ @xgF.eq_1 (JA_ @xo.eq_1 (JA_ @xo.eq_2 (JA_ @xo.eq_3 (JA_ @xo.eq_4 (JA_ @xo.eq_5 (JA_ @xo.eq_6 (JA_ @xo.eq_7 (JA_ @xo.eq_8 (JA_ @xo.eq_9 (JA_ @xo.eq_10 (JA_ @xo.eq_11 (JA_ @xo.eq_12 (JA_ @xo.eq_13 (JA_ @xo.eq_14 (JA_ @xo.eq_15 (JA_ @xo.eq_16 (JA_ @xo.eq_17 (JA_ @xo.eq_19 (JA_ @xo.eq_20 (JA_ @xo.eq_21 (JA_ @xo.eq_22 (JA_ @xo.eq_23 (@xo.eq_24)))))))))))))))))))))))))))))
def bx9:=JA_ @xo.eq_25 (JA_ @xCl.eq_1 (JA_ @pre.eq_1 (JA_ @pre.eq_2 (JA_ @pre.eq_3 (JA_ @q56.eq_1 (JA_ @Jt.eq_1 (JA_ @q4K.eq_1 (JA_ @q97.eq_1 (JA_ @q8u.eq_1 (JA_ @q0G.eq_1 (JA_ @q06.eq_2 (JA_ @q06.eq_3 (JA_ @qrm.eq_1 (JA_ @qba.eq_1 (JA_ @qba.eq_2 (JA_ @cvR.eq_1 (JA_ @cvR.eq_2 (JA_ @cvR.eq_3 (JA_ @cvL.eq_1 (JA_ @cvL.eq_2 (JA_ @qeP.eq_1 (JA_ @qeP.eq_2 (JA_ @cv.eq_1 (JA_ @cv.eq_2 (JA_ @cv0.eq_1 (@cv0.eq_5))))))))))))))))))))))))))
def qwJ:=JA_ @cv0.eq_9 (JA_ @cv0.eq_10 (JA_ @cv0.eq_11 (JA_ @cvG.eq_1 (JA_ @cvG.eq_2 (JA_ @cvB.eq_1 (JA_ @cvB.eq_2 (JA_ @cvB.eq_3 (JA_ @vis.eq_1 (JA_ @q3B.eq_1 (JA_ @q3B.eq_2 (JA_ @q16 (JA_ @qko.eq_1 (JA_ @pos.eq_1 (JA_ @pos.eq_2 (JA_ @qg6.eq_1 (JA_ @q5T.eq_1 (JA_ @q9p.eq_1 (JA_ @qqp.eq_1 (JA_ @q0l.eq_1 (JA_ @JW.eq_1 (JA_ @q1h.eq_1 (JA_ @q3U.eq_1 (JA_ @q0P.eq_1 (JA_ @q9K.eq_1 (JA_ @q9K.eq_2 (JA_ @q9K.eq_3 (JA_ @q9K.eq_4 (@q9K.eq_5))))))))))))))))))))))))))))
def qxv:=JA_ @q9K.eq_10 (JA_ @q9K.eq_11 (JA_ @q9K.eq_12 (JA_ @q9K.eq_13 (JA_ @q9K.eq_14 (JA_ @q9K.eq_15 (JA_ @qmy.eq_3 (JA_ @qmy.eq_4 (JA_ @qnU.eq_1 (JA_ @qnU.eq_2 (JA_ @qqc.eq_1 (JA_ @qqo.eq_1 (JA_ @qpV.eq_1 (JA_ @qq4.eq_1 (JA_ @qqm.eq_1 (JA_ @qfJ.eq_1 (JA_ @q9v.eq_1 (JA_ @q8R.eq_1 (JA_ @Zx.eq_1 (JA_ @q2w.eq_1 (@q8x.eq_1))))))))))))))))))))
def qwz:=JA_ @q1F.eq_1 (JA_ @Kd.isSl.eq_1 (JA_ @nrm.eq_1 (JA_ @qhA.eq_1 (JA_ @qtu.eq_1 (JA_ @rng.eq_1 (JA_ @rng.eq_2 (JA_ @rwAll.eq_1 (JA_ @rwAll.eq_2 (JA_ @rw1.eq_1 (JA_ @rw1.eq_2 (JA_ @cn.eq_1 (JA_ @cn.eq_2 (JA_ @cn0.eq_1 (JA_ @cn0.eq_2 (JA_ @cn0.eq_3 (JA_ @cn0.eq_5 (JA_ @cnR.eq_2 (JA_ @qcp.eq_1 (JA_ @qcp.eq_2 (JA_ @qcp.eq_3 (JA_ @cnB.eq_1 (JA_ @cnB.eq_2 (JA_ @cnB.eq_3 (JA_ @cnH.eq_1 (JA_ @cnH.eq_2 (JA_ @qm4 (JA_ @qD.eq_1 (JA_ @qD.eq_2 (@qD.eq_3)))))))))))))))))))))))))))))
def qvz:=JA_ @qo2.eq_1 (JA_ @qao.eq_1 (JA_ @q5p.eq_1 (JA_ @qas.eq_1 (JA_ @q5t.eq_1 (JA_ @q8N.eq_1 (JA_ @q5i.eq_1 (JA_ @q5i.eq_2 (JA_ @S.frz.eq_1 (JA_ @S.frz.eq_2 (JA_ @S.frz1.eq_1 (JA_ @fz.eq_1 (JA_ @fz.eq_2 (JA_ @fz0.eq_1 (JA_ @fz0.eq_2 (JA_ @fz0.eq_3 (JA_ @fz0.eq_5 (JA_ @fzR.eq_1 (JA_ @fzR.eq_2 (JA_ @qeR.eq_1 (JA_ @qeR.eq_2 (JA_ @qeR.eq_3 (JA_ @fzB.eq_1 (JA_ @fzB.eq_2 (JA_ @fzB.eq_3 (JA_ @fzB.eq_4 (JA_ @qnx (JA_ @dz.eq_1 (JA_ @dz.eq_2 (JA_ @dzL.eq_1 (JA_ @dzL.eq_2 (JA_ @dzR.eq_1 (JA_ @dzR.eq_2 (JA_ @qaw.eq_1 (JA_ @qaw.eq_2 (@one.eq_1)))))))))))))))))))))))))))))))))))
def qvY:=JA_ @one.eq_2 (JA_ @rvs.eq_1 (JA_ @rvs.eq_2 (JA_ @qj5.eq_1 (JA_ @qj5.eq_2 (JA_ @tt.eq_1 (JA_ @ff.eq_1 (JA_ @q3W.eq_1 (JA_ @q3W.eq_2 (JA_ @C.ref0.eq_1 (JA_ @C.ref0.eq_2 (JA_ @C.ref0.eq_3 (JA_ @C.ref0.eq_4 (JA_ @C.refs.eq_1 (JA_ @C.refs.eq_2 (JA_ @B.refs.eq_1 (JA_ @B.refs.eq_2 (JA_ @B.refs.eq_3 (JA_ @B.refs.eq_4 (JA_ @R.refs.eq_1 (JA_ @R.refs.eq_2 (JA_ @R.refs.eq_4 (JA_ @C.rows0.eq_1 (JA_ @C.rows0.eq_2 (JA_ @C.rows.eq_1 (JA_ @C.rows.eq_2 (JA_ @R.rows.eq_1 (JA_ @R.rows.eq_2 (JA_ @R.rows.eq_3 (JA_ @C.ptrs0.eq_1 (JA_ @C.ptrs0.eq_2 (JA_ @C.ptrs0.eq_3 (JA_ @C.ptrs.eq_1 (JA_ @C.ptrs.eq_2 (JA_ @R.ptrs.eq_1 (JA_ @R.ptrs.eq_2 (JA_ @R.ptrs.eq_3 (JA_ @B.isBlk.eq_1 (@B.isBlk.eq_2))))))))))))))))))))))))))))))))))))))
def qwe:=JA_ @B.isBlk.eq_3 (JA_ @R.scl.eq_1 (JA_ @R.scl.eq_2 (JA_ @R.scl0.eq_1 (JA_ @R.scl0.eq_2 (JA_ @R.scl0.eq_3 (JA_ @C.scl.eq_1 (JA_ @C.scl.eq_2 (JA_ @C.scl0.eq_1 (JA_ @C.scl0.eq_3 (JA_ @C.scl0.eq_5 (JA_ @B.scl.eq_1 (JA_ @B.scl.eq_2 (JA_ @B.scl.eq_3 (JA_ @C.dat.eq_2 (JA_ @C.dat0.eq_1 (JA_ @C.dat0.eq_9 (JA_ @ren.eq_1 (JA_ @R.rn.eq_1 (JA_ @R.rn.eq_2 (JA_ @R.rn0.eq_1 (JA_ @R.rn0.eq_2 (JA_ @R.rn0.eq_3 (JA_ @C.rn.eq_1 (JA_ @C.rn.eq_2 (JA_ @C.rn0.eq_1 (JA_ @C.rn0.eq_2 (@C.rn0.eq_3)))))))))))))))))))))))))))
def qwu:=JA_ @C.rn0.eq_6 (JA_ @B.rn.eq_1 (JA_ @B.rn.eq_2 (JA_ @B.rn.eq_3 (JA_ @qmY (JA_ @S.aft.eq_1 (JA_ @S.fgL.eq_1 (JA_ @S.fgL.eq_2 (JA_ @C.fgL.eq_1 (JA_ @C.fgL.eq_2 (JA_ @C.fgL.eq_3 (JA_ @C.fgL.eq_5 (JA_ @R.fgL.eq_1 (JA_ @R.fgL.eq_2 (JA_ @R.fgL.eq_3 (JA_ @B.fgL.eq_1 (JA_ @B.fgL.eq_2 (JA_ @B.fgL.eq_3 (JA_ @B.fgL.eq_4 (JA_ @C.farL.eq_1 (JA_ @C.farL.eq_2 (JA_ @C.farL.eq_3 (JA_ @C.farL.eq_5 (JA_ @R.farL.eq_1 (JA_ @B.farL.eq_2 (JA_ @B.farL.eq_3 (JA_ @qpQ.eq_3 (@qcZ.eq_1)))))))))))))))))))))))))))
def qvn:=JA_ @qcZ.eq_2 (JA_ @S.ev.eq_1 (JA_ @S.ev.eq_2 (JA_ @S.ev.eq_3 (JA_ @S.get.eq_1 (JA_ @S.blk.eq_1 (JA_ @S.put.eq_1 (JA_ @S.put.eq_2 (JA_ @S.up.eq_1 (JA_ @S.bd.eq_1 (JA_ @S.bd.eq_2 (JA_ @S.seq.eq_1 (JA_ @S.cell1.eq_1 (JA_ @lk.eq_1 (JA_ @lk.eq_2 (JA_ @Zb.eq_1 (JA_ @Zb.eq_2 (JA_ @Zb.eq_3 (JA_ @Zb.eq_5 (JA_ @Zb.eq_6 (JA_ @Zb.eq_7 (JA_ @q0j.eq_1 (JA_ @q0j.eq_2 (JA_ @qiS (JA_ @ldx.eq_1 (JA_ @bld.eq_1 (JA_ @bld.eq_2 (JA_ @spl.eq_1 (JA_ @spl.eq_2 (JA_ @ZB.eq_1 (JA_ @Ty.foff.eq_1 (JA_ @R.cells.eq_1 (JA_ @R.cells.eq_2 (@R.parts.eq_1)))))))))))))))))))))))))))))))))
def qxo:=JA_ @R.parts.eq_2 (JA_ @B.cells.eq_1 (JA_ @B.cells.eq_2 (JA_ @B.live.eq_1 (JA_ @B.live.eq_2 (JA_ @C.known.eq_3 (JA_ @C.far.eq_1 (JA_ @C.far.eq_5 (JA_ @S.fg.eq_1 (JA_ @R.fg.eq_1 (JA_ @R.fg.eq_2 (JA_ @R.fg.eq_3 (JA_ @R.fg.eq_4 (JA_ @B.fg.eq_1 (JA_ @B.fg.eq_2 (JA_ @B.fg.eq_3 (JA_ @B.fg.eq_4 (JA_ @C.fg.eq_1 (JA_ @C.fg.eq_2 (JA_ @C.fg.eq_3 (JA_ @C.fg.eq_4 (JA_ @C.fg.eq_5 (JA_ @D1.eq_1 (JA_ @q0a.eq_1 (JA_ @q0a.eq_2 (JA_ @q0a.eq_4 (JA_ @q0a.eq_6 (JA_ @q0a.eq_7 (JA_ @q0a.eq_8 (@q0a.eq_9)))))))))))))))))))))))))))))
def qxc:=JA_ @q0a.eq_10 (JA_ @q0a.eq_12 (JA_ @q0a.eq_14 (JA_ @q0a.eq_15 (JA_ @q0a.eq_17 (JA_ @q0a.eq_21 (JA_ @q0a.eq_23 (JA_ @q0a.eq_24 (JA_ @qaF.eq_1 (JA_ @qaF.eq_2 (JA_ @qaF.eq_3 (JA_ @qaF.eq_5 (JA_ @qaF.eq_6 (JA_ @q4u.eq_3 (JA_ @q4u.eq_5 (JA_ @q4u.eq_6 (JA_ @qeK.eq_1 (JA_ @qeK.eq_3 (JA_ @qeK.eq_4 (JA_ @qeK.eq_5 (JA_ @fpC.eq_1 (JA_ @qlc.eq_1 (JA_ @qp7.eq_1 (JA_ @qqz.eq_1 (JA_ @C.lt0.eq_3 (@C.lt0.eq_4)))))))))))))))))))))))))
def qvo:=JA_ @C.ltn.eq_2 (JA_ @R.lt0.eq_1 (JA_ @R.lt0.eq_2 (JA_ @R.ltn.eq_2 (JA_ @B.ltn.eq_1 (JA_ @q0B.eq_1 (JA_ @Fp.none?.eq_1 (JA_ @okP.eq_1 (JA_ @okP.eq_2 (JA_ @qfG (JA_ @qfp (JA_ @qi4 (JA_ @qgE (JA_ @qfy (JA_ @qgb (JA_ @qj2 (JA_ @qgg (JA_ @qfE (JA_ @qfO (JA_ @qaq (JA_ @qhW (JA_ @qgk (JA_ @qh2 (JA_ @qjG (JA_ @qf7 (JA_ @qh0 (JA_ @qgW (JA_ @qj1 (JA_ @qfR (JA_ @qfb (JA_ @qfP (@qja)))))))))))))))))))))))))))))))
def qwf:=JA_ @qfk (JA_ @qkn (JA_ @qef (JA_ @qiX (JA_ @qh5 (JA_ @qfY (JA_ @qoN (JA_ @qkP (JA_ @C.farF.eq_2 (JA_ @Op.operands.eq_1 (JA_ @Op.operands.eq_4 (JA_ @Op.operands.eq_5 (JA_ @Op.operands.eq_7 (JA_ @Op.operands.eq_8 (JA_ @Op.operands.eq_10 (JA_ @Op.operands.eq_14 (JA_ @Op.operands.eq_24 (@Op.operands.eq_25)))))))))))))))))
def qxn:=JA_ @Op.operands.eq_26 (JA_ @Op.operands.eq_27 (JA_ @Op.operands.eq_29 (JA_ @Op.operands.eq_31 (JA_ @Op.operands.eq_36 (JA_ @Op.operands.eq_40 (JA_ @qlz (JA_ @qnq (JA_ @Option.isNone_none.{0} (JA_ @qpq.eq_1 (JA_ @qpq.eq_2 (JA_ @Option.toList_some.{0} (JA_ @Option.toList_none.{0} (JA_ @List.all_append.{0} (JA_ @List.getElem?_nil.{0} (JA_ @List.drop_zero.{0} (JA_ @wi (JA_ @Int.cast_ofNat_Int (JA_ @Int.le_refl (JA_ @qxX (JA_ @Option.bind_assoc.{0,0,0} (JA_ @List.any_nil.{0} (JA_ @List.any_cons.{0} (JA_ @List.getD_cons_zero.{0} (JA_ @List.getD_cons_succ.{0} (JA_ @true_and (@and_true))))))))))))))))))))))))))
def qw1:=JA_ @and_false (JA_ @qyw.{0} (JA_ @Prod.mk.injEq.{0,0} (JA_ @qxH.{0,0} (JA_ @Option.bind_none.{0,0} (JA_ @Option.map_some.{0,0} (JA_ @Option.map_none.{0,0} (JA_ @Option.getD_some.{0} (JA_ @Option.getD_none.{0} (JA_ @ne_eq.{1} (JA_ @not_false_eq_true (JA_ @or_true (JA_ @or_false (JA_ @Bool.false_eq_true (JA_ @qy4.{0,0} (JA_ @List.map_nil.{0,0} (JA_ @List.all_cons.{0} (JA_ @List.all_nil.{0} (JA_ @qyI (JA_ @qye (JA_ @Bool.and_false (JA_ @qyJ (JA_ @qyd (JA_ @Bool.or_true (JA_ @Bool.true_or (JA_ @Bool.or_false (JA_ @Bool.false_or (JA_ @qxS.{0} (JA_ @qyq.{0} (JA_ @qyp.{0,0} (JA_ @qxR.{0} (JA_ @qy6.{0} (JA_ @qyK.{0,0} (JA_ @List.foldl_nil.{0,0} (JA_ @qyM.{0} (@qy1.{0})))))))))))))))))))))))))))))))))))
def qvJ:=JA_ @qy2.{0} (JA_ @Nat.max_def (JA_ @decide_true (JA_ @decide_false (JA_ @decide_not (JA_ @qyG (JA_ @qy7 (JA_ @Nat.zero_mul (JA_ @Nat.mul_one (JA_ @Nat.one_mul (JA_ @Nat.add_zero (JA_ @qy5 (JA_ @qxK (JA_ @List.mapM_cons.{0,0,0} (JA_ @List.mapM_nil.{0,0,0} (JA_ @List.drop_succ_cons.{0} (JA_ @List.drop_nil.{0} (JA_ @List.take_succ_cons.{0} (JA_ @List.take_zero.{0} (JA_ @List.replicate_succ.{0} (JA_ @List.replicate_zero.{0} (JA_ @List.set_cons_zero.{0} (JA_ @List.set_cons_succ.{0} (JA_ @and_self (JA_ @Bool.not_true (JA_ @Bool.not_false (JA_ @List.contains_cons.{0} (JA_ @List.contains_nil.{0} (JA_ @qyL.{0,0} (JA_ @List.flatMap_nil.{0,0} (JA_ @List.filter_cons.{0} (JA_ @List.filter_nil.{0} (JA_ @List.eraseDups_cons.{0} (JA_ @List.eraseDups_nil.{0} (JA_ @List.nodup_cons.{0} (JA_ @List.nodup_nil.{0} (JA_ @qy3.{0} (JA_ @List.not_mem_nil.{0} (JA_ @List.headD_cons.{0} (@List.headD_nil.{0})))))))))))))))))))))))))))))))))))))))
def qxu:=JA_ @List.tail_cons.{0} (JA_ @List.tail_nil.{0} (JA_ @beq_self_eq_true.{0} (JA_ @Zj (JA_ @List.range_succ (JA_ @List.range_zero (JA_ @ite_self.{1} (JA_ @qfi (JA_ @qf4 (JA_ @qfx (JA_ @qb4 (JA_ @qnN (JA_ @qns (JA_ @frA.eq_1 (JA_ @R.dat.eq_1 (JA_ @R.dat.eq_2 (JA_ @qia (JA_ @qjr (JA_ @qmW (JA_ @qkc (JA_ @qnu (JA_ @qio (JA_ @qj8 (@qoj)))))))))))))))))))))))
def qvH:=JA_ @qge (JA_ @q6Q (JA_ @qf9 (JA_ @mpo.eq_2 (JA_ @qsY (JA_ @qaU (JA_ @qo4 (JA_ @qcy (JA_ @qkb (JA_ @qmF (JA_ @qie (JA_ @qmA (JA_ @qeU (JA_ @qib (JA_ @qco (JA_ @qkT (JA_ @qg5 (JA_ @qkS (@qeV))))))))))))))))))
def qwM:=JA_ @Jk.eq_1 (JA_ @Jk.eq_2 (JA_ @qjh.eq_2 (JA_ @hdG.eq_1 (@qqj.eq_2))))
def qx3:=JA_ @qaH (JA_ @qjT (JA_ @qg2 (JA_ @qfq (JA_ @qk0 (JA_ @qf2 (JA_ @qkp (JA_ @qfW (JA_ @qaT (JA_ @qji (JA_ @qg7 (JA_ @qgZ (JA_ @qjL (JA_ @qh1 (JA_ @qjP (JA_ @qfc (JA_ @qjK (JA_ @qis (JA_ @qg9 (JA_ @qkB (JA_ @qwx (JA_ @qvq (JA_ @qr5 (@qtv)))))))))))))))))))))))
def qxk:=JA_ @qr6 (JA_ @qpg (JA_ @qlW (JA_ @qp4 (JA_ @qt9 (JA_ @qov (JA_ @qrO (JA_ @qoV (JA_ @qog (JA_ @qj4 (JA_ @qiK (JA_ @qm5 (JA_ @qkm (JA_ @qpD (JA_ @qjI (JA_ @qxq (JA_ @qaR (JA_ @qgc (JA_ @qnM (JA_ @qiB (JA_ @qkU (JA_ @Sum.elim_inl.{0,1,0} (JA_ @Sum.elim_inr.{0,1,0} (JA_ @qk1 (JA_ @q63 (JA_ @qdS (JA_ @qdm (JA_ @qfM (JA_ @qpU.eq_1 (@qlQ)))))))))))))))))))))))))))))
def qwZ:=JA_ @qc4 (JA_ @qeS (JA_ @qp6 (JA_ @qiM (JA_ @qiV (JA_ @qid (JA_ @qiJ (JA_ @qkE (JA_ @qjc (JA_ @q8b (JA_ @q7B (JA_ @qlN (JA_ @qpT.eq_1 (JA_ @qpT.eq_2 (JA_ @qxO.{0} (JA_ @qys.{0} (JA_ @qyo.{0} (JA_ @qat (JA_ @qbH (JA_ @List.take_nil.{0} (@qbE))))))))))))))))))))
def qxf:=JA_ @q0h (JA_ @q5Q (JA_ @q3b (@qlG)))
theorem qx5 (a0 a1 a2:Int) (i:Nat):([C.d (D.int .i64 a0),C.d (D.int .i64 a1),C.d (D.int .i64 a2)]:List C)[i]?=([a0,a1,a2][i]?).bind fun x=>some (C.d (D.int .i64 x)):=by rw[show([C.d (D.int .i64 a0),C.d (D.int .i64 a1),C.d (D.int .i64 a2)]:List C)=[a0,a1,a2].map (fun x=>C.d (D.int .i64 x)) from rfl,qxV];cases([a0,a1,a2]:List Int)[i]? <;> rfl
theorem qx8 (a0 a1 a2 a3:Int) (i:Nat):([C.d (D.int .i64 a0),C.d (D.int .i64 a1),C.d (D.int .i64 a2),C.d (D.int .i64 a3)]:List C)[i]?=([a0,a1,a2,a3][i]?).bind fun x=>some (C.d (D.int .i64 x)):=by rw[show([C.d (D.int .i64 a0),C.d (D.int .i64 a1),C.d (D.int .i64 a2),C.d (D.int .i64 a3)]:List C)=[a0,a1,a2,a3].map (fun x=>C.d (D.int .i64 x)) from rfl,qxV];cases([a0,a1,a2,a3]:List Int)[i]? <;> rfl
theorem qwP (a0 a1 a2 a3 a4:Int) (i:Nat):([C.d (D.int .i64 a0),C.d (D.int .i64 a1),C.d (D.int .i64 a2),C.d (D.int .i64 a3),C.d (D.int .i64 a4)]:List C)[i]?=([a0,a1,a2,a3,a4][i]?).bind fun x=>some (C.d (D.int .i64 x)):=by rw[show([C.d (D.int .i64 a0),C.d (D.int .i64 a1),C.d (D.int .i64 a2),C.d (D.int .i64 a3),C.d (D.int .i64 a4)]:List C)=[a0,a1,a2,a3,a4].map (fun x=>C.d (D.int .i64 x)) from rfl,qxV];cases([a0,a1,a2,a3,a4]:List Int)[i]? <;> rfl
theorem qwy (a0 a1 a2 a3 a4 a5:Int) (i:Nat):([C.d (D.int .i64 a0),C.d (D.int .i64 a1),C.d (D.int .i64 a2),C.d (D.int .i64 a3),C.d (D.int .i64 a4),C.d (D.int .i64 a5)]:List C)[i]?=([a0,a1,a2,a3,a4,a5][i]?).bind fun x=>some (C.d (D.int .i64 x)):=by rw[show([C.d (D.int .i64 a0),C.d (D.int .i64 a1),C.d (D.int .i64 a2),C.d (D.int .i64 a3),C.d (D.int .i64 a4),C.d (D.int .i64 a5)]:List C)=[a0,a1,a2,a3,a4,a5].map (fun x=>C.d (D.int .i64 x)) from rfl,qxV];cases([a0,a1,a2,a3,a4,a5]:List Int)[i]? <;> rfl
theorem qwc (a0 a1 a2:ByteArray) (i:Nat):([C.d (D.str a0),C.d (D.str a1),C.d (D.str a2)]:List C)[i]?=([a0,a1,a2][i]?).bind fun x=>some (C.d (D.str x)):=by rw[show([C.d (D.str a0),C.d (D.str a1),C.d (D.str a2)]:List C)=[a0,a1,a2].map (fun x=>C.d (D.str x)) from rfl,qxV];cases([a0,a1,a2]:List ByteArray)[i]? <;> rfl
theorem qwi (a0 a1 a2 a3:ByteArray) (i:Nat):([C.d (D.str a0),C.d (D.str a1),C.d (D.str a2),C.d (D.str a3)]:List C)[i]?=([a0,a1,a2,a3][i]?).bind fun x=>some (C.d (D.str x)):=by rw[show([C.d (D.str a0),C.d (D.str a1),C.d (D.str a2),C.d (D.str a3)]:List C)=[a0,a1,a2,a3].map (fun x=>C.d (D.str x)) from rfl,qxV];cases([a0,a1,a2,a3]:List ByteArray)[i]? <;> rfl
theorem qrE {α:Type} (l:List α) (k:Nat):List.take (min k l.length) l=List.take k l:=by
 by_cases h:k≤l.length
 ·rw[Nat.min_eq_left h]
 ·rw[Nat.min_eq_right (by omega),List.take_length,qyN (by omega)]
theorem qrQ {α:Type} (l:List α) (j:Nat):List.take (l.length-j) (List.drop j l)=List.drop j l:=by rw[qyN];rw[qyt];exact qxX _
theorem qnt {α:Type} (l:List α) (j:Nat):((l.drop j).length*8=(l.length-j)*8)=True:=eq_true (by rw[qyt])
theorem qom {α:Type} (l:List α) (j:Nat):((l.take j).length*8=min j l.length*8)=True:=eq_true (by rw[qya])
theorem qmQ (sz:Nat) (x:Int):D.sl sz 1 (eI x)=D.sl sz 1 [D.int .i64 x]:=rfl
theorem qoE:(min 3 4:Nat)=3:=rfl
theorem qpF {α:Type} (l m:List α) (k j:Nat):(l.take k).length+(m.drop j).length=min k l.length+(m.length-j):=by rw[qya,qyt]
theorem qqQ {α:Type} (e:α→List D) (sz:Nat) (l:List α) (k:Nat):D.sl sz (min k l.length) ((l.take k).flatMap e)=D.sl sz (l.take k).length ((l.take k).flatMap e):=by rw[qya]
theorem qpa {α:Type} (l:List α) (k:Nat):(l.length*8=min k l.length*8)=(l.length≤k):=by apply propext;omega
theorem qmh {α:Type} (l:List α) (k:Nat):(min k l.length*8≤l.length*8)=True:=eq_true (by omega)
theorem qjy (l:List Int):(l.length=(ZZ l).length)=True:=eq_true (q14 l).symm
def bz0:=JA_ @qx5 (JA_ @qx8 (JA_ @qwP (JA_ @qwy (JA_ @qwc (@qwi)))))
def bz1:=JA_ @qrE (JA_ @qrQ (JA_ @qnt (JA_ @qom (@qmQ))))
def bz2:=@qoE
def bz3:=JA_ @qpF (JA_ @qqQ (JA_ @qpa (@qmh)))
def bz5:=@qjy
end
noncomputable section
open Go.RowKit
structure Qy (α:Type) where
 a0:α
 a1:α
def eA2 {α:Type} (E:α→List D) (x:Qy α):List D:=E x.a0++E x.a1
structure qhC (α:Type) where
 a0:α
 a1:α
 a2:α
structure QE where
 Has:List (List Int)
 Odd:Qy (qhC Int)
 Programme:List Int
 Day:Int
structure qe where
 Worst:Int
 Best:Int
 Pass:Int
def qI (x:qe):List D:=[D.int .i64 x.Worst,D.int .i64 x.Best,D.int .i64 x.Pass]
theorem q1D (x:qe):qI x=[D.int .i64 x.Worst,D.int .i64 x.Best,D.int .i64 x.Pass]:=rfl
theorem q4t (x:qe):(qI x).length=3:=rfl
theorem q4E (x:qe):qe.mk x.Worst x.Best x.Pass=x:=rfl
structure qb where
 School:Int
 Code:ByteArray
def qh (x:qb):List D:=[D.int .i64 x.School,D.str x.Code]
theorem QU (x:qb):qh x=[D.int .i64 x.School,D.str x.Code]:=rfl
theorem q0p (x:qb):(qh x).length=2:=rfl
theorem q3C (x:qb):qb.mk x.School x.Code=x:=rfl
structure qa where
 Course:qb
 Credits:Int
 Grade:Int
 Day:Int
 Sources:List Int
 Bundle:Int
 Path:List Int
def qc (x:qa):List D:=[D.int .i64 x.Course.School,D.str x.Course.Code,D.int .i64 x.Credits,D.int .i64 x.Grade,D.int .i64 x.Day,D.sl 1 x.Sources.length (x.Sources.flatMap eI),D.int .i64 x.Bundle,D.sl 1 x.Path.length (x.Path.flatMap eI)]
theorem qW (x:qa):qc x=[D.int .i64 x.Course.School,D.str x.Course.Code,D.int .i64 x.Credits,D.int .i64 x.Grade,D.int .i64 x.Day,D.sl 1 x.Sources.length (x.Sources.flatMap eI),D.int .i64 x.Bundle,D.sl 1 x.Path.length (x.Path.flatMap eI)]:=rfl
theorem ZJ (x:qa):(qc x).length=8:=rfl
theorem q0C (x:qa):qa.mk x.Course x.Credits x.Grade x.Day x.Sources x.Bundle x.Path=x:=rfl
structure qg where
 Kind:Int
 N:Int
 Min:Int
 Set:List qb
 L:List qg
mutual
def ql:qg→List D
 | ⟨a0,a1,a2,a3,a4⟩=>[D.int .i64 a0,D.int .i64 a1,D.int .i64 a2,D.sl 2 a3.length (a3.flatMap qh),D.sl 5 a4.length (Q0 a4)]
def Q0:List qg→List D
 | []=>[]
 | x::l=>ql x++Q0 l
end
theorem q0q:∀l:List qg,Q0 l=l.flatMap ql
 | []=>rfl
 | x::l=>by rw[qyL,←q0q l,Q0]
theorem q20 (x:qg):ql x=[D.int .i64 x.Kind,D.int .i64 x.N,D.int .i64 x.Min,D.sl 2 x.Set.length (x.Set.flatMap qh),D.sl 5 x.L.length (x.L.flatMap ql)]:=by cases x;rw[ql,q0q]
theorem Z8 (x:qg):(ql x).length=5:=by rw[q20];rfl
theorem q5f (x:qg):qg.mk x.Kind x.N x.Min x.Set x.L=x:=by cases x;rfl
structure qd where
 School:Int
 Id:Int
 Version:Int
 From:Int
 Name:ByteArray
 Need:qg
 Total:Int
 Own:Int
 Age:Int
 Exclude:List (Qy qb)
theorem q1W (x:qd):qd.mk x.School x.Id x.Version x.From x.Name x.Need x.Total x.Own x.Age x.Exclude=x:=rfl
structure qf where
 L:List Int
 At:Int
theorem q3u (x:qf):qf.mk x.L x.At=x:=rfl
theorem q8C:∀x:(List Int),((eL 1 eI) x).length=1:=fun _=>rfl
theorem qly (v:List (List Int)):(v.flatMap (eL 1 eI)).length=v.length:=by rw[Jq q8C,Nat.mul_one]
theorem qar (v:List (List Int)) (i:Nat):ld T ((v.flatMap (eL 1 eI)).map C.d) (i) 25=(v[i]?).bind fun x=>some (.c (.d (D.sl 1 x.length (x.flatMap eI)))):=by rw[q3O q8C v i _ (by decide)];cases v[i]? with|none=>rfl|some x=>rfl
theorem q76:∀x:Int,(eI x).length=1:=fun _=>rfl
theorem qsN (v:List Int):(v.flatMap eI).length=v.length:=by rw[Jq q76,Nat.mul_one]
theorem qeX (v:List Int) (i:Nat):ld T ((v.flatMap eI).map C.d) (i) 3=(v[i]?).bind fun x=>some (.c (.d (D.int .i64 x))):=by rw[q3O q76 v i _ (by decide)];cases v[i]? with|none=>rfl|some x=>rfl
theorem qrc (v:List Int) (a:Int):(v.flatMap eI).map C.d++[C.d (D.int .i64 a)]=((v++[a]).flatMap eI).map C.d:=by have h:=q4c (E:=eI) v a;exact h
theorem qmK (v:List Int) (i:Nat) (a:Int):spr ((v.flatMap eI).map C.d) (i) [C.d (D.int .i64 a)]=((v.set i a).flatMap eI).map C.d:=by have h:=q7U q76 v i a;rw[Nat.mul_one] at h;exact h
theorem qmC (m:Nat):(List.replicate m [C.d (D.int .i64 0)]).flatten=((List.replicate m 0).flatMap eI).map C.d:=qkI (E:=eI) 0 (by rfl) m
theorem ZP:∀x:qa,(qc x).length=8:=ZJ
theorem qnk (v:List qa):(v.flatMap qc).length=v.length*8:=by rw[Jq ZP]
theorem qb3 (v:List qa) (i:Nat):ld T ((v.flatMap qc).map C.d) (i*8) 52=(v[i]?).bind fun x=>some (.agg [.d (D.int .i64 x.Course.School),.d (D.str x.Course.Code),.d (D.int .i64 x.Credits),.d (D.int .i64 x.Grade),.d (D.int .i64 x.Day),.d (D.sl 1 x.Sources.length (x.Sources.flatMap eI)),.d (D.int .i64 x.Bundle),.d (D.sl 1 x.Path.length (x.Path.flatMap eI))]):=by rw[q3Z ZP v i _ (by decide) (by decide)];cases v[i]? with|none=>rfl|some x=>rw[qxH,qxH,qW];rfl
theorem qcn (v:List qa) (i:Nat):ld T ((v.flatMap qc).map C.d) (i*8+1) 9=(v[i]?).bind fun x=>some (.c (.d (D.str x.Course.Code))):=by rw[q47 ZP v i 1 _ (by decide) (by decide)];cases v[i]? with|none=>rfl|some x=>rw[qxH,qxH,qW];rfl
theorem qe3 (v:List qa):ld T ((v.flatMap qc).map C.d) 9 9=(v[1]?).bind fun x=>some (.c (.d (D.str x.Course.Code))):=by have h:=qcn v 1;exact h
theorem qdr (v:List qa) (i:Nat):ld T ((v.flatMap qc).map C.d) (i*8+3) 3=(v[i]?).bind fun x=>some (.c (.d (D.int .i64 x.Grade))):=by rw[q47 ZP v i 3 _ (by decide) (by decide)];cases v[i]? with|none=>rfl|some x=>rw[qxH,qxH,qW];rfl
theorem qcW (v:List qa):ld T ((v.flatMap qc).map C.d) 3 3=(v[0]?).bind fun x=>some (.c (.d (D.int .i64 x.Grade))):=by have h:=qdr v 0;rwa [Nat.zero_mul,qy5] at h
theorem qax (v:List qa) (i:Nat):ld T ((v.flatMap qc).map C.d) (i*8+5) 25=(v[i]?).bind fun x=>some (.c (.d (D.sl 1 x.Sources.length (x.Sources.flatMap eI)))):=by rw[q47 ZP v i 5 _ (by decide) (by decide)];cases v[i]? with|none=>rfl|some x=>rw[qxH,qxH,qW];rfl
theorem qlv (v:List qa) (a_Course_School:Int) (a_Course_Code:ByteArray) (a_Credits:Int) (a_Grade:Int) (a_Day:Int) (a_Sources:List Int) (a_Bundle:Int) (a_Path:List Int):(v.flatMap qc).map C.d++[C.d (D.int .i64 a_Course_School),C.d (D.str a_Course_Code),C.d (D.int .i64 a_Credits),C.d (D.int .i64 a_Grade),C.d (D.int .i64 a_Day),C.d (D.sl 1 a_Sources.length (a_Sources.flatMap eI)),C.d (D.int .i64 a_Bundle),C.d (D.sl 1 a_Path.length (a_Path.flatMap eI))]=((v++[(qa.mk (qb.mk a_Course_School a_Course_Code) a_Credits a_Grade a_Day a_Sources a_Bundle a_Path)]).flatMap qc).map C.d:=by have h:=q4c (E:=qc) v (qa.mk (qb.mk a_Course_School a_Course_Code) a_Credits a_Grade a_Day a_Sources a_Bundle a_Path);rw[qW] at h;exact h
theorem qk2 (v:List qa) (i:Nat) (a_Course_School:Int) (a_Course_Code:ByteArray) (a_Credits:Int) (a_Grade:Int) (a_Day:Int) (a_Sources:List Int) (a_Bundle:Int) (a_Path:List Int):spr ((v.flatMap qc).map C.d) (i*8) [C.d (D.int .i64 a_Course_School),C.d (D.str a_Course_Code),C.d (D.int .i64 a_Credits),C.d (D.int .i64 a_Grade),C.d (D.int .i64 a_Day),C.d (D.sl 1 a_Sources.length (a_Sources.flatMap eI)),C.d (D.int .i64 a_Bundle),C.d (D.sl 1 a_Path.length (a_Path.flatMap eI))]=((v.set i (qa.mk (qb.mk a_Course_School a_Course_Code) a_Credits a_Grade a_Day a_Sources a_Bundle a_Path)).flatMap qc).map C.d:=by have h:=q7U ZP v i (qa.mk (qb.mk a_Course_School a_Course_Code) a_Credits a_Grade a_Day a_Sources a_Bundle a_Path);rw[qW] at h;exact h
theorem qmv (v:List qa) (ys:List C):dzc [0,0,0,0,0,1,0,1] [] ((v.flatMap qc).map C.d++ys)=(v.flatMap qc).map C.d++dzc [0,0,0,0,0,1,0,1] [] ys:=qhx ZP [0,0,0,0,0,1,0,1] rfl v ys
theorem qpO (v:List qa) (a:Nat):(v.flatMap qc).drop (a*8)=(v.drop a).flatMap qc:=by have h:=q5R ZP v a;exact h
theorem qop (v:List qa) (a:Nat):(v.flatMap qc).take (a*8)=(v.take a).flatMap qc:=by have h:=q65 ZP v a;exact h
theorem qkO (v:List qa) (a:Nat):((v.flatMap qc).map C.d).drop (a*8)=((v.drop a).flatMap qc).map C.d:=by rw[←List.map_drop,qpO]
theorem qkd (v:List qa) (a:Nat):((v.flatMap qc).map C.d).take (a*8)=((v.take a).flatMap qc).map C.d:=by rw[←List.map_take,qop]
theorem qfr (s:S) (v:List qa) (lo hi:Option Operand):xsl T s 32 (.c (.d (.sl 8 v.length (v.flatMap qc)))) lo hi=qpU s qc 8 v (s.bd lo 0) (s.bd hi v.length):=qoU ZP v lo hi (by rfl) (by rfl) (by decide)
theorem q1E:∀x:qb,(qh x).length=2:=q0p
theorem qmw (v:List qb):(v.flatMap qh).length=v.length*2:=by rw[Jq q1E]
theorem qaf (v:List qb) (i:Nat):ld T ((v.flatMap qh).map C.d) (i*2) 50=(v[i]?).bind fun x=>some (.agg [.d (D.int .i64 x.School),.d (D.str x.Code)]):=by rw[q3Z q1E v i _ (by decide) (by decide)];cases v[i]? with|none=>rfl|some x=>rw[qxH,qxH,QU];rfl
theorem qo1 (v:List qb) (a_School:Int) (a_Code:ByteArray):(v.flatMap qh).map C.d++[C.d (D.int .i64 a_School),C.d (D.str a_Code)]=((v++[(qb.mk a_School a_Code)]).flatMap qh).map C.d:=by have h:=q4c (E:=qh) v (qb.mk a_School a_Code);rw[QU] at h;exact h
theorem qjA (v:List qb) (i:Nat) (a_School:Int) (a_Code:ByteArray):spr ((v.flatMap qh).map C.d) (i*2) [C.d (D.int .i64 a_School),C.d (D.str a_Code)]=((v.set i (qb.mk a_School a_Code)).flatMap qh).map C.d:=by have h:=q7U q1E v i (qb.mk a_School a_Code);rw[QU] at h;exact h
theorem qnS (v:List qb) (a:Nat):(v.flatMap qh).drop (a*2)=(v.drop a).flatMap qh:=by have h:=q5R q1E v a;exact h
theorem qpv (v:List qb) (a:Nat):(v.flatMap qh).take (a*2)=(v.take a).flatMap qh:=by have h:=q65 q1E v a;exact h
theorem qjB (v:List qb) (a:Nat):((v.flatMap qh).map C.d).drop (a*2)=((v.drop a).flatMap qh).map C.d:=by rw[←List.map_drop,qnS]
theorem qit (v:List qb) (a:Nat):((v.flatMap qh).map C.d).take (a*2)=((v.take a).flatMap qh).map C.d:=by rw[←List.map_take,qpv]
theorem qjE (v w:List qb) (i:Nat):spl (v.flatMap qh) (i*2) (w.flatMap qh)=(spl v i w).flatMap qh:=by have h:=qcm q1E w v i;exact h
theorem qdA:∀x:qg,(ql x).length=5:=Z8
theorem qoD (v:List qg):(v.flatMap ql).length=v.length*5:=by rw[Jq qdA]
theorem qmP (v:List qg) (a_Kind:Int) (a_N:Int) (a_Min:Int) (a_Set:List qb) (a_L:List qg):(v.flatMap ql).map C.d++[C.d (D.int .i64 a_Kind),C.d (D.int .i64 a_N),C.d (D.int .i64 a_Min),C.d (D.sl 2 a_Set.length (a_Set.flatMap qh)),C.d (D.sl 5 a_L.length (a_L.flatMap ql))]=((v++[(qg.mk a_Kind a_N a_Min a_Set a_L)]).flatMap ql).map C.d:=by have h:=q4c (E:=ql) v (qg.mk a_Kind a_N a_Min a_Set a_L);rw[q20] at h;exact h
theorem qi5:∀x:(Qy qb),((eA2 qh) x).length=4:=fun _=>rfl
theorem qbY:∀x:qe,(qI x).length=3:=q4t
theorem qap (v:List qe) (i:Nat):ld T ((v.flatMap qI).map C.d) (i*3) 30=(v[i]?).bind fun x=>some (.agg [.d (D.int .i64 x.Worst),.d (D.int .i64 x.Best),.d (D.int .i64 x.Pass)]):=by rw[q3Z qbY v i _ (by decide) (by decide)];cases v[i]? with|none=>rfl|some x=>rw[qxH,qxH,q1D];rfl
theorem qbl:∀x:(List qa),((eL 8 qc) x).length=1:=fun _=>rfl
theorem qab (v:List (List qa)) (i:Nat):ld T ((v.flatMap (eL 8 qc)).map C.d) (i) 32=(v[i]?).bind fun x=>some (.c (.d (D.sl 8 x.length (x.flatMap qc)))):=by rw[q3O qbl v i _ (by decide)];cases v[i]? with|none=>rfl|some x=>rfl
theorem q8s:∀x:(Qy Int),((eA2 eI) x).length=2:=fun _=>rfl
theorem qmd (v:List (Qy Int)):(v.flatMap (eA2 eI)).length=v.length*2:=by rw[Jq q8s]
theorem qb1 (v:List (Qy Int)) (i:Nat):ld T ((v.flatMap (eA2 eI)).map C.d) (i*2) 81=(v[i]?).bind fun x=>some (.agg [.d (D.int .i64 x.a0),.d (D.int .i64 x.a1)]):=by rw[q3Z q8s v i _ (by decide) (by decide)];cases v[i]? with|none=>rfl|some x=>rw[qxH,qxH];rfl
theorem qlq (v:List (Qy Int)) (a_0:Int) (a_1:Int):(v.flatMap (eA2 eI)).map C.d++[C.d (D.int .i64 a_0),C.d (D.int .i64 a_1)]=((v++[(Qy.mk a_0 a_1)]).flatMap (eA2 eI)).map C.d:=by have h:=q4c (E:=(eA2 eI)) v (Qy.mk a_0 a_1);exact h
theorem qhp:∀x:ByteArray,(eS x).length=1:=fun _=>rfl
theorem qgL (v:List ByteArray) (i:Nat):ld T ((v.flatMap eS).map C.d) (i) 9=(v[i]?).bind fun x=>some (.c (.d (D.str x))):=by rw[q3O qhp v i _ (by decide)];cases v[i]? with|none=>rfl|some x=>rfl
theorem q3Y:∀x:(List Int),((oL 3 1 eI) x).length=1:=fun _=>rfl
theorem q0c:∀x:(List Int),((oL 3 1 eI) x).all C.pl=true:=fun _=>rfl
theorem qkk (v:List (List Int)):(v.flatMap (oL 3 1 eI)).length=v.length:=by rw[qhG q3Y,Nat.mul_one]
theorem qhV (v:List (List Int)) (k:Nat):(v.flatMap (oL 3 1 eI)).map (C.fg k)=v.flatMap (oL 3 1 eI):=qcM q0c (qrV k) v
theorem qic (v:List (List Int)) (ids:List Nat):(v.flatMap (oL 3 1 eI)).map (cn ids)=v.flatMap (oL 3 1 eI):=qcM q0c (qrs ids) v
theorem qiI (v:List (List Int))  : (v.flatMap (oL 3 1 eI)).map (C.kw)=v.flatMap (oL 3 1 eI):=qcM q0c (qr2) v
theorem qgB (v:List (List Int)) (k:Nat):(v.flatMap (oL 3 1 eI)).all (C.far k)=true:=qhD q0c (qoC k) v
theorem qeC (v:List (List Int)) (X:List Nat):(v.flatMap (oL 3 1 eI)).all (C.farF X)=true:=qhD q0c (qj7 X) v
theorem qc2 (v:List (List Int)):(v.flatMap (oL 3 1 eI)).any C.isNils=false:=qm7 q0c qhU v
theorem qby (v:List (List Int)):(v.flatMap (oL 3 1 eI)).flatMap C.refs=[]:=qol q0c qiE v
theorem qd1 (v:List (List Int)):(v.flatMap (oL 3 1 eI)).flatMap C.rows=[]:=qol q0c qjH v
theorem qkz (v:List (List Int)):(v.flatMap (oL 3 1 eI)).map C.uw=(v.flatMap (eL 1 eI)).map C.d:=qnA (E:=(oL 3 1 eI)) (F:=(eL 1 eI)) (fun _=>rfl) v
theorem qf5 (v:List (List Int)) (ys:List C):q5d [some (3,1)] [] (v.flatMap (oL 3 1 eI)++ys)=v.flatMap (oL 3 1 eI)++q5d [some (3,1)] [] ys:=qht q0c q3Y [some (3,1)] rfl v ys
theorem qd0 (v:List (List Int)) (i:Nat):(v.flatMap (oL 3 1 eI))[i]?=(v[i]?).bind fun x=>some (C.ow 3 1 x.length (x.flatMap eI)):=by have h:=qhN q3Y (show 0<1 by decide) v i;rwa [Nat.mul_one,Nat.add_zero] at h
theorem qgr (cs:List C) (o:Nat) (c:C):ld T (spr cs o [c]) o 25=(cs[o]?).bind fun _=>some (R.c c):=by rw[qt6 (by rw[k25];simp) (by rw[k25];simp) (by rw[k25];simp),qgi]
theorem qdH (v:List (List Int)) (i:Nat) (b:List Int):spr (v.flatMap (oL 3 1 eI)) i [C.ow 3 1 b.length (b.flatMap eI)]=(v.set i b).flatMap (oL 3 1 eI):=qhH q3Y (x:=b) rfl v i
theorem qb2 (v:List (List Int)) (i:Nat) (w:List Int) (z:Int):spr (v.flatMap (oL 3 1 eI)) i [C.ow 3 1 (w.length+1) ((w++[z]).flatMap eI)]=(v.set i (w++[z])).flatMap (oL 3 1 eI):=by have h:=qdH v i (w++[z]);rw[qxO] at h;exact h
theorem qgs (v:List (List Int)):v.flatMap (oL 3 1 eI)++[C.ow 3 1 0 []]=(v++[[]]).flatMap (oL 3 1 eI):=qoz (E:=(oL 3 1 eI)) v []
theorem qbd {α:Type} {E:α→List D} {k:Nat} (h:∀x,(E x).length=k) (hi:∀x y,E x=E y→x=y):∀x y:Qy α,eA2 E x=eA2 E y→x=y:=by
 rintro⟨a0,a1⟩ ⟨b0,b1⟩ e
 unfold eA2 at e
 dsimp only at e
 obtain⟨e,h1⟩:=List.append_inj' e (by rw[h,h])
 rw[hi _ _ e,hi _ _ h1]
theorem q1Z (v w:List Int):(v.flatMap eI=w.flatMap eI)=(v=w):=propext ⟨fun h=>(QY q76 (by decide) (fun x y h=>by injection h with h;injection h) _ _) h,fun h=>by rw[h]⟩
theorem q0f (v w:List (List Int)):(v.flatMap (eL 1 eI)=w.flatMap (eL 1 eI))=(v=w):=propext ⟨fun h=>(QY q8C (by decide) (fun x y h=>by injection h with h;injection h with _ _ h;exact(QY q76 (by decide) (fun x y h=>by injection h with h;injection h) _ _) h) _ _) h,fun h=>by rw[h]⟩
theorem q4X:∀x y:qe,qI x=qI y→x=y:=by
 rintro⟨a_0,a_1,a_2⟩ ⟨b_0,b_1,b_2⟩ h
 simp only[q1D,List.cons.injEq,D.int.injEq,D.bool.injEq,D.str.injEq,D.sl.injEq,true_and,and_true,q1Z,q0f] at h
 simp only[h]
theorem q0o:∀x y:qb,qh x=qh y→x=y:=by
 rintro⟨a_0,a_1⟩ ⟨b_0,b_1⟩ h
 simp only[QU,List.cons.injEq,D.int.injEq,D.bool.injEq,D.str.injEq,D.sl.injEq,true_and,and_true,q1Z,q0f] at h
 simp only[h]
theorem ZN:∀x y:qa,qc x=qc y→x=y:=by
 rintro⟨⟨a_0_0,a_0_1⟩,a_1,a_2,a_3,a_4,a_5,a_6⟩ ⟨⟨b_0_0,b_0_1⟩,b_1,b_2,b_3,b_4,b_5,b_6⟩ h
 simp only[qW,List.cons.injEq,D.int.injEq,D.bool.injEq,D.str.injEq,D.sl.injEq,true_and,and_true,q1Z,q0f] at h
 simp only[h]
theorem q2N (v w:List qa):(v.flatMap qc=w.flatMap qc)=(v=w):=propext ⟨fun h=>(QY ZP (by decide) ZN _ _) h,fun h=>by rw[h]⟩
theorem q2Z (v w:List qb):(v.flatMap qh=w.flatMap qh)=(v=w):=propext ⟨fun h=>(QY q1E (by decide) q0o _ _) h,fun h=>by rw[h]⟩
mutual
theorem q1A:∀x y:qg,ql x=ql y→x=y
 | ⟨a0,a1,a2,a3,a4⟩,⟨b0,b1,b2,b3,b4⟩,h=>by
  rw[ql,ql] at h
  simp only[List.cons.injEq,D.int.injEq,D.bool.injEq,D.str.injEq,D.sl.injEq,true_and,and_true,q1Z,q0f,q2N,q2Z] at h
  have hl:a4=b4:=q1c a4 b4 (by simp only[h])
  subst hl
  simp only[h]
theorem q1c:∀v w:List qg,Q0 v=Q0 w→v=w
 | [],[],_=>rfl
 | [],y::w,e=>by
  have:=congrArg List.length e
  rw[Q0,Q0,qxO,Z8] at this
  first|omega|(simp at this;done)|(simp at this;omega)
 | x::v,[],e=>by
  have:=congrArg List.length e
  rw[Q0,Q0,qxO,Z8] at this
  first|omega|(simp at this;done)|(simp at this;omega)
 | x::v,y::w,e=>by
  rw[Q0,Q0] at e
  obtain⟨h1,h2⟩:=List.append_inj e (by rw[Z8,Z8])
  rw[q1A x y h1,q1c v w h2]
end
theorem q4v (v w:List qg):(v.flatMap ql=w.flatMap ql)=(v=w):=propext ⟨fun h=>(QY qdA (by decide) q1A _ _) h,fun h=>by rw[h]⟩
theorem q48 (v w:List (Qy qb)):(v.flatMap (eA2 qh)=w.flatMap (eA2 qh))=(v=w):=propext ⟨fun h=>(QY qi5 (by decide) (qbd q0p q0o) _ _) h,fun h=>by rw[h]⟩
theorem q4V (v w:List qe):(v.flatMap qI=w.flatMap qI)=(v=w):=propext ⟨fun h=>(QY qbY (by decide) q4X _ _) h,fun h=>by rw[h]⟩
theorem q4B (v w:List (List qa)):(v.flatMap (eL 8 qc)=w.flatMap (eL 8 qc))=(v=w):=propext ⟨fun h=>(QY qbl (by decide) (fun x y h=>by injection h with h;injection h with _ _ h;exact(QY ZP (by decide) ZN _ _) h) _ _) h,fun h=>by rw[h]⟩
theorem q4H (v w:List (Qy Int)):(v.flatMap (eA2 eI)=w.flatMap (eA2 eI))=(v=w):=propext ⟨fun h=>(QY q8s (by decide) (qbd (fun _=>rfl) (fun x y h=>by injection h with h;injection h)) _ _) h,fun h=>by rw[h]⟩
theorem q6K (v w:List ByteArray):(v.flatMap eS=w.flatMap eS)=(v=w):=propext ⟨fun h=>(QY qhp (by decide) (fun x y h=>by injection h with h;injection h) _ _) h,fun h=>by rw[h]⟩
def Qd (v:Int):R:=R.c (C.d (D.int .i64 v))
theorem q40 (M M':List (Int×Int)):(B.ob (mpB (JJ .i64) Qd M)=B.ob (mpB (JJ .i64) Qd M'))=(M=M'):=qjx (fun a b h=>by injection h) (fun a b h=>by simp only[Qd,R.c.injEq,C.d.injEq,D.int.injEq,D.bool.injEq,D.str.injEq,D.sl.injEq,true_and,and_true,q1Z,q0f,q2N,q2Z,q4v,q48,q4V,q4B,q4H,q6K] at h;simp only[h]) M M'
theorem qoF (id:Nat) (M:List (Int×Int)):AO.mapR (R.fg id) (mpB (JJ .i64) Qd M)=mpB (JJ .i64) Qd M:=q2o (vE:=Qd) (fun v=>rfl) M
theorem qnQ (f:Nat→Nat) (M:List (Int×Int)):AO.mapR (R.rn0 f) (mpB (JJ .i64) Qd M)=mpB (JJ .i64) Qd M:=q2o (vE:=Qd) (fun v=>rfl) M
theorem qp5 (X:List Nat) (M:List (Int×Int)):AO.mapR (R.fgL X) (mpB (JJ .i64) Qd M)=mpB (JJ .i64) Qd M:=q2o (vE:=Qd) (fun v=>rfl) M
theorem qni (ids:List Nat) (M:List (Int×Int)):AO.mapR (qcp ids) (mpB (JJ .i64) Qd M)=mpB (JJ .i64) Qd M:=q2o (vE:=Qd) (fun v=>rfl) M
theorem qjk (M:List (Int×Int)):AO.mapR (R.nw0) (mpB (JJ .i64) Qd M)=mpB (JJ .i64) Qd M:=q2o (vE:=Qd) (fun v=>rfl) M
theorem qnO (M:List (Int×Int)):(mpB (JJ .i64) Qd M).Rs.all (R.scl0)=true:=qeI (fun v=>rfl) M
theorem qlF (X:List Nat) (M:List (Int×Int)):(mpB (JJ .i64) Qd M).Rs.all (R.farL X)=true:=qeI (fun v=>rfl) M
theorem qln (M:List (Int×Int)):(mpB (JJ .i64) Qd M).Rs.flatMap R.refs0=[]:=qgQ (fun v=>rfl) M
theorem qi3 (s:S) (sel:List Nat) (M:List (Int×Int)):cvA s sel (mpB (JJ .i64) Qd M)=some (mpB (JJ .i64) Qd M):=qhS (fun v=>rfl) M
theorem qfB (M:List (Int×Int)):((mpE (JJ .i64) Qd M 0).all fun q=>plK (Kd.int .i64) q.1)=true:=q8e (fun k r i=>rfl) M 0
theorem qi2 (ok:Bool) (k:Int) (M:List (Int×Int)):lkq ok (R.c (C.d (D.int .i64 0))) (fnd (Value.int .i64 k) (mpE (JJ .i64) Qd M 0) 0)=some (tt2 (R.c (C.d (D.int .i64 (Zi (0:Int) M k)))) ok (qb7 M k)):=qss (vE:=Qd) (kE:=(JJ .i64)) (qh9 _) ((0:Int)) ok k M
theorem qjU (k:Int) (v:Int) (M:List (Int×Int)):mup (Kd.int .i64) (Value.int .i64 k) (R.c (C.d (D.int .i64 v))) (.ob (mpB (JJ .i64) Qd M))=some (.ob (mpB (JJ .i64) Qd (q3m M k v))):=qr0 (vE:=Qd) (kE:=(JJ .i64)) (qh9 _) (fun a=>rfl) k v M
theorem qlr (s:S) (p:Nat):q0g T s p 82 none=some (.c (.hd .map p),s.up [(p,.ob (mpB (JJ .i64) Qd ([]:List (Int×Int))))]):=rfl
theorem qkK (l:List qa) (i j:Int):qaC 52 8 0 [.c (.own 0 8 0 l.length),.c (.d (.int .i64 i)),.c (.d (.int .i64 j))] [(0,.row 52 8 ((l.flatMap qc).map C.d))]=if 0≤i∧j=i+1∧i<l.length then some (.c (.own 0 8 0 (l.eraseIdx i.toNat).length),[(0,.row 52 8 (((l.eraseIdx i.toNat).flatMap qc).map C.d))]) else none:=qjR ZJ l i j rfl
end
noncomputable section
open Go.RowKit
theorem qqC:q7D Try.prog 50=true:=by kernel_rfl
def by0:=JA_ @k3 (JA_ @z3 (JA_ @b3 (JA_ @o3 (JA_ @q3 (JA_ @k4 (@q4))))))
def by1:=JA_ @k9 (JA_ @z9 (@q9))
def by2:=JA_ @k22 (JA_ @z22 (JA_ @q22 (JA_ @k23 (JA_ @z23 (JA_ @o23 (JA_ @k24 (JA_ @z24 (JA_ @k25 (JA_ @z25 (@b25))))))))))
def by3:=JA_ @o25 (JA_ @q25 (JA_ @k26 (JA_ @z26 (JA_ @k28 (JA_ @z28 (JA_ @q28 (JA_ @k30 (JA_ @z30 (JA_ @o30 (JA_ @q30 (JA_ @k32 (JA_ @z32 (JA_ @q32 (JA_ @k33 (@z33)))))))))))))))
def by4:=JA_ @q33 (JA_ @k34 (JA_ @z34 (JA_ @k36 (JA_ @z36 (JA_ @b36 (JA_ @o36 (JA_ @q36 (JA_ @k37 (JA_ @z37 (JA_ @k39 (JA_ @z39 (JA_ @o39 (@q39)))))))))))))
def by5:=JA_ @k43 (JA_ @k44 (JA_ @q45 (JA_ @k50 (JA_ @z50 (JA_ @b50 (JA_ @o50 (@q50)))))))
def by6:=JA_ @k52 (JA_ @z52 (JA_ @b52 (JA_ @o52 (@q52))))
def by7:=@k60
def by8:=JA_ @k69 (JA_ @o69 (@q69))
def by9:=JA_ @q78 (JA_ @k80 (JA_ @k81 (JA_ @z81 (JA_ @b81 (JA_ @o81 (JA_ @q81 (JA_ @k82 (JA_ @z82 (JA_ @o82 (JA_ @q82 (@q83)))))))))))
def qw0:=JA_ @q87 (JA_ @k89 (JA_ @o89 (JA_ @k90 (@q90))))
def qxl:=JA_ @q92 (JA_ @k93 (JA_ @o93 (JA_ @k96 (JA_ @z96 (JA_ @o96 (@q96))))))
def qwa:=JA_ @qvA (JA_ @qwL (JA_ @qvt (@qw8)))
def qvr:=JA_ @qqC (JA_ @bk_ (JA_ @qxm (JA_ @qpB (JA_ @qwm (@qx2)))))
def qxp:=JA_ @qt3 (JA_ @qsL (JA_ @qsW (JA_ @qru (JA_ @qrK (JA_ @qsM (JA_ @qsf (JA_ @qsi (JA_ @qsb (JA_ @qtf (@qtg))))))))))
def qwv:=JA_ @qts (JA_ @qrY (JA_ @qrv (JA_ @qs1 (JA_ @qsh (JA_ @qqU (@qsm))))))
def qx6:=JA_ @qr9 (@qsy)
def qx0:=JA_ @qr7 (JA_ @qrh (JA_ @qrk (JA_ @qsg (JA_ @qtb (JA_ @qrW (@qsd))))))
def qvk:=JA_ @qnv (@qne)
def qw9:=JA_ @pw3 (JA_ @pw8 (JA_ @pw9 (JA_ @quZ (JA_ @qqx (JA_ @qtM (JA_ @qtF (JA_ @quh (JA_ @qtU (JA_ @qut (JA_ @qvb (JA_ @quV (JA_ @quw (JA_ @quX (JA_ @quM (JA_ @quP (JA_ @quD (JA_ @qub (JA_ @quk (JA_ @qv5 (JA_ @qug (JA_ @qtN (JA_ @quG (JA_ @qum (JA_ @quY (JA_ @quH (JA_ @qtZ (@qua)))))))))))))))))))))))))))
def qxw:=JA_ @qus (JA_ @qvc (JA_ @quI (JA_ @qtI (JA_ @qtz (JA_ @qtK (JA_ @qtw (JA_ @qv3 (JA_ @qur (JA_ @qtS (JA_ @qtW (JA_ @qv8 (JA_ @qve (JA_ @qu3 (JA_ @qrq (JA_ @qul (JA_ @qvf (JA_ @qtD (JA_ @quA (JA_ @qtm (JA_ @qva (JA_ @qtR (JA_ @qtJ (JA_ @qu5 (JA_ @qv0 (JA_ @qs7 (JA_ @qu7 (JA_ @quz (JA_ @qtB (JA_ @quR (@qtT))))))))))))))))))))))))))))))
def qvs:=JA_ @qvi (JA_ @qu2 (JA_ @qtX (JA_ @qtq (JA_ @qv2 (JA_ @quj (JA_ @quc (JA_ @qv7 (JA_ @qvd (JA_ @quJ (@qwt))))))))))
def qvh:=JA_ @qsH (JA_ @qqH (JA_ @qqR (JA_ @qsl (JA_ @qrA (JA_ @qqI (JA_ @qsO (JA_ @qth (JA_ @qrJ (JA_ @qsz (JA_ @qqN (JA_ @qrL (@qqG))))))))))))
def qxa:=JA_ @qrn (JA_ @qsv (JA_ @qsa (JA_ @qri (JA_ @qsn (JA_ @qte (JA_ @qrX (JA_ @qrI (JA_ @qqW (JA_ @qtc (JA_ @qtk (JA_ @qrb (JA_ @qqP (JA_ @qsx (JA_ @qsU (JA_ @qrx (JA_ @qsk (JA_ @qqE (@qsJ))))))))))))))))))
def qxB:=JA_ @qmE (JA_ @qmL (JA_ @qtr (JA_ @qqK (JA_ @qsA (JA_ @qpz (JA_ @qpl (JA_ @qlT (JA_ @ql2 (@qli)))))))))
def qxb:=JA_ @qmm (JA_ @qiA (JA_ @qj0 (JA_ @qkD (JA_ @qjv (JA_ @qlb (JA_ @qo7 (JA_ @qoT (JA_ @qlu (JA_ @qm8 (JA_ @qoe (JA_ @qoK (JA_ @qlt (JA_ @qpi (JA_ @qo3 (JA_ @qor (JA_ @qmi (JA_ @qnf (JA_ @qjW (JA_ @qpI (JA_ @qpr (JA_ @qo5 (JA_ @qpn (JA_ @qlf (@qoR))))))))))))))))))))))))
def qvv:=JA_ @ql9 (JA_ @qnX (@qlE))
def qwC:=JA_ @qrj (JA_ @qoH (JA_ @qt5 (JA_ @qsj (JA_ @qld (JA_ @qj3 (@qmO))))))
def qwj:=JA_ @qmk (JA_ @qmS (JA_ @qkL (JA_ @qiz (JA_ @qiO (JA_ @qkl (JA_ @qm2 (JA_ @ql1 (JA_ @qod (JA_ @qlL (JA_ @qpG (JA_ @qlZ (JA_ @qob (JA_ @ql8 (JA_ @qmI (JA_ @qn5 (JA_ @qny (JA_ @qnT (JA_ @qpP (JA_ @qka (JA_ @qox (JA_ @qlO (JA_ @qlk (JA_ @qj6 (JA_ @qhY (@qpe)))))))))))))))))))))))))
def qxz:=JA_ @qlp (JA_ @qsD (JA_ @qnI (JA_ @qrw (JA_ @qs5 (JA_ @qlI (JA_ @qkJ (JA_ @qn0 (@qp3))))))))
def qwl:=JA_ @qjn (JA_ @qiD (JA_ @qjZ (JA_ @qk8 (JA_ @qpm (JA_ @qlK (JA_ @qnV (JA_ @qp9 (JA_ @qn6 (JA_ @qml (JA_ @qoy (JA_ @qnr (JA_ @qpy (JA_ @qnZ (JA_ @qm9 (JA_ @qlM (JA_ @qp0 (JA_ @qk3 (JA_ @qnP (JA_ @qmu (JA_ @qpp (JA_ @qk5 (JA_ @qiC (@qow)))))))))))))))))))))))
def bt0:=JA_ @qly (JA_ @qar (JA_ @qsN (JA_ @qeX (JA_ @qrc (JA_ @qmK (JA_ @qmC (JA_ @qnk (@qb3))))))))
def bt1:=JA_ @qe3 (JA_ @qcW (JA_ @qax (JA_ @qlv (@qk2))))
def bt2:=JA_ @qmv (JA_ @qkO (JA_ @qkd (JA_ @qfr (JA_ @qmw (JA_ @qaf (JA_ @qo1 (JA_ @qjA (@qjB))))))))
def bt3:=JA_ @qit (JA_ @qjE (JA_ @qoD (@qmP)))
def bt5:=@qap
def bt6:=JA_ @qab (JA_ @qmd (JA_ @qb1 (@qlq)))
def bt7:=JA_ @qgL (JA_ @qoF (JA_ @qnQ (JA_ @qp5 (JA_ @qni (JA_ @qjk (@qnO))))))
def bt8:=JA_ @qlF (JA_ @qln (JA_ @qi3 (JA_ @qfB (JA_ @qi2 (JA_ @qjU (JA_ @qlr (JA_ @qkK (JA_ @qkk (JA_ @qhV (JA_ @qic (JA_ @qiI (JA_ @qgB (JA_ @qeC (JA_ @qc2 (JA_ @qby (JA_ @qd1 (JA_ @qkz (JA_ @qf5 (JA_ @qd0 (JA_ @qgr (JA_ @qb2 (JA_ @qgs (@q4E)))))))))))))))))))))))
def bt9:=JA_ @q5f (JA_ @q1W (JA_ @q3C (JA_ @q0C (@q3u))))
def bA:=JA_ @bx0 (JA_ @bx1 (JA_ @bx2 (JA_ @bx3 (JA_ @bx4 (JA_ @bx5 (JA_ @bx6 (JA_ @bx7 (JA_ @bx8 (JA_ @bx9 (JA_ @qwJ (JA_ @qxv (JA_ @qwz (JA_ @qvz (JA_ @qvY (JA_ @qwe (JA_ @qwu (JA_ @qvn (JA_ @qxo (JA_ @qxc (JA_ @qvo (JA_ @qwf (JA_ @qxn (JA_ @qw1 (JA_ @qvJ (JA_ @qxu (JA_ @qvH (JA_ @qwM (JA_ @qx3 (JA_ @qxk (JA_ @qwZ (JA_ @qxf (JA_ @bz0 (JA_ @bz1 (JA_ @bz2 (JA_ @bz3 (JA_ @bz5 (JA_ @by0 (JA_ @by1 (JA_ @by2 (JA_ @by3 (JA_ @by4 (JA_ @by5 (JA_ @by6 (JA_ @by7 (JA_ @by8 (JA_ @by9 (JA_ @qw0 (JA_ @qxl (JA_ @qwa (JA_ @qvr (JA_ @qxp (JA_ @qwv (JA_ @qx6 (JA_ @qx0 (JA_ @qvk (JA_ @qw9 (JA_ @qxw (JA_ @qvs (JA_ @qvh (JA_ @qxa (JA_ @qxB (JA_ @qxb (JA_ @qvv (JA_ @qwC (JA_ @qwj (JA_ @qxz (JA_ @qwl (JA_ @bt0 (JA_ @bt1 (JA_ @bt2 (JA_ @bt3 (JA_ @bt5 (JA_ @bt6 (JA_ @bt7 (JA_ @bt8 (@bt9))))))))))))))))))))))))))))))))))))))))))))))))))))))))))))))))))))))))))))
def bZ:=JA_ @qxO.{0} (JA_ @qys.{0} (JA_ @q0h (JA_ @qyo.{0} (JA_ @qxS.{0} (JA_ @qyq.{0} (JA_ @qy5 (JA_ @qyL.{0,0} (JA_ @List.flatMap_nil.{0,0} (JA_ @qy4.{0,0} (JA_ @List.map_nil.{0,0} (JA_ @eI.eq_1 (JA_ @eS.eq_1 (JA_ @qyM.{0} (JA_ @qy1.{0} (JA_ @qy2.{0} (JA_ @List.flatMap_append.{0,0} (JA_ @List.map_append.{0,0} (JA_ @QU (JA_ @qW (@eA2.eq_1))))))))))))))))))))
theorem gA {P:Prop} (h:P:=by simp -implicitDefEqProofs (maxSteps:=10000000) only[bA,Int.reduceToNat,Int.reduceLT,Int.reduceLE,Int.reduceAdd,Int.reduceSub,Int.reduceMul,Int.reduceNeg,Int.reduceEq,Int.reduceNe,Int.reduceBEq,Int.reduceBNe,Nat.reduceLT,Nat.reduceAdd,Nat.reduceMul,Nat.reduceSub,Nat.reduceEqDiff,Nat.reduceLeDiff,Nat.reduceBEq,Nat.reduceBNe,↓reduceIte,reduceCtorEq,pure,bind,w64,qS,QV,Option.or_some,Option.or_none,Option.none_or,Option.some_or, *]<;>simp only[rL,dL,bR,bZ,Nat.reduceAdd]):P:=h
end
noncomputable section
open Go.RowKit
section
variable {τ ε:Type} {step:τ→Option (τ⊕ε)}
theorem zZ {x y:τ} (h:step x=some (.inl y)):qz step x=qz step y:=by
 rw[qbk,h];rfl
theorem qY {x:τ} {e:ε} (h:step x=some (.inr e)):qz step x=some e:=by
 rw[qbk,h];rfl
theorem q2n {e:ε} (st:Nat→τ) (i0 n:Nat) (h0:i0≤n) (h:∀i,i0≤i→i<n→step (st i)=some (.inl (st (i+1)))) (hn:step (st n)=some (.inr e)):qz step (st i0)=some e:=by
 have key:∀j i,j+i=n→i0≤i→qz step (st i)=some e:=by
  intro j
  induction j with
  | zero=>intro i hi _;rw[qy5] at hi;subst hi;exact qY hn
  | succ j ih=>intro i hi h1;rw[zZ (h i h1 (by omega))];exact ih (i+1) (by omega) (by omega)
 exact key (n-i0) i0 (by omega) (qxX _)
def q6k {α β ε:Type} (g:β→α→β⊕ε) (fin:β→ε):List α→β→ε
 | [],b=>fin b
 | a::l,b=>match g b a with
  | .inl b'=>q6k g fin l b'
  | .inr e=>e
theorem q5J {α β:Type} (l:List α) (st:β→Nat→τ) (g:β→α→β⊕ε) (fin:β→ε)
  (h:∀b i a,l[i]?=some a→step (st b i)=some (match g b a with | .inl b' => .inl (st b' (i+1)) | .inr e => .inr e)) (hn:∀b,step (st b l.length)=some (.inr (fin b))) (b:β):qz step (st b 0)=some (q6k g fin l b):=by
 have key:∀(r:List α) (i:Nat) (b:β),r.length+i=l.length→(∀j,r[j]?=l[i+j]?)→qz step (st b i)=some (q6k g fin r b):=by
  intro r
  induction r with
  | nil=>
   intro i b hi _
   have hi:i=l.length:=by simpa using hi
   subst hi;exact qY (hn b)
  | cons a r ih=>
   intro i b hi hr
   have ha:l[i]?=some a:=by have:=hr 0;simpa using this.symm
   have h1:=h b i a ha
   unfold q6k
   cases hg:g b a with
   | inl b'=>
    rw[hg] at h1
    rw[zZ h1]
    refine ih (i+1) b' (by simp at hi;omega) fun j=>?_
    have:=hr (j+1)
    rw[show i+1+j=i+(j+1) by omega,←this];rfl
   | inr e=>
    rw[hg] at h1
    exact qY h1
 exact key l 0 b (by simp) (by simp)
theorem q3g {α β:Type} (l:List α) (st:β→Nat→τ) (g:β→α→β) (fin:β→ε)
  (h:∀b i a,l[i]?=some a→step (st b i)=some (.inl (st (g b a) (i+1)))) (hn:∀b,step (st b l.length)=some (.inr (fin b))) (b:β):qz step (st b 0)=some (fin (l.foldl g b)):=by
 rw[q5J l st (fun b a => .inl (g b a)) fin h hn b]
 congr 1
 induction l generalizing b with
 | nil=>rfl
 | cons a l ih=>
  unfold q6k
  simp only[qyK]
  clear h hn
  have:∀(l:List α) (b:β),q6k (ε:=ε) (fun b a => .inl (g b a)) fin l b=fin (l.foldl g b):=by
   intro l
   induction l with
   | nil=>intro b;rfl
   | cons a l ih=>intro b;unfold q6k;simp only[qyK];exact ih _
  exact this l _
theorem qcV {α:Type} (l:List α) (st:Nat→τ) (p:α→Option ε) (d:ε)
  (h:∀i a,l[i]?=some a→step (st i)=some (match p a with|some e => .inr e|none => .inl (st (i+1)))) (hn:step (st l.length)=some (.inr d)):qz step (st 0)=some ((l.findSome? p).getD d):=by
 have h1:=q5J (ε:=ε) (β:=Unit) l (fun _ i=>st i) (fun _ a=>match p a with|some e => .inr e|none => .inl ()) (fun _=>d) (fun b i a ha=>by
  rw[h i a ha];cases p a<;>rfl) (fun _=>hn) ()
 rw[h1]
 congr 1
 have:∀l:List α,q6k (ε:=ε) (fun(_:Unit) a=>match p a with|some e => .inr e|none => .inl ()) (fun _=>d) l ()=(l.findSome? p).getD d:=by
  intro l
  induction l with
  | nil=>rfl
  | cons a l ih=>
   unfold q6k
   rw[List.findSome?_cons]
   cases p a with
   | none=>simpa using ih
   | some e=>rfl
 exact this l
def q8I {α β ε:Type} (g:Nat→β→α→β⊕ε) (fin:β→ε):List α→Nat→β→ε
 | [],_,b=>fin b
 | a::l,i,b=>match g i b a with
  | .inl b'=>q8I g fin l (i+1) b'
  | .inr e=>e
theorem qal {α β:Type} (l:List α) (st:β→Nat→τ) (g:Nat→β→α→β⊕ε) (fin:β→ε)
  (h:∀b i a,l[i]?=some a→step (st b i)=some (match g i b a with | .inl b' => .inl (st b' (i+1)) | .inr e => .inr e)) (hn:∀b,step (st b l.length)=some (.inr (fin b))) (b:β):qz step (st b 0)=some (q8I g fin l 0 b):=by
 have key:∀(r:List α) (i:Nat) (b:β),r.length+i=l.length→(∀j,r[j]?=l[i+j]?)→qz step (st b i)=some (q8I g fin r i b):=by
  intro r
  induction r with
  | nil=>
   intro i b hi _
   have hi:i=l.length:=by simpa using hi
   subst hi;exact qY (hn b)
  | cons a r ih=>
   intro i b hi hr
   have ha:l[i]?=some a:=by have:=hr 0;simpa using this.symm
   have h1:=h b i a ha
   unfold q8I
   cases hg:g i b a with
   | inl b'=>
    rw[hg] at h1
    rw[zZ h1]
    refine ih (i+1) b' (by simp at hi;omega) fun j=>?_
    have:=hr (j+1)
    rw[show i+1+j=i+(j+1) by omega,←this];rfl
   | inr e=>
    rw[hg] at h1
    exact qY h1
 exact key l 0 b (by simp) (by simp)
end
theorem Qb {α:Type} {l:List α} {i:Nat} {a:α} (h:l[i]?=some a):i<l.length:=(qxL.1 h).1
theorem zH {n:Int} (h0 : -9223372036854775808≤n) (h1:n≤9223372036854775807):w64 n=n:=wi n h0 h1
theorem q6b {i n:Nat} (h:i<n) (hn:n≤9223372036854775807):w64 ((i:Int)+1)=((i+1:Nat):Int):=by
 rw[zH (by omega) (by omega)];omega
end
noncomputable section
open Go.RowKit
set_option maxRecDepth 20000
set_option maxHeartbeats 8000000
theorem qig:okL 19 q2r:=qB (qi qfD) (by kernel_rfl) (by kernel_rfl)
def qjo:=JA_ @q2r.eq_1 (JA_ @Try.f19.eq_1 @qfD)
theorem qmG:lbO 19 4=qdk:=zE (qi qfD) rfl
theorem qnB:okL 19 qdk:=qT qig (qxI (i:=0) (by kernel_rfl))
theorem qlw:lbO 19 8=qd2:=zE (qi qfD) rfl
theorem qng:okL 19 qd2:=qT qig (qxI (i:=1) (by kernel_rfl))
theorem qim:lbO 19 15=q8o:=zE (qi qfD) rfl
theorem qkr:okL 19 q8o:=qT qig (qxI (i:=2) (by kernel_rfl))
theorem qiT:lbO 19 17=q8r:=zE (qi qfD) rfl
theorem qkt:okL 19 q8r:=qT qig (qxI (i:=3) (by kernel_rfl))
theorem qkR:lbO 19 25=q8K:=zE (qi qfD) rfl
theorem qiv:okL 19 q8K:=qT qig (qxI (i:=4) (by kernel_rfl))
theorem qjS:lbO 19 32=q8z:=zE (qi qfD) rfl
theorem qi9:okL 19 q8z:=qT qig (qxI (i:=5) (by kernel_rfl))
theorem qxd:okL 23 qeH:=qB (qi qsF) (by kernel_rfl) (by kernel_rfl)
def qwp:=JA_ @qeH.eq_1 (JA_ @Try.f23.eq_1 @qsF)
theorem qu8:okL 38 q8Q:=qB (qi qq6) (by kernel_rfl) (by kernel_rfl)
def qtE:=JA_ @q8Q.eq_1 (JA_ @Try.f38.eq_1 @qq6)
theorem qmx:lbO 38 4=qcX:=zE (qi qq6) rfl
theorem qoL:okL 38 qcX:=qT qu8 (qxI (i:=0) (by kernel_rfl))
def qL (s1:List Int) (s2:List Int) (t12:Int):Int→Option (Int⊕(Unit⊕Unit))|t13=>if t13<t12 then if 0≤t13∧t13<((s1.length:Nat):Int) then Option.bind s1[Int.toNat t13]? fun(a:Int)=>if 0≤t13∧t13<((s2.length:Nat):Int) then Option.bind s2[Int.toNat t13]? fun(a2:Int)=>if(a != a2)=Bool.true then some (Sum.inr (Sum.inl ())) else some (Sum.inl (w64 (t13+1))) else none else none else some (Sum.inr (Sum.inr ()))
theorem ZT:∀(s1 s2:List Int) (t12 t13:Int),XL2 evo 38 0 4 ⟨[(0,rL 1 eI s1),(1,rL 1 eI s2),(12,rI t12),(13,rI t13)],[],0,26⟩=(qz (qL s1 s2 t12) t13).bind (Sum.elim (fun(e:Unit)=>some (Exit.ret,⟨[(4,rB Bool.false)],[],0,26⟩)) (fun(e:Unit)=>some (Exit.exit 0,⟨[(4,R.any)],[],0,26⟩))):=
 fun s1 s2 t12 t13=>by
  revert t13;exact q5l qmx qoL (fun e=>by rcases e with _|_<;>exact⟨_,rfl,fun h=>by cases h⟩) fun x=>by
   have:=qtE;have:=@qcX.eq_1;have:=@qL.eq_1;exact gA
def zc (s1:List Int) (s2:List Int):Option Bool:=if(((s1.length:Nat):Int) != ((s2.length:Nat):Int))=Bool.true then some Bool.false else Option.bind (qz (qL s1 s2 ((s1.length:Nat):Int)) 0) fun(a:Sum Unit Unit)=>Sum.elim (fun(a2:Unit)=>some Bool.false) (fun(a3:Unit)=>some Bool.true) a
theorem Z7:∀(s1 s2:List Int),ev 38 0 [rL 1 eI s1,rL 1 eI s2] []=(zc s1 s2).bind (fun(e:Bool)=>some (rB e,[])):=
 fun s1 s2=>by
  rw[qy qq6 qus.2.2.2 qu8]
  have:=qtE;have:=@ZT;have:=@zc.eq_1;exact gA
theorem qvN:okL 48 qbO:=qB (qi qqS) (by kernel_rfl) (by kernel_rfl)
def qxC:=JA_ @qbO.eq_1 (JA_ @Try.f48.eq_1 @qqS)
theorem quy:okL 61 qdC:=qB (qi qqw) (by kernel_rfl) (by kernel_rfl)
def qtA:=JA_ @qdC.eq_1 (JA_ @Try.f61.eq_1 @qqw)
theorem qrN:okL 81 q9k:=qB (qi qp8) (by kernel_rfl) (by kernel_rfl)
def qqd:=JA_ @q9k.eq_1 (JA_ @Try.f81.eq_1 @qp8)
theorem qhr:lbO 81 2=q9H:=zE (qi qp8) rfl
theorem qhk:okL 81 q9H:=qT qrN (qxI (i:=0) (by kernel_rfl))
theorem qwI:okL 71 qdc:=qB (qi qqY) (by kernel_rfl) (by kernel_rfl)
def qvK:=JA_ @qdc.eq_1 (JA_ @Try.f71.eq_1 @qqY)
theorem qwG:okL 60 qcl:=qB (qi qrR) (by kernel_rfl) (by kernel_rfl)
def qww:=JA_ @qcl.eq_1 (JA_ @Try.f60.eq_1 @qrR)
theorem qud:okL 80 q9D:=qB (qi qpS) (by kernel_rfl) (by kernel_rfl)
def quU:=JA_ @q9D.eq_1 (JA_ @Try.f80.eq_1 @qpS)
theorem qlC:lbO 80 2=qc8:=zE (qi qpS) rfl
theorem ql7:okL 80 qc8:=qT qud (qxI (i:=0) (by kernel_rfl))
def qU (s:List Int) (v:Int) (t7:Int):Int→Option (Int⊕(Int⊕Unit))|t8=>if t8<t7 then if 0≤t8∧t8<((s.length:Nat):Int) then Option.bind s[Int.toNat t8]? fun(a:Int)=>if(v==a)=Bool.true then some (Sum.inr (Sum.inl t8)) else some (Sum.inl (w64 (t8+1))) else none else some (Sum.inr (Sum.inr ()))
theorem ZX:∀(s:List Int) (v t7 t8:Int),XL2 evo 80 0 2 ⟨[(0,rL 1 eI s),(1,rI v),(7,rI t7),(8,rI t8)],[],0,19⟩=(qz (qU s v t7) t8).bind (Sum.elim (fun(e:Int)=>some (Exit.ret,⟨[(4,rI e)],[],0,19⟩)) (fun(e:Unit)=>some (Exit.exit 0,⟨[(4,R.any)],[],0,19⟩))):=
 fun s v t7 t8=>by
  revert t8;exact q5l qlC ql7 (fun e=>by rcases e with _|_<;>exact⟨_,rfl,fun h=>by cases h⟩) fun x=>by
   have:=quU;have:=@qc8.eq_1;have:=@qU.eq_1;exact gA
def Qc (s:List Int) (v:Int):Option Int:=Option.bind (qz (qU s v ((s.length:Nat):Int)) 0) fun(a:Sum Int Unit)=>Sum.elim (fun(a2:Int)=>some a2) (fun(a3:Unit)=>some (-1)) a
theorem JF:∀(s:List Int) (v:Int),ev 80 0 [rL 1 eI s,rI v] []=(Qc s v).bind (fun(e:Int)=>some (rI e,[])):=
 fun s v=>by
  rw[qy qpS qtX.2.2.2 qud]
  have:=quU;have:=@ZX;have:=@Qc.eq_1;exact gA
def qV (s:List Int) (v:Int):Option Bool:=Option.bind (Qc s v) fun(a:Int)=>some (decide (0≤a))
theorem QM:∀(s:List Int) (v:Int),ev 60 0 [rL 1 eI s,rI v] []=(qV s v).bind (fun(e:Bool)=>some (rB e,[])):=
 fun s v=>by
  rw[qy qrR quA.2.2.2 qwG]
  have:=qww;have:=@JF;have:=@qV.eq_1;exact gA
def QL (x:Int) (v:List Int):Option Bool:=Option.bind (qV v x) fun(a:Bool)=>some a
theorem q0N:∀(x:Int) (v:List Int),ev 71 1 [rI x,rP 0] [(0,B.blk 25 [dL 1 eI v])]=(QL x v).bind (fun(e:Bool)=>some (rB e,[(0,B.blk 25 [dL 1 eI v])])):=
 fun x v=>by
  rw[qy qqY qtB.2.2.2 qwI]
  have:=qvK;have:=@QM;have:=@QL.eq_1;exact gA
def qJ (b0:List Int) (s:List Int) (t7:Int):Int→Option (Int⊕(Int⊕Unit))|t8=>if t8<t7 then if 0≤t8∧t8<((s.length:Nat):Int) then Option.bind s[Int.toNat t8]? fun(a:Int)=>Option.bind (QL a b0) fun(a2:Bool)=>if a2=Bool.true then some (Sum.inr (Sum.inl t8)) else some (Sum.inl (w64 (t8+1))) else none else some (Sum.inr (Sum.inr ()))
theorem Zt:∀(b0 s:List Int) (t7 t8:Int),XL2 evo 81 1 2 ⟨[(0,rL 1 eI s),(1,R.c (C.fn 71 [] [dP 0])),(7,rI t7),(8,rI t8)],[(0,B.blk 25 [dL 1 eI b0])],1,19⟩=(qz (qJ b0 s t7) t8).bind (Sum.elim (fun(e:Int)=>some (Exit.ret,⟨[(4,rI e)],[(0,B.blk 25 [dL 1 eI b0])],1,19⟩)) (fun(e:Unit)=>some (Exit.exit 0,⟨[(4,R.any)],[(0,B.blk 25 [dL 1 eI b0])],1,19⟩))):=
 fun b0 s t7 t8=>by
  revert t8;exact q5l qhr qhk (fun e=>by rcases e with _|_<;>exact⟨_,rfl,fun h=>by cases h⟩) fun x=>by
   have:=qqd;have:=@q9H.eq_1;have:=@q0N;have:=@qJ.eq_1;exact gA
def zG (s:List Int) (b0:List Int):Option Int:=Option.bind (qz (qJ b0 s ((s.length:Nat):Int)) 0) fun(a:Sum Int Unit)=>Sum.elim (fun(a2:Int)=>some a2) (fun(a3:Unit)=>some (-1)) a
theorem ZQ:∀(s b0:List Int),ev 81 1 [rL 1 eI s,R.c (C.fn 71 [] [dP 0])] [(0,B.blk 25 [dL 1 eI b0])]=(zG s b0).bind (fun(e:Int)=>some (rI e,[(0,B.blk 25 [dL 1 eI b0])])):=
 fun s b0=>by
  rw[qy qp8 qtq.2.2.2 qrN]
  have:=qqd;have:=@Zt;have:=@zG.eq_1;exact gA
def zi (s:List Int) (b0:List Int):Option Bool:=Option.bind (zG s b0) fun(a:Int)=>some (decide (0≤a))
theorem Zs:∀(s b0:List Int),ev 61 1 [rL 1 eI s,R.c (C.fn 71 [] [dP 0])] [(0,B.blk 25 [dL 1 eI b0])]=(zi s b0).bind (fun(e:Bool)=>some (rB e,[(0,B.blk 25 [dL 1 eI b0])])):=
 fun s b0=>by
  rw[qy qqw qtm.2.2.2 quy]
  have:=qtA;have:=@ZQ;have:=@zi.eq_1;exact gA
def Q9 (a:List Int) (b:List Int):Option Bool:=Option.bind (zi a b) fun(a2:Bool)=>some a2
theorem q29:∀(a b:List Int),ev 48 0 [rL 1 eI a,rL 1 eI b] []=(Q9 a b).bind (fun(e:Bool)=>some (rB e,[])):=
 fun a b=>by
  rw[qy qqS qv3.2.2.2 qvN]
  have:=qxC;have:=@Zs;have:=@Q9.eq_1;exact gA
def Zd (a:qa) (b:qa):Option Bool:=if(a.Course.School==b.Course.School)=Bool.true∧(ByteArray.toList a.Course.Code==ByteArray.toList b.Course.Code)=Bool.true then some Bool.false else if 0<a.Bundle then if(a.Bundle==b.Bundle)=Bool.true then Option.bind (zc a.Path b.Path) fun(a2:Bool)=>if a2=Bool.true then some Bool.true else Option.bind (Q9 a.Sources b.Sources) fun(a3:Bool)=>some (!a3) else Option.bind (Q9 a.Sources b.Sources) fun(a4:Bool)=>some (!a4) else Option.bind (Q9 a.Sources b.Sources) fun(a5:Bool)=>some (!a5)
theorem q0W:∀(a_Course_School:Int) (a_Course_Code:ByteArray) (a_Credits a_Grade a_Day:Int) (a_Sources:List Int) (a_Bundle:Int) (a_Path:List Int) (b_Course_School:Int) (b_Course_Code:ByteArray) (b_Credits b_Grade b_Day:Int) (b_Sources:List Int) (b_Bundle:Int) (b_Path:List Int),ev 23 0 [R.agg [dI a_Course_School,dS a_Course_Code,dI a_Credits,dI a_Grade,dI a_Day,dL 1 eI a_Sources,dI a_Bundle,dL 1 eI a_Path],R.agg [dI b_Course_School,dS b_Course_Code,dI b_Credits,dI b_Grade,dI b_Day,dL 1 eI b_Sources,dI b_Bundle,dL 1 eI b_Path]] []=(Zd (qa.mk (qb.mk a_Course_School a_Course_Code) a_Credits a_Grade a_Day a_Sources a_Bundle a_Path) (qa.mk (qb.mk b_Course_School b_Course_Code) b_Credits b_Grade b_Day b_Sources b_Bundle b_Path)).bind (fun(e:Bool)=>some (rB e,[])):=
 fun a_Course_School a_Course_Code a_Credits a_Grade a_Day a_Sources a_Bundle a_Path b_Course_School b_Course_Code b_Credits b_Grade b_Day b_Sources b_Bundle b_Path=>by
  rw[qy qsF quM.2.2.2 qxd]
  have:=qwp;have:=@Z7;have:=@q29;have:=@Zd.eq_1;exact gA
def zI (w1:List Int) (t0:List qa) (t5:Int) (t19:Int) (t20:Int) (t27:Int):(List (Qy Int)×Int)→Option ((List (Qy Int)×Int)⊕(List (Qy Int)))|(w0,t28)=>if t28<t27 then if 0≤t28∧t28<((t0.length:Nat):Int) then Option.bind t0[Int.toNat t28]? fun(a:qa)=>if 0≤t5∧t5<((t0.length:Nat):Int) then Option.bind t0[Int.toNat t5]? fun(a2:qa)=>Option.bind (Zd a a2) fun(a3:Bool)=>if(!a3)=Bool.true then if w0.length+1≤maxLen∧(w0.length+1)*16≤140737488355328 then some (Sum.inl (w0++[Qy.mk t28 t5],w64 (t28+1))) else none else some (Sum.inl (w0,w64 (t28+1))) else none else none else some (Sum.inr w0)
theorem q1q:∀(w0:List (Qy Int)) (w1:List Int) (t0:List qa) (t5 t19 t20 t27 t28:Int) (w0_len w1_len:Nat),w0_len=w0.length→w1_len=w1.length→XL2 evo 19 0 8 ⟨[(0,rL 8 qc t0),(3,rO 0 2 w0_len),(4,rO 1 1 w1_len),(5,rI t5),(19,rI t19),(20,rI t20),(27,rI t27),(28,rI t28)],[(0,bR 81 2 (eA2 eI) w0),(1,bR 3 1 eI w1)],2,128⟩=(qz (zI w1 t0 t5 t19 t20 t27) (w0,t28)).bind (fun(e:List (Qy Int))=>some (Exit.exit 2,⟨[(0,rL 8 qc t0),(3,rO 0 2 e.length),(4,rO 1 1 w1.length),(19,rI t19),(20,rI t20)],[(0,bR 81 2 (eA2 eI) e),(1,bR 3 1 eI w1)],2,128⟩)):=
 by
 intro w0 w1 t0 t5 t19 t20 t27 t28 w0_len w1_len h0 h1
 subst h0 h1
 revert t28;revert w0;exact qa0 qlw qng (fun e=>by exact⟨_,rfl,fun h=>by cases h⟩) fun w0 t28=>by
  have:=qjo;have:=@qd2.eq_1;have:=@q0W;have:=@zI.eq_1;exact gA
def zr (t0:List qa) (t19:Int):(List (Qy Int)×List Int×Int)→Option ((List (Qy Int)×List Int×Int)⊕(List (Qy Int)×List Int))|(w0,w1,t20)=>if t20<t19 then if 0≤t20∧t20<((w1.length:Nat):Int) then if Int.toNat t20+1≤w1.length then Option.bind (qz (zI (List.set w1 (Int.toNat t20) t20) t0 t20 t19 t20 t20) (w0,0)) fun(a:List (@Qy Int))=>some (Sum.inl (a,List.set w1 (Int.toNat t20) t20,w64 (t20+1))) else none else none else some (Sum.inr (w0,w1))
theorem q1u:∀(w0:List (Qy Int)) (w1:List Int) (t0:List qa) (t19 t20:Int) (w0_len w1_len:Nat),w0_len=w0.length→w1_len=w1.length→XL2 evo 19 0 4 ⟨[(0,rL 8 qc t0),(3,rO 0 2 w0_len),(4,rO 1 1 w1_len),(19,rI t19),(20,rI t20)],[(0,bR 81 2 (eA2 eI) w0),(1,bR 3 1 eI w1)],2,128⟩=(qz (zr t0 t19) (w0,w1,t20)).bind (fun(e:List (Qy Int)×List Int)=>some (Exit.exit 0,⟨[(0,rL 8 qc t0),(3,rO 0 2 e.1.length),(4,rO 1 1 e.2.length)],[(0,bR 81 2 (eA2 eI) e.1),(1,bR 3 1 eI e.2)],2,128⟩)):=
 by
 intro w0 w1 t0 t19 t20 w0_len w1_len h0 h1
 subst h0 h1
 revert t20;revert w1;revert w0;exact qtt qmG qnB (fun e=>by exact⟨_,rfl,fun h=>by cases h⟩) fun w0 w1 t20=>by
  have:=qjo;have:=@qdk.eq_1;have:=@q1q;have:=@zr.eq_1;exact gA
theorem q0e:∀  (w1:List Int) (t0:List qa) (t19 t20:Int) (w1_len:Nat),w1_len=w1.length→XL2 evo 19 0 4 ⟨[(0,rL 8 qc t0),(3,rO 0 2 0),(4,rO 1 1 w1_len),(19,rI t19),(20,rI t20)],[(0,B.row 81 2 []),(1,bR 3 1 eI w1)],2,128⟩=(qz (zr t0 t19) ([],w1,t20)).bind (fun(e:List (Qy Int)×List Int)=>some (Exit.exit 0,⟨[(0,rL 8 qc t0),(3,rO 0 2 e.1.length),(4,rO 1 1 e.2.length)],[(0,bR 81 2 (eA2 eI) e.1),(1,bR 3 1 eI e.2)],2,128⟩)):=by
 intro w1 t0 t19 t20 w1_len h0;subst h0;have h:=q1u [] w1 t0 t19 t20 _ _ rfl rfl
 first
  | exact h
  | (simp only[rL,dL,bR,bZ,Nat.reduceAdd] at h;exact h)
def zw (w0:List (Qy Int)) (t0:List qa) (t50:Int) (t51:Int) (t54:Int):(List Int×Int)→Option ((List Int×Int)⊕(List Int))|(w1,t55)=>if t55<t54 then if 0≤t55∧t55<((w0.length:Nat):Int) then Option.bind w0[Int.toNat t55]? fun(a:@Qy Int)=>if 0≤a.a0∧a.a0<((w1.length:Nat):Int) then Option.bind w1[Int.toNat a.a0]? fun(a2:Int)=>if 0≤a.a1∧a.a1<((w1.length:Nat):Int) then Option.bind w1[Int.toNat a.a1]? fun(a3:Int)=>if 0≤a.a0∧a.a0<((w1.length:Nat):Int) then if Int.toNat a.a0+1≤w1.length then if 0≤a.a1∧a.a1<((w1.length:Nat):Int) then if Int.toNat a.a1+1≤w1.length then some (Sum.inl (List.set (List.set w1 (Int.toNat a.a0) (min a2 a3)) (Int.toNat a.a1) (min a2 a3),w64 (t55+1))) else none else none else none else none else none else none else none else some (Sum.inr w1)
theorem q0A:∀(w0:List (Qy Int)) (w1:List Int) (t0:List qa) (t50 t51 t54 t55:Int) (w0_len w1_len:Nat),w0_len=w0.length→w1_len=w1.length→XL2 evo 19 0 17 ⟨[(0,rL 8 qc t0),(3,rO 0 2 w0_len),(4,rO 1 1 w1_len),(50,rI t50),(51,rI t51),(53,rO 0 2 w0_len),(54,rI t54),(55,rI t55)],[(0,bR 81 2 (eA2 eI) w0),(1,bR 3 1 eI w1)],2,128⟩=(qz (zw w0 t0 t50 t51 t54) (w1,t55)).bind (fun(e:List Int)=>some (Exit.exit 6,⟨[(0,rL 8 qc t0),(3,rO 0 2 w0.length),(4,rO 1 1 e.length),(50,rI t50),(51,rI t51)],[(0,bR 81 2 (eA2 eI) w0),(1,bR 3 1 eI e)],2,128⟩)):=
 by
 intro w0 w1 t0 t50 t51 t54 t55 w0_len w1_len h0 h1
 subst h0 h1
 revert t55;revert w1;exact qa0 qiT qkt (fun e=>by exact⟨_,rfl,fun h=>by cases h⟩) fun w1 t55=>by
  have:=qjo;have:=@q8r.eq_1;have:=@zw.eq_1;exact gA
def zA (w0:List (Qy Int)) (t0:List qa) (t50:Int):(List Int×Int)→Option ((List Int×Int)⊕(List Int))|(w1,t51)=>if t51<t50 then Option.bind (qz (zw w0 t0 t50 t51 ((w0.length:Nat):Int)) (w1,0)) fun(a:List Int)=>some (Sum.inl (a,w64 (t51+1))) else some (Sum.inr w1)
theorem q15:∀(w0:List (Qy Int)) (w1:List Int) (t0:List qa) (t50 t51:Int) (w0_len w1_len:Nat),w0_len=w0.length→w1_len=w1.length→XL2 evo 19 0 15 ⟨[(0,rL 8 qc t0),(3,rO 0 2 w0_len),(4,rO 1 1 w1_len),(50,rI t50),(51,rI t51)],[(0,bR 81 2 (eA2 eI) w0),(1,bR 3 1 eI w1)],2,128⟩=(qz (zA w0 t0 t50) (w1,t51)).bind (fun(e:List Int)=>some (Exit.exit 4,⟨[(0,rL 8 qc t0),(4,rO 0 1 e.length)],[(0,bR 3 1 eI e)],1,128⟩)):=
 by
 intro w0 w1 t0 t50 t51 w0_len w1_len h0 h1
 subst h0 h1
 revert t51;revert w1;exact qa0 qim qkr (fun e=>by exact⟨_,rfl,fun h=>by cases h⟩) fun w1 t51=>by
  have:=qjo;have:=@q8o.eq_1;have:=@q0A;have:=@zA.eq_1;exact gA
def zb (w0:List Int) (t83:Int):(List (List Int)×Int)→Option ((List (List Int)×Int)⊕(List (List Int)))|(w1,t84)=>if t84<t83 then if 0≤t84∧t84<((w0.length:Nat):Int) then Option.bind w0[Int.toNat t84]? fun(a:Int)=>if(a==t84)=Bool.true then if w1.length+1≤maxLen∧(w1.length+1)*24≤140737488355328 then some (Sum.inl (w1++[[]],w64 (t84+1))) else none else some (Sum.inl (w1,w64 (t84+1))) else none else some (Sum.inr w1)
theorem q0R:∀(w0:List Int) (w1:List (List Int)) (t83 t84:Int) (w0_len w1_len:Nat),w0_len=w0.length→w1_len=w1.length→XL2 evo 19 0 25 ⟨[(4,rO 0 1 w0_len),(10,rO 1 1 w1_len),(83,rI t83),(84,rI t84)],[(0,bR 3 1 eI w0),(1,B.row 25 1 (w1.flatMap (oL 3 1 eI)))],2,128⟩=(qz (zb w0 t83) (w1,t84)).bind (fun(e:List (List Int))=>some (Exit.exit 8,⟨[(4,rO 0 1 w0.length),(10,rO 1 1 e.length)],[(0,bR 3 1 eI w0),(1,B.row 25 1 (e.flatMap (oL 3 1 eI)))],2,128⟩)):=
 by
 intro w0 w1 t83 t84 w0_len w1_len h0 h1
 subst h0 h1
 revert t84;revert w1;exact qa0 qkR qiv (fun e=>by exact⟨_,rfl,fun h=>by cases h⟩) fun w1 t84=>by
  have:=qjo;have:=@q8K.eq_1;have:=@zb.eq_1;exact gA
theorem JL:∀  (w0:List Int) (t83 t84:Int) (w0_len:Nat),w0_len=w0.length→XL2 evo 19 0 25 ⟨[(4,rO 0 1 w0_len),(10,rO 1 1 0),(83,rI t83),(84,rI t84)],[(0,bR 3 1 eI w0),(1,B.row 25 1 [])],2,128⟩=(qz (zb w0 t83) ([],t84)).bind (fun(e:List (List Int))=>some (Exit.exit 8,⟨[(4,rO 0 1 w0.length),(10,rO 1 1 e.length)],[(0,bR 3 1 eI w0),(1,B.row 25 1 (e.flatMap (oL 3 1 eI)))],2,128⟩)):=by
 intro w0 t83 t84 w0_len h0;subst h0;have h:=q0R w0 [] t83 t84 _ _ rfl rfl
 first
  | exact h
  | (simp only[rL,dL,bR,bZ,Nat.reduceAdd] at h;exact h)
def zz (w2:List Int) (t99:Int):(List (List Int)×(List (Int×Int))×Int)→Option ((List (List Int)×(List (Int×Int))×Int)⊕(List (List Int)))|(w0,m1,t100)=>if t100<t99 then if 0≤t100∧t100<((w2.length:Nat):Int) then Option.bind w2[Int.toNat t100]? fun(a:Int)=>if(a==t100)=Bool.true then Option.bind w0[Int.toNat (Zi 0 (q3m m1 t100 ((m1.length:Nat):Int)) a)]? fun(a2:List Int)=>if 0≤Zi 0 (q3m m1 t100 ((m1.length:Nat):Int)) a∧Zi 0 (q3m m1 t100 ((m1.length:Nat):Int)) a<((w0.length:Nat):Int) then Option.bind w0[Int.toNat (Zi 0 (q3m m1 t100 ((m1.length:Nat):Int)) a)]? fun(a3:List Int)=>if a2.length+1≤maxLen∧(a2.length+1)*8≤140737488355328 then if 0≤Zi 0 (q3m m1 t100 ((m1.length:Nat):Int)) a∧Zi 0 (q3m m1 t100 ((m1.length:Nat):Int)) a<((w0.length:Nat):Int) then if Int.toNat (Zi 0 (q3m m1 t100 ((m1.length:Nat):Int)) a)<w0.length then some (Sum.inl (List.set w0 (Int.toNat (Zi 0 (q3m m1 t100 ((m1.length:Nat):Int)) a)) (a2++[t100]),q3m m1 t100 ((m1.length:Nat):Int),w64 (t100+1))) else none else none else none else none else Option.bind w0[Int.toNat (Zi 0 m1 a)]? fun(a4:List Int)=>if 0≤Zi 0 m1 a∧Zi 0 m1 a<((w0.length:Nat):Int) then Option.bind w0[Int.toNat (Zi 0 m1 a)]? fun(a5:List Int)=>if a4.length+1≤maxLen∧(a4.length+1)*8≤140737488355328 then if 0≤Zi 0 m1 a∧Zi 0 m1 a<((w0.length:Nat):Int) then if Int.toNat (Zi 0 m1 a)<w0.length then some (Sum.inl (List.set w0 (Int.toNat (Zi 0 m1 a)) (a4++[t100]),m1,w64 (t100+1))) else none else none else none else none else none else some (Sum.inr w0)
theorem q13:∀(w0:List (List Int)) (w2:List Int) (m1:List (Int×Int)) (t99 t100:Int) (w0_len w2_len:Nat),w0_len=w0.length→w2_len=w2.length→XL2 evo 19 0 32 ⟨[(10,rO 0 1 w0_len),(12,R.c (C.hd .map 1)),(98,rO 2 1 w2_len),(99,rI t99),(100,rI t100)],[(0,B.row 25 1 (w0.flatMap (oL 3 1 eI))),(1,B.ob (mpB (JJ .i64) Qd m1)),(2,bR 3 1 eI w2)],3,128⟩=(qz (zz w2 t99) (w0,m1,t100)).bind (fun(e:List (List Int))=>some (Exit.exit 10,⟨[(10,rO 0 1 e.length)],[(0,B.row 25 1 (e.flatMap (oL 3 1 eI)))],1,128⟩)):=
 by
 intro w0 w2 m1 t99 t100 w0_len w2_len h0 h1
 subst h0 h1
 revert t100;revert m1;revert w0;exact qtt qjS qi9 (fun e=>by exact⟨_,rfl,fun h=>by cases h⟩) fun w0 m1 t100=>by
  have:=qjo;have:=@q8z.eq_1;have:=@zz.eq_1;exact gA
def Qq (x0:List qa):Option (List (List Int)):=if 0≤((x0.length:Nat):Int)∧8*((x0.length:Nat):Int)≤281474976710656∧((x0.length:Nat):Int)≤9223372036854775807 then Option.bind (qz (zr x0 ((x0.length:Nat):Int)) ([],(List.replicate x0.length 0,0))) fun(a:Prod (List (@Qy Int)) (List Int))=>Option.bind (qz (zA a.1 x0 ((x0.length:Nat):Int)) (a.2,0)) fun(a2:List Int)=>Option.bind (qz (zb a2 ((x0.length:Nat):Int)) ([],0)) fun(a3:List (List Int))=>Option.bind (qz (zz a2 ((a2.length:Nat):Int)) (a3,([],0))) fun(a4:List (List Int))=>some a4 else none
theorem q2E:∀(x0:List qa),ev 19 0 [rL 8 qc x0] []=(Qq x0).bind (fun(e:List (List Int))=>some (rL 1 (eL 1 eI) e,[])):=
 fun x0=>by
  rw[qy qfD quV.2.2.2 qig]
  have:=qjo;have:=@q0e;have:=@q15;have:=@JL;have:=@q13;have:=@Qq.eq_1;exact gA
theorem q1k:∀(x00_Course_School:Int) (x00_Course_Code:ByteArray) (x00_Credits x00_Grade x00_Day x00_Sources0 x00_Bundle x01_Course_School:Int) (x01_Course_Code:ByteArray) (x01_Credits x01_Grade x01_Day x01_Sources0 x01_Bundle x02_Course_School:Int) (x02_Course_Code:ByteArray) (x02_Credits x02_Grade x02_Day x02_Sources0 x02_Bundle x03_Course_School:Int) (x03_Course_Code:ByteArray) (x03_Credits x03_Grade x03_Day x03_Sources0 x03_Bundle:Int) , ev 19 0 [R.c (C.d (D.sl 8 4 [D.int .i64 x00_Course_School,D.str x00_Course_Code,D.int .i64 x00_Credits,D.int .i64 x00_Grade,D.int .i64 x00_Day,D.sl 1 1 [D.int .i64 x00_Sources0],D.int .i64 x00_Bundle,D.sl 1 0 [],D.int .i64 x01_Course_School,D.str x01_Course_Code,D.int .i64 x01_Credits,D.int .i64 x01_Grade,D.int .i64 x01_Day,D.sl 1 1 [D.int .i64 x01_Sources0],D.int .i64 x01_Bundle,D.sl 1 0 [],D.int .i64 x02_Course_School,D.str x02_Course_Code,D.int .i64 x02_Credits,D.int .i64 x02_Grade,D.int .i64 x02_Day,D.sl 1 1 [D.int .i64 x02_Sources0],D.int .i64 x02_Bundle,D.sl 1 0 [],D.int .i64 x03_Course_School,D.str x03_Course_Code,D.int .i64 x03_Credits,D.int .i64 x03_Grade,D.int .i64 x03_Day,D.sl 1 1 [D.int .i64 x03_Sources0],D.int .i64 x03_Bundle,D.sl 1 0 []]))] []=(Qq [(qa.mk (qb.mk x00_Course_School x00_Course_Code) x00_Credits x00_Grade x00_Day [x00_Sources0] x00_Bundle ([]:List Int)),(qa.mk (qb.mk x01_Course_School x01_Course_Code) x01_Credits x01_Grade x01_Day [x01_Sources0] x01_Bundle ([]:List Int)),(qa.mk (qb.mk x02_Course_School x02_Course_Code) x02_Credits x02_Grade x02_Day [x02_Sources0] x02_Bundle ([]:List Int)),(qa.mk (qb.mk x03_Course_School x03_Course_Code) x03_Credits x03_Grade x03_Day [x03_Sources0] x03_Bundle ([]:List Int))]).bind (fun(e:List (List Int))=>some (rL 1 (eL 1 eI) e,[])):=by
 intro x00_Course_School x00_Course_Code x00_Credits x00_Grade x00_Day x00_Sources0 x00_Bundle x01_Course_School x01_Course_Code x01_Credits x01_Grade x01_Day x01_Sources0 x01_Bundle x02_Course_School x02_Course_Code x02_Credits x02_Grade x02_Day x02_Sources0 x02_Bundle x03_Course_School x03_Course_Code x03_Credits x03_Grade x03_Day x03_Sources0 x03_Bundle;have h:=q2E [(qa.mk (qb.mk x00_Course_School x00_Course_Code) x00_Credits x00_Grade x00_Day [x00_Sources0] x00_Bundle ([]:List Int)),(qa.mk (qb.mk x01_Course_School x01_Course_Code) x01_Credits x01_Grade x01_Day [x01_Sources0] x01_Bundle ([]:List Int)),(qa.mk (qb.mk x02_Course_School x02_Course_Code) x02_Credits x02_Grade x02_Day [x02_Sources0] x02_Bundle ([]:List Int)),(qa.mk (qb.mk x03_Course_School x03_Course_Code) x03_Credits x03_Grade x03_Day [x03_Sources0] x03_Bundle ([]:List Int))]
 first
  | exact h
  | (simp only[rL,dL,bR,bZ,Nat.reduceAdd] at h;exact h)
theorem qtP:okL 40 q9Y:=qB (qi qqh) (by kernel_rfl) (by kernel_rfl)
def quf:=JA_ @q9Y.eq_1 (JA_ @Try.f40.eq_1 @qqh)
theorem qoJ:lbO 40 4=qbM:=zE (qi qqh) rfl
theorem qnE:okL 40 qbM:=qT qtP (qxI (i:=0) (by kernel_rfl))
def zl (a:List Int) (b:List Int):Int→Option (Int⊕(Unit⊕Unit))|k=>if k<((a.length:Nat):Int) then if 0≤k∧k<((a.length:Nat):Int) then Option.bind a[Int.toNat k]? fun(a2:Int)=>if 0≤k∧k<((b.length:Nat):Int) then Option.bind b[Int.toNat k]? fun(a3:Int)=>if(a2 != a3)=Bool.true then some (Sum.inr (Sum.inl ())) else some (Sum.inl (w64 (k+1))) else none else none else some (Sum.inr (Sum.inr ()))
theorem q0y:∀(a b:List Int) (k:Int),XL2 evo 40 0 4 ⟨[(0,rL 1 eI a),(1,rL 1 eI b),(5,rI k)],[],0,26⟩=(qz (zl a b) k).bind (Sum.elim (fun(e:Unit)=>some (Exit.ret,⟨[(4,rB Bool.false)],[],0,26⟩)) (fun(e:Unit)=>some (Exit.exit 0,⟨[(4,R.any)],[],0,26⟩))):=
 fun a b k=>by
  revert k;exact q5l qoJ qnE (fun e=>by rcases e with _|_<;>exact⟨_,rfl,fun h=>by cases h⟩) fun x=>by
   have:=quf;have:=@qbM.eq_1;have:=@zl.eq_1;exact gA
def zD (a:List Int) (b:List Int):Option Bool:=if(((a.length:Nat):Int) != ((b.length:Nat):Int))=Bool.true then some Bool.false else Option.bind (qz (zl a b) 0) fun(a2:Sum Unit Unit)=>Sum.elim (fun(a3:Unit)=>some Bool.false) (fun(a4:Unit)=>some Bool.true) a2
theorem Za:∀(a b:List Int),ev 40 0 [rL 1 eI a,rL 1 eI b] []=(zD a b).bind (fun(e:Bool)=>some (rB e,[])):=
 fun a b=>by
  rw[qy qqh quI.2.2.2 qtP]
  have:=quf;have:=@q0y;have:=@zD.eq_1;exact gA
theorem qux:okL 16 q74:=qB (qi qm3) (by kernel_rfl) (by kernel_rfl)
def qui:=JA_ @q74.eq_1 (JA_ @Try.f16.eq_1 @qm3)
theorem qhu:raO 16 6=q5H:=qmR (qi qm3) rfl
theorem qdQ:rbO 16 6=q4R:=qoi (qi qm3) rfl
theorem qhO:okL 16 q5H∧okL 16 q4R:=qlH (key:=0) (q:=(q5H,q4R)) qux (qxI (i:=0) (by kernel_rfl))
theorem qhe:qD (rbO 16 6)=6:=by rw[qdQ];exact qpK
theorem qpd:∀k s,XE2 evo 16 k (raO 16 6) s=XE2 evo 16 k q5H s:=fun _ _=>by rw[qhu]
theorem qmo:∀k s,XE2 evo 16 k (rbO 16 6) s=XE2 evo 16 k q4R s:=fun _ _=>by rw[qdQ]
theorem qwU:okL 42 qec:=qB (qi qs4) (by kernel_rfl) (by kernel_rfl)
def qvU:=JA_ @qec.eq_1 (JA_ @Try.f42.eq_1 @qs4)
def Js (l:List qa):Option Unit:=
 some ()
def q1C (l:List qa):Unit:=
 ()
theorem q3G (l:List qa):Js l=some (q1C l):=by
 unfold Js q1C
 simp only[ZG]
theorem q5b:∀(l:List qa),ev 42 0 [rL 8 qc l] []=some (R.c (C.fn 66 [] [dP 0]),[(0,B.blk 32 [dL 8 qc l])]):=
 fun l=>by
  have h:ev 42 0 [rL 8 qc l] []=(Js l).bind (fun(e:Unit)=>some (R.c (C.fn 66 [] [dP 0]),[(0,B.blk 32 [dL 8 qc l])])):=by
   rw[qy qs4 qtz.2.2.2 qwU]
   have:=qvU;have:=@Js.eq_1;exact gA
  rw[q3G] at h
  exact h
theorem qxi:okL 66 qd7:=qB (qi qrg) (by kernel_rfl) (by kernel_rfl)
def qvl:=JA_ @qd7.eq_1 (JA_ @Try.f66.eq_1 @qrg)
theorem qup:okL 67 q9c:=qB (qi qqy) (by kernel_rfl) (by kernel_rfl)
def qtL:=JA_ @q9c.eq_1 (JA_ @Try.f67.eq_1 @qqy)
theorem qn9:lbO 67 4=qeB:=zE (qi qqy) rfl
theorem qmU:okL 67 qeB:=qT qup (qxI (i:=0) (by kernel_rfl))
theorem quW:okL 22 q9V:=qB (qi qqg) (by kernel_rfl) (by kernel_rfl)
def qtG:=JA_ @q9V.eq_1 (JA_ @Try.f22.eq_1 @qqg)
theorem qle:lbO 22 3=qcP:=zE (qi qqg) rfl
theorem qoO:okL 22 qcP:=qT quW (qxI (i:=0) (by kernel_rfl))
def Q7 (t6:List qa) (t7:Int):(Int×Int)→Option ((Int×Int)⊕Int)|(n,t8)=>if t8<t7 then if 0≤t8∧t8<((t6.length:Nat):Int) then Option.bind t6[Int.toNat t8]? fun(a:qa)=>some (Sum.inl (w64 (n+a.Credits),w64 (t8+1))) else none else some (Sum.inr n)
theorem q1y:∀(n:Int) (t6:List qa) (t7 t8:Int),XL2 evo 22 0 3 ⟨[(3,rI n),(6,rL 8 qc t6),(7,rI t7),(8,rI t8)],[],0,18⟩=(qz (Q7 t6 t7) (n,t8)).bind (fun(e:Int)=>some (Exit.exit 0,⟨[(3,rI e)],[],0,18⟩)):=
 fun n t6 t7 t8=>by
  revert t8;revert n;exact qa0 qle qoO (fun e=>by exact⟨_,rfl,fun h=>by cases h⟩) fun n t8=>by
   have:=qtG;have:=@qcP.eq_1;have:=@Q7.eq_1;exact gA
def Z4 (l:List qa):Option Int:=Option.bind (qz (Q7 l ((l.length:Nat):Int)) (0,0)) fun(a:Int)=>some a
theorem q2I:∀(l:List qa),ev 22 0 [rL 8 qc l] []=(Z4 l).bind (fun(e:Int)=>some (rI e,[])):=
 fun l=>by
  rw[qy qqg quX.2.2.2 quW]
  have:=qtG;have:=@q1y;have:=@Z4.eq_1;exact gA
def QP (t11:List qa) (best:Int):Option Int:=Option.bind (Z4 t11) fun(a:Int)=>some (max best a)
theorem q2h:∀(t11:List qa) (best:Int),evr 16 (raO 16 6) (rbO 16 6) 2 [R.any,R.any,R.any,R.any,rP 0,R.any,R.any,R.any,R.any,R.any,R.any,rL 8 qc t11,R.any,R.any,R.any,R.any,R.any] [(0,B.blk 3 [dI best]),(1,B.ob (AO.lp 16 (R.any::R.any::R.any::R.any::rP 0::q7M) [11] (raO 16 6) (rbO 16 6) LoopState.ready none))]=(QP t11 best).bind (fun(e:Int)=>some (rB Bool.true,[(0,B.blk 3 [dI e]),(1,B.ob (AO.lp 16 (R.any::R.any::R.any::R.any::rP 0::q7M) [11] (raO 16 6) (rbO 16 6) LoopState.ready none))])):=
 fun t11 best=>by
  rw[qju qhu qdQ (by decide) qlB qhO.1 qhO.2]
  have:=qui;have:=@qpd;have:=@qmo;have:=@q5H.eq_1;have:=@q4R.eq_1;have:=@q2I;have:=@QP.eq_1;have:=@qhe;exact gA
theorem qw4:okL 68 qdy:=qB (qi qtn) (by kernel_rfl) (by kernel_rfl)
def qvF:=JA_ @qdy.eq_1 (JA_ @Try.f68.eq_1 @qtn)
def qx (s:List qa):Option Unit:=
 some ()
def zd (s:List qa):Unit:=
 ()
theorem Qf (s:List qa):qx s=some (zd s):=by
 unfold qx zd
 simp only[ZG]
theorem Qj:∀(s:List qa),ev 68 0 [rL 8 qc s] []=some (R.c (C.clp 8 s.length (s.flatMap qc)),[]):=
 fun s=>by
  have h:ev 68 0 [rL 8 qc s] []=(qx s).bind (fun(e:Unit)=>some (R.c (C.clp 8 s.length (s.flatMap qc)),[])):=by
   rw[qy qtn qu7.2.2.2 qw4]
   have:=qvF;have:=@qx.eq_1;exact gA
  rw[Qf] at h
  exact h
theorem qty:okL 21 q9F:=qB (qi qqf) (by kernel_rfl) (by kernel_rfl)
def qtV:=JA_ @q9F.eq_1 (JA_ @Try.f21.eq_1 @qqf)
theorem qnW:lbO 21 2=qbf:=zE (qi qqf) rfl
theorem qpu:okL 21 qbf:=qT qty (qxI (i:=0) (by kernel_rfl))
theorem qwH:okL 47 qe0:=qB (qi qr4) (by kernel_rfl) (by kernel_rfl)
def qvV:=JA_ @qe0.eq_1 (JA_ @Try.f47.eq_1 @qr4)
theorem qu9:okL 70 q9Z:=qB (qi qqv) (by kernel_rfl) (by kernel_rfl)
def qv9:=JA_ @q9Z.eq_1 (JA_ @Try.f70.eq_1 @qqv)
theorem qnb:lbO 70 2=qbW:=zE (qi qqv) rfl
theorem qlX:okL 70 qbW:=qT qu9 (qxI (i:=0) (by kernel_rfl))
theorem qvB:okL 46 qc3:=qB (qi qqB) (by kernel_rfl) (by kernel_rfl)
def qws:=JA_ @qc3.eq_1 (JA_ @Try.f46.eq_1 @qqB)
def ZV (b:qa) (v:qa):Option Bool:=Option.bind (Zd v b) fun(a:Bool)=>some (!a)
theorem q3D:∀(b_Course_School:Int) (b_Course_Code:ByteArray) (b_Credits b_Grade b_Day:Int) (b_Sources:List Int) (b_Bundle:Int) (b_Path:List Int) (v_Course_School:Int) (v_Course_Code:ByteArray) (v_Credits v_Grade v_Day:Int) (v_Sources:List Int) (v_Bundle:Int) (v_Path:List Int),ev 46 1 [R.agg [dI b_Course_School,dS b_Course_Code,dI b_Credits,dI b_Grade,dI b_Day,dL 1 eI b_Sources,dI b_Bundle,dL 1 eI b_Path],rP 0] [(0,B.blk 52 [dI v_Course_School,dS v_Course_Code,dI v_Credits,dI v_Grade,dI v_Day,dL 1 eI v_Sources,dI v_Bundle,dL 1 eI v_Path])]=(ZV (qa.mk (qb.mk b_Course_School b_Course_Code) b_Credits b_Grade b_Day b_Sources b_Bundle b_Path) (qa.mk (qb.mk v_Course_School v_Course_Code) v_Credits v_Grade v_Day v_Sources v_Bundle v_Path)).bind (fun(e:Bool)=>some (rB e,[(0,B.blk 52 [dI v_Course_School,dS v_Course_Code,dI v_Credits,dI v_Grade,dI v_Day,dL 1 eI v_Sources,dI v_Bundle,dL 1 eI v_Path])])):=
 fun b_Course_School b_Course_Code b_Credits b_Grade b_Day b_Sources b_Bundle b_Path v_Course_School v_Course_Code v_Credits v_Grade v_Day v_Sources v_Bundle v_Path=>by
  rw[qy qqB qtK.2.2.2 qvB]
  have:=qws;have:=@q0W;have:=@ZV.eq_1;exact gA
def qn (b0:qa) (s:List qa) (t7:Int):Int→Option (Int⊕(Int⊕Unit))|t8=>if t8<t7 then if 0≤t8∧t8<((s.length:Nat):Int) then Option.bind s[Int.toNat t8]? fun(a:qa)=>Option.bind (ZV a b0) fun(a2:Bool)=>if a2=Bool.true then some (Sum.inr (Sum.inl t8)) else some (Sum.inl (w64 (t8+1))) else none else some (Sum.inr (Sum.inr ()))
theorem zU:∀(b0_Course_School:Int) (b0_Course_Code:ByteArray) (b0_Credits b0_Grade b0_Day:Int) (b0_Sources:List Int) (b0_Bundle:Int) (b0_Path:List Int) (s:List qa) (t7 t8:Int),XL2 evo 70 1 2 ⟨[(0,rL 8 qc s),(1,R.c (C.fn 46 [] [dP 0])),(7,rI t7),(8,rI t8)],[(0,B.blk 52 [dI b0_Course_School,dS b0_Course_Code,dI b0_Credits,dI b0_Grade,dI b0_Day,dL 1 eI b0_Sources,dI b0_Bundle,dL 1 eI b0_Path])],1,19⟩=(qz (qn (qa.mk (qb.mk b0_Course_School b0_Course_Code) b0_Credits b0_Grade b0_Day b0_Sources b0_Bundle b0_Path) s t7) t8).bind (Sum.elim (fun(e:Int)=>some (Exit.ret,⟨[(4,rI e)],[(0,B.blk 52 [dI b0_Course_School,dS b0_Course_Code,dI b0_Credits,dI b0_Grade,dI b0_Day,dL 1 eI b0_Sources,dI b0_Bundle,dL 1 eI b0_Path])],1,19⟩)) (fun(e:Unit)=>some (Exit.exit 0,⟨[(4,R.any)],[(0,B.blk 52 [dI b0_Course_School,dS b0_Course_Code,dI b0_Credits,dI b0_Grade,dI b0_Day,dL 1 eI b0_Sources,dI b0_Bundle,dL 1 eI b0_Path])],1,19⟩))):=
 fun b0_Course_School b0_Course_Code b0_Credits b0_Grade b0_Day b0_Sources b0_Bundle b0_Path s t7 t8=>by
  revert t8;exact q5l qnb qlX (fun e=>by rcases e with _|_<;>exact⟨_,rfl,fun h=>by cases h⟩) fun x=>by
   have:=qv9;have:=@qbW.eq_1;have:=@q3D;have:=@qn.eq_1;exact gA
def qs (s:List qa) (b0:qa):Option Int:=Option.bind (qz (qn b0 s ((s.length:Nat):Int)) 0) fun(a:Sum Int Unit)=>Sum.elim (fun(a2:Int)=>some a2) (fun(a3:Unit)=>some (-1)) a
theorem Q6:∀(s:List qa) (b0_Course_School:Int) (b0_Course_Code:ByteArray) (b0_Credits b0_Grade b0_Day:Int) (b0_Sources:List Int) (b0_Bundle:Int) (b0_Path:List Int),ev 70 1 [rL 8 qc s,R.c (C.fn 46 [] [dP 0])] [(0,B.blk 52 [dI b0_Course_School,dS b0_Course_Code,dI b0_Credits,dI b0_Grade,dI b0_Day,dL 1 eI b0_Sources,dI b0_Bundle,dL 1 eI b0_Path])]=(qs s (qa.mk (qb.mk b0_Course_School b0_Course_Code) b0_Credits b0_Grade b0_Day b0_Sources b0_Bundle b0_Path)).bind (fun(e:Int)=>some (rI e,[(0,B.blk 52 [dI b0_Course_School,dS b0_Course_Code,dI b0_Credits,dI b0_Grade,dI b0_Day,dL 1 eI b0_Sources,dI b0_Bundle,dL 1 eI b0_Path])])):=
 fun s b0_Course_School b0_Course_Code b0_Credits b0_Grade b0_Day b0_Sources b0_Bundle b0_Path=>by
  rw[qy qqv quz.2.2.2 qu9]
  have:=qv9;have:=@zU;have:=@qs.eq_1;exact gA
def qp (s:List qa) (b0:qa):Option Bool:=Option.bind (qs s b0) fun(a:Int)=>some (decide (0≤a))
theorem zV:∀(s:List qa) (b0_Course_School:Int) (b0_Course_Code:ByteArray) (b0_Credits b0_Grade b0_Day:Int) (b0_Sources:List Int) (b0_Bundle:Int) (b0_Path:List Int),ev 47 1 [rL 8 qc s,R.c (C.fn 46 [] [dP 0])] [(0,B.blk 52 [dI b0_Course_School,dS b0_Course_Code,dI b0_Credits,dI b0_Grade,dI b0_Day,dL 1 eI b0_Sources,dI b0_Bundle,dL 1 eI b0_Path])]=(qp s (qa.mk (qb.mk b0_Course_School b0_Course_Code) b0_Credits b0_Grade b0_Day b0_Sources b0_Bundle b0_Path)).bind (fun(e:Bool)=>some (rB e,[(0,B.blk 52 [dI b0_Course_School,dS b0_Course_Code,dI b0_Credits,dI b0_Grade,dI b0_Day,dL 1 eI b0_Sources,dI b0_Bundle,dL 1 eI b0_Path])])):=
 fun s b0_Course_School b0_Course_Code b0_Credits b0_Grade b0_Day b0_Sources b0_Bundle b0_Path=>by
  rw[qy qr4 qtw.2.2.2 qwH]
  have:=qvV;have:=@Q6;have:=@qp.eq_1;exact gA
def Qn (l:List qa) (t6:List qa) (t7:Int):Int→Option (Int⊕(Unit⊕Unit))|t8=>if t8<t7 then if 0≤t8∧t8<((t6.length:Nat):Int) then Option.bind t6[Int.toNat t8]? fun(a:qa)=>if 0≤w64 (t8+1)∧w64 (t8+1)≤((l.length:Nat):Int) then Option.bind (qp (List.take (l.length-Int.toNat (w64 (t8+1))) (List.drop (Int.toNat (w64 (t8+1))) l)) a) fun(a2:Bool)=>if a2=Bool.true then some (Sum.inr (Sum.inl ())) else some (Sum.inl (w64 (t8+1))) else none else none else some (Sum.inr (Sum.inr ()))
theorem q2K:∀(l t6:List qa) (t7 t8:Int),XL2 evo 21 0 2 ⟨[(0,rL 8 qc l),(6,rL 8 qc t6),(7,rI t7),(8,rI t8)],[],0,21⟩=(qz (Qn l t6 t7) t8).bind (Sum.elim (fun(e:Unit)=>some (Exit.ret,⟨[(2,rB Bool.false)],[],0,21⟩)) (fun(e:Unit)=>some (Exit.exit 0,⟨[(2,R.any)],[],0,21⟩))):=
 fun l t6 t7 t8=>by
  revert t8;exact q5l qnW qpu (fun e=>by rcases e with _|_<;>exact⟨_,rfl,fun h=>by cases h⟩) fun x=>by
   have:=qtV;have:=@qbf.eq_1;have:=@zV;have:=@Qn.eq_1;exact gA
def Zw (l:List qa):Option Bool:=Option.bind (qz (Qn l l ((l.length:Nat):Int)) 0) fun(a:Sum Unit Unit)=>Sum.elim (fun(a2:Unit)=>some Bool.false) (fun(a3:Unit)=>some Bool.true) a
theorem q5o:∀(l:List qa),ev 21 0 [rL 8 qc l] []=(Zw l).bind (fun(e:Bool)=>some (rB e,[])):=
 fun l=>by
  rw[qy qqf quw.2.2.2 qty]
  have:=qtV;have:=@q2K;have:=@Zw.eq_1;exact gA
theorem q2R:∀(l2:List qa) (l2_len:Nat),l2_len=l2.length→ev 21 0 [R.c (C.d (D.sl 8 l2_len (l2.flatMap qc)))] []=(Zw l2).bind (fun(e:Bool)=>some (rB e,[])):=by
 intro l2 l2_len h0;subst h0;have h:=q5o l2
 first
  | exact h
  | (simp only[rL,dL,bR,bZ,Nat.reduceAdd] at h;exact h)
def za (x:(List qa×Int×Int×List qa)):List R×List (Nat×B):=([R.c (C.d (D.sl 8 x.1.length (x.1.flatMap qc))),R.c (C.d (D.int .i64 x.2.1)),R.c (C.ptr 0 0),R.c (C.ptr 3 0),R.c (C.ptr 4 0)],[(0,B.blk 60 [C.hd .yield 1]),(1,B.ob (AO.lp 16 [R.any,R.any,R.any,R.any,R.c (C.ptr 2 0),R.any,R.any,R.any,R.any,R.any,R.any,R.any,R.any,R.any,R.any,R.any,R.any] [11] (raO 16 6) (rbO 16 6) LoopState.ready none)),(2,B.blk 3 [C.d (D.int .i64 x.2.2.1)]),(3,B.blk 32 [C.d (D.sl 8 x.2.2.2.length (x.2.2.2.flatMap qc))]),(4,B.blk 105 [C.fn 67 [] [C.ptr 0 0,C.ptr 3 0,C.ptr 4 0]])])
def zm:(Bool×Int×List qa)→R×List (Nat×B):=fun(e:Bool×Int×List qa)=>(R.c (C.d (D.bool e.1)),[(0,B.blk 60 [C.hd .yield 1]),(1,B.ob (AO.lp 16 [R.any,R.any,R.any,R.any,R.c (C.ptr 2 0),R.any,R.any,R.any,R.any,R.any,R.any,R.any,R.any,R.any,R.any,R.any,R.any] [11] (raO 16 6) (rbO 16 6) LoopState.ready none)),(2,B.blk 3 [C.d (D.int .i64 e.2.1)]),(3,B.blk 32 [C.d (D.sl 8 e.2.2.length (e.2.2.flatMap qc))]),(4,B.blk 105 [C.fn 67 [] [C.ptr 0 0,C.ptr 3 0,C.ptr 4 0]])])
def zj (rF:(List qa×Int×Int×List qa)→Option (Bool×Int×List qa)) (set0:List qa):(Int×List qa×Int)→Option ((Int×List qa×Int)⊕((Int×List qa)⊕(Int×List qa)))|(b2,b3,k)=>if k<((b3.length:Nat):Int) then if 0≤k∧k<((b3.length:Nat):Int) then Option.bind b3[Int.toNat k]? fun(a2:qa)=>if set0.length+1≤maxLen∧(set0.length+1)*104≤140737488355328 then Option.bind (Zw (set0++[a2])) fun(a3:Bool)=>if a3=Bool.true then Option.bind (rF (set0++[a2],(w64 (k+1),(b2,b3)))) fun(a4:Prod Bool (Prod Int (List qa)))=>if(!a4.1)=Bool.true then some (Sum.inr (Sum.inl (a4.2.1,a4.2.2))) else some (Sum.inl (a4.2.1,a4.2.2,w64 (k+1))) else some (Sum.inl (b2,b3,w64 (k+1))) else none else none else some (Sum.inr (Sum.inr (b2,b3)))
theorem q0x (rE:Orc) (rF:(List qa×Int×Int×List qa)→Option (Bool×Int×List qa)) (hF:∀y,rE (.fn 67) 5 (za y).1 (za y).2=(rF y).bind fun e=>some (zm e)) (hM:∀g k a G,g≠67→rE (.fn g) k a G=ev g k a G) (hR:∀g asg bd k a G,rE (.rd g asg bd) k a G=evr g asg bd k a G):∀(b2:Int) (b3 set0:List qa) (k:Int),XL2 rE 67 5 4 ⟨[(0,rL 8 qc set0),(3,rP 3),(4,rP 4),(8,rI k)],[(0,B.blk 60 [C.hd .yield 1]),(1,B.ob (AO.lp 16 (R.any::R.any::R.any::R.any::rP 2::q7M) [11] (raO 16 6) (rbO 16 6) LoopState.ready none)),(2,B.blk 3 [dI b2]),(3,B.blk 32 [dL 8 qc b3]),(4,B.blk 105 [C.fn 67 [] [dP 0,dP 3,dP 4]])],5,39⟩=(qz (zj rF set0) (b2,b3,k)).bind (Sum.elim (fun(e:Int×List qa)=>some (Exit.ret,⟨[(7,rB Bool.false)],[(0,B.blk 60 [C.hd .yield 1]),(1,B.ob (AO.lp 16 (R.any::R.any::R.any::R.any::rP 2::q7M) [11] (raO 16 6) (rbO 16 6) LoopState.ready none)),(2,B.blk 3 [dI e.1]),(3,B.blk 32 [dL 8 qc e.2]),(4,B.blk 105 [C.fn 67 [] [dP 0,dP 3,dP 4]])],5,39⟩)) (fun(e:Int×List qa)=>some (Exit.exit 0,⟨[(7,R.any)],[(0,B.blk 60 [C.hd .yield 1]),(1,B.ob (AO.lp 16 (R.any::R.any::R.any::R.any::rP 2::q7M) [11] (raO 16 6) (rbO 16 6) LoopState.ready none)),(2,B.blk 3 [dI e.1]),(3,B.blk 32 [dL 8 qc e.2]),(4,B.blk 105 [C.fn 67 [] [dP 0,dP 3,dP 4]])],5,39⟩))):=
 fun b2 b3 set0 k=>by
  revert k;revert b3;revert b2;exact qtt qn9 qmU (fun e=>by rcases e with _|_<;>exact⟨_,rfl,fun h=>by cases h⟩) fun b2 b3 k=>by
   have hF':∀(set0:List qa) (from0 b2:Int) (v:List qa) (set0_len:Nat),set0_len=set0.length→rE (.fn 67) 5 [R.c (C.d (D.sl 8 set0_len (set0.flatMap qc))),rI from0,rP 0,rP 3,rP 4] [(0,B.blk 60 [C.hd .yield 1]),(1,B.ob (AO.lp 16 (R.any::R.any::R.any::R.any::rP 2::q7M) [11] (raO 16 6) (rbO 16 6) LoopState.ready none)),(2,B.blk 3 [dI b2]),(3,B.blk 32 [dL 8 qc v]),(4,B.blk 105 [C.fn 67 [] [dP 0,dP 3,dP 4]])]=(rF (set0,from0,b2,v)).bind (fun e=>some (rB e.1,[(0,B.blk 60 [C.hd .yield 1]),(1,B.ob (AO.lp 16 (R.any::R.any::R.any::R.any::rP 2::q7M) [11] (raO 16 6) (rbO 16 6) LoopState.ready none)),(2,B.blk 3 [dI e.2.1]),(3,B.blk 32 [dL 8 qc e.2.2]),(4,B.blk 105 [C.fn 67 [] [dP 0,dP 3,dP 4]])])):=by intro set0 from0 b2 v set0_len h0;subst h0;exact hF (set0,from0,b2,v)
   have:=qtL;have:=@qeB.eq_1;have:=@Qj;have:=@q2R;have:=@zj.eq_1;exact gA
def zS (rF:(List qa×Int×Int×List qa)→Option (Bool×Int×List qa)):(List qa×Int×Int×List qa)→Option (Bool×Int×List qa)|(set0,from0,b2,v)=>Option.bind (QP set0 b2) fun(a2:Int)=>Option.bind (qz (zj rF set0) (a2,(v,from0))) fun(a3:Sum (Prod Int (List qa)) (Prod Int (List qa)))=>Sum.elim (fun(a4:Prod Int (List qa))=>some (Bool.false,a4.1,a4.2)) (fun(a5:Prod Int (List qa))=>some (Bool.true,a5.1,a5.2)) a3
theorem Ji:q7E 67 5 za zm zS:=by
 intro rE rF hF hM hR x
 obtain⟨set0,from0,b2,v⟩:=x
 show q7y rE 67 5 [rL 8 qc set0,rI from0,rP 0,rP 3,rP 4] [(0,B.blk 60 [C.hd .yield 1]),(1,B.ob (AO.lp 16 (R.any::R.any::R.any::R.any::rP 2::q7M) [11] (raO 16 6) (rbO 16 6) LoopState.ready none)),(2,B.blk 3 [dI b2]),(3,B.blk 32 [dL 8 qc v]),(4,B.blk 105 [C.fn 67 [] [dP 0,dP 3,dP 4]])]=_
 have hF':∀(set0:List qa) (from0 b2:Int) (v:List qa) (set0_len:Nat),set0_len=set0.length→rE (.fn 67) 5 [R.c (C.d (D.sl 8 set0_len (set0.flatMap qc))),rI from0,rP 0,rP 3,rP 4] [(0,B.blk 60 [C.hd .yield 1]),(1,B.ob (AO.lp 16 (R.any::R.any::R.any::R.any::rP 2::q7M) [11] (raO 16 6) (rbO 16 6) LoopState.ready none)),(2,B.blk 3 [dI b2]),(3,B.blk 32 [dL 8 qc v]),(4,B.blk 105 [C.fn 67 [] [dP 0,dP 3,dP 4]])]=(rF (set0,from0,b2,v)).bind (fun e=>some (rB e.1,[(0,B.blk 60 [C.hd .yield 1]),(1,B.ob (AO.lp 16 (R.any::R.any::R.any::R.any::rP 2::q7M) [11] (raO 16 6) (rbO 16 6) LoopState.ready none)),(2,B.blk 3 [dI e.2.1]),(3,B.blk 32 [dL 8 qc e.2.2]),(4,B.blk 105 [C.fn 67 [] [dP 0,dP 3,dP 4]])])):=by intro set0 from0 b2 v set0_len h0;subst h0;exact hF (set0,from0,b2,v)
 rw[q6s qqy qup]
 have:=qtL;have:=@q2h;have:=q0x rE rF hF hM hR;have:=@zS.eq_1;have:=@zm.eq_1;exact gA
theorem Zm:∀x y,za x=za y→x=y:=by
 rintro⟨a0,a1,a2,a3⟩ ⟨b0,b1,b2,b3⟩ h
 simp only[za,Prod.mk.injEq,List.cons.injEq,R.c.injEq,R.agg.injEq,R.tup.injEq,C.d.injEq,C.own.injEq,C.ptr.injEq,C.eptr.injEq,C.clp.injEq,D.int.injEq,D.bool.injEq,D.str.injEq,D.sl.injEq,B.blk.injEq,B.row.injEq,q3L,q1Z,q0f,q2N,q2Z,q4v,q48,q4V,q4B,q4H,q6K,q40,true_and,and_true,qy1] at h
 simp only[h]
theorem q0w:∀x y,zm x=zm y→x=y:=by
 rintro⟨a0,a1,a2⟩ ⟨b0,b1,b2⟩ h
 simp only[zm,Prod.mk.injEq,List.cons.injEq,R.c.injEq,R.agg.injEq,R.tup.injEq,C.d.injEq,C.own.injEq,C.ptr.injEq,C.eptr.injEq,C.clp.injEq,D.int.injEq,D.bool.injEq,D.str.injEq,D.sl.injEq,B.blk.injEq,B.row.injEq,q3L,q1Z,q0f,q2N,q2Z,q4v,q48,q4V,q4B,q4H,q6K,q40,true_and,and_true,qy1] at h
 simp only[h]
def Q4:(List qa×Int×Int×List qa)→Option (Bool×Int×List qa):=q5j 67 5 za zm
theorem J9 (x:(List qa×Int×Int×List qa)):Q4 x=zS Q4 x:=qhl qs7.2.2.2 Zm q0w Ji x
theorem q1x (set0:List qa) (from0 b2:Int) (v:List qa):ev 67 5 [rL 8 qc set0,rI from0,rP 0,rP 3,rP 4] [(0,B.blk 60 [C.hd .yield 1]),(1,B.ob (AO.lp 16 (R.any::R.any::R.any::R.any::rP 2::q7M) [11] (raO 16 6) (rbO 16 6) LoopState.ready none)),(2,B.blk 3 [dI b2]),(3,B.blk 32 [dL 8 qc v]),(4,B.blk 105 [C.fn 67 [] [dP 0,dP 3,dP 4]])]=(Q4 (set0,from0,b2,v)).bind (fun(e:Bool×Int×List qa)=>some (rB e.1,[(0,B.blk 60 [C.hd .yield 1]),(1,B.ob (AO.lp 16 (R.any::R.any::R.any::R.any::rP 2::q7M) [11] (raO 16 6) (rbO 16 6) LoopState.ready none)),(2,B.blk 3 [dI e.2.1]),(3,B.blk 32 [dL 8 qc e.2.2]),(4,B.blk 105 [C.fn 67 [] [dP 0,dP 3,dP 4]])])):=(q9x qs7.2.2.2 Zm Ji (set0,from0,b2,v))
theorem q0s:∀  (from0 b2:Int) (v:List qa),ev 67 5 [R.c (C.d (D.sl 8 0 [])),rI from0,rP 0,rP 3,rP 4] [(0,B.blk 60 [C.hd .yield 1]),(1,B.ob (AO.lp 16 (R.any::R.any::R.any::R.any::rP 2::q7M) [11] (raO 16 6) (rbO 16 6) LoopState.ready none)),(2,B.blk 3 [dI b2]),(3,B.blk 32 [dL 8 qc v]),(4,B.blk 105 [C.fn 67 [] [dP 0,dP 3,dP 4]])]=(Q4 ([],from0,b2,v)).bind (fun(e:Bool×Int×List qa)=>some (rB e.1,[(0,B.blk 60 [C.hd .yield 1]),(1,B.ob (AO.lp 16 (R.any::R.any::R.any::R.any::rP 2::q7M) [11] (raO 16 6) (rbO 16 6) LoopState.ready none)),(2,B.blk 3 [dI e.2.1]),(3,B.blk 32 [dL 8 qc e.2.2]),(4,B.blk 105 [C.fn 67 [] [dP 0,dP 3,dP 4]])])):=by
 intro from0 b2 v;have h:=q1x [] from0 b2 v
 first
  | exact h
  | (simp only[rL,dL,bR,bZ,Nat.reduceAdd] at h;exact h)
def ZF (b1:Int) (v:List qa):Option (Int×List qa):=Option.bind (Q4 ([],(0,(b1,v)))) fun(a:Prod Bool (Prod Int (List qa)))=>some (a.2.1,a.2.2)
theorem q3a:∀(b1:Int) (v:List qa),ev 66 3 [R.c (C.hd .yield 0),rP 2] [(0,B.ob (AO.lp 16 (R.any::R.any::R.any::R.any::rP 1::q7M) [11] (raO 16 6) (rbO 16 6) LoopState.ready none)),(1,B.blk 3 [dI b1]),(2,B.blk 32 [dL 8 qc v])]=(ZF b1 v).bind (fun(e:Int×List qa)=>some (R.tup [],[(0,B.ob (AO.lp 16 (R.any::R.any::R.any::R.any::rP 1::q7M) [11] (raO 16 6) (rbO 16 6) LoopState.ready none)),(1,B.blk 3 [dI e.1]),(2,B.blk 32 [dL 8 qc e.2])])):=
 fun b1 v=>by
  rw[qy qrg qv0.2.2.2 qxi]
  have:=qvl;have:=@q0s;have:=@ZF.eq_1;exact gA
def QT (l:List qa):Option (Int×Int):=if 10<((l.length:Nat):Int) then some (0,2) else Option.bind (ZF 0 l) fun(a:Prod Int (List qa))=>some (a.1,0)
theorem q4p:∀(l:List qa),ev 16 0 [rL 8 qc l] []=(QT l).bind (fun(e:Int×Int)=>some (R.tup [rI e.1,rI e.2],[])):=
 fun l=>by
  rw[qy qm3 qut.2.2.2 qux]
  have:=qui;have:=@q5b;have:=@q3a;have:=@QT.eq_1;have:=@qhe;exact gA
theorem q27:∀(l0_Course_School:Int) (l0_Course_Code:ByteArray) (l0_Credits l0_Grade l0_Day l0_Sources0 l0_Bundle l1_Course_School:Int) (l1_Course_Code:ByteArray) (l1_Credits l1_Grade l1_Day l1_Sources0 l1_Bundle l2_Course_School:Int) (l2_Course_Code:ByteArray) (l2_Credits l2_Grade l2_Day l2_Sources0 l2_Bundle:Int) , ev 16 0 [R.c (C.d (D.sl 8 3 [D.int .i64 l0_Course_School,D.str l0_Course_Code,D.int .i64 l0_Credits,D.int .i64 l0_Grade,D.int .i64 l0_Day,D.sl 1 1 [D.int .i64 l0_Sources0],D.int .i64 l0_Bundle,D.sl 1 0 [],D.int .i64 l1_Course_School,D.str l1_Course_Code,D.int .i64 l1_Credits,D.int .i64 l1_Grade,D.int .i64 l1_Day,D.sl 1 1 [D.int .i64 l1_Sources0],D.int .i64 l1_Bundle,D.sl 1 0 [],D.int .i64 l2_Course_School,D.str l2_Course_Code,D.int .i64 l2_Credits,D.int .i64 l2_Grade,D.int .i64 l2_Day,D.sl 1 1 [D.int .i64 l2_Sources0],D.int .i64 l2_Bundle,D.sl 1 0 []]))] []=(QT [(qa.mk (qb.mk l0_Course_School l0_Course_Code) l0_Credits l0_Grade l0_Day [l0_Sources0] l0_Bundle ([]:List Int)),(qa.mk (qb.mk l1_Course_School l1_Course_Code) l1_Credits l1_Grade l1_Day [l1_Sources0] l1_Bundle ([]:List Int)),(qa.mk (qb.mk l2_Course_School l2_Course_Code) l2_Credits l2_Grade l2_Day [l2_Sources0] l2_Bundle ([]:List Int))]).bind (fun(e:Int×Int)=>some (R.tup [rI e.1,rI e.2],[])):=by
 intro l0_Course_School l0_Course_Code l0_Credits l0_Grade l0_Day l0_Sources0 l0_Bundle l1_Course_School l1_Course_Code l1_Credits l1_Grade l1_Day l1_Sources0 l1_Bundle l2_Course_School l2_Course_Code l2_Credits l2_Grade l2_Day l2_Sources0 l2_Bundle;have h:=q4p [(qa.mk (qb.mk l0_Course_School l0_Course_Code) l0_Credits l0_Grade l0_Day [l0_Sources0] l0_Bundle ([]:List Int)),(qa.mk (qb.mk l1_Course_School l1_Course_Code) l1_Credits l1_Grade l1_Day [l1_Sources0] l1_Bundle ([]:List Int)),(qa.mk (qb.mk l2_Course_School l2_Course_Code) l2_Credits l2_Grade l2_Day [l2_Sources0] l2_Bundle ([]:List Int))]
 first
  | exact h
  | (simp only[rL,dL,bR,bZ,Nat.reduceAdd] at h;exact h)
theorem qm6:okL 11 q70:=qB (qi qjV) (by kernel_rfl) (by kernel_rfl)
def qiY:=JA_ @q70.eq_1 (JA_ @Try.f11.eq_1 @qjV)
theorem qbZ:lbO 11 3=q7z:=zE (qi qjV) rfl
theorem qbe:okL 11 q7z:=qT qm6 (qxI (i:=0) (by kernel_rfl))
theorem qep:lbO 11 9=q7a:=zE (qi qjV) rfl
theorem qeD:okL 11 q7a:=qT qm6 (qxI (i:=1) (by kernel_rfl))
theorem qvC:okL 25 qdi:=qB (qi qsP) (by kernel_rfl) (by kernel_rfl)
def qwS:=JA_ @qdi.eq_1 (JA_ @Try.f25.eq_1 @qsP)
theorem qwq:okL 50 qdg:=qB (qi qtd) (by kernel_rfl) (by kernel_rfl)
def qvw:=JA_ @qdg.eq_1 (JA_ @Try.f50.eq_1 @qtd)
theorem qwY:okL 76 qbR:=qB (qi qsT) (by kernel_rfl) (by kernel_rfl)
def qxG:=JA_ @qbR.eq_1 (JA_ @Try.f76.eq_1 @qsT)
def Qz (n:Int) (by0:Int):Option Int:=if by0=0 then none else if by0=0 then none else if by0=0 then none else some (w64 (Int.tdiv (w64 (n-Int.tmod (w64 (Int.tmod n by0+by0)) by0)) by0))
theorem q3E:∀(n by0:Int),ev 76 0 [rI n,rI by0] []=(Qz n by0).bind (fun(e:Int)=>some (rI e,[])):=
 fun n by0=>by
  rw[qy qsT quR.2.2.2 qwY]
  have:=qxG;have:=@Qz.eq_1;exact gA
def QR (day:Int):Option Int:=if day<(-4611686018427387904) then Option.bind (Qz (w64 (day+100)) 100) fun(a:Int)=>some (w64 (a-1)) else Option.bind (Qz day 100) fun(e0:Int)=>some e0
theorem q5m:∀(day:Int),ev 50 0 [rI day] []=(QR day).bind (fun(e:Int)=>some (rI e,[])):=
 fun day=>by
  rw[qy qtd qur.2.2.2 qwq]
  have:=qvw;have:=@q3E;have:=@QR.eq_1;exact gA
def qv (p:qd) (a:qa) (day:Int):Option Bool:=if 0<p.Age then Option.bind (QR day) fun(a2:Int)=>Option.bind (QR a.Day) fun(a3:Int)=>some (decide (p.Age<w64 (a2-a3))) else some Bool.false
theorem J5:∀(p_School p_Id p_Version p_From:Int) (p_Name:ByteArray) (p_Need_Kind p_Need_N p_Need_Min:Int) (p_Need_Set:List qb) (p_Need_L:List qg) (p_Total p_Own p_Age:Int) (p_Exclude:List (Qy qb)) (a_Course_School:Int) (a_Course_Code:ByteArray) (a_Credits a_Grade a_Day:Int) (a_Sources:List Int) (a_Bundle:Int) (a_Path:List Int) (day:Int),ev 25 0 [R.agg [dI p_School,dI p_Id,dI p_Version,dI p_From,dS p_Name,dI p_Need_Kind,dI p_Need_N,dI p_Need_Min,dL 2 qh p_Need_Set,dL 5 ql p_Need_L,dI p_Total,dI p_Own,dI p_Age,dL 4 (eA2 qh) p_Exclude],R.agg [dI a_Course_School,dS a_Course_Code,dI a_Credits,dI a_Grade,dI a_Day,dL 1 eI a_Sources,dI a_Bundle,dL 1 eI a_Path],rI day] []=(qv (qd.mk p_School p_Id p_Version p_From p_Name (qg.mk p_Need_Kind p_Need_N p_Need_Min p_Need_Set p_Need_L) p_Total p_Own p_Age p_Exclude) (qa.mk (qb.mk a_Course_School a_Course_Code) a_Credits a_Grade a_Day a_Sources a_Bundle a_Path) day).bind (fun(e:Bool)=>some (rB e,[])):=
 fun p_School p_Id p_Version p_From p_Name p_Need_Kind p_Need_N p_Need_Min p_Need_Set p_Need_L p_Total p_Own p_Age p_Exclude a_Course_School a_Course_Code a_Credits a_Grade a_Day a_Sources a_Bundle a_Path day=>by
  rw[qy qsP quP.2.2.2 qvC]
  have:=qwS;have:=@q5m;have:=@qv.eq_1;exact gA
theorem qwV:okL 31 qbQ:=qB (qi qrP) (by kernel_rfl) (by kernel_rfl)
def qwN:=JA_ @qbQ.eq_1 (JA_ @Try.f31.eq_1 @qrP)
def qM (s:List Int):Option Unit:=if s.length≤maxLen∧s.length*8≤140737488355328 then some () else none
theorem Z6:∀(s:List Int),ev 57 0 [rL 1 eI s] []=(qM s).bind (fun(e:Unit)=>some (rO 0 1 s.length,[(0,bR 3 1 eI s)])):=
 fun s=>by
  rw[qgy,qul.2.2.2]
  have:=@qM.eq_1;exact gA
def qt (a:qa):Option Unit:=Option.bind (qM a.Sources) fun(a2:Unit)=>Option.bind (qM a.Path) fun(a3:Unit)=>some ()
theorem ZD:∀(a_Course_School:Int) (a_Course_Code:ByteArray) (a_Credits a_Grade a_Day:Int) (a_Sources:List Int) (a_Bundle:Int) (a_Path:List Int),ev 31 0 [R.agg [dI a_Course_School,dS a_Course_Code,dI a_Credits,dI a_Grade,dI a_Day,dL 1 eI a_Sources,dI a_Bundle,dL 1 eI a_Path]] []=(qt (qa.mk (qb.mk a_Course_School a_Course_Code) a_Credits a_Grade a_Day a_Sources a_Bundle a_Path)).bind (fun(e:Unit)=>some (R.agg [dI a_Course_School,dS a_Course_Code,dI a_Credits,dI a_Grade,dI a_Day,dL 1 eI a_Sources,dI a_Bundle,dL 1 eI a_Path],[])):=
 fun a_Course_School a_Course_Code a_Credits a_Grade a_Day a_Sources a_Bundle a_Path=>by
  rw[qy qrP qtN.2.2.2 qwV]
  have:=qwN;have:=@Z6;have:=@qt.eq_1;exact gA
theorem qtC:okL 32 q9s:=qB (qi qq2) (by kernel_rfl) (by kernel_rfl)
def qvg:=JA_ @q9s.eq_1 (JA_ @Try.f32.eq_1 @qq2)
theorem qmg:lbO 32 3=qcA:=zE (qi qq2) rfl
theorem qou:okL 32 qcA:=qT qtC (qxI (i:=0) (by kernel_rfl))
theorem qrH:okL 58 q7A:=qB (qi qmM) (by kernel_rfl) (by kernel_rfl)
def qra:=JA_ @q7A.eq_1 (JA_ @Try.f58.eq_1 @qmM)
theorem ql5:lbO 58 3=qbG:=zE (qi qmM) rfl
theorem qnJ:okL 58 qbG:=qT qrH (qxI (i:=0) (by kernel_rfl))
theorem qoI:lbO 58 8=qe7:=zE (qi qmM) rfl
theorem qnj:okL 58 qe7:=qT qrH (qxI (i:=1) (by kernel_rfl))
def zY (s:List Int):Option (List Int):=
 some (@cpI s)
def qH (s:List Int):List Int:=
 @cpI s
theorem ZR (s:List Int):zY s=some (qH s):=by
 unfold zY qH
 simp only[ZG]
theorem Jg:∀(s:List Int) (s_len:Nat),s_len=s.length→ev 79 0 [rO 0 1 s_len] [(0,bR 3 1 eI s)]=some (rO 0 1 (qH s).length,[(0,B.row 3 1 (((qH s).flatMap eI).map C.d))]):=
 by
 intro s s_len h0
 subst h0
 have h:ev 79 0 [rO 0 1 s.length] [(0,bR 3 1 eI s)]=(zY s).bind (fun(e:List Int)=>some (rO 0 1 e.length,[(0,bR 3 1 eI e)])):=by
  rw[qgy,qu2.2.2.2]
  have:=@zY.eq_1;exact gA
 rw[ZR] at h
 exact h
def Qo (w1:List Int) (t10:List qa) (t11:Int) (t12:Int) (t23:Int):((List (Int×Int))×Int)→Option (((List (Int×Int))×Int)⊕((List (Int×Int))))|(m0,t24)=>if t24<t23 then if 0≤t24∧t24<((w1.length:Nat):Int) then Option.bind w1[Int.toNat t24]? fun(a:Int)=>some (Sum.inl (q3m m0 a (w64 (Zi 0 m0 a+1)),w64 (t24+1))) else none else some (Sum.inr m0)
theorem q34:∀(w1:List Int) (m0:List (Int×Int)) (t10:List qa) (t11 t12 t23 t24:Int) (w1_len:Nat),w1_len=w1.length→XL2 evo 58 0 8 ⟨[(3,R.c (C.hd .map 0)),(10,rL 8 qc t10),(11,rI t11),(12,rI t12),(22,rO 1 1 w1_len),(23,rI t23),(24,rI t24)],[(0,B.ob (mpB (JJ .i64) Qd m0)),(1,bR 3 1 eI w1)],2,35⟩=(qz (Qo w1 t10 t11 t12 t23) (m0,t24)).bind (fun(e:(List (Int×Int)))=>some (Exit.exit 2,⟨[(3,R.c (C.hd .map 0)),(10,rL 8 qc t10),(11,rI t11),(12,rI t12)],[(0,B.ob (mpB (JJ .i64) Qd e))],1,35⟩)):=
 by
 intro w1 m0 t10 t11 t12 t23 t24 w1_len h0
 subst h0
 revert t24;revert m0;exact qa0 qoI qnj (fun e=>by exact⟨_,rfl,fun h=>by cases h⟩) fun m0 t24=>by
  have:=qra;have:=@qe7.eq_1;have:=@Qo.eq_1;exact gA
def QF (t10:List qa) (t11:Int):((List (Int×Int))×Int)→Option (((List (Int×Int))×Int)⊕((List (Int×Int))))|(m0,t12)=>if t12<t11 then if 0≤t12∧t12<((t10.length:Nat):Int) then Option.bind t10[Int.toNat t12]? fun(a:qa)=>Option.bind (qM a.Sources) fun(a2:Unit)=>if a.Sources.length<4611686018427387904 then Option.bind (qz (Qo (qH (@ZZ a.Sources)) t10 t11 t12 (((qH (@ZZ a.Sources)).length:Nat):Int)) (m0,0)) fun(a3:List (Prod Int Int))=>some (Sum.inl (a3,w64 (t12+1))) else none else none else some (Sum.inr m0)
theorem q2X:∀(m0:List (Int×Int)) (t10:List qa) (t11 t12:Int),XL2 evo 58 0 3 ⟨[(3,R.c (C.hd .map 0)),(10,rL 8 qc t10),(11,rI t11),(12,rI t12)],[(0,B.ob (mpB (JJ .i64) Qd m0))],1,35⟩=(qz (QF t10 t11) (m0,t12)).bind (fun(e:(List (Int×Int)))=>some (Exit.exit 0,⟨[(3,R.c (C.hd .map 0))],[(0,B.ob (mpB (JJ .i64) Qd e))],1,35⟩)):=
 fun m0 t10 t11 t12=>by
  revert t12;revert m0;exact qa0 ql5 qnJ (fun e=>by exact⟨_,rfl,fun h=>by cases h⟩) fun m0 t12=>by
   have:=qra;have:=@qbG.eq_1;have:=@Z6;have:=@Jg;have:=@q34;have:=@QF.eq_1;exact gA
def Jj (l:List qa):Option ((List (Int×Int))):=Option.bind (qz (QF l ((l.length:Nat):Int)) ([],0)) fun(a:List (Prod Int Int))=>some a
theorem q5s:∀(l:List qa),ev 58 0 [rL 8 qc l] []=(Jj l).bind (fun(e:(List (Int×Int)))=>some (R.c (C.hd .map 0),[(0,B.ob (mpB (JJ .i64) Qd e))])):=
 fun l=>by
  rw[qy qmM qvf.2.2.2 qrH]
  have:=qra;have:=@q2X;have:=@Jj.eq_1;exact gA
theorem qxg:okL 14 qcc:=qB (qi qqO) (by kernel_rfl) (by kernel_rfl)
def qwo:=JA_ @qcc.eq_1 (JA_ @Try.f14.eq_1 @qqO)
theorem qwA:okL 39 qcs:=qB (qi qrz) (by kernel_rfl) (by kernel_rfl)
def qwk:=JA_ @qcs.eq_1 (JA_ @Try.f39.eq_1 @qrz)
theorem qwE:okL 64 qe9:=qB (qi qrG) (by kernel_rfl) (by kernel_rfl)
def qxj:=JA_ @qe9.eq_1 (JA_ @Try.f64.eq_1 @qrG)
theorem qu4:okL 84 q9U:=qB (qi qqa) (by kernel_rfl) (by kernel_rfl)
def qu0:=JA_ @q9U.eq_1 (JA_ @Try.f84.eq_1 @qqa)
theorem qnG:lbO 84 2=qcQ:=zE (qi qqa) rfl
theorem qnz:okL 84 qcQ:=qT qu4 (qxI (i:=0) (by kernel_rfl))
theorem qwT:okL 85 qeF:=qB (qi qrC) (by kernel_rfl) (by kernel_rfl)
def qvW:=JA_ @qeF.eq_1 (JA_ @Try.f85.eq_1 @qrC)
def QA (n:Int) (a:Int) (b:Int):Option Int:=
 some (max (min a b) (min n (max a b)))
def qR (n:Int) (a:Int) (b:Int):Int:=
 max (min a b) (min n (max a b))
theorem q05 (n a b:Int):QA n a b=some (qR n a b):=by
 unfold QA qR
 simp only[ZG]
theorem QK:∀(n a b:Int),ev 85 0 [rI n,rI a,rI b] []=some (rI (qR n a b),[]):=
 fun n a b=>by
  have h:ev 85 0 [rI n,rI a,rI b] []=(QA n a b).bind (fun(e:Int)=>some (rI e,[])):=by
   rw[qy qrC qv7.2.2.2 qwT]
   have:=qvW;have:=@QA.eq_1;exact gA
  rw[q05] at h
  exact h
end
noncomputable section
open Go.RowKit
set_option maxRecDepth 20000
set_option maxHeartbeats 8000000
def Q2 (w1:List Int) (s:qe) (t10:Int):Int→Option (Int⊕(Unit⊕Unit))|t11=>if t11<t10 then if 0≤t11∧t11<((w1.length:Nat):Int) then Option.bind w1[Int.toNat t11]? fun(a:Int)=>if(qR a (-1000) 1000 != a)=Bool.true then some (Sum.inr (Sum.inl ())) else some (Sum.inl (w64 (t11+1))) else none else some (Sum.inr (Sum.inr ()))
theorem q1J:∀(w1:List Int) (s_Worst s_Best s_Pass t10 t11:Int) (w1_len:Nat),w1_len=w1.length→XL2 evo 84 0 2 ⟨[(1,rP 0),(9,rO 1 1 w1_len),(10,rI t10),(11,rI t11)],[(0,B.blk 30 [dI s_Worst,dI s_Best,dI s_Pass]),(1,bR 3 1 eI w1)],2,37⟩=(qz (Q2 w1 (qe.mk s_Worst s_Best s_Pass) t10) t11).bind (Sum.elim (fun(e:Unit)=>some (Exit.ret,⟨[(1,rP 0),(2,rI 10)],[(0,B.blk 30 [dI s_Worst,dI s_Best,dI s_Pass])],1,37⟩)) (fun(e:Unit)=>some (Exit.exit 0,⟨[(1,rP 0),(2,R.any)],[(0,B.blk 30 [dI s_Worst,dI s_Best,dI s_Pass])],1,37⟩))):=
 by
 intro w1 s_Worst s_Best s_Pass t10 t11 w1_len h0
 subst h0
 revert t11;exact q5l qnG qnz (fun e=>by rcases e with _|_<;>exact⟨_,rfl,fun h=>by cases h⟩) fun x=>by
  have:=qu0;have:=@qcQ.eq_1;have:=@QK;have:=@Q2.eq_1;exact gA
theorem q0t:∀(w10 w11 s_Worst s_Best s_Pass t10 t11:Int),XL2 evo 84 0 2 ⟨[(1,rP 0),(9,rO 1 1 2),(10,rI t10),(11,rI t11)],[(0,B.blk 30 [dI s_Worst,dI s_Best,dI s_Pass]),(1,B.row 3 1 [dI w10,dI w11])],2,37⟩=(qz (Q2 [w10,w11] (qe.mk s_Worst s_Best s_Pass) t10) t11).bind (Sum.elim (fun(e:Unit)=>some (Exit.ret,⟨[(1,rP 0),(2,rI 10)],[(0,B.blk 30 [dI s_Worst,dI s_Best,dI s_Pass])],1,37⟩)) (fun(e:Unit)=>some (Exit.exit 0,⟨[(1,rP 0),(2,R.any)],[(0,B.blk 30 [dI s_Worst,dI s_Best,dI s_Pass])],1,37⟩))):=by
 intro w10 w11 s_Worst s_Best s_Pass t10 t11;have h:=q1J [w10,w11] ((qe.mk s_Worst s_Best s_Pass)).Worst ((qe.mk s_Worst s_Best s_Pass)).Best ((qe.mk s_Worst s_Best s_Pass)).Pass t10 t11 _ rfl
 first
  | exact h
  | (simp only[rL,dL,bR,bZ,Nat.reduceAdd] at h;exact h)
def Zn (s:qe):Option Int:=Option.bind (qz (Q2 [s.Worst,s.Best] s 2) 0) fun(a:Sum Unit Unit)=>Sum.elim (fun(a2:Unit)=>some 10) (fun(a3:Unit)=>if(s.Worst==s.Best)=Bool.true then some 10 else if(qR s.Pass s.Worst s.Best != s.Pass)=Bool.true then some 10 else some 0) a
theorem q3v:∀(s_Worst s_Best s_Pass:Int),ev 84 0 [R.agg [dI s_Worst,dI s_Best,dI s_Pass]] []=(Zn (qe.mk s_Worst s_Best s_Pass)).bind (fun(e:Int)=>some (rI e,[])):=
 fun s_Worst s_Best s_Pass=>by
  rw[qy qqa quc.2.2.2 qu4]
  have:=qu0;have:=@q0t;have:=@QK;have:=@Zn.eq_1;exact gA
def Zq (s:qe) (g:Int):Option Bool:=Option.bind (Zn s) fun(a:Int)=>if(a==0)=Bool.true then some (qR g s.Worst s.Best==g) else some Bool.false
theorem q3y:∀(s_Worst s_Best s_Pass g:Int),ev 64 0 [R.agg [dI s_Worst,dI s_Best,dI s_Pass],rI g] []=(Zq (qe.mk s_Worst s_Best s_Pass) g).bind (fun(e:Bool)=>some (rB e,[])):=
 fun s_Worst s_Best s_Pass g=>by
  rw[qy qrG qtJ.2.2.2 qwE]
  have:=qxj;have:=@q3v;have:=@QK;have:=@Zq.eq_1;exact gA
def QQ (s:qe) (g:Int) (min:Int):Option Bool:=Option.bind (Zq s g) fun(a:Bool)=>if a=Bool.true then if(g==min)=Bool.true then some Bool.true else some (decide (min<g)==decide (s.Worst<s.Best)) else some Bool.false
theorem q2x:∀(s_Worst s_Best s_Pass g min:Int),ev 39 0 [R.agg [dI s_Worst,dI s_Best,dI s_Pass],rI g,rI min] []=(QQ (qe.mk s_Worst s_Best s_Pass) g min).bind (fun(e:Bool)=>some (rB e,[])):=
 fun s_Worst s_Best s_Pass g min=>by
  rw[qy qrz qvc.2.2.2 qwA]
  have:=qwk;have:=@q3y;have:=@QQ.eq_1;exact gA
def QH (s:qe) (a:qa) (b:qa):Option Bool:=if(a.Course.School==b.Course.School)=Bool.true∧(ByteArray.toList a.Course.Code==ByteArray.toList b.Course.Code)=Bool.true then if(a.Bundle==b.Bundle)=Bool.true then Option.bind (zc a.Path b.Path) fun(a2:Bool)=>if a2=Bool.true then if b.Credits≤a.Credits then if b.Day≤a.Day then Option.bind (QQ s a.Grade b.Grade) fun(e0:Bool)=>some e0 else some Bool.false else some Bool.false else some Bool.false else some Bool.false else some Bool.false
theorem q02:∀(s_Worst s_Best s_Pass a_Course_School:Int) (a_Course_Code:ByteArray) (a_Credits a_Grade a_Day:Int) (a_Sources:List Int) (a_Bundle:Int) (a_Path:List Int) (b_Course_School:Int) (b_Course_Code:ByteArray) (b_Credits b_Grade b_Day:Int) (b_Sources:List Int) (b_Bundle:Int) (b_Path:List Int),ev 14 0 [R.agg [dI s_Worst,dI s_Best,dI s_Pass],R.agg [dI a_Course_School,dS a_Course_Code,dI a_Credits,dI a_Grade,dI a_Day,dL 1 eI a_Sources,dI a_Bundle,dL 1 eI a_Path],R.agg [dI b_Course_School,dS b_Course_Code,dI b_Credits,dI b_Grade,dI b_Day,dL 1 eI b_Sources,dI b_Bundle,dL 1 eI b_Path]] []=(QH (qe.mk s_Worst s_Best s_Pass) (qa.mk (qb.mk a_Course_School a_Course_Code) a_Credits a_Grade a_Day a_Sources a_Bundle a_Path) (qa.mk (qb.mk b_Course_School b_Course_Code) b_Credits b_Grade b_Day b_Sources b_Bundle b_Path)).bind (fun(e:Bool)=>some (rB e,[])):=
 fun s_Worst s_Best s_Pass a_Course_School a_Course_Code a_Credits a_Grade a_Day a_Sources a_Bundle a_Path b_Course_School b_Course_Code b_Credits b_Grade b_Day b_Sources b_Bundle b_Path=>by
  rw[qy qqO quh.2.2.2 qxg]
  have:=qwo;have:=@Z7;have:=@q2x;have:=@QH.eq_1;exact gA
theorem qvL:okL 59 qbh:=qB (qi qt7) (by kernel_rfl) (by kernel_rfl)
def qxh:=JA_ @qbh.eq_1 (JA_ @Try.f59.eq_1 @qt7)
def Qv (n:Int) (m1:List (Int×Int)) (v:List qa) (v2:Int):Option Bool:=if 1<Zi 0 m1 n then if 0≤v2∧v2<((v.length:Nat):Int) then Option.bind v[Int.toNat v2]? fun(a:qa)=>Option.bind (qV a.Sources n) fun(a2:Bool)=>some (!a2) else none else some Bool.false
theorem q1n:∀(n:Int) (m1:List (Int×Int)) (v:List qa) (v2:Int),ev 59 4 [rI n,rP 0,rP 2,rP 3] [(0,B.blk 82 [C.hd .map 1]),(1,B.ob (mpB (JJ .i64) Qd m1)),(2,B.blk 32 [dL 8 qc v]),(3,B.blk 3 [dI v2])]=(Qv n m1 v v2).bind (fun(e:Bool)=>some (rB e,[(0,B.blk 82 [C.hd .map 1]),(1,B.ob (mpB (JJ .i64) Qd m1)),(2,B.blk 32 [dL 8 qc v]),(3,B.blk 3 [dI v2])])):=
 fun n m1 v v2=>by
  rw[qy qt7 qtD.2.2.2 qvL]
  have:=qxh;have:=@QM;have:=@Qv.eq_1;exact gA
def qm (i:Int) (j:Int) (s:List qa):Option (List qa):=if 0≤i∧j=i+1∧i<((s.length:Nat):Int) then some (@List.eraseIdx qa s (Int.toNat i)) else none
theorem qF:∀(i j:Int) (s:List qa) (s_len:Nat),s_len=s.length→ev 33 0 [rO 0 8 s_len,rI i,rI j] [(0,bR 52 8 qc s)]=(qm i j s).bind (fun(e:List qa)=>some (rO 0 8 e.length,[(0,bR 52 8 qc e)])):=
 by
 intro i j s s_len h0
 subst h0
 rw[qgy,qum.2.2.2]
 have:=@qm.eq_1;exact gA
def qC (m1:List (Int×Int)) (b2:List qa) (b3:Int) (s:List Int) (t7:Int):Int→Option (Int⊕(Int⊕Unit))|t8=>if t8<t7 then if 0≤t8∧t8<((s.length:Nat):Int) then Option.bind s[Int.toNat t8]? fun(a:Int)=>Option.bind (Qv a m1 b2 b3) fun(a2:Bool)=>if a2=Bool.true then some (Sum.inr (Sum.inl t8)) else some (Sum.inl (w64 (t8+1))) else none else some (Sum.inr (Sum.inr ()))
theorem Zf:∀(m1:List (Int×Int)) (b2:List qa) (b3:Int) (s:List Int) (t7 t8:Int),XL2 evo 81 4 2 ⟨[(0,rL 1 eI s),(1,R.c (C.fn 59 [] [dP 0,dP 2,dP 3])),(7,rI t7),(8,rI t8)],[(0,B.blk 82 [C.hd .map 1]),(1,B.ob (mpB (JJ .i64) Qd m1)),(2,B.blk 32 [dL 8 qc b2]),(3,B.blk 3 [dI b3])],4,19⟩=(qz (qC m1 b2 b3 s t7) t8).bind (Sum.elim (fun(e:Int)=>some (Exit.ret,⟨[(4,rI e)],[(0,B.blk 82 [C.hd .map 1]),(1,B.ob (mpB (JJ .i64) Qd m1)),(2,B.blk 32 [dL 8 qc b2]),(3,B.blk 3 [dI b3])],4,19⟩)) (fun(e:Unit)=>some (Exit.exit 0,⟨[(4,R.any)],[(0,B.blk 82 [C.hd .map 1]),(1,B.ob (mpB (JJ .i64) Qd m1)),(2,B.blk 32 [dL 8 qc b2]),(3,B.blk 3 [dI b3])],4,19⟩))):=
 fun m1 b2 b3 s t7 t8=>by
  revert t8;exact q5l qhr qhk (fun e=>by rcases e with _|_<;>exact⟨_,rfl,fun h=>by cases h⟩) fun x=>by
   have:=qqd;have:=@q9H.eq_1;have:=@q1n;have:=@qC.eq_1;exact gA
def zt (s:List Int) (m1:List (Int×Int)) (b2:List qa) (b3:Int):Option Int:=Option.bind (qz (qC m1 b2 b3 s ((s.length:Nat):Int)) 0) fun(a:Sum Int Unit)=>Sum.elim (fun(a2:Int)=>some a2) (fun(a3:Unit)=>some (-1)) a
theorem ZC:∀(s:List Int) (m1:List (Int×Int)) (b2:List qa) (b3:Int),ev 81 4 [rL 1 eI s,R.c (C.fn 59 [] [dP 0,dP 2,dP 3])] [(0,B.blk 82 [C.hd .map 1]),(1,B.ob (mpB (JJ .i64) Qd m1)),(2,B.blk 32 [dL 8 qc b2]),(3,B.blk 3 [dI b3])]=(zt s m1 b2 b3).bind (fun(e:Int)=>some (rI e,[(0,B.blk 82 [C.hd .map 1]),(1,B.ob (mpB (JJ .i64) Qd m1)),(2,B.blk 32 [dL 8 qc b2]),(3,B.blk 3 [dI b3])])):=
 fun s m1 b2 b3=>by
  rw[qy qp8 qtq.2.2.2 qrN]
  have:=qqd;have:=@Zf;have:=@zt.eq_1;exact gA
def qQ (s:List Int) (m1:List (Int×Int)) (b2:List qa) (b3:Int):Option Bool:=Option.bind (zt s m1 b2 b3) fun(a:Int)=>some (decide (0≤a))
theorem Zh:∀(s:List Int) (m1:List (Int×Int)) (b2:List qa) (b3:Int),ev 61 4 [rL 1 eI s,R.c (C.fn 59 [] [dP 0,dP 2,dP 3])] [(0,B.blk 82 [C.hd .map 1]),(1,B.ob (mpB (JJ .i64) Qd m1)),(2,B.blk 32 [dL 8 qc b2]),(3,B.blk 3 [dI b3])]=(qQ s m1 b2 b3).bind (fun(e:Bool)=>some (rB e,[(0,B.blk 82 [C.hd .map 1]),(1,B.ob (mpB (JJ .i64) Qd m1)),(2,B.blk 32 [dL 8 qc b2]),(3,B.blk 3 [dI b3])])):=
 fun s m1 b2 b3=>by
  rw[qy qqw qtm.2.2.2 quy]
  have:=qtA;have:=@ZC;have:=@qQ.eq_1;exact gA
def zW (l:List qa) (s:qe) (at0:Int) (m4:List (Int×Int)) (t13:List qa) (t14:Int):Int→Option (Int⊕(Unit⊕Unit))|t15=>if t15<t14 then if 0≤t15∧t15<((t13.length:Nat):Int) then Option.bind t13[Int.toNat t15]? fun(a:qa)=>if(t15==at0)=Bool.true then some (Sum.inl (w64 (t15+1))) else if 0≤at0∧at0<((l.length:Nat):Int) then Option.bind l[Int.toNat at0]? fun(a2:qa)=>Option.bind (QH s a a2) fun(a3:Bool)=>if(!a3)=Bool.true then some (Sum.inl (w64 (t15+1))) else Option.bind (qQ a.Sources m4 l at0) fun(a4:Bool)=>if(!a4)=Bool.true then some (Sum.inr (Sum.inl ())) else some (Sum.inl (w64 (t15+1))) else none else none else some (Sum.inr (Sum.inr ()))
theorem q0J:∀(l:List qa) (s_Worst s_Best s_Pass at0:Int) (m4:List (Int×Int)) (t13:List qa) (t14 t15:Int),XL2 evo 32 0 3 ⟨[(3,rP 0),(4,rP 1),(5,rP 2),(7,rP 3),(13,rL 8 qc t13),(14,rI t14),(15,rI t15)],[(0,B.blk 32 [dL 8 qc l]),(1,B.blk 30 [dI s_Worst,dI s_Best,dI s_Pass]),(2,B.blk 3 [dI at0]),(3,B.blk 82 [C.hd .map 4]),(4,B.ob (mpB (JJ .i64) Qd m4))],5,40⟩=(qz (zW l (qe.mk s_Worst s_Best s_Pass) at0 m4 t13 t14) t15).bind (Sum.elim (fun(e:Unit)=>some (Exit.ret,⟨[(6,rB Bool.true)],[],0,40⟩)) (fun(e:Unit)=>some (Exit.exit 0,⟨[(6,R.any)],[],0,40⟩))):=
 fun l s_Worst s_Best s_Pass at0 m4 t13 t14 t15=>by
  revert t15;exact q5l qmg qou (fun e=>by rcases e with _|_<;>exact⟨_,rfl,fun h=>by cases h⟩) fun x=>by
   have:=qvg;have:=@qcA.eq_1;have:=@q02;have:=@Zh;have:=@zW.eq_1;exact gA
def zT (l:List qa) (s:qe) (at0:Int):Option Bool:=Option.bind (Jj l) fun(a:List (Prod Int Int))=>Option.bind (qz (zW l s at0 a l ((l.length:Nat):Int)) 0) fun(a2:Sum Unit Unit)=>Sum.elim (fun(a3:Unit)=>some Bool.true) (fun(a4:Unit)=>some Bool.false) a2
theorem Zk:∀(l:List qa) (s_Worst s_Best s_Pass at0:Int),ev 32 0 [rL 8 qc l,R.agg [dI s_Worst,dI s_Best,dI s_Pass],rI at0] []=(zT l (qe.mk s_Worst s_Best s_Pass) at0).bind (fun(e:Bool)=>some (rB e,[])):=
 fun l s_Worst s_Best s_Pass at0=>by
  rw[qy qq2 quG.2.2.2 qtC]
  have:=qvg;have:=@q5s;have:=@q0J;have:=@zT.eq_1;exact gA
theorem lo8:okL 8 qiy:=qB (qi bd8) (by kernel_rfl) (by kernel_rfl)
def cx8:=JA_ @qiy.eq_1 (JA_ @Try.f8.eq_1 @bd8)
theorem qwg:okL 26 qcw:=qB (qi qsq) (by kernel_rfl) (by kernel_rfl)
def qxA:=JA_ @qcw.eq_1 (JA_ @Try.f26.eq_1 @qsq)
theorem q5k:∀(code:ByteArray) (grade source day:Int),ev 26 0 [rS code,rI grade,rI source,rI day] []=some (R.agg [C.d (D.int IntKind.i64 1),dS code,C.d (D.int IntKind.i64 5),C.d (D.int IntKind.i64 grade),C.d (D.int IntKind.i64 day),C.d (D.sl 1 1 [D.int IntKind.i64 source]),C.d (D.int IntKind.i64 0),C.d (D.sl 1 0 [])],[]):=
 fun code grade source day=>by
  rw[qy qsq quD.2.2.2 qwg]
  have:=qxA;exact gA
theorem qxr:okL 10 qdX:=qB (qi qqT) (by kernel_rfl) (by kernel_rfl)
def qvI:=JA_ @qdX.eq_1 (JA_ @Try.f10.eq_1 @qqT)
theorem Jn:ev 10 0 [] []=some (R.agg [C.d (D.int IntKind.i64 0),C.d (D.int IntKind.i64 100),C.d (D.int IntKind.i64 50)],[]):=
 by
  rw[qy qqT quZ.2.2.2 qxr]
  have:=qvI;exact gA
theorem lo9:okL 9 qh4:=qB (qi bd9) (by kernel_rfl) (by kernel_rfl)
def cx9:=JA_ @qh4.eq_1 (JA_ @Try.f9.eq_1 @bd9)
theorem qst:lbO 9 3=qjs:=zE (qi bd9) rfl
theorem qt0:okL 9 qjs:=qT lo9 (qxI (i:=0) (by kernel_rfl))
theorem quC:okL 27 q9l:=qB (qi qq8) (by kernel_rfl) (by kernel_rfl)
def quE:=JA_ @q9l.eq_1 (JA_ @Try.f27.eq_1 @qq8)
theorem qoY:lbO 27 3=qeA:=zE (qi qq8) rfl
theorem qmp:okL 27 qeA:=qT quC (qxI (i:=0) (by kernel_rfl))
theorem qwW:okL 51 qbJ:=qB (qi qrS) (by kernel_rfl) (by kernel_rfl)
def qwd:=JA_ @qbJ.eq_1 (JA_ @Try.f51.eq_1 @qrS)
def ZS:Option (List ByteArray):=
 some [ByteArray.mk (List.toArray [65,49]),ByteArray.mk (List.toArray [66,49]),ByteArray.mk (List.toArray [66,50]),ByteArray.mk (List.toArray [67,49]),ByteArray.mk (List.toArray [68,49]),ByteArray.mk (List.toArray [69,57])]
def qw:List ByteArray:=
 [ByteArray.mk (List.toArray [65,49]),ByteArray.mk (List.toArray [66,49]),ByteArray.mk (List.toArray [66,50]),ByteArray.mk (List.toArray [67,49]),ByteArray.mk (List.toArray [68,49]),ByteArray.mk (List.toArray [69,57])]
theorem q2L:ZS=some (qw):=by
 unfold ZS qw
 simp only[ZG]
theorem q0n:ev 51 0 [] []=some (R.c (C.d (D.sl 1 (qw).length ((qw).flatMap eS))),[]):=
 by
  have h:ev 51 0 [] []=(ZS).bind (fun(e:List ByteArray)=>some (rL 1 eS e,[])):=by
   rw[qy qrS qtS.2.2.2 qwW]
   have:=qwd;have:=@ZS.eq_1;exact gA
  rw[q2L] at h
  exact h
theorem qvm:okL 52 qcN:=qB (qi qti) (by kernel_rfl) (by kernel_rfl)
def qxE:=JA_ @qcN.eq_1 (JA_ @Try.f52.eq_1 @qti)
theorem qxF:okL 28 qds:=qB (qi qs8) (by kernel_rfl) (by kernel_rfl)
def qwK:=JA_ @qds.eq_1 (JA_ @Try.f28.eq_1 @qs8)
def Q1 (n:Int) (m:Int):Option Int:=if m=0 then none else if m=0 then none else some (Int.tmod (w64 (Int.tmod n m+m)) m)
theorem Jz:∀(n m:Int),ev 28 0 [rI n,rI m] []=(Q1 n m).bind (fun(e:Int)=>some (rI e,[])):=
 fun n m=>by
  rw[qy qs8 quk.2.2.2 qxF]
  have:=qwK;have:=@Q1.eq_1;exact gA
def qr (n:Int) (d:qf):Option (Int×qf):=if((d.L.length:Nat):Int)≤d.At then some (0,d) else if 0≤w64 (w64 (d.At+1)-1)∧w64 (w64 (d.At+1)-1)<((d.L.length:Nat):Int) then Option.bind d.L[Int.toNat (w64 (w64 (d.At+1)-1))]? fun(a:Int)=>Option.bind (Q1 a n) fun(a2:Int)=>some (a2,qf.mk d.L (w64 (d.At+1))) else none
theorem q1o:∀(n:Int) (d_L:List Int) (d_At:Int),ev 52 1 [rP 0,rI n] [(0,B.blk 89 [dL 1 eI d_L,dI d_At])]=(qr n (qf.mk d_L d_At)).bind (fun(e:Int×qf)=>some (rI e.1,[(0,B.blk 89 [dL 1 eI e.2.L,dI e.2.At])])):=
 fun n d_L d_At=>by
  rw[qy qti qtW.2.2.2 qvm]
  have:=qxE;have:=@Jz;have:=@qr.eq_1;exact gA
theorem qwb:okL 30 qee:=qB (qi qs9) (by kernel_rfl) (by kernel_rfl)
def qwQ:=JA_ @qee.eq_1 (JA_ @Try.f30.eq_1 @qs9)
theorem qvx:okL 53 qdD:=qB (qi qrD) (by kernel_rfl) (by kernel_rfl)
def qvy:=JA_ @qdD.eq_1 (JA_ @Try.f53.eq_1 @qrD)
def qj (most:Int) (d:qf):Option (Int×qf):=if((d.L.length:Nat):Int)≤d.At then some (0,d) else if 0≤d.At∧d.At<((d.L.length:Nat):Int) then Option.bind d.L[Int.toNat d.At]? fun(a:Int)=>if most=0 then none else if most=0 then none else some (Int.tmod (w64 (Int.tmod a most+most)) most,qf.mk d.L (w64 (d.At+1))) else none
theorem Qr:∀(most:Int) (d_L:List Int) (d_At:Int),ev 53 1 [rP 0,rI most] [(0,B.blk 93 [dL 1 eI d_L,dI d_At])]=(qj most (qf.mk d_L d_At)).bind (fun(e:Int×qf)=>some (rI e.1,[(0,B.blk 93 [dL 1 eI e.2.L,dI e.2.At])])):=
 fun most d_L d_At=>by
  rw[qy qrD qv8.2.2.2 qvx]
  have:=qvy;have:=@qj.eq_1;exact gA
theorem qx4:okL 54 qeo:=qB (qi qqD) (by kernel_rfl) (by kernel_rfl)
def qwD:=JA_ @qeo.eq_1 (JA_ @Try.f54.eq_1 @qqD)
def Ql (d:qf):Option (qb×qf):=Option.bind (qj 6 d) fun(a:Prod Int qf)=>if 0≤a.1∧a.1<6 then Option.bind [(1:Int),1,1,2,2,3][Int.toNat a.1]? fun(a2:Int)=>Option.bind (qj ((qw.length:Nat):Int) a.2) fun(a3:Prod Int qf)=>if 0≤a3.1∧a3.1<((qw.length:Nat):Int) then Option.bind qw[Int.toNat a3.1]? fun(a4:ByteArray)=>some (qb.mk a2 a4,a3.2) else none else none
theorem q00:∀(d_L:List Int) (d_At:Int),ev 54 1 [rP 0] [(0,B.blk 93 [dL 1 eI d_L,dI d_At])]=(Ql (qf.mk d_L d_At)).bind (fun(e:qb×qf)=>some (R.agg [dI e.1.School,dS e.1.Code],[(0,B.blk 93 [dL 1 eI e.2.L,dI e.2.At])])):=
 fun d_L d_At=>by
  rw[qy qqD qve.2.2.2 qx4]
  have:=qwD;have:=@Qr;have:=@q0n;have:=@Ql.eq_1;exact gA
theorem qu6:okL 56 q9L:=qB (qi qqu) (by kernel_rfl) (by kernel_rfl)
def quu:=JA_ @q9L.eq_1 (JA_ @Try.f56.eq_1 @qqu)
theorem qpo:lbO 56 9=qbD:=zE (qi qqu) rfl
theorem qmb:okL 56 qbD:=qT qu6 (qxI (i:=0) (by kernel_rfl))
theorem qqZ:okL 77 q6N:=qB (qi qnD) (by kernel_rfl) (by kernel_rfl)
def qsp:=JA_ @q6N.eq_1 (JA_ @Try.f77.eq_1 @qnD)
theorem qoo:lbO 77 4=qdT:=zE (qi qnD) rfl
theorem qpj:okL 77 qdT:=qT qqZ (qxI (i:=0) (by kernel_rfl))
theorem qn8:lbO 77 8=qbF:=zE (qi qnD) rfl
theorem qph:okL 77 qbF:=qT qqZ (qxI (i:=1) (by kernel_rfl))
theorem qvQ:okL 55 qbK:=qB (qi qrp) (by kernel_rfl) (by kernel_rfl)
def qvX:=JA_ @qbK.eq_1 (JA_ @Try.f55.eq_1 @qrp)
def Z9 (a:qb) (b:qb):Option Bool:=if a.School<b.School then some Bool.true else if(a.School==b.School)=Bool.true then some (Op.bytesLess (ByteArray.toList a.Code) (ByteArray.toList b.Code)) else some Bool.false
def zB (a:qb) (b:qb):Bool:=if a.School<b.School then Bool.true else if(a.School==b.School)=Bool.true then Op.bytesLess (ByteArray.toList a.Code) (ByteArray.toList b.Code) else Bool.false
theorem q1w (a b:qb):Z9 a b=some (zB a b):=by
 unfold Z9 zB
 simp only[ZG]
theorem Jd:∀(a_School:Int) (a_Code:ByteArray) (b_School:Int) (b_Code:ByteArray),ev 55 0 [R.agg [dI a_School,dS a_Code],R.agg [dI b_School,dS b_Code]] []=some (rB (zB (qb.mk a_School a_Code) (qb.mk b_School b_Code)),[]):=
 fun a_School a_Code b_School b_Code=>by
  have h:ev 55 0 [R.agg [dI a_School,dS a_Code],R.agg [dI b_School,dS b_Code]] []=(Z9 (qb.mk a_School a_Code) (qb.mk b_School b_Code)).bind (fun(e:Bool)=>some (rB e,[])):=by
   rw[qy qrp qu3.2.2.2 qvQ]
   have:=qvX;have:=@Z9.eq_1;exact gA
  rw[q1w] at h
  exact h
def Qp (out:List qb) (d:qf) (c:qb) (many:Int) (k:Int):Int→Option (Int⊕Int)|at0=>if at0<((out.length:Nat):Int) then if 0≤at0∧at0<((out.length:Nat):Int) then Option.bind out[Int.toNat at0]? fun(a:qb)=>if zB a c=Bool.true then some (Sum.inl (w64 (at0+1))) else some (Sum.inr at0) else none else some (Sum.inr at0)
theorem q3d:∀(out:List qb) (d_L:List Int) (d_At c_School:Int) (c_Code:ByteArray) (many k at0:Int) (out_len:Nat),out_len=out.length→XL2 evo 77 1 8 ⟨[(0,rP 0),(3,rI many),(4,rO 1 2 out_len),(5,rI k),(6,rP 2),(7,rI at0)],[(0,B.blk 93 [dL 1 eI d_L,dI d_At]),(1,bR 50 2 qh out),(2,B.blk 50 [dI c_School,dS c_Code])],3,61⟩=(qz (Qp out (qf.mk d_L d_At) (qb.mk c_School c_Code) many k) at0).bind (fun(e:Int)=>some (Exit.exit 2,⟨[(0,rP 0),(3,rI many),(4,rO 1 2 out.length),(5,rI k),(6,rP 2),(7,rI e)],[(0,B.blk 93 [dL 1 eI d_L,dI d_At]),(1,bR 50 2 qh out),(2,B.blk 50 [dI c_School,dS c_Code])],3,61⟩)):=
 by
 intro out d_L d_At c_School c_Code many k at0 out_len h0
 subst h0
 revert at0;exact q5l qn8 qph (fun e=>by exact⟨_,rfl,fun h=>by cases h⟩) fun x=>by
  have:=qsp;have:=@qbF.eq_1;have:=@Jd;have:=@Qp.eq_1;exact gA
def zM (many:Int):(List qb×qf×Int)→Option ((List qb×qf×Int)⊕(List qb×qf))|(out,d,k)=>if k<many then Option.bind (Ql d) fun(a:Prod qb qf)=>Option.bind (qz (Qp out a.2 a.1 many k) 0) fun(a2:Int)=>if a2<((out.length:Nat):Int) then if 0≤a2∧a2<((out.length:Nat):Int) then Option.bind out[Int.toNat a2]? fun(a3:qb)=>if(a3.School==a.1.School)=Bool.true∧(ByteArray.toList a3.Code==ByteArray.toList a.1.Code)=Bool.true then some (Sum.inl (out,a.2,w64 (k+1))) else if out.length+1≤maxLen∧(out.length+1)*24≤140737488355328 then if 0≤w64 (a2+1)∧w64 (a2+1)≤((out.length+1:Nat):Int) then if w64 (a2+1)=0∨w64 (a2+1)<((out.length+1:Nat):Int) then if 0≤a2∧a2≤((out.length+1:Nat):Int) then if a2=0∨a2<((out.length+1:Nat):Int) then if(List.take (out.length+1-Int.toNat a2) (List.drop (Int.toNat a2) (out++[qb.mk 0 (ByteArray.mk (List.toArray []))]))).length*2=(out.length+1-Int.toNat a2)*2∧Int.toNat (w64 (a2+1))*2+(out.length+1-Int.toNat (w64 (a2+1)))*2≤(out.length+1)*2 then if 0≤a2∧a2<((out.length+1:Nat):Int) then if Int.toNat a2*2+2≤(out.length+1)*2 then some (Sum.inl (List.set (spl (out++[qb.mk 0 (ByteArray.mk (List.toArray []))]) (Int.toNat (w64 (a2+1))) (List.take (min (out.length+1-Int.toNat a2) (out.length+1-Int.toNat (w64 (a2+1)))) (List.take (out.length+1-Int.toNat a2) (List.drop (Int.toNat a2) (out++[qb.mk 0 (ByteArray.mk (List.toArray []))]))))) (Int.toNat a2) a.1,a.2,w64 (k+1))) else none else none else none else if Int.toNat (w64 (a2+1))*2+(out.length+1-Int.toNat (w64 (a2+1)))*2≤(out.length+1)*2 then if 0≤a2∧a2<((out.length+1:Nat):Int) then if Int.toNat a2*2+2≤(out.length+1)*2 then some (Sum.inl (List.set (out++[qb.mk 0 (ByteArray.mk (List.toArray []))]) (Int.toNat a2) a.1,a.2,w64 (k+1))) else none else none else none else none else if 0≤a2∧a2≤((out.length+1:Nat):Int) then if a2=0∨a2<((out.length+1:Nat):Int) then if(List.take (out.length+1-Int.toNat a2) (List.drop (Int.toNat a2) (out++[qb.mk 0 (ByteArray.mk (List.toArray []))]))).length*2=(out.length+1-Int.toNat a2)*2 then if 0≤a2∧a2<((out.length+1:Nat):Int) then if Int.toNat a2*2+2≤(out.length+1)*2 then some (Sum.inl (List.set (out++[qb.mk 0 (ByteArray.mk (List.toArray []))]) (Int.toNat a2) a.1,a.2,w64 (k+1))) else none else none else none else if 0≤a2∧a2<((out.length+1:Nat):Int) then if Int.toNat a2*2+2≤(out.length+1)*2 then some (Sum.inl (List.set (out++[qb.mk 0 (ByteArray.mk (List.toArray []))]) (Int.toNat a2) a.1,a.2,w64 (k+1))) else none else none else none else none else none else none else if out.length+1≤maxLen∧(out.length+1)*24≤140737488355328 then if 0≤w64 (a2+1)∧w64 (a2+1)≤((out.length+1:Nat):Int) then if w64 (a2+1)=0∨w64 (a2+1)<((out.length+1:Nat):Int) then if 0≤a2∧a2≤((out.length+1:Nat):Int) then if a2=0∨a2<((out.length+1:Nat):Int) then if(List.take (out.length+1-Int.toNat a2) (List.drop (Int.toNat a2) (out++[qb.mk 0 (ByteArray.mk (List.toArray []))]))).length*2=(out.length+1-Int.toNat a2)*2∧Int.toNat (w64 (a2+1))*2+(out.length+1-Int.toNat (w64 (a2+1)))*2≤(out.length+1)*2 then if 0≤a2∧a2<((out.length+1:Nat):Int) then if Int.toNat a2*2+2≤(out.length+1)*2 then some (Sum.inl (List.set (spl (out++[qb.mk 0 (ByteArray.mk (List.toArray []))]) (Int.toNat (w64 (a2+1))) (List.take (min (out.length+1-Int.toNat a2) (out.length+1-Int.toNat (w64 (a2+1)))) (List.take (out.length+1-Int.toNat a2) (List.drop (Int.toNat a2) (out++[qb.mk 0 (ByteArray.mk (List.toArray []))]))))) (Int.toNat a2) a.1,a.2,w64 (k+1))) else none else none else none else if Int.toNat (w64 (a2+1))*2+(out.length+1-Int.toNat (w64 (a2+1)))*2≤(out.length+1)*2 then if 0≤a2∧a2<((out.length+1:Nat):Int) then if Int.toNat a2*2+2≤(out.length+1)*2 then some (Sum.inl (List.set (out++[qb.mk 0 (ByteArray.mk (List.toArray []))]) (Int.toNat a2) a.1,a.2,w64 (k+1))) else none else none else none else none else if 0≤a2∧a2≤((out.length+1:Nat):Int) then if a2=0∨a2<((out.length+1:Nat):Int) then if(List.take (out.length+1-Int.toNat a2) (List.drop (Int.toNat a2) (out++[qb.mk 0 (ByteArray.mk (List.toArray []))]))).length*2=(out.length+1-Int.toNat a2)*2 then if 0≤a2∧a2<((out.length+1:Nat):Int) then if Int.toNat a2*2+2≤(out.length+1)*2 then some (Sum.inl (List.set (out++[qb.mk 0 (ByteArray.mk (List.toArray []))]) (Int.toNat a2) a.1,a.2,w64 (k+1))) else none else none else none else if 0≤a2∧a2<((out.length+1:Nat):Int) then if Int.toNat a2*2+2≤(out.length+1)*2 then some (Sum.inl (List.set (out++[qb.mk 0 (ByteArray.mk (List.toArray []))]) (Int.toNat a2) a.1,a.2,w64 (k+1))) else none else none else none else none else none else some (Sum.inr (out,d))
theorem q2U:∀(out:List qb) (d_L:List Int) (d_At many k:Int) (out_len:Nat),out_len=out.length→XL2 evo 77 1 4 ⟨[(0,rP 0),(3,rI many),(4,rO 1 2 out_len),(5,rI k)],[(0,B.blk 93 [dL 1 eI d_L,dI d_At]),(1,bR 50 2 qh out)],2,61⟩=(qz (zM many) (out,(qf.mk d_L d_At),k)).bind (fun(e:List qb×qf)=>some (Exit.exit 0,⟨[(4,rO 1 2 e.1.length)],[(0,B.blk 93 [dL 1 eI e.2.L,dI e.2.At]),(1,bR 50 2 qh e.1)],2,61⟩)):=
 by
 intro out d_L d_At many k out_len h0
 subst h0
 have h:=q8F (E:=evo) (f:=77) (k:=1) (st:=fun x:List qb×qf×Int=>(⟨[(0,rP 0),(3,rI many),(4,rO 1 2 x.1.length),(5,rI x.2.2)],[(0,B.blk 93 [dL 1 eI x.2.1.L,dI x.2.1.At]),(1,bR 50 2 qh x.1)],2,61⟩:S)) (ex:=fun(e:List qb×qf)=>(Exit.exit 0,⟨[(4,rO 1 2 e.1.length)],[(0,B.blk 93 [dL 1 eI e.2.L,dI e.2.At]),(1,bR 50 2 qh e.1)],2,61⟩)) (step:=(zM many)) qoo qpj (fun e h=>by cases h) (fun x=>by
  obtain⟨out,d,k⟩:=x;have:=qsp;have:=@qdT.eq_1;have:=@q00;have:=@q3d;have:=@zM.eq_1;exact gA) (out,(qf.mk d_L d_At),k)
 exact h
theorem q1l:∀  (d_L:List Int) (d_At many k:Int),XL2 evo 77 1 4 ⟨[(0,rP 0),(3,rI many),(4,rO 1 2 0),(5,rI k)],[(0,B.blk 93 [dL 1 eI d_L,dI d_At]),(1,B.row 50 2 [])],2,61⟩=(qz (zM many) ([],(qf.mk d_L d_At),k)).bind (fun(e:List qb×qf)=>some (Exit.exit 0,⟨[(4,rO 1 2 e.1.length)],[(0,B.blk 93 [dL 1 eI e.2.L,dI e.2.At]),(1,bR 50 2 qh e.1)],2,61⟩)):=by
 intro d_L d_At many k;have h:=q2U [] ((qf.mk d_L d_At)).L ((qf.mk d_L d_At)).At many k _ rfl
 first
  | exact h
  | (simp only[rL,dL,bR,bZ,Nat.reduceAdd] at h;exact h)
def Q3 (d:qf):Option (List qb×qf):=Option.bind (qj 3 d) fun(a:Prod Int qf)=>Option.bind (qz (zM (w64 (1+a.1))) ([],(a.2,0))) fun(a2:Prod (List qb) qf)=>some (a2.1,a2.2)
theorem q5e:∀(d_L:List Int) (d_At:Int),ev 77 1 [rP 0] [(0,B.blk 93 [dL 1 eI d_L,dI d_At])]=(Q3 (qf.mk d_L d_At)).bind (fun(e:List qb×qf)=>some (rL 2 qh e.1,[(0,B.blk 93 [dL 1 eI e.2.L,dI e.2.At])])):=
 fun d_L d_At=>by
  rw[qy qnD qtT.2.2.2 qqZ]
  have:=qsp;have:=@Qr;have:=@q1l;have:=@Q3.eq_1;exact gA
def zh (x:(Int×Int×qf)):List R×List (Nat×B):=([R.c (C.ptr 0 0),R.c (C.d (D.int .i64 x.1)),R.c (C.d (D.int .i64 x.2.1))],[(0,B.blk 93 [C.d (D.sl 1 x.2.2.L.length (x.2.2.L.flatMap eI)),C.d (D.int .i64 x.2.2.At)])])
def zN:(qg×qf)→R×List (Nat×B):=fun(e:qg×qf)=>(R.agg [C.d (D.int .i64 e.1.Kind),C.d (D.int .i64 e.1.N),C.d (D.int .i64 e.1.Min),C.d (D.sl 2 e.1.Set.length (e.1.Set.flatMap qh)),C.d (D.sl 5 e.1.L.length (e.1.L.flatMap ql))],[(0,B.blk 93 [C.d (D.sl 1 e.2.L.length (e.2.L.flatMap eI)),C.d (D.int .i64 e.2.At)])])
def zf (rF:(Int×Int×qf)→Option (qg×qf)) (b1_Kind:Int) (b1_N:Int) (b1_Min:Int) (b2_Kind:Int) (b2_N:Int) (b2_Min:Int) (t1:Int) (t2:Int) (t7:Int) (t8:Int):(List qg×qf×Int)→Option ((List qg×qf×Int)⊕(List qg×qf))|(w3,b0,t10)=>if t10<t8 then if t8=0 then none else Option.bind (rF (w64 (t1-1),(w64 (Int.tdiv t2 t8),b0))) fun(a2:Prod qg qf)=>if w3.length+1≤maxLen∧(w3.length+1)*72≤140737488355328 then some (Sum.inl (w3++[a2.1],a2.2,w64 (t10+1))) else none else some (Sum.inr (w3,b0))
theorem q2u (rE:Orc) (rF:(Int×Int×qf)→Option (qg×qf)) (hF:∀y,rE (.fn 56) 1 (zh y).1 (zh y).2=(rF y).bind fun e=>some (zN e)) (hM:∀g k a G,g≠56→rE (.fn g) k a G=ev g k a G) (hR:∀g asg bd k a G,rE (.rd g asg bd) k a G=evr g asg bd k a G):∀(w3:List qg) (b0_L:List Int) (b0_At b1_Kind b1_N b1_Min b2_Kind b2_N b2_Min t1 t2 t7 t8 t10:Int) (w3_len:Nat),w3_len=w3.length→XL2 rE 56 1 9 ⟨[(0,rP 0),(1,rI t1),(2,rI t2),(6,rP 1),(7,rI t7),(8,rI t8),(9,rP 2),(10,rI t10)],[(0,B.blk 93 [dL 1 eI b0_L,dI b0_At]),(1,B.blk 36 [dI b1_Kind,dI b1_N,dI b1_Min,C.nils,C.nils]),(2,B.blk 36 [dI b2_Kind,dI b2_N,dI b2_Min,C.nils,dO 3 5 w3_len]),(3,bR 36 5 ql w3)],4,77⟩=(qz (zf rF b1_Kind b1_N b1_Min b2_Kind b2_N b2_Min t1 t2 t7 t8) (w3,(qf.mk b0_L b0_At),t10)).bind (fun(e:List qg×qf)=>some (Exit.exit 0,⟨[(0,rP 0),(6,rP 1),(7,rI t7),(8,rI t8),(9,rP 2)],[(0,B.blk 93 [dL 1 eI e.2.L,dI e.2.At]),(1,B.blk 36 [dI b1_Kind,dI b1_N,dI b1_Min,C.nils,C.nils]),(2,B.blk 36 [dI b2_Kind,dI b2_N,dI b2_Min,C.nils,dO 3 5 e.1.length]),(3,bR 36 5 ql e.1)],4,77⟩)):=
 by
 intro w3 b0_L b0_At b1_Kind b1_N b1_Min b2_Kind b2_N b2_Min t1 t2 t7 t8 t10 w3_len h0
 subst h0
 have h:=q8F (E:=rE) (f:=56) (k:=1) (st:=fun x:List qg×qf×Int=>(⟨[(0,rP 0),(1,rI t1),(2,rI t2),(6,rP 1),(7,rI t7),(8,rI t8),(9,rP 2),(10,rI x.2.2)],[(0,B.blk 93 [dL 1 eI x.2.1.L,dI x.2.1.At]),(1,B.blk 36 [dI b1_Kind,dI b1_N,dI b1_Min,C.nils,C.nils]),(2,B.blk 36 [dI b2_Kind,dI b2_N,dI b2_Min,C.nils,dO 3 5 x.1.length]),(3,bR 36 5 ql x.1)],4,77⟩:S)) (ex:=fun(e:List qg×qf)=>(Exit.exit 0,⟨[(0,rP 0),(6,rP 1),(7,rI t7),(8,rI t8),(9,rP 2)],[(0,B.blk 93 [dL 1 eI e.2.L,dI e.2.At]),(1,B.blk 36 [dI b1_Kind,dI b1_N,dI b1_Min,C.nils,C.nils]),(2,B.blk 36 [dI b2_Kind,dI b2_N,dI b2_Min,C.nils,dO 3 5 e.1.length]),(3,bR 36 5 ql e.1)],4,77⟩)) (step:=(zf rF b1_Kind b1_N b1_Min b2_Kind b2_N b2_Min t1 t2 t7 t8)) qpo qmb (fun e h=>by cases h) (fun x=>by
  obtain⟨w3,b0,t10⟩:=x;have hF':∀(x1 x2:Int) (v_L:List Int) (v_At:Int),rE (.fn 56) 1 [rP 0,rI x1,rI x2] [(0,B.blk 93 [dL 1 eI v_L,dI v_At])]=(rF (x1,x2,(qf.mk v_L v_At))).bind (fun e=>some (R.agg [dI e.1.Kind,dI e.1.N,dI e.1.Min,dL 2 qh e.1.Set,dL 5 ql e.1.L],[(0,B.blk 93 [dL 1 eI e.2.L,dI e.2.At])])):=fun x1 x2 v_L v_At=>hF (x1,x2,(qf.mk v_L v_At))
  have:=quu;have:=@qbD.eq_1;have:=@zf.eq_1;exact gA) (w3,(qf.mk b0_L b0_At),t10)
 exact h
theorem q0V:∀(rE:Orc) (rF:(Int×Int×qf)→Option (qg×qf)) (hF:∀y,rE (.fn 56) 1 (zh y).1 (zh y).2=(rF y).bind fun e=>some (zN e)) (hM:∀g k a G,g≠56→rE (.fn g) k a G=ev g k a G) (hR:∀g asg bd k a G,rE (.rd g asg bd) k a G=evr g asg bd k a G),∀  (b0_L:List Int) (b0_At b1_Kind b1_N b1_Min b2_Kind b2_N b2_Min t1 t2 t7 t8 t10:Int),XL2 rE 56 1 9 ⟨[(0,rP 0),(1,rI t1),(2,rI t2),(6,rP 1),(7,rI t7),(8,rI t8),(9,rP 2),(10,rI t10)],[(0,B.blk 93 [dL 1 eI b0_L,dI b0_At]),(1,B.blk 36 [dI b1_Kind,dI b1_N,dI b1_Min,C.nils,C.nils]),(2,B.blk 36 [dI b2_Kind,dI b2_N,dI b2_Min,C.nils,dO 3 5 0]),(3,B.row 36 5 [])],4,77⟩=(qz (zf rF b1_Kind b1_N b1_Min b2_Kind b2_N b2_Min t1 t2 t7 t8) ([],(qf.mk b0_L b0_At),t10)).bind (fun(e:List qg×qf)=>some (Exit.exit 0,⟨[(0,rP 0),(6,rP 1),(7,rI t7),(8,rI t8),(9,rP 2)],[(0,B.blk 93 [dL 1 eI e.2.L,dI e.2.At]),(1,B.blk 36 [dI b1_Kind,dI b1_N,dI b1_Min,C.nils,C.nils]),(2,B.blk 36 [dI b2_Kind,dI b2_N,dI b2_Min,C.nils,dO 3 5 e.1.length]),(3,bR 36 5 ql e.1)],4,77⟩)):=by
 intro rE rF hF hM hR b0_L b0_At b1_Kind b1_N b1_Min b2_Kind b2_N b2_Min t1 t2 t7 t8 t10;have h:=q2u rE rF hF hM hR [] ((qf.mk b0_L b0_At)).L ((qf.mk b0_L b0_At)).At b1_Kind b1_N b1_Min b2_Kind b2_N b2_Min t1 t2 t7 t8 t10 _ rfl
 first
  | exact h
  | (simp only[rL,dL,bR,bZ,Nat.reduceAdd] at h;exact h)
def QW (rF:(Int×Int×qf)→Option (qg×qf)):(Int×Int×qf)→Option (qg×qf)|(x1,x2,v)=>Option.bind (qj 6 v) fun(a2:Prod Int qf)=>if x1≤0 then Option.bind (qj 3 a2.2) fun(a3:Prod Int qf)=>if(a3.1==0)=Bool.true then Option.bind (qj 12 a3.2) fun(a4:Prod Int qf)=>Option.bind (qj 3 a4.2) fun(a5:Prod Int qf)=>if 0≤a5.1∧a5.1<3 then Option.bind [(0:Int),50,60][Int.toNat a5.1]? fun(a6:Int)=>Option.bind (Q3 a5.2) fun(a7:Prod (List qb) qf)=>some (qg.mk 2 (w64 (1+a4.1)) a6 a7.1 [],a7.2) else none else Option.bind (qj 4 a3.2) fun(a8:Prod Int qf)=>if 0≤a8.1∧a8.1<4 then Option.bind [(0:Int),50,60,80][Int.toNat a8.1]? fun(a9:Int)=>Option.bind (Q3 a8.2) fun(a10:Prod (List qb) qf)=>some (qg.mk 1 0 a9 a10.1 [],a10.2) else none else if x2<2 then Option.bind (qj 3 a2.2) fun(a11:Prod Int qf)=>if(a11.1==0)=Bool.true then Option.bind (qj 12 a11.2) fun(a12:Prod Int qf)=>Option.bind (qj 3 a12.2) fun(a13:Prod Int qf)=>if 0≤a13.1∧a13.1<3 then Option.bind [(0:Int),50,60][Int.toNat a13.1]? fun(a14:Int)=>Option.bind (Q3 a13.2) fun(a15:Prod (List qb) qf)=>some (qg.mk 2 (w64 (1+a12.1)) a14 a15.1 [],a15.2) else none else Option.bind (qj 4 a11.2) fun(a16:Prod Int qf)=>if 0≤a16.1∧a16.1<4 then Option.bind [(0:Int),50,60,80][Int.toNat a16.1]? fun(a17:Int)=>Option.bind (Q3 a16.2) fun(a18:Prod (List qb) qf)=>some (qg.mk 1 0 a17 a18.1 [],a18.2) else none else if a2.1<2 then Option.bind (qj 3 a2.2) fun(a19:Prod Int qf)=>if(a19.1==0)=Bool.true then Option.bind (qj 12 a19.2) fun(a20:Prod Int qf)=>Option.bind (qj 3 a20.2) fun(a21:Prod Int qf)=>if 0≤a21.1∧a21.1<3 then Option.bind [(0:Int),50,60][Int.toNat a21.1]? fun(a22:Int)=>Option.bind (Q3 a21.2) fun(a23:Prod (List qb) qf)=>some (qg.mk 2 (w64 (1+a20.1)) a22 a23.1 [],a23.2) else none else Option.bind (qj 4 a19.2) fun(a24:Prod Int qf)=>if 0≤a24.1∧a24.1<4 then Option.bind [(0:Int),50,60,80][Int.toNat a24.1]? fun(a25:Int)=>Option.bind (Q3 a24.2) fun(a26:Prod (List qb) qf)=>some (qg.mk 1 0 a25 a26.1 [],a26.2) else none else Option.bind (qj (min 3 x2) a2.2) fun(a27:Prod Int qf)=>Option.bind (qz (zf rF 0 0 0 3 0 0 x1 x2 a2.1 (w64 (1+a27.1))) ([],(a27.2,0))) fun(a28:Prod (List qg) qf)=>if 3<a2.1 then Option.bind (qj (w64 (1+a27.1)) a28.2) fun(a29:Prod Int qf)=>some (qg.mk 4 (w64 (1+a29.1)) 0 [] a28.1,a29.2) else some (qg.mk 3 0 0 [] a28.1,a28.2)
theorem q0S:q7E 56 1 zh zN QW:=by
 intro rE rF hF hM hR x
 obtain⟨x1,x2,v⟩:=x
 show q7y rE 56 1 [rP 0,rI x1,rI x2] [(0,B.blk 93 [dL 1 eI v.L,dI v.At])]=_
 have hF':∀(x1 x2:Int) (v_L:List Int) (v_At:Int),rE (.fn 56) 1 [rP 0,rI x1,rI x2] [(0,B.blk 93 [dL 1 eI v_L,dI v_At])]=(rF (x1,x2,(qf.mk v_L v_At))).bind (fun e=>some (R.agg [dI e.1.Kind,dI e.1.N,dI e.1.Min,dL 2 qh e.1.Set,dL 5 ql e.1.L],[(0,B.blk 93 [dL 1 eI e.2.L,dI e.2.At])])):=fun x1 x2 v_L v_At=>hF (x1,x2,(qf.mk v_L v_At))
 rw[q6s qqu qu6]
 have:=quu;have:=@Qr;have:=@q5e;have:=q0V rE rF hF hM hR;have:=@QW.eq_1;have:=@zN.eq_1;exact gA
theorem J7:∀x y,zh x=zh y→x=y:=by
 rintro⟨a0,a1,⟨a2_0,a2_1⟩⟩ ⟨b0,b1,⟨b2_0,b2_1⟩⟩ h
 simp only[zh,Prod.mk.injEq,List.cons.injEq,R.c.injEq,R.agg.injEq,R.tup.injEq,C.d.injEq,C.own.injEq,C.ptr.injEq,C.eptr.injEq,C.clp.injEq,D.int.injEq,D.bool.injEq,D.str.injEq,D.sl.injEq,B.blk.injEq,B.row.injEq,q3L,q1Z,q0f,q2N,q2Z,q4v,q48,q4V,q4B,q4H,q6K,q40,true_and,and_true,qy1] at h
 simp only[h]
theorem q1Y:∀x y,zN x=zN y→x=y:=by
 rintro⟨⟨a0_0,a0_1,a0_2,a0_3,a0_4⟩,⟨a1_0,a1_1⟩⟩ ⟨⟨b0_0,b0_1,b0_2,b0_3,b0_4⟩,⟨b1_0,b1_1⟩⟩ h
 simp only[zN,Prod.mk.injEq,List.cons.injEq,R.c.injEq,R.agg.injEq,R.tup.injEq,C.d.injEq,C.own.injEq,C.ptr.injEq,C.eptr.injEq,C.clp.injEq,D.int.injEq,D.bool.injEq,D.str.injEq,D.sl.injEq,B.blk.injEq,B.row.injEq,q3L,q1Z,q0f,q2N,q2Z,q4v,q48,q4V,q4B,q4H,q6K,q40,true_and,and_true,qy1] at h
 simp only[h]
def zF:(Int×Int×qf)→Option (qg×qf):=q5j 56 1 zh zN
theorem q0F (x:(Int×Int×qf)):zF x=QW zF x:=qhl qrq.2.2.2 J7 q1Y q0S x
theorem q3z (x1 x2:Int) (v:qf):ev 56 1 [rP 0,rI x1,rI x2] [(0,B.blk 93 [dL 1 eI v.L,dI v.At])]=(zF (x1,x2,v)).bind (fun(e:qg×qf)=>some (R.agg [dI e.1.Kind,dI e.1.N,dI e.1.Min,dL 2 qh e.1.Set,dL 5 ql e.1.L],[(0,B.blk 93 [dL 1 eI e.2.L,dI e.2.At])])):=(q9x qrq.2.2.2 J7 q0S (x1,x2,v))
theorem q4o:∀(x1 x2:Int) (v_L:List Int) (v_At:Int),ev 56 1 [rP 0,rI x1,rI x2] [(0,B.blk 93 [dL 1 eI v_L,dI v_At])]=(zF (x1,x2,(qf.mk v_L v_At))).bind (fun(e:qg×qf)=>some (R.agg [dI e.1.Kind,dI e.1.N,dI e.1.Min,dL 2 qh e.1.Set,dL 5 ql e.1.L],[(0,B.blk 93 [dL 1 eI e.2.L,dI e.2.At])])):=
 fun x1 x2 v_L v_At=>q3z x1 x2 (qf.mk v_L v_At)
def qN (l:List Int):Option qd:=Option.bind (qj 3 (qf.mk l 0)) fun(a:Prod Int qf)=>Option.bind (qj 3 a.2) fun(a2:Prod Int qf)=>Option.bind (qj 5 a2.2) fun(a3:Prod Int qf)=>Option.bind (qj 3 a3.2) fun(a4:Prod Int qf)=>if 0≤a4.1∧a4.1<3 then Option.bind [ByteArray.mk (List.toArray [77,117,115,105,99]),ByteArray.mk (List.toArray [76,97,119]),ByteArray.mk (List.toArray [79,108,100,32,109,97,112,115])][Int.toNat a4.1]? fun(a5:ByteArray)=>Option.bind (qj 20 a4.2) fun(a6:Prod Int qf)=>Option.bind (qj 3 a6.2) fun(a7:Prod Int qf)=>Option.bind (qj 6 a7.2) fun(a8:Prod Int qf)=>Option.bind (qj 5 a8.2) fun(a9:Prod Int qf)=>if 0≤a9.1∧a9.1<5 then Option.bind [(0:Int),0,0,2,5][Int.toNat a9.1]? fun(a10:Int)=>Option.bind (qj 3 a9.2) fun(a11:Prod Int qf)=>if(a11.1==0)=Bool.true then Option.bind (Ql a11.2) fun(a12:Prod qb qf)=>Option.bind (Ql a12.2) fun(a13:Prod qb qf)=>if zB a12.1 a13.1=Bool.true then Option.bind (zF (3,(6,a13.2))) fun(a14:Prod qg qf)=>some (qd.mk 1 (w64 (1+a.1)) (w64 (1+a2.1)) (w64 (100*a3.1)) a5 a14.1 a6.1 (w64 (a7.1*a8.1)) a10 [Qy.mk a12.1 a13.1]) else Option.bind (zF (3,(6,a13.2))) fun(a15:Prod qg qf)=>some (qd.mk 1 (w64 (1+a.1)) (w64 (1+a2.1)) (w64 (100*a3.1)) a5 a15.1 a6.1 (w64 (a7.1*a8.1)) a10 []) else Option.bind (zF (3,(6,a11.2))) fun(a16:Prod qg qf)=>some (qd.mk 1 (w64 (1+a.1)) (w64 (1+a2.1)) (w64 (100*a3.1)) a5 a16.1 a6.1 (w64 (a7.1*a8.1)) a10 []) else none else none
theorem q2f:∀(l:List Int),ev 30 0 [rL 1 eI l] []=(qN l).bind (fun(e:qd)=>some (R.agg [dI e.School,dI e.Id,dI e.Version,dI e.From,dS e.Name,dI e.Need.Kind,dI e.Need.N,dI e.Need.Min,dL 2 qh e.Need.Set,dL 5 ql e.Need.L,dI e.Total,dI e.Own,dI e.Age,dL 4 (eA2 qh) e.Exclude],[])):=
 fun l=>by
  rw[qy qs9 qug.2.2.2 qwb]
  have:=qwQ;have:=@Qr;have:=@q00;have:=@q4o;have:=@Jd;have:=@qN.eq_1;exact gA
theorem qxD:okL 29 qcH:=qB (qi qsK) (by kernel_rfl) (by kernel_rfl)
def qx7:=JA_ @qcH.eq_1 (JA_ @Try.f29.eq_1 @qsK)
theorem qvZ:okL 35 qcf:=qB (qi qsI) (by kernel_rfl) (by kernel_rfl)
def qvu:=JA_ @qcf.eq_1 (JA_ @Try.f35.eq_1 @qsI)
def Ze (a:qa):Option (Int×ByteArray×Int×Int×Int×Int×List Int×List Int):=if a.Sources.length≤maxLen∧a.Sources.length*8≤140737488355328 then if a.Path.length≤maxLen∧a.Path.length*8≤140737488355328 then some (a.Course.School,a.Course.Code,a.Credits,a.Grade,a.Day,a.Bundle,a.Sources,a.Path) else none else none
theorem q0X:∀(a_Course_School:Int) (a_Course_Code:ByteArray) (a_Credits a_Grade a_Day:Int) (a_Sources:List Int) (a_Bundle:Int) (a_Path:List Int),ev 35 0 [R.agg [dI a_Course_School,dS a_Course_Code,dI a_Credits,dI a_Grade,dI a_Day,dL 1 eI a_Sources,dI a_Bundle,dL 1 eI a_Path]] []=(Ze (qa.mk (qb.mk a_Course_School a_Course_Code) a_Credits a_Grade a_Day a_Sources a_Bundle a_Path)).bind (fun(e:Int×ByteArray×Int×Int×Int×Int×List Int×List Int)=>some (R.agg [dI e.1,dS e.2.1,dI e.2.2.1,dI e.2.2.2.1,dI e.2.2.2.2.1,dO 0 1 e.2.2.2.2.2.2.1.length,dI e.2.2.2.2.2.1,dO 1 1 e.2.2.2.2.2.2.2.length],[(0,bR 3 1 eI e.2.2.2.2.2.2.1),(1,bR 3 1 eI e.2.2.2.2.2.2.2)])):=
 fun a_Course_School a_Course_Code a_Credits a_Grade a_Day a_Sources a_Bundle a_Path=>by
  rw[qy qsI quH.2.2.2 qvZ]
  have:=qvu;have:=@Ze.eq_1;exact gA
def Qx (x0:qa) (x1:Qy Int):Option qa:=Option.bind (Ze x0) fun(a:Prod Int (Prod ByteArray (Prod Int (Prod Int (Prod Int (Prod Int (Prod (List Int) (List Int))))))))=>Option.bind (Q1 x1.a1 40) fun(a2:Int)=>Option.bind (Q1 x1.a0 8) fun(a3:Int)=>if(a3==0)=Bool.true then some (qa.mk (qb.mk (Int.tmod a2 9) a.2.1) a.2.2.1 a.2.2.2.1 a.2.2.2.2.1 a.2.2.2.2.2.2.1 a.2.2.2.2.2.1 a.2.2.2.2.2.2.2) else if(a3==1)=Bool.true then if 0≤Int.tmod a2 4∧Int.tmod a2 4<4 then Option.bind [ByteArray.mk (List.toArray [65,49]),ByteArray.mk (List.toArray [66,49]),ByteArray.mk (List.toArray []),ByteArray.mk (List.toArray [65])][Int.toNat (Int.tmod a2 4)]? fun(a4:ByteArray)=>some (qa.mk (qb.mk a.1 a4) a.2.2.1 a.2.2.2.1 a.2.2.2.2.1 a.2.2.2.2.2.2.1 a.2.2.2.2.2.1 a.2.2.2.2.2.2.2) else none else if(a3==2)=Bool.true then some (qa.mk (qb.mk a.1 a.2.1) a2 a.2.2.2.1 a.2.2.2.2.1 a.2.2.2.2.2.2.1 a.2.2.2.2.2.1 a.2.2.2.2.2.2.2) else if(a3==3)=Bool.true then some (qa.mk (qb.mk a.1 a.2.1) a.2.2.1 (w64 (w64 (5*a2)-50)) a.2.2.2.2.1 a.2.2.2.2.2.2.1 a.2.2.2.2.2.1 a.2.2.2.2.2.2.2) else if(a3==4)=Bool.true then some (qa.mk (qb.mk a.1 a.2.1) a.2.2.1 a.2.2.2.1 (w64 (20*a2)) a.2.2.2.2.2.2.1 a.2.2.2.2.2.1 a.2.2.2.2.2.2.2) else if(a3==5)=Bool.true then if a.2.2.2.2.2.2.1.length+1≤maxLen∧(a.2.2.2.2.2.2.1.length+1)*8≤140737488355328 then some (qa.mk (qb.mk a.1 a.2.1) a.2.2.1 a.2.2.2.1 a.2.2.2.2.1 (a.2.2.2.2.2.2.1++[w64 (1000000+a2)]) a.2.2.2.2.2.1 a.2.2.2.2.2.2.2) else none else if(a3==6)=Bool.true then some (qa.mk (qb.mk a.1 a.2.1) a.2.2.1 a.2.2.2.1 a.2.2.2.2.1 a.2.2.2.2.2.2.1 (w64 (Int.tmod a2 5-1)) a.2.2.2.2.2.2.2) else if(a3==7)=Bool.true then if a.2.2.2.2.2.2.2.length+1≤maxLen∧(a.2.2.2.2.2.2.2.length+1)*8≤140737488355328 then some (qa.mk (qb.mk a.1 a.2.1) a.2.2.1 a.2.2.2.1 a.2.2.2.2.1 a.2.2.2.2.2.2.1 a.2.2.2.2.2.1 (a.2.2.2.2.2.2.2++[Int.tmod a2 3])) else none else some (qa.mk (qb.mk a.1 a.2.1) a.2.2.1 a.2.2.2.1 a.2.2.2.2.1 a.2.2.2.2.2.2.1 a.2.2.2.2.2.1 a.2.2.2.2.2.2.2)
theorem q5r:∀(x0_Course_School:Int) (x0_Course_Code:ByteArray) (x0_Credits x0_Grade x0_Day:Int) (x0_Sources:List Int) (x0_Bundle:Int) (x0_Path:List Int) (x1_0 x1_1:Int),ev 29 0 [R.agg [dI x0_Course_School,dS x0_Course_Code,dI x0_Credits,dI x0_Grade,dI x0_Day,dL 1 eI x0_Sources,dI x0_Bundle,dL 1 eI x0_Path],R.agg [dI x1_0,dI x1_1]] []=(Qx (qa.mk (qb.mk x0_Course_School x0_Course_Code) x0_Credits x0_Grade x0_Day x0_Sources x0_Bundle x0_Path) (Qy.mk x1_0 x1_1)).bind (fun(e:qa)=>some (R.agg [dI e.Course.School,dS e.Course.Code,dI e.Credits,dI e.Grade,dI e.Day,dL 1 eI e.Sources,dI e.Bundle,dL 1 eI e.Path],[])):=
 fun x0_Course_School x0_Course_Code x0_Credits x0_Grade x0_Day x0_Sources x0_Bundle x0_Path x1_0 x1_1=>by
  rw[qy qsK qv5.2.2.2 qxD]
  have:=qx7;have:=@q0X;have:=@Jz;have:=@Qx.eq_1;exact gA
def zQ (t0:List (List Int)):(List qa×Int)→Option ((List qa×Int)⊕(List qa))|(w0,t4)=>if t4<((t0.length:Nat):Int) then if t4<8 then if 0≤t4∧t4<((t0.length:Nat):Int) then Option.bind t0[Int.toNat t4]? fun(a:List Int)=>Option.bind (qr 6 (qf.mk a 0)) fun(a2:Prod Int qf)=>if 0≤a2.1∧a2.1<((qw.length:Nat):Int) then Option.bind qw[Int.toNat a2.1]? fun(a3:ByteArray)=>Option.bind (qr 3 a2.2) fun(a4:Prod Int qf)=>if 0≤a4.1∧a4.1<3 then Option.bind [(5:Int),6,10][Int.toNat a4.1]? fun(a5:Int)=>Option.bind (qr 11 a4.2) fun(a6:Prod Int qf)=>Option.bind (qr 60 a6.2) fun(a7:Prod Int qf)=>Option.bind (qr 9 a7.2) fun(a8:Prod Int qf)=>Option.bind (qr 3 a8.2) fun(a9:Prod Int qf)=>if(a9.1==0)=Bool.true then Option.bind (qr 3 a9.2) fun(a10:Prod Int qf)=>Option.bind (qr 4 a10.2) fun(a11:Prod Int qf)=>Option.bind (qr 3 a11.2) fun(a12:Prod Int qf)=>if(a12.1==0)=Bool.true then Option.bind (qr 3 a12.2) fun(a13:Prod Int qf)=>Option.bind (qr 3 a13.2) fun(a14:Prod Int qf)=>if w0.length+1≤maxLen∧(w0.length+1)*104≤140737488355328 then some (Sum.inl (w0++[qa.mk (qb.mk (w64 (1+a10.1)) a3) a5 (w64 (50+w64 (5*a6.1))) (w64 (10*a7.1)) [w64 (2000001+a11.1),w64 (w64 (w64 (2000001+a11.1)+1)+a13.1)] (w64 (1+a14.1)) [w64 (1+a14.1)]],w64 (t4+1))) else none else Option.bind (qr 3 a12.2) fun(a15:Prod Int qf)=>if w0.length+1≤maxLen∧(w0.length+1)*104≤140737488355328 then some (Sum.inl (w0++[qa.mk (qb.mk (w64 (1+a10.1)) a3) a5 (w64 (50+w64 (5*a6.1))) (w64 (10*a7.1)) [w64 (2000001+a11.1)] (w64 (1+a15.1)) [w64 (1+a15.1)]],w64 (t4+1))) else none else if w0.length+1≤maxLen∧(w0.length+1)*104≤140737488355328 then some (Sum.inl (w0++[qa.mk (qb.mk 1 a3) a5 (w64 (50+w64 (5*a6.1))) (w64 (10*a7.1)) [w64 (1000001+a8.1)] 0 []],w64 (t4+1))) else none else none else none else none else some (Sum.inr w0) else some (Sum.inr w0)
theorem q2z:∀(w0:List qa) (t0:List (List Int)) (t4:Int) (w0_len:Nat),w0_len=w0.length→XL2 evo 27 0 3 ⟨[(0,rL 1 (eL 1 eI) t0),(3,rO 0 8 w0_len),(4,rI t4)],[(0,bR 52 8 qc w0)],1,89⟩=(qz (zQ t0) (w0,t4)).bind (fun(e:List qa)=>some (Exit.exit 0,⟨[(3,rO 0 8 e.length)],[(0,bR 52 8 qc e)],1,89⟩)):=
 by
 intro w0 t0 t4 w0_len h0
 subst h0
 revert t4;revert w0;exact qa0 qoY qmp (fun e=>by exact⟨_,rfl,fun h=>by cases h⟩) fun w0 t4=>by
  have:=quE;have:=@qeA.eq_1;have:=@q0n;have:=@q1o;have:=@zQ.eq_1;exact gA
theorem q0D:∀  (t0:List (List Int)) (t4:Int),XL2 evo 27 0 3 ⟨[(0,rL 1 (eL 1 eI) t0),(3,rO 0 8 0),(4,rI t4)],[(0,B.row 52 8 [])],1,89⟩=(qz (zQ t0) ([],t4)).bind (fun(e:List qa)=>some (Exit.exit 0,⟨[(3,rO 0 8 e.length)],[(0,bR 52 8 qc e)],1,89⟩)):=by
 intro t0 t4;have h:=q2z [] t0 t4 _ rfl
 first
  | exact h
  | (simp only[rL,dL,bR,bZ,Nat.reduceAdd] at h;exact h)
def ZK (x0:List (List Int)):Option (List qa):=Option.bind (qz (zQ x0) ([],0)) fun(a:List qa)=>some a
theorem q4y:∀(x0:List (List Int)),ev 27 0 [rL 1 (eL 1 eI) x0] []=(ZK x0).bind (fun(e:List qa)=>some (rO 0 8 e.length,[(0,bR 52 8 qc e)])):=
 fun x0=>by
  rw[qy qq8 qub.2.2.2 quC]
  have:=quE;have:=@q0D;have:=@ZK.eq_1;exact gA
def Qs (c:QE):Option (List qa×qd×Int):=Option.bind (ZK c.Has) fun(a:List qa)=>if 0<((a.length:Nat):Int) then if 0<c.Odd.a0.a0 then Option.bind (Q1 c.Odd.a0.a2 ((a.length:Nat):Int)) fun(a2:Int)=>if 0≤a2∧a2<((a.length:Nat):Int) then Option.bind a[Int.toNat a2]? fun(a3:qa)=>Option.bind (Qx a3 (Qy.mk c.Odd.a0.a0 c.Odd.a0.a1)) fun(a4:qa)=>if 0≤a2∧a2<((a.length:Nat):Int) then if Int.toNat a2*8+8≤a.length*8 then if 0<((a.length:Nat):Int) then if 0<c.Odd.a1.a0 then Option.bind (Q1 c.Odd.a1.a2 ((a.length:Nat):Int)) fun(a5:Int)=>if 0≤a5∧a5<((a.length:Nat):Int) then Option.bind (List.set a (Int.toNat a2) a4)[Int.toNat a5]? fun(a6:qa)=>Option.bind (Qx a6 (Qy.mk c.Odd.a1.a0 c.Odd.a1.a1)) fun(a7:qa)=>if 0≤a5∧a5<((a.length:Nat):Int) then if Int.toNat a5*8+8≤a.length*8 then Option.bind (qN c.Programme) fun(a8:qd)=>some (List.set (List.set a (Int.toNat a2) a4) (Int.toNat a5) a7,a8,Int.tmod (w64 c.Day) 800) else none else none else none else Option.bind (qN c.Programme) fun(a9:qd)=>some (List.set a (Int.toNat a2) a4,a9,Int.tmod (w64 c.Day) 800) else Option.bind (qN c.Programme) fun(a10:qd)=>some (List.set a (Int.toNat a2) a4,a10,Int.tmod (w64 c.Day) 800) else none else none else none else if 0<((a.length:Nat):Int) then if 0<c.Odd.a1.a0 then Option.bind (Q1 c.Odd.a1.a2 ((a.length:Nat):Int)) fun(a11:Int)=>if 0≤a11∧a11<((a.length:Nat):Int) then Option.bind a[Int.toNat a11]? fun(a12:qa)=>Option.bind (Qx a12 (Qy.mk c.Odd.a1.a0 c.Odd.a1.a1)) fun(a13:qa)=>if 0≤a11∧a11<((a.length:Nat):Int) then if Int.toNat a11*8+8≤a.length*8 then Option.bind (qN c.Programme) fun(a14:qd)=>some (List.set a (Int.toNat a11) a13,a14,Int.tmod (w64 c.Day) 800) else none else none else none else Option.bind (qN c.Programme) fun(a15:qd)=>some (a,a15,Int.tmod (w64 c.Day) 800) else Option.bind (qN c.Programme) fun(a16:qd)=>some (a,a16,Int.tmod (w64 c.Day) 800) else if 0<((a.length:Nat):Int) then if 0<c.Odd.a1.a0 then Option.bind (Q1 c.Odd.a1.a2 ((a.length:Nat):Int)) fun(a17:Int)=>if 0≤a17∧a17<((a.length:Nat):Int) then Option.bind a[Int.toNat a17]? fun(a18:qa)=>Option.bind (Qx a18 (Qy.mk c.Odd.a1.a0 c.Odd.a1.a1)) fun(a19:qa)=>if 0≤a17∧a17<((a.length:Nat):Int) then if Int.toNat a17*8+8≤a.length*8 then Option.bind (qN c.Programme) fun(a20:qd)=>some (List.set a (Int.toNat a17) a19,a20,Int.tmod (w64 c.Day) 800) else none else none else none else Option.bind (qN c.Programme) fun(a21:qd)=>some (a,a21,Int.tmod (w64 c.Day) 800) else Option.bind (qN c.Programme) fun(a22:qd)=>some (a,a22,Int.tmod (w64 c.Day) 800)
theorem q1s:∀(c_Has:List (List Int)) (c_Odd_0_0 c_Odd_0_1 c_Odd_0_2 c_Odd_1_0 c_Odd_1_1 c_Odd_1_2:Int) (c_Programme:List Int) (c_Day:Int),ev 9 0 [R.agg [dL 1 (eL 1 eI) c_Has,dI c_Odd_0_0,dI c_Odd_0_1,dI c_Odd_0_2,dI c_Odd_1_0,dI c_Odd_1_1,dI c_Odd_1_2,dL 1 eI c_Programme,C.d (D.int .u16 c_Day)]] []=(Qs (QE.mk c_Has (Qy.mk (qhC.mk c_Odd_0_0 c_Odd_0_1 c_Odd_0_2) (qhC.mk c_Odd_1_0 c_Odd_1_1 c_Odd_1_2)) c_Programme c_Day)).bind (fun(e:List qa×qd×Int)=>some (R.tup [rL 8 qc e.1,R.agg [dI e.2.1.School,dI e.2.1.Id,dI e.2.1.Version,dI e.2.1.From,dS e.2.1.Name,dI e.2.1.Need.Kind,dI e.2.1.Need.N,dI e.2.1.Need.Min,dL 2 qh e.2.1.Need.Set,dL 5 ql e.2.1.Need.L,dI e.2.1.Total,dI e.2.1.Own,dI e.2.1.Age,dL 4 (eA2 qh) e.2.1.Exclude],rI e.2.2],[])):=
 fun c_Has c_Odd_0_0 c_Odd_0_1 c_Odd_0_2 c_Odd_1_0 c_Odd_1_1 c_Odd_1_2 c_Programme c_Day=>by
  rw[qy bd9 pw9.2.2.2 lo9]
  have:=cx9;have:=@q4y;have:=@Jz;have:=@q2f;have:=@q5r;have:=@Qs.eq_1;have:=fun(E:Orc) (k:Nat) (s:S)=>q6d (E:=E) (k:=k) (s:=s) qst qt0;have:=@qjs.eq_1;have:=@q21;have:=@q6q;have:=@q9a;have:=@q68;have:=@q8Z;have:=@q6g;have:=@q9O;exact gA
end
end Go.Proofs.Ytofbcijbpfjliaa.Vc
