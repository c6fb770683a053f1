/- Part 4 of a proof. -/
import Derived.Test.YtofbcijbpfjliaaF3
import Derived.Shelf.SlIter.Sorted
set_option linter.unusedVariables false
set_option linter.unusedSimpArgs false
set_option linter.defProp false
set_option linter.unusedSectionVars false
set_option linter.unnecessarySimpa false
namespace Go.Proofs.Ytofbcijbpfjliaa.Vc
noncomputable section
open Go.RowKit
set_option maxRecDepth 100000
abbrev w64 (n:Int):Int:=IntKind.i64.wrap n
def Qn:Code→List Code
 | .loop c=>c::Qn c
 | .seq a b=>Qn a++Qn b
 | .cond _ a b=>Qn a++Qn b
 | .block _ c=>Qn c
 | .scope c=>Qn c
 | .rangeFunc _ _ a b=>Qn a++Qn b
 | _=>[]
def zL:Code→List (Code×Code)
 | .rangeFunc _ _ a b=>(a,b)::(zL a++zL b)
 | .loop c=>zL c
 | .seq a b=>zL a++zL b
 | .cond _ a b=>zL a++zL b
 | .block _ c=>zL c
 | .scope c=>zL c
 | _=>[]
theorem q4H:∀(c b:Code),b∈Qn c→(∀b'∈Qn b,b'∈Qn c)∧∀q∈zL b,q∈zL c:=by
 intro c
 induction c with
 | loop c ih=>
  intro b hb
  rcases qy3.1 hb with rfl|hb
  ·exact⟨fun b' h=>qxP _ h,fun q h=>h⟩
  ·exact⟨fun b' h=>qxP _ ((ih b hb).1 b' h),fun q h=>(ih b hb).2 q h⟩
 | seq a c iha ihc=>
  intro b hb
  rcases qyb.1 hb with hb|hb
  ·exact⟨fun b' h=>qxT _ ((iha b hb).1 b' h),fun q h=>qxT _ ((iha b hb).2 q h)⟩
  ·exact⟨fun b' h=>qxQ _ ((ihc b hb).1 b' h),fun q h=>qxQ _ ((ihc b hb).2 q h)⟩
 | cond x a c iha ihc=>
  intro b hb
  rcases qyb.1 hb with hb|hb
  ·exact⟨fun b' h=>qxT _ ((iha b hb).1 b' h),fun q h=>qxT _ ((iha b hb).2 q h)⟩
  ·exact⟨fun b' h=>qxQ _ ((ihc b hb).1 b' h),fun q h=>qxQ _ ((ihc b hb).2 q h)⟩
 | rangeFunc g ps a c iha ihc=>
  intro b hb
  rcases qyb.1 hb with hb|hb
  ·exact⟨fun b' h=>qxT _ ((iha b hb).1 b' h),fun q h=>qxP _ (qxT _ ((iha b hb).2 q h))⟩
  ·exact⟨fun b' h=>qxQ _ ((ihc b hb).1 b' h),fun q h=>qxP _ (qxQ _ ((ihc b hb).2 q h))⟩
 | block id c ih=>intro b hb;exact ih b hb
 | scope c ih=>intro b hb;exact ih b hb
 | _=>intro b hb;cases hb
theorem Jr:∀(c:Code) (q:Code×Code),q∈zL c→(∀b'∈Qn q.1++Qn q.2,b'∈Qn c)∧∀q'∈zL q.1++zL q.2,q'∈zL c:=by
 intro c
 induction c with
 | loop c ih=>intro q hq;exact⟨fun b' h=>qxP _ ((ih q hq).1 b' h),(ih q hq).2⟩
 | seq a c iha ihc=>
  intro q hq
  rcases qyb.1 hq with hq|hq
  ·exact⟨fun b' h=>qxT _ ((iha q hq).1 b' h),fun q' h=>qxT _ ((iha q hq).2 q' h)⟩
  ·exact⟨fun b' h=>qxQ _ ((ihc q hq).1 b' h),fun q' h=>qxQ _ ((ihc q hq).2 q' h)⟩
 | cond x a c iha ihc=>
  intro q hq
  rcases qyb.1 hq with hq|hq
  ·exact⟨fun b' h=>qxT _ ((iha q hq).1 b' h),fun q' h=>qxT _ ((iha q hq).2 q' h)⟩
  ·exact⟨fun b' h=>qxQ _ ((ihc q hq).1 b' h),fun q' h=>qxQ _ ((ihc q hq).2 q' h)⟩
 | rangeFunc g ps a c iha ihc=>
  intro q hq
  rcases qy3.1 hq with rfl|hq
  ·exact⟨fun b' h=>h,fun q' h=>qxP _ h⟩
  ·rcases qyb.1 hq with hq|hq
   ·exact⟨fun b' h=>qxT _ ((iha q hq).1 b' h),fun q' h=>qxP _ (qxT _ ((iha q hq).2 q' h))⟩
   ·exact⟨fun b' h=>qxQ _ ((ihc q hq).1 b' h),fun q' h=>qxP _ (qxQ _ ((ihc q hq).2 q' h))⟩
 | block id c ih=>intro q hq;exact ih q hq
 | scope c ih=>intro q hq;exact ih q hq
 | _=>intro q hq;cases hq
def q27 (f:Nat):Code:=((qu Try.prog pol f).map Bd.code).getD .skip
def lbO (f key:Nat):Code:=(qS key (q27 f)).getD .skip
def raO (f key:Nat):Code:=((QQ key (q27 f)).getD (.skip,.skip)).1
def rbO (f key:Nat):Code:=((QQ key (q27 f)).getD (.skip,.skip)).2
structure okL (f:Nat) (c:Code):Prop where
 lo:∀b∈Qn c,lbO f (qD b)=b
 ro:∀q∈zL c,raO f (qD q.2)=q.1∧rbO f (qD q.2)=q.2
theorem qB {f:Nat} {c:Code} (hc:q27 f=c) (h:(Qn c).map (fun b=>(qS (qD b) c).getD .skip)=Qn c) (h':(zL c).map (fun q=>(QQ (qD q.2) c).getD (.skip,.skip))=zL c):okL f c:=by
 refine⟨fun b hb=>?_,fun q hq=>?_⟩
 ·unfold lbO
  rw[hc]
  obtain⟨i,hi,rfl⟩:=List.mem_iff_getElem.1 hb
  have h1:((Qn c).map (fun b=>(qS (qD b) c).getD .skip))[i]?=(Qn c)[i]?:=by rw[h]
  rw[qxV,qxJ hi] at h1
  simpa using h1
 ·unfold raO rbO
  rw[hc]
  obtain⟨i,hi,rfl⟩:=List.mem_iff_getElem.1 hq
  have h1:((zL c).map (fun q=>(QQ (qD q.2) c).getD (.skip,.skip)))[i]?=(zL c)[i]?:=by rw[h']
  rw[qxV,qxJ hi] at h1
  simp only[Option.map_some,qyw] at h1
  rw[h1]
  exact⟨rfl,rfl⟩
def XEo (E:Orc) (f k:Nat):Code→S→XS:=XD Try.prog T pol E (D1 Try.prog T pol E f k) Lim f k
def XL2 (E:Orc) (f k key:Nat) (s:S):XS:=Lim (fun s=>(XEo E f k (lbO f key) s).bind (lpx pol f key k)) s
def XM2 (E:Orc) (f k key:Nat) (it:Operand) (s:S):XS:=mlp it (fun s=>(XEo E f k (lbO f key) s).bind (lpx pol f key k)) s
def lp3 (E:Orc) (f k key:Nat) (o:Option Operand) (r:Option S):XS:=r.bind fun s=>match o with
 | none=>XL2 E f k key s
 | some it=>XM2 E f k key it s
def cnd (r:R) (x y:XS):XS:=
 match r with
 | .c (.d (.bool b))=>if b=true then x else y
 | _=>none
def XE2 (E:Orc) (f k:Nat):Code→S→XS
 | .skip,s=>some (.normal,s)
 | .label _,s=>some (.normal,s)
 | .ret,s=>some (.ret,s)
 | .exit id,s=>some (.exit id,s)
 | .seq a b,s=>(XE2 E f k a s).bind (sqD fun s'=>XE2 E f k b s')
 | .block id c,s=>(XE2 E f k c s).bind (bkD id)
 | .scope c,s=>(XE2 E f k c s).bind scD
 | .cond c x y,s=>cnd (s.ev c) (XE2 E f k x (s.ly c tt)) (XE2 E f k y (s.ly c ff))
 | .loop c,s=>lp3 E f k (qD c) (Jj c) (nrm pol f (qD c) k s)
 | .rangeFunc g ps _ b,s=>xRF pol E f g ps.toList (raO f (qD b)) (rbO f (qD b)) ((s.dzr pol.q).frz (q4y (s.dzr pol.q) (pol.rk f (qD b))))
 | c,s=>XEo E f k c s
section
variable {E:Orc} {f k:Nat} {s:S}
theorem qsA (a b:Code):XEo E f k (.seq a b) s=(XEo E f k a s).bind (sqD fun s'=>XEo E f k b s'):=rfl
theorem qjf (i:Nat) (b:Code):XEo E f k (.block i b) s=(XEo E f k b s).bind (bkD i):=rfl
theorem qk5 (b:Code):XEo E f k (.scope b) s=(XEo E f k b s).bind scD:=rfl
theorem ql5 (p:Operand) (a b:Code):XEo E f k (.cond p a b) s=cnd (s.ev p) (XEo E f k a (s.ly p tt)) (XEo E f k b (s.ly p ff)):=rfl
theorem qnC (b:Code):XEo E f k (.loop b) s=(nrm pol f (qD b) k s).bind fun s0=>lpM Lim (Jj b) (fun s=>(XEo E f k b s).bind (lpx pol f (qD b) k)) s0:=rfl
theorem qoh:XEo E f k .skip s=some (.normal,s):=rfl
theorem qhS (l:Nat):XEo E f k (.label l) s=some (.normal,s):=rfl
theorem qte:XEo E f k .ret s=some (.ret,s):=rfl
theorem qlE (i:Nat):XEo E f k (.exit i) s=some (.exit i,s):=rfl
theorem qiF (g:Operand) (ps:Array Tmp) (asg bd:Code):XEo E f k (.rangeFunc g ps asg bd) s=xRF pol E f g ps.toList asg bd ((s.dzr pol.q).frz (q4y (s.dzr pol.q) (pol.rk f (qD bd)))):=rfl
theorem qsb (a b:Code):XE2 E f k (.seq a b) s=(XE2 E f k a s).bind (sqD fun s'=>XE2 E f k b s'):=rfl
theorem qiC (i:Nat) (b:Code):XE2 E f k (.block i b) s=(XE2 E f k b s).bind (bkD i):=rfl
theorem qia (b:Code):XE2 E f k (.scope b) s=(XE2 E f k b s).bind scD:=rfl
theorem qlV (p:Operand) (a b:Code):XE2 E f k (.cond p a b) s=cnd (s.ev p) (XE2 E f k a (s.ly p tt)) (XE2 E f k b (s.ly p ff)):=rfl
theorem qii (g:Operand) (ps:Array Tmp) (asg bd:Code):XE2 E f k (.rangeFunc g ps asg bd) s=xRF pol E f g ps.toList (raO f (qD bd)) (rbO f (qD bd)) ((s.dzr pol.q).frz (q4y (s.dzr pol.q) (pol.rk f (qD bd)))):=rfl
theorem qm9 (b:Code):XE2 E f k (.loop b) s=lp3 E f k (qD b) (Jj b) (nrm pol f (qD b) k s):=rfl
end
theorem q75 {E:Orc} {f k:Nat}:∀(c:Code),okL f c→∀s,XEo E f k c s=XE2 E f k c s:=by
 intro c
 induction c with
 | seq a b iha ihb=>
  intro h s
  have h1:=iha ⟨fun x hx=>h.lo x (qxT _ hx),fun x hx=>h.ro x (qxT _ hx)⟩
  have h2:=ihb ⟨fun x hx=>h.lo x (qxQ _ hx),fun x hx=>h.ro x (qxQ _ hx)⟩
  rw[qsA,qsb,h1,funext h2]
 | block id c ih=>intro h s;rw[qjf,qiC,ih ⟨h.lo,h.ro⟩ s]
 | scope c ih=>intro h s;rw[qk5,qia,ih ⟨h.lo,h.ro⟩ s]
 | cond x a b iha ihb=>
  intro h s
  have h1:=iha ⟨fun x hx=>h.lo x (qxT _ hx),fun x hx=>h.ro x (qxT _ hx)⟩
  have h2:=ihb ⟨fun x hx=>h.lo x (qxQ _ hx),fun x hx=>h.ro x (qxQ _ hx)⟩
  rw[ql5,qlV,h1,h2]
 | loop c ih=>
  intro h s
  rw[qnC,qm9]
  unfold lp3 lpM XL2 XM2
  rw[h.lo c qxW]
  cases Jj c<;>rfl
 | rangeFunc g ps a b _ _=>
  intro h s
  obtain⟨h1,h2⟩:=h.ro (a,b) qxW
  rw[qiF,qii]
  rw[h1,h2]
 | skip=>intro _ s;rw[qoh];rfl
 | label=>intro _ s;rw[qhS];rfl
 | ret=>intro _ s;rw[qte];rfl
 | exit=>intro _ s;rw[qlE];rfl
 | _=>intro _ s;unfold XE2;rfl
def th2 (E:Orc) (f k:Nat) (r:XS) (b:Code):XS:=r.bind (sqD fun s'=>XE2 E f k b s')
def lp2 (E:Orc) (f k key:Nat) (o:Option S):XS:=o.bind fun s=>XL2 E f k key s
def lz2 (f k key:Nat) (r:XS):XS:=r.bind (lpx pol f key k)
def ly2 (e:Exit) (o:Option S):XS:=o.bind fun s=>some (e,s)
def rs2 (E:Orc) (ops:List Oper) (o:Option S) (l:List Oper):Option S:=o.bind fun s=>xr Try.prog T pol E ops l s
def qhr (E:Orc) (ops:List Oper) (A:List (List Nat)) (s0:S) (m:Nat) (o:Option (S×Tx)) (l:List Oper) (acc:List Tx):Option S:=o.bind fun q=>xdp Try.prog T pol E ops A s0 m l q.1 (acc++[q.2])
section
variable {E:Orc} {f k key:Nat} {s:S} {b:Code} {c:Prop} [Decidable c] {x y:XS} {α β:Type} {o:Option α} {g:α→XS} {h:β→XS} {e:α⊕β}
theorem qjG:XE2 E f k .skip s=some (.normal,s):=rfl
theorem qow:XE2 E f k .ret s=some (.ret,s):=rfl
theorem qio (i:Nat):XE2 E f k (.exit i) s=some (.exit i,s):=rfl
theorem qml (a:Code):XE2 E f k (.seq a b) s=th2 E f k (XE2 E f k a s) b:=rfl
theorem qgZ (i:Nat):XE2 E f k (.block i b) s=bkk i (XE2 E f k b s):=rfl
theorem qj9 (p:Operand) (a b:Code):XE2 E f k (.cond p a b) s=match s.ev p with | .c (.d (.bool t))=>if t=true then XE2 E f k a (s.ly p tt) else XE2 E f k b (s.ly p ff)|_=>none:=rfl
theorem qeG (i:Nat) (ops:Array Oper):XE2 E f k (.region i ops false) s=rgn (xr Try.prog T pol E ops.toList ops.toList s):=rfl
theorem qi7 (i:Nat) (ops:Array Oper):XE2 E f k (.region i ops true) s=rgn (D1 Try.prog T pol E f k i ops.toList (((s.uwD pol ops.toList).dzr pol.q).frk (pol.rk f i))):=rfl
theorem qfz (g:Operand) (ps:Array Tmp) (asg bd:Code):XE2 E f k (.rangeFunc g ps asg bd) s=xRF pol E f g ps.toList (raO f (qD bd)) (rbO f (qD bd)) ((s.dzr pol.q).frz (q4y (s.dzr pol.q) (pol.rk f (qD bd)))):=rfl
theorem qk8:XE2 E f k (.loop b) s=lp3 E f k (qD b) (Jj b) (nrm pol f (qD b) k s):=rfl
theorem qfI (r:Option S):lp3 E f k key none r=lp2 E f k key r:=rfl
theorem qai:th2 E f k (some (.normal,s)) b=XE2 E f k b s:=rfl
theorem qkf:th2 E f k (some (.ret,s)) b=some (.ret,s):=rfl
theorem qgh (i:Nat):th2 E f k (some (.exit i,s)) b=some (.exit i,s):=rfl
theorem qeW:th2 E f k none b=none:=rfl
theorem qjb:th2 E f k (if c then x else y) b=if c then th2 E f k x b else th2 E f k y b:=Zk _ _ _
theorem qf7:th2 E f k (o.bind g) b=o.bind fun a=>th2 E f k (g a) b:=by cases o<;>rfl
theorem qkh:th2 E f k (Sum.elim g h e) b=Sum.elim (fun a=>th2 E f k (g a) b) (fun a=>th2 E f k (h a) b) e:=by cases e<;>rfl
theorem qgw:lp2 E f k key (some s)=XL2 E f k key s:=rfl
theorem qaq:lz2 f k key (some (.normal,s))=ly2 .normal (nrm pol f key k s):=rfl
theorem qiz:lz2 f k key (some (.ret,s))=ly2 .ret (qht k (pol.kx f key) (s.fnB pol (pol.ab f))):=rfl
theorem qfy (i:Nat):lz2 f k key (some (.exit i,s))=ly2 (.exit i) (qht k (pol.kx f key) (s.fnB pol (pol.ab f))):=rfl
theorem qgd:lz2 f k key none=none:=rfl
theorem qiM:lz2 f k key (if c then x else y)=if c then lz2 f k key x else lz2 f k key y:=Zk _ _ _
theorem qfA:lz2 f k key (o.bind g)=o.bind fun a=>lz2 f k key (g a):=by cases o<;>rfl
theorem qjB:lz2 f k key (Sum.elim g h e)=Sum.elim (fun a=>lz2 f k key (g a)) (fun a=>lz2 f k key (h a)) e:=by cases e<;>rfl
theorem qgO (x:Exit):ly2 x (some s)=some (x,s):=rfl
theorem qiH (i:Nat):bkk i (Sum.elim g h e)=Sum.elim (fun a=>bkk i (g a)) (fun a=>bkk i (h a)) e:=by cases e<;>rfl
theorem qi8 (res:List ResultVar) (rt:List TypeId):fnn f k res rt (Sum.elim g h e)=Sum.elim (fun a=>fnn f k res rt (g a)) (fun a=>fnn f k res rt (h a)) e:=by cases e<;>rfl
end
section
variable {E:Orc} {α β γ:Type} {e:α⊕β}
theorem qgE {δ:Type} (g:α→Option γ) (h:β→Option γ) (F:γ→Option δ):(Sum.elim g h e).bind F=Sum.elim (fun a=>(g a).bind F) (fun a=>(h a).bind F) e:=by cases e<;>rfl
theorem qkS (g:α→RS) (h:β→RS) (d:Option Nat):wst (Sum.elim g h e) d=Sum.elim (fun a=>wst (g a) d) (fun a=>wst (h a) d) e:=by cases e<;>rfl
theorem qhY (g:α→Option S) (h:β→Option S):rgn (Sum.elim g h e)=Sum.elim (fun a=>rgn (g a)) (fun a=>rgn (h a)) e:=by cases e<;>rfl
theorem qkP {s:S} (g:α→Option (R×List (Nat×B))) (h:β→Option (R×List (Nat×B))) (bl rw ln:List Nat):cll (Sum.elim g h e) s bl rw ln=Sum.elim (fun a=>cll (g a) s bl rw ln) (fun a=>cll (h a) s bl rw ln) e:=by cases e<;>rfl
end
section
variable {E:Orc} {s:S} {o:Oper} {c:Prop} [Decidable c] {α β:Type} {v:Option α} {e:α⊕β} {ops l:List Oper} {A:List (List Nat)} {s0:S} {m:Nat} {acc:List Tx}
theorem qvY:xst Try.prog T pol E o true s=wst (xo Try.prog T pol E (pre pol s o.op) o.op) o.dst:=rfl
theorem qwp:xst Try.prog T pol E o false s=if q3O s o.dst=true then some (s.put o.dst (.tup [])) else none:=rfl
theorem qsg:xsF Try.prog T pol E o true s=alX E s o (alC pol s o.op) (wsF (xo Try.prog T pol E s o.op) s o):=rfl
theorem qrr:xsF Try.prog T pol E o false s=if q3O s o.dst=true then some (s.put o.dst (.tup []),(.tup [],[]),⟨[],[],[],[],[]⟩) else none:=rfl
theorem qrW:xr Try.prog T pol E ops [] s=some s:=rfl
theorem qnz:xr Try.prog T pol E ops (o::l) s=rs2 E ops (xgd Try.prog T pol E ops o s) l:=rfl
theorem ql4:rs2 E ops (some s) l=xr Try.prog T pol E ops l s:=rfl
theorem qlD:rs2 E ops none l=none:=rfl
theorem qs4 (x y:Option S):rs2 E ops (if c then x else y) l=if c then rs2 E ops x l else rs2 E ops y l:=Zk _ _ _
theorem qpb (g:α→Option S):rs2 E ops (v.bind g) l=v.bind fun a=>rs2 E ops (g a) l:=by cases v<;>rfl
theorem qqI (g:α→Option S) (h:β→Option S):rs2 E ops (Sum.elim g h e) l=Sum.elim (fun a=>rs2 E ops (g a) l) (fun a=>rs2 E ops (h a) l) e:=by cases e<;>rfl
theorem qoH:xdp Try.prog T pol E ops A s0 0 l s acc=if okP A 0 [] acc=true∧okX ops A s0 acc 0 acc=true∧okK ops A acc=true∧okN acc 0 acc=true then xr Try.prog T pol E ops l s else none:=by cases l<;>rfl
theorem qmv:xdp Try.prog T pol E ops A s0 (m+1) (o::l) s acc=qhr E ops A s0 m (xgF Try.prog T pol E ops o s) l acc:=rfl
theorem qkw (x:Tx):qhr E ops A s0 m (some (s,x)) l acc=xdp Try.prog T pol E ops A s0 m l s (acc++[x]):=rfl
theorem qiN:qhr E ops A s0 m none l acc=none:=rfl
theorem qmD (x y:Option (S×Tx)):qhr E ops A s0 m (if c then x else y) l acc=if c then qhr E ops A s0 m x l acc else qhr E ops A s0 m y l acc:=Zk _ _ _
theorem qi6 (g:α→Option (S×Tx)):qhr E ops A s0 m (v.bind g) l acc=v.bind fun a=>qhr E ops A s0 m (g a) l acc:=by cases v<;>rfl
theorem qpx (g:FuncId) (zs:List (List Nat)) (rs:List R) (bl rw ln:List Nat):Zu E s g zs rs bl rw ln=(qba s (bl++rw) ln zs rs).bind fun rs'=>(cvG s (bl++rw) (bl++rw) 0).bind fun G=>
  if(bl++rw).all (fun i=>(s.blk i).live)=true∧(bl++rw).Nodup∧ln.all (fun i=>(s.blk i).live && !(bl++rw).contains i)=true∧bl.length≤G.length∧(List.range G.length).all (fun j=>(lk G j .dead).isBlk==decide (j<bl.length))=true then cll (E (.fn g) bl.length rs' G) s bl rw ln else none:=rfl
theorem qjW (rid:Nat) (f:FuncId) (asg bd:Code) (rs:List R) (bl rw ln:List Nat):q1V E s rid f asg bd rs bl rw ln=(cvG s (bl++rw) (bl++rw) 0).bind fun G=>
  if(bl++rw).all (fun i=>(s.blk i).live)=true∧(bl++rw).Nodup∧ln.all (fun i=>(s.blk i).live && !(bl++rw).contains i)=true∧bl.length≤G.length∧(List.range G.length).all (fun j=>(lk G j .dead).isBlk==decide (j<bl.length))=true∧0<bl.length∧(bl++rw)[bl.length-1]?=some rid then
   cll (E (.rd f asg bd) bl.length (rs.map (cvT s (bl++rw) ln)) G) s bl rw ln else none:=rfl
theorem qwl (f:Nat) (asg bd:Code) (g:Operand) (ps:List Nat):xRF pol E f g ps asg bd s=match s.ev g with
 | .c (.fn g' fs caps)=>rfk s.n (q4I E (s.rf f (q8l s (pol.rk f (qD bd))) ps asg bd) g' (pol.ow g') [] (fs.map R.c++[.c (.hd .yield s.nx)]++caps.map R.c))
 | _=>none:=rfl
end
theorem qnn (g k:Nat) (a:List R) (G:List (Nat×B)):evo (.fn g) k a G=ev g k a G:=rfl
def q6H (E:Orc) (f k:Nat) (args:List R) (G:List (Nat×B)):Option (R×List (Nat×B)):=(qu Try.prog pol f).bind fun bd=>q2E Try.prog T pol (D1 Try.prog T pol) E Lim f k args G bd
theorem qi {f n:Nat} {c:Code} {res:List ResultVar} {rt:List TypeId} (hb:qu Try.prog pol f=some ⟨c,n,res,rt⟩):q27 f=c:=by unfold q27;rw[hb];rfl
theorem q5U {E:Orc} {f n:Nat} {c:Code} {res:List ResultVar} {rt:List TypeId} (hb:qu Try.prog pol f=some ⟨c,n,res,rt⟩) (hl:okL f c) (k:Nat) (args:List R) (G:List (Nat×B)) :
  q6H E f k args G=if args.length≤n then fnn f k res rt (XE2 E f k c ⟨q07 args 0,G,G.length,n⟩) else none:=by
 unfold q6H
 rw[hb,qxH]
 unfold q2E
 split
 ·show Option.bind (XEo E f k c _) _=_
  rw[q75 c hl]
  rfl
 ·rfl
theorem qdM {f k:Nat} (hp:pol.pr f=none) (args:List R) (G:List (Nat×B)):ev f k args G=q6H evo f k args G:=by rw[qfZ,hp];rfl
theorem qy {f n:Nat} {c:Code} {res:List ResultVar} {rt:List TypeId} (hb:qu Try.prog pol f=some ⟨c,n,res,rt⟩) (hp:pol.pr f=none) (hl:okL f c) (k:Nat) (args:List R) (G:List (Nat×B)) :
  ev f k args G=if args.length≤n then fnn f k res rt (XE2 evo f k c ⟨q07 args 0,G,G.length,n⟩) else none:=by
 rw[qdM hp,q5U hb hl]
section
variable {σ ε:Type}
def itT (step:σ→Option (σ⊕ε)):Nat→σ→Option ε
 | 0,_=>none
 | n+1,x=>(step x).bind (Sum.elim (itT step n) some)
theorem q6i {step:σ→Option (σ⊕ε)}:∀{n m:Nat},n≤m→∀x r,itT step n x=some r→itT step m x=some r
 | 0,_,_,x,r,h=>by cases h
 | n+1,0,h,_,_,_=>by omega
 | n+1,m+1,h,x,r,hx=>by
  unfold itT at hx ⊢
  obtain⟨a,h1,h2⟩:=qxM.1 hx
  rw[h1,qxH]
  cases a with
  | inl y=>exact q6i (by omega) y r h2
  | inr e=>exact h2
def qz (step:σ→Option (σ⊕ε)) (x:σ):Option ε:=open Classical in if h:∃r n,itT step n x=some r then some (Classical.choose h) else none
theorem q6F {step:σ→Option (σ⊕ε)} {n:Nat} {x:σ} {r:ε} (h:itT step n x=some r):qz step x=some r:=by
 have hex:∃r n,itT step n x=some r:=⟨r,n,h⟩
 unfold qz
 rw[dif_pos hex]
 obtain⟨m,hm⟩:=Classical.choose_spec hex
 have h1:=q6i (Nat.le_max_left n m) _ _ h
 have h2:=q6i (Nat.le_max_right n m) _ _ hm
 rw[h1] at h2
 injection h2 with h2
 rw[←h2]
theorem q4B {step:σ→Option (σ⊕ε)} {x:σ} {r:ε} (h:qz step x=some r):∃n,itT step n x=some r:=by
 unfold qz at h
 split at h
 ·rename_i hex
  injection h with h
  obtain⟨m,hm⟩:=Classical.choose_spec hex
  exact⟨m,h ▸ hm⟩
 ·cases h
theorem qev (step:σ→Option (σ⊕ε)) (x:σ):qz step x=(step x).bind (Sum.elim (qz step) some):=by
 refine q4q (fun r h=>?_) (fun r h=>?_)
 ·obtain⟨n,hn⟩:=q4B h
  cases n with
  | zero=>cases hn
  | succ n=>
   unfold itT at hn
   obtain⟨a,h1,h2⟩:=qxM.1 hn
   rw[h1,qxH]
   cases a with
   | inl y=>exact q6F h2
   | inr e=>exact h2
 ·obtain⟨a,h1,h2⟩:=qxM.1 h
  cases a with
  | inl y=>
   obtain⟨n,hn⟩:=q4B h2
   refine q6F (n:=n+1) ?_
   unfold itT
   rw[h1];exact hn
  | inr e=>
   refine q6F (n:=1) ?_
   unfold itT
   rw[h1];exact h2
end
theorem qka {F:S→XS} {σ ε:Type} {st:σ→S} {ex:ε→Exit×S} {step:σ→Option (σ⊕ε)} (hne:∀e,(ex e).1 ≠ .normal)
  (h:∀x,F (st x)=(step x).bind (Sum.elim (fun y=>some (.normal,st y)) (fun e=>some (ex e)))) (x:σ):Lim F (st x)=(qz step x).bind fun e=>some (ex e):=by
 have hit:∀(n:Nat) (x:σ),iter n F (st x)=(itT step n x).bind fun e=>some (ex e):=by
  intro n
  induction n with
  | zero=>intro x;rfl
  | succ n ih=>
   intro x
   unfold iter itT
   rw[h x]
   cases step x with
   | none=>rfl
   | some a=>
    cases a with
    | inl y=>exact ih y
    | inr e=>
     show sqD (iter n F) (ex e)=some (ex e)
     have:=hne e
     generalize ex e=q at this
     obtain⟨z,t⟩:=q
     cases z<;>first|exact absurd rfl this|rfl
 refine q4q (fun r hr=>?_) (fun r hr=>?_)
 ·obtain⟨n,hn⟩:=q3X hr
  rw[hit n x] at hn
  obtain⟨e,h1,h2⟩:=qxM.1 hn
  rw[q6F h1];exact h2
 ·obtain⟨e,h1,h2⟩:=qxM.1 hr
  obtain⟨n,hn⟩:=q4B h1
  refine q6N (n:=n) ?_
  rw[hit n x,hn];exact h2
theorem q7U {E:Orc} {f k key:Nat} {c:Code} {σ ε:Type} {st:σ→S} {ex:ε→Exit×S} {step:σ→Option (σ⊕ε)} (hc:lbO f key=c) (hl:okL f c) (hne:∀e,(ex e).1 ≠ .normal)
  (h:∀x,lz2 f k key (XE2 E f k c (st x))=(step x).bind (Sum.elim (fun y=>some (.normal,st y)) (fun e=>some (ex e)))) (x:σ):XL2 E f k key (st x)=(qz step x).bind fun e=>some (ex e):=by
 refine qka hne (fun x=>?_) x
 rw[hc,q75 c hl]
 exact h x
def xk (E:Orc) (f k key:Nat) (r:XS):XS:=r.bind fun p=>match p.1 with | .normal=>XL2 E f k key p.2|e=>some (e,p.2)
section
variable {E:Orc} {f k key:Nat} {s:S} {c:Prop} [Decidable c] {α β:Type} {o:Option α} {g:α→XS} {h:β→XS} {e:α⊕β}
theorem q2m:xk E f k key (some (.normal,s))=XL2 E f k key s:=rfl
theorem q6a (i:Nat):xk E f k key (some (.exit i,s))=some (.exit i,s):=rfl
theorem q99:xk E f k key (some (.ret,s))=some (.ret,s):=rfl
theorem q6o:xk E f k key none=none:=rfl
theorem q9l (x y:XS):xk E f k key (if c then x else y)=if c then xk E f k key x else xk E f k key y:=Zk _ _ _
theorem q6m:xk E f k key (o.bind g)=o.bind fun a=>xk E f k key (g a):=by cases o<;>rfl
theorem q9h:xk E f k key (Sum.elim g h e)=Sum.elim (fun a=>xk E f k key (g a)) (fun a=>xk E f k key (h a)) e:=by cases e<;>rfl
end
theorem q6s {E:Orc} {f k key:Nat} {c:Code} {s:S} (hc:lbO f key=c) (hl:okL f c):XL2 E f k key s=xk E f k key (lz2 f k key (XE2 E f k c s)):=by
 unfold XL2
 rw[qlz,hc,q75 c hl]
 show(lz2 f k key (XE2 E f k c s)).bind _=_
 unfold xk
 congr 1
 funext p
 obtain⟨e,t⟩:=p
 cases e<;>first|rfl|(show Lim _ t=Lim _ t;rw[hc])
theorem ZF {α:Type} {c:Prop} [Decidable c] (x y:α):(if c then some x else some y)=some (if c then x else y):=by split<;>rfl
theorem zE {f key:Nat} {c b:Code} (hc:q27 f=c) (h:(qS key c).getD .skip=b):lbO f key=b:=by unfold lbO;rw[hc];exact h
theorem qT {f:Nat} {c b:Code} (hl:okL f c) (hb:b∈Qn c):okL f b:=⟨fun x hx=>hl.lo x ((q4H c b hb).1 x hx),fun q hq=>hl.ro q ((q4H c b hb).2 q hq)⟩
theorem qpI {f key:Nat} {c:Code} {q:Code×Code} (hl:okL f c) (hq:q∈zL c):okL f q.1∧okL f q.2:=
 ⟨⟨fun x hx=>hl.lo x ((Jr c q hq).1 x (qxT _ hx)),fun x hx=>hl.ro x ((Jr c q hq).2 x (qxT _ hx))⟩,
   ⟨fun x hx=>hl.lo x ((Jr c q hq).1 x (qxQ _ hx)),fun x hx=>hl.ro x ((Jr c q hq).2 x (qxQ _ hx))⟩⟩
def rn2 (f k key:Nat) (o:Option B) (s:S):Option (R×List (Nat×B)):=o.bind fun b=>rd3 k (XE2 evo f k (rbO f key) (s.up [(k-1,b)]))
def rn1 (f k key:Nat) (r:XS):Option (R×List (Nat×B)):=r.bind fun p=>match p.1 with | .normal=>rn2 f k key (rdB (p.2.blk (k-1))) p.2|_=>none
section
variable {f k key:Nat} {s:S} {c:Prop} [Decidable c] {α β:Type} {o:Option α} {g:α→XS} {h:β→XS} {e:α⊕β}
theorem qb0:rn1 f k key (some (.normal,s))=rn2 f k key (rdB (s.blk (k-1))) s:=rfl
theorem qgF (b:B):rn2 f k key (some b) s=rd3 k (XE2 evo f k (rbO f key) (s.up [(k-1,b)])):=rfl
end
theorem qj2 {f key k:Nat} {asg bd:Code} (ha:raO f key=asg) (hb:rbO f key=bd) (hk:0<k) (hc:q1X (drq pol f) false asg=true∧q1X (drq pol f) false bd=true) (la:okL f asg) (lb:okL f bd) (tm:List R) (G:List (Nat×B)) :
  evr f (raO f key) (rbO f key) k tm G=rn1 f k key (XE2 evo f k (raO f key) ⟨q07 tm 0,G,G.length,tm.length⟩):=by
 rw[qo8 ha hb hk hc tm G,ha]
 have e1:∀s,XE f k asg s=XE2 evo f k asg s:=fun s=>q75 asg la s
 have e2:∀s,XE f k bd s=XE2 evo f k bd s:=fun s=>q75 bd lb s
 rw[e1]
 unfold rd1 rn1
 congr 1
 funext p
 obtain⟨x,t⟩:=p
 cases x<;>first
  | rfl
  | (show rd2 f k bd t (rdB (t.blk (k-1)))=rn2 f k key (rdB (t.blk (k-1))) t
     unfold rd2 rn2
     rw[hb]
     congr 1
     funext b
     rw[e2])
theorem qla {f key:Nat} {c b:Code} (hc:q27 f=c) (h:((QQ key c).getD (.skip,.skip)).1=b):raO f key=b:=by unfold raO;rw[hc];exact h
theorem qnP {f key:Nat} {c b:Code} (hc:q27 f=c) (h:((QQ key c).getD (.skip,.skip)).2=b):rbO f key=b:=by unfold rbO;rw[hc];exact h
section
variable {σ ε:Type} (f k:Nat) (enc:σ→List R×List (Nat×B)) (ex:ε→R×List (Nat×B))
def ovr (F:σ→Option ε):Orc:=fun g k' args G=>open Classical in if h:(g = .fn f∧k'=k)∧∃y,enc y=(args,G) then(F (Classical.choose h.2)).bind fun e=>some (ex e) else evo g k' args G
def q5m (y:σ):Option ε:=open Classical in if h:∃e,ev f k (enc y).1 (enc y).2=some (ex e) then some (Classical.choose h) else none
variable {f k enc ex}
theorem qkN (hi:∀y z,enc y=enc z→y=z) (F:σ→Option ε) (y:σ):ovr f k enc ex F (.fn f) k (enc y).1 (enc y).2=(F y).bind fun e=>some (ex e):=by
 have h:((Fx.fn f=Fx.fn f)∧k=k)∧∃z,enc z=((enc y).1,(enc y).2):=⟨⟨rfl,rfl⟩,y,rfl⟩
 unfold ovr
 rw[dif_pos h]
 rw[hi _ _ ((Classical.choose_spec h.2).trans rfl)]
theorem qfo (F:σ→Option ε) (g k':Nat) (a:List R) (G:List (Nat×B)) (h:g≠f):ovr f k enc ex F (.fn g) k' a G=ev g k' a G:=by
 unfold ovr
 rw[dif_neg (fun h'=>h (by injection h'.1.1))]
 rfl
theorem qnM (F:σ→Option ε) (g:Nat) (asg bd:Code) (k':Nat) (a:List R) (G:List (Nat×B)):ovr f k enc ex F (.rd g asg bd) k' a G=evr g asg bd k' a G:=by
 unfold ovr
 rw[dif_neg (fun h'=>by cases h'.1.1)]
 rfl
def q7w (f k:Nat) (enc:σ→List R×List (Nat×B)) (ex:ε→R×List (Nat×B)) (step:(σ→Option ε)→σ→Option ε):Prop:=
 ∀(E:Orc) (F:σ→Option ε),(∀y,E (.fn f) k (enc y).1 (enc y).2=(F y).bind fun e=>some (ex e))→(∀g k' a G,g≠f→E (.fn g) k' a G=ev g k' a G)→(∀g asg bd k' a G,E (.rd g asg bd) k' a G=evr g asg bd k' a G)→
  ∀y,q6H E f k (enc y).1 (enc y).2=(step F y).bind fun e=>some (ex e)
theorem qax {E E':Orc} (h:OLe E E') (L:(S→XS)→S→XS) (hL:LLe L Lim) {f k:Nat} {args:List R} {G:List (Nat×B)} {bd:Bd} {x:R×List (Nat×B)} (hb:qu Try.prog pol f=some bd) (hx:q2E Try.prog T pol (D1 Try.prog T pol) E L f k args G bd=some x):q6H E' f k args G=some x:=by
 unfold q6H
 rw[hb,qxH]
 exact q5E q4P h hL hx
theorem qjH (hp:pol.pr f=none) (hi:∀y z,enc y=enc z→y=z) {step:(σ→Option ε)→σ→Option ε} (hs:q7w f k enc ex step) :
  ∀(n:Nat) (y:σ) (z:R×List (Nat×B)),xf Try.prog T pol (D1 Try.prog T pol) n (.fn f) k (enc y).1 (enc y).2=some z→∃e,z=ex e:=by
 intro n
 induction n with
 | zero=>intro y z h;cases h
 | succ n ih=>
  intro y z h
  obtain⟨F,hF⟩:∃F:σ→Option ε,∀y z,xf Try.prog T pol (D1 Try.prog T pol) n (.fn f) k (enc y).1 (enc y).2=some z→(F y).bind (fun e=>some (ex e))=some z:=by
   refine⟨fun y=>open Classical in if h:∃e,xf Try.prog T pol (D1 Try.prog T pol) n (.fn f) k (enc y).1 (enc y).2=some (ex e) then some (Classical.choose h) else none,fun y z hz=>?_⟩
   obtain⟨e,rfl⟩:=ih y z hz
   have hex:∃e,xf Try.prog T pol (D1 Try.prog T pol) n (.fn f) k (enc y).1 (enc y).2=some (ex e):=⟨e,hz⟩
   simp only[dif_pos hex,qxH]
   rw[←Classical.choose_spec hex,hz]
  have hle:OLe (xf Try.prog T pol (D1 Try.prog T pol) n) (ovr f k enc ex F):=by
   intro g k' args G x hx
   unfold ovr
   split
   ·rename_i hh
    obtain⟨⟨rfl,rfl⟩,hy⟩:=hh
    have e1:=Classical.choose_spec hy
    refine hF _ _ ?_
    rw[e1];exact hx
   ·exact qaZ q4P _ _ _ _ _ hx
  have h2:∃bd,qu Try.prog pol f=some bd∧q2E Try.prog T pol (D1 Try.prog T pol) (xf Try.prog T pol (D1 Try.prog T pol) n) (iter n) f k (enc y).1 (enc y).2 bd=some z:=by
   have h3:fnx Try.prog T pol (D1 Try.prog T pol) (xf Try.prog T pol (D1 Try.prog T pol) n) (iter n) f k (enc y).1 (enc y).2=some z:=h
   unfold fnx at h3
   rw[hp] at h3
   exact qxM.1 h3
  obtain⟨bd,hb,hx⟩:=h2
  have h4:=qax hle (iter n) (q8m n) hb hx
  rw[hs _ F (qkN hi F) (qfo F) (qnM F) y] at h4
  obtain⟨e,-,h5⟩:=qxM.1 h4
  injection h5 with h5
  exact⟨e,h5.symm⟩
theorem q9S (hp:pol.pr f=none) (hi:∀y z,enc y=enc z→y=z) {step:(σ→Option ε)→σ→Option ε} (hs:q7w f k enc ex step) (y:σ):ev f k (enc y).1 (enc y).2=(q5m f k enc ex y).bind fun e=>some (ex e):=by
 unfold q5m
 split
 ·rename_i h
  rw[qxH]
  exact Classical.choose_spec h
 ·rename_i h
  cases hv:ev f k (enc y).1 (enc y).2 with
  | none=>rfl
  | some z=>
   obtain⟨n,hn⟩:=q2N (show EE Try.prog T pol (D1 Try.prog T pol) (.fn f) k (enc y).1 (enc y).2=some z from hv)
   obtain⟨e,rfl⟩:=qjH hp hi hs n y z hn
   exact absurd ⟨e,hv⟩ h
theorem qhI (hp:pol.pr f=none) (hi:∀y z,enc y=enc z→y=z) (hj:∀d e,ex d=ex e→d=e) {step:(σ→Option ε)→σ→Option ε} (hs:q7w f k enc ex step) (y:σ):q5m f k enc ex y=step (q5m f k enc ex) y:=by
 have h1:=hs evo (q5m f k enc ex) (q9S hp hi hs) (fun _ _ _ _ _=>rfl) (fun _ _ _ _ _ _=>rfl) y
 rw[←qdM hp,q9S hp hi hs y] at h1
 cases h2:q5m f k enc ex y with
 | none=>
  rw[h2] at h1
  cases h3:step (q5m f k enc ex) y with
  | none=>rfl
  | some e=>rw[h3] at h1;cases h1
 | some d=>
  rw[h2] at h1
  cases h3:step (q5m f k enc ex) y with
  | none=>rw[h3] at h1;cases h1
  | some e=>
   rw[h3] at h1
   injection h1 with h1
   rw[hj _ _ h1]
end
end
noncomputable section
open Go.RowKit
section
variable {α:Type} {E:α→List D} {n:Nat}
theorem q6z (h:∀x,(E x).length=n):∀(v:List α) (a:Nat),(v.flatMap E).drop (a*n)=(v.drop a).flatMap E
 | [],a=>by simp
 | x::v,0=>by simp
 | x::v,a+1=>by
  rw[qyL,show(a+1)*n=(E x).length+a*n by rw[h,Nat.add_mul];omega,List.drop_length_add_append]
  exact q6z h v a
theorem q5Y (h:∀x,(E x).length=n):∀(v:List α) (a:Nat),(v.flatMap E).take (a*n)=(v.take a).flatMap E
 | [],a=>by simp
 | x::v,0=>by simp
 | x::v,a+1=>by
  rw[qyL,show(a+1)*n=(E x).length+a*n by rw[h,Nat.add_mul];omega,List.take_length_add_append,List.take_succ_cons,qyL,q5Y h v a]
theorem qmE (v w:List α):v.flatMap E++w.flatMap E=(v++w).flatMap E:=List.flatMap_append.symm
theorem qiW (v w:List α):(v.flatMap E).map C.d++(w.flatMap E).map C.d=((v++w).flatMap E).map C.d:=by rw[←List.map_append,qmE]
theorem q59 (v:List α) (x:α):(v.flatMap E).map C.d++(E x).map C.d=((v++[x]).flatMap E).map C.d:=by simp
theorem qdq {β:Type}:∀(ys p q:List β) (o:Nat),o+ys.length≤p.length→spl (p++q) o ys=spl p o ys++q
 | [],p,q,o,_=>rfl
 | y::ys,p,q,o,h=>by
  rw[qxS] at h
  rw[spl,spl,List.set_append_left _ _ (by omega),qdq ys _ q (o+1) (by rw[qys];omega)]
theorem q9Y {β:Type}:∀(ys p q:List β) (o:Nat),spl (p++q) (p.length+o) ys=p++spl q o ys
 | [],p,q,o=>rfl
 | y::ys,p,q,o=>by
  rw[spl,spl,List.set_append_right _ _ (by omega),show p.length+o-p.length=o by omega,show p.length+o+1=p.length+(o+1) by omega,q9Y ys]
theorem qa1 {β:Type}:∀(ys p pre:List β),p.length=ys.length→spl (pre++p) pre.length ys=pre++ys
 | [],p,pre,h=>by rw[qy0 h];rfl
 | y::ys,[],pre,h=>by cases h
 | y::ys,x::p,pre,h=>by
  have e:(pre++x::p).set pre.length y=(pre++[y])++p:=by rw[List.set_append_right _ _ (qxX _),Nat.sub_self];simp
  rw[spl,e,show pre.length+1=(pre++[y]).length by simp,qa1 ys p _ (by simpa using h)]
  simp
theorem qbD {β:Type}:∀(ys:List β) (o:Nat),spl [] o ys=[]
 | [],o=>rfl
 | y::ys,o=>by rw[spl,List.set_nil,qbD ys]
theorem qcs (h:∀x,(E x).length=n):∀(v:List α) (i:Nat) (x:α),spl (v.flatMap E) (i*n) (E x)=(v.set i x).flatMap E
 | [],i,x=>by rw[List.flatMap_nil,qbD];rfl
 | y::v,0,x=>by
  rw[qyL,Nat.zero_mul,qdq _ _ _ _ (by rw[h,h];omega)]
  have:=qa1 (E x) (E y) [] (by rw[h,h])
  simp only[qy1,qyq] at this
  rw[this];rfl
 | y::v,i+1,x=>by
  rw[qyL,show(i+1)*n=(E y).length+i*n by rw[h,Nat.add_mul];omega,q9Y,qcs h v i x]
  rfl
theorem q6g {β γ:Type} (f:β→γ):∀(ys cs:List β) (o:Nat),spl (cs.map f) o (ys.map f)=(spl cs o ys).map f
 | [],cs,o=>rfl
 | y::ys,cs,o=>by rw[qy4,spl,spl,←List.map_set,q6g f ys]
theorem q8f (h:∀x,(E x).length=n) (v:List α) (i:Nat) (x:α):spl ((v.flatMap E).map C.d) (i*n) ((E x).map C.d)=((v.set i x).flatMap E).map C.d:=by rw[q6g,qcs h]
theorem qbZ {β:Type}:∀(ys zs cs:List β) (o:Nat),spl cs o (ys++zs)=spl (spl cs o ys) (o+ys.length) zs
 | [],zs,cs,o=>rfl
 | y::ys,zs,cs,o=>by rw[qyM,spl,spl,qbZ ys,qxS,show o+1+ys.length=o+(ys.length+1) by omega]
theorem qcO (h:∀x,(E x).length=n):∀(w v:List α) (i:Nat),spl (v.flatMap E) (i*n) (w.flatMap E)=(spl v i w).flatMap E
 | [],v,i=>rfl
 | x::w,v,i=>by rw[qyL,qbZ,qcs h,h,spl,show i*n+n=(i+1)*n by rw[Nat.add_mul];omega,qcO h w]
theorem qpq (m:Nat) (x:α):(List.replicate m (E x)).flatten=(List.replicate m x).flatMap E:=by
 rw[List.flatMap_def,List.map_replicate]
theorem qid {cs:List C} (x:α) (hx:cs=(E x).map C.d) (m:Nat):(List.replicate m cs).flatten=((List.replicate m x).flatMap E).map C.d:=by
 subst hx
 rw[←qpq,List.map_flatten,List.map_replicate]
end
theorem QW {α:Type} {E:α→List D} {n:Nat} (h:∀x,(E x).length=n) (hn:0<n) (hi:∀x y,E x=E y→x=y):∀(v w:List α),v.flatMap E=w.flatMap E→v=w
 | [],[],_=>rfl
 | [],y::w,e=>by
  have:=congrArg List.length e
  rw[qyL,qxO,h] at this
  simp at this;omega
 | x::v,[],e=>by
  have:=congrArg List.length e
  rw[qyL,qxO,h] at this
  simp at this;omega
 | x::v,y::w,e=>by
  rw[qyL,qyL] at e
  obtain⟨h1,h2⟩:=List.append_inj e (by rw[h,h])
  rw[hi x y h1,QW h hn hi v w h2]
theorem q42 (a b:List D):(a.map C.d=b.map C.d)=(a=b):=by
 refine propext ⟨fun h=>?_,fun h=>by rw[h]⟩
 induction a generalizing b with
 | nil=>cases b with|nil=>rfl|cons=>cases h
 | cons x a ih=>
  cases b with
  | nil=>cases h
  | cons y b=>
   rw[qy4,qy4] at h
   injection h with h1 h2
   injection h1 with h1
   rw[h1,ih b h2]
def eI (x:Int):List D:=[.int .i64 x]
def eS (x:ByteArray):List D:=[.str x]
def eL {α:Type} (n:Nat) (E:α→List D) (v:List α):List D:=[.sl n v.length (v.flatMap E)]
theorem qc9 {α β γ:Type} (f:β→γ) (o:Option α) (g:α→Option β):(o.bind g).map f=o.bind fun x=>(g x).map f:=by cases o<;>rfl
theorem qjC (P:Program) (T:Ty) (d:Nat) (t:TypeId) (x y:R):eqR P T (d+1) t x y =
  match T.k t,x,y with
  | .int _,.c (.d (.int k a)),.c (.d (.int k' b))=>if k=k' then some (a==b) else none
  | .bool,.c (.d (.bool a)),.c (.d (.bool b))=>some (a==b)
  | .str,.c (.d (.str a)),.c (.d (.str b))=>some (a.toList==b.toList)
  | .st fs,.agg xs,.agg ys=>if q6I P t=true then qcI T (eqR P T d) xs ys fs else none
  | .arr n e,.agg xs,.agg ys=>if qju P t=true∧T.k e ≠ .other then qcI T (eqR P T d) xs ys (qbG (T.sz e) e n 0) else none
  | _,_,_=>none:=by
 generalize hk:T.k t=kd
 unfold eqR
 rw[hk]
 cases kd<;>first
  | rfl
  | (rcases x with (c|_|_|_)<;>first
    | rfl
    | (rcases y with (c' | _|_|_)<;>first
      | rfl
      | (cases c<;>first
        | rfl
        | (cases c'<;>first
          | rfl
          | (rename_i d1 d2;cases d1<;>first
            | rfl
            | (cases d2<;>rfl))))))
section
variable {α β:Type} {c:Prop} [Decidable c] (a b:List α)
theorem qiE (f:α→Bool):(if c then a else b).any f=if c then a.any f else b.any f:=by split<;>rfl
theorem qjQ (f:α→Bool):(if c then a else b).all f=if c then a.all f else b.all f:=by split<;>rfl
theorem qkk (f:α→β):(if c then a else b).map f=if c then a.map f else b.map f:=by split<;>rfl
theorem q8M:(if c then a else b).isEmpty=if c then a.isEmpty else b.isEmpty:=by split<;>rfl
theorem q6V [BEq α] (x:α):(if c then a else b).contains x=if c then a.contains x else b.contains x:=by split<;>rfl
end
def qqm (op:UnOp) (r:R) (s:S):RS:=
 match op,r with
 | .not,.c (.d (.bool b))=>some (.c (.d (.bool (!b))),s)
 | .neg,.c (.d (.int k n))=>some (.c (.d (.int k (k.wrap (0-n)))),s)
 | _,_=>none
theorem qlM (s:S) (op:UnOp) (x:Operand):xUn s op x=qqm op (s.ev x) s:=by
 unfold xUn qqm
 generalize s.ev x=r
 cases op<;>first
  | rfl
  | (cases r with
     | c c=>cases c with
      | d d=>cases d<;>rfl
      | _=>rfl
     | _=>rfl)
def lkq (ok:Bool) (z:R):Option (Nat×R×Nat)→Option R
 | some q=>some (tt2 q.2.1 ok true)
 | none=>some (tt2 z ok false)
theorem qaf (T:Ty) (s:S) (t:TypeId) (x y:Operand) (ok:Bool):q09 T s t x y ok =
  match T.k t,q2t s x,(s.ev y).key with
  | .mp k e,some es,some kv=>if plK (T.k k) kv=true∧es.all (fun q=>plK (T.k k) q.1)=true then(zR T e).bind fun z=>lkq ok z (fnd kv es 0) else none
  | _,_,_=>none:=by
 unfold q09
 generalize T.k t=kd
 generalize q2t s x=m
 generalize (s.ev y).key=v
 cases kd<;>first
  | rfl
  | (cases m<;>first
    | rfl
    | (cases v<;>first
      | rfl
      | (simp only
         split
         ·congr 1
          funext z
          cases fnd _ _ _<;>rfl
         ·rfl)))
theorem qc3 (xs ys:List C):(xs++ys).flatMap C.rows=xs.flatMap C.rows++ys.flatMap C.rows:=List.flatMap_append
theorem qeL (zs0:List Nat):∀(zs:List Nat) (ds:List D) (ys:List C),zs.length=ds.length→dzc zs0 zs (ds.map C.d++ys)=ds.map C.d++dzc zs0 [] ys
 | [],[],ys,_=>rfl
 | [],d::ds,ys,h=>by cases h
 | z::zs,[],ys,h=>by cases h
 | z::zs,d::ds,ys,h=>by
  rw[qy4,qyM,dzc,qeL zs0 zs ds ys (by simpa using h)]
  rfl
theorem qhB {α:Type} {E:α→List D} {n:Nat} (h:∀x,(E x).length=n+1) (zs0:List Nat) (h0:zs0.length=n+1):∀(v:List α) (ys:List C),dzc zs0 [] ((v.flatMap E).map C.d++ys)=(v.flatMap E).map C.d++dzc zs0 [] ys
 | [],ys=>rfl
 | x::v,ys=>by
  have hx:=h x
  rw[qyL,List.map_append,qym,qym,←qhB h zs0 h0 v ys]
  cases hE:E x with
  | nil=>rw[hE] at hx;cases hx
  | cons d ds=>
   rw[hE] at hx
   rw[qy4,qyM,dzc,qeL zs0 zs0.tail ds _ (by rw[List.length_tail];simp at hx;omega)]
   rfl
def qqr {α:Type} (a b:Option α):Prop:=∀r,a=some r→b=some r
theorem qqr.bind {α β:Type} {a b:Option α} {f g:α→Option β} (h:qqr a b) (hf:∀x,qqr (f x) (g x)):qqr (a.bind f) (b.bind g):=fun r hr=>by
 obtain⟨x,h1,h2⟩:=qxM.1 hr
 rw[h x h1]
 exact hf x r h2
def spr (cs:List C) (o:Nat) (ys:List C):List C:=spl cs o ys
theorem qbv (t:TypeId) (cs ys:List C) (o:Nat):(B.blk t cs).set o ys = .blk t (spl cs o ys):=rfl
theorem qdi (e:TypeId) (sz:Nat) (cs ys:List C) (o:Nat):(B.row e sz cs).set o ys = .row e sz (spr cs o ys):=rfl
theorem qfb (c:C) (cs ys:List C) (o:Nat):spr (c::cs) o ys=spl (c::cs) o ys:=rfl
def xsl (T:Ty) (s:S) (t:TypeId) (x:R) (lo hi:Option Operand):RS:=
 match x,T.k t with
 | .c (.d (.str b)),.str=>
  match s.bd lo 0,s.bd hi b.size with
  | some l,some h=>if 0≤l∧l≤h∧h≤b.size then some (.c (.d (.str (b.extract l.toNat h.toNat))),s) else none
  | _,_=>none
 | .c (.d (.sl sz n cs)),.sl e=>
  if T.k e ≠ .other∧T.sz e=sz then
   match s.bd lo 0,s.bd hi n with
   | some l,some h=>if 0≤l∧l≤h∧h≤n then some (.c (.d (.sl sz (h.toNat-l.toNat) ((cs.drop (l.toNat*sz)).take ((h.toNat-l.toNat)*sz)))),s) else none
   | _,_=>none
  else none
 | .c (.own id sz off n),.sl e=>
  if T.k e ≠ .other∧T.sz e=sz then
   match s.bd lo 0,s.bd hi n with
   | some l,some h=>if 0≤l∧l≤h∧h≤n then(if l=0∨l<n then some (.c (.own id sz (off+l.toNat) (h.toNat-l.toNat)),s) else some (.c (.d (.sl sz 0 [])),s)) else none
   | _,_=>none
  else none
 | .c .nils,.sl e=>
  if T.k e ≠ .other then
   match s.bd lo 0,s.bd hi 0 with
   | some l,some h=>if l=0∧h=0 then some (.c .nils,s) else none
   | _,_=>none
  else none
 | _,_=>none
theorem qdy (T:Ty) (s:S) (t:TypeId) (x:Operand) (lo hi:Option Operand):q7x T s t x lo hi none=xsl T s t (s.ev x) lo hi:=by
 unfold q7x xsl
 generalize s.ev x=r
 generalize T.k t=kd
 cases r with
 | c c=>
  cases c with
  | d d=>cases d<;>cases kd<;>rfl
  | _=>cases kd<;>rfl
 | _=>rfl
theorem qlk (b:Bool):((if(!b)=true then true else false)||b)=true:=by cases b<;>rfl
def xcl (T:Ty) (s:S) (hi mx:Option Operand):Kd→R→RS
 | .sl e,.c (.d (.sl sz n cs))=>if T.k e ≠ .other∧T.sz e=sz then(match s.bd hi 0,s.bd mx 0 with|some h,some m=>if h=(n:Int)∧m=(n:Int) then some (.c (.clp sz n cs),s) else none|_,_=>none) else none
 | .sl e,.c .nils=>if T.k e ≠ .other then(match s.bd hi 0,s.bd mx 0 with|some h,some m=>if h=0∧m=0 then some (.c (.clp (T.sz e) 0 []),s) else none|_,_=>none) else none
 | _,_=>none
theorem qlb (T:Ty) (s:S) (hi mx:Option Operand) (e:TypeId) (sz n:Nat) (cs:List D):xcl T s hi mx (.sl e) (.c (.d (.sl sz n cs)))=if T.k e ≠ .other∧T.sz e=sz then(match s.bd hi 0,s.bd mx 0 with|some h,some m=>if h=(n:Int)∧m=(n:Int) then some (.c (.clp sz n cs),s) else none|_,_=>none) else none:=rfl
theorem qgu (T:Ty) (s:S) (t:TypeId) (x y:Operand) (mx:Option Operand):qcF T s t x none (some y) mx=xcl T s (some y) mx (T.k t) (s.ev x):=by
 unfold qcF
 generalize s.ev x=r
 generalize T.k t=kd
 cases kd with
 | sl e=>
  cases r with
  | c c=>
   cases c with
   | d d=>
    cases d with
    | sl sz n cs=>
     simp only[xcl,Option.isSome_some,true_and]
     cases s.bd (some y) 0 with
     | none=>simp
     | some h=>cases s.bd mx 0 with
      | none=>simp
      | some m=>simp only[qyw];split<;>rename_i hc<;>simp_all
    | _=>rfl
   | nils=>
    simp only[xcl,Option.isSome_some,true_and]
    cases s.bd (some y) 0 with
    | none=>simp
    | some h=>cases s.bd mx 0 with
     | none=>simp
     | some m=>simp only[qyw];split<;>rename_i hc<;>simp_all
   | _=>rfl
  | _=>rfl
 | _=>rfl
section
variable {T:Ty} {s:S} {t:TypeId} {lo hi:Option Operand}
theorem qkC {id sz off n:Nat}:xsl T s t (.c (.own id sz off n)) none hi =
  match T.k t with
  | .sl e=>if T.k e ≠ .other∧T.sz e=sz then
   match s.bd hi n with
   | some h=>if 0≤h∧h≤n then some (.c (.own id sz off (min h.toNat n)),s) else none
   | _=>none
   else none
  | _=>none:=by
 unfold xsl
 cases T.k t<;>try rfl
 dsimp only[S.bd]
 split
 ·split
  ·rename_i l h h1 h2
   injection h1 with h1
   subst h1
   rw[h2]
   dsimp only
   by_cases hc:0≤h∧h≤n
   ·rw[if_pos ⟨Int.le_refl _,hc⟩,if_pos (.inl rfl),if_pos hc,show min h.toNat n=h.toNat by omega]
    rfl
   ·rw[if_neg (fun q=>hc q.2),if_neg hc]
  ·rename_i h1
   split
   ·rename_i h h2
    exact absurd h2 (h1 0 h rfl)
   ·rfl
 ·rfl
theorem qkm {id sz off n:Nat} {lo:Operand}:xsl T s t (.c (.own id sz off n)) (some lo) hi =
  match T.k t with
  | .sl e=>if T.k e ≠ .other∧T.sz e=sz then
   match s.bd (some lo) 0,s.bd hi n with
   | some l,some h=>if 0≤l∧l≤h∧h≤n then(if l=0∨l<n then some (.c (.own id sz (off+l.toNat) (h.toNat-l.toNat)),s) else some (.c (.d (.sl sz 0 [])),s)) else none
   | _,_=>none
   else none
  | _=>none:=by unfold xsl;cases T.k t<;>rfl
end
def qpY {α:Type} (s:S) (E:α→List D) (n:Nat) (v:List α) (l h:Option Int):RS:=
 match l,h with
 | some l,some h=>if 0≤l∧l≤h∧h≤v.length then some (.c (.d (.sl n ((v.drop l.toNat).take (h.toNat-l.toNat)).length (((v.drop l.toNat).take (h.toNat-l.toNat)).flatMap E))),s) else none
 | _,_=>none
theorem qmx {α:Type} {E:α→List D} {n:Nat} (h:∀x,(E x).length=n) {T:Ty} {s:S} {t e:TypeId} (v:List α) (lo hi:Option Operand) (hk:T.k t = .sl e) (hz:T.sz e=n) (ho:T.k e ≠ .other) :
  xsl T s t (.c (.d (.sl n v.length (v.flatMap E)))) lo hi=qpY s E n v (s.bd lo 0) (s.bd hi v.length):=by
 unfold xsl
 simp only[hk]
 rw[if_pos ⟨ho,hz⟩]
 unfold qpY
 cases s.bd lo 0 with
 | none=>rfl
 | some l=>
  cases s.bd hi v.length with
  | none=>rfl
  | some h'=>
   simp only
   split
   ·rename_i hc
    rw[q6z h,q5Y h,qya,qyt,Nat.min_eq_left (by omega)]
   ·rfl
abbrev dI (n:Int):C:=C.d (D.int .i64 n)
abbrev dS (s:ByteArray):C:=C.d (D.str s)
abbrev dL {α:Type} (n:Nat) (E:α→List D) (v:List α):C:=C.d (D.sl n v.length (v.flatMap E))
abbrev dO (i sz n:Nat):C:=C.own i sz 0 n
abbrev dP (i:Nat):C:=C.ptr i 0
abbrev rI (n:Int):R:=R.c (C.d (D.int .i64 n))
abbrev rS (s:ByteArray):R:=R.c (C.d (D.str s))
abbrev rB (b:Bool):R:=R.c (C.d (D.bool b))
abbrev rL {α:Type} (n:Nat) (E:α→List D) (v:List α):R:=R.c (C.d (D.sl n v.length (v.flatMap E)))
abbrev rO (i sz n:Nat):R:=R.c (C.own i sz 0 n)
abbrev rP (i:Nat):R:=R.c (C.ptr i 0)
abbrev bR {α:Type} (e sz:Nat) (E:α→List D) (v:List α):B:=B.row e sz ((v.flatMap E).map C.d)
theorem XLs {E:Orc} {f k key:Nat} {c:Code} {σ ε:Type} {st:σ→S} {ex:ε→XS} {step:σ→Option (σ⊕ε)} (hc:lbO f key=c) (hl:okL f c) (hne:∀e,∃p,ex e=some p∧p.1 ≠ .normal)
  (h:∀x,lz2 f k key (XE2 E f k c (st x))=(step x).bind (Sum.elim (fun y=>some (.normal,st y)) ex)) (x:σ):XL2 E f k key (st x)=(qz step x).bind ex:=by
 obtain⟨g,hg⟩:∃g:ε→Exit×S,∀e,ex e=some (g e)∧(g e).1 ≠ .normal:=⟨fun e=>Classical.choose (hne e),fun e=>Classical.choose_spec (hne e)⟩
 obtain rfl:ex=fun e=>some (g e):=funext fun e=>(hg e).1
 exact q7U (ex:=g) hc hl (fun e=>(hg e).2) h x
theorem q5s {E:Orc} {f k key:Nat} {c:Code} {A1 ε:Type} {st:A1→S} {ex:ε→XS} {step:A1→Option ((A1)⊕ε)} (hc:lbO f key=c) (hl:okL f c) (hne:∀e,∃p,ex e=some p∧p.1 ≠ .normal)
  (h:∀a1,lz2 f k key (XE2 E f k c (st a1))=(step a1).bind (Sum.elim (fun y=>some (.normal,st y)) ex)) (a1:A1):XL2 E f k key (st a1)=(qz step a1).bind ex:=
 XLs (st:=fun y=>st y) hc hl hne (fun a1=>h a1) a1
theorem q9T {E:Orc} {f k key:Nat} {c:Code} {A1 A2 ε:Type} {st:A1→A2→S} {ex:ε→XS} {step:(A1×A2)→Option ((A1×A2)⊕ε)} (hc:lbO f key=c) (hl:okL f c) (hne:∀e,∃p,ex e=some p∧p.1 ≠ .normal)
  (h:∀a1 a2,lz2 f k key (XE2 E f k c (st a1 a2))=(step (a1,a2)).bind (Sum.elim (fun y=>some (.normal,st y.1 y.2)) ex)) (a1:A1) (a2:A2):XL2 E f k key (st a1 a2)=(qz step (a1,a2)).bind ex:=
 XLs (st:=fun y=>st y.1 y.2) hc hl hne (fun⟨a1,a2⟩=>h a1 a2) (a1,a2)
theorem qrz {E:Orc} {f k key:Nat} {c:Code} {A1 A2 A3 ε:Type} {st:A1→A2→A3→S} {ex:ε→XS} {step:(A1×A2×A3)→Option ((A1×A2×A3)⊕ε)} (hc:lbO f key=c) (hl:okL f c) (hne:∀e,∃p,ex e=some p∧p.1 ≠ .normal)
  (h:∀a1 a2 a3,lz2 f k key (XE2 E f k c (st a1 a2 a3))=(step (a1,a2,a3)).bind (Sum.elim (fun y=>some (.normal,st y.1 y.2.1 y.2.2)) ex)) (a1:A1) (a2:A2) (a3:A3):XL2 E f k key (st a1 a2 a3)=(qz step (a1,a2,a3)).bind ex:=
 XLs (st:=fun y=>st y.1 y.2.1 y.2.2) hc hl hne (fun⟨a1,a2,a3⟩=>h a1 a2 a3) (a1,a2,a3)
abbrev aY4:List R:=[R.any,R.any,R.any,R.any]
abbrev aY8:List R:=R.any::R.any::R.any::R.any::aY4
abbrev q7M:List R:=R.any::R.any::R.any::R.any::aY8
def dzU (Q:TypeId→List Nat):B→B
 | .row e sz cs => .row e sz (dzc (Q e) [] cs)
 | b=>b
theorem qnt (z:Nat) {c:C} (h:c.isNils=false):dz z c=c:=by
 cases c<;>first|rfl|cases h
theorem q7p (zs0:List Nat):∀{cs:List C} (zs:List Nat),cs.any C.isNils=false→dzc zs0 zs cs=cs
 | [],zs,_=>by cases zs<;>rfl
 | c::cs,zs,h=>by
  rw[List.any_cons,Bool.or_eq_false_iff] at h
  cases zs with
  | nil=>rw[dzc,qnt _ h.1,q7p zs0 _ h.2]
  | cons z zs=>rw[dzc,qnt _ h.1,q7p zs0 _ h.2]
theorem qt0 (Q:TypeId→List Nat) (b:B):dzB Q b=dzU Q b:=by
 cases b with
 | row e sz cs=>
  unfold dzB dzU
  simp only
  split
  ·rfl
  ·rename_i h
   rw[q7p _ _ (by simpa using h)]
 | _=>rfl
theorem qlH (Q:TypeId→List Nat) (b:B) (h:b.nilr=false):dzU Q b=b:=by
 cases b with
 | row e sz cs=>unfold dzU;simp only;rw[q7p _ _ h]
 | _=>rfl
theorem qmO (tm:List (Nat×R)) (hp:List (Nat×B)) (nx n:Nat) (Q:TypeId→List Nat):S.dzr (S.mk tm hp nx n) Q=S.mk tm (hp.map fun x=>(x.1,dzU Q x.2)) nx n:=by
 unfold S.dzr
 split
 ·simp only[qt0]
 ·rename_i h
  congr 1
  have h2:∀x∈hp,x.2.nilr=false:=fun x hx=>by
   cases hb:x.2.nilr with
   | false=>rfl
   | true=>exact absurd (qyB.2 ⟨x,hx,hb⟩) h
  refine(List.map_id' hp).symm.trans (List.map_congr_left fun x hx=>?_)
  rw[qlH Q x.2 (h2 x hx)]
theorem qku (Q:TypeId→List Nat) (e sz:Nat) (cs:List C):dzU Q (.row e sz cs) = .row e sz (dzc (Q e) [] cs):=rfl
theorem qja (Q:TypeId→List Nat) (t:Nat) (cs:List C):dzU Q (.blk t cs) = .blk t cs:=rfl
theorem qnR (Q:TypeId→List Nat) (o:AO):dzU Q (.ob o) = .ob o:=rfl
theorem qfO (Q:TypeId→List Nat):dzU Q .dead = .dead:=rfl
theorem qjc {α:Type} (x:α):Option.toArray (some x)=[x].toArray:=rfl
theorem qkR {α:Type}:Option.toArray (none:Option α)=([]:List α).toArray:=rfl
theorem qpD {α:Type} (l m:List α):l.toArray++m.toArray=(l++m).toArray:=by simp
theorem qk1 {α:Type} (l:List α):Array.toList l.toArray=l:=rfl
end
noncomputable section
open Go.RowKit
set_option maxRecDepth 20000
def mpE {κ ν:Type} (kE:κ→Value) (vE:ν→R):List (κ×ν)→Nat→List (Value×R×Nat)
 | [],_=>[]
 | p::M,i=>(kE p.1,vE p.2,i)::mpE kE vE M (i+1)
def mpB {κ ν:Type} (kE:κ→Value) (vE:ν→R) (M:List (κ×ν)):AO := .mp (mpE kE vE M 0) M.length
def JJ (k:IntKind) (n:Int):Value := .int k n
section
variable {κ ν:Type} [DecidableEq κ]
def qb8 (M:List (κ×ν)) (k:κ):Nat:=match M with
 | []=>0
 | p::M=>if k=p.1 then 0 else qb8 M k+1
def Zi (z:ν) (M:List (κ×ν)) (k:κ):ν:=match M with
 | []=>z
 | p::M=>if k=p.1 then p.2 else Zi z M k
def qb7 (M:List (κ×ν)) (k:κ):Bool:=match M with
 | []=>false
 | p::M=>if k=p.1 then true else qb7 M k
def q3l (M:List (κ×ν)) (k:κ) (v:ν):List (κ×ν):=match M with
 | []=>[(k,v)]
 | p::M=>if k=p.1 then(k,v)::M else p::q3l M k v
end
section
variable {κ ν:Type} {kE:κ→Value} {vE:ν→R}
theorem qbW:∀(M:List (κ×ν)) (i:Nat),(mpE kE vE M i).length=M.length
 | [],_=>rfl
 | p::M,i=>by rw[mpE,qxS,qbW M,qxS]
theorem q84 {f:Value×R×Nat→Bool} (hf:∀k r i,f (kE k,r,i)=true):∀(M:List (κ×ν)) (i:Nat),(mpE kE vE M i).all f=true
 | [],_=>rfl
 | p::M,i=>by rw[mpE,List.all_cons,hf,q84 hf M];rfl
theorem q2j {f:R→R} (hf:∀v,f (vE v)=vE v) (M:List (κ×ν)):AO.mapR f (mpB kE vE M)=mpB kE vE M:=by
 have:∀(M:List (κ×ν)) (i:Nat),(mpE kE vE M i).map (fun e=>(e.1,f e.2.1,e.2.2))=mpE kE vE M i:=by
  intro M
  induction M with
  | nil=>intro i;rfl
  | cons p M ih=>intro i;rw[mpE,qy4,ih,hf]
 unfold mpB
 show AO.mp _ _=_
 rw[this]
theorem qdK {f:R→Bool} (hf:∀v,f (vE v)=true) (M:List (κ×ν)):(mpB kE vE M).Rs.all f=true:=by
 have:∀(M:List (κ×ν)) (i:Nat),((mpE kE vE M i).map (·.2.1)).all f=true:=by
  intro M
  induction M with
  | nil=>intro i;rfl
  | cons p M ih=>intro i;rw[mpE,qy4,List.all_cons,ih,hf];rfl
 exact this M 0
theorem qh1 {f:R→List Nat} (hf:∀v,f (vE v)=[]) (M:List (κ×ν)):(mpB kE vE M).Rs.flatMap f=[]:=by
 have:∀(M:List (κ×ν)) (i:Nat),((mpE kE vE M i).map (·.2.1)).flatMap f=[]:=by
  intro M
  induction M with
  | nil=>intro i;rfl
  | cons p M ih=>intro i;rw[mpE,qy4,qyL,ih,hf];rfl
 exact this M 0
variable [DecidableEq κ] (hk:∀a b,kq (kE a) (kE b)=decide (a=b))
include hk
theorem qda (k:κ):∀(M:List (κ×ν)) (i:Nat) (z:ν),fnd (kE k) (mpE kE vE M i) i=if qb7 M k=true then some (i+qb8 M k,vE (Zi z M k),i+qb8 M k) else none
 | [],i,z=>rfl
 | p::M,i,z=>by
  rw[mpE,fnd]
  simp only[hk,qb7,qb8,Zi,qyG]
  by_cases h:k=p.1
  ·simp[h]
  ·simp only[if_neg h]
   rw[qda k M (i+1) z]
   split
   ·rw[show i+1+qb8 M k=i+(qb8 M k+1) by omega]
   ·rfl
theorem qqW (z:ν) (ok:Bool) (k:κ) (M:List (κ×ν)):lkq ok (vE z) (fnd (kE k) (mpE kE vE M 0) 0)=some (tt2 (vE (Zi z M k)) ok (qb7 M k)):=by
 rw[qda hk k M 0 z]
 cases hm:qb7 M k
 ·have:Zi z M k=z:=by
   clear hk
   induction M with
   | nil=>rfl
   | cons p M ih=>
    rw[qb7] at hm
    rw[Zi]
    split
    ·rename_i h;rw[if_pos h] at hm;cases hm
    ·rename_i h;rw[if_neg h] at hm;exact ih hm
  rw[this];rfl
 ·rfl
end
section
variable {κ ν:Type} {kE:κ→Value} {vE:ν→R} [DecidableEq κ]
theorem qa0 (k:κ) (v:ν):∀(M:List (κ×ν)) (i:Nat),qb7 M k=true→(mpE kE vE M i).set (qb8 M k) (kE k,vE v,i+qb8 M k)=mpE kE vE (q3l M k v) i∧(q3l M k v).length=M.length
 | [],_,h=>by cases h
 | p::M,i,h=>by
  rw[qb7] at h
  by_cases hp:k=p.1
  ·simp only[mpE,qb8,q3l,if_pos hp]
   exact⟨rfl,rfl⟩
  ·rw[if_neg hp] at h
   obtain⟨a,b⟩:=qa0 k v M (i+1) h
   simp only[mpE,qb8,q3l,if_neg hp,qxS,List.set_cons_succ]
   rw[show i+(qb8 M k+1)=i+1+qb8 M k by omega,a,b]
   exact⟨rfl,rfl⟩
theorem q9w (k:κ) (v:ν):∀(M:List (κ×ν)) (i:Nat),qb7 M k=false→mpE kE vE M i++[(kE k,vE v,i+M.length)]=mpE kE vE (q3l M k v) i∧(q3l M k v).length=M.length+1
 | [],i,_=>⟨rfl,rfl⟩
 | p::M,i,h=>by
  rw[qb7] at h
  by_cases hp:k=p.1
  ·rw[if_pos hp] at h;cases h
  ·rw[if_neg hp] at h
   obtain⟨a,b⟩:=q9w k v M (i+1) h
   simp only[mpE,q3l,if_neg hp,qxS,qyM]
   rw[show i+(M.length+1)=i+1+M.length by omega,a,b]
   exact⟨rfl,rfl⟩
end
def mpq:B→Option (List (Value×R×Nat))
 | .ob (.mp es _)=>some es
 | _=>none
def mpo (s:S):R→Option (List (Value×R×Nat))
 | .c .nilm=>some []
 | .c (.hd .map id)=>mpq (s.blk id)
 | _=>none
theorem qgb (s:S) (x:Operand):q2t s x=mpo s (s.ev x):=by
 unfold q2t mpo mpq
 generalize s.ev x=r
 cases r with
 | c c=>
  cases c with
  | hd k id=>cases k<;>rfl
  | _=>rfl
 | _=>rfl
theorem qrA {κ ν:Type} (kE:κ→Value) (vE:ν→R) (M:List (κ×ν)):mpq (.ob (mpB kE vE M))=some (mpE kE vE M 0):=rfl
def mup (kt:Kd) (kv:Value) (r:R):B→Option B
 | .ob (.mp es ck)=>if plK kt kv=true∧es.all (fun q=>plK kt q.1)=true then
   (match fnd kv es 0 with
    | some q=>some (.ob (.mp (es.set q.1 (kv,r,q.2.2)) ck))
    | none=>some (.ob (.mp (es++[(kv,r,ck)]) (ck+1)))) else none
 | _=>none
def xmu (T:Ty) (s:S) (t:TypeId) (m:R) (kv:Option Value) (r:R):Option (R×S):=
 match T.k t,m,kv with
 | .mp kt _,.c (.hd .map id),some kv=>(mup (T.k kt) kv r (s.blk id)).bind fun b=>some (.any,s.up [(id,b)])
 | _,_,_=>none
theorem qmN (T:Ty) (s:S) (t:TypeId) (m:R) (kv:Option Value) (r:R):xmu T s t m kv r =
 match T.k t,m,kv with
 | .mp kt _,.c (.hd .map id),some kv=>(mup (T.k kt) kv r (s.blk id)).bind fun b=>some (.any,s.up [(id,b)])
 | _,_,_=>none:=rfl
theorem qah (T:Ty) (s:S) (t:TypeId) (m k x:Operand):q0V T s t m k x=xmu T s t (s.ev m) (s.ev k).key (s.ev x):=by
 unfold q0V xmu mup
 generalize T.k t=kd
 generalize s.ev m=r
 generalize (s.ev k).key=kv
 cases kd with
 | mp kt e=>
  cases r with
  | c c=>
   cases c with
   | hd h id=>
    cases h with
    | map=>
     cases kv with
     | none=>rfl
     | some kv=>
      simp only
      generalize s.blk id=b
      cases b with
      | ob o=>
       cases o with
       | mp es ck=>
        simp only
        split
        ·cases fnd kv es 0<;>rfl
        ·rfl
       | _=>rfl
      | _=>rfl
    | _=>rfl
   | _=>rfl
  | _=>rfl
 | _=>rfl
section
variable {κ ν:Type} {kE:κ→Value} {vE:ν→R} [DecidableEq κ] (hk:∀a b,kq (kE a) (kE b)=decide (a=b)) {kt:Kd} (hp:∀a,plK kt (kE a)=true)
include hk hp
theorem qtd (k:κ) (v:ν) (M:List (κ×ν)):mup kt (kE k) (vE v) (.ob (mpB kE vE M))=some (.ob (mpB kE vE (q3l M k v))):=by
 unfold mpB mup
 simp only
 rw[if_pos ⟨hp k,q84 (fun k r i=>hp k) M 0⟩,qda hk k M 0 v]
 cases hm:qb7 M k
 ·obtain⟨a,b⟩:=q9w (kE:=kE) (vE:=vE) k v M 0 hm
  simp only[Bool.false_eq_true,if_false]
  rw[qy5] at a
  rw[a,b]
 ·obtain⟨a,b⟩:=qa0 (kE:=kE) (vE:=vE) k v M 0 hm
  simp only[if_true]
  rw[qy5] at a ⊢
  rw[a,b]
end
theorem qjn {κ ν:Type} {kE:κ→Value} {vE:ν→R} {s:S} {sel:List Nat} (h:∀v,qb9 s sel (vE v)=vE v) (M:List (κ×ν)):cvA s sel (mpB kE vE M)=some (mpB kE vE M):=by
 have:∀(M:List (κ×ν)) (i:Nat),(mpE kE vE M i).map (fun e=>(e.1,qb9 s sel e.2.1,e.2.2))=mpE kE vE M i:=by
  intro M
  induction M with
  | nil=>intro i;rfl
  | cons p M ih=>intro i;rw[mpE,qy4,ih,h]
 show some (AO.mp ((mpE kE vE M 0).map fun e=>(e.1,qb9 s sel e.2.1,e.2.2)) M.length)=_
 rw[this];rfl
theorem qhJ (k:IntKind) (a b:Int):kq (JJ k a) (JJ k b)=decide (a=b):=rfl
theorem qcr {κ ν:Type} {kE:κ→Value} {vE:ν→R} (hk:∀a b,kE a=kE b→a=b) (hv:∀a b,vE a=vE b→a=b):∀(M M':List (κ×ν)) (i:Nat),mpE kE vE M i=mpE kE vE M' i→M=M'
 | [],[],_,_=>rfl
 | [],_::_,_,h=>by cases h
 | _::_,[],_,h=>by cases h
 | (a,v)::M,(b,w)::M',i,h=>by
  unfold mpE at h
  simp only[List.cons.injEq,Prod.mk.injEq] at h
  obtain⟨⟨h1,h2,_⟩,h3⟩:=h
  rw[hk _ _ h1,hv _ _ h2,qcr hk hv M M' _ h3]
theorem qjI {κ ν:Type} {kE:κ→Value} {vE:ν→R} (hk:∀a b,kE a=kE b→a=b) (hv:∀a b,vE a=vE b→a=b) (M M':List (κ×ν)):(B.ob (mpB kE vE M)=B.ob (mpB kE vE M'))=(M=M'):=
 propext ⟨fun h=>by
  injection h with h
  unfold mpB at h
  injection h with h
  exact qcr hk hv M M' 0 h,fun h=>by rw[h]⟩
section
variable {κ ν:Type}
end
end
noncomputable section
open Go.RowKit Go.Maps Go.Sort Go.Shelf
section
variable {P:Program} {ρ:Ren}
end
end
noncomputable section
open Go.RowKit
theorem q6h:∀l:List Int,q4k ((l.flatMap eI).map C.d)=some l
 | []=>rfl
 | x::l=>by
  rw[qyL,List.map_append]
  show(q4k ((l.flatMap eI).map C.d)).map (x :: ·)=_
  rw[q6h l];rfl
theorem q2J:∀l:List Int,(l.map fun z=>C.d (.int .i64 z))=(l.flatMap eI).map C.d
 | []=>rfl
 | x::l=>by
  rw[qyL,List.map_append,qy4,q2J l];rfl
theorem qmF (e:TypeId) (n:Nat) (l:List Int):qmI e 0 [.c (.own 0 1 0 n)] [(0,.row e 1 ((l.flatMap eI).map C.d))]=if n=l.length then some (.c (.own 0 1 0 (cpI l).length),[(0,.row e 1 (((cpI l).flatMap eI).map C.d))]) else none:=by
 show(if e=e then cpX 0 n e _ else none)=_
 rw[if_pos rfl]
 unfold cpX
 rw[q6h,qxH,q2J]
theorem q5C {α β:Type} {E:α→List β} {z:Nat} (hE:∀x,(E x).length=z):∀(l:List α) (i:Nat),i<l.length→(l.flatMap E).take (i*z)++(l.flatMap E).drop ((i+1)*z)=(l.eraseIdx i).flatMap E
 | [],_,h=>by simp at h
 | x::l,0,_=>by
  rw[qyL,Nat.zero_mul,List.take_zero,qy1,qy5,Nat.one_mul,←hE x,List.drop_left];rfl
 | x::l,i+1,h=>by
  rw[qyL,List.eraseIdx_cons_succ,qyL,←q5C hE l i (by simpa using h)]
  have e1:(i+1)*z=(E x).length+i*z:=by rw[hE,Nat.add_mul];omega
  have e2:(i+1+1)*z=(E x).length+(i+1)*z:=by rw[hE,Nat.add_mul (i+1)];omega
  rw[e2,List.drop_append,e1,List.take_append]
  simp[Nat.add_sub_cancel_left,qyN,List.drop_of_length_le]
theorem qiL {α:Type} {E:α→List D} {e z:Nat} (hE:∀x,(E x).length=z) {n:Nat} (l:List α) (i j:Int) (hn:n=l.length):qb5 e z 0 [.c (.own 0 z 0 n),.c (.d (.int .i64 i)),.c (.d (.int .i64 j))] [(0,.row e z ((l.flatMap E).map C.d))] =
  if 0≤i∧j=i+1∧i<l.length then some (.c (.own 0 z 0 (l.eraseIdx i.toNat).length),[(0,.row e z (((l.eraseIdx i.toNat).flatMap E).map C.d))]) else none:=by
 subst hn
 show qpS e z z z e l.length i j _=_
 unfold qpS
 have h1:((l.flatMap E).map C.d).length=l.length*z:=by
  rw[qyp]
  induction l with
  | nil=>simp
  | cons x l ih=>rw[qyL,qxO,ih,hE,qxS,Nat.add_mul];omega
 have h2:((l.flatMap E).map C.d).all C.known=true:=by rw[List.all_map];exact qxY.2 fun x _=>rfl
 have h3:((l.flatMap E).map C.d).all (C.far 0)=true:=by rw[List.all_map];exact qxY.2 fun x _=>rfl
 by_cases hc:0≤i∧j=i+1∧i<(l.length:Int)
 ·rw[if_pos ⟨rfl,rfl,rfl,h1,h2,h3,hc⟩,if_pos hc]
  have hi:i.toNat<l.length:=by omega
  rw[←List.map_take,←List.map_drop,←List.map_append,q5C hE l _ hi,List.length_eraseIdx,if_pos hi]
 ·rw[if_neg (fun h=>hc h.2.2.2.2.2.2),if_neg hc]
end
noncomputable section
open Go.RowKit
def C.pl:C→Bool
 | .d _=>true
 | .ow _ _ _ _=>true
 | _=>false
section
variable {α:Type} {E:α→List C} {n:Nat}
theorem qg6 (h:∀x,(E x).all C.pl=true) (v:List α) {c:C} (hc:c∈v.flatMap E):c.pl=true:=by
 obtain⟨x,-,hx⟩:=List.mem_flatMap.1 hc
 exact qxY.1 (h x) c hx
theorem qdE (h:∀x,(E x).all C.pl=true) {f:C→C} (hf:∀c,c.pl=true→f c=c) (v:List α):(v.flatMap E).map f=v.flatMap E:=
 (List.map_congr_left fun c hc=>hf c (qg6 h v hc)).trans (List.map_id _)
theorem qhO (h:∀x,(E x).all C.pl=true) {p:C→Bool} (hf:∀c,c.pl=true→p c=true) (v:List α):(v.flatMap E).all p=true:=
 qxY.2 fun c hc=>hf c (qg6 h v hc)
theorem qnX (h:∀x,(E x).all C.pl=true) {p:C→Bool} (hf:∀c,c.pl=true→p c=false) (v:List α):(v.flatMap E).any p=false:=
 List.any_eq_false.2 fun c hc=>by rw[hf c (qg6 h v hc)];decide
theorem qpv (h:∀x,(E x).all C.pl=true) {f:C→List Nat} (hf:∀c,c.pl=true→f c=[]) (v:List α):(v.flatMap E).flatMap f=[]:=
 List.flatMap_eq_nil_iff.2 fun c hc=>hf c (qg6 h v hc)
theorem qho (h:∀x,(E x).length=n):∀l:List α,(l.flatMap E).length=l.length*n
 | []=>by simp
 | x::l=>by rw[qyL,qxO,h,qho h l,qxS,Nat.add_mul];omega
theorem qh7 (h:∀x,(E x).length=n) {o:Nat} (ho:o<n):∀(v:List α) (i:Nat),(v.flatMap E)[i*n+o]?=(v[i]?).bind fun x=>(E x)[o]?
 | [],i=>by simp
 | x::v,0=>by
  rw[qyL,Nat.zero_mul,qy5,qyk (by rw[h];exact ho)];rfl
 | x::v,i+1=>by
  rw[qyL,show(i+1)*n+o=(E x).length+(i*n+o) by rw[h,Nat.add_mul];omega,qyj (by omega),show(E x).length+(i*n+o)-(E x).length=i*n+o by omega,qh7 h ho v i]
  rfl
theorem qhf (h:∀x,(E x).length=1) {x:α} {d:C} (hx:E x=[d]):∀(v:List α) (i:Nat),(v.flatMap E).set i d=(v.set i x).flatMap E
 | [],i=>by simp
 | y::v,0=>by
  have hy:=h y
  rw[qyL,List.set_append_left _ _ (by rw[hy];decide),List.set_cons_zero,qyL,hx]
  match hE:E y,hy with
  | [c],_=>rfl
 | y::v,i+1=>by
  rw[qyL,show i+1=(E y).length+i by rw[h];omega,List.set_append_right _ _ (by omega),show(E y).length+i-(E y).length=i by omega,qhf h hx v i,h,Nat.add_comm,List.set_cons_succ,qyL]
theorem qpB (v:List α) (x:α):v.flatMap E++E x=(v++[x]).flatMap E:=by simp
theorem qoc {F:α→List D} (h:∀x,(E x).map C.uw=(F x).map C.d):∀v:List α,(v.flatMap E).map C.uw=(v.flatMap F).map C.d
 | []=>rfl
 | x::v=>by rw[qyL,qyL,List.map_append,List.map_append,h,qoc h v]
theorem qqB {T:Ty} {t:TypeId} {cs:List C} {off:Nat} (hk:∀fs,T.k t ≠ .st fs) (ha:∀n e,T.k t ≠ .arr n e) (ho:T.k t ≠ .other):ld T cs off t=(cs[off]?).map .c:=by
 unfold ld
 split
 ·rename_i h;exact absurd h (hk _)
 ·rename_i h;exact absurd h (ha _ _)
 ·rename_i h;exact absurd h ho
 ·rfl
theorem qek (zs0:List (Option (Nat×Nat))):∀(zs:List (Option (Nat×Nat))) (xs ys:List C),xs.all C.pl=true→zs.length=xs.length→q5d zs0 zs (xs++ys)=xs++q5d zs0 [] ys
 | [],[],ys,_,_=>rfl
 | [],d::ds,ys,_,h=>by cases h
 | z::zs,[],ys,_,h=>by cases h
 | z::zs,d::ds,ys,hp,h=>by
  rw[List.all_cons,qyd] at hp
  rw[qyM,q5d,qek zs0 zs ds ys hp.2 (by simpa using h)]
  have:qgv z d=d:=by
   rcases q6v z d with e|⟨e,-⟩
   ·exact e
   ·rw[e] at hp;cases hp.1
  rw[this];rfl
theorem qha (hp:∀x,(E x).all C.pl=true) (h:∀x,(E x).length=n+1) (zs0:List (Option (Nat×Nat))) (h0:zs0.length=n+1):∀(v:List α) (ys:List C),q5d zs0 [] (v.flatMap E++ys)=v.flatMap E++q5d zs0 [] ys
 | [],ys=>rfl
 | x::v,ys=>by
  have hx:=h x
  have hpx:=hp x
  rw[qyL,qym,qym,←qha hp h zs0 h0 v ys]
  cases hE:E x with
  | nil=>rw[hE] at hx;cases hx
  | cons d ds=>
   rw[hE] at hx hpx
   rw[List.all_cons,qyd] at hpx
   rw[qyM,q5d,qek zs0 zs0.tail ds _ hpx.2 (by rw[List.length_tail];simp at hx;omega)]
   have:qgv (zs0.headD none) d=d:=by
    rcases q6v (zs0.headD none) d with e|⟨e,-⟩
    ·exact e
    ·rw[e] at hpx;cases hpx.1
   rw[this];rfl
end
theorem qrN (k:Nat) (c:C) (h:c.pl=true):c.fg k=c:=by cases c<;>first|rfl|cases h
theorem qri (ids:List Nat) (c:C) (h:c.pl=true):cn ids c=c:=by cases c<;>first|rfl|cases h
theorem qre (c:C) (h:c.pl=true):c.kw=c:=by cases c<;>first|rfl|cases h
theorem qmy (k:Nat) (c:C) (h:c.pl=true):c.far k=true:=by cases c<;>first|rfl|cases h
theorem qhT (X:List Nat) (c:C) (h:c.pl=true):c.farF X=true:=by cases c<;>first|rfl|cases h
theorem qkv (c:C) (h:c.pl=true):c.isNils=false:=by cases c<;>first|rfl|cases h
theorem qi3 (c:C) (h:c.pl=true):c.refs=[]:=by cases c<;>first|rfl|cases h
theorem qin (c:C) (h:c.pl=true):c.rows=[]:=by cases c<;>first|rfl|cases h
theorem qfd (f:C→C) (xs ys:List C):(xs++ys).map f=xs.map f++ys.map f:=List.map_append
def oL {α:Type} (e n:Nat) (F:α→List D) (v:List α):List C:=[.ow e n v.length (v.flatMap F)]
theorem qgV (f:C→C):∀(ys cs:List C) (o:Nat),(spr cs o ys).map f=spr (cs.map f) o (ys.map f):=fun ys cs o=>(q6g f ys cs o).symm
theorem qgo (a b:C) (cs:List C) (o:Nat):spr (spr cs o [a]) o [b]=spr cs o [b]:=by
 show(cs.set o a).set o b=cs.set o b
 rw[List.set_set]
theorem qfX (cs:List C) (o:Nat) (c:C):((spr cs o [c])[o]?).map R.c=(cs[o]?).bind fun _=>some (R.c c):=by
 show((cs.set o c)[o]?).map R.c=_
 rcases Nat.lt_or_ge o cs.length with h|h
 ·rw[qyE h,qxJ h];rfl
 ·rw[qyf (by rw[qys];exact h),qyf h];rfl
theorem qaO (ys cs:List C) (o:Nat):(spr cs o ys).length=cs.length:=q0c ys cs o
theorem qoW (ds:List D):(ds.map C.d).map C.uw=ds.map C.d:=by rw[List.map_map];rfl
theorem qlX (ds:List D):(ds.map C.d).map C.kw=ds.map C.d:=by rw[List.map_map];rfl
end
noncomputable section
open Go.RowKit
def bx0:=JA_ @qig (JA_ @qk3 (JA_ @qqc.eq_1 (JA_ @qqc.eq_2 (JA_ @S.uwD.eq_1 (JA_ @S.tkD.eq_1 (JA_ @S.tkP.eq_1 (JA_ @S.tkP.eq_2 (JA_ @qqe.eq_1 (JA_ @qqe.eq_2 (JA_ @tkL.eq_1 (JA_ @tkL.eq_2 (JA_ @S.frk.eq_1 (JA_ @qlZ.eq_1 (JA_ @qdV.eq_1 (JA_ @qgq (JA_ @qg3 (JA_ @adL.eq_1 (JA_ @adS.eq_1 (JA_ @adI.eq_1 (JA_ @adI.eq_2 (@adP.eq_1)))))))))))))))))))))
def bx1:=JA_ @qtW.eq_1 (JA_ @qsf.eq_1 (JA_ @uwR.eq_2 (JA_ @ldO.eq_1 (JA_ @ldT.eq_2 (JA_ @ldT.eq_11 (JA_ @ldP.eq_1 (JA_ @ldU.eq_1 (JA_ @stO.eq_1 (JA_ @qqz.eq_1 (JA_ @qqz.eq_2 (JA_ @qqv.eq_1 (JA_ @qhy.eq_1 (JA_ @S.fnB.eq_1 (JA_ @S.uwB.eq_1 (JA_ @Kd.isSl0.eq_1 (JA_ @tkS.eq_1 (JA_ @B.kw.eq_2 (@B.kw.eq_3))))))))))))))))))
def bx2:=JA_ @R.nw.eq_1 (JA_ @R.nw.eq_2 (JA_ @R.nw0.eq_1 (JA_ @R.nw0.eq_2 (JA_ @R.nw0.eq_4 (JA_ @C.nw.eq_3 (JA_ @S.uw.eq_1 (JA_ @B.uw.eq_1 (JA_ @B.uw.eq_2 (JA_ @B.uw.eq_4 (JA_ @C.uw.eq_2 (JA_ @S.dzo.eq_1 (JA_ @qcG.eq_1 (JA_ @qcG.eq_2 (JA_ @q5d.eq_1 (JA_ @q5d.eq_2 (JA_ @qgv.eq_1 (@S.abL.eq_1)))))))))))))))))
def bx3:=JA_ @abAt.eq_1 (JA_ @C.noow.eq_2 (JA_ @S.strip.eq_1 (JA_ @q1C.eq_1 (JA_ @q1C.eq_2 (JA_ @ql0.eq_1 (JA_ @ql0.eq_2 (JA_ @R.isA.eq_1 (JA_ @R.isA.eq_2 (JA_ @qv5.eq_1 (JA_ @qqh.eq_1 (JA_ @qeB.eq_1 (JA_ @qc0.eq_1 (JA_ @S.ly.eq_1 (JA_ @alC.eq_1 (JA_ @alC.eq_2 (JA_ @alX.eq_1 (JA_ @alX.eq_2 (JA_ @qtA.eq_1 (JA_ @qp4.eq_1 (JA_ @qqn.eq_1 (JA_ @ipX.eq_1 (@qpZ.eq_1))))))))))))))))))))))
def bx4:=JA_ @qpZ.eq_2 (JA_ @qsE.eq_1 (JA_ @qsy.eq_1 (JA_ @ipA.eq_1 (JA_ @ipS.eq_1 (JA_ @ipS.eq_2 (JA_ @ipF.eq_1 (JA_ @qoR.eq_1 (JA_ @qoR.eq_2 (JA_ @q8o.eq_1 (JA_ @qf6.eq_1 (JA_ @qf6.eq_2 (JA_ @zmk.eq_1 (JA_ @zmk.eq_2 (JA_ @S.fin.eq_1 (JA_ @S.fn1.eq_1 (JA_ @S.inr.eq_1 (JA_ @prx.eq_1 (JA_ @APr.of_run (JA_ @pr0.eq_1 (JA_ @List.isEmpty_nil.{0} (JA_ @List.isEmpty_cons.{0} (JA_ @wbC.eq_1 (JA_ @B.beq.eq_1 (JA_ @C.beqL.eq_1 (JA_ @C.beqL.eq_2 (@C.beq0.eq_1))))))))))))))))))))))))))
def bx5:=JA_ @D.beq.eq_1 (JA_ @D.beq.eq_4 (JA_ @qts.eq_1 (JA_ @dzc.eq_2 (JA_ @dzc.eq_3 (JA_ @C.isNils.eq_1 (JA_ @C.isNils.eq_2 (JA_ @qeY (JA_ @List.any_append.{0} (JA_ @q48.eq_1 (JA_ @q3m.eq_1 (JA_ @q3m.eq_2 (JA_ @qgI.eq_1 (JA_ @fpA.eq_1 (JA_ @qaF.eq_1 (JA_ @S.kill.eq_1 (JA_ @qk9.eq_1 (JA_ @qk9.eq_2 (JA_ @qee.eq_1 (JA_ @qn3.eq_1 (JA_ @okX.eq_1 (JA_ @okX.eq_2 (@okK.eq_1))))))))))))))))))))))
def bx6:=JA_ @okN.eq_1 (JA_ @okN.eq_2 (JA_ @q3d.eq_1 (JA_ @qjE.eq_1 (JA_ @qjE.eq_2 (JA_ @qkV.eq_1 (JA_ @qkV.eq_2 (JA_ @q29.eq_1 (JA_ @qcP.eq_1 (JA_ @q0r.eq_1 (JA_ @qcx.eq_1 (JA_ @q2l.eq_1 (JA_ @q0C.eq_1 (JA_ @q66.eq_1 (JA_ @q3F.eq_1 (JA_ @q3F.eq_2 (JA_ @cvT.eq_1 (JA_ @q8l.eq_1 (JA_ @q4y.eq_1 (JA_ @qo2.eq_1 (JA_ @qiZ.eq_1 (JA_ @S.rf.eq_1 (JA_ @S.rfx.eq_1 (JA_ @qlr.eq_1 (JA_ @rdB.eq_1 (JA_ @qhN.eq_1 (JA_ @q47.eq_1 (@qfQ)))))))))))))))))))))))))))
def bx7:=JA_ @qgf (JA_ @qfi (JA_ @qg7 (JA_ @q3g.eq_1 (JA_ @qdI.eq_1 (JA_ @D.key.eq_1 (JA_ @R.key.eq_1 (JA_ @plK.eq_1 (JA_ @zR.eq_1 (JA_ @tt2.eq_1 (JA_ @B.isOb.eq_2 (@AO.mapR.eq_2)))))))))))
def bx8:=JA_ @AO.Rs.eq_2 (JA_ @R.refs0.eq_1 (JA_ @R.refs0.eq_3 (JA_ @cvA.eq_2 (JA_ @qb9.eq_1 (JA_ @xgd.eq_1 (JA_ @xgF.eq_1 (JA_ @xo.eq_1 (JA_ @xo.eq_2 (JA_ @xo.eq_3 (JA_ @xo.eq_4 (JA_ @xo.eq_5 (JA_ @xo.eq_6 (JA_ @xo.eq_7 (JA_ @xo.eq_8 (JA_ @xo.eq_9 (JA_ @xo.eq_10 (JA_ @xo.eq_11 (JA_ @xo.eq_12 (JA_ @xo.eq_13 (JA_ @xo.eq_14 (JA_ @xo.eq_15 (JA_ @xo.eq_16 (JA_ @xo.eq_17 (JA_ @xo.eq_19 (JA_ @xo.eq_20 (JA_ @xo.eq_21 (JA_ @xo.eq_22 (JA_ @xo.eq_23 (@xo.eq_24)))))))))))))))))))))))))))))
def bx9:=JA_ @xo.eq_25 (JA_ @xCl.eq_1 (JA_ @pre.eq_1 (JA_ @pre.eq_2 (JA_ @pre.eq_3 (JA_ @q4i.eq_1 (JA_ @Jq.eq_1 (JA_ @q4I.eq_1 (JA_ @q9g.eq_1 (JA_ @q7Z.eq_1 (JA_ @q19.eq_1 (JA_ @q05.eq_2 (JA_ @q05.eq_3 (JA_ @qsh.eq_1 (JA_ @qba.eq_1 (JA_ @qba.eq_2 (JA_ @cvR.eq_1 (JA_ @cvR.eq_2 (JA_ @cvR.eq_3 (JA_ @cvL.eq_1 (JA_ @cvL.eq_2 (JA_ @qeR.eq_1 (JA_ @qeR.eq_2 (JA_ @cv.eq_1 (JA_ @cv.eq_2 (JA_ @cv0.eq_1 (@cv0.eq_5))))))))))))))))))))))))))
def qwE:=JA_ @cv0.eq_9 (JA_ @cv0.eq_10 (JA_ @cv0.eq_11 (JA_ @cvG.eq_1 (JA_ @cvG.eq_2 (JA_ @cvB.eq_1 (JA_ @cvB.eq_2 (JA_ @cvB.eq_3 (JA_ @vis.eq_1 (JA_ @q3I.eq_1 (JA_ @q3I.eq_2 (JA_ @q0J (JA_ @qi9.eq_1 (JA_ @pos.eq_1 (JA_ @pos.eq_2 (JA_ @qfT.eq_1 (JA_ @q6E.eq_1 (JA_ @q93.eq_1 (JA_ @qqk.eq_1 (JA_ @q0n.eq_1 (JA_ @q00.eq_1 (JA_ @q1j.eq_1 (JA_ @q3P.eq_1 (JA_ @q0G.eq_1 (JA_ @q9R.eq_1 (JA_ @q9R.eq_2 (JA_ @q9R.eq_3 (JA_ @q9R.eq_4 (@q9R.eq_5))))))))))))))))))))))))))))
def qx4:=JA_ @q9R.eq_10 (JA_ @q9R.eq_11 (JA_ @q9R.eq_12 (JA_ @q9R.eq_13 (JA_ @q9R.eq_14 (JA_ @q9R.eq_15 (JA_ @qop.eq_3 (JA_ @qop.eq_4 (JA_ @qo5.eq_1 (JA_ @qo5.eq_2 (JA_ @qq5.eq_1 (JA_ @qqj.eq_1 (JA_ @qq9.eq_1 (JA_ @qpT.eq_1 (JA_ @qq7.eq_1 (JA_ @qgS.eq_1 (JA_ @q9k.eq_1 (JA_ @q9u.eq_1 (JA_ @Zx.eq_1 (JA_ @q2k.eq_1 (@q8G.eq_1))))))))))))))))))))
def qxb:=JA_ @q1J.eq_1 (JA_ @Kd.isSl.eq_1 (JA_ @nrm.eq_1 (JA_ @qht.eq_1 (JA_ @qqT.eq_1 (JA_ @rng.eq_1 (JA_ @rng.eq_2 (JA_ @rwAll.eq_1 (JA_ @rwAll.eq_2 (JA_ @rw1.eq_1 (JA_ @rw1.eq_2 (JA_ @cn.eq_1 (JA_ @cn.eq_2 (JA_ @cn0.eq_1 (JA_ @cn0.eq_2 (JA_ @cn0.eq_3 (JA_ @cn0.eq_5 (JA_ @cnR.eq_2 (JA_ @qec.eq_1 (JA_ @qec.eq_2 (JA_ @qec.eq_3 (JA_ @cnB.eq_1 (JA_ @cnB.eq_2 (JA_ @cnB.eq_3 (JA_ @cnH.eq_1 (JA_ @cnH.eq_2 (JA_ @qlv (JA_ @qD.eq_1 (JA_ @qD.eq_2 (@qD.eq_3)))))))))))))))))))))))))))))
def qvt:=JA_ @qlS.eq_1 (JA_ @qa7.eq_1 (JA_ @q5i.eq_1 (JA_ @qaU.eq_1 (JA_ @q5e.eq_1 (JA_ @q8g.eq_1 (JA_ @q5q.eq_1 (JA_ @q5q.eq_2 (JA_ @S.frz.eq_1 (JA_ @S.frz.eq_2 (JA_ @S.frz1.eq_1 (JA_ @fz.eq_1 (JA_ @fz.eq_2 (JA_ @fz0.eq_1 (JA_ @fz0.eq_2 (JA_ @fz0.eq_3 (JA_ @fz0.eq_5 (JA_ @fzR.eq_1 (JA_ @fzR.eq_2 (JA_ @qeO.eq_1 (JA_ @qeO.eq_2 (JA_ @qeO.eq_3 (JA_ @fzB.eq_1 (JA_ @fzB.eq_2 (JA_ @fzB.eq_3 (JA_ @fzB.eq_4 (JA_ @qnI (JA_ @dz.eq_1 (JA_ @dz.eq_2 (JA_ @dzL.eq_1 (JA_ @dzL.eq_2 (JA_ @dzR.eq_1 (JA_ @dzR.eq_2 (JA_ @qaL.eq_1 (JA_ @qaL.eq_2 (@one.eq_1)))))))))))))))))))))))))))))))))))
def qwL:=JA_ @one.eq_2 (JA_ @rvs.eq_1 (JA_ @rvs.eq_2 (JA_ @qiY.eq_1 (JA_ @qiY.eq_2 (JA_ @tt.eq_1 (JA_ @ff.eq_1 (JA_ @q3O.eq_1 (JA_ @q3O.eq_2 (JA_ @C.ref0.eq_1 (JA_ @C.ref0.eq_2 (JA_ @C.ref0.eq_3 (JA_ @C.ref0.eq_4 (JA_ @C.refs.eq_1 (JA_ @C.refs.eq_2 (JA_ @B.refs.eq_1 (JA_ @B.refs.eq_2 (JA_ @B.refs.eq_3 (JA_ @B.refs.eq_4 (JA_ @R.refs.eq_1 (JA_ @R.refs.eq_2 (JA_ @R.refs.eq_4 (JA_ @C.rows0.eq_1 (JA_ @C.rows0.eq_2 (JA_ @C.rows.eq_1 (JA_ @C.rows.eq_2 (JA_ @R.rows.eq_1 (JA_ @R.rows.eq_2 (JA_ @R.rows.eq_3 (JA_ @C.ptrs0.eq_1 (JA_ @C.ptrs0.eq_2 (JA_ @C.ptrs0.eq_3 (JA_ @C.ptrs.eq_1 (JA_ @C.ptrs.eq_2 (JA_ @R.ptrs.eq_1 (JA_ @R.ptrs.eq_2 (JA_ @R.ptrs.eq_3 (JA_ @B.isBlk.eq_1 (@B.isBlk.eq_2))))))))))))))))))))))))))))))))))))))
def qxg:=JA_ @B.isBlk.eq_3 (JA_ @R.scl.eq_1 (JA_ @R.scl.eq_2 (JA_ @R.scl0.eq_1 (JA_ @R.scl0.eq_2 (JA_ @R.scl0.eq_3 (JA_ @C.scl.eq_1 (JA_ @C.scl.eq_2 (JA_ @C.scl0.eq_1 (JA_ @C.scl0.eq_3 (JA_ @C.scl0.eq_5 (JA_ @B.scl.eq_1 (JA_ @B.scl.eq_2 (JA_ @B.scl.eq_3 (JA_ @C.dat.eq_2 (JA_ @C.dat0.eq_1 (JA_ @C.dat0.eq_9 (JA_ @ren.eq_1 (JA_ @R.rn.eq_1 (JA_ @R.rn.eq_2 (JA_ @R.rn0.eq_1 (JA_ @R.rn0.eq_2 (JA_ @R.rn0.eq_3 (JA_ @C.rn.eq_1 (JA_ @C.rn.eq_2 (JA_ @C.rn0.eq_1 (JA_ @C.rn0.eq_2 (@C.rn0.eq_3)))))))))))))))))))))))))))
def qwm:=JA_ @C.rn0.eq_6 (JA_ @B.rn.eq_1 (JA_ @B.rn.eq_2 (JA_ @B.rn.eq_3 (JA_ @qnr (JA_ @S.aft.eq_1 (JA_ @S.fgL.eq_1 (JA_ @S.fgL.eq_2 (JA_ @C.fgL.eq_1 (JA_ @C.fgL.eq_2 (JA_ @C.fgL.eq_3 (JA_ @C.fgL.eq_5 (JA_ @R.fgL.eq_1 (JA_ @R.fgL.eq_2 (JA_ @R.fgL.eq_3 (JA_ @B.fgL.eq_1 (JA_ @B.fgL.eq_2 (JA_ @B.fgL.eq_3 (JA_ @B.fgL.eq_4 (JA_ @C.farL.eq_1 (JA_ @C.farL.eq_2 (JA_ @C.farL.eq_3 (JA_ @C.farL.eq_5 (JA_ @R.farL.eq_1 (JA_ @B.farL.eq_2 (JA_ @B.farL.eq_3 (JA_ @qqo.eq_3 (@qcI.eq_1)))))))))))))))))))))))))))
def qvJ:=JA_ @qcI.eq_2 (JA_ @S.ev.eq_1 (JA_ @S.ev.eq_2 (JA_ @S.ev.eq_3 (JA_ @S.get.eq_1 (JA_ @S.blk.eq_1 (JA_ @S.put.eq_1 (JA_ @S.put.eq_2 (JA_ @S.up.eq_1 (JA_ @S.bd.eq_1 (JA_ @S.bd.eq_2 (JA_ @S.seq.eq_1 (JA_ @S.cell1.eq_1 (JA_ @lk.eq_1 (JA_ @lk.eq_2 (JA_ @Za.eq_1 (JA_ @Za.eq_2 (JA_ @Za.eq_3 (JA_ @Za.eq_5 (JA_ @Za.eq_6 (JA_ @Za.eq_7 (JA_ @q07.eq_1 (JA_ @q07.eq_2 (JA_ @qib (JA_ @ldx.eq_1 (JA_ @bld.eq_1 (JA_ @bld.eq_2 (JA_ @spl.eq_1 (JA_ @spl.eq_2 (JA_ @ZD.eq_1 (JA_ @Ty.foff.eq_1 (JA_ @R.cells.eq_1 (JA_ @R.cells.eq_2 (@R.parts.eq_1)))))))))))))))))))))))))))))))))
def qwd:=JA_ @R.parts.eq_2 (JA_ @B.cells.eq_1 (JA_ @B.cells.eq_2 (JA_ @B.live.eq_1 (JA_ @B.live.eq_2 (JA_ @C.known.eq_3 (JA_ @C.far.eq_1 (JA_ @C.far.eq_5 (JA_ @S.fg.eq_1 (JA_ @R.fg.eq_1 (JA_ @R.fg.eq_2 (JA_ @R.fg.eq_3 (JA_ @R.fg.eq_4 (JA_ @B.fg.eq_1 (JA_ @B.fg.eq_2 (JA_ @B.fg.eq_3 (JA_ @B.fg.eq_4 (JA_ @C.fg.eq_1 (JA_ @C.fg.eq_2 (JA_ @C.fg.eq_3 (JA_ @C.fg.eq_4 (JA_ @C.fg.eq_5 (JA_ @D1.eq_1 (JA_ @q06.eq_1 (JA_ @q06.eq_2 (JA_ @q06.eq_4 (JA_ @q06.eq_6 (JA_ @q06.eq_7 (JA_ @q06.eq_8 (@q06.eq_9)))))))))))))))))))))))))))))
def qvh:=JA_ @q06.eq_10 (JA_ @q06.eq_12 (JA_ @q06.eq_14 (JA_ @q06.eq_15 (JA_ @q06.eq_17 (JA_ @q06.eq_21 (JA_ @q06.eq_23 (JA_ @q06.eq_24 (JA_ @qaE.eq_1 (JA_ @qaE.eq_2 (JA_ @qaE.eq_3 (JA_ @qaE.eq_5 (JA_ @qaE.eq_6 (JA_ @q57.eq_3 (JA_ @q57.eq_5 (JA_ @q57.eq_6 (JA_ @qdT.eq_1 (JA_ @qdT.eq_3 (JA_ @qdT.eq_4 (JA_ @qdT.eq_5 (JA_ @fpC.eq_1 (JA_ @qlx.eq_1 (JA_ @qnO.eq_1 (JA_ @qpW.eq_1 (JA_ @C.lt0.eq_3 (@C.lt0.eq_4)))))))))))))))))))))))))
def qx7:=JA_ @C.ltn.eq_2 (JA_ @R.lt0.eq_1 (JA_ @R.lt0.eq_2 (JA_ @R.ltn.eq_2 (JA_ @B.ltn.eq_1 (JA_ @q0H.eq_1 (JA_ @Fp.none?.eq_1 (JA_ @okP.eq_1 (JA_ @okP.eq_2 (JA_ @qfU (JA_ @qg8 (JA_ @qiV (JA_ @qft (JA_ @qfj (JA_ @qfE (JA_ @qjS (JA_ @qgT (JA_ @qfK (JA_ @qgK (JA_ @qas (JA_ @qjV (JA_ @qgD (JA_ @qf4 (JA_ @qjs (JA_ @qgQ (JA_ @qfS (JA_ @qfH (JA_ @qiy (JA_ @qf0 (JA_ @qfB (JA_ @qfs (@qiR)))))))))))))))))))))))))))))))
def qvW:=JA_ @qg0 (JA_ @qjL (JA_ @qca (JA_ @qjg (JA_ @qfm (JA_ @qfN (JA_ @qne (JA_ @qhX (JA_ @C.farF.eq_2 (JA_ @Op.operands.eq_1 (JA_ @Op.operands.eq_4 (JA_ @Op.operands.eq_5 (JA_ @Op.operands.eq_7 (JA_ @Op.operands.eq_8 (JA_ @Op.operands.eq_10 (JA_ @Op.operands.eq_14 (JA_ @Op.operands.eq_24 (@Op.operands.eq_25)))))))))))))))))
def qxv:=JA_ @Op.operands.eq_26 (JA_ @Op.operands.eq_27 (JA_ @Op.operands.eq_29 (JA_ @Op.operands.eq_31 (JA_ @Op.operands.eq_36 (JA_ @Op.operands.eq_40 (JA_ @qmr (JA_ @qmZ (JA_ @Option.isNone_none.{0} (JA_ @qnQ.eq_1 (JA_ @qnQ.eq_2 (JA_ @Option.toList_some.{0} (JA_ @Option.toList_none.{0} (JA_ @List.all_append.{0} (JA_ @List.getElem?_nil.{0} (JA_ @List.drop_zero.{0} (JA_ @wi (JA_ @Int.cast_ofNat_Int (JA_ @Int.le_refl (JA_ @qxX (JA_ @Option.bind_assoc.{0,0,0} (JA_ @List.any_nil.{0} (JA_ @List.any_cons.{0} (JA_ @List.getD_cons_zero.{0} (JA_ @List.getD_cons_succ.{0} (JA_ @true_and (@and_true))))))))))))))))))))))))))
def qxq:=JA_ @and_false (JA_ @qyw.{0} (JA_ @Prod.mk.injEq.{0,0} (JA_ @qxH.{0,0} (JA_ @Option.bind_none.{0,0} (JA_ @Option.map_some.{0,0} (JA_ @Option.map_none.{0,0} (JA_ @Option.getD_some.{0} (JA_ @Option.getD_none.{0} (JA_ @ne_eq.{1} (JA_ @not_false_eq_true (JA_ @or_true (JA_ @or_false (JA_ @Bool.false_eq_true (JA_ @qy4.{0,0} (JA_ @List.map_nil.{0,0} (JA_ @List.all_cons.{0} (JA_ @List.all_nil.{0} (JA_ @qyI (JA_ @qye (JA_ @Bool.and_false (JA_ @qyJ (JA_ @qyd (JA_ @Bool.or_true (JA_ @Bool.true_or (JA_ @Bool.or_false (JA_ @Bool.false_or (JA_ @qxS.{0} (JA_ @qyq.{0} (JA_ @qyp.{0,0} (JA_ @qxR.{0} (JA_ @qy6.{0} (JA_ @qyK.{0,0} (JA_ @List.foldl_nil.{0,0} (JA_ @qyM.{0} (@qy1.{0})))))))))))))))))))))))))))))))))))
def qxz:=JA_ @qy2.{0} (JA_ @Nat.max_def (JA_ @decide_true (JA_ @decide_false (JA_ @decide_not (JA_ @qyG (JA_ @qy7 (JA_ @Nat.zero_mul (JA_ @Nat.mul_one (JA_ @Nat.one_mul (JA_ @Nat.add_zero (JA_ @qy5 (JA_ @qxK (JA_ @List.mapM_cons.{0,0,0} (JA_ @List.mapM_nil.{0,0,0} (JA_ @List.drop_succ_cons.{0} (JA_ @List.drop_nil.{0} (JA_ @List.take_succ_cons.{0} (JA_ @List.take_zero.{0} (JA_ @List.replicate_succ.{0} (JA_ @List.replicate_zero.{0} (JA_ @List.set_cons_zero.{0} (JA_ @List.set_cons_succ.{0} (JA_ @and_self (JA_ @Bool.not_true (JA_ @Bool.not_false (JA_ @List.contains_cons.{0} (JA_ @List.contains_nil.{0} (JA_ @qyL.{0,0} (JA_ @List.flatMap_nil.{0,0} (JA_ @List.filter_cons.{0} (JA_ @List.filter_nil.{0} (JA_ @List.eraseDups_cons.{0} (JA_ @List.eraseDups_nil.{0} (JA_ @List.nodup_cons.{0} (JA_ @List.nodup_nil.{0} (JA_ @qy3.{0} (JA_ @List.not_mem_nil.{0} (JA_ @List.headD_cons.{0} (@List.headD_nil.{0})))))))))))))))))))))))))))))))))))))))
def qwM:=JA_ @List.tail_cons.{0} (JA_ @List.tail_nil.{0} (JA_ @beq_self_eq_true.{0} (JA_ @Zk (JA_ @List.range_succ (JA_ @List.range_zero (JA_ @ite_self.{1} (JA_ @qfd (JA_ @qgV (JA_ @qgo (JA_ @qaO (JA_ @qoW (JA_ @qlX (JA_ @frA.eq_1 (JA_ @R.dat.eq_1 (JA_ @R.dat.eq_2 (JA_ @qjc (JA_ @qkR (JA_ @qpD (JA_ @qk1 (JA_ @qmO (JA_ @qku (JA_ @qja (@qnR)))))))))))))))))))))))
def qx5:=JA_ @qfO (JA_ @q7p (JA_ @qgb (JA_ @mpo.eq_2 (JA_ @qrA (JA_ @qah (JA_ @qmN (JA_ @qbW (JA_ @qjG (JA_ @qow (JA_ @qio (JA_ @qml (JA_ @qgZ (JA_ @qj9 (JA_ @qeG (JA_ @qi7 (JA_ @qfz (JA_ @qk8 (@qfI))))))))))))))))))
def qwA:=JA_ @Jj.eq_1 (JA_ @Jj.eq_2 (JA_ @qhQ.eq_2 (JA_ @hdG.eq_1 (@qqd.eq_2))))
def qxo:=JA_ @qai (JA_ @qkf (JA_ @qgh (JA_ @qeW (JA_ @qjb (JA_ @qf7 (JA_ @qkh (JA_ @qgw (JA_ @qaq (JA_ @qiz (JA_ @qfy (JA_ @qgd (JA_ @qiM (JA_ @qfA (JA_ @qjB (JA_ @qgO (JA_ @qiH (JA_ @qi8 (JA_ @qgE (JA_ @qkS (JA_ @qvY (JA_ @qwp (JA_ @qsg (@qrr)))))))))))))))))))))))
def qxp:=JA_ @qrW (JA_ @qnz (JA_ @ql4 (JA_ @qlD (JA_ @qs4 (JA_ @qpb (JA_ @qqI (JA_ @qoH (JA_ @qmv (JA_ @qkw (JA_ @qiN (JA_ @qmD (JA_ @qi6 (JA_ @qpx (JA_ @qjW (JA_ @qwl (JA_ @qb0 (JA_ @qgF (JA_ @qnn (JA_ @qhY (JA_ @qkP (JA_ @Sum.elim_inl.{0,1,0} (JA_ @Sum.elim_inr.{0,1,0} (JA_ @qiW (JA_ @q6g (JA_ @qbv (JA_ @qdi (JA_ @qfb (JA_ @qpY.eq_1 (@qlk)))))))))))))))))))))))))))))
def qvl:=JA_ @qdy (JA_ @qgu (JA_ @qlb (JA_ @qkC (JA_ @qkm (JA_ @qjC (JA_ @qiE (JA_ @qjQ (JA_ @qkk (JA_ @q8M (JA_ @q6V (JA_ @qlM (JA_ @qqm.eq_1 (JA_ @qqm.eq_2 (JA_ @qxO.{0} (JA_ @qys.{0} (JA_ @qyo.{0} (JA_ @qaf (JA_ @qc9 (JA_ @List.take_nil.{0} (@qc3))))))))))))))))))))
def qwW:=JA_ @q0c (JA_ @q6h (JA_ @q2J (@qmF)))
theorem qw1 (a0 a1 a2:Int) (i:Nat):([C.d (D.int .i64 a0),C.d (D.int .i64 a1),C.d (D.int .i64 a2)]:List C)[i]?=([a0,a1,a2][i]?).bind fun x=>some (C.d (D.int .i64 x)):=by rw[show([C.d (D.int .i64 a0),C.d (D.int .i64 a1),C.d (D.int .i64 a2)]:List C)=[a0,a1,a2].map (fun x=>C.d (D.int .i64 x)) from rfl,qxV];cases([a0,a1,a2]:List Int)[i]? <;> rfl
theorem qw2 (a0 a1 a2 a3:Int) (i:Nat):([C.d (D.int .i64 a0),C.d (D.int .i64 a1),C.d (D.int .i64 a2),C.d (D.int .i64 a3)]:List C)[i]?=([a0,a1,a2,a3][i]?).bind fun x=>some (C.d (D.int .i64 x)):=by rw[show([C.d (D.int .i64 a0),C.d (D.int .i64 a1),C.d (D.int .i64 a2),C.d (D.int .i64 a3)]:List C)=[a0,a1,a2,a3].map (fun x=>C.d (D.int .i64 x)) from rfl,qxV];cases([a0,a1,a2,a3]:List Int)[i]? <;> rfl
theorem qwq (a0 a1 a2 a3 a4:Int) (i:Nat):([C.d (D.int .i64 a0),C.d (D.int .i64 a1),C.d (D.int .i64 a2),C.d (D.int .i64 a3),C.d (D.int .i64 a4)]:List C)[i]?=([a0,a1,a2,a3,a4][i]?).bind fun x=>some (C.d (D.int .i64 x)):=by rw[show([C.d (D.int .i64 a0),C.d (D.int .i64 a1),C.d (D.int .i64 a2),C.d (D.int .i64 a3),C.d (D.int .i64 a4)]:List C)=[a0,a1,a2,a3,a4].map (fun x=>C.d (D.int .i64 x)) from rfl,qxV];cases([a0,a1,a2,a3,a4]:List Int)[i]? <;> rfl
theorem qxl (a0 a1 a2 a3 a4 a5:Int) (i:Nat):([C.d (D.int .i64 a0),C.d (D.int .i64 a1),C.d (D.int .i64 a2),C.d (D.int .i64 a3),C.d (D.int .i64 a4),C.d (D.int .i64 a5)]:List C)[i]?=([a0,a1,a2,a3,a4,a5][i]?).bind fun x=>some (C.d (D.int .i64 x)):=by rw[show([C.d (D.int .i64 a0),C.d (D.int .i64 a1),C.d (D.int .i64 a2),C.d (D.int .i64 a3),C.d (D.int .i64 a4),C.d (D.int .i64 a5)]:List C)=[a0,a1,a2,a3,a4,a5].map (fun x=>C.d (D.int .i64 x)) from rfl,qxV];cases([a0,a1,a2,a3,a4,a5]:List Int)[i]? <;> rfl
theorem qxn (a0 a1 a2:ByteArray) (i:Nat):([C.d (D.str a0),C.d (D.str a1),C.d (D.str a2)]:List C)[i]?=([a0,a1,a2][i]?).bind fun x=>some (C.d (D.str x)):=by rw[show([C.d (D.str a0),C.d (D.str a1),C.d (D.str a2)]:List C)=[a0,a1,a2].map (fun x=>C.d (D.str x)) from rfl,qxV];cases([a0,a1,a2]:List ByteArray)[i]? <;> rfl
theorem qw3 (a0 a1 a2 a3:ByteArray) (i:Nat):([C.d (D.str a0),C.d (D.str a1),C.d (D.str a2),C.d (D.str a3)]:List C)[i]?=([a0,a1,a2,a3][i]?).bind fun x=>some (C.d (D.str x)):=by rw[show([C.d (D.str a0),C.d (D.str a1),C.d (D.str a2),C.d (D.str a3)]:List C)=[a0,a1,a2,a3].map (fun x=>C.d (D.str x)) from rfl,qxV];cases([a0,a1,a2,a3]:List ByteArray)[i]? <;> rfl
theorem qsB {α:Type} (l:List α) (k:Nat):List.take (min k l.length) l=List.take k l:=by
 by_cases h:k≤l.length
 ·rw[Nat.min_eq_left h]
 ·rw[Nat.min_eq_right (by omega),List.take_length,qyN (by omega)]
theorem qrf {α:Type} (l:List α) (j:Nat):List.take (l.length-j) (List.drop j l)=List.drop j l:=by rw[qyN];rw[qyt];exact qxX _
theorem qot {α:Type} (l:List α) (j:Nat):((l.drop j).length*8=(l.length-j)*8)=True:=eq_true (by rw[qyt])
theorem qmW {α:Type} (l:List α) (j:Nat):((l.take j).length*8=min j l.length*8)=True:=eq_true (by rw[qya])
theorem qns (sz:Nat) (x:Int):D.sl sz 1 (eI x)=D.sl sz 1 [D.int .i64 x]:=rfl
theorem qoY:(min 3 4:Nat)=3:=rfl
theorem qlh {α:Type} (l m:List α) (k j:Nat):(l.take k).length+(m.drop j).length=min k l.length+(m.length-j):=by rw[qya,qyt]
theorem qrv {α:Type} (e:α→List D) (sz:Nat) (l:List α) (k:Nat):D.sl sz (min k l.length) ((l.take k).flatMap e)=D.sl sz (l.take k).length ((l.take k).flatMap e):=by rw[qya]
theorem qnE {α:Type} (l:List α) (k:Nat):(l.length*8=min k l.length*8)=(l.length≤k):=by apply propext;omega
theorem qp5 {α:Type} (l:List α) (k:Nat):(min k l.length*8≤l.length*8)=True:=eq_true (by omega)
theorem qkH (l:List Int):(l.length=(ZS l).length)=True:=eq_true (q1a l).symm
def bz0:=JA_ @qw1 (JA_ @qw2 (JA_ @qwq (JA_ @qxl (JA_ @qxn (@qw3)))))
def bz1:=JA_ @qsB (JA_ @qrf (JA_ @qot (JA_ @qmW (@qns))))
def bz2:=@qoY
def bz3:=JA_ @qlh (JA_ @qrv (JA_ @qnE (@qp5)))
def bz5:=@qkH
end
noncomputable section
open Go.RowKit
structure QC (α:Type) where
 a0:α
 a1:α
def eA2 {α:Type} (E:α→List D) (x:QC α):List D:=E x.a0++E x.a1
structure qhn (α:Type) where
 a0:α
 a1:α
 a2:α
structure QH where
 Has:List (List Int)
 Odd:QC (qhn Int)
 Programme:List Int
 Day:Int
structure qe where
 Worst:Int
 Best:Int
 Pass:Int
def qI (x:qe):List D:=[D.int .i64 x.Worst,D.int .i64 x.Best,D.int .i64 x.Pass]
theorem q1z (x:qe):qI x=[D.int .i64 x.Worst,D.int .i64 x.Best,D.int .i64 x.Pass]:=rfl
theorem q4J (x:qe):(qI x).length=3:=rfl
theorem q4G (x:qe):qe.mk x.Worst x.Best x.Pass=x:=rfl
structure qb where
 School:Int
 Code:ByteArray
def qh (x:qb):List D:=[D.int .i64 x.School,D.str x.Code]
theorem QV (x:qb):qh x=[D.int .i64 x.School,D.str x.Code]:=rfl
theorem q0m (x:qb):(qh x).length=2:=rfl
theorem q3C (x:qb):qb.mk x.School x.Code=x:=rfl
structure qa where
 Course:qb
 Credits:Int
 Grade:Int
 Day:Int
 Sources:List Int
 Bundle:Int
 Path:List Int
def qc (x:qa):List D:=[D.int .i64 x.Course.School,D.str x.Course.Code,D.int .i64 x.Credits,D.int .i64 x.Grade,D.int .i64 x.Day,D.sl 1 x.Sources.length (x.Sources.flatMap eI),D.int .i64 x.Bundle,D.sl 1 x.Path.length (x.Path.flatMap eI)]
theorem qW (x:qa):qc x=[D.int .i64 x.Course.School,D.str x.Course.Code,D.int .i64 x.Credits,D.int .i64 x.Grade,D.int .i64 x.Day,D.sl 1 x.Sources.length (x.Sources.flatMap eI),D.int .i64 x.Bundle,D.sl 1 x.Path.length (x.Path.flatMap eI)]:=rfl
theorem ZL (x:qa):(qc x).length=8:=rfl
theorem q0Y (x:qa):qa.mk x.Course x.Credits x.Grade x.Day x.Sources x.Bundle x.Path=x:=rfl
structure qg where
 Kind:Int
 N:Int
 Min:Int
 Set:List qb
 L:List qg
mutual
def ql:qg→List D
 | ⟨a0,a1,a2,a3,a4⟩=>[D.int .i64 a0,D.int .i64 a1,D.int .i64 a2,D.sl 2 a3.length (a3.flatMap qh),D.sl 5 a4.length (Q2 a4)]
def Q2:List qg→List D
 | []=>[]
 | x::l=>ql x++Q2 l
end
theorem q0q:∀l:List qg,Q2 l=l.flatMap ql
 | []=>rfl
 | x::l=>by rw[qyL,←q0q l,Q2]
theorem q1Z (x:qg):ql x=[D.int .i64 x.Kind,D.int .i64 x.N,D.int .i64 x.Min,D.sl 2 x.Set.length (x.Set.flatMap qh),D.sl 5 x.L.length (x.L.flatMap ql)]:=by cases x;rw[ql,q0q]
theorem Z1 (x:qg):(ql x).length=5:=by rw[q1Z];rfl
theorem q5k (x:qg):qg.mk x.Kind x.N x.Min x.Set x.L=x:=by cases x;rfl
structure qd where
 School:Int
 Id:Int
 Version:Int
 From:Int
 Name:ByteArray
 Need:qg
 Total:Int
 Own:Int
 Age:Int
 Exclude:List (QC qb)
theorem q1G (x:qd):qd.mk x.School x.Id x.Version x.From x.Name x.Need x.Total x.Own x.Age x.Exclude=x:=rfl
structure qf where
 L:List Int
 At:Int
theorem q3A (x:qf):qf.mk x.L x.At=x:=rfl
theorem q8w:∀x:(List Int),((eL 1 eI) x).length=1:=fun _=>rfl
theorem qmu (v:List (List Int)):(v.flatMap (eL 1 eI)).length=v.length:=by rw[Jp q8w,Nat.mul_one]
theorem qaC (v:List (List Int)) (i:Nat):ld T ((v.flatMap (eL 1 eI)).map C.d) (i) 25=(v[i]?).bind fun x=>some (.c (.d (D.sl 1 x.length (x.flatMap eI)))):=by rw[q3L q8w v i _ (by decide)];cases v[i]? with|none=>rfl|some x=>rfl
theorem q6X:∀x:Int,(eI x).length=1:=fun _=>rfl
theorem qqC (v:List Int):(v.flatMap eI).length=v.length:=by rw[Jp q6X,Nat.mul_one]
theorem qgA (v:List Int) (i:Nat):ld T ((v.flatMap eI).map C.d) (i) 3=(v[i]?).bind fun x=>some (.c (.d (D.int .i64 x))):=by rw[q3L q6X v i _ (by decide)];cases v[i]? with|none=>rfl|some x=>rfl
theorem qt9 (v:List Int) (a:Int):(v.flatMap eI).map C.d++[C.d (D.int .i64 a)]=((v++[a]).flatMap eI).map C.d:=by have h:=q59 (E:=eI) v a;exact h
theorem qnl (v:List Int) (i:Nat) (a:Int):spr ((v.flatMap eI).map C.d) (i) [C.d (D.int .i64 a)]=((v.set i a).flatMap eI).map C.d:=by have h:=q8f q6X v i a;rw[Nat.mul_one] at h;exact h
theorem qm8 (m:Nat):(List.replicate m [C.d (D.int .i64 0)]).flatten=((List.replicate m 0).flatMap eI).map C.d:=qid (E:=eI) 0 (by rfl) m
theorem ZQ:∀x:qa,(qc x).length=8:=ZL
theorem qpO (v:List qa):(v.flatMap qc).length=v.length*8:=by rw[Jp ZQ]
theorem qar (v:List qa) (i:Nat):ld T ((v.flatMap qc).map C.d) (i*8) 52=(v[i]?).bind fun x=>some (.agg [.d (D.int .i64 x.Course.School),.d (D.str x.Course.Code),.d (D.int .i64 x.Credits),.d (D.int .i64 x.Grade),.d (D.int .i64 x.Day),.d (D.sl 1 x.Sources.length (x.Sources.flatMap eI)),.d (D.int .i64 x.Bundle),.d (D.sl 1 x.Path.length (x.Path.flatMap eI))]):=by rw[q3N ZQ v i _ (by decide) (by decide)];cases v[i]? with|none=>rfl|some x=>rw[qxH,qxH,qW];rfl
theorem qdB (v:List qa) (i:Nat):ld T ((v.flatMap qc).map C.d) (i*8+1) 9=(v[i]?).bind fun x=>some (.c (.d (D.str x.Course.Code))):=by rw[q4j ZQ v i 1 _ (by decide) (by decide)];cases v[i]? with|none=>rfl|some x=>rw[qxH,qxH,qW];rfl
theorem qdz (v:List qa):ld T ((v.flatMap qc).map C.d) 9 9=(v[1]?).bind fun x=>some (.c (.d (D.str x.Course.Code))):=by have h:=qdB v 1;exact h
theorem qe2 (v:List qa) (i:Nat):ld T ((v.flatMap qc).map C.d) (i*8+3) 3=(v[i]?).bind fun x=>some (.c (.d (D.int .i64 x.Grade))):=by rw[q4j ZQ v i 3 _ (by decide) (by decide)];cases v[i]? with|none=>rfl|some x=>rw[qxH,qxH,qW];rfl
theorem qbP (v:List qa):ld T ((v.flatMap qc).map C.d) 3 3=(v[0]?).bind fun x=>some (.c (.d (D.int .i64 x.Grade))):=by have h:=qe2 v 0;rwa [Nat.zero_mul,qy5] at h
theorem qal (v:List qa) (i:Nat):ld T ((v.flatMap qc).map C.d) (i*8+5) 25=(v[i]?).bind fun x=>some (.c (.d (D.sl 1 x.Sources.length (x.Sources.flatMap eI)))):=by rw[q4j ZQ v i 5 _ (by decide) (by decide)];cases v[i]? with|none=>rfl|some x=>rw[qxH,qxH,qW];rfl
theorem qnu (v:List qa) (a_Course_School:Int) (a_Course_Code:ByteArray) (a_Credits:Int) (a_Grade:Int) (a_Day:Int) (a_Sources:List Int) (a_Bundle:Int) (a_Path:List Int):(v.flatMap qc).map C.d++[C.d (D.int .i64 a_Course_School),C.d (D.str a_Course_Code),C.d (D.int .i64 a_Credits),C.d (D.int .i64 a_Grade),C.d (D.int .i64 a_Day),C.d (D.sl 1 a_Sources.length (a_Sources.flatMap eI)),C.d (D.int .i64 a_Bundle),C.d (D.sl 1 a_Path.length (a_Path.flatMap eI))]=((v++[(qa.mk (qb.mk a_Course_School a_Course_Code) a_Credits a_Grade a_Day a_Sources a_Bundle a_Path)]).flatMap qc).map C.d:=by have h:=q59 (E:=qc) v (qa.mk (qb.mk a_Course_School a_Course_Code) a_Credits a_Grade a_Day a_Sources a_Bundle a_Path);rw[qW] at h;exact h
theorem qjp (v:List qa) (i:Nat) (a_Course_School:Int) (a_Course_Code:ByteArray) (a_Credits:Int) (a_Grade:Int) (a_Day:Int) (a_Sources:List Int) (a_Bundle:Int) (a_Path:List Int):spr ((v.flatMap qc).map C.d) (i*8) [C.d (D.int .i64 a_Course_School),C.d (D.str a_Course_Code),C.d (D.int .i64 a_Credits),C.d (D.int .i64 a_Grade),C.d (D.int .i64 a_Day),C.d (D.sl 1 a_Sources.length (a_Sources.flatMap eI)),C.d (D.int .i64 a_Bundle),C.d (D.sl 1 a_Path.length (a_Path.flatMap eI))]=((v.set i (qa.mk (qb.mk a_Course_School a_Course_Code) a_Credits a_Grade a_Day a_Sources a_Bundle a_Path)).flatMap qc).map C.d:=by have h:=q8f ZQ v i (qa.mk (qb.mk a_Course_School a_Course_Code) a_Credits a_Grade a_Day a_Sources a_Bundle a_Path);rw[qW] at h;exact h
theorem qoX (v:List qa) (ys:List C):dzc [0,0,0,0,0,1,0,1] [] ((v.flatMap qc).map C.d++ys)=(v.flatMap qc).map C.d++dzc [0,0,0,0,0,1,0,1] [] ys:=qhB ZQ [0,0,0,0,0,1,0,1] rfl v ys
theorem qoe (v:List qa) (a:Nat):(v.flatMap qc).drop (a*8)=(v.drop a).flatMap qc:=by have h:=q6z ZQ v a;exact h
theorem qoK (v:List qa) (a:Nat):(v.flatMap qc).take (a*8)=(v.take a).flatMap qc:=by have h:=q5Y ZQ v a;exact h
theorem qiJ (v:List qa) (a:Nat):((v.flatMap qc).map C.d).drop (a*8)=((v.drop a).flatMap qc).map C.d:=by rw[←List.map_drop,qoe]
theorem qjU (v:List qa) (a:Nat):((v.flatMap qc).map C.d).take (a*8)=((v.take a).flatMap qc).map C.d:=by rw[←List.map_take,qoK]
theorem qfv (s:S) (v:List qa) (lo hi:Option Operand):xsl T s 32 (.c (.d (.sl 8 v.length (v.flatMap qc)))) lo hi=qpY s qc 8 v (s.bd lo 0) (s.bd hi v.length):=qmx ZQ v lo hi (by rfl) (by rfl) (by decide)
theorem q1R:∀x:qb,(qh x).length=2:=q0m
theorem qoB (v:List qb):(v.flatMap qh).length=v.length*2:=by rw[Jp q1R]
theorem qab (v:List qb) (i:Nat):ld T ((v.flatMap qh).map C.d) (i*2) 50=(v[i]?).bind fun x=>some (.agg [.d (D.int .i64 x.School),.d (D.str x.Code)]):=by rw[q3N q1R v i _ (by decide) (by decide)];cases v[i]? with|none=>rfl|some x=>rw[qxH,qxH,QV];rfl
theorem qlw (v:List qb) (a_School:Int) (a_Code:ByteArray):(v.flatMap qh).map C.d++[C.d (D.int .i64 a_School),C.d (D.str a_Code)]=((v++[(qb.mk a_School a_Code)]).flatMap qh).map C.d:=by have h:=q59 (E:=qh) v (qb.mk a_School a_Code);rw[QV] at h;exact h
theorem qiP (v:List qb) (i:Nat) (a_School:Int) (a_Code:ByteArray):spr ((v.flatMap qh).map C.d) (i*2) [C.d (D.int .i64 a_School),C.d (D.str a_Code)]=((v.set i (qb.mk a_School a_Code)).flatMap qh).map C.d:=by have h:=q8f q1R v i (qb.mk a_School a_Code);rw[QV] at h;exact h
theorem qlq (v:List qb) (a:Nat):(v.flatMap qh).drop (a*2)=(v.drop a).flatMap qh:=by have h:=q6z q1R v a;exact h
theorem qlu (v:List qb) (a:Nat):(v.flatMap qh).take (a*2)=(v.take a).flatMap qh:=by have h:=q5Y q1R v a;exact h
theorem qij (v:List qb) (a:Nat):((v.flatMap qh).map C.d).drop (a*2)=((v.drop a).flatMap qh).map C.d:=by rw[←List.map_drop,qlq]
theorem qjw (v:List qb) (a:Nat):((v.flatMap qh).map C.d).take (a*2)=((v.take a).flatMap qh).map C.d:=by rw[←List.map_take,qlu]
theorem qih (v w:List qb) (i:Nat):spl (v.flatMap qh) (i*2) (w.flatMap qh)=(spl v i w).flatMap qh:=by have h:=qcO q1R w v i;exact h
theorem qd1:∀x:qg,(ql x).length=5:=Z1
theorem qp2 (v:List qg):(v.flatMap ql).length=v.length*5:=by rw[Jp qd1]
theorem qna (v:List qg) (a_Kind:Int) (a_N:Int) (a_Min:Int) (a_Set:List qb) (a_L:List qg):(v.flatMap ql).map C.d++[C.d (D.int .i64 a_Kind),C.d (D.int .i64 a_N),C.d (D.int .i64 a_Min),C.d (D.sl 2 a_Set.length (a_Set.flatMap qh)),C.d (D.sl 5 a_L.length (a_L.flatMap ql))]=((v++[(qg.mk a_Kind a_N a_Min a_Set a_L)]).flatMap ql).map C.d:=by have h:=q59 (E:=ql) v (qg.mk a_Kind a_N a_Min a_Set a_L);rw[q1Z] at h;exact h
theorem qki:∀x:(QC qb),((eA2 qh) x).length=4:=fun _=>rfl
theorem qdo:∀x:qe,(qI x).length=3:=q4J
theorem qau (v:List qe) (i:Nat):ld T ((v.flatMap qI).map C.d) (i*3) 30=(v[i]?).bind fun x=>some (.agg [.d (D.int .i64 x.Worst),.d (D.int .i64 x.Best),.d (D.int .i64 x.Pass)]):=by rw[q3N qdo v i _ (by decide) (by decide)];cases v[i]? with|none=>rfl|some x=>rw[qxH,qxH,q1z];rfl
theorem qbQ:∀x:(List qa),((eL 8 qc) x).length=1:=fun _=>rfl
theorem qaM (v:List (List qa)) (i:Nat):ld T ((v.flatMap (eL 8 qc)).map C.d) (i) 32=(v[i]?).bind fun x=>some (.c (.d (D.sl 8 x.length (x.flatMap qc)))):=by rw[q3L qbQ v i _ (by decide)];cases v[i]? with|none=>rfl|some x=>rfl
theorem q8D:∀x:(QC Int),((eA2 eI) x).length=2:=fun _=>rfl
theorem qpe (v:List (QC Int)):(v.flatMap (eA2 eI)).length=v.length*2:=by rw[Jp q8D]
theorem qaA (v:List (QC Int)) (i:Nat):ld T ((v.flatMap (eA2 eI)).map C.d) (i*2) 81=(v[i]?).bind fun x=>some (.agg [.d (D.int .i64 x.a0),.d (D.int .i64 x.a1)]):=by rw[q3N q8D v i _ (by decide) (by decide)];cases v[i]? with|none=>rfl|some x=>rw[qxH,qxH];rfl
theorem ql2 (v:List (QC Int)) (a_0:Int) (a_1:Int):(v.flatMap (eA2 eI)).map C.d++[C.d (D.int .i64 a_0),C.d (D.int .i64 a_1)]=((v++[(QC.mk a_0 a_1)]).flatMap (eA2 eI)).map C.d:=by have h:=q59 (E:=(eA2 eI)) v (QC.mk a_0 a_1);exact h
theorem qhl:∀x:ByteArray,(eS x).length=1:=fun _=>rfl
theorem qgk (v:List ByteArray) (i:Nat):ld T ((v.flatMap eS).map C.d) (i) 9=(v[i]?).bind fun x=>some (.c (.d (D.str x))):=by rw[q3L qhl v i _ (by decide)];cases v[i]? with|none=>rfl|some x=>rfl
theorem q3U:∀x:(List Int),((oL 3 1 eI) x).length=1:=fun _=>rfl
theorem q04:∀x:(List Int),((oL 3 1 eI) x).all C.pl=true:=fun _=>rfl
theorem qjt (v:List (List Int)):(v.flatMap (oL 3 1 eI)).length=v.length:=by rw[qho q3U,Nat.mul_one]
theorem qiK (v:List (List Int)) (k:Nat):(v.flatMap (oL 3 1 eI)).map (C.fg k)=v.flatMap (oL 3 1 eI):=qdE q04 (qrN k) v
theorem qkQ (v:List (List Int)) (ids:List Nat):(v.flatMap (oL 3 1 eI)).map (cn ids)=v.flatMap (oL 3 1 eI):=qdE q04 (qri ids) v
theorem qiD (v:List (List Int))  : (v.flatMap (oL 3 1 eI)).map (C.kw)=v.flatMap (oL 3 1 eI):=qdE q04 (qre) v
theorem qfG (v:List (List Int)) (k:Nat):(v.flatMap (oL 3 1 eI)).all (C.far k)=true:=qhO q04 (qmy k) v
theorem qdf (v:List (List Int)) (X:List Nat):(v.flatMap (oL 3 1 eI)).all (C.farF X)=true:=qhO q04 (qhT X) v
theorem qed (v:List (List Int)):(v.flatMap (oL 3 1 eI)).any C.isNils=false:=qnX q04 qkv v
theorem qbS (v:List (List Int)):(v.flatMap (oL 3 1 eI)).flatMap C.refs=[]:=qpv q04 qi3 v
theorem qeg (v:List (List Int)):(v.flatMap (oL 3 1 eI)).flatMap C.rows=[]:=qpv q04 qin v
theorem qjl (v:List (List Int)):(v.flatMap (oL 3 1 eI)).map C.uw=(v.flatMap (eL 1 eI)).map C.d:=qoc (E:=(oL 3 1 eI)) (F:=(eL 1 eI)) (fun _=>rfl) v
theorem qfg (v:List (List Int)) (ys:List C):q5d [some (3,1)] [] (v.flatMap (oL 3 1 eI)++ys)=v.flatMap (oL 3 1 eI)++q5d [some (3,1)] [] ys:=qha q04 q3U [some (3,1)] rfl v ys
theorem qd4 (v:List (List Int)) (i:Nat):(v.flatMap (oL 3 1 eI))[i]?=(v[i]?).bind fun x=>some (C.ow 3 1 x.length (x.flatMap eI)):=by have h:=qh7 q3U (show 0<1 by decide) v i;rwa [Nat.mul_one,Nat.add_zero] at h
theorem qfY (cs:List C) (o:Nat) (c:C):ld T (spr cs o [c]) o 25=(cs[o]?).bind fun _=>some (R.c c):=by rw[qqB (by rw[k25];simp) (by rw[k25];simp) (by rw[k25];simp),qfX]
theorem qei (v:List (List Int)) (i:Nat) (b:List Int):spr (v.flatMap (oL 3 1 eI)) i [C.ow 3 1 b.length (b.flatMap eI)]=(v.set i b).flatMap (oL 3 1 eI):=qhf q3U (x:=b) rfl v i
theorem qb4 (v:List (List Int)) (i:Nat) (w:List Int) (z:Int):spr (v.flatMap (oL 3 1 eI)) i [C.ow 3 1 (w.length+1) ((w++[z]).flatMap eI)]=(v.set i (w++[z])).flatMap (oL 3 1 eI):=by have h:=qei v i (w++[z]);rw[qxO] at h;exact h
theorem qf3 (v:List (List Int)):v.flatMap (oL 3 1 eI)++[C.ow 3 1 0 []]=(v++[[]]).flatMap (oL 3 1 eI):=qpB (E:=(oL 3 1 eI)) v []
theorem qbs {α:Type} {E:α→List D} {k:Nat} (h:∀x,(E x).length=k) (hi:∀x y,E x=E y→x=y):∀x y:QC α,eA2 E x=eA2 E y→x=y:=by
 rintro⟨a0,a1⟩ ⟨b0,b1⟩ e
 unfold eA2 at e
 dsimp only at e
 obtain⟨e,h1⟩:=List.append_inj' e (by rw[h,h])
 rw[hi _ _ e,hi _ _ h1]
theorem q2B (v w:List Int):(v.flatMap eI=w.flatMap eI)=(v=w):=propext ⟨fun h=>(QW q6X (by decide) (fun x y h=>by injection h with h;injection h) _ _) h,fun h=>by rw[h]⟩
theorem q0d (v w:List (List Int)):(v.flatMap (eL 1 eI)=w.flatMap (eL 1 eI))=(v=w):=propext ⟨fun h=>(QW q8w (by decide) (fun x y h=>by injection h with h;injection h with _ _ h;exact(QW q6X (by decide) (fun x y h=>by injection h with h;injection h) _ _) h) _ _) h,fun h=>by rw[h]⟩
theorem q4b:∀x y:qe,qI x=qI y→x=y:=by
 rintro⟨a_0,a_1,a_2⟩ ⟨b_0,b_1,b_2⟩ h
 simp only[q1z,List.cons.injEq,D.int.injEq,D.bool.injEq,D.str.injEq,D.sl.injEq,true_and,and_true,q2B,q0d] at h
 simp only[h]
theorem q0o:∀x y:qb,qh x=qh y→x=y:=by
 rintro⟨a_0,a_1⟩ ⟨b_0,b_1⟩ h
 simp only[QV,List.cons.injEq,D.int.injEq,D.bool.injEq,D.str.injEq,D.sl.injEq,true_and,and_true,q2B,q0d] at h
 simp only[h]
theorem ZJ:∀x y:qa,qc x=qc y→x=y:=by
 rintro⟨⟨a_0_0,a_0_1⟩,a_1,a_2,a_3,a_4,a_5,a_6⟩ ⟨⟨b_0_0,b_0_1⟩,b_1,b_2,b_3,b_4,b_5,b_6⟩ h
 simp only[qW,List.cons.injEq,D.int.injEq,D.bool.injEq,D.str.injEq,D.sl.injEq,true_and,and_true,q2B,q0d] at h
 simp only[h]
theorem q2Y (v w:List qa):(v.flatMap qc=w.flatMap qc)=(v=w):=propext ⟨fun h=>(QW ZQ (by decide) ZJ _ _) h,fun h=>by rw[h]⟩
theorem q2R (v w:List qb):(v.flatMap qh=w.flatMap qh)=(v=w):=propext ⟨fun h=>(QW q1R (by decide) q0o _ _) h,fun h=>by rw[h]⟩
mutual
theorem q1A:∀x y:qg,ql x=ql y→x=y
 | ⟨a0,a1,a2,a3,a4⟩,⟨b0,b1,b2,b3,b4⟩,h=>by
  rw[ql,ql] at h
  simp only[List.cons.injEq,D.int.injEq,D.bool.injEq,D.str.injEq,D.sl.injEq,true_and,and_true,q2B,q0d,q2Y,q2R] at h
  have hl:a4=b4:=q0S a4 b4 (by simp only[h])
  subst hl
  simp only[h]
theorem q0S:∀v w:List qg,Q2 v=Q2 w→v=w
 | [],[],_=>rfl
 | [],y::w,e=>by
  have:=congrArg List.length e
  rw[Q2,Q2,qxO,Z1] at this
  first|omega|(simp at this;done)|(simp at this;omega)
 | x::v,[],e=>by
  have:=congrArg List.length e
  rw[Q2,Q2,qxO,Z1] at this
  first|omega|(simp at this;done)|(simp at this;omega)
 | x::v,y::w,e=>by
  rw[Q2,Q2] at e
  obtain⟨h1,h2⟩:=List.append_inj e (by rw[Z1,Z1])
  rw[q1A x y h1,q0S v w h2]
end
theorem q4N (v w:List qg):(v.flatMap ql=w.flatMap ql)=(v=w):=propext ⟨fun h=>(QW qd1 (by decide) q1A _ _) h,fun h=>by rw[h]⟩
theorem q58 (v w:List (QC qb)):(v.flatMap (eA2 qh)=w.flatMap (eA2 qh))=(v=w):=propext ⟨fun h=>(QW qki (by decide) (qbs q0m q0o) _ _) h,fun h=>by rw[h]⟩
theorem q4C (v w:List qe):(v.flatMap qI=w.flatMap qI)=(v=w):=propext ⟨fun h=>(QW qdo (by decide) q4b _ _) h,fun h=>by rw[h]⟩
theorem q4Z (v w:List (List qa)):(v.flatMap (eL 8 qc)=w.flatMap (eL 8 qc))=(v=w):=propext ⟨fun h=>(QW qbQ (by decide) (fun x y h=>by injection h with h;injection h with _ _ h;exact(QW ZQ (by decide) ZJ _ _) h) _ _) h,fun h=>by rw[h]⟩
theorem q4K (v w:List (QC Int)):(v.flatMap (eA2 eI)=w.flatMap (eA2 eI))=(v=w):=propext ⟨fun h=>(QW q8D (by decide) (qbs (fun _=>rfl) (fun x y h=>by injection h with h;injection h)) _ _) h,fun h=>by rw[h]⟩
theorem q6O (v w:List ByteArray):(v.flatMap eS=w.flatMap eS)=(v=w):=propext ⟨fun h=>(QW qhl (by decide) (fun x y h=>by injection h with h;injection h) _ _) h,fun h=>by rw[h]⟩
def Qd (v:Int):R:=R.c (C.d (D.int .i64 v))
theorem q3R (M M':List (Int×Int)):(B.ob (mpB (JJ .i64) Qd M)=B.ob (mpB (JJ .i64) Qd M'))=(M=M'):=qjI (fun a b h=>by injection h) (fun a b h=>by simp only[Qd,R.c.injEq,C.d.injEq,D.int.injEq,D.bool.injEq,D.str.injEq,D.sl.injEq,true_and,and_true,q2B,q0d,q2Y,q2R,q4N,q58,q4C,q4Z,q4K,q6O] at h;simp only[h]) M M'
theorem qor (id:Nat) (M:List (Int×Int)):AO.mapR (R.fg id) (mpB (JJ .i64) Qd M)=mpB (JJ .i64) Qd M:=q2j (vE:=Qd) (fun v=>rfl) M
theorem qpa (f:Nat→Nat) (M:List (Int×Int)):AO.mapR (R.rn0 f) (mpB (JJ .i64) Qd M)=mpB (JJ .i64) Qd M:=q2j (vE:=Qd) (fun v=>rfl) M
theorem qmV (X:List Nat) (M:List (Int×Int)):AO.mapR (R.fgL X) (mpB (JJ .i64) Qd M)=mpB (JJ .i64) Qd M:=q2j (vE:=Qd) (fun v=>rfl) M
theorem qmw (ids:List Nat) (M:List (Int×Int)):AO.mapR (qec ids) (mpB (JJ .i64) Qd M)=mpB (JJ .i64) Qd M:=q2j (vE:=Qd) (fun v=>rfl) M
theorem qjF (M:List (Int×Int)):AO.mapR (R.nw0) (mpB (JJ .i64) Qd M)=mpB (JJ .i64) Qd M:=q2j (vE:=Qd) (fun v=>rfl) M
theorem qms (M:List (Int×Int)):(mpB (JJ .i64) Qd M).Rs.all (R.scl0)=true:=qdK (fun v=>rfl) M
theorem qpK (X:List Nat) (M:List (Int×Int)):(mpB (JJ .i64) Qd M).Rs.all (R.farL X)=true:=qdK (fun v=>rfl) M
theorem qmj (M:List (Int×Int)):(mpB (JJ .i64) Qd M).Rs.flatMap R.refs0=[]:=qh1 (fun v=>rfl) M
theorem qkF (s:S) (sel:List Nat) (M:List (Int×Int)):cvA s sel (mpB (JJ .i64) Qd M)=some (mpB (JJ .i64) Qd M):=qjn (fun v=>rfl) M
theorem qfq (M:List (Int×Int)):((mpE (JJ .i64) Qd M 0).all fun q=>plK (Kd.int .i64) q.1)=true:=q84 (fun k r i=>rfl) M 0
theorem qjO (ok:Bool) (k:Int) (M:List (Int×Int)):lkq ok (R.c (C.d (D.int .i64 0))) (fnd (Value.int .i64 k) (mpE (JJ .i64) Qd M 0) 0)=some (tt2 (R.c (C.d (D.int .i64 (Zi (0:Int) M k)))) ok (qb7 M k)):=qqW (vE:=Qd) (kE:=(JJ .i64)) (qhJ _) ((0:Int)) ok k M
theorem qk2 (k:Int) (v:Int) (M:List (Int×Int)):mup (Kd.int .i64) (Value.int .i64 k) (R.c (C.d (D.int .i64 v))) (.ob (mpB (JJ .i64) Qd M))=some (.ob (mpB (JJ .i64) Qd (q3l M k v))):=qtd (vE:=Qd) (kE:=(JJ .i64)) (qhJ _) (fun a=>rfl) k v M
theorem qlY (s:S) (p:Nat):q0h T s p 82 none=some (.c (.hd .map p),s.up [(p,.ob (mpB (JJ .i64) Qd ([]:List (Int×Int))))]):=rfl
theorem qj0 (l:List qa) (i j:Int):qb5 52 8 0 [.c (.own 0 8 0 l.length),.c (.d (.int .i64 i)),.c (.d (.int .i64 j))] [(0,.row 52 8 ((l.flatMap qc).map C.d))]=if 0≤i∧j=i+1∧i<l.length then some (.c (.own 0 8 0 (l.eraseIdx i.toNat).length),[(0,.row 52 8 (((l.eraseIdx i.toNat).flatMap qc).map C.d))]) else none:=qiL ZL l i j rfl
end
noncomputable section
open Go.RowKit
theorem qrJ:q6I Try.prog 50=true:=by kernel_rfl
def by0:=JA_ @k3 (JA_ @z3 (JA_ @b3 (JA_ @o3 (JA_ @q3 (JA_ @k4 (@q4))))))
def by1:=JA_ @k9 (JA_ @z9 (@q9))
def by2:=JA_ @k22 (JA_ @z22 (JA_ @q22 (JA_ @k23 (JA_ @z23 (JA_ @o23 (JA_ @k24 (JA_ @z24 (JA_ @k25 (JA_ @z25 (@b25))))))))))
def by3:=JA_ @o25 (JA_ @q25 (JA_ @k26 (JA_ @z26 (JA_ @k28 (JA_ @z28 (JA_ @q28 (JA_ @k30 (JA_ @z30 (JA_ @o30 (JA_ @q30 (JA_ @k32 (JA_ @z32 (JA_ @q32 (JA_ @k33 (@z33)))))))))))))))
def by4:=JA_ @q33 (JA_ @k34 (JA_ @z34 (JA_ @k36 (JA_ @z36 (JA_ @b36 (JA_ @o36 (JA_ @q36 (JA_ @k37 (JA_ @z37 (JA_ @k39 (JA_ @z39 (JA_ @o39 (@q39)))))))))))))
def by5:=JA_ @k43 (JA_ @k44 (JA_ @q45 (JA_ @k50 (JA_ @z50 (JA_ @b50 (JA_ @o50 (@q50)))))))
def by6:=JA_ @k52 (JA_ @z52 (JA_ @b52 (JA_ @o52 (@q52))))
def by7:=@k60
def by8:=JA_ @k69 (JA_ @o69 (@q69))
def by9:=JA_ @q78 (JA_ @k80 (JA_ @k81 (JA_ @z81 (JA_ @b81 (JA_ @o81 (JA_ @q81 (JA_ @k82 (JA_ @z82 (JA_ @o82 (JA_ @q82 (@q83)))))))))))
def qxu:=JA_ @q87 (JA_ @k89 (JA_ @o89 (JA_ @k90 (@q90))))
def qvC:=JA_ @q92 (JA_ @k93 (JA_ @o93 (JA_ @k96 (JA_ @z96 (JA_ @o96 (@q96))))))
def qxi:=JA_ @qw7 (JA_ @qvG (JA_ @qwI (@qw5)))
def qw9:=JA_ @qrJ (JA_ @bk_ (JA_ @qvw (JA_ @qpP (JA_ @qwr (@qwB)))))
def qwP:=JA_ @qrM (JA_ @qrt (JA_ @qsF (JA_ @qsq (JA_ @qqP (JA_ @qr3 (JA_ @qqN (JA_ @qtf (JA_ @qsO (JA_ @qsk (@qqL))))))))))
def qwF:=JA_ @qrk (JA_ @qs2 (JA_ @qqU (JA_ @qs9 (JA_ @qt7 (JA_ @qsL (@qsS))))))
def qx2:=JA_ @qrL (@qtm)
def qws:=JA_ @qrw (JA_ @qtk (JA_ @qtp (JA_ @qrI (JA_ @qsG (JA_ @qrp (@qrR))))))
def qxf:=JA_ @qoy (@qm6)
def qxw:=JA_ @pw3 (JA_ @pw8 (JA_ @pw9 (JA_ @quM (JA_ @qqs (JA_ @qu8 (JA_ @qut (JA_ @quL (JA_ @quX (JA_ @qtH (JA_ @quQ (JA_ @quh (JA_ @qum (JA_ @qtU (JA_ @qty (JA_ @quY (JA_ @qtB (JA_ @quB (JA_ @qvc (JA_ @qua (JA_ @quz (JA_ @quE (JA_ @qu6 (JA_ @qtV (JA_ @qu2 (JA_ @qv1 (JA_ @qtZ (@qtF)))))))))))))))))))))))))))
def qwc:=JA_ @quV (JA_ @qtx (JA_ @quJ (JA_ @qtP (JA_ @quu (JA_ @quw (JA_ @quF (JA_ @quI (JA_ @qu4 (JA_ @qtE (JA_ @quy (JA_ @quk (JA_ @qv4 (JA_ @que (JA_ @qrq (JA_ @quv (JA_ @quT (JA_ @qul (JA_ @qu1 (JA_ @qr4 (JA_ @qtO (JA_ @quf (JA_ @qtN (JA_ @qv9 (JA_ @qtS (JA_ @qrE (JA_ @quG (JA_ @qtC (JA_ @qv3 (JA_ @qtL (@qvb))))))))))))))))))))))))))))))
def qxk:=JA_ @qvu (JA_ @quN (JA_ @qur (JA_ @qth (JA_ @quS (JA_ @qun (JA_ @quP (JA_ @qtI (JA_ @qtR (JA_ @qud (@qwT))))))))))
def qvm:=JA_ @qrV (JA_ @qse (JA_ @qrc (JA_ @qrY (JA_ @qr9 (JA_ @qsu (JA_ @qqG (JA_ @qtj (JA_ @qqR (JA_ @qru (JA_ @qrb (JA_ @qqX (@qt1))))))))))))
def qvZ:=JA_ @qtc (JA_ @qsm (JA_ @qtq (JA_ @qs1 (JA_ @qsU (JA_ @qsc (JA_ @qtt (JA_ @qs7 (JA_ @qsC (JA_ @qqV (JA_ @qrX (JA_ @qsr (JA_ @qsl (JA_ @qr2 (JA_ @qsQ (JA_ @qrO (JA_ @qrK (JA_ @qsX (@qsZ))))))))))))))))))
def qx3:=JA_ @qnB (JA_ @qmM (JA_ @qrH (JA_ @qsa (JA_ @qqF (JA_ @qm0 (JA_ @qmC (JA_ @qlm (JA_ @qpF (@qn7)))))))))
def qvF:=JA_ @qme (JA_ @qjk (JA_ @qi4 (JA_ @qky (JA_ @qip (JA_ @qn9 (JA_ @qpm (JA_ @qoE (JA_ @qmo (JA_ @qmY (JA_ @qln (JA_ @qmn (JA_ @qnZ (JA_ @qpg (JA_ @qmh (JA_ @qm1 (JA_ @qnj (JA_ @qll (JA_ @qi5 (JA_ @qmq (JA_ @qpf (JA_ @qmG (JA_ @qn0 (JA_ @qo9 (@qph))))))))))))))))))))))))
def qwY:=JA_ @qmL (JA_ @qm3 (@qnm))
def qwh:=JA_ @qrg (JA_ @qpE (JA_ @qrs (JA_ @qqJ (JA_ @qon (JA_ @qjr (@qlK))))))
def qvV:=JA_ @qn4 (JA_ @qnS (JA_ @qjd (JA_ @qim (JA_ @qke (JA_ @qiI (JA_ @qlL (JA_ @qlW (JA_ @qos (JA_ @qod (JA_ @qoC (JA_ @qoo (JA_ @qnk (JA_ @qmT (JA_ @qle (JA_ @qlU (JA_ @qoa (JA_ @qoL (JA_ @qmR (JA_ @qkJ (JA_ @qpM (JA_ @qpN (JA_ @qmS (JA_ @qj8 (JA_ @qic (@qnN)))))))))))))))))))))))))
def qwZ:=JA_ @qof (JA_ @qsH (JA_ @qoD (JA_ @qrB (JA_ @qsN (JA_ @qoV (JA_ @qjv (JA_ @qmP (@qpH))))))))
def qvX:=JA_ @qjX (JA_ @qj5 (JA_ @qkz (JA_ @qjJ (JA_ @qm4 (JA_ @qni (JA_ @qnU (JA_ @qnK (JA_ @qp7 (JA_ @qlF (JA_ @qno (JA_ @qo6 (JA_ @qm7 (JA_ @qpj (JA_ @qlG (JA_ @qlR (JA_ @qpC (JA_ @qjN (JA_ @qn5 (JA_ @qlf (JA_ @qmf (JA_ @qk6 (JA_ @qiQ (@qpz)))))))))))))))))))))))
def bt0:=JA_ @qmu (JA_ @qaC (JA_ @qqC (JA_ @qgA (JA_ @qt9 (JA_ @qnl (JA_ @qm8 (JA_ @qpO (@qar))))))))
def bt1:=JA_ @qdz (JA_ @qbP (JA_ @qal (JA_ @qnu (@qjp))))
def bt2:=JA_ @qoX (JA_ @qiJ (JA_ @qjU (JA_ @qfv (JA_ @qoB (JA_ @qab (JA_ @qlw (JA_ @qiP (@qij))))))))
def bt3:=JA_ @qjw (JA_ @qih (JA_ @qp2 (@qna)))
def bt5:=@qau
def bt6:=JA_ @qaM (JA_ @qpe (JA_ @qaA (@ql2)))
def bt7:=JA_ @qgk (JA_ @qor (JA_ @qpa (JA_ @qmV (JA_ @qmw (JA_ @qjF (@qms))))))
def bt8:=JA_ @qpK (JA_ @qmj (JA_ @qkF (JA_ @qfq (JA_ @qjO (JA_ @qk2 (JA_ @qlY (JA_ @qj0 (JA_ @qjt (JA_ @qiK (JA_ @qkQ (JA_ @qiD (JA_ @qfG (JA_ @qdf (JA_ @qed (JA_ @qbS (JA_ @qeg (JA_ @qjl (JA_ @qfg (JA_ @qd4 (JA_ @qfY (JA_ @qb4 (JA_ @qf3 (@q4G)))))))))))))))))))))))
def bt9:=JA_ @q5k (JA_ @q1G (JA_ @q3C (JA_ @q0Y (@q3A))))
def bA:=JA_ @bx0 (JA_ @bx1 (JA_ @bx2 (JA_ @bx3 (JA_ @bx4 (JA_ @bx5 (JA_ @bx6 (JA_ @bx7 (JA_ @bx8 (JA_ @bx9 (JA_ @qwE (JA_ @qx4 (JA_ @qxb (JA_ @qvt (JA_ @qwL (JA_ @qxg (JA_ @qwm (JA_ @qvJ (JA_ @qwd (JA_ @qvh (JA_ @qx7 (JA_ @qvW (JA_ @qxv (JA_ @qxq (JA_ @qxz (JA_ @qwM (JA_ @qx5 (JA_ @qwA (JA_ @qxo (JA_ @qxp (JA_ @qvl (JA_ @qwW (JA_ @bz0 (JA_ @bz1 (JA_ @bz2 (JA_ @bz3 (JA_ @bz5 (JA_ @by0 (JA_ @by1 (JA_ @by2 (JA_ @by3 (JA_ @by4 (JA_ @by5 (JA_ @by6 (JA_ @by7 (JA_ @by8 (JA_ @by9 (JA_ @qxu (JA_ @qvC (JA_ @qxi (JA_ @qw9 (JA_ @qwP (JA_ @qwF (JA_ @qx2 (JA_ @qws (JA_ @qxf (JA_ @qxw (JA_ @qwc (JA_ @qxk (JA_ @qvm (JA_ @qvZ (JA_ @qx3 (JA_ @qvF (JA_ @qwY (JA_ @qwh (JA_ @qvV (JA_ @qwZ (JA_ @qvX (JA_ @bt0 (JA_ @bt1 (JA_ @bt2 (JA_ @bt3 (JA_ @bt5 (JA_ @bt6 (JA_ @bt7 (JA_ @bt8 (@bt9))))))))))))))))))))))))))))))))))))))))))))))))))))))))))))))))))))))))))))
def bZ:=JA_ @qxO.{0} (JA_ @qys.{0} (JA_ @q0c (JA_ @qyo.{0} (JA_ @qxS.{0} (JA_ @qyq.{0} (JA_ @qy5 (JA_ @qyL.{0,0} (JA_ @List.flatMap_nil.{0,0} (JA_ @qy4.{0,0} (JA_ @List.map_nil.{0,0} (JA_ @eI.eq_1 (JA_ @eS.eq_1 (JA_ @qyM.{0} (JA_ @qy1.{0} (JA_ @qy2.{0} (JA_ @List.flatMap_append.{0,0} (JA_ @List.map_append.{0,0} (JA_ @QV (JA_ @qW (@eA2.eq_1))))))))))))))))))))
theorem gA {P:Prop} (h:P:=by simp -implicitDefEqProofs (maxSteps:=10000000) only[bA,Int.reduceToNat,Int.reduceLT,Int.reduceLE,Int.reduceAdd,Int.reduceSub,Int.reduceMul,Int.reduceNeg,Int.reduceEq,Int.reduceNe,Int.reduceBEq,Int.reduceBNe,Nat.reduceLT,Nat.reduceAdd,Nat.reduceMul,Nat.reduceSub,Nat.reduceEqDiff,Nat.reduceLeDiff,Nat.reduceBEq,Nat.reduceBNe,↓reduceIte,reduceCtorEq,pure,bind,w64,qS,QQ,Option.or_some,Option.or_none,Option.none_or,Option.some_or, *]<;>simp only[rL,dL,bR,bZ,Nat.reduceAdd]):P:=h
end
noncomputable section
open Go.RowKit
section
variable {τ ε:Type} {step:τ→Option (τ⊕ε)}
theorem zX {x y:τ} (h:step x=some (.inl y)):qz step x=qz step y:=by
 rw[qev,h];rfl
theorem qZ {x:τ} {e:ε} (h:step x=some (.inr e)):qz step x=some e:=by
 rw[qev,h];rfl
theorem q2i {e:ε} (st:Nat→τ) (i0 n:Nat) (h0:i0≤n) (h:∀i,i0≤i→i<n→step (st i)=some (.inl (st (i+1)))) (hn:step (st n)=some (.inr e)):qz step (st i0)=some e:=by
 have key:∀j i,j+i=n→i0≤i→qz step (st i)=some e:=by
  intro j
  induction j with
  | zero=>intro i hi _;rw[qy5] at hi;subst hi;exact qZ hn
  | succ j ih=>intro i hi h1;rw[zX (h i h1 (by omega))];exact ih (i+1) (by omega) (by omega)
 exact key (n-i0) i0 (by omega) (qxX _)
def q60 {α β ε:Type} (g:β→α→β⊕ε) (fin:β→ε):List α→β→ε
 | [],b=>fin b
 | a::l,b=>match g b a with
  | .inl b'=>q60 g fin l b'
  | .inr e=>e
theorem q5H {α β:Type} (l:List α) (st:β→Nat→τ) (g:β→α→β⊕ε) (fin:β→ε)
  (h:∀b i a,l[i]?=some a→step (st b i)=some (match g b a with | .inl b' => .inl (st b' (i+1)) | .inr e => .inr e)) (hn:∀b,step (st b l.length)=some (.inr (fin b))) (b:β):qz step (st b 0)=some (q60 g fin l b):=by
 have key:∀(r:List α) (i:Nat) (b:β),r.length+i=l.length→(∀j,r[j]?=l[i+j]?)→qz step (st b i)=some (q60 g fin r b):=by
  intro r
  induction r with
  | nil=>
   intro i b hi _
   have hi:i=l.length:=by simpa using hi
   subst hi;exact qZ (hn b)
  | cons a r ih=>
   intro i b hi hr
   have ha:l[i]?=some a:=by have:=hr 0;simpa using this.symm
   have h1:=h b i a ha
   unfold q60
   cases hg:g b a with
   | inl b'=>
    rw[hg] at h1
    rw[zX h1]
    refine ih (i+1) b' (by simp at hi;omega) fun j=>?_
    have:=hr (j+1)
    rw[show i+1+j=i+(j+1) by omega,←this];rfl
   | inr e=>
    rw[hg] at h1
    exact qZ h1
 exact key l 0 b (by simp) (by simp)
theorem q2L {α β:Type} (l:List α) (st:β→Nat→τ) (g:β→α→β) (fin:β→ε)
  (h:∀b i a,l[i]?=some a→step (st b i)=some (.inl (st (g b a) (i+1)))) (hn:∀b,step (st b l.length)=some (.inr (fin b))) (b:β):qz step (st b 0)=some (fin (l.foldl g b)):=by
 rw[q5H l st (fun b a => .inl (g b a)) fin h hn b]
 congr 1
 induction l generalizing b with
 | nil=>rfl
 | cons a l ih=>
  unfold q60
  simp only[qyK]
  clear h hn
  have:∀(l:List α) (b:β),q60 (ε:=ε) (fun b a => .inl (g b a)) fin l b=fin (l.foldl g b):=by
   intro l
   induction l with
   | nil=>intro b;rfl
   | cons a l ih=>intro b;unfold q60;simp only[qyK];exact ih _
  exact this l _
theorem qd0 {α:Type} (l:List α) (st:Nat→τ) (p:α→Option ε) (d:ε)
  (h:∀i a,l[i]?=some a→step (st i)=some (match p a with|some e => .inr e|none => .inl (st (i+1)))) (hn:step (st l.length)=some (.inr d)):qz step (st 0)=some ((l.findSome? p).getD d):=by
 have h1:=q5H (ε:=ε) (β:=Unit) l (fun _ i=>st i) (fun _ a=>match p a with|some e => .inr e|none => .inl ()) (fun _=>d) (fun b i a ha=>by
  rw[h i a ha];cases p a<;>rfl) (fun _=>hn) ()
 rw[h1]
 congr 1
 have:∀l:List α,q60 (ε:=ε) (fun(_:Unit) a=>match p a with|some e => .inr e|none => .inl ()) (fun _=>d) l ()=(l.findSome? p).getD d:=by
  intro l
  induction l with
  | nil=>rfl
  | cons a l ih=>
   unfold q60
   rw[List.findSome?_cons]
   cases p a with
   | none=>simpa using ih
   | some e=>rfl
 exact this l
def q8a {α β ε:Type} (g:Nat→β→α→β⊕ε) (fin:β→ε):List α→Nat→β→ε
 | [],_,b=>fin b
 | a::l,i,b=>match g i b a with
  | .inl b'=>q8a g fin l (i+1) b'
  | .inr e=>e
theorem qb3 {α β:Type} (l:List α) (st:β→Nat→τ) (g:Nat→β→α→β⊕ε) (fin:β→ε)
  (h:∀b i a,l[i]?=some a→step (st b i)=some (match g i b a with | .inl b' => .inl (st b' (i+1)) | .inr e => .inr e)) (hn:∀b,step (st b l.length)=some (.inr (fin b))) (b:β):qz step (st b 0)=some (q8a g fin l 0 b):=by
 have key:∀(r:List α) (i:Nat) (b:β),r.length+i=l.length→(∀j,r[j]?=l[i+j]?)→qz step (st b i)=some (q8a g fin r i b):=by
  intro r
  induction r with
  | nil=>
   intro i b hi _
   have hi:i=l.length:=by simpa using hi
   subst hi;exact qZ (hn b)
  | cons a r ih=>
   intro i b hi hr
   have ha:l[i]?=some a:=by have:=hr 0;simpa using this.symm
   have h1:=h b i a ha
   unfold q8a
   cases hg:g i b a with
   | inl b'=>
    rw[hg] at h1
    rw[zX h1]
    refine ih (i+1) b' (by simp at hi;omega) fun j=>?_
    have:=hr (j+1)
    rw[show i+1+j=i+(j+1) by omega,←this];rfl
   | inr e=>
    rw[hg] at h1
    exact qZ h1
 exact key l 0 b (by simp) (by simp)
end
theorem Qb {α:Type} {l:List α} {i:Nat} {a:α} (h:l[i]?=some a):i<l.length:=(qxL.1 h).1
theorem zH {n:Int} (h0 : -9223372036854775808≤n) (h1:n≤9223372036854775807):w64 n=n:=wi n h0 h1
theorem q6d {i n:Nat} (h:i<n) (hn:n≤9223372036854775807):w64 ((i:Int)+1)=((i+1:Nat):Int):=by
 rw[zH (by omega) (by omega)];omega
end
noncomputable section
open Go.RowKit
set_option maxRecDepth 20000
set_option maxHeartbeats 8000000
theorem qiq:okL 19 q2x:=qB (qi qgC) (by kernel_rfl) (by kernel_rfl)
def qkI:=JA_ @q2x.eq_1 (JA_ @Try.f19.eq_1 @qgC)
theorem qpw:lbO 19 4=qeh:=zE (qi qgC) rfl
theorem qoi:okL 19 qeh:=qT qiq (qxI (i:=0) (by kernel_rfl))
theorem qpJ:lbO 19 8=qdk:=zE (qi qgC) rfl
theorem qnb:okL 19 qdk:=qT qiq (qxI (i:=1) (by kernel_rfl))
theorem qkM:lbO 19 15=q86:=zE (qi qgC) rfl
theorem qjq:okL 19 q86:=qT qiq (qxI (i:=2) (by kernel_rfl))
theorem qhR:lbO 19 17=q7P:=zE (qi qgC) rfl
theorem qk4:okL 19 q7P:=qT qiq (qxI (i:=3) (by kernel_rfl))
theorem qjy:lbO 19 25=q7X:=zE (qi qgC) rfl
theorem qkg:okL 19 q7X:=qT qiq (qxI (i:=4) (by kernel_rfl))
theorem qj6:lbO 19 32=q8v:=zE (qi qgC) rfl
theorem qiS:okL 19 q8v:=qT qiq (qxI (i:=5) (by kernel_rfl))
theorem qx6:okL 23 qdW:=qB (qi qsv) (by kernel_rfl) (by kernel_rfl)
def qvE:=JA_ @qdW.eq_1 (JA_ @Try.f23.eq_1 @qsv)
theorem qu7:okL 38 q9f:=qB (qi qpQ) (by kernel_rfl) (by kernel_rfl)
def qv2:=JA_ @q9f.eq_1 (JA_ @Try.f38.eq_1 @qpQ)
theorem qlT:lbO 38 4=qe5:=zE (qi qpQ) rfl
theorem qly:okL 38 qe5:=qT qu7 (qxI (i:=0) (by kernel_rfl))
def qK (s1:List Int) (s2:List Int) (t12:Int):Int→Option (Int⊕(Unit⊕Unit))|t13=>if t13<t12 then if 0≤t13∧t13<((s1.length:Nat):Int) then Option.bind s1[Int.toNat t13]? fun(a:Int)=>if 0≤t13∧t13<((s2.length:Nat):Int) then Option.bind s2[Int.toNat t13]? fun(a2:Int)=>if(a != a2)=Bool.true then some (Sum.inr (Sum.inl ())) else some (Sum.inl (w64 (t13+1))) else none else none else some (Sum.inr (Sum.inr ()))
theorem ZV:∀(s1 s2:List Int) (t12 t13:Int),XL2 evo 38 0 4 ⟨[(0,rL 1 eI s1),(1,rL 1 eI s2),(12,rI t12),(13,rI t13)],[],0,26⟩=(qz (qK s1 s2 t12) t13).bind (Sum.elim (fun(e:Unit)=>some (Exit.ret,⟨[(4,rB Bool.false)],[],0,26⟩)) (fun(e:Unit)=>some (Exit.exit 0,⟨[(4,R.any)],[],0,26⟩))):=
 fun s1 s2 t12 t13=>by
  revert t13;exact q5s qlT qly (fun e=>by rcases e with _|_<;>exact⟨_,rfl,fun h=>by cases h⟩) fun x=>by
   have:=qv2;have:=@qe5.eq_1;have:=@qK.eq_1;exact gA
def zc (s1:List Int) (s2:List Int):Option Bool:=if(((s1.length:Nat):Int) != ((s2.length:Nat):Int))=Bool.true then some Bool.false else Option.bind (qz (qK s1 s2 ((s1.length:Nat):Int)) 0) fun(a:Sum Unit Unit)=>Sum.elim (fun(a2:Unit)=>some Bool.false) (fun(a3:Unit)=>some Bool.true) a
theorem Z7:∀(s1 s2:List Int),ev 38 0 [rL 1 eI s1,rL 1 eI s2] []=(zc s1 s2).bind (fun(e:Bool)=>some (rB e,[])):=
 fun s1 s2=>by
  rw[qy qpQ quV.2.2.2 qu7]
  have:=qv2;have:=@ZV;have:=@zc.eq_1;exact gA
theorem qvS:okL 48 qeD:=qB (qi qrS) (by kernel_rfl) (by kernel_rfl)
def qvA:=JA_ @qeD.eq_1 (JA_ @Try.f48.eq_1 @qrS)
theorem quO:okL 61 qeb:=qB (qi qpX) (by kernel_rfl) (by kernel_rfl)
def qv8:=JA_ @qeb.eq_1 (JA_ @Try.f61.eq_1 @qpX)
theorem qro:okL 81 q8Z:=qB (qi qn6) (by kernel_rfl) (by kernel_rfl)
def qqu:=JA_ @q8Z.eq_1 (JA_ @Try.f81.eq_1 @qn6)
theorem qhs:lbO 81 2=q8S:=zE (qi qn6) rfl
theorem qhv:okL 81 q8S:=qT qro (qxI (i:=0) (by kernel_rfl))
theorem qxm:okL 71 qcT:=qB (qi qs5) (by kernel_rfl) (by kernel_rfl)
def qwj:=JA_ @qcT.eq_1 (JA_ @Try.f71.eq_1 @qs5)
theorem qw4:okL 60 qcl:=qB (qi qs8) (by kernel_rfl) (by kernel_rfl)
def qvK:=JA_ @qcl.eq_1 (JA_ @Try.f60.eq_1 @qs8)
theorem quH:okL 80 q9P:=qB (qi qqw) (by kernel_rfl) (by kernel_rfl)
def quU:=JA_ @q9P.eq_1 (JA_ @Try.f80.eq_1 @qqw)
theorem qoz:lbO 80 2=qd9:=zE (qi qqw) rfl
theorem qoN:okL 80 qd9:=qT quH (qxI (i:=0) (by kernel_rfl))
def qU (s:List Int) (v:Int) (t7:Int):Int→Option (Int⊕(Int⊕Unit))|t8=>if t8<t7 then if 0≤t8∧t8<((s.length:Nat):Int) then Option.bind s[Int.toNat t8]? fun(a:Int)=>if(v==a)=Bool.true then some (Sum.inr (Sum.inl t8)) else some (Sum.inl (w64 (t8+1))) else none else some (Sum.inr (Sum.inr ()))
theorem J0:∀(s:List Int) (v t7 t8:Int),XL2 evo 80 0 2 ⟨[(0,rL 1 eI s),(1,rI v),(7,rI t7),(8,rI t8)],[],0,19⟩=(qz (qU s v t7) t8).bind (Sum.elim (fun(e:Int)=>some (Exit.ret,⟨[(4,rI e)],[],0,19⟩)) (fun(e:Unit)=>some (Exit.exit 0,⟨[(4,R.any)],[],0,19⟩))):=
 fun s v t7 t8=>by
  revert t8;exact q5s qoz qoN (fun e=>by rcases e with _|_<;>exact⟨_,rfl,fun h=>by cases h⟩) fun x=>by
   have:=quU;have:=@qd9.eq_1;have:=@qU.eq_1;exact gA
def Qc (s:List Int) (v:Int):Option Int:=Option.bind (qz (qU s v ((s.length:Nat):Int)) 0) fun(a:Sum Int Unit)=>Sum.elim (fun(a2:Int)=>some a2) (fun(a3:Unit)=>some (-1)) a
theorem Ju:∀(s:List Int) (v:Int),ev 80 0 [rL 1 eI s,rI v] []=(Qc s v).bind (fun(e:Int)=>some (rI e,[])):=
 fun s v=>by
  rw[qy qqw qur.2.2.2 quH]
  have:=quU;have:=@J0;have:=@Qc.eq_1;exact gA
def qV (s:List Int) (v:Int):Option Bool:=Option.bind (Qc s v) fun(a:Int)=>some (decide (0≤a))
theorem QL:∀(s:List Int) (v:Int),ev 60 0 [rL 1 eI s,rI v] []=(qV s v).bind (fun(e:Bool)=>some (rB e,[])):=
 fun s v=>by
  rw[qy qs8 qu1.2.2.2 qw4]
  have:=qvK;have:=@Ju;have:=@qV.eq_1;exact gA
def QM (x:Int) (v:List Int):Option Bool:=Option.bind (qV v x) fun(a:Bool)=>some a
theorem q0R:∀(x:Int) (v:List Int),ev 71 1 [rI x,rP 0] [(0,B.blk 25 [dL 1 eI v])]=(QM x v).bind (fun(e:Bool)=>some (rB e,[(0,B.blk 25 [dL 1 eI v])])):=
 fun x v=>by
  rw[qy qs5 qv3.2.2.2 qxm]
  have:=qwj;have:=@QL;have:=@QM.eq_1;exact gA
def qJ (b0:List Int) (s:List Int) (t7:Int):Int→Option (Int⊕(Int⊕Unit))|t8=>if t8<t7 then if 0≤t8∧t8<((s.length:Nat):Int) then Option.bind s[Int.toNat t8]? fun(a:Int)=>Option.bind (QM a b0) fun(a2:Bool)=>if a2=Bool.true then some (Sum.inr (Sum.inl t8)) else some (Sum.inl (w64 (t8+1))) else none else some (Sum.inr (Sum.inr ()))
theorem Zt:∀(b0 s:List Int) (t7 t8:Int),XL2 evo 81 1 2 ⟨[(0,rL 1 eI s),(1,R.c (C.fn 71 [] [dP 0])),(7,rI t7),(8,rI t8)],[(0,B.blk 25 [dL 1 eI b0])],1,19⟩=(qz (qJ b0 s t7) t8).bind (Sum.elim (fun(e:Int)=>some (Exit.ret,⟨[(4,rI e)],[(0,B.blk 25 [dL 1 eI b0])],1,19⟩)) (fun(e:Unit)=>some (Exit.exit 0,⟨[(4,R.any)],[(0,B.blk 25 [dL 1 eI b0])],1,19⟩))):=
 fun b0 s t7 t8=>by
  revert t8;exact q5s qhs qhv (fun e=>by rcases e with _|_<;>exact⟨_,rfl,fun h=>by cases h⟩) fun x=>by
   have:=qqu;have:=@q8S.eq_1;have:=@q0R;have:=@qJ.eq_1;exact gA
def zG (s:List Int) (b0:List Int):Option Int:=Option.bind (qz (qJ b0 s ((s.length:Nat):Int)) 0) fun(a:Sum Int Unit)=>Sum.elim (fun(a2:Int)=>some a2) (fun(a3:Unit)=>some (-1)) a
theorem ZP:∀(s b0:List Int),ev 81 1 [rL 1 eI s,R.c (C.fn 71 [] [dP 0])] [(0,B.blk 25 [dL 1 eI b0])]=(zG s b0).bind (fun(e:Int)=>some (rI e,[(0,B.blk 25 [dL 1 eI b0])])):=
 fun s b0=>by
  rw[qy qn6 qth.2.2.2 qro]
  have:=qqu;have:=@Zt;have:=@zG.eq_1;exact gA
def zh (s:List Int) (b0:List Int):Option Bool:=Option.bind (zG s b0) fun(a:Int)=>some (decide (0≤a))
theorem Zs:∀(s b0:List Int),ev 61 1 [rL 1 eI s,R.c (C.fn 71 [] [dP 0])] [(0,B.blk 25 [dL 1 eI b0])]=(zh s b0).bind (fun(e:Bool)=>some (rB e,[(0,B.blk 25 [dL 1 eI b0])])):=
 fun s b0=>by
  rw[qy qpX qr4.2.2.2 quO]
  have:=qv8;have:=@ZP;have:=@zh.eq_1;exact gA
def Q9 (a:List Int) (b:List Int):Option Bool:=Option.bind (zh a b) fun(a2:Bool)=>some a2
theorem q2d:∀(a b:List Int),ev 48 0 [rL 1 eI a,rL 1 eI b] []=(Q9 a b).bind (fun(e:Bool)=>some (rB e,[])):=
 fun a b=>by
  rw[qy qrS quI.2.2.2 qvS]
  have:=qvA;have:=@Zs;have:=@Q9.eq_1;exact gA
def Zc (a:qa) (b:qa):Option Bool:=if(a.Course.School==b.Course.School)=Bool.true∧(ByteArray.toList a.Course.Code==ByteArray.toList b.Course.Code)=Bool.true then some Bool.false else if 0<a.Bundle then if(a.Bundle==b.Bundle)=Bool.true then Option.bind (zc a.Path b.Path) fun(a2:Bool)=>if a2=Bool.true then some Bool.true else Option.bind (Q9 a.Sources b.Sources) fun(a3:Bool)=>some (!a3) else Option.bind (Q9 a.Sources b.Sources) fun(a4:Bool)=>some (!a4) else Option.bind (Q9 a.Sources b.Sources) fun(a5:Bool)=>some (!a5)
theorem q0N:∀(a_Course_School:Int) (a_Course_Code:ByteArray) (a_Credits a_Grade a_Day:Int) (a_Sources:List Int) (a_Bundle:Int) (a_Path:List Int) (b_Course_School:Int) (b_Course_Code:ByteArray) (b_Credits b_Grade b_Day:Int) (b_Sources:List Int) (b_Bundle:Int) (b_Path:List Int),ev 23 0 [R.agg [dI a_Course_School,dS a_Course_Code,dI a_Credits,dI a_Grade,dI a_Day,dL 1 eI a_Sources,dI a_Bundle,dL 1 eI a_Path],R.agg [dI b_Course_School,dS b_Course_Code,dI b_Credits,dI b_Grade,dI b_Day,dL 1 eI b_Sources,dI b_Bundle,dL 1 eI b_Path]] []=(Zc (qa.mk (qb.mk a_Course_School a_Course_Code) a_Credits a_Grade a_Day a_Sources a_Bundle a_Path) (qa.mk (qb.mk b_Course_School b_Course_Code) b_Credits b_Grade b_Day b_Sources b_Bundle b_Path)).bind (fun(e:Bool)=>some (rB e,[])):=
 fun a_Course_School a_Course_Code a_Credits a_Grade a_Day a_Sources a_Bundle a_Path b_Course_School b_Course_Code b_Credits b_Grade b_Day b_Sources b_Bundle b_Path=>by
  rw[qy qsv qty.2.2.2 qx6]
  have:=qvE;have:=@Z7;have:=@q2d;have:=@Zc.eq_1;exact gA
def zI (w1:List Int) (t0:List qa) (t5:Int) (t19:Int) (t20:Int) (t27:Int):(List (QC Int)×Int)→Option ((List (QC Int)×Int)⊕(List (QC Int)))|(w0,t28)=>if t28<t27 then if 0≤t28∧t28<((t0.length:Nat):Int) then Option.bind t0[Int.toNat t28]? fun(a:qa)=>if 0≤t5∧t5<((t0.length:Nat):Int) then Option.bind t0[Int.toNat t5]? fun(a2:qa)=>Option.bind (Zc a a2) fun(a3:Bool)=>if(!a3)=Bool.true then if w0.length+1≤maxLen∧(w0.length+1)*16≤140737488355328 then some (Sum.inl (w0++[QC.mk t28 t5],w64 (t28+1))) else none else some (Sum.inl (w0,w64 (t28+1))) else none else none else some (Sum.inr w0)
theorem q1o:∀(w0:List (QC Int)) (w1:List Int) (t0:List qa) (t5 t19 t20 t27 t28:Int) (w0_len w1_len:Nat),w0_len=w0.length→w1_len=w1.length→XL2 evo 19 0 8 ⟨[(0,rL 8 qc t0),(3,rO 0 2 w0_len),(4,rO 1 1 w1_len),(5,rI t5),(19,rI t19),(20,rI t20),(27,rI t27),(28,rI t28)],[(0,bR 81 2 (eA2 eI) w0),(1,bR 3 1 eI w1)],2,128⟩=(qz (zI w1 t0 t5 t19 t20 t27) (w0,t28)).bind (fun(e:List (QC Int))=>some (Exit.exit 2,⟨[(0,rL 8 qc t0),(3,rO 0 2 e.length),(4,rO 1 1 w1.length),(19,rI t19),(20,rI t20)],[(0,bR 81 2 (eA2 eI) e),(1,bR 3 1 eI w1)],2,128⟩)):=
 by
 intro w0 w1 t0 t5 t19 t20 t27 t28 w0_len w1_len h0 h1
 subst h0 h1
 revert t28;revert w0;exact q9T qpJ qnb (fun e=>by exact⟨_,rfl,fun h=>by cases h⟩) fun w0 t28=>by
  have:=qkI;have:=@qdk.eq_1;have:=@q0N;have:=@zI.eq_1;exact gA
def zr (t0:List qa) (t19:Int):(List (QC Int)×List Int×Int)→Option ((List (QC Int)×List Int×Int)⊕(List (QC Int)×List Int))|(w0,w1,t20)=>if t20<t19 then if 0≤t20∧t20<((w1.length:Nat):Int) then if Int.toNat t20+1≤w1.length then Option.bind (qz (zI (List.set w1 (Int.toNat t20) t20) t0 t20 t19 t20 t20) (w0,0)) fun(a:List (@QC Int))=>some (Sum.inl (a,List.set w1 (Int.toNat t20) t20,w64 (t20+1))) else none else none else some (Sum.inr (w0,w1))
theorem q1s:∀(w0:List (QC Int)) (w1:List Int) (t0:List qa) (t19 t20:Int) (w0_len w1_len:Nat),w0_len=w0.length→w1_len=w1.length→XL2 evo 19 0 4 ⟨[(0,rL 8 qc t0),(3,rO 0 2 w0_len),(4,rO 1 1 w1_len),(19,rI t19),(20,rI t20)],[(0,bR 81 2 (eA2 eI) w0),(1,bR 3 1 eI w1)],2,128⟩=(qz (zr t0 t19) (w0,w1,t20)).bind (fun(e:List (QC Int)×List Int)=>some (Exit.exit 0,⟨[(0,rL 8 qc t0),(3,rO 0 2 e.1.length),(4,rO 1 1 e.2.length)],[(0,bR 81 2 (eA2 eI) e.1),(1,bR 3 1 eI e.2)],2,128⟩)):=
 by
 intro w0 w1 t0 t19 t20 w0_len w1_len h0 h1
 subst h0 h1
 revert t20;revert w1;revert w0;exact qrz qpw qoi (fun e=>by exact⟨_,rfl,fun h=>by cases h⟩) fun w0 w1 t20=>by
  have:=qkI;have:=@qeh.eq_1;have:=@q1o;have:=@zr.eq_1;exact gA
theorem q0b:∀  (w1:List Int) (t0:List qa) (t19 t20:Int) (w1_len:Nat),w1_len=w1.length→XL2 evo 19 0 4 ⟨[(0,rL 8 qc t0),(3,rO 0 2 0),(4,rO 1 1 w1_len),(19,rI t19),(20,rI t20)],[(0,B.row 81 2 []),(1,bR 3 1 eI w1)],2,128⟩=(qz (zr t0 t19) ([],w1,t20)).bind (fun(e:List (QC Int)×List Int)=>some (Exit.exit 0,⟨[(0,rL 8 qc t0),(3,rO 0 2 e.1.length),(4,rO 1 1 e.2.length)],[(0,bR 81 2 (eA2 eI) e.1),(1,bR 3 1 eI e.2)],2,128⟩)):=by
 intro w1 t0 t19 t20 w1_len h0;subst h0;have h:=q1s [] w1 t0 t19 t20 _ _ rfl rfl
 first
  | exact h
  | (simp only[rL,dL,bR,bZ,Nat.reduceAdd] at h;exact h)
def zC (w0:List (QC Int)) (t0:List qa) (t50:Int) (t51:Int) (t54:Int):(List Int×Int)→Option ((List Int×Int)⊕(List Int))|(w1,t55)=>if t55<t54 then if 0≤t55∧t55<((w0.length:Nat):Int) then Option.bind w0[Int.toNat t55]? fun(a:@QC Int)=>if 0≤a.a0∧a.a0<((w1.length:Nat):Int) then Option.bind w1[Int.toNat a.a0]? fun(a2:Int)=>if 0≤a.a1∧a.a1<((w1.length:Nat):Int) then Option.bind w1[Int.toNat a.a1]? fun(a3:Int)=>if 0≤a.a0∧a.a0<((w1.length:Nat):Int) then if Int.toNat a.a0+1≤w1.length then if 0≤a.a1∧a.a1<((w1.length:Nat):Int) then if Int.toNat a.a1+1≤w1.length then some (Sum.inl (List.set (List.set w1 (Int.toNat a.a0) (min a2 a3)) (Int.toNat a.a1) (min a2 a3),w64 (t55+1))) else none else none else none else none else none else none else none else some (Sum.inr w1)
theorem q0Q:∀(w0:List (QC Int)) (w1:List Int) (t0:List qa) (t50 t51 t54 t55:Int) (w0_len w1_len:Nat),w0_len=w0.length→w1_len=w1.length→XL2 evo 19 0 17 ⟨[(0,rL 8 qc t0),(3,rO 0 2 w0_len),(4,rO 1 1 w1_len),(50,rI t50),(51,rI t51),(53,rO 0 2 w0_len),(54,rI t54),(55,rI t55)],[(0,bR 81 2 (eA2 eI) w0),(1,bR 3 1 eI w1)],2,128⟩=(qz (zC w0 t0 t50 t51 t54) (w1,t55)).bind (fun(e:List Int)=>some (Exit.exit 6,⟨[(0,rL 8 qc t0),(3,rO 0 2 w0.length),(4,rO 1 1 e.length),(50,rI t50),(51,rI t51)],[(0,bR 81 2 (eA2 eI) w0),(1,bR 3 1 eI e)],2,128⟩)):=
 by
 intro w0 w1 t0 t50 t51 t54 t55 w0_len w1_len h0 h1
 subst h0 h1
 revert t55;revert w1;exact q9T qhR qk4 (fun e=>by exact⟨_,rfl,fun h=>by cases h⟩) fun w1 t55=>by
  have:=qkI;have:=@q7P.eq_1;have:=@zC.eq_1;exact gA
def zw (w0:List (QC Int)) (t0:List qa) (t50:Int):(List Int×Int)→Option ((List Int×Int)⊕(List Int))|(w1,t51)=>if t51<t50 then Option.bind (qz (zC w0 t0 t50 t51 ((w0.length:Nat):Int)) (w1,0)) fun(a:List Int)=>some (Sum.inl (a,w64 (t51+1))) else some (Sum.inr w1)
theorem q0E:∀(w0:List (QC Int)) (w1:List Int) (t0:List qa) (t50 t51:Int) (w0_len w1_len:Nat),w0_len=w0.length→w1_len=w1.length→XL2 evo 19 0 15 ⟨[(0,rL 8 qc t0),(3,rO 0 2 w0_len),(4,rO 1 1 w1_len),(50,rI t50),(51,rI t51)],[(0,bR 81 2 (eA2 eI) w0),(1,bR 3 1 eI w1)],2,128⟩=(qz (zw w0 t0 t50) (w1,t51)).bind (fun(e:List Int)=>some (Exit.exit 4,⟨[(0,rL 8 qc t0),(4,rO 0 1 e.length)],[(0,bR 3 1 eI e)],1,128⟩)):=
 by
 intro w0 w1 t0 t50 t51 w0_len w1_len h0 h1
 subst h0 h1
 revert t51;revert w1;exact q9T qkM qjq (fun e=>by exact⟨_,rfl,fun h=>by cases h⟩) fun w1 t51=>by
  have:=qkI;have:=@q86.eq_1;have:=@q0Q;have:=@zw.eq_1;exact gA
def zb (w0:List Int) (t83:Int):(List (List Int)×Int)→Option ((List (List Int)×Int)⊕(List (List Int)))|(w1,t84)=>if t84<t83 then if 0≤t84∧t84<((w0.length:Nat):Int) then Option.bind w0[Int.toNat t84]? fun(a:Int)=>if(a==t84)=Bool.true then if w1.length+1≤maxLen∧(w1.length+1)*24≤140737488355328 then some (Sum.inl (w1++[[]],w64 (t84+1))) else none else some (Sum.inl (w1,w64 (t84+1))) else none else some (Sum.inr w1)
theorem q0I:∀(w0:List Int) (w1:List (List Int)) (t83 t84:Int) (w0_len w1_len:Nat),w0_len=w0.length→w1_len=w1.length→XL2 evo 19 0 25 ⟨[(4,rO 0 1 w0_len),(10,rO 1 1 w1_len),(83,rI t83),(84,rI t84)],[(0,bR 3 1 eI w0),(1,B.row 25 1 (w1.flatMap (oL 3 1 eI)))],2,128⟩=(qz (zb w0 t83) (w1,t84)).bind (fun(e:List (List Int))=>some (Exit.exit 8,⟨[(4,rO 0 1 w0.length),(10,rO 1 1 e.length)],[(0,bR 3 1 eI w0),(1,B.row 25 1 (e.flatMap (oL 3 1 eI)))],2,128⟩)):=
 by
 intro w0 w1 t83 t84 w0_len w1_len h0 h1
 subst h0 h1
 revert t84;revert w1;exact q9T qjy qkg (fun e=>by exact⟨_,rfl,fun h=>by cases h⟩) fun w1 t84=>by
  have:=qkI;have:=@q7X.eq_1;have:=@zb.eq_1;exact gA
theorem JR:∀  (w0:List Int) (t83 t84:Int) (w0_len:Nat),w0_len=w0.length→XL2 evo 19 0 25 ⟨[(4,rO 0 1 w0_len),(10,rO 1 1 0),(83,rI t83),(84,rI t84)],[(0,bR 3 1 eI w0),(1,B.row 25 1 [])],2,128⟩=(qz (zb w0 t83) ([],t84)).bind (fun(e:List (List Int))=>some (Exit.exit 8,⟨[(4,rO 0 1 w0.length),(10,rO 1 1 e.length)],[(0,bR 3 1 eI w0),(1,B.row 25 1 (e.flatMap (oL 3 1 eI)))],2,128⟩)):=by
 intro w0 t83 t84 w0_len h0;subst h0;have h:=q0I w0 [] t83 t84 _ _ rfl rfl
 first
  | exact h
  | (simp only[rL,dL,bR,bZ,Nat.reduceAdd] at h;exact h)
def zA (w2:List Int) (t99:Int):(List (List Int)×(List (Int×Int))×Int)→Option ((List (List Int)×(List (Int×Int))×Int)⊕(List (List Int)))|(w0,m1,t100)=>if t100<t99 then if 0≤t100∧t100<((w2.length:Nat):Int) then Option.bind w2[Int.toNat t100]? fun(a:Int)=>if(a==t100)=Bool.true then Option.bind w0[Int.toNat (Zi 0 (q3l m1 t100 ((m1.length:Nat):Int)) a)]? fun(a2:List Int)=>if 0≤Zi 0 (q3l m1 t100 ((m1.length:Nat):Int)) a∧Zi 0 (q3l m1 t100 ((m1.length:Nat):Int)) a<((w0.length:Nat):Int) then Option.bind w0[Int.toNat (Zi 0 (q3l m1 t100 ((m1.length:Nat):Int)) a)]? fun(a3:List Int)=>if a2.length+1≤maxLen∧(a2.length+1)*8≤140737488355328 then if 0≤Zi 0 (q3l m1 t100 ((m1.length:Nat):Int)) a∧Zi 0 (q3l m1 t100 ((m1.length:Nat):Int)) a<((w0.length:Nat):Int) then if Int.toNat (Zi 0 (q3l m1 t100 ((m1.length:Nat):Int)) a)<w0.length then some (Sum.inl (List.set w0 (Int.toNat (Zi 0 (q3l m1 t100 ((m1.length:Nat):Int)) a)) (a2++[t100]),q3l m1 t100 ((m1.length:Nat):Int),w64 (t100+1))) else none else none else none else none else Option.bind w0[Int.toNat (Zi 0 m1 a)]? fun(a4:List Int)=>if 0≤Zi 0 m1 a∧Zi 0 m1 a<((w0.length:Nat):Int) then Option.bind w0[Int.toNat (Zi 0 m1 a)]? fun(a5:List Int)=>if a4.length+1≤maxLen∧(a4.length+1)*8≤140737488355328 then if 0≤Zi 0 m1 a∧Zi 0 m1 a<((w0.length:Nat):Int) then if Int.toNat (Zi 0 m1 a)<w0.length then some (Sum.inl (List.set w0 (Int.toNat (Zi 0 m1 a)) (a4++[t100]),m1,w64 (t100+1))) else none else none else none else none else none else some (Sum.inr w0)
theorem q17:∀(w0:List (List Int)) (w2:List Int) (m1:List (Int×Int)) (t99 t100:Int) (w0_len w2_len:Nat),w0_len=w0.length→w2_len=w2.length→XL2 evo 19 0 32 ⟨[(10,rO 0 1 w0_len),(12,R.c (C.hd .map 1)),(98,rO 2 1 w2_len),(99,rI t99),(100,rI t100)],[(0,B.row 25 1 (w0.flatMap (oL 3 1 eI))),(1,B.ob (mpB (JJ .i64) Qd m1)),(2,bR 3 1 eI w2)],3,128⟩=(qz (zA w2 t99) (w0,m1,t100)).bind (fun(e:List (List Int))=>some (Exit.exit 10,⟨[(10,rO 0 1 e.length)],[(0,B.row 25 1 (e.flatMap (oL 3 1 eI)))],1,128⟩)):=
 by
 intro w0 w2 m1 t99 t100 w0_len w2_len h0 h1
 subst h0 h1
 revert t100;revert m1;revert w0;exact qrz qj6 qiS (fun e=>by exact⟨_,rfl,fun h=>by cases h⟩) fun w0 m1 t100=>by
  have:=qkI;have:=@q8v.eq_1;have:=@zA.eq_1;exact gA
def Ql (x0:List qa):Option (List (List Int)):=if 0≤((x0.length:Nat):Int)∧8*((x0.length:Nat):Int)≤281474976710656∧((x0.length:Nat):Int)≤9223372036854775807 then Option.bind (qz (zr x0 ((x0.length:Nat):Int)) ([],(List.replicate x0.length 0,0))) fun(a:Prod (List (@QC Int)) (List Int))=>Option.bind (qz (zw a.1 x0 ((x0.length:Nat):Int)) (a.2,0)) fun(a2:List Int)=>Option.bind (qz (zb a2 ((x0.length:Nat):Int)) ([],0)) fun(a3:List (List Int))=>Option.bind (qz (zA a2 ((a2.length:Nat):Int)) (a3,([],0))) fun(a4:List (List Int))=>some a4 else none
theorem q2W:∀(x0:List qa),ev 19 0 [rL 8 qc x0] []=(Ql x0).bind (fun(e:List (List Int))=>some (rL 1 (eL 1 eI) e,[])):=
 fun x0=>by
  rw[qy qgC quh.2.2.2 qiq]
  have:=qkI;have:=@q0b;have:=@q0E;have:=@JR;have:=@q17;have:=@Ql.eq_1;exact gA
theorem q1k:∀(x00_Course_School:Int) (x00_Course_Code:ByteArray) (x00_Credits x00_Grade x00_Day x00_Sources0 x00_Bundle x01_Course_School:Int) (x01_Course_Code:ByteArray) (x01_Credits x01_Grade x01_Day x01_Sources0 x01_Bundle x02_Course_School:Int) (x02_Course_Code:ByteArray) (x02_Credits x02_Grade x02_Day x02_Sources0 x02_Bundle x03_Course_School:Int) (x03_Course_Code:ByteArray) (x03_Credits x03_Grade x03_Day x03_Sources0 x03_Bundle:Int) , ev 19 0 [R.c (C.d (D.sl 8 4 [D.int .i64 x00_Course_School,D.str x00_Course_Code,D.int .i64 x00_Credits,D.int .i64 x00_Grade,D.int .i64 x00_Day,D.sl 1 1 [D.int .i64 x00_Sources0],D.int .i64 x00_Bundle,D.sl 1 0 [],D.int .i64 x01_Course_School,D.str x01_Course_Code,D.int .i64 x01_Credits,D.int .i64 x01_Grade,D.int .i64 x01_Day,D.sl 1 1 [D.int .i64 x01_Sources0],D.int .i64 x01_Bundle,D.sl 1 0 [],D.int .i64 x02_Course_School,D.str x02_Course_Code,D.int .i64 x02_Credits,D.int .i64 x02_Grade,D.int .i64 x02_Day,D.sl 1 1 [D.int .i64 x02_Sources0],D.int .i64 x02_Bundle,D.sl 1 0 [],D.int .i64 x03_Course_School,D.str x03_Course_Code,D.int .i64 x03_Credits,D.int .i64 x03_Grade,D.int .i64 x03_Day,D.sl 1 1 [D.int .i64 x03_Sources0],D.int .i64 x03_Bundle,D.sl 1 0 []]))] []=(Ql [(qa.mk (qb.mk x00_Course_School x00_Course_Code) x00_Credits x00_Grade x00_Day [x00_Sources0] x00_Bundle ([]:List Int)),(qa.mk (qb.mk x01_Course_School x01_Course_Code) x01_Credits x01_Grade x01_Day [x01_Sources0] x01_Bundle ([]:List Int)),(qa.mk (qb.mk x02_Course_School x02_Course_Code) x02_Credits x02_Grade x02_Day [x02_Sources0] x02_Bundle ([]:List Int)),(qa.mk (qb.mk x03_Course_School x03_Course_Code) x03_Credits x03_Grade x03_Day [x03_Sources0] x03_Bundle ([]:List Int))]).bind (fun(e:List (List Int))=>some (rL 1 (eL 1 eI) e,[])):=by
 intro x00_Course_School x00_Course_Code x00_Credits x00_Grade x00_Day x00_Sources0 x00_Bundle x01_Course_School x01_Course_Code x01_Credits x01_Grade x01_Day x01_Sources0 x01_Bundle x02_Course_School x02_Course_Code x02_Credits x02_Grade x02_Day x02_Sources0 x02_Bundle x03_Course_School x03_Course_Code x03_Credits x03_Grade x03_Day x03_Sources0 x03_Bundle;have h:=q2W [(qa.mk (qb.mk x00_Course_School x00_Course_Code) x00_Credits x00_Grade x00_Day [x00_Sources0] x00_Bundle ([]:List Int)),(qa.mk (qb.mk x01_Course_School x01_Course_Code) x01_Credits x01_Grade x01_Day [x01_Sources0] x01_Bundle ([]:List Int)),(qa.mk (qb.mk x02_Course_School x02_Course_Code) x02_Credits x02_Grade x02_Day [x02_Sources0] x02_Bundle ([]:List Int)),(qa.mk (qb.mk x03_Course_School x03_Course_Code) x03_Credits x03_Grade x03_Day [x03_Sources0] x03_Bundle ([]:List Int))]
 first
  | exact h
  | (simp only[rL,dL,bR,bZ,Nat.reduceAdd] at h;exact h)
theorem qtT:okL 40 q8Q:=qB (qi qqx) (by kernel_rfl) (by kernel_rfl)
def quW:=JA_ @q8Q.eq_1 (JA_ @Try.f40.eq_1 @qqx)
theorem qn8:lbO 40 4=qc4:=zE (qi qqx) rfl
theorem qmz:okL 40 qc4:=qT qtT (qxI (i:=0) (by kernel_rfl))
def zl (a:List Int) (b:List Int):Int→Option (Int⊕(Unit⊕Unit))|k=>if k<((a.length:Nat):Int) then if 0≤k∧k<((a.length:Nat):Int) then Option.bind a[Int.toNat k]? fun(a2:Int)=>if 0≤k∧k<((b.length:Nat):Int) then Option.bind b[Int.toNat k]? fun(a3:Int)=>if(a2 != a3)=Bool.true then some (Sum.inr (Sum.inl ())) else some (Sum.inl (w64 (k+1))) else none else none else some (Sum.inr (Sum.inr ()))
theorem q0z:∀(a b:List Int) (k:Int),XL2 evo 40 0 4 ⟨[(0,rL 1 eI a),(1,rL 1 eI b),(5,rI k)],[],0,26⟩=(qz (zl a b) k).bind (Sum.elim (fun(e:Unit)=>some (Exit.ret,⟨[(4,rB Bool.false)],[],0,26⟩)) (fun(e:Unit)=>some (Exit.exit 0,⟨[(4,R.any)],[],0,26⟩))):=
 fun a b k=>by
  revert k;exact q5s qn8 qmz (fun e=>by rcases e with _|_<;>exact⟨_,rfl,fun h=>by cases h⟩) fun x=>by
   have:=quW;have:=@qc4.eq_1;have:=@zl.eq_1;exact gA
def zD (a:List Int) (b:List Int):Option Bool:=if(((a.length:Nat):Int) != ((b.length:Nat):Int))=Bool.true then some Bool.false else Option.bind (qz (zl a b) 0) fun(a2:Sum Unit Unit)=>Sum.elim (fun(a3:Unit)=>some Bool.false) (fun(a4:Unit)=>some Bool.true) a2
theorem Zb:∀(a b:List Int),ev 40 0 [rL 1 eI a,rL 1 eI b] []=(zD a b).bind (fun(e:Bool)=>some (rB e,[])):=
 fun a b=>by
  rw[qy qqx quJ.2.2.2 qtT]
  have:=quW;have:=@q0z;have:=@zD.eq_1;exact gA
theorem qtX:okL 16 q6U:=qB (qi qov) (by kernel_rfl) (by kernel_rfl)
def qtY:=JA_ @q6U.eq_1 (JA_ @Try.f16.eq_1 @qov)
theorem qhz:raO 16 6=q5x:=qla (qi qov) rfl
theorem qe4:rbO 16 6=q4a:=qnP (qi qov) rfl
theorem qhP:okL 16 q5x∧okL 16 q4a:=qpI (key:=0) (q:=(q5x,q4a)) qtX (qxI (i:=0) (by kernel_rfl))
theorem qhe:qD (rbO 16 6)=6:=by rw[qe4];exact qlj
theorem qoq:∀k s,XE2 evo 16 k (raO 16 6) s=XE2 evo 16 k q5x s:=fun _ _=>by rw[qhz]
theorem qlt:∀k s,XE2 evo 16 k (rbO 16 6) s=XE2 evo 16 k q4a s:=fun _ _=>by rw[qe4]
theorem qwK:okL 42 qeA:=qB (qi qrU) (by kernel_rfl) (by kernel_rfl)
def qvr:=JA_ @qeA.eq_1 (JA_ @Try.f42.eq_1 @qrU)
def Jm (l:List qa):Option Unit:=
 some ()
def q1B (l:List qa):Unit:=
 ()
theorem q3v (l:List qa):Jm l=some (q1B l):=by
 unfold Jm q1B
 simp only[ZF]
theorem q53:∀(l:List qa),ev 42 0 [rL 8 qc l] []=some (R.c (C.fn 66 [] [dP 0]),[(0,B.blk 32 [dL 8 qc l])]):=
 fun l=>by
  have h:ev 42 0 [rL 8 qc l] []=(Jm l).bind (fun(e:Unit)=>some (R.c (C.fn 66 [] [dP 0]),[(0,B.blk 32 [dL 8 qc l])])):=by
   rw[qy qrU quu.2.2.2 qwK]
   have:=qvr;have:=@Jm.eq_1;exact gA
  rw[q3v] at h
  exact h
theorem qwJ:okL 66 qcp:=qB (qi qrd) (by kernel_rfl) (by kernel_rfl)
def qvy:=JA_ @qcp.eq_1 (JA_ @Try.f66.eq_1 @qrd)
theorem quK:okL 67 q8U:=qB (qi qpV) (by kernel_rfl) (by kernel_rfl)
def quD:=JA_ @q8U.eq_1 (JA_ @Try.f67.eq_1 @qpV)
theorem qpr:lbO 67 4=qdD:=zE (qi qpV) rfl
theorem qpo:okL 67 qdD:=qT quK (qxI (i:=0) (by kernel_rfl))
theorem qva:okL 22 q9H:=qB (qi qqp) (by kernel_rfl) (by kernel_rfl)
def qtJ:=JA_ @q9H.eq_1 (JA_ @Try.f22.eq_1 @qqp)
theorem qlQ:lbO 22 3=qcZ:=zE (qi qqp) rfl
theorem qoU:okL 22 qcZ:=qT qva (qxI (i:=0) (by kernel_rfl))
def Q8 (t6:List qa) (t7:Int):(Int×Int)→Option ((Int×Int)⊕Int)|(n,t8)=>if t8<t7 then if 0≤t8∧t8<((t6.length:Nat):Int) then Option.bind t6[Int.toNat t8]? fun(a:qa)=>some (Sum.inl (w64 (n+a.Credits),w64 (t8+1))) else none else some (Sum.inr n)
theorem q1x:∀(n:Int) (t6:List qa) (t7 t8:Int),XL2 evo 22 0 3 ⟨[(3,rI n),(6,rL 8 qc t6),(7,rI t7),(8,rI t8)],[],0,18⟩=(qz (Q8 t6 t7) (n,t8)).bind (fun(e:Int)=>some (Exit.exit 0,⟨[(3,rI e)],[],0,18⟩)):=
 fun n t6 t7 t8=>by
  revert t8;revert n;exact q9T qlQ qoU (fun e=>by exact⟨_,rfl,fun h=>by cases h⟩) fun n t8=>by
   have:=qtJ;have:=@qcZ.eq_1;have:=@Q8.eq_1;exact gA
def Z3 (l:List qa):Option Int:=Option.bind (qz (Q8 l ((l.length:Nat):Int)) (0,0)) fun(a:Int)=>some a
theorem q2U:∀(l:List qa),ev 22 0 [rL 8 qc l] []=(Z3 l).bind (fun(e:Int)=>some (rI e,[])):=
 fun l=>by
  rw[qy qqp qtU.2.2.2 qva]
  have:=qtJ;have:=@q1x;have:=@Z3.eq_1;exact gA
def QU (t11:List qa) (best:Int):Option Int:=Option.bind (Z3 t11) fun(a:Int)=>some (max best a)
theorem q2c:∀(t11:List qa) (best:Int),evr 16 (raO 16 6) (rbO 16 6) 2 [R.any,R.any,R.any,R.any,rP 0,R.any,R.any,R.any,R.any,R.any,R.any,rL 8 qc t11,R.any,R.any,R.any,R.any,R.any] [(0,B.blk 3 [dI best]),(1,B.ob (AO.lp 16 (R.any::R.any::R.any::R.any::rP 0::q7M) [11] (raO 16 6) (rbO 16 6) LoopState.ready none))]=(QU t11 best).bind (fun(e:Int)=>some (rB Bool.true,[(0,B.blk 3 [dI e]),(1,B.ob (AO.lp 16 (R.any::R.any::R.any::R.any::rP 0::q7M) [11] (raO 16 6) (rbO 16 6) LoopState.ready none))])):=
 fun t11 best=>by
  rw[qj2 qhz qe4 (by decide) qoZ qhP.1 qhP.2]
  have:=qtY;have:=@qoq;have:=@qlt;have:=@q5x.eq_1;have:=@q4a.eq_1;have:=@q2U;have:=@QU.eq_1;have:=@qhe;exact gA
theorem qwN:okL 68 qdA:=qB (qi qtg) (by kernel_rfl) (by kernel_rfl)
def qxs:=JA_ @qdA.eq_1 (JA_ @Try.f68.eq_1 @qtg)
def qx (s:List qa):Option Unit:=
 some ()
def zd (s:List qa):Unit:=
 ()
theorem Qf (s:List qa):qx s=some (zd s):=by
 unfold qx zd
 simp only[ZF]
theorem Qj:∀(s:List qa),ev 68 0 [rL 8 qc s] []=some (R.c (C.clp 8 s.length (s.flatMap qc)),[]):=
 fun s=>by
  have h:ev 68 0 [rL 8 qc s] []=(qx s).bind (fun(e:Unit)=>some (R.c (C.clp 8 s.length (s.flatMap qc)),[])):=by
   rw[qy qtg quG.2.2.2 qwN]
   have:=qxs;have:=@qx.eq_1;exact gA
  rw[Qf] at h
  exact h
theorem quc:okL 21 q91:=qB (qi qqq) (by kernel_rfl) (by kernel_rfl)
def qtw:=JA_ @q91.eq_1 (JA_ @Try.f21.eq_1 @qqq)
theorem qny:lbO 21 2=qeF:=zE (qi qqq) rfl
theorem qn2:okL 21 qeF:=qT quc (qxI (i:=0) (by kernel_rfl))
theorem qvN:okL 47 qc6:=qB (qi qqS) (by kernel_rfl) (by kernel_rfl)
def qwV:=JA_ @qc6.eq_1 (JA_ @Try.f47.eq_1 @qqS)
theorem qus:okL 70 q8O:=qB (qi qqb) (by kernel_rfl) (by kernel_rfl)
def qub:=JA_ @q8O.eq_1 (JA_ @Try.f70.eq_1 @qqb)
theorem qmJ:lbO 70 2=qep:=zE (qi qqb) rfl
theorem qlp:okL 70 qep:=qT qus (qxI (i:=0) (by kernel_rfl))
theorem qvj:okL 46 qbx:=qB (qi qst) (by kernel_rfl) (by kernel_rfl)
def qxr:=JA_ @qbx.eq_1 (JA_ @Try.f46.eq_1 @qst)
def ZZ (b:qa) (v:qa):Option Bool:=Option.bind (Zc v b) fun(a:Bool)=>some (!a)
theorem q3t:∀(b_Course_School:Int) (b_Course_Code:ByteArray) (b_Credits b_Grade b_Day:Int) (b_Sources:List Int) (b_Bundle:Int) (b_Path:List Int) (v_Course_School:Int) (v_Course_Code:ByteArray) (v_Credits v_Grade v_Day:Int) (v_Sources:List Int) (v_Bundle:Int) (v_Path:List Int),ev 46 1 [R.agg [dI b_Course_School,dS b_Course_Code,dI b_Credits,dI b_Grade,dI b_Day,dL 1 eI b_Sources,dI b_Bundle,dL 1 eI b_Path],rP 0] [(0,B.blk 52 [dI v_Course_School,dS v_Course_Code,dI v_Credits,dI v_Grade,dI v_Day,dL 1 eI v_Sources,dI v_Bundle,dL 1 eI v_Path])]=(ZZ (qa.mk (qb.mk b_Course_School b_Course_Code) b_Credits b_Grade b_Day b_Sources b_Bundle b_Path) (qa.mk (qb.mk v_Course_School v_Course_Code) v_Credits v_Grade v_Day v_Sources v_Bundle v_Path)).bind (fun(e:Bool)=>some (rB e,[(0,B.blk 52 [dI v_Course_School,dS v_Course_Code,dI v_Credits,dI v_Grade,dI v_Day,dL 1 eI v_Sources,dI v_Bundle,dL 1 eI v_Path])])):=
 fun b_Course_School b_Course_Code b_Credits b_Grade b_Day b_Sources b_Bundle b_Path v_Course_School v_Course_Code v_Credits v_Grade v_Day v_Sources v_Bundle v_Path=>by
  rw[qy qst quw.2.2.2 qvj]
  have:=qxr;have:=@q0N;have:=@ZZ.eq_1;exact gA
def qn (b0:qa) (s:List qa) (t7:Int):Int→Option (Int⊕(Int⊕Unit))|t8=>if t8<t7 then if 0≤t8∧t8<((s.length:Nat):Int) then Option.bind s[Int.toNat t8]? fun(a:qa)=>Option.bind (ZZ a b0) fun(a2:Bool)=>if a2=Bool.true then some (Sum.inr (Sum.inl t8)) else some (Sum.inl (w64 (t8+1))) else none else some (Sum.inr (Sum.inr ()))
theorem zV:∀(b0_Course_School:Int) (b0_Course_Code:ByteArray) (b0_Credits b0_Grade b0_Day:Int) (b0_Sources:List Int) (b0_Bundle:Int) (b0_Path:List Int) (s:List qa) (t7 t8:Int),XL2 evo 70 1 2 ⟨[(0,rL 8 qc s),(1,R.c (C.fn 46 [] [dP 0])),(7,rI t7),(8,rI t8)],[(0,B.blk 52 [dI b0_Course_School,dS b0_Course_Code,dI b0_Credits,dI b0_Grade,dI b0_Day,dL 1 eI b0_Sources,dI b0_Bundle,dL 1 eI b0_Path])],1,19⟩=(qz (qn (qa.mk (qb.mk b0_Course_School b0_Course_Code) b0_Credits b0_Grade b0_Day b0_Sources b0_Bundle b0_Path) s t7) t8).bind (Sum.elim (fun(e:Int)=>some (Exit.ret,⟨[(4,rI e)],[(0,B.blk 52 [dI b0_Course_School,dS b0_Course_Code,dI b0_Credits,dI b0_Grade,dI b0_Day,dL 1 eI b0_Sources,dI b0_Bundle,dL 1 eI b0_Path])],1,19⟩)) (fun(e:Unit)=>some (Exit.exit 0,⟨[(4,R.any)],[(0,B.blk 52 [dI b0_Course_School,dS b0_Course_Code,dI b0_Credits,dI b0_Grade,dI b0_Day,dL 1 eI b0_Sources,dI b0_Bundle,dL 1 eI b0_Path])],1,19⟩))):=
 fun b0_Course_School b0_Course_Code b0_Credits b0_Grade b0_Day b0_Sources b0_Bundle b0_Path s t7 t8=>by
  revert t8;exact q5s qmJ qlp (fun e=>by rcases e with _|_<;>exact⟨_,rfl,fun h=>by cases h⟩) fun x=>by
   have:=qub;have:=@qep.eq_1;have:=@q3t;have:=@qn.eq_1;exact gA
def qs (s:List qa) (b0:qa):Option Int:=Option.bind (qz (qn b0 s ((s.length:Nat):Int)) 0) fun(a:Sum Int Unit)=>Sum.elim (fun(a2:Int)=>some a2) (fun(a3:Unit)=>some (-1)) a
theorem Q6:∀(s:List qa) (b0_Course_School:Int) (b0_Course_Code:ByteArray) (b0_Credits b0_Grade b0_Day:Int) (b0_Sources:List Int) (b0_Bundle:Int) (b0_Path:List Int),ev 70 1 [rL 8 qc s,R.c (C.fn 46 [] [dP 0])] [(0,B.blk 52 [dI b0_Course_School,dS b0_Course_Code,dI b0_Credits,dI b0_Grade,dI b0_Day,dL 1 eI b0_Sources,dI b0_Bundle,dL 1 eI b0_Path])]=(qs s (qa.mk (qb.mk b0_Course_School b0_Course_Code) b0_Credits b0_Grade b0_Day b0_Sources b0_Bundle b0_Path)).bind (fun(e:Int)=>some (rI e,[(0,B.blk 52 [dI b0_Course_School,dS b0_Course_Code,dI b0_Credits,dI b0_Grade,dI b0_Day,dL 1 eI b0_Sources,dI b0_Bundle,dL 1 eI b0_Path])])):=
 fun s b0_Course_School b0_Course_Code b0_Credits b0_Grade b0_Day b0_Sources b0_Bundle b0_Path=>by
  rw[qy qqb qtC.2.2.2 qus]
  have:=qub;have:=@zV;have:=@qs.eq_1;exact gA
def qp (s:List qa) (b0:qa):Option Bool:=Option.bind (qs s b0) fun(a:Int)=>some (decide (0≤a))
theorem zU:∀(s:List qa) (b0_Course_School:Int) (b0_Course_Code:ByteArray) (b0_Credits b0_Grade b0_Day:Int) (b0_Sources:List Int) (b0_Bundle:Int) (b0_Path:List Int),ev 47 1 [rL 8 qc s,R.c (C.fn 46 [] [dP 0])] [(0,B.blk 52 [dI b0_Course_School,dS b0_Course_Code,dI b0_Credits,dI b0_Grade,dI b0_Day,dL 1 eI b0_Sources,dI b0_Bundle,dL 1 eI b0_Path])]=(qp s (qa.mk (qb.mk b0_Course_School b0_Course_Code) b0_Credits b0_Grade b0_Day b0_Sources b0_Bundle b0_Path)).bind (fun(e:Bool)=>some (rB e,[(0,B.blk 52 [dI b0_Course_School,dS b0_Course_Code,dI b0_Credits,dI b0_Grade,dI b0_Day,dL 1 eI b0_Sources,dI b0_Bundle,dL 1 eI b0_Path])])):=
 fun s b0_Course_School b0_Course_Code b0_Credits b0_Grade b0_Day b0_Sources b0_Bundle b0_Path=>by
  rw[qy qqS quF.2.2.2 qvN]
  have:=qwV;have:=@Q6;have:=@qp.eq_1;exact gA
def Qo (l:List qa) (t6:List qa) (t7:Int):Int→Option (Int⊕(Unit⊕Unit))|t8=>if t8<t7 then if 0≤t8∧t8<((t6.length:Nat):Int) then Option.bind t6[Int.toNat t8]? fun(a:qa)=>if 0≤w64 (t8+1)∧w64 (t8+1)≤((l.length:Nat):Int) then Option.bind (qp (List.take (l.length-Int.toNat (w64 (t8+1))) (List.drop (Int.toNat (w64 (t8+1))) l)) a) fun(a2:Bool)=>if a2=Bool.true then some (Sum.inr (Sum.inl ())) else some (Sum.inl (w64 (t8+1))) else none else none else some (Sum.inr (Sum.inr ()))
theorem q3h:∀(l t6:List qa) (t7 t8:Int),XL2 evo 21 0 2 ⟨[(0,rL 8 qc l),(6,rL 8 qc t6),(7,rI t7),(8,rI t8)],[],0,21⟩=(qz (Qo l t6 t7) t8).bind (Sum.elim (fun(e:Unit)=>some (Exit.ret,⟨[(2,rB Bool.false)],[],0,21⟩)) (fun(e:Unit)=>some (Exit.exit 0,⟨[(2,R.any)],[],0,21⟩))):=
 fun l t6 t7 t8=>by
  revert t8;exact q5s qny qn2 (fun e=>by rcases e with _|_<;>exact⟨_,rfl,fun h=>by cases h⟩) fun x=>by
   have:=qtw;have:=@qeF.eq_1;have:=@zU;have:=@Qo.eq_1;exact gA
def ZB (l:List qa):Option Bool:=Option.bind (qz (Qo l l ((l.length:Nat):Int)) 0) fun(a:Sum Unit Unit)=>Sum.elim (fun(a2:Unit)=>some Bool.false) (fun(a3:Unit)=>some Bool.true) a
theorem q5j:∀(l:List qa),ev 21 0 [rL 8 qc l] []=(ZB l).bind (fun(e:Bool)=>some (rB e,[])):=
 fun l=>by
  rw[qy qqq qum.2.2.2 quc]
  have:=qtw;have:=@q3h;have:=@ZB.eq_1;exact gA
theorem q3a:∀(l2:List qa) (l2_len:Nat),l2_len=l2.length→ev 21 0 [R.c (C.d (D.sl 8 l2_len (l2.flatMap qc)))] []=(ZB l2).bind (fun(e:Bool)=>some (rB e,[])):=by
 intro l2 l2_len h0;subst h0;have h:=q5j l2
 first
  | exact h
  | (simp only[rL,dL,bR,bZ,Nat.reduceAdd] at h;exact h)
def za (x:(List qa×Int×Int×List qa)):List R×List (Nat×B):=([R.c (C.d (D.sl 8 x.1.length (x.1.flatMap qc))),R.c (C.d (D.int .i64 x.2.1)),R.c (C.ptr 0 0),R.c (C.ptr 3 0),R.c (C.ptr 4 0)],[(0,B.blk 60 [C.hd .yield 1]),(1,B.ob (AO.lp 16 [R.any,R.any,R.any,R.any,R.c (C.ptr 2 0),R.any,R.any,R.any,R.any,R.any,R.any,R.any,R.any,R.any,R.any,R.any,R.any] [11] (raO 16 6) (rbO 16 6) LoopState.ready none)),(2,B.blk 3 [C.d (D.int .i64 x.2.2.1)]),(3,B.blk 32 [C.d (D.sl 8 x.2.2.2.length (x.2.2.2.flatMap qc))]),(4,B.blk 105 [C.fn 67 [] [C.ptr 0 0,C.ptr 3 0,C.ptr 4 0]])])
def zm:(Bool×Int×List qa)→R×List (Nat×B):=fun(e:Bool×Int×List qa)=>(R.c (C.d (D.bool e.1)),[(0,B.blk 60 [C.hd .yield 1]),(1,B.ob (AO.lp 16 [R.any,R.any,R.any,R.any,R.c (C.ptr 2 0),R.any,R.any,R.any,R.any,R.any,R.any,R.any,R.any,R.any,R.any,R.any,R.any] [11] (raO 16 6) (rbO 16 6) LoopState.ready none)),(2,B.blk 3 [C.d (D.int .i64 e.2.1)]),(3,B.blk 32 [C.d (D.sl 8 e.2.2.length (e.2.2.flatMap qc))]),(4,B.blk 105 [C.fn 67 [] [C.ptr 0 0,C.ptr 3 0,C.ptr 4 0]])])
def zj (rF:(List qa×Int×Int×List qa)→Option (Bool×Int×List qa)) (set0:List qa):(Int×List qa×Int)→Option ((Int×List qa×Int)⊕((Int×List qa)⊕(Int×List qa)))|(b2,b3,k)=>if k<((b3.length:Nat):Int) then if 0≤k∧k<((b3.length:Nat):Int) then Option.bind b3[Int.toNat k]? fun(a2:qa)=>if set0.length+1≤maxLen∧(set0.length+1)*104≤140737488355328 then Option.bind (ZB (set0++[a2])) fun(a3:Bool)=>if a3=Bool.true then Option.bind (rF (set0++[a2],(w64 (k+1),(b2,b3)))) fun(a4:Prod Bool (Prod Int (List qa)))=>if(!a4.1)=Bool.true then some (Sum.inr (Sum.inl (a4.2.1,a4.2.2))) else some (Sum.inl (a4.2.1,a4.2.2,w64 (k+1))) else some (Sum.inl (b2,b3,w64 (k+1))) else none else none else some (Sum.inr (Sum.inr (b2,b3)))
theorem q0u (rE:Orc) (rF:(List qa×Int×Int×List qa)→Option (Bool×Int×List qa)) (hF:∀y,rE (.fn 67) 5 (za y).1 (za y).2=(rF y).bind fun e=>some (zm e)) (hM:∀g k a G,g≠67→rE (.fn g) k a G=ev g k a G) (hR:∀g asg bd k a G,rE (.rd g asg bd) k a G=evr g asg bd k a G):∀(b2:Int) (b3 set0:List qa) (k:Int),XL2 rE 67 5 4 ⟨[(0,rL 8 qc set0),(3,rP 3),(4,rP 4),(8,rI k)],[(0,B.blk 60 [C.hd .yield 1]),(1,B.ob (AO.lp 16 (R.any::R.any::R.any::R.any::rP 2::q7M) [11] (raO 16 6) (rbO 16 6) LoopState.ready none)),(2,B.blk 3 [dI b2]),(3,B.blk 32 [dL 8 qc b3]),(4,B.blk 105 [C.fn 67 [] [dP 0,dP 3,dP 4]])],5,39⟩=(qz (zj rF set0) (b2,b3,k)).bind (Sum.elim (fun(e:Int×List qa)=>some (Exit.ret,⟨[(7,rB Bool.false)],[(0,B.blk 60 [C.hd .yield 1]),(1,B.ob (AO.lp 16 (R.any::R.any::R.any::R.any::rP 2::q7M) [11] (raO 16 6) (rbO 16 6) LoopState.ready none)),(2,B.blk 3 [dI e.1]),(3,B.blk 32 [dL 8 qc e.2]),(4,B.blk 105 [C.fn 67 [] [dP 0,dP 3,dP 4]])],5,39⟩)) (fun(e:Int×List qa)=>some (Exit.exit 0,⟨[(7,R.any)],[(0,B.blk 60 [C.hd .yield 1]),(1,B.ob (AO.lp 16 (R.any::R.any::R.any::R.any::rP 2::q7M) [11] (raO 16 6) (rbO 16 6) LoopState.ready none)),(2,B.blk 3 [dI e.1]),(3,B.blk 32 [dL 8 qc e.2]),(4,B.blk 105 [C.fn 67 [] [dP 0,dP 3,dP 4]])],5,39⟩))):=
 fun b2 b3 set0 k=>by
  revert k;revert b3;revert b2;exact qrz qpr qpo (fun e=>by rcases e with _|_<;>exact⟨_,rfl,fun h=>by cases h⟩) fun b2 b3 k=>by
   have hF':∀(set0:List qa) (from0 b2:Int) (v:List qa) (set0_len:Nat),set0_len=set0.length→rE (.fn 67) 5 [R.c (C.d (D.sl 8 set0_len (set0.flatMap qc))),rI from0,rP 0,rP 3,rP 4] [(0,B.blk 60 [C.hd .yield 1]),(1,B.ob (AO.lp 16 (R.any::R.any::R.any::R.any::rP 2::q7M) [11] (raO 16 6) (rbO 16 6) LoopState.ready none)),(2,B.blk 3 [dI b2]),(3,B.blk 32 [dL 8 qc v]),(4,B.blk 105 [C.fn 67 [] [dP 0,dP 3,dP 4]])]=(rF (set0,from0,b2,v)).bind (fun e=>some (rB e.1,[(0,B.blk 60 [C.hd .yield 1]),(1,B.ob (AO.lp 16 (R.any::R.any::R.any::R.any::rP 2::q7M) [11] (raO 16 6) (rbO 16 6) LoopState.ready none)),(2,B.blk 3 [dI e.2.1]),(3,B.blk 32 [dL 8 qc e.2.2]),(4,B.blk 105 [C.fn 67 [] [dP 0,dP 3,dP 4]])])):=by intro set0 from0 b2 v set0_len h0;subst h0;exact hF (set0,from0,b2,v)
   have:=quD;have:=@qdD.eq_1;have:=@Qj;have:=@q3a;have:=@zj.eq_1;exact gA
def zO (rF:(List qa×Int×Int×List qa)→Option (Bool×Int×List qa)):(List qa×Int×Int×List qa)→Option (Bool×Int×List qa)|(set0,from0,b2,v)=>Option.bind (QU set0 b2) fun(a2:Int)=>Option.bind (qz (zj rF set0) (a2,(v,from0))) fun(a3:Sum (Prod Int (List qa)) (Prod Int (List qa)))=>Sum.elim (fun(a4:Prod Int (List qa))=>some (Bool.false,a4.1,a4.2)) (fun(a5:Prod Int (List qa))=>some (Bool.true,a5.1,a5.2)) a3
theorem Jb:q7w 67 5 za zm zO:=by
 intro rE rF hF hM hR x
 obtain⟨set0,from0,b2,v⟩:=x
 show q6H rE 67 5 [rL 8 qc set0,rI from0,rP 0,rP 3,rP 4] [(0,B.blk 60 [C.hd .yield 1]),(1,B.ob (AO.lp 16 (R.any::R.any::R.any::R.any::rP 2::q7M) [11] (raO 16 6) (rbO 16 6) LoopState.ready none)),(2,B.blk 3 [dI b2]),(3,B.blk 32 [dL 8 qc v]),(4,B.blk 105 [C.fn 67 [] [dP 0,dP 3,dP 4]])]=_
 have hF':∀(set0:List qa) (from0 b2:Int) (v:List qa) (set0_len:Nat),set0_len=set0.length→rE (.fn 67) 5 [R.c (C.d (D.sl 8 set0_len (set0.flatMap qc))),rI from0,rP 0,rP 3,rP 4] [(0,B.blk 60 [C.hd .yield 1]),(1,B.ob (AO.lp 16 (R.any::R.any::R.any::R.any::rP 2::q7M) [11] (raO 16 6) (rbO 16 6) LoopState.ready none)),(2,B.blk 3 [dI b2]),(3,B.blk 32 [dL 8 qc v]),(4,B.blk 105 [C.fn 67 [] [dP 0,dP 3,dP 4]])]=(rF (set0,from0,b2,v)).bind (fun e=>some (rB e.1,[(0,B.blk 60 [C.hd .yield 1]),(1,B.ob (AO.lp 16 (R.any::R.any::R.any::R.any::rP 2::q7M) [11] (raO 16 6) (rbO 16 6) LoopState.ready none)),(2,B.blk 3 [dI e.2.1]),(3,B.blk 32 [dL 8 qc e.2.2]),(4,B.blk 105 [C.fn 67 [] [dP 0,dP 3,dP 4]])])):=by intro set0 from0 b2 v set0_len h0;subst h0;exact hF (set0,from0,b2,v)
 rw[q5U qpV quK]
 have:=quD;have:=@q2c;have:=q0u rE rF hF hM hR;have:=@zO.eq_1;have:=@zm.eq_1;exact gA
theorem Zm:∀x y,za x=za y→x=y:=by
 rintro⟨a0,a1,a2,a3⟩ ⟨b0,b1,b2,b3⟩ h
 simp only[za,Prod.mk.injEq,List.cons.injEq,R.c.injEq,R.agg.injEq,R.tup.injEq,C.d.injEq,C.own.injEq,C.ptr.injEq,C.eptr.injEq,C.clp.injEq,D.int.injEq,D.bool.injEq,D.str.injEq,D.sl.injEq,B.blk.injEq,B.row.injEq,q42,q2B,q0d,q2Y,q2R,q4N,q58,q4C,q4Z,q4K,q6O,q3R,true_and,and_true,qy1] at h
 simp only[h]
theorem q0v:∀x y,zm x=zm y→x=y:=by
 rintro⟨a0,a1,a2⟩ ⟨b0,b1,b2⟩ h
 simp only[zm,Prod.mk.injEq,List.cons.injEq,R.c.injEq,R.agg.injEq,R.tup.injEq,C.d.injEq,C.own.injEq,C.ptr.injEq,C.eptr.injEq,C.clp.injEq,D.int.injEq,D.bool.injEq,D.str.injEq,D.sl.injEq,B.blk.injEq,B.row.injEq,q42,q2B,q0d,q2Y,q2R,q4N,q58,q4C,q4Z,q4K,q6O,q3R,true_and,and_true,qy1] at h
 simp only[h]
def Q0:(List qa×Int×Int×List qa)→Option (Bool×Int×List qa):=q5m 67 5 za zm
theorem Ja (x:(List qa×Int×Int×List qa)):Q0 x=zO Q0 x:=qhI qrE.2.2.2 Zm q0v Jb x
theorem q1q (set0:List qa) (from0 b2:Int) (v:List qa):ev 67 5 [rL 8 qc set0,rI from0,rP 0,rP 3,rP 4] [(0,B.blk 60 [C.hd .yield 1]),(1,B.ob (AO.lp 16 (R.any::R.any::R.any::R.any::rP 2::q7M) [11] (raO 16 6) (rbO 16 6) LoopState.ready none)),(2,B.blk 3 [dI b2]),(3,B.blk 32 [dL 8 qc v]),(4,B.blk 105 [C.fn 67 [] [dP 0,dP 3,dP 4]])]=(Q0 (set0,from0,b2,v)).bind (fun(e:Bool×Int×List qa)=>some (rB e.1,[(0,B.blk 60 [C.hd .yield 1]),(1,B.ob (AO.lp 16 (R.any::R.any::R.any::R.any::rP 2::q7M) [11] (raO 16 6) (rbO 16 6) LoopState.ready none)),(2,B.blk 3 [dI e.2.1]),(3,B.blk 32 [dL 8 qc e.2.2]),(4,B.blk 105 [C.fn 67 [] [dP 0,dP 3,dP 4]])])):=(q9S qrE.2.2.2 Zm Jb (set0,from0,b2,v))
theorem q0w:∀  (from0 b2:Int) (v:List qa),ev 67 5 [R.c (C.d (D.sl 8 0 [])),rI from0,rP 0,rP 3,rP 4] [(0,B.blk 60 [C.hd .yield 1]),(1,B.ob (AO.lp 16 (R.any::R.any::R.any::R.any::rP 2::q7M) [11] (raO 16 6) (rbO 16 6) LoopState.ready none)),(2,B.blk 3 [dI b2]),(3,B.blk 32 [dL 8 qc v]),(4,B.blk 105 [C.fn 67 [] [dP 0,dP 3,dP 4]])]=(Q0 ([],from0,b2,v)).bind (fun(e:Bool×Int×List qa)=>some (rB e.1,[(0,B.blk 60 [C.hd .yield 1]),(1,B.ob (AO.lp 16 (R.any::R.any::R.any::R.any::rP 2::q7M) [11] (raO 16 6) (rbO 16 6) LoopState.ready none)),(2,B.blk 3 [dI e.2.1]),(3,B.blk 32 [dL 8 qc e.2.2]),(4,B.blk 105 [C.fn 67 [] [dP 0,dP 3,dP 4]])])):=by
 intro from0 b2 v;have h:=q1q [] from0 b2 v
 first
  | exact h
  | (simp only[rL,dL,bR,bZ,Nat.reduceAdd] at h;exact h)
def ZH (b1:Int) (v:List qa):Option (Int×List qa):=Option.bind (Q0 ([],(0,(b1,v)))) fun(a:Prod Bool (Prod Int (List qa)))=>some (a.2.1,a.2.2)
theorem q2S:∀(b1:Int) (v:List qa),ev 66 3 [R.c (C.hd .yield 0),rP 2] [(0,B.ob (AO.lp 16 (R.any::R.any::R.any::R.any::rP 1::q7M) [11] (raO 16 6) (rbO 16 6) LoopState.ready none)),(1,B.blk 3 [dI b1]),(2,B.blk 32 [dL 8 qc v])]=(ZH b1 v).bind (fun(e:Int×List qa)=>some (R.tup [],[(0,B.ob (AO.lp 16 (R.any::R.any::R.any::R.any::rP 1::q7M) [11] (raO 16 6) (rbO 16 6) LoopState.ready none)),(1,B.blk 3 [dI e.1]),(2,B.blk 32 [dL 8 qc e.2])])):=
 fun b1 v=>by
  rw[qy qrd qtS.2.2.2 qwJ]
  have:=qvy;have:=@q0w;have:=@ZH.eq_1;exact gA
def QT (l:List qa):Option (Int×Int):=if 10<((l.length:Nat):Int) then some (0,2) else Option.bind (ZH 0 l) fun(a:Prod Int (List qa))=>some (a.1,0)
theorem q4e:∀(l:List qa),ev 16 0 [rL 8 qc l] []=(QT l).bind (fun(e:Int×Int)=>some (R.tup [rI e.1,rI e.2],[])):=
 fun l=>by
  rw[qy qov qtH.2.2.2 qtX]
  have:=qtY;have:=@q53;have:=@q2S;have:=@QT.eq_1;have:=@qhe;exact gA
theorem q2p:∀(l0_Course_School:Int) (l0_Course_Code:ByteArray) (l0_Credits l0_Grade l0_Day l0_Sources0 l0_Bundle l1_Course_School:Int) (l1_Course_Code:ByteArray) (l1_Credits l1_Grade l1_Day l1_Sources0 l1_Bundle l2_Course_School:Int) (l2_Course_Code:ByteArray) (l2_Credits l2_Grade l2_Day l2_Sources0 l2_Bundle:Int) , ev 16 0 [R.c (C.d (D.sl 8 3 [D.int .i64 l0_Course_School,D.str l0_Course_Code,D.int .i64 l0_Credits,D.int .i64 l0_Grade,D.int .i64 l0_Day,D.sl 1 1 [D.int .i64 l0_Sources0],D.int .i64 l0_Bundle,D.sl 1 0 [],D.int .i64 l1_Course_School,D.str l1_Course_Code,D.int .i64 l1_Credits,D.int .i64 l1_Grade,D.int .i64 l1_Day,D.sl 1 1 [D.int .i64 l1_Sources0],D.int .i64 l1_Bundle,D.sl 1 0 [],D.int .i64 l2_Course_School,D.str l2_Course_Code,D.int .i64 l2_Credits,D.int .i64 l2_Grade,D.int .i64 l2_Day,D.sl 1 1 [D.int .i64 l2_Sources0],D.int .i64 l2_Bundle,D.sl 1 0 []]))] []=(QT [(qa.mk (qb.mk l0_Course_School l0_Course_Code) l0_Credits l0_Grade l0_Day [l0_Sources0] l0_Bundle ([]:List Int)),(qa.mk (qb.mk l1_Course_School l1_Course_Code) l1_Credits l1_Grade l1_Day [l1_Sources0] l1_Bundle ([]:List Int)),(qa.mk (qb.mk l2_Course_School l2_Course_Code) l2_Credits l2_Grade l2_Day [l2_Sources0] l2_Bundle ([]:List Int))]).bind (fun(e:Int×Int)=>some (R.tup [rI e.1,rI e.2],[])):=by
 intro l0_Course_School l0_Course_Code l0_Credits l0_Grade l0_Day l0_Sources0 l0_Bundle l1_Course_School l1_Course_Code l1_Credits l1_Grade l1_Day l1_Sources0 l1_Bundle l2_Course_School l2_Course_Code l2_Credits l2_Grade l2_Day l2_Sources0 l2_Bundle;have h:=q4e [(qa.mk (qb.mk l0_Course_School l0_Course_Code) l0_Credits l0_Grade l0_Day [l0_Sources0] l0_Bundle ([]:List Int)),(qa.mk (qb.mk l1_Course_School l1_Course_Code) l1_Credits l1_Grade l1_Day [l1_Sources0] l1_Bundle ([]:List Int)),(qa.mk (qb.mk l2_Course_School l2_Course_Code) l2_Credits l2_Grade l2_Day [l2_Sources0] l2_Bundle ([]:List Int))]
 first
  | exact h
  | (simp only[rL,dL,bR,bZ,Nat.reduceAdd] at h;exact h)
theorem qou:okL 11 q7h:=qB (qi qkL) (by kernel_rfl) (by kernel_rfl)
def qkc:=JA_ @q7h.eq_1 (JA_ @Try.f11.eq_1 @qkL)
theorem qbu:lbO 11 3=q6S:=zE (qi qkL) rfl
theorem qdH:okL 11 q6S:=qT qou (qxI (i:=0) (by kernel_rfl))
theorem qeI:lbO 11 9=q7t:=zE (qi qkL) rfl
theorem qdb:okL 11 q7t:=qT qou (qxI (i:=1) (by kernel_rfl))
theorem qx0:okL 25 qbo:=qB (qi qr5) (by kernel_rfl) (by kernel_rfl)
def qwz:=JA_ @qbo.eq_1 (JA_ @Try.f25.eq_1 @qr5)
theorem qvO:okL 50 qcu:=qB (qi qry) (by kernel_rfl) (by kernel_rfl)
def qwk:=JA_ @qcu.eq_1 (JA_ @Try.f50.eq_1 @qry)
theorem qw8:okL 76 qbV:=qB (qi qs3) (by kernel_rfl) (by kernel_rfl)
def qxC:=JA_ @qbV.eq_1 (JA_ @Try.f76.eq_1 @qs3)
def Qy (n:Int) (by0:Int):Option Int:=if by0=0 then none else if by0=0 then none else if by0=0 then none else some (w64 (Int.tdiv (w64 (n-Int.tmod (w64 (Int.tmod n by0+by0)) by0)) by0))
theorem q3B:∀(n by0:Int),ev 76 0 [rI n,rI by0] []=(Qy n by0).bind (fun(e:Int)=>some (rI e,[])):=
 fun n by0=>by
  rw[qy qs3 qtL.2.2.2 qw8]
  have:=qxC;have:=@Qy.eq_1;exact gA
def QS (day:Int):Option Int:=if day<(-4611686018427387904) then Option.bind (Qy (w64 (day+100)) 100) fun(a:Int)=>some (w64 (a-1)) else Option.bind (Qy day 100) fun(e0:Int)=>some e0
theorem q5h:∀(day:Int),ev 50 0 [rI day] []=(QS day).bind (fun(e:Int)=>some (rI e,[])):=
 fun day=>by
  rw[qy qry qu4.2.2.2 qvO]
  have:=qwk;have:=@q3B;have:=@QS.eq_1;exact gA
def qv (p:qd) (a:qa) (day:Int):Option Bool:=if 0<p.Age then Option.bind (QS day) fun(a2:Int)=>Option.bind (QS a.Day) fun(a3:Int)=>some (decide (p.Age<w64 (a2-a3))) else some Bool.false
theorem Jf:∀(p_School p_Id p_Version p_From:Int) (p_Name:ByteArray) (p_Need_Kind p_Need_N p_Need_Min:Int) (p_Need_Set:List qb) (p_Need_L:List qg) (p_Total p_Own p_Age:Int) (p_Exclude:List (QC qb)) (a_Course_School:Int) (a_Course_Code:ByteArray) (a_Credits a_Grade a_Day:Int) (a_Sources:List Int) (a_Bundle:Int) (a_Path:List Int) (day:Int),ev 25 0 [R.agg [dI p_School,dI p_Id,dI p_Version,dI p_From,dS p_Name,dI p_Need_Kind,dI p_Need_N,dI p_Need_Min,dL 2 qh p_Need_Set,dL 5 ql p_Need_L,dI p_Total,dI p_Own,dI p_Age,dL 4 (eA2 qh) p_Exclude],R.agg [dI a_Course_School,dS a_Course_Code,dI a_Credits,dI a_Grade,dI a_Day,dL 1 eI a_Sources,dI a_Bundle,dL 1 eI a_Path],rI day] []=(qv (qd.mk p_School p_Id p_Version p_From p_Name (qg.mk p_Need_Kind p_Need_N p_Need_Min p_Need_Set p_Need_L) p_Total p_Own p_Age p_Exclude) (qa.mk (qb.mk a_Course_School a_Course_Code) a_Credits a_Grade a_Day a_Sources a_Bundle a_Path) day).bind (fun(e:Bool)=>some (rB e,[])):=
 fun p_School p_Id p_Version p_From p_Name p_Need_Kind p_Need_N p_Need_Min p_Need_Set p_Need_L p_Total p_Own p_Age p_Exclude a_Course_School a_Course_Code a_Credits a_Grade a_Day a_Sources a_Bundle a_Path day=>by
  rw[qy qr5 quY.2.2.2 qx0]
  have:=qwz;have:=@q5h;have:=@qv.eq_1;exact gA
theorem qwe:okL 31 qen:=qB (qi qrP) (by kernel_rfl) (by kernel_rfl)
def qw0:=JA_ @qen.eq_1 (JA_ @Try.f31.eq_1 @qrP)
def qM (s:List Int):Option Unit:=if s.length≤maxLen∧s.length*8≤140737488355328 then some () else none
theorem Z4:∀(s:List Int),ev 57 0 [rL 1 eI s] []=(qM s).bind (fun(e:Unit)=>some (rO 0 1 s.length,[(0,bR 3 1 eI s)])):=
 fun s=>by
  rw[qfZ,quv.2.2.2]
  have:=@qM.eq_1;exact gA
def qt (a:qa):Option Unit:=Option.bind (qM a.Sources) fun(a2:Unit)=>Option.bind (qM a.Path) fun(a3:Unit)=>some ()
theorem ZC:∀(a_Course_School:Int) (a_Course_Code:ByteArray) (a_Credits a_Grade a_Day:Int) (a_Sources:List Int) (a_Bundle:Int) (a_Path:List Int),ev 31 0 [R.agg [dI a_Course_School,dS a_Course_Code,dI a_Credits,dI a_Grade,dI a_Day,dL 1 eI a_Sources,dI a_Bundle,dL 1 eI a_Path]] []=(qt (qa.mk (qb.mk a_Course_School a_Course_Code) a_Credits a_Grade a_Day a_Sources a_Bundle a_Path)).bind (fun(e:Unit)=>some (R.agg [dI a_Course_School,dS a_Course_Code,dI a_Credits,dI a_Grade,dI a_Day,dL 1 eI a_Sources,dI a_Bundle,dL 1 eI a_Path],[])):=
 fun a_Course_School a_Course_Code a_Credits a_Grade a_Day a_Sources a_Bundle a_Path=>by
  rw[qy qrP quE.2.2.2 qwe]
  have:=qw0;have:=@Z4;have:=@qt.eq_1;exact gA
theorem quC:okL 32 q9q:=qB (qi qq4) (by kernel_rfl) (by kernel_rfl)
def qug:=JA_ @q9q.eq_1 (JA_ @Try.f32.eq_1 @qq4)
theorem qm2:lbO 32 3=qdC:=zE (qi qq4) rfl
theorem qp1:okL 32 qdC:=qT quC (qxI (i:=0) (by kernel_rfl))
theorem qsT:okL 58 q7j:=qB (qi qmt) (by kernel_rfl) (by kernel_rfl)
def qt5:=JA_ @q7j.eq_1 (JA_ @Try.f58.eq_1 @qmt)
theorem qmQ:lbO 58 3=qeC:=zE (qi qmt) rfl
theorem qnT:okL 58 qeC:=qT qsT (qxI (i:=0) (by kernel_rfl))
theorem qlO:lbO 58 8=qe9:=zE (qi qmt) rfl
theorem qmH:okL 58 qe9:=qT qsT (qxI (i:=1) (by kernel_rfl))
def zZ (s:List Int):Option (List Int):=
 some (@cpI s)
def qH (s:List Int):List Int:=
 @cpI s
theorem ZX (s:List Int):zZ s=some (qH s):=by
 unfold zZ qH
 simp only[ZF]
theorem J7:∀(s:List Int) (s_len:Nat),s_len=s.length→ev 79 0 [rO 0 1 s_len] [(0,bR 3 1 eI s)]=some (rO 0 1 (qH s).length,[(0,B.row 3 1 (((qH s).flatMap eI).map C.d))]):=
 by
 intro s s_len h0
 subst h0
 have h:ev 79 0 [rO 0 1 s.length] [(0,bR 3 1 eI s)]=(zZ s).bind (fun(e:List Int)=>some (rO 0 1 e.length,[(0,bR 3 1 eI e)])):=by
  rw[qfZ,quN.2.2.2]
  have:=@zZ.eq_1;exact gA
 rw[ZX] at h
 exact h
def Qp (w1:List Int) (t10:List qa) (t11:Int) (t12:Int) (t23:Int):((List (Int×Int))×Int)→Option (((List (Int×Int))×Int)⊕((List (Int×Int))))|(m0,t24)=>if t24<t23 then if 0≤t24∧t24<((w1.length:Nat):Int) then Option.bind w1[Int.toNat t24]? fun(a:Int)=>some (Sum.inl (q3l m0 a (w64 (Zi 0 m0 a+1)),w64 (t24+1))) else none else some (Sum.inr m0)
theorem q3e:∀(w1:List Int) (m0:List (Int×Int)) (t10:List qa) (t11 t12 t23 t24:Int) (w1_len:Nat),w1_len=w1.length→XL2 evo 58 0 8 ⟨[(3,R.c (C.hd .map 0)),(10,rL 8 qc t10),(11,rI t11),(12,rI t12),(22,rO 1 1 w1_len),(23,rI t23),(24,rI t24)],[(0,B.ob (mpB (JJ .i64) Qd m0)),(1,bR 3 1 eI w1)],2,35⟩=(qz (Qp w1 t10 t11 t12 t23) (m0,t24)).bind (fun(e:(List (Int×Int)))=>some (Exit.exit 2,⟨[(3,R.c (C.hd .map 0)),(10,rL 8 qc t10),(11,rI t11),(12,rI t12)],[(0,B.ob (mpB (JJ .i64) Qd e))],1,35⟩)):=
 by
 intro w1 m0 t10 t11 t12 t23 t24 w1_len h0
 subst h0
 revert t24;revert m0;exact q9T qlO qmH (fun e=>by exact⟨_,rfl,fun h=>by cases h⟩) fun m0 t24=>by
  have:=qt5;have:=@qe9.eq_1;have:=@Qp.eq_1;exact gA
def QE (t10:List qa) (t11:Int):((List (Int×Int))×Int)→Option (((List (Int×Int))×Int)⊕((List (Int×Int))))|(m0,t12)=>if t12<t11 then if 0≤t12∧t12<((t10.length:Nat):Int) then Option.bind t10[Int.toNat t12]? fun(a:qa)=>Option.bind (qM a.Sources) fun(a2:Unit)=>if a.Sources.length<4611686018427387904 then Option.bind (qz (Qp (qH (@ZS a.Sources)) t10 t11 t12 (((qH (@ZS a.Sources)).length:Nat):Int)) (m0,0)) fun(a3:List (Prod Int Int))=>some (Sum.inl (a3,w64 (t12+1))) else none else none else some (Sum.inr m0)
theorem q2M:∀(m0:List (Int×Int)) (t10:List qa) (t11 t12:Int),XL2 evo 58 0 3 ⟨[(3,R.c (C.hd .map 0)),(10,rL 8 qc t10),(11,rI t11),(12,rI t12)],[(0,B.ob (mpB (JJ .i64) Qd m0))],1,35⟩=(qz (QE t10 t11) (m0,t12)).bind (fun(e:(List (Int×Int)))=>some (Exit.exit 0,⟨[(3,R.c (C.hd .map 0))],[(0,B.ob (mpB (JJ .i64) Qd e))],1,35⟩)):=
 fun m0 t10 t11 t12=>by
  revert t12;revert m0;exact q9T qmQ qnT (fun e=>by exact⟨_,rfl,fun h=>by cases h⟩) fun m0 t12=>by
   have:=qt5;have:=@qeC.eq_1;have:=@Z4;have:=@J7;have:=@q3e;have:=@QE.eq_1;exact gA
def Ji (l:List qa):Option ((List (Int×Int))):=Option.bind (qz (QE l ((l.length:Nat):Int)) ([],0)) fun(a:List (Prod Int Int))=>some a
theorem q5o:∀(l:List qa),ev 58 0 [rL 8 qc l] []=(Ji l).bind (fun(e:(List (Int×Int)))=>some (R.c (C.hd .map 0),[(0,B.ob (mpB (JJ .i64) Qd e))])):=
 fun l=>by
  rw[qy qmt quT.2.2.2 qsT]
  have:=qt5;have:=@q2M;have:=@Ji.eq_1;exact gA
theorem qvL:okL 14 qbp:=qB (qi qsM) (by kernel_rfl) (by kernel_rfl)
def qwQ:=JA_ @qbp.eq_1 (JA_ @Try.f14.eq_1 @qsM)
theorem qwG:okL 39 qbN:=qB (qi qt2) (by kernel_rfl) (by kernel_rfl)
def qvU:=JA_ @qbN.eq_1 (JA_ @Try.f39.eq_1 @qt2)
theorem qvi:okL 64 qbm:=qB (qi qsw) (by kernel_rfl) (by kernel_rfl)
def qwi:=JA_ @qbm.eq_1 (JA_ @Try.f64.eq_1 @qsw)
theorem quZ:okL 84 q9r:=qB (qi qq6) (by kernel_rfl) (by kernel_rfl)
def qtK:=JA_ @q9r.eq_1 (JA_ @Try.f84.eq_1 @qq6)
theorem qlo:lbO 84 2=qes:=zE (qi qq6) rfl
theorem qol:okL 84 qes:=qT quZ (qxI (i:=0) (by kernel_rfl))
theorem qwv:okL 85 qdw:=qB (qi qtl) (by kernel_rfl) (by kernel_rfl)
def qvq:=JA_ @qdw.eq_1 (JA_ @Try.f85.eq_1 @qtl)
def QA (n:Int) (a:Int) (b:Int):Option Int:=
 some (max (min a b) (min n (max a b)))
def qR (n:Int) (a:Int) (b:Int):Int:=
 max (min a b) (min n (max a b))
theorem q08 (n a b:Int):QA n a b=some (qR n a b):=by
 unfold QA qR
 simp only[ZF]
theorem QK:∀(n a b:Int),ev 85 0 [rI n,rI a,rI b] []=some (rI (qR n a b),[]):=
 fun n a b=>by
  have h:ev 85 0 [rI n,rI a,rI b] []=(QA n a b).bind (fun(e:Int)=>some (rI e,[])):=by
   rw[qy qtl qtI.2.2.2 qwv]
   have:=qvq;have:=@QA.eq_1;exact gA
  rw[q08] at h
  exact h
end
noncomputable section
open Go.RowKit
set_option maxRecDepth 20000
set_option maxHeartbeats 8000000
def Q1 (w1:List Int) (s:qe) (t10:Int):Int→Option (Int⊕(Unit⊕Unit))|t11=>if t11<t10 then if 0≤t11∧t11<((w1.length:Nat):Int) then Option.bind w1[Int.toNat t11]? fun(a:Int)=>if(qR a (-1000) 1000 != a)=Bool.true then some (Sum.inr (Sum.inl ())) else some (Sum.inl (w64 (t11+1))) else none else some (Sum.inr (Sum.inr ()))
theorem q1S:∀(w1:List Int) (s_Worst s_Best s_Pass t10 t11:Int) (w1_len:Nat),w1_len=w1.length→XL2 evo 84 0 2 ⟨[(1,rP 0),(9,rO 1 1 w1_len),(10,rI t10),(11,rI t11)],[(0,B.blk 30 [dI s_Worst,dI s_Best,dI s_Pass]),(1,bR 3 1 eI w1)],2,37⟩=(qz (Q1 w1 (qe.mk s_Worst s_Best s_Pass) t10) t11).bind (Sum.elim (fun(e:Unit)=>some (Exit.ret,⟨[(1,rP 0),(2,rI 10)],[(0,B.blk 30 [dI s_Worst,dI s_Best,dI s_Pass])],1,37⟩)) (fun(e:Unit)=>some (Exit.exit 0,⟨[(1,rP 0),(2,R.any)],[(0,B.blk 30 [dI s_Worst,dI s_Best,dI s_Pass])],1,37⟩))):=
 by
 intro w1 s_Worst s_Best s_Pass t10 t11 w1_len h0
 subst h0
 revert t11;exact q5s qlo qol (fun e=>by rcases e with _|_<;>exact⟨_,rfl,fun h=>by cases h⟩) fun x=>by
  have:=qtK;have:=@qes.eq_1;have:=@QK;have:=@Q1.eq_1;exact gA
theorem q0x:∀(w10 w11 s_Worst s_Best s_Pass t10 t11:Int),XL2 evo 84 0 2 ⟨[(1,rP 0),(9,rO 1 1 2),(10,rI t10),(11,rI t11)],[(0,B.blk 30 [dI s_Worst,dI s_Best,dI s_Pass]),(1,B.row 3 1 [dI w10,dI w11])],2,37⟩=(qz (Q1 [w10,w11] (qe.mk s_Worst s_Best s_Pass) t10) t11).bind (Sum.elim (fun(e:Unit)=>some (Exit.ret,⟨[(1,rP 0),(2,rI 10)],[(0,B.blk 30 [dI s_Worst,dI s_Best,dI s_Pass])],1,37⟩)) (fun(e:Unit)=>some (Exit.exit 0,⟨[(1,rP 0),(2,R.any)],[(0,B.blk 30 [dI s_Worst,dI s_Best,dI s_Pass])],1,37⟩))):=by
 intro w10 w11 s_Worst s_Best s_Pass t10 t11;have h:=q1S [w10,w11] ((qe.mk s_Worst s_Best s_Pass)).Worst ((qe.mk s_Worst s_Best s_Pass)).Best ((qe.mk s_Worst s_Best s_Pass)).Pass t10 t11 _ rfl
 first
  | exact h
  | (simp only[rL,dL,bR,bZ,Nat.reduceAdd] at h;exact h)
def Zq (s:qe):Option Int:=Option.bind (qz (Q1 [s.Worst,s.Best] s 2) 0) fun(a:Sum Unit Unit)=>Sum.elim (fun(a2:Unit)=>some 10) (fun(a3:Unit)=>if(s.Worst==s.Best)=Bool.true then some 10 else if(qR s.Pass s.Worst s.Best != s.Pass)=Bool.true then some 10 else some 0) a
theorem q3H:∀(s_Worst s_Best s_Pass:Int),ev 84 0 [R.agg [dI s_Worst,dI s_Best,dI s_Pass]] []=(Zq (qe.mk s_Worst s_Best s_Pass)).bind (fun(e:Int)=>some (rI e,[])):=
 fun s_Worst s_Best s_Pass=>by
  rw[qy qq6 quP.2.2.2 quZ]
  have:=qtK;have:=@q0x;have:=@QK;have:=@Zq.eq_1;exact gA
def Zj (s:qe) (g:Int):Option Bool:=Option.bind (Zq s) fun(a:Int)=>if(a==0)=Bool.true then some (qR g s.Worst s.Best==g) else some Bool.false
theorem q3D:∀(s_Worst s_Best s_Pass g:Int),ev 64 0 [R.agg [dI s_Worst,dI s_Best,dI s_Pass],rI g] []=(Zj (qe.mk s_Worst s_Best s_Pass) g).bind (fun(e:Bool)=>some (rB e,[])):=
 fun s_Worst s_Best s_Pass g=>by
  rw[qy qsw qtN.2.2.2 qvi]
  have:=qwi;have:=@q3H;have:=@QK;have:=@Zj.eq_1;exact gA
def QP (s:qe) (g:Int) (min:Int):Option Bool:=Option.bind (Zj s g) fun(a:Bool)=>if a=Bool.true then if(g==min)=Bool.true then some Bool.true else some (decide (min<g)==decide (s.Worst<s.Best)) else some Bool.false
theorem q2g:∀(s_Worst s_Best s_Pass g min:Int),ev 39 0 [R.agg [dI s_Worst,dI s_Best,dI s_Pass],rI g,rI min] []=(QP (qe.mk s_Worst s_Best s_Pass) g min).bind (fun(e:Bool)=>some (rB e,[])):=
 fun s_Worst s_Best s_Pass g min=>by
  rw[qy qt2 qtx.2.2.2 qwG]
  have:=qvU;have:=@q3D;have:=@QP.eq_1;exact gA
def QF (s:qe) (a:qa) (b:qa):Option Bool:=if(a.Course.School==b.Course.School)=Bool.true∧(ByteArray.toList a.Course.Code==ByteArray.toList b.Course.Code)=Bool.true then if(a.Bundle==b.Bundle)=Bool.true then Option.bind (zc a.Path b.Path) fun(a2:Bool)=>if a2=Bool.true then if b.Credits≤a.Credits then if b.Day≤a.Day then Option.bind (QP s a.Grade b.Grade) fun(e0:Bool)=>some e0 else some Bool.false else some Bool.false else some Bool.false else some Bool.false else some Bool.false
theorem JU:∀(s_Worst s_Best s_Pass a_Course_School:Int) (a_Course_Code:ByteArray) (a_Credits a_Grade a_Day:Int) (a_Sources:List Int) (a_Bundle:Int) (a_Path:List Int) (b_Course_School:Int) (b_Course_Code:ByteArray) (b_Credits b_Grade b_Day:Int) (b_Sources:List Int) (b_Bundle:Int) (b_Path:List Int),ev 14 0 [R.agg [dI s_Worst,dI s_Best,dI s_Pass],R.agg [dI a_Course_School,dS a_Course_Code,dI a_Credits,dI a_Grade,dI a_Day,dL 1 eI a_Sources,dI a_Bundle,dL 1 eI a_Path],R.agg [dI b_Course_School,dS b_Course_Code,dI b_Credits,dI b_Grade,dI b_Day,dL 1 eI b_Sources,dI b_Bundle,dL 1 eI b_Path]] []=(QF (qe.mk s_Worst s_Best s_Pass) (qa.mk (qb.mk a_Course_School a_Course_Code) a_Credits a_Grade a_Day a_Sources a_Bundle a_Path) (qa.mk (qb.mk b_Course_School b_Course_Code) b_Credits b_Grade b_Day b_Sources b_Bundle b_Path)).bind (fun(e:Bool)=>some (rB e,[])):=
 fun s_Worst s_Best s_Pass a_Course_School a_Course_Code a_Credits a_Grade a_Day a_Sources a_Bundle a_Path b_Course_School b_Course_Code b_Credits b_Grade b_Day b_Sources b_Bundle b_Path=>by
  rw[qy qsM quL.2.2.2 qvL]
  have:=qwQ;have:=@Z7;have:=@q2g;have:=@QF.eq_1;exact gA
theorem qwo:okL 59 qcS:=qB (qi qqK) (by kernel_rfl) (by kernel_rfl)
def qwO:=JA_ @qcS.eq_1 (JA_ @Try.f59.eq_1 @qqK)
def Qu (n:Int) (m1:List (Int×Int)) (v:List qa) (v2:Int):Option Bool:=if 1<Zi 0 m1 n then if 0≤v2∧v2<((v.length:Nat):Int) then Option.bind v[Int.toNat v2]? fun(a:qa)=>Option.bind (qV a.Sources n) fun(a2:Bool)=>some (!a2) else none else some Bool.false
theorem q1v:∀(n:Int) (m1:List (Int×Int)) (v:List qa) (v2:Int),ev 59 4 [rI n,rP 0,rP 2,rP 3] [(0,B.blk 82 [C.hd .map 1]),(1,B.ob (mpB (JJ .i64) Qd m1)),(2,B.blk 32 [dL 8 qc v]),(3,B.blk 3 [dI v2])]=(Qu n m1 v v2).bind (fun(e:Bool)=>some (rB e,[(0,B.blk 82 [C.hd .map 1]),(1,B.ob (mpB (JJ .i64) Qd m1)),(2,B.blk 32 [dL 8 qc v]),(3,B.blk 3 [dI v2])])):=
 fun n m1 v v2=>by
  rw[qy qqK qul.2.2.2 qwo]
  have:=qwO;have:=@QL;have:=@Qu.eq_1;exact gA
def qm (i:Int) (j:Int) (s:List qa):Option (List qa):=if 0≤i∧j=i+1∧i<((s.length:Nat):Int) then some (@List.eraseIdx qa s (Int.toNat i)) else none
theorem qF:∀(i j:Int) (s:List qa) (s_len:Nat),s_len=s.length→ev 33 0 [rO 0 8 s_len,rI i,rI j] [(0,bR 52 8 qc s)]=(qm i j s).bind (fun(e:List qa)=>some (rO 0 8 e.length,[(0,bR 52 8 qc e)])):=
 by
 intro i j s s_len h0
 subst h0
 rw[qfZ,qtV.2.2.2]
 have:=@qm.eq_1;exact gA
def qC (m1:List (Int×Int)) (b2:List qa) (b3:Int) (s:List Int) (t7:Int):Int→Option (Int⊕(Int⊕Unit))|t8=>if t8<t7 then if 0≤t8∧t8<((s.length:Nat):Int) then Option.bind s[Int.toNat t8]? fun(a:Int)=>Option.bind (Qu a m1 b2 b3) fun(a2:Bool)=>if a2=Bool.true then some (Sum.inr (Sum.inl t8)) else some (Sum.inl (w64 (t8+1))) else none else some (Sum.inr (Sum.inr ()))
theorem Zh:∀(m1:List (Int×Int)) (b2:List qa) (b3:Int) (s:List Int) (t7 t8:Int),XL2 evo 81 4 2 ⟨[(0,rL 1 eI s),(1,R.c (C.fn 59 [] [dP 0,dP 2,dP 3])),(7,rI t7),(8,rI t8)],[(0,B.blk 82 [C.hd .map 1]),(1,B.ob (mpB (JJ .i64) Qd m1)),(2,B.blk 32 [dL 8 qc b2]),(3,B.blk 3 [dI b3])],4,19⟩=(qz (qC m1 b2 b3 s t7) t8).bind (Sum.elim (fun(e:Int)=>some (Exit.ret,⟨[(4,rI e)],[(0,B.blk 82 [C.hd .map 1]),(1,B.ob (mpB (JJ .i64) Qd m1)),(2,B.blk 32 [dL 8 qc b2]),(3,B.blk 3 [dI b3])],4,19⟩)) (fun(e:Unit)=>some (Exit.exit 0,⟨[(4,R.any)],[(0,B.blk 82 [C.hd .map 1]),(1,B.ob (mpB (JJ .i64) Qd m1)),(2,B.blk 32 [dL 8 qc b2]),(3,B.blk 3 [dI b3])],4,19⟩))):=
 fun m1 b2 b3 s t7 t8=>by
  revert t8;exact q5s qhs qhv (fun e=>by rcases e with _|_<;>exact⟨_,rfl,fun h=>by cases h⟩) fun x=>by
   have:=qqu;have:=@q8S.eq_1;have:=@q1v;have:=@qC.eq_1;exact gA
def zt (s:List Int) (m1:List (Int×Int)) (b2:List qa) (b3:Int):Option Int:=Option.bind (qz (qC m1 b2 b3 s ((s.length:Nat):Int)) 0) fun(a:Sum Int Unit)=>Sum.elim (fun(a2:Int)=>some a2) (fun(a3:Unit)=>some (-1)) a
theorem ZE:∀(s:List Int) (m1:List (Int×Int)) (b2:List qa) (b3:Int),ev 81 4 [rL 1 eI s,R.c (C.fn 59 [] [dP 0,dP 2,dP 3])] [(0,B.blk 82 [C.hd .map 1]),(1,B.ob (mpB (JJ .i64) Qd m1)),(2,B.blk 32 [dL 8 qc b2]),(3,B.blk 3 [dI b3])]=(zt s m1 b2 b3).bind (fun(e:Int)=>some (rI e,[(0,B.blk 82 [C.hd .map 1]),(1,B.ob (mpB (JJ .i64) Qd m1)),(2,B.blk 32 [dL 8 qc b2]),(3,B.blk 3 [dI b3])])):=
 fun s m1 b2 b3=>by
  rw[qy qn6 qth.2.2.2 qro]
  have:=qqu;have:=@Zh;have:=@zt.eq_1;exact gA
def qP (s:List Int) (m1:List (Int×Int)) (b2:List qa) (b3:Int):Option Bool:=Option.bind (zt s m1 b2 b3) fun(a:Int)=>some (decide (0≤a))
theorem Zg:∀(s:List Int) (m1:List (Int×Int)) (b2:List qa) (b3:Int),ev 61 4 [rL 1 eI s,R.c (C.fn 59 [] [dP 0,dP 2,dP 3])] [(0,B.blk 82 [C.hd .map 1]),(1,B.ob (mpB (JJ .i64) Qd m1)),(2,B.blk 32 [dL 8 qc b2]),(3,B.blk 3 [dI b3])]=(qP s m1 b2 b3).bind (fun(e:Bool)=>some (rB e,[(0,B.blk 82 [C.hd .map 1]),(1,B.ob (mpB (JJ .i64) Qd m1)),(2,B.blk 32 [dL 8 qc b2]),(3,B.blk 3 [dI b3])])):=
 fun s m1 b2 b3=>by
  rw[qy qpX qr4.2.2.2 quO]
  have:=qv8;have:=@ZE;have:=@qP.eq_1;exact gA
def zW (l:List qa) (s:qe) (at0:Int) (m4:List (Int×Int)) (t13:List qa) (t14:Int):Int→Option (Int⊕(Unit⊕Unit))|t15=>if t15<t14 then if 0≤t15∧t15<((t13.length:Nat):Int) then Option.bind t13[Int.toNat t15]? fun(a:qa)=>if(t15==at0)=Bool.true then some (Sum.inl (w64 (t15+1))) else if 0≤at0∧at0<((l.length:Nat):Int) then Option.bind l[Int.toNat at0]? fun(a2:qa)=>Option.bind (QF s a a2) fun(a3:Bool)=>if(!a3)=Bool.true then some (Sum.inl (w64 (t15+1))) else Option.bind (qP a.Sources m4 l at0) fun(a4:Bool)=>if(!a4)=Bool.true then some (Sum.inr (Sum.inl ())) else some (Sum.inl (w64 (t15+1))) else none else none else some (Sum.inr (Sum.inr ()))
theorem q0M:∀(l:List qa) (s_Worst s_Best s_Pass at0:Int) (m4:List (Int×Int)) (t13:List qa) (t14 t15:Int),XL2 evo 32 0 3 ⟨[(3,rP 0),(4,rP 1),(5,rP 2),(7,rP 3),(13,rL 8 qc t13),(14,rI t14),(15,rI t15)],[(0,B.blk 32 [dL 8 qc l]),(1,B.blk 30 [dI s_Worst,dI s_Best,dI s_Pass]),(2,B.blk 3 [dI at0]),(3,B.blk 82 [C.hd .map 4]),(4,B.ob (mpB (JJ .i64) Qd m4))],5,40⟩=(qz (zW l (qe.mk s_Worst s_Best s_Pass) at0 m4 t13 t14) t15).bind (Sum.elim (fun(e:Unit)=>some (Exit.ret,⟨[(6,rB Bool.true)],[],0,40⟩)) (fun(e:Unit)=>some (Exit.exit 0,⟨[(6,R.any)],[],0,40⟩))):=
 fun l s_Worst s_Best s_Pass at0 m4 t13 t14 t15=>by
  revert t15;exact q5s qm2 qp1 (fun e=>by rcases e with _|_<;>exact⟨_,rfl,fun h=>by cases h⟩) fun x=>by
   have:=qug;have:=@qdC.eq_1;have:=@JU;have:=@Zg;have:=@zW.eq_1;exact gA
def zP (l:List qa) (s:qe) (at0:Int):Option Bool:=Option.bind (Ji l) fun(a:List (Prod Int Int))=>Option.bind (qz (zW l s at0 a l ((l.length:Nat):Int)) 0) fun(a2:Sum Unit Unit)=>Sum.elim (fun(a3:Unit)=>some Bool.true) (fun(a4:Unit)=>some Bool.false) a2
theorem Zl:∀(l:List qa) (s_Worst s_Best s_Pass at0:Int),ev 32 0 [rL 8 qc l,R.agg [dI s_Worst,dI s_Best,dI s_Pass],rI at0] []=(zP l (qe.mk s_Worst s_Best s_Pass) at0).bind (fun(e:Bool)=>some (rB e,[])):=
 fun l s_Worst s_Best s_Pass at0=>by
  rw[qy qq4 qu6.2.2.2 quC]
  have:=qug;have:=@q5o;have:=@q0M;have:=@zP.eq_1;exact gA
theorem lo8:okL 8 qiU:=qB (qi bd8) (by kernel_rfl) (by kernel_rfl)
def cx8:=JA_ @qiU.eq_1 (JA_ @Try.f8.eq_1 @bd8)
theorem qvM:okL 26 qbt:=qB (qi qr0) (by kernel_rfl) (by kernel_rfl)
def qvv:=JA_ @qbt.eq_1 (JA_ @Try.f26.eq_1 @qr0)
theorem q5p:∀(code:ByteArray) (grade source day:Int),ev 26 0 [rS code,rI grade,rI source,rI day] []=some (R.agg [C.d (D.int IntKind.i64 1),dS code,C.d (D.int IntKind.i64 5),C.d (D.int IntKind.i64 grade),C.d (D.int IntKind.i64 day),C.d (D.sl 1 1 [D.int IntKind.i64 source]),C.d (D.int IntKind.i64 0),C.d (D.sl 1 0 [])],[]):=
 fun code grade source day=>by
  rw[qy qr0 qtB.2.2.2 qvM]
  have:=qvv;exact gA
theorem qvR:okL 10 qbX:=qB (qi qt6) (by kernel_rfl) (by kernel_rfl)
def qvT:=JA_ @qbX.eq_1 (JA_ @Try.f10.eq_1 @qt6)
theorem Jn:ev 10 0 [] []=some (R.agg [C.d (D.int IntKind.i64 0),C.d (D.int IntKind.i64 100),C.d (D.int IntKind.i64 50)],[]):=
 by
  rw[qy qt6 quM.2.2.2 qvR]
  have:=qvT;exact gA
theorem lo9:okL 9 qg5:=qB (qi bd9) (by kernel_rfl) (by kernel_rfl)
def cx9:=JA_ @qg5.eq_1 (JA_ @Try.f9.eq_1 @bd9)
theorem qra:lbO 9 3=qkE:=zE (qi bd9) rfl
theorem qqZ:okL 9 qkE:=qT lo9 (qxI (i:=0) (by kernel_rfl))
theorem qtG:okL 27 q9v:=qB (qi qq3) (by kernel_rfl) (by kernel_rfl)
def qu9:=JA_ @q9v.eq_1 (JA_ @Try.f27.eq_1 @qq3)
theorem qnw:lbO 27 3=qbh:=zE (qi qq3) rfl
theorem qo7:okL 27 qbh:=qT qtG (qxI (i:=0) (by kernel_rfl))
theorem qxF:okL 51 qbr:=qB (qi qsV) (by kernel_rfl) (by kernel_rfl)
def qwX:=JA_ @qbr.eq_1 (JA_ @Try.f51.eq_1 @qsV)
def ZR:Option (List ByteArray):=
 some [ByteArray.mk (List.toArray [65,49]),ByteArray.mk (List.toArray [66,49]),ByteArray.mk (List.toArray [66,50]),ByteArray.mk (List.toArray [67,49]),ByteArray.mk (List.toArray [68,49]),ByteArray.mk (List.toArray [69,57])]
def qw:List ByteArray:=
 [ByteArray.mk (List.toArray [65,49]),ByteArray.mk (List.toArray [66,49]),ByteArray.mk (List.toArray [66,50]),ByteArray.mk (List.toArray [67,49]),ByteArray.mk (List.toArray [68,49]),ByteArray.mk (List.toArray [69,57])]
theorem q35:ZR=some (qw):=by
 unfold ZR qw
 simp only[ZF]
theorem q0l:ev 51 0 [] []=some (R.c (C.d (D.sl 1 (qw).length ((qw).flatMap eS))),[]):=
 by
  have h:ev 51 0 [] []=(ZR).bind (fun(e:List ByteArray)=>some (rL 1 eS e,[])):=by
   rw[qy qsV qtE.2.2.2 qxF]
   have:=qwX;have:=@ZR.eq_1;exact gA
  rw[q35] at h
  exact h
theorem qww:okL 52 qbg:=qB (qi qtn) (by kernel_rfl) (by kernel_rfl)
def qxa:=JA_ @qbg.eq_1 (JA_ @Try.f52.eq_1 @qtn)
theorem qwH:okL 28 qcD:=qB (qi qsn) (by kernel_rfl) (by kernel_rfl)
def qxd:=JA_ @qcD.eq_1 (JA_ @Try.f28.eq_1 @qsn)
def Q4 (n:Int) (m:Int):Option Int:=if m=0 then none else if m=0 then none else some (Int.tmod (w64 (Int.tmod n m+m)) m)
theorem JG:∀(n m:Int),ev 28 0 [rI n,rI m] []=(Q4 n m).bind (fun(e:Int)=>some (rI e,[])):=
 fun n m=>by
  rw[qy qsn qvc.2.2.2 qwH]
  have:=qxd;have:=@Q4.eq_1;exact gA
def qr (n:Int) (d:qf):Option (Int×qf):=if((d.L.length:Nat):Int)≤d.At then some (0,d) else if 0≤w64 (w64 (d.At+1)-1)∧w64 (w64 (d.At+1)-1)<((d.L.length:Nat):Int) then Option.bind d.L[Int.toNat (w64 (w64 (d.At+1)-1))]? fun(a:Int)=>Option.bind (Q4 a n) fun(a2:Int)=>some (a2,qf.mk d.L (w64 (d.At+1))) else none
theorem q1l:∀(n:Int) (d_L:List Int) (d_At:Int),ev 52 1 [rP 0,rI n] [(0,B.blk 89 [dL 1 eI d_L,dI d_At])]=(qr n (qf.mk d_L d_At)).bind (fun(e:Int×qf)=>some (rI e.1,[(0,B.blk 89 [dL 1 eI e.2.L,dI e.2.At])])):=
 fun n d_L d_At=>by
  rw[qy qtn quy.2.2.2 qww]
  have:=qxa;have:=@JG;have:=@qr.eq_1;exact gA
theorem qwb:okL 30 qdx:=qB (qi qsK) (by kernel_rfl) (by kernel_rfl)
def qxt:=JA_ @qdx.eq_1 (JA_ @Try.f30.eq_1 @qsK)
theorem qwu:okL 53 qdQ:=qB (qi qqO) (by kernel_rfl) (by kernel_rfl)
def qwf:=JA_ @qdQ.eq_1 (JA_ @Try.f53.eq_1 @qqO)
def qj (most:Int) (d:qf):Option (Int×qf):=if((d.L.length:Nat):Int)≤d.At then some (0,d) else if 0≤d.At∧d.At<((d.L.length:Nat):Int) then Option.bind d.L[Int.toNat d.At]? fun(a:Int)=>if most=0 then none else if most=0 then none else some (Int.tmod (w64 (Int.tmod a most+most)) most,qf.mk d.L (w64 (d.At+1))) else none
theorem Qr:∀(most:Int) (d_L:List Int) (d_At:Int),ev 53 1 [rP 0,rI most] [(0,B.blk 93 [dL 1 eI d_L,dI d_At])]=(qj most (qf.mk d_L d_At)).bind (fun(e:Int×qf)=>some (rI e.1,[(0,B.blk 93 [dL 1 eI e.2.L,dI e.2.At])])):=
 fun most d_L d_At=>by
  rw[qy qqO quk.2.2.2 qwu]
  have:=qwf;have:=@qj.eq_1;exact gA
theorem qwC:okL 54 qcg:=qB (qi qrD) (by kernel_rfl) (by kernel_rfl)
def qxD:=JA_ @qcg.eq_1 (JA_ @Try.f54.eq_1 @qrD)
def Qm (d:qf):Option (qb×qf):=Option.bind (qj 6 d) fun(a:Prod Int qf)=>if 0≤a.1∧a.1<6 then Option.bind [(1:Int),1,1,2,2,3][Int.toNat a.1]? fun(a2:Int)=>Option.bind (qj ((qw.length:Nat):Int) a.2) fun(a3:Prod Int qf)=>if 0≤a3.1∧a3.1<((qw.length:Nat):Int) then Option.bind qw[Int.toNat a3.1]? fun(a4:ByteArray)=>some (qb.mk a2 a4,a3.2) else none else none
theorem q01:∀(d_L:List Int) (d_At:Int),ev 54 1 [rP 0] [(0,B.blk 93 [dL 1 eI d_L,dI d_At])]=(Qm (qf.mk d_L d_At)).bind (fun(e:qb×qf)=>some (R.agg [dI e.1.School,dS e.1.Code],[(0,B.blk 93 [dL 1 eI e.2.L,dI e.2.At])])):=
 fun d_L d_At=>by
  rw[qy qrD qv4.2.2.2 qwC]
  have:=qxD;have:=@Qr;have:=@q0l;have:=@Qm.eq_1;exact gA
theorem qv0:okL 56 q9D:=qB (qi qqy) (by kernel_rfl) (by kernel_rfl)
def qv7:=JA_ @q9D.eq_1 (JA_ @Try.f56.eq_1 @qqy)
theorem qog:lbO 56 9=qe6:=zE (qi qqy) rfl
theorem ql7:okL 56 qe6:=qT qv0 (qxI (i:=0) (by kernel_rfl))
theorem qrm:okL 77 q6T:=qB (qi qmX) (by kernel_rfl) (by kernel_rfl)
def qqM:=JA_ @q6T.eq_1 (JA_ @Try.f77.eq_1 @qmX)
theorem qoO:lbO 77 4=qcd:=zE (qi qmX) rfl
theorem qlI:okL 77 qcd:=qT qrm (qxI (i:=0) (by kernel_rfl))
theorem qp9:lbO 77 8=qet:=zE (qi qmX) rfl
theorem qmm:okL 77 qet:=qT qrm (qxI (i:=1) (by kernel_rfl))
theorem qxG:okL 55 qcb:=qB (qi qqD) (by kernel_rfl) (by kernel_rfl)
def qxh:=JA_ @qcb.eq_1 (JA_ @Try.f55.eq_1 @qqD)
def Z9 (a:qb) (b:qb):Option Bool:=if a.School<b.School then some Bool.true else if(a.School==b.School)=Bool.true then some (Op.bytesLess (ByteArray.toList a.Code) (ByteArray.toList b.Code)) else some Bool.false
def zz (a:qb) (b:qb):Bool:=if a.School<b.School then Bool.true else if(a.School==b.School)=Bool.true then Op.bytesLess (ByteArray.toList a.Code) (ByteArray.toList b.Code) else Bool.false
theorem q1w (a b:qb):Z9 a b=some (zz a b):=by
 unfold Z9 zz
 simp only[ZF]
theorem Jg:∀(a_School:Int) (a_Code:ByteArray) (b_School:Int) (b_Code:ByteArray),ev 55 0 [R.agg [dI a_School,dS a_Code],R.agg [dI b_School,dS b_Code]] []=some (rB (zz (qb.mk a_School a_Code) (qb.mk b_School b_Code)),[]):=
 fun a_School a_Code b_School b_Code=>by
  have h:ev 55 0 [R.agg [dI a_School,dS a_Code],R.agg [dI b_School,dS b_Code]] []=(Z9 (qb.mk a_School a_Code) (qb.mk b_School b_Code)).bind (fun(e:Bool)=>some (rB e,[])):=by
   rw[qy qqD que.2.2.2 qxG]
   have:=qxh;have:=@Z9.eq_1;exact gA
  rw[q1w] at h
  exact h
def Qq (out:List qb) (d:qf) (c:qb) (many:Int) (k:Int):Int→Option (Int⊕Int)|at0=>if at0<((out.length:Nat):Int) then if 0≤at0∧at0<((out.length:Nat):Int) then Option.bind out[Int.toNat at0]? fun(a:qb)=>if zz a c=Bool.true then some (Sum.inl (w64 (at0+1))) else some (Sum.inr at0) else none else some (Sum.inr at0)
theorem q3c:∀(out:List qb) (d_L:List Int) (d_At c_School:Int) (c_Code:ByteArray) (many k at0:Int) (out_len:Nat),out_len=out.length→XL2 evo 77 1 8 ⟨[(0,rP 0),(3,rI many),(4,rO 1 2 out_len),(5,rI k),(6,rP 2),(7,rI at0)],[(0,B.blk 93 [dL 1 eI d_L,dI d_At]),(1,bR 50 2 qh out),(2,B.blk 50 [dI c_School,dS c_Code])],3,61⟩=(qz (Qq out (qf.mk d_L d_At) (qb.mk c_School c_Code) many k) at0).bind (fun(e:Int)=>some (Exit.exit 2,⟨[(0,rP 0),(3,rI many),(4,rO 1 2 out.length),(5,rI k),(6,rP 2),(7,rI e)],[(0,B.blk 93 [dL 1 eI d_L,dI d_At]),(1,bR 50 2 qh out),(2,B.blk 50 [dI c_School,dS c_Code])],3,61⟩)):=
 by
 intro out d_L d_At c_School c_Code many k at0 out_len h0
 subst h0
 revert at0;exact q5s qp9 qmm (fun e=>by exact⟨_,rfl,fun h=>by cases h⟩) fun x=>by
  have:=qqM;have:=@qet.eq_1;have:=@Jg;have:=@Qq.eq_1;exact gA
def zM (many:Int):(List qb×qf×Int)→Option ((List qb×qf×Int)⊕(List qb×qf))|(out,d,k)=>if k<many then Option.bind (Qm d) fun(a:Prod qb qf)=>Option.bind (qz (Qq out a.2 a.1 many k) 0) fun(a2:Int)=>if a2<((out.length:Nat):Int) then if 0≤a2∧a2<((out.length:Nat):Int) then Option.bind out[Int.toNat a2]? fun(a3:qb)=>if(a3.School==a.1.School)=Bool.true∧(ByteArray.toList a3.Code==ByteArray.toList a.1.Code)=Bool.true then some (Sum.inl (out,a.2,w64 (k+1))) else if out.length+1≤maxLen∧(out.length+1)*24≤140737488355328 then if 0≤w64 (a2+1)∧w64 (a2+1)≤((out.length+1:Nat):Int) then if w64 (a2+1)=0∨w64 (a2+1)<((out.length+1:Nat):Int) then if 0≤a2∧a2≤((out.length+1:Nat):Int) then if a2=0∨a2<((out.length+1:Nat):Int) then if(List.take (out.length+1-Int.toNat a2) (List.drop (Int.toNat a2) (out++[qb.mk 0 (ByteArray.mk (List.toArray []))]))).length*2=(out.length+1-Int.toNat a2)*2∧Int.toNat (w64 (a2+1))*2+(out.length+1-Int.toNat (w64 (a2+1)))*2≤(out.length+1)*2 then if 0≤a2∧a2<((out.length+1:Nat):Int) then if Int.toNat a2*2+2≤(out.length+1)*2 then some (Sum.inl (List.set (spl (out++[qb.mk 0 (ByteArray.mk (List.toArray []))]) (Int.toNat (w64 (a2+1))) (List.take (min (out.length+1-Int.toNat a2) (out.length+1-Int.toNat (w64 (a2+1)))) (List.take (out.length+1-Int.toNat a2) (List.drop (Int.toNat a2) (out++[qb.mk 0 (ByteArray.mk (List.toArray []))]))))) (Int.toNat a2) a.1,a.2,w64 (k+1))) else none else none else none else if Int.toNat (w64 (a2+1))*2+(out.length+1-Int.toNat (w64 (a2+1)))*2≤(out.length+1)*2 then if 0≤a2∧a2<((out.length+1:Nat):Int) then if Int.toNat a2*2+2≤(out.length+1)*2 then some (Sum.inl (List.set (out++[qb.mk 0 (ByteArray.mk (List.toArray []))]) (Int.toNat a2) a.1,a.2,w64 (k+1))) else none else none else none else none else if 0≤a2∧a2≤((out.length+1:Nat):Int) then if a2=0∨a2<((out.length+1:Nat):Int) then if(List.take (out.length+1-Int.toNat a2) (List.drop (Int.toNat a2) (out++[qb.mk 0 (ByteArray.mk (List.toArray []))]))).length*2=(out.length+1-Int.toNat a2)*2 then if 0≤a2∧a2<((out.length+1:Nat):Int) then if Int.toNat a2*2+2≤(out.length+1)*2 then some (Sum.inl (List.set (out++[qb.mk 0 (ByteArray.mk (List.toArray []))]) (Int.toNat a2) a.1,a.2,w64 (k+1))) else none else none else none else if 0≤a2∧a2<((out.length+1:Nat):Int) then if Int.toNat a2*2+2≤(out.length+1)*2 then some (Sum.inl (List.set (out++[qb.mk 0 (ByteArray.mk (List.toArray []))]) (Int.toNat a2) a.1,a.2,w64 (k+1))) else none else none else none else none else none else none else if out.length+1≤maxLen∧(out.length+1)*24≤140737488355328 then if 0≤w64 (a2+1)∧w64 (a2+1)≤((out.length+1:Nat):Int) then if w64 (a2+1)=0∨w64 (a2+1)<((out.length+1:Nat):Int) then if 0≤a2∧a2≤((out.length+1:Nat):Int) then if a2=0∨a2<((out.length+1:Nat):Int) then if(List.take (out.length+1-Int.toNat a2) (List.drop (Int.toNat a2) (out++[qb.mk 0 (ByteArray.mk (List.toArray []))]))).length*2=(out.length+1-Int.toNat a2)*2∧Int.toNat (w64 (a2+1))*2+(out.length+1-Int.toNat (w64 (a2+1)))*2≤(out.length+1)*2 then if 0≤a2∧a2<((out.length+1:Nat):Int) then if Int.toNat a2*2+2≤(out.length+1)*2 then some (Sum.inl (List.set (spl (out++[qb.mk 0 (ByteArray.mk (List.toArray []))]) (Int.toNat (w64 (a2+1))) (List.take (min (out.length+1-Int.toNat a2) (out.length+1-Int.toNat (w64 (a2+1)))) (List.take (out.length+1-Int.toNat a2) (List.drop (Int.toNat a2) (out++[qb.mk 0 (ByteArray.mk (List.toArray []))]))))) (Int.toNat a2) a.1,a.2,w64 (k+1))) else none else none else none else if Int.toNat (w64 (a2+1))*2+(out.length+1-Int.toNat (w64 (a2+1)))*2≤(out.length+1)*2 then if 0≤a2∧a2<((out.length+1:Nat):Int) then if Int.toNat a2*2+2≤(out.length+1)*2 then some (Sum.inl (List.set (out++[qb.mk 0 (ByteArray.mk (List.toArray []))]) (Int.toNat a2) a.1,a.2,w64 (k+1))) else none else none else none else none else if 0≤a2∧a2≤((out.length+1:Nat):Int) then if a2=0∨a2<((out.length+1:Nat):Int) then if(List.take (out.length+1-Int.toNat a2) (List.drop (Int.toNat a2) (out++[qb.mk 0 (ByteArray.mk (List.toArray []))]))).length*2=(out.length+1-Int.toNat a2)*2 then if 0≤a2∧a2<((out.length+1:Nat):Int) then if Int.toNat a2*2+2≤(out.length+1)*2 then some (Sum.inl (List.set (out++[qb.mk 0 (ByteArray.mk (List.toArray []))]) (Int.toNat a2) a.1,a.2,w64 (k+1))) else none else none else none else if 0≤a2∧a2<((out.length+1:Nat):Int) then if Int.toNat a2*2+2≤(out.length+1)*2 then some (Sum.inl (List.set (out++[qb.mk 0 (ByteArray.mk (List.toArray []))]) (Int.toNat a2) a.1,a.2,w64 (k+1))) else none else none else none else none else none else some (Sum.inr (out,d))
theorem q2H:∀(out:List qb) (d_L:List Int) (d_At many k:Int) (out_len:Nat),out_len=out.length→XL2 evo 77 1 4 ⟨[(0,rP 0),(3,rI many),(4,rO 1 2 out_len),(5,rI k)],[(0,B.blk 93 [dL 1 eI d_L,dI d_At]),(1,bR 50 2 qh out)],2,61⟩=(qz (zM many) (out,(qf.mk d_L d_At),k)).bind (fun(e:List qb×qf)=>some (Exit.exit 0,⟨[(4,rO 1 2 e.1.length)],[(0,B.blk 93 [dL 1 eI e.2.L,dI e.2.At]),(1,bR 50 2 qh e.1)],2,61⟩)):=
 by
 intro out d_L d_At many k out_len h0
 subst h0
 have h:=q7U (E:=evo) (f:=77) (k:=1) (st:=fun x:List qb×qf×Int=>(⟨[(0,rP 0),(3,rI many),(4,rO 1 2 x.1.length),(5,rI x.2.2)],[(0,B.blk 93 [dL 1 eI x.2.1.L,dI x.2.1.At]),(1,bR 50 2 qh x.1)],2,61⟩:S)) (ex:=fun(e:List qb×qf)=>(Exit.exit 0,⟨[(4,rO 1 2 e.1.length)],[(0,B.blk 93 [dL 1 eI e.2.L,dI e.2.At]),(1,bR 50 2 qh e.1)],2,61⟩)) (step:=(zM many)) qoO qlI (fun e h=>by cases h) (fun x=>by
  obtain⟨out,d,k⟩:=x;have:=qqM;have:=@qcd.eq_1;have:=@q01;have:=@q3c;have:=@zM.eq_1;exact gA) (out,(qf.mk d_L d_At),k)
 exact h
theorem q1u:∀  (d_L:List Int) (d_At many k:Int),XL2 evo 77 1 4 ⟨[(0,rP 0),(3,rI many),(4,rO 1 2 0),(5,rI k)],[(0,B.blk 93 [dL 1 eI d_L,dI d_At]),(1,B.row 50 2 [])],2,61⟩=(qz (zM many) ([],(qf.mk d_L d_At),k)).bind (fun(e:List qb×qf)=>some (Exit.exit 0,⟨[(4,rO 1 2 e.1.length)],[(0,B.blk 93 [dL 1 eI e.2.L,dI e.2.At]),(1,bR 50 2 qh e.1)],2,61⟩)):=by
 intro d_L d_At many k;have h:=q2H [] ((qf.mk d_L d_At)).L ((qf.mk d_L d_At)).At many k _ rfl
 first
  | exact h
  | (simp only[rL,dL,bR,bZ,Nat.reduceAdd] at h;exact h)
def Q3 (d:qf):Option (List qb×qf):=Option.bind (qj 3 d) fun(a:Prod Int qf)=>Option.bind (qz (zM (w64 (1+a.1))) ([],(a.2,0))) fun(a2:Prod (List qb) qf)=>some (a2.1,a2.2)
theorem q5g:∀(d_L:List Int) (d_At:Int),ev 77 1 [rP 0] [(0,B.blk 93 [dL 1 eI d_L,dI d_At])]=(Q3 (qf.mk d_L d_At)).bind (fun(e:List qb×qf)=>some (rL 2 qh e.1,[(0,B.blk 93 [dL 1 eI e.2.L,dI e.2.At])])):=
 fun d_L d_At=>by
  rw[qy qmX qvb.2.2.2 qrm]
  have:=qqM;have:=@Qr;have:=@q1u;have:=@Q3.eq_1;exact gA
def zi (x:(Int×Int×qf)):List R×List (Nat×B):=([R.c (C.ptr 0 0),R.c (C.d (D.int .i64 x.1)),R.c (C.d (D.int .i64 x.2.1))],[(0,B.blk 93 [C.d (D.sl 1 x.2.2.L.length (x.2.2.L.flatMap eI)),C.d (D.int .i64 x.2.2.At)])])
def zS:(qg×qf)→R×List (Nat×B):=fun(e:qg×qf)=>(R.agg [C.d (D.int .i64 e.1.Kind),C.d (D.int .i64 e.1.N),C.d (D.int .i64 e.1.Min),C.d (D.sl 2 e.1.Set.length (e.1.Set.flatMap qh)),C.d (D.sl 5 e.1.L.length (e.1.L.flatMap ql))],[(0,B.blk 93 [C.d (D.sl 1 e.2.L.length (e.2.L.flatMap eI)),C.d (D.int .i64 e.2.At)])])
def zf (rF:(Int×Int×qf)→Option (qg×qf)) (b1_Kind:Int) (b1_N:Int) (b1_Min:Int) (b2_Kind:Int) (b2_N:Int) (b2_Min:Int) (t1:Int) (t2:Int) (t7:Int) (t8:Int):(List qg×qf×Int)→Option ((List qg×qf×Int)⊕(List qg×qf))|(w3,b0,t10)=>if t10<t8 then if t8=0 then none else Option.bind (rF (w64 (t1-1),(w64 (Int.tdiv t2 t8),b0))) fun(a2:Prod qg qf)=>if w3.length+1≤maxLen∧(w3.length+1)*72≤140737488355328 then some (Sum.inl (w3++[a2.1],a2.2,w64 (t10+1))) else none else some (Sum.inr (w3,b0))
theorem q2o (rE:Orc) (rF:(Int×Int×qf)→Option (qg×qf)) (hF:∀y,rE (.fn 56) 1 (zi y).1 (zi y).2=(rF y).bind fun e=>some (zS e)) (hM:∀g k a G,g≠56→rE (.fn g) k a G=ev g k a G) (hR:∀g asg bd k a G,rE (.rd g asg bd) k a G=evr g asg bd k a G):∀(w3:List qg) (b0_L:List Int) (b0_At b1_Kind b1_N b1_Min b2_Kind b2_N b2_Min t1 t2 t7 t8 t10:Int) (w3_len:Nat),w3_len=w3.length→XL2 rE 56 1 9 ⟨[(0,rP 0),(1,rI t1),(2,rI t2),(6,rP 1),(7,rI t7),(8,rI t8),(9,rP 2),(10,rI t10)],[(0,B.blk 93 [dL 1 eI b0_L,dI b0_At]),(1,B.blk 36 [dI b1_Kind,dI b1_N,dI b1_Min,C.nils,C.nils]),(2,B.blk 36 [dI b2_Kind,dI b2_N,dI b2_Min,C.nils,dO 3 5 w3_len]),(3,bR 36 5 ql w3)],4,77⟩=(qz (zf rF b1_Kind b1_N b1_Min b2_Kind b2_N b2_Min t1 t2 t7 t8) (w3,(qf.mk b0_L b0_At),t10)).bind (fun(e:List qg×qf)=>some (Exit.exit 0,⟨[(0,rP 0),(6,rP 1),(7,rI t7),(8,rI t8),(9,rP 2)],[(0,B.blk 93 [dL 1 eI e.2.L,dI e.2.At]),(1,B.blk 36 [dI b1_Kind,dI b1_N,dI b1_Min,C.nils,C.nils]),(2,B.blk 36 [dI b2_Kind,dI b2_N,dI b2_Min,C.nils,dO 3 5 e.1.length]),(3,bR 36 5 ql e.1)],4,77⟩)):=
 by
 intro w3 b0_L b0_At b1_Kind b1_N b1_Min b2_Kind b2_N b2_Min t1 t2 t7 t8 t10 w3_len h0
 subst h0
 have h:=q7U (E:=rE) (f:=56) (k:=1) (st:=fun x:List qg×qf×Int=>(⟨[(0,rP 0),(1,rI t1),(2,rI t2),(6,rP 1),(7,rI t7),(8,rI t8),(9,rP 2),(10,rI x.2.2)],[(0,B.blk 93 [dL 1 eI x.2.1.L,dI x.2.1.At]),(1,B.blk 36 [dI b1_Kind,dI b1_N,dI b1_Min,C.nils,C.nils]),(2,B.blk 36 [dI b2_Kind,dI b2_N,dI b2_Min,C.nils,dO 3 5 x.1.length]),(3,bR 36 5 ql x.1)],4,77⟩:S)) (ex:=fun(e:List qg×qf)=>(Exit.exit 0,⟨[(0,rP 0),(6,rP 1),(7,rI t7),(8,rI t8),(9,rP 2)],[(0,B.blk 93 [dL 1 eI e.2.L,dI e.2.At]),(1,B.blk 36 [dI b1_Kind,dI b1_N,dI b1_Min,C.nils,C.nils]),(2,B.blk 36 [dI b2_Kind,dI b2_N,dI b2_Min,C.nils,dO 3 5 e.1.length]),(3,bR 36 5 ql e.1)],4,77⟩)) (step:=(zf rF b1_Kind b1_N b1_Min b2_Kind b2_N b2_Min t1 t2 t7 t8)) qog ql7 (fun e h=>by cases h) (fun x=>by
  obtain⟨w3,b0,t10⟩:=x;have hF':∀(x1 x2:Int) (v_L:List Int) (v_At:Int),rE (.fn 56) 1 [rP 0,rI x1,rI x2] [(0,B.blk 93 [dL 1 eI v_L,dI v_At])]=(rF (x1,x2,(qf.mk v_L v_At))).bind (fun e=>some (R.agg [dI e.1.Kind,dI e.1.N,dI e.1.Min,dL 2 qh e.1.Set,dL 5 ql e.1.L],[(0,B.blk 93 [dL 1 eI e.2.L,dI e.2.At])])):=fun x1 x2 v_L v_At=>hF (x1,x2,(qf.mk v_L v_At))
  have:=qv7;have:=@qe6.eq_1;have:=@zf.eq_1;exact gA) (w3,(qf.mk b0_L b0_At),t10)
 exact h
theorem q0D:∀(rE:Orc) (rF:(Int×Int×qf)→Option (qg×qf)) (hF:∀y,rE (.fn 56) 1 (zi y).1 (zi y).2=(rF y).bind fun e=>some (zS e)) (hM:∀g k a G,g≠56→rE (.fn g) k a G=ev g k a G) (hR:∀g asg bd k a G,rE (.rd g asg bd) k a G=evr g asg bd k a G),∀  (b0_L:List Int) (b0_At b1_Kind b1_N b1_Min b2_Kind b2_N b2_Min t1 t2 t7 t8 t10:Int),XL2 rE 56 1 9 ⟨[(0,rP 0),(1,rI t1),(2,rI t2),(6,rP 1),(7,rI t7),(8,rI t8),(9,rP 2),(10,rI t10)],[(0,B.blk 93 [dL 1 eI b0_L,dI b0_At]),(1,B.blk 36 [dI b1_Kind,dI b1_N,dI b1_Min,C.nils,C.nils]),(2,B.blk 36 [dI b2_Kind,dI b2_N,dI b2_Min,C.nils,dO 3 5 0]),(3,B.row 36 5 [])],4,77⟩=(qz (zf rF b1_Kind b1_N b1_Min b2_Kind b2_N b2_Min t1 t2 t7 t8) ([],(qf.mk b0_L b0_At),t10)).bind (fun(e:List qg×qf)=>some (Exit.exit 0,⟨[(0,rP 0),(6,rP 1),(7,rI t7),(8,rI t8),(9,rP 2)],[(0,B.blk 93 [dL 1 eI e.2.L,dI e.2.At]),(1,B.blk 36 [dI b1_Kind,dI b1_N,dI b1_Min,C.nils,C.nils]),(2,B.blk 36 [dI b2_Kind,dI b2_N,dI b2_Min,C.nils,dO 3 5 e.1.length]),(3,bR 36 5 ql e.1)],4,77⟩)):=by
 intro rE rF hF hM hR b0_L b0_At b1_Kind b1_N b1_Min b2_Kind b2_N b2_Min t1 t2 t7 t8 t10;have h:=q2o rE rF hF hM hR [] ((qf.mk b0_L b0_At)).L ((qf.mk b0_L b0_At)).At b1_Kind b1_N b1_Min b2_Kind b2_N b2_Min t1 t2 t7 t8 t10 _ rfl
 first
  | exact h
  | (simp only[rL,dL,bR,bZ,Nat.reduceAdd] at h;exact h)
def QY (rF:(Int×Int×qf)→Option (qg×qf)):(Int×Int×qf)→Option (qg×qf)|(x1,x2,v)=>Option.bind (qj 6 v) fun(a2:Prod Int qf)=>if x1≤0 then Option.bind (qj 3 a2.2) fun(a3:Prod Int qf)=>if(a3.1==0)=Bool.true then Option.bind (qj 12 a3.2) fun(a4:Prod Int qf)=>Option.bind (qj 3 a4.2) fun(a5:Prod Int qf)=>if 0≤a5.1∧a5.1<3 then Option.bind [(0:Int),50,60][Int.toNat a5.1]? fun(a6:Int)=>Option.bind (Q3 a5.2) fun(a7:Prod (List qb) qf)=>some (qg.mk 2 (w64 (1+a4.1)) a6 a7.1 [],a7.2) else none else Option.bind (qj 4 a3.2) fun(a8:Prod Int qf)=>if 0≤a8.1∧a8.1<4 then Option.bind [(0:Int),50,60,80][Int.toNat a8.1]? fun(a9:Int)=>Option.bind (Q3 a8.2) fun(a10:Prod (List qb) qf)=>some (qg.mk 1 0 a9 a10.1 [],a10.2) else none else if x2<2 then Option.bind (qj 3 a2.2) fun(a11:Prod Int qf)=>if(a11.1==0)=Bool.true then Option.bind (qj 12 a11.2) fun(a12:Prod Int qf)=>Option.bind (qj 3 a12.2) fun(a13:Prod Int qf)=>if 0≤a13.1∧a13.1<3 then Option.bind [(0:Int),50,60][Int.toNat a13.1]? fun(a14:Int)=>Option.bind (Q3 a13.2) fun(a15:Prod (List qb) qf)=>some (qg.mk 2 (w64 (1+a12.1)) a14 a15.1 [],a15.2) else none else Option.bind (qj 4 a11.2) fun(a16:Prod Int qf)=>if 0≤a16.1∧a16.1<4 then Option.bind [(0:Int),50,60,80][Int.toNat a16.1]? fun(a17:Int)=>Option.bind (Q3 a16.2) fun(a18:Prod (List qb) qf)=>some (qg.mk 1 0 a17 a18.1 [],a18.2) else none else if a2.1<2 then Option.bind (qj 3 a2.2) fun(a19:Prod Int qf)=>if(a19.1==0)=Bool.true then Option.bind (qj 12 a19.2) fun(a20:Prod Int qf)=>Option.bind (qj 3 a20.2) fun(a21:Prod Int qf)=>if 0≤a21.1∧a21.1<3 then Option.bind [(0:Int),50,60][Int.toNat a21.1]? fun(a22:Int)=>Option.bind (Q3 a21.2) fun(a23:Prod (List qb) qf)=>some (qg.mk 2 (w64 (1+a20.1)) a22 a23.1 [],a23.2) else none else Option.bind (qj 4 a19.2) fun(a24:Prod Int qf)=>if 0≤a24.1∧a24.1<4 then Option.bind [(0:Int),50,60,80][Int.toNat a24.1]? fun(a25:Int)=>Option.bind (Q3 a24.2) fun(a26:Prod (List qb) qf)=>some (qg.mk 1 0 a25 a26.1 [],a26.2) else none else Option.bind (qj (min 3 x2) a2.2) fun(a27:Prod Int qf)=>Option.bind (qz (zf rF 0 0 0 3 0 0 x1 x2 a2.1 (w64 (1+a27.1))) ([],(a27.2,0))) fun(a28:Prod (List qg) qf)=>if 3<a2.1 then Option.bind (qj (w64 (1+a27.1)) a28.2) fun(a29:Prod Int qf)=>some (qg.mk 4 (w64 (1+a29.1)) 0 [] a28.1,a29.2) else some (qg.mk 3 0 0 [] a28.1,a28.2)
theorem q0K:q7w 56 1 zi zS QY:=by
 intro rE rF hF hM hR x
 obtain⟨x1,x2,v⟩:=x
 show q6H rE 56 1 [rP 0,rI x1,rI x2] [(0,B.blk 93 [dL 1 eI v.L,dI v.At])]=_
 have hF':∀(x1 x2:Int) (v_L:List Int) (v_At:Int),rE (.fn 56) 1 [rP 0,rI x1,rI x2] [(0,B.blk 93 [dL 1 eI v_L,dI v_At])]=(rF (x1,x2,(qf.mk v_L v_At))).bind (fun e=>some (R.agg [dI e.1.Kind,dI e.1.N,dI e.1.Min,dL 2 qh e.1.Set,dL 5 ql e.1.L],[(0,B.blk 93 [dL 1 eI e.2.L,dI e.2.At])])):=fun x1 x2 v_L v_At=>hF (x1,x2,(qf.mk v_L v_At))
 rw[q5U qqy qv0]
 have:=qv7;have:=@Qr;have:=@q5g;have:=q0D rE rF hF hM hR;have:=@QY.eq_1;have:=@zS.eq_1;exact gA
theorem Jc:∀x y,zi x=zi y→x=y:=by
 rintro⟨a0,a1,⟨a2_0,a2_1⟩⟩ ⟨b0,b1,⟨b2_0,b2_1⟩⟩ h
 simp only[zi,Prod.mk.injEq,List.cons.injEq,R.c.injEq,R.agg.injEq,R.tup.injEq,C.d.injEq,C.own.injEq,C.ptr.injEq,C.eptr.injEq,C.clp.injEq,D.int.injEq,D.bool.injEq,D.str.injEq,D.sl.injEq,B.blk.injEq,B.row.injEq,q42,q2B,q0d,q2Y,q2R,q4N,q58,q4C,q4Z,q4K,q6O,q3R,true_and,and_true,qy1] at h
 simp only[h]
theorem q20:∀x y,zS x=zS y→x=y:=by
 rintro⟨⟨a0_0,a0_1,a0_2,a0_3,a0_4⟩,⟨a1_0,a1_1⟩⟩ ⟨⟨b0_0,b0_1,b0_2,b0_3,b0_4⟩,⟨b1_0,b1_1⟩⟩ h
 simp only[zS,Prod.mk.injEq,List.cons.injEq,R.c.injEq,R.agg.injEq,R.tup.injEq,C.d.injEq,C.own.injEq,C.ptr.injEq,C.eptr.injEq,C.clp.injEq,D.int.injEq,D.bool.injEq,D.str.injEq,D.sl.injEq,B.blk.injEq,B.row.injEq,q42,q2B,q0d,q2Y,q2R,q4N,q58,q4C,q4Z,q4K,q6O,q3R,true_and,and_true,qy1] at h
 simp only[h]
def zF:(Int×Int×qf)→Option (qg×qf):=q5m 56 1 zi zS
theorem q18 (x:(Int×Int×qf)):zF x=QY zF x:=qhI qrq.2.2.2 Jc q20 q0K x
theorem q3x (x1 x2:Int) (v:qf):ev 56 1 [rP 0,rI x1,rI x2] [(0,B.blk 93 [dL 1 eI v.L,dI v.At])]=(zF (x1,x2,v)).bind (fun(e:qg×qf)=>some (R.agg [dI e.1.Kind,dI e.1.N,dI e.1.Min,dL 2 qh e.1.Set,dL 5 ql e.1.L],[(0,B.blk 93 [dL 1 eI e.2.L,dI e.2.At])])):=(q9S qrq.2.2.2 Jc q0K (x1,x2,v))
theorem q4r:∀(x1 x2:Int) (v_L:List Int) (v_At:Int),ev 56 1 [rP 0,rI x1,rI x2] [(0,B.blk 93 [dL 1 eI v_L,dI v_At])]=(zF (x1,x2,(qf.mk v_L v_At))).bind (fun(e:qg×qf)=>some (R.agg [dI e.1.Kind,dI e.1.N,dI e.1.Min,dL 2 qh e.1.Set,dL 5 ql e.1.L],[(0,B.blk 93 [dL 1 eI e.2.L,dI e.2.At])])):=
 fun x1 x2 v_L v_At=>q3x x1 x2 (qf.mk v_L v_At)
def qQ (l:List Int):Option qd:=Option.bind (qj 3 (qf.mk l 0)) fun(a:Prod Int qf)=>Option.bind (qj 3 a.2) fun(a2:Prod Int qf)=>Option.bind (qj 5 a2.2) fun(a3:Prod Int qf)=>Option.bind (qj 3 a3.2) fun(a4:Prod Int qf)=>if 0≤a4.1∧a4.1<3 then Option.bind [ByteArray.mk (List.toArray [77,117,115,105,99]),ByteArray.mk (List.toArray [76,97,119]),ByteArray.mk (List.toArray [79,108,100,32,109,97,112,115])][Int.toNat a4.1]? fun(a5:ByteArray)=>Option.bind (qj 20 a4.2) fun(a6:Prod Int qf)=>Option.bind (qj 3 a6.2) fun(a7:Prod Int qf)=>Option.bind (qj 6 a7.2) fun(a8:Prod Int qf)=>Option.bind (qj 5 a8.2) fun(a9:Prod Int qf)=>if 0≤a9.1∧a9.1<5 then Option.bind [(0:Int),0,0,2,5][Int.toNat a9.1]? fun(a10:Int)=>Option.bind (qj 3 a9.2) fun(a11:Prod Int qf)=>if(a11.1==0)=Bool.true then Option.bind (Qm a11.2) fun(a12:Prod qb qf)=>Option.bind (Qm a12.2) fun(a13:Prod qb qf)=>if zz a12.1 a13.1=Bool.true then Option.bind (zF (3,(6,a13.2))) fun(a14:Prod qg qf)=>some (qd.mk 1 (w64 (1+a.1)) (w64 (1+a2.1)) (w64 (100*a3.1)) a5 a14.1 a6.1 (w64 (a7.1*a8.1)) a10 [QC.mk a12.1 a13.1]) else Option.bind (zF (3,(6,a13.2))) fun(a15:Prod qg qf)=>some (qd.mk 1 (w64 (1+a.1)) (w64 (1+a2.1)) (w64 (100*a3.1)) a5 a15.1 a6.1 (w64 (a7.1*a8.1)) a10 []) else Option.bind (zF (3,(6,a11.2))) fun(a16:Prod qg qf)=>some (qd.mk 1 (w64 (1+a.1)) (w64 (1+a2.1)) (w64 (100*a3.1)) a5 a16.1 a6.1 (w64 (a7.1*a8.1)) a10 []) else none else none
theorem q2z:∀(l:List Int),ev 30 0 [rL 1 eI l] []=(qQ l).bind (fun(e:qd)=>some (R.agg [dI e.School,dI e.Id,dI e.Version,dI e.From,dS e.Name,dI e.Need.Kind,dI e.Need.N,dI e.Need.Min,dL 2 qh e.Need.Set,dL 5 ql e.Need.L,dI e.Total,dI e.Own,dI e.Age,dL 4 (eA2 qh) e.Exclude],[])):=
 fun l=>by
  rw[qy qsK quz.2.2.2 qwb]
  have:=qxt;have:=@Qr;have:=@q01;have:=@q4r;have:=@Jg;have:=@qQ.eq_1;exact gA
theorem qvH:okL 29 qco:=qB (qi qsd) (by kernel_rfl) (by kernel_rfl)
def qxB:=JA_ @qco.eq_1 (JA_ @Try.f29.eq_1 @qsd)
theorem qwt:okL 35 qcv:=qB (qi qrF) (by kernel_rfl) (by kernel_rfl)
def qxy:=JA_ @qcv.eq_1 (JA_ @Try.f35.eq_1 @qrF)
def Ze (a:qa):Option (Int×ByteArray×Int×Int×Int×Int×List Int×List Int):=if a.Sources.length≤maxLen∧a.Sources.length*8≤140737488355328 then if a.Path.length≤maxLen∧a.Path.length*8≤140737488355328 then some (a.Course.School,a.Course.Code,a.Credits,a.Grade,a.Day,a.Bundle,a.Sources,a.Path) else none else none
theorem q1c:∀(a_Course_School:Int) (a_Course_Code:ByteArray) (a_Credits a_Grade a_Day:Int) (a_Sources:List Int) (a_Bundle:Int) (a_Path:List Int),ev 35 0 [R.agg [dI a_Course_School,dS a_Course_Code,dI a_Credits,dI a_Grade,dI a_Day,dL 1 eI a_Sources,dI a_Bundle,dL 1 eI a_Path]] []=(Ze (qa.mk (qb.mk a_Course_School a_Course_Code) a_Credits a_Grade a_Day a_Sources a_Bundle a_Path)).bind (fun(e:Int×ByteArray×Int×Int×Int×Int×List Int×List Int)=>some (R.agg [dI e.1,dS e.2.1,dI e.2.2.1,dI e.2.2.2.1,dI e.2.2.2.2.1,dO 0 1 e.2.2.2.2.2.2.1.length,dI e.2.2.2.2.2.1,dO 1 1 e.2.2.2.2.2.2.2.length],[(0,bR 3 1 eI e.2.2.2.2.2.2.1),(1,bR 3 1 eI e.2.2.2.2.2.2.2)])):=
 fun a_Course_School a_Course_Code a_Credits a_Grade a_Day a_Sources a_Bundle a_Path=>by
  rw[qy qrF qv1.2.2.2 qwt]
  have:=qxy;have:=@Ze.eq_1;exact gA
def Qz (x0:qa) (x1:QC Int):Option qa:=Option.bind (Ze x0) fun(a:Prod Int (Prod ByteArray (Prod Int (Prod Int (Prod Int (Prod Int (Prod (List Int) (List Int))))))))=>Option.bind (Q4 x1.a1 40) fun(a2:Int)=>Option.bind (Q4 x1.a0 8) fun(a3:Int)=>if(a3==0)=Bool.true then some (qa.mk (qb.mk (Int.tmod a2 9) a.2.1) a.2.2.1 a.2.2.2.1 a.2.2.2.2.1 a.2.2.2.2.2.2.1 a.2.2.2.2.2.1 a.2.2.2.2.2.2.2) else if(a3==1)=Bool.true then if 0≤Int.tmod a2 4∧Int.tmod a2 4<4 then Option.bind [ByteArray.mk (List.toArray [65,49]),ByteArray.mk (List.toArray [66,49]),ByteArray.mk (List.toArray []),ByteArray.mk (List.toArray [65])][Int.toNat (Int.tmod a2 4)]? fun(a4:ByteArray)=>some (qa.mk (qb.mk a.1 a4) a.2.2.1 a.2.2.2.1 a.2.2.2.2.1 a.2.2.2.2.2.2.1 a.2.2.2.2.2.1 a.2.2.2.2.2.2.2) else none else if(a3==2)=Bool.true then some (qa.mk (qb.mk a.1 a.2.1) a2 a.2.2.2.1 a.2.2.2.2.1 a.2.2.2.2.2.2.1 a.2.2.2.2.2.1 a.2.2.2.2.2.2.2) else if(a3==3)=Bool.true then some (qa.mk (qb.mk a.1 a.2.1) a.2.2.1 (w64 (w64 (5*a2)-50)) a.2.2.2.2.1 a.2.2.2.2.2.2.1 a.2.2.2.2.2.1 a.2.2.2.2.2.2.2) else if(a3==4)=Bool.true then some (qa.mk (qb.mk a.1 a.2.1) a.2.2.1 a.2.2.2.1 (w64 (20*a2)) a.2.2.2.2.2.2.1 a.2.2.2.2.2.1 a.2.2.2.2.2.2.2) else if(a3==5)=Bool.true then if a.2.2.2.2.2.2.1.length+1≤maxLen∧(a.2.2.2.2.2.2.1.length+1)*8≤140737488355328 then some (qa.mk (qb.mk a.1 a.2.1) a.2.2.1 a.2.2.2.1 a.2.2.2.2.1 (a.2.2.2.2.2.2.1++[w64 (1000000+a2)]) a.2.2.2.2.2.1 a.2.2.2.2.2.2.2) else none else if(a3==6)=Bool.true then some (qa.mk (qb.mk a.1 a.2.1) a.2.2.1 a.2.2.2.1 a.2.2.2.2.1 a.2.2.2.2.2.2.1 (w64 (Int.tmod a2 5-1)) a.2.2.2.2.2.2.2) else if(a3==7)=Bool.true then if a.2.2.2.2.2.2.2.length+1≤maxLen∧(a.2.2.2.2.2.2.2.length+1)*8≤140737488355328 then some (qa.mk (qb.mk a.1 a.2.1) a.2.2.1 a.2.2.2.1 a.2.2.2.2.1 a.2.2.2.2.2.2.1 a.2.2.2.2.2.1 (a.2.2.2.2.2.2.2++[Int.tmod a2 3])) else none else some (qa.mk (qb.mk a.1 a.2.1) a.2.2.1 a.2.2.2.1 a.2.2.2.2.1 a.2.2.2.2.2.2.1 a.2.2.2.2.2.1 a.2.2.2.2.2.2.2)
theorem q5l:∀(x0_Course_School:Int) (x0_Course_Code:ByteArray) (x0_Credits x0_Grade x0_Day:Int) (x0_Sources:List Int) (x0_Bundle:Int) (x0_Path:List Int) (x1_0 x1_1:Int),ev 29 0 [R.agg [dI x0_Course_School,dS x0_Course_Code,dI x0_Credits,dI x0_Grade,dI x0_Day,dL 1 eI x0_Sources,dI x0_Bundle,dL 1 eI x0_Path],R.agg [dI x1_0,dI x1_1]] []=(Qz (qa.mk (qb.mk x0_Course_School x0_Course_Code) x0_Credits x0_Grade x0_Day x0_Sources x0_Bundle x0_Path) (QC.mk x1_0 x1_1)).bind (fun(e:qa)=>some (R.agg [dI e.Course.School,dS e.Course.Code,dI e.Credits,dI e.Grade,dI e.Day,dL 1 eI e.Sources,dI e.Bundle,dL 1 eI e.Path],[])):=
 fun x0_Course_School x0_Course_Code x0_Credits x0_Grade x0_Day x0_Sources x0_Bundle x0_Path x1_0 x1_1=>by
  rw[qy qsd qua.2.2.2 qvH]
  have:=qxB;have:=@q1c;have:=@JG;have:=@Qz.eq_1;exact gA
def zN (t0:List (List Int)):(List qa×Int)→Option ((List qa×Int)⊕(List qa))|(w0,t4)=>if t4<((t0.length:Nat):Int) then if t4<8 then if 0≤t4∧t4<((t0.length:Nat):Int) then Option.bind t0[Int.toNat t4]? fun(a:List Int)=>Option.bind (qr 6 (qf.mk a 0)) fun(a2:Prod Int qf)=>if 0≤a2.1∧a2.1<((qw.length:Nat):Int) then Option.bind qw[Int.toNat a2.1]? fun(a3:ByteArray)=>Option.bind (qr 3 a2.2) fun(a4:Prod Int qf)=>if 0≤a4.1∧a4.1<3 then Option.bind [(5:Int),6,10][Int.toNat a4.1]? fun(a5:Int)=>Option.bind (qr 11 a4.2) fun(a6:Prod Int qf)=>Option.bind (qr 60 a6.2) fun(a7:Prod Int qf)=>Option.bind (qr 9 a7.2) fun(a8:Prod Int qf)=>Option.bind (qr 3 a8.2) fun(a9:Prod Int qf)=>if(a9.1==0)=Bool.true then Option.bind (qr 3 a9.2) fun(a10:Prod Int qf)=>Option.bind (qr 4 a10.2) fun(a11:Prod Int qf)=>Option.bind (qr 3 a11.2) fun(a12:Prod Int qf)=>if(a12.1==0)=Bool.true then Option.bind (qr 3 a12.2) fun(a13:Prod Int qf)=>Option.bind (qr 3 a13.2) fun(a14:Prod Int qf)=>if w0.length+1≤maxLen∧(w0.length+1)*104≤140737488355328 then some (Sum.inl (w0++[qa.mk (qb.mk (w64 (1+a10.1)) a3) a5 (w64 (50+w64 (5*a6.1))) (w64 (10*a7.1)) [w64 (2000001+a11.1),w64 (w64 (w64 (2000001+a11.1)+1)+a13.1)] (w64 (1+a14.1)) [w64 (1+a14.1)]],w64 (t4+1))) else none else Option.bind (qr 3 a12.2) fun(a15:Prod Int qf)=>if w0.length+1≤maxLen∧(w0.length+1)*104≤140737488355328 then some (Sum.inl (w0++[qa.mk (qb.mk (w64 (1+a10.1)) a3) a5 (w64 (50+w64 (5*a6.1))) (w64 (10*a7.1)) [w64 (2000001+a11.1)] (w64 (1+a15.1)) [w64 (1+a15.1)]],w64 (t4+1))) else none else if w0.length+1≤maxLen∧(w0.length+1)*104≤140737488355328 then some (Sum.inl (w0++[qa.mk (qb.mk 1 a3) a5 (w64 (50+w64 (5*a6.1))) (w64 (10*a7.1)) [w64 (1000001+a8.1)] 0 []],w64 (t4+1))) else none else none else none else none else some (Sum.inr w0) else some (Sum.inr w0)
theorem q2e:∀(w0:List qa) (t0:List (List Int)) (t4:Int) (w0_len:Nat),w0_len=w0.length→XL2 evo 27 0 3 ⟨[(0,rL 1 (eL 1 eI) t0),(3,rO 0 8 w0_len),(4,rI t4)],[(0,bR 52 8 qc w0)],1,89⟩=(qz (zN t0) (w0,t4)).bind (fun(e:List qa)=>some (Exit.exit 0,⟨[(3,rO 0 8 e.length)],[(0,bR 52 8 qc e)],1,89⟩)):=
 by
 intro w0 t0 t4 w0_len h0
 subst h0
 revert t4;revert w0;exact q9T qnw qo7 (fun e=>by exact⟨_,rfl,fun h=>by cases h⟩) fun w0 t4=>by
  have:=qu9;have:=@qbh.eq_1;have:=@q0l;have:=@q1l;have:=@zN.eq_1;exact gA
theorem q1b:∀  (t0:List (List Int)) (t4:Int),XL2 evo 27 0 3 ⟨[(0,rL 1 (eL 1 eI) t0),(3,rO 0 8 0),(4,rI t4)],[(0,B.row 52 8 [])],1,89⟩=(qz (zN t0) ([],t4)).bind (fun(e:List qa)=>some (Exit.exit 0,⟨[(3,rO 0 8 e.length)],[(0,bR 52 8 qc e)],1,89⟩)):=by
 intro t0 t4;have h:=q2e [] t0 t4 _ rfl
 first
  | exact h
  | (simp only[rL,dL,bR,bZ,Nat.reduceAdd] at h;exact h)
def ZO (x0:List (List Int)):Option (List qa):=Option.bind (qz (zN x0) ([],0)) fun(a:List qa)=>some a
theorem q4F:∀(x0:List (List Int)),ev 27 0 [rL 1 (eL 1 eI) x0] []=(ZO x0).bind (fun(e:List qa)=>some (rO 0 8 e.length,[(0,bR 52 8 qc e)])):=
 fun x0=>by
  rw[qy qq3 quB.2.2.2 qtG]
  have:=qu9;have:=@q1b;have:=@ZO.eq_1;exact gA
def Qs (c:QH):Option (List qa×qd×Int):=Option.bind (ZO c.Has) fun(a:List qa)=>if 0<((a.length:Nat):Int) then if 0<c.Odd.a0.a0 then Option.bind (Q4 c.Odd.a0.a2 ((a.length:Nat):Int)) fun(a2:Int)=>if 0≤a2∧a2<((a.length:Nat):Int) then Option.bind a[Int.toNat a2]? fun(a3:qa)=>Option.bind (Qz a3 (QC.mk c.Odd.a0.a0 c.Odd.a0.a1)) fun(a4:qa)=>if 0≤a2∧a2<((a.length:Nat):Int) then if Int.toNat a2*8+8≤a.length*8 then if 0<((a.length:Nat):Int) then if 0<c.Odd.a1.a0 then Option.bind (Q4 c.Odd.a1.a2 ((a.length:Nat):Int)) fun(a5:Int)=>if 0≤a5∧a5<((a.length:Nat):Int) then Option.bind (List.set a (Int.toNat a2) a4)[Int.toNat a5]? fun(a6:qa)=>Option.bind (Qz a6 (QC.mk c.Odd.a1.a0 c.Odd.a1.a1)) fun(a7:qa)=>if 0≤a5∧a5<((a.length:Nat):Int) then if Int.toNat a5*8+8≤a.length*8 then Option.bind (qQ c.Programme) fun(a8:qd)=>some (List.set (List.set a (Int.toNat a2) a4) (Int.toNat a5) a7,a8,Int.tmod (w64 c.Day) 800) else none else none else none else Option.bind (qQ c.Programme) fun(a9:qd)=>some (List.set a (Int.toNat a2) a4,a9,Int.tmod (w64 c.Day) 800) else Option.bind (qQ c.Programme) fun(a10:qd)=>some (List.set a (Int.toNat a2) a4,a10,Int.tmod (w64 c.Day) 800) else none else none else none else if 0<((a.length:Nat):Int) then if 0<c.Odd.a1.a0 then Option.bind (Q4 c.Odd.a1.a2 ((a.length:Nat):Int)) fun(a11:Int)=>if 0≤a11∧a11<((a.length:Nat):Int) then Option.bind a[Int.toNat a11]? fun(a12:qa)=>Option.bind (Qz a12 (QC.mk c.Odd.a1.a0 c.Odd.a1.a1)) fun(a13:qa)=>if 0≤a11∧a11<((a.length:Nat):Int) then if Int.toNat a11*8+8≤a.length*8 then Option.bind (qQ c.Programme) fun(a14:qd)=>some (List.set a (Int.toNat a11) a13,a14,Int.tmod (w64 c.Day) 800) else none else none else none else Option.bind (qQ c.Programme) fun(a15:qd)=>some (a,a15,Int.tmod (w64 c.Day) 800) else Option.bind (qQ c.Programme) fun(a16:qd)=>some (a,a16,Int.tmod (w64 c.Day) 800) else if 0<((a.length:Nat):Int) then if 0<c.Odd.a1.a0 then Option.bind (Q4 c.Odd.a1.a2 ((a.length:Nat):Int)) fun(a17:Int)=>if 0≤a17∧a17<((a.length:Nat):Int) then Option.bind a[Int.toNat a17]? fun(a18:qa)=>Option.bind (Qz a18 (QC.mk c.Odd.a1.a0 c.Odd.a1.a1)) fun(a19:qa)=>if 0≤a17∧a17<((a.length:Nat):Int) then if Int.toNat a17*8+8≤a.length*8 then Option.bind (qQ c.Programme) fun(a20:qd)=>some (List.set a (Int.toNat a17) a19,a20,Int.tmod (w64 c.Day) 800) else none else none else none else Option.bind (qQ c.Programme) fun(a21:qd)=>some (a,a21,Int.tmod (w64 c.Day) 800) else Option.bind (qQ c.Programme) fun(a22:qd)=>some (a,a22,Int.tmod (w64 c.Day) 800)
theorem q1y:∀(c_Has:List (List Int)) (c_Odd_0_0 c_Odd_0_1 c_Odd_0_2 c_Odd_1_0 c_Odd_1_1 c_Odd_1_2:Int) (c_Programme:List Int) (c_Day:Int),ev 9 0 [R.agg [dL 1 (eL 1 eI) c_Has,dI c_Odd_0_0,dI c_Odd_0_1,dI c_Odd_0_2,dI c_Odd_1_0,dI c_Odd_1_1,dI c_Odd_1_2,dL 1 eI c_Programme,C.d (D.int .u16 c_Day)]] []=(Qs (QH.mk c_Has (QC.mk (qhn.mk c_Odd_0_0 c_Odd_0_1 c_Odd_0_2) (qhn.mk c_Odd_1_0 c_Odd_1_1 c_Odd_1_2)) c_Programme c_Day)).bind (fun(e:List qa×qd×Int)=>some (R.tup [rL 8 qc e.1,R.agg [dI e.2.1.School,dI e.2.1.Id,dI e.2.1.Version,dI e.2.1.From,dS e.2.1.Name,dI e.2.1.Need.Kind,dI e.2.1.Need.N,dI e.2.1.Need.Min,dL 2 qh e.2.1.Need.Set,dL 5 ql e.2.1.Need.L,dI e.2.1.Total,dI e.2.1.Own,dI e.2.1.Age,dL 4 (eA2 qh) e.2.1.Exclude],rI e.2.2],[])):=
 fun c_Has c_Odd_0_0 c_Odd_0_1 c_Odd_0_2 c_Odd_1_0 c_Odd_1_1 c_Odd_1_2 c_Programme c_Day=>by
  rw[qy bd9 pw9.2.2.2 lo9]
  have:=cx9;have:=@q4F;have:=@JG;have:=@q2z;have:=@q5l;have:=@Qs.eq_1;have:=fun(E:Orc) (k:Nat) (s:S)=>q6s (E:=E) (k:=k) (s:=s) qra qqZ;have:=@qkE.eq_1;have:=@q2m;have:=@q6a;have:=@q99;have:=@q6o;have:=@q9l;have:=@q6m;have:=@q9h;exact gA
end
end Go.Proofs.Ytofbcijbpfjliaa.Vc
