/- Part 4 of a proof. -/
import Derived.Test.YtofbcijbpfjliaaE3
import Derived.Shelf.SlIter.Sorted
set_option linter.unusedVariables false
set_option linter.unusedSimpArgs false
set_option linter.defProp false
set_option linter.unusedSectionVars false
set_option linter.unnecessarySimpa false
namespace Go.Proofs.Ytofbcijbpfjliaa.Vc
noncomputable section
open Go.RowKit
set_option maxRecDepth 100000
abbrev w64 (n:Int):Int:=IntKind.i64.wrap n
def Qb:Code→List Code
 | .loop c=>c::Qb c
 | .seq a b=>Qb a++Qb b
 | .cond _ a b=>Qb a++Qb b
 | .block _ c=>Qb c
 | .scope c=>Qb c
 | .rangeFunc _ _ a b=>Qb a++Qb b
 | _=>[]
def zE:Code→List (Code×Code)
 | .rangeFunc _ _ a b=>(a,b)::(zE a++zE b)
 | .loop c=>zE c
 | .seq a b=>zE a++zE b
 | .cond _ a b=>zE a++zE b
 | .block _ c=>zE c
 | .scope c=>zE c
 | _=>[]
theorem q3C:∀(c b:Code),b∈Qb c→(∀b'∈Qb b,b'∈Qb c)∧∀q∈zE b,q∈zE c:=by
 intro c
 induction c with
 | loop c ih=>
  intro b hb
  rcases qv2.1 hb with rfl|hb
  ·exact⟨fun b' h=>quO _ h,fun q h=>h⟩
  ·exact⟨fun b' h=>quO _ ((ih b hb).1 b' h),fun q h=>(ih b hb).2 q h⟩
 | seq a c iha ihc=>
  intro b hb
  rcases qva.1 hb with hb|hb
  ·exact⟨fun b' h=>quS _ ((iha b hb).1 b' h),fun q h=>quS _ ((iha b hb).2 q h)⟩
  ·exact⟨fun b' h=>quP _ ((ihc b hb).1 b' h),fun q h=>quP _ ((ihc b hb).2 q h)⟩
 | cond x a c iha ihc=>
  intro b hb
  rcases qva.1 hb with hb|hb
  ·exact⟨fun b' h=>quS _ ((iha b hb).1 b' h),fun q h=>quS _ ((iha b hb).2 q h)⟩
  ·exact⟨fun b' h=>quP _ ((ihc b hb).1 b' h),fun q h=>quP _ ((ihc b hb).2 q h)⟩
 | rangeFunc g ps a c iha ihc=>
  intro b hb
  rcases qva.1 hb with hb|hb
  ·exact⟨fun b' h=>quS _ ((iha b hb).1 b' h),fun q h=>quO _ (quS _ ((iha b hb).2 q h))⟩
  ·exact⟨fun b' h=>quP _ ((ihc b hb).1 b' h),fun q h=>quO _ (quP _ ((ihc b hb).2 q h))⟩
 | block id c ih=>intro b hb;exact ih b hb
 | scope c ih=>intro b hb;exact ih b hb
 | _=>intro b hb;cases hb
theorem ZS:∀(c:Code) (q:Code×Code),q∈zE c→(∀b'∈Qb q.1++Qb q.2,b'∈Qb c)∧∀q'∈zE q.1++zE q.2,q'∈zE c:=by
 intro c
 induction c with
 | loop c ih=>intro q hq;exact⟨fun b' h=>quO _ ((ih q hq).1 b' h),(ih q hq).2⟩
 | seq a c iha ihc=>
  intro q hq
  rcases qva.1 hq with hq|hq
  ·exact⟨fun b' h=>quS _ ((iha q hq).1 b' h),fun q' h=>quS _ ((iha q hq).2 q' h)⟩
  ·exact⟨fun b' h=>quP _ ((ihc q hq).1 b' h),fun q' h=>quP _ ((ihc q hq).2 q' h)⟩
 | cond x a c iha ihc=>
  intro q hq
  rcases qva.1 hq with hq|hq
  ·exact⟨fun b' h=>quS _ ((iha q hq).1 b' h),fun q' h=>quS _ ((iha q hq).2 q' h)⟩
  ·exact⟨fun b' h=>quP _ ((ihc q hq).1 b' h),fun q' h=>quP _ ((ihc q hq).2 q' h)⟩
 | rangeFunc g ps a c iha ihc=>
  intro q hq
  rcases qv2.1 hq with rfl|hq
  ·exact⟨fun b' h=>h,fun q' h=>quO _ h⟩
  ·rcases qva.1 hq with hq|hq
   ·exact⟨fun b' h=>quS _ ((iha q hq).1 b' h),fun q' h=>quO _ (quS _ ((iha q hq).2 q' h))⟩
   ·exact⟨fun b' h=>quP _ ((ihc q hq).1 b' h),fun q' h=>quO _ (quP _ ((ihc q hq).2 q' h))⟩
 | block id c ih=>intro q hq;exact ih q hq
 | scope c ih=>intro q hq;exact ih q hq
 | _=>intro q hq;cases hq
def q1k (f:Nat):Code:=((qz Try.prog pol f).map Bd.code).getD .skip
def lbO (f key:Nat):Code:=(z6 key (q1k f)).getD .skip
def raO (f key:Nat):Code:=((QF key (q1k f)).getD (.skip,.skip)).1
def rbO (f key:Nat):Code:=((QF key (q1k f)).getD (.skip,.skip)).2
structure okL (f:Nat) (c:Code):Prop where
 lo:∀b∈Qb c,lbO f (qy b)=b
 ro:∀q∈zE c,raO f (qy q.2)=q.1∧rbO f (qy q.2)=q.2
theorem qS {f:Nat} {c:Code} (hc:q1k f=c) (h:(Qb c).map (fun b=>(z6 (qy b) c).getD .skip)=Qb c) (h':(zE c).map (fun q=>(QF (qy q.2) c).getD (.skip,.skip))=zE c):okL f c:=by
 refine⟨fun b hb=>?_,fun q hq=>?_⟩
 ·unfold lbO
  rw[hc]
  obtain⟨i,hi,rfl⟩:=List.mem_iff_getElem.1 hb
  have h1:((Qb c).map (fun b=>(z6 (qy b) c).getD .skip))[i]?=(Qb c)[i]?:=by rw[h]
  rw[quU,quI hi] at h1
  simpa using h1
 ·unfold raO rbO
  rw[hc]
  obtain⟨i,hi,rfl⟩:=List.mem_iff_getElem.1 hq
  have h1:((zE c).map (fun q=>(QF (qy q.2) c).getD (.skip,.skip)))[i]?=(zE c)[i]?:=by rw[h']
  rw[quU,quI hi] at h1
  simp only[Option.map_some,qvv] at h1
  rw[h1]
  exact⟨rfl,rfl⟩
def XEo (E:Orc) (f k:Nat):Code→S→XS:=XD Try.prog T pol E (D1 Try.prog T pol E f k) Lim f k
def XL2 (E:Orc) (f k key:Nat) (s:S):XS:=Lim (fun s=>(XEo E f k (lbO f key) s).bind (lpx pol f key k)) s
def XM2 (E:Orc) (f k key:Nat) (it:Operand) (s:S):XS:=mlp it (fun s=>(XEo E f k (lbO f key) s).bind (lpx pol f key k)) s
def lp3 (E:Orc) (f k key:Nat) (o:Option Operand) (r:Option S):XS:=r.bind fun s=>match o with
 | none=>XL2 E f k key s
 | some it=>XM2 E f k key it s
def cnd (r:R) (x y:XS):XS:=
 match r with
 | .c (.d (.bool b))=>if b=true then x else y
 | _=>none
def XE2 (E:Orc) (f k:Nat):Code→S→XS
 | .skip,s=>some (.normal,s)
 | .label _,s=>some (.normal,s)
 | .ret,s=>some (.ret,s)
 | .exit id,s=>some (.exit id,s)
 | .seq a b,s=>(XE2 E f k a s).bind (sqD fun s'=>XE2 E f k b s')
 | .block id c,s=>(XE2 E f k c s).bind (bkD id)
 | .scope c,s=>(XE2 E f k c s).bind scD
 | .cond c x y,s=>cnd (s.ev c) (XE2 E f k x (s.ly c tt)) (XE2 E f k y (s.ly c ff))
 | .loop c,s=>lp3 E f k (qy c) (ZC c) (nrm pol f (qy c) k s)
 | .rangeFunc g ps _ b,s=>xRF pol E f g ps.toList (raO f (qy b)) (rbO f (qy b)) ((s.dzr pol.q).frz (q3a (s.dzr pol.q) (pol.rk f (qy b))))
 | c,s=>XEo E f k c s
section
variable {E:Orc} {f k:Nat} {s:S}
theorem qqP (a b:Code):XEo E f k (.seq a b) s=(XEo E f k a s).bind (sqD fun s'=>XEo E f k b s'):=rfl
theorem qhV (i:Nat) (b:Code):XEo E f k (.block i b) s=(XEo E f k b s).bind (bkD i):=rfl
theorem qjn (b:Code):XEo E f k (.scope b) s=(XEo E f k b s).bind scD:=rfl
theorem qly (p:Operand) (a b:Code):XEo E f k (.cond p a b) s=cnd (s.ev p) (XEo E f k a (s.ly p tt)) (XEo E f k b (s.ly p ff)):=rfl
theorem qmR (b:Code):XEo E f k (.loop b) s=(nrm pol f (qy b) k s).bind fun s0=>lpM Lim (ZC b) (fun s=>(XEo E f k b s).bind (lpx pol f (qy b) k)) s0:=rfl
theorem qjU:XEo E f k .skip s=some (.normal,s):=rfl
theorem qhm (l:Nat):XEo E f k (.label l) s=some (.normal,s):=rfl
theorem qoY:XEo E f k .ret s=some (.ret,s):=rfl
theorem qjP (i:Nat):XEo E f k (.exit i) s=some (.exit i,s):=rfl
theorem qi0 (g:Operand) (ps:Array Tmp) (asg bd:Code):XEo E f k (.rangeFunc g ps asg bd) s=xRF pol E f g ps.toList asg bd ((s.dzr pol.q).frz (q3a (s.dzr pol.q) (pol.rk f (qy bd)))):=rfl
theorem qq3 (a b:Code):XE2 E f k (.seq a b) s=(XE2 E f k a s).bind (sqD fun s'=>XE2 E f k b s'):=rfl
theorem qh0 (i:Nat) (b:Code):XE2 E f k (.block i b) s=(XE2 E f k b s).bind (bkD i):=rfl
theorem qhH (b:Code):XE2 E f k (.scope b) s=(XE2 E f k b s).bind scD:=rfl
theorem qjW (p:Operand) (a b:Code):XE2 E f k (.cond p a b) s=cnd (s.ev p) (XE2 E f k a (s.ly p tt)) (XE2 E f k b (s.ly p ff)):=rfl
theorem qhf (g:Operand) (ps:Array Tmp) (asg bd:Code):XE2 E f k (.rangeFunc g ps asg bd) s=xRF pol E f g ps.toList (raO f (qy bd)) (rbO f (qy bd)) ((s.dzr pol.q).frz (q3a (s.dzr pol.q) (pol.rk f (qy bd)))):=rfl
theorem qkg (b:Code):XE2 E f k (.loop b) s=lp3 E f k (qy b) (ZC b) (nrm pol f (qy b) k s):=rfl
end
theorem q5X {E:Orc} {f k:Nat}:∀(c:Code),okL f c→∀s,XEo E f k c s=XE2 E f k c s:=by
 intro c
 induction c with
 | seq a b iha ihb=>
  intro h s
  have h1:=iha ⟨fun x hx=>h.lo x (quS _ hx),fun x hx=>h.ro x (quS _ hx)⟩
  have h2:=ihb ⟨fun x hx=>h.lo x (quP _ hx),fun x hx=>h.ro x (quP _ hx)⟩
  rw[qqP,qq3,h1,funext h2]
 | block id c ih=>intro h s;rw[qhV,qh0,ih ⟨h.lo,h.ro⟩ s]
 | scope c ih=>intro h s;rw[qjn,qhH,ih ⟨h.lo,h.ro⟩ s]
 | cond x a b iha ihb=>
  intro h s
  have h1:=iha ⟨fun x hx=>h.lo x (quS _ hx),fun x hx=>h.ro x (quS _ hx)⟩
  have h2:=ihb ⟨fun x hx=>h.lo x (quP _ hx),fun x hx=>h.ro x (quP _ hx)⟩
  rw[qly,qjW,h1,h2]
 | loop c ih=>
  intro h s
  rw[qmR,qkg]
  unfold lp3 lpM XL2 XM2
  rw[h.lo c quV]
  cases ZC c<;>rfl
 | rangeFunc g ps a b _ _=>
  intro h s
  obtain⟨h1,h2⟩:=h.ro (a,b) quV
  rw[qi0,qhf]
  rw[h1,h2]
 | skip=>intro _ s;rw[qjU];rfl
 | label=>intro _ s;rw[qhm];rfl
 | ret=>intro _ s;rw[qoY];rfl
 | exit=>intro _ s;rw[qjP];rfl
 | _=>intro _ s;unfold XE2;rfl
def th2 (E:Orc) (f k:Nat) (r:XS) (b:Code):XS:=r.bind (sqD fun s'=>XE2 E f k b s')
def lp2 (E:Orc) (f k key:Nat) (o:Option S):XS:=o.bind fun s=>XL2 E f k key s
def lz2 (f k key:Nat) (r:XS):XS:=r.bind (lpx pol f key k)
def ly2 (e:Exit) (o:Option S):XS:=o.bind fun s=>some (e,s)
def rs2 (E:Orc) (ops:List Oper) (o:Option S) (l:List Oper):Option S:=o.bind fun s=>xr Try.prog T pol E ops l s
def qfH (E:Orc) (ops:List Oper) (A:List (List Nat)) (s0:S) (m:Nat) (o:Option (S×Tx)) (l:List Oper) (acc:List Tx):Option S:=o.bind fun q=>xdp Try.prog T pol E ops A s0 m l q.1 (acc++[q.2])
section
variable {E:Orc} {f k key:Nat} {s:S} {b:Code} {c:Prop} [Decidable c] {x y:XS} {α β:Type} {o:Option α} {g:α→XS} {h:β→XS} {e:α⊕β}
theorem qir:XE2 E f k .skip s=some (.normal,s):=rfl
theorem qnz:XE2 E f k .ret s=some (.ret,s):=rfl
theorem qit (i:Nat):XE2 E f k (.exit i) s=some (.exit i,s):=rfl
theorem qjB (a:Code):XE2 E f k (.seq a b) s=th2 E f k (XE2 E f k a s) b:=rfl
theorem qeA (i:Nat):XE2 E f k (.block i b) s=bkk i (XE2 E f k b s):=rfl
theorem qiV (p:Operand) (a b:Code):XE2 E f k (.cond p a b) s=match s.ev p with | .c (.d (.bool t))=>if t=true then XE2 E f k a (s.ly p tt) else XE2 E f k b (s.ly p ff)|_=>none:=rfl
theorem qa8 (i:Nat) (ops:Array Oper):XE2 E f k (.region i ops false) s=rgn (xr Try.prog T pol E ops.toList ops.toList s):=rfl
theorem qhR (i:Nat) (ops:Array Oper):XE2 E f k (.region i ops true) s=rgn (D1 Try.prog T pol E f k i ops.toList (((s.uwD pol ops.toList).dzr pol.q).frk (pol.rk f i))):=rfl
theorem qeH (g:Operand) (ps:Array Tmp) (asg bd:Code):XE2 E f k (.rangeFunc g ps asg bd) s=xRF pol E f g ps.toList (raO f (qy bd)) (rbO f (qy bd)) ((s.dzr pol.q).frz (q3a (s.dzr pol.q) (pol.rk f (qy bd)))):=rfl
theorem qhL:XE2 E f k (.loop b) s=lp3 E f k (qy b) (ZC b) (nrm pol f (qy b) k s):=rfl
theorem qdG (r:Option S):lp3 E f k key none r=lp2 E f k key r:=rfl
theorem q9D:th2 E f k (some (.normal,s)) b=XE2 E f k b s:=rfl
theorem qiK:th2 E f k (some (.ret,s)) b=some (.ret,s):=rfl
theorem qfk (i:Nat):th2 E f k (some (.exit i,s)) b=some (.exit i,s):=rfl
theorem qfg:th2 E f k none b=none:=rfl
theorem qhA:th2 E f k (if c then x else y) b=if c then th2 E f k x b else th2 E f k y b:=QX _ _ _
theorem qev:th2 E f k (o.bind g) b=o.bind fun a=>th2 E f k (g a) b:=by cases o<;>rfl
theorem qil:th2 E f k (Sum.elim g h e) b=Sum.elim (fun a=>th2 E f k (g a) b) (fun a=>th2 E f k (h a) b) e:=by cases e<;>rfl
theorem qec:lp2 E f k key (some s)=XL2 E f k key s:=rfl
theorem q9h:lz2 f k key (some (.normal,s))=ly2 .normal (nrm pol f key k s):=rfl
theorem qgA:lz2 f k key (some (.ret,s))=ly2 .ret (qgt k (pol.kx f key) (s.fnB pol (pol.ab f))):=rfl
theorem qey (i:Nat):lz2 f k key (some (.exit i,s))=ly2 (.exit i) (qgt k (pol.kx f key) (s.fnB pol (pol.ab f))):=rfl
theorem qfi:lz2 f k key none=none:=rfl
theorem qic:lz2 f k key (if c then x else y)=if c then lz2 f k key x else lz2 f k key y:=QX _ _ _
theorem qfD:lz2 f k key (o.bind g)=o.bind fun a=>lz2 f k key (g a):=by cases o<;>rfl
theorem qiC:lz2 f k key (Sum.elim g h e)=Sum.elim (fun a=>lz2 f k key (g a)) (fun a=>lz2 f k key (h a)) e:=by cases e<;>rfl
theorem qf4 (x:Exit):ly2 x (some s)=some (x,s):=rfl
theorem qh1 (i:Nat):bkk i (Sum.elim g h e)=Sum.elim (fun a=>bkk i (g a)) (fun a=>bkk i (h a)) e:=by cases e<;>rfl
theorem qiH (res:List ResultVar) (rt:List TypeId):fnn f k res rt (Sum.elim g h e)=Sum.elim (fun a=>fnn f k res rt (g a)) (fun a=>fnn f k res rt (h a)) e:=by cases e<;>rfl
end
section
variable {E:Orc} {α β γ:Type} {e:α⊕β}
theorem qeU {δ:Type} (g:α→Option γ) (h:β→Option γ) (F:γ→Option δ):(Sum.elim g h e).bind F=Sum.elim (fun a=>(g a).bind F) (fun a=>(h a).bind F) e:=by cases e<;>rfl
theorem qhh (g:α→RS) (h:β→RS) (d:Option Nat):wst (Sum.elim g h e) d=Sum.elim (fun a=>wst (g a) d) (fun a=>wst (h a) d) e:=by cases e<;>rfl
theorem qgD (g:α→Option S) (h:β→Option S):rgn (Sum.elim g h e)=Sum.elim (fun a=>rgn (g a)) (fun a=>rgn (h a)) e:=by cases e<;>rfl
theorem qgI {s:S} (g:α→Option (R×List (Nat×B))) (h:β→Option (R×List (Nat×B))) (bl rw ln:List Nat):cll (Sum.elim g h e) s bl rw ln=Sum.elim (fun a=>cll (g a) s bl rw ln) (fun a=>cll (h a) s bl rw ln) e:=by cases e<;>rfl
end
section
variable {E:Orc} {s:S} {o:Oper} {c:Prop} [Decidable c] {α β:Type} {v:Option α} {e:α⊕β} {ops l:List Oper} {A:List (List Nat)} {s0:S} {m:Nat} {acc:List Tx}
theorem quy:xst Try.prog T pol E o true s=wst (xo Try.prog T pol E (pre pol s o.op) o.op) o.dst:=rfl
theorem qtM:xst Try.prog T pol E o false s=if q2J s o.dst=true then some (s.put o.dst (.tup [])) else none:=rfl
theorem qr3:xsF Try.prog T pol E o true s=alX E s o (alC pol s o.op) (wsF (xo Try.prog T pol E s o.op) s o):=rfl
theorem qps:xsF Try.prog T pol E o false s=if q2J s o.dst=true then some (s.put o.dst (.tup []),(.tup [],[]),⟨[],[],[],[],[]⟩) else none:=rfl
theorem qqL:xr Try.prog T pol E ops [] s=some s:=rfl
theorem qmo:xr Try.prog T pol E ops (o::l) s=rs2 E ops (xgd Try.prog T pol E ops o s) l:=rfl
theorem qnn:rs2 E ops (some s) l=xr Try.prog T pol E ops l s:=rfl
theorem qmD:rs2 E ops none l=none:=rfl
theorem qqp (x y:Option S):rs2 E ops (if c then x else y) l=if c then rs2 E ops x l else rs2 E ops y l:=QX _ _ _
theorem qk5 (g:α→Option S):rs2 E ops (v.bind g) l=v.bind fun a=>rs2 E ops (g a) l:=by cases v<;>rfl
theorem qqm (g:α→Option S) (h:β→Option S):rs2 E ops (Sum.elim g h e) l=Sum.elim (fun a=>rs2 E ops (g a) l) (fun a=>rs2 E ops (h a) l) e:=by cases e<;>rfl
theorem qlQ:xdp Try.prog T pol E ops A s0 0 l s acc=if okP A 0 [] acc=true∧okX ops A s0 acc 0 acc=true∧okK ops A acc=true∧okN acc 0 acc=true then xr Try.prog T pol E ops l s else none:=by cases l<;>rfl
theorem qmp:xdp Try.prog T pol E ops A s0 (m+1) (o::l) s acc=qfH E ops A s0 m (xgF Try.prog T pol E ops o s) l acc:=rfl
theorem qiP (x:Tx):qfH E ops A s0 m (some (s,x)) l acc=xdp Try.prog T pol E ops A s0 m l s (acc++[x]):=rfl
theorem qjf:qfH E ops A s0 m none l acc=none:=rfl
theorem qlS (x y:Option (S×Tx)):qfH E ops A s0 m (if c then x else y) l acc=if c then qfH E ops A s0 m x l acc else qfH E ops A s0 m y l acc:=QX _ _ _
theorem qha (g:α→Option (S×Tx)):qfH E ops A s0 m (v.bind g) l acc=v.bind fun a=>qfH E ops A s0 m (g a) l acc:=by cases v<;>rfl
theorem qn1 (g:FuncId) (zs:List (List Nat)) (rs:List R) (bl rw ln:List Nat):Z4 E s g zs rs bl rw ln=(q9V s (bl++rw) ln zs rs).bind fun rs'=>(cvG s (bl++rw) (bl++rw) 0).bind fun G=>
  if(bl++rw).all (fun i=>(s.blk i).live)=true∧(bl++rw).Nodup∧ln.all (fun i=>(s.blk i).live && !(bl++rw).contains i)=true∧bl.length≤G.length∧(List.range G.length).all (fun j=>(lk G j .dead).isBlk==decide (j<bl.length))=true then cll (E (.fn g) bl.length rs' G) s bl rw ln else none:=rfl
theorem qh5 (rid:Nat) (f:FuncId) (asg bd:Code) (rs:List R) (bl rw ln:List Nat):q0Z E s rid f asg bd rs bl rw ln=(cvG s (bl++rw) (bl++rw) 0).bind fun G=>
  if(bl++rw).all (fun i=>(s.blk i).live)=true∧(bl++rw).Nodup∧ln.all (fun i=>(s.blk i).live && !(bl++rw).contains i)=true∧bl.length≤G.length∧(List.range G.length).all (fun j=>(lk G j .dead).isBlk==decide (j<bl.length))=true∧0<bl.length∧(bl++rw)[bl.length-1]?=some rid then
   cll (E (.rd f asg bd) bl.length (rs.map (cvT s (bl++rw) ln)) G) s bl rw ln else none:=rfl
theorem qtY (f:Nat) (asg bd:Code) (g:Operand) (ps:List Nat):xRF pol E f g ps asg bd s=match s.ev g with
 | .c (.fn g' fs caps)=>rfk s.n (q3o E (s.rf f (q7o s (pol.rk f (qy bd))) ps asg bd) g' (pol.ow g') [] (fs.map R.c++[.c (.hd .yield s.nx)]++caps.map R.c))
 | _=>none:=rfl
end
theorem qnq (g k:Nat) (a:List R) (G:List (Nat×B)):evo (.fn g) k a G=ev g k a G:=rfl
def q6m (E:Orc) (f k:Nat) (args:List R) (G:List (Nat×B)):Option (R×List (Nat×B)):=(qz Try.prog pol f).bind fun bd=>q2e Try.prog T pol (D1 Try.prog T pol) E Lim f k args G bd
theorem qi {f n:Nat} {c:Code} {res:List ResultVar} {rt:List TypeId} (hb:qz Try.prog pol f=some ⟨c,n,res,rt⟩):q1k f=c:=by unfold q1k;rw[hb];rfl
theorem q5l {E:Orc} {f n:Nat} {c:Code} {res:List ResultVar} {rt:List TypeId} (hb:qz Try.prog pol f=some ⟨c,n,res,rt⟩) (hl:okL f c) (k:Nat) (args:List R) (G:List (Nat×B)) :
  q6m E f k args G=if args.length≤n then fnn f k res rt (XE2 E f k c ⟨JK args 0,G,G.length,n⟩) else none:=by
 unfold q6m
 rw[hb,quG]
 unfold q2e
 split
 ·show Option.bind (XEo E f k c _) _=_
  rw[q5X c hl]
  rfl
 ·rfl
theorem qbf {f k:Nat} (hp:pol.pr f=none) (args:List R) (G:List (Nat×B)):ev f k args G=q6m evo f k args G:=by rw[qdT,hp];rfl
theorem qR {f n:Nat} {c:Code} {res:List ResultVar} {rt:List TypeId} (hb:qz Try.prog pol f=some ⟨c,n,res,rt⟩) (hp:pol.pr f=none) (hl:okL f c) (k:Nat) (args:List R) (G:List (Nat×B)) :
  ev f k args G=if args.length≤n then fnn f k res rt (XE2 evo f k c ⟨JK args 0,G,G.length,n⟩) else none:=by
 rw[qbf hp,q5l hb hl]
section
variable {σ ε:Type}
def itT (step:σ→Option (σ⊕ε)):Nat→σ→Option ε
 | 0,_=>none
 | n+1,x=>(step x).bind (Sum.elim (itT step n) some)
theorem q5j {step:σ→Option (σ⊕ε)}:∀{n m:Nat},n≤m→∀x r,itT step n x=some r→itT step m x=some r
 | 0,_,_,x,r,h=>by cases h
 | n+1,0,h,_,_,_=>by omega
 | n+1,m+1,h,x,r,hx=>by
  unfold itT at hx ⊢
  obtain⟨a,h1,h2⟩:=quL.1 hx
  rw[h1,quG]
  cases a with
  | inl y=>exact q5j (by omega) y r h2
  | inr e=>exact h2
def qB (step:σ→Option (σ⊕ε)) (x:σ):Option ε:=open Classical in if h:∃r n,itT step n x=some r then some (Classical.choose h) else none
theorem q4K {step:σ→Option (σ⊕ε)} {n:Nat} {x:σ} {r:ε} (h:itT step n x=some r):qB step x=some r:=by
 have hex:∃r n,itT step n x=some r:=⟨r,n,h⟩
 unfold qB
 rw[dif_pos hex]
 obtain⟨m,hm⟩:=Classical.choose_spec hex
 have h1:=q5j (Nat.le_max_left n m) _ _ h
 have h2:=q5j (Nat.le_max_right n m) _ _ hm
 rw[h1] at h2
 injection h2 with h2
 rw[←h2]
theorem q3T {step:σ→Option (σ⊕ε)} {x:σ} {r:ε} (h:qB step x=some r):∃n,itT step n x=some r:=by
 unfold qB at h
 split at h
 ·rename_i hex
  injection h with h
  obtain⟨m,hm⟩:=Classical.choose_spec hex
  exact⟨m,h ▸ hm⟩
 ·cases h
theorem qab (step:σ→Option (σ⊕ε)) (x:σ):qB step x=(step x).bind (Sum.elim (qB step) some):=by
 refine q3y (fun r h=>?_) (fun r h=>?_)
 ·obtain⟨n,hn⟩:=q3T h
  cases n with
  | zero=>cases hn
  | succ n=>
   unfold itT at hn
   obtain⟨a,h1,h2⟩:=quL.1 hn
   rw[h1,quG]
   cases a with
   | inl y=>exact q4K h2
   | inr e=>exact h2
 ·obtain⟨a,h1,h2⟩:=quL.1 h
  cases a with
  | inl y=>
   obtain⟨n,hn⟩:=q3T h2
   refine q4K (n:=n+1) ?_
   unfold itT
   rw[h1];exact hn
  | inr e=>
   refine q4K (n:=1) ?_
   unfold itT
   rw[h1];exact h2
end
theorem qiJ {F:S→XS} {σ ε:Type} {st:σ→S} {ex:ε→Exit×S} {step:σ→Option (σ⊕ε)} (hne:∀e,(ex e).1 ≠ .normal)
  (h:∀x,F (st x)=(step x).bind (Sum.elim (fun y=>some (.normal,st y)) (fun e=>some (ex e)))) (x:σ):Lim F (st x)=(qB step x).bind fun e=>some (ex e):=by
 have hit:∀(n:Nat) (x:σ),iter n F (st x)=(itT step n x).bind fun e=>some (ex e):=by
  intro n
  induction n with
  | zero=>intro x;rfl
  | succ n ih=>
   intro x
   unfold iter itT
   rw[h x]
   cases step x with
   | none=>rfl
   | some a=>
    cases a with
    | inl y=>exact ih y
    | inr e=>
     show sqD (iter n F) (ex e)=some (ex e)
     have:=hne e
     generalize ex e=q at this
     obtain⟨z,t⟩:=q
     cases z<;>first|exact absurd rfl this|rfl
 refine q3y (fun r hr=>?_) (fun r hr=>?_)
 ·obtain⟨n,hn⟩:=q2Y hr
  rw[hit n x] at hn
  obtain⟨e,h1,h2⟩:=quL.1 hn
  rw[q4K h1];exact h2
 ·obtain⟨e,h1,h2⟩:=quL.1 hr
  obtain⟨n,hn⟩:=q3T h1
  refine q5u (n:=n) ?_
  rw[hit n x,hn];exact h2
theorem q6C {E:Orc} {f k key:Nat} {c:Code} {σ ε:Type} {st:σ→S} {ex:ε→Exit×S} {step:σ→Option (σ⊕ε)} (hc:lbO f key=c) (hl:okL f c) (hne:∀e,(ex e).1 ≠ .normal)
  (h:∀x,lz2 f k key (XE2 E f k c (st x))=(step x).bind (Sum.elim (fun y=>some (.normal,st y)) (fun e=>some (ex e)))) (x:σ):XL2 E f k key (st x)=(qB step x).bind fun e=>some (ex e):=by
 refine qiJ hne (fun x=>?_) x
 rw[hc,q5X c hl]
 exact h x
def xk (E:Orc) (f k key:Nat) (r:XS):XS:=r.bind fun p=>match p.1 with | .normal=>XL2 E f k key p.2|e=>some (e,p.2)
section
variable {E:Orc} {f k key:Nat} {s:S} {c:Prop} [Decidable c] {α β:Type} {o:Option α} {g:α→XS} {h:β→XS} {e:α⊕β}
theorem q3Q:xk E f k key (some (.normal,s))=XL2 E f k key s:=rfl
theorem q6X (i:Nat):xk E f k key (some (.exit i,s))=some (.exit i,s):=rfl
theorem qbP:xk E f k key (some (.ret,s))=some (.ret,s):=rfl
theorem q76:xk E f k key none=none:=rfl
theorem qbA (x y:XS):xk E f k key (if c then x else y)=if c then xk E f k key x else xk E f k key y:=QX _ _ _
theorem q6J:xk E f k key (o.bind g)=o.bind fun a=>xk E f k key (g a):=by cases o<;>rfl
theorem qaG:xk E f k key (Sum.elim g h e)=Sum.elim (fun a=>xk E f k key (g a)) (fun a=>xk E f k key (h a)) e:=by cases e<;>rfl
end
theorem q75 {E:Orc} {f k key:Nat} {c:Code} {s:S} (hc:lbO f key=c) (hl:okL f c):XL2 E f k key s=xk E f k key (lz2 f k key (XE2 E f k c s)):=by
 unfold XL2
 rw[qkk,hc,q5X c hl]
 show(lz2 f k key (XE2 E f k c s)).bind _=_
 unfold xk
 congr 1
 funext p
 obtain⟨e,t⟩:=p
 cases e<;>first|rfl|(show Lim _ t=Lim _ t;rw[hc])
theorem q0F {α:Type} {c:Prop} [Decidable c] (x y:α):(if c then some x else some y)=some (if c then x else y):=by split<;>rfl
theorem zP {f key:Nat} {c b:Code} (hc:q1k f=c) (h:(z6 key c).getD .skip=b):lbO f key=b:=by unfold lbO;rw[hc];exact h
theorem z8 {f:Nat} {c b:Code} (hl:okL f c) (hb:b∈Qb c):okL f b:=⟨fun x hx=>hl.lo x ((q3C c b hb).1 x hx),fun q hq=>hl.ro q ((q3C c b hb).2 q hq)⟩
theorem qlo {f key:Nat} {c:Code} {q:Code×Code} (hl:okL f c) (hq:q∈zE c):okL f q.1∧okL f q.2:=
 ⟨⟨fun x hx=>hl.lo x ((ZS c q hq).1 x (quS _ hx)),fun x hx=>hl.ro x ((ZS c q hq).2 x (quS _ hx))⟩,
   ⟨fun x hx=>hl.lo x ((ZS c q hq).1 x (quP _ hx)),fun x hx=>hl.ro x ((ZS c q hq).2 x (quP _ hx))⟩⟩
def rn2 (f k key:Nat) (o:Option B) (s:S):Option (R×List (Nat×B)):=o.bind fun b=>rd3 k (XE2 evo f k (rbO f key) (s.up [(k-1,b)]))
def rn1 (f k key:Nat) (r:XS):Option (R×List (Nat×B)):=r.bind fun p=>match p.1 with | .normal=>rn2 f k key (rdB (p.2.blk (k-1))) p.2|_=>none
section
variable {f k key:Nat} {s:S} {c:Prop} [Decidable c] {α β:Type} {o:Option α} {g:α→XS} {h:β→XS} {e:α⊕β}
theorem q9y:rn1 f k key (some (.normal,s))=rn2 f k key (rdB (s.blk (k-1))) s:=rfl
theorem qfs (b:B):rn2 f k key (some b) s=rd3 k (XE2 evo f k (rbO f key) (s.up [(k-1,b)])):=rfl
end
theorem qgv {f key k:Nat} {asg bd:Code} (ha:raO f key=asg) (hb:rbO f key=bd) (hk:0<k) (hc:q1c (drq pol f) false asg=true∧q1c (drq pol f) false bd=true) (la:okL f asg) (lb:okL f bd) (tm:List R) (G:List (Nat×B)) :
  evr f (raO f key) (rbO f key) k tm G=rn1 f k key (XE2 evo f k (raO f key) ⟨JK tm 0,G,G.length,tm.length⟩):=by
 rw[qnr ha hb hk hc tm G,ha]
 have e1:∀s,XE f k asg s=XE2 evo f k asg s:=fun s=>q5X asg la s
 have e2:∀s,XE f k bd s=XE2 evo f k bd s:=fun s=>q5X bd lb s
 rw[e1]
 unfold rd1 rn1
 congr 1
 funext p
 obtain⟨x,t⟩:=p
 cases x<;>first
  | rfl
  | (show rd2 f k bd t (rdB (t.blk (k-1)))=rn2 f k key (rdB (t.blk (k-1))) t
     unfold rd2 rn2
     rw[hb]
     congr 1
     funext b
     rw[e2])
theorem qmF {f key:Nat} {c b:Code} (hc:q1k f=c) (h:((QF key c).getD (.skip,.skip)).1=b):raO f key=b:=by unfold raO;rw[hc];exact h
theorem qnk {f key:Nat} {c b:Code} (hc:q1k f=c) (h:((QF key c).getD (.skip,.skip)).2=b):rbO f key=b:=by unfold rbO;rw[hc];exact h
section
variable {σ ε:Type} (f k:Nat) (enc:σ→List R×List (Nat×B)) (ex:ε→R×List (Nat×B))
def ovr (F:σ→Option ε):Orc:=fun g k' args G=>open Classical in if h:(g = .fn f∧k'=k)∧∃y,enc y=(args,G) then(F (Classical.choose h.2)).bind fun e=>some (ex e) else evo g k' args G
def q4i (y:σ):Option ε:=open Classical in if h:∃e,ev f k (enc y).1 (enc y).2=some (ex e) then some (Classical.choose h) else none
variable {f k enc ex}
theorem qhl (hi:∀y z,enc y=enc z→y=z) (F:σ→Option ε) (y:σ):ovr f k enc ex F (.fn f) k (enc y).1 (enc y).2=(F y).bind fun e=>some (ex e):=by
 have h:((Fx.fn f=Fx.fn f)∧k=k)∧∃z,enc z=((enc y).1,(enc y).2):=⟨⟨rfl,rfl⟩,y,rfl⟩
 unfold ovr
 rw[dif_pos h]
 rw[hi _ _ ((Classical.choose_spec h.2).trans rfl)]
theorem qfC (F:σ→Option ε) (g k':Nat) (a:List R) (G:List (Nat×B)) (h:g≠f):ovr f k enc ex F (.fn g) k' a G=ev g k' a G:=by
 unfold ovr
 rw[dif_neg (fun h'=>h (by injection h'.1.1))]
 rfl
theorem qnh (F:σ→Option ε) (g:Nat) (asg bd:Code) (k':Nat) (a:List R) (G:List (Nat×B)):ovr f k enc ex F (.rd g asg bd) k' a G=evr g asg bd k' a G:=by
 unfold ovr
 rw[dif_neg (fun h'=>by cases h'.1.1)]
 rfl
def q6b (f k:Nat) (enc:σ→List R×List (Nat×B)) (ex:ε→R×List (Nat×B)) (step:(σ→Option ε)→σ→Option ε):Prop:=
 ∀(E:Orc) (F:σ→Option ε),(∀y,E (.fn f) k (enc y).1 (enc y).2=(F y).bind fun e=>some (ex e))→(∀g k' a G,g≠f→E (.fn g) k' a G=ev g k' a G)→(∀g asg bd k' a G,E (.rd g asg bd) k' a G=evr g asg bd k' a G)→
  ∀y,q6m E f k (enc y).1 (enc y).2=(step F y).bind fun e=>some (ex e)
theorem q9c {E E':Orc} (h:OLe E E') (L:(S→XS)→S→XS) (hL:LLe L Lim) {f k:Nat} {args:List R} {G:List (Nat×B)} {bd:Bd} {x:R×List (Nat×B)} (hb:qz Try.prog pol f=some bd) (hx:q2e Try.prog T pol (D1 Try.prog T pol) E L f k args G bd=some x):q6m E' f k args G=some x:=by
 unfold q6m
 rw[hb,quG]
 exact q4m q3W h hL hx
theorem qiI (hp:pol.pr f=none) (hi:∀y z,enc y=enc z→y=z) {step:(σ→Option ε)→σ→Option ε} (hs:q6b f k enc ex step) :
  ∀(n:Nat) (y:σ) (z:R×List (Nat×B)),xf Try.prog T pol (D1 Try.prog T pol) n (.fn f) k (enc y).1 (enc y).2=some z→∃e,z=ex e:=by
 intro n
 induction n with
 | zero=>intro y z h;cases h
 | succ n ih=>
  intro y z h
  obtain⟨F,hF⟩:∃F:σ→Option ε,∀y z,xf Try.prog T pol (D1 Try.prog T pol) n (.fn f) k (enc y).1 (enc y).2=some z→(F y).bind (fun e=>some (ex e))=some z:=by
   refine⟨fun y=>open Classical in if h:∃e,xf Try.prog T pol (D1 Try.prog T pol) n (.fn f) k (enc y).1 (enc y).2=some (ex e) then some (Classical.choose h) else none,fun y z hz=>?_⟩
   obtain⟨e,rfl⟩:=ih y z hz
   have hex:∃e,xf Try.prog T pol (D1 Try.prog T pol) n (.fn f) k (enc y).1 (enc y).2=some (ex e):=⟨e,hz⟩
   simp only[dif_pos hex,quG]
   rw[←Classical.choose_spec hex,hz]
  have hle:OLe (xf Try.prog T pol (D1 Try.prog T pol) n) (ovr f k enc ex F):=by
   intro g k' args G x hx
   unfold ovr
   split
   ·rename_i hh
    obtain⟨⟨rfl,rfl⟩,hy⟩:=hh
    have e1:=Classical.choose_spec hy
    refine hF _ _ ?_
    rw[e1];exact hx
   ·exact q9i q3W _ _ _ _ _ hx
  have h2:∃bd,qz Try.prog pol f=some bd∧q2e Try.prog T pol (D1 Try.prog T pol) (xf Try.prog T pol (D1 Try.prog T pol) n) (iter n) f k (enc y).1 (enc y).2 bd=some z:=by
   have h3:fnx Try.prog T pol (D1 Try.prog T pol) (xf Try.prog T pol (D1 Try.prog T pol) n) (iter n) f k (enc y).1 (enc y).2=some z:=h
   unfold fnx at h3
   rw[hp] at h3
   exact quL.1 h3
  obtain⟨bd,hb,hx⟩:=h2
  have h4:=q9c hle (iter n) (q7b n) hb hx
  rw[hs _ F (qhl hi F) (qfC F) (qnh F) y] at h4
  obtain⟨e,-,h5⟩:=quL.1 h4
  injection h5 with h5
  exact⟨e,h5.symm⟩
theorem q7x (hp:pol.pr f=none) (hi:∀y z,enc y=enc z→y=z) {step:(σ→Option ε)→σ→Option ε} (hs:q6b f k enc ex step) (y:σ):ev f k (enc y).1 (enc y).2=(q4i f k enc ex y).bind fun e=>some (ex e):=by
 unfold q4i
 split
 ·rename_i h
  rw[quG]
  exact Classical.choose_spec h
 ·rename_i h
  cases hv:ev f k (enc y).1 (enc y).2 with
  | none=>rfl
  | some z=>
   obtain⟨n,hn⟩:=q1R (show EE Try.prog T pol (D1 Try.prog T pol) (.fn f) k (enc y).1 (enc y).2=some z from hv)
   obtain⟨e,rfl⟩:=qiI hp hi hs n y z hn
   exact absurd ⟨e,hv⟩ h
theorem qge (hp:pol.pr f=none) (hi:∀y z,enc y=enc z→y=z) (hj:∀d e,ex d=ex e→d=e) {step:(σ→Option ε)→σ→Option ε} (hs:q6b f k enc ex step) (y:σ):q4i f k enc ex y=step (q4i f k enc ex) y:=by
 have h1:=hs evo (q4i f k enc ex) (q7x hp hi hs) (fun _ _ _ _ _=>rfl) (fun _ _ _ _ _ _=>rfl) y
 rw[←qbf hp,q7x hp hi hs y] at h1
 cases h2:q4i f k enc ex y with
 | none=>
  rw[h2] at h1
  cases h3:step (q4i f k enc ex) y with
  | none=>rfl
  | some e=>rw[h3] at h1;cases h1
 | some d=>
  rw[h2] at h1
  cases h3:step (q4i f k enc ex) y with
  | none=>rw[h3] at h1;cases h1
  | some e=>
   rw[h3] at h1
   injection h1 with h1
   rw[hj _ _ h1]
end
end
noncomputable section
open Go.RowKit
section
variable {α:Type} {E:α→List D} {n:Nat}
theorem q73 (h:∀x,(E x).length=n):∀(v:List α) (a:Nat),(v.flatMap E).drop (a*n)=(v.drop a).flatMap E
 | [],a=>by simp
 | x::v,0=>by simp
 | x::v,a+1=>by
  rw[qvJ,show(a+1)*n=(E x).length+a*n by rw[h,Nat.add_mul];omega,List.drop_length_add_append]
  exact q73 h v a
theorem q6U (h:∀x,(E x).length=n):∀(v:List α) (a:Nat),(v.flatMap E).take (a*n)=(v.take a).flatMap E
 | [],a=>by simp
 | x::v,0=>by simp
 | x::v,a+1=>by
  rw[qvJ,show(a+1)*n=(E x).length+a*n by rw[h,Nat.add_mul];omega,List.take_length_add_append,List.take_succ_cons,qvJ,q6U h v a]
theorem q3Z (v:List α) (x:α):(v.flatMap E).map C.d++(E x).map C.d=((v++[x]).flatMap E).map C.d:=by simp
theorem qaf {β:Type}:∀(ys p q:List β) (o:Nat),o+ys.length≤p.length→spl (p++q) o ys=spl p o ys++q
 | [],p,q,o,_=>rfl
 | y::ys,p,q,o,h=>by
  rw[quR] at h
  rw[spl,spl,List.set_append_left _ _ (by omega),qaf ys _ q (o+1) (by rw[qvr];omega)]
theorem q8C {β:Type}:∀(ys p q:List β) (o:Nat),spl (p++q) (p.length+o) ys=p++spl q o ys
 | [],p,q,o=>rfl
 | y::ys,p,q,o=>by
  rw[spl,spl,List.set_append_right _ _ (by omega),show p.length+o-p.length=o by omega,show p.length+o+1=p.length+(o+1) by omega,q8C ys]
theorem q7G {β:Type}:∀(ys p pre:List β),p.length=ys.length→spl (pre++p) pre.length ys=pre++ys
 | [],p,pre,h=>by rw[quZ h];rfl
 | y::ys,[],pre,h=>by cases h
 | y::ys,x::p,pre,h=>by
  have e:(pre++x::p).set pre.length y=(pre++[y])++p:=by rw[List.set_append_right _ _ (quW _),Nat.sub_self];simp
  rw[spl,e,show pre.length+1=(pre++[y]).length by simp,q7G ys p _ (by simpa using h)]
  simp
theorem qan {β:Type}:∀(ys:List β) (o:Nat),spl [] o ys=[]
 | [],o=>rfl
 | y::ys,o=>by rw[spl,List.set_nil,qan ys]
theorem qcL (h:∀x,(E x).length=n):∀(v:List α) (i:Nat) (x:α),spl (v.flatMap E) (i*n) (E x)=(v.set i x).flatMap E
 | [],i,x=>by rw[List.flatMap_nil,qan];rfl
 | y::v,0,x=>by
  rw[qvJ,Nat.zero_mul,qaf _ _ _ _ (by rw[h,h];omega)]
  have:=q7G (E x) (E y) [] (by rw[h,h])
  simp only[qv0,qvp] at this
  rw[this];rfl
 | y::v,i+1,x=>by
  rw[qvJ,show(i+1)*n=(E y).length+i*n by rw[h,Nat.add_mul];omega,q8C,qcL h v i x]
  rfl
theorem q4N {β γ:Type} (f:β→γ):∀(ys cs:List β) (o:Nat),spl (cs.map f) o (ys.map f)=(spl cs o ys).map f
 | [],cs,o=>rfl
 | y::ys,cs,o=>by rw[qv3,spl,spl,←List.map_set,q4N f ys]
theorem q7h (h:∀x,(E x).length=n) (v:List α) (i:Nat) (x:α):spl ((v.flatMap E).map C.d) (i*n) ((E x).map C.d)=((v.set i x).flatMap E).map C.d:=by rw[q4N,qcL h]
theorem q9Z {β:Type}:∀(ys zs cs:List β) (o:Nat),spl cs o (ys++zs)=spl (spl cs o ys) (o+ys.length) zs
 | [],zs,cs,o=>rfl
 | y::ys,zs,cs,o=>by rw[qvK,spl,spl,q9Z ys,quR,show o+1+ys.length=o+(ys.length+1) by omega]
theorem qaJ (h:∀x,(E x).length=n):∀(w v:List α) (i:Nat),spl (v.flatMap E) (i*n) (w.flatMap E)=(spl v i w).flatMap E
 | [],v,i=>rfl
 | x::w,v,i=>by rw[qvJ,q9Z,qcL h,h,spl,show i*n+n=(i+1)*n by rw[Nat.add_mul];omega,qaJ h w]
theorem qjK (m:Nat) (x:α):(List.replicate m (E x)).flatten=(List.replicate m x).flatMap E:=by
 rw[List.flatMap_def,List.map_replicate]
theorem qj8 {cs:List C} (x:α) (hx:cs=(E x).map C.d) (m:Nat):(List.replicate m cs).flatten=((List.replicate m x).flatMap E).map C.d:=by
 subst hx
 rw[←qjK,List.map_flatten,List.map_replicate]
end
theorem QC {α:Type} {E:α→List D} {n:Nat} (h:∀x,(E x).length=n) (hn:0<n) (hi:∀x y,E x=E y→x=y):∀(v w:List α),v.flatMap E=w.flatMap E→v=w
 | [],[],_=>rfl
 | [],y::w,e=>by
  have:=congrArg List.length e
  rw[qvJ,quN,h] at this
  simp at this;omega
 | x::v,[],e=>by
  have:=congrArg List.length e
  rw[qvJ,quN,h] at this
  simp at this;omega
 | x::v,y::w,e=>by
  rw[qvJ,qvJ] at e
  obtain⟨h1,h2⟩:=List.append_inj e (by rw[h,h])
  rw[hi x y h1,QC h hn hi v w h2]
theorem q2O (a b:List D):(a.map C.d=b.map C.d)=(a=b):=by
 refine propext ⟨fun h=>?_,fun h=>by rw[h]⟩
 induction a generalizing b with
 | nil=>cases b with|nil=>rfl|cons=>cases h
 | cons x a ih=>
  cases b with
  | nil=>cases h
  | cons y b=>
   rw[qv3,qv3] at h
   injection h with h1 h2
   injection h1 with h1
   rw[h1,ih b h2]
def eI (x:Int):List D:=[.int .i64 x]
def eS (x:ByteArray):List D:=[.str x]
def eL {α:Type} (n:Nat) (E:α→List D) (v:List α):List D:=[.sl n v.length (v.flatMap E)]
theorem qaY {α β γ:Type} (f:β→γ) (o:Option α) (g:α→Option β):(o.bind g).map f=o.bind fun x=>(g x).map f:=by cases o<;>rfl
theorem qiY (P:Program) (T:Ty) (d:Nat) (t:TypeId) (x y:R):eqR P T (d+1) t x y =
  match T.k t,x,y with
  | .int _,.c (.d (.int k a)),.c (.d (.int k' b))=>if k=k' then some (a==b) else none
  | .bool,.c (.d (.bool a)),.c (.d (.bool b))=>some (a==b)
  | .str,.c (.d (.str a)),.c (.d (.str b))=>some (a.toList==b.toList)
  | .st fs,.agg xs,.agg ys=>if q5T P t=true then qb1 T (eqR P T d) xs ys fs else none
  | .arr n e,.agg xs,.agg ys=>if qgV P t=true∧T.k e ≠ .other then qb1 T (eqR P T d) xs ys (qa9 (T.sz e) e n 0) else none
  | _,_,_=>none:=by
 generalize hk:T.k t=kd
 unfold eqR
 rw[hk]
 cases kd<;>first
  | rfl
  | (rcases x with (c|_|_|_)<;>first
    | rfl
    | (rcases y with (c' | _|_|_)<;>first
      | rfl
      | (cases c<;>first
        | rfl
        | (cases c'<;>first
          | rfl
          | (rename_i d1 d2;cases d1<;>first
            | rfl
            | (cases d2<;>rfl))))))
section
variable {α β:Type} {c:Prop} [Decidable c] (a b:List α)
theorem qie (f:α→Bool):(if c then a else b).any f=if c then a.any f else b.any f:=by split<;>rfl
theorem qh4 (f:α→Bool):(if c then a else b).all f=if c then a.all f else b.all f:=by split<;>rfl
theorem qje (f:α→β):(if c then a else b).map f=if c then a.map f else b.map f:=by split<;>rfl
theorem q6q:(if c then a else b).isEmpty=if c then a.isEmpty else b.isEmpty:=by split<;>rfl
theorem q6k [BEq α] (x:α):(if c then a else b).contains x=if c then a.contains x else b.contains x:=by split<;>rfl
end
def qpV (op:UnOp) (r:R) (s:S):RS:=
 match op,r with
 | .not,.c (.d (.bool b))=>some (.c (.d (.bool (!b))),s)
 | .neg,.c (.d (.int k n))=>some (.c (.d (.int k (k.wrap (0-n)))),s)
 | _,_=>none
theorem qmv (s:S) (op:UnOp) (x:Operand):xUn s op x=qpV op (s.ev x) s:=by
 unfold xUn qpV
 generalize s.ev x=r
 cases op<;>first
  | rfl
  | (cases r with
     | c c=>cases c with
      | d d=>cases d<;>rfl
      | _=>rfl
     | _=>rfl)
def lkq (ok:Bool) (z:R):Option (Nat×R×Nat)→Option R
 | some q=>some (tt2 q.2.1 ok true)
 | none=>some (tt2 z ok false)
theorem q9t (T:Ty) (s:S) (t:TypeId) (x y:Operand) (ok:Bool):Jz T s t x y ok =
  match T.k t,q1t s x,(s.ev y).key with
  | .mp k e,some es,some kv=>if plK (T.k k) kv=true∧es.all (fun q=>plK (T.k k) q.1)=true then(zR T e).bind fun z=>lkq ok z (fnd kv es 0) else none
  | _,_,_=>none:=by
 unfold Jz
 generalize T.k t=kd
 generalize q1t s x=m
 generalize (s.ev y).key=v
 cases kd<;>first
  | rfl
  | (cases m<;>first
    | rfl
    | (cases v<;>first
      | rfl
      | (simp only
         split
         ·congr 1
          funext z
          cases fnd _ _ _<;>rfl
         ·rfl)))
theorem qbR (xs ys:List C):(xs++ys).flatMap C.rows=xs.flatMap C.rows++ys.flatMap C.rows:=List.flatMap_append
theorem qcx (zs0:List Nat):∀(zs:List Nat) (ds:List D) (ys:List C),zs.length=ds.length→dzc zs0 zs (ds.map C.d++ys)=ds.map C.d++dzc zs0 [] ys
 | [],[],ys,_=>rfl
 | [],d::ds,ys,h=>by cases h
 | z::zs,[],ys,h=>by cases h
 | z::zs,d::ds,ys,h=>by
  rw[qv3,qvK,dzc,qcx zs0 zs ds ys (by simpa using h)]
  rfl
theorem qgl {α:Type} {E:α→List D} {n:Nat} (h:∀x,(E x).length=n+1) (zs0:List Nat) (h0:zs0.length=n+1):∀(v:List α) (ys:List C),dzc zs0 [] ((v.flatMap E).map C.d++ys)=(v.flatMap E).map C.d++dzc zs0 [] ys
 | [],ys=>rfl
 | x::v,ys=>by
  have hx:=h x
  rw[qvJ,List.map_append,qvl,qvl,←qgl h zs0 h0 v ys]
  cases hE:E x with
  | nil=>rw[hE] at hx;cases hx
  | cons d ds=>
   rw[hE] at hx
   rw[qv3,qvK,dzc,qcx zs0 zs0.tail ds _ (by rw[List.length_tail];simp at hx;omega)]
   rfl
def qoo {α:Type} (a b:Option α):Prop:=∀r,a=some r→b=some r
theorem qoo.bind {α β:Type} {a b:Option α} {f g:α→Option β} (h:qoo a b) (hf:∀x,qoo (f x) (g x)):qoo (a.bind f) (b.bind g):=fun r hr=>by
 obtain⟨x,h1,h2⟩:=quL.1 hr
 rw[h x h1]
 exact hf x r h2
def spr (cs:List C) (o:Nat) (ys:List C):List C:=spl cs o ys
theorem qaK (t:TypeId) (cs ys:List C) (o:Nat):(B.blk t cs).set o ys = .blk t (spl cs o ys):=rfl
theorem qcQ (e:TypeId) (sz:Nat) (cs ys:List C) (o:Nat):(B.row e sz cs).set o ys = .row e sz (spr cs o ys):=rfl
theorem qfx (c:C) (cs ys:List C) (o:Nat):spr (c::cs) o ys=spl (c::cs) o ys:=rfl
def xsl (T:Ty) (s:S) (t:TypeId) (x:R) (lo hi:Option Operand):RS:=
 match x,T.k t with
 | .c (.d (.str b)),.str=>
  match s.bd lo 0,s.bd hi b.size with
  | some l,some h=>if 0≤l∧l≤h∧h≤b.size then some (.c (.d (.str (b.extract l.toNat h.toNat))),s) else none
  | _,_=>none
 | .c (.d (.sl sz n cs)),.sl e=>
  if T.k e ≠ .other∧T.sz e=sz then
   match s.bd lo 0,s.bd hi n with
   | some l,some h=>if 0≤l∧l≤h∧h≤n then some (.c (.d (.sl sz (h.toNat-l.toNat) ((cs.drop (l.toNat*sz)).take ((h.toNat-l.toNat)*sz)))),s) else none
   | _,_=>none
  else none
 | .c (.own id sz off n),.sl e=>
  if T.k e ≠ .other∧T.sz e=sz then
   match s.bd lo 0,s.bd hi n with
   | some l,some h=>if 0≤l∧l≤h∧h≤n then(if l=0∨l<n then some (.c (.own id sz (off+l.toNat) (h.toNat-l.toNat)),s) else some (.c (.d (.sl sz 0 [])),s)) else none
   | _,_=>none
  else none
 | .c .nils,.sl e=>
  if T.k e ≠ .other then
   match s.bd lo 0,s.bd hi 0 with
   | some l,some h=>if l=0∧h=0 then some (.c .nils,s) else none
   | _,_=>none
  else none
 | _,_=>none
theorem qby (T:Ty) (s:S) (t:TypeId) (x:Operand) (lo hi:Option Operand):q67 T s t x lo hi none=xsl T s t (s.ev x) lo hi:=by
 unfold q67 xsl
 generalize s.ev x=r
 generalize T.k t=kd
 cases r with
 | c c=>
  cases c with
  | d d=>cases d<;>cases kd<;>rfl
  | _=>cases kd<;>rfl
 | _=>rfl
theorem qnt (b:Bool):((if(!b)=true then true else false)||b)=true:=by cases b<;>rfl
def xcl (T:Ty) (s:S) (hi mx:Option Operand):Kd→R→RS
 | .sl e,.c (.d (.sl sz n cs))=>if T.k e ≠ .other∧T.sz e=sz then(match s.bd hi 0,s.bd mx 0 with|some h,some m=>if h=(n:Int)∧m=(n:Int) then some (.c (.clp sz n cs),s) else none|_,_=>none) else none
 | .sl e,.c .nils=>if T.k e ≠ .other then(match s.bd hi 0,s.bd mx 0 with|some h,some m=>if h=0∧m=0 then some (.c (.clp (T.sz e) 0 []),s) else none|_,_=>none) else none
 | _,_=>none
theorem qk6 (T:Ty) (s:S) (hi mx:Option Operand) (e:TypeId) (sz n:Nat) (cs:List D):xcl T s hi mx (.sl e) (.c (.d (.sl sz n cs)))=if T.k e ≠ .other∧T.sz e=sz then(match s.bd hi 0,s.bd mx 0 with|some h,some m=>if h=(n:Int)∧m=(n:Int) then some (.c (.clp sz n cs),s) else none|_,_=>none) else none:=rfl
theorem qeb (T:Ty) (s:S) (t:TypeId) (x y:Operand) (mx:Option Operand):qcu T s t x none (some y) mx=xcl T s (some y) mx (T.k t) (s.ev x):=by
 unfold qcu
 generalize s.ev x=r
 generalize T.k t=kd
 cases kd with
 | sl e=>
  cases r with
  | c c=>
   cases c with
   | d d=>
    cases d with
    | sl sz n cs=>
     simp only[xcl,Option.isSome_some,true_and]
     cases s.bd (some y) 0 with
     | none=>simp
     | some h=>cases s.bd mx 0 with
      | none=>simp
      | some m=>simp only[qvv];split<;>rename_i hc<;>simp_all
    | _=>rfl
   | nils=>
    simp only[xcl,Option.isSome_some,true_and]
    cases s.bd (some y) 0 with
    | none=>simp
    | some h=>cases s.bd mx 0 with
     | none=>simp
     | some m=>simp only[qvv];split<;>rename_i hc<;>simp_all
   | _=>rfl
  | _=>rfl
 | _=>rfl
section
variable {T:Ty} {s:S} {t:TypeId} {lo hi:Option Operand}
theorem qh3 {id sz off n:Nat}:xsl T s t (.c (.own id sz off n)) none hi =
  match T.k t with
  | .sl e=>if T.k e ≠ .other∧T.sz e=sz then
   match s.bd hi n with
   | some h=>if 0≤h∧h≤n then some (.c (.own id sz off (min h.toNat n)),s) else none
   | _=>none
   else none
  | _=>none:=by
 unfold xsl
 cases T.k t<;>try rfl
 dsimp only[S.bd]
 split
 ·split
  ·rename_i l h h1 h2
   injection h1 with h1
   subst h1
   rw[h2]
   dsimp only
   by_cases hc:0≤h∧h≤n
   ·rw[if_pos ⟨Int.le_refl _,hc⟩,if_pos (.inl rfl),if_pos hc,show min h.toNat n=h.toNat by omega]
    rfl
   ·rw[if_neg (fun q=>hc q.2),if_neg hc]
  ·rename_i h1
   split
   ·rename_i h h2
    exact absurd h2 (h1 0 h rfl)
   ·rfl
 ·rfl
theorem qgO {id sz off n:Nat} {lo:Operand}:xsl T s t (.c (.own id sz off n)) (some lo) hi =
  match T.k t with
  | .sl e=>if T.k e ≠ .other∧T.sz e=sz then
   match s.bd (some lo) 0,s.bd hi n with
   | some l,some h=>if 0≤l∧l≤h∧h≤n then(if l=0∨l<n then some (.c (.own id sz (off+l.toNat) (h.toNat-l.toNat)),s) else some (.c (.d (.sl sz 0 [])),s)) else none
   | _,_=>none
   else none
  | _=>none:=by unfold xsl;cases T.k t<;>rfl
end
def qoi {α:Type} (s:S) (E:α→List D) (n:Nat) (v:List α) (l h:Option Int):RS:=
 match l,h with
 | some l,some h=>if 0≤l∧l≤h∧h≤v.length then some (.c (.d (.sl n ((v.drop l.toNat).take (h.toNat-l.toNat)).length (((v.drop l.toNat).take (h.toNat-l.toNat)).flatMap E))),s) else none
 | _,_=>none
theorem qkK {α:Type} {E:α→List D} {n:Nat} (h:∀x,(E x).length=n) {T:Ty} {s:S} {t e:TypeId} (v:List α) (lo hi:Option Operand) (hk:T.k t = .sl e) (hz:T.sz e=n) (ho:T.k e ≠ .other) :
  xsl T s t (.c (.d (.sl n v.length (v.flatMap E)))) lo hi=qoi s E n v (s.bd lo 0) (s.bd hi v.length):=by
 unfold xsl
 simp only[hk]
 rw[if_pos ⟨ho,hz⟩]
 unfold qoi
 cases s.bd lo 0 with
 | none=>rfl
 | some l=>
  cases s.bd hi v.length with
  | none=>rfl
  | some h'=>
   simp only
   split
   ·rename_i hc
    rw[q73 h,q6U h,qv9,qvs,Nat.min_eq_left (by omega)]
   ·rfl
abbrev dI (n:Int):C:=C.d (D.int .i64 n)
abbrev dS (s:ByteArray):C:=C.d (D.str s)
abbrev dL {α:Type} (n:Nat) (E:α→List D) (v:List α):C:=C.d (D.sl n v.length (v.flatMap E))
abbrev dO (i sz n:Nat):C:=C.own i sz 0 n
abbrev dP (i:Nat):C:=C.ptr i 0
abbrev rI (n:Int):R:=R.c (C.d (D.int .i64 n))
abbrev rS (s:ByteArray):R:=R.c (C.d (D.str s))
abbrev rB (b:Bool):R:=R.c (C.d (D.bool b))
abbrev rL {α:Type} (n:Nat) (E:α→List D) (v:List α):R:=R.c (C.d (D.sl n v.length (v.flatMap E)))
abbrev rO (i sz n:Nat):R:=R.c (C.own i sz 0 n)
abbrev rP (i:Nat):R:=R.c (C.ptr i 0)
abbrev bR {α:Type} (e sz:Nat) (E:α→List D) (v:List α):B:=B.row e sz ((v.flatMap E).map C.d)
theorem XLs {E:Orc} {f k key:Nat} {c:Code} {σ ε:Type} {st:σ→S} {ex:ε→XS} {step:σ→Option (σ⊕ε)} (hc:lbO f key=c) (hl:okL f c) (hne:∀e,∃p,ex e=some p∧p.1 ≠ .normal)
  (h:∀x,lz2 f k key (XE2 E f k c (st x))=(step x).bind (Sum.elim (fun y=>some (.normal,st y)) ex)) (x:σ):XL2 E f k key (st x)=(qB step x).bind ex:=by
 obtain⟨g,hg⟩:∃g:ε→Exit×S,∀e,ex e=some (g e)∧(g e).1 ≠ .normal:=⟨fun e=>Classical.choose (hne e),fun e=>Classical.choose_spec (hne e)⟩
 obtain rfl:ex=fun e=>some (g e):=funext fun e=>(hg e).1
 exact q6C (ex:=g) hc hl (fun e=>(hg e).2) h x
theorem q98 {E:Orc} {f k key:Nat} {c:Code} {A1 ε:Type} {st:A1→S} {ex:ε→XS} {step:A1→Option ((A1)⊕ε)} (hc:lbO f key=c) (hl:okL f c) (hne:∀e,∃p,ex e=some p∧p.1 ≠ .normal)
  (h:∀a1,lz2 f k key (XE2 E f k c (st a1))=(step a1).bind (Sum.elim (fun y=>some (.normal,st y)) ex)) (a1:A1):XL2 E f k key (st a1)=(qB step a1).bind ex:=
 XLs (st:=fun y=>st y) hc hl hne (fun a1=>h a1) a1
theorem q6A {E:Orc} {f k key:Nat} {c:Code} {A1 A2 ε:Type} {st:A1→A2→S} {ex:ε→XS} {step:(A1×A2)→Option ((A1×A2)⊕ε)} (hc:lbO f key=c) (hl:okL f c) (hne:∀e,∃p,ex e=some p∧p.1 ≠ .normal)
  (h:∀a1 a2,lz2 f k key (XE2 E f k c (st a1 a2))=(step (a1,a2)).bind (Sum.elim (fun y=>some (.normal,st y.1 y.2)) ex)) (a1:A1) (a2:A2):XL2 E f k key (st a1 a2)=(qB step (a1,a2)).bind ex:=
 XLs (st:=fun y=>st y.1 y.2) hc hl hne (fun⟨a1,a2⟩=>h a1 a2) (a1,a2)
theorem qo6 {E:Orc} {f k key:Nat} {c:Code} {A1 A2 A3 ε:Type} {st:A1→A2→A3→S} {ex:ε→XS} {step:(A1×A2×A3)→Option ((A1×A2×A3)⊕ε)} (hc:lbO f key=c) (hl:okL f c) (hne:∀e,∃p,ex e=some p∧p.1 ≠ .normal)
  (h:∀a1 a2 a3,lz2 f k key (XE2 E f k c (st a1 a2 a3))=(step (a1,a2,a3)).bind (Sum.elim (fun y=>some (.normal,st y.1 y.2.1 y.2.2)) ex)) (a1:A1) (a2:A2) (a3:A3):XL2 E f k key (st a1 a2 a3)=(qB step (a1,a2,a3)).bind ex:=
 XLs (st:=fun y=>st y.1 y.2.1 y.2.2) hc hl hne (fun⟨a1,a2,a3⟩=>h a1 a2 a3) (a1,a2,a3)
abbrev aY4:List R:=[R.any,R.any,R.any,R.any]
abbrev aY8:List R:=R.any::R.any::R.any::R.any::aY4
abbrev q6p:List R:=R.any::R.any::R.any::R.any::aY8
def dzU (Q:TypeId→List Nat):B→B
 | .row e sz cs => .row e sz (dzc (Q e) [] cs)
 | b=>b
theorem qmB (z:Nat) {c:C} (h:c.isNils=false):dz z c=c:=by
 cases c<;>first|rfl|cases h
theorem q6h (zs0:List Nat):∀{cs:List C} (zs:List Nat),cs.any C.isNils=false→dzc zs0 zs cs=cs
 | [],zs,_=>by cases zs<;>rfl
 | c::cs,zs,h=>by
  rw[List.any_cons,Bool.or_eq_false_iff] at h
  cases zs with
  | nil=>rw[dzc,qmB _ h.1,q6h zs0 _ h.2]
  | cons z zs=>rw[dzc,qmB _ h.1,q6h zs0 _ h.2]
theorem qq1 (Q:TypeId→List Nat) (b:B):dzB Q b=dzU Q b:=by
 cases b with
 | row e sz cs=>
  unfold dzB dzU
  simp only
  split
  ·rfl
  ·rename_i h
   rw[q6h _ _ (by simpa using h)]
 | _=>rfl
theorem qmr (Q:TypeId→List Nat) (b:B) (h:b.nilr=false):dzU Q b=b:=by
 cases b with
 | row e sz cs=>unfold dzU;simp only;rw[q6h _ _ h]
 | _=>rfl
theorem qni (tm:List (Nat×R)) (hp:List (Nat×B)) (nx n:Nat) (Q:TypeId→List Nat):S.dzr (S.mk tm hp nx n) Q=S.mk tm (hp.map fun x=>(x.1,dzU Q x.2)) nx n:=by
 unfold S.dzr
 split
 ·simp only[qq1]
 ·rename_i h
  congr 1
  have h2:∀x∈hp,x.2.nilr=false:=fun x hx=>by
   cases hb:x.2.nilr with
   | false=>rfl
   | true=>exact absurd (qvA.2 ⟨x,hx,hb⟩) h
  refine(List.map_id' hp).symm.trans (List.map_congr_left fun x hx=>?_)
  rw[qmr Q x.2 (h2 x hx)]
theorem qhO (Q:TypeId→List Nat) (e sz:Nat) (cs:List C):dzU Q (.row e sz cs) = .row e sz (dzc (Q e) [] cs):=rfl
theorem qio (Q:TypeId→List Nat) (t:Nat) (cs:List C):dzU Q (.blk t cs) = .blk t cs:=rfl
theorem qnc (Q:TypeId→List Nat) (o:AO):dzU Q (.ob o) = .ob o:=rfl
theorem qem (Q:TypeId→List Nat):dzU Q .dead = .dead:=rfl
theorem qj7 {α:Type} (x:α):Option.toArray (some x)=[x].toArray:=rfl
theorem qhn {α:Type}:Option.toArray (none:Option α)=([]:List α).toArray:=rfl
theorem qk9 {α:Type} (l m:List α):l.toArray++m.toArray=(l++m).toArray:=by simp
theorem qiz {α:Type} (l:List α):Array.toList l.toArray=l:=rfl
end
noncomputable section
open Go.RowKit
set_option maxRecDepth 20000
def mpE {κ ν:Type} (kE:κ→Value) (vE:ν→R):List (κ×ν)→Nat→List (Value×R×Nat)
 | [],_=>[]
 | p::M,i=>(kE p.1,vE p.2,i)::mpE kE vE M (i+1)
def mpB {κ ν:Type} (kE:κ→Value) (vE:ν→R) (M:List (κ×ν)):AO := .mp (mpE kE vE M 0) M.length
def Jd (k:IntKind) (n:Int):Value := .int k n
section
variable {κ ν:Type} [DecidableEq κ]
def q9T (M:List (κ×ν)) (k:κ):Nat:=match M with
 | []=>0
 | p::M=>if k=p.1 then 0 else q9T M k+1
def QV (z:ν) (M:List (κ×ν)) (k:κ):ν:=match M with
 | []=>z
 | p::M=>if k=p.1 then p.2 else QV z M k
def q9U (M:List (κ×ν)) (k:κ):Bool:=match M with
 | []=>false
 | p::M=>if k=p.1 then true else q9U M k
def q2k (M:List (κ×ν)) (k:κ) (v:ν):List (κ×ν):=match M with
 | []=>[(k,v)]
 | p::M=>if k=p.1 then(k,v)::M else p::q2k M k v
end
section
variable {κ ν:Type} {kE:κ→Value} {vE:ν→R}
theorem qaF:∀(M:List (κ×ν)) (i:Nat),(mpE kE vE M i).length=M.length
 | [],_=>rfl
 | p::M,i=>by rw[mpE,quR,qaF M,quR]
theorem q7m {f:Value×R×Nat→Bool} (hf:∀k r i,f (kE k,r,i)=true):∀(M:List (κ×ν)) (i:Nat),(mpE kE vE M i).all f=true
 | [],_=>rfl
 | p::M,i=>by rw[mpE,List.all_cons,hf,q7m hf M];rfl
theorem q1f {f:R→R} (hf:∀v,f (vE v)=vE v) (M:List (κ×ν)):AO.mapR f (mpB kE vE M)=mpB kE vE M:=by
 have:∀(M:List (κ×ν)) (i:Nat),(mpE kE vE M i).map (fun e=>(e.1,f e.2.1,e.2.2))=mpE kE vE M i:=by
  intro M
  induction M with
  | nil=>intro i;rfl
  | cons p M ih=>intro i;rw[mpE,qv3,ih,hf]
 unfold mpB
 show AO.mp _ _=_
 rw[this]
theorem qd6 {f:R→Bool} (hf:∀v,f (vE v)=true) (M:List (κ×ν)):(mpB kE vE M).Rs.all f=true:=by
 have:∀(M:List (κ×ν)) (i:Nat),((mpE kE vE M i).map (·.2.1)).all f=true:=by
  intro M
  induction M with
  | nil=>intro i;rfl
  | cons p M ih=>intro i;rw[mpE,qv3,List.all_cons,ih,hf];rfl
 exact this M 0
theorem qeX {f:R→List Nat} (hf:∀v,f (vE v)=[]) (M:List (κ×ν)):(mpB kE vE M).Rs.flatMap f=[]:=by
 have:∀(M:List (κ×ν)) (i:Nat),((mpE kE vE M i).map (·.2.1)).flatMap f=[]:=by
  intro M
  induction M with
  | nil=>intro i;rfl
  | cons p M ih=>intro i;rw[mpE,qv3,qvJ,ih,hf];rfl
 exact this M 0
variable [DecidableEq κ] (hk:∀a b,kq (kE a) (kE b)=decide (a=b))
include hk
theorem qam (k:κ):∀(M:List (κ×ν)) (i:Nat) (z:ν),fnd (kE k) (mpE kE vE M i) i=if q9U M k=true then some (i+q9T M k,vE (QV z M k),i+q9T M k) else none
 | [],i,z=>rfl
 | p::M,i,z=>by
  rw[mpE,fnd]
  simp only[hk,q9U,q9T,QV,qvF]
  by_cases h:k=p.1
  ·simp[h]
  ·simp only[if_neg h]
   rw[qam k M (i+1) z]
   split
   ·rw[show i+1+q9T M k=i+(q9T M k+1) by omega]
   ·rfl
theorem qpK (z:ν) (ok:Bool) (k:κ) (M:List (κ×ν)):lkq ok (vE z) (fnd (kE k) (mpE kE vE M 0) 0)=some (tt2 (vE (QV z M k)) ok (q9U M k)):=by
 rw[qam hk k M 0 z]
 cases hm:q9U M k
 ·have:QV z M k=z:=by
   clear hk
   induction M with
   | nil=>rfl
   | cons p M ih=>
    rw[q9U] at hm
    rw[QV]
    split
    ·rename_i h;rw[if_pos h] at hm;cases hm
    ·rename_i h;rw[if_neg h] at hm;exact ih hm
  rw[this];rfl
 ·rfl
end
section
variable {κ ν:Type} {kE:κ→Value} {vE:ν→R} [DecidableEq κ]
theorem q8r (k:κ) (v:ν):∀(M:List (κ×ν)) (i:Nat),q9U M k=true→(mpE kE vE M i).set (q9T M k) (kE k,vE v,i+q9T M k)=mpE kE vE (q2k M k v) i∧(q2k M k v).length=M.length
 | [],_,h=>by cases h
 | p::M,i,h=>by
  rw[q9U] at h
  by_cases hp:k=p.1
  ·simp only[mpE,q9T,q2k,if_pos hp]
   exact⟨rfl,rfl⟩
  ·rw[if_neg hp] at h
   obtain⟨a,b⟩:=q8r k v M (i+1) h
   simp only[mpE,q9T,q2k,if_neg hp,quR,List.set_cons_succ]
   rw[show i+(q9T M k+1)=i+1+q9T M k by omega,a,b]
   exact⟨rfl,rfl⟩
theorem q8t (k:κ) (v:ν):∀(M:List (κ×ν)) (i:Nat),q9U M k=false→mpE kE vE M i++[(kE k,vE v,i+M.length)]=mpE kE vE (q2k M k v) i∧(q2k M k v).length=M.length+1
 | [],i,_=>⟨rfl,rfl⟩
 | p::M,i,h=>by
  rw[q9U] at h
  by_cases hp:k=p.1
  ·rw[if_pos hp] at h;cases h
  ·rw[if_neg hp] at h
   obtain⟨a,b⟩:=q8t k v M (i+1) h
   simp only[mpE,q2k,if_neg hp,quR,qvK]
   rw[show i+(M.length+1)=i+1+M.length by omega,a,b]
   exact⟨rfl,rfl⟩
end
def mpq:B→Option (List (Value×R×Nat))
 | .ob (.mp es _)=>some es
 | _=>none
def mpo (s:S):R→Option (List (Value×R×Nat))
 | .c .nilm=>some []
 | .c (.hd .map id)=>mpq (s.blk id)
 | _=>none
theorem qf8 (s:S) (x:Operand):q1t s x=mpo s (s.ev x):=by
 unfold q1t mpo mpq
 generalize s.ev x=r
 cases r with
 | c c=>
  cases c with
  | hd k id=>cases k<;>rfl
  | _=>rfl
 | _=>rfl
theorem qpe {κ ν:Type} (kE:κ→Value) (vE:ν→R) (M:List (κ×ν)):mpq (.ob (mpB kE vE M))=some (mpE kE vE M 0):=rfl
def mup (kt:Kd) (kv:Value) (r:R):B→Option B
 | .ob (.mp es ck)=>if plK kt kv=true∧es.all (fun q=>plK kt q.1)=true then
   (match fnd kv es 0 with
    | some q=>some (.ob (.mp (es.set q.1 (kv,r,q.2.2)) ck))
    | none=>some (.ob (.mp (es++[(kv,r,ck)]) (ck+1)))) else none
 | _=>none
def xmu (T:Ty) (s:S) (t:TypeId) (m:R) (kv:Option Value) (r:R):Option (R×S):=
 match T.k t,m,kv with
 | .mp kt _,.c (.hd .map id),some kv=>(mup (T.k kt) kv r (s.blk id)).bind fun b=>some (.any,s.up [(id,b)])
 | _,_,_=>none
theorem qkr (T:Ty) (s:S) (t:TypeId) (m:R) (kv:Option Value) (r:R):xmu T s t m kv r =
 match T.k t,m,kv with
 | .mp kt _,.c (.hd .map id),some kv=>(mup (T.k kt) kv r (s.blk id)).bind fun b=>some (.any,s.up [(id,b)])
 | _,_,_=>none:=rfl
theorem q9I (T:Ty) (s:S) (t:TypeId) (m k x:Operand):q0r T s t m k x=xmu T s t (s.ev m) (s.ev k).key (s.ev x):=by
 unfold q0r xmu mup
 generalize T.k t=kd
 generalize s.ev m=r
 generalize (s.ev k).key=kv
 cases kd with
 | mp kt e=>
  cases r with
  | c c=>
   cases c with
   | hd h id=>
    cases h with
    | map=>
     cases kv with
     | none=>rfl
     | some kv=>
      simp only
      generalize s.blk id=b
      cases b with
      | ob o=>
       cases o with
       | mp es ck=>
        simp only
        split
        ·cases fnd kv es 0<;>rfl
        ·rfl
       | _=>rfl
      | _=>rfl
    | _=>rfl
   | _=>rfl
  | _=>rfl
 | _=>rfl
section
variable {κ ν:Type} {kE:κ→Value} {vE:ν→R} [DecidableEq κ] (hk:∀a b,kq (kE a) (kE b)=decide (a=b)) {kt:Kd} (hp:∀a,plK kt (kE a)=true)
include hk hp
theorem qpn (k:κ) (v:ν) (M:List (κ×ν)):mup kt (kE k) (vE v) (.ob (mpB kE vE M))=some (.ob (mpB kE vE (q2k M k v))):=by
 unfold mpB mup
 simp only
 rw[if_pos ⟨hp k,q7m (fun k r i=>hp k) M 0⟩,qam hk k M 0 v]
 cases hm:q9U M k
 ·obtain⟨a,b⟩:=q8t (kE:=kE) (vE:=vE) k v M 0 hm
  simp only[Bool.false_eq_true,if_false]
  rw[qv4] at a
  rw[a,b]
 ·obtain⟨a,b⟩:=q8r (kE:=kE) (vE:=vE) k v M 0 hm
  simp only[if_true]
  rw[qv4] at a ⊢
  rw[a,b]
end
theorem qgT {κ ν:Type} {kE:κ→Value} {vE:ν→R} {s:S} {sel:List Nat} (h:∀v,q9S s sel (vE v)=vE v) (M:List (κ×ν)):cvA s sel (mpB kE vE M)=some (mpB kE vE M):=by
 have:∀(M:List (κ×ν)) (i:Nat),(mpE kE vE M i).map (fun e=>(e.1,q9S s sel e.2.1,e.2.2))=mpE kE vE M i:=by
  intro M
  induction M with
  | nil=>intro i;rfl
  | cons p M ih=>intro i;rw[mpE,qv3,ih,h]
 show some (AO.mp ((mpE kE vE M 0).map fun e=>(e.1,q9S s sel e.2.1,e.2.2)) M.length)=_
 rw[this];rfl
theorem qfN (k:IntKind) (a b:Int):kq (Jd k a) (Jd k b)=decide (a=b):=rfl
theorem qcH {κ ν:Type} {kE:κ→Value} {vE:ν→R} (hk:∀a b,kE a=kE b→a=b) (hv:∀a b,vE a=vE b→a=b):∀(M M':List (κ×ν)) (i:Nat),mpE kE vE M i=mpE kE vE M' i→M=M'
 | [],[],_,_=>rfl
 | [],_::_,_,h=>by cases h
 | _::_,[],_,h=>by cases h
 | (a,v)::M,(b,w)::M',i,h=>by
  unfold mpE at h
  simp only[List.cons.injEq,Prod.mk.injEq] at h
  obtain⟨⟨h1,h2,_⟩,h3⟩:=h
  rw[hk _ _ h1,hv _ _ h2,qcH hk hv M M' _ h3]
theorem qhz {κ ν:Type} {kE:κ→Value} {vE:ν→R} (hk:∀a b,kE a=kE b→a=b) (hv:∀a b,vE a=vE b→a=b) (M M':List (κ×ν)):(B.ob (mpB kE vE M)=B.ob (mpB kE vE M'))=(M=M'):=
 propext ⟨fun h=>by
  injection h with h
  unfold mpB at h
  injection h with h
  exact qcH hk hv M M' 0 h,fun h=>by rw[h]⟩
section
variable {κ ν:Type}
end
end
noncomputable section
open Go.RowKit Go.Maps Go.Sort Go.Shelf
section
variable {P:Program} {ρ:Ren}
end
end
noncomputable section
open Go.RowKit
theorem q53:∀l:List Int,q3G ((l.flatMap eI).map C.d)=some l
 | []=>rfl
 | x::l=>by
  rw[qvJ,List.map_append]
  show(q3G ((l.flatMap eI).map C.d)).map (x :: ·)=_
  rw[q53 l];rfl
theorem q27:∀l:List Int,(l.map fun z=>C.d (.int .i64 z))=(l.flatMap eI).map C.d
 | []=>rfl
 | x::l=>by
  rw[qvJ,List.map_append,qv3,q27 l];rfl
theorem qlp (e:TypeId) (n:Nat) (l:List Int):qkZ e 0 [.c (.own 0 1 0 n)] [(0,.row e 1 ((l.flatMap eI).map C.d))]=if n=l.length then some (.c (.own 0 1 0 (cpI l).length),[(0,.row e 1 (((cpI l).flatMap eI).map C.d))]) else none:=by
 show(if e=e then cpX 0 n e _ else none)=_
 rw[if_pos rfl]
 unfold cpX
 rw[q53,quG,q27]
theorem q4x {α β:Type} {E:α→List β} {z:Nat} (hE:∀x,(E x).length=z):∀(l:List α) (i:Nat),i<l.length→(l.flatMap E).take (i*z)++(l.flatMap E).drop ((i+1)*z)=(l.eraseIdx i).flatMap E
 | [],_,h=>by simp at h
 | x::l,0,_=>by
  rw[qvJ,Nat.zero_mul,List.take_zero,qv0,qv4,Nat.one_mul,←hE x,List.drop_left];rfl
 | x::l,i+1,h=>by
  rw[qvJ,List.eraseIdx_cons_succ,qvJ,←q4x hE l i (by simpa using h)]
  have e1:(i+1)*z=(E x).length+i*z:=by rw[hE,Nat.add_mul];omega
  have e2:(i+1+1)*z=(E x).length+(i+1)*z:=by rw[hE,Nat.add_mul (i+1)];omega
  rw[e2,List.drop_append,e1,List.take_append]
  simp[Nat.add_sub_cancel_left,qvL,List.drop_of_length_le]
theorem qgC {α:Type} {E:α→List D} {e z:Nat} (hE:∀x,(E x).length=z) {n:Nat} (l:List α) (i j:Int) (hn:n=l.length):q9f e z 0 [.c (.own 0 z 0 n),.c (.d (.int .i64 i)),.c (.d (.int .i64 j))] [(0,.row e z ((l.flatMap E).map C.d))] =
  if 0≤i∧j=i+1∧i<l.length then some (.c (.own 0 z 0 (l.eraseIdx i.toNat).length),[(0,.row e z (((l.eraseIdx i.toNat).flatMap E).map C.d))]) else none:=by
 subst hn
 show qo5 e z z z e l.length i j _=_
 unfold qo5
 have h1:((l.flatMap E).map C.d).length=l.length*z:=by
  rw[qvo]
  induction l with
  | nil=>simp
  | cons x l ih=>rw[qvJ,quN,ih,hE,quR,Nat.add_mul];omega
 have h2:((l.flatMap E).map C.d).all C.known=true:=by rw[List.all_map];exact quX.2 fun x _=>rfl
 have h3:((l.flatMap E).map C.d).all (C.far 0)=true:=by rw[List.all_map];exact quX.2 fun x _=>rfl
 by_cases hc:0≤i∧j=i+1∧i<(l.length:Int)
 ·rw[if_pos ⟨rfl,rfl,rfl,h1,h2,h3,hc⟩,if_pos hc]
  have hi:i.toNat<l.length:=by omega
  rw[←List.map_take,←List.map_drop,←List.map_append,q4x hE l _ hi,List.length_eraseIdx,if_pos hi]
 ·rw[if_neg (fun h=>hc h.2.2.2.2.2.2),if_neg hc]
end
noncomputable section
open Go.RowKit
def C.pl:C→Bool
 | .d _=>true
 | .ow _ _ _ _=>true
 | _=>false
section
variable {α:Type} {E:α→List C} {n:Nat}
theorem qf1 (h:∀x,(E x).all C.pl=true) (v:List α) {c:C} (hc:c∈v.flatMap E):c.pl=true:=by
 obtain⟨x,-,hx⟩:=List.mem_flatMap.1 hc
 exact quX.1 (h x) c hx
theorem qbI (h:∀x,(E x).all C.pl=true) {f:C→C} (hf:∀c,c.pl=true→f c=c) (v:List α):(v.flatMap E).map f=v.flatMap E:=
 (List.map_congr_left fun c hc=>hf c (qf1 h v hc)).trans (List.map_id _)
theorem qfR (h:∀x,(E x).all C.pl=true) {p:C→Bool} (hf:∀c,c.pl=true→p c=true) (v:List α):(v.flatMap E).all p=true:=
 quX.2 fun c hc=>hf c (qf1 h v hc)
theorem qm1 (h:∀x,(E x).all C.pl=true) {p:C→Bool} (hf:∀c,c.pl=true→p c=false) (v:List α):(v.flatMap E).any p=false:=
 List.any_eq_false.2 fun c hc=>by rw[hf c (qf1 h v hc)];decide
theorem qlV (h:∀x,(E x).all C.pl=true) {f:C→List Nat} (hf:∀c,c.pl=true→f c=[]) (v:List α):(v.flatMap E).flatMap f=[]:=
 List.flatMap_eq_nil_iff.2 fun c hc=>hf c (qf1 h v hc)
theorem qfO (h:∀x,(E x).length=n):∀l:List α,(l.flatMap E).length=l.length*n
 | []=>by simp
 | x::l=>by rw[qvJ,quN,h,qfO h l,quR,Nat.add_mul];omega
theorem qg2 (h:∀x,(E x).length=n) {o:Nat} (ho:o<n):∀(v:List α) (i:Nat),(v.flatMap E)[i*n+o]?=(v[i]?).bind fun x=>(E x)[o]?
 | [],i=>by simp
 | x::v,0=>by
  rw[qvJ,Nat.zero_mul,qv4,qvj (by rw[h];exact ho)];rfl
 | x::v,i+1=>by
  rw[qvJ,show(i+1)*n+o=(E x).length+(i*n+o) by rw[h,Nat.add_mul];omega,qvi (by omega),show(E x).length+(i*n+o)-(E x).length=i*n+o by omega,qg2 h ho v i]
  rfl
theorem qgk (h:∀x,(E x).length=1) {x:α} {d:C} (hx:E x=[d]):∀(v:List α) (i:Nat),(v.flatMap E).set i d=(v.set i x).flatMap E
 | [],i=>by simp
 | y::v,0=>by
  have hy:=h y
  rw[qvJ,List.set_append_left _ _ (by rw[hy];decide),List.set_cons_zero,qvJ,hx]
  match hE:E y,hy with
  | [c],_=>rfl
 | y::v,i+1=>by
  rw[qvJ,show i+1=(E y).length+i by rw[h];omega,List.set_append_right _ _ (by omega),show(E y).length+i-(E y).length=i by omega,qgk h hx v i,h,Nat.add_comm,List.set_cons_succ,qvJ]
theorem qki (v:List α) (x:α):v.flatMap E++E x=(v++[x]).flatMap E:=by simp
theorem qm2 {F:α→List D} (h:∀x,(E x).map C.uw=(F x).map C.d):∀v:List α,(v.flatMap E).map C.uw=(v.flatMap F).map C.d
 | []=>rfl
 | x::v=>by rw[qvJ,qvJ,List.map_append,List.map_append,h,qm2 h v]
theorem qqb {T:Ty} {t:TypeId} {cs:List C} {off:Nat} (hk:∀fs,T.k t ≠ .st fs) (ha:∀n e,T.k t ≠ .arr n e) (ho:T.k t ≠ .other):ld T cs off t=(cs[off]?).map .c:=by
 unfold ld
 split
 ·rename_i h;exact absurd h (hk _)
 ·rename_i h;exact absurd h (ha _ _)
 ·rename_i h;exact absurd h ho
 ·rfl
theorem qcU (zs0:List (Option (Nat×Nat))):∀(zs:List (Option (Nat×Nat))) (xs ys:List C),xs.all C.pl=true→zs.length=xs.length→q43 zs0 zs (xs++ys)=xs++q43 zs0 [] ys
 | [],[],ys,_,_=>rfl
 | [],d::ds,ys,_,h=>by cases h
 | z::zs,[],ys,_,h=>by cases h
 | z::zs,d::ds,ys,hp,h=>by
  rw[List.all_cons,qvc] at hp
  rw[qvK,q43,qcU zs0 zs ds ys hp.2 (by simpa using h)]
  have:qfo z d=d:=by
   rcases q4T z d with e|⟨e,-⟩
   ·exact e
   ·rw[e] at hp;cases hp.1
  rw[this];rfl
theorem qgr (hp:∀x,(E x).all C.pl=true) (h:∀x,(E x).length=n+1) (zs0:List (Option (Nat×Nat))) (h0:zs0.length=n+1):∀(v:List α) (ys:List C),q43 zs0 [] (v.flatMap E++ys)=v.flatMap E++q43 zs0 [] ys
 | [],ys=>rfl
 | x::v,ys=>by
  have hx:=h x
  have hpx:=hp x
  rw[qvJ,qvl,qvl,←qgr hp h zs0 h0 v ys]
  cases hE:E x with
  | nil=>rw[hE] at hx;cases hx
  | cons d ds=>
   rw[hE] at hx hpx
   rw[List.all_cons,qvc] at hpx
   rw[qvK,q43,qcU zs0 zs0.tail ds _ hpx.2 (by rw[List.length_tail];simp at hx;omega)]
   have:qfo (zs0.headD none) d=d:=by
    rcases q4T (zs0.headD none) d with e|⟨e,-⟩
    ·exact e
    ·rw[e] at hpx;cases hpx.1
   rw[this];rfl
end
theorem qoK (k:Nat) (c:C) (h:c.pl=true):c.fg k=c:=by cases c<;>first|rfl|cases h
theorem qpY (ids:List Nat) (c:C) (h:c.pl=true):cn ids c=c:=by cases c<;>first|rfl|cases h
theorem qoP (c:C) (h:c.pl=true):c.kw=c:=by cases c<;>first|rfl|cases h
theorem qlm (k:Nat) (c:C) (h:c.pl=true):c.far k=true:=by cases c<;>first|rfl|cases h
theorem qij (X:List Nat) (c:C) (h:c.pl=true):c.farF X=true:=by cases c<;>first|rfl|cases h
theorem qiF (c:C) (h:c.pl=true):c.isNils=false:=by cases c<;>first|rfl|cases h
theorem qjh (c:C) (h:c.pl=true):c.refs=[]:=by cases c<;>first|rfl|cases h
theorem qgS (c:C) (h:c.pl=true):c.rows=[]:=by cases c<;>first|rfl|cases h
theorem qe2 (f:C→C) (xs ys:List C):(xs++ys).map f=xs.map f++ys.map f:=List.map_append
def oL {α:Type} (e n:Nat) (F:α→List D) (v:List α):List C:=[.ow e n v.length (v.flatMap F)]
theorem qeN (f:C→C):∀(ys cs:List C) (o:Nat),(spr cs o ys).map f=spr (cs.map f) o (ys.map f):=fun ys cs o=>(q4N f ys cs o).symm
theorem qeF (a b:C) (cs:List C) (o:Nat):spr (spr cs o [a]) o [b]=spr cs o [b]:=by
 show(cs.set o a).set o b=cs.set o b
 rw[List.set_set]
theorem qdZ (cs:List C) (o:Nat) (c:C):((spr cs o [c])[o]?).map R.c=(cs[o]?).bind fun _=>some (R.c c):=by
 show((cs.set o c)[o]?).map R.c=_
 rcases Nat.lt_or_ge o cs.length with h|h
 ·rw[qvD h,quI h];rfl
 ·rw[qve (by rw[qvr];exact h),qve h];rfl
theorem q8S (ys cs:List C) (o:Nat):(spr cs o ys).length=cs.length:=JC ys cs o
theorem qlr (ds:List D):(ds.map C.d).map C.uw=ds.map C.d:=by rw[List.map_map];rfl
theorem qlN (ds:List D):(ds.map C.d).map C.kw=ds.map C.d:=by rw[List.map_map];rfl
end
noncomputable section
open Go.RowKit
def bx0:=JA_ @qib (JA_ @qnW.eq_1 (JA_ @qnW.eq_2 (JA_ @S.uwD.eq_1 (JA_ @S.tkD.eq_1 (JA_ @S.tkP.eq_1 (JA_ @S.tkP.eq_2 (JA_ @qnZ.eq_1 (JA_ @qnZ.eq_2 (JA_ @tkL.eq_1 (JA_ @tkL.eq_2 (JA_ @S.frk.eq_1 (JA_ @qjT.eq_1 (JA_ @qcq.eq_1 (JA_ @qf5 (JA_ @qe3 (JA_ @adL.eq_1 (JA_ @adS.eq_1 (JA_ @adI.eq_1 (JA_ @adI.eq_2 (@adP.eq_1))))))))))))))))))))
def bx1:=JA_ @qrh.eq_1 (JA_ @qoV.eq_1 (JA_ @uwR.eq_2 (JA_ @ldO.eq_1 (JA_ @ldT.eq_2 (JA_ @ldT.eq_11 (JA_ @ldP.eq_1 (JA_ @ldU.eq_1 (JA_ @stO.eq_1 (JA_ @qom.eq_1 (JA_ @qom.eq_2 (JA_ @qnY.eq_1 (JA_ @qg9.eq_1 (JA_ @S.fnB.eq_1 (JA_ @S.uwB.eq_1 (JA_ @Kd.isSl0.eq_1 (JA_ @tkS.eq_1 (JA_ @B.kw.eq_2 (@B.kw.eq_3))))))))))))))))))
def bx2:=JA_ @R.nw.eq_1 (JA_ @R.nw.eq_2 (JA_ @R.nw0.eq_1 (JA_ @R.nw0.eq_2 (JA_ @R.nw0.eq_4 (JA_ @C.nw.eq_3 (JA_ @S.uw.eq_1 (JA_ @B.uw.eq_1 (JA_ @B.uw.eq_2 (JA_ @B.uw.eq_4 (JA_ @C.uw.eq_2 (JA_ @S.dzo.eq_1 (JA_ @qcW.eq_1 (JA_ @qcW.eq_2 (JA_ @q43.eq_1 (JA_ @q43.eq_2 (JA_ @qfo.eq_1 (@S.abL.eq_1)))))))))))))))))
def bx3:=JA_ @abAt.eq_1 (JA_ @C.noow.eq_2 (JA_ @S.strip.eq_1 (JA_ @q0R.eq_1 (JA_ @q0R.eq_2 (JA_ @qjv.eq_1 (JA_ @qjv.eq_2 (JA_ @R.isA.eq_1 (JA_ @R.isA.eq_2 (JA_ @qsi.eq_1 (JA_ @qo0.eq_1 (JA_ @qci.eq_1 (JA_ @qbQ.eq_1 (JA_ @S.ly.eq_1 (JA_ @alC.eq_1 (JA_ @alC.eq_2 (JA_ @alX.eq_1 (JA_ @alX.eq_2 (JA_ @qrw.eq_1 (JA_ @qn2.eq_1 (JA_ @qo1.eq_1 (JA_ @ipX.eq_1 (@qol.eq_1))))))))))))))))))))))
def bx4:=JA_ @qol.eq_2 (JA_ @qp2.eq_1 (JA_ @qpW.eq_1 (JA_ @ipA.eq_1 (JA_ @ipS.eq_1 (JA_ @ipS.eq_2 (JA_ @ipF.eq_1 (JA_ @qnE.eq_1 (JA_ @qnE.eq_2 (JA_ @q6s.eq_1 (JA_ @qfd.eq_1 (JA_ @qfd.eq_2 (JA_ @zmk.eq_1 (JA_ @zmk.eq_2 (JA_ @S.fin.eq_1 (JA_ @S.fn1.eq_1 (JA_ @S.inr.eq_1 (JA_ @prx.eq_1 (JA_ @APr.of_run (JA_ @pr0.eq_1 (JA_ @List.isEmpty_nil.{0} (JA_ @List.isEmpty_cons.{0} (JA_ @wbC.eq_1 (JA_ @B.beq.eq_1 (JA_ @C.beqL.eq_1 (JA_ @C.beqL.eq_2 (@C.beq0.eq_1))))))))))))))))))))))))))
def bx5:=JA_ @D.beq.eq_1 (JA_ @D.beq.eq_4 (JA_ @qqT.eq_1 (JA_ @dzc.eq_2 (JA_ @dzc.eq_3 (JA_ @C.isNils.eq_1 (JA_ @C.isNils.eq_2 (JA_ @qf0 (JA_ @List.any_append.{0} (JA_ @q3N.eq_1 (JA_ @q2s.eq_1 (JA_ @q2s.eq_2 (JA_ @qfe.eq_1 (JA_ @fpA.eq_1 (JA_ @q9j.eq_1 (JA_ @S.kill.eq_1 (JA_ @qgQ.eq_1 (JA_ @qgQ.eq_2 (JA_ @qbm.eq_1 (JA_ @qjw.eq_1 (JA_ @okX.eq_1 (JA_ @okX.eq_2 (@okK.eq_1))))))))))))))))))))))
def bx6:=JA_ @okN.eq_1 (JA_ @okN.eq_2 (JA_ @q1Y.eq_1 (JA_ @qi6.eq_1 (JA_ @qi6.eq_2 (JA_ @qjr.eq_1 (JA_ @qjr.eq_2 (JA_ @q1w.eq_1 (JA_ @qad.eq_1 (JA_ @JN.eq_1 (JA_ @qbM.eq_1 (JA_ @q1D.eq_1 (JA_ @q01.eq_1 (JA_ @q4G.eq_1 (JA_ @q2v.eq_1 (JA_ @q2v.eq_2 (JA_ @cvT.eq_1 (JA_ @q7o.eq_1 (JA_ @q3a.eq_1 (JA_ @qkY.eq_1 (JA_ @qhc.eq_1 (JA_ @S.rf.eq_1 (JA_ @S.rfx.eq_1 (JA_ @qkd.eq_1 (JA_ @rdB.eq_1 (JA_ @qgp.eq_1 (JA_ @q3f.eq_1 (@qep)))))))))))))))))))))))))))
def bx7:=JA_ @qeZ (JA_ @qdW (JA_ @qeK (JA_ @q2h.eq_1 (JA_ @qc1.eq_1 (JA_ @D.key.eq_1 (JA_ @R.key.eq_1 (JA_ @plK.eq_1 (JA_ @zR.eq_1 (JA_ @tt2.eq_1 (JA_ @B.isOb.eq_2 (@AO.mapR.eq_2)))))))))))
def bx8:=JA_ @AO.Rs.eq_2 (JA_ @R.refs0.eq_1 (JA_ @R.refs0.eq_3 (JA_ @cvA.eq_2 (JA_ @q9S.eq_1 (JA_ @xgd.eq_1 (JA_ @xgF.eq_1 (JA_ @xo.eq_1 (JA_ @xo.eq_2 (JA_ @xo.eq_3 (JA_ @xo.eq_4 (JA_ @xo.eq_5 (JA_ @xo.eq_6 (JA_ @xo.eq_7 (JA_ @xo.eq_8 (JA_ @xo.eq_9 (JA_ @xo.eq_10 (JA_ @xo.eq_11 (JA_ @xo.eq_12 (JA_ @xo.eq_13 (JA_ @xo.eq_14 (JA_ @xo.eq_15 (JA_ @xo.eq_16 (JA_ @xo.eq_17 (JA_ @xo.eq_19 (JA_ @xo.eq_20 (JA_ @xo.eq_21 (JA_ @xo.eq_22 (JA_ @xo.eq_23 (@xo.eq_24)))))))))))))))))))))))))))))
def bx9:=JA_ @xo.eq_25 (JA_ @xCl.eq_1 (JA_ @pre.eq_1 (JA_ @pre.eq_2 (JA_ @pre.eq_3 (JA_ @q3d.eq_1 (JA_ @ZT.eq_1 (JA_ @q3o.eq_1 (JA_ @q8K.eq_1 (JA_ @q6I.eq_1 (JA_ @q0i.eq_1 (JA_ @JD.eq_2 (JA_ @JD.eq_3 (JA_ @qpj.eq_1 (JA_ @q9V.eq_1 (JA_ @q9V.eq_2 (JA_ @cvR.eq_1 (JA_ @cvR.eq_2 (JA_ @cvR.eq_3 (JA_ @cvL.eq_1 (JA_ @cvL.eq_2 (JA_ @qdr.eq_1 (JA_ @qdr.eq_2 (JA_ @cv.eq_1 (JA_ @cv.eq_2 (JA_ @cv0.eq_1 (@cv0.eq_5))))))))))))))))))))))))))
def qsB:=JA_ @cv0.eq_9 (JA_ @cv0.eq_10 (JA_ @cv0.eq_11 (JA_ @cvG.eq_1 (JA_ @cvG.eq_2 (JA_ @cvB.eq_1 (JA_ @cvB.eq_2 (JA_ @cvB.eq_3 (JA_ @vis.eq_1 (JA_ @q2y.eq_1 (JA_ @q2y.eq_2 (JA_ @q0d (JA_ @qjm.eq_1 (JA_ @pos.eq_1 (JA_ @pos.eq_2 (JA_ @qf3.eq_1 (JA_ @q4Q.eq_1 (JA_ @q7t.eq_1 (JA_ @qow.eq_1 (JA_ @JQ.eq_1 (JA_ @Jg.eq_1 (JA_ @q0E.eq_1 (JA_ @q2Q.eq_1 (JA_ @q04.eq_1 (JA_ @q8y.eq_1 (JA_ @q8y.eq_2 (JA_ @q8y.eq_3 (JA_ @q8y.eq_4 (@q8y.eq_5))))))))))))))))))))))))))))
def qtO:=JA_ @q8y.eq_10 (JA_ @q8y.eq_11 (JA_ @q8y.eq_12 (JA_ @q8y.eq_13 (JA_ @q8y.eq_14 (JA_ @q8y.eq_15 (JA_ @qnj.eq_3 (JA_ @qnj.eq_4 (JA_ @qod.eq_1 (JA_ @qo9.eq_1 (JA_ @qov.eq_1 (JA_ @qon.eq_1 (JA_ @qoh.eq_1 (JA_ @qo3.eq_1 (JA_ @qdx.eq_1 (JA_ @q8H.eq_1 (JA_ @q8F.eq_1 (JA_ @Z8.eq_1 (JA_ @q1g.eq_1 (@q7n.eq_1)))))))))))))))))))
def quh:=JA_ @q12.eq_1 (JA_ @Kd.isSl.eq_1 (JA_ @nrm.eq_1 (JA_ @qgt.eq_1 (JA_ @qoU.eq_1 (JA_ @rng.eq_1 (JA_ @rng.eq_2 (JA_ @rwAll.eq_1 (JA_ @rwAll.eq_2 (JA_ @rw1.eq_1 (JA_ @rw1.eq_2 (JA_ @cn.eq_1 (JA_ @cn.eq_2 (JA_ @cn0.eq_1 (JA_ @cn0.eq_2 (JA_ @cn0.eq_3 (JA_ @cn0.eq_5 (JA_ @cnR.eq_2 (JA_ @qcP.eq_1 (JA_ @qcP.eq_2 (JA_ @qcP.eq_3 (JA_ @cnB.eq_1 (JA_ @cnB.eq_2 (JA_ @cnB.eq_3 (JA_ @cnH.eq_1 (JA_ @cnH.eq_2 (JA_ @qlf (JA_ @qy.eq_1 (JA_ @qy.eq_2 (@qy.eq_3)))))))))))))))))))))))))))))
def qtq:=JA_ @qkW.eq_1 (JA_ @q8Z.eq_1 (JA_ @q4g.eq_1 (JA_ @q9P.eq_1 (JA_ @q48.eq_1 (JA_ @q7l.eq_1 (JA_ @q4d.eq_1 (JA_ @q4d.eq_2 (JA_ @S.frz.eq_1 (JA_ @S.frz.eq_2 (JA_ @S.frz1.eq_1 (JA_ @fz.eq_1 (JA_ @fz.eq_2 (JA_ @fz0.eq_1 (JA_ @fz0.eq_2 (JA_ @fz0.eq_3 (JA_ @fz0.eq_5 (JA_ @fzR.eq_1 (JA_ @fzR.eq_2 (JA_ @qdt.eq_1 (JA_ @qdt.eq_2 (JA_ @qdt.eq_3 (JA_ @fzB.eq_1 (JA_ @fzB.eq_2 (JA_ @fzB.eq_3 (JA_ @fzB.eq_4 (JA_ @qmq (JA_ @dz.eq_1 (JA_ @dz.eq_2 (JA_ @dzL.eq_1 (JA_ @dzL.eq_2 (JA_ @dzR.eq_1 (JA_ @dzR.eq_2 (JA_ @q9C.eq_1 (JA_ @q9C.eq_2 (@one.eq_1)))))))))))))))))))))))))))))))))))
def qtf:=JA_ @one.eq_2 (JA_ @rvs.eq_1 (JA_ @rvs.eq_2 (JA_ @qia.eq_1 (JA_ @qia.eq_2 (JA_ @tt.eq_1 (JA_ @ff.eq_1 (JA_ @q2J.eq_1 (JA_ @q2J.eq_2 (JA_ @C.ref0.eq_1 (JA_ @C.ref0.eq_2 (JA_ @C.ref0.eq_3 (JA_ @C.ref0.eq_4 (JA_ @C.refs.eq_1 (JA_ @C.refs.eq_2 (JA_ @B.refs.eq_1 (JA_ @B.refs.eq_2 (JA_ @B.refs.eq_3 (JA_ @B.refs.eq_4 (JA_ @R.refs.eq_1 (JA_ @R.refs.eq_2 (JA_ @R.refs.eq_4 (JA_ @C.rows0.eq_1 (JA_ @C.rows0.eq_2 (JA_ @C.rows.eq_1 (JA_ @C.rows.eq_2 (JA_ @R.rows.eq_1 (JA_ @R.rows.eq_2 (JA_ @R.rows.eq_3 (JA_ @C.ptrs0.eq_1 (JA_ @C.ptrs0.eq_2 (JA_ @C.ptrs0.eq_3 (JA_ @C.ptrs.eq_1 (JA_ @C.ptrs.eq_2 (JA_ @R.ptrs.eq_1 (JA_ @R.ptrs.eq_2 (JA_ @R.ptrs.eq_3 (JA_ @B.isBlk.eq_1 (@B.isBlk.eq_2))))))))))))))))))))))))))))))))))))))
def qtm:=JA_ @B.isBlk.eq_3 (JA_ @R.scl.eq_1 (JA_ @R.scl.eq_2 (JA_ @R.scl0.eq_1 (JA_ @R.scl0.eq_2 (JA_ @R.scl0.eq_3 (JA_ @C.scl.eq_1 (JA_ @C.scl.eq_2 (JA_ @C.scl0.eq_1 (JA_ @C.scl0.eq_3 (JA_ @C.scl0.eq_5 (JA_ @B.scl.eq_1 (JA_ @B.scl.eq_2 (JA_ @B.scl.eq_3 (JA_ @C.dat.eq_2 (JA_ @C.dat0.eq_1 (JA_ @C.dat0.eq_9 (JA_ @ren.eq_1 (JA_ @R.rn.eq_1 (JA_ @R.rn.eq_2 (JA_ @R.rn0.eq_1 (JA_ @R.rn0.eq_2 (JA_ @R.rn0.eq_3 (JA_ @C.rn.eq_1 (JA_ @C.rn.eq_2 (JA_ @C.rn0.eq_1 (JA_ @C.rn0.eq_2 (@C.rn0.eq_3)))))))))))))))))))))))))))
def qsU:=JA_ @C.rn0.eq_6 (JA_ @B.rn.eq_1 (JA_ @B.rn.eq_2 (JA_ @B.rn.eq_3 (JA_ @qlj (JA_ @S.aft.eq_1 (JA_ @S.fgL.eq_1 (JA_ @S.fgL.eq_2 (JA_ @C.fgL.eq_1 (JA_ @C.fgL.eq_2 (JA_ @C.fgL.eq_3 (JA_ @C.fgL.eq_5 (JA_ @R.fgL.eq_1 (JA_ @R.fgL.eq_2 (JA_ @R.fgL.eq_3 (JA_ @B.fgL.eq_1 (JA_ @B.fgL.eq_2 (JA_ @B.fgL.eq_3 (JA_ @B.fgL.eq_4 (JA_ @C.farL.eq_1 (JA_ @C.farL.eq_2 (JA_ @C.farL.eq_3 (JA_ @C.farL.eq_5 (JA_ @R.farL.eq_1 (JA_ @B.farL.eq_2 (JA_ @B.farL.eq_3 (JA_ @qnR.eq_3 (@qb1.eq_1)))))))))))))))))))))))))))
def qtt:=JA_ @qb1.eq_2 (JA_ @S.ev.eq_1 (JA_ @S.ev.eq_2 (JA_ @S.ev.eq_3 (JA_ @S.get.eq_1 (JA_ @S.blk.eq_1 (JA_ @S.put.eq_1 (JA_ @S.put.eq_2 (JA_ @S.up.eq_1 (JA_ @S.bd.eq_1 (JA_ @S.bd.eq_2 (JA_ @S.seq.eq_1 (JA_ @S.cell1.eq_1 (JA_ @lk.eq_1 (JA_ @lk.eq_2 (JA_ @QQ.eq_1 (JA_ @QQ.eq_2 (JA_ @QQ.eq_3 (JA_ @QQ.eq_5 (JA_ @QQ.eq_6 (JA_ @QQ.eq_7 (JA_ @JK.eq_1 (JA_ @JK.eq_2 (JA_ @qiv (JA_ @ldx.eq_1 (JA_ @bld.eq_1 (JA_ @bld.eq_2 (JA_ @spl.eq_1 (JA_ @spl.eq_2 (JA_ @Z9.eq_1 (JA_ @Ty.foff.eq_1 (JA_ @R.cells.eq_1 (JA_ @R.cells.eq_2 (@R.parts.eq_1)))))))))))))))))))))))))))))))))
def qu8:=JA_ @R.parts.eq_2 (JA_ @B.cells.eq_1 (JA_ @B.cells.eq_2 (JA_ @B.live.eq_1 (JA_ @B.live.eq_2 (JA_ @C.known.eq_3 (JA_ @C.far.eq_1 (JA_ @C.far.eq_5 (JA_ @S.fg.eq_1 (JA_ @R.fg.eq_1 (JA_ @R.fg.eq_2 (JA_ @R.fg.eq_3 (JA_ @R.fg.eq_4 (JA_ @B.fg.eq_1 (JA_ @B.fg.eq_2 (JA_ @B.fg.eq_3 (JA_ @B.fg.eq_4 (JA_ @C.fg.eq_1 (JA_ @C.fg.eq_2 (JA_ @C.fg.eq_3 (JA_ @C.fg.eq_4 (JA_ @C.fg.eq_5 (JA_ @D1.eq_1 (JA_ @Ju.eq_1 (JA_ @Ju.eq_2 (JA_ @Ju.eq_4 (JA_ @Ju.eq_6 (JA_ @Ju.eq_7 (JA_ @Ju.eq_8 (@Ju.eq_9)))))))))))))))))))))))))))))
def qtw:=JA_ @Ju.eq_10 (JA_ @Ju.eq_11 (JA_ @Ju.eq_12 (JA_ @Ju.eq_14 (JA_ @Ju.eq_15 (JA_ @Ju.eq_17 (JA_ @Ju.eq_21 (JA_ @Ju.eq_23 (JA_ @Ju.eq_24 (JA_ @q9d.eq_1 (JA_ @q9d.eq_2 (JA_ @q9d.eq_3 (JA_ @q9d.eq_5 (JA_ @q9d.eq_6 (JA_ @q3X.eq_3 (JA_ @q3X.eq_5 (JA_ @q3X.eq_6 (JA_ @qcI.eq_1 (JA_ @qcI.eq_3 (JA_ @qcI.eq_4 (JA_ @qcI.eq_5 (JA_ @fpC.eq_1 (JA_ @qnB.eq_1 (JA_ @qkl.eq_1 (JA_ @qoa.eq_1 (JA_ @C.lt0.eq_3 (@C.lt0.eq_4))))))))))))))))))))))))))
def qu6:=JA_ @C.ltn.eq_2 (JA_ @R.lt0.eq_1 (JA_ @R.lt0.eq_2 (JA_ @R.ltn.eq_2 (JA_ @B.ltn.eq_1 (JA_ @q0o.eq_1 (JA_ @Fp.none?.eq_1 (JA_ @okP.eq_1 (JA_ @okP.eq_2 (JA_ @qeo (JA_ @qdC (JA_ @qhj (JA_ @qe5 (JA_ @qeD (JA_ @qex (JA_ @qi3 (JA_ @qel (JA_ @qek (JA_ @qfa (JA_ @q9e (JA_ @qhX (JA_ @qe9 (JA_ @qeh (JA_ @qhv (JA_ @qdS (JA_ @qfc (JA_ @qeT (JA_ @qi7 (JA_ @qes (JA_ @qe6 (JA_ @qdv (@qhG)))))))))))))))))))))))))))))))
def qsJ:=JA_ @qfv (JA_ @qjd (JA_ @q9W (JA_ @qhu (JA_ @qf7 (JA_ @qeC (JA_ @qjy (JA_ @qgX (JA_ @C.farF.eq_2 (JA_ @Op.operands.eq_1 (JA_ @Op.operands.eq_4 (JA_ @Op.operands.eq_5 (JA_ @Op.operands.eq_7 (JA_ @Op.operands.eq_8 (JA_ @Op.operands.eq_9 (JA_ @Op.operands.eq_10 (JA_ @Op.operands.eq_14 (JA_ @Op.operands.eq_24 (@Op.operands.eq_25))))))))))))))))))
def qu0:=JA_ @Op.operands.eq_26 (JA_ @Op.operands.eq_27 (JA_ @Op.operands.eq_29 (JA_ @Op.operands.eq_31 (JA_ @Op.operands.eq_36 (JA_ @Op.operands.eq_40 (JA_ @qmH (JA_ @qka (JA_ @Option.isNone_none.{0} (JA_ @qkO.eq_1 (JA_ @qkO.eq_2 (JA_ @Option.toList_some.{0} (JA_ @Option.toList_none.{0} (JA_ @List.all_append.{0} (JA_ @List.getElem?_nil.{0} (JA_ @List.drop_zero.{0} (JA_ @wi (JA_ @Int.cast_ofNat_Int (JA_ @Int.le_refl (JA_ @quW (JA_ @Option.bind_assoc.{0,0,0} (JA_ @List.any_nil.{0} (JA_ @List.any_cons.{0} (JA_ @List.getD_cons_zero.{0} (JA_ @List.getD_cons_succ.{0} (JA_ @true_and (@and_true))))))))))))))))))))))))))
def qsF:=JA_ @and_false (JA_ @qvv.{0} (JA_ @Prod.mk.injEq.{0,0} (JA_ @quG.{0,0} (JA_ @Option.bind_none.{0,0} (JA_ @Option.map_some.{0,0} (JA_ @Option.map_none.{0,0} (JA_ @Option.getD_some.{0} (JA_ @Option.getD_none.{0} (JA_ @ne_eq.{1} (JA_ @not_false_eq_true (JA_ @or_true (JA_ @or_false (JA_ @Bool.false_eq_true (JA_ @qv3.{0,0} (JA_ @List.map_nil.{0,0} (JA_ @List.all_cons.{0} (JA_ @List.all_nil.{0} (JA_ @qvH (JA_ @qvd (JA_ @Bool.and_false (JA_ @Bool.false_and (JA_ @qvc (JA_ @Bool.or_true (JA_ @Bool.true_or (JA_ @Bool.or_false (JA_ @Bool.false_or (JA_ @quR.{0} (JA_ @qvp.{0} (JA_ @qvo.{0,0} (JA_ @quQ.{0} (JA_ @qv5.{0} (JA_ @qvI.{0,0} (JA_ @List.foldl_nil.{0,0} (JA_ @qvK.{0} (@qv0.{0})))))))))))))))))))))))))))))))))))
def qty:=JA_ @qv1.{0} (JA_ @Nat.max_def (JA_ @decide_true (JA_ @decide_false (JA_ @decide_not (JA_ @qvF (JA_ @qv6 (JA_ @Nat.zero_mul (JA_ @Nat.mul_one (JA_ @Nat.one_mul (JA_ @Nat.add_zero (JA_ @qv4 (JA_ @quJ (JA_ @List.mapM_cons.{0,0,0} (JA_ @List.mapM_nil.{0,0,0} (JA_ @List.drop_succ_cons.{0} (JA_ @List.drop_nil.{0} (JA_ @List.take_succ_cons.{0} (JA_ @List.take_zero.{0} (JA_ @List.replicate_succ.{0} (JA_ @List.replicate_zero.{0} (JA_ @List.set_cons_zero.{0} (JA_ @List.set_cons_succ.{0} (JA_ @and_self (JA_ @Bool.not_true (JA_ @Bool.not_false (JA_ @List.contains_cons.{0} (JA_ @List.contains_nil.{0} (JA_ @qvJ.{0,0} (JA_ @List.flatMap_nil.{0,0} (JA_ @List.filter_cons.{0} (JA_ @List.filter_nil.{0} (JA_ @List.eraseDups_cons.{0} (JA_ @List.eraseDups_nil.{0} (JA_ @List.nodup_cons.{0} (JA_ @List.nodup_nil.{0} (JA_ @qv2.{0} (JA_ @List.not_mem_nil.{0} (JA_ @List.headD_cons.{0} (@List.headD_nil.{0})))))))))))))))))))))))))))))))))))))))
def qti:=JA_ @List.tail_cons.{0} (JA_ @List.tail_nil.{0} (JA_ @beq_self_eq_true.{0} (JA_ @QX (JA_ @List.range_succ (JA_ @List.range_zero (JA_ @ite_self.{1} (JA_ @qe2 (JA_ @qeN (JA_ @qeF (JA_ @q8S (JA_ @qlr (JA_ @qlN (JA_ @frA.eq_1 (JA_ @R.dat.eq_1 (JA_ @R.dat.eq_2 (JA_ @qj7 (JA_ @qhn (JA_ @qk9 (JA_ @qiz (JA_ @qni (JA_ @qhO (JA_ @qio (@qnc)))))))))))))))))))))))
def qut:=JA_ @qem (JA_ @q6h (JA_ @qf8 (JA_ @mpo.eq_2 (JA_ @qpe (JA_ @q9I (JA_ @qkr (JA_ @qaF (JA_ @qir (JA_ @qnz (JA_ @qit (JA_ @qjB (JA_ @qeA (JA_ @qiV (JA_ @qa8 (JA_ @qhR (JA_ @qeH (JA_ @qhL (@qdG))))))))))))))))))
def qsI:=JA_ @ZC.eq_1 (JA_ @ZC.eq_2 (JA_ @qgL.eq_2 (JA_ @hdG.eq_1 (@qos.eq_2))))
def qud:=JA_ @q9D (JA_ @qiK (JA_ @qfk (JA_ @qfg (JA_ @qhA (JA_ @qev (JA_ @qil (JA_ @qec (JA_ @q9h (JA_ @qgA (JA_ @qey (JA_ @qfi (JA_ @qic (JA_ @qfD (JA_ @qiC (JA_ @qf4 (JA_ @qh1 (JA_ @qiH (JA_ @qeU (JA_ @qhh (JA_ @quy (JA_ @qtM (JA_ @qr3 (@qps)))))))))))))))))))))))
def qsP:=JA_ @qqL (JA_ @qmo (JA_ @qnn (JA_ @qmD (JA_ @qqp (JA_ @qk5 (JA_ @qqm (JA_ @qlQ (JA_ @qmp (JA_ @qiP (JA_ @qjf (JA_ @qlS (JA_ @qha (JA_ @qn1 (JA_ @qh5 (JA_ @qtY (JA_ @q9y (JA_ @qfs (JA_ @qnq (JA_ @qgD (JA_ @qgI (JA_ @Sum.elim_inl.{0,1,0} (JA_ @Sum.elim_inr.{0,1,0} (JA_ @q4N (JA_ @qaK (JA_ @qcQ (JA_ @qfx (JA_ @qoi.eq_1 (@qnt))))))))))))))))))))))))))))
def qsM:=JA_ @qby (JA_ @qeb (JA_ @qk6 (JA_ @qh3 (JA_ @qgO (JA_ @qiY (JA_ @qie (JA_ @qh4 (JA_ @qje (JA_ @q6q (JA_ @q6k (JA_ @qmv (JA_ @qpV.eq_1 (JA_ @quN.{0} (JA_ @qvr.{0} (JA_ @qvn.{0} (JA_ @q9t (JA_ @qaY (JA_ @List.take_nil.{0} (@qbR)))))))))))))))))))
def qtv:=JA_ @JC (JA_ @q53 (JA_ @q27 (@qlp)))
theorem qsO (a0 a1 a2:Int) (i:Nat):([C.d (D.int .i64 a0),C.d (D.int .i64 a1),C.d (D.int .i64 a2)]:List C)[i]?=([a0,a1,a2][i]?).bind fun x=>some (C.d (D.int .i64 x)):=by rw[show([C.d (D.int .i64 a0),C.d (D.int .i64 a1),C.d (D.int .i64 a2)]:List C)=[a0,a1,a2].map (fun x=>C.d (D.int .i64 x)) from rfl,quU];cases([a0,a1,a2]:List Int)[i]? <;> rfl
theorem qsR (a0 a1 a2 a3:Int) (i:Nat):([C.d (D.int .i64 a0),C.d (D.int .i64 a1),C.d (D.int .i64 a2),C.d (D.int .i64 a3)]:List C)[i]?=([a0,a1,a2,a3][i]?).bind fun x=>some (C.d (D.int .i64 x)):=by rw[show([C.d (D.int .i64 a0),C.d (D.int .i64 a1),C.d (D.int .i64 a2),C.d (D.int .i64 a3)]:List C)=[a0,a1,a2,a3].map (fun x=>C.d (D.int .i64 x)) from rfl,quU];cases([a0,a1,a2,a3]:List Int)[i]? <;> rfl
theorem quA (a0 a1 a2 a3 a4:Int) (i:Nat):([C.d (D.int .i64 a0),C.d (D.int .i64 a1),C.d (D.int .i64 a2),C.d (D.int .i64 a3),C.d (D.int .i64 a4)]:List C)[i]?=([a0,a1,a2,a3,a4][i]?).bind fun x=>some (C.d (D.int .i64 x)):=by rw[show([C.d (D.int .i64 a0),C.d (D.int .i64 a1),C.d (D.int .i64 a2),C.d (D.int .i64 a3),C.d (D.int .i64 a4)]:List C)=[a0,a1,a2,a3,a4].map (fun x=>C.d (D.int .i64 x)) from rfl,quU];cases([a0,a1,a2,a3,a4]:List Int)[i]? <;> rfl
theorem qsG (a0 a1 a2 a3 a4 a5:Int) (i:Nat):([C.d (D.int .i64 a0),C.d (D.int .i64 a1),C.d (D.int .i64 a2),C.d (D.int .i64 a3),C.d (D.int .i64 a4),C.d (D.int .i64 a5)]:List C)[i]?=([a0,a1,a2,a3,a4,a5][i]?).bind fun x=>some (C.d (D.int .i64 x)):=by rw[show([C.d (D.int .i64 a0),C.d (D.int .i64 a1),C.d (D.int .i64 a2),C.d (D.int .i64 a3),C.d (D.int .i64 a4),C.d (D.int .i64 a5)]:List C)=[a0,a1,a2,a3,a4,a5].map (fun x=>C.d (D.int .i64 x)) from rfl,quU];cases([a0,a1,a2,a3,a4,a5]:List Int)[i]? <;> rfl
theorem qtP (a0 a1 a2:ByteArray) (i:Nat):([C.d (D.str a0),C.d (D.str a1),C.d (D.str a2)]:List C)[i]?=([a0,a1,a2][i]?).bind fun x=>some (C.d (D.str x)):=by rw[show([C.d (D.str a0),C.d (D.str a1),C.d (D.str a2)]:List C)=[a0,a1,a2].map (fun x=>C.d (D.str x)) from rfl,quU];cases([a0,a1,a2]:List ByteArray)[i]? <;> rfl
theorem qtG (a0 a1 a2 a3:ByteArray) (i:Nat):([C.d (D.str a0),C.d (D.str a1),C.d (D.str a2),C.d (D.str a3)]:List C)[i]?=([a0,a1,a2,a3][i]?).bind fun x=>some (C.d (D.str x)):=by rw[show([C.d (D.str a0),C.d (D.str a1),C.d (D.str a2),C.d (D.str a3)]:List C)=[a0,a1,a2,a3].map (fun x=>C.d (D.str x)) from rfl,quU];cases([a0,a1,a2,a3]:List ByteArray)[i]? <;> rfl
theorem qpX {α:Type} (l:List α) (j:Nat):List.take (l.length-j) (List.drop j l)=List.drop j l:=by rw[qvL];rw[qvs];exact quW _
theorem qlW (sz:Nat) (x:Int):D.sl sz 1 (eI x)=D.sl sz 1 [D.int .i64 x]:=rfl
theorem qm6:(min 3 4:Nat)=3:=rfl
theorem qhE (l:List Int):(l.length=(Zs l).length)=True:=eq_true (q0j l).symm
def bz0:=JA_ @qsO (JA_ @qsR (JA_ @quA (JA_ @qsG (JA_ @qtP (@qtG)))))
def bz1:=JA_ @qpX (@qlW)
def bz2:=@qm6
def bz5:=@qhE
end
noncomputable section
open Go.RowKit
structure QM (α:Type) where
 a0:α
 a1:α
def eA2 {α:Type} (E:α→List D) (x:QM α):List D:=E x.a0++E x.a1
structure qg0 (α:Type) where
 a0:α
 a1:α
 a2:α
structure Qj where
 Has:List (List Int)
 Odd:QM (qg0 Int)
 Programme:List Int
 Day:Int
structure qe where
 Worst:Int
 Best:Int
 Pass:Int
def QS (x:qe):List D:=[D.int .i64 x.Worst,D.int .i64 x.Best,D.int .i64 x.Pass]
theorem q4k (x:qe):QS x=[D.int .i64 x.Worst,D.int .i64 x.Best,D.int .i64 x.Pass]:=rfl
theorem q3H (x:qe):(QS x).length=3:=rfl
structure qb where
 School:Int
 Code:ByteArray
def qj (x:qb):List D:=[D.int .i64 x.School,D.str x.Code]
theorem Qy (x:qb):qj x=[D.int .i64 x.School,D.str x.Code]:=rfl
theorem JR (x:qb):(qj x).length=2:=rfl
theorem q2w (x:qb):qb.mk x.School x.Code=x:=rfl
structure qa where
 Course:qb
 Credits:Int
 Grade:Int
 Day:Int
 Sources:List Int
 Bundle:Int
 Path:List Int
def qc (x:qa):List D:=[D.int .i64 x.Course.School,D.str x.Course.Code,D.int .i64 x.Credits,D.int .i64 x.Grade,D.int .i64 x.Day,D.sl 1 x.Sources.length (x.Sources.flatMap eI),D.int .i64 x.Bundle,D.sl 1 x.Path.length (x.Path.flatMap eI)]
theorem qV (x:qa):qc x=[D.int .i64 x.Course.School,D.str x.Course.Code,D.int .i64 x.Credits,D.int .i64 x.Grade,D.int .i64 x.Day,D.sl 1 x.Sources.length (x.Sources.flatMap eI),D.int .i64 x.Bundle,D.sl 1 x.Path.length (x.Path.flatMap eI)]:=rfl
theorem Zh (x:qa):(qc x).length=8:=rfl
theorem q0e (x:qa):qa.mk x.Course x.Credits x.Grade x.Day x.Sources x.Bundle x.Path=x:=rfl
structure qg where
 Kind:Int
 N:Int
 Min:Int
 Set:List qb
 L:List qg
mutual
def qr:qg→List D
 | ⟨a0,a1,a2,a3,a4⟩=>[D.int .i64 a0,D.int .i64 a1,D.int .i64 a2,D.sl 2 a3.length (a3.flatMap qj),D.sl 5 a4.length (zV a4)]
def zV:List qg→List D
 | []=>[]
 | x::l=>qr x++zV l
end
theorem JO:∀l:List qg,zV l=l.flatMap qr
 | []=>rfl
 | x::l=>by rw[qvJ,←JO l,zV]
theorem q1J (x:qg):qr x=[D.int .i64 x.Kind,D.int .i64 x.N,D.int .i64 x.Min,D.sl 2 x.Set.length (x.Set.flatMap qj),D.sl 5 x.L.length (x.L.flatMap qr)]:=by cases x;rw[qr,JO]
theorem QO (x:qg):(qr x).length=5:=by rw[q1J];rfl
theorem q4e (x:qg):qg.mk x.Kind x.N x.Min x.Set x.L=x:=by cases x;rfl
structure qf where
 School:Int
 Id:Int
 Version:Int
 From:Int
 Name:ByteArray
 Need:qg
 Total:Int
 Own:Int
 Age:Int
 Exclude:List (QM qb)
structure qd where
 L:List Int
 At:Int
theorem q2D (x:qd):qd.mk x.L x.At=x:=rfl
theorem q6S:∀x:(List Int),((eL 1 eI) x).length=1:=fun _=>rfl
theorem qnG (v:List (List Int)):(v.flatMap (eL 1 eI)).length=v.length:=by rw[ZQ q6S,Nat.mul_one]
theorem q9q (v:List (List Int)) (i:Nat):ld T ((v.flatMap (eL 1 eI)).map C.d) (i) 25=(v[i]?).bind fun x=>some (.c (.d (D.sl 1 x.length (x.flatMap eI)))):=by rw[q59 q6S v i _ (by decide)];cases v[i]? with|none=>rfl|some x=>rfl
theorem q5N:∀x:Int,(eI x).length=1:=fun _=>rfl
theorem qqW (v:List Int):(v.flatMap eI).length=v.length:=by rw[ZQ q5N,Nat.mul_one]
theorem qeu (v:List Int) (i:Nat):ld T ((v.flatMap eI).map C.d) (i) 3=(v[i]?).bind fun x=>some (.c (.d (D.int .i64 x))):=by rw[q59 q5N v i _ (by decide)];cases v[i]? with|none=>rfl|some x=>rfl
theorem qp1 (v:List Int) (a:Int):(v.flatMap eI).map C.d++[C.d (D.int .i64 a)]=((v++[a]).flatMap eI).map C.d:=by have h:=q3Z (E:=eI) v a;exact h
theorem qjF (v:List Int) (i:Nat) (a:Int):spr ((v.flatMap eI).map C.d) (i) [C.d (D.int .i64 a)]=((v.set i a).flatMap eI).map C.d:=by have h:=q7h q5N v i a;rw[Nat.mul_one] at h;exact h
theorem qkF (m:Nat):(List.replicate m [C.d (D.int .i64 0)]).flatten=((List.replicate m 0).flatMap eI).map C.d:=qj8 (E:=eI) 0 (by rfl) m
theorem J8:∀x:qa,(qc x).length=8:=Zh
theorem qkS (v:List qa):(v.flatMap qc).length=v.length*8:=by rw[ZQ J8]
theorem q9Q (v:List qa) (i:Nat):ld T ((v.flatMap qc).map C.d) (i*8) 52=(v[i]?).bind fun x=>some (.agg [.d (D.int .i64 x.Course.School),.d (D.str x.Course.Code),.d (D.int .i64 x.Credits),.d (D.int .i64 x.Grade),.d (D.int .i64 x.Day),.d (D.sl 1 x.Sources.length (x.Sources.flatMap eI)),.d (D.int .i64 x.Bundle),.d (D.sl 1 x.Path.length (x.Path.flatMap eI))]):=by rw[q4M J8 v i _ (by decide) (by decide)];cases v[i]? with|none=>rfl|some x=>rw[quG,quG,qV];rfl
theorem qdh (v:List qa) (i:Nat):ld T ((v.flatMap qc).map C.d) (i*8+1) 9=(v[i]?).bind fun x=>some (.c (.d (D.str x.Course.Code))):=by rw[q3u J8 v i 1 _ (by decide) (by decide)];cases v[i]? with|none=>rfl|some x=>rw[quG,quG,qV];rfl
theorem qbO (v:List qa):ld T ((v.flatMap qc).map C.d) 9 9=(v[1]?).bind fun x=>some (.c (.d (D.str x.Course.Code))):=by have h:=qdh v 1;exact h
theorem qcJ (v:List qa) (i:Nat):ld T ((v.flatMap qc).map C.d) (i*8+3) 3=(v[i]?).bind fun x=>some (.c (.d (D.int .i64 x.Grade))):=by rw[q3u J8 v i 3 _ (by decide) (by decide)];cases v[i]? with|none=>rfl|some x=>rw[quG,quG,qV];rfl
theorem qca (v:List qa):ld T ((v.flatMap qc).map C.d) 3 3=(v[0]?).bind fun x=>some (.c (.d (D.int .i64 x.Grade))):=by have h:=qcJ v 0;rwa [Nat.zero_mul,qv4] at h
theorem q8P (v:List qa) (i:Nat):ld T ((v.flatMap qc).map C.d) (i*8+5) 25=(v[i]?).bind fun x=>some (.c (.d (D.sl 1 x.Sources.length (x.Sources.flatMap eI)))):=by rw[q3u J8 v i 5 _ (by decide) (by decide)];cases v[i]? with|none=>rfl|some x=>rw[quG,quG,qV];rfl
theorem qlg (v:List qa) (a_Course_School:Int) (a_Course_Code:ByteArray) (a_Credits:Int) (a_Grade:Int) (a_Day:Int) (a_Sources:List Int) (a_Bundle:Int) (a_Path:List Int):(v.flatMap qc).map C.d++[C.d (D.int .i64 a_Course_School),C.d (D.str a_Course_Code),C.d (D.int .i64 a_Credits),C.d (D.int .i64 a_Grade),C.d (D.int .i64 a_Day),C.d (D.sl 1 a_Sources.length (a_Sources.flatMap eI)),C.d (D.int .i64 a_Bundle),C.d (D.sl 1 a_Path.length (a_Path.flatMap eI))]=((v++[(qa.mk (qb.mk a_Course_School a_Course_Code) a_Credits a_Grade a_Day a_Sources a_Bundle a_Path)]).flatMap qc).map C.d:=by have h:=q3Z (E:=qc) v (qa.mk (qb.mk a_Course_School a_Course_Code) a_Credits a_Grade a_Day a_Sources a_Bundle a_Path);rw[qV] at h;exact h
theorem qhy (v:List qa) (i:Nat) (a_Course_School:Int) (a_Course_Code:ByteArray) (a_Credits:Int) (a_Grade:Int) (a_Day:Int) (a_Sources:List Int) (a_Bundle:Int) (a_Path:List Int):spr ((v.flatMap qc).map C.d) (i*8) [C.d (D.int .i64 a_Course_School),C.d (D.str a_Course_Code),C.d (D.int .i64 a_Credits),C.d (D.int .i64 a_Grade),C.d (D.int .i64 a_Day),C.d (D.sl 1 a_Sources.length (a_Sources.flatMap eI)),C.d (D.int .i64 a_Bundle),C.d (D.sl 1 a_Path.length (a_Path.flatMap eI))]=((v.set i (qa.mk (qb.mk a_Course_School a_Course_Code) a_Credits a_Grade a_Day a_Sources a_Bundle a_Path)).flatMap qc).map C.d:=by have h:=q7h J8 v i (qa.mk (qb.mk a_Course_School a_Course_Code) a_Credits a_Grade a_Day a_Sources a_Bundle a_Path);rw[qV] at h;exact h
theorem ql4 (v:List qa) (ys:List C):dzc [0,0,0,0,0,1,0,1] [] ((v.flatMap qc).map C.d++ys)=(v.flatMap qc).map C.d++dzc [0,0,0,0,0,1,0,1] [] ys:=qgl J8 [0,0,0,0,0,1,0,1] rfl v ys
theorem qeY (s:S) (v:List qa) (lo hi:Option Operand):xsl T s 32 (.c (.d (.sl 8 v.length (v.flatMap qc)))) lo hi=qoi s qc 8 v (s.bd lo 0) (s.bd hi v.length):=qkK J8 v lo hi (by rfl) (by rfl) (by decide)
theorem q18:∀x:qb,(qj x).length=2:=JR
theorem ql7 (v:List qb):(v.flatMap qj).length=v.length*2:=by rw[ZQ q18]
theorem q9L (v:List qb) (i:Nat):ld T ((v.flatMap qj).map C.d) (i*2) 50=(v[i]?).bind fun x=>some (.agg [.d (D.int .i64 x.School),.d (D.str x.Code)]):=by rw[q4M q18 v i _ (by decide) (by decide)];cases v[i]? with|none=>rfl|some x=>rw[quG,quG,Qy];rfl
theorem qnF (v:List qb) (a_School:Int) (a_Code:ByteArray):(v.flatMap qj).map C.d++[C.d (D.int .i64 a_School),C.d (D.str a_Code)]=((v++[(qb.mk a_School a_Code)]).flatMap qj).map C.d:=by have h:=q3Z (E:=qj) v (qb.mk a_School a_Code);rw[Qy] at h;exact h
theorem qiX (v:List qb) (i:Nat) (a_School:Int) (a_Code:ByteArray):spr ((v.flatMap qj).map C.d) (i*2) [C.d (D.int .i64 a_School),C.d (D.str a_Code)]=((v.set i (qb.mk a_School a_Code)).flatMap qj).map C.d:=by have h:=q7h q18 v i (qb.mk a_School a_Code);rw[Qy] at h;exact h
theorem qmi (v:List qb) (a:Nat):(v.flatMap qj).drop (a*2)=(v.drop a).flatMap qj:=by have h:=q73 q18 v a;exact h
theorem qkQ (v:List qb) (a:Nat):(v.flatMap qj).take (a*2)=(v.take a).flatMap qj:=by have h:=q6U q18 v a;exact h
theorem qhZ (v:List qb) (a:Nat):((v.flatMap qj).map C.d).drop (a*2)=((v.drop a).flatMap qj).map C.d:=by rw[←List.map_drop,qmi]
theorem qhB (v:List qb) (a:Nat):((v.flatMap qj).map C.d).take (a*2)=((v.take a).flatMap qj).map C.d:=by rw[←List.map_take,qkQ]
theorem qiB (v w:List qb) (i:Nat):spl (v.flatMap qj) (i*2) (w.flatMap qj)=(spl v i w).flatMap qj:=by have h:=qaJ q18 w v i;exact h
theorem qbG:∀x:qg,(qr x).length=5:=QO
theorem qm8 (v:List qg):(v.flatMap qr).length=v.length*5:=by rw[ZQ qbG]
theorem qlw (v:List qg) (a_Kind:Int) (a_N:Int) (a_Min:Int) (a_Set:List qb) (a_L:List qg):(v.flatMap qr).map C.d++[C.d (D.int .i64 a_Kind),C.d (D.int .i64 a_N),C.d (D.int .i64 a_Min),C.d (D.sl 2 a_Set.length (a_Set.flatMap qj)),C.d (D.sl 5 a_L.length (a_L.flatMap qr))]=((v++[(qg.mk a_Kind a_N a_Min a_Set a_L)]).flatMap qr).map C.d:=by have h:=q3Z (E:=qr) v (qg.mk a_Kind a_N a_Min a_Set a_L);rw[q1J] at h;exact h
theorem qja:∀x:(QM qb),((eA2 qj) x).length=4:=fun _=>rfl
theorem qj5:∀x:qe,(QS x).length=3:=q3H
theorem qgR:∀x:(List qa),((eL 8 qc) x).length=1:=fun _=>rfl
theorem q6x:∀x:(QM Int),((eA2 eI) x).length=2:=fun _=>rfl
theorem qlD (v:List (QM Int)):(v.flatMap (eA2 eI)).length=v.length*2:=by rw[ZQ q6x]
theorem q9v (v:List (QM Int)) (i:Nat):ld T ((v.flatMap (eA2 eI)).map C.d) (i*2) 81=(v[i]?).bind fun x=>some (.agg [.d (D.int .i64 x.a0),.d (D.int .i64 x.a1)]):=by rw[q4M q6x v i _ (by decide) (by decide)];cases v[i]? with|none=>rfl|some x=>rw[quG,quG];rfl
theorem qm3 (v:List (QM Int)) (a_0:Int) (a_1:Int):(v.flatMap (eA2 eI)).map C.d++[C.d (D.int .i64 a_0),C.d (D.int .i64 a_1)]=((v++[(QM.mk a_0 a_1)]).flatMap (eA2 eI)).map C.d:=by have h:=q3Z (E:=(eA2 eI)) v (QM.mk a_0 a_1);exact h
theorem qfS:∀x:ByteArray,(eS x).length=1:=fun _=>rfl
theorem qeR (v:List ByteArray) (i:Nat):ld T ((v.flatMap eS).map C.d) (i) 9=(v[i]?).bind fun x=>some (.c (.d (D.str x))):=by rw[q59 qfS v i _ (by decide)];cases v[i]? with|none=>rfl|some x=>rfl
theorem q2I:∀x:(List Int),((oL 3 1 eI) x).length=1:=fun _=>rfl
theorem JG:∀x:(List Int),((oL 3 1 eI) x).all C.pl=true:=fun _=>rfl
theorem qiZ (v:List (List Int)):(v.flatMap (oL 3 1 eI)).length=v.length:=by rw[qfO q2I,Nat.mul_one]
theorem qjk (v:List (List Int)) (k:Nat):(v.flatMap (oL 3 1 eI)).map (C.fg k)=v.flatMap (oL 3 1 eI):=qbI JG (qoK k) v
theorem qjl (v:List (List Int)) (ids:List Nat):(v.flatMap (oL 3 1 eI)).map (cn ids)=v.flatMap (oL 3 1 eI):=qbI JG (qpY ids) v
theorem qjo (v:List (List Int))  : (v.flatMap (oL 3 1 eI)).map (C.kw)=v.flatMap (oL 3 1 eI):=qbI JG (qoP) v
theorem qej (v:List (List Int)) (k:Nat):(v.flatMap (oL 3 1 eI)).all (C.far k)=true:=qfR JG (qlm k) v
theorem qbp (v:List (List Int)) (X:List Nat):(v.flatMap (oL 3 1 eI)).all (C.farF X)=true:=qfR JG (qij X) v
theorem qb4 (v:List (List Int)):(v.flatMap (oL 3 1 eI)).any C.isNils=false:=qm1 JG qiF v
theorem qba (v:List (List Int)):(v.flatMap (oL 3 1 eI)).flatMap C.refs=[]:=qlV JG qjh v
theorem qbD (v:List (List Int)):(v.flatMap (oL 3 1 eI)).flatMap C.rows=[]:=qlV JG qgS v
theorem qj3 (v:List (List Int)):(v.flatMap (oL 3 1 eI)).map C.uw=(v.flatMap (eL 1 eI)).map C.d:=qm2 (E:=(oL 3 1 eI)) (F:=(eL 1 eI)) (fun _=>rfl) v
theorem qdE (v:List (List Int)) (ys:List C):q43 [some (3,1)] [] (v.flatMap (oL 3 1 eI)++ys)=v.flatMap (oL 3 1 eI)++q43 [some (3,1)] [] ys:=qgr JG q2I [some (3,1)] rfl v ys
theorem qcd (v:List (List Int)) (i:Nat):(v.flatMap (oL 3 1 eI))[i]?=(v[i]?).bind fun x=>some (C.ow 3 1 x.length (x.flatMap eI)):=by have h:=qg2 q2I (show 0<1 by decide) v i;rwa [Nat.mul_one,Nat.add_zero] at h
theorem qdR (cs:List C) (o:Nat) (c:C):ld T (spr cs o [c]) o 25=(cs[o]?).bind fun _=>some (R.c c):=by rw[qqb (by rw[k25];simp) (by rw[k25];simp) (by rw[k25];simp),qdZ]
theorem qd7 (v:List (List Int)) (i:Nat) (b:List Int):spr (v.flatMap (oL 3 1 eI)) i [C.ow 3 1 b.length (b.flatMap eI)]=(v.set i b).flatMap (oL 3 1 eI):=qgk q2I (x:=b) rfl v i
theorem q9k (v:List (List Int)) (i:Nat) (w:List Int) (z:Int):spr (v.flatMap (oL 3 1 eI)) i [C.ow 3 1 (w.length+1) ((w++[z]).flatMap eI)]=(v.set i (w++[z])).flatMap (oL 3 1 eI):=by have h:=qd7 v i (w++[z]);rw[quN] at h;exact h
theorem qdB (v:List (List Int)):v.flatMap (oL 3 1 eI)++[C.ow 3 1 0 []]=(v++[[]]).flatMap (oL 3 1 eI):=qki (E:=(oL 3 1 eI)) v []
theorem qch {α:Type} {E:α→List D} {k:Nat} (h:∀x,(E x).length=k) (hi:∀x y,E x=E y→x=y):∀x y:QM α,eA2 E x=eA2 E y→x=y:=by
 rintro⟨a0,a1⟩ ⟨b0,b1⟩ e
 unfold eA2 at e
 dsimp only at e
 obtain⟨e,h1⟩:=List.append_inj' e (by rw[h,h])
 rw[hi _ _ e,hi _ _ h1]
theorem q1u (v w:List Int):(v.flatMap eI=w.flatMap eI)=(v=w):=propext ⟨fun h=>(QC q5N (by decide) (fun x y h=>by injection h with h;injection h) _ _) h,fun h=>by rw[h]⟩
theorem JB (v w:List (List Int)):(v.flatMap (eL 1 eI)=w.flatMap (eL 1 eI))=(v=w):=propext ⟨fun h=>(QC q6S (by decide) (fun x y h=>by injection h with h;injection h with _ _ h;exact(QC q5N (by decide) (fun x y h=>by injection h with h;injection h) _ _) h) _ _) h,fun h=>by rw[h]⟩
theorem q34:∀x y:qe,QS x=QS y→x=y:=by
 rintro⟨a_0,a_1,a_2⟩ ⟨b_0,b_1,b_2⟩ h
 simp only[q4k,List.cons.injEq,D.int.injEq,D.bool.injEq,D.str.injEq,D.sl.injEq,true_and,and_true,q1u,JB] at h
 simp only[h]
theorem JP:∀x y:qb,qj x=qj y→x=y:=by
 rintro⟨a_0,a_1⟩ ⟨b_0,b_1⟩ h
 simp only[Qy,List.cons.injEq,D.int.injEq,D.bool.injEq,D.str.injEq,D.sl.injEq,true_and,and_true,q1u,JB] at h
 simp only[h]
theorem Zf:∀x y:qa,qc x=qc y→x=y:=by
 rintro⟨⟨a_0_0,a_0_1⟩,a_1,a_2,a_3,a_4,a_5,a_6⟩ ⟨⟨b_0_0,b_0_1⟩,b_1,b_2,b_3,b_4,b_5,b_6⟩ h
 simp only[qV,List.cons.injEq,D.int.injEq,D.bool.injEq,D.str.injEq,D.sl.injEq,true_and,and_true,q1u,JB] at h
 simp only[h]
theorem q2i (v w:List qa):(v.flatMap qc=w.flatMap qc)=(v=w):=propext ⟨fun h=>(QC J8 (by decide) Zf _ _) h,fun h=>by rw[h]⟩
theorem q1L (v w:List qb):(v.flatMap qj=w.flatMap qj)=(v=w):=propext ⟨fun h=>(QC q18 (by decide) JP _ _) h,fun h=>by rw[h]⟩
mutual
theorem q0Q:∀x y:qg,qr x=qr y→x=y
 | ⟨a0,a1,a2,a3,a4⟩,⟨b0,b1,b2,b3,b4⟩,h=>by
  rw[qr,qr] at h
  simp only[List.cons.injEq,D.int.injEq,D.bool.injEq,D.str.injEq,D.sl.injEq,true_and,and_true,q1u,JB,q2i,q1L] at h
  have hl:a4=b4:=q0w a4 b4 (by simp only[h])
  subst hl
  simp only[h]
theorem q0w:∀v w:List qg,zV v=zV w→v=w
 | [],[],_=>rfl
 | [],y::w,e=>by
  have:=congrArg List.length e
  rw[zV,zV,quN,QO] at this
  first|omega|(simp at this;done)|(simp at this;omega)
 | x::v,[],e=>by
  have:=congrArg List.length e
  rw[zV,zV,quN,QO] at this
  first|omega|(simp at this;done)|(simp at this;omega)
 | x::v,y::w,e=>by
  rw[zV,zV] at e
  obtain⟨h1,h2⟩:=List.append_inj e (by rw[QO,QO])
  rw[q0Q x y h1,q0w v w h2]
end
theorem q3p (v w:List qg):(v.flatMap qr=w.flatMap qr)=(v=w):=propext ⟨fun h=>(QC qbG (by decide) q0Q _ _) h,fun h=>by rw[h]⟩
theorem q3s (v w:List (QM qb)):(v.flatMap (eA2 qj)=w.flatMap (eA2 qj))=(v=w):=propext ⟨fun h=>(QC qja (by decide) (qch JR JP) _ _) h,fun h=>by rw[h]⟩
theorem q41 (v w:List qe):(v.flatMap QS=w.flatMap QS)=(v=w):=propext ⟨fun h=>(QC qj5 (by decide) q34 _ _) h,fun h=>by rw[h]⟩
theorem q3l (v w:List (List qa)):(v.flatMap (eL 8 qc)=w.flatMap (eL 8 qc))=(v=w):=propext ⟨fun h=>(QC qgR (by decide) (fun x y h=>by injection h with h;injection h with _ _ h;exact(QC J8 (by decide) Zf _ _) h) _ _) h,fun h=>by rw[h]⟩
theorem q3h (v w:List (QM Int)):(v.flatMap (eA2 eI)=w.flatMap (eA2 eI))=(v=w):=propext ⟨fun h=>(QC q6x (by decide) (qch (fun _=>rfl) (fun x y h=>by injection h with h;injection h)) _ _) h,fun h=>by rw[h]⟩
theorem q68 (v w:List ByteArray):(v.flatMap eS=w.flatMap eS)=(v=w):=propext ⟨fun h=>(QC qfS (by decide) (fun x y h=>by injection h with h;injection h) _ _) h,fun h=>by rw[h]⟩
def Q5 (v:Int):R:=R.c (C.d (D.int .i64 v))
theorem q2V (M M':List (Int×Int)):(B.ob (mpB (Jd .i64) Q5 M)=B.ob (mpB (Jd .i64) Q5 M'))=(M=M'):=qhz (fun a b h=>by injection h) (fun a b h=>by simp only[Q5,R.c.injEq,C.d.injEq,D.int.injEq,D.bool.injEq,D.str.injEq,D.sl.injEq,true_and,and_true,q1u,JB,q2i,q1L,q3p,q3s,q41,q3l,q3h,q68] at h;simp only[h]) M M'
theorem qlv (id:Nat) (M:List (Int×Int)):AO.mapR (R.fg id) (mpB (Jd .i64) Q5 M)=mpB (Jd .i64) Q5 M:=q1f (vE:=Q5) (fun v=>rfl) M
theorem qkq (f:Nat→Nat) (M:List (Int×Int)):AO.mapR (R.rn0 f) (mpB (Jd .i64) Q5 M)=mpB (Jd .i64) Q5 M:=q1f (vE:=Q5) (fun v=>rfl) M
theorem qmK (X:List Nat) (M:List (Int×Int)):AO.mapR (R.fgL X) (mpB (Jd .i64) Q5 M)=mpB (Jd .i64) Q5 M:=q1f (vE:=Q5) (fun v=>rfl) M
theorem qlk (ids:List Nat) (M:List (Int×Int)):AO.mapR (qcP ids) (mpB (Jd .i64) Q5 M)=mpB (Jd .i64) Q5 M:=q1f (vE:=Q5) (fun v=>rfl) M
theorem qgU (M:List (Int×Int)):AO.mapR (R.nw0) (mpB (Jd .i64) Q5 M)=mpB (Jd .i64) Q5 M:=q1f (vE:=Q5) (fun v=>rfl) M
theorem qks (M:List (Int×Int)):(mpB (Jd .i64) Q5 M).Rs.all (R.scl0)=true:=qd6 (fun v=>rfl) M
theorem qkI (X:List Nat) (M:List (Int×Int)):(mpB (Jd .i64) Q5 M).Rs.all (R.farL X)=true:=qd6 (fun v=>rfl) M
theorem qlP (M:List (Int×Int)):(mpB (Jd .i64) Q5 M).Rs.flatMap R.refs0=[]:=qeX (fun v=>rfl) M
theorem qgz (s:S) (sel:List Nat) (M:List (Int×Int)):cvA s sel (mpB (Jd .i64) Q5 M)=some (mpB (Jd .i64) Q5 M):=qgT (fun v=>rfl) M
theorem qeM (M:List (Int×Int)):((mpE (Jd .i64) Q5 M 0).all fun q=>plK (Kd.int .i64) q.1)=true:=q7m (fun k r i=>rfl) M 0
theorem qgN (ok:Bool) (k:Int) (M:List (Int×Int)):lkq ok (R.c (C.d (D.int .i64 0))) (fnd (Value.int .i64 k) (mpE (Jd .i64) Q5 M 0) 0)=some (tt2 (R.c (C.d (D.int .i64 (QV (0:Int) M k)))) ok (q9U M k)):=qpK (vE:=Q5) (kE:=(Jd .i64)) (qfN _) ((0:Int)) ok k M
theorem qgP (k:Int) (v:Int) (M:List (Int×Int)):mup (Kd.int .i64) (Value.int .i64 k) (R.c (C.d (D.int .i64 v))) (.ob (mpB (Jd .i64) Q5 M))=some (.ob (mpB (Jd .i64) Q5 (q2k M k v))):=qpn (vE:=Q5) (kE:=(Jd .i64)) (qfN _) (fun a=>rfl) k v M
theorem qmt (s:S) (p:Nat):JI T s p 82 none=some (.c (.hd .map p),s.up [(p,.ob (mpB (Jd .i64) Q5 ([]:List (Int×Int))))]):=rfl
theorem qh2 (l:List qa) (i j:Int):q9f 52 8 0 [.c (.own 0 8 0 l.length),.c (.d (.int .i64 i)),.c (.d (.int .i64 j))] [(0,.row 52 8 ((l.flatMap qc).map C.d))]=if 0≤i∧j=i+1∧i<l.length then some (.c (.own 0 8 0 (l.eraseIdx i.toNat).length),[(0,.row 52 8 (((l.eraseIdx i.toNat).flatMap qc).map C.d))]) else none:=qgC Zh l i j rfl
end
noncomputable section
open Go.RowKit
theorem qpJ:q5T Try.prog 50=true:=by kernel_rfl
def by0:=JA_ @k3 (JA_ @z3 (JA_ @b3 (JA_ @o3 (JA_ @q3 (JA_ @k4 (@q4))))))
def by1:=JA_ @k9 (JA_ @z9 (@q9))
def by2:=JA_ @k22 (JA_ @z22 (JA_ @q22 (JA_ @k23 (JA_ @z23 (JA_ @o23 (JA_ @k24 (JA_ @z24 (JA_ @k25 (JA_ @z25 (@b25))))))))))
def by3:=JA_ @o25 (JA_ @q25 (JA_ @k26 (JA_ @z26 (JA_ @k28 (JA_ @z28 (JA_ @q28 (JA_ @k30 (JA_ @z30 (JA_ @o30 (JA_ @q30 (JA_ @k32 (JA_ @q32 (JA_ @k33 (@z33))))))))))))))
def by4:=JA_ @q33 (JA_ @k34 (JA_ @z34 (JA_ @k36 (JA_ @z36 (JA_ @b36 (JA_ @o36 (JA_ @q36 (JA_ @k37 (JA_ @z37 (JA_ @k39 (JA_ @z39 (JA_ @o39 (@q39)))))))))))))
def by5:=JA_ @q45 (JA_ @k50 (JA_ @z50 (JA_ @b50 (JA_ @o50 (@q50)))))
def by6:=JA_ @k52 (JA_ @z52 (JA_ @b52 (JA_ @o52 (@q52))))
def by7:=@k60
def by8:=JA_ @k69 (JA_ @o69 (@q69))
def by9:=JA_ @q78 (JA_ @k80 (JA_ @k81 (JA_ @z81 (JA_ @b81 (JA_ @o81 (JA_ @q81 (JA_ @k82 (JA_ @z82 (JA_ @o82 (JA_ @q82 (@q83)))))))))))
def qsV:=JA_ @q87 (JA_ @k89 (JA_ @o89 (JA_ @k90 (@q90))))
def quu:=JA_ @q92 (JA_ @k93 (JA_ @o93 (JA_ @k96 (JA_ @z96 (JA_ @o96 (@q96))))))
def qui:=JA_ @qsy (JA_ @qsE (JA_ @qu4 (@qsT)))
def quv:=JA_ @qpJ (JA_ @bk_ (JA_ @qt7 (JA_ @qmn (JA_ @qur (@qt1)))))
def qsC:=JA_ @qpk (JA_ @qr5 (JA_ @qqh (JA_ @qpy (JA_ @qqi (JA_ @qqJ (JA_ @qoJ (JA_ @qqf (JA_ @qoA (JA_ @qqE (@qqK))))))))))
def quq:=JA_ @qoD (JA_ @qpr (JA_ @qqt (JA_ @qpI (@qqM))))
def qsY:=JA_ @qqd (@qqk)
def qtu:=JA_ @qpz (JA_ @qqj (JA_ @qp4 (JA_ @qqH (JA_ @qp5 (JA_ @qqn (@qqw))))))
def qt6:=JA_ @qlF (@qn4)
def qto:=JA_ @pw6 (JA_ @pw8 (JA_ @pw9 (JA_ @qrB (JA_ @qoQ (JA_ @qse (JA_ @qra (JA_ @qsv (JA_ @qrs (JA_ @qsu (JA_ @qrE (JA_ @qrt (JA_ @qri (JA_ @qsp (JA_ @qr9 (JA_ @qsq (JA_ @qs6 (JA_ @qrL (JA_ @qsg (JA_ @qs7 (JA_ @qs1 (@qrC)))))))))))))))))))))
def qtF:=JA_ @qrJ (JA_ @qrb (JA_ @qry (JA_ @qrg (JA_ @qrW (JA_ @qsk (JA_ @qs9 (JA_ @qrZ (JA_ @qrj (JA_ @qrY (JA_ @qs3 (JA_ @qrq (JA_ @qrm (JA_ @qqR (JA_ @qsr (JA_ @qrc (JA_ @qrA (JA_ @qsx (JA_ @qqu (JA_ @qsf (JA_ @qrO (JA_ @qqU (JA_ @qrk (JA_ @qst (JA_ @qrQ (JA_ @qsc (@qrx))))))))))))))))))))))))))
def qtr:=JA_ @qu7 (JA_ @qs2 (JA_ @qso (JA_ @qpv (JA_ @qrf (JA_ @qrX (@qtW))))))
def qtD:=JA_ @qpC (JA_ @qpD (JA_ @qoN (JA_ @qqA (JA_ @qoB (JA_ @qpf (JA_ @qpP (JA_ @qqs (JA_ @qpA (JA_ @qpG (JA_ @qpS (@qoE)))))))))))
def qtT:=JA_ @qoS (JA_ @qoG (JA_ @qq4 (JA_ @qqB (JA_ @qqF (JA_ @qpN (JA_ @qp0 (JA_ @qr1 (JA_ @qqX (JA_ @qqx (JA_ @qp9 (JA_ @qoH (JA_ @qpx (JA_ @qpR (@qr2))))))))))))))
def quC:=JA_ @qkc (JA_ @qkT (JA_ @qmX (JA_ @qkz (JA_ @qlz (JA_ @qkD (JA_ @qmO (JA_ @qpu (JA_ @qq8 (JA_ @qnJ (@qjG))))))))))
def qtL:=JA_ @qjH (JA_ @qiL (JA_ @qhD (JA_ @qjj (JA_ @qhY (JA_ @qnf (JA_ @qkN (JA_ @qn9 (JA_ @qjJ (JA_ @qln (JA_ @qjE (JA_ @qkR (JA_ @ql6 (JA_ @qmU (JA_ @qn7 (JA_ @qku (JA_ @qll (JA_ @qmQ (JA_ @ql1 (JA_ @qkx (@qn0))))))))))))))))))))
def qtQ:=JA_ @qkt (@qjQ)
def qup:=JA_ @qjX (JA_ @qkH (JA_ @qoL (@qr4)))
def qsZ:=JA_ @qkn (JA_ @qkj (JA_ @qhi (JA_ @qhk (JA_ @qh6 (JA_ @qjc (JA_ @qlM (JA_ @qnm (JA_ @qlO (JA_ @qjI (JA_ @qmg (JA_ @qjL (JA_ @qmj (JA_ @qlX (JA_ @qjZ (JA_ @qmJ (JA_ @qnA (JA_ @qlR (JA_ @qhP (JA_ @qn6 (JA_ @qmL (JA_ @qhJ (JA_ @qiO (@qkC)))))))))))))))))))))))
def qun:=JA_ @qnp (JA_ @qlA (JA_ @qlx (JA_ @qq5 (JA_ @qqG (@qmV)))))
def qsH:=JA_ @qgK (JA_ @qix (JA_ @qhg (JA_ @qig (JA_ @qld (JA_ @qmM (JA_ @qlY (JA_ @qjz (JA_ @qkm (JA_ @qm0 (JA_ @qmI (JA_ @qn8 (JA_ @qmd (JA_ @qkX (JA_ @qjA (JA_ @qnv (JA_ @qiu (JA_ @qno (JA_ @qk3 (JA_ @qi9 (JA_ @qhM (@qnd)))))))))))))))))))))
def bt0:=JA_ @qnG (JA_ @q9q (JA_ @qqW (JA_ @qeu (JA_ @qp1 (JA_ @qjF (JA_ @qkF (JA_ @qkS (@q9Q))))))))
def bt1:=JA_ @qbO (JA_ @qca (JA_ @q8P (JA_ @qlg (@qhy))))
def bt2:=JA_ @ql4 (JA_ @qeY (JA_ @ql7 (JA_ @q9L (JA_ @qnF (JA_ @qiX (@qhZ))))))
def bt3:=JA_ @qhB (JA_ @qiB (JA_ @qm8 (@qlw)))
def bt6:=JA_ @qlD (JA_ @q9v (@qm3))
def bt7:=JA_ @qeR (JA_ @qlv (JA_ @qkq (JA_ @qmK (JA_ @qlk (JA_ @qgU (@qks))))))
def bt8:=JA_ @qkI (JA_ @qlP (JA_ @qgz (JA_ @qeM (JA_ @qgN (JA_ @qgP (JA_ @qmt (JA_ @qh2 (JA_ @qiZ (JA_ @qjk (JA_ @qjl (JA_ @qjo (JA_ @qej (JA_ @qbp (JA_ @qb4 (JA_ @qba (JA_ @qbD (JA_ @qj3 (JA_ @qdE (JA_ @qcd (JA_ @qdR (JA_ @q9k (@qdB))))))))))))))))))))))
def bt9:=JA_ @q4e (JA_ @q2w (JA_ @q0e (@q2D)))
def bA:=JA_ @bx0 (JA_ @bx1 (JA_ @bx2 (JA_ @bx3 (JA_ @bx4 (JA_ @bx5 (JA_ @bx6 (JA_ @bx7 (JA_ @bx8 (JA_ @bx9 (JA_ @qsB (JA_ @qtO (JA_ @quh (JA_ @qtq (JA_ @qtf (JA_ @qtm (JA_ @qsU (JA_ @qtt (JA_ @qu8 (JA_ @qtw (JA_ @qu6 (JA_ @qsJ (JA_ @qu0 (JA_ @qsF (JA_ @qty (JA_ @qti (JA_ @qut (JA_ @qsI (JA_ @qud (JA_ @qsP (JA_ @qsM (JA_ @qtv (JA_ @bz0 (JA_ @bz1 (JA_ @bz2 (JA_ @bz5 (JA_ @by0 (JA_ @by1 (JA_ @by2 (JA_ @by3 (JA_ @by4 (JA_ @by5 (JA_ @by6 (JA_ @by7 (JA_ @by8 (JA_ @by9 (JA_ @qsV (JA_ @quu (JA_ @qui (JA_ @quv (JA_ @qsC (JA_ @quq (JA_ @qsY (JA_ @qtu (JA_ @qt6 (JA_ @qto (JA_ @qtF (JA_ @qtr (JA_ @qtD (JA_ @qtT (JA_ @quC (JA_ @qtL (JA_ @qtQ (JA_ @qup (JA_ @qsZ (JA_ @qun (JA_ @qsH (JA_ @bt0 (JA_ @bt1 (JA_ @bt2 (JA_ @bt3 (JA_ @bt6 (JA_ @bt7 (JA_ @bt8 (@bt9))))))))))))))))))))))))))))))))))))))))))))))))))))))))))))))))))))))))))
def bZ:=JA_ @quN.{0} (JA_ @qvr.{0} (JA_ @JC (JA_ @qvn.{0} (JA_ @quR.{0} (JA_ @qvp.{0} (JA_ @qv4 (JA_ @qvJ.{0,0} (JA_ @List.flatMap_nil.{0,0} (JA_ @qv3.{0,0} (JA_ @List.map_nil.{0,0} (JA_ @eI.eq_1 (JA_ @eS.eq_1 (JA_ @qvK.{0} (JA_ @qv0.{0} (JA_ @qv1.{0} (JA_ @List.flatMap_append.{0,0} (JA_ @List.map_append.{0,0} (JA_ @Qy (JA_ @qV (@eA2.eq_1))))))))))))))))))))
theorem gA {P:Prop} (h:P:=by simp -implicitDefEqProofs (maxSteps:=10000000) only[bA,Int.reduceToNat,Int.reduceLT,Int.reduceLE,Int.reduceAdd,Int.reduceSub,Int.reduceMul,Int.reduceNeg,Int.reduceEq,Int.reduceNe,Int.reduceBEq,Int.reduceBNe,Nat.reduceLT,Nat.reduceAdd,Nat.reduceMul,Nat.reduceSub,Nat.reduceEqDiff,Nat.reduceLeDiff,Nat.reduceBEq,Nat.reduceBNe,↓reduceIte,reduceCtorEq,pure,bind,w64,z6,QF,Option.or_some,Option.or_none,Option.none_or,Option.some_or, *]<;>simp only[rL,dL,bR,bZ,Nat.reduceAdd]):P:=h
end
noncomputable section
open Go.RowKit
section
variable {τ ε:Type} {step:τ→Option (τ⊕ε)}
theorem zW {x y:τ} (h:step x=some (.inl y)):qB step x=qB step y:=by
 rw[qab,h];rfl
theorem zf {x:τ} {e:ε} (h:step x=some (.inr e)):qB step x=some e:=by
 rw[qab,h];rfl
theorem JA {e:ε} (st:Nat→τ) (i0 n:Nat) (h0:i0≤n) (h:∀i,i0≤i→i<n→step (st i)=some (.inl (st (i+1)))) (hn:step (st n)=some (.inr e)):qB step (st i0)=some e:=by
 have key:∀j i,j+i=n→i0≤i→qB step (st i)=some e:=by
  intro j
  induction j with
  | zero=>intro i hi _;rw[qv4] at hi;subst hi;exact zf hn
  | succ j ih=>intro i hi h1;rw[zW (h i h1 (by omega))];exact ih (i+1) (by omega) (by omega)
 exact key (n-i0) i0 (by omega) (quW _)
def q4D {α β ε:Type} (g:β→α→β⊕ε) (fin:β→ε):List α→β→ε
 | [],b=>fin b
 | a::l,b=>match g b a with
  | .inl b'=>q4D g fin l b'
  | .inr e=>e
theorem q4A {α β:Type} (l:List α) (st:β→Nat→τ) (g:β→α→β⊕ε) (fin:β→ε)
  (h:∀b i a,l[i]?=some a→step (st b i)=some (match g b a with | .inl b' => .inl (st b' (i+1)) | .inr e => .inr e)) (hn:∀b,step (st b l.length)=some (.inr (fin b))) (b:β):qB step (st b 0)=some (q4D g fin l b):=by
 have key:∀(r:List α) (i:Nat) (b:β),r.length+i=l.length→(∀j,r[j]?=l[i+j]?)→qB step (st b i)=some (q4D g fin r b):=by
  intro r
  induction r with
  | nil=>
   intro i b hi _
   have hi:i=l.length:=by simpa using hi
   subst hi;exact zf (hn b)
  | cons a r ih=>
   intro i b hi hr
   have ha:l[i]?=some a:=by have:=hr 0;simpa using this.symm
   have h1:=h b i a ha
   unfold q4D
   cases hg:g b a with
   | inl b'=>
    rw[hg] at h1
    rw[zW h1]
    refine ih (i+1) b' (by simp at hi;omega) fun j=>?_
    have:=hr (j+1)
    rw[show i+1+j=i+(j+1) by omega,←this];rfl
   | inr e=>
    rw[hg] at h1
    exact zf h1
 exact key l 0 b (by simp) (by simp)
theorem q2d {α β:Type} (l:List α) (st:β→Nat→τ) (g:β→α→β) (fin:β→ε)
  (h:∀b i a,l[i]?=some a→step (st b i)=some (.inl (st (g b a) (i+1)))) (hn:∀b,step (st b l.length)=some (.inr (fin b))) (b:β):qB step (st b 0)=some (fin (l.foldl g b)):=by
 rw[q4A l st (fun b a => .inl (g b a)) fin h hn b]
 congr 1
 induction l generalizing b with
 | nil=>rfl
 | cons a l ih=>
  unfold q4D
  simp only[qvI]
  clear h hn
  have:∀(l:List α) (b:β),q4D (ε:=ε) (fun b a => .inl (g b a)) fin l b=fin (l.foldl g b):=by
   intro l
   induction l with
   | nil=>intro b;rfl
   | cons a l ih=>intro b;unfold q4D;simp only[qvI];exact ih _
  exact this l _
theorem qdk {α:Type} (l:List α) (st:Nat→τ) (p:α→Option ε) (d:ε)
  (h:∀i a,l[i]?=some a→step (st i)=some (match p a with|some e => .inr e|none => .inl (st (i+1)))) (hn:step (st l.length)=some (.inr d)):qB step (st 0)=some ((l.findSome? p).getD d):=by
 have h1:=q4A (ε:=ε) (β:=Unit) l (fun _ i=>st i) (fun _ a=>match p a with|some e => .inr e|none => .inl ()) (fun _=>d) (fun b i a ha=>by
  rw[h i a ha];cases p a<;>rfl) (fun _=>hn) ()
 rw[h1]
 congr 1
 have:∀l:List α,q4D (ε:=ε) (fun(_:Unit) a=>match p a with|some e => .inr e|none => .inl ()) (fun _=>d) l ()=(l.findSome? p).getD d:=by
  intro l
  induction l with
  | nil=>rfl
  | cons a l ih=>
   unfold q4D
   rw[List.findSome?_cons]
   cases p a with
   | none=>simpa using ih
   | some e=>rfl
 exact this l
def q7g {α β ε:Type} (g:Nat→β→α→β⊕ε) (fin:β→ε):List α→Nat→β→ε
 | [],_,b=>fin b
 | a::l,i,b=>match g i b a with
  | .inl b'=>q7g g fin l (i+1) b'
  | .inr e=>e
theorem q9z {α β:Type} (l:List α) (st:β→Nat→τ) (g:Nat→β→α→β⊕ε) (fin:β→ε)
  (h:∀b i a,l[i]?=some a→step (st b i)=some (match g i b a with | .inl b' => .inl (st b' (i+1)) | .inr e => .inr e)) (hn:∀b,step (st b l.length)=some (.inr (fin b))) (b:β):qB step (st b 0)=some (q7g g fin l 0 b):=by
 have key:∀(r:List α) (i:Nat) (b:β),r.length+i=l.length→(∀j,r[j]?=l[i+j]?)→qB step (st b i)=some (q7g g fin r i b):=by
  intro r
  induction r with
  | nil=>
   intro i b hi _
   have hi:i=l.length:=by simpa using hi
   subst hi;exact zf (hn b)
  | cons a r ih=>
   intro i b hi hr
   have ha:l[i]?=some a:=by have:=hr 0;simpa using this.symm
   have h1:=h b i a ha
   unfold q7g
   cases hg:g i b a with
   | inl b'=>
    rw[hg] at h1
    rw[zW h1]
    refine ih (i+1) b' (by simp at hi;omega) fun j=>?_
    have:=hr (j+1)
    rw[show i+1+j=i+(j+1) by omega,←this];rfl
   | inr e=>
    rw[hg] at h1
    exact zf h1
 exact key l 0 b (by simp) (by simp)
end
theorem Q6 {α:Type} {l:List α} {i:Nat} {a:α} (h:l[i]?=some a):i<l.length:=(quK.1 h).1
theorem Ql {n:Int} (h0 : -9223372036854775808≤n) (h1:n≤9223372036854775807):w64 n=n:=wi n h0 h1
theorem q5g {i n:Nat} (h:i<n) (hn:n≤9223372036854775807):w64 ((i:Int)+1)=((i+1:Nat):Int):=by
 rw[Ql (by omega) (by omega)];omega
end
noncomputable section
open Go.RowKit
set_option maxRecDepth 20000
set_option maxHeartbeats 8000000
theorem qhT:okL 19 q1H:=qS (qi qdD) (by kernel_rfl) (by kernel_rfl)
def qgE:=JA_ @q1H.eq_1 (JA_ @Try.f19.eq_1 @qdD)
theorem qms:lbO 19 4=qbz:=zP (qi qdD) rfl
theorem qmf:okL 19 qbz:=z8 qhT (quH (i:=0) (by kernel_rfl))
theorem qny:lbO 19 8=qbv:=zP (qi qdD) rfl
theorem qk8:okL 19 qbv:=z8 qhT (quH (i:=1) (by kernel_rfl))
theorem qhQ:lbO 19 15=q6y:=zP (qi qdD) rfl
theorem qh7:okL 19 q6y:=z8 qhT (quH (i:=2) (by kernel_rfl))
theorem qj4:lbO 19 17=q72:=zP (qi qdD) rfl
theorem qhq:okL 19 q72:=z8 qhT (quH (i:=3) (by kernel_rfl))
theorem qho:lbO 19 25=q7e:=zP (qi qdD) rfl
theorem qiM:okL 19 q7e:=z8 qhT (quH (i:=4) (by kernel_rfl))
theorem qin:lbO 19 32=q6z:=zP (qi qdD) rfl
theorem qi8:okL 19 q6z:=z8 qhT (quH (i:=5) (by kernel_rfl))
theorem quz:okL 23 qc8:=qS (qi qpb) (by kernel_rfl) (by kernel_rfl)
def qsK:=JA_ @qc8.eq_1 (JA_ @Try.f23.eq_1 @qpb)
theorem qsl:okL 38 q8A:=qS (qi qo2) (by kernel_rfl) (by kernel_rfl)
def qrN:=JA_ @q8A.eq_1 (JA_ @Try.f38.eq_1 @qo2)
theorem qkL:lbO 38 4=qa3:=zP (qi qo2) rfl
theorem ql0:okL 38 qa3:=z8 qsl (quH (i:=0) (by kernel_rfl))
def qF (s1:List Int) (s2:List Int) (t12:Int):Int→Option (Int⊕(Unit⊕Unit))|t13=>if t13<t12 then if 0≤t13∧t13<((s1.length:Nat):Int) then Option.bind s1[Int.toNat t13]? fun(a:Int)=>if 0≤t13∧t13<((s2.length:Nat):Int) then Option.bind s2[Int.toNat t13]? fun(a2:Int)=>if(a != a2)=Bool.true then some (Sum.inr (Sum.inl ())) else some (Sum.inl (w64 (t13+1))) else none else none else some (Sum.inr (Sum.inr ()))
theorem Zr:∀(s1 s2:List Int) (t12 t13:Int),XL2 evo 38 0 4 ⟨[(0,rL 1 eI s1),(1,rL 1 eI s2),(12,rI t12),(13,rI t13)],[],0,26⟩=(qB (qF s1 s2 t12) t13).bind (Sum.elim (fun(e:Unit)=>some (Exit.ret,⟨[(4,rB Bool.false)],[],0,26⟩)) (fun(e:Unit)=>some (Exit.exit 0,⟨[(4,R.any)],[],0,26⟩))):=
 fun s1 s2 t12 t13=>by
  revert t13;exact q98 qkL ql0 (fun e=>by rcases e with _|_<;>exact⟨_,rfl,fun h=>by cases h⟩) fun x=>by
   have:=qrN;have:=@qa3.eq_1;have:=@qF.eq_1;exact gA
def zh (s1:List Int) (s2:List Int):Option Bool:=if(((s1.length:Nat):Int) != ((s2.length:Nat):Int))=Bool.true then some Bool.false else Option.bind (qB (qF s1 s2 ((s1.length:Nat):Int)) 0) fun(a:Sum Unit Unit)=>Sum.elim (fun(a2:Unit)=>some Bool.false) (fun(a3:Unit)=>some Bool.true) a
theorem QK:∀(s1 s2:List Int),ev 38 0 [rL 1 eI s1,rL 1 eI s2] []=(zh s1 s2).bind (fun(e:Bool)=>some (rB e,[])):=
 fun s1 s2=>by
  rw[qR qo2 qrJ.2.2.2 qsl]
  have:=qrN;have:=@Zr;have:=@zh.eq_1;exact gA
theorem qsz:okL 48 qaV:=qS (qi qr0) (by kernel_rfl) (by kernel_rfl)
def quk:=JA_ @qaV.eq_1 (JA_ @Try.f48.eq_1 @qr0)
theorem qrV:okL 61 qc3:=qS (qi qog) (by kernel_rfl) (by kernel_rfl)
def qre:=JA_ @qc3.eq_1 (JA_ @Try.f61.eq_1 @qog)
theorem qpa:okL 81 q8E:=qS (qi qn5) (by kernel_rfl) (by kernel_rfl)
def qnX:=JA_ @q8E.eq_1 (JA_ @Try.f81.eq_1 @qn5)
theorem qfJ:lbO 81 2=q7E:=zP (qi qn5) rfl
theorem qgh:okL 81 q7E:=z8 qpa (quH (i:=0) (by kernel_rfl))
theorem qtn:okL 71 qcM:=qS (qi qpB) (by kernel_rfl) (by kernel_rfl)
def qsW:=JA_ @qcM.eq_1 (JA_ @Try.f71.eq_1 @qpB)
theorem qtk:okL 60 qaZ:=qS (qi qpQ) (by kernel_rfl) (by kernel_rfl)
def qtx:=JA_ @qaZ.eq_1 (JA_ @Try.f60.eq_1 @qpQ)
theorem qsw:okL 80 q8q:=qS (qi qoc) (by kernel_rfl) (by kernel_rfl)
def qr7:=JA_ @q8q.eq_1 (JA_ @Try.f80.eq_1 @qoc)
theorem qkJ:lbO 80 2=qaj:=zP (qi qoc) rfl
theorem qnL:okL 80 qaj:=z8 qsw (quH (i:=0) (by kernel_rfl))
def qT (s:List Int) (v:Int) (t7:Int):Int→Option (Int⊕(Int⊕Unit))|t8=>if t8<t7 then if 0≤t8∧t8<((s.length:Nat):Int) then Option.bind s[Int.toNat t8]? fun(a:Int)=>if(v==a)=Bool.true then some (Sum.inr (Sum.inl t8)) else some (Sum.inl (w64 (t8+1))) else none else some (Sum.inr (Sum.inr ()))
theorem Zq:∀(s:List Int) (v t7 t8:Int),XL2 evo 80 0 2 ⟨[(0,rL 1 eI s),(1,rI v),(7,rI t7),(8,rI t8)],[],0,19⟩=(qB (qT s v t7) t8).bind (Sum.elim (fun(e:Int)=>some (Exit.ret,⟨[(4,rI e)],[],0,19⟩)) (fun(e:Unit)=>some (Exit.exit 0,⟨[(4,R.any)],[],0,19⟩))):=
 fun s v t7 t8=>by
  revert t8;exact q98 qkJ qnL (fun e=>by rcases e with _|_<;>exact⟨_,rfl,fun h=>by cases h⟩) fun x=>by
   have:=qr7;have:=@qaj.eq_1;have:=@qT.eq_1;exact gA
def Q4 (s:List Int) (v:Int):Option Int:=Option.bind (qB (qT s v ((s.length:Nat):Int)) 0) fun(a:Sum Int Unit)=>Sum.elim (fun(a2:Int)=>some a2) (fun(a3:Unit)=>some (-1)) a
theorem Jb:∀(s:List Int) (v:Int),ev 80 0 [rL 1 eI s,rI v] []=(Q4 s v).bind (fun(e:Int)=>some (rI e,[])):=
 fun s v=>by
  rw[qR qoc qso.2.2.2 qsw]
  have:=qr7;have:=@Zq;have:=@Q4.eq_1;exact gA
def qU (s:List Int) (v:Int):Option Bool:=Option.bind (Q4 s v) fun(a:Int)=>some (decide (0≤a))
theorem Qw:∀(s:List Int) (v:Int),ev 60 0 [rL 1 eI s,rI v] []=(qU s v).bind (fun(e:Bool)=>some (rB e,[])):=
 fun s v=>by
  rw[qR qpQ qsx.2.2.2 qtk]
  have:=qtx;have:=@Jb;have:=@qU.eq_1;exact gA
def Qv (x:Int) (v:List Int):Option Bool:=Option.bind (qU v x) fun(a:Bool)=>some a
theorem q08:∀(x:Int) (v:List Int),ev 71 1 [rI x,rP 0] [(0,B.blk 25 [dL 1 eI v])]=(Qv x v).bind (fun(e:Bool)=>some (rB e,[(0,B.blk 25 [dL 1 eI v])])):=
 fun x v=>by
  rw[qR qpB qrQ.2.2.2 qtn]
  have:=qsW;have:=@Qw;have:=@Qv.eq_1;exact gA
def qD (b0:List Int) (s:List Int) (t7:Int):Int→Option (Int⊕(Int⊕Unit))|t8=>if t8<t7 then if 0≤t8∧t8<((s.length:Nat):Int) then Option.bind s[Int.toNat t8]? fun(a:Int)=>Option.bind (Qv a b0) fun(a2:Bool)=>if a2=Bool.true then some (Sum.inr (Sum.inl t8)) else some (Sum.inl (w64 (t8+1))) else none else some (Sum.inr (Sum.inr ()))
theorem Z3:∀(b0 s:List Int) (t7 t8:Int),XL2 evo 81 1 2 ⟨[(0,rL 1 eI s),(1,R.c (C.fn 71 [] [dP 0])),(7,rI t7),(8,rI t8)],[(0,B.blk 25 [dL 1 eI b0])],1,19⟩=(qB (qD b0 s t7) t8).bind (Sum.elim (fun(e:Int)=>some (Exit.ret,⟨[(4,rI e)],[(0,B.blk 25 [dL 1 eI b0])],1,19⟩)) (fun(e:Unit)=>some (Exit.exit 0,⟨[(4,R.any)],[(0,B.blk 25 [dL 1 eI b0])],1,19⟩))):=
 fun b0 s t7 t8=>by
  revert t8;exact q98 qfJ qgh (fun e=>by rcases e with _|_<;>exact⟨_,rfl,fun h=>by cases h⟩) fun x=>by
   have:=qnX;have:=@q7E.eq_1;have:=@q08;have:=@qD.eq_1;exact gA
def zC (s:List Int) (b0:List Int):Option Int:=Option.bind (qB (qD b0 s ((s.length:Nat):Int)) 0) fun(a:Sum Int Unit)=>Sum.elim (fun(a2:Int)=>some a2) (fun(a3:Unit)=>some (-1)) a
theorem Zn:∀(s b0:List Int),ev 81 1 [rL 1 eI s,R.c (C.fn 71 [] [dP 0])] [(0,B.blk 25 [dL 1 eI b0])]=(zC s b0).bind (fun(e:Int)=>some (rI e,[(0,B.blk 25 [dL 1 eI b0])])):=
 fun s b0=>by
  rw[qR qn5 qpv.2.2.2 qpa]
  have:=qnX;have:=@Z3;have:=@zC.eq_1;exact gA
def zl (s:List Int) (b0:List Int):Option Bool:=Option.bind (zC s b0) fun(a:Int)=>some (decide (0≤a))
theorem Z2:∀(s b0:List Int),ev 61 1 [rL 1 eI s,R.c (C.fn 71 [] [dP 0])] [(0,B.blk 25 [dL 1 eI b0])]=(zl s b0).bind (fun(e:Bool)=>some (rB e,[(0,B.blk 25 [dL 1 eI b0])])):=
 fun s b0=>by
  rw[qR qog qqu.2.2.2 qrV]
  have:=qre;have:=@Zn;have:=@zl.eq_1;exact gA
def Q3 (a:List Int) (b:List Int):Option Bool:=Option.bind (zl a b) fun(a2:Bool)=>some a2
theorem q1A:∀(a b:List Int),ev 48 0 [rL 1 eI a,rL 1 eI b] []=(Q3 a b).bind (fun(e:Bool)=>some (rB e,[])):=
 fun a b=>by
  rw[qR qr0 qs9.2.2.2 qsz]
  have:=quk;have:=@Z2;have:=@Q3.eq_1;exact gA
def Qm (a:qa) (b:qa):Option Bool:=if(a.Course.School==b.Course.School)=Bool.true∧(ByteArray.toList a.Course.Code==ByteArray.toList b.Course.Code)=Bool.true then some Bool.false else if 0<a.Bundle then if(a.Bundle==b.Bundle)=Bool.true then Option.bind (zh a.Path b.Path) fun(a2:Bool)=>if a2=Bool.true then some Bool.true else Option.bind (Q3 a.Sources b.Sources) fun(a3:Bool)=>some (!a3) else Option.bind (Q3 a.Sources b.Sources) fun(a4:Bool)=>some (!a4) else Option.bind (Q3 a.Sources b.Sources) fun(a5:Bool)=>some (!a5)
theorem QZ:∀(a_Course_School:Int) (a_Course_Code:ByteArray) (a_Credits a_Grade a_Day:Int) (a_Sources:List Int) (a_Bundle:Int) (a_Path:List Int) (b_Course_School:Int) (b_Course_Code:ByteArray) (b_Credits b_Grade b_Day:Int) (b_Sources:List Int) (b_Bundle:Int) (b_Path:List Int),ev 23 0 [R.agg [dI a_Course_School,dS a_Course_Code,dI a_Credits,dI a_Grade,dI a_Day,dL 1 eI a_Sources,dI a_Bundle,dL 1 eI a_Path],R.agg [dI b_Course_School,dS b_Course_Code,dI b_Credits,dI b_Grade,dI b_Day,dL 1 eI b_Sources,dI b_Bundle,dL 1 eI b_Path]] []=(Qm (qa.mk (qb.mk a_Course_School a_Course_Code) a_Credits a_Grade a_Day a_Sources a_Bundle a_Path) (qa.mk (qb.mk b_Course_School b_Course_Code) b_Credits b_Grade b_Day b_Sources b_Bundle b_Path)).bind (fun(e:Bool)=>some (rB e,[])):=
 fun a_Course_School a_Course_Code a_Credits a_Grade a_Day a_Sources a_Bundle a_Path b_Course_School b_Course_Code b_Credits b_Grade b_Day b_Sources b_Bundle b_Path=>by
  rw[qR qpb qrt.2.2.2 quz]
  have:=qsK;have:=@QK;have:=@q1A;have:=@Qm.eq_1;exact gA
def zD (w1:List Int) (t0:List qa) (t5:Int) (t19:Int) (t20:Int) (t27:Int):(List (QM Int)×Int)→Option ((List (QM Int)×Int)⊕(List (QM Int)))|(w0,t28)=>if t28<t27 then if 0≤t28∧t28<((t0.length:Nat):Int) then Option.bind t0[Int.toNat t28]? fun(a:qa)=>if 0≤t5∧t5<((t0.length:Nat):Int) then Option.bind t0[Int.toNat t5]? fun(a2:qa)=>Option.bind (Qm a a2) fun(a3:Bool)=>if(!a3)=Bool.true then if w0.length+1≤maxLen∧(w0.length+1)*16≤140737488355328 then some (Sum.inl (w0++[QM.mk t28 t5],w64 (t28+1))) else none else some (Sum.inl (w0,w64 (t28+1))) else none else none else some (Sum.inr w0)
theorem q0H:∀(w0:List (QM Int)) (w1:List Int) (t0:List qa) (t5 t19 t20 t27 t28:Int) (w0_len w1_len:Nat),w0_len=w0.length→w1_len=w1.length→XL2 evo 19 0 8 ⟨[(0,rL 8 qc t0),(3,rO 0 2 w0_len),(4,rO 1 1 w1_len),(5,rI t5),(19,rI t19),(20,rI t20),(27,rI t27),(28,rI t28)],[(0,bR 81 2 (eA2 eI) w0),(1,bR 3 1 eI w1)],2,128⟩=(qB (zD w1 t0 t5 t19 t20 t27) (w0,t28)).bind (fun(e:List (QM Int))=>some (Exit.exit 2,⟨[(0,rL 8 qc t0),(3,rO 0 2 e.length),(4,rO 1 1 w1.length),(19,rI t19),(20,rI t20)],[(0,bR 81 2 (eA2 eI) e),(1,bR 3 1 eI w1)],2,128⟩)):=
 by
 intro w0 w1 t0 t5 t19 t20 t27 t28 w0_len w1_len h0 h1
 subst h0 h1
 revert t28;revert w0;exact q6A qny qk8 (fun e=>by exact⟨_,rfl,fun h=>by cases h⟩) fun w0 t28=>by
  have:=qgE;have:=@qbv.eq_1;have:=@QZ;have:=@zD.eq_1;exact gA
def zq (t0:List qa) (t19:Int):(List (QM Int)×List Int×Int)→Option ((List (QM Int)×List Int×Int)⊕(List (QM Int)×List Int))|(w0,w1,t20)=>if t20<t19 then if 0≤t20∧t20<((w1.length:Nat):Int) then if Int.toNat t20+1≤w1.length then Option.bind (qB (zD (List.set w1 (Int.toNat t20) t20) t0 t20 t19 t20 t20) (w0,0)) fun(a:List (@QM Int))=>some (Sum.inl (a,List.set w1 (Int.toNat t20) t20,w64 (t20+1))) else none else none else some (Sum.inr (w0,w1))
theorem q0P:∀(w0:List (QM Int)) (w1:List Int) (t0:List qa) (t19 t20:Int) (w0_len w1_len:Nat),w0_len=w0.length→w1_len=w1.length→XL2 evo 19 0 4 ⟨[(0,rL 8 qc t0),(3,rO 0 2 w0_len),(4,rO 1 1 w1_len),(19,rI t19),(20,rI t20)],[(0,bR 81 2 (eA2 eI) w0),(1,bR 3 1 eI w1)],2,128⟩=(qB (zq t0 t19) (w0,w1,t20)).bind (fun(e:List (QM Int)×List Int)=>some (Exit.exit 0,⟨[(0,rL 8 qc t0),(3,rO 0 2 e.1.length),(4,rO 1 1 e.2.length)],[(0,bR 81 2 (eA2 eI) e.1),(1,bR 3 1 eI e.2)],2,128⟩)):=
 by
 intro w0 w1 t0 t19 t20 w0_len w1_len h0 h1
 subst h0 h1
 revert t20;revert w1;revert w0;exact qo6 qms qmf (fun e=>by exact⟨_,rfl,fun h=>by cases h⟩) fun w0 w1 t20=>by
  have:=qgE;have:=@qbz.eq_1;have:=@q0H;have:=@zq.eq_1;exact gA
theorem JE:∀  (w1:List Int) (t0:List qa) (t19 t20:Int) (w1_len:Nat),w1_len=w1.length→XL2 evo 19 0 4 ⟨[(0,rL 8 qc t0),(3,rO 0 2 0),(4,rO 1 1 w1_len),(19,rI t19),(20,rI t20)],[(0,B.row 81 2 []),(1,bR 3 1 eI w1)],2,128⟩=(qB (zq t0 t19) ([],w1,t20)).bind (fun(e:List (QM Int)×List Int)=>some (Exit.exit 0,⟨[(0,rL 8 qc t0),(3,rO 0 2 e.1.length),(4,rO 1 1 e.2.length)],[(0,bR 81 2 (eA2 eI) e.1),(1,bR 3 1 eI e.2)],2,128⟩)):=by
 intro w1 t0 t19 t20 w1_len h0;subst h0;have h:=q0P [] w1 t0 t19 t20 _ _ rfl rfl
 first
  | exact h
  | (simp only[rL,dL,bR,bZ,Nat.reduceAdd] at h;exact h)
def zA (w0:List (QM Int)) (t0:List qa) (t50:Int) (t51:Int) (t54:Int):(List Int×Int)→Option ((List Int×Int)⊕(List Int))|(w1,t55)=>if t55<t54 then if 0≤t55∧t55<((w0.length:Nat):Int) then Option.bind w0[Int.toNat t55]? fun(a:@QM Int)=>if 0≤a.a0∧a.a0<((w1.length:Nat):Int) then Option.bind w1[Int.toNat a.a0]? fun(a2:Int)=>if 0≤a.a1∧a.a1<((w1.length:Nat):Int) then Option.bind w1[Int.toNat a.a1]? fun(a3:Int)=>if 0≤a.a0∧a.a0<((w1.length:Nat):Int) then if Int.toNat a.a0+1≤w1.length then if 0≤a.a1∧a.a1<((w1.length:Nat):Int) then if Int.toNat a.a1+1≤w1.length then some (Sum.inl (List.set (List.set w1 (Int.toNat a.a0) (min a2 a3)) (Int.toNat a.a1) (min a2 a3),w64 (t55+1))) else none else none else none else none else none else none else none else some (Sum.inr w1)
theorem q02:∀(w0:List (QM Int)) (w1:List Int) (t0:List qa) (t50 t51 t54 t55:Int) (w0_len w1_len:Nat),w0_len=w0.length→w1_len=w1.length→XL2 evo 19 0 17 ⟨[(0,rL 8 qc t0),(3,rO 0 2 w0_len),(4,rO 1 1 w1_len),(50,rI t50),(51,rI t51),(53,rO 0 2 w0_len),(54,rI t54),(55,rI t55)],[(0,bR 81 2 (eA2 eI) w0),(1,bR 3 1 eI w1)],2,128⟩=(qB (zA w0 t0 t50 t51 t54) (w1,t55)).bind (fun(e:List Int)=>some (Exit.exit 6,⟨[(0,rL 8 qc t0),(3,rO 0 2 w0.length),(4,rO 1 1 e.length),(50,rI t50),(51,rI t51)],[(0,bR 81 2 (eA2 eI) w0),(1,bR 3 1 eI e)],2,128⟩)):=
 by
 intro w0 w1 t0 t50 t51 t54 t55 w0_len w1_len h0 h1
 subst h0 h1
 revert t55;revert w1;exact q6A qj4 qhq (fun e=>by exact⟨_,rfl,fun h=>by cases h⟩) fun w1 t55=>by
  have:=qgE;have:=@q72.eq_1;have:=@zA.eq_1;exact gA
def zx (w0:List (QM Int)) (t0:List qa) (t50:Int):(List Int×Int)→Option ((List Int×Int)⊕(List Int))|(w1,t51)=>if t51<t50 then Option.bind (qB (zA w0 t0 t50 t51 ((w0.length:Nat):Int)) (w1,0)) fun(a:List Int)=>some (Sum.inl (a,w64 (t51+1))) else some (Sum.inr w1)
theorem q05:∀(w0:List (QM Int)) (w1:List Int) (t0:List qa) (t50 t51:Int) (w0_len w1_len:Nat),w0_len=w0.length→w1_len=w1.length→XL2 evo 19 0 15 ⟨[(0,rL 8 qc t0),(3,rO 0 2 w0_len),(4,rO 1 1 w1_len),(50,rI t50),(51,rI t51)],[(0,bR 81 2 (eA2 eI) w0),(1,bR 3 1 eI w1)],2,128⟩=(qB (zx w0 t0 t50) (w1,t51)).bind (fun(e:List Int)=>some (Exit.exit 4,⟨[(0,rL 8 qc t0),(4,rO 0 1 e.length)],[(0,bR 3 1 eI e)],1,128⟩)):=
 by
 intro w0 w1 t0 t50 t51 w0_len w1_len h0 h1
 subst h0 h1
 revert t51;revert w1;exact q6A qhQ qh7 (fun e=>by exact⟨_,rfl,fun h=>by cases h⟩) fun w1 t51=>by
  have:=qgE;have:=@q6y.eq_1;have:=@q02;have:=@zx.eq_1;exact gA
def zg (w0:List Int) (t83:Int):(List (List Int)×Int)→Option ((List (List Int)×Int)⊕(List (List Int)))|(w1,t84)=>if t84<t83 then if 0≤t84∧t84<((w0.length:Nat):Int) then Option.bind w0[Int.toNat t84]? fun(a:Int)=>if(a==t84)=Bool.true then if w1.length+1≤maxLen∧(w1.length+1)*24≤140737488355328 then some (Sum.inl (w1++[[]],w64 (t84+1))) else none else some (Sum.inl (w1,w64 (t84+1))) else none else some (Sum.inr w1)
theorem q0n:∀(w0:List Int) (w1:List (List Int)) (t83 t84:Int) (w0_len w1_len:Nat),w0_len=w0.length→w1_len=w1.length→XL2 evo 19 0 25 ⟨[(4,rO 0 1 w0_len),(10,rO 1 1 w1_len),(83,rI t83),(84,rI t84)],[(0,bR 3 1 eI w0),(1,B.row 25 1 (w1.flatMap (oL 3 1 eI)))],2,128⟩=(qB (zg w0 t83) (w1,t84)).bind (fun(e:List (List Int))=>some (Exit.exit 8,⟨[(4,rO 0 1 w0.length),(10,rO 1 1 e.length)],[(0,bR 3 1 eI w0),(1,B.row 25 1 (e.flatMap (oL 3 1 eI)))],2,128⟩)):=
 by
 intro w0 w1 t83 t84 w0_len w1_len h0 h1
 subst h0 h1
 revert t84;revert w1;exact q6A qho qiM (fun e=>by exact⟨_,rfl,fun h=>by cases h⟩) fun w1 t84=>by
  have:=qgE;have:=@q7e.eq_1;have:=@zg.eq_1;exact gA
theorem Js:∀  (w0:List Int) (t83 t84:Int) (w0_len:Nat),w0_len=w0.length→XL2 evo 19 0 25 ⟨[(4,rO 0 1 w0_len),(10,rO 1 1 0),(83,rI t83),(84,rI t84)],[(0,bR 3 1 eI w0),(1,B.row 25 1 [])],2,128⟩=(qB (zg w0 t83) ([],t84)).bind (fun(e:List (List Int))=>some (Exit.exit 8,⟨[(4,rO 0 1 w0.length),(10,rO 1 1 e.length)],[(0,bR 3 1 eI w0),(1,B.row 25 1 (e.flatMap (oL 3 1 eI)))],2,128⟩)):=by
 intro w0 t83 t84 w0_len h0;subst h0;have h:=q0n w0 [] t83 t84 _ _ rfl rfl
 first
  | exact h
  | (simp only[rL,dL,bR,bZ,Nat.reduceAdd] at h;exact h)
def zz (w2:List Int) (t99:Int):(List (List Int)×(List (Int×Int))×Int)→Option ((List (List Int)×(List (Int×Int))×Int)⊕(List (List Int)))|(w0,m1,t100)=>if t100<t99 then if 0≤t100∧t100<((w2.length:Nat):Int) then Option.bind w2[Int.toNat t100]? fun(a:Int)=>if(a==t100)=Bool.true then Option.bind w0[Int.toNat (QV 0 (q2k m1 t100 ((m1.length:Nat):Int)) a)]? fun(a2:List Int)=>if 0≤QV 0 (q2k m1 t100 ((m1.length:Nat):Int)) a∧QV 0 (q2k m1 t100 ((m1.length:Nat):Int)) a<((w0.length:Nat):Int) then Option.bind w0[Int.toNat (QV 0 (q2k m1 t100 ((m1.length:Nat):Int)) a)]? fun(a3:List Int)=>if a2.length+1≤maxLen∧(a2.length+1)*8≤140737488355328 then if 0≤QV 0 (q2k m1 t100 ((m1.length:Nat):Int)) a∧QV 0 (q2k m1 t100 ((m1.length:Nat):Int)) a<((w0.length:Nat):Int) then if Int.toNat (QV 0 (q2k m1 t100 ((m1.length:Nat):Int)) a)<w0.length then some (Sum.inl (List.set w0 (Int.toNat (QV 0 (q2k m1 t100 ((m1.length:Nat):Int)) a)) (a2++[t100]),q2k m1 t100 ((m1.length:Nat):Int),w64 (t100+1))) else none else none else none else none else Option.bind w0[Int.toNat (QV 0 m1 a)]? fun(a4:List Int)=>if 0≤QV 0 m1 a∧QV 0 m1 a<((w0.length:Nat):Int) then Option.bind w0[Int.toNat (QV 0 m1 a)]? fun(a5:List Int)=>if a4.length+1≤maxLen∧(a4.length+1)*8≤140737488355328 then if 0≤QV 0 m1 a∧QV 0 m1 a<((w0.length:Nat):Int) then if Int.toNat (QV 0 m1 a)<w0.length then some (Sum.inl (List.set w0 (Int.toNat (QV 0 m1 a)) (a4++[t100]),m1,w64 (t100+1))) else none else none else none else none else none else some (Sum.inr w0)
theorem q0p:∀(w0:List (List Int)) (w2:List Int) (m1:List (Int×Int)) (t99 t100:Int) (w0_len w2_len:Nat),w0_len=w0.length→w2_len=w2.length→XL2 evo 19 0 32 ⟨[(10,rO 0 1 w0_len),(12,R.c (C.hd .map 1)),(98,rO 2 1 w2_len),(99,rI t99),(100,rI t100)],[(0,B.row 25 1 (w0.flatMap (oL 3 1 eI))),(1,B.ob (mpB (Jd .i64) Q5 m1)),(2,bR 3 1 eI w2)],3,128⟩=(qB (zz w2 t99) (w0,m1,t100)).bind (fun(e:List (List Int))=>some (Exit.exit 10,⟨[(10,rO 0 1 e.length)],[(0,B.row 25 1 (e.flatMap (oL 3 1 eI)))],1,128⟩)):=
 by
 intro w0 w2 m1 t99 t100 w0_len w2_len h0 h1
 subst h0 h1
 revert t100;revert m1;revert w0;exact qo6 qin qi8 (fun e=>by exact⟨_,rfl,fun h=>by cases h⟩) fun w0 m1 t100=>by
  have:=qgE;have:=@q6z.eq_1;have:=@zz.eq_1;exact gA
def zY (x0:List qa):Option (List (List Int)):=if 0≤((x0.length:Nat):Int)∧8*((x0.length:Nat):Int)≤281474976710656∧((x0.length:Nat):Int)≤9223372036854775807 then Option.bind (qB (zq x0 ((x0.length:Nat):Int)) ([],(List.replicate x0.length 0,0))) fun(a:Prod (List (@QM Int)) (List Int))=>Option.bind (qB (zx a.1 x0 ((x0.length:Nat):Int)) (a.2,0)) fun(a2:List Int)=>Option.bind (qB (zg a2 ((x0.length:Nat):Int)) ([],0)) fun(a3:List (List Int))=>Option.bind (qB (zz a2 ((a2.length:Nat):Int)) (a3,([],0))) fun(a4:List (List Int))=>some a4 else none
theorem Jo:∀(x0:List qa),ev 19 0 [rL 8 qc x0] []=(zY x0).bind (fun(e:List (List Int))=>some (rL 1 (eL 1 eI) e,[])):=
 fun x0=>by
  rw[qR qdD qrs.2.2.2 qhT]
  have:=qgE;have:=@JE;have:=@q05;have:=@Js;have:=@q0p;have:=@zY.eq_1;exact gA
theorem q0L:∀(x00_Course_School:Int) (x00_Course_Code:ByteArray) (x00_Credits x00_Grade x00_Day x00_Sources0 x00_Bundle x01_Course_School:Int) (x01_Course_Code:ByteArray) (x01_Credits x01_Grade x01_Day x01_Sources0 x01_Bundle x02_Course_School:Int) (x02_Course_Code:ByteArray) (x02_Credits x02_Grade x02_Day x02_Sources0 x02_Bundle x03_Course_School:Int) (x03_Course_Code:ByteArray) (x03_Credits x03_Grade x03_Day x03_Sources0 x03_Bundle:Int) , ev 19 0 [R.c (C.d (D.sl 8 4 [D.int .i64 x00_Course_School,D.str x00_Course_Code,D.int .i64 x00_Credits,D.int .i64 x00_Grade,D.int .i64 x00_Day,D.sl 1 1 [D.int .i64 x00_Sources0],D.int .i64 x00_Bundle,D.sl 1 0 [],D.int .i64 x01_Course_School,D.str x01_Course_Code,D.int .i64 x01_Credits,D.int .i64 x01_Grade,D.int .i64 x01_Day,D.sl 1 1 [D.int .i64 x01_Sources0],D.int .i64 x01_Bundle,D.sl 1 0 [],D.int .i64 x02_Course_School,D.str x02_Course_Code,D.int .i64 x02_Credits,D.int .i64 x02_Grade,D.int .i64 x02_Day,D.sl 1 1 [D.int .i64 x02_Sources0],D.int .i64 x02_Bundle,D.sl 1 0 [],D.int .i64 x03_Course_School,D.str x03_Course_Code,D.int .i64 x03_Credits,D.int .i64 x03_Grade,D.int .i64 x03_Day,D.sl 1 1 [D.int .i64 x03_Sources0],D.int .i64 x03_Bundle,D.sl 1 0 []]))] []=(zY [(qa.mk (qb.mk x00_Course_School x00_Course_Code) x00_Credits x00_Grade x00_Day [x00_Sources0] x00_Bundle ([]:List Int)),(qa.mk (qb.mk x01_Course_School x01_Course_Code) x01_Credits x01_Grade x01_Day [x01_Sources0] x01_Bundle ([]:List Int)),(qa.mk (qb.mk x02_Course_School x02_Course_Code) x02_Credits x02_Grade x02_Day [x02_Sources0] x02_Bundle ([]:List Int)),(qa.mk (qb.mk x03_Course_School x03_Course_Code) x03_Credits x03_Grade x03_Day [x03_Sources0] x03_Bundle ([]:List Int))]).bind (fun(e:List (List Int))=>some (rL 1 (eL 1 eI) e,[])):=by
 intro x00_Course_School x00_Course_Code x00_Credits x00_Grade x00_Day x00_Sources0 x00_Bundle x01_Course_School x01_Course_Code x01_Credits x01_Grade x01_Day x01_Sources0 x01_Bundle x02_Course_School x02_Course_Code x02_Credits x02_Grade x02_Day x02_Sources0 x02_Bundle x03_Course_School x03_Course_Code x03_Credits x03_Grade x03_Day x03_Sources0 x03_Bundle;have h:=Jo [(qa.mk (qb.mk x00_Course_School x00_Course_Code) x00_Credits x00_Grade x00_Day [x00_Sources0] x00_Bundle ([]:List Int)),(qa.mk (qb.mk x01_Course_School x01_Course_Code) x01_Credits x01_Grade x01_Day [x01_Sources0] x01_Bundle ([]:List Int)),(qa.mk (qb.mk x02_Course_School x02_Course_Code) x02_Credits x02_Grade x02_Day [x02_Sources0] x02_Bundle ([]:List Int)),(qa.mk (qb.mk x03_Course_School x03_Course_Code) x03_Credits x03_Grade x03_Day [x03_Sources0] x03_Bundle ([]:List Int))]
 first
  | exact h
  | (simp only[rL,dL,bR,bZ,Nat.reduceAdd] at h;exact h)
theorem qrz:okL 40 q8B:=qS (qi qoq) (by kernel_rfl) (by kernel_rfl)
def qsa:=JA_ @q8B.eq_1 (JA_ @Try.f40.eq_1 @qoq)
theorem qnD:lbO 40 4=qav:=zP (qi qoq) rfl
theorem qkh:okL 40 qav:=z8 qrz (quH (i:=0) (by kernel_rfl))
def zn (a:List Int) (b:List Int):Int→Option (Int⊕(Unit⊕Unit))|k=>if k<((a.length:Nat):Int) then if 0≤k∧k<((a.length:Nat):Int) then Option.bind a[Int.toNat k]? fun(a2:Int)=>if 0≤k∧k<((b.length:Nat):Int) then Option.bind b[Int.toNat k]? fun(a3:Int)=>if(a2 != a3)=Bool.true then some (Sum.inr (Sum.inl ())) else some (Sum.inl (w64 (k+1))) else none else none else some (Sum.inr (Sum.inr ()))
theorem JU:∀(a b:List Int) (k:Int),XL2 evo 40 0 4 ⟨[(0,rL 1 eI a),(1,rL 1 eI b),(5,rI k)],[],0,26⟩=(qB (zn a b) k).bind (Sum.elim (fun(e:Unit)=>some (Exit.ret,⟨[(4,rB Bool.false)],[],0,26⟩)) (fun(e:Unit)=>some (Exit.exit 0,⟨[(4,R.any)],[],0,26⟩))):=
 fun a b k=>by
  revert k;exact q98 qnD qkh (fun e=>by rcases e with _|_<;>exact⟨_,rfl,fun h=>by cases h⟩) fun x=>by
   have:=qsa;have:=@qav.eq_1;have:=@zn.eq_1;exact gA
def Qr (a:List Int) (b:List Int):Option Bool:=if(((a.length:Nat):Int) != ((b.length:Nat):Int))=Bool.true then some Bool.false else Option.bind (qB (zn a b) 0) fun(a2:Sum Unit Unit)=>Sum.elim (fun(a3:Unit)=>some Bool.false) (fun(a4:Unit)=>some Bool.true) a2
theorem q1b:∀(a b:List Int),ev 40 0 [rL 1 eI a,rL 1 eI b] []=(Qr a b).bind (fun(e:Bool)=>some (rB e,[])):=
 fun a b=>by
  rw[qR qoq qry.2.2.2 qrz]
  have:=qsa;have:=@JU;have:=@Qr.eq_1;exact gA
theorem qsm:okL 16 q5I:=qS (qi qm9) (by kernel_rfl) (by kernel_rfl)
def qss:=JA_ @q5I.eq_1 (JA_ @Try.f16.eq_1 @qm9)
theorem qfZ:raO 16 6=q4n:=qmF (qi qm9) rfl
theorem qcc:rbO 16 6=q3n:=qnk (qi qm9) rfl
theorem qfK:okL 16 q4n∧okL 16 q3n:=qlo (key:=0) (q:=(q4n,q3n)) qsm (quH (i:=0) (by kernel_rfl))
theorem qg6:qy (rbO 16 6)=6:=by rw[qcc];exact qnP
theorem ql3:∀k s,XE2 evo 16 k (raO 16 6) s=XE2 evo 16 k q4n s:=fun _ _=>by rw[qfZ]
theorem qnx:∀k s,XE2 evo 16 k (rbO 16 6) s=XE2 evo 16 k q3n s:=fun _ _=>by rw[qcc]
theorem qsD:okL 42 qaT:=qS (qi qpO) (by kernel_rfl) (by kernel_rfl)
def qtA:=JA_ @qaT.eq_1 (JA_ @Try.f42.eq_1 @qpO)
def ZU (l:List qa):Option Unit:=
 some ()
def q0S (l:List qa):Unit:=
 ()
theorem q2x (l:List qa):ZU l=some (q0S l):=by
 unfold ZU q0S
 simp only[q0F]
theorem q3j:∀(l:List qa),ev 42 0 [rL 8 qc l] []=some (R.c (C.fn 66 [] [dP 0]),[(0,B.blk 32 [dL 8 qc l])]):=
 fun l=>by
  have h:ev 42 0 [rL 8 qc l] []=(ZU l).bind (fun(e:Unit)=>some (R.c (C.fn 66 [] [dP 0]),[(0,B.blk 32 [dL 8 qc l])])):=by
   rw[qR qpO qrg.2.2.2 qsD]
   have:=qtA;have:=@ZU.eq_1;exact gA
  rw[q2x] at h
  exact h
theorem qtH:okL 66 qaw:=qS (qi qql) (by kernel_rfl) (by kernel_rfl)
def qtB:=JA_ @qaw.eq_1 (JA_ @Try.f66.eq_1 @qql)
theorem qsb:okL 67 q7S:=qS (qi qoj) (by kernel_rfl) (by kernel_rfl)
def qrD:=JA_ @q7S.eq_1 (JA_ @Try.f67.eq_1 @qoj)
theorem qjN:lbO 67 4=qbt:=zP (qi qoj) rfl
theorem qlt:okL 67 qbt:=z8 qsb (quH (i:=0) (by kernel_rfl))
theorem qrU:okL 22 q7F:=qS (qi qor) (by kernel_rfl) (by kernel_rfl)
def qrH:=JA_ @q7F.eq_1 (JA_ @Try.f22.eq_1 @qor)
theorem qml:lbO 22 3=qcy:=zP (qi qor) rfl
theorem qkE:okL 22 qcy:=z8 qrU (quH (i:=0) (by kernel_rfl))
def Q0 (t6:List qa) (t7:Int):(Int×Int)→Option ((Int×Int)⊕Int)|(n,t8)=>if t8<t7 then if 0≤t8∧t8<((t6.length:Nat):Int) then Option.bind t6[Int.toNat t8]? fun(a:qa)=>some (Sum.inl (w64 (n+a.Credits),w64 (t8+1))) else none else some (Sum.inr n)
theorem q0M:∀(n:Int) (t6:List qa) (t7 t8:Int),XL2 evo 22 0 3 ⟨[(3,rI n),(6,rL 8 qc t6),(7,rI t7),(8,rI t8)],[],0,18⟩=(qB (Q0 t6 t7) (n,t8)).bind (fun(e:Int)=>some (Exit.exit 0,⟨[(3,rI e)],[],0,18⟩)):=
 fun n t6 t7 t8=>by
  revert t8;revert n;exact q6A qml qkE (fun e=>by exact⟨_,rfl,fun h=>by cases h⟩) fun n t8=>by
   have:=qrH;have:=@qcy.eq_1;have:=@Q0.eq_1;exact gA
def QN (l:List qa):Option Int:=Option.bind (qB (Q0 l ((l.length:Nat):Int)) (0,0)) fun(a:Int)=>some a
theorem q1U:∀(l:List qa),ev 22 0 [rL 8 qc l] []=(QN l).bind (fun(e:Int)=>some (rI e,[])):=
 fun l=>by
  rw[qR qor qrE.2.2.2 qrU]
  have:=qrH;have:=@q0M;have:=@QN.eq_1;exact gA
def QB (t11:List qa) (best:Int):Option Int:=Option.bind (QN t11) fun(a:Int)=>some (max best a)
theorem q1x:∀(t11:List qa) (best:Int),evr 16 (raO 16 6) (rbO 16 6) 2 [R.any,R.any,R.any,R.any,rP 0,R.any,R.any,R.any,R.any,R.any,R.any,rL 8 qc t11,R.any,R.any,R.any,R.any,R.any] [(0,B.blk 3 [dI best]),(1,B.ob (AO.lp 16 (R.any::R.any::R.any::R.any::rP 0::q6p) [11] (raO 16 6) (rbO 16 6) LoopState.ready none))]=(QB t11 best).bind (fun(e:Int)=>some (rB Bool.true,[(0,B.blk 3 [dI e]),(1,B.ob (AO.lp 16 (R.any::R.any::R.any::R.any::rP 0::q6p) [11] (raO 16 6) (rbO 16 6) LoopState.ready none))])):=
 fun t11 best=>by
  rw[qgv qfZ qcc (by decide) qkw qfK.1 qfK.2]
  have:=qss;have:=@ql3;have:=@qnx;have:=@q4n.eq_1;have:=@q3n.eq_1;have:=@q1U;have:=@QB.eq_1;have:=@qg6;exact gA
theorem qtI:okL 68 qau:=qS (qi qqa) (by kernel_rfl) (by kernel_rfl)
def qu2:=JA_ @qau.eq_1 (JA_ @Try.f68.eq_1 @qqa)
def qu (s:List qa):Option Unit:=
 some ()
def zi (s:List qa):Unit:=
 ()
theorem Q7 (s:List qa):qu s=some (zi s):=by
 unfold qu zi
 simp only[q0F]
theorem Qa:∀(s:List qa),ev 68 0 [rL 8 qc s] []=some (R.c (C.clp 8 s.length (s.flatMap qc)),[]):=
 fun s=>by
  have h:ev 68 0 [rL 8 qc s] []=(qu s).bind (fun(e:Unit)=>some (R.c (C.clp 8 s.length (s.flatMap qc)),[])):=by
   rw[qR qqa qrk.2.2.2 qtI]
   have:=qu2;have:=@qu.eq_1;exact gA
  rw[Q7] at h
  exact h
theorem qrK:okL 21 q8g:=qS (qi qnV) (by kernel_rfl) (by kernel_rfl)
def qru:=JA_ @q8g.eq_1 (JA_ @Try.f21.eq_1 @qnV)
theorem qm5:lbO 21 2=qaz:=zP (qi qnV) rfl
theorem qm4:okL 21 qaz:=z8 qrK (quH (i:=0) (by kernel_rfl))
theorem que:okL 47 qcS:=qS (qi qqo) (by kernel_rfl) (by kernel_rfl)
def qtC:=JA_ @qcS.eq_1 (JA_ @Try.f47.eq_1 @qqo)
theorem qro:okL 70 q7T:=qS (qi qo8) (by kernel_rfl) (by kernel_rfl)
def qrF:=JA_ @q7T.eq_1 (JA_ @Try.f70.eq_1 @qo8)
theorem qnN:lbO 70 2=qae:=zP (qi qo8) rfl
theorem qnK:okL 70 qae:=z8 qro (quH (i:=0) (by kernel_rfl))
theorem qua:okL 46 qcA:=qS (qi qpU) (by kernel_rfl) (by kernel_rfl)
def qte:=JA_ @qcA.eq_1 (JA_ @Try.f46.eq_1 @qpU)
def Zu (b:qa) (v:qa):Option Bool:=Option.bind (Qm v b) fun(a:Bool)=>some (!a)
theorem q2u:∀(b_Course_School:Int) (b_Course_Code:ByteArray) (b_Credits b_Grade b_Day:Int) (b_Sources:List Int) (b_Bundle:Int) (b_Path:List Int) (v_Course_School:Int) (v_Course_Code:ByteArray) (v_Credits v_Grade v_Day:Int) (v_Sources:List Int) (v_Bundle:Int) (v_Path:List Int),ev 46 1 [R.agg [dI b_Course_School,dS b_Course_Code,dI b_Credits,dI b_Grade,dI b_Day,dL 1 eI b_Sources,dI b_Bundle,dL 1 eI b_Path],rP 0] [(0,B.blk 52 [dI v_Course_School,dS v_Course_Code,dI v_Credits,dI v_Grade,dI v_Day,dL 1 eI v_Sources,dI v_Bundle,dL 1 eI v_Path])]=(Zu (qa.mk (qb.mk b_Course_School b_Course_Code) b_Credits b_Grade b_Day b_Sources b_Bundle b_Path) (qa.mk (qb.mk v_Course_School v_Course_Code) v_Credits v_Grade v_Day v_Sources v_Bundle v_Path)).bind (fun(e:Bool)=>some (rB e,[(0,B.blk 52 [dI v_Course_School,dS v_Course_Code,dI v_Credits,dI v_Grade,dI v_Day,dL 1 eI v_Sources,dI v_Bundle,dL 1 eI v_Path])])):=
 fun b_Course_School b_Course_Code b_Credits b_Grade b_Day b_Sources b_Bundle b_Path v_Course_School v_Course_Code v_Credits v_Grade v_Day v_Sources v_Bundle v_Path=>by
  rw[qR qpU qrW.2.2.2 qua]
  have:=qte;have:=@QZ;have:=@Zu.eq_1;exact gA
def ql (b0:qa) (s:List qa) (t7:Int):Int→Option (Int⊕(Int⊕Unit))|t8=>if t8<t7 then if 0≤t8∧t8<((s.length:Nat):Int) then Option.bind s[Int.toNat t8]? fun(a:qa)=>Option.bind (Zu a b0) fun(a2:Bool)=>if a2=Bool.true then some (Sum.inr (Sum.inl t8)) else some (Sum.inl (w64 (t8+1))) else none else some (Sum.inr (Sum.inr ()))
theorem zL:∀(b0_Course_School:Int) (b0_Course_Code:ByteArray) (b0_Credits b0_Grade b0_Day:Int) (b0_Sources:List Int) (b0_Bundle:Int) (b0_Path:List Int) (s:List qa) (t7 t8:Int),XL2 evo 70 1 2 ⟨[(0,rL 8 qc s),(1,R.c (C.fn 46 [] [dP 0])),(7,rI t7),(8,rI t8)],[(0,B.blk 52 [dI b0_Course_School,dS b0_Course_Code,dI b0_Credits,dI b0_Grade,dI b0_Day,dL 1 eI b0_Sources,dI b0_Bundle,dL 1 eI b0_Path])],1,19⟩=(qB (ql (qa.mk (qb.mk b0_Course_School b0_Course_Code) b0_Credits b0_Grade b0_Day b0_Sources b0_Bundle b0_Path) s t7) t8).bind (Sum.elim (fun(e:Int)=>some (Exit.ret,⟨[(4,rI e)],[(0,B.blk 52 [dI b0_Course_School,dS b0_Course_Code,dI b0_Credits,dI b0_Grade,dI b0_Day,dL 1 eI b0_Sources,dI b0_Bundle,dL 1 eI b0_Path])],1,19⟩)) (fun(e:Unit)=>some (Exit.exit 0,⟨[(4,R.any)],[(0,B.blk 52 [dI b0_Course_School,dS b0_Course_Code,dI b0_Credits,dI b0_Grade,dI b0_Day,dL 1 eI b0_Sources,dI b0_Bundle,dL 1 eI b0_Path])],1,19⟩))):=
 fun b0_Course_School b0_Course_Code b0_Credits b0_Grade b0_Day b0_Sources b0_Bundle b0_Path s t7 t8=>by
  revert t8;exact q98 qnN qnK (fun e=>by rcases e with _|_<;>exact⟨_,rfl,fun h=>by cases h⟩) fun x=>by
   have:=qrF;have:=@qae.eq_1;have:=@q2u;have:=@ql.eq_1;exact gA
def qs (s:List qa) (b0:qa):Option Int:=Option.bind (qB (ql b0 s ((s.length:Nat):Int)) 0) fun(a:Sum Int Unit)=>Sum.elim (fun(a2:Int)=>some a2) (fun(a3:Unit)=>some (-1)) a
theorem zX:∀(s:List qa) (b0_Course_School:Int) (b0_Course_Code:ByteArray) (b0_Credits b0_Grade b0_Day:Int) (b0_Sources:List Int) (b0_Bundle:Int) (b0_Path:List Int),ev 70 1 [rL 8 qc s,R.c (C.fn 46 [] [dP 0])] [(0,B.blk 52 [dI b0_Course_School,dS b0_Course_Code,dI b0_Credits,dI b0_Grade,dI b0_Day,dL 1 eI b0_Sources,dI b0_Bundle,dL 1 eI b0_Path])]=(qs s (qa.mk (qb.mk b0_Course_School b0_Course_Code) b0_Credits b0_Grade b0_Day b0_Sources b0_Bundle b0_Path)).bind (fun(e:Int)=>some (rI e,[(0,B.blk 52 [dI b0_Course_School,dS b0_Course_Code,dI b0_Credits,dI b0_Grade,dI b0_Day,dL 1 eI b0_Sources,dI b0_Bundle,dL 1 eI b0_Path])])):=
 fun s b0_Course_School b0_Course_Code b0_Credits b0_Grade b0_Day b0_Sources b0_Bundle b0_Path=>by
  rw[qR qo8 qst.2.2.2 qro]
  have:=qrF;have:=@zL;have:=@qs.eq_1;exact gA
def qn (s:List qa) (b0:qa):Option Bool:=Option.bind (qs s b0) fun(a:Int)=>some (decide (0≤a))
theorem zM:∀(s:List qa) (b0_Course_School:Int) (b0_Course_Code:ByteArray) (b0_Credits b0_Grade b0_Day:Int) (b0_Sources:List Int) (b0_Bundle:Int) (b0_Path:List Int),ev 47 1 [rL 8 qc s,R.c (C.fn 46 [] [dP 0])] [(0,B.blk 52 [dI b0_Course_School,dS b0_Course_Code,dI b0_Credits,dI b0_Grade,dI b0_Day,dL 1 eI b0_Sources,dI b0_Bundle,dL 1 eI b0_Path])]=(qn s (qa.mk (qb.mk b0_Course_School b0_Course_Code) b0_Credits b0_Grade b0_Day b0_Sources b0_Bundle b0_Path)).bind (fun(e:Bool)=>some (rB e,[(0,B.blk 52 [dI b0_Course_School,dS b0_Course_Code,dI b0_Credits,dI b0_Grade,dI b0_Day,dL 1 eI b0_Sources,dI b0_Bundle,dL 1 eI b0_Path])])):=
 fun s b0_Course_School b0_Course_Code b0_Credits b0_Grade b0_Day b0_Sources b0_Bundle b0_Path=>by
  rw[qR qqo qsk.2.2.2 que]
  have:=qtC;have:=@zX;have:=@qn.eq_1;exact gA
def Qd (l:List qa) (t6:List qa) (t7:Int):Int→Option (Int⊕(Unit⊕Unit))|t8=>if t8<t7 then if 0≤t8∧t8<((t6.length:Nat):Int) then Option.bind t6[Int.toNat t8]? fun(a:qa)=>if 0≤w64 (t8+1)∧w64 (t8+1)≤((l.length:Nat):Int) then Option.bind (qn (List.take (l.length-Int.toNat (w64 (t8+1))) (List.drop (Int.toNat (w64 (t8+1))) l)) a) fun(a2:Bool)=>if a2=Bool.true then some (Sum.inr (Sum.inl ())) else some (Sum.inl (w64 (t8+1))) else none else none else some (Sum.inr (Sum.inr ()))
theorem q2f:∀(l t6:List qa) (t7 t8:Int),XL2 evo 21 0 2 ⟨[(0,rL 8 qc l),(6,rL 8 qc t6),(7,rI t7),(8,rI t8)],[],0,21⟩=(qB (Qd l t6 t7) t8).bind (Sum.elim (fun(e:Unit)=>some (Exit.ret,⟨[(2,rB Bool.false)],[],0,21⟩)) (fun(e:Unit)=>some (Exit.exit 0,⟨[(2,R.any)],[],0,21⟩))):=
 fun l t6 t7 t8=>by
  revert t8;exact q98 qm5 qm4 (fun e=>by rcases e with _|_<;>exact⟨_,rfl,fun h=>by cases h⟩) fun x=>by
   have:=qru;have:=@qaz.eq_1;have:=@zM;have:=@Qd.eq_1;exact gA
def Zb (l:List qa):Option Bool:=Option.bind (qB (Qd l l ((l.length:Nat):Int)) 0) fun(a:Sum Unit Unit)=>Sum.elim (fun(a2:Unit)=>some Bool.false) (fun(a3:Unit)=>some Bool.true) a
theorem q44:∀(l:List qa),ev 21 0 [rL 8 qc l] []=(Zb l).bind (fun(e:Bool)=>some (rB e,[])):=
 fun l=>by
  rw[qR qnV qsu.2.2.2 qrK]
  have:=qru;have:=@q2f;have:=@Zb.eq_1;exact gA
theorem q21:∀(l2:List qa) (l2_len:Nat),l2_len=l2.length→ev 21 0 [R.c (C.d (D.sl 8 l2_len (l2.flatMap qc)))] []=(Zb l2).bind (fun(e:Bool)=>some (rB e,[])):=by
 intro l2 l2_len h0;subst h0;have h:=q44 l2
 first
  | exact h
  | (simp only[rL,dL,bR,bZ,Nat.reduceAdd] at h;exact h)
def zd (x:(List qa×Int×Int×List qa)):List R×List (Nat×B):=([R.c (C.d (D.sl 8 x.1.length (x.1.flatMap qc))),R.c (C.d (D.int .i64 x.2.1)),R.c (C.ptr 0 0),R.c (C.ptr 3 0),R.c (C.ptr 4 0)],[(0,B.blk 60 [C.hd .yield 1]),(1,B.ob (AO.lp 16 [R.any,R.any,R.any,R.any,R.c (C.ptr 2 0),R.any,R.any,R.any,R.any,R.any,R.any,R.any,R.any,R.any,R.any,R.any,R.any] [11] (raO 16 6) (rbO 16 6) LoopState.ready none)),(2,B.blk 3 [C.d (D.int .i64 x.2.2.1)]),(3,B.blk 32 [C.d (D.sl 8 x.2.2.2.length (x.2.2.2.flatMap qc))]),(4,B.blk 105 [C.fn 67 [] [C.ptr 0 0,C.ptr 3 0,C.ptr 4 0]])])
def zo:(Bool×Int×List qa)→R×List (Nat×B):=fun(e:Bool×Int×List qa)=>(R.c (C.d (D.bool e.1)),[(0,B.blk 60 [C.hd .yield 1]),(1,B.ob (AO.lp 16 [R.any,R.any,R.any,R.any,R.c (C.ptr 2 0),R.any,R.any,R.any,R.any,R.any,R.any,R.any,R.any,R.any,R.any,R.any,R.any] [11] (raO 16 6) (rbO 16 6) LoopState.ready none)),(2,B.blk 3 [C.d (D.int .i64 e.2.1)]),(3,B.blk 32 [C.d (D.sl 8 e.2.2.length (e.2.2.flatMap qc))]),(4,B.blk 105 [C.fn 67 [] [C.ptr 0 0,C.ptr 3 0,C.ptr 4 0]])])
def zp (rF:(List qa×Int×Int×List qa)→Option (Bool×Int×List qa)) (set0:List qa):(Int×List qa×Int)→Option ((Int×List qa×Int)⊕((Int×List qa)⊕(Int×List qa)))|(b2,b3,k)=>if k<((b3.length:Nat):Int) then if 0≤k∧k<((b3.length:Nat):Int) then Option.bind b3[Int.toNat k]? fun(a2:qa)=>if set0.length+1≤maxLen∧(set0.length+1)*104≤140737488355328 then Option.bind (Zb (set0++[a2])) fun(a3:Bool)=>if a3=Bool.true then Option.bind (rF (set0++[a2],(w64 (k+1),(b2,b3)))) fun(a4:Prod Bool (Prod Int (List qa)))=>if(!a4.1)=Bool.true then some (Sum.inr (Sum.inl (a4.2.1,a4.2.2))) else some (Sum.inl (a4.2.1,a4.2.2,w64 (k+1))) else some (Sum.inl (b2,b3,w64 (k+1))) else none else none else some (Sum.inr (Sum.inr (b2,b3)))
theorem JZ (rE:Orc) (rF:(List qa×Int×Int×List qa)→Option (Bool×Int×List qa)) (hF:∀y,rE (.fn 67) 5 (zd y).1 (zd y).2=(rF y).bind fun e=>some (zo e)) (hM:∀g k a G,g≠67→rE (.fn g) k a G=ev g k a G) (hR:∀g asg bd k a G,rE (.rd g asg bd) k a G=evr g asg bd k a G):∀(b2:Int) (b3 set0:List qa) (k:Int),XL2 rE 67 5 4 ⟨[(0,rL 8 qc set0),(3,rP 3),(4,rP 4),(8,rI k)],[(0,B.blk 60 [C.hd .yield 1]),(1,B.ob (AO.lp 16 (R.any::R.any::R.any::R.any::rP 2::q6p) [11] (raO 16 6) (rbO 16 6) LoopState.ready none)),(2,B.blk 3 [dI b2]),(3,B.blk 32 [dL 8 qc b3]),(4,B.blk 105 [C.fn 67 [] [dP 0,dP 3,dP 4]])],5,39⟩=(qB (zp rF set0) (b2,b3,k)).bind (Sum.elim (fun(e:Int×List qa)=>some (Exit.ret,⟨[(7,rB Bool.false)],[(0,B.blk 60 [C.hd .yield 1]),(1,B.ob (AO.lp 16 (R.any::R.any::R.any::R.any::rP 2::q6p) [11] (raO 16 6) (rbO 16 6) LoopState.ready none)),(2,B.blk 3 [dI e.1]),(3,B.blk 32 [dL 8 qc e.2]),(4,B.blk 105 [C.fn 67 [] [dP 0,dP 3,dP 4]])],5,39⟩)) (fun(e:Int×List qa)=>some (Exit.exit 0,⟨[(7,R.any)],[(0,B.blk 60 [C.hd .yield 1]),(1,B.ob (AO.lp 16 (R.any::R.any::R.any::R.any::rP 2::q6p) [11] (raO 16 6) (rbO 16 6) LoopState.ready none)),(2,B.blk 3 [dI e.1]),(3,B.blk 32 [dL 8 qc e.2]),(4,B.blk 105 [C.fn 67 [] [dP 0,dP 3,dP 4]])],5,39⟩))):=
 fun b2 b3 set0 k=>by
  revert k;revert b3;revert b2;exact qo6 qjN qlt (fun e=>by rcases e with _|_<;>exact⟨_,rfl,fun h=>by cases h⟩) fun b2 b3 k=>by
   have hF':∀(set0:List qa) (from0 b2:Int) (v:List qa) (set0_len:Nat),set0_len=set0.length→rE (.fn 67) 5 [R.c (C.d (D.sl 8 set0_len (set0.flatMap qc))),rI from0,rP 0,rP 3,rP 4] [(0,B.blk 60 [C.hd .yield 1]),(1,B.ob (AO.lp 16 (R.any::R.any::R.any::R.any::rP 2::q6p) [11] (raO 16 6) (rbO 16 6) LoopState.ready none)),(2,B.blk 3 [dI b2]),(3,B.blk 32 [dL 8 qc v]),(4,B.blk 105 [C.fn 67 [] [dP 0,dP 3,dP 4]])]=(rF (set0,from0,b2,v)).bind (fun e=>some (rB e.1,[(0,B.blk 60 [C.hd .yield 1]),(1,B.ob (AO.lp 16 (R.any::R.any::R.any::R.any::rP 2::q6p) [11] (raO 16 6) (rbO 16 6) LoopState.ready none)),(2,B.blk 3 [dI e.2.1]),(3,B.blk 32 [dL 8 qc e.2.2]),(4,B.blk 105 [C.fn 67 [] [dP 0,dP 3,dP 4]])])):=by intro set0 from0 b2 v set0_len h0;subst h0;exact hF (set0,from0,b2,v)
   have:=qrD;have:=@qbt.eq_1;have:=@Qa;have:=@q21;have:=@zp.eq_1;exact gA
def zJ (rF:(List qa×Int×Int×List qa)→Option (Bool×Int×List qa)):(List qa×Int×Int×List qa)→Option (Bool×Int×List qa)|(set0,from0,b2,v)=>Option.bind (QB set0 b2) fun(a2:Int)=>Option.bind (qB (zp rF set0) (a2,(v,from0))) fun(a3:Sum (Prod Int (List qa)) (Prod Int (List qa)))=>Sum.elim (fun(a4:Prod Int (List qa))=>some (Bool.false,a4.1,a4.2)) (fun(a5:Prod Int (List qa))=>some (Bool.true,a5.1,a5.2)) a3
theorem Zz:q6b 67 5 zd zo zJ:=by
 intro rE rF hF hM hR x
 obtain⟨set0,from0,b2,v⟩:=x
 show q6m rE 67 5 [rL 8 qc set0,rI from0,rP 0,rP 3,rP 4] [(0,B.blk 60 [C.hd .yield 1]),(1,B.ob (AO.lp 16 (R.any::R.any::R.any::R.any::rP 2::q6p) [11] (raO 16 6) (rbO 16 6) LoopState.ready none)),(2,B.blk 3 [dI b2]),(3,B.blk 32 [dL 8 qc v]),(4,B.blk 105 [C.fn 67 [] [dP 0,dP 3,dP 4]])]=_
 have hF':∀(set0:List qa) (from0 b2:Int) (v:List qa) (set0_len:Nat),set0_len=set0.length→rE (.fn 67) 5 [R.c (C.d (D.sl 8 set0_len (set0.flatMap qc))),rI from0,rP 0,rP 3,rP 4] [(0,B.blk 60 [C.hd .yield 1]),(1,B.ob (AO.lp 16 (R.any::R.any::R.any::R.any::rP 2::q6p) [11] (raO 16 6) (rbO 16 6) LoopState.ready none)),(2,B.blk 3 [dI b2]),(3,B.blk 32 [dL 8 qc v]),(4,B.blk 105 [C.fn 67 [] [dP 0,dP 3,dP 4]])]=(rF (set0,from0,b2,v)).bind (fun e=>some (rB e.1,[(0,B.blk 60 [C.hd .yield 1]),(1,B.ob (AO.lp 16 (R.any::R.any::R.any::R.any::rP 2::q6p) [11] (raO 16 6) (rbO 16 6) LoopState.ready none)),(2,B.blk 3 [dI e.2.1]),(3,B.blk 32 [dL 8 qc e.2.2]),(4,B.blk 105 [C.fn 67 [] [dP 0,dP 3,dP 4]])])):=by intro set0 from0 b2 v set0_len h0;subst h0;exact hF (set0,from0,b2,v)
 rw[q5l qoj qsb]
 have:=qrD;have:=@q1x;have:=JZ rE rF hF hM hR;have:=@zJ.eq_1;have:=@zo.eq_1;exact gA
theorem QY:∀x y,zd x=zd y→x=y:=by
 rintro⟨a0,a1,a2,a3⟩ ⟨b0,b1,b2,b3⟩ h
 simp only[zd,Prod.mk.injEq,List.cons.injEq,R.c.injEq,R.agg.injEq,R.tup.injEq,C.d.injEq,C.own.injEq,C.ptr.injEq,C.eptr.injEq,C.clp.injEq,D.int.injEq,D.bool.injEq,D.str.injEq,D.sl.injEq,B.blk.injEq,B.row.injEq,q2O,q1u,JB,q2i,q1L,q3p,q3s,q41,q3l,q3h,q68,q2V,true_and,and_true,qv0] at h
 simp only[h]
theorem JW:∀x y,zo x=zo y→x=y:=by
 rintro⟨a0,a1,a2⟩ ⟨b0,b1,b2⟩ h
 simp only[zo,Prod.mk.injEq,List.cons.injEq,R.c.injEq,R.agg.injEq,R.tup.injEq,C.d.injEq,C.own.injEq,C.ptr.injEq,C.eptr.injEq,C.clp.injEq,D.int.injEq,D.bool.injEq,D.str.injEq,D.sl.injEq,B.blk.injEq,B.row.injEq,q2O,q1u,JB,q2i,q1L,q3p,q3s,q41,q3l,q3h,q68,q2V,true_and,and_true,qv0] at h
 simp only[h]
def zT:(List qa×Int×Int×List qa)→Option (Bool×Int×List qa):=q4i 67 5 zd zo
theorem ZG (x:(List qa×Int×Int×List qa)):zT x=zJ zT x:=qge qqU.2.2.2 QY JW Zz x
theorem q0G (set0:List qa) (from0 b2:Int) (v:List qa):ev 67 5 [rL 8 qc set0,rI from0,rP 0,rP 3,rP 4] [(0,B.blk 60 [C.hd .yield 1]),(1,B.ob (AO.lp 16 (R.any::R.any::R.any::R.any::rP 2::q6p) [11] (raO 16 6) (rbO 16 6) LoopState.ready none)),(2,B.blk 3 [dI b2]),(3,B.blk 32 [dL 8 qc v]),(4,B.blk 105 [C.fn 67 [] [dP 0,dP 3,dP 4]])]=(zT (set0,from0,b2,v)).bind (fun(e:Bool×Int×List qa)=>some (rB e.1,[(0,B.blk 60 [C.hd .yield 1]),(1,B.ob (AO.lp 16 (R.any::R.any::R.any::R.any::rP 2::q6p) [11] (raO 16 6) (rbO 16 6) LoopState.ready none)),(2,B.blk 3 [dI e.2.1]),(3,B.blk 32 [dL 8 qc e.2.2]),(4,B.blk 105 [C.fn 67 [] [dP 0,dP 3,dP 4]])])):=(q7x qqU.2.2.2 QY Zz (set0,from0,b2,v))
theorem q00:∀  (from0 b2:Int) (v:List qa),ev 67 5 [R.c (C.d (D.sl 8 0 [])),rI from0,rP 0,rP 3,rP 4] [(0,B.blk 60 [C.hd .yield 1]),(1,B.ob (AO.lp 16 (R.any::R.any::R.any::R.any::rP 2::q6p) [11] (raO 16 6) (rbO 16 6) LoopState.ready none)),(2,B.blk 3 [dI b2]),(3,B.blk 32 [dL 8 qc v]),(4,B.blk 105 [C.fn 67 [] [dP 0,dP 3,dP 4]])]=(zT ([],from0,b2,v)).bind (fun(e:Bool×Int×List qa)=>some (rB e.1,[(0,B.blk 60 [C.hd .yield 1]),(1,B.ob (AO.lp 16 (R.any::R.any::R.any::R.any::rP 2::q6p) [11] (raO 16 6) (rbO 16 6) LoopState.ready none)),(2,B.blk 3 [dI e.2.1]),(3,B.blk 32 [dL 8 qc e.2.2]),(4,B.blk 105 [C.fn 67 [] [dP 0,dP 3,dP 4]])])):=by
 intro from0 b2 v;have h:=q0G [] from0 b2 v
 first
  | exact h
  | (simp only[rL,dL,bR,bZ,Nat.reduceAdd] at h;exact h)
def Ze (b1:Int) (v:List qa):Option (Int×List qa):=Option.bind (zT ([],(0,(b1,v)))) fun(a:Prod Bool (Prod Int (List qa)))=>some (a.2.1,a.2.2)
theorem q2b:∀(b1:Int) (v:List qa),ev 66 3 [R.c (C.hd .yield 0),rP 2] [(0,B.ob (AO.lp 16 (R.any::R.any::R.any::R.any::rP 1::q6p) [11] (raO 16 6) (rbO 16 6) LoopState.ready none)),(1,B.blk 3 [dI b1]),(2,B.blk 32 [dL 8 qc v])]=(Ze b1 v).bind (fun(e:Int×List qa)=>some (R.tup [],[(0,B.ob (AO.lp 16 (R.any::R.any::R.any::R.any::rP 1::q6p) [11] (raO 16 6) (rbO 16 6) LoopState.ready none)),(1,B.blk 3 [dI e.1]),(2,B.blk 32 [dL 8 qc e.2])])):=
 fun b1 v=>by
  rw[qR qql qrO.2.2.2 qtH]
  have:=qtB;have:=@q00;have:=@Ze.eq_1;exact gA
def Qz (l:List qa):Option (Int×Int):=if 10<((l.length:Nat):Int) then some (0,2) else Option.bind (Ze 0 l) fun(a:Prod Int (List qa))=>some (a.1,0)
theorem q3e:∀(l:List qa),ev 16 0 [rL 8 qc l] []=(Qz l).bind (fun(e:Int×Int)=>some (R.tup [rI e.1,rI e.2],[])):=
 fun l=>by
  rw[qR qm9 qra.2.2.2 qsm]
  have:=qss;have:=@q3j;have:=@q2b;have:=@Qz.eq_1;have:=@qg6;exact gA
theorem q1l:∀(l0_Course_School:Int) (l0_Course_Code:ByteArray) (l0_Credits l0_Grade l0_Day l0_Sources0 l0_Bundle l1_Course_School:Int) (l1_Course_Code:ByteArray) (l1_Credits l1_Grade l1_Day l1_Sources0 l1_Bundle l2_Course_School:Int) (l2_Course_Code:ByteArray) (l2_Credits l2_Grade l2_Day l2_Sources0 l2_Bundle:Int) , ev 16 0 [R.c (C.d (D.sl 8 3 [D.int .i64 l0_Course_School,D.str l0_Course_Code,D.int .i64 l0_Credits,D.int .i64 l0_Grade,D.int .i64 l0_Day,D.sl 1 1 [D.int .i64 l0_Sources0],D.int .i64 l0_Bundle,D.sl 1 0 [],D.int .i64 l1_Course_School,D.str l1_Course_Code,D.int .i64 l1_Credits,D.int .i64 l1_Grade,D.int .i64 l1_Day,D.sl 1 1 [D.int .i64 l1_Sources0],D.int .i64 l1_Bundle,D.sl 1 0 [],D.int .i64 l2_Course_School,D.str l2_Course_Code,D.int .i64 l2_Credits,D.int .i64 l2_Grade,D.int .i64 l2_Day,D.sl 1 1 [D.int .i64 l2_Sources0],D.int .i64 l2_Bundle,D.sl 1 0 []]))] []=(Qz [(qa.mk (qb.mk l0_Course_School l0_Course_Code) l0_Credits l0_Grade l0_Day [l0_Sources0] l0_Bundle ([]:List Int)),(qa.mk (qb.mk l1_Course_School l1_Course_Code) l1_Credits l1_Grade l1_Day [l1_Sources0] l1_Bundle ([]:List Int)),(qa.mk (qb.mk l2_Course_School l2_Course_Code) l2_Credits l2_Grade l2_Day [l2_Sources0] l2_Bundle ([]:List Int))]).bind (fun(e:Int×Int)=>some (R.tup [rI e.1,rI e.2],[])):=by
 intro l0_Course_School l0_Course_Code l0_Credits l0_Grade l0_Day l0_Sources0 l0_Bundle l1_Course_School l1_Course_Code l1_Credits l1_Grade l1_Day l1_Sources0 l1_Bundle l2_Course_School l2_Course_Code l2_Credits l2_Grade l2_Day l2_Sources0 l2_Bundle;have h:=q3e [(qa.mk (qb.mk l0_Course_School l0_Course_Code) l0_Credits l0_Grade l0_Day [l0_Sources0] l0_Bundle ([]:List Int)),(qa.mk (qb.mk l1_Course_School l1_Course_Code) l1_Credits l1_Grade l1_Day [l1_Sources0] l1_Bundle ([]:List Int)),(qa.mk (qb.mk l2_Course_School l2_Course_Code) l2_Credits l2_Grade l2_Day [l2_Sources0] l2_Bundle ([]:List Int))]
 first
  | exact h
  | (simp only[rL,dL,bR,bZ,Nat.reduceAdd] at h;exact h)
theorem qof:okL 11 q62:=qS (qi qjq) (by kernel_rfl) (by kernel_rfl)
def qo7:=JA_ @q62.eq_1 (JA_ @Try.f11.eq_1 @qjq)
theorem qfY:lbO 11 3=q8m:=zP (qi qjq) rfl
theorem qgi:okL 11 q8m:=z8 qof (quH (i:=0) (by kernel_rfl))
theorem qgc:lbO 11 9=q8a:=zP (qi qjq) rfl
theorem qgn:okL 11 q8a:=z8 qof (quH (i:=1) (by kernel_rfl))
theorem qta:okL 25 qcC:=qS (qi qpc) (by kernel_rfl) (by kernel_rfl)
def quE:=JA_ @qcC.eq_1 (JA_ @Try.f25.eq_1 @qpc)
theorem qt4:okL 50 qcv:=qS (qi qq9) (by kernel_rfl) (by kernel_rfl)
def qu5:=JA_ @qcv.eq_1 (JA_ @Try.f50.eq_1 @qq9)
theorem qsN:okL 76 qdl:=qS (qi qpo) (by kernel_rfl) (by kernel_rfl)
def quj:=JA_ @qdl.eq_1 (JA_ @Try.f76.eq_1 @qpo)
def Zo (n:Int) (by0:Int):Option Int:=if by0=0 then none else if by0=0 then none else if by0=0 then none else some (w64 (Int.tdiv (w64 (n-Int.tmod (w64 (Int.tmod n by0+by0)) by0)) by0))
theorem q2z:∀(n by0:Int),ev 76 0 [rI n,rI by0] []=(Zo n by0).bind (fun(e:Int)=>some (rI e,[])):=
 fun n by0=>by
  rw[qR qpo qsc.2.2.2 qsN]
  have:=quj;have:=@Zo.eq_1;exact gA
def JL (day:Int):Option Int:=if day<(-4611686018427387904) then Option.bind (Zo (w64 (day+100)) 100) fun(a:Int)=>some (w64 (a-1)) else Option.bind (Zo day 100) fun(e0:Int)=>some e0
theorem q4c:∀(day:Int),ev 50 0 [rI day] []=(JL day).bind (fun(e:Int)=>some (rI e,[])):=
 fun day=>by
  rw[qR qq9 qrZ.2.2.2 qt4]
  have:=qu5;have:=@q2z;have:=@JL.eq_1;exact gA
def qG (p:qf) (a:qa) (day:Int):Option Bool:=if 0<p.Age then Option.bind (JL day) fun(a2:Int)=>Option.bind (JL a.Day) fun(a3:Int)=>some (decide (p.Age<w64 (a2-a3))) else some Bool.false
theorem q0v:∀(p_School p_Id p_Version p_From:Int) (p_Name:ByteArray) (p_Need_Kind p_Need_N p_Need_Min:Int) (p_Need_Set:List qb) (p_Need_L:List qg) (p_Total p_Own p_Age:Int) (p_Exclude:List (QM qb)) (a_Course_School:Int) (a_Course_Code:ByteArray) (a_Credits a_Grade a_Day:Int) (a_Sources:List Int) (a_Bundle:Int) (a_Path:List Int) (day:Int),ev 25 0 [R.agg [dI p_School,dI p_Id,dI p_Version,dI p_From,dS p_Name,dI p_Need_Kind,dI p_Need_N,dI p_Need_Min,dL 2 qj p_Need_Set,dL 5 qr p_Need_L,dI p_Total,dI p_Own,dI p_Age,dL 4 (eA2 qj) p_Exclude],R.agg [dI a_Course_School,dS a_Course_Code,dI a_Credits,dI a_Grade,dI a_Day,dL 1 eI a_Sources,dI a_Bundle,dL 1 eI a_Path],rI day] []=(qG (qf.mk p_School p_Id p_Version p_From p_Name (qg.mk p_Need_Kind p_Need_N p_Need_Min p_Need_Set p_Need_L) p_Total p_Own p_Age p_Exclude) (qa.mk (qb.mk a_Course_School a_Course_Code) a_Credits a_Grade a_Day a_Sources a_Bundle a_Path) day).bind (fun(e:Bool)=>some (rB e,[])):=
 fun p_School p_Id p_Version p_From p_Name p_Need_Kind p_Need_N p_Need_Min p_Need_Set p_Need_L p_Total p_Own p_Age p_Exclude a_Course_School a_Course_Code a_Credits a_Grade a_Day a_Sources a_Bundle a_Path day=>by
  rw[qR qpc qri.2.2.2 qta]
  have:=quE;have:=@q4c;have:=@qG.eq_1;exact gA
theorem qtS:okL 31 qbY:=qS (qi qqY) (by kernel_rfl) (by kernel_rfl)
def qtc:=JA_ @qbY.eq_1 (JA_ @Try.f31.eq_1 @qqY)
def qW (s:List Int):Option Unit:=if s.length≤maxLen∧s.length*8≤140737488355328 then some () else none
theorem QJ:∀(s:List Int),ev 57 0 [rL 1 eI s] []=(qW s).bind (fun(e:Unit)=>some (rO 0 1 s.length,[(0,bR 3 1 eI s)])):=
 fun s=>by
  rw[qdT,qsr.2.2.2]
  have:=@qW.eq_1;exact gA
def qv (a:qa):Option Unit:=Option.bind (qW a.Sources) fun(a2:Unit)=>Option.bind (qW a.Path) fun(a3:Unit)=>some ()
theorem Jt:∀(a_Course_School:Int) (a_Course_Code:ByteArray) (a_Credits a_Grade a_Day:Int) (a_Sources:List Int) (a_Bundle:Int) (a_Path:List Int),ev 31 0 [R.agg [dI a_Course_School,dS a_Course_Code,dI a_Credits,dI a_Grade,dI a_Day,dL 1 eI a_Sources,dI a_Bundle,dL 1 eI a_Path]] []=(qv (qa.mk (qb.mk a_Course_School a_Course_Code) a_Credits a_Grade a_Day a_Sources a_Bundle a_Path)).bind (fun(e:Unit)=>some (R.agg [dI a_Course_School,dS a_Course_Code,dI a_Credits,dI a_Grade,dI a_Day,dL 1 eI a_Sources,dI a_Bundle,dL 1 eI a_Path],[])):=
 fun a_Course_School a_Course_Code a_Credits a_Grade a_Day a_Sources a_Bundle a_Path=>by
  rw[qR qqY qsg.2.2.2 qtS]
  have:=qtc;have:=@QJ;have:=@qv.eq_1;exact gA
theorem qsj:okL 32 q8l:=qS (qi qoy) (by kernel_rfl) (by kernel_rfl)
def qrS:=JA_ @q8l.eq_1 (JA_ @Try.f32.eq_1 @qoy)
theorem qmY:lbO 32 3=qd5:=zP (qi qoy) rfl
theorem qlZ:okL 32 qd5:=z8 qsj (quH (i:=0) (by kernel_rfl))
theorem qqO:okL 58 q5J:=qS (qi qlG) (by kernel_rfl) (by kernel_rfl)
def qqI:=JA_ @q5J.eq_1 (JA_ @Try.f58.eq_1 @qlG)
theorem qmz:lbO 58 3=qbB:=zP (qi qlG) rfl
theorem qmN:okL 58 qbB:=z8 qqO (quH (i:=0) (by kernel_rfl))
theorem qk4:lbO 58 8=qbi:=zP (qi qlG) rfl
theorem qmG:okL 58 qbi:=z8 qqO (quH (i:=1) (by kernel_rfl))
def zN (s:List Int):Option (List Int):=
 some (@cpI s)
def qC (s:List Int):List Int:=
 @cpI s
theorem Zt (s:List Int):zN s=some (qC s):=by
 unfold zN qC
 simp only[q0F]
theorem ZD:∀(s:List Int) (s_len:Nat),s_len=s.length→ev 79 0 [rO 0 1 s_len] [(0,bR 3 1 eI s)]=some (rO 0 1 (qC s).length,[(0,B.row 3 1 (((qC s).flatMap eI).map C.d))]):=
 by
 intro s s_len h0
 subst h0
 have h:ev 79 0 [rO 0 1 s.length] [(0,bR 3 1 eI s)]=(zN s).bind (fun(e:List Int)=>some (rO 0 1 e.length,[(0,bR 3 1 eI e)])):=by
  rw[qdT,qs2.2.2.2]
  have:=@zN.eq_1;exact gA
 rw[Zt] at h
 exact h
def Qf (w1:List Int) (t10:List qa) (t11:Int) (t12:Int) (t23:Int):((List (Int×Int))×Int)→Option (((List (Int×Int))×Int)⊕((List (Int×Int))))|(m0,t24)=>if t24<t23 then if 0≤t24∧t24<((w1.length:Nat):Int) then Option.bind w1[Int.toNat t24]? fun(a:Int)=>some (Sum.inl (q2k m0 a (w64 (QV 0 m0 a+1)),w64 (t24+1))) else none else some (Sum.inr m0)
theorem q1V:∀(w1:List Int) (m0:List (Int×Int)) (t10:List qa) (t11 t12 t23 t24:Int) (w1_len:Nat),w1_len=w1.length→XL2 evo 58 0 8 ⟨[(3,R.c (C.hd .map 0)),(10,rL 8 qc t10),(11,rI t11),(12,rI t12),(22,rO 1 1 w1_len),(23,rI t23),(24,rI t24)],[(0,B.ob (mpB (Jd .i64) Q5 m0)),(1,bR 3 1 eI w1)],2,35⟩=(qB (Qf w1 t10 t11 t12 t23) (m0,t24)).bind (fun(e:(List (Int×Int)))=>some (Exit.exit 2,⟨[(3,R.c (C.hd .map 0)),(10,rL 8 qc t10),(11,rI t11),(12,rI t12)],[(0,B.ob (mpB (Jd .i64) Q5 e))],1,35⟩)):=
 by
 intro w1 m0 t10 t11 t12 t23 t24 w1_len h0
 subst h0
 revert t24;revert m0;exact q6A qk4 qmG (fun e=>by exact⟨_,rfl,fun h=>by cases h⟩) fun m0 t24=>by
  have:=qqI;have:=@qbi.eq_1;have:=@Qf.eq_1;exact gA
def Qs (t10:List qa) (t11:Int):((List (Int×Int))×Int)→Option (((List (Int×Int))×Int)⊕((List (Int×Int))))|(m0,t12)=>if t12<t11 then if 0≤t12∧t12<((t10.length:Nat):Int) then Option.bind t10[Int.toNat t12]? fun(a:qa)=>Option.bind (qW a.Sources) fun(a2:Unit)=>if a.Sources.length<4611686018427387904 then Option.bind (qB (Qf (qC (@Zs a.Sources)) t10 t11 t12 (((qC (@Zs a.Sources)).length:Nat):Int)) (m0,0)) fun(a3:List (Prod Int Int))=>some (Sum.inl (a3,w64 (t12+1))) else none else none else some (Sum.inr m0)
theorem q1Z:∀(m0:List (Int×Int)) (t10:List qa) (t11 t12:Int),XL2 evo 58 0 3 ⟨[(3,R.c (C.hd .map 0)),(10,rL 8 qc t10),(11,rI t11),(12,rI t12)],[(0,B.ob (mpB (Jd .i64) Q5 m0))],1,35⟩=(qB (Qs t10 t11) (m0,t12)).bind (fun(e:(List (Int×Int)))=>some (Exit.exit 0,⟨[(3,R.c (C.hd .map 0))],[(0,B.ob (mpB (Jd .i64) Q5 e))],1,35⟩)):=
 fun m0 t10 t11 t12=>by
  revert t12;revert m0;exact q6A qmz qmN (fun e=>by exact⟨_,rfl,fun h=>by cases h⟩) fun m0 t12=>by
   have:=qqI;have:=@qbB.eq_1;have:=@QJ;have:=@ZD;have:=@q1V;have:=@Qs.eq_1;exact gA
def Zy (l:List qa):Option ((List (Int×Int))):=Option.bind (qB (Qs l ((l.length:Nat):Int)) ([],0)) fun(a:List (Prod Int Int))=>some a
theorem q4f:∀(l:List qa),ev 58 0 [rL 8 qc l] []=(Zy l).bind (fun(e:(List (Int×Int)))=>some (R.c (C.hd .map 0),[(0,B.ob (mpB (Jd .i64) Q5 e))])):=
 fun l=>by
  rw[qR qlG qrc.2.2.2 qqO]
  have:=qqI;have:=@q1Z;have:=@Zy.eq_1;exact gA
theorem qul:okL 14 qcD:=qS (qi qq2) (by kernel_rfl) (by kernel_rfl)
def qt5:=JA_ @qcD.eq_1 (JA_ @Try.f14.eq_1 @qq2)
theorem qtJ:okL 39 qb3:=qS (qi qpT) (by kernel_rfl) (by kernel_rfl)
def qtR:=JA_ @qb3.eq_1 (JA_ @Try.f39.eq_1 @qpT)
theorem qug:okL 64 qa0:=qS (qi qpm) (by kernel_rfl) (by kernel_rfl)
def quf:=JA_ @qa0.eq_1 (JA_ @Try.f64.eq_1 @qpm)
theorem qs4:okL 84 q8v:=qS (qi qnS) (by kernel_rfl) (by kernel_rfl)
def qrn:=JA_ @q8v.eq_1 (JA_ @Try.f84.eq_1 @qnS)
theorem qmc:lbO 84 2=qaN:=zP (qi qnS) rfl
theorem qmZ:okL 84 qaN:=z8 qs4 (quH (i:=0) (by kernel_rfl))
theorem qtd:okL 85 qcm:=qS (qi qoW) (by kernel_rfl) (by kernel_rfl)
def quF:=JA_ @qcm.eq_1 (JA_ @Try.f85.eq_1 @qoW)
def Qq (n:Int) (a:Int) (b:Int):Option Int:=
 some (max (min a b) (min n (max a b)))
def qL (n:Int) (a:Int) (b:Int):Int:=
 max (min a b) (min n (max a b))
theorem JF (n a b:Int):Qq n a b=some (qL n a b):=by
 unfold Qq qL
 simp only[q0F]
theorem Qu:∀(n a b:Int),ev 85 0 [rI n,rI a,rI b] []=some (rI (qL n a b),[]):=
 fun n a b=>by
  have h:ev 85 0 [rI n,rI a,rI b] []=(Qq n a b).bind (fun(e:Int)=>some (rI e,[])):=by
   rw[qR qoW qrX.2.2.2 qtd]
   have:=quF;have:=@Qq.eq_1;exact gA
  rw[JF] at h
  exact h
end
noncomputable section
open Go.RowKit
set_option maxRecDepth 20000
set_option maxHeartbeats 8000000
def zU (w1:List Int) (s:qe) (t10:Int):Int→Option (Int⊕(Unit⊕Unit))|t11=>if t11<t10 then if 0≤t11∧t11<((w1.length:Nat):Int) then Option.bind w1[Int.toNat t11]? fun(a:Int)=>if(qL a (-1000) 1000 != a)=Bool.true then some (Sum.inr (Sum.inl ())) else some (Sum.inl (w64 (t11+1))) else none else some (Sum.inr (Sum.inr ()))
theorem q13:∀(w1:List Int) (s_Worst s_Best s_Pass t10 t11:Int) (w1_len:Nat),w1_len=w1.length→XL2 evo 84 0 2 ⟨[(1,rP 0),(9,rO 1 1 w1_len),(10,rI t10),(11,rI t11)],[(0,B.blk 30 [dI s_Worst,dI s_Best,dI s_Pass]),(1,bR 3 1 eI w1)],2,37⟩=(qB (zU w1 (qe.mk s_Worst s_Best s_Pass) t10) t11).bind (Sum.elim (fun(e:Unit)=>some (Exit.ret,⟨[(1,rP 0),(2,rI 10)],[(0,B.blk 30 [dI s_Worst,dI s_Best,dI s_Pass])],1,37⟩)) (fun(e:Unit)=>some (Exit.exit 0,⟨[(1,rP 0),(2,R.any)],[(0,B.blk 30 [dI s_Worst,dI s_Best,dI s_Pass])],1,37⟩))):=
 by
 intro w1 s_Worst s_Best s_Pass t10 t11 w1_len h0
 subst h0
 revert t11;exact q98 qmc qmZ (fun e=>by rcases e with _|_<;>exact⟨_,rfl,fun h=>by cases h⟩) fun x=>by
  have:=qrn;have:=@qaN.eq_1;have:=@Qu;have:=@zU.eq_1;exact gA
theorem JT:∀(w10 w11 s_Worst s_Best s_Pass t10 t11:Int),XL2 evo 84 0 2 ⟨[(1,rP 0),(9,rO 1 1 2),(10,rI t10),(11,rI t11)],[(0,B.blk 30 [dI s_Worst,dI s_Best,dI s_Pass]),(1,B.row 3 1 [dI w10,dI w11])],2,37⟩=(qB (zU [w10,w11] (qe.mk s_Worst s_Best s_Pass) t10) t11).bind (Sum.elim (fun(e:Unit)=>some (Exit.ret,⟨[(1,rP 0),(2,rI 10)],[(0,B.blk 30 [dI s_Worst,dI s_Best,dI s_Pass])],1,37⟩)) (fun(e:Unit)=>some (Exit.exit 0,⟨[(1,rP 0),(2,R.any)],[(0,B.blk 30 [dI s_Worst,dI s_Best,dI s_Pass])],1,37⟩))):=by
 intro w10 w11 s_Worst s_Best s_Pass t10 t11;have h:=q13 [w10,w11] ((qe.mk s_Worst s_Best s_Pass)).Worst ((qe.mk s_Worst s_Best s_Pass)).Best ((qe.mk s_Worst s_Best s_Pass)).Pass t10 t11 _ rfl
 first
  | exact h
  | (simp only[rL,dL,bR,bZ,Nat.reduceAdd] at h;exact h)
def Z0 (s:qe):Option Int:=Option.bind (qB (zU [s.Worst,s.Best] s 2) 0) fun(a:Sum Unit Unit)=>Sum.elim (fun(a2:Unit)=>some 10) (fun(a3:Unit)=>if(s.Worst==s.Best)=Bool.true then some 10 else if(qL s.Pass s.Worst s.Best != s.Pass)=Bool.true then some 10 else some 0) a
theorem q2B:∀(s_Worst s_Best s_Pass:Int),ev 84 0 [R.agg [dI s_Worst,dI s_Best,dI s_Pass]] []=(Z0 (qe.mk s_Worst s_Best s_Pass)).bind (fun(e:Int)=>some (rI e,[])):=
 fun s_Worst s_Best s_Pass=>by
  rw[qR qnS qrf.2.2.2 qs4]
  have:=qrn;have:=@JT;have:=@Qu;have:=@Z0.eq_1;exact gA
def QW (s:qe) (g:Int):Option Bool:=Option.bind (Z0 s) fun(a:Int)=>if(a==0)=Bool.true then some (qL g s.Worst s.Best==g) else some Bool.false
theorem q2C:∀(s_Worst s_Best s_Pass g:Int),ev 64 0 [R.agg [dI s_Worst,dI s_Best,dI s_Pass],rI g] []=(QW (qe.mk s_Worst s_Best s_Pass) g).bind (fun(e:Bool)=>some (rB e,[])):=
 fun s_Worst s_Best s_Pass g=>by
  rw[qR qpm qsf.2.2.2 qug]
  have:=quf;have:=@q2B;have:=@Qu;have:=@QW.eq_1;exact gA
def QA (s:qe) (g:Int) (min:Int):Option Bool:=Option.bind (QW s g) fun(a:Bool)=>if a=Bool.true then if(g==min)=Bool.true then some Bool.true else some (decide (min<g)==decide (s.Worst<s.Best)) else some Bool.false
theorem q1i:∀(s_Worst s_Best s_Pass g min:Int),ev 39 0 [R.agg [dI s_Worst,dI s_Best,dI s_Pass],rI g,rI min] []=(QA (qe.mk s_Worst s_Best s_Pass) g min).bind (fun(e:Bool)=>some (rB e,[])):=
 fun s_Worst s_Best s_Pass g min=>by
  rw[qR qpT qrb.2.2.2 qtJ]
  have:=qtR;have:=@q2C;have:=@QA.eq_1;exact gA
def QH (s:qe) (a:qa) (b:qa):Option Bool:=if(a.Course.School==b.Course.School)=Bool.true∧(ByteArray.toList a.Course.Code==ByteArray.toList b.Course.Code)=Bool.true then if(a.Bundle==b.Bundle)=Bool.true then Option.bind (zh a.Path b.Path) fun(a2:Bool)=>if a2=Bool.true then if b.Credits≤a.Credits then if b.Day≤a.Day then Option.bind (QA s a.Grade b.Grade) fun(e0:Bool)=>some e0 else some Bool.false else some Bool.false else some Bool.false else some Bool.false else some Bool.false
theorem q2c:∀(s_Worst s_Best s_Pass a_Course_School:Int) (a_Course_Code:ByteArray) (a_Credits a_Grade a_Day:Int) (a_Sources:List Int) (a_Bundle:Int) (a_Path:List Int) (b_Course_School:Int) (b_Course_Code:ByteArray) (b_Credits b_Grade b_Day:Int) (b_Sources:List Int) (b_Bundle:Int) (b_Path:List Int),ev 14 0 [R.agg [dI s_Worst,dI s_Best,dI s_Pass],R.agg [dI a_Course_School,dS a_Course_Code,dI a_Credits,dI a_Grade,dI a_Day,dL 1 eI a_Sources,dI a_Bundle,dL 1 eI a_Path],R.agg [dI b_Course_School,dS b_Course_Code,dI b_Credits,dI b_Grade,dI b_Day,dL 1 eI b_Sources,dI b_Bundle,dL 1 eI b_Path]] []=(QH (qe.mk s_Worst s_Best s_Pass) (qa.mk (qb.mk a_Course_School a_Course_Code) a_Credits a_Grade a_Day a_Sources a_Bundle a_Path) (qa.mk (qb.mk b_Course_School b_Course_Code) b_Credits b_Grade b_Day b_Sources b_Bundle b_Path)).bind (fun(e:Bool)=>some (rB e,[])):=
 fun s_Worst s_Best s_Pass a_Course_School a_Course_Code a_Credits a_Grade a_Day a_Sources a_Bundle a_Path b_Course_School b_Course_Code b_Credits b_Grade b_Day b_Sources b_Bundle b_Path=>by
  rw[qR qq2 qse.2.2.2 qul]
  have:=qt5;have:=@QK;have:=@q1i;have:=@QH.eq_1;exact gA
theorem qt8:okL 59 qde:=qS (qi qp7) (by kernel_rfl) (by kernel_rfl)
def qtb:=JA_ @qde.eq_1 (JA_ @Try.f59.eq_1 @qp7)
def Qi (n:Int) (m1:List (Int×Int)) (v:List qa) (v2:Int):Option Bool:=if 1<QV 0 m1 n then if 0≤v2∧v2<((v.length:Nat):Int) then Option.bind v[Int.toNat v2]? fun(a:qa)=>Option.bind (qU a.Sources n) fun(a2:Bool)=>some (!a2) else none else some Bool.false
theorem q0J:∀(n:Int) (m1:List (Int×Int)) (v:List qa) (v2:Int),ev 59 4 [rI n,rP 0,rP 2,rP 3] [(0,B.blk 82 [C.hd .map 1]),(1,B.ob (mpB (Jd .i64) Q5 m1)),(2,B.blk 32 [dL 8 qc v]),(3,B.blk 3 [dI v2])]=(Qi n m1 v v2).bind (fun(e:Bool)=>some (rB e,[(0,B.blk 82 [C.hd .map 1]),(1,B.ob (mpB (Jd .i64) Q5 m1)),(2,B.blk 32 [dL 8 qc v]),(3,B.blk 3 [dI v2])])):=
 fun n m1 v v2=>by
  rw[qR qp7 qrA.2.2.2 qt8]
  have:=qtb;have:=@Qw;have:=@Qi.eq_1;exact gA
def qm (i:Int) (j:Int) (s:List qa):Option (List qa):=if 0≤i∧j=i+1∧i<((s.length:Nat):Int) then some (@List.eraseIdx qa s (Int.toNat i)) else none
theorem z7:∀(i j:Int) (s:List qa) (s_len:Nat),s_len=s.length→ev 33 0 [rO 0 8 s_len,rI i,rI j] [(0,bR 52 8 qc s)]=(qm i j s).bind (fun(e:List qa)=>some (rO 0 8 e.length,[(0,bR 52 8 qc e)])):=
 by
 intro i j s s_len h0
 subst h0
 rw[qdT,qs1.2.2.2]
 have:=@qm.eq_1;exact gA
def qx (m1:List (Int×Int)) (b2:List qa) (b3:Int) (s:List Int) (t7:Int):Int→Option (Int⊕(Int⊕Unit))|t8=>if t8<t7 then if 0≤t8∧t8<((s.length:Nat):Int) then Option.bind s[Int.toNat t8]? fun(a:Int)=>Option.bind (Qi a m1 b2 b3) fun(a2:Bool)=>if a2=Bool.true then some (Sum.inr (Sum.inl t8)) else some (Sum.inl (w64 (t8+1))) else none else some (Sum.inr (Sum.inr ()))
theorem QU:∀(m1:List (Int×Int)) (b2:List qa) (b3:Int) (s:List Int) (t7 t8:Int),XL2 evo 81 4 2 ⟨[(0,rL 1 eI s),(1,R.c (C.fn 59 [] [dP 0,dP 2,dP 3])),(7,rI t7),(8,rI t8)],[(0,B.blk 82 [C.hd .map 1]),(1,B.ob (mpB (Jd .i64) Q5 m1)),(2,B.blk 32 [dL 8 qc b2]),(3,B.blk 3 [dI b3])],4,19⟩=(qB (qx m1 b2 b3 s t7) t8).bind (Sum.elim (fun(e:Int)=>some (Exit.ret,⟨[(4,rI e)],[(0,B.blk 82 [C.hd .map 1]),(1,B.ob (mpB (Jd .i64) Q5 m1)),(2,B.blk 32 [dL 8 qc b2]),(3,B.blk 3 [dI b3])],4,19⟩)) (fun(e:Unit)=>some (Exit.exit 0,⟨[(4,R.any)],[(0,B.blk 82 [C.hd .map 1]),(1,B.ob (mpB (Jd .i64) Q5 m1)),(2,B.blk 32 [dL 8 qc b2]),(3,B.blk 3 [dI b3])],4,19⟩))):=
 fun m1 b2 b3 s t7 t8=>by
  revert t8;exact q98 qfJ qgh (fun e=>by rcases e with _|_<;>exact⟨_,rfl,fun h=>by cases h⟩) fun x=>by
   have:=qnX;have:=@q7E.eq_1;have:=@q0J;have:=@qx.eq_1;exact gA
def zt (s:List Int) (m1:List (Int×Int)) (b2:List qa) (b3:Int):Option Int:=Option.bind (qB (qx m1 b2 b3 s ((s.length:Nat):Int)) 0) fun(a:Sum Int Unit)=>Sum.elim (fun(a2:Int)=>some a2) (fun(a3:Unit)=>some (-1)) a
theorem Z7:∀(s:List Int) (m1:List (Int×Int)) (b2:List qa) (b3:Int),ev 81 4 [rL 1 eI s,R.c (C.fn 59 [] [dP 0,dP 2,dP 3])] [(0,B.blk 82 [C.hd .map 1]),(1,B.ob (mpB (Jd .i64) Q5 m1)),(2,B.blk 32 [dL 8 qc b2]),(3,B.blk 3 [dI b3])]=(zt s m1 b2 b3).bind (fun(e:Int)=>some (rI e,[(0,B.blk 82 [C.hd .map 1]),(1,B.ob (mpB (Jd .i64) Q5 m1)),(2,B.blk 32 [dL 8 qc b2]),(3,B.blk 3 [dI b3])])):=
 fun s m1 b2 b3=>by
  rw[qR qn5 qpv.2.2.2 qpa]
  have:=qnX;have:=@QU;have:=@zt.eq_1;exact gA
def qH (s:List Int) (m1:List (Int×Int)) (b2:List qa) (b3:Int):Option Bool:=Option.bind (zt s m1 b2 b3) fun(a:Int)=>some (decide (0≤a))
theorem QT:∀(s:List Int) (m1:List (Int×Int)) (b2:List qa) (b3:Int),ev 61 4 [rL 1 eI s,R.c (C.fn 59 [] [dP 0,dP 2,dP 3])] [(0,B.blk 82 [C.hd .map 1]),(1,B.ob (mpB (Jd .i64) Q5 m1)),(2,B.blk 32 [dL 8 qc b2]),(3,B.blk 3 [dI b3])]=(qH s m1 b2 b3).bind (fun(e:Bool)=>some (rB e,[(0,B.blk 82 [C.hd .map 1]),(1,B.ob (mpB (Jd .i64) Q5 m1)),(2,B.blk 32 [dL 8 qc b2]),(3,B.blk 3 [dI b3])])):=
 fun s m1 b2 b3=>by
  rw[qR qog qqu.2.2.2 qrV]
  have:=qre;have:=@Z7;have:=@qH.eq_1;exact gA
def zO (l:List qa) (s:qe) (at0:Int) (m4:List (Int×Int)) (t13:List qa) (t14:Int):Int→Option (Int⊕(Unit⊕Unit))|t15=>if t15<t14 then if 0≤t15∧t15<((t13.length:Nat):Int) then Option.bind t13[Int.toNat t15]? fun(a:qa)=>if(t15==at0)=Bool.true then some (Sum.inl (w64 (t15+1))) else if 0≤at0∧at0<((l.length:Nat):Int) then Option.bind l[Int.toNat at0]? fun(a2:qa)=>Option.bind (QH s a a2) fun(a3:Bool)=>if(!a3)=Bool.true then some (Sum.inl (w64 (t15+1))) else Option.bind (qH a.Sources m4 l at0) fun(a4:Bool)=>if(!a4)=Bool.true then some (Sum.inr (Sum.inl ())) else some (Sum.inl (w64 (t15+1))) else none else none else some (Sum.inr (Sum.inr ()))
theorem q03:∀(l:List qa) (s_Worst s_Best s_Pass at0:Int) (m4:List (Int×Int)) (t13:List qa) (t14 t15:Int),XL2 evo 32 0 3 ⟨[(3,rP 0),(4,rP 1),(5,rP 2),(7,rP 3),(13,rL 8 qc t13),(14,rI t14),(15,rI t15)],[(0,B.blk 32 [dL 8 qc l]),(1,B.blk 30 [dI s_Worst,dI s_Best,dI s_Pass]),(2,B.blk 3 [dI at0]),(3,B.blk 82 [C.hd .map 4]),(4,B.ob (mpB (Jd .i64) Q5 m4))],5,40⟩=(qB (zO l (qe.mk s_Worst s_Best s_Pass) at0 m4 t13 t14) t15).bind (Sum.elim (fun(e:Unit)=>some (Exit.ret,⟨[(6,rB Bool.true)],[],0,40⟩)) (fun(e:Unit)=>some (Exit.exit 0,⟨[(6,R.any)],[],0,40⟩))):=
 fun l s_Worst s_Best s_Pass at0 m4 t13 t14 t15=>by
  revert t15;exact q98 qmY qlZ (fun e=>by rcases e with _|_<;>exact⟨_,rfl,fun h=>by cases h⟩) fun x=>by
   have:=qrS;have:=@qd5.eq_1;have:=@q2c;have:=@QT;have:=@zO.eq_1;exact gA
def Q2 (l:List qa) (s:qe) (at0:Int):Option Bool:=Option.bind (Zy l) fun(a:List (Prod Int Int))=>Option.bind (qB (zO l s at0 a l ((l.length:Nat):Int)) 0) fun(a2:Sum Unit Unit)=>Sum.elim (fun(a3:Unit)=>some Bool.true) (fun(a4:Unit)=>some Bool.false) a2
theorem ZR:∀(l:List qa) (s_Worst s_Best s_Pass at0:Int),ev 32 0 [rL 8 qc l,R.agg [dI s_Worst,dI s_Best,dI s_Pass],rI at0] []=(Q2 l (qe.mk s_Worst s_Best s_Pass) at0).bind (fun(e:Bool)=>some (rB e,[])):=
 fun l s_Worst s_Best s_Pass at0=>by
  rw[qR qoy qs7.2.2.2 qsj]
  have:=qrS;have:=@q4f;have:=@q03;have:=@Q2.eq_1;exact gA
theorem lo8:okL 8 qim:=qS (qi bd8) (by kernel_rfl) (by kernel_rfl)
def cx8:=JA_ @qim.eq_1 (JA_ @Try.f8.eq_1 @bd8)
theorem qus:okL 26 qcp:=qS (qi qqV) (by kernel_rfl) (by kernel_rfl)
def qsL:=JA_ @qcp.eq_1 (JA_ @Try.f26.eq_1 @qqV)
theorem q47:∀(code:ByteArray) (grade source day:Int),ev 26 0 [rS code,rI grade,rI source,rI day] []=some (R.agg [C.d (D.int IntKind.i64 1),dS code,C.d (D.int IntKind.i64 5),C.d (D.int IntKind.i64 grade),C.d (D.int IntKind.i64 day),C.d (D.sl 1 1 [D.int IntKind.i64 source]),C.d (D.int IntKind.i64 0),C.d (D.sl 1 0 [])],[]):=
 fun code grade source day=>by
  rw[qR qqV qsp.2.2.2 qus]
  have:=qsL;exact gA
theorem qux:okL 10 qa1:=qS (qi qpq) (by kernel_rfl) (by kernel_rfl)
def qt2:=JA_ @qa1.eq_1 (JA_ @Try.f10.eq_1 @qpq)
theorem q1F:ev 10 0 [] []=some (R.agg [C.d (D.int IntKind.i64 0),C.d (D.int IntKind.i64 100),C.d (D.int IntKind.i64 50)],[]):=
 by
  rw[qR qpq qrB.2.2.2 qux]
  have:=qt2;exact gA
theorem lo9:okL 9 qf2:=qS (qi bd9) (by kernel_rfl) (by kernel_rfl)
def cx9:=JA_ @qf2.eq_1 (JA_ @Try.f9.eq_1 @bd9)
theorem qpw:lbO 9 3=qiA:=zP (qi bd9) rfl
theorem qpL:okL 9 qiA:=z8 lo9 (quH (i:=0) (by kernel_rfl))
theorem qsd:okL 27 q8j:=qS (qi qoe) (by kernel_rfl) (by kernel_rfl)
def qrG:=JA_ @q8j.eq_1 (JA_ @Try.f27.eq_1 @qoe)
theorem qmW:lbO 27 3=qd9:=zP (qi qoe) rfl
theorem qlh:okL 27 qd9:=z8 qsd (quH (i:=0) (by kernel_rfl))
theorem qsS:okL 51 qax:=qS (qi qph) (by kernel_rfl) (by kernel_rfl)
def quw:=JA_ @qax.eq_1 (JA_ @Try.f51.eq_1 @qph)
def Zp:Option (List ByteArray):=
 some [ByteArray.mk (List.toArray [65,49]),ByteArray.mk (List.toArray [66,49]),ByteArray.mk (List.toArray [66,50]),ByteArray.mk (List.toArray [67,49]),ByteArray.mk (List.toArray [68,49]),ByteArray.mk (List.toArray [69,57])]
def qt:List ByteArray:=
 [ByteArray.mk (List.toArray [65,49]),ByteArray.mk (List.toArray [66,49]),ByteArray.mk (List.toArray [66,50]),ByteArray.mk (List.toArray [67,49]),ByteArray.mk (List.toArray [68,49]),ByteArray.mk (List.toArray [69,57])]
theorem q1T:Zp=some (qt):=by
 unfold Zp qt
 simp only[q0F]
theorem JM:ev 51 0 [] []=some (R.c (C.d (D.sl 1 (qt).length ((qt).flatMap eS))),[]):=
 by
  have h:ev 51 0 [] []=(Zp).bind (fun(e:List ByteArray)=>some (rL 1 eS e,[])):=by
   rw[qR qph qrj.2.2.2 qsS]
   have:=quw;have:=@Zp.eq_1;exact gA
  rw[q1T] at h
  exact h
theorem qtz:okL 52 qdj:=qS (qi qoX) (by kernel_rfl) (by kernel_rfl)
def qtN:=JA_ @qdj.eq_1 (JA_ @Try.f52.eq_1 @qoX)
theorem qtZ:okL 28 qac:=qS (qi qoI) (by kernel_rfl) (by kernel_rfl)
def qsA:=JA_ @qac.eq_1 (JA_ @Try.f28.eq_1 @qoI)
def zQ (n:Int) (m:Int):Option Int:=if m=0 then none else if m=0 then none else some (Int.tmod (w64 (Int.tmod n m+m)) m)
theorem J6:∀(n m:Int),ev 28 0 [rI n,rI m] []=(zQ n m).bind (fun(e:Int)=>some (rI e,[])):=
 fun n m=>by
  rw[qR qoI qsq.2.2.2 qtZ]
  have:=qsA;have:=@zQ.eq_1;exact gA
def qq (n:Int) (d:qd):Option (Int×qd):=if((d.L.length:Nat):Int)≤d.At then some (0,d) else if 0≤w64 (w64 (d.At+1)-1)∧w64 (w64 (d.At+1)-1)<((d.L.length:Nat):Int) then Option.bind d.L[Int.toNat (w64 (w64 (d.At+1)-1))]? fun(a:Int)=>Option.bind (zQ a n) fun(a2:Int)=>some (a2,qd.mk d.L (w64 (d.At+1))) else none
theorem q0O:∀(n:Int) (d_L:List Int) (d_At:Int),ev 52 1 [rP 0,rI n] [(0,B.blk 89 [dL 1 eI d_L,dI d_At])]=(qq n (qd.mk d_L d_At)).bind (fun(e:Int×qd)=>some (rI e.1,[(0,B.blk 89 [dL 1 eI e.2.L,dI e.2.At])])):=
 fun n d_L d_At=>by
  rw[qR qoX qrY.2.2.2 qtz]
  have:=qtN;have:=@J6;have:=@qq.eq_1;exact gA
theorem qu3:okL 30 qb7:=qS (qi qqZ) (by kernel_rfl) (by kernel_rfl)
def qt3:=JA_ @qb7.eq_1 (JA_ @Try.f30.eq_1 @qqZ)
theorem qtK:okL 53 qcV:=qS (qi qqz) (by kernel_rfl) (by kernel_rfl)
def qtl:=JA_ @qcV.eq_1 (JA_ @Try.f53.eq_1 @qqz)
def qh (most:Int) (d:qd):Option (Int×qd):=if((d.L.length:Nat):Int)≤d.At then some (0,d) else if 0≤d.At∧d.At<((d.L.length:Nat):Int) then Option.bind d.L[Int.toNat d.At]? fun(a:Int)=>if most=0 then none else if most=0 then none else some (Int.tmod (w64 (Int.tmod a most+most)) most,qd.mk d.L (w64 (d.At+1))) else none
theorem Qg:∀(most:Int) (d_L:List Int) (d_At:Int),ev 53 1 [rP 0,rI most] [(0,B.blk 93 [dL 1 eI d_L,dI d_At])]=(qh most (qd.mk d_L d_At)).bind (fun(e:Int×qd)=>some (rI e.1,[(0,B.blk 93 [dL 1 eI e.2.L,dI e.2.At])])):=
 fun most d_L d_At=>by
  rw[qR qqz qs3.2.2.2 qtK]
  have:=qtl;have:=@qh.eq_1;exact gA
theorem qtU:okL 54 qat:=qS (qi qoM) (by kernel_rfl) (by kernel_rfl)
def qub:=JA_ @qat.eq_1 (JA_ @Try.f54.eq_1 @qoM)
def Qc (d:qd):Option (qb×qd):=Option.bind (qh 6 d) fun(a:Prod Int qd)=>if 0≤a.1∧a.1<6 then Option.bind [(1:Int),1,1,2,2,3][Int.toNat a.1]? fun(a2:Int)=>Option.bind (qh ((qt.length:Nat):Int) a.2) fun(a3:Prod Int qd)=>if 0≤a3.1∧a3.1<((qt.length:Nat):Int) then Option.bind qt[Int.toNat a3.1]? fun(a4:ByteArray)=>some (qb.mk a2 a4,a3.2) else none else none
theorem Jx:∀(d_L:List Int) (d_At:Int),ev 54 1 [rP 0] [(0,B.blk 93 [dL 1 eI d_L,dI d_At])]=(Qc (qd.mk d_L d_At)).bind (fun(e:qb×qd)=>some (R.agg [dI e.1.School,dS e.1.Code],[(0,B.blk 93 [dL 1 eI e.2.L,dI e.2.At])])):=
 fun d_L d_At=>by
  rw[qR qoM qrq.2.2.2 qtU]
  have:=qub;have:=@Qg;have:=@JM;have:=@Qc.eq_1;exact gA
theorem qrp:okL 56 q8w:=qS (qi qok) (by kernel_rfl) (by kernel_rfl)
def qs8:=JA_ @q8w.eq_1 (JA_ @Try.f56.eq_1 @qok)
theorem qnu:lbO 56 9=qbw:=zP (qi qok) rfl
theorem qlq:okL 56 qbw:=z8 qrp (quH (i:=0) (by kernel_rfl))
theorem qpE:okL 77 q61:=qS (qi qmb) (by kernel_rfl) (by kernel_rfl)
def qqS:=JA_ @q61.eq_1 (JA_ @Try.f77.eq_1 @qmb)
theorem qko:lbO 77 4=qa5:=zP (qi qmb) rfl
theorem qnO:okL 77 qa5:=z8 qpE (quH (i:=0) (by kernel_rfl))
theorem qnC:lbO 77 8=qcf:=zP (qi qmb) rfl
theorem qkM:okL 77 qcf:=z8 qpE (quH (i:=1) (by kernel_rfl))
theorem qtX:okL 55 qb9:=qS (qi qqN) (by kernel_rfl) (by kernel_rfl)
def qum:=JA_ @qb9.eq_1 (JA_ @Try.f55.eq_1 @qqN)
def QP (a:qb) (b:qb):Option Bool:=if a.School<b.School then some Bool.true else if(a.School==b.School)=Bool.true then some (Op.bytesLess (ByteArray.toList a.Code) (ByteArray.toList b.Code)) else some Bool.false
def zy (a:qb) (b:qb):Bool:=if a.School<b.School then Bool.true else if(a.School==b.School)=Bool.true then Op.bytesLess (ByteArray.toList a.Code) (ByteArray.toList b.Code) else Bool.false
theorem q0I (a b:qb):QP a b=some (zy a b):=by
 unfold QP zy
 simp only[q0F]
theorem ZF:∀(a_School:Int) (a_Code:ByteArray) (b_School:Int) (b_Code:ByteArray),ev 55 0 [R.agg [dI a_School,dS a_Code],R.agg [dI b_School,dS b_Code]] []=some (rB (zy (qb.mk a_School a_Code) (qb.mk b_School b_Code)),[]):=
 fun a_School a_Code b_School b_Code=>by
  have h:ev 55 0 [R.agg [dI a_School,dS a_Code],R.agg [dI b_School,dS b_Code]] []=(QP (qb.mk a_School a_Code) (qb.mk b_School b_Code)).bind (fun(e:Bool)=>some (rB e,[])):=by
   rw[qR qqN qrm.2.2.2 qtX]
   have:=qum;have:=@QP.eq_1;exact gA
  rw[q0I] at h
  exact h
def Qe (out:List qb) (d:qd) (c:qb) (many:Int) (k:Int):Int→Option (Int⊕Int)|at0=>if at0<((out.length:Nat):Int) then if 0≤at0∧at0<((out.length:Nat):Int) then Option.bind out[Int.toNat at0]? fun(a:qb)=>if zy a c=Bool.true then some (Sum.inl (w64 (at0+1))) else some (Sum.inr at0) else none else some (Sum.inr at0)
theorem q1P:∀(out:List qb) (d_L:List Int) (d_At c_School:Int) (c_Code:ByteArray) (many k at0:Int) (out_len:Nat),out_len=out.length→XL2 evo 77 1 8 ⟨[(0,rP 0),(3,rI many),(4,rO 1 2 out_len),(5,rI k),(6,rP 2),(7,rI at0)],[(0,B.blk 93 [dL 1 eI d_L,dI d_At]),(1,bR 50 2 qj out),(2,B.blk 50 [dI c_School,dS c_Code])],3,61⟩=(qB (Qe out (qd.mk d_L d_At) (qb.mk c_School c_Code) many k) at0).bind (fun(e:Int)=>some (Exit.exit 2,⟨[(0,rP 0),(3,rI many),(4,rO 1 2 out.length),(5,rI k),(6,rP 2),(7,rI e)],[(0,B.blk 93 [dL 1 eI d_L,dI d_At]),(1,bR 50 2 qj out),(2,B.blk 50 [dI c_School,dS c_Code])],3,61⟩)):=
 by
 intro out d_L d_At c_School c_Code many k at0 out_len h0
 subst h0
 revert at0;exact q98 qnC qkM (fun e=>by exact⟨_,rfl,fun h=>by cases h⟩) fun x=>by
  have:=qqS;have:=@qcf.eq_1;have:=@ZF;have:=@Qe.eq_1;exact gA
def zF (many:Int):(List qb×qd×Int)→Option ((List qb×qd×Int)⊕(List qb×qd))|(out,d,k)=>if k<many then Option.bind (Qc d) fun(a:Prod qb qd)=>Option.bind (qB (Qe out a.2 a.1 many k) 0) fun(a2:Int)=>if a2<((out.length:Nat):Int) then if 0≤a2∧a2<((out.length:Nat):Int) then Option.bind out[Int.toNat a2]? fun(a3:qb)=>if(a3.School==a.1.School)=Bool.true∧(ByteArray.toList a3.Code==ByteArray.toList a.1.Code)=Bool.true then some (Sum.inl (out,a.2,w64 (k+1))) else if out.length+1≤maxLen∧(out.length+1)*24≤140737488355328 then if 0≤w64 (a2+1)∧w64 (a2+1)≤((out.length+1:Nat):Int) then if w64 (a2+1)=0∨w64 (a2+1)<((out.length+1:Nat):Int) then if 0≤a2∧a2≤((out.length+1:Nat):Int) then if a2=0∨a2<((out.length+1:Nat):Int) then if(List.take (out.length+1-Int.toNat a2) (List.drop (Int.toNat a2) (out++[qb.mk 0 (ByteArray.mk (List.toArray []))]))).length*2=(out.length+1-Int.toNat a2)*2∧Int.toNat (w64 (a2+1))*2+(out.length+1-Int.toNat (w64 (a2+1)))*2≤(out.length+1)*2 then if 0≤a2∧a2<((out.length+1:Nat):Int) then if Int.toNat a2*2+2≤(out.length+1)*2 then some (Sum.inl (List.set (spl (out++[qb.mk 0 (ByteArray.mk (List.toArray []))]) (Int.toNat (w64 (a2+1))) (List.take (min (out.length+1-Int.toNat a2) (out.length+1-Int.toNat (w64 (a2+1)))) (List.take (out.length+1-Int.toNat a2) (List.drop (Int.toNat a2) (out++[qb.mk 0 (ByteArray.mk (List.toArray []))]))))) (Int.toNat a2) a.1,a.2,w64 (k+1))) else none else none else none else if Int.toNat (w64 (a2+1))*2+(out.length+1-Int.toNat (w64 (a2+1)))*2≤(out.length+1)*2 then if 0≤a2∧a2<((out.length+1:Nat):Int) then if Int.toNat a2*2+2≤(out.length+1)*2 then some (Sum.inl (List.set (out++[qb.mk 0 (ByteArray.mk (List.toArray []))]) (Int.toNat a2) a.1,a.2,w64 (k+1))) else none else none else none else none else if 0≤a2∧a2≤((out.length+1:Nat):Int) then if a2=0∨a2<((out.length+1:Nat):Int) then if(List.take (out.length+1-Int.toNat a2) (List.drop (Int.toNat a2) (out++[qb.mk 0 (ByteArray.mk (List.toArray []))]))).length*2=(out.length+1-Int.toNat a2)*2 then if 0≤a2∧a2<((out.length+1:Nat):Int) then if Int.toNat a2*2+2≤(out.length+1)*2 then some (Sum.inl (List.set (out++[qb.mk 0 (ByteArray.mk (List.toArray []))]) (Int.toNat a2) a.1,a.2,w64 (k+1))) else none else none else none else if 0≤a2∧a2<((out.length+1:Nat):Int) then if Int.toNat a2*2+2≤(out.length+1)*2 then some (Sum.inl (List.set (out++[qb.mk 0 (ByteArray.mk (List.toArray []))]) (Int.toNat a2) a.1,a.2,w64 (k+1))) else none else none else none else none else none else none else if out.length+1≤maxLen∧(out.length+1)*24≤140737488355328 then if 0≤w64 (a2+1)∧w64 (a2+1)≤((out.length+1:Nat):Int) then if w64 (a2+1)=0∨w64 (a2+1)<((out.length+1:Nat):Int) then if 0≤a2∧a2≤((out.length+1:Nat):Int) then if a2=0∨a2<((out.length+1:Nat):Int) then if(List.take (out.length+1-Int.toNat a2) (List.drop (Int.toNat a2) (out++[qb.mk 0 (ByteArray.mk (List.toArray []))]))).length*2=(out.length+1-Int.toNat a2)*2∧Int.toNat (w64 (a2+1))*2+(out.length+1-Int.toNat (w64 (a2+1)))*2≤(out.length+1)*2 then if 0≤a2∧a2<((out.length+1:Nat):Int) then if Int.toNat a2*2+2≤(out.length+1)*2 then some (Sum.inl (List.set (spl (out++[qb.mk 0 (ByteArray.mk (List.toArray []))]) (Int.toNat (w64 (a2+1))) (List.take (min (out.length+1-Int.toNat a2) (out.length+1-Int.toNat (w64 (a2+1)))) (List.take (out.length+1-Int.toNat a2) (List.drop (Int.toNat a2) (out++[qb.mk 0 (ByteArray.mk (List.toArray []))]))))) (Int.toNat a2) a.1,a.2,w64 (k+1))) else none else none else none else if Int.toNat (w64 (a2+1))*2+(out.length+1-Int.toNat (w64 (a2+1)))*2≤(out.length+1)*2 then if 0≤a2∧a2<((out.length+1:Nat):Int) then if Int.toNat a2*2+2≤(out.length+1)*2 then some (Sum.inl (List.set (out++[qb.mk 0 (ByteArray.mk (List.toArray []))]) (Int.toNat a2) a.1,a.2,w64 (k+1))) else none else none else none else none else if 0≤a2∧a2≤((out.length+1:Nat):Int) then if a2=0∨a2<((out.length+1:Nat):Int) then if(List.take (out.length+1-Int.toNat a2) (List.drop (Int.toNat a2) (out++[qb.mk 0 (ByteArray.mk (List.toArray []))]))).length*2=(out.length+1-Int.toNat a2)*2 then if 0≤a2∧a2<((out.length+1:Nat):Int) then if Int.toNat a2*2+2≤(out.length+1)*2 then some (Sum.inl (List.set (out++[qb.mk 0 (ByteArray.mk (List.toArray []))]) (Int.toNat a2) a.1,a.2,w64 (k+1))) else none else none else none else if 0≤a2∧a2<((out.length+1:Nat):Int) then if Int.toNat a2*2+2≤(out.length+1)*2 then some (Sum.inl (List.set (out++[qb.mk 0 (ByteArray.mk (List.toArray []))]) (Int.toNat a2) a.1,a.2,w64 (k+1))) else none else none else none else none else none else some (Sum.inr (out,d))
theorem q1W:∀(out:List qb) (d_L:List Int) (d_At many k:Int) (out_len:Nat),out_len=out.length→XL2 evo 77 1 4 ⟨[(0,rP 0),(3,rI many),(4,rO 1 2 out_len),(5,rI k)],[(0,B.blk 93 [dL 1 eI d_L,dI d_At]),(1,bR 50 2 qj out)],2,61⟩=(qB (zF many) (out,(qd.mk d_L d_At),k)).bind (fun(e:List qb×qd)=>some (Exit.exit 0,⟨[(4,rO 1 2 e.1.length)],[(0,B.blk 93 [dL 1 eI e.2.L,dI e.2.At]),(1,bR 50 2 qj e.1)],2,61⟩)):=
 by
 intro out d_L d_At many k out_len h0
 subst h0
 have h:=q6C (E:=evo) (f:=77) (k:=1) (st:=fun x:List qb×qd×Int=>(⟨[(0,rP 0),(3,rI many),(4,rO 1 2 x.1.length),(5,rI x.2.2)],[(0,B.blk 93 [dL 1 eI x.2.1.L,dI x.2.1.At]),(1,bR 50 2 qj x.1)],2,61⟩:S)) (ex:=fun(e:List qb×qd)=>(Exit.exit 0,⟨[(4,rO 1 2 e.1.length)],[(0,B.blk 93 [dL 1 eI e.2.L,dI e.2.At]),(1,bR 50 2 qj e.1)],2,61⟩)) (step:=(zF many)) qko qnO (fun e h=>by cases h) (fun x=>by
  obtain⟨out,d,k⟩:=x;have:=qqS;have:=@qa5.eq_1;have:=@Jx;have:=@q1P;have:=@zF.eq_1;exact gA) (out,(qd.mk d_L d_At),k)
 exact h
theorem q0K:∀  (d_L:List Int) (d_At many k:Int),XL2 evo 77 1 4 ⟨[(0,rP 0),(3,rI many),(4,rO 1 2 0),(5,rI k)],[(0,B.blk 93 [dL 1 eI d_L,dI d_At]),(1,B.row 50 2 [])],2,61⟩=(qB (zF many) ([],(qd.mk d_L d_At),k)).bind (fun(e:List qb×qd)=>some (Exit.exit 0,⟨[(4,rO 1 2 e.1.length)],[(0,B.blk 93 [dL 1 eI e.2.L,dI e.2.At]),(1,bR 50 2 qj e.1)],2,61⟩)):=by
 intro d_L d_At many k;have h:=q1W [] ((qd.mk d_L d_At)).L ((qd.mk d_L d_At)).At many k _ rfl
 first
  | exact h
  | (simp only[rL,dL,bR,bZ,Nat.reduceAdd] at h;exact h)
def zS (d:qd):Option (List qb×qd):=Option.bind (qh 3 d) fun(a:Prod Int qd)=>Option.bind (qB (zF (w64 (1+a.1))) ([],(a.2,0))) fun(a2:Prod (List qb) qd)=>some (a2.1,a2.2)
theorem q4h:∀(d_L:List Int) (d_At:Int),ev 77 1 [rP 0] [(0,B.blk 93 [dL 1 eI d_L,dI d_At])]=(zS (qd.mk d_L d_At)).bind (fun(e:List qb×qd)=>some (rL 2 qj e.1,[(0,B.blk 93 [dL 1 eI e.2.L,dI e.2.At])])):=
 fun d_L d_At=>by
  rw[qR qmb qrx.2.2.2 qpE]
  have:=qqS;have:=@Qg;have:=@q0K;have:=@zS.eq_1;exact gA
def zm (x:(Int×Int×qd)):List R×List (Nat×B):=([R.c (C.ptr 0 0),R.c (C.d (D.int .i64 x.1)),R.c (C.d (D.int .i64 x.2.1))],[(0,B.blk 93 [C.d (D.sl 1 x.2.2.L.length (x.2.2.L.flatMap eI)),C.d (D.int .i64 x.2.2.At)])])
def zI:(qg×qd)→R×List (Nat×B):=fun(e:qg×qd)=>(R.agg [C.d (D.int .i64 e.1.Kind),C.d (D.int .i64 e.1.N),C.d (D.int .i64 e.1.Min),C.d (D.sl 2 e.1.Set.length (e.1.Set.flatMap qj)),C.d (D.sl 5 e.1.L.length (e.1.L.flatMap qr))],[(0,B.blk 93 [C.d (D.sl 1 e.2.L.length (e.2.L.flatMap eI)),C.d (D.int .i64 e.2.At)])])
def zj (rF:(Int×Int×qd)→Option (qg×qd)) (b1_Kind:Int) (b1_N:Int) (b1_Min:Int) (b2_Kind:Int) (b2_N:Int) (b2_Min:Int) (t1:Int) (t2:Int) (t7:Int) (t8:Int):(List qg×qd×Int)→Option ((List qg×qd×Int)⊕(List qg×qd))|(w3,b0,t10)=>if t10<t8 then if t8=0 then none else Option.bind (rF (w64 (t1-1),(w64 (Int.tdiv t2 t8),b0))) fun(a2:Prod qg qd)=>if w3.length+1≤maxLen∧(w3.length+1)*72≤140737488355328 then some (Sum.inl (w3++[a2.1],a2.2,w64 (t10+1))) else none else some (Sum.inr (w3,b0))
theorem q1e (rE:Orc) (rF:(Int×Int×qd)→Option (qg×qd)) (hF:∀y,rE (.fn 56) 1 (zm y).1 (zm y).2=(rF y).bind fun e=>some (zI e)) (hM:∀g k a G,g≠56→rE (.fn g) k a G=ev g k a G) (hR:∀g asg bd k a G,rE (.rd g asg bd) k a G=evr g asg bd k a G):∀(w3:List qg) (b0_L:List Int) (b0_At b1_Kind b1_N b1_Min b2_Kind b2_N b2_Min t1 t2 t7 t8 t10:Int) (w3_len:Nat),w3_len=w3.length→XL2 rE 56 1 9 ⟨[(0,rP 0),(1,rI t1),(2,rI t2),(6,rP 1),(7,rI t7),(8,rI t8),(9,rP 2),(10,rI t10)],[(0,B.blk 93 [dL 1 eI b0_L,dI b0_At]),(1,B.blk 36 [dI b1_Kind,dI b1_N,dI b1_Min,C.nils,C.nils]),(2,B.blk 36 [dI b2_Kind,dI b2_N,dI b2_Min,C.nils,dO 3 5 w3_len]),(3,bR 36 5 qr w3)],4,77⟩=(qB (zj rF b1_Kind b1_N b1_Min b2_Kind b2_N b2_Min t1 t2 t7 t8) (w3,(qd.mk b0_L b0_At),t10)).bind (fun(e:List qg×qd)=>some (Exit.exit 0,⟨[(0,rP 0),(6,rP 1),(7,rI t7),(8,rI t8),(9,rP 2)],[(0,B.blk 93 [dL 1 eI e.2.L,dI e.2.At]),(1,B.blk 36 [dI b1_Kind,dI b1_N,dI b1_Min,C.nils,C.nils]),(2,B.blk 36 [dI b2_Kind,dI b2_N,dI b2_Min,C.nils,dO 3 5 e.1.length]),(3,bR 36 5 qr e.1)],4,77⟩)):=
 by
 intro w3 b0_L b0_At b1_Kind b1_N b1_Min b2_Kind b2_N b2_Min t1 t2 t7 t8 t10 w3_len h0
 subst h0
 have h:=q6C (E:=rE) (f:=56) (k:=1) (st:=fun x:List qg×qd×Int=>(⟨[(0,rP 0),(1,rI t1),(2,rI t2),(6,rP 1),(7,rI t7),(8,rI t8),(9,rP 2),(10,rI x.2.2)],[(0,B.blk 93 [dL 1 eI x.2.1.L,dI x.2.1.At]),(1,B.blk 36 [dI b1_Kind,dI b1_N,dI b1_Min,C.nils,C.nils]),(2,B.blk 36 [dI b2_Kind,dI b2_N,dI b2_Min,C.nils,dO 3 5 x.1.length]),(3,bR 36 5 qr x.1)],4,77⟩:S)) (ex:=fun(e:List qg×qd)=>(Exit.exit 0,⟨[(0,rP 0),(6,rP 1),(7,rI t7),(8,rI t8),(9,rP 2)],[(0,B.blk 93 [dL 1 eI e.2.L,dI e.2.At]),(1,B.blk 36 [dI b1_Kind,dI b1_N,dI b1_Min,C.nils,C.nils]),(2,B.blk 36 [dI b2_Kind,dI b2_N,dI b2_Min,C.nils,dO 3 5 e.1.length]),(3,bR 36 5 qr e.1)],4,77⟩)) (step:=(zj rF b1_Kind b1_N b1_Min b2_Kind b2_N b2_Min t1 t2 t7 t8)) qnu qlq (fun e h=>by cases h) (fun x=>by
  obtain⟨w3,b0,t10⟩:=x;have hF':∀(x1 x2:Int) (v_L:List Int) (v_At:Int),rE (.fn 56) 1 [rP 0,rI x1,rI x2] [(0,B.blk 93 [dL 1 eI v_L,dI v_At])]=(rF (x1,x2,(qd.mk v_L v_At))).bind (fun e=>some (R.agg [dI e.1.Kind,dI e.1.N,dI e.1.Min,dL 2 qj e.1.Set,dL 5 qr e.1.L],[(0,B.blk 93 [dL 1 eI e.2.L,dI e.2.At])])):=fun x1 x2 v_L v_At=>hF (x1,x2,(qd.mk v_L v_At))
  have:=qs8;have:=@qbw.eq_1;have:=@zj.eq_1;exact gA) (w3,(qd.mk b0_L b0_At),t10)
 exact h
theorem q07:∀(rE:Orc) (rF:(Int×Int×qd)→Option (qg×qd)) (hF:∀y,rE (.fn 56) 1 (zm y).1 (zm y).2=(rF y).bind fun e=>some (zI e)) (hM:∀g k a G,g≠56→rE (.fn g) k a G=ev g k a G) (hR:∀g asg bd k a G,rE (.rd g asg bd) k a G=evr g asg bd k a G),∀  (b0_L:List Int) (b0_At b1_Kind b1_N b1_Min b2_Kind b2_N b2_Min t1 t2 t7 t8 t10:Int),XL2 rE 56 1 9 ⟨[(0,rP 0),(1,rI t1),(2,rI t2),(6,rP 1),(7,rI t7),(8,rI t8),(9,rP 2),(10,rI t10)],[(0,B.blk 93 [dL 1 eI b0_L,dI b0_At]),(1,B.blk 36 [dI b1_Kind,dI b1_N,dI b1_Min,C.nils,C.nils]),(2,B.blk 36 [dI b2_Kind,dI b2_N,dI b2_Min,C.nils,dO 3 5 0]),(3,B.row 36 5 [])],4,77⟩=(qB (zj rF b1_Kind b1_N b1_Min b2_Kind b2_N b2_Min t1 t2 t7 t8) ([],(qd.mk b0_L b0_At),t10)).bind (fun(e:List qg×qd)=>some (Exit.exit 0,⟨[(0,rP 0),(6,rP 1),(7,rI t7),(8,rI t8),(9,rP 2)],[(0,B.blk 93 [dL 1 eI e.2.L,dI e.2.At]),(1,B.blk 36 [dI b1_Kind,dI b1_N,dI b1_Min,C.nils,C.nils]),(2,B.blk 36 [dI b2_Kind,dI b2_N,dI b2_Min,C.nils,dO 3 5 e.1.length]),(3,bR 36 5 qr e.1)],4,77⟩)):=by
 intro rE rF hF hM hR b0_L b0_At b1_Kind b1_N b1_Min b2_Kind b2_N b2_Min t1 t2 t7 t8 t10;have h:=q1e rE rF hF hM hR [] ((qd.mk b0_L b0_At)).L ((qd.mk b0_L b0_At)).At b1_Kind b1_N b1_Min b2_Kind b2_N b2_Min t1 t2 t7 t8 t10 _ rfl
 first
  | exact h
  | (simp only[rL,dL,bR,bZ,Nat.reduceAdd] at h;exact h)
def QD (rF:(Int×Int×qd)→Option (qg×qd)):(Int×Int×qd)→Option (qg×qd)|(x1,x2,v)=>Option.bind (qh 6 v) fun(a2:Prod Int qd)=>if x1≤0 then Option.bind (qh 3 a2.2) fun(a3:Prod Int qd)=>if(a3.1==0)=Bool.true then Option.bind (qh 12 a3.2) fun(a4:Prod Int qd)=>Option.bind (qh 3 a4.2) fun(a5:Prod Int qd)=>if 0≤a5.1∧a5.1<3 then Option.bind [(0:Int),50,60][Int.toNat a5.1]? fun(a6:Int)=>Option.bind (zS a5.2) fun(a7:Prod (List qb) qd)=>some (qg.mk 2 (w64 (1+a4.1)) a6 a7.1 [],a7.2) else none else Option.bind (qh 4 a3.2) fun(a8:Prod Int qd)=>if 0≤a8.1∧a8.1<4 then Option.bind [(0:Int),50,60,80][Int.toNat a8.1]? fun(a9:Int)=>Option.bind (zS a8.2) fun(a10:Prod (List qb) qd)=>some (qg.mk 1 0 a9 a10.1 [],a10.2) else none else if x2<2 then Option.bind (qh 3 a2.2) fun(a11:Prod Int qd)=>if(a11.1==0)=Bool.true then Option.bind (qh 12 a11.2) fun(a12:Prod Int qd)=>Option.bind (qh 3 a12.2) fun(a13:Prod Int qd)=>if 0≤a13.1∧a13.1<3 then Option.bind [(0:Int),50,60][Int.toNat a13.1]? fun(a14:Int)=>Option.bind (zS a13.2) fun(a15:Prod (List qb) qd)=>some (qg.mk 2 (w64 (1+a12.1)) a14 a15.1 [],a15.2) else none else Option.bind (qh 4 a11.2) fun(a16:Prod Int qd)=>if 0≤a16.1∧a16.1<4 then Option.bind [(0:Int),50,60,80][Int.toNat a16.1]? fun(a17:Int)=>Option.bind (zS a16.2) fun(a18:Prod (List qb) qd)=>some (qg.mk 1 0 a17 a18.1 [],a18.2) else none else if a2.1<2 then Option.bind (qh 3 a2.2) fun(a19:Prod Int qd)=>if(a19.1==0)=Bool.true then Option.bind (qh 12 a19.2) fun(a20:Prod Int qd)=>Option.bind (qh 3 a20.2) fun(a21:Prod Int qd)=>if 0≤a21.1∧a21.1<3 then Option.bind [(0:Int),50,60][Int.toNat a21.1]? fun(a22:Int)=>Option.bind (zS a21.2) fun(a23:Prod (List qb) qd)=>some (qg.mk 2 (w64 (1+a20.1)) a22 a23.1 [],a23.2) else none else Option.bind (qh 4 a19.2) fun(a24:Prod Int qd)=>if 0≤a24.1∧a24.1<4 then Option.bind [(0:Int),50,60,80][Int.toNat a24.1]? fun(a25:Int)=>Option.bind (zS a24.2) fun(a26:Prod (List qb) qd)=>some (qg.mk 1 0 a25 a26.1 [],a26.2) else none else Option.bind (qh (min 3 x2) a2.2) fun(a27:Prod Int qd)=>Option.bind (qB (zj rF 0 0 0 3 0 0 x1 x2 a2.1 (w64 (1+a27.1))) ([],(a27.2,0))) fun(a28:Prod (List qg) qd)=>if 3<a2.1 then Option.bind (qh (w64 (1+a27.1)) a28.2) fun(a29:Prod Int qd)=>some (qg.mk 4 (w64 (1+a29.1)) 0 [] a28.1,a29.2) else some (qg.mk 3 0 0 [] a28.1,a28.2)
theorem q0b:q6b 56 1 zm zI QD:=by
 intro rE rF hF hM hR x
 obtain⟨x1,x2,v⟩:=x
 show q6m rE 56 1 [rP 0,rI x1,rI x2] [(0,B.blk 93 [dL 1 eI v.L,dI v.At])]=_
 have hF':∀(x1 x2:Int) (v_L:List Int) (v_At:Int),rE (.fn 56) 1 [rP 0,rI x1,rI x2] [(0,B.blk 93 [dL 1 eI v_L,dI v_At])]=(rF (x1,x2,(qd.mk v_L v_At))).bind (fun e=>some (R.agg [dI e.1.Kind,dI e.1.N,dI e.1.Min,dL 2 qj e.1.Set,dL 5 qr e.1.L],[(0,B.blk 93 [dL 1 eI e.2.L,dI e.2.At])])):=fun x1 x2 v_L v_At=>hF (x1,x2,(qd.mk v_L v_At))
 rw[q5l qok qrp]
 have:=qs8;have:=@Qg;have:=@q4h;have:=q07 rE rF hF hM hR;have:=@QD.eq_1;have:=@zI.eq_1;exact gA
theorem ZA:∀x y,zm x=zm y→x=y:=by
 rintro⟨a0,a1,⟨a2_0,a2_1⟩⟩ ⟨b0,b1,⟨b2_0,b2_1⟩⟩ h
 simp only[zm,Prod.mk.injEq,List.cons.injEq,R.c.injEq,R.agg.injEq,R.tup.injEq,C.d.injEq,C.own.injEq,C.ptr.injEq,C.eptr.injEq,C.clp.injEq,D.int.injEq,D.bool.injEq,D.str.injEq,D.sl.injEq,B.blk.injEq,B.row.injEq,q2O,q1u,JB,q2i,q1L,q3p,q3s,q41,q3l,q3h,q68,q2V,true_and,and_true,qv0] at h
 simp only[h]
theorem q1C:∀x y,zI x=zI y→x=y:=by
 rintro⟨⟨a0_0,a0_1,a0_2,a0_3,a0_4⟩,⟨a1_0,a1_1⟩⟩ ⟨⟨b0_0,b0_1,b0_2,b0_3,b0_4⟩,⟨b1_0,b1_1⟩⟩ h
 simp only[zI,Prod.mk.injEq,List.cons.injEq,R.c.injEq,R.agg.injEq,R.tup.injEq,C.d.injEq,C.own.injEq,C.ptr.injEq,C.eptr.injEq,C.clp.injEq,D.int.injEq,D.bool.injEq,D.str.injEq,D.sl.injEq,B.blk.injEq,B.row.injEq,q2O,q1u,JB,q2i,q1L,q3p,q3s,q41,q3l,q3h,q68,q2V,true_and,and_true,qv0] at h
 simp only[h]
def zB:(Int×Int×qd)→Option (qg×qd):=q4i 56 1 zm zI
theorem q0c (x:(Int×Int×qd)):zB x=QD zB x:=qge qqR.2.2.2 ZA q1C q0b x
theorem q2A (x1 x2:Int) (v:qd):ev 56 1 [rP 0,rI x1,rI x2] [(0,B.blk 93 [dL 1 eI v.L,dI v.At])]=(zB (x1,x2,v)).bind (fun(e:qg×qd)=>some (R.agg [dI e.1.Kind,dI e.1.N,dI e.1.Min,dL 2 qj e.1.Set,dL 5 qr e.1.L],[(0,B.blk 93 [dL 1 eI e.2.L,dI e.2.At])])):=(q7x qqR.2.2.2 ZA q0b (x1,x2,v))
theorem q3v:∀(x1 x2:Int) (v_L:List Int) (v_At:Int),ev 56 1 [rP 0,rI x1,rI x2] [(0,B.blk 93 [dL 1 eI v_L,dI v_At])]=(zB (x1,x2,(qd.mk v_L v_At))).bind (fun(e:qg×qd)=>some (R.agg [dI e.1.Kind,dI e.1.N,dI e.1.Min,dL 2 qj e.1.Set,dL 5 qr e.1.L],[(0,B.blk 93 [dL 1 eI e.2.L,dI e.2.At])])):=
 fun x1 x2 v_L v_At=>q2A x1 x2 (qd.mk v_L v_At)
def qI (l:List Int):Option qf:=Option.bind (qh 3 (qd.mk l 0)) fun(a:Prod Int qd)=>Option.bind (qh 3 a.2) fun(a2:Prod Int qd)=>Option.bind (qh 5 a2.2) fun(a3:Prod Int qd)=>Option.bind (qh 3 a3.2) fun(a4:Prod Int qd)=>if 0≤a4.1∧a4.1<3 then Option.bind [ByteArray.mk (List.toArray [77,117,115,105,99]),ByteArray.mk (List.toArray [76,97,119]),ByteArray.mk (List.toArray [79,108,100,32,109,97,112,115])][Int.toNat a4.1]? fun(a5:ByteArray)=>Option.bind (qh 20 a4.2) fun(a6:Prod Int qd)=>Option.bind (qh 3 a6.2) fun(a7:Prod Int qd)=>Option.bind (qh 6 a7.2) fun(a8:Prod Int qd)=>Option.bind (qh 5 a8.2) fun(a9:Prod Int qd)=>if 0≤a9.1∧a9.1<5 then Option.bind [(0:Int),0,0,2,5][Int.toNat a9.1]? fun(a10:Int)=>Option.bind (qh 3 a9.2) fun(a11:Prod Int qd)=>if(a11.1==0)=Bool.true then Option.bind (Qc a11.2) fun(a12:Prod qb qd)=>Option.bind (Qc a12.2) fun(a13:Prod qb qd)=>if zy a12.1 a13.1=Bool.true then Option.bind (zB (3,(6,a13.2))) fun(a14:Prod qg qd)=>some (qf.mk 1 (w64 (1+a.1)) (w64 (1+a2.1)) (w64 (100*a3.1)) a5 a14.1 a6.1 (w64 (a7.1*a8.1)) a10 [QM.mk a12.1 a13.1]) else Option.bind (zB (3,(6,a13.2))) fun(a15:Prod qg qd)=>some (qf.mk 1 (w64 (1+a.1)) (w64 (1+a2.1)) (w64 (100*a3.1)) a5 a15.1 a6.1 (w64 (a7.1*a8.1)) a10 []) else Option.bind (zB (3,(6,a11.2))) fun(a16:Prod qg qd)=>some (qf.mk 1 (w64 (1+a.1)) (w64 (1+a2.1)) (w64 (100*a3.1)) a5 a16.1 a6.1 (w64 (a7.1*a8.1)) a10 []) else none else none
theorem q1K:∀(l:List Int),ev 30 0 [rL 1 eI l] []=(qI l).bind (fun(e:qf)=>some (R.agg [dI e.School,dI e.Id,dI e.Version,dI e.From,dS e.Name,dI e.Need.Kind,dI e.Need.N,dI e.Need.Min,dL 2 qj e.Need.Set,dL 5 qr e.Need.L,dI e.Total,dI e.Own,dI e.Age,dL 4 (eA2 qj) e.Exclude],[])):=
 fun l=>by
  rw[qR qqZ qrL.2.2.2 qu3]
  have:=qt3;have:=@Qg;have:=@Jx;have:=@q3v;have:=@ZF;have:=@qI.eq_1;exact gA
theorem qtp:okL 29 qcZ:=qS (qi qpF) (by kernel_rfl) (by kernel_rfl)
def qtj:=JA_ @qcZ.eq_1 (JA_ @Try.f29.eq_1 @qpF)
theorem qt9:okL 35 qbS:=qS (qi qpZ) (by kernel_rfl) (by kernel_rfl)
def qu1:=JA_ @qbS.eq_1 (JA_ @Try.f35.eq_1 @qpZ)
def Zj (a:qa):Option (Int×ByteArray×Int×Int×Int×Int×List Int×List Int):=if a.Sources.length≤maxLen∧a.Sources.length*8≤140737488355328 then if a.Path.length≤maxLen∧a.Path.length*8≤140737488355328 then some (a.Course.School,a.Course.Code,a.Credits,a.Grade,a.Day,a.Bundle,a.Sources,a.Path) else none else none
theorem q3V:∀(a_Course_School:Int) (a_Course_Code:ByteArray) (a_Credits a_Grade a_Day:Int) (a_Sources:List Int) (a_Bundle:Int) (a_Path:List Int),ev 35 0 [R.agg [dI a_Course_School,dS a_Course_Code,dI a_Credits,dI a_Grade,dI a_Day,dL 1 eI a_Sources,dI a_Bundle,dL 1 eI a_Path]] []=(Zj (qa.mk (qb.mk a_Course_School a_Course_Code) a_Credits a_Grade a_Day a_Sources a_Bundle a_Path)).bind (fun(e:Int×ByteArray×Int×Int×Int×Int×List Int×List Int)=>some (R.agg [dI e.1,dS e.2.1,dI e.2.2.1,dI e.2.2.2.1,dI e.2.2.2.2.1,dO 0 1 e.2.2.2.2.2.2.1.length,dI e.2.2.2.2.2.1,dO 1 1 e.2.2.2.2.2.2.2.length],[(0,bR 3 1 eI e.2.2.2.2.2.2.1),(1,bR 3 1 eI e.2.2.2.2.2.2.2)])):=
 fun a_Course_School a_Course_Code a_Credits a_Grade a_Day a_Sources a_Bundle a_Path=>by
  rw[qR qpZ qrC.2.2.2 qt9]
  have:=qu1;have:=@Zj.eq_1;exact gA
def Qp (x0:qa) (x1:QM Int):Option qa:=Option.bind (Zj x0) fun(a:Prod Int (Prod ByteArray (Prod Int (Prod Int (Prod Int (Prod Int (Prod (List Int) (List Int))))))))=>Option.bind (zQ x1.a1 40) fun(a2:Int)=>Option.bind (zQ x1.a0 8) fun(a3:Int)=>if(a3==0)=Bool.true then some (qa.mk (qb.mk (Int.tmod a2 9) a.2.1) a.2.2.1 a.2.2.2.1 a.2.2.2.2.1 a.2.2.2.2.2.2.1 a.2.2.2.2.2.1 a.2.2.2.2.2.2.2) else if(a3==1)=Bool.true then if 0≤Int.tmod a2 4∧Int.tmod a2 4<4 then Option.bind [ByteArray.mk (List.toArray [65,49]),ByteArray.mk (List.toArray [66,49]),ByteArray.mk (List.toArray []),ByteArray.mk (List.toArray [65])][Int.toNat (Int.tmod a2 4)]? fun(a4:ByteArray)=>some (qa.mk (qb.mk a.1 a4) a.2.2.1 a.2.2.2.1 a.2.2.2.2.1 a.2.2.2.2.2.2.1 a.2.2.2.2.2.1 a.2.2.2.2.2.2.2) else none else if(a3==2)=Bool.true then some (qa.mk (qb.mk a.1 a.2.1) a2 a.2.2.2.1 a.2.2.2.2.1 a.2.2.2.2.2.2.1 a.2.2.2.2.2.1 a.2.2.2.2.2.2.2) else if(a3==3)=Bool.true then some (qa.mk (qb.mk a.1 a.2.1) a.2.2.1 (w64 (w64 (5*a2)-50)) a.2.2.2.2.1 a.2.2.2.2.2.2.1 a.2.2.2.2.2.1 a.2.2.2.2.2.2.2) else if(a3==4)=Bool.true then some (qa.mk (qb.mk a.1 a.2.1) a.2.2.1 a.2.2.2.1 (w64 (20*a2)) a.2.2.2.2.2.2.1 a.2.2.2.2.2.1 a.2.2.2.2.2.2.2) else if(a3==5)=Bool.true then if a.2.2.2.2.2.2.1.length+1≤maxLen∧(a.2.2.2.2.2.2.1.length+1)*8≤140737488355328 then some (qa.mk (qb.mk a.1 a.2.1) a.2.2.1 a.2.2.2.1 a.2.2.2.2.1 (a.2.2.2.2.2.2.1++[w64 (1000000+a2)]) a.2.2.2.2.2.1 a.2.2.2.2.2.2.2) else none else if(a3==6)=Bool.true then some (qa.mk (qb.mk a.1 a.2.1) a.2.2.1 a.2.2.2.1 a.2.2.2.2.1 a.2.2.2.2.2.2.1 (w64 (Int.tmod a2 5-1)) a.2.2.2.2.2.2.2) else if(a3==7)=Bool.true then if a.2.2.2.2.2.2.2.length+1≤maxLen∧(a.2.2.2.2.2.2.2.length+1)*8≤140737488355328 then some (qa.mk (qb.mk a.1 a.2.1) a.2.2.1 a.2.2.2.1 a.2.2.2.2.1 a.2.2.2.2.2.2.1 a.2.2.2.2.2.1 (a.2.2.2.2.2.2.2++[Int.tmod a2 3])) else none else some (qa.mk (qb.mk a.1 a.2.1) a.2.2.1 a.2.2.2.1 a.2.2.2.2.1 a.2.2.2.2.2.2.1 a.2.2.2.2.2.1 a.2.2.2.2.2.2.2)
theorem q4l:∀(x0_Course_School:Int) (x0_Course_Code:ByteArray) (x0_Credits x0_Grade x0_Day:Int) (x0_Sources:List Int) (x0_Bundle:Int) (x0_Path:List Int) (x1_0 x1_1:Int),ev 29 0 [R.agg [dI x0_Course_School,dS x0_Course_Code,dI x0_Credits,dI x0_Grade,dI x0_Day,dL 1 eI x0_Sources,dI x0_Bundle,dL 1 eI x0_Path],R.agg [dI x1_0,dI x1_1]] []=(Qp (qa.mk (qb.mk x0_Course_School x0_Course_Code) x0_Credits x0_Grade x0_Day x0_Sources x0_Bundle x0_Path) (QM.mk x1_0 x1_1)).bind (fun(e:qa)=>some (R.agg [dI e.Course.School,dS e.Course.Code,dI e.Credits,dI e.Grade,dI e.Day,dL 1 eI e.Sources,dI e.Bundle,dL 1 eI e.Path],[])):=
 fun x0_Course_School x0_Course_Code x0_Credits x0_Grade x0_Day x0_Sources x0_Bundle x0_Path x1_0 x1_1=>by
  rw[qR qpF qs6.2.2.2 qtp]
  have:=qtj;have:=@q3V;have:=@J6;have:=@Qp.eq_1;exact gA
def zG (t0:List (List Int)):(List qa×Int)→Option ((List qa×Int)⊕(List qa))|(w0,t4)=>if t4<((t0.length:Nat):Int) then if t4<8 then if 0≤t4∧t4<((t0.length:Nat):Int) then Option.bind t0[Int.toNat t4]? fun(a:List Int)=>Option.bind (qq 6 (qd.mk a 0)) fun(a2:Prod Int qd)=>if 0≤a2.1∧a2.1<((qt.length:Nat):Int) then Option.bind qt[Int.toNat a2.1]? fun(a3:ByteArray)=>Option.bind (qq 3 a2.2) fun(a4:Prod Int qd)=>if 0≤a4.1∧a4.1<3 then Option.bind [(5:Int),6,10][Int.toNat a4.1]? fun(a5:Int)=>Option.bind (qq 11 a4.2) fun(a6:Prod Int qd)=>Option.bind (qq 60 a6.2) fun(a7:Prod Int qd)=>Option.bind (qq 9 a7.2) fun(a8:Prod Int qd)=>Option.bind (qq 3 a8.2) fun(a9:Prod Int qd)=>if(a9.1==0)=Bool.true then Option.bind (qq 3 a9.2) fun(a10:Prod Int qd)=>Option.bind (qq 4 a10.2) fun(a11:Prod Int qd)=>Option.bind (qq 3 a11.2) fun(a12:Prod Int qd)=>if(a12.1==0)=Bool.true then Option.bind (qq 3 a12.2) fun(a13:Prod Int qd)=>Option.bind (qq 3 a13.2) fun(a14:Prod Int qd)=>if w0.length+1≤maxLen∧(w0.length+1)*104≤140737488355328 then some (Sum.inl (w0++[qa.mk (qb.mk (w64 (1+a10.1)) a3) a5 (w64 (50+w64 (5*a6.1))) (w64 (10*a7.1)) [w64 (2000001+a11.1),w64 (w64 (w64 (2000001+a11.1)+1)+a13.1)] (w64 (1+a14.1)) [w64 (1+a14.1)]],w64 (t4+1))) else none else Option.bind (qq 3 a12.2) fun(a15:Prod Int qd)=>if w0.length+1≤maxLen∧(w0.length+1)*104≤140737488355328 then some (Sum.inl (w0++[qa.mk (qb.mk (w64 (1+a10.1)) a3) a5 (w64 (50+w64 (5*a6.1))) (w64 (10*a7.1)) [w64 (2000001+a11.1)] (w64 (1+a15.1)) [w64 (1+a15.1)]],w64 (t4+1))) else none else if w0.length+1≤maxLen∧(w0.length+1)*104≤140737488355328 then some (Sum.inl (w0++[qa.mk (qb.mk 1 a3) a5 (w64 (50+w64 (5*a6.1))) (w64 (10*a7.1)) [w64 (1000001+a8.1)] 0 []],w64 (t4+1))) else none else none else none else none else some (Sum.inr w0) else some (Sum.inr w0)
theorem q1z:∀(w0:List qa) (t0:List (List Int)) (t4:Int) (w0_len:Nat),w0_len=w0.length→XL2 evo 27 0 3 ⟨[(0,rL 1 (eL 1 eI) t0),(3,rO 0 8 w0_len),(4,rI t4)],[(0,bR 52 8 qc w0)],1,89⟩=(qB (zG t0) (w0,t4)).bind (fun(e:List qa)=>some (Exit.exit 0,⟨[(3,rO 0 8 e.length)],[(0,bR 52 8 qc e)],1,89⟩)):=
 by
 intro w0 t0 t4 w0_len h0
 subst h0
 revert t4;revert w0;exact q6A qmW qlh (fun e=>by exact⟨_,rfl,fun h=>by cases h⟩) fun w0 t4=>by
  have:=qrG;have:=@qd9.eq_1;have:=@JM;have:=@q0O;have:=@zG.eq_1;exact gA
theorem q0q:∀  (t0:List (List Int)) (t4:Int),XL2 evo 27 0 3 ⟨[(0,rL 1 (eL 1 eI) t0),(3,rO 0 8 0),(4,rI t4)],[(0,B.row 52 8 [])],1,89⟩=(qB (zG t0) ([],t4)).bind (fun(e:List qa)=>some (Exit.exit 0,⟨[(3,rO 0 8 e.length)],[(0,bR 52 8 qc e)],1,89⟩)):=by
 intro t0 t4;have h:=q1z [] t0 t4 _ rfl
 first
  | exact h
  | (simp only[rL,dL,bR,bZ,Nat.reduceAdd] at h;exact h)
def Zl (x0:List (List Int)):Option (List qa):=Option.bind (qB (zG x0) ([],0)) fun(a:List qa)=>some a
theorem q3q:∀(x0:List (List Int)),ev 27 0 [rL 1 (eL 1 eI) x0] []=(Zl x0).bind (fun(e:List qa)=>some (rO 0 8 e.length,[(0,bR 52 8 qc e)])):=
 fun x0=>by
  rw[qR qoe qr9.2.2.2 qsd]
  have:=qrG;have:=@q0q;have:=@Zl.eq_1;exact gA
def zZ (c:Qj):Option (List qa×qf×Int):=Option.bind (Zl c.Has) fun(a:List qa)=>if 0<((a.length:Nat):Int) then if 0<c.Odd.a0.a0 then Option.bind (zQ c.Odd.a0.a2 ((a.length:Nat):Int)) fun(a2:Int)=>if 0≤a2∧a2<((a.length:Nat):Int) then Option.bind a[Int.toNat a2]? fun(a3:qa)=>Option.bind (Qp a3 (QM.mk c.Odd.a0.a0 c.Odd.a0.a1)) fun(a4:qa)=>if 0≤a2∧a2<((a.length:Nat):Int) then if Int.toNat a2*8+8≤a.length*8 then if 0<((a.length:Nat):Int) then if 0<c.Odd.a1.a0 then Option.bind (zQ c.Odd.a1.a2 ((a.length:Nat):Int)) fun(a5:Int)=>if 0≤a5∧a5<((a.length:Nat):Int) then Option.bind (List.set a (Int.toNat a2) a4)[Int.toNat a5]? fun(a6:qa)=>Option.bind (Qp a6 (QM.mk c.Odd.a1.a0 c.Odd.a1.a1)) fun(a7:qa)=>if 0≤a5∧a5<((a.length:Nat):Int) then if Int.toNat a5*8+8≤a.length*8 then Option.bind (qI c.Programme) fun(a8:qf)=>some (List.set (List.set a (Int.toNat a2) a4) (Int.toNat a5) a7,a8,Int.tmod (w64 c.Day) 800) else none else none else none else Option.bind (qI c.Programme) fun(a9:qf)=>some (List.set a (Int.toNat a2) a4,a9,Int.tmod (w64 c.Day) 800) else Option.bind (qI c.Programme) fun(a10:qf)=>some (List.set a (Int.toNat a2) a4,a10,Int.tmod (w64 c.Day) 800) else none else none else none else if 0<((a.length:Nat):Int) then if 0<c.Odd.a1.a0 then Option.bind (zQ c.Odd.a1.a2 ((a.length:Nat):Int)) fun(a11:Int)=>if 0≤a11∧a11<((a.length:Nat):Int) then Option.bind a[Int.toNat a11]? fun(a12:qa)=>Option.bind (Qp a12 (QM.mk c.Odd.a1.a0 c.Odd.a1.a1)) fun(a13:qa)=>if 0≤a11∧a11<((a.length:Nat):Int) then if Int.toNat a11*8+8≤a.length*8 then Option.bind (qI c.Programme) fun(a14:qf)=>some (List.set a (Int.toNat a11) a13,a14,Int.tmod (w64 c.Day) 800) else none else none else none else Option.bind (qI c.Programme) fun(a15:qf)=>some (a,a15,Int.tmod (w64 c.Day) 800) else Option.bind (qI c.Programme) fun(a16:qf)=>some (a,a16,Int.tmod (w64 c.Day) 800) else if 0<((a.length:Nat):Int) then if 0<c.Odd.a1.a0 then Option.bind (zQ c.Odd.a1.a2 ((a.length:Nat):Int)) fun(a17:Int)=>if 0≤a17∧a17<((a.length:Nat):Int) then Option.bind a[Int.toNat a17]? fun(a18:qa)=>Option.bind (Qp a18 (QM.mk c.Odd.a1.a0 c.Odd.a1.a1)) fun(a19:qa)=>if 0≤a17∧a17<((a.length:Nat):Int) then if Int.toNat a17*8+8≤a.length*8 then Option.bind (qI c.Programme) fun(a20:qf)=>some (List.set a (Int.toNat a17) a19,a20,Int.tmod (w64 c.Day) 800) else none else none else none else Option.bind (qI c.Programme) fun(a21:qf)=>some (a,a21,Int.tmod (w64 c.Day) 800) else Option.bind (qI c.Programme) fun(a22:qf)=>some (a,a22,Int.tmod (w64 c.Day) 800)
theorem q0N:∀(c_Has:List (List Int)) (c_Odd_0_0 c_Odd_0_1 c_Odd_0_2 c_Odd_1_0 c_Odd_1_1 c_Odd_1_2:Int) (c_Programme:List Int) (c_Day:Int),ev 9 0 [R.agg [dL 1 (eL 1 eI) c_Has,dI c_Odd_0_0,dI c_Odd_0_1,dI c_Odd_0_2,dI c_Odd_1_0,dI c_Odd_1_1,dI c_Odd_1_2,dL 1 eI c_Programme,C.d (D.int .u16 c_Day)]] []=(zZ (Qj.mk c_Has (QM.mk (qg0.mk c_Odd_0_0 c_Odd_0_1 c_Odd_0_2) (qg0.mk c_Odd_1_0 c_Odd_1_1 c_Odd_1_2)) c_Programme c_Day)).bind (fun(e:List qa×qf×Int)=>some (R.tup [rL 8 qc e.1,R.agg [dI e.2.1.School,dI e.2.1.Id,dI e.2.1.Version,dI e.2.1.From,dS e.2.1.Name,dI e.2.1.Need.Kind,dI e.2.1.Need.N,dI e.2.1.Need.Min,dL 2 qj e.2.1.Need.Set,dL 5 qr e.2.1.Need.L,dI e.2.1.Total,dI e.2.1.Own,dI e.2.1.Age,dL 4 (eA2 qj) e.2.1.Exclude],rI e.2.2],[])):=
 fun c_Has c_Odd_0_0 c_Odd_0_1 c_Odd_0_2 c_Odd_1_0 c_Odd_1_1 c_Odd_1_2 c_Programme c_Day=>by
  rw[qR bd9 pw9.2.2.2 lo9]
  have:=cx9;have:=@q3q;have:=@J6;have:=@q1K;have:=@q4l;have:=@zZ.eq_1;have:=fun(E:Orc) (k:Nat) (s:S)=>q75 (E:=E) (k:=k) (s:=s) qpw qpL;have:=@qiA.eq_1;have:=@q3Q;have:=@q6X;have:=@qbP;have:=@q76;have:=@qbA;have:=@q6J;have:=@qaG;exact gA
end
end Go.Proofs.Ytofbcijbpfjliaa.Vc
