/- Part 4 of a proof. -/
import Derived.Test.YtofbcijbpfjliaaB3
import Derived.Shelf.SlIter.Sorted
set_option linter.unusedVariables false
set_option linter.unusedSimpArgs false
set_option linter.defProp false
set_option linter.unusedSectionVars false
set_option linter.unnecessarySimpa false
namespace Go.Proofs.Ytofbcijbpfjliaa.Vc
noncomputable section
open Go.RowKit
set_option maxRecDepth 100000
abbrev w64 (n:Int):Int:=IntKind.i64.wrap n
def Q6:Code→List Code
 | .loop c=>c::Q6 c
 | .seq a b=>Q6 a++Q6 b
 | .cond _ a b=>Q6 a++Q6 b
 | .block _ c=>Q6 c
 | .scope c=>Q6 c
 | .rangeFunc _ _ a b=>Q6 a++Q6 b
 | _=>[]
def zz:Code→List (Code×Code)
 | .rangeFunc _ _ a b=>(a,b)::(zz a++zz b)
 | .loop c=>zz c
 | .seq a b=>zz a++zz b
 | .cond _ a b=>zz a++zz b
 | .block _ c=>zz c
 | .scope c=>zz c
 | _=>[]
theorem q3J:∀(c b:Code),b∈Q6 c→(∀b'∈Q6 b,b'∈Q6 c)∧∀q∈zz b,q∈zz c:=by
 intro c
 induction c with
 | loop c ih=>
  intro b hb
  rcases quz.1 hb with rfl|hb
  ·exact⟨fun b' h=>quk _ h,fun q h=>h⟩
  ·exact⟨fun b' h=>quk _ ((ih b hb).1 b' h),fun q h=>(ih b hb).2 q h⟩
 | seq a c iha ihc=>
  intro b hb
  rcases quH.1 hb with hb|hb
  ·exact⟨fun b' h=>qup _ ((iha b hb).1 b' h),fun q h=>qup _ ((iha b hb).2 q h)⟩
  ·exact⟨fun b' h=>qul _ ((ihc b hb).1 b' h),fun q h=>qul _ ((ihc b hb).2 q h)⟩
 | cond x a c iha ihc=>
  intro b hb
  rcases quH.1 hb with hb|hb
  ·exact⟨fun b' h=>qup _ ((iha b hb).1 b' h),fun q h=>qup _ ((iha b hb).2 q h)⟩
  ·exact⟨fun b' h=>qul _ ((ihc b hb).1 b' h),fun q h=>qul _ ((ihc b hb).2 q h)⟩
 | rangeFunc g ps a c iha ihc=>
  intro b hb
  rcases quH.1 hb with hb|hb
  ·exact⟨fun b' h=>qup _ ((iha b hb).1 b' h),fun q h=>quk _ (qup _ ((iha b hb).2 q h))⟩
  ·exact⟨fun b' h=>qul _ ((ihc b hb).1 b' h),fun q h=>quk _ (qul _ ((ihc b hb).2 q h))⟩
 | block id c ih=>intro b hb;exact ih b hb
 | scope c ih=>intro b hb;exact ih b hb
 | _=>intro b hb;cases hb
theorem ZG:∀(c:Code) (q:Code×Code),q∈zz c→(∀b'∈Q6 q.1++Q6 q.2,b'∈Q6 c)∧∀q'∈zz q.1++zz q.2,q'∈zz c:=by
 intro c
 induction c with
 | loop c ih=>intro q hq;exact⟨fun b' h=>quk _ ((ih q hq).1 b' h),(ih q hq).2⟩
 | seq a c iha ihc=>
  intro q hq
  rcases quH.1 hq with hq|hq
  ·exact⟨fun b' h=>qup _ ((iha q hq).1 b' h),fun q' h=>qup _ ((iha q hq).2 q' h)⟩
  ·exact⟨fun b' h=>qul _ ((ihc q hq).1 b' h),fun q' h=>qul _ ((ihc q hq).2 q' h)⟩
 | cond x a c iha ihc=>
  intro q hq
  rcases quH.1 hq with hq|hq
  ·exact⟨fun b' h=>qup _ ((iha q hq).1 b' h),fun q' h=>qup _ ((iha q hq).2 q' h)⟩
  ·exact⟨fun b' h=>qul _ ((ihc q hq).1 b' h),fun q' h=>qul _ ((ihc q hq).2 q' h)⟩
 | rangeFunc g ps a c iha ihc=>
  intro q hq
  rcases quz.1 hq with rfl|hq
  ·exact⟨fun b' h=>h,fun q' h=>quk _ h⟩
  ·rcases quH.1 hq with hq|hq
   ·exact⟨fun b' h=>qup _ ((iha q hq).1 b' h),fun q' h=>quk _ (qup _ ((iha q hq).2 q' h))⟩
   ·exact⟨fun b' h=>qul _ ((ihc q hq).1 b' h),fun q' h=>quk _ (qul _ ((ihc q hq).2 q' h))⟩
 | block id c ih=>intro q hq;exact ih q hq
 | scope c ih=>intro q hq;exact ih q hq
 | _=>intro q hq;cases hq
def q1i (f:Nat):Code:=((qy Try.prog pol f).map Bd.code).getD .skip
def lbO (f key:Nat):Code:=(z7 key (q1i f)).getD .skip
def raO (f key:Nat):Code:=((Qy key (q1i f)).getD (.skip,.skip)).1
def rbO (f key:Nat):Code:=((Qy key (q1i f)).getD (.skip,.skip)).2
structure okL (f:Nat) (c:Code):Prop where
 lo:∀b∈Q6 c,lbO f (qx b)=b
 ro:∀q∈zz c,raO f (qx q.2)=q.1∧rbO f (qx q.2)=q.2
theorem qM {f:Nat} {c:Code} (hc:q1i f=c) (h:(Q6 c).map (fun b=>(z7 (qx b) c).getD .skip)=Q6 c) (h':(zz c).map (fun q=>(Qy (qx q.2) c).getD (.skip,.skip))=zz c):okL f c:=by
 refine⟨fun b hb=>?_,fun q hq=>?_⟩
 ·unfold lbO
  rw[hc]
  obtain⟨i,hi,rfl⟩:=List.mem_iff_getElem.1 hb
  have h1:((Q6 c).map (fun b=>(z7 (qx b) c).getD .skip))[i]?=(Q6 c)[i]?:=by rw[h]
  rw[qur,que hi] at h1
  simpa using h1
 ·unfold raO rbO
  rw[hc]
  obtain⟨i,hi,rfl⟩:=List.mem_iff_getElem.1 hq
  have h1:((zz c).map (fun q=>(Qy (qx q.2) c).getD (.skip,.skip)))[i]?=(zz c)[i]?:=by rw[h']
  rw[qur,que hi] at h1
  simp only[Option.map_some,qv2] at h1
  rw[h1]
  exact⟨rfl,rfl⟩
def XEo (E:Orc) (f k:Nat):Code→S→XS:=XD Try.prog T pol E (D1 Try.prog T pol E f k) Lim f k
def XL2 (E:Orc) (f k key:Nat) (s:S):XS:=Lim (fun s=>(XEo E f k (lbO f key) s).bind (lpx pol f key k)) s
def XM2 (E:Orc) (f k key:Nat) (it:Operand) (s:S):XS:=mlp it (fun s=>(XEo E f k (lbO f key) s).bind (lpx pol f key k)) s
def lp3 (E:Orc) (f k key:Nat) (o:Option Operand) (r:Option S):XS:=r.bind fun s=>match o with
 | none=>XL2 E f k key s
 | some it=>XM2 E f k key it s
def cnd (r:R) (x y:XS):XS:=
 match r with
 | .c (.d (.bool b))=>if b=true then x else y
 | _=>none
def XE2 (E:Orc) (f k:Nat):Code→S→XS
 | .skip,s=>some (.normal,s)
 | .label _,s=>some (.normal,s)
 | .ret,s=>some (.ret,s)
 | .exit id,s=>some (.exit id,s)
 | .seq a b,s=>(XE2 E f k a s).bind (sqD fun s'=>XE2 E f k b s')
 | .block id c,s=>(XE2 E f k c s).bind (bkD id)
 | .scope c,s=>(XE2 E f k c s).bind scD
 | .cond c x y,s=>cnd (s.ev c) (XE2 E f k x (s.ly c tt)) (XE2 E f k y (s.ly c ff))
 | .loop c,s=>lp3 E f k (qx c) (ZA c) (nrm pol f (qx c) k s)
 | .rangeFunc g ps _ b,s=>xRF pol E f g ps.toList (raO f (qx b)) (rbO f (qx b)) ((s.dzr pol.q).frz (q3w (s.dzr pol.q) (pol.rk f (qx b))))
 | c,s=>XEo E f k c s
section
variable {E:Orc} {f k:Nat} {s:S}
theorem qoZ (a b:Code):XEo E f k (.seq a b) s=(XEo E f k a s).bind (sqD fun s'=>XEo E f k b s'):=rfl
theorem qh2 (i:Nat) (b:Code):XEo E f k (.block i b) s=(XEo E f k b s).bind (bkD i):=rfl
theorem qhC (b:Code):XEo E f k (.scope b) s=(XEo E f k b s).bind scD:=rfl
theorem qkh (p:Operand) (a b:Code):XEo E f k (.cond p a b) s=cnd (s.ev p) (XEo E f k a (s.ly p tt)) (XEo E f k b (s.ly p ff)):=rfl
theorem qmQ (b:Code):XEo E f k (.loop b) s=(nrm pol f (qx b) k s).bind fun s0=>lpM Lim (ZA b) (fun s=>(XEo E f k b s).bind (lpx pol f (qx b) k)) s0:=rfl
theorem qlJ:XEo E f k .skip s=some (.normal,s):=rfl
theorem qgw (l:Nat):XEo E f k (.label l) s=some (.normal,s):=rfl
theorem qoy:XEo E f k .ret s=some (.ret,s):=rfl
theorem qkB (i:Nat):XEo E f k (.exit i) s=some (.exit i,s):=rfl
theorem qhJ (g:Operand) (ps:Array Tmp) (asg bd:Code):XEo E f k (.rangeFunc g ps asg bd) s=xRF pol E f g ps.toList asg bd ((s.dzr pol.q).frz (q3w (s.dzr pol.q) (pol.rk f (qx bd)))):=rfl
theorem qpA (a b:Code):XE2 E f k (.seq a b) s=(XE2 E f k a s).bind (sqD fun s'=>XE2 E f k b s'):=rfl
theorem qil (i:Nat) (b:Code):XE2 E f k (.block i b) s=(XE2 E f k b s).bind (bkD i):=rfl
theorem qhH (b:Code):XE2 E f k (.scope b) s=(XE2 E f k b s).bind scD:=rfl
theorem qno (p:Operand) (a b:Code):XE2 E f k (.cond p a b) s=cnd (s.ev p) (XE2 E f k a (s.ly p tt)) (XE2 E f k b (s.ly p ff)):=rfl
theorem qgU (g:Operand) (ps:Array Tmp) (asg bd:Code):XE2 E f k (.rangeFunc g ps asg bd) s=xRF pol E f g ps.toList (raO f (qx bd)) (rbO f (qx bd)) ((s.dzr pol.q).frz (q3w (s.dzr pol.q) (pol.rk f (qx bd)))):=rfl
theorem qkf (b:Code):XE2 E f k (.loop b) s=lp3 E f k (qx b) (ZA b) (nrm pol f (qx b) k s):=rfl
end
theorem q5q {E:Orc} {f k:Nat}:∀(c:Code),okL f c→∀s,XEo E f k c s=XE2 E f k c s:=by
 intro c
 induction c with
 | seq a b iha ihb=>
  intro h s
  have h1:=iha ⟨fun x hx=>h.lo x (qup _ hx),fun x hx=>h.ro x (qup _ hx)⟩
  have h2:=ihb ⟨fun x hx=>h.lo x (qul _ hx),fun x hx=>h.ro x (qul _ hx)⟩
  rw[qoZ,qpA,h1,funext h2]
 | block id c ih=>intro h s;rw[qh2,qil,ih ⟨h.lo,h.ro⟩ s]
 | scope c ih=>intro h s;rw[qhC,qhH,ih ⟨h.lo,h.ro⟩ s]
 | cond x a b iha ihb=>
  intro h s
  have h1:=iha ⟨fun x hx=>h.lo x (qup _ hx),fun x hx=>h.ro x (qup _ hx)⟩
  have h2:=ihb ⟨fun x hx=>h.lo x (qul _ hx),fun x hx=>h.ro x (qul _ hx)⟩
  rw[qkh,qno,h1,h2]
 | loop c ih=>
  intro h s
  rw[qmQ,qkf]
  unfold lp3 lpM XL2 XM2
  rw[h.lo c qus]
  cases ZA c<;>rfl
 | rangeFunc g ps a b _ _=>
  intro h s
  obtain⟨h1,h2⟩:=h.ro (a,b) qus
  rw[qhJ,qgU]
  rw[h1,h2]
 | skip=>intro _ s;rw[qlJ];rfl
 | label=>intro _ s;rw[qgw];rfl
 | ret=>intro _ s;rw[qoy];rfl
 | exit=>intro _ s;rw[qkB];rfl
 | _=>intro _ s;unfold XE2;rfl
def th2 (E:Orc) (f k:Nat) (r:XS) (b:Code):XS:=r.bind (sqD fun s'=>XE2 E f k b s')
def lp2 (E:Orc) (f k key:Nat) (o:Option S):XS:=o.bind fun s=>XL2 E f k key s
def lz2 (f k key:Nat) (r:XS):XS:=r.bind (lpx pol f key k)
def ly2 (e:Exit) (o:Option S):XS:=o.bind fun s=>some (e,s)
def rs2 (E:Orc) (ops:List Oper) (o:Option S) (l:List Oper):Option S:=o.bind fun s=>xr Try.prog T pol E ops l s
def qg0 (E:Orc) (ops:List Oper) (A:List (List Nat)) (s0:S) (m:Nat) (o:Option (S×Tx)) (l:List Oper) (acc:List Tx):Option S:=o.bind fun q=>xdp Try.prog T pol E ops A s0 m l q.1 (acc++[q.2])
section
variable {E:Orc} {f k key:Nat} {s:S} {b:Code} {c:Prop} [Decidable c] {x y:XS} {α β:Type} {o:Option α} {g:α→XS} {h:β→XS} {e:α⊕β}
theorem qgR:XE2 E f k .skip s=some (.normal,s):=rfl
theorem qk7:XE2 E f k .ret s=some (.ret,s):=rfl
theorem qif (i:Nat):XE2 E f k (.exit i) s=some (.exit i,s):=rfl
theorem qlS (a:Code):XE2 E f k (.seq a b) s=th2 E f k (XE2 E f k a s) b:=rfl
theorem qeR (i:Nat):XE2 E f k (.block i b) s=bkk i (XE2 E f k b s):=rfl
theorem qhV (p:Operand) (a b:Code):XE2 E f k (.cond p a b) s=match s.ev p with | .c (.d (.bool t))=>if t=true then XE2 E f k a (s.ly p tt) else XE2 E f k b (s.ly p ff)|_=>none:=rfl
theorem qbT (i:Nat) (ops:Array Oper):XE2 E f k (.region i ops false) s=rgn (xr Try.prog T pol E ops.toList ops.toList s):=rfl
theorem qiL (i:Nat) (ops:Array Oper):XE2 E f k (.region i ops true) s=rgn (D1 Try.prog T pol E f k i ops.toList (((s.uwD pol ops.toList).dzr pol.q).frk (pol.rk f i))):=rfl
theorem qev (g:Operand) (ps:Array Tmp) (asg bd:Code):XE2 E f k (.rangeFunc g ps asg bd) s=xRF pol E f g ps.toList (raO f (qx bd)) (rbO f (qx bd)) ((s.dzr pol.q).frz (q3w (s.dzr pol.q) (pol.rk f (qx bd)))):=rfl
theorem qhe:XE2 E f k (.loop b) s=lp3 E f k (qx b) (ZA b) (nrm pol f (qx b) k s):=rfl
theorem qfd (r:Option S):lp3 E f k key none r=lp2 E f k key r:=rfl
theorem q9r:th2 E f k (some (.normal,s)) b=XE2 E f k b s:=rfl
theorem qj6:th2 E f k (some (.ret,s)) b=some (.ret,s):=rfl
theorem qf4 (i:Nat):th2 E f k (some (.exit i,s)) b=some (.exit i,s):=rfl
theorem qdF:th2 E f k none b=none:=rfl
theorem qgA:th2 E f k (if c then x else y) b=if c then th2 E f k x b else th2 E f k y b:=QS _ _ _
theorem qfr:th2 E f k (o.bind g) b=o.bind fun a=>th2 E f k (g a) b:=by cases o<;>rfl
theorem qiN:th2 E f k (Sum.elim g h e) b=Sum.elim (fun a=>th2 E f k (g a) b) (fun a=>th2 E f k (h a) b) e:=by cases e<;>rfl
theorem qdA:lp2 E f k key (some s)=XL2 E f k key s:=rfl
theorem q9G:lz2 f k key (some (.normal,s))=ly2 .normal (nrm pol f key k s):=rfl
theorem qgK:lz2 f k key (some (.ret,s))=ly2 .ret (qgm k (pol.kx f key) (s.fnB pol (pol.ab f))):=rfl
theorem qeX (i:Nat):lz2 f k key (some (.exit i,s))=ly2 (.exit i) (qgm k (pol.kx f key) (s.fnB pol (pol.ab f))):=rfl
theorem qeC:lz2 f k key none=none:=rfl
theorem qgr:lz2 f k key (if c then x else y)=if c then lz2 f k key x else lz2 f k key y:=QS _ _ _
theorem qei:lz2 f k key (o.bind g)=o.bind fun a=>lz2 f k key (g a):=by cases o<;>rfl
theorem qhq:lz2 f k key (Sum.elim g h e)=Sum.elim (fun a=>lz2 f k key (g a)) (fun a=>lz2 f k key (h a)) e:=by cases e<;>rfl
theorem qdR (x:Exit):ly2 x (some s)=some (x,s):=rfl
theorem qip (i:Nat):bkk i (Sum.elim g h e)=Sum.elim (fun a=>bkk i (g a)) (fun a=>bkk i (h a)) e:=by cases e<;>rfl
theorem qhE (res:List ResultVar) (rt:List TypeId):fnn f k res rt (Sum.elim g h e)=Sum.elim (fun a=>fnn f k res rt (g a)) (fun a=>fnn f k res rt (h a)) e:=by cases e<;>rfl
end
section
variable {E:Orc} {α β γ:Type} {e:α⊕β}
theorem qeV {δ:Type} (g:α→Option γ) (h:β→Option γ) (F:γ→Option δ):(Sum.elim g h e).bind F=Sum.elim (fun a=>(g a).bind F) (fun a=>(h a).bind F) e:=by cases e<;>rfl
theorem qgC (g:α→RS) (h:β→RS) (d:Option Nat):wst (Sum.elim g h e) d=Sum.elim (fun a=>wst (g a) d) (fun a=>wst (h a) d) e:=by cases e<;>rfl
theorem qh8 (g:α→Option S) (h:β→Option S):rgn (Sum.elim g h e)=Sum.elim (fun a=>rgn (g a)) (fun a=>rgn (h a)) e:=by cases e<;>rfl
theorem qh6 {s:S} (g:α→Option (R×List (Nat×B))) (h:β→Option (R×List (Nat×B))) (bl rw ln:List Nat):cll (Sum.elim g h e) s bl rw ln=Sum.elim (fun a=>cll (g a) s bl rw ln) (fun a=>cll (h a) s bl rw ln) e:=by cases e<;>rfl
end
section
variable {E:Orc} {s:S} {o:Oper} {c:Prop} [Decidable c] {α β:Type} {v:Option α} {e:α⊕β} {ops l:List Oper} {A:List (List Nat)} {s0:S} {m:Nat} {acc:List Tx}
theorem qu2:xst Try.prog T pol E o true s=wst (xo Try.prog T pol E (pre pol s o.op) o.op) o.dst:=rfl
theorem qs6:xst Try.prog T pol E o false s=if q2Q s o.dst=true then some (s.put o.dst (.tup [])) else none:=rfl
theorem qqw:xsF Try.prog T pol E o true s=alX E s o (alC pol s o.op) (wsF (xo Try.prog T pol E s o.op) s o):=rfl
theorem qqv:xsF Try.prog T pol E o false s=if q2Q s o.dst=true then some (s.put o.dst (.tup []),(.tup [],[]),⟨[],[],[],[],[]⟩) else none:=rfl
theorem qpx:xr Try.prog T pol E ops [] s=some s:=rfl
theorem qjq:xr Try.prog T pol E ops (o::l) s=rs2 E ops (xgd Try.prog T pol E ops o s) l:=rfl
theorem qjH:rs2 E ops (some s) l=xr Try.prog T pol E ops l s:=rfl
theorem qn6:rs2 E ops none l=none:=rfl
theorem qqz (x y:Option S):rs2 E ops (if c then x else y) l=if c then rs2 E ops x l else rs2 E ops y l:=QS _ _ _
theorem qlT (g:α→Option S):rs2 E ops (v.bind g) l=v.bind fun a=>rs2 E ops (g a) l:=by cases v<;>rfl
theorem qoX (g:α→Option S) (h:β→Option S):rs2 E ops (Sum.elim g h e) l=Sum.elim (fun a=>rs2 E ops (g a) l) (fun a=>rs2 E ops (h a) l) e:=by cases e<;>rfl
theorem qmh:xdp Try.prog T pol E ops A s0 0 l s acc=if okP A 0 [] acc=true∧okX ops A s0 acc 0 acc=true∧okK ops A acc=true∧okN acc 0 acc=true then xr Try.prog T pol E ops l s else none:=by cases l<;>rfl
theorem qk9:xdp Try.prog T pol E ops A s0 (m+1) (o::l) s acc=qg0 E ops A s0 m (xgF Try.prog T pol E ops o s) l acc:=rfl
theorem qiM (x:Tx):qg0 E ops A s0 m (some (s,x)) l acc=xdp Try.prog T pol E ops A s0 m l s (acc++[x]):=rfl
theorem qgL:qg0 E ops A s0 m none l acc=none:=rfl
theorem qmA (x y:Option (S×Tx)):qg0 E ops A s0 m (if c then x else y) l acc=if c then qg0 E ops A s0 m x l acc else qg0 E ops A s0 m y l acc:=QS _ _ _
theorem qgY (g:α→Option (S×Tx)):qg0 E ops A s0 m (v.bind g) l acc=v.bind fun a=>qg0 E ops A s0 m (g a) l acc:=by cases v<;>rfl
theorem qll (g:FuncId) (zs:List (List Nat)) (rs:List R) (bl rw ln:List Nat):Z0 E s g zs rs bl rw ln=(q9O s (bl++rw) ln zs rs).bind fun rs'=>(cvG s (bl++rw) (bl++rw) 0).bind fun G=>
  if(bl++rw).all (fun i=>(s.blk i).live)=true∧(bl++rw).Nodup∧ln.all (fun i=>(s.blk i).live && !(bl++rw).contains i)=true∧bl.length≤G.length∧(List.range G.length).all (fun j=>(lk G j .dead).isBlk==decide (j<bl.length))=true then cll (E (.fn g) bl.length rs' G) s bl rw ln else none:=rfl
theorem qi6 (rid:Nat) (f:FuncId) (asg bd:Code) (rs:List R) (bl rw ln:List Nat):q0R E s rid f asg bd rs bl rw ln=(cvG s (bl++rw) (bl++rw) 0).bind fun G=>
  if(bl++rw).all (fun i=>(s.blk i).live)=true∧(bl++rw).Nodup∧ln.all (fun i=>(s.blk i).live && !(bl++rw).contains i)=true∧bl.length≤G.length∧(List.range G.length).all (fun j=>(lk G j .dead).isBlk==decide (j<bl.length))=true∧0<bl.length∧(bl++rw)[bl.length-1]?=some rid then
   cll (E (.rd f asg bd) bl.length (rs.map (cvT s (bl++rw) ln)) G) s bl rw ln else none:=rfl
theorem qsQ (f:Nat) (asg bd:Code) (g:Operand) (ps:List Nat):xRF pol E f g ps asg bd s=match s.ev g with
 | .c (.fn g' fs caps)=>rfk s.n (q3k E (s.rf f (q6G s (pol.rk f (qx bd))) ps asg bd) g' (pol.ow g') [] (fs.map R.c++[.c (.hd .yield s.nx)]++caps.map R.c))
 | _=>none:=rfl
end
theorem qky (g k:Nat) (a:List R) (G:List (Nat×B)):evo (.fn g) k a G=ev g k a G:=rfl
def q5Y (E:Orc) (f k:Nat) (args:List R) (G:List (Nat×B)):Option (R×List (Nat×B)):=(qy Try.prog pol f).bind fun bd=>q1Y Try.prog T pol (D1 Try.prog T pol) E Lim f k args G bd
theorem qi {f n:Nat} {c:Code} {res:List ResultVar} {rt:List TypeId} (hb:qy Try.prog pol f=some ⟨c,n,res,rt⟩):q1i f=c:=by unfold q1i;rw[hb];rfl
theorem q5b {E:Orc} {f n:Nat} {c:Code} {res:List ResultVar} {rt:List TypeId} (hb:qy Try.prog pol f=some ⟨c,n,res,rt⟩) (hl:okL f c) (k:Nat) (args:List R) (G:List (Nat×B)) :
  q5Y E f k args G=if args.length≤n then fnn f k res rt (XE2 E f k c ⟨Jq args 0,G,G.length,n⟩) else none:=by
 unfold q5Y
 rw[hb,quc]
 unfold q1Y
 split
 ·show Option.bind (XEo E f k c _) _=_
  rw[q5q c hl]
  rfl
 ·rfl
theorem qar {f k:Nat} (hp:pol.pr f=none) (args:List R) (G:List (Nat×B)):ev f k args G=q5Y evo f k args G:=by rw[qe2,hp];rfl
theorem qL {f n:Nat} {c:Code} {res:List ResultVar} {rt:List TypeId} (hb:qy Try.prog pol f=some ⟨c,n,res,rt⟩) (hp:pol.pr f=none) (hl:okL f c) (k:Nat) (args:List R) (G:List (Nat×B)) :
  ev f k args G=if args.length≤n then fnn f k res rt (XE2 evo f k c ⟨Jq args 0,G,G.length,n⟩) else none:=by
 rw[qar hp,q5b hb hl]
section
variable {σ ε:Type}
def itT (step:σ→Option (σ⊕ε)):Nat→σ→Option ε
 | 0,_=>none
 | n+1,x=>(step x).bind (Sum.elim (itT step n) some)
theorem q4T {step:σ→Option (σ⊕ε)}:∀{n m:Nat},n≤m→∀x r,itT step n x=some r→itT step m x=some r
 | 0,_,_,x,r,h=>by cases h
 | n+1,0,h,_,_,_=>by omega
 | n+1,m+1,h,x,r,hx=>by
  unfold itT at hx ⊢
  obtain⟨a,h1,h2⟩:=quh.1 hx
  rw[h1,quc]
  cases a with
  | inl y=>exact q4T (by omega) y r h2
  | inr e=>exact h2
def qE (step:σ→Option (σ⊕ε)) (x:σ):Option ε:=open Classical in if h:∃r n,itT step n x=some r then some (Classical.choose h) else none
theorem q4K {step:σ→Option (σ⊕ε)} {n:Nat} {x:σ} {r:ε} (h:itT step n x=some r):qE step x=some r:=by
 have hex:∃r n,itT step n x=some r:=⟨r,n,h⟩
 unfold qE
 rw[dif_pos hex]
 obtain⟨m,hm⟩:=Classical.choose_spec hex
 have h1:=q4T (Nat.le_max_left n m) _ _ h
 have h2:=q4T (Nat.le_max_right n m) _ _ hm
 rw[h1] at h2
 injection h2 with h2
 rw[←h2]
theorem q3D {step:σ→Option (σ⊕ε)} {x:σ} {r:ε} (h:qE step x=some r):∃n,itT step n x=some r:=by
 unfold qE at h
 split at h
 ·rename_i hex
  injection h with h
  obtain⟨m,hm⟩:=Classical.choose_spec hex
  exact⟨m,h ▸ hm⟩
 ·cases h
theorem qcp (step:σ→Option (σ⊕ε)) (x:σ):qE step x=(step x).bind (Sum.elim (qE step) some):=by
 refine q2X (fun r h=>?_) (fun r h=>?_)
 ·obtain⟨n,hn⟩:=q3D h
  cases n with
  | zero=>cases hn
  | succ n=>
   unfold itT at hn
   obtain⟨a,h1,h2⟩:=quh.1 hn
   rw[h1,quc]
   cases a with
   | inl y=>exact q4K h2
   | inr e=>exact h2
 ·obtain⟨a,h1,h2⟩:=quh.1 h
  cases a with
  | inl y=>
   obtain⟨n,hn⟩:=q3D h2
   refine q4K (n:=n+1) ?_
   unfold itT
   rw[h1];exact hn
  | inr e=>
   refine q4K (n:=1) ?_
   unfold itT
   rw[h1];exact h2
end
theorem qgD {F:S→XS} {σ ε:Type} {st:σ→S} {ex:ε→Exit×S} {step:σ→Option (σ⊕ε)} (hne:∀e,(ex e).1 ≠ .normal)
  (h:∀x,F (st x)=(step x).bind (Sum.elim (fun y=>some (.normal,st y)) (fun e=>some (ex e)))) (x:σ):Lim F (st x)=(qE step x).bind fun e=>some (ex e):=by
 have hit:∀(n:Nat) (x:σ),iter n F (st x)=(itT step n x).bind fun e=>some (ex e):=by
  intro n
  induction n with
  | zero=>intro x;rfl
  | succ n ih=>
   intro x
   unfold iter itT
   rw[h x]
   cases step x with
   | none=>rfl
   | some a=>
    cases a with
    | inl y=>exact ih y
    | inr e=>
     show sqD (iter n F) (ex e)=some (ex e)
     have:=hne e
     generalize ex e=q at this
     obtain⟨z,t⟩:=q
     cases z<;>first|exact absurd rfl this|rfl
 refine q2X (fun r hr=>?_) (fun r hr=>?_)
 ·obtain⟨n,hn⟩:=q2C hr
  rw[hit n x] at hn
  obtain⟨e,h1,h2⟩:=quh.1 hn
  rw[q4K h1];exact h2
 ·obtain⟨e,h1,h2⟩:=quh.1 hr
  obtain⟨n,hn⟩:=q3D h1
  refine q5I (n:=n) ?_
  rw[hit n x,hn];exact h2
theorem q6V {E:Orc} {f k key:Nat} {c:Code} {σ ε:Type} {st:σ→S} {ex:ε→Exit×S} {step:σ→Option (σ⊕ε)} (hc:lbO f key=c) (hl:okL f c) (hne:∀e,(ex e).1 ≠ .normal)
  (h:∀x,lz2 f k key (XE2 E f k c (st x))=(step x).bind (Sum.elim (fun y=>some (.normal,st y)) (fun e=>some (ex e)))) (x:σ):XL2 E f k key (st x)=(qE step x).bind fun e=>some (ex e):=by
 refine qgD hne (fun x=>?_) x
 rw[hc,q5q c hl]
 exact h x
def xk (E:Orc) (f k key:Nat) (r:XS):XS:=r.bind fun p=>match p.1 with | .normal=>XL2 E f k key p.2|e=>some (e,p.2)
section
variable {E:Orc} {f k key:Nat} {s:S} {c:Prop} [Decidable c] {α β:Type} {o:Option α} {g:α→XS} {h:β→XS} {e:α⊕β}
theorem q3l:xk E f k key (some (.normal,s))=XL2 E f k key s:=rfl
theorem q6T (i:Nat):xk E f k key (some (.exit i,s))=some (.exit i,s):=rfl
theorem qbG:xk E f k key (some (.ret,s))=some (.ret,s):=rfl
theorem q77:xk E f k key none=none:=rfl
theorem qaK (x y:XS):xk E f k key (if c then x else y)=if c then xk E f k key x else xk E f k key y:=QS _ _ _
theorem q6Y:xk E f k key (o.bind g)=o.bind fun a=>xk E f k key (g a):=by cases o<;>rfl
theorem qci:xk E f k key (Sum.elim g h e)=Sum.elim (fun a=>xk E f k key (g a)) (fun a=>xk E f k key (h a)) e:=by cases e<;>rfl
end
theorem q7i {E:Orc} {f k key:Nat} {c:Code} {s:S} (hc:lbO f key=c) (hl:okL f c):XL2 E f k key s=xk E f k key (lz2 f k key (XE2 E f k c s)):=by
 unfold XL2
 rw[qmB,hc,q5q c hl]
 show(lz2 f k key (XE2 E f k c s)).bind _=_
 unfold xk
 congr 1
 funext p
 obtain⟨e,t⟩:=p
 cases e<;>first|rfl|(show Lim _ t=Lim _ t;rw[hc])
theorem q0v {α:Type} {c:Prop} [Decidable c] (x y:α):(if c then some x else some y)=some (if c then x else y):=by split<;>rfl
theorem Q1 {f key:Nat} {c b:Code} (hc:q1i f=c) (h:(z7 key c).getD .skip=b):lbO f key=b:=by unfold lbO;rw[hc];exact h
theorem zn {f:Nat} {c b:Code} (hl:okL f c) (hb:b∈Q6 c):okL f b:=⟨fun x hx=>hl.lo x ((q3J c b hb).1 x hx),fun q hq=>hl.ro q ((q3J c b hb).2 q hq)⟩
theorem qn0 {f key:Nat} {c:Code} {q:Code×Code} (hl:okL f c) (hq:q∈zz c):okL f q.1∧okL f q.2:=
 ⟨⟨fun x hx=>hl.lo x ((ZG c q hq).1 x (qup _ hx)),fun x hx=>hl.ro x ((ZG c q hq).2 x (qup _ hx))⟩,
   ⟨fun x hx=>hl.lo x ((ZG c q hq).1 x (qul _ hx)),fun x hx=>hl.ro x ((ZG c q hq).2 x (qul _ hx))⟩⟩
def rn2 (f k key:Nat) (o:Option B) (s:S):Option (R×List (Nat×B)):=o.bind fun b=>rd3 k (XE2 evo f k (rbO f key) (s.up [(k-1,b)]))
def rn1 (f k key:Nat) (r:XS):Option (R×List (Nat×B)):=r.bind fun p=>match p.1 with | .normal=>rn2 f k key (rdB (p.2.blk (k-1))) p.2|_=>none
section
variable {f k key:Nat} {s:S} {c:Prop} [Decidable c] {α β:Type} {o:Option α} {g:α→XS} {h:β→XS} {e:α⊕β}
theorem q9c:rn1 f k key (some (.normal,s))=rn2 f k key (rdB (s.blk (k-1))) s:=rfl
theorem qeF (b:B):rn2 f k key (some b) s=rd3 k (XE2 evo f k (rbO f key) (s.up [(k-1,b)])):=rfl
end
theorem qiQ {f key k:Nat} {asg bd:Code} (ha:raO f key=asg) (hb:rbO f key=bd) (hk:0<k) (hc:q18 (drq pol f) false asg=true∧q18 (drq pol f) false bd=true) (la:okL f asg) (lb:okL f bd) (tm:List R) (G:List (Nat×B)) :
  evr f (raO f key) (rbO f key) k tm G=rn1 f k key (XE2 evo f k (raO f key) ⟨Jq tm 0,G,G.length,tm.length⟩):=by
 rw[qkg ha hb hk hc tm G,ha]
 have e1:∀s,XE f k asg s=XE2 evo f k asg s:=fun s=>q5q asg la s
 have e2:∀s,XE f k bd s=XE2 evo f k bd s:=fun s=>q5q bd lb s
 rw[e1]
 unfold rd1 rn1
 congr 1
 funext p
 obtain⟨x,t⟩:=p
 cases x<;>first
  | rfl
  | (show rd2 f k bd t (rdB (t.blk (k-1)))=rn2 f k key (rdB (t.blk (k-1))) t
     unfold rd2 rn2
     rw[hb]
     congr 1
     funext b
     rw[e2])
theorem ql3 {f key:Nat} {c b:Code} (hc:q1i f=c) (h:((Qy key c).getD (.skip,.skip)).1=b):raO f key=b:=by unfold raO;rw[hc];exact h
theorem qlz {f key:Nat} {c b:Code} (hc:q1i f=c) (h:((Qy key c).getD (.skip,.skip)).2=b):rbO f key=b:=by unfold rbO;rw[hc];exact h
section
variable {σ ε:Type} (f k:Nat) (enc:σ→List R×List (Nat×B)) (ex:ε→R×List (Nat×B))
def ovr (F:σ→Option ε):Orc:=fun g k' args G=>open Classical in if h:(g = .fn f∧k'=k)∧∃y,enc y=(args,G) then(F (Classical.choose h.2)).bind fun e=>some (ex e) else evo g k' args G
def q3Z (y:σ):Option ε:=open Classical in if h:∃e,ev f k (enc y).1 (enc y).2=some (ex e) then some (Classical.choose h) else none
variable {f k enc ex}
theorem qhL (hi:∀y z,enc y=enc z→y=z) (F:σ→Option ε) (y:σ):ovr f k enc ex F (.fn f) k (enc y).1 (enc y).2=(F y).bind fun e=>some (ex e):=by
 have h:((Fx.fn f=Fx.fn f)∧k=k)∧∃z,enc z=((enc y).1,(enc y).2):=⟨⟨rfl,rfl⟩,y,rfl⟩
 unfold ovr
 rw[dif_pos h]
 rw[hi _ _ ((Classical.choose_spec h.2).trans rfl)]
theorem qep (F:σ→Option ε) (g k':Nat) (a:List R) (G:List (Nat×B)) (h:g≠f):ovr f k enc ex F (.fn g) k' a G=ev g k' a G:=by
 unfold ovr
 rw[dif_neg (fun h'=>h (by injection h'.1.1))]
 rfl
theorem qlW (F:σ→Option ε) (g:Nat) (asg bd:Code) (k':Nat) (a:List R) (G:List (Nat×B)):ovr f k enc ex F (.rd g asg bd) k' a G=evr g asg bd k' a G:=by
 unfold ovr
 rw[dif_neg (fun h'=>by cases h'.1.1)]
 rfl
def q5K (f k:Nat) (enc:σ→List R×List (Nat×B)) (ex:ε→R×List (Nat×B)) (step:(σ→Option ε)→σ→Option ε):Prop:=
 ∀(E:Orc) (F:σ→Option ε),(∀y,E (.fn f) k (enc y).1 (enc y).2=(F y).bind fun e=>some (ex e))→(∀g k' a G,g≠f→E (.fn g) k' a G=ev g k' a G)→(∀g asg bd k' a G,E (.rd g asg bd) k' a G=evr g asg bd k' a G)→
  ∀y,q5Y E f k (enc y).1 (enc y).2=(step F y).bind fun e=>some (ex e)
theorem q91 {E E':Orc} (h:OLe E E') (L:(S→XS)→S→XS) (hL:LLe L Lim) {f k:Nat} {args:List R} {G:List (Nat×B)} {bd:Bd} {x:R×List (Nat×B)} (hb:qy Try.prog pol f=some bd) (hx:q1Y Try.prog T pol (D1 Try.prog T pol) E L f k args G bd=some x):q5Y E' f k args G=some x:=by
 unfold q5Y
 rw[hb,quc]
 exact q4l q3s h hL hx
theorem qh9 (hp:pol.pr f=none) (hi:∀y z,enc y=enc z→y=z) {step:(σ→Option ε)→σ→Option ε} (hs:q5K f k enc ex step) :
  ∀(n:Nat) (y:σ) (z:R×List (Nat×B)),xf Try.prog T pol (D1 Try.prog T pol) n (.fn f) k (enc y).1 (enc y).2=some z→∃e,z=ex e:=by
 intro n
 induction n with
 | zero=>intro y z h;cases h
 | succ n ih=>
  intro y z h
  obtain⟨F,hF⟩:∃F:σ→Option ε,∀y z,xf Try.prog T pol (D1 Try.prog T pol) n (.fn f) k (enc y).1 (enc y).2=some z→(F y).bind (fun e=>some (ex e))=some z:=by
   refine⟨fun y=>open Classical in if h:∃e,xf Try.prog T pol (D1 Try.prog T pol) n (.fn f) k (enc y).1 (enc y).2=some (ex e) then some (Classical.choose h) else none,fun y z hz=>?_⟩
   obtain⟨e,rfl⟩:=ih y z hz
   have hex:∃e,xf Try.prog T pol (D1 Try.prog T pol) n (.fn f) k (enc y).1 (enc y).2=some (ex e):=⟨e,hz⟩
   simp only[dif_pos hex,quc]
   rw[←Classical.choose_spec hex,hz]
  have hle:OLe (xf Try.prog T pol (D1 Try.prog T pol) n) (ovr f k enc ex F):=by
   intro g k' args G x hx
   unfold ovr
   split
   ·rename_i hh
    obtain⟨⟨rfl,rfl⟩,hy⟩:=hh
    have e1:=Classical.choose_spec hy
    refine hF _ _ ?_
    rw[e1];exact hx
   ·exact q8T q3s _ _ _ _ _ hx
  have h2:∃bd,qy Try.prog pol f=some bd∧q1Y Try.prog T pol (D1 Try.prog T pol) (xf Try.prog T pol (D1 Try.prog T pol) n) (iter n) f k (enc y).1 (enc y).2 bd=some z:=by
   have h3:fnx Try.prog T pol (D1 Try.prog T pol) (xf Try.prog T pol (D1 Try.prog T pol) n) (iter n) f k (enc y).1 (enc y).2=some z:=h
   unfold fnx at h3
   rw[hp] at h3
   exact quh.1 h3
  obtain⟨bd,hb,hx⟩:=h2
  have h4:=q91 hle (iter n) (q6w n) hb hx
  rw[hs _ F (qhL hi F) (qep F) (qlW F) y] at h4
  obtain⟨e,-,h5⟩:=quh.1 h4
  injection h5 with h5
  exact⟨e,h5.symm⟩
theorem q7A (hp:pol.pr f=none) (hi:∀y z,enc y=enc z→y=z) {step:(σ→Option ε)→σ→Option ε} (hs:q5K f k enc ex step) (y:σ):ev f k (enc y).1 (enc y).2=(q3Z f k enc ex y).bind fun e=>some (ex e):=by
 unfold q3Z
 split
 ·rename_i h
  rw[quc]
  exact Classical.choose_spec h
 ·rename_i h
  cases hv:ev f k (enc y).1 (enc y).2 with
  | none=>rfl
  | some z=>
   obtain⟨n,hn⟩:=q1U (show EE Try.prog T pol (D1 Try.prog T pol) (.fn f) k (enc y).1 (enc y).2=some z from hv)
   obtain⟨e,rfl⟩:=qh9 hp hi hs n y z hn
   exact absurd ⟨e,hv⟩ h
theorem qfN (hp:pol.pr f=none) (hi:∀y z,enc y=enc z→y=z) (hj:∀d e,ex d=ex e→d=e) {step:(σ→Option ε)→σ→Option ε} (hs:q5K f k enc ex step) (y:σ):q3Z f k enc ex y=step (q3Z f k enc ex) y:=by
 have h1:=hs evo (q3Z f k enc ex) (q7A hp hi hs) (fun _ _ _ _ _=>rfl) (fun _ _ _ _ _ _=>rfl) y
 rw[←qar hp,q7A hp hi hs y] at h1
 cases h2:q3Z f k enc ex y with
 | none=>
  rw[h2] at h1
  cases h3:step (q3Z f k enc ex) y with
  | none=>rfl
  | some e=>rw[h3] at h1;cases h1
 | some d=>
  rw[h2] at h1
  cases h3:step (q3Z f k enc ex) y with
  | none=>rw[h3] at h1;cases h1
  | some e=>
   rw[h3] at h1
   injection h1 with h1
   rw[hj _ _ h1]
end
end
noncomputable section
open Go.RowKit
section
variable {α:Type} {E:α→List D} {n:Nat}
theorem q6N (h:∀x,(E x).length=n):∀(v:List α) (a:Nat),(v.flatMap E).drop (a*n)=(v.drop a).flatMap E
 | [],a=>by simp
 | x::v,0=>by simp
 | x::v,a+1=>by
  rw[qvg,show(a+1)*n=(E x).length+a*n by rw[h,Nat.add_mul];omega,List.drop_length_add_append]
  exact q6N h v a
theorem q6F (h:∀x,(E x).length=n):∀(v:List α) (a:Nat),(v.flatMap E).take (a*n)=(v.take a).flatMap E
 | [],a=>by simp
 | x::v,0=>by simp
 | x::v,a+1=>by
  rw[qvg,show(a+1)*n=(E x).length+a*n by rw[h,Nat.add_mul];omega,List.take_length_add_append,List.take_succ_cons,qvg,q6F h v a]
theorem q3m (v:List α) (x:α):(v.flatMap E).map C.d++(E x).map C.d=((v++[x]).flatMap E).map C.d:=by simp
theorem qc8 {β:Type}:∀(ys p q:List β) (o:Nat),o+ys.length≤p.length→spl (p++q) o ys=spl p o ys++q
 | [],p,q,o,_=>rfl
 | y::ys,p,q,o,h=>by
  rw[qun] at h
  rw[spl,spl,List.set_append_left _ _ (by omega),qc8 ys _ q (o+1) (by rw[quY];omega)]
theorem q7z {β:Type}:∀(ys p q:List β) (o:Nat),spl (p++q) (p.length+o) ys=p++spl q o ys
 | [],p,q,o=>rfl
 | y::ys,p,q,o=>by
  rw[spl,spl,List.set_append_right _ _ (by omega),show p.length+o-p.length=o by omega,show p.length+o+1=p.length+(o+1) by omega,q7z ys]
theorem q8v {β:Type}:∀(ys p pre:List β),p.length=ys.length→spl (pre++p) pre.length ys=pre++ys
 | [],p,pre,h=>by rw[quw h];rfl
 | y::ys,[],pre,h=>by cases h
 | y::ys,x::p,pre,h=>by
  have e:(pre++x::p).set pre.length y=(pre++[y])++p:=by rw[List.set_append_right _ _ (qut _),Nat.sub_self];simp
  rw[spl,e,show pre.length+1=(pre++[y]).length by simp,q8v ys p _ (by simpa using h)]
  simp
theorem qaP {β:Type}:∀(ys:List β) (o:Nat),spl [] o ys=[]
 | [],o=>rfl
 | y::ys,o=>by rw[spl,List.set_nil,qaP ys]
theorem q9Q (h:∀x,(E x).length=n):∀(v:List α) (i:Nat) (x:α),spl (v.flatMap E) (i*n) (E x)=(v.set i x).flatMap E
 | [],i,x=>by rw[List.flatMap_nil,qaP];rfl
 | y::v,0,x=>by
  rw[qvg,Nat.zero_mul,qc8 _ _ _ _ (by rw[h,h];omega)]
  have:=q8v (E x) (E y) [] (by rw[h,h])
  simp only[qux,quW] at this
  rw[this];rfl
 | y::v,i+1,x=>by
  rw[qvg,show(i+1)*n=(E y).length+i*n by rw[h,Nat.add_mul];omega,q7z,q9Q h v i x]
  rfl
theorem q4r {β γ:Type} (f:β→γ):∀(ys cs:List β) (o:Nat),spl (cs.map f) o (ys.map f)=(spl cs o ys).map f
 | [],cs,o=>rfl
 | y::ys,cs,o=>by rw[quA,spl,spl,←List.map_set,q4r f ys]
theorem q6n (h:∀x,(E x).length=n) (v:List α) (i:Nat) (x:α):spl ((v.flatMap E).map C.d) (i*n) ((E x).map C.d)=((v.set i x).flatMap E).map C.d:=by rw[q4r,q9Q h]
theorem qce {β:Type}:∀(ys zs cs:List β) (o:Nat),spl cs o (ys++zs)=spl (spl cs o ys) (o+ys.length) zs
 | [],zs,cs,o=>rfl
 | y::ys,zs,cs,o=>by rw[qvh,spl,spl,qce ys,qun,show o+1+ys.length=o+(ys.length+1) by omega]
theorem qav (h:∀x,(E x).length=n):∀(w v:List α) (i:Nat),spl (v.flatMap E) (i*n) (w.flatMap E)=(spl v i w).flatMap E
 | [],v,i=>rfl
 | x::w,v,i=>by rw[qvg,qce,q9Q h,h,spl,show i*n+n=(i+1)*n by rw[Nat.add_mul];omega,qav h w]
theorem qjS (m:Nat) (x:α):(List.replicate m (E x)).flatten=(List.replicate m x).flatMap E:=by
 rw[List.flatMap_def,List.map_replicate]
theorem qgW {cs:List C} (x:α) (hx:cs=(E x).map C.d) (m:Nat):(List.replicate m cs).flatten=((List.replicate m x).flatMap E).map C.d:=by
 subst hx
 rw[←qjS,List.map_flatten,List.map_replicate]
end
theorem Qv {α:Type} {E:α→List D} {n:Nat} (h:∀x,(E x).length=n) (hn:0<n) (hi:∀x y,E x=E y→x=y):∀(v w:List α),v.flatMap E=w.flatMap E→v=w
 | [],[],_=>rfl
 | [],y::w,e=>by
  have:=congrArg List.length e
  rw[qvg,quj,h] at this
  simp at this;omega
 | x::v,[],e=>by
  have:=congrArg List.length e
  rw[qvg,quj,h] at this
  simp at this;omega
 | x::v,y::w,e=>by
  rw[qvg,qvg] at e
  obtain⟨h1,h2⟩:=List.append_inj e (by rw[h,h])
  rw[hi x y h1,Qv h hn hi v w h2]
theorem q2P (a b:List D):(a.map C.d=b.map C.d)=(a=b):=by
 refine propext ⟨fun h=>?_,fun h=>by rw[h]⟩
 induction a generalizing b with
 | nil=>cases b with|nil=>rfl|cons=>cases h
 | cons x a ih=>
  cases b with
  | nil=>cases h
  | cons y b=>
   rw[quA,quA] at h
   injection h with h1 h2
   injection h1 with h1
   rw[h1,ih b h2]
def eI (x:Int):List D:=[.int .i64 x]
def eS (x:ByteArray):List D:=[.str x]
def eL {α:Type} (n:Nat) (E:α→List D) (v:List α):List D:=[.sl n v.length (v.flatMap E)]
theorem qad {α β γ:Type} (f:β→γ) (o:Option α) (g:α→Option β):(o.bind g).map f=o.bind fun x=>(g x).map f:=by cases o<;>rfl
theorem qiT (P:Program) (T:Ty) (d:Nat) (t:TypeId) (x y:R):eqR P T (d+1) t x y =
  match T.k t,x,y with
  | .int _,.c (.d (.int k a)),.c (.d (.int k' b))=>if k=k' then some (a==b) else none
  | .bool,.c (.d (.bool a)),.c (.d (.bool b))=>some (a==b)
  | .str,.c (.d (.str a)),.c (.d (.str b))=>some (a.toList==b.toList)
  | .st fs,.agg xs,.agg ys=>if q5U P t=true then qcc T (eqR P T d) xs ys fs else none
  | .arr n e,.agg xs,.agg ys=>if qgP P t=true∧T.k e ≠ .other then qcc T (eqR P T d) xs ys (qbd (T.sz e) e n 0) else none
  | _,_,_=>none:=by
 generalize hk:T.k t=kd
 unfold eqR
 rw[hk]
 cases kd<;>first
  | rfl
  | (rcases x with (c|_|_|_)<;>first
    | rfl
    | (rcases y with (c' | _|_|_)<;>first
      | rfl
      | (cases c<;>first
        | rfl
        | (cases c'<;>first
          | rfl
          | (rename_i d1 d2;cases d1<;>first
            | rfl
            | (cases d2<;>rfl))))))
section
variable {α β:Type} {c:Prop} [Decidable c] (a b:List α)
theorem qi8 (f:α→Bool):(if c then a else b).any f=if c then a.any f else b.any f:=by split<;>rfl
theorem qgO (f:α→Bool):(if c then a else b).all f=if c then a.all f else b.all f:=by split<;>rfl
theorem qhk (f:α→β):(if c then a else b).map f=if c then a.map f else b.map f:=by split<;>rfl
theorem q6C:(if c then a else b).isEmpty=if c then a.isEmpty else b.isEmpty:=by split<;>rfl
theorem q5B [BEq α] (x:α):(if c then a else b).contains x=if c then a.contains x else b.contains x:=by split<;>rfl
end
def qpm (op:UnOp) (r:R) (s:S):RS:=
 match op,r with
 | .not,.c (.d (.bool b))=>some (.c (.d (.bool (!b))),s)
 | .neg,.c (.d (.int k n))=>some (.c (.d (.int k (k.wrap (0-n)))),s)
 | _,_=>none
theorem qjt (s:S) (op:UnOp) (x:Operand):xUn s op x=qpm op (s.ev x) s:=by
 unfold xUn qpm
 generalize s.ev x=r
 cases op<;>first
  | rfl
  | (cases r with
     | c c=>cases c with
      | d d=>cases d<;>rfl
      | _=>rfl
     | _=>rfl)
def lkq (ok:Bool) (z:R):Option (Nat×R×Nat)→Option R
 | some q=>some (tt2 q.2.1 ok true)
 | none=>some (tt2 z ok false)
theorem q94 (T:Ty) (s:S) (t:TypeId) (x y:Operand) (ok:Bool):Jv T s t x y ok =
  match T.k t,q1n s x,(s.ev y).key with
  | .mp k e,some es,some kv=>if plK (T.k k) kv=true∧es.all (fun q=>plK (T.k k) q.1)=true then(zR T e).bind fun z=>lkq ok z (fnd kv es 0) else none
  | _,_,_=>none:=by
 unfold Jv
 generalize T.k t=kd
 generalize q1n s x=m
 generalize (s.ev y).key=v
 cases kd<;>first
  | rfl
  | (cases m<;>first
    | rfl
    | (cases v<;>first
      | rfl
      | (simp only
         split
         ·congr 1
          funext z
          cases fnd _ _ _<;>rfl
         ·rfl)))
theorem qcE (xs ys:List C):(xs++ys).flatMap C.rows=xs.flatMap C.rows++ys.flatMap C.rows:=List.flatMap_append
theorem qbs (zs0:List Nat):∀(zs:List Nat) (ds:List D) (ys:List C),zs.length=ds.length→dzc zs0 zs (ds.map C.d++ys)=ds.map C.d++dzc zs0 [] ys
 | [],[],ys,_=>rfl
 | [],d::ds,ys,h=>by cases h
 | z::zs,[],ys,h=>by cases h
 | z::zs,d::ds,ys,h=>by
  rw[quA,qvh,dzc,qbs zs0 zs ds ys (by simpa using h)]
  rfl
theorem qgd {α:Type} {E:α→List D} {n:Nat} (h:∀x,(E x).length=n+1) (zs0:List Nat) (h0:zs0.length=n+1):∀(v:List α) (ys:List C),dzc zs0 [] ((v.flatMap E).map C.d++ys)=(v.flatMap E).map C.d++dzc zs0 [] ys
 | [],ys=>rfl
 | x::v,ys=>by
  have hx:=h x
  rw[qvg,List.map_append,quS,quS,←qgd h zs0 h0 v ys]
  cases hE:E x with
  | nil=>rw[hE] at hx;cases hx
  | cons d ds=>
   rw[hE] at hx
   rw[quA,qvh,dzc,qbs zs0 zs0.tail ds _ (by rw[List.length_tail];simp at hx;omega)]
   rfl
def qgg {α:Type} (a b:Option α):Prop:=∀r,a=some r→b=some r
theorem qgg.bind {α β:Type} {a b:Option α} {f g:α→Option β} (h:qgg a b) (hf:∀x,qgg (f x) (g x)):qgg (a.bind f) (b.bind g):=fun r hr=>by
 obtain⟨x,h1,h2⟩:=quh.1 hr
 rw[h x h1]
 exact hf x r h2
theorem qgg.sum {α β γ:Type} {f f':α→Option γ} {g g':β→Option γ} {e:α⊕β} (h:∀x,qgg (f x) (f' x)) (h':∀x,qgg (g x) (g' x)):qgg (Sum.elim f g e) (Sum.elim f' g' e):=by
 cases e with
 | inl x=>exact h x
 | inr x=>exact h' x
def spr (cs:List C) (o:Nat) (ys:List C):List C:=spl cs o ys
theorem qbN (t:TypeId) (cs ys:List C) (o:Nat):(B.blk t cs).set o ys = .blk t (spl cs o ys):=rfl
theorem qbj (e:TypeId) (sz:Nat) (cs ys:List C) (o:Nat):(B.row e sz cs).set o ys = .row e sz (spr cs o ys):=rfl
theorem qdo (c:C) (cs ys:List C) (o:Nat):spr (c::cs) o ys=spl (c::cs) o ys:=rfl
def xsl (T:Ty) (s:S) (t:TypeId) (x:R) (lo hi:Option Operand):RS:=
 match x,T.k t with
 | .c (.d (.str b)),.str=>
  match s.bd lo 0,s.bd hi b.size with
  | some l,some h=>if 0≤l∧l≤h∧h≤b.size then some (.c (.d (.str (b.extract l.toNat h.toNat))),s) else none
  | _,_=>none
 | .c (.d (.sl sz n cs)),.sl e=>
  if T.k e ≠ .other∧T.sz e=sz then
   match s.bd lo 0,s.bd hi n with
   | some l,some h=>if 0≤l∧l≤h∧h≤n then some (.c (.d (.sl sz (h.toNat-l.toNat) ((cs.drop (l.toNat*sz)).take ((h.toNat-l.toNat)*sz)))),s) else none
   | _,_=>none
  else none
 | .c (.own id sz off n),.sl e=>
  if T.k e ≠ .other∧T.sz e=sz then
   match s.bd lo 0,s.bd hi n with
   | some l,some h=>if 0≤l∧l≤h∧h≤n then(if l=0∨l<n then some (.c (.own id sz (off+l.toNat) (h.toNat-l.toNat)),s) else some (.c (.d (.sl sz 0 [])),s)) else none
   | _,_=>none
  else none
 | .c .nils,.sl e=>
  if T.k e ≠ .other then
   match s.bd lo 0,s.bd hi 0 with
   | some l,some h=>if l=0∧h=0 then some (.c .nils,s) else none
   | _,_=>none
  else none
 | _,_=>none
theorem qaT (T:Ty) (s:S) (t:TypeId) (x:Operand) (lo hi:Option Operand):q5p T s t x lo hi none=xsl T s t (s.ev x) lo hi:=by
 unfold q5p xsl
 generalize s.ev x=r
 generalize T.k t=kd
 cases r with
 | c c=>
  cases c with
  | d d=>cases d<;>cases kd<;>rfl
  | _=>cases kd<;>rfl
 | _=>rfl
theorem qlU (b:Bool):((if(!b)=true then true else false)||b)=true:=by cases b<;>rfl
def xcl (T:Ty) (s:S) (hi mx:Option Operand):Kd→R→RS
 | .sl e,.c (.d (.sl sz n cs))=>if T.k e ≠ .other∧T.sz e=sz then(match s.bd hi 0,s.bd mx 0 with|some h,some m=>if h=(n:Int)∧m=(n:Int) then some (.c (.clp sz n cs),s) else none|_,_=>none) else none
 | .sl e,.c .nils=>if T.k e ≠ .other then(match s.bd hi 0,s.bd mx 0 with|some h,some m=>if h=0∧m=0 then some (.c (.clp (T.sz e) 0 []),s) else none|_,_=>none) else none
 | _,_=>none
theorem qmt (T:Ty) (s:S) (hi mx:Option Operand) (e:TypeId) (sz n:Nat) (cs:List D):xcl T s hi mx (.sl e) (.c (.d (.sl sz n cs)))=if T.k e ≠ .other∧T.sz e=sz then(match s.bd hi 0,s.bd mx 0 with|some h,some m=>if h=(n:Int)∧m=(n:Int) then some (.c (.clp sz n cs),s) else none|_,_=>none) else none:=rfl
theorem qee (T:Ty) (s:S) (t:TypeId) (x y:Operand) (mx:Option Operand):qdc T s t x none (some y) mx=xcl T s (some y) mx (T.k t) (s.ev x):=by
 unfold qdc
 generalize s.ev x=r
 generalize T.k t=kd
 cases kd with
 | sl e=>
  cases r with
  | c c=>
   cases c with
   | d d=>
    cases d with
    | sl sz n cs=>
     simp only[xcl,Option.isSome_some,true_and]
     cases s.bd (some y) 0 with
     | none=>simp
     | some h=>cases s.bd mx 0 with
      | none=>simp
      | some m=>simp only[qv2];split<;>rename_i hc<;>simp_all
    | _=>rfl
   | nils=>
    simp only[xcl,Option.isSome_some,true_and]
    cases s.bd (some y) 0 with
    | none=>simp
    | some h=>cases s.bd mx 0 with
     | none=>simp
     | some m=>simp only[qv2];split<;>rename_i hc<;>simp_all
   | _=>rfl
  | _=>rfl
 | _=>rfl
section
variable {T:Ty} {s:S} {t:TypeId} {lo hi:Option Operand}
theorem qj8 {id sz off n:Nat}:xsl T s t (.c (.own id sz off n)) none hi =
  match T.k t with
  | .sl e=>if T.k e ≠ .other∧T.sz e=sz then
   match s.bd hi n with
   | some h=>if 0≤h∧h≤n then some (.c (.own id sz off (min h.toNat n)),s) else none
   | _=>none
   else none
  | _=>none:=by
 unfold xsl
 cases T.k t<;>try rfl
 dsimp only[S.bd]
 split
 ·split
  ·rename_i l h h1 h2
   injection h1 with h1
   subst h1
   rw[h2]
   dsimp only
   by_cases hc:0≤h∧h≤n
   ·rw[if_pos ⟨Int.le_refl _,hc⟩,if_pos (.inl rfl),if_pos hc,show min h.toNat n=h.toNat by omega]
    rfl
   ·rw[if_neg (fun q=>hc q.2),if_neg hc]
  ·rename_i h1
   split
   ·rename_i h h2
    exact absurd h2 (h1 0 h rfl)
   ·rfl
 ·rfl
theorem qht {id sz off n:Nat} {lo:Operand}:xsl T s t (.c (.own id sz off n)) (some lo) hi =
  match T.k t with
  | .sl e=>if T.k e ≠ .other∧T.sz e=sz then
   match s.bd (some lo) 0,s.bd hi n with
   | some l,some h=>if 0≤l∧l≤h∧h≤n then(if l=0∨l<n then some (.c (.own id sz (off+l.toNat) (h.toNat-l.toNat)),s) else some (.c (.d (.sl sz 0 [])),s)) else none
   | _,_=>none
   else none
  | _=>none:=by unfold xsl;cases T.k t<;>rfl
end
def qnS {α:Type} (s:S) (E:α→List D) (n:Nat) (v:List α) (l h:Option Int):RS:=
 match l,h with
 | some l,some h=>if 0≤l∧l≤h∧h≤v.length then some (.c (.d (.sl n ((v.drop l.toNat).take (h.toNat-l.toNat)).length (((v.drop l.toNat).take (h.toNat-l.toNat)).flatMap E))),s) else none
 | _,_=>none
theorem ql2 {α:Type} {E:α→List D} {n:Nat} (h:∀x,(E x).length=n) {T:Ty} {s:S} {t e:TypeId} (v:List α) (lo hi:Option Operand) (hk:T.k t = .sl e) (hz:T.sz e=n) (ho:T.k e ≠ .other) :
  xsl T s t (.c (.d (.sl n v.length (v.flatMap E)))) lo hi=qnS s E n v (s.bd lo 0) (s.bd hi v.length):=by
 unfold xsl
 simp only[hk]
 rw[if_pos ⟨ho,hz⟩]
 unfold qnS
 cases s.bd lo 0 with
 | none=>rfl
 | some l=>
  cases s.bd hi v.length with
  | none=>rfl
  | some h'=>
   simp only
   split
   ·rename_i hc
    rw[q6N h,q6F h,quG,quZ,Nat.min_eq_left (by omega)]
   ·rfl
abbrev dI (n:Int):C:=C.d (D.int .i64 n)
abbrev dS (s:ByteArray):C:=C.d (D.str s)
abbrev dL {α:Type} (n:Nat) (E:α→List D) (v:List α):C:=C.d (D.sl n v.length (v.flatMap E))
abbrev dO (i sz n:Nat):C:=C.own i sz 0 n
abbrev dP (i:Nat):C:=C.ptr i 0
abbrev rI (n:Int):R:=R.c (C.d (D.int .i64 n))
abbrev rS (s:ByteArray):R:=R.c (C.d (D.str s))
abbrev rB (b:Bool):R:=R.c (C.d (D.bool b))
abbrev rL {α:Type} (n:Nat) (E:α→List D) (v:List α):R:=R.c (C.d (D.sl n v.length (v.flatMap E)))
abbrev rO (i sz n:Nat):R:=R.c (C.own i sz 0 n)
abbrev rP (i:Nat):R:=R.c (C.ptr i 0)
abbrev bR {α:Type} (e sz:Nat) (E:α→List D) (v:List α):B:=B.row e sz ((v.flatMap E).map C.d)
theorem XLs {E:Orc} {f k key:Nat} {c:Code} {σ ε:Type} {st:σ→S} {ex:ε→XS} {step:σ→Option (σ⊕ε)} (hc:lbO f key=c) (hl:okL f c) (hne:∀e,∃p,ex e=some p∧p.1 ≠ .normal)
  (h:∀x,lz2 f k key (XE2 E f k c (st x))=(step x).bind (Sum.elim (fun y=>some (.normal,st y)) ex)) (x:σ):XL2 E f k key (st x)=(qE step x).bind ex:=by
 obtain⟨g,hg⟩:∃g:ε→Exit×S,∀e,ex e=some (g e)∧(g e).1 ≠ .normal:=⟨fun e=>Classical.choose (hne e),fun e=>Classical.choose_spec (hne e)⟩
 obtain rfl:ex=fun e=>some (g e):=funext fun e=>(hg e).1
 exact q6V (ex:=g) hc hl (fun e=>(hg e).2) h x
theorem qby {E:Orc} {f k key:Nat} {c:Code} {A1 ε:Type} {st:A1→S} {ex:ε→XS} {step:A1→Option ((A1)⊕ε)} (hc:lbO f key=c) (hl:okL f c) (hne:∀e,∃p,ex e=some p∧p.1 ≠ .normal)
  (h:∀a1,lz2 f k key (XE2 E f k c (st a1))=(step a1).bind (Sum.elim (fun y=>some (.normal,st y)) ex)) (a1:A1):XL2 E f k key (st a1)=(qE step a1).bind ex:=
 XLs (st:=fun y=>st y) hc hl hne (fun a1=>h a1) a1
theorem q97 {E:Orc} {f k key:Nat} {c:Code} {A1 A2 ε:Type} {st:A1→A2→S} {ex:ε→XS} {step:(A1×A2)→Option ((A1×A2)⊕ε)} (hc:lbO f key=c) (hl:okL f c) (hne:∀e,∃p,ex e=some p∧p.1 ≠ .normal)
  (h:∀a1 a2,lz2 f k key (XE2 E f k c (st a1 a2))=(step (a1,a2)).bind (Sum.elim (fun y=>some (.normal,st y.1 y.2)) ex)) (a1:A1) (a2:A2):XL2 E f k key (st a1 a2)=(qE step (a1,a2)).bind ex:=
 XLs (st:=fun y=>st y.1 y.2) hc hl hne (fun⟨a1,a2⟩=>h a1 a2) (a1,a2)
theorem qoO {E:Orc} {f k key:Nat} {c:Code} {A1 A2 A3 ε:Type} {st:A1→A2→A3→S} {ex:ε→XS} {step:(A1×A2×A3)→Option ((A1×A2×A3)⊕ε)} (hc:lbO f key=c) (hl:okL f c) (hne:∀e,∃p,ex e=some p∧p.1 ≠ .normal)
  (h:∀a1 a2 a3,lz2 f k key (XE2 E f k c (st a1 a2 a3))=(step (a1,a2,a3)).bind (Sum.elim (fun y=>some (.normal,st y.1 y.2.1 y.2.2)) ex)) (a1:A1) (a2:A2) (a3:A3):XL2 E f k key (st a1 a2 a3)=(qE step (a1,a2,a3)).bind ex:=
 XLs (st:=fun y=>st y.1 y.2.1 y.2.2) hc hl hne (fun⟨a1,a2,a3⟩=>h a1 a2 a3) (a1,a2,a3)
abbrev aY4:List R:=[R.any,R.any,R.any,R.any]
abbrev aY8:List R:=R.any::R.any::R.any::R.any::aY4
abbrev q6j:List R:=R.any::R.any::R.any::R.any::aY8
def dzU (Q:TypeId→List Nat):B→B
 | .row e sz cs => .row e sz (dzc (Q e) [] cs)
 | b=>b
theorem qlb (z:Nat) {c:C} (h:c.isNils=false):dz z c=c:=by
 cases c<;>first|rfl|cases h
theorem q5r (zs0:List Nat):∀{cs:List C} (zs:List Nat),cs.any C.isNils=false→dzc zs0 zs cs=cs
 | [],zs,_=>by cases zs<;>rfl
 | c::cs,zs,h=>by
  rw[List.any_cons,Bool.or_eq_false_iff] at h
  cases zs with
  | nil=>rw[dzc,qlb _ h.1,q5r zs0 _ h.2]
  | cons z zs=>rw[dzc,qlb _ h.1,q5r zs0 _ h.2]
theorem qpZ (Q:TypeId→List Nat) (b:B):dzB Q b=dzU Q b:=by
 cases b with
 | row e sz cs=>
  unfold dzB dzU
  simp only
  split
  ·rfl
  ·rename_i h
   rw[q5r _ _ (by simpa using h)]
 | _=>rfl
theorem qlF (Q:TypeId→List Nat) (b:B) (h:b.nilr=false):dzU Q b=b:=by
 cases b with
 | row e sz cs=>unfold dzU;simp only;rw[q5r _ _ h]
 | _=>rfl
theorem qml (tm:List (Nat×R)) (hp:List (Nat×B)) (nx n:Nat) (Q:TypeId→List Nat):S.dzr (S.mk tm hp nx n) Q=S.mk tm (hp.map fun x=>(x.1,dzU Q x.2)) nx n:=by
 unfold S.dzr
 split
 ·simp only[qpZ]
 ·rename_i h
  congr 1
  have h2:∀x∈hp,x.2.nilr=false:=fun x hx=>by
   cases hb:x.2.nilr with
   | false=>rfl
   | true=>exact absurd (qv7.2 ⟨x,hx,hb⟩) h
  refine(List.map_id' hp).symm.trans (List.map_congr_left fun x hx=>?_)
  rw[qlF Q x.2 (h2 x hx)]
theorem qiA (Q:TypeId→List Nat) (e sz:Nat) (cs:List C):dzU Q (.row e sz cs) = .row e sz (dzc (Q e) [] cs):=rfl
theorem qiG (Q:TypeId→List Nat) (t:Nat) (cs:List C):dzU Q (.blk t cs) = .blk t cs:=rfl
theorem qmu (Q:TypeId→List Nat) (o:AO):dzU Q (.ob o) = .ob o:=rfl
theorem qf2 (Q:TypeId→List Nat):dzU Q .dead = .dead:=rfl
theorem qiv {α:Type} (x:α):Option.toArray (some x)=[x].toArray:=rfl
theorem qh4 {α:Type}:Option.toArray (none:Option α)=([]:List α).toArray:=rfl
theorem qmN {α:Type} (l m:List α):l.toArray++m.toArray=(l++m).toArray:=by simp
theorem qhd {α:Type} (l:List α):Array.toList l.toArray=l:=rfl
end
noncomputable section
open Go.RowKit
set_option maxRecDepth 20000
def mpE {κ ν:Type} (kE:κ→Value) (vE:ν→R):List (κ×ν)→Nat→List (Value×R×Nat)
 | [],_=>[]
 | p::M,i=>(kE p.1,vE p.2,i)::mpE kE vE M (i+1)
def mpB {κ ν:Type} (kE:κ→Value) (vE:ν→R) (M:List (κ×ν)):AO := .mp (mpE kE vE M 0) M.length
def J2 (k:IntKind) (n:Int):Value := .int k n
section
variable {κ ν:Type} [DecidableEq κ]
def q9N (M:List (κ×ν)) (k:κ):Nat:=match M with
 | []=>0
 | p::M=>if k=p.1 then 0 else q9N M k+1
def QR (z:ν) (M:List (κ×ν)) (k:κ):ν:=match M with
 | []=>z
 | p::M=>if k=p.1 then p.2 else QR z M k
def q9M (M:List (κ×ν)) (k:κ):Bool:=match M with
 | []=>false
 | p::M=>if k=p.1 then true else q9M M k
def q2h (M:List (κ×ν)) (k:κ) (v:ν):List (κ×ν):=match M with
 | []=>[(k,v)]
 | p::M=>if k=p.1 then(k,v)::M else p::q2h M k v
end
section
variable {κ ν:Type} {kE:κ→Value} {vE:ν→R}
theorem qcB:∀(M:List (κ×ν)) (i:Nat),(mpE kE vE M i).length=M.length
 | [],_=>rfl
 | p::M,i=>by rw[mpE,qun,qcB M,qun]
theorem q6x {f:Value×R×Nat→Bool} (hf:∀k r i,f (kE k,r,i)=true):∀(M:List (κ×ν)) (i:Nat),(mpE kE vE M i).all f=true
 | [],_=>rfl
 | p::M,i=>by rw[mpE,List.all_cons,hf,q6x hf M];rfl
theorem q1z {f:R→R} (hf:∀v,f (vE v)=vE v) (M:List (κ×ν)):AO.mapR f (mpB kE vE M)=mpB kE vE M:=by
 have:∀(M:List (κ×ν)) (i:Nat),(mpE kE vE M i).map (fun e=>(e.1,f e.2.1,e.2.2))=mpE kE vE M i:=by
  intro M
  induction M with
  | nil=>intro i;rfl
  | cons p M ih=>intro i;rw[mpE,quA,ih,hf]
 unfold mpB
 show AO.mp _ _=_
 rw[this]
theorem qa4 {f:R→Bool} (hf:∀v,f (vE v)=true) (M:List (κ×ν)):(mpB kE vE M).Rs.all f=true:=by
 have:∀(M:List (κ×ν)) (i:Nat),((mpE kE vE M i).map (·.2.1)).all f=true:=by
  intro M
  induction M with
  | nil=>intro i;rfl
  | cons p M ih=>intro i;rw[mpE,quA,List.all_cons,ih,hf];rfl
 exact this M 0
theorem qfi {f:R→List Nat} (hf:∀v,f (vE v)=[]) (M:List (κ×ν)):(mpB kE vE M).Rs.flatMap f=[]:=by
 have:∀(M:List (κ×ν)) (i:Nat),((mpE kE vE M i).map (·.2.1)).flatMap f=[]:=by
  intro M
  induction M with
  | nil=>intro i;rfl
  | cons p M ih=>intro i;rw[mpE,quA,qvg,ih,hf];rfl
 exact this M 0
variable [DecidableEq κ] (hk:∀a b,kq (kE a) (kE b)=decide (a=b))
include hk
theorem qcM (k:κ):∀(M:List (κ×ν)) (i:Nat) (z:ν),fnd (kE k) (mpE kE vE M i) i=if q9M M k=true then some (i+q9N M k,vE (QR z M k),i+q9N M k) else none
 | [],i,z=>rfl
 | p::M,i,z=>by
  rw[mpE,fnd]
  simp only[hk,q9M,q9N,QR,qvc]
  by_cases h:k=p.1
  ·simp[h]
  ·simp only[if_neg h]
   rw[qcM k M (i+1) z]
   split
   ·rw[show i+1+q9N M k=i+(q9N M k+1) by omega]
   ·rfl
theorem qoN (z:ν) (ok:Bool) (k:κ) (M:List (κ×ν)):lkq ok (vE z) (fnd (kE k) (mpE kE vE M 0) 0)=some (tt2 (vE (QR z M k)) ok (q9M M k)):=by
 rw[qcM hk k M 0 z]
 cases hm:q9M M k
 ·have:QR z M k=z:=by
   clear hk
   induction M with
   | nil=>rfl
   | cons p M ih=>
    rw[q9M] at hm
    rw[QR]
    split
    ·rename_i h;rw[if_pos h] at hm;cases hm
    ·rename_i h;rw[if_neg h] at hm;exact ih hm
  rw[this];rfl
 ·rfl
end
section
variable {κ ν:Type} {kE:κ→Value} {vE:ν→R} [DecidableEq κ]
theorem q89 (k:κ) (v:ν):∀(M:List (κ×ν)) (i:Nat),q9M M k=true→(mpE kE vE M i).set (q9N M k) (kE k,vE v,i+q9N M k)=mpE kE vE (q2h M k v) i∧(q2h M k v).length=M.length
 | [],_,h=>by cases h
 | p::M,i,h=>by
  rw[q9M] at h
  by_cases hp:k=p.1
  ·simp only[mpE,q9N,q2h,if_pos hp]
   exact⟨rfl,rfl⟩
  ·rw[if_neg hp] at h
   obtain⟨a,b⟩:=q89 k v M (i+1) h
   simp only[mpE,q9N,q2h,if_neg hp,qun,List.set_cons_succ]
   rw[show i+(q9N M k+1)=i+1+q9N M k by omega,a,b]
   exact⟨rfl,rfl⟩
theorem q88 (k:κ) (v:ν):∀(M:List (κ×ν)) (i:Nat),q9M M k=false→mpE kE vE M i++[(kE k,vE v,i+M.length)]=mpE kE vE (q2h M k v) i∧(q2h M k v).length=M.length+1
 | [],i,_=>⟨rfl,rfl⟩
 | p::M,i,h=>by
  rw[q9M] at h
  by_cases hp:k=p.1
  ·rw[if_pos hp] at h;cases h
  ·rw[if_neg hp] at h
   obtain⟨a,b⟩:=q88 k v M (i+1) h
   simp only[mpE,q2h,if_neg hp,qun,qvh]
   rw[show i+(M.length+1)=i+1+M.length by omega,a,b]
   exact⟨rfl,rfl⟩
end
def mpq:B→Option (List (Value×R×Nat))
 | .ob (.mp es _)=>some es
 | _=>none
def mpo (s:S):R→Option (List (Value×R×Nat))
 | .c .nilm=>some []
 | .c (.hd .map id)=>mpq (s.blk id)
 | _=>none
theorem qeL (s:S) (x:Operand):q1n s x=mpo s (s.ev x):=by
 unfold q1n mpo mpq
 generalize s.ev x=r
 cases r with
 | c c=>
  cases c with
  | hd k id=>cases k<;>rfl
  | _=>rfl
 | _=>rfl
theorem qow {κ ν:Type} (kE:κ→Value) (vE:ν→R) (M:List (κ×ν)):mpq (.ob (mpB kE vE M))=some (mpE kE vE M 0):=rfl
def mup (kt:Kd) (kv:Value) (r:R):B→Option B
 | .ob (.mp es ck)=>if plK kt kv=true∧es.all (fun q=>plK kt q.1)=true then
   (match fnd kv es 0 with
    | some q=>some (.ob (.mp (es.set q.1 (kv,r,q.2.2)) ck))
    | none=>some (.ob (.mp (es++[(kv,r,ck)]) (ck+1)))) else none
 | _=>none
def xmu (T:Ty) (s:S) (t:TypeId) (m:R) (kv:Option Value) (r:R):Option (R×S):=
 match T.k t,m,kv with
 | .mp kt _,.c (.hd .map id),some kv=>(mup (T.k kt) kv r (s.blk id)).bind fun b=>some (.any,s.up [(id,b)])
 | _,_,_=>none
theorem qn8 (T:Ty) (s:S) (t:TypeId) (m:R) (kv:Option Value) (r:R):xmu T s t m kv r =
 match T.k t,m,kv with
 | .mp kt _,.c (.hd .map id),some kv=>(mup (T.k kt) kv r (s.blk id)).bind fun b=>some (.any,s.up [(id,b)])
 | _,_,_=>none:=rfl
theorem q9t (T:Ty) (s:S) (t:TypeId) (m k x:Operand):q0e T s t m k x=xmu T s t (s.ev m) (s.ev k).key (s.ev x):=by
 unfold q0e xmu mup
 generalize T.k t=kd
 generalize s.ev m=r
 generalize (s.ev k).key=kv
 cases kd with
 | mp kt e=>
  cases r with
  | c c=>
   cases c with
   | hd h id=>
    cases h with
    | map=>
     cases kv with
     | none=>rfl
     | some kv=>
      simp only
      generalize s.blk id=b
      cases b with
      | ob o=>
       cases o with
       | mp es ck=>
        simp only
        split
        ·cases fnd kv es 0<;>rfl
        ·rfl
       | _=>rfl
      | _=>rfl
    | _=>rfl
   | _=>rfl
  | _=>rfl
 | _=>rfl
section
variable {κ ν:Type} {kE:κ→Value} {vE:ν→R} [DecidableEq κ] (hk:∀a b,kq (kE a) (kE b)=decide (a=b)) {kt:Kd} (hp:∀a,plK kt (kE a)=true)
include hk hp
theorem qoI (k:κ) (v:ν) (M:List (κ×ν)):mup kt (kE k) (vE v) (.ob (mpB kE vE M))=some (.ob (mpB kE vE (q2h M k v))):=by
 unfold mpB mup
 simp only
 rw[if_pos ⟨hp k,q6x (fun k r i=>hp k) M 0⟩,qcM hk k M 0 v]
 cases hm:q9M M k
 ·obtain⟨a,b⟩:=q88 (kE:=kE) (vE:=vE) k v M 0 hm
  simp only[Bool.false_eq_true,if_false]
  rw[quB] at a
  rw[a,b]
 ·obtain⟨a,b⟩:=q89 (kE:=kE) (vE:=vE) k v M 0 hm
  simp only[if_true]
  rw[quB] at a ⊢
  rw[a,b]
end
theorem qiH {κ ν:Type} {kE:κ→Value} {vE:ν→R} {s:S} {sel:List Nat} (h:∀v,q9P s sel (vE v)=vE v) (M:List (κ×ν)):cvA s sel (mpB kE vE M)=some (mpB kE vE M):=by
 have:∀(M:List (κ×ν)) (i:Nat),(mpE kE vE M i).map (fun e=>(e.1,q9P s sel e.2.1,e.2.2))=mpE kE vE M i:=by
  intro M
  induction M with
  | nil=>intro i;rfl
  | cons p M ih=>intro i;rw[mpE,quA,ih,h]
 show some (AO.mp ((mpE kE vE M 0).map fun e=>(e.1,q9P s sel e.2.1,e.2.2)) M.length)=_
 rw[this];rfl
theorem qg4 (k:IntKind) (a b:Int):kq (J2 k a) (J2 k b)=decide (a=b):=rfl
theorem qba {κ ν:Type} {kE:κ→Value} {vE:ν→R} (hk:∀a b,kE a=kE b→a=b) (hv:∀a b,vE a=vE b→a=b):∀(M M':List (κ×ν)) (i:Nat),mpE kE vE M i=mpE kE vE M' i→M=M'
 | [],[],_,_=>rfl
 | [],_::_,_,h=>by cases h
 | _::_,[],_,h=>by cases h
 | (a,v)::M,(b,w)::M',i,h=>by
  unfold mpE at h
  simp only[List.cons.injEq,Prod.mk.injEq] at h
  obtain⟨⟨h1,h2,_⟩,h3⟩:=h
  rw[hk _ _ h1,hv _ _ h2,qba hk hv M M' _ h3]
theorem qgo {κ ν:Type} {kE:κ→Value} {vE:ν→R} (hk:∀a b,kE a=kE b→a=b) (hv:∀a b,vE a=vE b→a=b) (M M':List (κ×ν)):(B.ob (mpB kE vE M)=B.ob (mpB kE vE M'))=(M=M'):=
 propext ⟨fun h=>by
  injection h with h
  unfold mpB at h
  injection h with h
  exact qba hk hv M M' 0 h,fun h=>by rw[h]⟩
section
variable {κ ν:Type}
end
end
noncomputable section
open Go.RowKit Go.Maps Go.Sort Go.Shelf
section
variable {P:Program} {ρ:Ren}
end
end
noncomputable section
open Go.RowKit
theorem q4Q:∀l:List Int,q3o ((l.flatMap eI).map C.d)=some l
 | []=>rfl
 | x::l=>by
  rw[qvg,List.map_append]
  show(q3o ((l.flatMap eI).map C.d)).map (x :: ·)=_
  rw[q4Q l];rfl
theorem q1W:∀l:List Int,(l.map fun z=>C.d (.int .i64 z))=(l.flatMap eI).map C.d
 | []=>rfl
 | x::l=>by
  rw[qvg,List.map_append,quA,q1W l];rfl
theorem ql9 (e:TypeId) (n:Nat) (l:List Int):qmC e 0 [.c (.own 0 1 0 n)] [(0,.row e 1 ((l.flatMap eI).map C.d))]=if n=l.length then some (.c (.own 0 1 0 (cpI l).length),[(0,.row e 1 (((cpI l).flatMap eI).map C.d))]) else none:=by
 show(if e=e then cpX 0 n e _ else none)=_
 rw[if_pos rfl]
 unfold cpX
 rw[q4Q,quc,q1W]
theorem q4e {α β:Type} {E:α→List β} {z:Nat} (hE:∀x,(E x).length=z):∀(l:List α) (i:Nat),i<l.length→(l.flatMap E).take (i*z)++(l.flatMap E).drop ((i+1)*z)=(l.eraseIdx i).flatMap E
 | [],_,h=>by simp at h
 | x::l,0,_=>by
  rw[qvg,Nat.zero_mul,List.take_zero,qux,quB,Nat.one_mul,←hE x,List.drop_left];rfl
 | x::l,i+1,h=>by
  rw[qvg,List.eraseIdx_cons_succ,qvg,←q4e hE l i (by simpa using h)]
  have e1:(i+1)*z=(E x).length+i*z:=by rw[hE,Nat.add_mul];omega
  have e2:(i+1+1)*z=(E x).length+(i+1)*z:=by rw[hE,Nat.add_mul (i+1)];omega
  rw[e2,List.drop_append,e1,List.take_append]
  simp[Nat.add_sub_cancel_left,qvi,List.drop_of_length_le]
theorem qi0 {α:Type} {E:α→List D} {e z:Nat} (hE:∀x,(E x).length=z) {n:Nat} (l:List α) (i j:Int) (hn:n=l.length):q9g e z 0 [.c (.own 0 z 0 n),.c (.d (.int .i64 i)),.c (.d (.int .i64 j))] [(0,.row e z ((l.flatMap E).map C.d))] =
  if 0≤i∧j=i+1∧i<l.length then some (.c (.own 0 z 0 (l.eraseIdx i.toNat).length),[(0,.row e z (((l.eraseIdx i.toNat).flatMap E).map C.d))]) else none:=by
 subst hn
 show qnT e z z z e l.length i j _=_
 unfold qnT
 have h1:((l.flatMap E).map C.d).length=l.length*z:=by
  rw[quV]
  induction l with
  | nil=>simp
  | cons x l ih=>rw[qvg,quj,ih,hE,qun,Nat.add_mul];omega
 have h2:((l.flatMap E).map C.d).all C.known=true:=by rw[List.all_map];exact quu.2 fun x _=>rfl
 have h3:((l.flatMap E).map C.d).all (C.far 0)=true:=by rw[List.all_map];exact quu.2 fun x _=>rfl
 by_cases hc:0≤i∧j=i+1∧i<(l.length:Int)
 ·rw[if_pos ⟨rfl,rfl,rfl,h1,h2,h3,hc⟩,if_pos hc]
  have hi:i.toNat<l.length:=by omega
  rw[←List.map_take,←List.map_drop,←List.map_append,q4e hE l _ hi,List.length_eraseIdx,if_pos hi]
 ·rw[if_neg (fun h=>hc h.2.2.2.2.2.2),if_neg hc]
end
noncomputable section
open Go.RowKit
def C.pl:C→Bool
 | .d _=>true
 | .ow _ _ _ _=>true
 | _=>false
section
variable {α:Type} {E:α→List C} {n:Nat}
theorem qfo (h:∀x,(E x).all C.pl=true) (v:List α) {c:C} (hc:c∈v.flatMap E):c.pl=true:=by
 obtain⟨x,-,hx⟩:=List.mem_flatMap.1 hc
 exact quu.1 (h x) c hx
theorem q9Z (h:∀x,(E x).all C.pl=true) {f:C→C} (hf:∀c,c.pl=true→f c=c) (v:List α):(v.flatMap E).map f=v.flatMap E:=
 (List.map_congr_left fun c hc=>hf c (qfo h v hc)).trans (List.map_id _)
theorem qg9 (h:∀x,(E x).all C.pl=true) {p:C→Bool} (hf:∀c,c.pl=true→p c=true) (v:List α):(v.flatMap E).all p=true:=
 quu.2 fun c hc=>hf c (qfo h v hc)
theorem qlk (h:∀x,(E x).all C.pl=true) {p:C→Bool} (hf:∀c,c.pl=true→p c=false) (v:List α):(v.flatMap E).any p=false:=
 List.any_eq_false.2 fun c hc=>by rw[hf c (qfo h v hc)];decide
theorem qlV (h:∀x,(E x).all C.pl=true) {f:C→List Nat} (hf:∀c,c.pl=true→f c=[]) (v:List α):(v.flatMap E).flatMap f=[]:=
 List.flatMap_eq_nil_iff.2 fun c hc=>hf c (qfo h v hc)
theorem qfI (h:∀x,(E x).length=n):∀l:List α,(l.flatMap E).length=l.length*n
 | []=>by simp
 | x::l=>by rw[qvg,quj,h,qfI h l,qun,Nat.add_mul];omega
theorem qg2 (h:∀x,(E x).length=n) {o:Nat} (ho:o<n):∀(v:List α) (i:Nat),(v.flatMap E)[i*n+o]?=(v[i]?).bind fun x=>(E x)[o]?
 | [],i=>by simp
 | x::v,0=>by
  rw[qvg,Nat.zero_mul,quB,quQ (by rw[h];exact ho)];rfl
 | x::v,i+1=>by
  rw[qvg,show(i+1)*n+o=(E x).length+(i*n+o) by rw[h,Nat.add_mul];omega,quP (by omega),show(E x).length+(i*n+o)-(E x).length=i*n+o by omega,qg2 h ho v i]
  rfl
theorem qfK (h:∀x,(E x).length=1) {x:α} {d:C} (hx:E x=[d]):∀(v:List α) (i:Nat),(v.flatMap E).set i d=(v.set i x).flatMap E
 | [],i=>by simp
 | y::v,0=>by
  have hy:=h y
  rw[qvg,List.set_append_left _ _ (by rw[hy];decide),List.set_cons_zero,qvg,hx]
  match hE:E y,hy with
  | [c],_=>rfl
 | y::v,i+1=>by
  rw[qvg,show i+1=(E y).length+i by rw[h];omega,List.set_append_right _ _ (by omega),show(E y).length+i-(E y).length=i by omega,qfK h hx v i,h,Nat.add_comm,List.set_cons_succ,qvg]
theorem qk5 (v:List α) (x:α):v.flatMap E++E x=(v++[x]).flatMap E:=by simp
theorem qlp {F:α→List D} (h:∀x,(E x).map C.uw=(F x).map C.d):∀v:List α,(v.flatMap E).map C.uw=(v.flatMap F).map C.d
 | []=>rfl
 | x::v=>by rw[qvg,qvg,List.map_append,List.map_append,h,qlp h v]
theorem qoU {T:Ty} {t:TypeId} {cs:List C} {off:Nat} (hk:∀fs,T.k t ≠ .st fs) (ha:∀n e,T.k t ≠ .arr n e) (ho:T.k t ≠ .other):ld T cs off t=(cs[off]?).map .c:=by
 unfold ld
 split
 ·rename_i h;exact absurd h (hk _)
 ·rename_i h;exact absurd h (ha _ _)
 ·rename_i h;exact absurd h ho
 ·rfl
theorem qb9 (zs0:List (Option (Nat×Nat))):∀(zs:List (Option (Nat×Nat))) (xs ys:List C),xs.all C.pl=true→zs.length=xs.length→q3U zs0 zs (xs++ys)=xs++q3U zs0 [] ys
 | [],[],ys,_,_=>rfl
 | [],d::ds,ys,_,h=>by cases h
 | z::zs,[],ys,_,h=>by cases h
 | z::zs,d::ds,ys,hp,h=>by
  rw[List.all_cons,quJ] at hp
  rw[qvh,q3U,qb9 zs0 zs ds ys hp.2 (by simpa using h)]
  have:qea z d=d:=by
   rcases q4z z d with e|⟨e,-⟩
   ·exact e
   ·rw[e] at hp;cases hp.1
  rw[this];rfl
theorem qfQ (hp:∀x,(E x).all C.pl=true) (h:∀x,(E x).length=n+1) (zs0:List (Option (Nat×Nat))) (h0:zs0.length=n+1):∀(v:List α) (ys:List C),q3U zs0 [] (v.flatMap E++ys)=v.flatMap E++q3U zs0 [] ys
 | [],ys=>rfl
 | x::v,ys=>by
  have hx:=h x
  have hpx:=hp x
  rw[qvg,quS,quS,←qfQ hp h zs0 h0 v ys]
  cases hE:E x with
  | nil=>rw[hE] at hx;cases hx
  | cons d ds=>
   rw[hE] at hx hpx
   rw[List.all_cons,quJ] at hpx
   rw[qvh,q3U,qb9 zs0 zs0.tail ds _ hpx.2 (by rw[List.length_tail];simp at hx;omega)]
   have:qea (zs0.headD none) d=d:=by
    rcases q4z (zs0.headD none) d with e|⟨e,-⟩
    ·exact e
    ·rw[e] at hpx;cases hpx.1
   rw[this];rfl
end
theorem qpB (k:Nat) (c:C) (h:c.pl=true):c.fg k=c:=by cases c<;>first|rfl|cases h
theorem qqk (ids:List Nat) (c:C) (h:c.pl=true):cn ids c=c:=by cases c<;>first|rfl|cases h
theorem qp1 (c:C) (h:c.pl=true):c.kw=c:=by cases c<;>first|rfl|cases h
theorem qkn (k:Nat) (c:C) (h:c.pl=true):c.far k=true:=by cases c<;>first|rfl|cases h
theorem qim (X:List Nat) (c:C) (h:c.pl=true):c.farF X=true:=by cases c<;>first|rfl|cases h
theorem qiS (c:C) (h:c.pl=true):c.isNils=false:=by cases c<;>first|rfl|cases h
theorem qjc (c:C) (h:c.pl=true):c.refs=[]:=by cases c<;>first|rfl|cases h
theorem qgB (c:C) (h:c.pl=true):c.rows=[]:=by cases c<;>first|rfl|cases h
theorem qfw (f:C→C) (xs ys:List C):(xs++ys).map f=xs.map f++ys.map f:=List.map_append
def oL {α:Type} (e n:Nat) (F:α→List D) (v:List α):List C:=[.ow e n v.length (v.flatMap F)]
theorem qdJ (f:C→C):∀(ys cs:List C) (o:Nat),(spr cs o ys).map f=spr (cs.map f) o (ys.map f):=fun ys cs o=>(q4r f ys cs o).symm
theorem qdK (a b:C) (cs:List C) (o:Nat):spr (spr cs o [a]) o [b]=spr cs o [b]:=by
 show(cs.set o a).set o b=cs.set o b
 rw[List.set_set]
theorem qeo (cs:List C) (o:Nat) (c:C):((spr cs o [c])[o]?).map R.c=(cs[o]?).bind fun _=>some (R.c c):=by
 show((cs.set o c)[o]?).map R.c=_
 rcases Nat.lt_or_ge o cs.length with h|h
 ·rw[qva h,que h];rfl
 ·rw[quL (by rw[quY];exact h),quL h];rfl
theorem q9B (ys cs:List C) (o:Nat):(spr cs o ys).length=cs.length:=JD ys cs o
theorem qjF (ds:List D):(ds.map C.d).map C.uw=ds.map C.d:=by rw[List.map_map];rfl
theorem qkY (ds:List D):(ds.map C.d).map C.kw=ds.map C.d:=by rw[List.map_map];rfl
end
noncomputable section
open Go.RowKit
def bx0:=JA_ @qhv (JA_ @qnZ.eq_1 (JA_ @qnZ.eq_2 (JA_ @S.uwD.eq_1 (JA_ @S.tkD.eq_1 (JA_ @S.tkP.eq_1 (JA_ @S.tkP.eq_2 (JA_ @qo3.eq_1 (JA_ @qo3.eq_2 (JA_ @tkL.eq_1 (JA_ @tkL.eq_2 (JA_ @S.frk.eq_1 (JA_ @qmE.eq_1 (JA_ @qaa.eq_1 (JA_ @qeW (JA_ @qfk (JA_ @adL.eq_1 (JA_ @adS.eq_1 (JA_ @adI.eq_1 (JA_ @adI.eq_2 (@adP.eq_1))))))))))))))))))))
def bx1:=JA_ @qqN.eq_1 (JA_ @qp6.eq_1 (JA_ @uwR.eq_2 (JA_ @ldO.eq_1 (JA_ @ldT.eq_2 (JA_ @ldT.eq_11 (JA_ @ldP.eq_1 (JA_ @ldU.eq_1 (JA_ @stO.eq_1 (JA_ @qnq.eq_1 (JA_ @qnq.eq_2 (JA_ @qnE.eq_1 (JA_ @qfX.eq_1 (JA_ @S.fnB.eq_1 (JA_ @S.uwB.eq_1 (JA_ @Kd.isSl0.eq_1 (JA_ @tkS.eq_1 (JA_ @B.kw.eq_2 (@B.kw.eq_3))))))))))))))))))
def bx2:=JA_ @R.nw.eq_1 (JA_ @R.nw.eq_2 (JA_ @R.nw0.eq_1 (JA_ @R.nw0.eq_2 (JA_ @R.nw0.eq_4 (JA_ @C.nw.eq_3 (JA_ @S.uw.eq_1 (JA_ @B.uw.eq_1 (JA_ @B.uw.eq_2 (JA_ @B.uw.eq_4 (JA_ @C.uw.eq_2 (JA_ @S.dzo.eq_1 (JA_ @qbW.eq_1 (JA_ @qbW.eq_2 (JA_ @q3U.eq_1 (JA_ @q3U.eq_2 (JA_ @qea.eq_1 (@S.abL.eq_1)))))))))))))))))
def bx3:=JA_ @abAt.eq_1 (JA_ @C.noow.eq_2 (JA_ @S.strip.eq_1 (JA_ @q0M.eq_1 (JA_ @q0M.eq_2 (JA_ @qje.eq_1 (JA_ @qje.eq_2 (JA_ @R.isA.eq_1 (JA_ @R.isA.eq_2 (JA_ @qr9.eq_1 (JA_ @qnR.eq_1 (JA_ @qc1.eq_1 (JA_ @qbf.eq_1 (JA_ @S.ly.eq_1 (JA_ @alC.eq_1 (JA_ @alC.eq_2 (JA_ @alX.eq_1 (JA_ @alX.eq_2 (JA_ @qro.eq_1 (JA_ @qkT.eq_1 (JA_ @qnv.eq_1 (JA_ @ipX.eq_1 (@qnY.eq_1))))))))))))))))))))))
def bx4:=JA_ @qnY.eq_2 (JA_ @qoe.eq_1 (JA_ @qpl.eq_1 (JA_ @ipA.eq_1 (JA_ @ipS.eq_1 (JA_ @ipS.eq_2 (JA_ @ipF.eq_1 (JA_ @qlh.eq_1 (JA_ @qlh.eq_2 (JA_ @q6W.eq_1 (JA_ @qdv.eq_1 (JA_ @qdv.eq_2 (JA_ @zmk.eq_1 (JA_ @zmk.eq_2 (JA_ @S.fin.eq_1 (JA_ @S.fn1.eq_1 (JA_ @S.inr.eq_1 (JA_ @prx.eq_1 (JA_ @APr.of_run (JA_ @pr0.eq_1 (JA_ @List.isEmpty_nil.{0} (JA_ @List.isEmpty_cons.{0} (JA_ @wbC.eq_1 (JA_ @B.beq.eq_1 (JA_ @C.beqL.eq_1 (JA_ @C.beqL.eq_2 (@C.beq0.eq_1))))))))))))))))))))))))))
def bx5:=JA_ @D.beq.eq_1 (JA_ @D.beq.eq_4 (JA_ @qpG.eq_1 (JA_ @dzc.eq_2 (JA_ @dzc.eq_3 (JA_ @C.isNils.eq_1 (JA_ @C.isNils.eq_2 (JA_ @qej (JA_ @List.any_append.{0} (JA_ @q3f.eq_1 (JA_ @q2j.eq_1 (JA_ @q2j.eq_2 (JA_ @qf6.eq_1 (JA_ @fpA.eq_1 (JA_ @q9b.eq_1 (JA_ @S.kill.eq_1 (JA_ @qhU.eq_1 (JA_ @qhU.eq_2 (JA_ @qcF.eq_1 (JA_ @qm0.eq_1 (JA_ @okX.eq_1 (JA_ @okX.eq_2 (@okK.eq_1))))))))))))))))))))))
def bx6:=JA_ @okN.eq_1 (JA_ @okN.eq_2 (JA_ @q1N.eq_1 (JA_ @qi4.eq_1 (JA_ @qi4.eq_2 (JA_ @qjg.eq_1 (JA_ @qjg.eq_2 (JA_ @q1a.eq_1 (JA_ @qbO.eq_1 (JA_ @JG.eq_1 (JA_ @qaw.eq_1 (JA_ @q1B.eq_1 (JA_ @q0i.eq_1 (JA_ @q4D.eq_1 (JA_ @q2z.eq_1 (JA_ @q2z.eq_2 (JA_ @cvT.eq_1 (JA_ @q6G.eq_1 (JA_ @q3w.eq_1 (JA_ @qnn.eq_1 (JA_ @qix.eq_1 (JA_ @S.rf.eq_1 (JA_ @S.rfx.eq_1 (JA_ @qkP.eq_1 (JA_ @rdB.eq_1 (JA_ @qg1.eq_1 (JA_ @q3Q.eq_1 (@qeQ)))))))))))))))))))))))))))
def bx7:=JA_ @qf0 (JA_ @qdT (JA_ @qe1 (JA_ @q1S.eq_1 (JA_ @qc5.eq_1 (JA_ @D.key.eq_1 (JA_ @R.key.eq_1 (JA_ @plK.eq_1 (JA_ @zR.eq_1 (JA_ @tt2.eq_1 (JA_ @B.isOb.eq_2 (@AO.mapR.eq_2)))))))))))
def bx8:=JA_ @AO.Rs.eq_2 (JA_ @R.refs0.eq_1 (JA_ @R.refs0.eq_3 (JA_ @cvA.eq_2 (JA_ @q9P.eq_1 (JA_ @xgd.eq_1 (JA_ @xgF.eq_1 (JA_ @xo.eq_1 (JA_ @xo.eq_2 (JA_ @xo.eq_3 (JA_ @xo.eq_4 (JA_ @xo.eq_5 (JA_ @xo.eq_6 (JA_ @xo.eq_7 (JA_ @xo.eq_8 (JA_ @xo.eq_9 (JA_ @xo.eq_10 (JA_ @xo.eq_11 (JA_ @xo.eq_12 (JA_ @xo.eq_13 (JA_ @xo.eq_14 (JA_ @xo.eq_15 (JA_ @xo.eq_16 (JA_ @xo.eq_17 (JA_ @xo.eq_19 (JA_ @xo.eq_20 (JA_ @xo.eq_21 (JA_ @xo.eq_22 (JA_ @xo.eq_23 (@xo.eq_24)))))))))))))))))))))))))))))
def bx9:=JA_ @xo.eq_25 (JA_ @xCl.eq_1 (JA_ @pre.eq_1 (JA_ @pre.eq_2 (JA_ @pre.eq_3 (JA_ @q3E.eq_1 (JA_ @ZL.eq_1 (JA_ @q3k.eq_1 (JA_ @q7N.eq_1 (JA_ @q6B.eq_1 (JA_ @JW.eq_1 (JA_ @Jx.eq_2 (JA_ @Jx.eq_3 (JA_ @qqp.eq_1 (JA_ @q9O.eq_1 (JA_ @q9O.eq_2 (JA_ @cvR.eq_1 (JA_ @cvR.eq_2 (JA_ @cvR.eq_3 (JA_ @cvL.eq_1 (JA_ @cvL.eq_2 (JA_ @qdn.eq_1 (JA_ @qdn.eq_2 (JA_ @cv.eq_1 (JA_ @cv.eq_2 (JA_ @cv0.eq_1 (@cv0.eq_5))))))))))))))))))))))))))
def qu5:=JA_ @cv0.eq_9 (JA_ @cv0.eq_10 (JA_ @cv0.eq_11 (JA_ @cvG.eq_1 (JA_ @cvG.eq_2 (JA_ @cvB.eq_1 (JA_ @cvB.eq_2 (JA_ @cvB.eq_3 (JA_ @vis.eq_1 (JA_ @q2q.eq_1 (JA_ @q2q.eq_2 (JA_ @q0h (JA_ @qiI.eq_1 (JA_ @pos.eq_1 (JA_ @pos.eq_2 (JA_ @qft.eq_1 (JA_ @q4Y.eq_1 (JA_ @q8i.eq_1 (JA_ @qnW.eq_1 (JA_ @JK.eq_1 (JA_ @Jd.eq_1 (JA_ @q0r.eq_1 (JA_ @q2E.eq_1 (JA_ @JX.eq_1 (JA_ @q6i.eq_1 (JA_ @q6i.eq_2 (JA_ @q6i.eq_3 (JA_ @q6i.eq_4 (JA_ @q6i.eq_5 (@q6i.eq_6)))))))))))))))))))))))))))))
def qsf:=JA_ @q6i.eq_10 (JA_ @q6i.eq_11 (JA_ @q6i.eq_12 (JA_ @q6i.eq_13 (JA_ @q6i.eq_14 (JA_ @q6i.eq_15 (JA_ @q6i.eq_17 (JA_ @qnk.eq_3 (JA_ @qnk.eq_4 (JA_ @qnt.eq_1 (JA_ @qnV.eq_1 (JA_ @qnF.eq_1 (JA_ @qnD.eq_1 (JA_ @qns.eq_1 (JA_ @qnB.eq_1 (JA_ @qe3.eq_1 (JA_ @q7w.eq_1 (JA_ @q7R.eq_1 (JA_ @Z6.eq_1 (JA_ @q1G.eq_1 (@q7g.eq_1))))))))))))))))))))
def qtN:=JA_ @q12.eq_1 (JA_ @Kd.isSl.eq_1 (JA_ @nrm.eq_1 (JA_ @qgm.eq_1 (JA_ @qpM.eq_1 (JA_ @rng.eq_1 (JA_ @rng.eq_2 (JA_ @rwAll.eq_1 (JA_ @rwAll.eq_2 (JA_ @rw1.eq_1 (JA_ @rw1.eq_2 (JA_ @cn.eq_1 (JA_ @cn.eq_2 (JA_ @cn0.eq_1 (JA_ @cn0.eq_2 (JA_ @cn0.eq_3 (JA_ @cn0.eq_5 (JA_ @cnR.eq_2 (JA_ @qdg.eq_1 (JA_ @qdg.eq_2 (JA_ @qdg.eq_3 (JA_ @cnB.eq_1 (JA_ @cnB.eq_2 (JA_ @cnB.eq_3 (JA_ @cnH.eq_1 (JA_ @cnH.eq_2 (JA_ @qmX (JA_ @qx.eq_1 (JA_ @qx.eq_2 (@qx.eq_3)))))))))))))))))))))))))))))
def qsN:=JA_ @qkV.eq_1 (JA_ @q9j.eq_1 (JA_ @q48.eq_1 (JA_ @q98.eq_1 (JA_ @q47.eq_1 (JA_ @q6m.eq_1 (JA_ @q46.eq_1 (JA_ @q46.eq_2 (JA_ @S.frz.eq_1 (JA_ @S.frz.eq_2 (JA_ @S.frz1.eq_1 (JA_ @fz.eq_1 (JA_ @fz.eq_2 (JA_ @fz0.eq_1 (JA_ @fz0.eq_2 (JA_ @fz0.eq_3 (JA_ @fz0.eq_5 (JA_ @fzR.eq_1 (JA_ @fzR.eq_2 (JA_ @qdj.eq_1 (JA_ @qdj.eq_2 (JA_ @qdj.eq_3 (JA_ @fzB.eq_1 (JA_ @fzB.eq_2 (JA_ @fzB.eq_3 (JA_ @fzB.eq_4 (JA_ @ql6 (JA_ @dz.eq_1 (JA_ @dz.eq_2 (JA_ @dzL.eq_1 (JA_ @dzL.eq_2 (JA_ @dzR.eq_1 (JA_ @dzR.eq_2 (JA_ @q9E.eq_1 (JA_ @q9E.eq_2 (@one.eq_1)))))))))))))))))))))))))))))))))))
def qt0:=JA_ @one.eq_2 (JA_ @rvs.eq_1 (JA_ @rvs.eq_2 (JA_ @qie.eq_1 (JA_ @qie.eq_2 (JA_ @tt.eq_1 (JA_ @ff.eq_1 (JA_ @q2Q.eq_1 (JA_ @q2Q.eq_2 (JA_ @C.ref0.eq_1 (JA_ @C.ref0.eq_2 (JA_ @C.ref0.eq_3 (JA_ @C.ref0.eq_4 (JA_ @C.refs.eq_1 (JA_ @C.refs.eq_2 (JA_ @B.refs.eq_1 (JA_ @B.refs.eq_2 (JA_ @B.refs.eq_3 (JA_ @B.refs.eq_4 (JA_ @R.refs.eq_1 (JA_ @R.refs.eq_2 (JA_ @R.refs.eq_4 (JA_ @C.rows0.eq_1 (JA_ @C.rows0.eq_2 (JA_ @C.rows.eq_1 (JA_ @C.rows.eq_2 (JA_ @R.rows.eq_1 (JA_ @R.rows.eq_2 (JA_ @R.rows.eq_3 (JA_ @C.ptrs0.eq_1 (JA_ @C.ptrs0.eq_2 (JA_ @C.ptrs0.eq_3 (JA_ @C.ptrs.eq_1 (JA_ @C.ptrs.eq_2 (JA_ @R.ptrs.eq_1 (JA_ @R.ptrs.eq_2 (JA_ @R.ptrs.eq_3 (JA_ @B.isBlk.eq_1 (@B.isBlk.eq_2))))))))))))))))))))))))))))))))))))))
def qtT:=JA_ @B.isBlk.eq_3 (JA_ @R.scl.eq_1 (JA_ @R.scl.eq_2 (JA_ @R.scl0.eq_1 (JA_ @R.scl0.eq_2 (JA_ @R.scl0.eq_3 (JA_ @C.scl.eq_1 (JA_ @C.scl.eq_2 (JA_ @C.scl0.eq_1 (JA_ @C.scl0.eq_3 (JA_ @C.scl0.eq_5 (JA_ @B.scl.eq_1 (JA_ @B.scl.eq_2 (JA_ @B.scl.eq_3 (JA_ @C.dat.eq_2 (JA_ @C.dat0.eq_1 (JA_ @C.dat0.eq_9 (JA_ @ren.eq_1 (JA_ @R.rn.eq_1 (JA_ @R.rn.eq_2 (JA_ @R.rn0.eq_1 (JA_ @R.rn0.eq_2 (JA_ @R.rn0.eq_3 (JA_ @C.rn.eq_1 (JA_ @C.rn.eq_2 (JA_ @C.rn0.eq_1 (JA_ @C.rn0.eq_2 (@C.rn0.eq_3)))))))))))))))))))))))))))
def qtp:=JA_ @C.rn0.eq_6 (JA_ @B.rn.eq_1 (JA_ @B.rn.eq_2 (JA_ @B.rn.eq_3 (JA_ @qm8 (JA_ @S.aft.eq_1 (JA_ @S.fgL.eq_1 (JA_ @S.fgL.eq_2 (JA_ @C.fgL.eq_1 (JA_ @C.fgL.eq_2 (JA_ @C.fgL.eq_3 (JA_ @C.fgL.eq_5 (JA_ @R.fgL.eq_1 (JA_ @R.fgL.eq_2 (JA_ @R.fgL.eq_3 (JA_ @B.fgL.eq_1 (JA_ @B.fgL.eq_2 (JA_ @B.fgL.eq_3 (JA_ @B.fgL.eq_4 (JA_ @C.farL.eq_1 (JA_ @C.farL.eq_2 (JA_ @C.farL.eq_3 (JA_ @C.farL.eq_5 (JA_ @R.farL.eq_1 (JA_ @B.farL.eq_2 (JA_ @B.farL.eq_3 (JA_ @qkK.eq_2 (JA_ @qkK.eq_3 (@qcc.eq_1))))))))))))))))))))))))))))
def qto:=JA_ @qcc.eq_2 (JA_ @S.ev.eq_1 (JA_ @S.ev.eq_2 (JA_ @S.ev.eq_3 (JA_ @S.get.eq_1 (JA_ @S.blk.eq_1 (JA_ @S.put.eq_1 (JA_ @S.put.eq_2 (JA_ @S.up.eq_1 (JA_ @S.bd.eq_1 (JA_ @S.bd.eq_2 (JA_ @S.seq.eq_1 (JA_ @S.cell1.eq_1 (JA_ @lk.eq_1 (JA_ @lk.eq_2 (JA_ @QK.eq_1 (JA_ @QK.eq_2 (JA_ @QK.eq_3 (JA_ @QK.eq_5 (JA_ @QK.eq_6 (JA_ @QK.eq_7 (JA_ @Jq.eq_1 (JA_ @Jq.eq_2 (JA_ @qgQ (JA_ @ldx.eq_1 (JA_ @bld.eq_1 (JA_ @bld.eq_2 (JA_ @spl.eq_1 (JA_ @spl.eq_2 (JA_ @Z7.eq_1 (JA_ @Ty.foff.eq_1 (JA_ @R.cells.eq_1 (JA_ @R.cells.eq_2 (@R.parts.eq_1)))))))))))))))))))))))))))))))))
def qsV:=JA_ @R.parts.eq_2 (JA_ @B.cells.eq_1 (JA_ @B.cells.eq_2 (JA_ @B.live.eq_1 (JA_ @B.live.eq_2 (JA_ @C.known.eq_3 (JA_ @C.far.eq_1 (JA_ @C.far.eq_5 (JA_ @S.fg.eq_1 (JA_ @R.fg.eq_1 (JA_ @R.fg.eq_2 (JA_ @R.fg.eq_3 (JA_ @R.fg.eq_4 (JA_ @B.fg.eq_1 (JA_ @B.fg.eq_2 (JA_ @B.fg.eq_3 (JA_ @B.fg.eq_4 (JA_ @C.fg.eq_1 (JA_ @C.fg.eq_2 (JA_ @C.fg.eq_3 (JA_ @C.fg.eq_4 (JA_ @C.fg.eq_5 (JA_ @D1.eq_1 (JA_ @Jp.eq_1 (JA_ @Jp.eq_2 (JA_ @Jp.eq_4 (JA_ @Jp.eq_6 (JA_ @Jp.eq_7 (JA_ @Jp.eq_8 (@Jp.eq_9)))))))))))))))))))))))))))))
def qu6:=JA_ @Jp.eq_10 (JA_ @Jp.eq_12 (JA_ @Jp.eq_14 (JA_ @Jp.eq_15 (JA_ @Jp.eq_17 (JA_ @Jp.eq_21 (JA_ @Jp.eq_23 (JA_ @Jp.eq_24 (JA_ @q9K.eq_1 (JA_ @q9K.eq_2 (JA_ @q9K.eq_3 (JA_ @q9K.eq_5 (JA_ @q9K.eq_6 (JA_ @q3H.eq_3 (JA_ @q3H.eq_5 (JA_ @q3H.eq_6 (JA_ @qcD.eq_1 (JA_ @qcD.eq_3 (JA_ @qcD.eq_4 (JA_ @qcD.eq_5 (JA_ @fpC.eq_1 (JA_ @qkO.eq_1 (JA_ @qm7.eq_1 (JA_ @qnH.eq_1 (JA_ @C.lt0.eq_3 (@C.lt0.eq_4)))))))))))))))))))))))))
def qtS:=JA_ @C.ltn.eq_2 (JA_ @R.lt0.eq_1 (JA_ @R.lt0.eq_2 (JA_ @R.ltn.eq_2 (JA_ @B.ltn.eq_1 (JA_ @q0p.eq_1 (JA_ @Fp.none?.eq_1 (JA_ @okP.eq_1 (JA_ @okP.eq_2 (JA_ @qdY (JA_ @qen (JA_ @qj4 (JA_ @qfy (JA_ @qec (JA_ @qeq (JA_ @qj2 (JA_ @qeS (JA_ @qfq (JA_ @qez (JA_ @q8U (JA_ @qiX (JA_ @qfb (JA_ @qeU (JA_ @qhz (JA_ @qf5 (JA_ @qds (JA_ @qdW (JA_ @qha (JA_ @qdG (JA_ @qf1 (JA_ @qfz (@qgI)))))))))))))))))))))))))))))))
def qtm:=JA_ @qf8 (JA_ @qi1 (JA_ @qa7 (JA_ @qhn (JA_ @qff (JA_ @qdx (JA_ @qlY (JA_ @qii (JA_ @C.farF.eq_2 (JA_ @Op.operands.eq_1 (JA_ @Op.operands.eq_4 (JA_ @Op.operands.eq_5 (JA_ @Op.operands.eq_7 (JA_ @Op.operands.eq_8 (JA_ @Op.operands.eq_10 (JA_ @Op.operands.eq_14 (JA_ @Op.operands.eq_24 (@Op.operands.eq_25)))))))))))))))))
def qta:=JA_ @Op.operands.eq_26 (JA_ @Op.operands.eq_27 (JA_ @Op.operands.eq_29 (JA_ @Op.operands.eq_31 (JA_ @Op.operands.eq_36 (JA_ @Op.operands.eq_40 (JA_ @qku (JA_ @qmm (JA_ @Option.isNone_none.{0} (JA_ @qm9.eq_1 (JA_ @qm9.eq_2 (JA_ @Option.toList_some.{0} (JA_ @Option.toList_none.{0} (JA_ @List.all_append.{0} (JA_ @List.getElem?_nil.{0} (JA_ @List.drop_zero.{0} (JA_ @wi (JA_ @Int.cast_ofNat_Int (JA_ @Int.le_refl (JA_ @qut (JA_ @Option.bind_assoc.{0,0,0} (JA_ @List.any_nil.{0} (JA_ @List.any_cons.{0} (JA_ @List.getD_cons_zero.{0} (JA_ @List.getD_cons_succ.{0} (JA_ @true_and (@and_true))))))))))))))))))))))))))
def qsE:=JA_ @and_false (JA_ @qv2.{0} (JA_ @Prod.mk.injEq.{0,0} (JA_ @quc.{0,0} (JA_ @Option.bind_none.{0,0} (JA_ @Option.map_some.{0,0} (JA_ @Option.map_none.{0,0} (JA_ @Option.getD_some.{0} (JA_ @Option.getD_none.{0} (JA_ @ne_eq.{1} (JA_ @not_false_eq_true (JA_ @or_true (JA_ @or_false (JA_ @Bool.false_eq_true (JA_ @quA.{0,0} (JA_ @List.map_nil.{0,0} (JA_ @List.all_cons.{0} (JA_ @List.all_nil.{0} (JA_ @qve (JA_ @quK (JA_ @Bool.and_false (JA_ @Bool.false_and (JA_ @quJ (JA_ @Bool.or_true (JA_ @Bool.true_or (JA_ @Bool.or_false (JA_ @Bool.false_or (JA_ @qun.{0} (JA_ @quW.{0} (JA_ @quV.{0,0} (JA_ @qum.{0} (JA_ @quC.{0} (JA_ @qvf.{0,0} (JA_ @List.foldl_nil.{0,0} (JA_ @qvh.{0} (@qux.{0})))))))))))))))))))))))))))))))))))
def qsM:=JA_ @quy.{0} (JA_ @Nat.max_def (JA_ @decide_true (JA_ @decide_false (JA_ @decide_not (JA_ @qvc (JA_ @quD (JA_ @Nat.zero_mul (JA_ @Nat.mul_one (JA_ @Nat.one_mul (JA_ @Nat.add_zero (JA_ @quB (JA_ @quf (JA_ @List.mapM_cons.{0,0,0} (JA_ @List.mapM_nil.{0,0,0} (JA_ @List.drop_succ_cons.{0} (JA_ @List.drop_nil.{0} (JA_ @List.take_succ_cons.{0} (JA_ @List.take_zero.{0} (JA_ @List.replicate_succ.{0} (JA_ @List.replicate_zero.{0} (JA_ @List.set_cons_zero.{0} (JA_ @List.set_cons_succ.{0} (JA_ @and_self (JA_ @Bool.not_true (JA_ @Bool.not_false (JA_ @List.contains_cons.{0} (JA_ @List.contains_nil.{0} (JA_ @qvg.{0,0} (JA_ @List.flatMap_nil.{0,0} (JA_ @List.filter_cons.{0} (JA_ @List.filter_nil.{0} (JA_ @List.eraseDups_cons.{0} (JA_ @List.eraseDups_nil.{0} (JA_ @List.nodup_cons.{0} (JA_ @List.nodup_nil.{0} (JA_ @quz.{0} (JA_ @List.not_mem_nil.{0} (JA_ @List.headD_cons.{0} (@List.headD_nil.{0})))))))))))))))))))))))))))))))))))))))
def qtZ:=JA_ @List.tail_cons.{0} (JA_ @List.tail_nil.{0} (JA_ @beq_self_eq_true.{0} (JA_ @QS (JA_ @List.range_succ (JA_ @List.range_zero (JA_ @ite_self.{1} (JA_ @qfw (JA_ @qdJ (JA_ @qdK (JA_ @q9B (JA_ @qjF (JA_ @qkY (JA_ @frA.eq_1 (JA_ @R.dat.eq_1 (JA_ @R.dat.eq_2 (JA_ @qiv (JA_ @qh4 (JA_ @qmN (JA_ @qhd (JA_ @qml (JA_ @qiA (JA_ @qiG (@qmu)))))))))))))))))))))))
def qtc:=JA_ @qf2 (JA_ @q5r (JA_ @qeL (JA_ @mpo.eq_2 (JA_ @qow (JA_ @q9t (JA_ @qn8 (JA_ @qcB (JA_ @qgR (JA_ @qk7 (JA_ @qif (JA_ @qlS (JA_ @qeR (JA_ @qhV (JA_ @qbT (JA_ @qiL (JA_ @qev (JA_ @qhe (@qfd))))))))))))))))))
def qsF:=JA_ @ZA.eq_1 (JA_ @ZA.eq_2 (JA_ @qiR.eq_2 (JA_ @hdG.eq_1 (@qnp.eq_2))))
def qtG:=JA_ @q9r (JA_ @qj6 (JA_ @qf4 (JA_ @qdF (JA_ @qgA (JA_ @qfr (JA_ @qiN (JA_ @qdA (JA_ @q9G (JA_ @qgK (JA_ @qeX (JA_ @qeC (JA_ @qgr (JA_ @qei (JA_ @qhq (JA_ @qdR (JA_ @qip (JA_ @qhE (JA_ @qeV (JA_ @qgC (JA_ @qu2 (JA_ @qs6 (JA_ @qqw (@qqv)))))))))))))))))))))))
def qtU:=JA_ @qpx (JA_ @qjq (JA_ @qjH (JA_ @qn6 (JA_ @qqz (JA_ @qlT (JA_ @qoX (JA_ @qmh (JA_ @qk9 (JA_ @qiM (JA_ @qgL (JA_ @qmA (JA_ @qgY (JA_ @qll (JA_ @qi6 (JA_ @qsQ (JA_ @q9c (JA_ @qeF (JA_ @qky (JA_ @qh8 (JA_ @qh6 (JA_ @Sum.elim_inl.{0,1,0} (JA_ @Sum.elim_inr.{0,1,0} (JA_ @q4r (JA_ @qbN (JA_ @qbj (JA_ @qdo (JA_ @qnS.eq_1 (@qlU))))))))))))))))))))))))))))
def qtJ:=JA_ @qaT (JA_ @qee (JA_ @qmt (JA_ @qj8 (JA_ @qht (JA_ @qiT (JA_ @qi8 (JA_ @qgO (JA_ @qhk (JA_ @q6C (JA_ @q5B (JA_ @qjt (JA_ @qpm.eq_1 (JA_ @quj.{0} (JA_ @quY.{0} (JA_ @quU.{0} (JA_ @q94 (JA_ @qad (JA_ @List.take_nil.{0} (@qcE)))))))))))))))))))
def qtt:=JA_ @JD (JA_ @q4Q (JA_ @q1W (@ql9)))
theorem qt3 (a0 a1 a2:Int) (i:Nat):([C.d (D.int .i64 a0),C.d (D.int .i64 a1),C.d (D.int .i64 a2)]:List C)[i]?=([a0,a1,a2][i]?).bind fun x=>some (C.d (D.int .i64 x)):=by rw[show([C.d (D.int .i64 a0),C.d (D.int .i64 a1),C.d (D.int .i64 a2)]:List C)=[a0,a1,a2].map (fun x=>C.d (D.int .i64 x)) from rfl,qur];cases([a0,a1,a2]:List Int)[i]? <;> rfl
theorem qte (a0 a1 a2 a3:Int) (i:Nat):([C.d (D.int .i64 a0),C.d (D.int .i64 a1),C.d (D.int .i64 a2),C.d (D.int .i64 a3)]:List C)[i]?=([a0,a1,a2,a3][i]?).bind fun x=>some (C.d (D.int .i64 x)):=by rw[show([C.d (D.int .i64 a0),C.d (D.int .i64 a1),C.d (D.int .i64 a2),C.d (D.int .i64 a3)]:List C)=[a0,a1,a2,a3].map (fun x=>C.d (D.int .i64 x)) from rfl,qur];cases([a0,a1,a2,a3]:List Int)[i]? <;> rfl
theorem qsD (a0 a1 a2 a3 a4:Int) (i:Nat):([C.d (D.int .i64 a0),C.d (D.int .i64 a1),C.d (D.int .i64 a2),C.d (D.int .i64 a3),C.d (D.int .i64 a4)]:List C)[i]?=([a0,a1,a2,a3,a4][i]?).bind fun x=>some (C.d (D.int .i64 x)):=by rw[show([C.d (D.int .i64 a0),C.d (D.int .i64 a1),C.d (D.int .i64 a2),C.d (D.int .i64 a3),C.d (D.int .i64 a4)]:List C)=[a0,a1,a2,a3,a4].map (fun x=>C.d (D.int .i64 x)) from rfl,qur];cases([a0,a1,a2,a3,a4]:List Int)[i]? <;> rfl
theorem qtM (a0 a1 a2 a3 a4 a5:Int) (i:Nat):([C.d (D.int .i64 a0),C.d (D.int .i64 a1),C.d (D.int .i64 a2),C.d (D.int .i64 a3),C.d (D.int .i64 a4),C.d (D.int .i64 a5)]:List C)[i]?=([a0,a1,a2,a3,a4,a5][i]?).bind fun x=>some (C.d (D.int .i64 x)):=by rw[show([C.d (D.int .i64 a0),C.d (D.int .i64 a1),C.d (D.int .i64 a2),C.d (D.int .i64 a3),C.d (D.int .i64 a4),C.d (D.int .i64 a5)]:List C)=[a0,a1,a2,a3,a4,a5].map (fun x=>C.d (D.int .i64 x)) from rfl,qur];cases([a0,a1,a2,a3,a4,a5]:List Int)[i]? <;> rfl
theorem qtl (a0 a1 a2:ByteArray) (i:Nat):([C.d (D.str a0),C.d (D.str a1),C.d (D.str a2)]:List C)[i]?=([a0,a1,a2][i]?).bind fun x=>some (C.d (D.str x)):=by rw[show([C.d (D.str a0),C.d (D.str a1),C.d (D.str a2)]:List C)=[a0,a1,a2].map (fun x=>C.d (D.str x)) from rfl,qur];cases([a0,a1,a2]:List ByteArray)[i]? <;> rfl
theorem qtL (a0 a1 a2 a3:ByteArray) (i:Nat):([C.d (D.str a0),C.d (D.str a1),C.d (D.str a2),C.d (D.str a3)]:List C)[i]?=([a0,a1,a2,a3][i]?).bind fun x=>some (C.d (D.str x)):=by rw[show([C.d (D.str a0),C.d (D.str a1),C.d (D.str a2),C.d (D.str a3)]:List C)=[a0,a1,a2,a3].map (fun x=>C.d (D.str x)) from rfl,qur];cases([a0,a1,a2,a3]:List ByteArray)[i]? <;> rfl
theorem qp9 {α:Type} (l:List α) (j:Nat):List.take (l.length-j) (List.drop j l)=List.drop j l:=by rw[qvi];rw[quZ];exact qut _
theorem qkt (sz:Nat) (x:Int):D.sl sz 1 (eI x)=D.sl sz 1 [D.int .i64 x]:=rfl
theorem qkb:(min 3 4:Nat)=3:=rfl
theorem qiw (l:List Int):(l.length=(Zj l).length)=True:=eq_true (q0g l).symm
def bz0:=JA_ @qt3 (JA_ @qte (JA_ @qsD (JA_ @qtM (JA_ @qtl (@qtL)))))
def bz1:=JA_ @qp9 (@qkt)
def bz2:=@qkb
def bz5:=@qiw
end
noncomputable section
open Go.RowKit
structure QH (α:Type) where
 a0:α
 a1:α
def eA2 {α:Type} (E:α→List D) (x:QH α):List D:=E x.a0++E x.a1
structure qfE (α:Type) where
 a0:α
 a1:α
 a2:α
structure Qf where
 Has:List (List Int)
 Odd:QH (qfE Int)
 Programme:List Int
 Day:Int
structure qe where
 Worst:Int
 Best:Int
 Pass:Int
def QL (x:qe):List D:=[D.int .i64 x.Worst,D.int .i64 x.Best,D.int .i64 x.Pass]
theorem q40 (x:qe):QL x=[D.int .i64 x.Worst,D.int .i64 x.Best,D.int .i64 x.Pass]:=rfl
theorem q3x (x:qe):(QL x).length=3:=rfl
structure qb where
 School:Int
 Code:ByteArray
def qj (x:qb):List D:=[D.int .i64 x.School,D.str x.Code]
theorem Qs (x:qb):qj x=[D.int .i64 x.School,D.str x.Code]:=rfl
theorem JF (x:qb):(qj x).length=2:=rfl
theorem q2v (x:qb):qb.mk x.School x.Code=x:=rfl
structure qa where
 Course:qb
 Credits:Int
 Grade:Int
 Day:Int
 Sources:List Int
 Bundle:Int
 Path:List Int
def qc (x:qa):List D:=[D.int .i64 x.Course.School,D.str x.Course.Code,D.int .i64 x.Credits,D.int .i64 x.Grade,D.int .i64 x.Day,D.sl 1 x.Sources.length (x.Sources.flatMap eI),D.int .i64 x.Bundle,D.sl 1 x.Path.length (x.Path.flatMap eI)]
theorem qQ (x:qa):qc x=[D.int .i64 x.Course.School,D.str x.Course.Code,D.int .i64 x.Credits,D.int .i64 x.Grade,D.int .i64 x.Day,D.sl 1 x.Sources.length (x.Sources.flatMap eI),D.int .i64 x.Bundle,D.sl 1 x.Path.length (x.Path.flatMap eI)]:=rfl
theorem Ze (x:qa):(qc x).length=8:=rfl
theorem q0k (x:qa):qa.mk x.Course x.Credits x.Grade x.Day x.Sources x.Bundle x.Path=x:=rfl
structure qg where
 Kind:Int
 N:Int
 Min:Int
 Set:List qb
 L:List qg
mutual
def qr:qg→List D
 | ⟨a0,a1,a2,a3,a4⟩=>[D.int .i64 a0,D.int .i64 a1,D.int .i64 a2,D.sl 2 a3.length (a3.flatMap qj),D.sl 5 a4.length (zI a4)]
def zI:List qg→List D
 | []=>[]
 | x::l=>qr x++zI l
end
theorem JJ:∀l:List qg,zI l=l.flatMap qr
 | []=>rfl
 | x::l=>by rw[qvg,←JJ l,zI]
theorem q1C (x:qg):qr x=[D.int .i64 x.Kind,D.int .i64 x.N,D.int .i64 x.Min,D.sl 2 x.Set.length (x.Set.flatMap qj),D.sl 5 x.L.length (x.L.flatMap qr)]:=by cases x;rw[qr,JJ]
theorem QD (x:qg):(qr x).length=5:=by rw[q1C];rfl
theorem q49 (x:qg):qg.mk x.Kind x.N x.Min x.Set x.L=x:=by cases x;rfl
structure qf where
 School:Int
 Id:Int
 Version:Int
 From:Int
 Name:ByteArray
 Need:qg
 Total:Int
 Own:Int
 Age:Int
 Exclude:List (QH qb)
structure qd where
 L:List Int
 At:Int
theorem q2p (x:qd):qd.mk x.L x.At=x:=rfl
theorem q6D:∀x:(List Int),((eL 1 eI) x).length=1:=fun _=>rfl
theorem qlv (v:List (List Int)):(v.flatMap (eL 1 eI)).length=v.length:=by rw[ZF q6D,Nat.mul_one]
theorem q9J (v:List (List Int)) (i:Nat):ld T ((v.flatMap (eL 1 eI)).map C.d) (i) 25=(v[i]?).bind fun x=>some (.c (.d (D.sl 1 x.length (x.flatMap eI)))):=by rw[q5i q6D v i _ (by decide)];cases v[i]? with|none=>rfl|some x=>rfl
theorem q5W:∀x:Int,(eI x).length=1:=fun _=>rfl
theorem qov (v:List Int):(v.flatMap eI).length=v.length:=by rw[ZF q5W,Nat.mul_one]
theorem qfs (v:List Int) (i:Nat):ld T ((v.flatMap eI).map C.d) (i) 3=(v[i]?).bind fun x=>some (.c (.d (D.int .i64 x))):=by rw[q5i q5W v i _ (by decide)];cases v[i]? with|none=>rfl|some x=>rfl
theorem qou (v:List Int) (a:Int):(v.flatMap eI).map C.d++[C.d (D.int .i64 a)]=((v++[a]).flatMap eI).map C.d:=by have h:=q3m (E:=eI) v a;exact h
theorem qmU (v:List Int) (i:Nat) (a:Int):spr ((v.flatMap eI).map C.d) (i) [C.d (D.int .i64 a)]=((v.set i a).flatMap eI).map C.d:=by have h:=q6n q5W v i a;rw[Nat.mul_one] at h;exact h
theorem qkv (m:Nat):(List.replicate m [C.d (D.int .i64 0)]).flatten=((List.replicate m 0).flatMap eI).map C.d:=qgW (E:=eI) 0 (by rfl) m
theorem ZX:∀x:qa,(qc x).length=8:=Ze
theorem qkc (v:List qa):(v.flatMap qc).length=v.length*8:=by rw[ZF ZX]
theorem q9z (v:List qa) (i:Nat):ld T ((v.flatMap qc).map C.d) (i*8) 52=(v[i]?).bind fun x=>some (.agg [.d (D.int .i64 x.Course.School),.d (D.str x.Course.Code),.d (D.int .i64 x.Credits),.d (D.int .i64 x.Grade),.d (D.int .i64 x.Day),.d (D.sl 1 x.Sources.length (x.Sources.flatMap eI)),.d (D.int .i64 x.Bundle),.d (D.sl 1 x.Path.length (x.Path.flatMap eI))]):=by rw[q4O ZX v i _ (by decide) (by decide)];cases v[i]? with|none=>rfl|some x=>rw[quc,quc,qQ];rfl
theorem qaz (v:List qa) (i:Nat):ld T ((v.flatMap qc).map C.d) (i*8+1) 9=(v[i]?).bind fun x=>some (.c (.d (D.str x.Course.Code))):=by rw[q3i ZX v i 1 _ (by decide) (by decide)];cases v[i]? with|none=>rfl|some x=>rw[quc,quc,qQ];rfl
theorem qbz (v:List qa):ld T ((v.flatMap qc).map C.d) 9 9=(v[1]?).bind fun x=>some (.c (.d (D.str x.Course.Code))):=by have h:=qaz v 1;exact h
theorem qcb (v:List qa) (i:Nat):ld T ((v.flatMap qc).map C.d) (i*8+3) 3=(v[i]?).bind fun x=>some (.c (.d (D.int .i64 x.Grade))):=by rw[q3i ZX v i 3 _ (by decide) (by decide)];cases v[i]? with|none=>rfl|some x=>rw[quc,quc,qQ];rfl
theorem qcV (v:List qa):ld T ((v.flatMap qc).map C.d) 3 3=(v[0]?).bind fun x=>some (.c (.d (D.int .i64 x.Grade))):=by have h:=qcb v 0;rwa [Nat.zero_mul,quB] at h
theorem q9m (v:List qa) (i:Nat):ld T ((v.flatMap qc).map C.d) (i*8+5) 25=(v[i]?).bind fun x=>some (.c (.d (D.sl 1 x.Sources.length (x.Sources.flatMap eI)))):=by rw[q3i ZX v i 5 _ (by decide) (by decide)];cases v[i]? with|none=>rfl|some x=>rw[quc,quc,qQ];rfl
theorem qjX (v:List qa) (a_Course_School:Int) (a_Course_Code:ByteArray) (a_Credits:Int) (a_Grade:Int) (a_Day:Int) (a_Sources:List Int) (a_Bundle:Int) (a_Path:List Int):(v.flatMap qc).map C.d++[C.d (D.int .i64 a_Course_School),C.d (D.str a_Course_Code),C.d (D.int .i64 a_Credits),C.d (D.int .i64 a_Grade),C.d (D.int .i64 a_Day),C.d (D.sl 1 a_Sources.length (a_Sources.flatMap eI)),C.d (D.int .i64 a_Bundle),C.d (D.sl 1 a_Path.length (a_Path.flatMap eI))]=((v++[(qa.mk (qb.mk a_Course_School a_Course_Code) a_Credits a_Grade a_Day a_Sources a_Bundle a_Path)]).flatMap qc).map C.d:=by have h:=q3m (E:=qc) v (qa.mk (qb.mk a_Course_School a_Course_Code) a_Credits a_Grade a_Day a_Sources a_Bundle a_Path);rw[qQ] at h;exact h
theorem qhD (v:List qa) (i:Nat) (a_Course_School:Int) (a_Course_Code:ByteArray) (a_Credits:Int) (a_Grade:Int) (a_Day:Int) (a_Sources:List Int) (a_Bundle:Int) (a_Path:List Int):spr ((v.flatMap qc).map C.d) (i*8) [C.d (D.int .i64 a_Course_School),C.d (D.str a_Course_Code),C.d (D.int .i64 a_Credits),C.d (D.int .i64 a_Grade),C.d (D.int .i64 a_Day),C.d (D.sl 1 a_Sources.length (a_Sources.flatMap eI)),C.d (D.int .i64 a_Bundle),C.d (D.sl 1 a_Path.length (a_Path.flatMap eI))]=((v.set i (qa.mk (qb.mk a_Course_School a_Course_Code) a_Credits a_Grade a_Day a_Sources a_Bundle a_Path)).flatMap qc).map C.d:=by have h:=q6n ZX v i (qa.mk (qb.mk a_Course_School a_Course_Code) a_Credits a_Grade a_Day a_Sources a_Bundle a_Path);rw[qQ] at h;exact h
theorem qls (v:List qa) (ys:List C):dzc [0,0,0,0,0,1,0,1] [] ((v.flatMap qc).map C.d++ys)=(v.flatMap qc).map C.d++dzc [0,0,0,0,0,1,0,1] [] ys:=qgd ZX [0,0,0,0,0,1,0,1] rfl v ys
theorem qdM (s:S) (v:List qa) (lo hi:Option Operand):xsl T s 32 (.c (.d (.sl 8 v.length (v.flatMap qc)))) lo hi=qnS s qc 8 v (s.bd lo 0) (s.bd hi v.length):=ql2 ZX v lo hi (by rfl) (by rfl) (by decide)
theorem q0S:∀x:qb,(qj x).length=2:=JF
theorem qlE (v:List qb):(v.flatMap qj).length=v.length*2:=by rw[ZF q0S]
theorem q9q (v:List qb) (i:Nat):ld T ((v.flatMap qj).map C.d) (i*2) 50=(v[i]?).bind fun x=>some (.agg [.d (D.int .i64 x.School),.d (D.str x.Code)]):=by rw[q4O q0S v i _ (by decide) (by decide)];cases v[i]? with|none=>rfl|some x=>rw[quc,quc,Qs];rfl
theorem qlZ (v:List qb) (a_School:Int) (a_Code:ByteArray):(v.flatMap qj).map C.d++[C.d (D.int .i64 a_School),C.d (D.str a_Code)]=((v++[(qb.mk a_School a_Code)]).flatMap qj).map C.d:=by have h:=q3m (E:=qj) v (qb.mk a_School a_Code);rw[Qs] at h;exact h
theorem qiC (v:List qb) (i:Nat) (a_School:Int) (a_Code:ByteArray):spr ((v.flatMap qj).map C.d) (i*2) [C.d (D.int .i64 a_School),C.d (D.str a_Code)]=((v.set i (qb.mk a_School a_Code)).flatMap qj).map C.d:=by have h:=q6n q0S v i (qb.mk a_School a_Code);rw[Qs] at h;exact h
theorem qjn (v:List qb) (a:Nat):(v.flatMap qj).drop (a*2)=(v.drop a).flatMap qj:=by have h:=q6N q0S v a;exact h
theorem qjJ (v:List qb) (a:Nat):(v.flatMap qj).take (a*2)=(v.take a).flatMap qj:=by have h:=q6F q0S v a;exact h
theorem qhS (v:List qb) (a:Nat):((v.flatMap qj).map C.d).drop (a*2)=((v.drop a).flatMap qj).map C.d:=by rw[←List.map_drop,qjn]
theorem qiu (v:List qb) (a:Nat):((v.flatMap qj).map C.d).take (a*2)=((v.take a).flatMap qj).map C.d:=by rw[←List.map_take,qjJ]
theorem qhw (v w:List qb) (i:Nat):spl (v.flatMap qj) (i*2) (w.flatMap qj)=(spl v i w).flatMap qj:=by have h:=qav q0S w v i;exact h
theorem qd7:∀x:qg,(qr x).length=5:=QD
theorem qk3 (v:List qg):(v.flatMap qr).length=v.length*5:=by rw[ZF qd7]
theorem qms (v:List qg) (a_Kind:Int) (a_N:Int) (a_Min:Int) (a_Set:List qb) (a_L:List qg):(v.flatMap qr).map C.d++[C.d (D.int .i64 a_Kind),C.d (D.int .i64 a_N),C.d (D.int .i64 a_Min),C.d (D.sl 2 a_Set.length (a_Set.flatMap qj)),C.d (D.sl 5 a_L.length (a_L.flatMap qr))]=((v++[(qg.mk a_Kind a_N a_Min a_Set a_L)]).flatMap qr).map C.d:=by have h:=q3m (E:=qr) v (qg.mk a_Kind a_N a_Min a_Set a_L);rw[q1C] at h;exact h
theorem qhZ:∀x:(QH qb),((eA2 qj) x).length=4:=fun _=>rfl
theorem qhs:∀x:qe,(QL x).length=3:=q3x
theorem qi3:∀x:(List qa),((eL 8 qc) x).length=1:=fun _=>rfl
theorem q6r:∀x:(QH Int),((eA2 eI) x).length=2:=fun _=>rfl
theorem qk0 (v:List (QH Int)):(v.flatMap (eA2 eI)).length=v.length*2:=by rw[ZF q6r]
theorem q8K (v:List (QH Int)) (i:Nat):ld T ((v.flatMap (eA2 eI)).map C.d) (i*2) 81=(v[i]?).bind fun x=>some (.agg [.d (D.int .i64 x.a0),.d (D.int .i64 x.a1)]):=by rw[q4O q6r v i _ (by decide) (by decide)];cases v[i]? with|none=>rfl|some x=>rw[quc,quc];rfl
theorem qlt (v:List (QH Int)) (a_0:Int) (a_1:Int):(v.flatMap (eA2 eI)).map C.d++[C.d (D.int .i64 a_0),C.d (D.int .i64 a_1)]=((v++[(QH.mk a_0 a_1)]).flatMap (eA2 eI)).map C.d:=by have h:=q3m (E:=(eA2 eI)) v (QH.mk a_0 a_1);exact h
theorem qfY:∀x:ByteArray,(eS x).length=1:=fun _=>rfl
theorem qdE (v:List ByteArray) (i:Nat):ld T ((v.flatMap eS).map C.d) (i) 9=(v[i]?).bind fun x=>some (.c (.d (D.str x))):=by rw[q5i qfY v i _ (by decide)];cases v[i]? with|none=>rfl|some x=>rfl
theorem q2J:∀x:(List Int),((oL 3 1 eI) x).length=1:=fun _=>rfl
theorem JE:∀x:(List Int),((oL 3 1 eI) x).all C.pl=true:=fun _=>rfl
theorem qgN (v:List (List Int)):(v.flatMap (oL 3 1 eI)).length=v.length:=by rw[qfI q2J,Nat.mul_one]
theorem qiU (v:List (List Int)) (k:Nat):(v.flatMap (oL 3 1 eI)).map (C.fg k)=v.flatMap (oL 3 1 eI):=q9Z JE (qpB k) v
theorem qj7 (v:List (List Int)) (ids:List Nat):(v.flatMap (oL 3 1 eI)).map (cn ids)=v.flatMap (oL 3 1 eI):=q9Z JE (qqk ids) v
theorem qhx (v:List (List Int))  : (v.flatMap (oL 3 1 eI)).map (C.kw)=v.flatMap (oL 3 1 eI):=q9Z JE (qp1) v
theorem qdS (v:List (List Int)) (k:Nat):(v.flatMap (oL 3 1 eI)).all (C.far k)=true:=qg9 JE (qkn k) v
theorem qbH (v:List (List Int)) (X:List Nat):(v.flatMap (oL 3 1 eI)).all (C.farF X)=true:=qg9 JE (qim X) v
theorem qaj (v:List (List Int)):(v.flatMap (oL 3 1 eI)).any C.isNils=false:=qlk JE qiS v
theorem qa8 (v:List (List Int)):(v.flatMap (oL 3 1 eI)).flatMap C.refs=[]:=qlV JE qjc v
theorem qcQ (v:List (List Int)):(v.flatMap (oL 3 1 eI)).flatMap C.rows=[]:=qlV JE qgB v
theorem qhu (v:List (List Int)):(v.flatMap (oL 3 1 eI)).map C.uw=(v.flatMap (eL 1 eI)).map C.d:=qlp (E:=(oL 3 1 eI)) (F:=(eL 1 eI)) (fun _=>rfl) v
theorem qe5 (v:List (List Int)) (ys:List C):q3U [some (3,1)] [] (v.flatMap (oL 3 1 eI)++ys)=v.flatMap (oL 3 1 eI)++q3U [some (3,1)] [] ys:=qfQ JE q2J [some (3,1)] rfl v ys
theorem qaG (v:List (List Int)) (i:Nat):(v.flatMap (oL 3 1 eI))[i]?=(v[i]?).bind fun x=>some (C.ow 3 1 x.length (x.flatMap eI)):=by have h:=qg2 q2J (show 0<1 by decide) v i;rwa [Nat.mul_one,Nat.add_zero] at h
theorem qeH (cs:List C) (o:Nat) (c:C):ld T (spr cs o [c]) o 25=(cs[o]?).bind fun _=>some (R.c c):=by rw[qoU (by rw[k25];simp) (by rw[k25];simp) (by rw[k25];simp),qeo]
theorem qcl (v:List (List Int)) (i:Nat) (b:List Int):spr (v.flatMap (oL 3 1 eI)) i [C.ow 3 1 b.length (b.flatMap eI)]=(v.set i b).flatMap (oL 3 1 eI):=qfK q2J (x:=b) rfl v i
theorem q8V (v:List (List Int)) (i:Nat) (w:List Int) (z:Int):spr (v.flatMap (oL 3 1 eI)) i [C.ow 3 1 (w.length+1) ((w++[z]).flatMap eI)]=(v.set i (w++[z])).flatMap (oL 3 1 eI):=by have h:=qcl v i (w++[z]);rw[quj] at h;exact h
theorem qeg (v:List (List Int)):v.flatMap (oL 3 1 eI)++[C.ow 3 1 0 []]=(v++[[]]).flatMap (oL 3 1 eI):=qk5 (E:=(oL 3 1 eI)) v []
theorem qcA {α:Type} {E:α→List D} {k:Nat} (h:∀x,(E x).length=k) (hi:∀x y,E x=E y→x=y):∀x y:QH α,eA2 E x=eA2 E y→x=y:=by
 rintro⟨a0,a1⟩ ⟨b0,b1⟩ e
 unfold eA2 at e
 dsimp only at e
 obtain⟨e,h1⟩:=List.append_inj' e (by rw[h,h])
 rw[hi _ _ e,hi _ _ h1]
theorem q1d (v w:List Int):(v.flatMap eI=w.flatMap eI)=(v=w):=propext ⟨fun h=>(Qv q5W (by decide) (fun x y h=>by injection h with h;injection h) _ _) h,fun h=>by rw[h]⟩
theorem Ju (v w:List (List Int)):(v.flatMap (eL 1 eI)=w.flatMap (eL 1 eI))=(v=w):=propext ⟨fun h=>(Qv q6D (by decide) (fun x y h=>by injection h with h;injection h with _ _ h;exact(Qv q5W (by decide) (fun x y h=>by injection h with h;injection h) _ _) h) _ _) h,fun h=>by rw[h]⟩
theorem q3t:∀x y:qe,QL x=QL y→x=y:=by
 rintro⟨a_0,a_1,a_2⟩ ⟨b_0,b_1,b_2⟩ h
 simp only[q40,List.cons.injEq,D.int.injEq,D.bool.injEq,D.str.injEq,D.sl.injEq,true_and,and_true,q1d,Ju] at h
 simp only[h]
theorem JI:∀x y:qb,qj x=qj y→x=y:=by
 rintro⟨a_0,a_1⟩ ⟨b_0,b_1⟩ h
 simp only[Qs,List.cons.injEq,D.int.injEq,D.bool.injEq,D.str.injEq,D.sl.injEq,true_and,and_true,q1d,Ju] at h
 simp only[h]
theorem Zg:∀x y:qa,qc x=qc y→x=y:=by
 rintro⟨⟨a_0_0,a_0_1⟩,a_1,a_2,a_3,a_4,a_5,a_6⟩ ⟨⟨b_0_0,b_0_1⟩,b_1,b_2,b_3,b_4,b_5,b_6⟩ h
 simp only[qQ,List.cons.injEq,D.int.injEq,D.bool.injEq,D.str.injEq,D.sl.injEq,true_and,and_true,q1d,Ju] at h
 simp only[h]
theorem q24 (v w:List qa):(v.flatMap qc=w.flatMap qc)=(v=w):=propext ⟨fun h=>(Qv ZX (by decide) Zg _ _) h,fun h=>by rw[h]⟩
theorem q1O (v w:List qb):(v.flatMap qj=w.flatMap qj)=(v=w):=propext ⟨fun h=>(Qv q0S (by decide) JI _ _) h,fun h=>by rw[h]⟩
mutual
theorem q0P:∀x y:qg,qr x=qr y→x=y
 | ⟨a0,a1,a2,a3,a4⟩,⟨b0,b1,b2,b3,b4⟩,h=>by
  rw[qr,qr] at h
  simp only[List.cons.injEq,D.int.injEq,D.bool.injEq,D.str.injEq,D.sl.injEq,true_and,and_true,q1d,Ju,q24,q1O] at h
  have hl:a4=b4:=q0o a4 b4 (by simp only[h])
  subst hl
  simp only[h]
theorem q0o:∀v w:List qg,zI v=zI w→v=w
 | [],[],_=>rfl
 | [],y::w,e=>by
  have:=congrArg List.length e
  rw[zI,zI,quj,QD] at this
  first|omega|(simp at this;done)|(simp at this;omega)
 | x::v,[],e=>by
  have:=congrArg List.length e
  rw[zI,zI,quj,QD] at this
  first|omega|(simp at this;done)|(simp at this;omega)
 | x::v,y::w,e=>by
  rw[zI,zI] at e
  obtain⟨h1,h2⟩:=List.append_inj e (by rw[QD,QD])
  rw[q0P x y h1,q0o v w h2]
end
theorem q3R (v w:List qg):(v.flatMap qr=w.flatMap qr)=(v=w):=propext ⟨fun h=>(Qv qd7 (by decide) q0P _ _) h,fun h=>by rw[h]⟩
theorem q3g (v w:List (QH qb)):(v.flatMap (eA2 qj)=w.flatMap (eA2 qj))=(v=w):=propext ⟨fun h=>(Qv qhZ (by decide) (qcA JF JI) _ _) h,fun h=>by rw[h]⟩
theorem q3F (v w:List qe):(v.flatMap QL=w.flatMap QL)=(v=w):=propext ⟨fun h=>(Qv qhs (by decide) q3t _ _) h,fun h=>by rw[h]⟩
theorem q3I (v w:List (List qa)):(v.flatMap (eL 8 qc)=w.flatMap (eL 8 qc))=(v=w):=propext ⟨fun h=>(Qv qi3 (by decide) (fun x y h=>by injection h with h;injection h with _ _ h;exact(Qv ZX (by decide) Zg _ _) h) _ _) h,fun h=>by rw[h]⟩
theorem q3h (v w:List (QH Int)):(v.flatMap (eA2 eI)=w.flatMap (eA2 eI))=(v=w):=propext ⟨fun h=>(Qv q6r (by decide) (qcA (fun _=>rfl) (fun x y h=>by injection h with h;injection h)) _ _) h,fun h=>by rw[h]⟩
theorem q5M (v w:List ByteArray):(v.flatMap eS=w.flatMap eS)=(v=w):=propext ⟨fun h=>(Qv qfY (by decide) (fun x y h=>by injection h with h;injection h) _ _) h,fun h=>by rw[h]⟩
def zW (v:Int):R:=R.c (C.d (D.int .i64 v))
theorem q2A (M M':List (Int×Int)):(B.ob (mpB (J2 .i64) zW M)=B.ob (mpB (J2 .i64) zW M'))=(M=M'):=qgo (fun a b h=>by injection h) (fun a b h=>by simp only[zW,R.c.injEq,C.d.injEq,D.int.injEq,D.bool.injEq,D.str.injEq,D.sl.injEq,true_and,and_true,q1d,Ju,q24,q1O,q3R,q3g,q3F,q3I,q3h,q5M] at h;simp only[h]) M M'
theorem qm2 (id:Nat) (M:List (Int×Int)):AO.mapR (R.fg id) (mpB (J2 .i64) zW M)=mpB (J2 .i64) zW M:=q1z (vE:=zW) (fun v=>rfl) M
theorem qn7 (f:Nat→Nat) (M:List (Int×Int)):AO.mapR (R.rn0 f) (mpB (J2 .i64) zW M)=mpB (J2 .i64) zW M:=q1z (vE:=zW) (fun v=>rfl) M
theorem qjN (X:List Nat) (M:List (Int×Int)):AO.mapR (R.fgL X) (mpB (J2 .i64) zW M)=mpB (J2 .i64) zW M:=q1z (vE:=zW) (fun v=>rfl) M
theorem qln (ids:List Nat) (M:List (Int×Int)):AO.mapR (qdg ids) (mpB (J2 .i64) zW M)=mpB (J2 .i64) zW M:=q1z (vE:=zW) (fun v=>rfl) M
theorem qhB (M:List (Int×Int)):AO.mapR (R.nw0) (mpB (J2 .i64) zW M)=mpB (J2 .i64) zW M:=q1z (vE:=zW) (fun v=>rfl) M
theorem qjO (M:List (Int×Int)):(mpB (J2 .i64) zW M).Rs.all (R.scl0)=true:=qa4 (fun v=>rfl) M
theorem qjK (X:List Nat) (M:List (Int×Int)):(mpB (J2 .i64) zW M).Rs.all (R.farL X)=true:=qa4 (fun v=>rfl) M
theorem qk4 (M:List (Int×Int)):(mpB (J2 .i64) zW M).Rs.flatMap R.refs0=[]:=qfi (fun v=>rfl) M
theorem qj1 (s:S) (sel:List Nat) (M:List (Int×Int)):cvA s sel (mpB (J2 .i64) zW M)=some (mpB (J2 .i64) zW M):=qiH (fun v=>rfl) M
theorem qey (M:List (Int×Int)):((mpE (J2 .i64) zW M 0).all fun q=>plK (Kd.int .i64) q.1)=true:=q6x (fun k r i=>rfl) M 0
theorem qio (ok:Bool) (k:Int) (M:List (Int×Int)):lkq ok (R.c (C.d (D.int .i64 0))) (fnd (Value.int .i64 k) (mpE (J2 .i64) zW M 0) 0)=some (tt2 (R.c (C.d (D.int .i64 (QR (0:Int) M k)))) ok (q9M M k)):=qoN (vE:=zW) (kE:=(J2 .i64)) (qg4 _) ((0:Int)) ok k M
theorem qiP (k:Int) (v:Int) (M:List (Int×Int)):mup (Kd.int .i64) (Value.int .i64 k) (R.c (C.d (D.int .i64 v))) (.ob (mpB (J2 .i64) zW M))=some (.ob (mpB (J2 .i64) zW (q2h M k v))):=qoI (vE:=zW) (kE:=(J2 .i64)) (qg4 _) (fun a=>rfl) k v M
theorem qlC (s:S) (p:Nat):JB T s p 82 none=some (.c (.hd .map p),s.up [(p,.ob (mpB (J2 .i64) zW ([]:List (Int×Int))))]):=rfl
theorem qi2 (l:List qa) (i j:Int):q9g 52 8 0 [.c (.own 0 8 0 l.length),.c (.d (.int .i64 i)),.c (.d (.int .i64 j))] [(0,.row 52 8 ((l.flatMap qc).map C.d))]=if 0≤i∧j=i+1∧i<l.length then some (.c (.own 0 8 0 (l.eraseIdx i.toNat).length),[(0,.row 52 8 (((l.eraseIdx i.toNat).flatMap qc).map C.d))]) else none:=qi0 Ze l i j rfl
end
noncomputable section
open Go.RowKit
theorem qop:q5U Try.prog 50=true:=by kernel_rfl
def by0:=JA_ @k3 (JA_ @z3 (JA_ @b3 (JA_ @o3 (JA_ @q3 (JA_ @k4 (@q4))))))
def by1:=JA_ @k9 (JA_ @z9 (@q9))
def by2:=JA_ @k22 (JA_ @z22 (JA_ @q22 (JA_ @k23 (JA_ @z23 (JA_ @o23 (JA_ @k24 (JA_ @z24 (JA_ @k25 (JA_ @z25 (@b25))))))))))
def by3:=JA_ @o25 (JA_ @q25 (JA_ @k26 (JA_ @z26 (JA_ @k28 (JA_ @z28 (JA_ @q28 (JA_ @k30 (JA_ @z30 (JA_ @o30 (JA_ @q30 (JA_ @k32 (JA_ @q32 (JA_ @k33 (@z33))))))))))))))
def by4:=JA_ @q33 (JA_ @k34 (JA_ @z34 (JA_ @k36 (JA_ @z36 (JA_ @b36 (JA_ @o36 (JA_ @q36 (JA_ @k37 (JA_ @z37 (JA_ @k39 (JA_ @z39 (JA_ @o39 (@q39)))))))))))))
def by5:=JA_ @q45 (JA_ @k50 (JA_ @z50 (JA_ @b50 (JA_ @o50 (@q50)))))
def by6:=JA_ @k52 (JA_ @z52 (JA_ @b52 (JA_ @o52 (@q52))))
def by7:=@k60
def by8:=JA_ @k69 (JA_ @o69 (@q69))
def by9:=JA_ @q78 (JA_ @k80 (JA_ @k81 (JA_ @z81 (JA_ @b81 (JA_ @o81 (JA_ @q81 (JA_ @k82 (JA_ @z82 (JA_ @o82 (JA_ @q82 (@q83)))))))))))
def qtw:=JA_ @q87 (JA_ @k89 (JA_ @o89 (JA_ @k90 (@q90))))
def qu8:=JA_ @q92 (JA_ @k93 (JA_ @o93 (JA_ @k96 (JA_ @z96 (JA_ @o96 (@q96))))))
def qsa:=JA_ @qtz (JA_ @qtu (JA_ @qtF (@qsH)))
def qsY:=JA_ @qop (JA_ @bk_ (JA_ @qth (JA_ @qlq (JA_ @qtA (@qsS)))))
def qsT:=JA_ @qpW (JA_ @qpv (JA_ @qoL (JA_ @qpE (JA_ @qpj (JA_ @qpr (JA_ @qpJ (JA_ @qoQ (JA_ @qos (JA_ @qoi (@qpc))))))))))
def qtP:=JA_ @qoH (JA_ @qoM (JA_ @qqu (JA_ @qpb (@qqh))))
def qt4:=JA_ @qpz (@qq6)
def qtY:=JA_ @qqA (JA_ @qpQ (JA_ @qoE (JA_ @qqm (JA_ @qpD (JA_ @qp7 (@qoV))))))
def qsy:=JA_ @qkI (@qmz)
def qtb:=JA_ @pw5 (JA_ @pw8 (JA_ @pw9 (JA_ @qrX (JA_ @qqq (JA_ @qrD (JA_ @qrM (JA_ @qrz (JA_ @qra (JA_ @qrY (JA_ @qrA (JA_ @qqD (JA_ @qrL (JA_ @qrN (JA_ @qqM (JA_ @qrQ (JA_ @qr2 (JA_ @qrO (JA_ @qqX (JA_ @qru (JA_ @qrV (@qrs)))))))))))))))))))))
def qsJ:=JA_ @qqQ (JA_ @qrl (JA_ @qqG (JA_ @qrv (JA_ @qrx (JA_ @qrw (JA_ @qrp (JA_ @qrS (JA_ @qrb (JA_ @qrh (JA_ @qr3 (JA_ @qr8 (JA_ @qrg (JA_ @qoD (JA_ @qrU (JA_ @qrR (JA_ @qrj (JA_ @qrc (JA_ @qpg (JA_ @qqY (JA_ @qqL (JA_ @qoB (JA_ @qrE (JA_ @qrd (JA_ @qs2 (JA_ @qre (@qqS))))))))))))))))))))))))))
def qs7:=JA_ @qts (JA_ @qqT (JA_ @qs3 (JA_ @qqs (JA_ @qr5 (JA_ @qqF (@qu9))))))
def qsI:=JA_ @qoK (JA_ @qo8 (JA_ @qpN (JA_ @qoj (JA_ @qpt (JA_ @qp8 (JA_ @qqg (JA_ @qpX (JA_ @qo9 (JA_ @qoW (JA_ @qoh (@qpF)))))))))))
def qsL:=JA_ @qoS (JA_ @qpU (JA_ @qpP (JA_ @qph (JA_ @qox (JA_ @qqt (JA_ @qoC (JA_ @qq4 (JA_ @qog (JA_ @qp3 (JA_ @qo6 (JA_ @qq5 (JA_ @qob (JA_ @qoF (@qps))))))))))))))
def qsz:=JA_ @qnm (JA_ @qn9 (JA_ @qqB (JA_ @qqc (JA_ @ql5 (@qmf)))))
def qsA:=JA_ @qkA (JA_ @qhy (JA_ @qhN (JA_ @qgq (JA_ @qhX (JA_ @qmZ (JA_ @qkJ (JA_ @qjm (JA_ @ql0 (JA_ @qjy (JA_ @qkL (JA_ @qjQ (JA_ @qlG (JA_ @qjW (JA_ @qjv (JA_ @qm5 (JA_ @qli (JA_ @qkC (JA_ @qk6 (JA_ @qlD (@qjB))))))))))))))))))))
def qu1:=JA_ @qk1 (@qnd)
def qtK:=JA_ @qqn (@qon)
def qtq:=JA_ @qmr (JA_ @qkq (JA_ @qhA (JA_ @qid (JA_ @qhG (JA_ @qi9 (JA_ @qjY (JA_ @qjA (JA_ @qjx (JA_ @qlu (JA_ @qnl (JA_ @qkm (JA_ @qk8 (JA_ @qlO (JA_ @qko (JA_ @qkw (JA_ @qlP (JA_ @qme (JA_ @qiJ (JA_ @qkR (JA_ @qlm (JA_ @qiF (JA_ @qhQ (@qmJ)))))))))))))))))))))))
def qu0:=JA_ @qnf (JA_ @qqi (JA_ @qpd (@qki)))
def qsO:=JA_ @qgE (JA_ @qik (JA_ @qiW (JA_ @qgH (JA_ @qjs (JA_ @qlo (JA_ @qn3 (JA_ @ql7 (JA_ @qmk (JA_ @qmH (JA_ @qle (JA_ @qmV (JA_ @qmq (JA_ @qjV (JA_ @qnc (JA_ @qmc (JA_ @qiK (JA_ @qlK (JA_ @qlc (JA_ @qh7 (JA_ @qiY (@qkN)))))))))))))))))))))
def bt0:=JA_ @qlv (JA_ @q9J (JA_ @qov (JA_ @qfs (JA_ @qou (JA_ @qmU (JA_ @qkv (JA_ @qkc (@q9z))))))))
def bt1:=JA_ @qbz (JA_ @qcV (JA_ @q9m (JA_ @qjX (@qhD))))
def bt2:=JA_ @qls (JA_ @qdM (JA_ @qlE (JA_ @q9q (JA_ @qlZ (JA_ @qiC (@qhS))))))
def bt3:=JA_ @qiu (JA_ @qhw (JA_ @qk3 (@qms)))
def bt6:=JA_ @qk0 (JA_ @q8K (@qlt))
def bt7:=JA_ @qdE (JA_ @qm2 (JA_ @qn7 (JA_ @qjN (JA_ @qln (JA_ @qhB (@qjO))))))
def bt8:=JA_ @qjK (JA_ @qk4 (JA_ @qj1 (JA_ @qey (JA_ @qio (JA_ @qiP (JA_ @qlC (JA_ @qi2 (JA_ @qgN (JA_ @qiU (JA_ @qj7 (JA_ @qhx (JA_ @qdS (JA_ @qbH (JA_ @qaj (JA_ @qa8 (JA_ @qcQ (JA_ @qhu (JA_ @qe5 (JA_ @qaG (JA_ @qeH (JA_ @q8V (@qeg))))))))))))))))))))))
def bt9:=JA_ @q49 (JA_ @q2v (JA_ @q0k (@q2p)))
def bA:=JA_ @bx0 (JA_ @bx1 (JA_ @bx2 (JA_ @bx3 (JA_ @bx4 (JA_ @bx5 (JA_ @bx6 (JA_ @bx7 (JA_ @bx8 (JA_ @bx9 (JA_ @qu5 (JA_ @qsf (JA_ @qtN (JA_ @qsN (JA_ @qt0 (JA_ @qtT (JA_ @qtp (JA_ @qto (JA_ @qsV (JA_ @qu6 (JA_ @qtS (JA_ @qtm (JA_ @qta (JA_ @qsE (JA_ @qsM (JA_ @qtZ (JA_ @qtc (JA_ @qsF (JA_ @qtG (JA_ @qtU (JA_ @qtJ (JA_ @qtt (JA_ @bz0 (JA_ @bz1 (JA_ @bz2 (JA_ @bz5 (JA_ @by0 (JA_ @by1 (JA_ @by2 (JA_ @by3 (JA_ @by4 (JA_ @by5 (JA_ @by6 (JA_ @by7 (JA_ @by8 (JA_ @by9 (JA_ @qtw (JA_ @qu8 (JA_ @qsa (JA_ @qsY (JA_ @qsT (JA_ @qtP (JA_ @qt4 (JA_ @qtY (JA_ @qsy (JA_ @qtb (JA_ @qsJ (JA_ @qs7 (JA_ @qsI (JA_ @qsL (JA_ @qsz (JA_ @qsA (JA_ @qu1 (JA_ @qtK (JA_ @qtq (JA_ @qu0 (JA_ @qsO (JA_ @bt0 (JA_ @bt1 (JA_ @bt2 (JA_ @bt3 (JA_ @bt6 (JA_ @bt7 (JA_ @bt8 (@bt9))))))))))))))))))))))))))))))))))))))))))))))))))))))))))))))))))))))))))
def bZ:=JA_ @quj.{0} (JA_ @quY.{0} (JA_ @JD (JA_ @quU.{0} (JA_ @qun.{0} (JA_ @quW.{0} (JA_ @quB (JA_ @qvg.{0,0} (JA_ @List.flatMap_nil.{0,0} (JA_ @quA.{0,0} (JA_ @List.map_nil.{0,0} (JA_ @eI.eq_1 (JA_ @eS.eq_1 (JA_ @qvh.{0} (JA_ @qux.{0} (JA_ @quy.{0} (JA_ @List.flatMap_append.{0,0} (JA_ @List.map_append.{0,0} (JA_ @Qs (JA_ @qQ (@eA2.eq_1))))))))))))))))))))
theorem gA {P:Prop} (h:P:=by simp -implicitDefEqProofs (maxSteps:=10000000) only[bA,Int.reduceToNat,Int.reduceLT,Int.reduceLE,Int.reduceAdd,Int.reduceSub,Int.reduceMul,Int.reduceNeg,Int.reduceEq,Int.reduceNe,Int.reduceBEq,Int.reduceBNe,Nat.reduceLT,Nat.reduceAdd,Nat.reduceMul,Nat.reduceSub,Nat.reduceEqDiff,Nat.reduceLeDiff,Nat.reduceBEq,Nat.reduceBNe,↓reduceIte,reduceCtorEq,pure,bind,w64,z7,Qy,Option.or_some,Option.or_none,Option.none_or,Option.some_or, *]<;>simp only[rL,dL,bR,bZ,Nat.reduceAdd]):P:=h
end
noncomputable section
open Go.RowKit
section
variable {τ ε:Type} {step:τ→Option (τ⊕ε)}
theorem Qa {x y:τ} (h:step x=some (.inl y)):qE step x=qE step y:=by
 rw[qcp,h];rfl
theorem zo {x:τ} {e:ε} (h:step x=some (.inr e)):qE step x=some e:=by
 rw[qcp,h];rfl
theorem Js {e:ε} (st:Nat→τ) (i0 n:Nat) (h0:i0≤n) (h:∀i,i0≤i→i<n→step (st i)=some (.inl (st (i+1)))) (hn:step (st n)=some (.inr e)):qE step (st i0)=some e:=by
 have key:∀j i,j+i=n→i0≤i→qE step (st i)=some e:=by
  intro j
  induction j with
  | zero=>intro i hi _;rw[quB] at hi;subst hi;exact zo hn
  | succ j ih=>intro i hi h1;rw[Qa (h i h1 (by omega))];exact ih (i+1) (by omega) (by omega)
 exact key (n-i0) i0 (by omega) (qut _)
def q59 {α β ε:Type} (g:β→α→β⊕ε) (fin:β→ε):List α→β→ε
 | [],b=>fin b
 | a::l,b=>match g b a with
  | .inl b'=>q59 g fin l b'
  | .inr e=>e
theorem q4c {α β:Type} (l:List α) (st:β→Nat→τ) (g:β→α→β⊕ε) (fin:β→ε)
  (h:∀b i a,l[i]?=some a→step (st b i)=some (match g b a with | .inl b' => .inl (st b' (i+1)) | .inr e => .inr e)) (hn:∀b,step (st b l.length)=some (.inr (fin b))) (b:β):qE step (st b 0)=some (q59 g fin l b):=by
 have key:∀(r:List α) (i:Nat) (b:β),r.length+i=l.length→(∀j,r[j]?=l[i+j]?)→qE step (st b i)=some (q59 g fin r b):=by
  intro r
  induction r with
  | nil=>
   intro i b hi _
   have hi:i=l.length:=by simpa using hi
   subst hi;exact zo (hn b)
  | cons a r ih=>
   intro i b hi hr
   have ha:l[i]?=some a:=by have:=hr 0;simpa using this.symm
   have h1:=h b i a ha
   unfold q59
   cases hg:g b a with
   | inl b'=>
    rw[hg] at h1
    rw[Qa h1]
    refine ih (i+1) b' (by simp at hi;omega) fun j=>?_
    have:=hr (j+1)
    rw[show i+1+j=i+(j+1) by omega,←this];rfl
   | inr e=>
    rw[hg] at h1
    exact zo h1
 exact key l 0 b (by simp) (by simp)
theorem q2c {α β:Type} (l:List α) (st:β→Nat→τ) (g:β→α→β) (fin:β→ε)
  (h:∀b i a,l[i]?=some a→step (st b i)=some (.inl (st (g b a) (i+1)))) (hn:∀b,step (st b l.length)=some (.inr (fin b))) (b:β):qE step (st b 0)=some (fin (l.foldl g b)):=by
 rw[q4c l st (fun b a => .inl (g b a)) fin h hn b]
 congr 1
 induction l generalizing b with
 | nil=>rfl
 | cons a l ih=>
  unfold q59
  simp only[qvf]
  clear h hn
  have:∀(l:List α) (b:β),q59 (ε:=ε) (fun b a => .inl (g b a)) fin l b=fin (l.foldl g b):=by
   intro l
   induction l with
   | nil=>intro b;rfl
   | cons a l ih=>intro b;unfold q59;simp only[qvf];exact ih _
  exact this l _
theorem qbL {α:Type} (l:List α) (st:Nat→τ) (p:α→Option ε) (d:ε)
  (h:∀i a,l[i]?=some a→step (st i)=some (match p a with|some e => .inr e|none => .inl (st (i+1)))) (hn:step (st l.length)=some (.inr d)):qE step (st 0)=some ((l.findSome? p).getD d):=by
 have h1:=q4c (ε:=ε) (β:=Unit) l (fun _ i=>st i) (fun _ a=>match p a with|some e => .inr e|none => .inl ()) (fun _=>d) (fun b i a ha=>by
  rw[h i a ha];cases p a<;>rfl) (fun _=>hn) ()
 rw[h1]
 congr 1
 have:∀l:List α,q59 (ε:=ε) (fun(_:Unit) a=>match p a with|some e => .inr e|none => .inl ()) (fun _=>d) l ()=(l.findSome? p).getD d:=by
  intro l
  induction l with
  | nil=>rfl
  | cons a l ih=>
   unfold q59
   rw[List.findSome?_cons]
   cases p a with
   | none=>simpa using ih
   | some e=>rfl
 exact this l
def q6v {α β ε:Type} (g:Nat→β→α→β⊕ε) (fin:β→ε):List α→Nat→β→ε
 | [],_,b=>fin b
 | a::l,i,b=>match g i b a with
  | .inl b'=>q6v g fin l (i+1) b'
  | .inr e=>e
theorem q8M {α β:Type} (l:List α) (st:β→Nat→τ) (g:Nat→β→α→β⊕ε) (fin:β→ε)
  (h:∀b i a,l[i]?=some a→step (st b i)=some (match g i b a with | .inl b' => .inl (st b' (i+1)) | .inr e => .inr e)) (hn:∀b,step (st b l.length)=some (.inr (fin b))) (b:β):qE step (st b 0)=some (q6v g fin l 0 b):=by
 have key:∀(r:List α) (i:Nat) (b:β),r.length+i=l.length→(∀j,r[j]?=l[i+j]?)→qE step (st b i)=some (q6v g fin r i b):=by
  intro r
  induction r with
  | nil=>
   intro i b hi _
   have hi:i=l.length:=by simpa using hi
   subst hi;exact zo (hn b)
  | cons a r ih=>
   intro i b hi hr
   have ha:l[i]?=some a:=by have:=hr 0;simpa using this.symm
   have h1:=h b i a ha
   unfold q6v
   cases hg:g i b a with
   | inl b'=>
    rw[hg] at h1
    rw[Qa h1]
    refine ih (i+1) b' (by simp at hi;omega) fun j=>?_
    have:=hr (j+1)
    rw[show i+1+j=i+(j+1) by omega,←this];rfl
   | inr e=>
    rw[hg] at h1
    exact zo h1
 exact key l 0 b (by simp) (by simp)
end
theorem Qo {α:Type} {l:List α} {i:Nat} {a:α} (h:l[i]?=some a):i<l.length:=(qug.1 h).1
theorem Q9 {n:Int} (h0 : -9223372036854775808≤n) (h1:n≤9223372036854775807):w64 n=n:=wi n h0 h1
theorem q4I {i n:Nat} (h:i<n) (hn:n≤9223372036854775807):w64 ((i:Int)+1)=((i+1:Nat):Int):=by
 rw[Q9 (by omega) (by omega)];omega
end
noncomputable section
open Go.RowKit
set_option maxRecDepth 20000
set_option maxHeartbeats 8000000
theorem qhR:okL 19 q1s:=qM (qi qeT) (by kernel_rfl) (by kernel_rfl)
def qgp:=JA_ @q1s.eq_1 (JA_ @Try.f19.eq_1 @qeT)
theorem qkZ:lbO 19 4=qbU:=Q1 (qi qeT) rfl
theorem qne:okL 19 qbU:=zn qhR (qud (i:=0) (by kernel_rfl))
theorem qjp:lbO 19 8=qbx:=Q1 (qi qeT) rfl
theorem qkk:okL 19 qbx:=zn qhR (qud (i:=1) (by kernel_rfl))
theorem qgJ:lbO 19 15=q75:=Q1 (qi qeT) rfl
theorem qiB:okL 19 q75:=zn qhR (qud (i:=2) (by kernel_rfl))
theorem qic:lbO 19 17=q74:=Q1 (qi qeT) rfl
theorem qgV:okL 19 q74:=zn qhR (qud (i:=3) (by kernel_rfl))
theorem qja:lbO 19 25=q7a:=Q1 (qi qeT) rfl
theorem qih:okL 19 q7a:=zn qhR (qud (i:=4) (by kernel_rfl))
theorem qgy:lbO 19 32=q6U:=Q1 (qi qeT) rfl
theorem qhI:okL 19 q6U:=zn qhR (qud (i:=5) (by kernel_rfl))
theorem qt1:okL 23 qb2:=qM (qi qqj) (by kernel_rfl) (by kernel_rfl)
def qtO:=JA_ @qb2.eq_1 (JA_ @Try.f23.eq_1 @qqj)
theorem qrC:okL 38 q7m:=qM (qi qnr) (by kernel_rfl) (by kernel_rfl)
def qr6:=JA_ @q7m.eq_1 (JA_ @Try.f38.eq_1 @qnr)
theorem qmI:lbO 38 4=qak:=Q1 (qi qnr) rfl
theorem qmP:okL 38 qak:=zn qrC (qud (i:=0) (by kernel_rfl))
def qC (s1:List Int) (s2:List Int) (t12:Int):Int→Option (Int⊕(Unit⊕Unit))|t13=>if t13<t12 then if 0≤t13∧t13<((s1.length:Nat):Int) then Option.bind s1[Int.toNat t13]? fun(a:Int)=>if 0≤t13∧t13<((s2.length:Nat):Int) then Option.bind s2[Int.toNat t13]? fun(a2:Int)=>if(a != a2)=Bool.true then some (Sum.inr (Sum.inl ())) else some (Sum.inl (w64 (t13+1))) else none else none else some (Sum.inr (Sum.inr ()))
theorem Zn:∀(s1 s2:List Int) (t12 t13:Int),XL2 evo 38 0 4 ⟨[(0,rL 1 eI s1),(1,rL 1 eI s2),(12,rI t12),(13,rI t13)],[],0,26⟩=(qE (qC s1 s2 t12) t13).bind (Sum.elim (fun(e:Unit)=>some (Exit.ret,⟨[(4,rB Bool.false)],[],0,26⟩)) (fun(e:Unit)=>some (Exit.exit 0,⟨[(4,R.any)],[],0,26⟩))):=
 fun s1 s2 t12 t13=>by
  revert t13;exact qby qmI qmP (fun e=>by rcases e with _|_<;>exact⟨_,rfl,fun h=>by cases h⟩) fun x=>by
   have:=qr6;have:=@qak.eq_1;have:=@qC.eq_1;exact gA
def qZ (s1:List Int) (s2:List Int):Option Bool:=if(((s1.length:Nat):Int) != ((s2.length:Nat):Int))=Bool.true then some Bool.false else Option.bind (qE (qC s1 s2 ((s1.length:Nat):Int)) 0) fun(a:Sum Unit Unit)=>Sum.elim (fun(a2:Unit)=>some Bool.false) (fun(a3:Unit)=>some Bool.true) a
theorem QI:∀(s1 s2:List Int),ev 38 0 [rL 1 eI s1,rL 1 eI s2] []=(qZ s1 s2).bind (fun(e:Bool)=>some (rB e,[])):=
 fun s1 s2=>by
  rw[qL qnr qqQ.2.2.2 qrC]
  have:=qr6;have:=@Zn;have:=@qZ.eq_1;exact gA
theorem qsW:okL 48 qbX:=qM (qi qoP) (by kernel_rfl) (by kernel_rfl)
def qsl:=JA_ @qbX.eq_1 (JA_ @Try.f48.eq_1 @qoP)
theorem qry:okL 61 qas:=qM (qi qnQ) (by kernel_rfl) (by kernel_rfl)
def qrm:=JA_ @qas.eq_1 (JA_ @Try.f61.eq_1 @qnQ)
theorem qqr:okL 81 q8A:=qM (qi qkx) (by kernel_rfl) (by kernel_rfl)
def qnN:=JA_ @q8A.eq_1 (JA_ @Try.f81.eq_1 @qkx)
theorem qfH:lbO 81 2=q7p:=Q1 (qi qkx) rfl
theorem qfF:okL 81 q7p:=zn qqr (qud (i:=0) (by kernel_rfl))
theorem qs9:okL 71 qcu:=qM (qi qpV) (by kernel_rfl) (by kernel_rfl)
def qtn:=JA_ @qcu.eq_1 (JA_ @Try.f71.eq_1 @qpV)
theorem qub:okL 60 qd2:=qM (qi qpI) (by kernel_rfl) (by kernel_rfl)
def qtE:=JA_ @qd2.eq_1 (JA_ @Try.f60.eq_1 @qpI)
theorem qrW:okL 80 q8k:=qM (qi qnz) (by kernel_rfl) (by kernel_rfl)
def qrt:=JA_ @q8k.eq_1 (JA_ @Try.f80.eq_1 @qnz)
theorem qlL:lbO 80 2=qbr:=Q1 (qi qnz) rfl
theorem qmK:okL 80 qbr:=zn qrW (qud (i:=0) (by kernel_rfl))
def qO (s:List Int) (v:Int) (t7:Int):Int→Option (Int⊕(Int⊕Unit))|t8=>if t8<t7 then if 0≤t8∧t8<((s.length:Nat):Int) then Option.bind s[Int.toNat t8]? fun(a:Int)=>if(v==a)=Bool.true then some (Sum.inr (Sum.inl t8)) else some (Sum.inl (w64 (t8+1))) else none else some (Sum.inr (Sum.inr ()))
theorem Zi:∀(s:List Int) (v t7 t8:Int),XL2 evo 80 0 2 ⟨[(0,rL 1 eI s),(1,rI v),(7,rI t7),(8,rI t8)],[],0,19⟩=(qE (qO s v t7) t8).bind (Sum.elim (fun(e:Int)=>some (Exit.ret,⟨[(4,rI e)],[],0,19⟩)) (fun(e:Unit)=>some (Exit.exit 0,⟨[(4,R.any)],[],0,19⟩))):=
 fun s v t7 t8=>by
  revert t8;exact qby qlL qmK (fun e=>by rcases e with _|_<;>exact⟨_,rfl,fun h=>by cases h⟩) fun x=>by
   have:=qrt;have:=@qbr.eq_1;have:=@qO.eq_1;exact gA
def zV (s:List Int) (v:Int):Option Int:=Option.bind (qE (qO s v ((s.length:Nat):Int)) 0) fun(a:Sum Int Unit)=>Sum.elim (fun(a2:Int)=>some a2) (fun(a3:Unit)=>some (-1)) a
theorem ZP:∀(s:List Int) (v:Int),ev 80 0 [rL 1 eI s,rI v] []=(zV s v).bind (fun(e:Int)=>some (rI e,[])):=
 fun s v=>by
  rw[qL qnz qs3.2.2.2 qrW]
  have:=qrt;have:=@Zi;have:=@zV.eq_1;exact gA
def qN (s:List Int) (v:Int):Option Bool:=Option.bind (zV s v) fun(a:Int)=>some (decide (0≤a))
theorem Qq:∀(s:List Int) (v:Int),ev 60 0 [rL 1 eI s,rI v] []=(qN s v).bind (fun(e:Bool)=>some (rB e,[])):=
 fun s v=>by
  rw[qL qpI qrc.2.2.2 qub]
  have:=qtE;have:=@ZP;have:=@qN.eq_1;exact gA
def Qp (x:Int) (v:List Int):Option Bool:=Option.bind (qN v x) fun(a:Bool)=>some a
theorem q09:∀(x:Int) (v:List Int),ev 71 1 [rI x,rP 0] [(0,B.blk 25 [dL 1 eI v])]=(Qp x v).bind (fun(e:Bool)=>some (rB e,[(0,B.blk 25 [dL 1 eI v])])):=
 fun x v=>by
  rw[qL qpV qs2.2.2.2 qs9]
  have:=qtn;have:=@Qq;have:=@Qp.eq_1;exact gA
def qB (b0:List Int) (s:List Int) (t7:Int):Int→Option (Int⊕(Int⊕Unit))|t8=>if t8<t7 then if 0≤t8∧t8<((s.length:Nat):Int) then Option.bind s[Int.toNat t8]? fun(a:Int)=>Option.bind (Qp a b0) fun(a2:Bool)=>if a2=Bool.true then some (Sum.inr (Sum.inl t8)) else some (Sum.inl (w64 (t8+1))) else none else some (Sum.inr (Sum.inr ()))
theorem QZ:∀(b0 s:List Int) (t7 t8:Int),XL2 evo 81 1 2 ⟨[(0,rL 1 eI s),(1,R.c (C.fn 71 [] [dP 0])),(7,rI t7),(8,rI t8)],[(0,B.blk 25 [dL 1 eI b0])],1,19⟩=(qE (qB b0 s t7) t8).bind (Sum.elim (fun(e:Int)=>some (Exit.ret,⟨[(4,rI e)],[(0,B.blk 25 [dL 1 eI b0])],1,19⟩)) (fun(e:Unit)=>some (Exit.exit 0,⟨[(4,R.any)],[(0,B.blk 25 [dL 1 eI b0])],1,19⟩))):=
 fun b0 s t7 t8=>by
  revert t8;exact qby qfH qfF (fun e=>by rcases e with _|_<;>exact⟨_,rfl,fun h=>by cases h⟩) fun x=>by
   have:=qnN;have:=@q7p.eq_1;have:=@q09;have:=@qB.eq_1;exact gA
def zw (s:List Int) (b0:List Int):Option Int:=Option.bind (qE (qB b0 s ((s.length:Nat):Int)) 0) fun(a:Sum Int Unit)=>Sum.elim (fun(a2:Int)=>some a2) (fun(a3:Unit)=>some (-1)) a
theorem Zh:∀(s b0:List Int),ev 81 1 [rL 1 eI s,R.c (C.fn 71 [] [dP 0])] [(0,B.blk 25 [dL 1 eI b0])]=(zw s b0).bind (fun(e:Int)=>some (rI e,[(0,B.blk 25 [dL 1 eI b0])])):=
 fun s b0=>by
  rw[qL qkx qqs.2.2.2 qqr]
  have:=qnN;have:=@QZ;have:=@zw.eq_1;exact gA
def zb (s:List Int) (b0:List Int):Option Bool:=Option.bind (zw s b0) fun(a:Int)=>some (decide (0≤a))
theorem QY:∀(s b0:List Int),ev 61 1 [rL 1 eI s,R.c (C.fn 71 [] [dP 0])] [(0,B.blk 25 [dL 1 eI b0])]=(zb s b0).bind (fun(e:Bool)=>some (rB e,[(0,B.blk 25 [dL 1 eI b0])])):=
 fun s b0=>by
  rw[qL qnQ qpg.2.2.2 qry]
  have:=qrm;have:=@Zh;have:=@zb.eq_1;exact gA
def zU (a:List Int) (b:List Int):Option Bool:=Option.bind (zb a b) fun(a2:Bool)=>some a2
theorem q1m:∀(a b:List Int),ev 48 0 [rL 1 eI a,rL 1 eI b] []=(zU a b).bind (fun(e:Bool)=>some (rB e,[])):=
 fun a b=>by
  rw[qL qoP qrp.2.2.2 qsW]
  have:=qsl;have:=@QY;have:=@zU.eq_1;exact gA
def QN (a:qa) (b:qa):Option Bool:=if(a.Course.School==b.Course.School)=Bool.true∧(ByteArray.toList a.Course.Code==ByteArray.toList b.Course.Code)=Bool.true then some Bool.false else if 0<a.Bundle then if(a.Bundle==b.Bundle)=Bool.true then Option.bind (qZ a.Path b.Path) fun(a2:Bool)=>if a2=Bool.true then some Bool.true else Option.bind (zU a.Sources b.Sources) fun(a3:Bool)=>some (!a3) else Option.bind (zU a.Sources b.Sources) fun(a4:Bool)=>some (!a4) else Option.bind (zU a.Sources b.Sources) fun(a5:Bool)=>some (!a5)
theorem JY:∀(a_Course_School:Int) (a_Course_Code:ByteArray) (a_Credits a_Grade a_Day:Int) (a_Sources:List Int) (a_Bundle:Int) (a_Path:List Int) (b_Course_School:Int) (b_Course_Code:ByteArray) (b_Credits b_Grade b_Day:Int) (b_Sources:List Int) (b_Bundle:Int) (b_Path:List Int),ev 23 0 [R.agg [dI a_Course_School,dS a_Course_Code,dI a_Credits,dI a_Grade,dI a_Day,dL 1 eI a_Sources,dI a_Bundle,dL 1 eI a_Path],R.agg [dI b_Course_School,dS b_Course_Code,dI b_Credits,dI b_Grade,dI b_Day,dL 1 eI b_Sources,dI b_Bundle,dL 1 eI b_Path]] []=(QN (qa.mk (qb.mk a_Course_School a_Course_Code) a_Credits a_Grade a_Day a_Sources a_Bundle a_Path) (qa.mk (qb.mk b_Course_School b_Course_Code) b_Credits b_Grade b_Day b_Sources b_Bundle b_Path)).bind (fun(e:Bool)=>some (rB e,[])):=
 fun a_Course_School a_Course_Code a_Credits a_Grade a_Day a_Sources a_Bundle a_Path b_Course_School b_Course_Code b_Credits b_Grade b_Day b_Sources b_Bundle b_Path=>by
  rw[qL qqj qqD.2.2.2 qt1]
  have:=qtO;have:=@QI;have:=@q1m;have:=@QN.eq_1;exact gA
def zx (w1:List Int) (t0:List qa) (t5:Int) (t19:Int) (t20:Int) (t27:Int):(List (QH Int)×Int)→Option ((List (QH Int)×Int)⊕(List (QH Int)))|(w0,t28)=>if t28<t27 then if 0≤t28∧t28<((t0.length:Nat):Int) then Option.bind t0[Int.toNat t28]? fun(a:qa)=>if 0≤t5∧t5<((t0.length:Nat):Int) then Option.bind t0[Int.toNat t5]? fun(a2:qa)=>Option.bind (QN a a2) fun(a3:Bool)=>if(!a3)=Bool.true then if w0.length+1≤maxLen∧(w0.length+1)*16≤140737488355328 then some (Sum.inl (w0++[QH.mk t28 t5],w64 (t28+1))) else none else some (Sum.inl (w0,w64 (t28+1))) else none else none else some (Sum.inr w0)
theorem q0H:∀(w0:List (QH Int)) (w1:List Int) (t0:List qa) (t5 t19 t20 t27 t28:Int) (w0_len w1_len:Nat),w0_len=w0.length→w1_len=w1.length→XL2 evo 19 0 8 ⟨[(0,rL 8 qc t0),(3,rO 0 2 w0_len),(4,rO 1 1 w1_len),(5,rI t5),(19,rI t19),(20,rI t20),(27,rI t27),(28,rI t28)],[(0,bR 81 2 (eA2 eI) w0),(1,bR 3 1 eI w1)],2,128⟩=(qE (zx w1 t0 t5 t19 t20 t27) (w0,t28)).bind (fun(e:List (QH Int))=>some (Exit.exit 2,⟨[(0,rL 8 qc t0),(3,rO 0 2 e.length),(4,rO 1 1 w1.length),(19,rI t19),(20,rI t20)],[(0,bR 81 2 (eA2 eI) e),(1,bR 3 1 eI w1)],2,128⟩)):=
 by
 intro w0 w1 t0 t5 t19 t20 t27 t28 w0_len w1_len h0 h1
 subst h0 h1
 revert t28;revert w0;exact q97 qjp qkk (fun e=>by exact⟨_,rfl,fun h=>by cases h⟩) fun w0 t28=>by
  have:=qgp;have:=@qbx.eq_1;have:=@JY;have:=@zx.eq_1;exact gA
def zg (t0:List qa) (t19:Int):(List (QH Int)×List Int×Int)→Option ((List (QH Int)×List Int×Int)⊕(List (QH Int)×List Int))|(w0,w1,t20)=>if t20<t19 then if 0≤t20∧t20<((w1.length:Nat):Int) then if Int.toNat t20+1≤w1.length then Option.bind (qE (zx (List.set w1 (Int.toNat t20) t20) t0 t20 t19 t20 t20) (w0,0)) fun(a:List (@QH Int))=>some (Sum.inl (a,List.set w1 (Int.toNat t20) t20,w64 (t20+1))) else none else none else some (Sum.inr (w0,w1))
theorem q0K:∀(w0:List (QH Int)) (w1:List Int) (t0:List qa) (t19 t20:Int) (w0_len w1_len:Nat),w0_len=w0.length→w1_len=w1.length→XL2 evo 19 0 4 ⟨[(0,rL 8 qc t0),(3,rO 0 2 w0_len),(4,rO 1 1 w1_len),(19,rI t19),(20,rI t20)],[(0,bR 81 2 (eA2 eI) w0),(1,bR 3 1 eI w1)],2,128⟩=(qE (zg t0 t19) (w0,w1,t20)).bind (fun(e:List (QH Int)×List Int)=>some (Exit.exit 0,⟨[(0,rL 8 qc t0),(3,rO 0 2 e.1.length),(4,rO 1 1 e.2.length)],[(0,bR 81 2 (eA2 eI) e.1),(1,bR 3 1 eI e.2)],2,128⟩)):=
 by
 intro w0 w1 t0 t19 t20 w0_len w1_len h0 h1
 subst h0 h1
 revert t20;revert w1;revert w0;exact qoO qkZ qne (fun e=>by exact⟨_,rfl,fun h=>by cases h⟩) fun w0 w1 t20=>by
  have:=qgp;have:=@qbU.eq_1;have:=@q0H;have:=@zg.eq_1;exact gA
theorem Jw:∀  (w1:List Int) (t0:List qa) (t19 t20:Int) (w1_len:Nat),w1_len=w1.length→XL2 evo 19 0 4 ⟨[(0,rL 8 qc t0),(3,rO 0 2 0),(4,rO 1 1 w1_len),(19,rI t19),(20,rI t20)],[(0,B.row 81 2 []),(1,bR 3 1 eI w1)],2,128⟩=(qE (zg t0 t19) ([],w1,t20)).bind (fun(e:List (QH Int)×List Int)=>some (Exit.exit 0,⟨[(0,rL 8 qc t0),(3,rO 0 2 e.1.length),(4,rO 1 1 e.2.length)],[(0,bR 81 2 (eA2 eI) e.1),(1,bR 3 1 eI e.2)],2,128⟩)):=by
 intro w1 t0 t19 t20 w1_len h0;subst h0;have h:=q0K [] w1 t0 t19 t20 _ _ rfl rfl
 first
  | exact h
  | (simp only[rL,dL,bR,bZ,Nat.reduceAdd] at h;exact h)
def zr (w0:List (QH Int)) (t0:List qa) (t50:Int) (t51:Int) (t54:Int):(List Int×Int)→Option ((List Int×Int)⊕(List Int))|(w1,t55)=>if t55<t54 then if 0≤t55∧t55<((w0.length:Nat):Int) then Option.bind w0[Int.toNat t55]? fun(a:@QH Int)=>if 0≤a.a0∧a.a0<((w1.length:Nat):Int) then Option.bind w1[Int.toNat a.a0]? fun(a2:Int)=>if 0≤a.a1∧a.a1<((w1.length:Nat):Int) then Option.bind w1[Int.toNat a.a1]? fun(a3:Int)=>if 0≤a.a0∧a.a0<((w1.length:Nat):Int) then if Int.toNat a.a0+1≤w1.length then if 0≤a.a1∧a.a1<((w1.length:Nat):Int) then if Int.toNat a.a1+1≤w1.length then some (Sum.inl (List.set (List.set w1 (Int.toNat a.a0) (min a2 a3)) (Int.toNat a.a1) (min a2 a3),w64 (t55+1))) else none else none else none else none else none else none else none else some (Sum.inr w1)
theorem q02:∀(w0:List (QH Int)) (w1:List Int) (t0:List qa) (t50 t51 t54 t55:Int) (w0_len w1_len:Nat),w0_len=w0.length→w1_len=w1.length→XL2 evo 19 0 17 ⟨[(0,rL 8 qc t0),(3,rO 0 2 w0_len),(4,rO 1 1 w1_len),(50,rI t50),(51,rI t51),(53,rO 0 2 w0_len),(54,rI t54),(55,rI t55)],[(0,bR 81 2 (eA2 eI) w0),(1,bR 3 1 eI w1)],2,128⟩=(qE (zr w0 t0 t50 t51 t54) (w1,t55)).bind (fun(e:List Int)=>some (Exit.exit 6,⟨[(0,rL 8 qc t0),(3,rO 0 2 w0.length),(4,rO 1 1 e.length),(50,rI t50),(51,rI t51)],[(0,bR 81 2 (eA2 eI) w0),(1,bR 3 1 eI e)],2,128⟩)):=
 by
 intro w0 w1 t0 t50 t51 t54 t55 w0_len w1_len h0 h1
 subst h0 h1
 revert t55;revert w1;exact q97 qic qgV (fun e=>by exact⟨_,rfl,fun h=>by cases h⟩) fun w1 t55=>by
  have:=qgp;have:=@q74.eq_1;have:=@zr.eq_1;exact gA
def zt (w0:List (QH Int)) (t0:List qa) (t50:Int):(List Int×Int)→Option ((List Int×Int)⊕(List Int))|(w1,t51)=>if t51<t50 then Option.bind (qE (zr w0 t0 t50 t51 ((w0.length:Nat):Int)) (w1,0)) fun(a:List Int)=>some (Sum.inl (a,w64 (t51+1))) else some (Sum.inr w1)
theorem q08:∀(w0:List (QH Int)) (w1:List Int) (t0:List qa) (t50 t51:Int) (w0_len w1_len:Nat),w0_len=w0.length→w1_len=w1.length→XL2 evo 19 0 15 ⟨[(0,rL 8 qc t0),(3,rO 0 2 w0_len),(4,rO 1 1 w1_len),(50,rI t50),(51,rI t51)],[(0,bR 81 2 (eA2 eI) w0),(1,bR 3 1 eI w1)],2,128⟩=(qE (zt w0 t0 t50) (w1,t51)).bind (fun(e:List Int)=>some (Exit.exit 4,⟨[(0,rL 8 qc t0),(4,rO 0 1 e.length)],[(0,bR 3 1 eI e)],1,128⟩)):=
 by
 intro w0 w1 t0 t50 t51 w0_len w1_len h0 h1
 subst h0 h1
 revert t51;revert w1;exact q97 qgJ qiB (fun e=>by exact⟨_,rfl,fun h=>by cases h⟩) fun w1 t51=>by
  have:=qgp;have:=@q75.eq_1;have:=@q02;have:=@zt.eq_1;exact gA
def qY (w0:List Int) (t83:Int):(List (List Int)×Int)→Option ((List (List Int)×Int)⊕(List (List Int)))|(w1,t84)=>if t84<t83 then if 0≤t84∧t84<((w0.length:Nat):Int) then Option.bind w0[Int.toNat t84]? fun(a:Int)=>if(a==t84)=Bool.true then if w1.length+1≤maxLen∧(w1.length+1)*24≤140737488355328 then some (Sum.inl (w1++[[]],w64 (t84+1))) else none else some (Sum.inl (w1,w64 (t84+1))) else none else some (Sum.inr w1)
theorem q0a:∀(w0:List Int) (w1:List (List Int)) (t83 t84:Int) (w0_len w1_len:Nat),w0_len=w0.length→w1_len=w1.length→XL2 evo 19 0 25 ⟨[(4,rO 0 1 w0_len),(10,rO 1 1 w1_len),(83,rI t83),(84,rI t84)],[(0,bR 3 1 eI w0),(1,B.row 25 1 (w1.flatMap (oL 3 1 eI)))],2,128⟩=(qE (qY w0 t83) (w1,t84)).bind (fun(e:List (List Int))=>some (Exit.exit 8,⟨[(4,rO 0 1 w0.length),(10,rO 1 1 e.length)],[(0,bR 3 1 eI w0),(1,B.row 25 1 (e.flatMap (oL 3 1 eI)))],2,128⟩)):=
 by
 intro w0 w1 t83 t84 w0_len w1_len h0 h1
 subst h0 h1
 revert t84;revert w1;exact q97 qja qih (fun e=>by exact⟨_,rfl,fun h=>by cases h⟩) fun w1 t84=>by
  have:=qgp;have:=@q7a.eq_1;have:=@qY.eq_1;exact gA
theorem J7:∀  (w0:List Int) (t83 t84:Int) (w0_len:Nat),w0_len=w0.length→XL2 evo 19 0 25 ⟨[(4,rO 0 1 w0_len),(10,rO 1 1 0),(83,rI t83),(84,rI t84)],[(0,bR 3 1 eI w0),(1,B.row 25 1 [])],2,128⟩=(qE (qY w0 t83) ([],t84)).bind (fun(e:List (List Int))=>some (Exit.exit 8,⟨[(4,rO 0 1 w0.length),(10,rO 1 1 e.length)],[(0,bR 3 1 eI w0),(1,B.row 25 1 (e.flatMap (oL 3 1 eI)))],2,128⟩)):=by
 intro w0 t83 t84 w0_len h0;subst h0;have h:=q0a w0 [] t83 t84 _ _ rfl rfl
 first
  | exact h
  | (simp only[rL,dL,bR,bZ,Nat.reduceAdd] at h;exact h)
def zq (w2:List Int) (t99:Int):(List (List Int)×(List (Int×Int))×Int)→Option ((List (List Int)×(List (Int×Int))×Int)⊕(List (List Int)))|(w0,m1,t100)=>if t100<t99 then if 0≤t100∧t100<((w2.length:Nat):Int) then Option.bind w2[Int.toNat t100]? fun(a:Int)=>if(a==t100)=Bool.true then Option.bind w0[Int.toNat (QR 0 (q2h m1 t100 ((m1.length:Nat):Int)) a)]? fun(a2:List Int)=>if 0≤QR 0 (q2h m1 t100 ((m1.length:Nat):Int)) a∧QR 0 (q2h m1 t100 ((m1.length:Nat):Int)) a<((w0.length:Nat):Int) then Option.bind w0[Int.toNat (QR 0 (q2h m1 t100 ((m1.length:Nat):Int)) a)]? fun(a3:List Int)=>if a2.length+1≤maxLen∧(a2.length+1)*8≤140737488355328 then if 0≤QR 0 (q2h m1 t100 ((m1.length:Nat):Int)) a∧QR 0 (q2h m1 t100 ((m1.length:Nat):Int)) a<((w0.length:Nat):Int) then if Int.toNat (QR 0 (q2h m1 t100 ((m1.length:Nat):Int)) a)<w0.length then some (Sum.inl (List.set w0 (Int.toNat (QR 0 (q2h m1 t100 ((m1.length:Nat):Int)) a)) (a2++[t100]),q2h m1 t100 ((m1.length:Nat):Int),w64 (t100+1))) else none else none else none else none else Option.bind w0[Int.toNat (QR 0 m1 a)]? fun(a4:List Int)=>if 0≤QR 0 m1 a∧QR 0 m1 a<((w0.length:Nat):Int) then Option.bind w0[Int.toNat (QR 0 m1 a)]? fun(a5:List Int)=>if a4.length+1≤maxLen∧(a4.length+1)*8≤140737488355328 then if 0≤QR 0 m1 a∧QR 0 m1 a<((w0.length:Nat):Int) then if Int.toNat (QR 0 m1 a)<w0.length then some (Sum.inl (List.set w0 (Int.toNat (QR 0 m1 a)) (a4++[t100]),m1,w64 (t100+1))) else none else none else none else none else none else some (Sum.inr w0)
theorem q0b:∀(w0:List (List Int)) (w2:List Int) (m1:List (Int×Int)) (t99 t100:Int) (w0_len w2_len:Nat),w0_len=w0.length→w2_len=w2.length→XL2 evo 19 0 32 ⟨[(10,rO 0 1 w0_len),(12,R.c (C.hd .map 1)),(98,rO 2 1 w2_len),(99,rI t99),(100,rI t100)],[(0,B.row 25 1 (w0.flatMap (oL 3 1 eI))),(1,B.ob (mpB (J2 .i64) zW m1)),(2,bR 3 1 eI w2)],3,128⟩=(qE (zq w2 t99) (w0,m1,t100)).bind (fun(e:List (List Int))=>some (Exit.exit 10,⟨[(10,rO 0 1 e.length)],[(0,B.row 25 1 (e.flatMap (oL 3 1 eI)))],1,128⟩)):=
 by
 intro w0 w2 m1 t99 t100 w0_len w2_len h0 h1
 subst h0 h1
 revert t100;revert m1;revert w0;exact qoO qgy qhI (fun e=>by exact⟨_,rfl,fun h=>by cases h⟩) fun w0 m1 t100=>by
  have:=qgp;have:=@q6U.eq_1;have:=@zq.eq_1;exact gA
def zl (x0:List qa):Option (List (List Int)):=if 0≤((x0.length:Nat):Int)∧8*((x0.length:Nat):Int)≤281474976710656∧((x0.length:Nat):Int)≤9223372036854775807 then Option.bind (qE (zg x0 ((x0.length:Nat):Int)) ([],(List.replicate x0.length 0,0))) fun(a:Prod (List (@QH Int)) (List Int))=>Option.bind (qE (zt a.1 x0 ((x0.length:Nat):Int)) (a.2,0)) fun(a2:List Int)=>Option.bind (qE (qY a2 ((x0.length:Nat):Int)) ([],0)) fun(a3:List (List Int))=>Option.bind (qE (zq a2 ((a2.length:Nat):Int)) (a3,([],0))) fun(a4:List (List Int))=>some a4 else none
theorem Jc:∀(x0:List qa),ev 19 0 [rL 8 qc x0] []=(zl x0).bind (fun(e:List (List Int))=>some (rL 1 (eL 1 eI) e,[])):=
 fun x0=>by
  rw[qL qeT qra.2.2.2 qhR]
  have:=qgp;have:=@Jw;have:=@q08;have:=@J7;have:=@q0b;have:=@zl.eq_1;exact gA
theorem q0D:∀(x00_Course_School:Int) (x00_Course_Code:ByteArray) (x00_Credits x00_Grade x00_Day x00_Sources0 x00_Bundle x01_Course_School:Int) (x01_Course_Code:ByteArray) (x01_Credits x01_Grade x01_Day x01_Sources0 x01_Bundle x02_Course_School:Int) (x02_Course_Code:ByteArray) (x02_Credits x02_Grade x02_Day x02_Sources0 x02_Bundle x03_Course_School:Int) (x03_Course_Code:ByteArray) (x03_Credits x03_Grade x03_Day x03_Sources0 x03_Bundle:Int) , ev 19 0 [R.c (C.d (D.sl 8 4 [D.int .i64 x00_Course_School,D.str x00_Course_Code,D.int .i64 x00_Credits,D.int .i64 x00_Grade,D.int .i64 x00_Day,D.sl 1 1 [D.int .i64 x00_Sources0],D.int .i64 x00_Bundle,D.sl 1 0 [],D.int .i64 x01_Course_School,D.str x01_Course_Code,D.int .i64 x01_Credits,D.int .i64 x01_Grade,D.int .i64 x01_Day,D.sl 1 1 [D.int .i64 x01_Sources0],D.int .i64 x01_Bundle,D.sl 1 0 [],D.int .i64 x02_Course_School,D.str x02_Course_Code,D.int .i64 x02_Credits,D.int .i64 x02_Grade,D.int .i64 x02_Day,D.sl 1 1 [D.int .i64 x02_Sources0],D.int .i64 x02_Bundle,D.sl 1 0 [],D.int .i64 x03_Course_School,D.str x03_Course_Code,D.int .i64 x03_Credits,D.int .i64 x03_Grade,D.int .i64 x03_Day,D.sl 1 1 [D.int .i64 x03_Sources0],D.int .i64 x03_Bundle,D.sl 1 0 []]))] []=(zl [(qa.mk (qb.mk x00_Course_School x00_Course_Code) x00_Credits x00_Grade x00_Day [x00_Sources0] x00_Bundle ([]:List Int)),(qa.mk (qb.mk x01_Course_School x01_Course_Code) x01_Credits x01_Grade x01_Day [x01_Sources0] x01_Bundle ([]:List Int)),(qa.mk (qb.mk x02_Course_School x02_Course_Code) x02_Credits x02_Grade x02_Day [x02_Sources0] x02_Bundle ([]:List Int)),(qa.mk (qb.mk x03_Course_School x03_Course_Code) x03_Credits x03_Grade x03_Day [x03_Sources0] x03_Bundle ([]:List Int))]).bind (fun(e:List (List Int))=>some (rL 1 (eL 1 eI) e,[])):=by
 intro x00_Course_School x00_Course_Code x00_Credits x00_Grade x00_Day x00_Sources0 x00_Bundle x01_Course_School x01_Course_Code x01_Credits x01_Grade x01_Day x01_Sources0 x01_Bundle x02_Course_School x02_Course_Code x02_Credits x02_Grade x02_Day x02_Sources0 x02_Bundle x03_Course_School x03_Course_Code x03_Credits x03_Grade x03_Day x03_Sources0 x03_Bundle;have h:=Jc [(qa.mk (qb.mk x00_Course_School x00_Course_Code) x00_Credits x00_Grade x00_Day [x00_Sources0] x00_Bundle ([]:List Int)),(qa.mk (qb.mk x01_Course_School x01_Course_Code) x01_Credits x01_Grade x01_Day [x01_Sources0] x01_Bundle ([]:List Int)),(qa.mk (qb.mk x02_Course_School x02_Course_Code) x02_Credits x02_Grade x02_Day [x02_Sources0] x02_Bundle ([]:List Int)),(qa.mk (qb.mk x03_Course_School x03_Course_Code) x03_Credits x03_Grade x03_Day [x03_Sources0] x03_Bundle ([]:List Int))]
 first
  | exact h
  | (simp only[rL,dL,bR,bZ,Nat.reduceAdd] at h;exact h)
theorem qqK:okL 40 q8z:=qM (qi qnC) (by kernel_rfl) (by kernel_rfl)
def qrf:=JA_ @q8z.eq_1 (JA_ @Try.f40.eq_1 @qnC)
theorem qk2:lbO 40 4=qaB:=Q1 (qi qnC) rfl
theorem qmG:okL 40 qaB:=zn qqK (qud (i:=0) (by kernel_rfl))
def zc (a:List Int) (b:List Int):Int→Option (Int⊕(Unit⊕Unit))|k=>if k<((a.length:Nat):Int) then if 0≤k∧k<((a.length:Nat):Int) then Option.bind a[Int.toNat k]? fun(a2:Int)=>if 0≤k∧k<((b.length:Nat):Int) then Option.bind b[Int.toNat k]? fun(a3:Int)=>if(a2 != a3)=Bool.true then some (Sum.inr (Sum.inl ())) else some (Sum.inl (w64 (k+1))) else none else none else some (Sum.inr (Sum.inr ()))
theorem JL:∀(a b:List Int) (k:Int),XL2 evo 40 0 4 ⟨[(0,rL 1 eI a),(1,rL 1 eI b),(5,rI k)],[],0,26⟩=(qE (zc a b) k).bind (Sum.elim (fun(e:Unit)=>some (Exit.ret,⟨[(4,rB Bool.false)],[],0,26⟩)) (fun(e:Unit)=>some (Exit.exit 0,⟨[(4,R.any)],[],0,26⟩))):=
 fun a b k=>by
  revert k;exact qby qk2 qmG (fun e=>by rcases e with _|_<;>exact⟨_,rfl,fun h=>by cases h⟩) fun x=>by
   have:=qrf;have:=@qaB.eq_1;have:=@zc.eq_1;exact gA
def Qk (a:List Int) (b:List Int):Option Bool:=if(((a.length:Nat):Int) != ((b.length:Nat):Int))=Bool.true then some Bool.false else Option.bind (qE (zc a b) 0) fun(a2:Sum Unit Unit)=>Sum.elim (fun(a3:Unit)=>some Bool.false) (fun(a4:Unit)=>some Bool.true) a2
theorem q14:∀(a b:List Int),ev 40 0 [rL 1 eI a,rL 1 eI b] []=(Qk a b).bind (fun(e:Bool)=>some (rB e,[])):=
 fun a b=>by
  rw[qL qnC qqG.2.2.2 qqK]
  have:=qrf;have:=@JL;have:=@Qk.eq_1;exact gA
theorem qrH:okL 16 q5F:=qM (qi qla) (by kernel_rfl) (by kernel_rfl)
def qrq:=JA_ @q5F.eq_1 (JA_ @Try.f16.eq_1 @qla)
theorem qg8:raO 16 6=q4q:=ql3 (qi qla) rfl
theorem qaV:rbO 16 6=q3S:=qlz (qi qla) rfl
theorem qgi:okL 16 q4q∧okL 16 q3S:=qn0 (key:=0) (q:=(q4q,q3S)) qrH (qud (i:=0) (by kernel_rfl))
theorem qfZ:qx (rbO 16 6)=6:=by rw[qaV];exact qlA
theorem qnb:∀k s,XE2 evo 16 k (raO 16 6) s=XE2 evo 16 k q4q s:=fun _ _=>by rw[qg8]
theorem qlH:∀k s,XE2 evo 16 k (rbO 16 6) s=XE2 evo 16 k q3S s:=fun _ _=>by rw[qaV]
theorem qsx:okL 42 q9R:=qM (qi qoq) (by kernel_rfl) (by kernel_rfl)
def qt2:=JA_ @q9R.eq_1 (JA_ @Try.f42.eq_1 @qoq)
def ZH (l:List qa):Option Unit:=
 some ()
def q0L (l:List qa):Unit:=
 ()
theorem q2x (l:List qa):ZH l=some (q0L l):=by
 unfold ZH q0L
 simp only[q0v]
theorem q3r:∀(l:List qa),ev 42 0 [rL 8 qc l] []=some (R.c (C.fn 66 [] [dP 0]),[(0,B.blk 32 [dL 8 qc l])]):=
 fun l=>by
  have h:ev 42 0 [rL 8 qc l] []=(ZH l).bind (fun(e:Unit)=>some (R.c (C.fn 66 [] [dP 0]),[(0,B.blk 32 [dL 8 qc l])])):=by
   rw[qL qoq qrv.2.2.2 qsx]
   have:=qt2;have:=@ZH.eq_1;exact gA
  rw[q2x] at h
  exact h
theorem qsn:okL 66 qa9:=qM (qi qp4) (by kernel_rfl) (by kernel_rfl)
def qsB:=JA_ @qa9.eq_1 (JA_ @Try.f66.eq_1 @qp4)
theorem qqI:okL 67 q8t:=qM (qi qnG) (by kernel_rfl) (by kernel_rfl)
def qqP:=JA_ @q8t.eq_1 (JA_ @Try.f67.eq_1 @qnG)
theorem qmn:lbO 67 4=qcP:=Q1 (qi qnG) rfl
theorem ql1:okL 67 qcP:=zn qqI (qud (i:=0) (by kernel_rfl))
theorem qrn:okL 22 q8u:=qM (qi qnX) (by kernel_rfl) (by kernel_rfl)
def qr0:=JA_ @q8u.eq_1 (JA_ @Try.f22.eq_1 @qnX)
theorem qjw:lbO 22 3=qb4:=Q1 (qi qnX) rfl
theorem qlr:okL 22 qb4:=zn qrn (qud (i:=0) (by kernel_rfl))
def zQ (t6:List qa) (t7:Int):(Int×Int)→Option ((Int×Int)⊕Int)|(n,t8)=>if t8<t7 then if 0≤t8∧t8<((t6.length:Nat):Int) then Option.bind t6[Int.toNat t8]? fun(a:qa)=>some (Sum.inl (w64 (n+a.Credits),w64 (t8+1))) else none else some (Sum.inr n)
theorem q0G:∀(n:Int) (t6:List qa) (t7 t8:Int),XL2 evo 22 0 3 ⟨[(3,rI n),(6,rL 8 qc t6),(7,rI t7),(8,rI t8)],[],0,18⟩=(qE (zQ t6 t7) (n,t8)).bind (fun(e:Int)=>some (Exit.exit 0,⟨[(3,rI e)],[],0,18⟩)):=
 fun n t6 t7 t8=>by
  revert t8;revert n;exact q97 qjw qlr (fun e=>by exact⟨_,rfl,fun h=>by cases h⟩) fun n t8=>by
   have:=qr0;have:=@qb4.eq_1;have:=@zQ.eq_1;exact gA
def Q4 (l:List qa):Option Int:=Option.bind (qE (zQ l ((l.length:Nat):Int)) (0,0)) fun(a:Int)=>some a
theorem J8:∀(l:List qa),ev 22 0 [rL 8 qc l] []=(Q4 l).bind (fun(e:Int)=>some (rI e,[])):=
 fun l=>by
  rw[qL qnX qrA.2.2.2 qrn]
  have:=qr0;have:=@q0G;have:=@Q4.eq_1;exact gA
def Qu (t11:List qa) (best:Int):Option Int:=Option.bind (Q4 t11) fun(a:Int)=>some (max best a)
theorem q1D:∀(t11:List qa) (best:Int),evr 16 (raO 16 6) (rbO 16 6) 2 [R.any,R.any,R.any,R.any,rP 0,R.any,R.any,R.any,R.any,R.any,R.any,rL 8 qc t11,R.any,R.any,R.any,R.any,R.any] [(0,B.blk 3 [dI best]),(1,B.ob (AO.lp 16 (R.any::R.any::R.any::R.any::rP 0::q6j) [11] (raO 16 6) (rbO 16 6) LoopState.ready none))]=(Qu t11 best).bind (fun(e:Int)=>some (rB Bool.true,[(0,B.blk 3 [dI e]),(1,B.ob (AO.lp 16 (R.any::R.any::R.any::R.any::rP 0::q6j) [11] (raO 16 6) (rbO 16 6) LoopState.ready none))])):=
 fun t11 best=>by
  rw[qiQ qg8 qaV (by decide) qn4 qgi.1 qgi.2]
  have:=qrq;have:=@qnb;have:=@qlH;have:=@q4q.eq_1;have:=@q3S.eq_1;have:=@J8;have:=@Qu.eq_1;have:=@qfZ;exact gA
theorem qss:okL 68 qb1:=qM (qi qol) (by kernel_rfl) (by kernel_rfl)
def qse:=JA_ @qb1.eq_1 (JA_ @Try.f68.eq_1 @qol)
def qu (s:List qa):Option Unit:=
 some ()
def z6 (s:List qa):Unit:=
 ()
theorem zX (s:List qa):qu s=some (z6 s):=by
 unfold qu z6
 simp only[q0v]
theorem Q0:∀(s:List qa),ev 68 0 [rL 8 qc s] []=some (R.c (C.clp 8 s.length (s.flatMap qc)),[]):=
 fun s=>by
  have h:ev 68 0 [rL 8 qc s] []=(qu s).bind (fun(e:Unit)=>some (R.c (C.clp 8 s.length (s.flatMap qc)),[])):=by
   rw[qL qol qrE.2.2.2 qss]
   have:=qse;have:=@qu.eq_1;exact gA
  rw[zX] at h
  exact h
theorem qrP:okL 21 q7x:=qM (qi qnA) (by kernel_rfl) (by kernel_rfl)
def qqW:=JA_ @q7x.eq_1 (JA_ @Try.f21.eq_1 @qnA)
theorem qjD:lbO 21 2=qaE:=Q1 (qi qnA) rfl
theorem qjl:okL 21 qaE:=zn qrP (qud (i:=0) (by kernel_rfl))
theorem qtV:okL 47 qaQ:=qM (qi qpy) (by kernel_rfl) (by kernel_rfl)
def qsr:=JA_ @qaQ.eq_1 (JA_ @Try.f47.eq_1 @qpy)
theorem qrK:okL 70 q7C:=qM (qi qnJ) (by kernel_rfl) (by kernel_rfl)
def qrB:=JA_ @q7C.eq_1 (JA_ @Try.f70.eq_1 @qnJ)
theorem qks:lbO 70 2=qd9:=Q1 (qi qnJ) rfl
theorem qkp:okL 70 qd9:=zn qrK (qud (i:=0) (by kernel_rfl))
theorem qtB:okL 46 qaq:=qM (qi qpf) (by kernel_rfl) (by kernel_rfl)
def qsP:=JA_ @qaq.eq_1 (JA_ @Try.f46.eq_1 @qpf)
def Zm (b:qa) (v:qa):Option Bool:=Option.bind (QN v b) fun(a:Bool)=>some (!a)
theorem q2y:∀(b_Course_School:Int) (b_Course_Code:ByteArray) (b_Credits b_Grade b_Day:Int) (b_Sources:List Int) (b_Bundle:Int) (b_Path:List Int) (v_Course_School:Int) (v_Course_Code:ByteArray) (v_Credits v_Grade v_Day:Int) (v_Sources:List Int) (v_Bundle:Int) (v_Path:List Int),ev 46 1 [R.agg [dI b_Course_School,dS b_Course_Code,dI b_Credits,dI b_Grade,dI b_Day,dL 1 eI b_Sources,dI b_Bundle,dL 1 eI b_Path],rP 0] [(0,B.blk 52 [dI v_Course_School,dS v_Course_Code,dI v_Credits,dI v_Grade,dI v_Day,dL 1 eI v_Sources,dI v_Bundle,dL 1 eI v_Path])]=(Zm (qa.mk (qb.mk b_Course_School b_Course_Code) b_Credits b_Grade b_Day b_Sources b_Bundle b_Path) (qa.mk (qb.mk v_Course_School v_Course_Code) v_Credits v_Grade v_Day v_Sources v_Bundle v_Path)).bind (fun(e:Bool)=>some (rB e,[(0,B.blk 52 [dI v_Course_School,dS v_Course_Code,dI v_Credits,dI v_Grade,dI v_Day,dL 1 eI v_Sources,dI v_Bundle,dL 1 eI v_Path])])):=
 fun b_Course_School b_Course_Code b_Credits b_Grade b_Day b_Sources b_Bundle b_Path v_Course_School v_Course_Code v_Credits v_Grade v_Day v_Sources v_Bundle v_Path=>by
  rw[qL qpf qrx.2.2.2 qtB]
  have:=qsP;have:=@JY;have:=@Zm.eq_1;exact gA
def ql (b0:qa) (s:List qa) (t7:Int):Int→Option (Int⊕(Int⊕Unit))|t8=>if t8<t7 then if 0≤t8∧t8<((s.length:Nat):Int) then Option.bind s[Int.toNat t8]? fun(a:qa)=>Option.bind (Zm a b0) fun(a2:Bool)=>if a2=Bool.true then some (Sum.inr (Sum.inl t8)) else some (Sum.inl (w64 (t8+1))) else none else some (Sum.inr (Sum.inr ()))
theorem zF:∀(b0_Course_School:Int) (b0_Course_Code:ByteArray) (b0_Credits b0_Grade b0_Day:Int) (b0_Sources:List Int) (b0_Bundle:Int) (b0_Path:List Int) (s:List qa) (t7 t8:Int),XL2 evo 70 1 2 ⟨[(0,rL 8 qc s),(1,R.c (C.fn 46 [] [dP 0])),(7,rI t7),(8,rI t8)],[(0,B.blk 52 [dI b0_Course_School,dS b0_Course_Code,dI b0_Credits,dI b0_Grade,dI b0_Day,dL 1 eI b0_Sources,dI b0_Bundle,dL 1 eI b0_Path])],1,19⟩=(qE (ql (qa.mk (qb.mk b0_Course_School b0_Course_Code) b0_Credits b0_Grade b0_Day b0_Sources b0_Bundle b0_Path) s t7) t8).bind (Sum.elim (fun(e:Int)=>some (Exit.ret,⟨[(4,rI e)],[(0,B.blk 52 [dI b0_Course_School,dS b0_Course_Code,dI b0_Credits,dI b0_Grade,dI b0_Day,dL 1 eI b0_Sources,dI b0_Bundle,dL 1 eI b0_Path])],1,19⟩)) (fun(e:Unit)=>some (Exit.exit 0,⟨[(4,R.any)],[(0,B.blk 52 [dI b0_Course_School,dS b0_Course_Code,dI b0_Credits,dI b0_Grade,dI b0_Day,dL 1 eI b0_Sources,dI b0_Bundle,dL 1 eI b0_Path])],1,19⟩))):=
 fun b0_Course_School b0_Course_Code b0_Credits b0_Grade b0_Day b0_Sources b0_Bundle b0_Path s t7 t8=>by
  revert t8;exact qby qks qkp (fun e=>by rcases e with _|_<;>exact⟨_,rfl,fun h=>by cases h⟩) fun x=>by
   have:=qrB;have:=@qd9.eq_1;have:=@q2y;have:=@ql.eq_1;exact gA
def qs (s:List qa) (b0:qa):Option Int:=Option.bind (qE (ql b0 s ((s.length:Nat):Int)) 0) fun(a:Sum Int Unit)=>Sum.elim (fun(a2:Int)=>some a2) (fun(a3:Unit)=>some (-1)) a
theorem zN:∀(s:List qa) (b0_Course_School:Int) (b0_Course_Code:ByteArray) (b0_Credits b0_Grade b0_Day:Int) (b0_Sources:List Int) (b0_Bundle:Int) (b0_Path:List Int),ev 70 1 [rL 8 qc s,R.c (C.fn 46 [] [dP 0])] [(0,B.blk 52 [dI b0_Course_School,dS b0_Course_Code,dI b0_Credits,dI b0_Grade,dI b0_Day,dL 1 eI b0_Sources,dI b0_Bundle,dL 1 eI b0_Path])]=(qs s (qa.mk (qb.mk b0_Course_School b0_Course_Code) b0_Credits b0_Grade b0_Day b0_Sources b0_Bundle b0_Path)).bind (fun(e:Int)=>some (rI e,[(0,B.blk 52 [dI b0_Course_School,dS b0_Course_Code,dI b0_Credits,dI b0_Grade,dI b0_Day,dL 1 eI b0_Sources,dI b0_Bundle,dL 1 eI b0_Path])])):=
 fun s b0_Course_School b0_Course_Code b0_Credits b0_Grade b0_Day b0_Sources b0_Bundle b0_Path=>by
  rw[qL qnJ qrd.2.2.2 qrK]
  have:=qrB;have:=@zF;have:=@qs.eq_1;exact gA
def qn (s:List qa) (b0:qa):Option Bool:=Option.bind (qs s b0) fun(a:Int)=>some (decide (0≤a))
theorem zE:∀(s:List qa) (b0_Course_School:Int) (b0_Course_Code:ByteArray) (b0_Credits b0_Grade b0_Day:Int) (b0_Sources:List Int) (b0_Bundle:Int) (b0_Path:List Int),ev 47 1 [rL 8 qc s,R.c (C.fn 46 [] [dP 0])] [(0,B.blk 52 [dI b0_Course_School,dS b0_Course_Code,dI b0_Credits,dI b0_Grade,dI b0_Day,dL 1 eI b0_Sources,dI b0_Bundle,dL 1 eI b0_Path])]=(qn s (qa.mk (qb.mk b0_Course_School b0_Course_Code) b0_Credits b0_Grade b0_Day b0_Sources b0_Bundle b0_Path)).bind (fun(e:Bool)=>some (rB e,[(0,B.blk 52 [dI b0_Course_School,dS b0_Course_Code,dI b0_Credits,dI b0_Grade,dI b0_Day,dL 1 eI b0_Sources,dI b0_Bundle,dL 1 eI b0_Path])])):=
 fun s b0_Course_School b0_Course_Code b0_Credits b0_Grade b0_Day b0_Sources b0_Bundle b0_Path=>by
  rw[qL qpy qrw.2.2.2 qtV]
  have:=qsr;have:=@zN;have:=@qn.eq_1;exact gA
def Q7 (l:List qa) (t6:List qa) (t7:Int):Int→Option (Int⊕(Unit⊕Unit))|t8=>if t8<t7 then if 0≤t8∧t8<((t6.length:Nat):Int) then Option.bind t6[Int.toNat t8]? fun(a:qa)=>if 0≤w64 (t8+1)∧w64 (t8+1)≤((l.length:Nat):Int) then Option.bind (qn (List.take (l.length-Int.toNat (w64 (t8+1))) (List.drop (Int.toNat (w64 (t8+1))) l)) a) fun(a2:Bool)=>if a2=Bool.true then some (Sum.inr (Sum.inl ())) else some (Sum.inl (w64 (t8+1))) else none else none else some (Sum.inr (Sum.inr ()))
theorem q21:∀(l t6:List qa) (t7 t8:Int),XL2 evo 21 0 2 ⟨[(0,rL 8 qc l),(6,rL 8 qc t6),(7,rI t7),(8,rI t8)],[],0,21⟩=(qE (Q7 l t6 t7) t8).bind (Sum.elim (fun(e:Unit)=>some (Exit.ret,⟨[(2,rB Bool.false)],[],0,21⟩)) (fun(e:Unit)=>some (Exit.exit 0,⟨[(2,R.any)],[],0,21⟩))):=
 fun l t6 t7 t8=>by
  revert t8;exact qby qjD qjl (fun e=>by rcases e with _|_<;>exact⟨_,rfl,fun h=>by cases h⟩) fun x=>by
   have:=qqW;have:=@qaE.eq_1;have:=@zE;have:=@Q7.eq_1;exact gA
def QM (l:List qa):Option Bool:=Option.bind (qE (Q7 l l ((l.length:Nat):Int)) 0) fun(a:Sum Unit Unit)=>Sum.elim (fun(a2:Unit)=>some Bool.false) (fun(a3:Unit)=>some Bool.true) a
theorem q0O:∀(l:List qa),ev 21 0 [rL 8 qc l] []=(QM l).bind (fun(e:Bool)=>some (rB e,[])):=
 fun l=>by
  rw[qL qnA qrY.2.2.2 qrP]
  have:=qqW;have:=@q21;have:=@QM.eq_1;exact gA
theorem q1J:∀(l2:List qa) (l2_len:Nat),l2_len=l2.length→ev 21 0 [R.c (C.d (D.sl 8 l2_len (l2.flatMap qc)))] []=(QM l2).bind (fun(e:Bool)=>some (rB e,[])):=by
 intro l2 l2_len h0;subst h0;have h:=q0O l2
 first
  | exact h
  | (simp only[rL,dL,bR,bZ,Nat.reduceAdd] at h;exact h)
def qX (x:(List qa×Int×Int×List qa)):List R×List (Nat×B):=([R.c (C.d (D.sl 8 x.1.length (x.1.flatMap qc))),R.c (C.d (D.int .i64 x.2.1)),R.c (C.ptr 0 0),R.c (C.ptr 3 0),R.c (C.ptr 4 0)],[(0,B.blk 60 [C.hd .yield 1]),(1,B.ob (AO.lp 16 [R.any,R.any,R.any,R.any,R.c (C.ptr 2 0),R.any,R.any,R.any,R.any,R.any,R.any,R.any,R.any,R.any,R.any,R.any,R.any] [11] (raO 16 6) (rbO 16 6) LoopState.ready none)),(2,B.blk 3 [C.d (D.int .i64 x.2.2.1)]),(3,B.blk 32 [C.d (D.sl 8 x.2.2.2.length (x.2.2.2.flatMap qc))]),(4,B.blk 105 [C.fn 67 [] [C.ptr 0 0,C.ptr 3 0,C.ptr 4 0]])])
def zf:(Bool×Int×List qa)→R×List (Nat×B):=fun(e:Bool×Int×List qa)=>(R.c (C.d (D.bool e.1)),[(0,B.blk 60 [C.hd .yield 1]),(1,B.ob (AO.lp 16 [R.any,R.any,R.any,R.any,R.c (C.ptr 2 0),R.any,R.any,R.any,R.any,R.any,R.any,R.any,R.any,R.any,R.any,R.any,R.any] [11] (raO 16 6) (rbO 16 6) LoopState.ready none)),(2,B.blk 3 [C.d (D.int .i64 e.2.1)]),(3,B.blk 32 [C.d (D.sl 8 e.2.2.length (e.2.2.flatMap qc))]),(4,B.blk 105 [C.fn 67 [] [C.ptr 0 0,C.ptr 3 0,C.ptr 4 0]])])
def zd (rF:(List qa×Int×Int×List qa)→Option (Bool×Int×List qa)) (set0:List qa):(Int×List qa×Int)→Option ((Int×List qa×Int)⊕((Int×List qa)⊕(Int×List qa)))|(b2,b3,k)=>if k<((b3.length:Nat):Int) then if 0≤k∧k<((b3.length:Nat):Int) then Option.bind b3[Int.toNat k]? fun(a2:qa)=>if set0.length+1≤maxLen∧(set0.length+1)*104≤140737488355328 then Option.bind (QM (set0++[a2])) fun(a3:Bool)=>if a3=Bool.true then Option.bind (rF (set0++[a2],(w64 (k+1),(b2,b3)))) fun(a4:Prod Bool (Prod Int (List qa)))=>if(!a4.1)=Bool.true then some (Sum.inr (Sum.inl (a4.2.1,a4.2.2))) else some (Sum.inl (a4.2.1,a4.2.2,w64 (k+1))) else some (Sum.inl (b2,b3,w64 (k+1))) else none else none else some (Sum.inr (Sum.inr (b2,b3)))
theorem JP (rE:Orc) (rF:(List qa×Int×Int×List qa)→Option (Bool×Int×List qa)) (hF:∀y,rE (.fn 67) 5 (qX y).1 (qX y).2=(rF y).bind fun e=>some (zf e)) (hM:∀g k a G,g≠67→rE (.fn g) k a G=ev g k a G) (hR:∀g asg bd k a G,rE (.rd g asg bd) k a G=evr g asg bd k a G):∀(b2:Int) (b3 set0:List qa) (k:Int),XL2 rE 67 5 4 ⟨[(0,rL 8 qc set0),(3,rP 3),(4,rP 4),(8,rI k)],[(0,B.blk 60 [C.hd .yield 1]),(1,B.ob (AO.lp 16 (R.any::R.any::R.any::R.any::rP 2::q6j) [11] (raO 16 6) (rbO 16 6) LoopState.ready none)),(2,B.blk 3 [dI b2]),(3,B.blk 32 [dL 8 qc b3]),(4,B.blk 105 [C.fn 67 [] [dP 0,dP 3,dP 4]])],5,39⟩=(qE (zd rF set0) (b2,b3,k)).bind (Sum.elim (fun(e:Int×List qa)=>some (Exit.ret,⟨[(7,rB Bool.false)],[(0,B.blk 60 [C.hd .yield 1]),(1,B.ob (AO.lp 16 (R.any::R.any::R.any::R.any::rP 2::q6j) [11] (raO 16 6) (rbO 16 6) LoopState.ready none)),(2,B.blk 3 [dI e.1]),(3,B.blk 32 [dL 8 qc e.2]),(4,B.blk 105 [C.fn 67 [] [dP 0,dP 3,dP 4]])],5,39⟩)) (fun(e:Int×List qa)=>some (Exit.exit 0,⟨[(7,R.any)],[(0,B.blk 60 [C.hd .yield 1]),(1,B.ob (AO.lp 16 (R.any::R.any::R.any::R.any::rP 2::q6j) [11] (raO 16 6) (rbO 16 6) LoopState.ready none)),(2,B.blk 3 [dI e.1]),(3,B.blk 32 [dL 8 qc e.2]),(4,B.blk 105 [C.fn 67 [] [dP 0,dP 3,dP 4]])],5,39⟩))):=
 fun b2 b3 set0 k=>by
  revert k;revert b3;revert b2;exact qoO qmn ql1 (fun e=>by rcases e with _|_<;>exact⟨_,rfl,fun h=>by cases h⟩) fun b2 b3 k=>by
   have hF':∀(set0:List qa) (from0 b2:Int) (v:List qa) (set0_len:Nat),set0_len=set0.length→rE (.fn 67) 5 [R.c (C.d (D.sl 8 set0_len (set0.flatMap qc))),rI from0,rP 0,rP 3,rP 4] [(0,B.blk 60 [C.hd .yield 1]),(1,B.ob (AO.lp 16 (R.any::R.any::R.any::R.any::rP 2::q6j) [11] (raO 16 6) (rbO 16 6) LoopState.ready none)),(2,B.blk 3 [dI b2]),(3,B.blk 32 [dL 8 qc v]),(4,B.blk 105 [C.fn 67 [] [dP 0,dP 3,dP 4]])]=(rF (set0,from0,b2,v)).bind (fun e=>some (rB e.1,[(0,B.blk 60 [C.hd .yield 1]),(1,B.ob (AO.lp 16 (R.any::R.any::R.any::R.any::rP 2::q6j) [11] (raO 16 6) (rbO 16 6) LoopState.ready none)),(2,B.blk 3 [dI e.2.1]),(3,B.blk 32 [dL 8 qc e.2.2]),(4,B.blk 105 [C.fn 67 [] [dP 0,dP 3,dP 4]])])):=by intro set0 from0 b2 v set0_len h0;subst h0;exact hF (set0,from0,b2,v)
   have:=qqP;have:=@qcP.eq_1;have:=@Q0;have:=@q1J;have:=@zd.eq_1;exact gA
def zA (rF:(List qa×Int×Int×List qa)→Option (Bool×Int×List qa)):(List qa×Int×Int×List qa)→Option (Bool×Int×List qa)|(set0,from0,b2,v)=>Option.bind (Qu set0 b2) fun(a2:Int)=>Option.bind (qE (zd rF set0) (a2,(v,from0))) fun(a3:Sum (Prod Int (List qa)) (Prod Int (List qa)))=>Sum.elim (fun(a4:Prod Int (List qa))=>some (Bool.false,a4.1,a4.2)) (fun(a5:Prod Int (List qa))=>some (Bool.true,a5.1,a5.2)) a3
theorem Zw:q5K 67 5 qX zf zA:=by
 intro rE rF hF hM hR x
 obtain⟨set0,from0,b2,v⟩:=x
 show q5Y rE 67 5 [rL 8 qc set0,rI from0,rP 0,rP 3,rP 4] [(0,B.blk 60 [C.hd .yield 1]),(1,B.ob (AO.lp 16 (R.any::R.any::R.any::R.any::rP 2::q6j) [11] (raO 16 6) (rbO 16 6) LoopState.ready none)),(2,B.blk 3 [dI b2]),(3,B.blk 32 [dL 8 qc v]),(4,B.blk 105 [C.fn 67 [] [dP 0,dP 3,dP 4]])]=_
 have hF':∀(set0:List qa) (from0 b2:Int) (v:List qa) (set0_len:Nat),set0_len=set0.length→rE (.fn 67) 5 [R.c (C.d (D.sl 8 set0_len (set0.flatMap qc))),rI from0,rP 0,rP 3,rP 4] [(0,B.blk 60 [C.hd .yield 1]),(1,B.ob (AO.lp 16 (R.any::R.any::R.any::R.any::rP 2::q6j) [11] (raO 16 6) (rbO 16 6) LoopState.ready none)),(2,B.blk 3 [dI b2]),(3,B.blk 32 [dL 8 qc v]),(4,B.blk 105 [C.fn 67 [] [dP 0,dP 3,dP 4]])]=(rF (set0,from0,b2,v)).bind (fun e=>some (rB e.1,[(0,B.blk 60 [C.hd .yield 1]),(1,B.ob (AO.lp 16 (R.any::R.any::R.any::R.any::rP 2::q6j) [11] (raO 16 6) (rbO 16 6) LoopState.ready none)),(2,B.blk 3 [dI e.2.1]),(3,B.blk 32 [dL 8 qc e.2.2]),(4,B.blk 105 [C.fn 67 [] [dP 0,dP 3,dP 4]])])):=by intro set0 from0 b2 v set0_len h0;subst h0;exact hF (set0,from0,b2,v)
 rw[q5b qnG qqI]
 have:=qqP;have:=@q1D;have:=JP rE rF hF hM hR;have:=@zA.eq_1;have:=@zf.eq_1;exact gA
theorem QT:∀x y,qX x=qX y→x=y:=by
 rintro⟨a0,a1,a2,a3⟩ ⟨b0,b1,b2,b3⟩ h
 simp only[qX,Prod.mk.injEq,List.cons.injEq,R.c.injEq,R.agg.injEq,R.tup.injEq,C.d.injEq,C.own.injEq,C.ptr.injEq,C.eptr.injEq,C.clp.injEq,D.int.injEq,D.bool.injEq,D.str.injEq,D.sl.injEq,B.blk.injEq,B.row.injEq,q2P,q1d,Ju,q24,q1O,q3R,q3g,q3F,q3I,q3h,q5M,q2A,true_and,and_true,qux] at h
 simp only[h]
theorem JS:∀x y,zf x=zf y→x=y:=by
 rintro⟨a0,a1,a2⟩ ⟨b0,b1,b2⟩ h
 simp only[zf,Prod.mk.injEq,List.cons.injEq,R.c.injEq,R.agg.injEq,R.tup.injEq,C.d.injEq,C.own.injEq,C.ptr.injEq,C.eptr.injEq,C.clp.injEq,D.int.injEq,D.bool.injEq,D.str.injEq,D.sl.injEq,B.blk.injEq,B.row.injEq,q2P,q1d,Ju,q24,q1O,q3R,q3g,q3F,q3I,q3h,q5M,q2A,true_and,and_true,qux] at h
 simp only[h]
def zK:(List qa×Int×Int×List qa)→Option (Bool×Int×List qa):=q3Z 67 5 qX zf
theorem ZD (x:(List qa×Int×Int×List qa)):zK x=zA zK x:=qfN qoB.2.2.2 QT JS Zw x
theorem q0E (set0:List qa) (from0 b2:Int) (v:List qa):ev 67 5 [rL 8 qc set0,rI from0,rP 0,rP 3,rP 4] [(0,B.blk 60 [C.hd .yield 1]),(1,B.ob (AO.lp 16 (R.any::R.any::R.any::R.any::rP 2::q6j) [11] (raO 16 6) (rbO 16 6) LoopState.ready none)),(2,B.blk 3 [dI b2]),(3,B.blk 32 [dL 8 qc v]),(4,B.blk 105 [C.fn 67 [] [dP 0,dP 3,dP 4]])]=(zK (set0,from0,b2,v)).bind (fun(e:Bool×Int×List qa)=>some (rB e.1,[(0,B.blk 60 [C.hd .yield 1]),(1,B.ob (AO.lp 16 (R.any::R.any::R.any::R.any::rP 2::q6j) [11] (raO 16 6) (rbO 16 6) LoopState.ready none)),(2,B.blk 3 [dI e.2.1]),(3,B.blk 32 [dL 8 qc e.2.2]),(4,B.blk 105 [C.fn 67 [] [dP 0,dP 3,dP 4]])])):=(q7A qoB.2.2.2 QT Zw (set0,from0,b2,v))
theorem JO:∀  (from0 b2:Int) (v:List qa),ev 67 5 [R.c (C.d (D.sl 8 0 [])),rI from0,rP 0,rP 3,rP 4] [(0,B.blk 60 [C.hd .yield 1]),(1,B.ob (AO.lp 16 (R.any::R.any::R.any::R.any::rP 2::q6j) [11] (raO 16 6) (rbO 16 6) LoopState.ready none)),(2,B.blk 3 [dI b2]),(3,B.blk 32 [dL 8 qc v]),(4,B.blk 105 [C.fn 67 [] [dP 0,dP 3,dP 4]])]=(zK ([],from0,b2,v)).bind (fun(e:Bool×Int×List qa)=>some (rB e.1,[(0,B.blk 60 [C.hd .yield 1]),(1,B.ob (AO.lp 16 (R.any::R.any::R.any::R.any::rP 2::q6j) [11] (raO 16 6) (rbO 16 6) LoopState.ready none)),(2,B.blk 3 [dI e.2.1]),(3,B.blk 32 [dL 8 qc e.2.2]),(4,B.blk 105 [C.fn 67 [] [dP 0,dP 3,dP 4]])])):=by
 intro from0 b2 v;have h:=q0E [] from0 b2 v
 first
  | exact h
  | (simp only[rL,dL,bR,bZ,Nat.reduceAdd] at h;exact h)
def Z9 (b1:Int) (v:List qa):Option (Int×List qa):=Option.bind (zK ([],(0,(b1,v)))) fun(a:Prod Bool (Prod Int (List qa)))=>some (a.2.1,a.2.2)
theorem q27:∀(b1:Int) (v:List qa),ev 66 3 [R.c (C.hd .yield 0),rP 2] [(0,B.ob (AO.lp 16 (R.any::R.any::R.any::R.any::rP 1::q6j) [11] (raO 16 6) (rbO 16 6) LoopState.ready none)),(1,B.blk 3 [dI b1]),(2,B.blk 32 [dL 8 qc v])]=(Z9 b1 v).bind (fun(e:Int×List qa)=>some (R.tup [],[(0,B.ob (AO.lp 16 (R.any::R.any::R.any::R.any::rP 1::q6j) [11] (raO 16 6) (rbO 16 6) LoopState.ready none)),(1,B.blk 3 [dI e.1]),(2,B.blk 32 [dL 8 qc e.2])])):=
 fun b1 v=>by
  rw[qL qp4 qqL.2.2.2 qsn]
  have:=qsB;have:=@JO;have:=@Z9.eq_1;exact gA
def zO (l:List qa):Option (Int×Int):=if 10<((l.length:Nat):Int) then some (0,2) else Option.bind (Z9 0 l) fun(a:Prod Int (List qa))=>some (a.1,0)
theorem Zz:∀(l:List qa),ev 16 0 [rL 8 qc l] []=(zO l).bind (fun(e:Int×Int)=>some (R.tup [rI e.1,rI e.2],[])):=
 fun l=>by
  rw[qL qla qrM.2.2.2 qrH]
  have:=qrq;have:=@q3r;have:=@q27;have:=@zO.eq_1;have:=@qfZ;exact gA
theorem q1e:∀(l0_Course_School:Int) (l0_Course_Code:ByteArray) (l0_Credits l0_Grade l0_Day l0_Sources0 l0_Bundle l1_Course_School:Int) (l1_Course_Code:ByteArray) (l1_Credits l1_Grade l1_Day l1_Sources0 l1_Bundle l2_Course_School:Int) (l2_Course_Code:ByteArray) (l2_Credits l2_Grade l2_Day l2_Sources0 l2_Bundle:Int) , ev 16 0 [R.c (C.d (D.sl 8 3 [D.int .i64 l0_Course_School,D.str l0_Course_Code,D.int .i64 l0_Credits,D.int .i64 l0_Grade,D.int .i64 l0_Day,D.sl 1 1 [D.int .i64 l0_Sources0],D.int .i64 l0_Bundle,D.sl 1 0 [],D.int .i64 l1_Course_School,D.str l1_Course_Code,D.int .i64 l1_Credits,D.int .i64 l1_Grade,D.int .i64 l1_Day,D.sl 1 1 [D.int .i64 l1_Sources0],D.int .i64 l1_Bundle,D.sl 1 0 [],D.int .i64 l2_Course_School,D.str l2_Course_Code,D.int .i64 l2_Credits,D.int .i64 l2_Grade,D.int .i64 l2_Day,D.sl 1 1 [D.int .i64 l2_Sources0],D.int .i64 l2_Bundle,D.sl 1 0 []]))] []=(zO [(qa.mk (qb.mk l0_Course_School l0_Course_Code) l0_Credits l0_Grade l0_Day [l0_Sources0] l0_Bundle ([]:List Int)),(qa.mk (qb.mk l1_Course_School l1_Course_Code) l1_Credits l1_Grade l1_Day [l1_Sources0] l1_Bundle ([]:List Int)),(qa.mk (qb.mk l2_Course_School l2_Course_Code) l2_Credits l2_Grade l2_Day [l2_Sources0] l2_Bundle ([]:List Int))]).bind (fun(e:Int×Int)=>some (R.tup [rI e.1,rI e.2],[])):=by
 intro l0_Course_School l0_Course_Code l0_Credits l0_Grade l0_Day l0_Sources0 l0_Bundle l1_Course_School l1_Course_Code l1_Credits l1_Grade l1_Day l1_Sources0 l1_Bundle l2_Course_School l2_Course_Code l2_Credits l2_Grade l2_Day l2_Sources0 l2_Bundle;have h:=Zz [(qa.mk (qb.mk l0_Course_School l0_Course_Code) l0_Credits l0_Grade l0_Day [l0_Sources0] l0_Bundle ([]:List Int)),(qa.mk (qb.mk l1_Course_School l1_Course_Code) l1_Credits l1_Grade l1_Day [l1_Sources0] l1_Bundle ([]:List Int)),(qa.mk (qb.mk l2_Course_School l2_Course_Code) l2_Credits l2_Grade l2_Day [l2_Sources0] l2_Bundle ([]:List Int))]
 first
  | exact h
  | (simp only[rL,dL,bR,bZ,Nat.reduceAdd] at h;exact h)
theorem qnU:okL 11 q63:=qM (qi qjh) (by kernel_rfl) (by kernel_rfl)
def qo2:=JA_ @q63.eq_1 (JA_ @Try.f11.eq_1 @qjh)
theorem qga:lbO 11 3=q7M:=Q1 (qi qjh) rfl
theorem qfS:okL 11 q7M:=zn qnU (qud (i:=0) (by kernel_rfl))
theorem qg6:lbO 11 9=q8r:=Q1 (qi qjh) rfl
theorem qfM:okL 11 q8r:=zn qnU (qud (i:=1) (by kernel_rfl))
theorem qs5:okL 25 qag:=qM (qi qqe) (by kernel_rfl) (by kernel_rfl)
def qsw:=JA_ @qag.eq_1 (JA_ @Try.f25.eq_1 @qqe)
theorem qt7:okL 50 qcx:=qM (qi qqf) (by kernel_rfl) (by kernel_rfl)
def qsi:=JA_ @qcx.eq_1 (JA_ @Try.f50.eq_1 @qqf)
theorem qti:okL 76 qan:=qM (qi qoY) (by kernel_rfl) (by kernel_rfl)
def qt5:=JA_ @qan.eq_1 (JA_ @Try.f76.eq_1 @qoY)
def Zk (n:Int) (by0:Int):Option Int:=if by0=0 then none else if by0=0 then none else if by0=0 then none else some (w64 (Int.tdiv (w64 (n-Int.tmod (w64 (Int.tmod n by0+by0)) by0)) by0))
theorem q2u:∀(n by0:Int),ev 76 0 [rI n,rI by0] []=(Zk n by0).bind (fun(e:Int)=>some (rI e,[])):=
 fun n by0=>by
  rw[qL qoY qre.2.2.2 qti]
  have:=qt5;have:=@Zk.eq_1;exact gA
def Jz (day:Int):Option Int:=if day<(-4611686018427387904) then Option.bind (Zk (w64 (day+100)) 100) fun(a:Int)=>some (w64 (a-1)) else Option.bind (Zk day 100) fun(e0:Int)=>some e0
theorem q3Y:∀(day:Int),ev 50 0 [rI day] []=(Jz day).bind (fun(e:Int)=>some (rI e,[])):=
 fun day=>by
  rw[qL qqf qrS.2.2.2 qt7]
  have:=qsi;have:=@q2u;have:=@Jz.eq_1;exact gA
def qD (p:qf) (a:qa) (day:Int):Option Bool:=if 0<p.Age then Option.bind (Jz day) fun(a2:Int)=>Option.bind (Jz a.Day) fun(a3:Int)=>some (decide (p.Age<w64 (a2-a3))) else some Bool.false
theorem q0l:∀(p_School p_Id p_Version p_From:Int) (p_Name:ByteArray) (p_Need_Kind p_Need_N p_Need_Min:Int) (p_Need_Set:List qb) (p_Need_L:List qg) (p_Total p_Own p_Age:Int) (p_Exclude:List (QH qb)) (a_Course_School:Int) (a_Course_Code:ByteArray) (a_Credits a_Grade a_Day:Int) (a_Sources:List Int) (a_Bundle:Int) (a_Path:List Int) (day:Int),ev 25 0 [R.agg [dI p_School,dI p_Id,dI p_Version,dI p_From,dS p_Name,dI p_Need_Kind,dI p_Need_N,dI p_Need_Min,dL 2 qj p_Need_Set,dL 5 qr p_Need_L,dI p_Total,dI p_Own,dI p_Age,dL 4 (eA2 qj) p_Exclude],R.agg [dI a_Course_School,dS a_Course_Code,dI a_Credits,dI a_Grade,dI a_Day,dL 1 eI a_Sources,dI a_Bundle,dL 1 eI a_Path],rI day] []=(qD (qf.mk p_School p_Id p_Version p_From p_Name (qg.mk p_Need_Kind p_Need_N p_Need_Min p_Need_Set p_Need_L) p_Total p_Own p_Age p_Exclude) (qa.mk (qb.mk a_Course_School a_Course_Code) a_Credits a_Grade a_Day a_Sources a_Bundle a_Path) day).bind (fun(e:Bool)=>some (rB e,[])):=
 fun p_School p_Id p_Version p_From p_Name p_Need_Kind p_Need_N p_Need_Min p_Need_Set p_Need_L p_Total p_Own p_Age p_Exclude a_Course_School a_Course_Code a_Credits a_Grade a_Day a_Sources a_Bundle a_Path day=>by
  rw[qL qqe qrL.2.2.2 qs5]
  have:=qsw;have:=@q3Y;have:=@qD.eq_1;exact gA
theorem qtj:okL 31 qaF:=qM (qi qo5) (by kernel_rfl) (by kernel_rfl)
def qua:=JA_ @qaF.eq_1 (JA_ @Try.f31.eq_1 @qo5)
def qR (s:List Int):Option Unit:=if s.length≤maxLen∧s.length*8≤140737488355328 then some () else none
theorem QF:∀(s:List Int),ev 57 0 [rL 1 eI s] []=(qR s).bind (fun(e:Unit)=>some (rO 0 1 s.length,[(0,bR 3 1 eI s)])):=
 fun s=>by
  rw[qe2,qrU.2.2.2]
  have:=@qR.eq_1;exact gA
def qv (a:qa):Option Unit:=Option.bind (qR a.Sources) fun(a2:Unit)=>Option.bind (qR a.Path) fun(a3:Unit)=>some ()
theorem Ji:∀(a_Course_School:Int) (a_Course_Code:ByteArray) (a_Credits a_Grade a_Day:Int) (a_Sources:List Int) (a_Bundle:Int) (a_Path:List Int),ev 31 0 [R.agg [dI a_Course_School,dS a_Course_Code,dI a_Credits,dI a_Grade,dI a_Day,dL 1 eI a_Sources,dI a_Bundle,dL 1 eI a_Path]] []=(qv (qa.mk (qb.mk a_Course_School a_Course_Code) a_Credits a_Grade a_Day a_Sources a_Bundle a_Path)).bind (fun(e:Unit)=>some (R.agg [dI a_Course_School,dS a_Course_Code,dI a_Credits,dI a_Grade,dI a_Day,dL 1 eI a_Sources,dI a_Bundle,dL 1 eI a_Path],[])):=
 fun a_Course_School a_Course_Code a_Credits a_Grade a_Day a_Sources a_Bundle a_Path=>by
  rw[qL qo5 qqX.2.2.2 qtj]
  have:=qua;have:=@QF;have:=@qv.eq_1;exact gA
theorem qs4:okL 32 q7n:=qM (qi qo1) (by kernel_rfl) (by kernel_rfl)
def qrG:=JA_ @q7n.eq_1 (JA_ @Try.f32.eq_1 @qo1)
theorem qni:lbO 32 3=qd8:=Q1 (qi qo1) rfl
theorem qlN:okL 32 qd8:=zn qs4 (qud (i:=0) (by kernel_rfl))
theorem qq7:okL 58 q5O:=qM (qi qm3) (by kernel_rfl) (by kernel_rfl)
def qqa:=JA_ @q5O.eq_1 (JA_ @Try.f58.eq_1 @qm3)
theorem qmL:lbO 58 3=qd4:=Q1 (qi qm3) rfl
theorem qmO:okL 58 qd4:=zn qq7 (qud (i:=0) (by kernel_rfl))
theorem qjz:lbO 58 8=qc7:=Q1 (qi qm3) rfl
theorem qjL:okL 58 qc7:=zn qq7 (qud (i:=1) (by kernel_rfl))
def zH (s:List Int):Option (List Int):=
 some (@cpI s)
def qA (s:List Int):List Int:=
 @cpI s
theorem Zo (s:List Int):zH s=some (qA s):=by
 unfold zH qA
 simp only[q0v]
theorem ZC:∀(s:List Int) (s_len:Nat),s_len=s.length→ev 79 0 [rO 0 1 s_len] [(0,bR 3 1 eI s)]=some (rO 0 1 (qA s).length,[(0,B.row 3 1 (((qA s).flatMap eI).map C.d))]):=
 by
 intro s s_len h0
 subst h0
 have h:ev 79 0 [rO 0 1 s.length] [(0,bR 3 1 eI s)]=(zH s).bind (fun(e:List Int)=>some (rO 0 1 e.length,[(0,bR 3 1 eI e)])):=by
  rw[qe2,qqT.2.2.2]
  have:=@zH.eq_1;exact gA
 rw[Zo] at h
 exact h
def Q3 (w1:List Int) (t10:List qa) (t11:Int) (t12:Int) (t23:Int):((List (Int×Int))×Int)→Option (((List (Int×Int))×Int)⊕((List (Int×Int))))|(m0,t24)=>if t24<t23 then if 0≤t24∧t24<((w1.length:Nat):Int) then Option.bind w1[Int.toNat t24]? fun(a:Int)=>some (Sum.inl (q2h m0 a (w64 (QR 0 m0 a+1)),w64 (t24+1))) else none else some (Sum.inr m0)
theorem q2d:∀(w1:List Int) (m0:List (Int×Int)) (t10:List qa) (t11 t12 t23 t24:Int) (w1_len:Nat),w1_len=w1.length→XL2 evo 58 0 8 ⟨[(3,R.c (C.hd .map 0)),(10,rL 8 qc t10),(11,rI t11),(12,rI t12),(22,rO 1 1 w1_len),(23,rI t23),(24,rI t24)],[(0,B.ob (mpB (J2 .i64) zW m0)),(1,bR 3 1 eI w1)],2,35⟩=(qE (Q3 w1 t10 t11 t12 t23) (m0,t24)).bind (fun(e:(List (Int×Int)))=>some (Exit.exit 2,⟨[(3,R.c (C.hd .map 0)),(10,rL 8 qc t10),(11,rI t11),(12,rI t12)],[(0,B.ob (mpB (J2 .i64) zW e))],1,35⟩)):=
 by
 intro w1 m0 t10 t11 t12 t23 t24 w1_len h0
 subst h0
 revert t24;revert m0;exact q97 qjz qjL (fun e=>by exact⟨_,rfl,fun h=>by cases h⟩) fun m0 t24=>by
  have:=qqa;have:=@qc7.eq_1;have:=@Q3.eq_1;exact gA
def Ql (t10:List qa) (t11:Int):((List (Int×Int))×Int)→Option (((List (Int×Int))×Int)⊕((List (Int×Int))))|(m0,t12)=>if t12<t11 then if 0≤t12∧t12<((t10.length:Nat):Int) then Option.bind t10[Int.toNat t12]? fun(a:qa)=>Option.bind (qR a.Sources) fun(a2:Unit)=>if a.Sources.length<4611686018427387904 then Option.bind (qE (Q3 (qA (@Zj a.Sources)) t10 t11 t12 (((qA (@Zj a.Sources)).length:Nat):Int)) (m0,0)) fun(a3:List (Prod Int Int))=>some (Sum.inl (a3,w64 (t12+1))) else none else none else some (Sum.inr m0)
theorem q1K:∀(m0:List (Int×Int)) (t10:List qa) (t11 t12:Int),XL2 evo 58 0 3 ⟨[(3,R.c (C.hd .map 0)),(10,rL 8 qc t10),(11,rI t11),(12,rI t12)],[(0,B.ob (mpB (J2 .i64) zW m0))],1,35⟩=(qE (Ql t10 t11) (m0,t12)).bind (fun(e:(List (Int×Int)))=>some (Exit.exit 0,⟨[(3,R.c (C.hd .map 0))],[(0,B.ob (mpB (J2 .i64) zW e))],1,35⟩)):=
 fun m0 t10 t11 t12=>by
  revert t12;revert m0;exact q97 qmL qmO (fun e=>by exact⟨_,rfl,fun h=>by cases h⟩) fun m0 t12=>by
   have:=qqa;have:=@qd4.eq_1;have:=@QF;have:=@ZC;have:=@q2d;have:=@Ql.eq_1;exact gA
def Zx (l:List qa):Option ((List (Int×Int))):=Option.bind (qE (Ql l ((l.length:Nat):Int)) ([],0)) fun(a:List (Prod Int Int))=>some a
theorem q3X:∀(l:List qa),ev 58 0 [rL 8 qc l] []=(Zx l).bind (fun(e:(List (Int×Int)))=>some (R.c (C.hd .map 0),[(0,B.ob (mpB (J2 .i64) zW e))])):=
 fun l=>by
  rw[qL qm3 qrR.2.2.2 qq7]
  have:=qqa;have:=@q1K;have:=@Zx.eq_1;exact gA
theorem qsm:okL 14 qd5:=qM (qi qpe) (by kernel_rfl) (by kernel_rfl)
def qtf:=JA_ @qd5.eq_1 (JA_ @Try.f14.eq_1 @qpe)
theorem qso:okL 39 qaf:=qM (qi qq2) (by kernel_rfl) (by kernel_rfl)
def qsj:=JA_ @qaf.eq_1 (JA_ @Try.f39.eq_1 @qq2)
theorem qtr:okL 64 qaR:=qM (qi qq3) (by kernel_rfl) (by kernel_rfl)
def qsR:=JA_ @qaR.eq_1 (JA_ @Try.f64.eq_1 @qq3)
theorem qrZ:okL 84 q8h:=qM (qi qnI) (by kernel_rfl) (by kernel_rfl)
def qqR:=JA_ @q8h.eq_1 (JA_ @Try.f84.eq_1 @qnI)
theorem qmW:lbO 84 2=q9S:=Q1 (qi qnI) rfl
theorem qkE:okL 84 q9S:=zn qrZ (qud (i:=0) (by kernel_rfl))
theorem qu3:okL 85 qaL:=qM (qi qod) (by kernel_rfl) (by kernel_rfl)
def qtv:=JA_ @qaL.eq_1 (JA_ @Try.f85.eq_1 @qod)
def Qi (n:Int) (a:Int) (b:Int):Option Int:=
 some (max (min a b) (min n (max a b)))
def qI (n:Int) (a:Int) (b:Int):Int:=
 max (min a b) (min n (max a b))
theorem JC (n a b:Int):Qi n a b=some (qI n a b):=by
 unfold Qi qI
 simp only[q0v]
theorem Qn:∀(n a b:Int),ev 85 0 [rI n,rI a,rI b] []=some (rI (qI n a b),[]):=
 fun n a b=>by
  have h:ev 85 0 [rI n,rI a,rI b] []=(Qi n a b).bind (fun(e:Int)=>some (rI e,[])):=by
   rw[qL qod qqF.2.2.2 qu3]
   have:=qtv;have:=@Qi.eq_1;exact gA
  rw[JC] at h
  exact h
end
noncomputable section
open Go.RowKit
set_option maxRecDepth 20000
set_option maxHeartbeats 8000000
def zM (w1:List Int) (s:qe) (t10:Int):Int→Option (Int⊕(Unit⊕Unit))|t11=>if t11<t10 then if 0≤t11∧t11<((w1.length:Nat):Int) then Option.bind w1[Int.toNat t11]? fun(a:Int)=>if(qI a (-1000) 1000 != a)=Bool.true then some (Sum.inr (Sum.inl ())) else some (Sum.inl (w64 (t11+1))) else none else some (Sum.inr (Sum.inr ()))
theorem q16:∀(w1:List Int) (s_Worst s_Best s_Pass t10 t11:Int) (w1_len:Nat),w1_len=w1.length→XL2 evo 84 0 2 ⟨[(1,rP 0),(9,rO 1 1 w1_len),(10,rI t10),(11,rI t11)],[(0,B.blk 30 [dI s_Worst,dI s_Best,dI s_Pass]),(1,bR 3 1 eI w1)],2,37⟩=(qE (zM w1 (qe.mk s_Worst s_Best s_Pass) t10) t11).bind (Sum.elim (fun(e:Unit)=>some (Exit.ret,⟨[(1,rP 0),(2,rI 10)],[(0,B.blk 30 [dI s_Worst,dI s_Best,dI s_Pass])],1,37⟩)) (fun(e:Unit)=>some (Exit.exit 0,⟨[(1,rP 0),(2,R.any)],[(0,B.blk 30 [dI s_Worst,dI s_Best,dI s_Pass])],1,37⟩))):=
 by
 intro w1 s_Worst s_Best s_Pass t10 t11 w1_len h0
 subst h0
 revert t11;exact qby qmW qkE (fun e=>by rcases e with _|_<;>exact⟨_,rfl,fun h=>by cases h⟩) fun x=>by
  have:=qqR;have:=@q9S.eq_1;have:=@Qn;have:=@zM.eq_1;exact gA
theorem JR:∀(w10 w11 s_Worst s_Best s_Pass t10 t11:Int),XL2 evo 84 0 2 ⟨[(1,rP 0),(9,rO 1 1 2),(10,rI t10),(11,rI t11)],[(0,B.blk 30 [dI s_Worst,dI s_Best,dI s_Pass]),(1,B.row 3 1 [dI w10,dI w11])],2,37⟩=(qE (zM [w10,w11] (qe.mk s_Worst s_Best s_Pass) t10) t11).bind (Sum.elim (fun(e:Unit)=>some (Exit.ret,⟨[(1,rP 0),(2,rI 10)],[(0,B.blk 30 [dI s_Worst,dI s_Best,dI s_Pass])],1,37⟩)) (fun(e:Unit)=>some (Exit.exit 0,⟨[(1,rP 0),(2,R.any)],[(0,B.blk 30 [dI s_Worst,dI s_Best,dI s_Pass])],1,37⟩))):=by
 intro w10 w11 s_Worst s_Best s_Pass t10 t11;have h:=q16 [w10,w11] ((qe.mk s_Worst s_Best s_Pass)).Worst ((qe.mk s_Worst s_Best s_Pass)).Best ((qe.mk s_Worst s_Best s_Pass)).Pass t10 t11 _ rfl
 first
  | exact h
  | (simp only[rL,dL,bR,bZ,Nat.reduceAdd] at h;exact h)
def QW (s:qe):Option Int:=Option.bind (qE (zM [s.Worst,s.Best] s 2) 0) fun(a:Sum Unit Unit)=>Sum.elim (fun(a2:Unit)=>some 10) (fun(a3:Unit)=>if(s.Worst==s.Best)=Bool.true then some 10 else if(qI s.Pass s.Worst s.Best != s.Pass)=Bool.true then some 10 else some 0) a
theorem q2w:∀(s_Worst s_Best s_Pass:Int),ev 84 0 [R.agg [dI s_Worst,dI s_Best,dI s_Pass]] []=(QW (qe.mk s_Worst s_Best s_Pass)).bind (fun(e:Int)=>some (rI e,[])):=
 fun s_Worst s_Best s_Pass=>by
  rw[qL qnI qr5.2.2.2 qrZ]
  have:=qqR;have:=@JR;have:=@Qn;have:=@QW.eq_1;exact gA
def QX (s:qe) (g:Int):Option Bool:=Option.bind (QW s) fun(a:Int)=>if(a==0)=Bool.true then some (qI g s.Worst s.Best==g) else some Bool.false
theorem q2t:∀(s_Worst s_Best s_Pass g:Int),ev 64 0 [R.agg [dI s_Worst,dI s_Best,dI s_Pass],rI g] []=(QX (qe.mk s_Worst s_Best s_Pass) g).bind (fun(e:Bool)=>some (rB e,[])):=
 fun s_Worst s_Best s_Pass g=>by
  rw[qL qq3 qqY.2.2.2 qtr]
  have:=qsR;have:=@q2w;have:=@Qn;have:=@QX.eq_1;exact gA
def Qt (s:qe) (g:Int) (min:Int):Option Bool:=Option.bind (QX s g) fun(a:Bool)=>if a=Bool.true then if(g==min)=Bool.true then some Bool.true else some (decide (min<g)==decide (s.Worst<s.Best)) else some Bool.false
theorem q1F:∀(s_Worst s_Best s_Pass g min:Int),ev 39 0 [R.agg [dI s_Worst,dI s_Best,dI s_Pass],rI g,rI min] []=(Qt (qe.mk s_Worst s_Best s_Pass) g min).bind (fun(e:Bool)=>some (rB e,[])):=
 fun s_Worst s_Best s_Pass g min=>by
  rw[qL qq2 qrl.2.2.2 qso]
  have:=qsj;have:=@q2t;have:=@Qt.eq_1;exact gA
def QC (s:qe) (a:qa) (b:qa):Option Bool:=if(a.Course.School==b.Course.School)=Bool.true∧(ByteArray.toList a.Course.Code==ByteArray.toList b.Course.Code)=Bool.true then if(a.Bundle==b.Bundle)=Bool.true then Option.bind (qZ a.Path b.Path) fun(a2:Bool)=>if a2=Bool.true then if b.Credits≤a.Credits then if b.Day≤a.Day then Option.bind (Qt s a.Grade b.Grade) fun(e0:Bool)=>some e0 else some Bool.false else some Bool.false else some Bool.false else some Bool.false else some Bool.false
theorem q1L:∀(s_Worst s_Best s_Pass a_Course_School:Int) (a_Course_Code:ByteArray) (a_Credits a_Grade a_Day:Int) (a_Sources:List Int) (a_Bundle:Int) (a_Path:List Int) (b_Course_School:Int) (b_Course_Code:ByteArray) (b_Credits b_Grade b_Day:Int) (b_Sources:List Int) (b_Bundle:Int) (b_Path:List Int),ev 14 0 [R.agg [dI s_Worst,dI s_Best,dI s_Pass],R.agg [dI a_Course_School,dS a_Course_Code,dI a_Credits,dI a_Grade,dI a_Day,dL 1 eI a_Sources,dI a_Bundle,dL 1 eI a_Path],R.agg [dI b_Course_School,dS b_Course_Code,dI b_Credits,dI b_Grade,dI b_Day,dL 1 eI b_Sources,dI b_Bundle,dL 1 eI b_Path]] []=(QC (qe.mk s_Worst s_Best s_Pass) (qa.mk (qb.mk a_Course_School a_Course_Code) a_Credits a_Grade a_Day a_Sources a_Bundle a_Path) (qa.mk (qb.mk b_Course_School b_Course_Code) b_Credits b_Grade b_Day b_Sources b_Bundle b_Path)).bind (fun(e:Bool)=>some (rB e,[])):=
 fun s_Worst s_Best s_Pass a_Course_School a_Course_Code a_Credits a_Grade a_Day a_Sources a_Bundle a_Path b_Course_School b_Course_Code b_Credits b_Grade b_Day b_Sources b_Bundle b_Path=>by
  rw[qL qpe qrD.2.2.2 qsm]
  have:=qtf;have:=@QI;have:=@q1F;have:=@QC.eq_1;exact gA
theorem qsh:okL 59 qdf:=qM (qi qqo) (by kernel_rfl) (by kernel_rfl)
def qsK:=JA_ @qdf.eq_1 (JA_ @Try.f59.eq_1 @qqo)
def Qc (n:Int) (m1:List (Int×Int)) (v:List qa) (v2:Int):Option Bool:=if 1<QR 0 m1 n then if 0≤v2∧v2<((v.length:Nat):Int) then Option.bind v[Int.toNat v2]? fun(a:qa)=>Option.bind (qN a.Sources n) fun(a2:Bool)=>some (!a2) else none else some Bool.false
theorem q0I:∀(n:Int) (m1:List (Int×Int)) (v:List qa) (v2:Int),ev 59 4 [rI n,rP 0,rP 2,rP 3] [(0,B.blk 82 [C.hd .map 1]),(1,B.ob (mpB (J2 .i64) zW m1)),(2,B.blk 32 [dL 8 qc v]),(3,B.blk 3 [dI v2])]=(Qc n m1 v v2).bind (fun(e:Bool)=>some (rB e,[(0,B.blk 82 [C.hd .map 1]),(1,B.ob (mpB (J2 .i64) zW m1)),(2,B.blk 32 [dL 8 qc v]),(3,B.blk 3 [dI v2])])):=
 fun n m1 v v2=>by
  rw[qL qqo qrj.2.2.2 qsh]
  have:=qsK;have:=@Qq;have:=@Qc.eq_1;exact gA
def qm (i:Int) (j:Int) (s:List qa):Option (List qa):=if 0≤i∧j=i+1∧i<((s.length:Nat):Int) then some (@List.eraseIdx qa s (Int.toNat i)) else none
theorem qU:∀(i j:Int) (s:List qa) (s_len:Nat),s_len=s.length→ev 33 0 [rO 0 8 s_len,rI i,rI j] [(0,bR 52 8 qc s)]=(qm i j s).bind (fun(e:List qa)=>some (rO 0 8 e.length,[(0,bR 52 8 qc e)])):=
 by
 intro i j s s_len h0
 subst h0
 rw[qe2,qrV.2.2.2]
 have:=@qm.eq_1;exact gA
def qw (m1:List (Int×Int)) (b2:List qa) (b3:Int) (s:List Int) (t7:Int):Int→Option (Int⊕(Int⊕Unit))|t8=>if t8<t7 then if 0≤t8∧t8<((s.length:Nat):Int) then Option.bind s[Int.toNat t8]? fun(a:Int)=>Option.bind (Qc a m1 b2 b3) fun(a2:Bool)=>if a2=Bool.true then some (Sum.inr (Sum.inl t8)) else some (Sum.inl (w64 (t8+1))) else none else some (Sum.inr (Sum.inr ()))
theorem QQ:∀(m1:List (Int×Int)) (b2:List qa) (b3:Int) (s:List Int) (t7 t8:Int),XL2 evo 81 4 2 ⟨[(0,rL 1 eI s),(1,R.c (C.fn 59 [] [dP 0,dP 2,dP 3])),(7,rI t7),(8,rI t8)],[(0,B.blk 82 [C.hd .map 1]),(1,B.ob (mpB (J2 .i64) zW m1)),(2,B.blk 32 [dL 8 qc b2]),(3,B.blk 3 [dI b3])],4,19⟩=(qE (qw m1 b2 b3 s t7) t8).bind (Sum.elim (fun(e:Int)=>some (Exit.ret,⟨[(4,rI e)],[(0,B.blk 82 [C.hd .map 1]),(1,B.ob (mpB (J2 .i64) zW m1)),(2,B.blk 32 [dL 8 qc b2]),(3,B.blk 3 [dI b3])],4,19⟩)) (fun(e:Unit)=>some (Exit.exit 0,⟨[(4,R.any)],[(0,B.blk 82 [C.hd .map 1]),(1,B.ob (mpB (J2 .i64) zW m1)),(2,B.blk 32 [dL 8 qc b2]),(3,B.blk 3 [dI b3])],4,19⟩))):=
 fun m1 b2 b3 s t7 t8=>by
  revert t8;exact qby qfH qfF (fun e=>by rcases e with _|_<;>exact⟨_,rfl,fun h=>by cases h⟩) fun x=>by
   have:=qnN;have:=@q7p.eq_1;have:=@q0I;have:=@qw.eq_1;exact gA
def zi (s:List Int) (m1:List (Int×Int)) (b2:List qa) (b3:Int):Option Int:=Option.bind (qE (qw m1 b2 b3 s ((s.length:Nat):Int)) 0) fun(a:Sum Int Unit)=>Sum.elim (fun(a2:Int)=>some a2) (fun(a3:Unit)=>some (-1)) a
theorem Z4:∀(s:List Int) (m1:List (Int×Int)) (b2:List qa) (b3:Int),ev 81 4 [rL 1 eI s,R.c (C.fn 59 [] [dP 0,dP 2,dP 3])] [(0,B.blk 82 [C.hd .map 1]),(1,B.ob (mpB (J2 .i64) zW m1)),(2,B.blk 32 [dL 8 qc b2]),(3,B.blk 3 [dI b3])]=(zi s m1 b2 b3).bind (fun(e:Int)=>some (rI e,[(0,B.blk 82 [C.hd .map 1]),(1,B.ob (mpB (J2 .i64) zW m1)),(2,B.blk 32 [dL 8 qc b2]),(3,B.blk 3 [dI b3])])):=
 fun s m1 b2 b3=>by
  rw[qL qkx qqs.2.2.2 qqr]
  have:=qnN;have:=@QQ;have:=@zi.eq_1;exact gA
def qG (s:List Int) (m1:List (Int×Int)) (b2:List qa) (b3:Int):Option Bool:=Option.bind (zi s m1 b2 b3) fun(a:Int)=>some (decide (0≤a))
theorem QP:∀(s:List Int) (m1:List (Int×Int)) (b2:List qa) (b3:Int),ev 61 4 [rL 1 eI s,R.c (C.fn 59 [] [dP 0,dP 2,dP 3])] [(0,B.blk 82 [C.hd .map 1]),(1,B.ob (mpB (J2 .i64) zW m1)),(2,B.blk 32 [dL 8 qc b2]),(3,B.blk 3 [dI b3])]=(qG s m1 b2 b3).bind (fun(e:Bool)=>some (rB e,[(0,B.blk 82 [C.hd .map 1]),(1,B.ob (mpB (J2 .i64) zW m1)),(2,B.blk 32 [dL 8 qc b2]),(3,B.blk 3 [dI b3])])):=
 fun s m1 b2 b3=>by
  rw[qL qnQ qpg.2.2.2 qry]
  have:=qrm;have:=@Z4;have:=@qG.eq_1;exact gA
def zG (l:List qa) (s:qe) (at0:Int) (m4:List (Int×Int)) (t13:List qa) (t14:Int):Int→Option (Int⊕(Unit⊕Unit))|t15=>if t15<t14 then if 0≤t15∧t15<((t13.length:Nat):Int) then Option.bind t13[Int.toNat t15]? fun(a:qa)=>if(t15==at0)=Bool.true then some (Sum.inl (w64 (t15+1))) else if 0≤at0∧at0<((l.length:Nat):Int) then Option.bind l[Int.toNat at0]? fun(a2:qa)=>Option.bind (QC s a a2) fun(a3:Bool)=>if(!a3)=Bool.true then some (Sum.inl (w64 (t15+1))) else Option.bind (qG a.Sources m4 l at0) fun(a4:Bool)=>if(!a4)=Bool.true then some (Sum.inr (Sum.inl ())) else some (Sum.inl (w64 (t15+1))) else none else none else some (Sum.inr (Sum.inr ()))
theorem q03:∀(l:List qa) (s_Worst s_Best s_Pass at0:Int) (m4:List (Int×Int)) (t13:List qa) (t14 t15:Int),XL2 evo 32 0 3 ⟨[(3,rP 0),(4,rP 1),(5,rP 2),(7,rP 3),(13,rL 8 qc t13),(14,rI t14),(15,rI t15)],[(0,B.blk 32 [dL 8 qc l]),(1,B.blk 30 [dI s_Worst,dI s_Best,dI s_Pass]),(2,B.blk 3 [dI at0]),(3,B.blk 82 [C.hd .map 4]),(4,B.ob (mpB (J2 .i64) zW m4))],5,40⟩=(qE (zG l (qe.mk s_Worst s_Best s_Pass) at0 m4 t13 t14) t15).bind (Sum.elim (fun(e:Unit)=>some (Exit.ret,⟨[(6,rB Bool.true)],[],0,40⟩)) (fun(e:Unit)=>some (Exit.exit 0,⟨[(6,R.any)],[],0,40⟩))):=
 fun l s_Worst s_Best s_Pass at0 m4 t13 t14 t15=>by
  revert t15;exact qby qni qlN (fun e=>by rcases e with _|_<;>exact⟨_,rfl,fun h=>by cases h⟩) fun x=>by
   have:=qrG;have:=@qd8.eq_1;have:=@q1L;have:=@QP;have:=@zG.eq_1;exact gA
def zT (l:List qa) (s:qe) (at0:Int):Option Bool:=Option.bind (Zx l) fun(a:List (Prod Int Int))=>Option.bind (qE (zG l s at0 a l ((l.length:Nat):Int)) 0) fun(a2:Sum Unit Unit)=>Sum.elim (fun(a3:Unit)=>some Bool.true) (fun(a4:Unit)=>some Bool.false) a2
theorem ZJ:∀(l:List qa) (s_Worst s_Best s_Pass at0:Int),ev 32 0 [rL 8 qc l,R.agg [dI s_Worst,dI s_Best,dI s_Pass],rI at0] []=(zT l (qe.mk s_Worst s_Best s_Pass) at0).bind (fun(e:Bool)=>some (rB e,[])):=
 fun l s_Worst s_Best s_Pass at0=>by
  rw[qL qo1 qru.2.2.2 qs4]
  have:=qrG;have:=@q3X;have:=@q03;have:=@zT.eq_1;exact gA
theorem lo8:okL 8 qi7:=qM (qi bd8) (by kernel_rfl) (by kernel_rfl)
def cx8:=JA_ @qi7.eq_1 (JA_ @Try.f8.eq_1 @bd8)
theorem qtX:okL 26 qap:=qM (qi qqd) (by kernel_rfl) (by kernel_rfl)
def qsg:=JA_ @qap.eq_1 (JA_ @Try.f26.eq_1 @qqd)
theorem q41:∀(code:ByteArray) (grade source day:Int),ev 26 0 [rS code,rI grade,rI source,rI day] []=some (R.agg [C.d (D.int IntKind.i64 1),dS code,C.d (D.int IntKind.i64 5),C.d (D.int IntKind.i64 grade),C.d (D.int IntKind.i64 day),C.d (D.sl 1 1 [D.int IntKind.i64 source]),C.d (D.int IntKind.i64 0),C.d (D.sl 1 0 [])],[]):=
 fun code grade source day=>by
  rw[qL qqd qrN.2.2.2 qtX]
  have:=qsg;exact gA
theorem qsU:okL 10 qaH:=qM (qi qpa) (by kernel_rfl) (by kernel_rfl)
def qsG:=JA_ @qaH.eq_1 (JA_ @Try.f10.eq_1 @qpa)
theorem q1o:ev 10 0 [] []=some (R.agg [C.d (D.int IntKind.i64 0),C.d (D.int IntKind.i64 100),C.d (D.int IntKind.i64 50)],[]):=
 by
  rw[qL qpa qrX.2.2.2 qsU]
  have:=qsG;exact gA
theorem lo9:okL 9 qfa:=qM (qi bd9) (by kernel_rfl) (by kernel_rfl)
def cx9:=JA_ @qfa.eq_1 (JA_ @Try.f9.eq_1 @bd9)
theorem qq9:lbO 9 3=qhl:=Q1 (qi bd9) rfl
theorem qoR:okL 9 qhl:=zn lo9 (qud (i:=0) (by kernel_rfl))
theorem qrJ:okL 27 q7U:=qM (qi qnw) (by kernel_rfl) (by kernel_rfl)
def qr4:=JA_ @q7U.eq_1 (JA_ @Try.f27.eq_1 @qnw)
theorem qlQ:lbO 27 3=qaN:=Q1 (qi qnw) rfl
theorem qmp:okL 27 qaN:=zn qrJ (qud (i:=0) (by kernel_rfl))
theorem qtg:okL 51 qbl:=qM (qi qqC) (by kernel_rfl) (by kernel_rfl)
def qsp:=JA_ @qbl.eq_1 (JA_ @Try.f51.eq_1 @qqC)
def Zl:Option (List ByteArray):=
 some [ByteArray.mk (List.toArray [65,49]),ByteArray.mk (List.toArray [66,49]),ByteArray.mk (List.toArray [66,50]),ByteArray.mk (List.toArray [67,49]),ByteArray.mk (List.toArray [68,49]),ByteArray.mk (List.toArray [69,57])]
def qt:List ByteArray:=
 [ByteArray.mk (List.toArray [65,49]),ByteArray.mk (List.toArray [66,49]),ByteArray.mk (List.toArray [66,50]),ByteArray.mk (List.toArray [67,49]),ByteArray.mk (List.toArray [68,49]),ByteArray.mk (List.toArray [69,57])]
theorem q2f:Zl=some (qt):=by
 unfold Zl qt
 simp only[q0v]
theorem JH:ev 51 0 [] []=some (R.c (C.d (D.sl 1 (qt).length ((qt).flatMap eS))),[]):=
 by
  have h:ev 51 0 [] []=(Zl).bind (fun(e:List ByteArray)=>some (rL 1 eS e,[])):=by
   rw[qL qqC qrb.2.2.2 qtg]
   have:=qsp;have:=@Zl.eq_1;exact gA
  rw[q2f] at h
  exact h
theorem qsu:okL 52 qbo:=qM (qi qpi) (by kernel_rfl) (by kernel_rfl)
def qtD:=JA_ @qbo.eq_1 (JA_ @Try.f52.eq_1 @qpi)
theorem qsZ:okL 28 qcZ:=qM (qi qoG) (by kernel_rfl) (by kernel_rfl)
def qt8:=JA_ @qcZ.eq_1 (JA_ @Try.f28.eq_1 @qoG)
def zJ (n:Int) (m:Int):Option Int:=if m=0 then none else if m=0 then none else some (Int.tmod (w64 (Int.tmod n m+m)) m)
theorem ZW:∀(n m:Int),ev 28 0 [rI n,rI m] []=(zJ n m).bind (fun(e:Int)=>some (rI e,[])):=
 fun n m=>by
  rw[qL qoG qrQ.2.2.2 qsZ]
  have:=qt8;have:=@zJ.eq_1;exact gA
def qq (n:Int) (d:qd):Option (Int×qd):=if((d.L.length:Nat):Int)≤d.At then some (0,d) else if 0≤w64 (w64 (d.At+1)-1)∧w64 (w64 (d.At+1)-1)<((d.L.length:Nat):Int) then Option.bind d.L[Int.toNat (w64 (w64 (d.At+1)-1))]? fun(a:Int)=>Option.bind (zJ a n) fun(a2:Int)=>some (a2,qd.mk d.L (w64 (d.At+1))) else none
theorem q0C:∀(n:Int) (d_L:List Int) (d_At:Int),ev 52 1 [rP 0,rI n] [(0,B.blk 89 [dL 1 eI d_L,dI d_At])]=(qq n (qd.mk d_L d_At)).bind (fun(e:Int×qd)=>some (rI e.1,[(0,B.blk 89 [dL 1 eI e.2.L,dI e.2.At])])):=
 fun n d_L d_At=>by
  rw[qL qpi qrh.2.2.2 qsu]
  have:=qtD;have:=@ZW;have:=@qq.eq_1;exact gA
theorem qtQ:okL 30 qbk:=qM (qi qok) (by kernel_rfl) (by kernel_rfl)
def qsX:=JA_ @qbk.eq_1 (JA_ @Try.f30.eq_1 @qok)
theorem qsd:okL 53 qck:=qM (qi qof) (by kernel_rfl) (by kernel_rfl)
def qtR:=JA_ @qck.eq_1 (JA_ @Try.f53.eq_1 @qof)
def qh (most:Int) (d:qd):Option (Int×qd):=if((d.L.length:Nat):Int)≤d.At then some (0,d) else if 0≤d.At∧d.At<((d.L.length:Nat):Int) then Option.bind d.L[Int.toNat d.At]? fun(a:Int)=>if most=0 then none else if most=0 then none else some (Int.tmod (w64 (Int.tmod a most+most)) most,qd.mk d.L (w64 (d.At+1))) else none
theorem Qb:∀(most:Int) (d_L:List Int) (d_At:Int),ev 53 1 [rP 0,rI most] [(0,B.blk 93 [dL 1 eI d_L,dI d_At])]=(qh most (qd.mk d_L d_At)).bind (fun(e:Int×qd)=>some (rI e.1,[(0,B.blk 93 [dL 1 eI e.2.L,dI e.2.At])])):=
 fun most d_L d_At=>by
  rw[qL qof qr3.2.2.2 qsd]
  have:=qtR;have:=@qh.eq_1;exact gA
theorem qu4:okL 54 qaC:=qM (qi qoJ) (by kernel_rfl) (by kernel_rfl)
def qtI:=JA_ @qaC.eq_1 (JA_ @Try.f54.eq_1 @qoJ)
def Q5 (d:qd):Option (qb×qd):=Option.bind (qh 6 d) fun(a:Prod Int qd)=>if 0≤a.1∧a.1<6 then Option.bind [(1:Int),1,1,2,2,3][Int.toNat a.1]? fun(a2:Int)=>Option.bind (qh ((qt.length:Nat):Int) a.2) fun(a3:Prod Int qd)=>if 0≤a3.1∧a3.1<((qt.length:Nat):Int) then Option.bind qt[Int.toNat a3.1]? fun(a4:ByteArray)=>some (qb.mk a2 a4,a3.2) else none else none
theorem J5:∀(d_L:List Int) (d_At:Int),ev 54 1 [rP 0] [(0,B.blk 93 [dL 1 eI d_L,dI d_At])]=(Q5 (qd.mk d_L d_At)).bind (fun(e:qb×qd)=>some (R.agg [dI e.1.School,dS e.1.Code],[(0,B.blk 93 [dL 1 eI e.2.L,dI e.2.At])])):=
 fun d_L d_At=>by
  rw[qL qoJ qr8.2.2.2 qu4]
  have:=qtI;have:=@Qb;have:=@JH;have:=@Q5.eq_1;exact gA
theorem qr1:okL 56 q8B:=qM (qi qnK) (by kernel_rfl) (by kernel_rfl)
def qs1:=JA_ @q8B.eq_1 (JA_ @Try.f56.eq_1 @qnK)
theorem qjM:lbO 56 9=qbY:=Q1 (qi qnK) rfl
theorem qld:okL 56 qbY:=zn qr1 (qud (i:=0) (by kernel_rfl))
theorem qoc:okL 77 q5R:=qM (qi qmo) (by kernel_rfl) (by kernel_rfl)
def qpp:=JA_ @q5R.eq_1 (JA_ @Try.f77.eq_1 @qmo)
theorem qkH:lbO 77 4=qbM:=Q1 (qi qmo) rfl
theorem qjU:okL 77 qbM:=zn qoc (qud (i:=0) (by kernel_rfl))
theorem qjR:lbO 77 8=qcs:=Q1 (qi qmo) rfl
theorem qjE:okL 77 qcs:=zn qoc (qud (i:=1) (by kernel_rfl))
theorem qsv:okL 55 qcz:=qM (qi qpn) (by kernel_rfl) (by kernel_rfl)
def qty:=JA_ @qcz.eq_1 (JA_ @Try.f55.eq_1 @qpn)
def QJ (a:qb) (b:qb):Option Bool:=if a.School<b.School then some Bool.true else if(a.School==b.School)=Bool.true then some (Op.bytesLess (ByteArray.toList a.Code) (ByteArray.toList b.Code)) else some Bool.false
def zp (a:qb) (b:qb):Bool:=if a.School<b.School then Bool.true else if(a.School==b.School)=Bool.true then Op.bytesLess (ByteArray.toList a.Code) (ByteArray.toList b.Code) else Bool.false
theorem q0A (a b:qb):QJ a b=some (zp a b):=by
 unfold QJ zp
 simp only[q0v]
theorem ZB:∀(a_School:Int) (a_Code:ByteArray) (b_School:Int) (b_Code:ByteArray),ev 55 0 [R.agg [dI a_School,dS a_Code],R.agg [dI b_School,dS b_Code]] []=some (rB (zp (qb.mk a_School a_Code) (qb.mk b_School b_Code)),[]):=
 fun a_School a_Code b_School b_Code=>by
  have h:ev 55 0 [R.agg [dI a_School,dS a_Code],R.agg [dI b_School,dS b_Code]] []=(QJ (qb.mk a_School a_Code) (qb.mk b_School b_Code)).bind (fun(e:Bool)=>some (rB e,[])):=by
   rw[qL qpn qrg.2.2.2 qsv]
   have:=qty;have:=@QJ.eq_1;exact gA
  rw[q0A] at h
  exact h
def Q2 (out:List qb) (d:qd) (c:qb) (many:Int) (k:Int):Int→Option (Int⊕Int)|at0=>if at0<((out.length:Nat):Int) then if 0≤at0∧at0<((out.length:Nat):Int) then Option.bind out[Int.toNat at0]? fun(a:qb)=>if zp a c=Bool.true then some (Sum.inl (w64 (at0+1))) else some (Sum.inr at0) else none else some (Sum.inr at0)
theorem q2e:∀(out:List qb) (d_L:List Int) (d_At c_School:Int) (c_Code:ByteArray) (many k at0:Int) (out_len:Nat),out_len=out.length→XL2 evo 77 1 8 ⟨[(0,rP 0),(3,rI many),(4,rO 1 2 out_len),(5,rI k),(6,rP 2),(7,rI at0)],[(0,B.blk 93 [dL 1 eI d_L,dI d_At]),(1,bR 50 2 qj out),(2,B.blk 50 [dI c_School,dS c_Code])],3,61⟩=(qE (Q2 out (qd.mk d_L d_At) (qb.mk c_School c_Code) many k) at0).bind (fun(e:Int)=>some (Exit.exit 2,⟨[(0,rP 0),(3,rI many),(4,rO 1 2 out.length),(5,rI k),(6,rP 2),(7,rI e)],[(0,B.blk 93 [dL 1 eI d_L,dI d_At]),(1,bR 50 2 qj out),(2,B.blk 50 [dI c_School,dS c_Code])],3,61⟩)):=
 by
 intro out d_L d_At c_School c_Code many k at0 out_len h0
 subst h0
 revert at0;exact qby qjR qjE (fun e=>by exact⟨_,rfl,fun h=>by cases h⟩) fun x=>by
  have:=qpp;have:=@qcs.eq_1;have:=@ZB;have:=@Q2.eq_1;exact gA
def zy (many:Int):(List qb×qd×Int)→Option ((List qb×qd×Int)⊕(List qb×qd))|(out,d,k)=>if k<many then Option.bind (Q5 d) fun(a:Prod qb qd)=>Option.bind (qE (Q2 out a.2 a.1 many k) 0) fun(a2:Int)=>if a2<((out.length:Nat):Int) then if 0≤a2∧a2<((out.length:Nat):Int) then Option.bind out[Int.toNat a2]? fun(a3:qb)=>if(a3.School==a.1.School)=Bool.true∧(ByteArray.toList a3.Code==ByteArray.toList a.1.Code)=Bool.true then some (Sum.inl (out,a.2,w64 (k+1))) else if out.length+1≤maxLen∧(out.length+1)*24≤140737488355328 then if 0≤w64 (a2+1)∧w64 (a2+1)≤((out.length+1:Nat):Int) then if w64 (a2+1)=0∨w64 (a2+1)<((out.length+1:Nat):Int) then if 0≤a2∧a2≤((out.length+1:Nat):Int) then if a2=0∨a2<((out.length+1:Nat):Int) then if(List.take (out.length+1-Int.toNat a2) (List.drop (Int.toNat a2) (out++[qb.mk 0 (ByteArray.mk (List.toArray []))]))).length*2=(out.length+1-Int.toNat a2)*2∧Int.toNat (w64 (a2+1))*2+(out.length+1-Int.toNat (w64 (a2+1)))*2≤(out.length+1)*2 then if 0≤a2∧a2<((out.length+1:Nat):Int) then if Int.toNat a2*2+2≤(out.length+1)*2 then some (Sum.inl (List.set (spl (out++[qb.mk 0 (ByteArray.mk (List.toArray []))]) (Int.toNat (w64 (a2+1))) (List.take (min (out.length+1-Int.toNat a2) (out.length+1-Int.toNat (w64 (a2+1)))) (List.take (out.length+1-Int.toNat a2) (List.drop (Int.toNat a2) (out++[qb.mk 0 (ByteArray.mk (List.toArray []))]))))) (Int.toNat a2) a.1,a.2,w64 (k+1))) else none else none else none else if Int.toNat (w64 (a2+1))*2+(out.length+1-Int.toNat (w64 (a2+1)))*2≤(out.length+1)*2 then if 0≤a2∧a2<((out.length+1:Nat):Int) then if Int.toNat a2*2+2≤(out.length+1)*2 then some (Sum.inl (List.set (out++[qb.mk 0 (ByteArray.mk (List.toArray []))]) (Int.toNat a2) a.1,a.2,w64 (k+1))) else none else none else none else none else if 0≤a2∧a2≤((out.length+1:Nat):Int) then if a2=0∨a2<((out.length+1:Nat):Int) then if(List.take (out.length+1-Int.toNat a2) (List.drop (Int.toNat a2) (out++[qb.mk 0 (ByteArray.mk (List.toArray []))]))).length*2=(out.length+1-Int.toNat a2)*2 then if 0≤a2∧a2<((out.length+1:Nat):Int) then if Int.toNat a2*2+2≤(out.length+1)*2 then some (Sum.inl (List.set (out++[qb.mk 0 (ByteArray.mk (List.toArray []))]) (Int.toNat a2) a.1,a.2,w64 (k+1))) else none else none else none else if 0≤a2∧a2<((out.length+1:Nat):Int) then if Int.toNat a2*2+2≤(out.length+1)*2 then some (Sum.inl (List.set (out++[qb.mk 0 (ByteArray.mk (List.toArray []))]) (Int.toNat a2) a.1,a.2,w64 (k+1))) else none else none else none else none else none else none else if out.length+1≤maxLen∧(out.length+1)*24≤140737488355328 then if 0≤w64 (a2+1)∧w64 (a2+1)≤((out.length+1:Nat):Int) then if w64 (a2+1)=0∨w64 (a2+1)<((out.length+1:Nat):Int) then if 0≤a2∧a2≤((out.length+1:Nat):Int) then if a2=0∨a2<((out.length+1:Nat):Int) then if(List.take (out.length+1-Int.toNat a2) (List.drop (Int.toNat a2) (out++[qb.mk 0 (ByteArray.mk (List.toArray []))]))).length*2=(out.length+1-Int.toNat a2)*2∧Int.toNat (w64 (a2+1))*2+(out.length+1-Int.toNat (w64 (a2+1)))*2≤(out.length+1)*2 then if 0≤a2∧a2<((out.length+1:Nat):Int) then if Int.toNat a2*2+2≤(out.length+1)*2 then some (Sum.inl (List.set (spl (out++[qb.mk 0 (ByteArray.mk (List.toArray []))]) (Int.toNat (w64 (a2+1))) (List.take (min (out.length+1-Int.toNat a2) (out.length+1-Int.toNat (w64 (a2+1)))) (List.take (out.length+1-Int.toNat a2) (List.drop (Int.toNat a2) (out++[qb.mk 0 (ByteArray.mk (List.toArray []))]))))) (Int.toNat a2) a.1,a.2,w64 (k+1))) else none else none else none else if Int.toNat (w64 (a2+1))*2+(out.length+1-Int.toNat (w64 (a2+1)))*2≤(out.length+1)*2 then if 0≤a2∧a2<((out.length+1:Nat):Int) then if Int.toNat a2*2+2≤(out.length+1)*2 then some (Sum.inl (List.set (out++[qb.mk 0 (ByteArray.mk (List.toArray []))]) (Int.toNat a2) a.1,a.2,w64 (k+1))) else none else none else none else none else if 0≤a2∧a2≤((out.length+1:Nat):Int) then if a2=0∨a2<((out.length+1:Nat):Int) then if(List.take (out.length+1-Int.toNat a2) (List.drop (Int.toNat a2) (out++[qb.mk 0 (ByteArray.mk (List.toArray []))]))).length*2=(out.length+1-Int.toNat a2)*2 then if 0≤a2∧a2<((out.length+1:Nat):Int) then if Int.toNat a2*2+2≤(out.length+1)*2 then some (Sum.inl (List.set (out++[qb.mk 0 (ByteArray.mk (List.toArray []))]) (Int.toNat a2) a.1,a.2,w64 (k+1))) else none else none else none else if 0≤a2∧a2<((out.length+1:Nat):Int) then if Int.toNat a2*2+2≤(out.length+1)*2 then some (Sum.inl (List.set (out++[qb.mk 0 (ByteArray.mk (List.toArray []))]) (Int.toNat a2) a.1,a.2,w64 (k+1))) else none else none else none else none else none else some (Sum.inr (out,d))
theorem q23:∀(out:List qb) (d_L:List Int) (d_At many k:Int) (out_len:Nat),out_len=out.length→XL2 evo 77 1 4 ⟨[(0,rP 0),(3,rI many),(4,rO 1 2 out_len),(5,rI k)],[(0,B.blk 93 [dL 1 eI d_L,dI d_At]),(1,bR 50 2 qj out)],2,61⟩=(qE (zy many) (out,(qd.mk d_L d_At),k)).bind (fun(e:List qb×qd)=>some (Exit.exit 0,⟨[(4,rO 1 2 e.1.length)],[(0,B.blk 93 [dL 1 eI e.2.L,dI e.2.At]),(1,bR 50 2 qj e.1)],2,61⟩)):=
 by
 intro out d_L d_At many k out_len h0
 subst h0
 have h:=q6V (E:=evo) (f:=77) (k:=1) (st:=fun x:List qb×qd×Int=>(⟨[(0,rP 0),(3,rI many),(4,rO 1 2 x.1.length),(5,rI x.2.2)],[(0,B.blk 93 [dL 1 eI x.2.1.L,dI x.2.1.At]),(1,bR 50 2 qj x.1)],2,61⟩:S)) (ex:=fun(e:List qb×qd)=>(Exit.exit 0,⟨[(4,rO 1 2 e.1.length)],[(0,B.blk 93 [dL 1 eI e.2.L,dI e.2.At]),(1,bR 50 2 qj e.1)],2,61⟩)) (step:=(zy many)) qkH qjU (fun e h=>by cases h) (fun x=>by
  obtain⟨out,d,k⟩:=x;have:=qpp;have:=@qbM.eq_1;have:=@J5;have:=@q2e;have:=@zy.eq_1;exact gA) (out,(qd.mk d_L d_At),k)
 exact h
theorem q0B:∀  (d_L:List Int) (d_At many k:Int),XL2 evo 77 1 4 ⟨[(0,rP 0),(3,rI many),(4,rO 1 2 0),(5,rI k)],[(0,B.blk 93 [dL 1 eI d_L,dI d_At]),(1,B.row 50 2 [])],2,61⟩=(qE (zy many) ([],(qd.mk d_L d_At),k)).bind (fun(e:List qb×qd)=>some (Exit.exit 0,⟨[(4,rO 1 2 e.1.length)],[(0,B.blk 93 [dL 1 eI e.2.L,dI e.2.At]),(1,bR 50 2 qj e.1)],2,61⟩)):=by
 intro d_L d_At many k;have h:=q23 [] ((qd.mk d_L d_At)).L ((qd.mk d_L d_At)).At many k _ rfl
 first
  | exact h
  | (simp only[rL,dL,bR,bZ,Nat.reduceAdd] at h;exact h)
def zL (d:qd):Option (List qb×qd):=Option.bind (qh 3 d) fun(a:Prod Int qd)=>Option.bind (qE (zy (w64 (1+a.1))) ([],(a.2,0))) fun(a2:Prod (List qb) qd)=>some (a2.1,a2.2)
theorem q44:∀(d_L:List Int) (d_At:Int),ev 77 1 [rP 0] [(0,B.blk 93 [dL 1 eI d_L,dI d_At])]=(zL (qd.mk d_L d_At)).bind (fun(e:List qb×qd)=>some (rL 2 qj e.1,[(0,B.blk 93 [dL 1 eI e.2.L,dI e.2.At])])):=
 fun d_L d_At=>by
  rw[qL qmo qqS.2.2.2 qoc]
  have:=qpp;have:=@Qb;have:=@q0B;have:=@zL.eq_1;exact gA
def za (x:(Int×Int×qd)):List R×List (Nat×B):=([R.c (C.ptr 0 0),R.c (C.d (D.int .i64 x.1)),R.c (C.d (D.int .i64 x.2.1))],[(0,B.blk 93 [C.d (D.sl 1 x.2.2.L.length (x.2.2.L.flatMap eI)),C.d (D.int .i64 x.2.2.At)])])
def zD:(qg×qd)→R×List (Nat×B):=fun(e:qg×qd)=>(R.agg [C.d (D.int .i64 e.1.Kind),C.d (D.int .i64 e.1.N),C.d (D.int .i64 e.1.Min),C.d (D.sl 2 e.1.Set.length (e.1.Set.flatMap qj)),C.d (D.sl 5 e.1.L.length (e.1.L.flatMap qr))],[(0,B.blk 93 [C.d (D.sl 1 e.2.L.length (e.2.L.flatMap eI)),C.d (D.int .i64 e.2.At)])])
def z8 (rF:(Int×Int×qd)→Option (qg×qd)) (b1_Kind:Int) (b1_N:Int) (b1_Min:Int) (b2_Kind:Int) (b2_N:Int) (b2_Min:Int) (t1:Int) (t2:Int) (t7:Int) (t8:Int):(List qg×qd×Int)→Option ((List qg×qd×Int)⊕(List qg×qd))|(w3,b0,t10)=>if t10<t8 then if t8=0 then none else Option.bind (rF (w64 (t1-1),(w64 (Int.tdiv t2 t8),b0))) fun(a2:Prod qg qd)=>if w3.length+1≤maxLen∧(w3.length+1)*72≤140737488355328 then some (Sum.inl (w3++[a2.1],a2.2,w64 (t10+1))) else none else some (Sum.inr (w3,b0))
theorem q19 (rE:Orc) (rF:(Int×Int×qd)→Option (qg×qd)) (hF:∀y,rE (.fn 56) 1 (za y).1 (za y).2=(rF y).bind fun e=>some (zD e)) (hM:∀g k a G,g≠56→rE (.fn g) k a G=ev g k a G) (hR:∀g asg bd k a G,rE (.rd g asg bd) k a G=evr g asg bd k a G):∀(w3:List qg) (b0_L:List Int) (b0_At b1_Kind b1_N b1_Min b2_Kind b2_N b2_Min t1 t2 t7 t8 t10:Int) (w3_len:Nat),w3_len=w3.length→XL2 rE 56 1 9 ⟨[(0,rP 0),(1,rI t1),(2,rI t2),(6,rP 1),(7,rI t7),(8,rI t8),(9,rP 2),(10,rI t10)],[(0,B.blk 93 [dL 1 eI b0_L,dI b0_At]),(1,B.blk 36 [dI b1_Kind,dI b1_N,dI b1_Min,C.nils,C.nils]),(2,B.blk 36 [dI b2_Kind,dI b2_N,dI b2_Min,C.nils,dO 3 5 w3_len]),(3,bR 36 5 qr w3)],4,77⟩=(qE (z8 rF b1_Kind b1_N b1_Min b2_Kind b2_N b2_Min t1 t2 t7 t8) (w3,(qd.mk b0_L b0_At),t10)).bind (fun(e:List qg×qd)=>some (Exit.exit 0,⟨[(0,rP 0),(6,rP 1),(7,rI t7),(8,rI t8),(9,rP 2)],[(0,B.blk 93 [dL 1 eI e.2.L,dI e.2.At]),(1,B.blk 36 [dI b1_Kind,dI b1_N,dI b1_Min,C.nils,C.nils]),(2,B.blk 36 [dI b2_Kind,dI b2_N,dI b2_Min,C.nils,dO 3 5 e.1.length]),(3,bR 36 5 qr e.1)],4,77⟩)):=
 by
 intro w3 b0_L b0_At b1_Kind b1_N b1_Min b2_Kind b2_N b2_Min t1 t2 t7 t8 t10 w3_len h0
 subst h0
 have h:=q6V (E:=rE) (f:=56) (k:=1) (st:=fun x:List qg×qd×Int=>(⟨[(0,rP 0),(1,rI t1),(2,rI t2),(6,rP 1),(7,rI t7),(8,rI t8),(9,rP 2),(10,rI x.2.2)],[(0,B.blk 93 [dL 1 eI x.2.1.L,dI x.2.1.At]),(1,B.blk 36 [dI b1_Kind,dI b1_N,dI b1_Min,C.nils,C.nils]),(2,B.blk 36 [dI b2_Kind,dI b2_N,dI b2_Min,C.nils,dO 3 5 x.1.length]),(3,bR 36 5 qr x.1)],4,77⟩:S)) (ex:=fun(e:List qg×qd)=>(Exit.exit 0,⟨[(0,rP 0),(6,rP 1),(7,rI t7),(8,rI t8),(9,rP 2)],[(0,B.blk 93 [dL 1 eI e.2.L,dI e.2.At]),(1,B.blk 36 [dI b1_Kind,dI b1_N,dI b1_Min,C.nils,C.nils]),(2,B.blk 36 [dI b2_Kind,dI b2_N,dI b2_Min,C.nils,dO 3 5 e.1.length]),(3,bR 36 5 qr e.1)],4,77⟩)) (step:=(z8 rF b1_Kind b1_N b1_Min b2_Kind b2_N b2_Min t1 t2 t7 t8)) qjM qld (fun e h=>by cases h) (fun x=>by
  obtain⟨w3,b0,t10⟩:=x;have hF':∀(x1 x2:Int) (v_L:List Int) (v_At:Int),rE (.fn 56) 1 [rP 0,rI x1,rI x2] [(0,B.blk 93 [dL 1 eI v_L,dI v_At])]=(rF (x1,x2,(qd.mk v_L v_At))).bind (fun e=>some (R.agg [dI e.1.Kind,dI e.1.N,dI e.1.Min,dL 2 qj e.1.Set,dL 5 qr e.1.L],[(0,B.blk 93 [dL 1 eI e.2.L,dI e.2.At])])):=fun x1 x2 v_L v_At=>hF (x1,x2,(qd.mk v_L v_At))
  have:=qs1;have:=@qbY.eq_1;have:=@z8.eq_1;exact gA) (w3,(qd.mk b0_L b0_At),t10)
 exact h
theorem JU:∀(rE:Orc) (rF:(Int×Int×qd)→Option (qg×qd)) (hF:∀y,rE (.fn 56) 1 (za y).1 (za y).2=(rF y).bind fun e=>some (zD e)) (hM:∀g k a G,g≠56→rE (.fn g) k a G=ev g k a G) (hR:∀g asg bd k a G,rE (.rd g asg bd) k a G=evr g asg bd k a G),∀  (b0_L:List Int) (b0_At b1_Kind b1_N b1_Min b2_Kind b2_N b2_Min t1 t2 t7 t8 t10:Int),XL2 rE 56 1 9 ⟨[(0,rP 0),(1,rI t1),(2,rI t2),(6,rP 1),(7,rI t7),(8,rI t8),(9,rP 2),(10,rI t10)],[(0,B.blk 93 [dL 1 eI b0_L,dI b0_At]),(1,B.blk 36 [dI b1_Kind,dI b1_N,dI b1_Min,C.nils,C.nils]),(2,B.blk 36 [dI b2_Kind,dI b2_N,dI b2_Min,C.nils,dO 3 5 0]),(3,B.row 36 5 [])],4,77⟩=(qE (z8 rF b1_Kind b1_N b1_Min b2_Kind b2_N b2_Min t1 t2 t7 t8) ([],(qd.mk b0_L b0_At),t10)).bind (fun(e:List qg×qd)=>some (Exit.exit 0,⟨[(0,rP 0),(6,rP 1),(7,rI t7),(8,rI t8),(9,rP 2)],[(0,B.blk 93 [dL 1 eI e.2.L,dI e.2.At]),(1,B.blk 36 [dI b1_Kind,dI b1_N,dI b1_Min,C.nils,C.nils]),(2,B.blk 36 [dI b2_Kind,dI b2_N,dI b2_Min,C.nils,dO 3 5 e.1.length]),(3,bR 36 5 qr e.1)],4,77⟩)):=by
 intro rE rF hF hM hR b0_L b0_At b1_Kind b1_N b1_Min b2_Kind b2_N b2_Min t1 t2 t7 t8 t10;have h:=q19 rE rF hF hM hR [] ((qd.mk b0_L b0_At)).L ((qd.mk b0_L b0_At)).At b1_Kind b1_N b1_Min b2_Kind b2_N b2_Min t1 t2 t7 t8 t10 _ rfl
 first
  | exact h
  | (simp only[rL,dL,bR,bZ,Nat.reduceAdd] at h;exact h)
def Qw (rF:(Int×Int×qd)→Option (qg×qd)):(Int×Int×qd)→Option (qg×qd)|(x1,x2,v)=>Option.bind (qh 6 v) fun(a2:Prod Int qd)=>if x1≤0 then Option.bind (qh 3 a2.2) fun(a3:Prod Int qd)=>if(a3.1==0)=Bool.true then Option.bind (qh 12 a3.2) fun(a4:Prod Int qd)=>Option.bind (qh 3 a4.2) fun(a5:Prod Int qd)=>if 0≤a5.1∧a5.1<3 then Option.bind [(0:Int),50,60][Int.toNat a5.1]? fun(a6:Int)=>Option.bind (zL a5.2) fun(a7:Prod (List qb) qd)=>some (qg.mk 2 (w64 (1+a4.1)) a6 a7.1 [],a7.2) else none else Option.bind (qh 4 a3.2) fun(a8:Prod Int qd)=>if 0≤a8.1∧a8.1<4 then Option.bind [(0:Int),50,60,80][Int.toNat a8.1]? fun(a9:Int)=>Option.bind (zL a8.2) fun(a10:Prod (List qb) qd)=>some (qg.mk 1 0 a9 a10.1 [],a10.2) else none else if x2<2 then Option.bind (qh 3 a2.2) fun(a11:Prod Int qd)=>if(a11.1==0)=Bool.true then Option.bind (qh 12 a11.2) fun(a12:Prod Int qd)=>Option.bind (qh 3 a12.2) fun(a13:Prod Int qd)=>if 0≤a13.1∧a13.1<3 then Option.bind [(0:Int),50,60][Int.toNat a13.1]? fun(a14:Int)=>Option.bind (zL a13.2) fun(a15:Prod (List qb) qd)=>some (qg.mk 2 (w64 (1+a12.1)) a14 a15.1 [],a15.2) else none else Option.bind (qh 4 a11.2) fun(a16:Prod Int qd)=>if 0≤a16.1∧a16.1<4 then Option.bind [(0:Int),50,60,80][Int.toNat a16.1]? fun(a17:Int)=>Option.bind (zL a16.2) fun(a18:Prod (List qb) qd)=>some (qg.mk 1 0 a17 a18.1 [],a18.2) else none else if a2.1<2 then Option.bind (qh 3 a2.2) fun(a19:Prod Int qd)=>if(a19.1==0)=Bool.true then Option.bind (qh 12 a19.2) fun(a20:Prod Int qd)=>Option.bind (qh 3 a20.2) fun(a21:Prod Int qd)=>if 0≤a21.1∧a21.1<3 then Option.bind [(0:Int),50,60][Int.toNat a21.1]? fun(a22:Int)=>Option.bind (zL a21.2) fun(a23:Prod (List qb) qd)=>some (qg.mk 2 (w64 (1+a20.1)) a22 a23.1 [],a23.2) else none else Option.bind (qh 4 a19.2) fun(a24:Prod Int qd)=>if 0≤a24.1∧a24.1<4 then Option.bind [(0:Int),50,60,80][Int.toNat a24.1]? fun(a25:Int)=>Option.bind (zL a24.2) fun(a26:Prod (List qb) qd)=>some (qg.mk 1 0 a25 a26.1 [],a26.2) else none else Option.bind (qh (min 3 x2) a2.2) fun(a27:Prod Int qd)=>Option.bind (qE (z8 rF 0 0 0 3 0 0 x1 x2 a2.1 (w64 (1+a27.1))) ([],(a27.2,0))) fun(a28:Prod (List qg) qd)=>if 3<a2.1 then Option.bind (qh (w64 (1+a27.1)) a28.2) fun(a29:Prod Int qd)=>some (qg.mk 4 (w64 (1+a29.1)) 0 [] a28.1,a29.2) else some (qg.mk 3 0 0 [] a28.1,a28.2)
theorem q0m:q5K 56 1 za zD Qw:=by
 intro rE rF hF hM hR x
 obtain⟨x1,x2,v⟩:=x
 show q5Y rE 56 1 [rP 0,rI x1,rI x2] [(0,B.blk 93 [dL 1 eI v.L,dI v.At])]=_
 have hF':∀(x1 x2:Int) (v_L:List Int) (v_At:Int),rE (.fn 56) 1 [rP 0,rI x1,rI x2] [(0,B.blk 93 [dL 1 eI v_L,dI v_At])]=(rF (x1,x2,(qd.mk v_L v_At))).bind (fun e=>some (R.agg [dI e.1.Kind,dI e.1.N,dI e.1.Min,dL 2 qj e.1.Set,dL 5 qr e.1.L],[(0,B.blk 93 [dL 1 eI e.2.L,dI e.2.At])])):=fun x1 x2 v_L v_At=>hF (x1,x2,(qd.mk v_L v_At))
 rw[q5b qnK qr1]
 have:=qs1;have:=@Qb;have:=@q44;have:=JU rE rF hF hM hR;have:=@Qw.eq_1;have:=@zD.eq_1;exact gA
theorem Zv:∀x y,za x=za y→x=y:=by
 rintro⟨a0,a1,⟨a2_0,a2_1⟩⟩ ⟨b0,b1,⟨b2_0,b2_1⟩⟩ h
 simp only[za,Prod.mk.injEq,List.cons.injEq,R.c.injEq,R.agg.injEq,R.tup.injEq,C.d.injEq,C.own.injEq,C.ptr.injEq,C.eptr.injEq,C.clp.injEq,D.int.injEq,D.bool.injEq,D.str.injEq,D.sl.injEq,B.blk.injEq,B.row.injEq,q2P,q1d,Ju,q24,q1O,q3R,q3g,q3F,q3I,q3h,q5M,q2A,true_and,and_true,qux] at h
 simp only[h]
theorem q1u:∀x y,zD x=zD y→x=y:=by
 rintro⟨⟨a0_0,a0_1,a0_2,a0_3,a0_4⟩,⟨a1_0,a1_1⟩⟩ ⟨⟨b0_0,b0_1,b0_2,b0_3,b0_4⟩,⟨b1_0,b1_1⟩⟩ h
 simp only[zD,Prod.mk.injEq,List.cons.injEq,R.c.injEq,R.agg.injEq,R.tup.injEq,C.d.injEq,C.own.injEq,C.ptr.injEq,C.eptr.injEq,C.clp.injEq,D.int.injEq,D.bool.injEq,D.str.injEq,D.sl.injEq,B.blk.injEq,B.row.injEq,q2P,q1d,Ju,q24,q1O,q3R,q3g,q3F,q3I,q3h,q5M,q2A,true_and,and_true,qux] at h
 simp only[h]
def zu:(Int×Int×qd)→Option (qg×qd):=q3Z 56 1 za zD
theorem q0j (x:(Int×Int×qd)):zu x=Qw zu x:=qfN qoD.2.2.2 Zv q1u q0m x
theorem q2s (x1 x2:Int) (v:qd):ev 56 1 [rP 0,rI x1,rI x2] [(0,B.blk 93 [dL 1 eI v.L,dI v.At])]=(zu (x1,x2,v)).bind (fun(e:qg×qd)=>some (R.agg [dI e.1.Kind,dI e.1.N,dI e.1.Min,dL 2 qj e.1.Set,dL 5 qr e.1.L],[(0,B.blk 93 [dL 1 eI e.2.L,dI e.2.At])])):=(q7A qoD.2.2.2 Zv q0m (x1,x2,v))
theorem q3K:∀(x1 x2:Int) (v_L:List Int) (v_At:Int),ev 56 1 [rP 0,rI x1,rI x2] [(0,B.blk 93 [dL 1 eI v_L,dI v_At])]=(zu (x1,x2,(qd.mk v_L v_At))).bind (fun(e:qg×qd)=>some (R.agg [dI e.1.Kind,dI e.1.N,dI e.1.Min,dL 2 qj e.1.Set,dL 5 qr e.1.L],[(0,B.blk 93 [dL 1 eI e.2.L,dI e.2.At])])):=
 fun x1 x2 v_L v_At=>q2s x1 x2 (qd.mk v_L v_At)
def qF (l:List Int):Option qf:=Option.bind (qh 3 (qd.mk l 0)) fun(a:Prod Int qd)=>Option.bind (qh 3 a.2) fun(a2:Prod Int qd)=>Option.bind (qh 5 a2.2) fun(a3:Prod Int qd)=>Option.bind (qh 3 a3.2) fun(a4:Prod Int qd)=>if 0≤a4.1∧a4.1<3 then Option.bind [ByteArray.mk (List.toArray [77,117,115,105,99]),ByteArray.mk (List.toArray [76,97,119]),ByteArray.mk (List.toArray [79,108,100,32,109,97,112,115])][Int.toNat a4.1]? fun(a5:ByteArray)=>Option.bind (qh 20 a4.2) fun(a6:Prod Int qd)=>Option.bind (qh 3 a6.2) fun(a7:Prod Int qd)=>Option.bind (qh 6 a7.2) fun(a8:Prod Int qd)=>Option.bind (qh 5 a8.2) fun(a9:Prod Int qd)=>if 0≤a9.1∧a9.1<5 then Option.bind [(0:Int),0,0,2,5][Int.toNat a9.1]? fun(a10:Int)=>Option.bind (qh 3 a9.2) fun(a11:Prod Int qd)=>if(a11.1==0)=Bool.true then Option.bind (Q5 a11.2) fun(a12:Prod qb qd)=>Option.bind (Q5 a12.2) fun(a13:Prod qb qd)=>if zp a12.1 a13.1=Bool.true then Option.bind (zu (3,(6,a13.2))) fun(a14:Prod qg qd)=>some (qf.mk 1 (w64 (1+a.1)) (w64 (1+a2.1)) (w64 (100*a3.1)) a5 a14.1 a6.1 (w64 (a7.1*a8.1)) a10 [QH.mk a12.1 a13.1]) else Option.bind (zu (3,(6,a13.2))) fun(a15:Prod qg qd)=>some (qf.mk 1 (w64 (1+a.1)) (w64 (1+a2.1)) (w64 (100*a3.1)) a5 a15.1 a6.1 (w64 (a7.1*a8.1)) a10 []) else Option.bind (zu (3,(6,a11.2))) fun(a16:Prod qg qd)=>some (qf.mk 1 (w64 (1+a.1)) (w64 (1+a2.1)) (w64 (100*a3.1)) a5 a16.1 a6.1 (w64 (a7.1*a8.1)) a10 []) else none else none
theorem q1c:∀(l:List Int),ev 30 0 [rL 1 eI l] []=(qF l).bind (fun(e:qf)=>some (R.agg [dI e.School,dI e.Id,dI e.Version,dI e.From,dS e.Name,dI e.Need.Kind,dI e.Need.N,dI e.Need.Min,dL 2 qj e.Need.Set,dL 5 qr e.Need.L,dI e.Total,dI e.Own,dI e.Age,dL 4 (eA2 qj) e.Exclude],[])):=
 fun l=>by
  rw[qL qok qrO.2.2.2 qtQ]
  have:=qsX;have:=@Qb;have:=@J5;have:=@q3K;have:=@ZB;have:=@qF.eq_1;exact gA
theorem qsk:okL 29 qd1:=qM (qi qpR) (by kernel_rfl) (by kernel_rfl)
def qsb:=JA_ @qd1.eq_1 (JA_ @Try.f29.eq_1 @qpR)
theorem qsq:okL 35 qbZ:=qM (qi qoz) (by kernel_rfl) (by kernel_rfl)
def qsC:=JA_ @qbZ.eq_1 (JA_ @Try.f35.eq_1 @qoz)
def Zd (a:qa):Option (Int×ByteArray×Int×Int×Int×Int×List Int×List Int):=if a.Sources.length≤maxLen∧a.Sources.length*8≤140737488355328 then if a.Path.length≤maxLen∧a.Path.length*8≤140737488355328 then some (a.Course.School,a.Course.Code,a.Credits,a.Grade,a.Day,a.Bundle,a.Sources,a.Path) else none else none
theorem q35:∀(a_Course_School:Int) (a_Course_Code:ByteArray) (a_Credits a_Grade a_Day:Int) (a_Sources:List Int) (a_Bundle:Int) (a_Path:List Int),ev 35 0 [R.agg [dI a_Course_School,dS a_Course_Code,dI a_Credits,dI a_Grade,dI a_Day,dL 1 eI a_Sources,dI a_Bundle,dL 1 eI a_Path]] []=(Zd (qa.mk (qb.mk a_Course_School a_Course_Code) a_Credits a_Grade a_Day a_Sources a_Bundle a_Path)).bind (fun(e:Int×ByteArray×Int×Int×Int×Int×List Int×List Int)=>some (R.agg [dI e.1,dS e.2.1,dI e.2.2.1,dI e.2.2.2.1,dI e.2.2.2.2.1,dO 0 1 e.2.2.2.2.2.2.1.length,dI e.2.2.2.2.2.1,dO 1 1 e.2.2.2.2.2.2.2.length],[(0,bR 3 1 eI e.2.2.2.2.2.2.1),(1,bR 3 1 eI e.2.2.2.2.2.2.2)])):=
 fun a_Course_School a_Course_Code a_Credits a_Grade a_Day a_Sources a_Bundle a_Path=>by
  rw[qL qoz qrs.2.2.2 qsq]
  have:=qsC;have:=@Zd.eq_1;exact gA
def Qg (x0:qa) (x1:QH Int):Option qa:=Option.bind (Zd x0) fun(a:Prod Int (Prod ByteArray (Prod Int (Prod Int (Prod Int (Prod Int (Prod (List Int) (List Int))))))))=>Option.bind (zJ x1.a1 40) fun(a2:Int)=>Option.bind (zJ x1.a0 8) fun(a3:Int)=>if(a3==0)=Bool.true then some (qa.mk (qb.mk (Int.tmod a2 9) a.2.1) a.2.2.1 a.2.2.2.1 a.2.2.2.2.1 a.2.2.2.2.2.2.1 a.2.2.2.2.2.1 a.2.2.2.2.2.2.2) else if(a3==1)=Bool.true then if 0≤Int.tmod a2 4∧Int.tmod a2 4<4 then Option.bind [ByteArray.mk (List.toArray [65,49]),ByteArray.mk (List.toArray [66,49]),ByteArray.mk (List.toArray []),ByteArray.mk (List.toArray [65])][Int.toNat (Int.tmod a2 4)]? fun(a4:ByteArray)=>some (qa.mk (qb.mk a.1 a4) a.2.2.1 a.2.2.2.1 a.2.2.2.2.1 a.2.2.2.2.2.2.1 a.2.2.2.2.2.1 a.2.2.2.2.2.2.2) else none else if(a3==2)=Bool.true then some (qa.mk (qb.mk a.1 a.2.1) a2 a.2.2.2.1 a.2.2.2.2.1 a.2.2.2.2.2.2.1 a.2.2.2.2.2.1 a.2.2.2.2.2.2.2) else if(a3==3)=Bool.true then some (qa.mk (qb.mk a.1 a.2.1) a.2.2.1 (w64 (w64 (5*a2)-50)) a.2.2.2.2.1 a.2.2.2.2.2.2.1 a.2.2.2.2.2.1 a.2.2.2.2.2.2.2) else if(a3==4)=Bool.true then some (qa.mk (qb.mk a.1 a.2.1) a.2.2.1 a.2.2.2.1 (w64 (20*a2)) a.2.2.2.2.2.2.1 a.2.2.2.2.2.1 a.2.2.2.2.2.2.2) else if(a3==5)=Bool.true then if a.2.2.2.2.2.2.1.length+1≤maxLen∧(a.2.2.2.2.2.2.1.length+1)*8≤140737488355328 then some (qa.mk (qb.mk a.1 a.2.1) a.2.2.1 a.2.2.2.1 a.2.2.2.2.1 (a.2.2.2.2.2.2.1++[w64 (1000000+a2)]) a.2.2.2.2.2.1 a.2.2.2.2.2.2.2) else none else if(a3==6)=Bool.true then some (qa.mk (qb.mk a.1 a.2.1) a.2.2.1 a.2.2.2.1 a.2.2.2.2.1 a.2.2.2.2.2.2.1 (w64 (Int.tmod a2 5-1)) a.2.2.2.2.2.2.2) else if(a3==7)=Bool.true then if a.2.2.2.2.2.2.2.length+1≤maxLen∧(a.2.2.2.2.2.2.2.length+1)*8≤140737488355328 then some (qa.mk (qb.mk a.1 a.2.1) a.2.2.1 a.2.2.2.1 a.2.2.2.2.1 a.2.2.2.2.2.2.1 a.2.2.2.2.2.1 (a.2.2.2.2.2.2.2++[Int.tmod a2 3])) else none else some (qa.mk (qb.mk a.1 a.2.1) a.2.2.1 a.2.2.2.1 a.2.2.2.2.1 a.2.2.2.2.2.2.1 a.2.2.2.2.2.1 a.2.2.2.2.2.2.2)
theorem q3W:∀(x0_Course_School:Int) (x0_Course_Code:ByteArray) (x0_Credits x0_Grade x0_Day:Int) (x0_Sources:List Int) (x0_Bundle:Int) (x0_Path:List Int) (x1_0 x1_1:Int),ev 29 0 [R.agg [dI x0_Course_School,dS x0_Course_Code,dI x0_Credits,dI x0_Grade,dI x0_Day,dL 1 eI x0_Sources,dI x0_Bundle,dL 1 eI x0_Path],R.agg [dI x1_0,dI x1_1]] []=(Qg (qa.mk (qb.mk x0_Course_School x0_Course_Code) x0_Credits x0_Grade x0_Day x0_Sources x0_Bundle x0_Path) (QH.mk x1_0 x1_1)).bind (fun(e:qa)=>some (R.agg [dI e.Course.School,dS e.Course.Code,dI e.Credits,dI e.Grade,dI e.Day,dL 1 eI e.Sources,dI e.Bundle,dL 1 eI e.Path],[])):=
 fun x0_Course_School x0_Course_Code x0_Credits x0_Grade x0_Day x0_Sources x0_Bundle x0_Path x1_0 x1_1=>by
  rw[qL qpR qr2.2.2.2 qsk]
  have:=qsb;have:=@q35;have:=@ZW;have:=@Qg.eq_1;exact gA
def zC (t0:List (List Int)):(List qa×Int)→Option ((List qa×Int)⊕(List qa))|(w0,t4)=>if t4<((t0.length:Nat):Int) then if t4<8 then if 0≤t4∧t4<((t0.length:Nat):Int) then Option.bind t0[Int.toNat t4]? fun(a:List Int)=>Option.bind (qq 6 (qd.mk a 0)) fun(a2:Prod Int qd)=>if 0≤a2.1∧a2.1<((qt.length:Nat):Int) then Option.bind qt[Int.toNat a2.1]? fun(a3:ByteArray)=>Option.bind (qq 3 a2.2) fun(a4:Prod Int qd)=>if 0≤a4.1∧a4.1<3 then Option.bind [(5:Int),6,10][Int.toNat a4.1]? fun(a5:Int)=>Option.bind (qq 11 a4.2) fun(a6:Prod Int qd)=>Option.bind (qq 60 a6.2) fun(a7:Prod Int qd)=>Option.bind (qq 9 a7.2) fun(a8:Prod Int qd)=>Option.bind (qq 3 a8.2) fun(a9:Prod Int qd)=>if(a9.1==0)=Bool.true then Option.bind (qq 3 a9.2) fun(a10:Prod Int qd)=>Option.bind (qq 4 a10.2) fun(a11:Prod Int qd)=>Option.bind (qq 3 a11.2) fun(a12:Prod Int qd)=>if(a12.1==0)=Bool.true then Option.bind (qq 3 a12.2) fun(a13:Prod Int qd)=>Option.bind (qq 3 a13.2) fun(a14:Prod Int qd)=>if w0.length+1≤maxLen∧(w0.length+1)*104≤140737488355328 then some (Sum.inl (w0++[qa.mk (qb.mk (w64 (1+a10.1)) a3) a5 (w64 (50+w64 (5*a6.1))) (w64 (10*a7.1)) [w64 (2000001+a11.1),w64 (w64 (w64 (2000001+a11.1)+1)+a13.1)] (w64 (1+a14.1)) [w64 (1+a14.1)]],w64 (t4+1))) else none else Option.bind (qq 3 a12.2) fun(a15:Prod Int qd)=>if w0.length+1≤maxLen∧(w0.length+1)*104≤140737488355328 then some (Sum.inl (w0++[qa.mk (qb.mk (w64 (1+a10.1)) a3) a5 (w64 (50+w64 (5*a6.1))) (w64 (10*a7.1)) [w64 (2000001+a11.1)] (w64 (1+a15.1)) [w64 (1+a15.1)]],w64 (t4+1))) else none else if w0.length+1≤maxLen∧(w0.length+1)*104≤140737488355328 then some (Sum.inl (w0++[qa.mk (qb.mk 1 a3) a5 (w64 (50+w64 (5*a6.1))) (w64 (10*a7.1)) [w64 (1000001+a8.1)] 0 []],w64 (t4+1))) else none else none else none else none else some (Sum.inr w0) else some (Sum.inr w0)
theorem q1p:∀(w0:List qa) (t0:List (List Int)) (t4:Int) (w0_len:Nat),w0_len=w0.length→XL2 evo 27 0 3 ⟨[(0,rL 1 (eL 1 eI) t0),(3,rO 0 8 w0_len),(4,rI t4)],[(0,bR 52 8 qc w0)],1,89⟩=(qE (zC t0) (w0,t4)).bind (fun(e:List qa)=>some (Exit.exit 0,⟨[(3,rO 0 8 e.length)],[(0,bR 52 8 qc e)],1,89⟩)):=
 by
 intro w0 t0 t4 w0_len h0
 subst h0
 revert t4;revert w0;exact q97 qlQ qmp (fun e=>by exact⟨_,rfl,fun h=>by cases h⟩) fun w0 t4=>by
  have:=qr4;have:=@qaN.eq_1;have:=@JH;have:=@q0C;have:=@zC.eq_1;exact gA
theorem q0f:∀  (t0:List (List Int)) (t4:Int),XL2 evo 27 0 3 ⟨[(0,rL 1 (eL 1 eI) t0),(3,rO 0 8 0),(4,rI t4)],[(0,B.row 52 8 [])],1,89⟩=(qE (zC t0) ([],t4)).bind (fun(e:List qa)=>some (Exit.exit 0,⟨[(3,rO 0 8 e.length)],[(0,bR 52 8 qc e)],1,89⟩)):=by
 intro t0 t4;have h:=q1p [] t0 t4 _ rfl
 first
  | exact h
  | (simp only[rL,dL,bR,bZ,Nat.reduceAdd] at h;exact h)
def Zf (x0:List (List Int)):Option (List qa):=Option.bind (qE (zC x0) ([],0)) fun(a:List qa)=>some a
theorem q3G:∀(x0:List (List Int)),ev 27 0 [rL 1 (eL 1 eI) x0] []=(Zf x0).bind (fun(e:List qa)=>some (rO 0 8 e.length,[(0,bR 52 8 qc e)])):=
 fun x0=>by
  rw[qL qnw qqM.2.2.2 qrJ]
  have:=qr4;have:=@q0f;have:=@Zf.eq_1;exact gA
def zS (c:Qf):Option (List qa×qf×Int):=Option.bind (Zf c.Has) fun(a:List qa)=>if 0<((a.length:Nat):Int) then if 0<c.Odd.a0.a0 then Option.bind (zJ c.Odd.a0.a2 ((a.length:Nat):Int)) fun(a2:Int)=>if 0≤a2∧a2<((a.length:Nat):Int) then Option.bind a[Int.toNat a2]? fun(a3:qa)=>Option.bind (Qg a3 (QH.mk c.Odd.a0.a0 c.Odd.a0.a1)) fun(a4:qa)=>if 0≤a2∧a2<((a.length:Nat):Int) then if Int.toNat a2*8+8≤a.length*8 then if 0<((a.length:Nat):Int) then if 0<c.Odd.a1.a0 then Option.bind (zJ c.Odd.a1.a2 ((a.length:Nat):Int)) fun(a5:Int)=>if 0≤a5∧a5<((a.length:Nat):Int) then Option.bind (List.set a (Int.toNat a2) a4)[Int.toNat a5]? fun(a6:qa)=>Option.bind (Qg a6 (QH.mk c.Odd.a1.a0 c.Odd.a1.a1)) fun(a7:qa)=>if 0≤a5∧a5<((a.length:Nat):Int) then if Int.toNat a5*8+8≤a.length*8 then Option.bind (qF c.Programme) fun(a8:qf)=>some (List.set (List.set a (Int.toNat a2) a4) (Int.toNat a5) a7,a8,Int.tmod (w64 c.Day) 800) else none else none else none else Option.bind (qF c.Programme) fun(a9:qf)=>some (List.set a (Int.toNat a2) a4,a9,Int.tmod (w64 c.Day) 800) else Option.bind (qF c.Programme) fun(a10:qf)=>some (List.set a (Int.toNat a2) a4,a10,Int.tmod (w64 c.Day) 800) else none else none else none else if 0<((a.length:Nat):Int) then if 0<c.Odd.a1.a0 then Option.bind (zJ c.Odd.a1.a2 ((a.length:Nat):Int)) fun(a11:Int)=>if 0≤a11∧a11<((a.length:Nat):Int) then Option.bind a[Int.toNat a11]? fun(a12:qa)=>Option.bind (Qg a12 (QH.mk c.Odd.a1.a0 c.Odd.a1.a1)) fun(a13:qa)=>if 0≤a11∧a11<((a.length:Nat):Int) then if Int.toNat a11*8+8≤a.length*8 then Option.bind (qF c.Programme) fun(a14:qf)=>some (List.set a (Int.toNat a11) a13,a14,Int.tmod (w64 c.Day) 800) else none else none else none else Option.bind (qF c.Programme) fun(a15:qf)=>some (a,a15,Int.tmod (w64 c.Day) 800) else Option.bind (qF c.Programme) fun(a16:qf)=>some (a,a16,Int.tmod (w64 c.Day) 800) else if 0<((a.length:Nat):Int) then if 0<c.Odd.a1.a0 then Option.bind (zJ c.Odd.a1.a2 ((a.length:Nat):Int)) fun(a17:Int)=>if 0≤a17∧a17<((a.length:Nat):Int) then Option.bind a[Int.toNat a17]? fun(a18:qa)=>Option.bind (Qg a18 (QH.mk c.Odd.a1.a0 c.Odd.a1.a1)) fun(a19:qa)=>if 0≤a17∧a17<((a.length:Nat):Int) then if Int.toNat a17*8+8≤a.length*8 then Option.bind (qF c.Programme) fun(a20:qf)=>some (List.set a (Int.toNat a17) a19,a20,Int.tmod (w64 c.Day) 800) else none else none else none else Option.bind (qF c.Programme) fun(a21:qf)=>some (a,a21,Int.tmod (w64 c.Day) 800) else Option.bind (qF c.Programme) fun(a22:qf)=>some (a,a22,Int.tmod (w64 c.Day) 800)
theorem q0F:∀(c_Has:List (List Int)) (c_Odd_0_0 c_Odd_0_1 c_Odd_0_2 c_Odd_1_0 c_Odd_1_1 c_Odd_1_2:Int) (c_Programme:List Int) (c_Day:Int),ev 9 0 [R.agg [dL 1 (eL 1 eI) c_Has,dI c_Odd_0_0,dI c_Odd_0_1,dI c_Odd_0_2,dI c_Odd_1_0,dI c_Odd_1_1,dI c_Odd_1_2,dL 1 eI c_Programme,C.d (D.int .u16 c_Day)]] []=(zS (Qf.mk c_Has (QH.mk (qfE.mk c_Odd_0_0 c_Odd_0_1 c_Odd_0_2) (qfE.mk c_Odd_1_0 c_Odd_1_1 c_Odd_1_2)) c_Programme c_Day)).bind (fun(e:List qa×qf×Int)=>some (R.tup [rL 8 qc e.1,R.agg [dI e.2.1.School,dI e.2.1.Id,dI e.2.1.Version,dI e.2.1.From,dS e.2.1.Name,dI e.2.1.Need.Kind,dI e.2.1.Need.N,dI e.2.1.Need.Min,dL 2 qj e.2.1.Need.Set,dL 5 qr e.2.1.Need.L,dI e.2.1.Total,dI e.2.1.Own,dI e.2.1.Age,dL 4 (eA2 qj) e.2.1.Exclude],rI e.2.2],[])):=
 fun c_Has c_Odd_0_0 c_Odd_0_1 c_Odd_0_2 c_Odd_1_0 c_Odd_1_1 c_Odd_1_2 c_Programme c_Day=>by
  rw[qL bd9 pw9.2.2.2 lo9]
  have:=cx9;have:=@q3G;have:=@ZW;have:=@q1c;have:=@q3W;have:=@zS.eq_1;have:=fun(E:Orc) (k:Nat) (s:S)=>q7i (E:=E) (k:=k) (s:=s) qq9 qoR;have:=@qhl.eq_1;have:=@q3l;have:=@q6T;have:=@qbG;have:=@q77;have:=@qaK;have:=@q6Y;have:=@qci;exact gA
end
end Go.Proofs.Ytofbcijbpfjliaa.Vc
