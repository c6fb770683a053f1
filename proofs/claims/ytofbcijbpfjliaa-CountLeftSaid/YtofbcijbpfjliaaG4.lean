/- Part 4 of a proof. -/
import Derived.Test.YtofbcijbpfjliaaG3
import Derived.Shelf.SlIter.Sorted
set_option linter.unusedVariables false
set_option linter.unusedSimpArgs false
set_option linter.defProp false
set_option linter.unusedSectionVars false
set_option linter.unnecessarySimpa false
namespace Go.Proofs.Ytofbcijbpfjliaa.Vc
noncomputable section
open Go.RowKit
set_option maxRecDepth 100000
abbrev w64 (n:Int):Int:=IntKind.i64.wrap n
def Qg:Code→List Code
 | .loop c=>c::Qg c
 | .seq a b=>Qg a++Qg b
 | .cond _ a b=>Qg a++Qg b
 | .block _ c=>Qg c
 | .scope c=>Qg c
 | .rangeFunc _ _ a b=>Qg a++Qg b
 | _=>[]
def zD:Code→List (Code×Code)
 | .rangeFunc _ _ a b=>(a,b)::(zD a++zD b)
 | .loop c=>zD c
 | .seq a b=>zD a++zD b
 | .cond _ a b=>zD a++zD b
 | .block _ c=>zD c
 | .scope c=>zD c
 | _=>[]
theorem q4h:∀(c b:Code),b∈Qg c→(∀b'∈Qg b,b'∈Qg c)∧∀q∈zD b,q∈zD c:=by
 intro c
 induction c with
 | loop c ih=>
  intro b hb
  rcases qwh.1 hb with rfl|hb
  ·exact⟨fun b' h=>qw3 _ h,fun q h=>h⟩
  ·exact⟨fun b' h=>qw3 _ ((ih b hb).1 b' h),fun q h=>(ih b hb).2 q h⟩
 | seq a c iha ihc=>
  intro b hb
  rcases qwp.1 hb with hb|hb
  ·exact⟨fun b' h=>qw7 _ ((iha b hb).1 b' h),fun q h=>qw7 _ ((iha b hb).2 q h)⟩
  ·exact⟨fun b' h=>qw4 _ ((ihc b hb).1 b' h),fun q h=>qw4 _ ((ihc b hb).2 q h)⟩
 | cond x a c iha ihc=>
  intro b hb
  rcases qwp.1 hb with hb|hb
  ·exact⟨fun b' h=>qw7 _ ((iha b hb).1 b' h),fun q h=>qw7 _ ((iha b hb).2 q h)⟩
  ·exact⟨fun b' h=>qw4 _ ((ihc b hb).1 b' h),fun q h=>qw4 _ ((ihc b hb).2 q h)⟩
 | rangeFunc g ps a c iha ihc=>
  intro b hb
  rcases qwp.1 hb with hb|hb
  ·exact⟨fun b' h=>qw7 _ ((iha b hb).1 b' h),fun q h=>qw3 _ (qw7 _ ((iha b hb).2 q h))⟩
  ·exact⟨fun b' h=>qw4 _ ((ihc b hb).1 b' h),fun q h=>qw3 _ (qw4 _ ((ihc b hb).2 q h))⟩
 | block id c ih=>intro b hb;exact ih b hb
 | scope c ih=>intro b hb;exact ih b hb
 | _=>intro b hb;cases hb
theorem J5:∀(c:Code) (q:Code×Code),q∈zD c→(∀b'∈Qg q.1++Qg q.2,b'∈Qg c)∧∀q'∈zD q.1++zD q.2,q'∈zD c:=by
 intro c
 induction c with
 | loop c ih=>intro q hq;exact⟨fun b' h=>qw3 _ ((ih q hq).1 b' h),(ih q hq).2⟩
 | seq a c iha ihc=>
  intro q hq
  rcases qwp.1 hq with hq|hq
  ·exact⟨fun b' h=>qw7 _ ((iha q hq).1 b' h),fun q' h=>qw7 _ ((iha q hq).2 q' h)⟩
  ·exact⟨fun b' h=>qw4 _ ((ihc q hq).1 b' h),fun q' h=>qw4 _ ((ihc q hq).2 q' h)⟩
 | cond x a c iha ihc=>
  intro q hq
  rcases qwp.1 hq with hq|hq
  ·exact⟨fun b' h=>qw7 _ ((iha q hq).1 b' h),fun q' h=>qw7 _ ((iha q hq).2 q' h)⟩
  ·exact⟨fun b' h=>qw4 _ ((ihc q hq).1 b' h),fun q' h=>qw4 _ ((ihc q hq).2 q' h)⟩
 | rangeFunc g ps a c iha ihc=>
  intro q hq
  rcases qwh.1 hq with rfl|hq
  ·exact⟨fun b' h=>h,fun q' h=>qw3 _ h⟩
  ·rcases qwp.1 hq with hq|hq
   ·exact⟨fun b' h=>qw7 _ ((iha q hq).1 b' h),fun q' h=>qw3 _ (qw7 _ ((iha q hq).2 q' h))⟩
   ·exact⟨fun b' h=>qw4 _ ((ihc q hq).1 b' h),fun q' h=>qw3 _ (qw4 _ ((ihc q hq).2 q' h))⟩
 | block id c ih=>intro q hq;exact ih q hq
 | scope c ih=>intro q hq;exact ih q hq
 | _=>intro q hq;cases hq
def q21 (f:Nat):Code:=((qy Try.prog pol f).map Bd.code).getD .skip
def lbO (f key:Nat):Code:=(z7 key (q21 f)).getD .skip
def raO (f key:Nat):Code:=((QN key (q21 f)).getD (.skip,.skip)).1
def rbO (f key:Nat):Code:=((QN key (q21 f)).getD (.skip,.skip)).2
structure okL (f:Nat) (c:Code):Prop where
 lo:∀b∈Qg c,lbO f (qB b)=b
 ro:∀q∈zD c,raO f (qB q.2)=q.1∧rbO f (qB q.2)=q.2
theorem qI {f:Nat} {c:Code} (hc:q21 f=c) (h:(Qg c).map (fun b=>(z7 (qB b) c).getD .skip)=Qg c) (h':(zD c).map (fun q=>(QN (qB q.2) c).getD (.skip,.skip))=zD c):okL f c:=by
 refine⟨fun b hb=>?_,fun q hq=>?_⟩
 ·unfold lbO
  rw[hc]
  obtain⟨i,hi,rfl⟩:=List.mem_iff_getElem.1 hb
  have h1:((Qg c).map (fun b=>(z7 (qB b) c).getD .skip))[i]?=(Qg c)[i]?:=by rw[h]
  rw[qw9,qvX hi] at h1
  simpa using h1
 ·unfold raO rbO
  rw[hc]
  obtain⟨i,hi,rfl⟩:=List.mem_iff_getElem.1 hq
  have h1:((zD c).map (fun q=>(QN (qB q.2) c).getD (.skip,.skip)))[i]?=(zD c)[i]?:=by rw[h']
  rw[qw9,qvX hi] at h1
  simp only[Option.map_some,qwK] at h1
  rw[h1]
  exact⟨rfl,rfl⟩
def XEo (E:Orc) (f k:Nat):Code→S→XS:=XD Try.prog T pol E (D1 Try.prog T pol E f k) Lim f k
def XL2 (E:Orc) (f k key:Nat) (s:S):XS:=Lim (fun s=>(XEo E f k (lbO f key) s).bind (lpx pol f key k)) s
def XM2 (E:Orc) (f k key:Nat) (it:Operand) (s:S):XS:=mlp it (fun s=>(XEo E f k (lbO f key) s).bind (lpx pol f key k)) s
def lp3 (E:Orc) (f k key:Nat) (o:Option Operand) (r:Option S):XS:=r.bind fun s=>match o with
 | none=>XL2 E f k key s
 | some it=>XM2 E f k key it s
def cnd (r:R) (x y:XS):XS:=
 match r with
 | .c (.d (.bool b))=>if b=true then x else y
 | _=>none
def XE2 (E:Orc) (f k:Nat):Code→S→XS
 | .skip,s=>some (.normal,s)
 | .label _,s=>some (.normal,s)
 | .ret,s=>some (.ret,s)
 | .exit id,s=>some (.exit id,s)
 | .seq a b,s=>(XE2 E f k a s).bind (sqD fun s'=>XE2 E f k b s')
 | .block id c,s=>(XE2 E f k c s).bind (bkD id)
 | .scope c,s=>(XE2 E f k c s).bind scD
 | .cond c x y,s=>cnd (s.ev c) (XE2 E f k x (s.ly c tt)) (XE2 E f k y (s.ly c ff))
 | .loop c,s=>lp3 E f k (qB c) (J2 c) (nrm pol f (qB c) k s)
 | .rangeFunc g ps _ b,s=>xRF pol E f g ps.toList (raO f (qB b)) (rbO f (qB b)) ((s.dzr pol.q).frz (q3T (s.dzr pol.q) (pol.rk f (qB b))))
 | c,s=>XEo E f k c s
section
variable {E:Orc} {f k:Nat} {s:S}
theorem qpV (a b:Code):XEo E f k (.seq a b) s=(XEo E f k a s).bind (sqD fun s'=>XEo E f k b s'):=rfl
theorem qib (i:Nat) (b:Code):XEo E f k (.block i b) s=(XEo E f k b s).bind (bkD i):=rfl
theorem qjS (b:Code):XEo E f k (.scope b) s=(XEo E f k b s).bind scD:=rfl
theorem qop (p:Operand) (a b:Code):XEo E f k (.cond p a b) s=cnd (s.ev p) (XEo E f k a (s.ly p tt)) (XEo E f k b (s.ly p ff)):=rfl
theorem qmA (b:Code):XEo E f k (.loop b) s=(nrm pol f (qB b) k s).bind fun s0=>lpM Lim (J2 b) (fun s=>(XEo E f k b s).bind (lpx pol f (qB b) k)) s0:=rfl
theorem qnS:XEo E f k .skip s=some (.normal,s):=rfl
theorem qit (l:Nat):XEo E f k (.label l) s=some (.normal,s):=rfl
theorem qr6:XEo E f k .ret s=some (.ret,s):=rfl
theorem qmU (i:Nat):XEo E f k (.exit i) s=some (.exit i,s):=rfl
theorem qiX (g:Operand) (ps:Array Tmp) (asg bd:Code):XEo E f k (.rangeFunc g ps asg bd) s=xRF pol E f g ps.toList asg bd ((s.dzr pol.q).frz (q3T (s.dzr pol.q) (pol.rk f (qB bd)))):=rfl
theorem qrc (a b:Code):XE2 E f k (.seq a b) s=(XE2 E f k a s).bind (sqD fun s'=>XE2 E f k b s'):=rfl
theorem qia (i:Nat) (b:Code):XE2 E f k (.block i b) s=(XE2 E f k b s).bind (bkD i):=rfl
theorem qiV (b:Code):XE2 E f k (.scope b) s=(XE2 E f k b s).bind scD:=rfl
theorem qnx (p:Operand) (a b:Code):XE2 E f k (.cond p a b) s=cnd (s.ev p) (XE2 E f k a (s.ly p tt)) (XE2 E f k b (s.ly p ff)):=rfl
theorem qh8 (g:Operand) (ps:Array Tmp) (asg bd:Code):XE2 E f k (.rangeFunc g ps asg bd) s=xRF pol E f g ps.toList (raO f (qB bd)) (rbO f (qB bd)) ((s.dzr pol.q).frz (q3T (s.dzr pol.q) (pol.rk f (qB bd)))):=rfl
theorem qlm (b:Code):XE2 E f k (.loop b) s=lp3 E f k (qB b) (J2 b) (nrm pol f (qB b) k s):=rfl
end
theorem q6c {E:Orc} {f k:Nat}:∀(c:Code),okL f c→∀s,XEo E f k c s=XE2 E f k c s:=by
 intro c
 induction c with
 | seq a b iha ihb=>
  intro h s
  have h1:=iha ⟨fun x hx=>h.lo x (qw7 _ hx),fun x hx=>h.ro x (qw7 _ hx)⟩
  have h2:=ihb ⟨fun x hx=>h.lo x (qw4 _ hx),fun x hx=>h.ro x (qw4 _ hx)⟩
  rw[qpV,qrc,h1,funext h2]
 | block id c ih=>intro h s;rw[qib,qia,ih ⟨h.lo,h.ro⟩ s]
 | scope c ih=>intro h s;rw[qjS,qiV,ih ⟨h.lo,h.ro⟩ s]
 | cond x a b iha ihb=>
  intro h s
  have h1:=iha ⟨fun x hx=>h.lo x (qw7 _ hx),fun x hx=>h.ro x (qw7 _ hx)⟩
  have h2:=ihb ⟨fun x hx=>h.lo x (qw4 _ hx),fun x hx=>h.ro x (qw4 _ hx)⟩
  rw[qop,qnx,h1,h2]
 | loop c ih=>
  intro h s
  rw[qmA,qlm]
  unfold lp3 lpM XL2 XM2
  rw[h.lo c qwa]
  cases J2 c<;>rfl
 | rangeFunc g ps a b _ _=>
  intro h s
  obtain⟨h1,h2⟩:=h.ro (a,b) qwa
  rw[qiX,qh8]
  rw[h1,h2]
 | skip=>intro _ s;rw[qnS];rfl
 | label=>intro _ s;rw[qit];rfl
 | ret=>intro _ s;rw[qr6];rfl
 | exit=>intro _ s;rw[qmU];rfl
 | _=>intro _ s;unfold XE2;rfl
def th2 (E:Orc) (f k:Nat) (r:XS) (b:Code):XS:=r.bind (sqD fun s'=>XE2 E f k b s')
def lp2 (E:Orc) (f k key:Nat) (o:Option S):XS:=o.bind fun s=>XL2 E f k key s
def lz2 (f k key:Nat) (r:XS):XS:=r.bind (lpx pol f key k)
def ly2 (e:Exit) (o:Option S):XS:=o.bind fun s=>some (e,s)
def rs2 (E:Orc) (ops:List Oper) (o:Option S) (l:List Oper):Option S:=o.bind fun s=>xr Try.prog T pol E ops l s
def qgs (E:Orc) (ops:List Oper) (A:List (List Nat)) (s0:S) (m:Nat) (o:Option (S×Tx)) (l:List Oper) (acc:List Tx):Option S:=o.bind fun q=>xdp Try.prog T pol E ops A s0 m l q.1 (acc++[q.2])
section
variable {E:Orc} {f k key:Nat} {s:S} {b:Code} {c:Prop} [Decidable c] {x y:XS} {α β:Type} {o:Option α} {g:α→XS} {h:β→XS} {e:α⊕β}
theorem qix:XE2 E f k .skip s=some (.normal,s):=rfl
theorem qkF:XE2 E f k .ret s=some (.ret,s):=rfl
theorem qhw (i:Nat):XE2 E f k (.exit i) s=some (.exit i,s):=rfl
theorem qmG (a:Code):XE2 E f k (.seq a b) s=th2 E f k (XE2 E f k a s) b:=rfl
theorem qeV (i:Nat):XE2 E f k (.block i b) s=bkk i (XE2 E f k b s):=rfl
theorem qhG (p:Operand) (a b:Code):XE2 E f k (.cond p a b) s=match s.ev p with | .c (.d (.bool t))=>if t=true then XE2 E f k a (s.ly p tt) else XE2 E f k b (s.ly p ff)|_=>none:=rfl
theorem qdd (i:Nat) (ops:Array Oper):XE2 E f k (.region i ops false) s=rgn (xr Try.prog T pol E ops.toList ops.toList s):=rfl
theorem qiU (i:Nat) (ops:Array Oper):XE2 E f k (.region i ops true) s=rgn (D1 Try.prog T pol E f k i ops.toList (((s.uwD pol ops.toList).dzr pol.q).frk (pol.rk f i))):=rfl
theorem qed (g:Operand) (ps:Array Tmp) (asg bd:Code):XE2 E f k (.rangeFunc g ps asg bd) s=xRF pol E f g ps.toList (raO f (qB bd)) (rbO f (qB bd)) ((s.dzr pol.q).frz (q3T (s.dzr pol.q) (pol.rk f (qB bd)))):=rfl
theorem qhh:XE2 E f k (.loop b) s=lp3 E f k (qB b) (J2 b) (nrm pol f (qB b) k s):=rfl
theorem qg4 (r:Option S):lp3 E f k key none r=lp2 E f k key r:=rfl
theorem qa6:th2 E f k (some (.normal,s)) b=XE2 E f k b s:=rfl
theorem qiQ:th2 E f k (some (.ret,s)) b=some (.ret,s):=rfl
theorem qfW (i:Nat):th2 E f k (some (.exit i,s)) b=some (.exit i,s):=rfl
theorem qeo:th2 E f k none b=none:=rfl
theorem qk1:th2 E f k (if c then x else y) b=if c then th2 E f k x b else th2 E f k y b:=Zd _ _ _
theorem qfp:th2 E f k (o.bind g) b=o.bind fun a=>th2 E f k (g a) b:=by cases o<;>rfl
theorem qh9:th2 E f k (Sum.elim g h e) b=Sum.elim (fun a=>th2 E f k (g a) b) (fun a=>th2 E f k (h a) b) e:=by cases e<;>rfl
theorem qfG:lp2 E f k key (some s)=XL2 E f k key s:=rfl
theorem q9w:lz2 f k key (some (.normal,s))=ly2 .normal (nrm pol f key k s):=rfl
theorem qjc:lz2 f k key (some (.ret,s))=ly2 .ret (qgL k (pol.kx f key) (s.fnB pol (pol.ab f))):=rfl
theorem qeh (i:Nat):lz2 f k key (some (.exit i,s))=ly2 (.exit i) (qgL k (pol.kx f key) (s.fnB pol (pol.ab f))):=rfl
theorem qeK:lz2 f k key none=none:=rfl
theorem qiT:lz2 f k key (if c then x else y)=if c then lz2 f k key x else lz2 f k key y:=Zd _ _ _
theorem qgf:lz2 f k key (o.bind g)=o.bind fun a=>lz2 f k key (g a):=by cases o<;>rfl
theorem qiR:lz2 f k key (Sum.elim g h e)=Sum.elim (fun a=>lz2 f k key (g a)) (fun a=>lz2 f k key (h a)) e:=by cases e<;>rfl
theorem qec (x:Exit):ly2 x (some s)=some (x,s):=rfl
theorem qhC (i:Nat):bkk i (Sum.elim g h e)=Sum.elim (fun a=>bkk i (g a)) (fun a=>bkk i (h a)) e:=by cases e<;>rfl
theorem qjz (res:List ResultVar) (rt:List TypeId):fnn f k res rt (Sum.elim g h e)=Sum.elim (fun a=>fnn f k res rt (g a)) (fun a=>fnn f k res rt (h a)) e:=by cases e<;>rfl
end
section
variable {E:Orc} {α β γ:Type} {e:α⊕β}
theorem qgg {δ:Type} (g:α→Option γ) (h:β→Option γ) (F:γ→Option δ):(Sum.elim g h e).bind F=Sum.elim (fun a=>(g a).bind F) (fun a=>(h a).bind F) e:=by cases e<;>rfl
theorem qhn (g:α→RS) (h:β→RS) (d:Option Nat):wst (Sum.elim g h e) d=Sum.elim (fun a=>wst (g a) d) (fun a=>wst (h a) d) e:=by cases e<;>rfl
theorem qhu (g:α→Option S) (h:β→Option S):rgn (Sum.elim g h e)=Sum.elim (fun a=>rgn (g a)) (fun a=>rgn (h a)) e:=by cases e<;>rfl
theorem qjH {s:S} (g:α→Option (R×List (Nat×B))) (h:β→Option (R×List (Nat×B))) (bl rw ln:List Nat):cll (Sum.elim g h e) s bl rw ln=Sum.elim (fun a=>cll (g a) s bl rw ln) (fun a=>cll (h a) s bl rw ln) e:=by cases e<;>rfl
end
section
variable {E:Orc} {s:S} {o:Oper} {c:Prop} [Decidable c] {α β:Type} {v:Option α} {e:α⊕β} {ops l:List Oper} {A:List (List Nat)} {s0:S} {m:Nat} {acc:List Tx}
theorem qur:xst Try.prog T pol E o true s=wst (xo Try.prog T pol E (pre pol s o.op) o.op) o.dst:=rfl
theorem quN:xst Try.prog T pol E o false s=if q3q s o.dst=true then some (s.put o.dst (.tup [])) else none:=rfl
theorem qqJ:xsF Try.prog T pol E o true s=alX E s o (alC pol s o.op) (wsF (xo Try.prog T pol E s o.op) s o):=rfl
theorem qqR:xsF Try.prog T pol E o false s=if q3q s o.dst=true then some (s.put o.dst (.tup []),(.tup [],[]),⟨[],[],[],[],[]⟩) else none:=rfl
theorem qqP:xr Try.prog T pol E ops [] s=some s:=rfl
theorem qmp:xr Try.prog T pol E ops (o::l) s=rs2 E ops (xgd Try.prog T pol E ops o s) l:=rfl
theorem qlZ:rs2 E ops (some s) l=xr Try.prog T pol E ops l s:=rfl
theorem qmu:rs2 E ops none l=none:=rfl
theorem qpi (x y:Option S):rs2 E ops (if c then x else y) l=if c then rs2 E ops x l else rs2 E ops y l:=Zd _ _ _
theorem qmQ (g:α→Option S):rs2 E ops (v.bind g) l=v.bind fun a=>rs2 E ops (g a) l:=by cases v<;>rfl
theorem qpc (g:α→Option S) (h:β→Option S):rs2 E ops (Sum.elim g h e) l=Sum.elim (fun a=>rs2 E ops (g a) l) (fun a=>rs2 E ops (h a) l) e:=by cases e<;>rfl
theorem qo9:xdp Try.prog T pol E ops A s0 0 l s acc=if okP A 0 [] acc=true∧okX ops A s0 acc 0 acc=true∧okK ops A acc=true∧okN acc 0 acc=true then xr Try.prog T pol E ops l s else none:=by cases l<;>rfl
theorem qoo:xdp Try.prog T pol E ops A s0 (m+1) (o::l) s acc=qgs E ops A s0 m (xgF Try.prog T pol E ops o s) l acc:=rfl
theorem qjF (x:Tx):qgs E ops A s0 m (some (s,x)) l acc=xdp Try.prog T pol E ops A s0 m l s (acc++[x]):=rfl
theorem qj1:qgs E ops A s0 m none l acc=none:=rfl
theorem qkR (x y:Option (S×Tx)):qgs E ops A s0 m (if c then x else y) l acc=if c then qgs E ops A s0 m x l acc else qgs E ops A s0 m y l acc:=Zd _ _ _
theorem qiJ (g:α→Option (S×Tx)):qgs E ops A s0 m (v.bind g) l acc=v.bind fun a=>qgs E ops A s0 m (g a) l acc:=by cases v<;>rfl
theorem qmk (g:FuncId) (zs:List (List Nat)) (rs:List R) (bl rw ln:List Nat):Zh E s g zs rs bl rw ln=(qav s (bl++rw) ln zs rs).bind fun rs'=>(cvG s (bl++rw) (bl++rw) 0).bind fun G=>
  if(bl++rw).all (fun i=>(s.blk i).live)=true∧(bl++rw).Nodup∧ln.all (fun i=>(s.blk i).live && !(bl++rw).contains i)=true∧bl.length≤G.length∧(List.range G.length).all (fun j=>(lk G j .dead).isBlk==decide (j<bl.length))=true then cll (E (.fn g) bl.length rs' G) s bl rw ln else none:=rfl
theorem qhc (rid:Nat) (f:FuncId) (asg bd:Code) (rs:List R) (bl rw ln:List Nat):q1k E s rid f asg bd rs bl rw ln=(cvG s (bl++rw) (bl++rw) 0).bind fun G=>
  if(bl++rw).all (fun i=>(s.blk i).live)=true∧(bl++rw).Nodup∧ln.all (fun i=>(s.blk i).live && !(bl++rw).contains i)=true∧bl.length≤G.length∧(List.range G.length).all (fun j=>(lk G j .dead).isBlk==decide (j<bl.length))=true∧0<bl.length∧(bl++rw)[bl.length-1]?=some rid then
   cll (E (.rd f asg bd) bl.length (rs.map (cvT s (bl++rw) ln)) G) s bl rw ln else none:=rfl
theorem qut (f:Nat) (asg bd:Code) (g:Operand) (ps:List Nat):xRF pol E f g ps asg bd s=match s.ev g with
 | .c (.fn g' fs caps)=>rfk s.n (q43 E (s.rf f (q80 s (pol.rk f (qB bd))) ps asg bd) g' (pol.ow g') [] (fs.map R.c++[.c (.hd .yield s.nx)]++caps.map R.c))
 | _=>none:=rfl
end
theorem qnN (g k:Nat) (a:List R) (G:List (Nat×B)):evo (.fn g) k a G=ev g k a G:=rfl
def q6G (E:Orc) (f k:Nat) (args:List R) (G:List (Nat×B)):Option (R×List (Nat×B)):=(qy Try.prog pol f).bind fun bd=>q2I Try.prog T pol (D1 Try.prog T pol) E Lim f k args G bd
theorem qi {f n:Nat} {c:Code} {res:List ResultVar} {rt:List TypeId} (hb:qy Try.prog pol f=some ⟨c,n,res,rt⟩):q21 f=c:=by unfold q21;rw[hb];rfl
theorem q5g {E:Orc} {f n:Nat} {c:Code} {res:List ResultVar} {rt:List TypeId} (hb:qy Try.prog pol f=some ⟨c,n,res,rt⟩) (hl:okL f c) (k:Nat) (args:List R) (G:List (Nat×B)) :
  q6G E f k args G=if args.length≤n then fnn f k res rt (XE2 E f k c ⟨JX args 0,G,G.length,n⟩) else none:=by
 unfold q6G
 rw[hb,qvV]
 unfold q2I
 split
 ·show Option.bind (XEo E f k c _) _=_
  rw[q6c c hl]
  rfl
 ·rfl
theorem qcN {f k:Nat} (hp:pol.pr f=none) (args:List R) (G:List (Nat×B)):ev f k args G=q6G evo f k args G:=by rw[qdQ,hp];rfl
theorem qD {f n:Nat} {c:Code} {res:List ResultVar} {rt:List TypeId} (hb:qy Try.prog pol f=some ⟨c,n,res,rt⟩) (hp:pol.pr f=none) (hl:okL f c) (k:Nat) (args:List R) (G:List (Nat×B)) :
  ev f k args G=if args.length≤n then fnn f k res rt (XE2 evo f k c ⟨JX args 0,G,G.length,n⟩) else none:=by
 rw[qcN hp,q5g hb hl]
section
variable {σ ε:Type}
def itT (step:σ→Option (σ⊕ε)):Nat→σ→Option ε
 | 0,_=>none
 | n+1,x=>(step x).bind (Sum.elim (itT step n) some)
theorem q5n {step:σ→Option (σ⊕ε)}:∀{n m:Nat},n≤m→∀x r,itT step n x=some r→itT step m x=some r
 | 0,_,_,x,r,h=>by cases h
 | n+1,0,h,_,_,_=>by omega
 | n+1,m+1,h,x,r,hx=>by
  unfold itT at hx ⊢
  obtain⟨a,h1,h2⟩:=qw0.1 hx
  rw[h1,qvV]
  cases a with
  | inl y=>exact q5n (by omega) y r h2
  | inr e=>exact h2
def qG (step:σ→Option (σ⊕ε)) (x:σ):Option ε:=open Classical in if h:∃r n,itT step n x=some r then some (Classical.choose h) else none
theorem q5e {step:σ→Option (σ⊕ε)} {n:Nat} {x:σ} {r:ε} (h:itT step n x=some r):qG step x=some r:=by
 have hex:∃r n,itT step n x=some r:=⟨r,n,h⟩
 unfold qG
 rw[dif_pos hex]
 obtain⟨m,hm⟩:=Classical.choose_spec hex
 have h1:=q5n (Nat.le_max_left n m) _ _ h
 have h2:=q5n (Nat.le_max_right n m) _ _ hm
 rw[h1] at h2
 injection h2 with h2
 rw[←h2]
theorem q3R {step:σ→Option (σ⊕ε)} {x:σ} {r:ε} (h:qG step x=some r):∃n,itT step n x=some r:=by
 unfold qG at h
 split at h
 ·rename_i hex
  injection h with h
  obtain⟨m,hm⟩:=Classical.choose_spec hex
  exact⟨m,h ▸ hm⟩
 ·cases h
theorem qcj (step:σ→Option (σ⊕ε)) (x:σ):qG step x=(step x).bind (Sum.elim (qG step) some):=by
 refine q3D (fun r h=>?_) (fun r h=>?_)
 ·obtain⟨n,hn⟩:=q3R h
  cases n with
  | zero=>cases hn
  | succ n=>
   unfold itT at hn
   obtain⟨a,h1,h2⟩:=qw0.1 hn
   rw[h1,qvV]
   cases a with
   | inl y=>exact q5e h2
   | inr e=>exact h2
 ·obtain⟨a,h1,h2⟩:=qw0.1 h
  cases a with
  | inl y=>
   obtain⟨n,hn⟩:=q3R h2
   refine q5e (n:=n+1) ?_
   unfold itT
   rw[h1];exact hn
  | inr e=>
   refine q5e (n:=1) ?_
   unfold itT
   rw[h1];exact h2
end
theorem qiz {F:S→XS} {σ ε:Type} {st:σ→S} {ex:ε→Exit×S} {step:σ→Option (σ⊕ε)} (hne:∀e,(ex e).1 ≠ .normal)
  (h:∀x,F (st x)=(step x).bind (Sum.elim (fun y=>some (.normal,st y)) (fun e=>some (ex e)))) (x:σ):Lim F (st x)=(qG step x).bind fun e=>some (ex e):=by
 have hit:∀(n:Nat) (x:σ),iter n F (st x)=(itT step n x).bind fun e=>some (ex e):=by
  intro n
  induction n with
  | zero=>intro x;rfl
  | succ n ih=>
   intro x
   unfold iter itT
   rw[h x]
   cases step x with
   | none=>rfl
   | some a=>
    cases a with
    | inl y=>exact ih y
    | inr e=>
     show sqD (iter n F) (ex e)=some (ex e)
     have:=hne e
     generalize ex e=q at this
     obtain⟨z,t⟩:=q
     cases z<;>first|exact absurd rfl this|rfl
 refine q3D (fun r hr=>?_) (fun r hr=>?_)
 ·obtain⟨n,hn⟩:=q3r hr
  rw[hit n x] at hn
  obtain⟨e,h1,h2⟩:=qw0.1 hn
  rw[q5e h1];exact h2
 ·obtain⟨e,h1,h2⟩:=qw0.1 hr
  obtain⟨n,hn⟩:=q3R h1
  refine q6z (n:=n) ?_
  rw[hit n x,hn];exact h2
theorem q7X {E:Orc} {f k key:Nat} {c:Code} {σ ε:Type} {st:σ→S} {ex:ε→Exit×S} {step:σ→Option (σ⊕ε)} (hc:lbO f key=c) (hl:okL f c) (hne:∀e,(ex e).1 ≠ .normal)
  (h:∀x,lz2 f k key (XE2 E f k c (st x))=(step x).bind (Sum.elim (fun y=>some (.normal,st y)) (fun e=>some (ex e)))) (x:σ):XL2 E f k key (st x)=(qG step x).bind fun e=>some (ex e):=by
 refine qiz hne (fun x=>?_) x
 rw[hc,q6c c hl]
 exact h x
def xk (E:Orc) (f k key:Nat) (r:XS):XS:=r.bind fun p=>match p.1 with | .normal=>XL2 E f k key p.2|e=>some (e,p.2)
section
variable {E:Orc} {f k key:Nat} {s:S} {c:Prop} [Decidable c] {α β:Type} {o:Option α} {g:α→XS} {h:β→XS} {e:α⊕β}
theorem q4j:xk E f k key (some (.normal,s))=XL2 E f k key s:=rfl
theorem q7C (i:Nat):xk E f k key (some (.exit i,s))=some (.exit i,s):=rfl
theorem qca:xk E f k key (some (.ret,s))=some (.ret,s):=rfl
theorem q84:xk E f k key none=none:=rfl
theorem qaO (x y:XS):xk E f k key (if c then x else y)=if c then xk E f k key x else xk E f k key y:=Zd _ _ _
theorem q7p:xk E f k key (o.bind g)=o.bind fun a=>xk E f k key (g a):=by cases o<;>rfl
theorem qaT:xk E f k key (Sum.elim g h e)=Sum.elim (fun a=>xk E f k key (g a)) (fun a=>xk E f k key (h a)) e:=by cases e<;>rfl
end
theorem q7Y {E:Orc} {f k key:Nat} {c:Code} {s:S} (hc:lbO f key=c) (hl:okL f c):XL2 E f k key s=xk E f k key (lz2 f k key (XE2 E f k c s)):=by
 unfold XL2
 rw[qmR,hc,q6c c hl]
 show(lz2 f k key (XE2 E f k c s)).bind _=_
 unfold xk
 congr 1
 funext p
 obtain⟨e,t⟩:=p
 cases e<;>first|rfl|(show Lim _ t=Lim _ t;rw[hc])
theorem ZG {α:Type} {c:Prop} [Decidable c] (x y:α):(if c then some x else some y)=some (if c then x else y):=by split<;>rfl
theorem Q3 {f key:Nat} {c b:Code} (hc:q21 f=c) (h:(z7 key c).getD .skip=b):lbO f key=b:=by unfold lbO;rw[hc];exact h
theorem zh {f:Nat} {c b:Code} (hl:okL f c) (hb:b∈Qg c):okL f b:=⟨fun x hx=>hl.lo x ((q4h c b hb).1 x hx),fun q hq=>hl.ro q ((q4h c b hb).2 q hq)⟩
theorem qn4 {f key:Nat} {c:Code} {q:Code×Code} (hl:okL f c) (hq:q∈zD c):okL f q.1∧okL f q.2:=
 ⟨⟨fun x hx=>hl.lo x ((J5 c q hq).1 x (qw7 _ hx)),fun x hx=>hl.ro x ((J5 c q hq).2 x (qw7 _ hx))⟩,
   ⟨fun x hx=>hl.lo x ((J5 c q hq).1 x (qw4 _ hx)),fun x hx=>hl.ro x ((J5 c q hq).2 x (qw4 _ hx))⟩⟩
def rn2 (f k key:Nat) (o:Option B) (s:S):Option (R×List (Nat×B)):=o.bind fun b=>rd3 k (XE2 evo f k (rbO f key) (s.up [(k-1,b)]))
def rn1 (f k key:Nat) (r:XS):Option (R×List (Nat×B)):=r.bind fun p=>match p.1 with | .normal=>rn2 f k key (rdB (p.2.blk (k-1))) p.2|_=>none
section
variable {f k key:Nat} {s:S} {c:Prop} [Decidable c] {α β:Type} {o:Option α} {g:α→XS} {h:β→XS} {e:α⊕β}
theorem qaj:rn1 f k key (some (.normal,s))=rn2 f k key (rdB (s.blk (k-1))) s:=rfl
theorem qfx (b:B):rn2 f k key (some b) s=rd3 k (XE2 evo f k (rbO f key) (s.up [(k-1,b)])):=rfl
end
theorem qjL {f key k:Nat} {asg bd:Code} (ha:raO f key=asg) (hb:rbO f key=bd) (hk:0<k) (hc:q1w (drq pol f) false asg=true∧q1w (drq pol f) false bd=true) (la:okL f asg) (lb:okL f bd) (tm:List R) (G:List (Nat×B)) :
  evr f (raO f key) (rbO f key) k tm G=rn1 f k key (XE2 evo f k (raO f key) ⟨JX tm 0,G,G.length,tm.length⟩):=by
 rw[qla ha hb hk hc tm G,ha]
 have e1:∀s,XE f k asg s=XE2 evo f k asg s:=fun s=>q6c asg la s
 have e2:∀s,XE f k bd s=XE2 evo f k bd s:=fun s=>q6c bd lb s
 rw[e1]
 unfold rd1 rn1
 congr 1
 funext p
 obtain⟨x,t⟩:=p
 cases x<;>first
  | rfl
  | (show rd2 f k bd t (rdB (t.blk (k-1)))=rn2 f k key (rdB (t.blk (k-1))) t
     unfold rd2 rn2
     rw[hb]
     congr 1
     funext b
     rw[e2])
theorem qlc {f key:Nat} {c b:Code} (hc:q21 f=c) (h:((QN key c).getD (.skip,.skip)).1=b):raO f key=b:=by unfold raO;rw[hc];exact h
theorem qmx {f key:Nat} {c b:Code} (hc:q21 f=c) (h:((QN key c).getD (.skip,.skip)).2=b):rbO f key=b:=by unfold rbO;rw[hc];exact h
section
variable {σ ε:Type} (f k:Nat) (enc:σ→List R×List (Nat×B)) (ex:ε→R×List (Nat×B))
def ovr (F:σ→Option ε):Orc:=fun g k' args G=>open Classical in if h:(g = .fn f∧k'=k)∧∃y,enc y=(args,G) then(F (Classical.choose h.2)).bind fun e=>some (ex e) else evo g k' args G
def q4B (y:σ):Option ε:=open Classical in if h:∃e,ev f k (enc y).1 (enc y).2=some (ex e) then some (Classical.choose h) else none
variable {f k enc ex}
theorem qi5 (hi:∀y z,enc y=enc z→y=z) (F:σ→Option ε) (y:σ):ovr f k enc ex F (.fn f) k (enc y).1 (enc y).2=(F y).bind fun e=>some (ex e):=by
 have h:((Fx.fn f=Fx.fn f)∧k=k)∧∃z,enc z=((enc y).1,(enc y).2):=⟨⟨rfl,rfl⟩,y,rfl⟩
 unfold ovr
 rw[dif_pos h]
 rw[hi _ _ ((Classical.choose_spec h.2).trans rfl)]
theorem qel (F:σ→Option ε) (g k':Nat) (a:List R) (G:List (Nat×B)) (h:g≠f):ovr f k enc ex F (.fn g) k' a G=ev g k' a G:=by
 unfold ovr
 rw[dif_neg (fun h'=>h (by injection h'.1.1))]
 rfl
theorem qkj (F:σ→Option ε) (g:Nat) (asg bd:Code) (k':Nat) (a:List R) (G:List (Nat×B)):ovr f k enc ex F (.rd g asg bd) k' a G=evr g asg bd k' a G:=by
 unfold ovr
 rw[dif_neg (fun h'=>by cases h'.1.1)]
 rfl
def q6i (f k:Nat) (enc:σ→List R×List (Nat×B)) (ex:ε→R×List (Nat×B)) (step:(σ→Option ε)→σ→Option ε):Prop:=
 ∀(E:Orc) (F:σ→Option ε),(∀y,E (.fn f) k (enc y).1 (enc y).2=(F y).bind fun e=>some (ex e))→(∀g k' a G,g≠f→E (.fn g) k' a G=ev g k' a G)→(∀g asg bd k' a G,E (.rd g asg bd) k' a G=evr g asg bd k' a G)→
  ∀y,q6G E f k (enc y).1 (enc y).2=(step F y).bind fun e=>some (ex e)
theorem qa0 {E E':Orc} (h:OLe E E') (L:(S→XS)→S→XS) (hL:LLe L Lim) {f k:Nat} {args:List R} {G:List (Nat×B)} {bd:Bd} {x:R×List (Nat×B)} (hb:qy Try.prog pol f=some bd) (hx:q2I Try.prog T pol (D1 Try.prog T pol) E L f k args G bd=some x):q6G E' f k args G=some x:=by
 unfold q6G
 rw[hb,qvV]
 exact q4R q3N h hL hx
theorem qhI (hp:pol.pr f=none) (hi:∀y z,enc y=enc z→y=z) {step:(σ→Option ε)→σ→Option ε} (hs:q6i f k enc ex step) :
  ∀(n:Nat) (y:σ) (z:R×List (Nat×B)),xf Try.prog T pol (D1 Try.prog T pol) n (.fn f) k (enc y).1 (enc y).2=some z→∃e,z=ex e:=by
 intro n
 induction n with
 | zero=>intro y z h;cases h
 | succ n ih=>
  intro y z h
  obtain⟨F,hF⟩:∃F:σ→Option ε,∀y z,xf Try.prog T pol (D1 Try.prog T pol) n (.fn f) k (enc y).1 (enc y).2=some z→(F y).bind (fun e=>some (ex e))=some z:=by
   refine⟨fun y=>open Classical in if h:∃e,xf Try.prog T pol (D1 Try.prog T pol) n (.fn f) k (enc y).1 (enc y).2=some (ex e) then some (Classical.choose h) else none,fun y z hz=>?_⟩
   obtain⟨e,rfl⟩:=ih y z hz
   have hex:∃e,xf Try.prog T pol (D1 Try.prog T pol) n (.fn f) k (enc y).1 (enc y).2=some (ex e):=⟨e,hz⟩
   simp only[dif_pos hex,qvV]
   rw[←Classical.choose_spec hex,hz]
  have hle:OLe (xf Try.prog T pol (D1 Try.prog T pol) n) (ovr f k enc ex F):=by
   intro g k' args G x hx
   unfold ovr
   split
   ·rename_i hh
    obtain⟨⟨rfl,rfl⟩,hy⟩:=hh
    have e1:=Classical.choose_spec hy
    refine hF _ _ ?_
    rw[e1];exact hx
   ·exact q9N q3N _ _ _ _ _ hx
  have h2:∃bd,qy Try.prog pol f=some bd∧q2I Try.prog T pol (D1 Try.prog T pol) (xf Try.prog T pol (D1 Try.prog T pol) n) (iter n) f k (enc y).1 (enc y).2 bd=some z:=by
   have h3:fnx Try.prog T pol (D1 Try.prog T pol) (xf Try.prog T pol (D1 Try.prog T pol) n) (iter n) f k (enc y).1 (enc y).2=some z:=h
   unfold fnx at h3
   rw[hp] at h3
   exact qw0.1 h3
  obtain⟨bd,hb,hx⟩:=h2
  have h4:=qa0 hle (iter n) (q6Z n) hb hx
  rw[hs _ F (qi5 hi F) (qel F) (qkj F) y] at h4
  obtain⟨e,-,h5⟩:=qw0.1 h4
  injection h5 with h5
  exact⟨e,h5.symm⟩
theorem q8k (hp:pol.pr f=none) (hi:∀y z,enc y=enc z→y=z) {step:(σ→Option ε)→σ→Option ε} (hs:q6i f k enc ex step) (y:σ):ev f k (enc y).1 (enc y).2=(q4B f k enc ex y).bind fun e=>some (ex e):=by
 unfold q4B
 split
 ·rename_i h
  rw[qvV]
  exact Classical.choose_spec h
 ·rename_i h
  cases hv:ev f k (enc y).1 (enc y).2 with
  | none=>rfl
  | some z=>
   obtain⟨n,hn⟩:=q2C (show EE Try.prog T pol (D1 Try.prog T pol) (.fn f) k (enc y).1 (enc y).2=some z from hv)
   obtain⟨e,rfl⟩:=qhI hp hi hs n y z hn
   exact absurd ⟨e,hv⟩ h
theorem qgp (hp:pol.pr f=none) (hi:∀y z,enc y=enc z→y=z) (hj:∀d e,ex d=ex e→d=e) {step:(σ→Option ε)→σ→Option ε} (hs:q6i f k enc ex step) (y:σ):q4B f k enc ex y=step (q4B f k enc ex) y:=by
 have h1:=hs evo (q4B f k enc ex) (q8k hp hi hs) (fun _ _ _ _ _=>rfl) (fun _ _ _ _ _ _=>rfl) y
 rw[←qcN hp,q8k hp hi hs y] at h1
 cases h2:q4B f k enc ex y with
 | none=>
  rw[h2] at h1
  cases h3:step (q4B f k enc ex) y with
  | none=>rfl
  | some e=>rw[h3] at h1;cases h1
 | some d=>
  rw[h2] at h1
  cases h3:step (q4B f k enc ex) y with
  | none=>rw[h3] at h1;cases h1
  | some e=>
   rw[h3] at h1
   injection h1 with h1
   rw[hj _ _ h1]
end
end
noncomputable section
open Go.RowKit
section
variable {α:Type} {E:α→List D} {n:Nat}
theorem q7h (h:∀x,(E x).length=n):∀(v:List α) (a:Nat),(v.flatMap E).drop (a*n)=(v.drop a).flatMap E
 | [],a=>by simp
 | x::v,0=>by simp
 | x::v,a+1=>by
  rw[qwY,show(a+1)*n=(E x).length+a*n by rw[h,Nat.add_mul];omega,List.drop_length_add_append]
  exact q7h h v a
theorem q7S (h:∀x,(E x).length=n):∀(v:List α) (a:Nat),(v.flatMap E).take (a*n)=(v.take a).flatMap E
 | [],a=>by simp
 | x::v,0=>by simp
 | x::v,a+1=>by
  rw[qwY,show(a+1)*n=(E x).length+a*n by rw[h,Nat.add_mul];omega,List.take_length_add_append,List.take_succ_cons,qwY,q7S h v a]
theorem q3E (v:List α) (x:α):(v.flatMap E).map C.d++(E x).map C.d=((v++[x]).flatMap E).map C.d:=by simp
theorem qcn {β:Type}:∀(ys p q:List β) (o:Nat),o+ys.length≤p.length→spl (p++q) o ys=spl p o ys++q
 | [],p,q,o,_=>rfl
 | y::ys,p,q,o,h=>by
  rw[qw6] at h
  rw[spl,spl,List.set_append_left _ _ (by omega),qcn ys _ q (o+1) (by rw[qwG];omega)]
theorem q9k {β:Type}:∀(ys p q:List β) (o:Nat),spl (p++q) (p.length+o) ys=p++spl q o ys
 | [],p,q,o=>rfl
 | y::ys,p,q,o=>by
  rw[spl,spl,List.set_append_right _ _ (by omega),show p.length+o-p.length=o by omega,show p.length+o+1=p.length+(o+1) by omega,q9k ys]
theorem q8z {β:Type}:∀(ys p pre:List β),p.length=ys.length→spl (pre++p) pre.length ys=pre++ys
 | [],p,pre,h=>by rw[qwe h];rfl
 | y::ys,[],pre,h=>by cases h
 | y::ys,x::p,pre,h=>by
  have e:(pre++x::p).set pre.length y=(pre++[y])++p:=by rw[List.set_append_right _ _ (qwb _),Nat.sub_self];simp
  rw[spl,e,show pre.length+1=(pre++[y]).length by simp,q8z ys p _ (by simpa using h)]
  simp
theorem qcr {β:Type}:∀(ys:List β) (o:Nat),spl [] o ys=[]
 | [],o=>rfl
 | y::ys,o=>by rw[spl,List.set_nil,qcr ys]
theorem qc1 (h:∀x,(E x).length=n):∀(v:List α) (i:Nat) (x:α),spl (v.flatMap E) (i*n) (E x)=(v.set i x).flatMap E
 | [],i,x=>by rw[List.flatMap_nil,qcr];rfl
 | y::v,0,x=>by
  rw[qwY,Nat.zero_mul,qcn _ _ _ _ (by rw[h,h];omega)]
  have:=q8z (E x) (E y) [] (by rw[h,h])
  simp only[qwf,qwE] at this
  rw[this];rfl
 | y::v,i+1,x=>by
  rw[qwY,show(i+1)*n=(E y).length+i*n by rw[h,Nat.add_mul];omega,q9k,qc1 h v i x]
  rfl
theorem q5u {β γ:Type} (f:β→γ):∀(ys cs:List β) (o:Nat),spl (cs.map f) o (ys.map f)=(spl cs o ys).map f
 | [],cs,o=>rfl
 | y::ys,cs,o=>by rw[qwi,spl,spl,←List.map_set,q5u f ys]
theorem q74 (h:∀x,(E x).length=n) (v:List α) (i:Nat) (x:α):spl ((v.flatMap E).map C.d) (i*n) ((E x).map C.d)=((v.set i x).flatMap E).map C.d:=by rw[q5u,qc1 h]
theorem qcD {β:Type}:∀(ys zs cs:List β) (o:Nat),spl cs o (ys++zs)=spl (spl cs o ys) (o+ys.length) zs
 | [],zs,cs,o=>rfl
 | y::ys,zs,cs,o=>by rw[qwZ,spl,spl,qcD ys,qw6,show o+1+ys.length=o+(ys.length+1) by omega]
theorem qde (h:∀x,(E x).length=n):∀(w v:List α) (i:Nat),spl (v.flatMap E) (i*n) (w.flatMap E)=(spl v i w).flatMap E
 | [],v,i=>rfl
 | x::w,v,i=>by rw[qwY,qcD,qc1 h,h,spl,show i*n+n=(i+1)*n by rw[Nat.add_mul];omega,qde h w]
theorem qn6 (m:Nat) (x:α):(List.replicate m (E x)).flatten=(List.replicate m x).flatMap E:=by
 rw[List.flatMap_def,List.map_replicate]
theorem qin {cs:List C} (x:α) (hx:cs=(E x).map C.d) (m:Nat):(List.replicate m cs).flatten=((List.replicate m x).flatMap E).map C.d:=by
 subst hx
 rw[←qn6,List.map_flatten,List.map_replicate]
end
theorem QK {α:Type} {E:α→List D} {n:Nat} (h:∀x,(E x).length=n) (hn:0<n) (hi:∀x y,E x=E y→x=y):∀(v w:List α),v.flatMap E=w.flatMap E→v=w
 | [],[],_=>rfl
 | [],y::w,e=>by
  have:=congrArg List.length e
  rw[qwY,qw2,h] at this
  simp at this;omega
 | x::v,[],e=>by
  have:=congrArg List.length e
  rw[qwY,qw2,h] at this
  simp at this;omega
 | x::v,y::w,e=>by
  rw[qwY,qwY] at e
  obtain⟨h1,h2⟩:=List.append_inj e (by rw[h,h])
  rw[hi x y h1,QK h hn hi v w h2]
theorem q3h (a b:List D):(a.map C.d=b.map C.d)=(a=b):=by
 refine propext ⟨fun h=>?_,fun h=>by rw[h]⟩
 induction a generalizing b with
 | nil=>cases b with|nil=>rfl|cons=>cases h
 | cons x a ih=>
  cases b with
  | nil=>cases h
  | cons y b=>
   rw[qwi,qwi] at h
   injection h with h1 h2
   injection h1 with h1
   rw[h1,ih b h2]
def eI (x:Int):List D:=[.int .i64 x]
def eS (x:ByteArray):List D:=[.str x]
def eL {α:Type} (n:Nat) (E:α→List D) (v:List α):List D:=[.sl n v.length (v.flatMap E)]
theorem qbE {α β γ:Type} (f:β→γ) (o:Option α) (g:α→Option β):(o.bind g).map f=o.bind fun x=>(g x).map f:=by cases o<;>rfl
theorem qiS (P:Program) (T:Ty) (d:Nat) (t:TypeId) (x y:R):eqR P T (d+1) t x y =
  match T.k t,x,y with
  | .int _,.c (.d (.int k a)),.c (.d (.int k' b))=>if k=k' then some (a==b) else none
  | .bool,.c (.d (.bool a)),.c (.d (.bool b))=>some (a==b)
  | .str,.c (.d (.str a)),.c (.d (.str b))=>some (a.toList==b.toList)
  | .st fs,.agg xs,.agg ys=>if q61 P t=true then qb2 T (eqR P T d) xs ys fs else none
  | .arr n e,.agg xs,.agg ys=>if qjA P t=true∧T.k e ≠ .other then qb2 T (eqR P T d) xs ys (qbM (T.sz e) e n 0) else none
  | _,_,_=>none:=by
 generalize hk:T.k t=kd
 unfold eqR
 rw[hk]
 cases kd<;>first
  | rfl
  | (rcases x with (c|_|_|_)<;>first
    | rfl
    | (rcases y with (c' | _|_|_)<;>first
      | rfl
      | (cases c<;>first
        | rfl
        | (cases c'<;>first
          | rfl
          | (rename_i d1 d2;cases d1<;>first
            | rfl
            | (cases d2<;>rfl))))))
section
variable {α β:Type} {c:Prop} [Decidable c] (a b:List α)
theorem qhs (f:α→Bool):(if c then a else b).any f=if c then a.any f else b.any f:=by split<;>rfl
theorem qhK (f:α→Bool):(if c then a else b).all f=if c then a.all f else b.all f:=by split<;>rfl
theorem qiE (f:α→β):(if c then a else b).map f=if c then a.map f else b.map f:=by split<;>rfl
theorem q76:(if c then a else b).isEmpty=if c then a.isEmpty else b.isEmpty:=by split<;>rfl
theorem q6I [BEq α] (x:α):(if c then a else b).contains x=if c then a.contains x else b.contains x:=by split<;>rfl
end
def qri (op:UnOp) (r:R) (s:S):RS:=
 match op,r with
 | .not,.c (.d (.bool b))=>some (.c (.d (.bool (!b))),s)
 | .neg,.c (.d (.int k n))=>some (.c (.d (.int k (k.wrap (0-n)))),s)
 | _,_=>none
theorem qnw (s:S) (op:UnOp) (x:Operand):xUn s op x=qri op (s.ev x) s:=by
 unfold xUn qri
 generalize s.ev x=r
 cases op<;>first
  | rfl
  | (cases r with
     | c c=>cases c with
      | d d=>cases d<;>rfl
      | _=>rfl
     | _=>rfl)
def lkq (ok:Bool) (z:R):Option (Nat×R×Nat)→Option R
 | some q=>some (tt2 q.2.1 ok true)
 | none=>some (tt2 z ok false)
theorem q9J (T:Ty) (s:S) (t:TypeId) (x y:Operand) (ok:Bool):JN T s t x y ok =
  match T.k t,q2b s x,(s.ev y).key with
  | .mp k e,some es,some kv=>if plK (T.k k) kv=true∧es.all (fun q=>plK (T.k k) q.1)=true then(zR T e).bind fun z=>lkq ok z (fnd kv es 0) else none
  | _,_,_=>none:=by
 unfold JN
 generalize T.k t=kd
 generalize q2b s x=m
 generalize (s.ev y).key=v
 cases kd<;>first
  | rfl
  | (cases m<;>first
    | rfl
    | (cases v<;>first
      | rfl
      | (simp only
         split
         ·congr 1
          funext z
          cases fnd _ _ _<;>rfl
         ·rfl)))
theorem qd2 (xs ys:List C):(xs++ys).flatMap C.rows=xs.flatMap C.rows++ys.flatMap C.rows:=List.flatMap_append
theorem qd7 (zs0:List Nat):∀(zs:List Nat) (ds:List D) (ys:List C),zs.length=ds.length→dzc zs0 zs (ds.map C.d++ys)=ds.map C.d++dzc zs0 [] ys
 | [],[],ys,_=>rfl
 | [],d::ds,ys,h=>by cases h
 | z::zs,[],ys,h=>by cases h
 | z::zs,d::ds,ys,h=>by
  rw[qwi,qwZ,dzc,qd7 zs0 zs ds ys (by simpa using h)]
  rfl
theorem qgQ {α:Type} {E:α→List D} {n:Nat} (h:∀x,(E x).length=n+1) (zs0:List Nat) (h0:zs0.length=n+1):∀(v:List α) (ys:List C),dzc zs0 [] ((v.flatMap E).map C.d++ys)=(v.flatMap E).map C.d++dzc zs0 [] ys
 | [],ys=>rfl
 | x::v,ys=>by
  have hx:=h x
  rw[qwY,List.map_append,qwA,qwA,←qgQ h zs0 h0 v ys]
  cases hE:E x with
  | nil=>rw[hE] at hx;cases hx
  | cons d ds=>
   rw[hE] at hx
   rw[qwi,qwZ,dzc,qd7 zs0 zs0.tail ds _ (by rw[List.length_tail];simp at hx;omega)]
   rfl
def qoW {α:Type} (a b:Option α):Prop:=∀r,a=some r→b=some r
theorem qoW.bind {α β:Type} {a b:Option α} {f g:α→Option β} (h:qoW a b) (hf:∀x,qoW (f x) (g x)):qoW (a.bind f) (b.bind g):=fun r hr=>by
 obtain⟨x,h1,h2⟩:=qw0.1 hr
 rw[h x h1]
 exact hf x r h2
def spr (cs:List C) (o:Nat) (ys:List C):List C:=spl cs o ys
theorem qcz (t:TypeId) (cs ys:List C) (o:Nat):(B.blk t cs).set o ys = .blk t (spl cs o ys):=rfl
theorem qd1 (e:TypeId) (sz:Nat) (cs ys:List C) (o:Nat):(B.row e sz cs).set o ys = .row e sz (spr cs o ys):=rfl
theorem qgh (c:C) (cs ys:List C) (o:Nat):spr (c::cs) o ys=spl (c::cs) o ys:=rfl
def xsl (T:Ty) (s:S) (t:TypeId) (x:R) (lo hi:Option Operand):RS:=
 match x,T.k t with
 | .c (.d (.str b)),.str=>
  match s.bd lo 0,s.bd hi b.size with
  | some l,some h=>if 0≤l∧l≤h∧h≤b.size then some (.c (.d (.str (b.extract l.toNat h.toNat))),s) else none
  | _,_=>none
 | .c (.d (.sl sz n cs)),.sl e=>
  if T.k e ≠ .other∧T.sz e=sz then
   match s.bd lo 0,s.bd hi n with
   | some l,some h=>if 0≤l∧l≤h∧h≤n then some (.c (.d (.sl sz (h.toNat-l.toNat) ((cs.drop (l.toNat*sz)).take ((h.toNat-l.toNat)*sz)))),s) else none
   | _,_=>none
  else none
 | .c (.own id sz off n),.sl e=>
  if T.k e ≠ .other∧T.sz e=sz then
   match s.bd lo 0,s.bd hi n with
   | some l,some h=>if 0≤l∧l≤h∧h≤n then(if l=0∨l<n then some (.c (.own id sz (off+l.toNat) (h.toNat-l.toNat)),s) else some (.c (.d (.sl sz 0 [])),s)) else none
   | _,_=>none
  else none
 | .c .nils,.sl e=>
  if T.k e ≠ .other then
   match s.bd lo 0,s.bd hi 0 with
   | some l,some h=>if l=0∧h=0 then some (.c .nils,s) else none
   | _,_=>none
  else none
 | _,_=>none
theorem qcB (T:Ty) (s:S) (t:TypeId) (x:Operand) (lo hi:Option Operand):q6H T s t x lo hi none=xsl T s t (s.ev x) lo hi:=by
 unfold q6H xsl
 generalize s.ev x=r
 generalize T.k t=kd
 cases r with
 | c c=>
  cases c with
  | d d=>cases d<;>cases kd<;>rfl
  | _=>cases kd<;>rfl
 | _=>rfl
theorem qnC (b:Bool):((if(!b)=true then true else false)||b)=true:=by cases b<;>rfl
def xcl (T:Ty) (s:S) (hi mx:Option Operand):Kd→R→RS
 | .sl e,.c (.d (.sl sz n cs))=>if T.k e ≠ .other∧T.sz e=sz then(match s.bd hi 0,s.bd mx 0 with|some h,some m=>if h=(n:Int)∧m=(n:Int) then some (.c (.clp sz n cs),s) else none|_,_=>none) else none
 | .sl e,.c .nils=>if T.k e ≠ .other then(match s.bd hi 0,s.bd mx 0 with|some h,some m=>if h=0∧m=0 then some (.c (.clp (T.sz e) 0 []),s) else none|_,_=>none) else none
 | _,_=>none
theorem qkD (T:Ty) (s:S) (hi mx:Option Operand) (e:TypeId) (sz n:Nat) (cs:List D):xcl T s hi mx (.sl e) (.c (.d (.sl sz n cs)))=if T.k e ≠ .other∧T.sz e=sz then(match s.bd hi 0,s.bd mx 0 with|some h,some m=>if h=(n:Int)∧m=(n:Int) then some (.c (.clp sz n cs),s) else none|_,_=>none) else none:=rfl
theorem qgn (T:Ty) (s:S) (t:TypeId) (x y:Operand) (mx:Option Operand):qdi T s t x none (some y) mx=xcl T s (some y) mx (T.k t) (s.ev x):=by
 unfold qdi
 generalize s.ev x=r
 generalize T.k t=kd
 cases kd with
 | sl e=>
  cases r with
  | c c=>
   cases c with
   | d d=>
    cases d with
    | sl sz n cs=>
     simp only[xcl,Option.isSome_some,true_and]
     cases s.bd (some y) 0 with
     | none=>simp
     | some h=>cases s.bd mx 0 with
      | none=>simp
      | some m=>simp only[qwK];split<;>rename_i hc<;>simp_all
    | _=>rfl
   | nils=>
    simp only[xcl,Option.isSome_some,true_and]
    cases s.bd (some y) 0 with
    | none=>simp
    | some h=>cases s.bd mx 0 with
     | none=>simp
     | some m=>simp only[qwK];split<;>rename_i hc<;>simp_all
   | _=>rfl
  | _=>rfl
 | _=>rfl
section
variable {T:Ty} {s:S} {t:TypeId} {lo hi:Option Operand}
theorem qjI {id sz off n:Nat}:xsl T s t (.c (.own id sz off n)) none hi =
  match T.k t with
  | .sl e=>if T.k e ≠ .other∧T.sz e=sz then
   match s.bd hi n with
   | some h=>if 0≤h∧h≤n then some (.c (.own id sz off (min h.toNat n)),s) else none
   | _=>none
   else none
  | _=>none:=by
 unfold xsl
 cases T.k t<;>try rfl
 dsimp only[S.bd]
 split
 ·split
  ·rename_i l h h1 h2
   injection h1 with h1
   subst h1
   rw[h2]
   dsimp only
   by_cases hc:0≤h∧h≤n
   ·rw[if_pos ⟨Int.le_refl _,hc⟩,if_pos (.inl rfl),if_pos hc,show min h.toNat n=h.toNat by omega]
    rfl
   ·rw[if_neg (fun q=>hc q.2),if_neg hc]
  ·rename_i h1
   split
   ·rename_i h h2
    exact absurd h2 (h1 0 h rfl)
   ·rfl
 ·rfl
theorem qja {id sz off n:Nat} {lo:Operand}:xsl T s t (.c (.own id sz off n)) (some lo) hi =
  match T.k t with
  | .sl e=>if T.k e ≠ .other∧T.sz e=sz then
   match s.bd (some lo) 0,s.bd hi n with
   | some l,some h=>if 0≤l∧l≤h∧h≤n then(if l=0∨l<n then some (.c (.own id sz (off+l.toNat) (h.toNat-l.toNat)),s) else some (.c (.d (.sl sz 0 [])),s)) else none
   | _,_=>none
   else none
  | _=>none:=by unfold xsl;cases T.k t<;>rfl
end
def qoM {α:Type} (s:S) (E:α→List D) (n:Nat) (v:List α) (l h:Option Int):RS:=
 match l,h with
 | some l,some h=>if 0≤l∧l≤h∧h≤v.length then some (.c (.d (.sl n ((v.drop l.toNat).take (h.toNat-l.toNat)).length (((v.drop l.toNat).take (h.toNat-l.toNat)).flatMap E))),s) else none
 | _,_=>none
theorem qnH {α:Type} {E:α→List D} {n:Nat} (h:∀x,(E x).length=n) {T:Ty} {s:S} {t e:TypeId} (v:List α) (lo hi:Option Operand) (hk:T.k t = .sl e) (hz:T.sz e=n) (ho:T.k e ≠ .other) :
  xsl T s t (.c (.d (.sl n v.length (v.flatMap E)))) lo hi=qoM s E n v (s.bd lo 0) (s.bd hi v.length):=by
 unfold xsl
 simp only[hk]
 rw[if_pos ⟨ho,hz⟩]
 unfold qoM
 cases s.bd lo 0 with
 | none=>rfl
 | some l=>
  cases s.bd hi v.length with
  | none=>rfl
  | some h'=>
   simp only
   split
   ·rename_i hc
    rw[q7h h,q7S h,qwo,qwH,Nat.min_eq_left (by omega)]
   ·rfl
abbrev dI (n:Int):C:=C.d (D.int .i64 n)
abbrev dS (s:ByteArray):C:=C.d (D.str s)
abbrev dL {α:Type} (n:Nat) (E:α→List D) (v:List α):C:=C.d (D.sl n v.length (v.flatMap E))
abbrev dO (i sz n:Nat):C:=C.own i sz 0 n
abbrev dP (i:Nat):C:=C.ptr i 0
abbrev rI (n:Int):R:=R.c (C.d (D.int .i64 n))
abbrev rS (s:ByteArray):R:=R.c (C.d (D.str s))
abbrev rB (b:Bool):R:=R.c (C.d (D.bool b))
abbrev rL {α:Type} (n:Nat) (E:α→List D) (v:List α):R:=R.c (C.d (D.sl n v.length (v.flatMap E)))
abbrev rO (i sz n:Nat):R:=R.c (C.own i sz 0 n)
abbrev rP (i:Nat):R:=R.c (C.ptr i 0)
abbrev bR {α:Type} (e sz:Nat) (E:α→List D) (v:List α):B:=B.row e sz ((v.flatMap E).map C.d)
theorem XLs {E:Orc} {f k key:Nat} {c:Code} {σ ε:Type} {st:σ→S} {ex:ε→XS} {step:σ→Option (σ⊕ε)} (hc:lbO f key=c) (hl:okL f c) (hne:∀e,∃p,ex e=some p∧p.1 ≠ .normal)
  (h:∀x,lz2 f k key (XE2 E f k c (st x))=(step x).bind (Sum.elim (fun y=>some (.normal,st y)) ex)) (x:σ):XL2 E f k key (st x)=(qG step x).bind ex:=by
 obtain⟨g,hg⟩:∃g:ε→Exit×S,∀e,ex e=some (g e)∧(g e).1 ≠ .normal:=⟨fun e=>Classical.choose (hne e),fun e=>Classical.choose_spec (hne e)⟩
 obtain rfl:ex=fun e=>some (g e):=funext fun e=>(hg e).1
 exact q7X (ex:=g) hc hl (fun e=>(hg e).2) h x
theorem q8X {E:Orc} {f k key:Nat} {c:Code} {A1 ε:Type} {st:A1→S} {ex:ε→XS} {step:A1→Option ((A1)⊕ε)} (hc:lbO f key=c) (hl:okL f c) (hne:∀e,∃p,ex e=some p∧p.1 ≠ .normal)
  (h:∀a1,lz2 f k key (XE2 E f k c (st a1))=(step a1).bind (Sum.elim (fun y=>some (.normal,st y)) ex)) (a1:A1):XL2 E f k key (st a1)=(qG step a1).bind ex:=
 XLs (st:=fun y=>st y) hc hl hne (fun a1=>h a1) a1
theorem q8h {E:Orc} {f k key:Nat} {c:Code} {A1 A2 ε:Type} {st:A1→A2→S} {ex:ε→XS} {step:(A1×A2)→Option ((A1×A2)⊕ε)} (hc:lbO f key=c) (hl:okL f c) (hne:∀e,∃p,ex e=some p∧p.1 ≠ .normal)
  (h:∀a1 a2,lz2 f k key (XE2 E f k c (st a1 a2))=(step (a1,a2)).bind (Sum.elim (fun y=>some (.normal,st y.1 y.2)) ex)) (a1:A1) (a2:A2):XL2 E f k key (st a1 a2)=(qG step (a1,a2)).bind ex:=
 XLs (st:=fun y=>st y.1 y.2) hc hl hne (fun⟨a1,a2⟩=>h a1 a2) (a1,a2)
theorem qq4 {E:Orc} {f k key:Nat} {c:Code} {A1 A2 A3 ε:Type} {st:A1→A2→A3→S} {ex:ε→XS} {step:(A1×A2×A3)→Option ((A1×A2×A3)⊕ε)} (hc:lbO f key=c) (hl:okL f c) (hne:∀e,∃p,ex e=some p∧p.1 ≠ .normal)
  (h:∀a1 a2 a3,lz2 f k key (XE2 E f k c (st a1 a2 a3))=(step (a1,a2,a3)).bind (Sum.elim (fun y=>some (.normal,st y.1 y.2.1 y.2.2)) ex)) (a1:A1) (a2:A2) (a3:A3):XL2 E f k key (st a1 a2 a3)=(qG step (a1,a2,a3)).bind ex:=
 XLs (st:=fun y=>st y.1 y.2.1 y.2.2) hc hl hne (fun⟨a1,a2,a3⟩=>h a1 a2 a3) (a1,a2,a3)
abbrev aY4:List R:=[R.any,R.any,R.any,R.any]
abbrev aY8:List R:=R.any::R.any::R.any::R.any::aY4
abbrev q6Y:List R:=R.any::R.any::R.any::R.any::aY8
def dzU (Q:TypeId→List Nat):B→B
 | .row e sz cs => .row e sz (dzc (Q e) [] cs)
 | b=>b
theorem qkW (z:Nat) {c:C} (h:c.isNils=false):dz z c=c:=by
 cases c<;>first|rfl|cases h
theorem q6V (zs0:List Nat):∀{cs:List C} (zs:List Nat),cs.any C.isNils=false→dzc zs0 zs cs=cs
 | [],zs,_=>by cases zs<;>rfl
 | c::cs,zs,h=>by
  rw[List.any_cons,Bool.or_eq_false_iff] at h
  cases zs with
  | nil=>rw[dzc,qkW _ h.1,q6V zs0 _ h.2]
  | cons z zs=>rw[dzc,qkW _ h.1,q6V zs0 _ h.2]
theorem qqQ (Q:TypeId→List Nat) (b:B):dzB Q b=dzU Q b:=by
 cases b with
 | row e sz cs=>
  unfold dzB dzU
  simp only
  split
  ·rfl
  ·rename_i h
   rw[q6V _ _ (by simpa using h)]
 | _=>rfl
theorem qmC (Q:TypeId→List Nat) (b:B) (h:b.nilr=false):dzU Q b=b:=by
 cases b with
 | row e sz cs=>unfold dzU;simp only;rw[q6V _ _ h]
 | _=>rfl
theorem qlx (tm:List (Nat×R)) (hp:List (Nat×B)) (nx n:Nat) (Q:TypeId→List Nat):S.dzr (S.mk tm hp nx n) Q=S.mk tm (hp.map fun x=>(x.1,dzU Q x.2)) nx n:=by
 unfold S.dzr
 split
 ·simp only[qqQ]
 ·rename_i h
  congr 1
  have h2:∀x∈hp,x.2.nilr=false:=fun x hx=>by
   cases hb:x.2.nilr with
   | false=>rfl
   | true=>exact absurd (qwP.2 ⟨x,hx,hb⟩) h
  refine(List.map_id' hp).symm.trans (List.map_congr_left fun x hx=>?_)
  rw[qmC Q x.2 (h2 x hx)]
theorem qiC (Q:TypeId→List Nat) (e sz:Nat) (cs:List C):dzU Q (.row e sz cs) = .row e sz (dzc (Q e) [] cs):=rfl
theorem qjt (Q:TypeId→List Nat) (t:Nat) (cs:List C):dzU Q (.blk t cs) = .blk t cs:=rfl
theorem qkQ (Q:TypeId→List Nat) (o:AO):dzU Q (.ob o) = .ob o:=rfl
theorem qg1 (Q:TypeId→List Nat):dzU Q .dead = .dead:=rfl
theorem qhp {α:Type} (x:α):Option.toArray (some x)=[x].toArray:=rfl
theorem qjb {α:Type}:Option.toArray (none:Option α)=([]:List α).toArray:=rfl
theorem qor {α:Type} (l m:List α):l.toArray++m.toArray=(l++m).toArray:=by simp
theorem qie {α:Type} (l:List α):Array.toList l.toArray=l:=rfl
end
noncomputable section
open Go.RowKit
set_option maxRecDepth 20000
def mpE {κ ν:Type} (kE:κ→Value) (vE:ν→R):List (κ×ν)→Nat→List (Value×R×Nat)
 | [],_=>[]
 | p::M,i=>(kE p.1,vE p.2,i)::mpE kE vE M (i+1)
def mpB {κ ν:Type} (kE:κ→Value) (vE:ν→R) (M:List (κ×ν)):AO := .mp (mpE kE vE M 0) M.length
def Jr (k:IntKind) (n:Int):Value := .int k n
section
variable {κ ν:Type} [DecidableEq κ]
def qax (M:List (κ×ν)) (k:κ):Nat:=match M with
 | []=>0
 | p::M=>if k=p.1 then 0 else qax M k+1
def Z6 (z:ν) (M:List (κ×ν)) (k:κ):ν:=match M with
 | []=>z
 | p::M=>if k=p.1 then p.2 else Z6 z M k
def qaw (M:List (κ×ν)) (k:κ):Bool:=match M with
 | []=>false
 | p::M=>if k=p.1 then true else qaw M k
def q2R (M:List (κ×ν)) (k:κ) (v:ν):List (κ×ν):=match M with
 | []=>[(k,v)]
 | p::M=>if k=p.1 then(k,v)::M else p::q2R M k v
end
section
variable {κ ν:Type} {kE:κ→Value} {vE:ν→R}
theorem qcK:∀(M:List (κ×ν)) (i:Nat),(mpE kE vE M i).length=M.length
 | [],_=>rfl
 | p::M,i=>by rw[mpE,qw6,qcK M,qw6]
theorem q7N {f:Value×R×Nat→Bool} (hf:∀k r i,f (kE k,r,i)=true):∀(M:List (κ×ν)) (i:Nat),(mpE kE vE M i).all f=true
 | [],_=>rfl
 | p::M,i=>by rw[mpE,List.all_cons,hf,q7N hf M];rfl
theorem q1H {f:R→R} (hf:∀v,f (vE v)=vE v) (M:List (κ×ν)):AO.mapR f (mpB kE vE M)=mpB kE vE M:=by
 have:∀(M:List (κ×ν)) (i:Nat),(mpE kE vE M i).map (fun e=>(e.1,f e.2.1,e.2.2))=mpE kE vE M i:=by
  intro M
  induction M with
  | nil=>intro i;rfl
  | cons p M ih=>intro i;rw[mpE,qwi,ih,hf]
 unfold mpB
 show AO.mp _ _=_
 rw[this]
theorem qbD {f:R→Bool} (hf:∀v,f (vE v)=true) (M:List (κ×ν)):(mpB kE vE M).Rs.all f=true:=by
 have:∀(M:List (κ×ν)) (i:Nat),((mpE kE vE M i).map (·.2.1)).all f=true:=by
  intro M
  induction M with
  | nil=>intro i;rfl
  | cons p M ih=>intro i;rw[mpE,qwi,List.all_cons,ih,hf];rfl
 exact this M 0
theorem qeM {f:R→List Nat} (hf:∀v,f (vE v)=[]) (M:List (κ×ν)):(mpB kE vE M).Rs.flatMap f=[]:=by
 have:∀(M:List (κ×ν)) (i:Nat),((mpE kE vE M i).map (·.2.1)).flatMap f=[]:=by
  intro M
  induction M with
  | nil=>intro i;rfl
  | cons p M ih=>intro i;rw[mpE,qwi,qwY,ih,hf];rfl
 exact this M 0
variable [DecidableEq κ] (hk:∀a b,kq (kE a) (kE b)=decide (a=b))
include hk
theorem qc7 (k:κ):∀(M:List (κ×ν)) (i:Nat) (z:ν),fnd (kE k) (mpE kE vE M i) i=if qaw M k=true then some (i+qax M k,vE (Z6 z M k),i+qax M k) else none
 | [],i,z=>rfl
 | p::M,i,z=>by
  rw[mpE,fnd]
  simp only[hk,qaw,qax,Z6,qwU]
  by_cases h:k=p.1
  ·simp[h]
  ·simp only[if_neg h]
   rw[qc7 k M (i+1) z]
   split
   ·rw[show i+1+qax M k=i+(qax M k+1) by omega]
   ·rfl
theorem qpr (z:ν) (ok:Bool) (k:κ) (M:List (κ×ν)):lkq ok (vE z) (fnd (kE k) (mpE kE vE M 0) 0)=some (tt2 (vE (Z6 z M k)) ok (qaw M k)):=by
 rw[qc7 hk k M 0 z]
 cases hm:qaw M k
 ·have:Z6 z M k=z:=by
   clear hk
   induction M with
   | nil=>rfl
   | cons p M ih=>
    rw[qaw] at hm
    rw[Z6]
    split
    ·rename_i h;rw[if_pos h] at hm;cases hm
    ·rename_i h;rw[if_neg h] at hm;exact ih hm
  rw[this];rfl
 ·rfl
end
section
variable {κ ν:Type} {kE:κ→Value} {vE:ν→R} [DecidableEq κ]
theorem q8H (k:κ) (v:ν):∀(M:List (κ×ν)) (i:Nat),qaw M k=true→(mpE kE vE M i).set (qax M k) (kE k,vE v,i+qax M k)=mpE kE vE (q2R M k v) i∧(q2R M k v).length=M.length
 | [],_,h=>by cases h
 | p::M,i,h=>by
  rw[qaw] at h
  by_cases hp:k=p.1
  ·simp only[mpE,qax,q2R,if_pos hp]
   exact⟨rfl,rfl⟩
  ·rw[if_neg hp] at h
   obtain⟨a,b⟩:=q8H k v M (i+1) h
   simp only[mpE,qax,q2R,if_neg hp,qw6,List.set_cons_succ]
   rw[show i+(qax M k+1)=i+1+qax M k by omega,a,b]
   exact⟨rfl,rfl⟩
theorem q8O (k:κ) (v:ν):∀(M:List (κ×ν)) (i:Nat),qaw M k=false→mpE kE vE M i++[(kE k,vE v,i+M.length)]=mpE kE vE (q2R M k v) i∧(q2R M k v).length=M.length+1
 | [],i,_=>⟨rfl,rfl⟩
 | p::M,i,h=>by
  rw[qaw] at h
  by_cases hp:k=p.1
  ·rw[if_pos hp] at h;cases h
  ·rw[if_neg hp] at h
   obtain⟨a,b⟩:=q8O k v M (i+1) h
   simp only[mpE,q2R,if_neg hp,qw6,qwZ]
   rw[show i+(M.length+1)=i+1+M.length by omega,a,b]
   exact⟨rfl,rfl⟩
end
def mpq:B→Option (List (Value×R×Nat))
 | .ob (.mp es _)=>some es
 | _=>none
def mpo (s:S):R→Option (List (Value×R×Nat))
 | .c .nilm=>some []
 | .c (.hd .map id)=>mpq (s.blk id)
 | _=>none
theorem qg5 (s:S) (x:Operand):q2b s x=mpo s (s.ev x):=by
 unfold q2b mpo mpq
 generalize s.ev x=r
 cases r with
 | c c=>
  cases c with
  | hd k id=>cases k<;>rfl
  | _=>rfl
 | _=>rfl
theorem qrS {κ ν:Type} (kE:κ→Value) (vE:ν→R) (M:List (κ×ν)):mpq (.ob (mpB kE vE M))=some (mpE kE vE M 0):=rfl
def mup (kt:Kd) (kv:Value) (r:R):B→Option B
 | .ob (.mp es ck)=>if plK kt kv=true∧es.all (fun q=>plK kt q.1)=true then
   (match fnd kv es 0 with
    | some q=>some (.ob (.mp (es.set q.1 (kv,r,q.2.2)) ck))
    | none=>some (.ob (.mp (es++[(kv,r,ck)]) (ck+1)))) else none
 | _=>none
def xmu (T:Ty) (s:S) (t:TypeId) (m:R) (kv:Option Value) (r:R):Option (R×S):=
 match T.k t,m,kv with
 | .mp kt _,.c (.hd .map id),some kv=>(mup (T.k kt) kv r (s.blk id)).bind fun b=>some (.any,s.up [(id,b)])
 | _,_,_=>none
theorem qn8 (T:Ty) (s:S) (t:TypeId) (m:R) (kv:Option Value) (r:R):xmu T s t m kv r =
 match T.k t,m,kv with
 | .mp kt _,.c (.hd .map id),some kv=>(mup (T.k kt) kv r (s.blk id)).bind fun b=>some (.any,s.up [(id,b)])
 | _,_,_=>none:=rfl
theorem qa5 (T:Ty) (s:S) (t:TypeId) (m k x:Operand):q0l T s t m k x=xmu T s t (s.ev m) (s.ev k).key (s.ev x):=by
 unfold q0l xmu mup
 generalize T.k t=kd
 generalize s.ev m=r
 generalize (s.ev k).key=kv
 cases kd with
 | mp kt e=>
  cases r with
  | c c=>
   cases c with
   | hd h id=>
    cases h with
    | map=>
     cases kv with
     | none=>rfl
     | some kv=>
      simp only
      generalize s.blk id=b
      cases b with
      | ob o=>
       cases o with
       | mp es ck=>
        simp only
        split
        ·cases fnd kv es 0<;>rfl
        ·rfl
       | _=>rfl
      | _=>rfl
    | _=>rfl
   | _=>rfl
  | _=>rfl
 | _=>rfl
section
variable {κ ν:Type} {kE:κ→Value} {vE:ν→R} [DecidableEq κ] (hk:∀a b,kq (kE a) (kE b)=decide (a=b)) {kt:Kd} (hp:∀a,plK kt (kE a)=true)
include hk hp
theorem qph (k:κ) (v:ν) (M:List (κ×ν)):mup kt (kE k) (vE v) (.ob (mpB kE vE M))=some (.ob (mpB kE vE (q2R M k v))):=by
 unfold mpB mup
 simp only
 rw[if_pos ⟨hp k,q7N (fun k r i=>hp k) M 0⟩,qc7 hk k M 0 v]
 cases hm:qaw M k
 ·obtain⟨a,b⟩:=q8O (kE:=kE) (vE:=vE) k v M 0 hm
  simp only[Bool.false_eq_true,if_false]
  rw[qwj] at a
  rw[a,b]
 ·obtain⟨a,b⟩:=q8H (kE:=kE) (vE:=vE) k v M 0 hm
  simp only[if_true]
  rw[qwj] at a ⊢
  rw[a,b]
end
theorem qjD {κ ν:Type} {kE:κ→Value} {vE:ν→R} {s:S} {sel:List Nat} (h:∀v,qau s sel (vE v)=vE v) (M:List (κ×ν)):cvA s sel (mpB kE vE M)=some (mpB kE vE M):=by
 have:∀(M:List (κ×ν)) (i:Nat),(mpE kE vE M i).map (fun e=>(e.1,qau s sel e.2.1,e.2.2))=mpE kE vE M i:=by
  intro M
  induction M with
  | nil=>intro i;rfl
  | cons p M ih=>intro i;rw[mpE,qwi,ih,h]
 show some (AO.mp ((mpE kE vE M 0).map fun e=>(e.1,qau s sel e.2.1,e.2.2)) M.length)=_
 rw[this];rfl
theorem qgy (k:IntKind) (a b:Int):kq (Jr k a) (Jr k b)=decide (a=b):=rfl
theorem qdv {κ ν:Type} {kE:κ→Value} {vE:ν→R} (hk:∀a b,kE a=kE b→a=b) (hv:∀a b,vE a=vE b→a=b):∀(M M':List (κ×ν)) (i:Nat),mpE kE vE M i=mpE kE vE M' i→M=M'
 | [],[],_,_=>rfl
 | [],_::_,_,h=>by cases h
 | _::_,[],_,h=>by cases h
 | (a,v)::M,(b,w)::M',i,h=>by
  unfold mpE at h
  simp only[List.cons.injEq,Prod.mk.injEq] at h
  obtain⟨⟨h1,h2,_⟩,h3⟩:=h
  rw[hk _ _ h1,hv _ _ h2,qdv hk hv M M' _ h3]
theorem qjN {κ ν:Type} {kE:κ→Value} {vE:ν→R} (hk:∀a b,kE a=kE b→a=b) (hv:∀a b,vE a=vE b→a=b) (M M':List (κ×ν)):(B.ob (mpB kE vE M)=B.ob (mpB kE vE M'))=(M=M'):=
 propext ⟨fun h=>by
  injection h with h
  unfold mpB at h
  injection h with h
  exact qdv hk hv M M' 0 h,fun h=>by rw[h]⟩
section
variable {κ ν:Type}
end
end
noncomputable section
open Go.RowKit Go.Maps Go.Sort Go.Shelf
section
variable {P:Program} {ρ:Ren}
end
end
noncomputable section
open Go.RowKit
theorem q5j:∀l:List Int,q3t ((l.flatMap eI).map C.d)=some l
 | []=>rfl
 | x::l=>by
  rw[qwY,List.map_append]
  show(q3t ((l.flatMap eI).map C.d)).map (x :: ·)=_
  rw[q5j l];rfl
theorem q2m:∀l:List Int,(l.map fun z=>C.d (.int .i64 z))=(l.flatMap eI).map C.d
 | []=>rfl
 | x::l=>by
  rw[qwY,List.map_append,qwi,q2m l];rfl
theorem qke (e:TypeId) (n:Nat) (l:List Int):qkC e 0 [.c (.own 0 1 0 n)] [(0,.row e 1 ((l.flatMap eI).map C.d))]=if n=l.length then some (.c (.own 0 1 0 (cpI l).length),[(0,.row e 1 (((cpI l).flatMap eI).map C.d))]) else none:=by
 show(if e=e then cpX 0 n e _ else none)=_
 rw[if_pos rfl]
 unfold cpX
 rw[q5j,qvV,q2m]
theorem q4V {α β:Type} {E:α→List β} {z:Nat} (hE:∀x,(E x).length=z):∀(l:List α) (i:Nat),i<l.length→(l.flatMap E).take (i*z)++(l.flatMap E).drop ((i+1)*z)=(l.eraseIdx i).flatMap E
 | [],_,h=>by simp at h
 | x::l,0,_=>by
  rw[qwY,Nat.zero_mul,List.take_zero,qwf,qwj,Nat.one_mul,←hE x,List.drop_left];rfl
 | x::l,i+1,h=>by
  rw[qwY,List.eraseIdx_cons_succ,qwY,←q4V hE l i (by simpa using h)]
  have e1:(i+1)*z=(E x).length+i*z:=by rw[hE,Nat.add_mul];omega
  have e2:(i+1+1)*z=(E x).length+(i+1)*z:=by rw[hE,Nat.add_mul (i+1)];omega
  rw[e2,List.drop_append,e1,List.take_append]
  simp[Nat.add_sub_cancel_left,qx0,List.drop_of_length_le]
theorem qiI {α:Type} {E:α→List D} {e z:Nat} (hE:∀x,(E x).length=z) {n:Nat} (l:List α) (i j:Int) (hn:n=l.length):q9C e z 0 [.c (.own 0 z 0 n),.c (.d (.int .i64 i)),.c (.d (.int .i64 j))] [(0,.row e z ((l.flatMap E).map C.d))] =
  if 0≤i∧j=i+1∧i<l.length then some (.c (.own 0 z 0 (l.eraseIdx i.toNat).length),[(0,.row e z (((l.eraseIdx i.toNat).flatMap E).map C.d))]) else none:=by
 subst hn
 show qp0 e z z z e l.length i j _=_
 unfold qp0
 have h1:((l.flatMap E).map C.d).length=l.length*z:=by
  rw[qwD]
  induction l with
  | nil=>simp
  | cons x l ih=>rw[qwY,qw2,ih,hE,qw6,Nat.add_mul];omega
 have h2:((l.flatMap E).map C.d).all C.known=true:=by rw[List.all_map];exact qwc.2 fun x _=>rfl
 have h3:((l.flatMap E).map C.d).all (C.far 0)=true:=by rw[List.all_map];exact qwc.2 fun x _=>rfl
 by_cases hc:0≤i∧j=i+1∧i<(l.length:Int)
 ·rw[if_pos ⟨rfl,rfl,rfl,h1,h2,h3,hc⟩,if_pos hc]
  have hi:i.toNat<l.length:=by omega
  rw[←List.map_take,←List.map_drop,←List.map_append,q4V hE l _ hi,List.length_eraseIdx,if_pos hi]
 ·rw[if_neg (fun h=>hc h.2.2.2.2.2.2),if_neg hc]
end
noncomputable section
open Go.RowKit
def C.pl:C→Bool
 | .d _=>true
 | .ow _ _ _ _=>true
 | _=>false
section
variable {α:Type} {E:α→List C} {n:Nat}
theorem qg8 (h:∀x,(E x).all C.pl=true) (v:List α) {c:C} (hc:c∈v.flatMap E):c.pl=true:=by
 obtain⟨x,-,hx⟩:=List.mem_flatMap.1 hc
 exact qwc.1 (h x) c hx
theorem qbz (h:∀x,(E x).all C.pl=true) {f:C→C} (hf:∀c,c.pl=true→f c=c) (v:List α):(v.flatMap E).map f=v.flatMap E:=
 (List.map_congr_left fun c hc=>hf c (qg8 h v hc)).trans (List.map_id _)
theorem qgI (h:∀x,(E x).all C.pl=true) {p:C→Bool} (hf:∀c,c.pl=true→p c=true) (v:List α):(v.flatMap E).all p=true:=
 qwc.2 fun c hc=>hf c (qg8 h v hc)
theorem qmE (h:∀x,(E x).all C.pl=true) {p:C→Bool} (hf:∀c,c.pl=true→p c=false) (v:List α):(v.flatMap E).any p=false:=
 List.any_eq_false.2 fun c hc=>by rw[hf c (qg8 h v hc)];decide
theorem ql1 (h:∀x,(E x).all C.pl=true) {f:C→List Nat} (hf:∀c,c.pl=true→f c=[]) (v:List α):(v.flatMap E).flatMap f=[]:=
 List.flatMap_eq_nil_iff.2 fun c hc=>hf c (qg8 h v hc)
theorem qgo (h:∀x,(E x).length=n):∀l:List α,(l.flatMap E).length=l.length*n
 | []=>by simp
 | x::l=>by rw[qwY,qw2,h,qgo h l,qw6,Nat.add_mul];omega
theorem qh1 (h:∀x,(E x).length=n) {o:Nat} (ho:o<n):∀(v:List α) (i:Nat),(v.flatMap E)[i*n+o]?=(v[i]?).bind fun x=>(E x)[o]?
 | [],i=>by simp
 | x::v,0=>by
  rw[qwY,Nat.zero_mul,qwj,qwy (by rw[h];exact ho)];rfl
 | x::v,i+1=>by
  rw[qwY,show(i+1)*n+o=(E x).length+(i*n+o) by rw[h,Nat.add_mul];omega,qwx (by omega),show(E x).length+(i*n+o)-(E x).length=i*n+o by omega,qh1 h ho v i]
  rfl
theorem qgR (h:∀x,(E x).length=1) {x:α} {d:C} (hx:E x=[d]):∀(v:List α) (i:Nat),(v.flatMap E).set i d=(v.set i x).flatMap E
 | [],i=>by simp
 | y::v,0=>by
  have hy:=h y
  rw[qwY,List.set_append_left _ _ (by rw[hy];decide),List.set_cons_zero,qwY,hx]
  match hE:E y,hy with
  | [c],_=>rfl
 | y::v,i+1=>by
  rw[qwY,show i+1=(E y).length+i by rw[h];omega,List.set_append_right _ _ (by omega),show(E y).length+i-(E y).length=i by omega,qgR h hx v i,h,Nat.add_comm,List.set_cons_succ,qwY]
theorem qm8 (v:List α) (x:α):v.flatMap E++E x=(v++[x]).flatMap E:=by simp
theorem qka {F:α→List D} (h:∀x,(E x).map C.uw=(F x).map C.d):∀v:List α,(v.flatMap E).map C.uw=(v.flatMap F).map C.d
 | []=>rfl
 | x::v=>by rw[qwY,qwY,List.map_append,List.map_append,h,qka h v]
theorem qpq {T:Ty} {t:TypeId} {cs:List C} {off:Nat} (hk:∀fs,T.k t ≠ .st fs) (ha:∀n e,T.k t ≠ .arr n e) (ho:T.k t ≠ .other):ld T cs off t=(cs[off]?).map .c:=by
 unfold ld
 split
 ·rename_i h;exact absurd h (hk _)
 ·rename_i h;exact absurd h (ha _ _)
 ·rename_i h;exact absurd h ho
 ·rfl
theorem qbe (zs0:List (Option (Nat×Nat))):∀(zs:List (Option (Nat×Nat))) (xs ys:List C),xs.all C.pl=true→zs.length=xs.length→q4u zs0 zs (xs++ys)=xs++q4u zs0 [] ys
 | [],[],ys,_,_=>rfl
 | [],d::ds,ys,_,h=>by cases h
 | z::zs,[],ys,_,h=>by cases h
 | z::zs,d::ds,ys,hp,h=>by
  rw[List.all_cons,qwr] at hp
  rw[qwZ,q4u,qbe zs0 zs ds ys hp.2 (by simpa using h)]
  have:qf3 z d=d:=by
   rcases q5r z d with e|⟨e,-⟩
   ·exact e
   ·rw[e] at hp;cases hp.1
  rw[this];rfl
theorem qgS (hp:∀x,(E x).all C.pl=true) (h:∀x,(E x).length=n+1) (zs0:List (Option (Nat×Nat))) (h0:zs0.length=n+1):∀(v:List α) (ys:List C),q4u zs0 [] (v.flatMap E++ys)=v.flatMap E++q4u zs0 [] ys
 | [],ys=>rfl
 | x::v,ys=>by
  have hx:=h x
  have hpx:=hp x
  rw[qwY,qwA,qwA,←qgS hp h zs0 h0 v ys]
  cases hE:E x with
  | nil=>rw[hE] at hx;cases hx
  | cons d ds=>
   rw[hE] at hx hpx
   rw[List.all_cons,qwr] at hpx
   rw[qwZ,q4u,qbe zs0 zs0.tail ds _ hpx.2 (by rw[List.length_tail];simp at hx;omega)]
   have:qf3 (zs0.headD none) d=d:=by
    rcases q5r (zs0.headD none) d with e|⟨e,-⟩
    ·exact e
    ·rw[e] at hpx;cases hpx.1
   rw[this];rfl
end
theorem qrP (k:Nat) (c:C) (h:c.pl=true):c.fg k=c:=by cases c<;>first|rfl|cases h
theorem qrz (ids:List Nat) (c:C) (h:c.pl=true):cn ids c=c:=by cases c<;>first|rfl|cases h
theorem qqs (c:C) (h:c.pl=true):c.kw=c:=by cases c<;>first|rfl|cases h
theorem qoc (k:Nat) (c:C) (h:c.pl=true):c.far k=true:=by cases c<;>first|rfl|cases h
theorem qim (X:List Nat) (c:C) (h:c.pl=true):c.farF X=true:=by cases c<;>first|rfl|cases h
theorem qhj (c:C) (h:c.pl=true):c.isNils=false:=by cases c<;>first|rfl|cases h
theorem qjd (c:C) (h:c.pl=true):c.refs=[]:=by cases c<;>first|rfl|cases h
theorem qio (c:C) (h:c.pl=true):c.rows=[]:=by cases c<;>first|rfl|cases h
theorem qfH (f:C→C) (xs ys:List C):(xs++ys).map f=xs.map f++ys.map f:=List.map_append
def oL {α:Type} (e n:Nat) (F:α→List D) (v:List α):List C:=[.ow e n v.length (v.flatMap F)]
theorem qga (f:C→C):∀(ys cs:List C) (o:Nat),(spr cs o ys).map f=spr (cs.map f) o (ys.map f):=fun ys cs o=>(q5u f ys cs o).symm
theorem qeq (a b:C) (cs:List C) (o:Nat):spr (spr cs o [a]) o [b]=spr cs o [b]:=by
 show(cs.set o a).set o b=cs.set o b
 rw[List.set_set]
theorem qfu (cs:List C) (o:Nat) (c:C):((spr cs o [c])[o]?).map R.c=(cs[o]?).bind fun _=>some (R.c c):=by
 show((cs.set o c)[o]?).map R.c=_
 rcases Nat.lt_or_ge o cs.length with h|h
 ·rw[qwS h,qvX h];rfl
 ·rw[qwt (by rw[qwG];exact h),qwt h];rfl
theorem qaq (ys cs:List C) (o:Nat):(spr cs o ys).length=cs.length:=JQ ys cs o
theorem qld (ds:List D):(ds.map C.d).map C.uw=ds.map C.d:=by rw[List.map_map];rfl
theorem qnf (ds:List D):(ds.map C.d).map C.kw=ds.map C.d:=by rw[List.map_map];rfl
end
noncomputable section
open Go.RowKit
def bx0:=JA_ @qjx (JA_ @qoz.eq_1 (JA_ @qoz.eq_2 (JA_ @S.uwD.eq_1 (JA_ @S.tkD.eq_1 (JA_ @S.tkP.eq_1 (JA_ @S.tkP.eq_2 (JA_ @qoL.eq_1 (JA_ @qoL.eq_2 (JA_ @tkL.eq_1 (JA_ @tkL.eq_2 (JA_ @S.frk.eq_1 (JA_ @qmT.eq_1 (JA_ @qbv.eq_1 (JA_ @qei (JA_ @qfo (JA_ @adL.eq_1 (JA_ @adS.eq_1 (JA_ @adI.eq_1 (JA_ @adI.eq_2 (@adP.eq_1))))))))))))))))))))
def bx1:=JA_ @qtq.eq_1 (JA_ @qqX.eq_1 (JA_ @uwR.eq_2 (JA_ @ldO.eq_1 (JA_ @ldT.eq_2 (JA_ @ldT.eq_11 (JA_ @ldP.eq_1 (JA_ @ldU.eq_1 (JA_ @stO.eq_1 (JA_ @qpb.eq_1 (JA_ @qpb.eq_2 (JA_ @qoY.eq_1 (JA_ @qgt.eq_1 (JA_ @S.fnB.eq_1 (JA_ @S.uwB.eq_1 (JA_ @Kd.isSl0.eq_1 (JA_ @tkS.eq_1 (JA_ @B.kw.eq_2 (@B.kw.eq_3))))))))))))))))))
def bx2:=JA_ @R.nw.eq_1 (JA_ @R.nw.eq_2 (JA_ @R.nw0.eq_1 (JA_ @R.nw0.eq_2 (JA_ @R.nw0.eq_4 (JA_ @C.nw.eq_3 (JA_ @S.uw.eq_1 (JA_ @B.uw.eq_1 (JA_ @B.uw.eq_2 (JA_ @B.uw.eq_4 (JA_ @C.uw.eq_2 (JA_ @S.dzo.eq_1 (JA_ @qdN.eq_1 (JA_ @qdN.eq_2 (JA_ @q4u.eq_1 (JA_ @q4u.eq_2 (JA_ @qf3.eq_1 (@S.abL.eq_1)))))))))))))))))
def bx3:=JA_ @abAt.eq_1 (JA_ @C.noow.eq_2 (JA_ @S.strip.eq_1 (JA_ @q1b.eq_1 (JA_ @q1b.eq_2 (JA_ @qk9.eq_1 (JA_ @qk9.eq_2 (JA_ @R.isA.eq_1 (JA_ @R.isA.eq_2 (JA_ @qtk.eq_1 (JA_ @qoU.eq_1 (JA_ @qbA.eq_1 (JA_ @qbZ.eq_1 (JA_ @S.ly.eq_1 (JA_ @alC.eq_1 (JA_ @alC.eq_2 (JA_ @alX.eq_1 (JA_ @alX.eq_2 (JA_ @qrW.eq_1 (JA_ @qnr.eq_1 (JA_ @qp6.eq_1 (JA_ @ipX.eq_1 (@qoT.eq_1))))))))))))))))))))))
def bx4:=JA_ @qoT.eq_2 (JA_ @qqL.eq_1 (JA_ @qqu.eq_1 (JA_ @ipA.eq_1 (JA_ @ipS.eq_1 (JA_ @ipS.eq_2 (JA_ @ipF.eq_1 (JA_ @qmf.eq_1 (JA_ @qmf.eq_2 (JA_ @q7O.eq_1 (JA_ @qgd.eq_1 (JA_ @qgd.eq_2 (JA_ @zmk.eq_1 (JA_ @zmk.eq_2 (JA_ @S.fin.eq_1 (JA_ @S.fn1.eq_1 (JA_ @S.inr.eq_1 (JA_ @prx.eq_1 (JA_ @APr.of_run (JA_ @pr0.eq_1 (JA_ @List.isEmpty_nil.{0} (JA_ @List.isEmpty_cons.{0} (JA_ @wbC.eq_1 (JA_ @B.beq.eq_1 (JA_ @C.beqL.eq_1 (JA_ @C.beqL.eq_2 (@C.beq0.eq_1))))))))))))))))))))))))))
def bx5:=JA_ @D.beq.eq_1 (JA_ @D.beq.eq_4 (JA_ @qpF.eq_1 (JA_ @dzc.eq_2 (JA_ @dzc.eq_3 (JA_ @C.isNils.eq_1 (JA_ @C.isNils.eq_2 (JA_ @qer (JA_ @List.any_append.{0} (JA_ @q4i.eq_1 (JA_ @q2L.eq_1 (JA_ @q2L.eq_2 (JA_ @qfE.eq_1 (JA_ @fpA.eq_1 (JA_ @qa7.eq_1 (JA_ @S.kill.eq_1 (JA_ @qhq.eq_1 (JA_ @qhq.eq_2 (JA_ @qaZ.eq_1 (JA_ @ql8.eq_1 (JA_ @okX.eq_1 (JA_ @okX.eq_2 (@okK.eq_1))))))))))))))))))))))
def bx6:=JA_ @okN.eq_1 (JA_ @okN.eq_2 (JA_ @q2i.eq_1 (JA_ @qiN.eq_1 (JA_ @qiN.eq_2 (JA_ @qk5.eq_1 (JA_ @qk5.eq_2 (JA_ @q1C.eq_1 (JA_ @qbL.eq_1 (JA_ @q03.eq_1 (JA_ @qcV.eq_1 (JA_ @q1Y.eq_1 (JA_ @q0f.eq_1 (JA_ @q5F.eq_1 (JA_ @q2W.eq_1 (JA_ @q2W.eq_2 (JA_ @cvT.eq_1 (JA_ @q80.eq_1 (JA_ @q3T.eq_1 (JA_ @qmM.eq_1 (JA_ @qjg.eq_1 (JA_ @S.rf.eq_1 (JA_ @S.rfx.eq_1 (JA_ @qm9.eq_1 (JA_ @rdB.eq_1 (JA_ @qgV.eq_1 (JA_ @q3Y.eq_1 (@qeU)))))))))))))))))))))))))))
def bx7:=JA_ @qfy (JA_ @qgm (JA_ @qg7 (JA_ @q2A.eq_1 (JA_ @qb0.eq_1 (JA_ @D.key.eq_1 (JA_ @R.key.eq_1 (JA_ @plK.eq_1 (JA_ @zR.eq_1 (JA_ @tt2.eq_1 (JA_ @B.isOb.eq_2 (@AO.mapR.eq_2)))))))))))
def bx8:=JA_ @AO.Rs.eq_2 (JA_ @R.refs0.eq_1 (JA_ @R.refs0.eq_3 (JA_ @cvA.eq_2 (JA_ @qau.eq_1 (JA_ @xgd.eq_1 (JA_ @xgF.eq_1 (JA_ @xo.eq_1 (JA_ @xo.eq_2 (JA_ @xo.eq_3 (JA_ @xo.eq_4 (JA_ @xo.eq_5 (JA_ @xo.eq_6 (JA_ @xo.eq_7 (JA_ @xo.eq_8 (JA_ @xo.eq_9 (JA_ @xo.eq_10 (JA_ @xo.eq_11 (JA_ @xo.eq_12 (JA_ @xo.eq_13 (JA_ @xo.eq_14 (JA_ @xo.eq_15 (JA_ @xo.eq_16 (JA_ @xo.eq_17 (JA_ @xo.eq_19 (JA_ @xo.eq_20 (JA_ @xo.eq_21 (JA_ @xo.eq_22 (JA_ @xo.eq_23 (@xo.eq_24)))))))))))))))))))))))))))))
def bx9:=JA_ @xo.eq_25 (JA_ @xCl.eq_1 (JA_ @pre.eq_1 (JA_ @pre.eq_2 (JA_ @pre.eq_3 (JA_ @q4d.eq_1 (JA_ @Ja.eq_1 (JA_ @q43.eq_1 (JA_ @q8j.eq_1 (JA_ @q7R.eq_1 (JA_ @q0E.eq_1 (JA_ @JM.eq_2 (JA_ @JM.eq_3 (JA_ @qre.eq_1 (JA_ @qav.eq_1 (JA_ @qav.eq_2 (JA_ @cvR.eq_1 (JA_ @cvR.eq_2 (JA_ @cvR.eq_3 (JA_ @cvL.eq_1 (JA_ @cvL.eq_2 (JA_ @qe8.eq_1 (JA_ @qe8.eq_2 (JA_ @cv.eq_1 (JA_ @cv.eq_2 (JA_ @cv0.eq_1 (@cv0.eq_5))))))))))))))))))))))))))
def qv2:=JA_ @cv0.eq_9 (JA_ @cv0.eq_10 (JA_ @cv0.eq_11 (JA_ @cvG.eq_1 (JA_ @cvG.eq_2 (JA_ @cvB.eq_1 (JA_ @cvB.eq_2 (JA_ @cvB.eq_3 (JA_ @vis.eq_1 (JA_ @q2T.eq_1 (JA_ @q2T.eq_2 (JA_ @q0F (JA_ @qjw.eq_1 (JA_ @pos.eq_1 (JA_ @pos.eq_2 (JA_ @qeO.eq_1 (JA_ @q5p.eq_1 (JA_ @q8d.eq_1 (JA_ @qot.eq_1 (JA_ @q00.eq_1 (JA_ @JJ.eq_1 (JA_ @q0S.eq_1 (JA_ @q3d.eq_1 (JA_ @q0x.eq_1 (JA_ @q8N.eq_1 (JA_ @q8N.eq_2 (JA_ @q8N.eq_3 (JA_ @q8N.eq_4 (@q8N.eq_5))))))))))))))))))))))))))))
def qvm:=JA_ @q8N.eq_10 (JA_ @q8N.eq_11 (JA_ @q8N.eq_12 (JA_ @q8N.eq_13 (JA_ @q8N.eq_14 (JA_ @q8N.eq_15 (JA_ @qkP.eq_3 (JA_ @qkP.eq_4 (JA_ @qoS.eq_1 (JA_ @qoJ.eq_1 (JA_ @qp1.eq_1 (JA_ @qoN.eq_1 (JA_ @qp4.eq_1 (JA_ @qp8.eq_1 (JA_ @qff.eq_1 (JA_ @q86.eq_1 (JA_ @q8G.eq_1 (JA_ @Zm.eq_1 (JA_ @q1S.eq_1 (@q79.eq_1)))))))))))))))))))
def quS:=JA_ @q1t.eq_1 (JA_ @Kd.isSl.eq_1 (JA_ @nrm.eq_1 (JA_ @qgL.eq_1 (JA_ @qry.eq_1 (JA_ @rng.eq_1 (JA_ @rng.eq_2 (JA_ @rwAll.eq_1 (JA_ @rwAll.eq_2 (JA_ @rw1.eq_1 (JA_ @rw1.eq_2 (JA_ @cn.eq_1 (JA_ @cn.eq_2 (JA_ @cn0.eq_1 (JA_ @cn0.eq_2 (JA_ @cn0.eq_3 (JA_ @cn0.eq_5 (JA_ @cnR.eq_2 (JA_ @qbf.eq_1 (JA_ @qbf.eq_2 (JA_ @qbf.eq_3 (JA_ @cnB.eq_1 (JA_ @cnB.eq_2 (JA_ @cnB.eq_3 (JA_ @cnH.eq_1 (JA_ @cnH.eq_2 (JA_ @qlf (JA_ @qB.eq_1 (JA_ @qB.eq_2 (@qB.eq_3)))))))))))))))))))))))))))))
def quw:=JA_ @qnm.eq_1 (JA_ @q9u.eq_1 (JA_ @q4L.eq_1 (JA_ @qam.eq_1 (JA_ @q4y.eq_1 (JA_ @q7J.eq_1 (JA_ @q4C.eq_1 (JA_ @q4C.eq_2 (JA_ @S.frz.eq_1 (JA_ @S.frz.eq_2 (JA_ @S.frz1.eq_1 (JA_ @fz.eq_1 (JA_ @fz.eq_2 (JA_ @fz0.eq_1 (JA_ @fz0.eq_2 (JA_ @fz0.eq_3 (JA_ @fz0.eq_5 (JA_ @fzR.eq_1 (JA_ @fzR.eq_2 (JA_ @qeb.eq_1 (JA_ @qeb.eq_2 (JA_ @qeb.eq_3 (JA_ @fzB.eq_1 (JA_ @fzB.eq_2 (JA_ @fzB.eq_3 (JA_ @fzB.eq_4 (JA_ @qog (JA_ @dz.eq_1 (JA_ @dz.eq_2 (JA_ @dzL.eq_1 (JA_ @dzL.eq_2 (JA_ @dzR.eq_1 (JA_ @dzR.eq_2 (JA_ @q9X.eq_1 (JA_ @q9X.eq_2 (@one.eq_1)))))))))))))))))))))))))))))))))))
def qtE:=JA_ @one.eq_2 (JA_ @rvs.eq_1 (JA_ @rvs.eq_2 (JA_ @qhO.eq_1 (JA_ @qhO.eq_2 (JA_ @tt.eq_1 (JA_ @ff.eq_1 (JA_ @q3q.eq_1 (JA_ @q3q.eq_2 (JA_ @C.ref0.eq_1 (JA_ @C.ref0.eq_2 (JA_ @C.ref0.eq_3 (JA_ @C.ref0.eq_4 (JA_ @C.refs.eq_1 (JA_ @C.refs.eq_2 (JA_ @B.refs.eq_1 (JA_ @B.refs.eq_2 (JA_ @B.refs.eq_3 (JA_ @B.refs.eq_4 (JA_ @R.refs.eq_1 (JA_ @R.refs.eq_2 (JA_ @R.refs.eq_4 (JA_ @C.rows0.eq_1 (JA_ @C.rows0.eq_2 (JA_ @C.rows.eq_1 (JA_ @C.rows.eq_2 (JA_ @R.rows.eq_1 (JA_ @R.rows.eq_2 (JA_ @R.rows.eq_3 (JA_ @C.ptrs0.eq_1 (JA_ @C.ptrs0.eq_2 (JA_ @C.ptrs0.eq_3 (JA_ @C.ptrs.eq_1 (JA_ @C.ptrs.eq_2 (JA_ @R.ptrs.eq_1 (JA_ @R.ptrs.eq_2 (JA_ @R.ptrs.eq_3 (JA_ @B.isBlk.eq_1 (@B.isBlk.eq_2))))))))))))))))))))))))))))))))))))))
def qu2:=JA_ @B.isBlk.eq_3 (JA_ @R.scl.eq_1 (JA_ @R.scl.eq_2 (JA_ @R.scl0.eq_1 (JA_ @R.scl0.eq_2 (JA_ @R.scl0.eq_3 (JA_ @C.scl.eq_1 (JA_ @C.scl.eq_2 (JA_ @C.scl0.eq_1 (JA_ @C.scl0.eq_3 (JA_ @C.scl0.eq_5 (JA_ @B.scl.eq_1 (JA_ @B.scl.eq_2 (JA_ @B.scl.eq_3 (JA_ @C.dat.eq_2 (JA_ @C.dat0.eq_1 (JA_ @C.dat0.eq_9 (JA_ @ren.eq_1 (JA_ @R.rn.eq_1 (JA_ @R.rn.eq_2 (JA_ @R.rn0.eq_1 (JA_ @R.rn0.eq_2 (JA_ @R.rn0.eq_3 (JA_ @C.rn.eq_1 (JA_ @C.rn.eq_2 (JA_ @C.rn0.eq_1 (JA_ @C.rn0.eq_2 (@C.rn0.eq_3)))))))))))))))))))))))))))
def que:=JA_ @C.rn0.eq_6 (JA_ @B.rn.eq_1 (JA_ @B.rn.eq_2 (JA_ @B.rn.eq_3 (JA_ @qnO (JA_ @S.aft.eq_1 (JA_ @S.fgL.eq_1 (JA_ @S.fgL.eq_2 (JA_ @C.fgL.eq_1 (JA_ @C.fgL.eq_2 (JA_ @C.fgL.eq_3 (JA_ @C.fgL.eq_5 (JA_ @R.fgL.eq_1 (JA_ @R.fgL.eq_2 (JA_ @R.fgL.eq_3 (JA_ @B.fgL.eq_1 (JA_ @B.fgL.eq_2 (JA_ @B.fgL.eq_3 (JA_ @B.fgL.eq_4 (JA_ @C.farL.eq_1 (JA_ @C.farL.eq_2 (JA_ @C.farL.eq_3 (JA_ @C.farL.eq_5 (JA_ @R.farL.eq_1 (JA_ @B.farL.eq_2 (JA_ @B.farL.eq_3 (JA_ @qow.eq_3 (@qb2.eq_1)))))))))))))))))))))))))))
def qvc:=JA_ @qb2.eq_2 (JA_ @S.ev.eq_1 (JA_ @S.ev.eq_2 (JA_ @S.ev.eq_3 (JA_ @S.get.eq_1 (JA_ @S.blk.eq_1 (JA_ @S.put.eq_1 (JA_ @S.put.eq_2 (JA_ @S.up.eq_1 (JA_ @S.bd.eq_1 (JA_ @S.bd.eq_2 (JA_ @S.seq.eq_1 (JA_ @S.cell1.eq_1 (JA_ @lk.eq_1 (JA_ @lk.eq_2 (JA_ @QZ.eq_1 (JA_ @QZ.eq_2 (JA_ @QZ.eq_3 (JA_ @QZ.eq_5 (JA_ @QZ.eq_6 (JA_ @QZ.eq_7 (JA_ @JX.eq_1 (JA_ @JX.eq_2 (JA_ @qid (JA_ @ldx.eq_1 (JA_ @bld.eq_1 (JA_ @bld.eq_2 (JA_ @spl.eq_1 (JA_ @spl.eq_2 (JA_ @Zi.eq_1 (JA_ @Ty.foff.eq_1 (JA_ @R.cells.eq_1 (JA_ @R.cells.eq_2 (@R.parts.eq_1)))))))))))))))))))))))))))))))))
def quz:=JA_ @R.parts.eq_2 (JA_ @B.cells.eq_1 (JA_ @B.cells.eq_2 (JA_ @B.live.eq_1 (JA_ @B.live.eq_2 (JA_ @C.known.eq_3 (JA_ @C.far.eq_1 (JA_ @C.far.eq_5 (JA_ @S.fg.eq_1 (JA_ @R.fg.eq_1 (JA_ @R.fg.eq_2 (JA_ @R.fg.eq_3 (JA_ @R.fg.eq_4 (JA_ @B.fg.eq_1 (JA_ @B.fg.eq_2 (JA_ @B.fg.eq_3 (JA_ @B.fg.eq_4 (JA_ @C.fg.eq_1 (JA_ @C.fg.eq_2 (JA_ @C.fg.eq_3 (JA_ @C.fg.eq_4 (JA_ @C.fg.eq_5 (JA_ @D1.eq_1 (JA_ @Jv.eq_1 (JA_ @Jv.eq_2 (JA_ @Jv.eq_4 (JA_ @Jv.eq_6 (JA_ @Jv.eq_7 (JA_ @Jv.eq_8 (@Jv.eq_9)))))))))))))))))))))))))))))
def qvH:=JA_ @Jv.eq_10 (JA_ @Jv.eq_12 (JA_ @Jv.eq_14 (JA_ @Jv.eq_15 (JA_ @Jv.eq_17 (JA_ @Jv.eq_19 (JA_ @Jv.eq_21 (JA_ @Jv.eq_23 (JA_ @Jv.eq_24 (JA_ @q9S.eq_1 (JA_ @q9S.eq_2 (JA_ @q9S.eq_3 (JA_ @q9S.eq_5 (JA_ @q9S.eq_6 (JA_ @q3B.eq_3 (JA_ @q3B.eq_5 (JA_ @q3B.eq_6 (JA_ @qbW.eq_1 (JA_ @qbW.eq_3 (JA_ @qbW.eq_4 (JA_ @qbW.eq_5 (JA_ @fpC.eq_1 (JA_ @qnY.eq_1 (JA_ @qkK.eq_1 (JA_ @qp9.eq_1 (JA_ @C.lt0.eq_3 (@C.lt0.eq_4))))))))))))))))))))))))))
def quv:=JA_ @C.ltn.eq_2 (JA_ @R.lt0.eq_1 (JA_ @R.lt0.eq_2 (JA_ @R.ltn.eq_1 (JA_ @R.ltn.eq_2 (JA_ @B.ltn.eq_1 (JA_ @q0v.eq_1 (JA_ @Fp.none?.eq_1 (JA_ @okP.eq_1 (JA_ @okP.eq_2 (JA_ @qfc (JA_ @qfA (JA_ @qjy (JA_ @qf0 (JA_ @qeA (JA_ @qeI (JA_ @qjn (JA_ @qfi (JA_ @qf5 (JA_ @qfS (JA_ @q9y (JA_ @qjR (JA_ @qfP (JA_ @qfn (JA_ @qjU (JA_ @qfC (JA_ @qf1 (JA_ @qej (JA_ @qjT (JA_ @qfR (JA_ @qfk (JA_ @qet (@qhP))))))))))))))))))))))))))))))))
def qvj:=JA_ @qfN (JA_ @qjP (JA_ @qdL (JA_ @qiv (JA_ @qf4 (JA_ @qeF (JA_ @qnk (JA_ @qhY (JA_ @C.farF.eq_2 (JA_ @Op.operands.eq_1 (JA_ @Op.operands.eq_4 (JA_ @Op.operands.eq_5 (JA_ @Op.operands.eq_7 (JA_ @Op.operands.eq_8 (JA_ @Op.operands.eq_10 (JA_ @Op.operands.eq_14 (JA_ @Op.operands.eq_20 (JA_ @Op.operands.eq_24 (@Op.operands.eq_25))))))))))))))))))
def qtP:=JA_ @Op.operands.eq_26 (JA_ @Op.operands.eq_27 (JA_ @Op.operands.eq_29 (JA_ @Op.operands.eq_31 (JA_ @Op.operands.eq_36 (JA_ @Op.operands.eq_40 (JA_ @qlF (JA_ @qmO (JA_ @Option.isNone_none.{0} (JA_ @qll.eq_1 (JA_ @qll.eq_2 (JA_ @Option.toList_some.{0} (JA_ @Option.toList_none.{0} (JA_ @List.all_append.{0} (JA_ @List.getElem?_nil.{0} (JA_ @List.drop_zero.{0} (JA_ @wi (JA_ @Int.cast_ofNat_Int (JA_ @Int.le_refl (JA_ @qwb (JA_ @Option.bind_assoc.{0,0,0} (JA_ @List.any_nil.{0} (JA_ @List.any_cons.{0} (JA_ @List.getD_cons_zero.{0} (JA_ @List.getD_cons_succ.{0} (JA_ @true_and (@and_true))))))))))))))))))))))))))
def quj:=JA_ @and_false (JA_ @qwK.{0} (JA_ @Prod.mk.injEq.{0,0} (JA_ @qvV.{0,0} (JA_ @Option.bind_none.{0,0} (JA_ @Option.map_some.{0,0} (JA_ @Option.map_none.{0,0} (JA_ @Option.getD_some.{0} (JA_ @Option.getD_none.{0} (JA_ @ne_eq.{1} (JA_ @not_false_eq_true (JA_ @or_true (JA_ @or_false (JA_ @Bool.false_eq_true (JA_ @qwi.{0,0} (JA_ @List.map_nil.{0,0} (JA_ @List.all_cons.{0} (JA_ @List.all_nil.{0} (JA_ @qwW (JA_ @qws (JA_ @Bool.and_false (JA_ @Bool.false_and (JA_ @qwr (JA_ @Bool.or_true (JA_ @Bool.true_or (JA_ @Bool.or_false (JA_ @Bool.false_or (JA_ @qw6.{0} (JA_ @qwE.{0} (JA_ @qwD.{0,0} (JA_ @qw5.{0} (JA_ @qwk.{0} (JA_ @qwX.{0,0} (JA_ @List.foldl_nil.{0,0} (JA_ @qwZ.{0} (@qwf.{0})))))))))))))))))))))))))))))))))))
def qtG:=JA_ @qwg.{0} (JA_ @Nat.max_def (JA_ @decide_true (JA_ @decide_false (JA_ @decide_not (JA_ @qwU (JA_ @qwl (JA_ @Nat.zero_mul (JA_ @Nat.mul_one (JA_ @Nat.one_mul (JA_ @Nat.add_zero (JA_ @qwj (JA_ @qvY (JA_ @List.mapM_cons.{0,0,0} (JA_ @List.mapM_nil.{0,0,0} (JA_ @List.drop_succ_cons.{0} (JA_ @List.drop_nil.{0} (JA_ @List.take_succ_cons.{0} (JA_ @List.take_zero.{0} (JA_ @List.replicate_succ.{0} (JA_ @List.replicate_zero.{0} (JA_ @List.set_cons_zero.{0} (JA_ @List.set_cons_succ.{0} (JA_ @and_self (JA_ @Bool.not_true (JA_ @Bool.not_false (JA_ @List.contains_cons.{0} (JA_ @List.contains_nil.{0} (JA_ @qwY.{0,0} (JA_ @List.flatMap_nil.{0,0} (JA_ @List.filter_cons.{0} (JA_ @List.filter_nil.{0} (JA_ @List.eraseDups_cons.{0} (JA_ @List.eraseDups_nil.{0} (JA_ @List.nodup_cons.{0} (JA_ @List.nodup_nil.{0} (JA_ @qwh.{0} (JA_ @List.not_mem_nil.{0} (JA_ @List.headD_cons.{0} (@List.headD_nil.{0})))))))))))))))))))))))))))))))))))))))
def qvf:=JA_ @List.tail_cons.{0} (JA_ @List.tail_nil.{0} (JA_ @beq_self_eq_true.{0} (JA_ @Zd (JA_ @List.range_succ (JA_ @List.range_zero (JA_ @ite_self.{1} (JA_ @qfH (JA_ @qga (JA_ @qeq (JA_ @qaq (JA_ @qld (JA_ @qnf (JA_ @frA.eq_1 (JA_ @R.dat.eq_1 (JA_ @R.dat.eq_2 (JA_ @qhp (JA_ @qjb (JA_ @qor (JA_ @qie (JA_ @qlx (JA_ @qiC (JA_ @qjt (@qkQ)))))))))))))))))))))))
def qvP:=JA_ @qg1 (JA_ @q6V (JA_ @qg5 (JA_ @mpo.eq_2 (JA_ @qrS (JA_ @qa5 (JA_ @qn8 (JA_ @qcK (JA_ @qix (JA_ @qkF (JA_ @qhw (JA_ @qmG (JA_ @qeV (JA_ @qhG (JA_ @qdd (JA_ @qiU (JA_ @qed (JA_ @qhh (@qg4))))))))))))))))))
def quU:=JA_ @J2.eq_1 (JA_ @J2.eq_2 (JA_ @qjE.eq_2 (JA_ @hdG.eq_1 (@qox.eq_2))))
def qtM:=JA_ @qa6 (JA_ @qiQ (JA_ @qfW (JA_ @qeo (JA_ @qk1 (JA_ @qfp (JA_ @qh9 (JA_ @qfG (JA_ @q9w (JA_ @qjc (JA_ @qeh (JA_ @qeK (JA_ @qiT (JA_ @qgf (JA_ @qiR (JA_ @qec (JA_ @qhC (JA_ @qjz (JA_ @qgg (JA_ @qhn (JA_ @qur (JA_ @quN (JA_ @qqJ (@qqR)))))))))))))))))))))))
def qtZ:=JA_ @qqP (JA_ @qmp (JA_ @qlZ (JA_ @qmu (JA_ @qpi (JA_ @qmQ (JA_ @qpc (JA_ @qo9 (JA_ @qoo (JA_ @qjF (JA_ @qj1 (JA_ @qkR (JA_ @qiJ (JA_ @qmk (JA_ @qhc (JA_ @qut (JA_ @qaj (JA_ @qfx (JA_ @qnN (JA_ @qhu (JA_ @qjH (JA_ @Sum.elim_inl.{0,1,0} (JA_ @Sum.elim_inr.{0,1,0} (JA_ @q5u (JA_ @qcz (JA_ @qd1 (JA_ @qgh (JA_ @qoM.eq_1 (@qnC))))))))))))))))))))))))))))
def qu8:=JA_ @qcB (JA_ @qgn (JA_ @qkD (JA_ @qjI (JA_ @qja (JA_ @qiS (JA_ @qhs (JA_ @qhK (JA_ @qiE (JA_ @q76 (JA_ @q6I (JA_ @qnw (JA_ @qri.eq_1 (JA_ @qw2.{0} (JA_ @qwG.{0} (JA_ @qwC.{0} (JA_ @q9J (JA_ @qbE (JA_ @List.take_nil.{0} (@qd2)))))))))))))))))))
def quq:=JA_ @JQ (JA_ @q5j (JA_ @q2m (JA_ @qke (@qge))))
theorem qvi (a0 a1 a2:Int) (i:Nat):([C.d (D.int .i64 a0),C.d (D.int .i64 a1),C.d (D.int .i64 a2)]:List C)[i]?=([a0,a1,a2][i]?).bind fun x=>some (C.d (D.int .i64 x)):=by rw[show([C.d (D.int .i64 a0),C.d (D.int .i64 a1),C.d (D.int .i64 a2)]:List C)=[a0,a1,a2].map (fun x=>C.d (D.int .i64 x)) from rfl,qw9];cases([a0,a1,a2]:List Int)[i]? <;> rfl
theorem qvt (a0 a1 a2 a3:Int) (i:Nat):([C.d (D.int .i64 a0),C.d (D.int .i64 a1),C.d (D.int .i64 a2),C.d (D.int .i64 a3)]:List C)[i]?=([a0,a1,a2,a3][i]?).bind fun x=>some (C.d (D.int .i64 x)):=by rw[show([C.d (D.int .i64 a0),C.d (D.int .i64 a1),C.d (D.int .i64 a2),C.d (D.int .i64 a3)]:List C)=[a0,a1,a2,a3].map (fun x=>C.d (D.int .i64 x)) from rfl,qw9];cases([a0,a1,a2,a3]:List Int)[i]? <;> rfl
theorem quY (a0 a1 a2 a3 a4:Int) (i:Nat):([C.d (D.int .i64 a0),C.d (D.int .i64 a1),C.d (D.int .i64 a2),C.d (D.int .i64 a3),C.d (D.int .i64 a4)]:List C)[i]?=([a0,a1,a2,a3,a4][i]?).bind fun x=>some (C.d (D.int .i64 x)):=by rw[show([C.d (D.int .i64 a0),C.d (D.int .i64 a1),C.d (D.int .i64 a2),C.d (D.int .i64 a3),C.d (D.int .i64 a4)]:List C)=[a0,a1,a2,a3,a4].map (fun x=>C.d (D.int .i64 x)) from rfl,qw9];cases([a0,a1,a2,a3,a4]:List Int)[i]? <;> rfl
theorem quf (a0 a1 a2 a3 a4 a5:Int) (i:Nat):([C.d (D.int .i64 a0),C.d (D.int .i64 a1),C.d (D.int .i64 a2),C.d (D.int .i64 a3),C.d (D.int .i64 a4),C.d (D.int .i64 a5)]:List C)[i]?=([a0,a1,a2,a3,a4,a5][i]?).bind fun x=>some (C.d (D.int .i64 x)):=by rw[show([C.d (D.int .i64 a0),C.d (D.int .i64 a1),C.d (D.int .i64 a2),C.d (D.int .i64 a3),C.d (D.int .i64 a4),C.d (D.int .i64 a5)]:List C)=[a0,a1,a2,a3,a4,a5].map (fun x=>C.d (D.int .i64 x)) from rfl,qw9];cases([a0,a1,a2,a3,a4,a5]:List Int)[i]? <;> rfl
theorem qu9 (a0 a1 a2:ByteArray) (i:Nat):([C.d (D.str a0),C.d (D.str a1),C.d (D.str a2)]:List C)[i]?=([a0,a1,a2][i]?).bind fun x=>some (C.d (D.str x)):=by rw[show([C.d (D.str a0),C.d (D.str a1),C.d (D.str a2)]:List C)=[a0,a1,a2].map (fun x=>C.d (D.str x)) from rfl,qw9];cases([a0,a1,a2]:List ByteArray)[i]? <;> rfl
theorem quK (a0 a1 a2 a3:ByteArray) (i:Nat):([C.d (D.str a0),C.d (D.str a1),C.d (D.str a2),C.d (D.str a3)]:List C)[i]?=([a0,a1,a2,a3][i]?).bind fun x=>some (C.d (D.str x)):=by rw[show([C.d (D.str a0),C.d (D.str a1),C.d (D.str a2),C.d (D.str a3)]:List C)=[a0,a1,a2,a3].map (fun x=>C.d (D.str x)) from rfl,qw9];cases([a0,a1,a2,a3]:List ByteArray)[i]? <;> rfl
theorem qpQ {α:Type} (l:List α) (j:Nat):List.take (l.length-j) (List.drop j l)=List.drop j l:=by rw[qx0];rw[qwH];exact qwb _
theorem qnl (sz:Nat) (x:Int):D.sl sz 1 (eI x)=D.sl sz 1 [D.int .i64 x]:=rfl
theorem qkz:(min 3 4:Nat)=3:=rfl
theorem qif (l:List Int):(l.length=(ZJ l).length)=True:=eq_true (q0u l).symm
def bz0:=JA_ @qvi (JA_ @qvt (JA_ @quY (JA_ @quf (JA_ @qu9 (@quK)))))
def bz1:=JA_ @qpQ (@qnl)
def bz2:=@qkz
def bz5:=@qif
end
noncomputable section
open Go.RowKit
structure QF (α:Type) where
 a0:α
 a1:α
def eA2 {α:Type} (E:α→List D) (x:QF α):List D:=E x.a0++E x.a1
structure qgP (α:Type) where
 a0:α
 a1:α
 a2:α
structure Ql where
 Has:List (List Int)
 Odd:QF (qgP Int)
 Programme:List Int
 Day:Int
structure qf where
 Worst:Int
 Best:Int
 Pass:Int
def QY (x:qf):List D:=[D.int .i64 x.Worst,D.int .i64 x.Best,D.int .i64 x.Pass]
theorem q4G (x:qf):QY x=[D.int .i64 x.Worst,D.int .i64 x.Best,D.int .i64 x.Pass]:=rfl
theorem q3z (x:qf):(QY x).length=3:=rfl
structure qb where
 School:Int
 Code:ByteArray
def qh (x:qb):List D:=[D.int .i64 x.School,D.str x.Code]
theorem Qz (x:qb):qh x=[D.int .i64 x.School,D.str x.Code]:=rfl
theorem q05 (x:qb):(qh x).length=2:=rfl
theorem q2Y (x:qb):qb.mk x.School x.Code=x:=rfl
structure qa where
 Course:qb
 Credits:Int
 Grade:Int
 Day:Int
 Sources:List Int
 Bundle:Int
 Path:List Int
def qc (x:qa):List D:=[D.int .i64 x.Course.School,D.str x.Course.Code,D.int .i64 x.Credits,D.int .i64 x.Grade,D.int .i64 x.Day,D.sl 1 x.Sources.length (x.Sources.flatMap eI),D.int .i64 x.Bundle,D.sl 1 x.Path.length (x.Path.flatMap eI)]
theorem qU (x:qa):qc x=[D.int .i64 x.Course.School,D.str x.Course.Code,D.int .i64 x.Credits,D.int .i64 x.Grade,D.int .i64 x.Day,D.sl 1 x.Sources.length (x.Sources.flatMap eI),D.int .i64 x.Bundle,D.sl 1 x.Path.length (x.Path.flatMap eI)]:=rfl
theorem Zx (x:qa):(qc x).length=8:=rfl
theorem q0q (x:qa):qa.mk x.Course x.Credits x.Grade x.Day x.Sources x.Bundle x.Path=x:=rfl
structure qg where
 Kind:Int
 N:Int
 Min:Int
 Set:List qb
 L:List qg
mutual
def qq:qg→List D
 | ⟨a0,a1,a2,a3,a4⟩=>[D.int .i64 a0,D.int .i64 a1,D.int .i64 a2,D.sl 2 a3.length (a3.flatMap qh),D.sl 5 a4.length (zQ a4)]
def zQ:List qg→List D
 | []=>[]
 | x::l=>qq x++zQ l
end
theorem JZ:∀l:List qg,zQ l=l.flatMap qq
 | []=>rfl
 | x::l=>by rw[qwY,←JZ l,zQ]
theorem q1y (x:qg):qq x=[D.int .i64 x.Kind,D.int .i64 x.N,D.int .i64 x.Min,D.sl 2 x.Set.length (x.Set.flatMap qh),D.sl 5 x.L.length (x.L.flatMap qq)]:=by cases x;rw[qq,JZ]
theorem QU (x:qg):(qq x).length=5:=by rw[q1y];rfl
theorem q4H (x:qg):qg.mk x.Kind x.N x.Min x.Set x.L=x:=by cases x;rfl
structure qe where
 School:Int
 Id:Int
 Version:Int
 From:Int
 Name:ByteArray
 Need:qg
 Total:Int
 Own:Int
 Age:Int
 Exclude:List (QF qb)
theorem q1h (x:qe):qe.mk x.School x.Id x.Version x.From x.Name x.Need x.Total x.Own x.Age x.Exclude=x:=rfl
structure qd where
 L:List Int
 At:Int
theorem q35 (x:qd):qd.mk x.L x.At=x:=rfl
theorem q7e:∀x:(List Int),((eL 1 eI) x).length=1:=fun _=>rfl
theorem qls (v:List (List Int)):(v.flatMap (eL 1 eI)).length=v.length:=by rw[J9 q7e,Nat.mul_one]
theorem qak (v:List (List Int)) (i:Nat):ld T ((v.flatMap (eL 1 eI)).map C.d) (i) 25=(v[i]?).bind fun x=>some (.c (.d (D.sl 1 x.length (x.flatMap eI)))):=by rw[q5V q7e v i _ (by decide)];cases v[i]? with|none=>rfl|some x=>rfl
theorem q6u:∀x:Int,(eI x).length=1:=fun _=>rfl
theorem qqE (v:List Int):(v.flatMap eI).length=v.length:=by rw[J9 q6u,Nat.mul_one]
theorem qeD (v:List Int) (i:Nat):ld T ((v.flatMap eI).map C.d) (i) 3=(v[i]?).bind fun x=>some (.c (.d (D.int .i64 x))):=by rw[q5V q6u v i _ (by decide)];cases v[i]? with|none=>rfl|some x=>rfl
theorem qrk (v:List Int) (a:Int):(v.flatMap eI).map C.d++[C.d (D.int .i64 a)]=((v++[a]).flatMap eI).map C.d:=by have h:=q3E (E:=eI) v a;exact h
theorem qny (v:List Int) (i:Nat) (a:Int):spr ((v.flatMap eI).map C.d) (i) [C.d (D.int .i64 a)]=((v.set i a).flatMap eI).map C.d:=by have h:=q74 q6u v i a;rw[Nat.mul_one] at h;exact h
theorem qof (m:Nat):(List.replicate m [C.d (D.int .i64 0)]).flatten=((List.replicate m 0).flatMap eI).map C.d:=qin (E:=eI) 0 (by rfl) m
theorem Jc:∀x:qa,(qc x).length=8:=Zx
theorem qnt (v:List qa):(v.flatMap qc).length=v.length*8:=by rw[J9 Jc]
theorem q9D (v:List qa) (i:Nat):ld T ((v.flatMap qc).map C.d) (i*8) 52=(v[i]?).bind fun x=>some (.agg [.d (D.int .i64 x.Course.School),.d (D.str x.Course.Code),.d (D.int .i64 x.Credits),.d (D.int .i64 x.Grade),.d (D.int .i64 x.Day),.d (D.sl 1 x.Sources.length (x.Sources.flatMap eI)),.d (D.int .i64 x.Bundle),.d (D.sl 1 x.Path.length (x.Path.flatMap eI))]):=by rw[q5B Jc v i _ (by decide) (by decide)];cases v[i]? with|none=>rfl|some x=>rw[qvV,qvV,qU];rfl
theorem qce (v:List qa) (i:Nat):ld T ((v.flatMap qc).map C.d) (i*8+1) 9=(v[i]?).bind fun x=>some (.c (.d (D.str x.Course.Code))):=by rw[q3L Jc v i 1 _ (by decide) (by decide)];cases v[i]? with|none=>rfl|some x=>rw[qvV,qvV,qU];rfl
theorem qdZ (v:List qa):ld T ((v.flatMap qc).map C.d) 9 9=(v[1]?).bind fun x=>some (.c (.d (D.str x.Course.Code))):=by have h:=qce v 1;exact h
theorem qc4 (v:List qa) (i:Nat):ld T ((v.flatMap qc).map C.d) (i*8+3) 3=(v[i]?).bind fun x=>some (.c (.d (D.int .i64 x.Grade))):=by rw[q3L Jc v i 3 _ (by decide) (by decide)];cases v[i]? with|none=>rfl|some x=>rw[qvV,qvV,qU];rfl
theorem qaD (v:List qa):ld T ((v.flatMap qc).map C.d) 3 3=(v[0]?).bind fun x=>some (.c (.d (D.int .i64 x.Grade))):=by have h:=qc4 v 0;rwa [Nat.zero_mul,qwj] at h
theorem qaa (v:List qa) (i:Nat):ld T ((v.flatMap qc).map C.d) (i*8+5) 25=(v[i]?).bind fun x=>some (.c (.d (D.sl 1 x.Sources.length (x.Sources.flatMap eI)))):=by rw[q3L Jc v i 5 _ (by decide) (by decide)];cases v[i]? with|none=>rfl|some x=>rw[qvV,qvV,qU];rfl
theorem qkB (v:List qa) (a_Course_School:Int) (a_Course_Code:ByteArray) (a_Credits:Int) (a_Grade:Int) (a_Day:Int) (a_Sources:List Int) (a_Bundle:Int) (a_Path:List Int):(v.flatMap qc).map C.d++[C.d (D.int .i64 a_Course_School),C.d (D.str a_Course_Code),C.d (D.int .i64 a_Credits),C.d (D.int .i64 a_Grade),C.d (D.int .i64 a_Day),C.d (D.sl 1 a_Sources.length (a_Sources.flatMap eI)),C.d (D.int .i64 a_Bundle),C.d (D.sl 1 a_Path.length (a_Path.flatMap eI))]=((v++[(qa.mk (qb.mk a_Course_School a_Course_Code) a_Credits a_Grade a_Day a_Sources a_Bundle a_Path)]).flatMap qc).map C.d:=by have h:=q3E (E:=qc) v (qa.mk (qb.mk a_Course_School a_Course_Code) a_Credits a_Grade a_Day a_Sources a_Bundle a_Path);rw[qU] at h;exact h
theorem qj6 (v:List qa) (i:Nat) (a_Course_School:Int) (a_Course_Code:ByteArray) (a_Credits:Int) (a_Grade:Int) (a_Day:Int) (a_Sources:List Int) (a_Bundle:Int) (a_Path:List Int):spr ((v.flatMap qc).map C.d) (i*8) [C.d (D.int .i64 a_Course_School),C.d (D.str a_Course_Code),C.d (D.int .i64 a_Credits),C.d (D.int .i64 a_Grade),C.d (D.int .i64 a_Day),C.d (D.sl 1 a_Sources.length (a_Sources.flatMap eI)),C.d (D.int .i64 a_Bundle),C.d (D.sl 1 a_Path.length (a_Path.flatMap eI))]=((v.set i (qa.mk (qb.mk a_Course_School a_Course_Code) a_Credits a_Grade a_Day a_Sources a_Bundle a_Path)).flatMap qc).map C.d:=by have h:=q74 Jc v i (qa.mk (qb.mk a_Course_School a_Course_Code) a_Credits a_Grade a_Day a_Sources a_Bundle a_Path);rw[qU] at h;exact h
theorem qkI (v:List qa) (ys:List C):dzc [0,0,0,0,0,1,0,1] [] ((v.flatMap qc).map C.d++ys)=(v.flatMap qc).map C.d++dzc [0,0,0,0,0,1,0,1] [] ys:=qgQ Jc [0,0,0,0,0,1,0,1] rfl v ys
theorem qfZ (s:S) (v:List qa) (lo hi:Option Operand):xsl T s 32 (.c (.d (.sl 8 v.length (v.flatMap qc)))) lo hi=qoM s qc 8 v (s.bd lo 0) (s.bd hi v.length):=qnH Jc v lo hi (by rfl) (by rfl) (by decide)
theorem q1o:∀x:qb,(qh x).length=2:=q05
theorem qns (v:List qb):(v.flatMap qh).length=v.length*2:=by rw[J9 q1o]
theorem qa4 (v:List qb) (i:Nat):ld T ((v.flatMap qh).map C.d) (i*2) 50=(v[i]?).bind fun x=>some (.agg [.d (D.int .i64 x.School),.d (D.str x.Code)]):=by rw[q5B q1o v i _ (by decide) (by decide)];cases v[i]? with|none=>rfl|some x=>rw[qvV,qvV,Qz];rfl
theorem qlX (v:List qb) (a_School:Int) (a_Code:ByteArray):(v.flatMap qh).map C.d++[C.d (D.int .i64 a_School),C.d (D.str a_Code)]=((v++[(qb.mk a_School a_Code)]).flatMap qh).map C.d:=by have h:=q3E (E:=qh) v (qb.mk a_School a_Code);rw[Qz] at h;exact h
theorem qhd (v:List qb) (i:Nat) (a_School:Int) (a_Code:ByteArray):spr ((v.flatMap qh).map C.d) (i*2) [C.d (D.int .i64 a_School),C.d (D.str a_Code)]=((v.set i (qb.mk a_School a_Code)).flatMap qh).map C.d:=by have h:=q74 q1o v i (qb.mk a_School a_Code);rw[Qz] at h;exact h
theorem ql9 (v:List qb) (a:Nat):(v.flatMap qh).drop (a*2)=(v.drop a).flatMap qh:=by have h:=q7h q1o v a;exact h
theorem qnQ (v:List qb) (a:Nat):(v.flatMap qh).take (a*2)=(v.take a).flatMap qh:=by have h:=q7S q1o v a;exact h
theorem qji (v:List qb) (a:Nat):((v.flatMap qh).map C.d).drop (a*2)=((v.drop a).flatMap qh).map C.d:=by rw[←List.map_drop,ql9]
theorem qhA (v:List qb) (a:Nat):((v.flatMap qh).map C.d).take (a*2)=((v.take a).flatMap qh).map C.d:=by rw[←List.map_take,qnQ]
theorem qhR (v w:List qb) (i:Nat):spl (v.flatMap qh) (i*2) (w.flatMap qh)=(spl v i w).flatMap qh:=by have h:=qde q1o w v i;exact h
theorem qb7:∀x:qg,(qq x).length=5:=QU
theorem qlr (v:List qg):(v.flatMap qq).length=v.length*5:=by rw[J9 qb7]
theorem qo7 (v:List qg) (a_Kind:Int) (a_N:Int) (a_Min:Int) (a_Set:List qb) (a_L:List qg):(v.flatMap qq).map C.d++[C.d (D.int .i64 a_Kind),C.d (D.int .i64 a_N),C.d (D.int .i64 a_Min),C.d (D.sl 2 a_Set.length (a_Set.flatMap qh)),C.d (D.sl 5 a_L.length (a_L.flatMap qq))]=((v++[(qg.mk a_Kind a_N a_Min a_Set a_L)]).flatMap qq).map C.d:=by have h:=q3E (E:=qq) v (qg.mk a_Kind a_N a_Min a_Set a_L);rw[q1y] at h;exact h
theorem qii:∀x:(QF qb),((eA2 qh) x).length=4:=fun _=>rfl
theorem qhW:∀x:qf,(QY x).length=3:=q3z
theorem qjK:∀x:(List qa),((eL 8 qc) x).length=1:=fun _=>rfl
theorem q77:∀x:(QF Int),((eA2 eI) x).length=2:=fun _=>rfl
theorem qnV (v:List (QF Int)):(v.flatMap (eA2 eI)).length=v.length*2:=by rw[J9 q77]
theorem qa2 (v:List (QF Int)) (i:Nat):ld T ((v.flatMap (eA2 eI)).map C.d) (i*2) 81=(v[i]?).bind fun x=>some (.agg [.d (D.int .i64 x.a0),.d (D.int .i64 x.a1)]):=by rw[q5B q77 v i _ (by decide) (by decide)];cases v[i]? with|none=>rfl|some x=>rw[qvV,qvV];rfl
theorem qo2 (v:List (QF Int)) (a_0:Int) (a_1:Int):(v.flatMap (eA2 eI)).map C.d++[C.d (D.int .i64 a_0),C.d (D.int .i64 a_1)]=((v++[(QF.mk a_0 a_1)]).flatMap (eA2 eI)).map C.d:=by have h:=q3E (E:=(eA2 eI)) v (QF.mk a_0 a_1);exact h
theorem qgv:∀x:ByteArray,(eS x).length=1:=fun _=>rfl
theorem qen (v:List ByteArray) (i:Nat):ld T ((v.flatMap eS).map C.d) (i) 9=(v[i]?).bind fun x=>some (.c (.d (D.str x))):=by rw[q5V qgv v i _ (by decide)];cases v[i]? with|none=>rfl|some x=>rfl
theorem q3a:∀x:(List Int),((oL 3 1 eI) x).length=1:=fun _=>rfl
theorem JT:∀x:(List Int),((oL 3 1 eI) x).all C.pl=true:=fun _=>rfl
theorem qi7 (v:List (List Int)):(v.flatMap (oL 3 1 eI)).length=v.length:=by rw[qgo q3a,Nat.mul_one]
theorem qi4 (v:List (List Int)) (k:Nat):(v.flatMap (oL 3 1 eI)).map (C.fg k)=v.flatMap (oL 3 1 eI):=qbz JT (qrP k) v
theorem qjW (v:List (List Int)) (ids:List Nat):(v.flatMap (oL 3 1 eI)).map (cn ids)=v.flatMap (oL 3 1 eI):=qbz JT (qrz ids) v
theorem qis (v:List (List Int))  : (v.flatMap (oL 3 1 eI)).map (C.kw)=v.flatMap (oL 3 1 eI):=qbz JT (qqs) v
theorem qfD (v:List (List Int)) (k:Nat):(v.flatMap (oL 3 1 eI)).all (C.far k)=true:=qgI JT (qoc k) v
theorem qaB (v:List (List Int)) (X:List Nat):(v.flatMap (oL 3 1 eI)).all (C.farF X)=true:=qgI JT (qim X) v
theorem qaM (v:List (List Int)):(v.flatMap (oL 3 1 eI)).any C.isNils=false:=qmE JT qhj v
theorem qcR (v:List (List Int)):(v.flatMap (oL 3 1 eI)).flatMap C.refs=[]:=ql1 JT qjd v
theorem qdk (v:List (List Int)):(v.flatMap (oL 3 1 eI)).flatMap C.rows=[]:=ql1 JT qio v
theorem qhX (v:List (List Int)):(v.flatMap (oL 3 1 eI)).map C.uw=(v.flatMap (eL 1 eI)).map C.d:=qka (E:=(oL 3 1 eI)) (F:=(eL 1 eI)) (fun _=>rfl) v
theorem qfY (v:List (List Int)) (ys:List C):q4u [some (3,1)] [] (v.flatMap (oL 3 1 eI)++ys)=v.flatMap (oL 3 1 eI)++q4u [some (3,1)] [] ys:=qgS JT q3a [some (3,1)] rfl v ys
theorem qaF (v:List (List Int)) (i:Nat):(v.flatMap (oL 3 1 eI))[i]?=(v[i]?).bind fun x=>some (C.ow 3 1 x.length (x.flatMap eI)):=by have h:=qh1 q3a (show 0<1 by decide) v i;rwa [Nat.mul_one,Nat.add_zero] at h
theorem qeT (cs:List C) (o:Nat) (c:C):ld T (spr cs o [c]) o 25=(cs[o]?).bind fun _=>some (R.c c):=by rw[qpq (by rw[k25];simp) (by rw[k25];simp) (by rw[k25];simp),qfu]
theorem qbS (v:List (List Int)) (i:Nat) (b:List Int):spr (v.flatMap (oL 3 1 eI)) i [C.ow 3 1 b.length (b.flatMap eI)]=(v.set i b).flatMap (oL 3 1 eI):=qgR q3a (x:=b) rfl v i
theorem qar (v:List (List Int)) (i:Nat) (w:List Int) (z:Int):spr (v.flatMap (oL 3 1 eI)) i [C.ow 3 1 (w.length+1) ((w++[z]).flatMap eI)]=(v.set i (w++[z])).flatMap (oL 3 1 eI):=by have h:=qbS v i (w++[z]);rw[qw2] at h;exact h
theorem qgb (v:List (List Int)):v.flatMap (oL 3 1 eI)++[C.ow 3 1 0 []]=(v++[[]]).flatMap (oL 3 1 eI):=qm8 (E:=(oL 3 1 eI)) v []
theorem qcE {α:Type} {E:α→List D} {k:Nat} (h:∀x,(E x).length=k) (hi:∀x y,E x=E y→x=y):∀x y:QF α,eA2 E x=eA2 E y→x=y:=by
 rintro⟨a0,a1⟩ ⟨b0,b1⟩ e
 unfold eA2 at e
 dsimp only at e
 obtain⟨e,h1⟩:=List.append_inj' e (by rw[h,h])
 rw[hi _ _ e,hi _ _ h1]
theorem q1X (v w:List Int):(v.flatMap eI=w.flatMap eI)=(v=w):=propext ⟨fun h=>(QK q6u (by decide) (fun x y h=>by injection h with h;injection h) _ _) h,fun h=>by rw[h]⟩
theorem JP (v w:List (List Int)):(v.flatMap (eL 1 eI)=w.flatMap (eL 1 eI))=(v=w):=propext ⟨fun h=>(QK q7e (by decide) (fun x y h=>by injection h with h;injection h with _ _ h;exact(QK q6u (by decide) (fun x y h=>by injection h with h;injection h) _ _) h) _ _) h,fun h=>by rw[h]⟩
theorem q4p:∀x y:qf,QY x=QY y→x=y:=by
 rintro⟨a_0,a_1,a_2⟩ ⟨b_0,b_1,b_2⟩ h
 simp only[q4G,List.cons.injEq,D.int.injEq,D.bool.injEq,D.str.injEq,D.sl.injEq,true_and,and_true,q1X,JP] at h
 simp only[h]
theorem q02:∀x y:qb,qh x=qh y→x=y:=by
 rintro⟨a_0,a_1⟩ ⟨b_0,b_1⟩ h
 simp only[Qz,List.cons.injEq,D.int.injEq,D.bool.injEq,D.str.injEq,D.sl.injEq,true_and,and_true,q1X,JP] at h
 simp only[h]
theorem ZA:∀x y:qa,qc x=qc y→x=y:=by
 rintro⟨⟨a_0_0,a_0_1⟩,a_1,a_2,a_3,a_4,a_5,a_6⟩ ⟨⟨b_0_0,b_0_1⟩,b_1,b_2,b_3,b_4,b_5,b_6⟩ h
 simp only[qU,List.cons.injEq,D.int.injEq,D.bool.injEq,D.str.injEq,D.sl.injEq,true_and,and_true,q1X,JP] at h
 simp only[h]
theorem q2e (v w:List qa):(v.flatMap qc=w.flatMap qc)=(v=w):=propext ⟨fun h=>(QK Jc (by decide) ZA _ _) h,fun h=>by rw[h]⟩
theorem q2d (v w:List qb):(v.flatMap qh=w.flatMap qh)=(v=w):=propext ⟨fun h=>(QK q1o (by decide) q02 _ _) h,fun h=>by rw[h]⟩
mutual
theorem q1c:∀x y:qg,qq x=qq y→x=y
 | ⟨a0,a1,a2,a3,a4⟩,⟨b0,b1,b2,b3,b4⟩,h=>by
  rw[qq,qq] at h
  simp only[List.cons.injEq,D.int.injEq,D.bool.injEq,D.str.injEq,D.sl.injEq,true_and,and_true,q1X,JP,q2e,q2d] at h
  have hl:a4=b4:=q0k a4 b4 (by simp only[h])
  subst hl
  simp only[h]
theorem q0k:∀v w:List qg,zQ v=zQ w→v=w
 | [],[],_=>rfl
 | [],y::w,e=>by
  have:=congrArg List.length e
  rw[zQ,zQ,qw2,QU] at this
  first|omega|(simp at this;done)|(simp at this;omega)
 | x::v,[],e=>by
  have:=congrArg List.length e
  rw[zQ,zQ,qw2,QU] at this
  first|omega|(simp at this;done)|(simp at this;omega)
 | x::v,y::w,e=>by
  rw[zQ,zQ] at e
  obtain⟨h1,h2⟩:=List.append_inj e (by rw[QU,QU])
  rw[q1c x y h1,q0k v w h2]
end
theorem q3Z (v w:List qg):(v.flatMap qq=w.flatMap qq)=(v=w):=propext ⟨fun h=>(QK qb7 (by decide) q1c _ _) h,fun h=>by rw[h]⟩
theorem q3v (v w:List (QF qb)):(v.flatMap (eA2 qh)=w.flatMap (eA2 qh))=(v=w):=propext ⟨fun h=>(QK qii (by decide) (qcE q05 q02) _ _) h,fun h=>by rw[h]⟩
theorem q4f (v w:List qf):(v.flatMap QY=w.flatMap QY)=(v=w):=propext ⟨fun h=>(QK qhW (by decide) q4p _ _) h,fun h=>by rw[h]⟩
theorem q49 (v w:List (List qa)):(v.flatMap (eL 8 qc)=w.flatMap (eL 8 qc))=(v=w):=propext ⟨fun h=>(QK qjK (by decide) (fun x y h=>by injection h with h;injection h with _ _ h;exact(QK Jc (by decide) ZA _ _) h) _ _) h,fun h=>by rw[h]⟩
theorem q3I (v w:List (QF Int)):(v.flatMap (eA2 eI)=w.flatMap (eA2 eI))=(v=w):=propext ⟨fun h=>(QK q77 (by decide) (qcE (fun _=>rfl) (fun x y h=>by injection h with h;injection h)) _ _) h,fun h=>by rw[h]⟩
theorem q6K (v w:List ByteArray):(v.flatMap eS=w.flatMap eS)=(v=w):=propext ⟨fun h=>(QK qgv (by decide) (fun x y h=>by injection h with h;injection h) _ _) h,fun h=>by rw[h]⟩
def Q5 (v:Int):R:=R.c (C.d (D.int .i64 v))
theorem q3i (M M':List (Int×Int)):(B.ob (mpB (Jr .i64) Q5 M)=B.ob (mpB (Jr .i64) Q5 M'))=(M=M'):=qjN (fun a b h=>by injection h) (fun a b h=>by simp only[Q5,R.c.injEq,C.d.injEq,D.int.injEq,D.bool.injEq,D.str.injEq,D.sl.injEq,true_and,and_true,q1X,JP,q2e,q2d,q3Z,q3v,q4f,q49,q3I,q6K] at h;simp only[h]) M M'
theorem qkq (id:Nat) (M:List (Int×Int)):AO.mapR (R.fg id) (mpB (Jr .i64) Q5 M)=mpB (Jr .i64) Q5 M:=q1H (vE:=Q5) (fun v=>rfl) M
theorem qkt (f:Nat→Nat) (M:List (Int×Int)):AO.mapR (R.rn0 f) (mpB (Jr .i64) Q5 M)=mpB (Jr .i64) Q5 M:=q1H (vE:=Q5) (fun v=>rfl) M
theorem qlC (X:List Nat) (M:List (Int×Int)):AO.mapR (R.fgL X) (mpB (Jr .i64) Q5 M)=mpB (Jr .i64) Q5 M:=q1H (vE:=Q5) (fun v=>rfl) M
theorem qod (ids:List Nat) (M:List (Int×Int)):AO.mapR (qbf ids) (mpB (Jr .i64) Q5 M)=mpB (Jr .i64) Q5 M:=q1H (vE:=Q5) (fun v=>rfl) M
theorem qje (M:List (Int×Int)):AO.mapR (R.nw0) (mpB (Jr .i64) Q5 M)=mpB (Jr .i64) Q5 M:=q1H (vE:=Q5) (fun v=>rfl) M
theorem qmd (M:List (Int×Int)):(mpB (Jr .i64) Q5 M).Rs.all (R.scl0)=true:=qbD (fun v=>rfl) M
theorem qo4 (X:List Nat) (M:List (Int×Int)):(mpB (Jr .i64) Q5 M).Rs.all (R.farL X)=true:=qbD (fun v=>rfl) M
theorem qlh (M:List (Int×Int)):(mpB (Jr .i64) Q5 M).Rs.flatMap R.refs0=[]:=qeM (fun v=>rfl) M
theorem qip (s:S) (sel:List Nat) (M:List (Int×Int)):cvA s sel (mpB (Jr .i64) Q5 M)=some (mpB (Jr .i64) Q5 M):=qjD (fun v=>rfl) M
theorem qfh (M:List (Int×Int)):((mpE (Jr .i64) Q5 M 0).all fun q=>plK (Kd.int .i64) q.1)=true:=q7N (fun k r i=>rfl) M 0
theorem qjJ (ok:Bool) (k:Int) (M:List (Int×Int)):lkq ok (R.c (C.d (D.int .i64 0))) (fnd (Value.int .i64 k) (mpE (Jr .i64) Q5 M 0) 0)=some (tt2 (R.c (C.d (D.int .i64 (Z6 (0:Int) M k)))) ok (qaw M k)):=qpr (vE:=Q5) (kE:=(Jr .i64)) (qgy _) ((0:Int)) ok k M
theorem qhk (k:Int) (v:Int) (M:List (Int×Int)):mup (Kd.int .i64) (Value.int .i64 k) (R.c (C.d (D.int .i64 v))) (.ob (mpB (Jr .i64) Q5 M))=some (.ob (mpB (Jr .i64) Q5 (q2R M k v))):=qph (vE:=Q5) (kE:=(Jr .i64)) (qgy _) (fun a=>rfl) k v M
theorem qlD (s:S) (p:Nat):JU T s p 82 none=some (.c (.hd .map p),s.up [(p,.ob (mpB (Jr .i64) Q5 ([]:List (Int×Int))))]):=rfl
theorem qhS (l:List qa) (i j:Int):q9C 52 8 0 [.c (.own 0 8 0 l.length),.c (.d (.int .i64 i)),.c (.d (.int .i64 j))] [(0,.row 52 8 ((l.flatMap qc).map C.d))]=if 0≤i∧j=i+1∧i<l.length then some (.c (.own 0 8 0 (l.eraseIdx i.toNat).length),[(0,.row 52 8 (((l.eraseIdx i.toNat).flatMap qc).map C.d))]) else none:=qiI Zx l i j rfl
end
noncomputable section
open Go.RowKit
theorem qrl:q61 Try.prog 50=true:=by kernel_rfl
def by0:=JA_ @k3 (JA_ @z3 (JA_ @b3 (JA_ @o3 (JA_ @q3 (JA_ @k4 (@q4))))))
def by1:=JA_ @k9 (JA_ @z9 (@q9))
def by2:=JA_ @k22 (JA_ @z22 (JA_ @q22 (JA_ @k23 (JA_ @z23 (JA_ @o23 (JA_ @k24 (JA_ @z24 (JA_ @k25 (JA_ @z25 (@b25))))))))))
def by3:=JA_ @o25 (JA_ @q25 (JA_ @k26 (JA_ @z26 (JA_ @k28 (JA_ @z28 (JA_ @q28 (JA_ @k30 (JA_ @z30 (JA_ @o30 (JA_ @q30 (JA_ @k32 (JA_ @q32 (JA_ @k33 (@z33))))))))))))))
def by4:=JA_ @q33 (JA_ @k34 (JA_ @z34 (JA_ @k36 (JA_ @z36 (JA_ @b36 (JA_ @o36 (JA_ @q36 (JA_ @k37 (JA_ @z37 (JA_ @k39 (JA_ @z39 (JA_ @o39 (@q39)))))))))))))
def by5:=JA_ @q45 (JA_ @k50 (JA_ @z50 (JA_ @b50 (JA_ @o50 (@q50)))))
def by6:=JA_ @k52 (JA_ @z52 (JA_ @b52 (JA_ @o52 (@q52))))
def by7:=@k60
def by8:=JA_ @k69 (JA_ @o69 (@q69))
def by9:=JA_ @q78 (JA_ @k80 (JA_ @k81 (JA_ @z81 (JA_ @b81 (JA_ @o81 (JA_ @q81 (JA_ @k82 (JA_ @z82 (JA_ @o82 (JA_ @q82 (@q83)))))))))))
def qvb:=JA_ @q87 (JA_ @k89 (JA_ @o89 (JA_ @k90 (@q90))))
def quJ:=JA_ @q92 (JA_ @k93 (JA_ @o93 (JA_ @k96 (JA_ @z96 (JA_ @o96 (@q96))))))
def qtN:=JA_ @qv7 (JA_ @qtS (JA_ @qv8 (@quM)))
def qtJ:=JA_ @qrl (JA_ @bk_ (JA_ @quP (JA_ @qlP (JA_ @qul (@qv3)))))
def qvy:=JA_ @qpC (JA_ @qql (JA_ @qr8 (JA_ @qpj (JA_ @qq7 (JA_ @qqC (JA_ @qqI (JA_ @qqj (JA_ @qqS (JA_ @qrH (@qrQ))))))))))
def qv5:=JA_ @qpn (JA_ @qrV (JA_ @qpR (JA_ @qqw (@qqe))))
def qvS:=JA_ @qrM (@qpy)
def quk:=JA_ @qpg (JA_ @qqh (JA_ @qr4 (JA_ @qpJ (JA_ @qqi (JA_ @qrB (@qpE))))))
def qup:=JA_ @qm7 (@qlz)
def quH:=JA_ @pw7 (JA_ @pw8 (JA_ @pw9 (JA_ @qte (JA_ @qp3 (JA_ @qs1 (JA_ @qti (JA_ @qsz (JA_ @qts (JA_ @qtA (JA_ @qtb (JA_ @qsE (JA_ @qtx (JA_ @qsm (JA_ @qsr (JA_ @qsJ (JA_ @qsu (JA_ @qs6 (JA_ @qtB (JA_ @qtc (JA_ @qt0 (JA_ @qsQ (JA_ @qse (JA_ @qtz (@qsI))))))))))))))))))))))))
def qtH:=JA_ @qsl (JA_ @qsT (JA_ @qsZ (JA_ @qsL (JA_ @qsv (JA_ @qsH (JA_ @qrX (JA_ @qsq (JA_ @qsn (JA_ @qsi (JA_ @qsC (JA_ @qsA (JA_ @qsh (JA_ @qtC (JA_ @qqg (JA_ @qtu (JA_ @qsB (JA_ @qs7 (JA_ @qtd (JA_ @qpH (JA_ @qrY (JA_ @qsj (JA_ @qpN (JA_ @qsF (JA_ @qsR (JA_ @qto (JA_ @qrZ (JA_ @qsD (JA_ @qsy (JA_ @qsS (JA_ @qsP (@qsW)))))))))))))))))))))))))))))))
def quO:=JA_ @qus (JA_ @qsf (JA_ @qtr (JA_ @qrq (JA_ @qtm (JA_ @qsO (JA_ @qt8 (@qvN)))))))
def qvk:=JA_ @qqm (JA_ @qrO (JA_ @qrf (JA_ @qqb (JA_ @qr2 (JA_ @qrK (JA_ @qpt (JA_ @qpP (JA_ @qqK (JA_ @qrR (JA_ @qrx (JA_ @qrj (@qq2))))))))))))
def qvo:=JA_ @qqx (JA_ @qqT (JA_ @qrd (JA_ @qqn (JA_ @qq9 (JA_ @qpo (JA_ @qpU (JA_ @qpL (JA_ @qqY (JA_ @qrA (JA_ @qpZ (JA_ @qpx (JA_ @qpX (JA_ @qr1 (JA_ @qpv (JA_ @qqG (JA_ @qra (@qrN)))))))))))))))))
def qvB:=JA_ @qok (JA_ @qrL (JA_ @qrE (JA_ @qnz (JA_ @qn5 (@qoe)))))
def qub:=JA_ @qko (JA_ @qjp (JA_ @qiB (JA_ @qjr (JA_ @qhx (JA_ @qnJ (JA_ @qkM (JA_ @qmK (JA_ @qkE (JA_ @qnb (JA_ @qoh (JA_ @qlg (JA_ @qo6 (JA_ @qom (JA_ @qlt (JA_ @qlL (JA_ @qne (JA_ @qmv (JA_ @qo5 (JA_ @qli (JA_ @qnv (JA_ @qmq (@qlv))))))))))))))))))))))
def qtI:=JA_ @qmD (@qlj)
def qtV:=JA_ @qpS (JA_ @qqO (JA_ @qkl (JA_ @qr5 (JA_ @qpw (@qnW)))))
def qvA:=JA_ @qmi (JA_ @qky (JA_ @qhZ (JA_ @qi1 (JA_ @qi2 (JA_ @qhL (JA_ @qkL (JA_ @qnF (JA_ @qlQ (JA_ @qlu (JA_ @ql3 (JA_ @qmB (JA_ @qmw (JA_ @qmS (JA_ @qlS (JA_ @qmj (JA_ @qnn (JA_ @qmm (JA_ @qkS (JA_ @qir (JA_ @qnI (JA_ @qm4 (JA_ @qih (JA_ @qjB (@qlO))))))))))))))))))))))))
def quV:=JA_ @qkh (JA_ @qrb (JA_ @qpT (JA_ @qnG (JA_ @qqW (JA_ @qpk (JA_ @qlK (@qkZ)))))))
def qvu:=JA_ @qjC (JA_ @qk2 (JA_ @qh5 (JA_ @qic (JA_ @qkn (JA_ @qno (JA_ @qmZ (JA_ @qkp (JA_ @qmo (JA_ @qm5 (JA_ @qnZ (JA_ @qn3 (JA_ @qnD (JA_ @qkG (JA_ @qkw (JA_ @qma (JA_ @qmr (JA_ @qjo (JA_ @qnM (JA_ @qnK (JA_ @qhb (JA_ @qhF (@qlA))))))))))))))))))))))
def bt0:=JA_ @qls (JA_ @qak (JA_ @qqE (JA_ @qeD (JA_ @qrk (JA_ @qny (JA_ @qof (JA_ @qnt (@q9D))))))))
def bt1:=JA_ @qdZ (JA_ @qaD (JA_ @qaa (JA_ @qkB (@qj6))))
def bt2:=JA_ @qkI (JA_ @qfZ (JA_ @qns (JA_ @qa4 (JA_ @qlX (JA_ @qhd (@qji))))))
def bt3:=JA_ @qhA (JA_ @qhR (JA_ @qlr (@qo7)))
def bt6:=JA_ @qnV (JA_ @qa2 (@qo2))
def bt7:=JA_ @qen (JA_ @qkq (JA_ @qkt (JA_ @qlC (JA_ @qod (JA_ @qje (@qmd))))))
def bt8:=JA_ @qo4 (JA_ @qlh (JA_ @qip (JA_ @qfh (JA_ @qjJ (JA_ @qhk (JA_ @qlD (JA_ @qhS (JA_ @qi7 (JA_ @qi4 (JA_ @qjW (JA_ @qis (JA_ @qfD (JA_ @qaB (JA_ @qaM (JA_ @qcR (JA_ @qdk (JA_ @qhX (JA_ @qfY (JA_ @qaF (JA_ @qeT (JA_ @qar (@qgb))))))))))))))))))))))
def bt9:=JA_ @q4H (JA_ @q1h (JA_ @q2Y (JA_ @q0q (@q35))))
def bA:=JA_ @bx0 (JA_ @bx1 (JA_ @bx2 (JA_ @bx3 (JA_ @bx4 (JA_ @bx5 (JA_ @bx6 (JA_ @bx7 (JA_ @bx8 (JA_ @bx9 (JA_ @qv2 (JA_ @qvm (JA_ @quS (JA_ @quw (JA_ @qtE (JA_ @qu2 (JA_ @que (JA_ @qvc (JA_ @quz (JA_ @qvH (JA_ @quv (JA_ @qvj (JA_ @qtP (JA_ @quj (JA_ @qtG (JA_ @qvf (JA_ @qvP (JA_ @quU (JA_ @qtM (JA_ @qtZ (JA_ @qu8 (JA_ @quq (JA_ @bz0 (JA_ @bz1 (JA_ @bz2 (JA_ @bz5 (JA_ @by0 (JA_ @by1 (JA_ @by2 (JA_ @by3 (JA_ @by4 (JA_ @by5 (JA_ @by6 (JA_ @by7 (JA_ @by8 (JA_ @by9 (JA_ @qvb (JA_ @quJ (JA_ @qtN (JA_ @qtJ (JA_ @qvy (JA_ @qv5 (JA_ @qvS (JA_ @quk (JA_ @qup (JA_ @quH (JA_ @qtH (JA_ @quO (JA_ @qvk (JA_ @qvo (JA_ @qvB (JA_ @qub (JA_ @qtI (JA_ @qtV (JA_ @qvA (JA_ @quV (JA_ @qvu (JA_ @bt0 (JA_ @bt1 (JA_ @bt2 (JA_ @bt3 (JA_ @bt6 (JA_ @bt7 (JA_ @bt8 (@bt9))))))))))))))))))))))))))))))))))))))))))))))))))))))))))))))))))))))))))
def bZ:=JA_ @qw2.{0} (JA_ @qwG.{0} (JA_ @JQ (JA_ @qwC.{0} (JA_ @qw6.{0} (JA_ @qwE.{0} (JA_ @qwj (JA_ @qwY.{0,0} (JA_ @List.flatMap_nil.{0,0} (JA_ @qwi.{0,0} (JA_ @List.map_nil.{0,0} (JA_ @eI.eq_1 (JA_ @eS.eq_1 (JA_ @qwZ.{0} (JA_ @qwf.{0} (JA_ @qwg.{0} (JA_ @List.flatMap_append.{0,0} (JA_ @List.map_append.{0,0} (JA_ @Qz (JA_ @qU (@eA2.eq_1))))))))))))))))))))
theorem gA {P:Prop} (h:P:=by simp -implicitDefEqProofs (maxSteps:=10000000) only[bA,Int.reduceToNat,Int.reduceLT,Int.reduceLE,Int.reduceAdd,Int.reduceSub,Int.reduceMul,Int.reduceNeg,Int.reduceEq,Int.reduceNe,Int.reduceBEq,Int.reduceBNe,Nat.reduceLT,Nat.reduceAdd,Nat.reduceMul,Nat.reduceSub,Nat.reduceEqDiff,Nat.reduceLeDiff,Nat.reduceBEq,Nat.reduceBNe,↓reduceIte,reduceCtorEq,pure,bind,w64,z7,QN,Option.or_some,Option.or_none,Option.none_or,Option.some_or, *]<;>simp only[rL,dL,bR,bZ,Nat.reduceAdd]):P:=h
end
noncomputable section
open Go.RowKit
section
variable {τ ε:Type} {step:τ→Option (τ⊕ε)}
theorem zO {x y:τ} (h:step x=some (.inl y)):qG step x=qG step y:=by
 rw[qcj,h];rfl
theorem qW {x:τ} {e:ε} (h:step x=some (.inr e)):qG step x=some e:=by
 rw[qcj,h];rfl
theorem q1L {e:ε} (st:Nat→τ) (i0 n:Nat) (h0:i0≤n) (h:∀i,i0≤i→i<n→step (st i)=some (.inl (st (i+1)))) (hn:step (st n)=some (.inr e)):qG step (st i0)=some e:=by
 have key:∀j i,j+i=n→i0≤i→qG step (st i)=some e:=by
  intro j
  induction j with
  | zero=>intro i hi _;rw[qwj] at hi;subst hi;exact qW hn
  | succ j ih=>intro i hi h1;rw[zO (h i h1 (by omega))];exact ih (i+1) (by omega) (by omega)
 exact key (n-i0) i0 (by omega) (qwb _)
def q5q {α β ε:Type} (g:β→α→β⊕ε) (fin:β→ε):List α→β→ε
 | [],b=>fin b
 | a::l,b=>match g b a with
  | .inl b'=>q5q g fin l b'
  | .inr e=>e
theorem q4N {α β:Type} (l:List α) (st:β→Nat→τ) (g:β→α→β⊕ε) (fin:β→ε)
  (h:∀b i a,l[i]?=some a→step (st b i)=some (match g b a with | .inl b' => .inl (st b' (i+1)) | .inr e => .inr e)) (hn:∀b,step (st b l.length)=some (.inr (fin b))) (b:β):qG step (st b 0)=some (q5q g fin l b):=by
 have key:∀(r:List α) (i:Nat) (b:β),r.length+i=l.length→(∀j,r[j]?=l[i+j]?)→qG step (st b i)=some (q5q g fin r b):=by
  intro r
  induction r with
  | nil=>
   intro i b hi _
   have hi:i=l.length:=by simpa using hi
   subst hi;exact qW (hn b)
  | cons a r ih=>
   intro i b hi hr
   have ha:l[i]?=some a:=by have:=hr 0;simpa using this.symm
   have h1:=h b i a ha
   unfold q5q
   cases hg:g b a with
   | inl b'=>
    rw[hg] at h1
    rw[zO h1]
    refine ih (i+1) b' (by simp at hi;omega) fun j=>?_
    have:=hr (j+1)
    rw[show i+1+j=i+(j+1) by omega,←this];rfl
   | inr e=>
    rw[hg] at h1
    exact qW h1
 exact key l 0 b (by simp) (by simp)
theorem q0P {α β:Type} (l:List α) (st:β→Nat→τ) (g:β→α→β) (fin:β→ε)
  (h:∀b i a,l[i]?=some a→step (st b i)=some (.inl (st (g b a) (i+1)))) (hn:∀b,step (st b l.length)=some (.inr (fin b))) (b:β):qG step (st b 0)=some (fin (l.foldl g b)):=by
 rw[q4N l st (fun b a => .inl (g b a)) fin h hn b]
 congr 1
 induction l generalizing b with
 | nil=>rfl
 | cons a l ih=>
  unfold q5q
  simp only[qwX]
  clear h hn
  have:∀(l:List α) (b:β),q5q (ε:=ε) (fun b a => .inl (g b a)) fin l b=fin (l.foldl g b):=by
   intro l
   induction l with
   | nil=>intro b;rfl
   | cons a l ih=>intro b;unfold q5q;simp only[qwX];exact ih _
  exact this l _
theorem qbo {α:Type} (l:List α) (st:Nat→τ) (p:α→Option ε) (d:ε)
  (h:∀i a,l[i]?=some a→step (st i)=some (match p a with|some e => .inr e|none => .inl (st (i+1)))) (hn:step (st l.length)=some (.inr d)):qG step (st 0)=some ((l.findSome? p).getD d):=by
 have h1:=q4N (ε:=ε) (β:=Unit) l (fun _ i=>st i) (fun _ a=>match p a with|some e => .inr e|none => .inl ()) (fun _=>d) (fun b i a ha=>by
  rw[h i a ha];cases p a<;>rfl) (fun _=>hn) ()
 rw[h1]
 congr 1
 have:∀l:List α,q5q (ε:=ε) (fun(_:Unit) a=>match p a with|some e => .inr e|none => .inl ()) (fun _=>d) l ()=(l.findSome? p).getD d:=by
  intro l
  induction l with
  | nil=>rfl
  | cons a l ih=>
   unfold q5q
   rw[List.findSome?_cons]
   cases p a with
   | none=>simpa using ih
   | some e=>rfl
 exact this l
def q7Q {α β ε:Type} (g:Nat→β→α→β⊕ε) (fin:β→ε):List α→Nat→β→ε
 | [],_,b=>fin b
 | a::l,i,b=>match g i b a with
  | .inl b'=>q7Q g fin l (i+1) b'
  | .inr e=>e
theorem qat {α β:Type} (l:List α) (st:β→Nat→τ) (g:Nat→β→α→β⊕ε) (fin:β→ε)
  (h:∀b i a,l[i]?=some a→step (st b i)=some (match g i b a with | .inl b' => .inl (st b' (i+1)) | .inr e => .inr e)) (hn:∀b,step (st b l.length)=some (.inr (fin b))) (b:β):qG step (st b 0)=some (q7Q g fin l 0 b):=by
 have key:∀(r:List α) (i:Nat) (b:β),r.length+i=l.length→(∀j,r[j]?=l[i+j]?)→qG step (st b i)=some (q7Q g fin r i b):=by
  intro r
  induction r with
  | nil=>
   intro i b hi _
   have hi:i=l.length:=by simpa using hi
   subst hi;exact qW (hn b)
  | cons a r ih=>
   intro i b hi hr
   have ha:l[i]?=some a:=by have:=hr 0;simpa using this.symm
   have h1:=h b i a ha
   unfold q7Q
   cases hg:g i b a with
   | inl b'=>
    rw[hg] at h1
    rw[zO h1]
    refine ih (i+1) b' (by simp at hi;omega) fun j=>?_
    have:=hr (j+1)
    rw[show i+1+j=i+(j+1) by omega,←this];rfl
   | inr e=>
    rw[hg] at h1
    exact qW h1
 exact key l 0 b (by simp) (by simp)
end
theorem Qb {α:Type} {l:List α} {i:Nat} {a:α} (h:l[i]?=some a):i<l.length:=(qvZ.1 h).1
theorem Qj {n:Int} (h0 : -9223372036854775808≤n) (h1:n≤9223372036854775807):w64 n=n:=wi n h0 h1
theorem q5N {i n:Nat} (h:i<n) (hn:n≤9223372036854775807):w64 ((i:Int)+1)=((i+1:Nat):Int):=by
 rw[Qj (by omega) (by omega)];omega
end
noncomputable section
open Go.RowKit
set_option maxRecDepth 20000
set_option maxHeartbeats 8000000
theorem qhU:okL 19 q24:=qI (qi qfr) (by kernel_rfl) (by kernel_rfl)
def qiy:=JA_ @q24.eq_1 (JA_ @Try.f19.eq_1 @qfr)
theorem ql5:lbO 19 4=qcx:=Q3 (qi qfr) rfl
theorem qmc:okL 19 qcx:=zh qhU (qvW (i:=0) (by kernel_rfl))
theorem ql7:lbO 19 8=qcu:=Q3 (qi qfr) rfl
theorem qkr:okL 19 qcu:=zh qhU (qvW (i:=1) (by kernel_rfl))
theorem qjq:lbO 19 15=q7t:=Q3 (qi qfr) rfl
theorem qhQ:okL 19 q7t:=zh qhU (qvW (i:=2) (by kernel_rfl))
theorem qj8:lbO 19 17=q7A:=Q3 (qi qfr) rfl
theorem qj3:okL 19 q7A:=zh qhU (qvW (i:=3) (by kernel_rfl))
theorem qjm:lbO 19 25=q7I:=Q3 (qi qfr) rfl
theorem qju:okL 19 q7I:=zh qhU (qvW (i:=4) (by kernel_rfl))
theorem qig:lbO 19 32=q75:=Q3 (qi qfr) rfl
theorem qiw:okL 19 q75:=zh qhU (qvW (i:=5) (by kernel_rfl))
theorem qv1:okL 23 qbt:=qI (qi qqt) (by kernel_rfl) (by kernel_rfl)
def qu6:=JA_ @qbt.eq_1 (JA_ @Try.f23.eq_1 @qqt)
theorem qtw:okL 38 q9b:=qI (qi qoF) (by kernel_rfl) (by kernel_rfl)
def qtp:=JA_ @q9b.eq_1 (JA_ @Try.f38.eq_1 @qoF)
theorem qlV:lbO 38 4=qdw:=Q3 (qi qoF) rfl
theorem qmX:okL 38 qdw:=zh qtw (qvW (i:=0) (by kernel_rfl))
def qK (s1:List Int) (s2:List Int) (t12:Int):Int→Option (Int⊕(Unit⊕Unit))|t13=>if t13<t12 then if 0≤t13∧t13<((s1.length:Nat):Int) then Option.bind s1[Int.toNat t13]? fun(a:Int)=>if 0≤t13∧t13<((s2.length:Nat):Int) then Option.bind s2[Int.toNat t13]? fun(a2:Int)=>if(a != a2)=Bool.true then some (Sum.inr (Sum.inl ())) else some (Sum.inl (w64 (t13+1))) else none else none else some (Sum.inr (Sum.inr ()))
theorem ZI:∀(s1 s2:List Int) (t12 t13:Int),XL2 evo 38 0 4 ⟨[(0,rL 1 eI s1),(1,rL 1 eI s2),(12,rI t12),(13,rI t13)],[],0,26⟩=(qG (qK s1 s2 t12) t13).bind (Sum.elim (fun(e:Unit)=>some (Exit.ret,⟨[(4,rB Bool.false)],[],0,26⟩)) (fun(e:Unit)=>some (Exit.exit 0,⟨[(4,R.any)],[],0,26⟩))):=
 fun s1 s2 t12 t13=>by
  revert t13;exact q8X qlV qmX (fun e=>by rcases e with _|_<;>exact⟨_,rfl,fun h=>by cases h⟩) fun x=>by
   have:=qtp;have:=@qdw.eq_1;have:=@qK.eq_1;exact gA
def zb (s1:List Int) (s2:List Int):Option Bool:=if(((s1.length:Nat):Int) != ((s2.length:Nat):Int))=Bool.true then some Bool.false else Option.bind (qG (qK s1 s2 ((s1.length:Nat):Int)) 0) fun(a:Sum Unit Unit)=>Sum.elim (fun(a2:Unit)=>some Bool.false) (fun(a3:Unit)=>some Bool.true) a
theorem QP:∀(s1 s2:List Int),ev 38 0 [rL 1 eI s1,rL 1 eI s2] []=(zb s1 s2).bind (fun(e:Bool)=>some (rB e,[])):=
 fun s1 s2=>by
  rw[qD qoF qsl.2.2.2 qtw]
  have:=qtp;have:=@ZI;have:=@zb.eq_1;exact gA
theorem qtW:okL 48 qe6:=qI (qi qrm) (by kernel_rfl) (by kernel_rfl)
def qtT:=JA_ @qe6.eq_1 (JA_ @Try.f48.eq_1 @qrm)
theorem qsG:okL 61 qcp:=qI (qi qov) (by kernel_rfl) (by kernel_rfl)
def qsX:=JA_ @qcp.eq_1 (JA_ @Try.f61.eq_1 @qov)
theorem qqr:okL 81 q8C:=qI (qi qm1) (by kernel_rfl) (by kernel_rfl)
def qoD:=JA_ @q8C.eq_1 (JA_ @Try.f81.eq_1 @qm1)
theorem qgG:lbO 81 2=q8w:=Q3 (qi qm1) rfl
theorem qgr:okL 81 q8w:=zh qqr (qvW (i:=0) (by kernel_rfl))
theorem qvl:okL 71 qbb:=qI (qi qrn) (by kernel_rfl) (by kernel_rfl)
def quG:=JA_ @qbb.eq_1 (JA_ @Try.f71.eq_1 @qrn)
theorem qu5:okL 60 qdX:=qI (qi qpA) (by kernel_rfl) (by kernel_rfl)
def quA:=JA_ @qdX.eq_1 (JA_ @Try.f60.eq_1 @qpA)
theorem qs5:okL 80 q9l:=qI (qi qoC) (by kernel_rfl) (by kernel_rfl)
def qs0:=JA_ @q9l.eq_1 (JA_ @Try.f80.eq_1 @qoC)
theorem qlY:lbO 80 2=qcL:=Q3 (qi qoC) rfl
theorem qn2:okL 80 qcL:=zh qs5 (qvW (i:=0) (by kernel_rfl))
def qT (s:List Int) (v:Int) (t7:Int):Int→Option (Int⊕(Int⊕Unit))|t8=>if t8<t7 then if 0≤t8∧t8<((s.length:Nat):Int) then Option.bind s[Int.toNat t8]? fun(a:Int)=>if(v==a)=Bool.true then some (Sum.inr (Sum.inl t8)) else some (Sum.inl (w64 (t8+1))) else none else some (Sum.inr (Sum.inr ()))
theorem ZF:∀(s:List Int) (v t7 t8:Int),XL2 evo 80 0 2 ⟨[(0,rL 1 eI s),(1,rI v),(7,rI t7),(8,rI t8)],[],0,19⟩=(qG (qT s v t7) t8).bind (Sum.elim (fun(e:Int)=>some (Exit.ret,⟨[(4,rI e)],[],0,19⟩)) (fun(e:Unit)=>some (Exit.exit 0,⟨[(4,R.any)],[],0,19⟩))):=
 fun s v t7 t8=>by
  revert t8;exact q8X qlY qn2 (fun e=>by rcases e with _|_<;>exact⟨_,rfl,fun h=>by cases h⟩) fun x=>by
   have:=qs0;have:=@qcL.eq_1;have:=@qT.eq_1;exact gA
def Q4 (s:List Int) (v:Int):Option Int:=Option.bind (qG (qT s v ((s.length:Nat):Int)) 0) fun(a:Sum Int Unit)=>Sum.elim (fun(a2:Int)=>some a2) (fun(a3:Unit)=>some (-1)) a
theorem Jo:∀(s:List Int) (v:Int),ev 80 0 [rL 1 eI s,rI v] []=(Q4 s v).bind (fun(e:Int)=>some (rI e,[])):=
 fun s v=>by
  rw[qD qoC qtr.2.2.2 qs5]
  have:=qs0;have:=@ZF;have:=@Q4.eq_1;exact gA
def qS (s:List Int) (v:Int):Option Bool:=Option.bind (Q4 s v) fun(a:Int)=>some (decide (0≤a))
theorem Qw:∀(s:List Int) (v:Int),ev 60 0 [rL 1 eI s,rI v] []=(qS s v).bind (fun(e:Bool)=>some (rB e,[])):=
 fun s v=>by
  rw[qD qpA qtd.2.2.2 qu5]
  have:=quA;have:=@Jo;have:=@qS.eq_1;exact gA
def Qx (x:Int) (v:List Int):Option Bool:=Option.bind (qS v x) fun(a:Bool)=>some a
theorem q0p:∀(x:Int) (v:List Int),ev 71 1 [rI x,rP 0] [(0,B.blk 25 [dL 1 eI v])]=(Qx x v).bind (fun(e:Bool)=>some (rB e,[(0,B.blk 25 [dL 1 eI v])])):=
 fun x v=>by
  rw[qD qrn qto.2.2.2 qvl]
  have:=quG;have:=@Qw;have:=@Qx.eq_1;exact gA
def qH (b0:List Int) (s:List Int) (t7:Int):Int→Option (Int⊕(Int⊕Unit))|t8=>if t8<t7 then if 0≤t8∧t8<((s.length:Nat):Int) then Option.bind s[Int.toNat t8]? fun(a:Int)=>Option.bind (Qx a b0) fun(a2:Bool)=>if a2=Bool.true then some (Sum.inr (Sum.inl t8)) else some (Sum.inl (w64 (t8+1))) else none else some (Sum.inr (Sum.inr ()))
theorem Zf:∀(b0 s:List Int) (t7 t8:Int),XL2 evo 81 1 2 ⟨[(0,rL 1 eI s),(1,R.c (C.fn 71 [] [dP 0])),(7,rI t7),(8,rI t8)],[(0,B.blk 25 [dL 1 eI b0])],1,19⟩=(qG (qH b0 s t7) t8).bind (Sum.elim (fun(e:Int)=>some (Exit.ret,⟨[(4,rI e)],[(0,B.blk 25 [dL 1 eI b0])],1,19⟩)) (fun(e:Unit)=>some (Exit.exit 0,⟨[(4,R.any)],[(0,B.blk 25 [dL 1 eI b0])],1,19⟩))):=
 fun b0 s t7 t8=>by
  revert t8;exact q8X qgG qgr (fun e=>by rcases e with _|_<;>exact⟨_,rfl,fun h=>by cases h⟩) fun x=>by
   have:=qoD;have:=@q8w.eq_1;have:=@q0p;have:=@qH.eq_1;exact gA
def zA (s:List Int) (b0:List Int):Option Int:=Option.bind (qG (qH b0 s ((s.length:Nat):Int)) 0) fun(a:Sum Int Unit)=>Sum.elim (fun(a2:Int)=>some a2) (fun(a3:Unit)=>some (-1)) a
theorem ZD:∀(s b0:List Int),ev 81 1 [rL 1 eI s,R.c (C.fn 71 [] [dP 0])] [(0,B.blk 25 [dL 1 eI b0])]=(zA s b0).bind (fun(e:Int)=>some (rI e,[(0,B.blk 25 [dL 1 eI b0])])):=
 fun s b0=>by
  rw[qD qm1 qrq.2.2.2 qqr]
  have:=qoD;have:=@Zf;have:=@zA.eq_1;exact gA
def zf (s:List Int) (b0:List Int):Option Bool:=Option.bind (zA s b0) fun(a:Int)=>some (decide (0≤a))
theorem Ze:∀(s b0:List Int),ev 61 1 [rL 1 eI s,R.c (C.fn 71 [] [dP 0])] [(0,B.blk 25 [dL 1 eI b0])]=(zf s b0).bind (fun(e:Bool)=>some (rB e,[(0,B.blk 25 [dL 1 eI b0])])):=
 fun s b0=>by
  rw[qD qov qpH.2.2.2 qsG]
  have:=qsX;have:=@ZD;have:=@zf.eq_1;exact gA
def Q1 (a:List Int) (b:List Int):Option Bool:=Option.bind (zf a b) fun(a2:Bool)=>some a2
theorem q1Q:∀(a b:List Int),ev 48 0 [rL 1 eI a,rL 1 eI b] []=(Q1 a b).bind (fun(e:Bool)=>some (rB e,[])):=
 fun a b=>by
  rw[qD qrm qrX.2.2.2 qtW]
  have:=qtT;have:=@Ze;have:=@Q1.eq_1;exact gA
def Z1 (a:qa) (b:qa):Option Bool:=if(a.Course.School==b.Course.School)=Bool.true∧(ByteArray.toList a.Course.Code==ByteArray.toList b.Course.Code)=Bool.true then some Bool.false else if 0<a.Bundle then if(a.Bundle==b.Bundle)=Bool.true then Option.bind (zb a.Path b.Path) fun(a2:Bool)=>if a2=Bool.true then some Bool.true else Option.bind (Q1 a.Sources b.Sources) fun(a3:Bool)=>some (!a3) else Option.bind (Q1 a.Sources b.Sources) fun(a4:Bool)=>some (!a4) else Option.bind (Q1 a.Sources b.Sources) fun(a5:Bool)=>some (!a5)
theorem q0g:∀(a_Course_School:Int) (a_Course_Code:ByteArray) (a_Credits a_Grade a_Day:Int) (a_Sources:List Int) (a_Bundle:Int) (a_Path:List Int) (b_Course_School:Int) (b_Course_Code:ByteArray) (b_Credits b_Grade b_Day:Int) (b_Sources:List Int) (b_Bundle:Int) (b_Path:List Int),ev 23 0 [R.agg [dI a_Course_School,dS a_Course_Code,dI a_Credits,dI a_Grade,dI a_Day,dL 1 eI a_Sources,dI a_Bundle,dL 1 eI a_Path],R.agg [dI b_Course_School,dS b_Course_Code,dI b_Credits,dI b_Grade,dI b_Day,dL 1 eI b_Sources,dI b_Bundle,dL 1 eI b_Path]] []=(Z1 (qa.mk (qb.mk a_Course_School a_Course_Code) a_Credits a_Grade a_Day a_Sources a_Bundle a_Path) (qa.mk (qb.mk b_Course_School b_Course_Code) b_Credits b_Grade b_Day b_Sources b_Bundle b_Path)).bind (fun(e:Bool)=>some (rB e,[])):=
 fun a_Course_School a_Course_Code a_Credits a_Grade a_Day a_Sources a_Bundle a_Path b_Course_School b_Course_Code b_Credits b_Grade b_Day b_Sources b_Bundle b_Path=>by
  rw[qD qqt qtx.2.2.2 qv1]
  have:=qu6;have:=@QP;have:=@q1Q;have:=@Z1.eq_1;exact gA
def zB (w1:List Int) (t0:List qa) (t5:Int) (t19:Int) (t20:Int) (t27:Int):(List (QF Int)×Int)→Option ((List (QF Int)×Int)⊕(List (QF Int)))|(w0,t28)=>if t28<t27 then if 0≤t28∧t28<((t0.length:Nat):Int) then Option.bind t0[Int.toNat t28]? fun(a:qa)=>if 0≤t5∧t5<((t0.length:Nat):Int) then Option.bind t0[Int.toNat t5]? fun(a2:qa)=>Option.bind (Z1 a a2) fun(a3:Bool)=>if(!a3)=Bool.true then if w0.length+1≤maxLen∧(w0.length+1)*16≤140737488355328 then some (Sum.inl (w0++[QF.mk t28 t5],w64 (t28+1))) else none else some (Sum.inl (w0,w64 (t28+1))) else none else none else some (Sum.inr w0)
theorem q14:∀(w0:List (QF Int)) (w1:List Int) (t0:List qa) (t5 t19 t20 t27 t28:Int) (w0_len w1_len:Nat),w0_len=w0.length→w1_len=w1.length→XL2 evo 19 0 8 ⟨[(0,rL 8 qc t0),(3,rO 0 2 w0_len),(4,rO 1 1 w1_len),(5,rI t5),(19,rI t19),(20,rI t20),(27,rI t27),(28,rI t28)],[(0,bR 81 2 (eA2 eI) w0),(1,bR 3 1 eI w1)],2,128⟩=(qG (zB w1 t0 t5 t19 t20 t27) (w0,t28)).bind (fun(e:List (QF Int))=>some (Exit.exit 2,⟨[(0,rL 8 qc t0),(3,rO 0 2 e.length),(4,rO 1 1 w1.length),(19,rI t19),(20,rI t20)],[(0,bR 81 2 (eA2 eI) e),(1,bR 3 1 eI w1)],2,128⟩)):=
 by
 intro w0 w1 t0 t5 t19 t20 t27 t28 w0_len w1_len h0 h1
 subst h0 h1
 revert t28;revert w0;exact q8h ql7 qkr (fun e=>by exact⟨_,rfl,fun h=>by cases h⟩) fun w0 t28=>by
  have:=qiy;have:=@qcu.eq_1;have:=@q0g;have:=@zB.eq_1;exact gA
def zm (t0:List qa) (t19:Int):(List (QF Int)×List Int×Int)→Option ((List (QF Int)×List Int×Int)⊕(List (QF Int)×List Int))|(w0,w1,t20)=>if t20<t19 then if 0≤t20∧t20<((w1.length:Nat):Int) then if Int.toNat t20+1≤w1.length then Option.bind (qG (zB (List.set w1 (Int.toNat t20) t20) t0 t20 t19 t20 t20) (w0,0)) fun(a:List (@QF Int))=>some (Sum.inl (a,List.set w1 (Int.toNat t20) t20,w64 (t20+1))) else none else none else some (Sum.inr (w0,w1))
theorem q0X:∀(w0:List (QF Int)) (w1:List Int) (t0:List qa) (t19 t20:Int) (w0_len w1_len:Nat),w0_len=w0.length→w1_len=w1.length→XL2 evo 19 0 4 ⟨[(0,rL 8 qc t0),(3,rO 0 2 w0_len),(4,rO 1 1 w1_len),(19,rI t19),(20,rI t20)],[(0,bR 81 2 (eA2 eI) w0),(1,bR 3 1 eI w1)],2,128⟩=(qG (zm t0 t19) (w0,w1,t20)).bind (fun(e:List (QF Int)×List Int)=>some (Exit.exit 0,⟨[(0,rL 8 qc t0),(3,rO 0 2 e.1.length),(4,rO 1 1 e.2.length)],[(0,bR 81 2 (eA2 eI) e.1),(1,bR 3 1 eI e.2)],2,128⟩)):=
 by
 intro w0 w1 t0 t19 t20 w0_len w1_len h0 h1
 subst h0 h1
 revert t20;revert w1;revert w0;exact qq4 ql5 qmc (fun e=>by exact⟨_,rfl,fun h=>by cases h⟩) fun w0 w1 t20=>by
  have:=qiy;have:=@qcx.eq_1;have:=@q14;have:=@zm.eq_1;exact gA
theorem JL:∀  (w1:List Int) (t0:List qa) (t19 t20:Int) (w1_len:Nat),w1_len=w1.length→XL2 evo 19 0 4 ⟨[(0,rL 8 qc t0),(3,rO 0 2 0),(4,rO 1 1 w1_len),(19,rI t19),(20,rI t20)],[(0,B.row 81 2 []),(1,bR 3 1 eI w1)],2,128⟩=(qG (zm t0 t19) ([],w1,t20)).bind (fun(e:List (QF Int)×List Int)=>some (Exit.exit 0,⟨[(0,rL 8 qc t0),(3,rO 0 2 e.1.length),(4,rO 1 1 e.2.length)],[(0,bR 81 2 (eA2 eI) e.1),(1,bR 3 1 eI e.2)],2,128⟩)):=by
 intro w1 t0 t19 t20 w1_len h0;subst h0;have h:=q0X [] w1 t0 t19 t20 _ _ rfl rfl
 first
  | exact h
  | (simp only[rL,dL,bR,bZ,Nat.reduceAdd] at h;exact h)
def zw (w0:List (QF Int)) (t0:List qa) (t50:Int) (t51:Int) (t54:Int):(List Int×Int)→Option ((List Int×Int)⊕(List Int))|(w1,t55)=>if t55<t54 then if 0≤t55∧t55<((w0.length:Nat):Int) then Option.bind w0[Int.toNat t55]? fun(a:@QF Int)=>if 0≤a.a0∧a.a0<((w1.length:Nat):Int) then Option.bind w1[Int.toNat a.a0]? fun(a2:Int)=>if 0≤a.a1∧a.a1<((w1.length:Nat):Int) then Option.bind w1[Int.toNat a.a1]? fun(a3:Int)=>if 0≤a.a0∧a.a0<((w1.length:Nat):Int) then if Int.toNat a.a0+1≤w1.length then if 0≤a.a1∧a.a1<((w1.length:Nat):Int) then if Int.toNat a.a1+1≤w1.length then some (Sum.inl (List.set (List.set w1 (Int.toNat a.a0) (min a2 a3)) (Int.toNat a.a1) (min a2 a3),w64 (t55+1))) else none else none else none else none else none else none else none else some (Sum.inr w1)
theorem q0C:∀(w0:List (QF Int)) (w1:List Int) (t0:List qa) (t50 t51 t54 t55:Int) (w0_len w1_len:Nat),w0_len=w0.length→w1_len=w1.length→XL2 evo 19 0 17 ⟨[(0,rL 8 qc t0),(3,rO 0 2 w0_len),(4,rO 1 1 w1_len),(50,rI t50),(51,rI t51),(53,rO 0 2 w0_len),(54,rI t54),(55,rI t55)],[(0,bR 81 2 (eA2 eI) w0),(1,bR 3 1 eI w1)],2,128⟩=(qG (zw w0 t0 t50 t51 t54) (w1,t55)).bind (fun(e:List Int)=>some (Exit.exit 6,⟨[(0,rL 8 qc t0),(3,rO 0 2 w0.length),(4,rO 1 1 e.length),(50,rI t50),(51,rI t51)],[(0,bR 81 2 (eA2 eI) w0),(1,bR 3 1 eI e)],2,128⟩)):=
 by
 intro w0 w1 t0 t50 t51 t54 t55 w0_len w1_len h0 h1
 subst h0 h1
 revert t55;revert w1;exact q8h qj8 qj3 (fun e=>by exact⟨_,rfl,fun h=>by cases h⟩) fun w1 t55=>by
  have:=qiy;have:=@q7A.eq_1;have:=@zw.eq_1;exact gA
def zx (w0:List (QF Int)) (t0:List qa) (t50:Int):(List Int×Int)→Option ((List Int×Int)⊕(List Int))|(w1,t51)=>if t51<t50 then Option.bind (qG (zw w0 t0 t50 t51 ((w0.length:Nat):Int)) (w1,0)) fun(a:List Int)=>some (Sum.inl (a,w64 (t51+1))) else some (Sum.inr w1)
theorem q0J:∀(w0:List (QF Int)) (w1:List Int) (t0:List qa) (t50 t51:Int) (w0_len w1_len:Nat),w0_len=w0.length→w1_len=w1.length→XL2 evo 19 0 15 ⟨[(0,rL 8 qc t0),(3,rO 0 2 w0_len),(4,rO 1 1 w1_len),(50,rI t50),(51,rI t51)],[(0,bR 81 2 (eA2 eI) w0),(1,bR 3 1 eI w1)],2,128⟩=(qG (zx w0 t0 t50) (w1,t51)).bind (fun(e:List Int)=>some (Exit.exit 4,⟨[(0,rL 8 qc t0),(4,rO 0 1 e.length)],[(0,bR 3 1 eI e)],1,128⟩)):=
 by
 intro w0 w1 t0 t50 t51 w0_len w1_len h0 h1
 subst h0 h1
 revert t51;revert w1;exact q8h qjq qhQ (fun e=>by exact⟨_,rfl,fun h=>by cases h⟩) fun w1 t51=>by
  have:=qiy;have:=@q7t.eq_1;have:=@q0C;have:=@zx.eq_1;exact gA
def za (w0:List Int) (t83:Int):(List (List Int)×Int)→Option ((List (List Int)×Int)⊕(List (List Int)))|(w1,t84)=>if t84<t83 then if 0≤t84∧t84<((w0.length:Nat):Int) then Option.bind w0[Int.toNat t84]? fun(a:Int)=>if(a==t84)=Bool.true then if w1.length+1≤maxLen∧(w1.length+1)*24≤140737488355328 then some (Sum.inl (w1++[[]],w64 (t84+1))) else none else some (Sum.inl (w1,w64 (t84+1))) else none else some (Sum.inr w1)
theorem q0M:∀(w0:List Int) (w1:List (List Int)) (t83 t84:Int) (w0_len w1_len:Nat),w0_len=w0.length→w1_len=w1.length→XL2 evo 19 0 25 ⟨[(4,rO 0 1 w0_len),(10,rO 1 1 w1_len),(83,rI t83),(84,rI t84)],[(0,bR 3 1 eI w0),(1,B.row 25 1 (w1.flatMap (oL 3 1 eI)))],2,128⟩=(qG (za w0 t83) (w1,t84)).bind (fun(e:List (List Int))=>some (Exit.exit 8,⟨[(4,rO 0 1 w0.length),(10,rO 1 1 e.length)],[(0,bR 3 1 eI w0),(1,B.row 25 1 (e.flatMap (oL 3 1 eI)))],2,128⟩)):=
 by
 intro w0 w1 t83 t84 w0_len w1_len h0 h1
 subst h0 h1
 revert t84;revert w1;exact q8h qjm qju (fun e=>by exact⟨_,rfl,fun h=>by cases h⟩) fun w1 t84=>by
  have:=qiy;have:=@q7I.eq_1;have:=@za.eq_1;exact gA
theorem Jz:∀  (w0:List Int) (t83 t84:Int) (w0_len:Nat),w0_len=w0.length→XL2 evo 19 0 25 ⟨[(4,rO 0 1 w0_len),(10,rO 1 1 0),(83,rI t83),(84,rI t84)],[(0,bR 3 1 eI w0),(1,B.row 25 1 [])],2,128⟩=(qG (za w0 t83) ([],t84)).bind (fun(e:List (List Int))=>some (Exit.exit 8,⟨[(4,rO 0 1 w0.length),(10,rO 1 1 e.length)],[(0,bR 3 1 eI w0),(1,B.row 25 1 (e.flatMap (oL 3 1 eI)))],2,128⟩)):=by
 intro w0 t83 t84 w0_len h0;subst h0;have h:=q0M w0 [] t83 t84 _ _ rfl rfl
 first
  | exact h
  | (simp only[rL,dL,bR,bZ,Nat.reduceAdd] at h;exact h)
def zt (w2:List Int) (t99:Int):(List (List Int)×(List (Int×Int))×Int)→Option ((List (List Int)×(List (Int×Int))×Int)⊕(List (List Int)))|(w0,m1,t100)=>if t100<t99 then if 0≤t100∧t100<((w2.length:Nat):Int) then Option.bind w2[Int.toNat t100]? fun(a:Int)=>if(a==t100)=Bool.true then Option.bind w0[Int.toNat (Z6 0 (q2R m1 t100 ((m1.length:Nat):Int)) a)]? fun(a2:List Int)=>if 0≤Z6 0 (q2R m1 t100 ((m1.length:Nat):Int)) a∧Z6 0 (q2R m1 t100 ((m1.length:Nat):Int)) a<((w0.length:Nat):Int) then Option.bind w0[Int.toNat (Z6 0 (q2R m1 t100 ((m1.length:Nat):Int)) a)]? fun(a3:List Int)=>if a2.length+1≤maxLen∧(a2.length+1)*8≤140737488355328 then if 0≤Z6 0 (q2R m1 t100 ((m1.length:Nat):Int)) a∧Z6 0 (q2R m1 t100 ((m1.length:Nat):Int)) a<((w0.length:Nat):Int) then if Int.toNat (Z6 0 (q2R m1 t100 ((m1.length:Nat):Int)) a)<w0.length then some (Sum.inl (List.set w0 (Int.toNat (Z6 0 (q2R m1 t100 ((m1.length:Nat):Int)) a)) (a2++[t100]),q2R m1 t100 ((m1.length:Nat):Int),w64 (t100+1))) else none else none else none else none else Option.bind w0[Int.toNat (Z6 0 m1 a)]? fun(a4:List Int)=>if 0≤Z6 0 m1 a∧Z6 0 m1 a<((w0.length:Nat):Int) then Option.bind w0[Int.toNat (Z6 0 m1 a)]? fun(a5:List Int)=>if a4.length+1≤maxLen∧(a4.length+1)*8≤140737488355328 then if 0≤Z6 0 m1 a∧Z6 0 m1 a<((w0.length:Nat):Int) then if Int.toNat (Z6 0 m1 a)<w0.length then some (Sum.inl (List.set w0 (Int.toNat (Z6 0 m1 a)) (a4++[t100]),m1,w64 (t100+1))) else none else none else none else none else none else some (Sum.inr w0)
theorem q0o:∀(w0:List (List Int)) (w2:List Int) (m1:List (Int×Int)) (t99 t100:Int) (w0_len w2_len:Nat),w0_len=w0.length→w2_len=w2.length→XL2 evo 19 0 32 ⟨[(10,rO 0 1 w0_len),(12,R.c (C.hd .map 1)),(98,rO 2 1 w2_len),(99,rI t99),(100,rI t100)],[(0,B.row 25 1 (w0.flatMap (oL 3 1 eI))),(1,B.ob (mpB (Jr .i64) Q5 m1)),(2,bR 3 1 eI w2)],3,128⟩=(qG (zt w2 t99) (w0,m1,t100)).bind (fun(e:List (List Int))=>some (Exit.exit 10,⟨[(10,rO 0 1 e.length)],[(0,B.row 25 1 (e.flatMap (oL 3 1 eI)))],1,128⟩)):=
 by
 intro w0 w2 m1 t99 t100 w0_len w2_len h0 h1
 subst h0 h1
 revert t100;revert m1;revert w0;exact qq4 qig qiw (fun e=>by exact⟨_,rfl,fun h=>by cases h⟩) fun w0 m1 t100=>by
  have:=qiy;have:=@q75.eq_1;have:=@zt.eq_1;exact gA
def Qc (x0:List qa):Option (List (List Int)):=if 0≤((x0.length:Nat):Int)∧8*((x0.length:Nat):Int)≤281474976710656∧((x0.length:Nat):Int)≤9223372036854775807 then Option.bind (qG (zm x0 ((x0.length:Nat):Int)) ([],(List.replicate x0.length 0,0))) fun(a:Prod (List (@QF Int)) (List Int))=>Option.bind (qG (zx a.1 x0 ((x0.length:Nat):Int)) (a.2,0)) fun(a2:List Int)=>Option.bind (qG (za a2 ((x0.length:Nat):Int)) ([],0)) fun(a3:List (List Int))=>Option.bind (qG (zt a2 ((a2.length:Nat):Int)) (a3,([],0))) fun(a4:List (List Int))=>some a4 else none
theorem q2l:∀(x0:List qa),ev 19 0 [rL 8 qc x0] []=(Qc x0).bind (fun(e:List (List Int))=>some (rL 1 (eL 1 eI) e,[])):=
 fun x0=>by
  rw[qD qfr qtA.2.2.2 qhU]
  have:=qiy;have:=@JL;have:=@q0J;have:=@Jz;have:=@q0o;have:=@Qc.eq_1;exact gA
theorem q15:∀(x00_Course_School:Int) (x00_Course_Code:ByteArray) (x00_Credits x00_Grade x00_Day x00_Sources0 x00_Bundle x01_Course_School:Int) (x01_Course_Code:ByteArray) (x01_Credits x01_Grade x01_Day x01_Sources0 x01_Bundle x02_Course_School:Int) (x02_Course_Code:ByteArray) (x02_Credits x02_Grade x02_Day x02_Sources0 x02_Bundle x03_Course_School:Int) (x03_Course_Code:ByteArray) (x03_Credits x03_Grade x03_Day x03_Sources0 x03_Bundle:Int) , ev 19 0 [R.c (C.d (D.sl 8 4 [D.int .i64 x00_Course_School,D.str x00_Course_Code,D.int .i64 x00_Credits,D.int .i64 x00_Grade,D.int .i64 x00_Day,D.sl 1 1 [D.int .i64 x00_Sources0],D.int .i64 x00_Bundle,D.sl 1 0 [],D.int .i64 x01_Course_School,D.str x01_Course_Code,D.int .i64 x01_Credits,D.int .i64 x01_Grade,D.int .i64 x01_Day,D.sl 1 1 [D.int .i64 x01_Sources0],D.int .i64 x01_Bundle,D.sl 1 0 [],D.int .i64 x02_Course_School,D.str x02_Course_Code,D.int .i64 x02_Credits,D.int .i64 x02_Grade,D.int .i64 x02_Day,D.sl 1 1 [D.int .i64 x02_Sources0],D.int .i64 x02_Bundle,D.sl 1 0 [],D.int .i64 x03_Course_School,D.str x03_Course_Code,D.int .i64 x03_Credits,D.int .i64 x03_Grade,D.int .i64 x03_Day,D.sl 1 1 [D.int .i64 x03_Sources0],D.int .i64 x03_Bundle,D.sl 1 0 []]))] []=(Qc [(qa.mk (qb.mk x00_Course_School x00_Course_Code) x00_Credits x00_Grade x00_Day [x00_Sources0] x00_Bundle ([]:List Int)),(qa.mk (qb.mk x01_Course_School x01_Course_Code) x01_Credits x01_Grade x01_Day [x01_Sources0] x01_Bundle ([]:List Int)),(qa.mk (qb.mk x02_Course_School x02_Course_Code) x02_Credits x02_Grade x02_Day [x02_Sources0] x02_Bundle ([]:List Int)),(qa.mk (qb.mk x03_Course_School x03_Course_Code) x03_Credits x03_Grade x03_Day [x03_Sources0] x03_Bundle ([]:List Int))]).bind (fun(e:List (List Int))=>some (rL 1 (eL 1 eI) e,[])):=by
 intro x00_Course_School x00_Course_Code x00_Credits x00_Grade x00_Day x00_Sources0 x00_Bundle x01_Course_School x01_Course_Code x01_Credits x01_Grade x01_Day x01_Sources0 x01_Bundle x02_Course_School x02_Course_Code x02_Credits x02_Grade x02_Day x02_Sources0 x02_Bundle x03_Course_School x03_Course_Code x03_Credits x03_Grade x03_Day x03_Sources0 x03_Bundle;have h:=q2l [(qa.mk (qb.mk x00_Course_School x00_Course_Code) x00_Credits x00_Grade x00_Day [x00_Sources0] x00_Bundle ([]:List Int)),(qa.mk (qb.mk x01_Course_School x01_Course_Code) x01_Credits x01_Grade x01_Day [x01_Sources0] x01_Bundle ([]:List Int)),(qa.mk (qb.mk x02_Course_School x02_Course_Code) x02_Credits x02_Grade x02_Day [x02_Sources0] x02_Bundle ([]:List Int)),(qa.mk (qb.mk x03_Course_School x03_Course_Code) x03_Credits x03_Grade x03_Day [x03_Sources0] x03_Bundle ([]:List Int))]
 first
  | exact h
  | (simp only[rL,dL,bR,bZ,Nat.reduceAdd] at h;exact h)
theorem qsc:okL 40 q8g:=qI (qi qoK) (by kernel_rfl) (by kernel_rfl)
def qtf:=JA_ @q8g.eq_1 (JA_ @Try.f40.eq_1 @qoK)
theorem ql2:lbO 40 4=qdV:=Q3 (qi qoK) rfl
theorem qkO:okL 40 qdV:=zh qsc (qvW (i:=0) (by kernel_rfl))
def zl (a:List Int) (b:List Int):Int→Option (Int⊕(Unit⊕Unit))|k=>if k<((a.length:Nat):Int) then if 0≤k∧k<((a.length:Nat):Int) then Option.bind a[Int.toNat k]? fun(a2:Int)=>if 0≤k∧k<((b.length:Nat):Int) then Option.bind b[Int.toNat k]? fun(a3:Int)=>if(a2 != a3)=Bool.true then some (Sum.inr (Sum.inl ())) else some (Sum.inl (w64 (k+1))) else none else none else some (Sum.inr (Sum.inr ()))
theorem q06:∀(a b:List Int) (k:Int),XL2 evo 40 0 4 ⟨[(0,rL 1 eI a),(1,rL 1 eI b),(5,rI k)],[],0,26⟩=(qG (zl a b) k).bind (Sum.elim (fun(e:Unit)=>some (Exit.ret,⟨[(4,rB Bool.false)],[],0,26⟩)) (fun(e:Unit)=>some (Exit.exit 0,⟨[(4,R.any)],[],0,26⟩))):=
 fun a b k=>by
  revert k;exact q8X ql2 qkO (fun e=>by rcases e with _|_<;>exact⟨_,rfl,fun h=>by cases h⟩) fun x=>by
   have:=qtf;have:=@qdV.eq_1;have:=@zl.eq_1;exact gA
def zW (a:List Int) (b:List Int):Option Bool:=if(((a.length:Nat):Int) != ((b.length:Nat):Int))=Bool.true then some Bool.false else Option.bind (qG (zl a b) 0) fun(a2:Sum Unit Unit)=>Sum.elim (fun(a3:Unit)=>some Bool.false) (fun(a4:Unit)=>some Bool.true) a2
theorem ZU:∀(a b:List Int),ev 40 0 [rL 1 eI a,rL 1 eI b] []=(zW a b).bind (fun(e:Bool)=>some (rB e,[])):=
 fun a b=>by
  rw[qD qoK qsZ.2.2.2 qsc]
  have:=qtf;have:=@q06;have:=@zW.eq_1;exact gA
theorem qsk:okL 16 q6j:=qI (qi qlq) (by kernel_rfl) (by kernel_rfl)
def qt7:=JA_ @q6j.eq_1 (JA_ @Try.f16.eq_1 @qlq)
theorem qgB:raO 16 6=q4Y:=qlc (qi qlq) rfl
theorem qaE:rbO 16 6=q4r:=qmx (qi qlq) rfl
theorem qgH:okL 16 q4Y∧okL 16 q4r:=qn4 (key:=0) (q:=(q4Y,q4r)) qsk (qvW (i:=0) (by kernel_rfl))
theorem qgW:qB (rbO 16 6)=6:=by rw[qaE];exact qlo
theorem qln:∀k s,XE2 evo 16 k (raO 16 6) s=XE2 evo 16 k q4Y s:=fun _ _=>by rw[qgB]
theorem qkx:∀k s,XE2 evo 16 k (rbO 16 6) s=XE2 evo 16 k q4r s:=fun _ _=>by rw[qaE]
theorem quI:okL 42 qcZ:=qI (qi qpO) (by kernel_rfl) (by kernel_rfl)
def qvg:=JA_ @qcZ.eq_1 (JA_ @Try.f42.eq_1 @qpO)
def J4 (l:List qa):Option Unit:=
 some ()
def q1d (l:List qa):Unit:=
 ()
theorem q31 (l:List qa):J4 l=some (q1d l):=by
 unfold J4 q1d
 simp only[ZG]
theorem q3J:∀(l:List qa),ev 42 0 [rL 8 qc l] []=some (R.c (C.fn 66 [] [dP 0]),[(0,B.blk 32 [dL 8 qc l])]):=
 fun l=>by
  have h:ev 42 0 [rL 8 qc l] []=(J4 l).bind (fun(e:Unit)=>some (R.c (C.fn 66 [] [dP 0]),[(0,B.blk 32 [dL 8 qc l])])):=by
   rw[qD qpO qsL.2.2.2 quI]
   have:=qvg;have:=@J4.eq_1;exact gA
  rw[q31] at h
  exact h
theorem qtO:okL 66 qdh:=qI (qi qrD) (by kernel_rfl) (by kernel_rfl)
def qtD:=JA_ @qdh.eq_1 (JA_ @Try.f66.eq_1 @qrD)
theorem qsN:okL 67 q8W:=qI (qi qoB) (by kernel_rfl) (by kernel_rfl)
def qtj:=JA_ @q8W.eq_1 (JA_ @Try.f67.eq_1 @qoB)
theorem qms:lbO 67 4=qbG:=Q3 (qi qoB) rfl
theorem qnU:okL 67 qbG:=zh qsN (qvW (i:=0) (by kernel_rfl))
theorem qs2:okL 22 q8S:=qI (qi qoQ) (by kernel_rfl) (by kernel_rfl)
def qth:=JA_ @q8S.eq_1 (JA_ @Try.f22.eq_1 @qoQ)
theorem qlE:lbO 22 3=qbF:=Q3 (qi qoQ) rfl
theorem qlk:okL 22 qbF:=zh qs2 (qvW (i:=0) (by kernel_rfl))
def zZ (t6:List qa) (t7:Int):(Int×Int)→Option ((Int×Int)⊕Int)|(n,t8)=>if t8<t7 then if 0≤t8∧t8<((t6.length:Nat):Int) then Option.bind t6[Int.toNat t8]? fun(a:qa)=>some (Sum.inl (w64 (n+a.Credits),w64 (t8+1))) else none else some (Sum.inr n)
theorem q0Z:∀(n:Int) (t6:List qa) (t7 t8:Int),XL2 evo 22 0 3 ⟨[(3,rI n),(6,rL 8 qc t6),(7,rI t7),(8,rI t8)],[],0,18⟩=(qG (zZ t6 t7) (n,t8)).bind (fun(e:Int)=>some (Exit.exit 0,⟨[(3,rI e)],[],0,18⟩)):=
 fun n t6 t7 t8=>by
  revert t8;revert n;exact q8h qlE qlk (fun e=>by exact⟨_,rfl,fun h=>by cases h⟩) fun n t8=>by
   have:=qth;have:=@qbF.eq_1;have:=@zZ.eq_1;exact gA
def QR (l:List qa):Option Int:=Option.bind (qG (zZ l ((l.length:Nat):Int)) (0,0)) fun(a:Int)=>some a
theorem q2t:∀(l:List qa),ev 22 0 [rL 8 qc l] []=(QR l).bind (fun(e:Int)=>some (rI e,[])):=
 fun l=>by
  rw[qD qoQ qsE.2.2.2 qs2]
  have:=qth;have:=@q0Z;have:=@QR.eq_1;exact gA
def QA (t11:List qa) (best:Int):Option Int:=Option.bind (QR t11) fun(a:Int)=>some (max best a)
theorem q1Z:∀(t11:List qa) (best:Int),evr 16 (raO 16 6) (rbO 16 6) 2 [R.any,R.any,R.any,R.any,rP 0,R.any,R.any,R.any,R.any,R.any,R.any,rL 8 qc t11,R.any,R.any,R.any,R.any,R.any] [(0,B.blk 3 [dI best]),(1,B.ob (AO.lp 16 (R.any::R.any::R.any::R.any::rP 0::q6Y) [11] (raO 16 6) (rbO 16 6) LoopState.ready none))]=(QA t11 best).bind (fun(e:Int)=>some (rB Bool.true,[(0,B.blk 3 [dI e]),(1,B.ob (AO.lp 16 (R.any::R.any::R.any::R.any::rP 0::q6Y) [11] (raO 16 6) (rbO 16 6) LoopState.ready none))])):=
 fun t11 best=>by
  rw[qjL qgB qaE (by decide) qo0 qgH.1 qgH.2]
  have:=qt7;have:=@qln;have:=@qkx;have:=@q4Y.eq_1;have:=@q4r.eq_1;have:=@q2t;have:=@QA.eq_1;have:=@qgW;exact gA
theorem quB:okL 68 qcl:=qI (qi qqA) (by kernel_rfl) (by kernel_rfl)
def qu3:=JA_ @qcl.eq_1 (JA_ @Try.f68.eq_1 @qqA)
def qz (s:List qa):Option Unit:=
 some ()
def zc (s:List qa):Unit:=
 ()
theorem Q6 (s:List qa):qz s=some (zc s):=by
 unfold qz zc
 simp only[ZG]
theorem Qa:∀(s:List qa),ev 68 0 [rL 8 qc s] []=some (R.c (C.clp 8 s.length (s.flatMap qc)),[]):=
 fun s=>by
  have h:ev 68 0 [rL 8 qc s] []=(qz s).bind (fun(e:Unit)=>some (R.c (C.clp 8 s.length (s.flatMap qc)),[])):=by
   rw[qD qqA qsF.2.2.2 quB]
   have:=qu3;have:=@qz.eq_1;exact gA
  rw[Q6] at h
  exact h
theorem qsU:okL 21 q8i:=qI (qi qoI) (by kernel_rfl) (by kernel_rfl)
def qt5:=JA_ @q8i.eq_1 (JA_ @Try.f21.eq_1 @qoI)
theorem qkU:lbO 21 2=qbp:=Q3 (qi qoI) rfl
theorem qna:okL 21 qbp:=zh qsU (qvW (i:=0) (by kernel_rfl))
theorem qtX:okL 47 qbN:=qI (qi qqo) (by kernel_rfl) (by kernel_rfl)
def qu7:=JA_ @qbN.eq_1 (JA_ @Try.f47.eq_1 @qqo)
theorem qs3:okL 70 q8Y:=qI (qi qos) (by kernel_rfl) (by kernel_rfl)
def qt2:=JA_ @q8Y.eq_1 (JA_ @Try.f70.eq_1 @qos)
theorem qkN:lbO 70 2=qcU:=Q3 (qi qos) rfl
theorem qlR:okL 70 qcU:=zh qs3 (qvW (i:=0) (by kernel_rfl))
theorem qvT:okL 46 qck:=qI (qi qqk) (by kernel_rfl) (by kernel_rfl)
def quu:=JA_ @qck.eq_1 (JA_ @Try.f46.eq_1 @qqk)
def ZL (b:qa) (v:qa):Option Bool:=Option.bind (Z1 v b) fun(a:Bool)=>some (!a)
theorem q2U:∀(b_Course_School:Int) (b_Course_Code:ByteArray) (b_Credits b_Grade b_Day:Int) (b_Sources:List Int) (b_Bundle:Int) (b_Path:List Int) (v_Course_School:Int) (v_Course_Code:ByteArray) (v_Credits v_Grade v_Day:Int) (v_Sources:List Int) (v_Bundle:Int) (v_Path:List Int),ev 46 1 [R.agg [dI b_Course_School,dS b_Course_Code,dI b_Credits,dI b_Grade,dI b_Day,dL 1 eI b_Sources,dI b_Bundle,dL 1 eI b_Path],rP 0] [(0,B.blk 52 [dI v_Course_School,dS v_Course_Code,dI v_Credits,dI v_Grade,dI v_Day,dL 1 eI v_Sources,dI v_Bundle,dL 1 eI v_Path])]=(ZL (qa.mk (qb.mk b_Course_School b_Course_Code) b_Credits b_Grade b_Day b_Sources b_Bundle b_Path) (qa.mk (qb.mk v_Course_School v_Course_Code) v_Credits v_Grade v_Day v_Sources v_Bundle v_Path)).bind (fun(e:Bool)=>some (rB e,[(0,B.blk 52 [dI v_Course_School,dS v_Course_Code,dI v_Credits,dI v_Grade,dI v_Day,dL 1 eI v_Sources,dI v_Bundle,dL 1 eI v_Path])])):=
 fun b_Course_School b_Course_Code b_Credits b_Grade b_Day b_Sources b_Bundle b_Path v_Course_School v_Course_Code v_Credits v_Grade v_Day v_Sources v_Bundle v_Path=>by
  rw[qD qqk qsv.2.2.2 qvT]
  have:=quu;have:=@q0g;have:=@ZL.eq_1;exact gA
def qm (b0:qa) (s:List qa) (t7:Int):Int→Option (Int⊕(Int⊕Unit))|t8=>if t8<t7 then if 0≤t8∧t8<((s.length:Nat):Int) then Option.bind s[Int.toNat t8]? fun(a:qa)=>Option.bind (ZL a b0) fun(a2:Bool)=>if a2=Bool.true then some (Sum.inr (Sum.inl t8)) else some (Sum.inl (w64 (t8+1))) else none else some (Sum.inr (Sum.inr ()))
theorem zK:∀(b0_Course_School:Int) (b0_Course_Code:ByteArray) (b0_Credits b0_Grade b0_Day:Int) (b0_Sources:List Int) (b0_Bundle:Int) (b0_Path:List Int) (s:List qa) (t7 t8:Int),XL2 evo 70 1 2 ⟨[(0,rL 8 qc s),(1,R.c (C.fn 46 [] [dP 0])),(7,rI t7),(8,rI t8)],[(0,B.blk 52 [dI b0_Course_School,dS b0_Course_Code,dI b0_Credits,dI b0_Grade,dI b0_Day,dL 1 eI b0_Sources,dI b0_Bundle,dL 1 eI b0_Path])],1,19⟩=(qG (qm (qa.mk (qb.mk b0_Course_School b0_Course_Code) b0_Credits b0_Grade b0_Day b0_Sources b0_Bundle b0_Path) s t7) t8).bind (Sum.elim (fun(e:Int)=>some (Exit.ret,⟨[(4,rI e)],[(0,B.blk 52 [dI b0_Course_School,dS b0_Course_Code,dI b0_Credits,dI b0_Grade,dI b0_Day,dL 1 eI b0_Sources,dI b0_Bundle,dL 1 eI b0_Path])],1,19⟩)) (fun(e:Unit)=>some (Exit.exit 0,⟨[(4,R.any)],[(0,B.blk 52 [dI b0_Course_School,dS b0_Course_Code,dI b0_Credits,dI b0_Grade,dI b0_Day,dL 1 eI b0_Sources,dI b0_Bundle,dL 1 eI b0_Path])],1,19⟩))):=
 fun b0_Course_School b0_Course_Code b0_Credits b0_Grade b0_Day b0_Sources b0_Bundle b0_Path s t7 t8=>by
  revert t8;exact q8X qkN qlR (fun e=>by rcases e with _|_<;>exact⟨_,rfl,fun h=>by cases h⟩) fun x=>by
   have:=qt2;have:=@qcU.eq_1;have:=@q2U;have:=@qm.eq_1;exact gA
def qu (s:List qa) (b0:qa):Option Int:=Option.bind (qG (qm b0 s ((s.length:Nat):Int)) 0) fun(a:Sum Int Unit)=>Sum.elim (fun(a2:Int)=>some a2) (fun(a3:Unit)=>some (-1)) a
theorem zX:∀(s:List qa) (b0_Course_School:Int) (b0_Course_Code:ByteArray) (b0_Credits b0_Grade b0_Day:Int) (b0_Sources:List Int) (b0_Bundle:Int) (b0_Path:List Int),ev 70 1 [rL 8 qc s,R.c (C.fn 46 [] [dP 0])] [(0,B.blk 52 [dI b0_Course_School,dS b0_Course_Code,dI b0_Credits,dI b0_Grade,dI b0_Day,dL 1 eI b0_Sources,dI b0_Bundle,dL 1 eI b0_Path])]=(qu s (qa.mk (qb.mk b0_Course_School b0_Course_Code) b0_Credits b0_Grade b0_Day b0_Sources b0_Bundle b0_Path)).bind (fun(e:Int)=>some (rI e,[(0,B.blk 52 [dI b0_Course_School,dS b0_Course_Code,dI b0_Credits,dI b0_Grade,dI b0_Day,dL 1 eI b0_Sources,dI b0_Bundle,dL 1 eI b0_Path])])):=
 fun s b0_Course_School b0_Course_Code b0_Credits b0_Grade b0_Day b0_Sources b0_Bundle b0_Path=>by
  rw[qD qos qsR.2.2.2 qs3]
  have:=qt2;have:=@zK;have:=@qu.eq_1;exact gA
def qp (s:List qa) (b0:qa):Option Bool:=Option.bind (qu s b0) fun(a:Int)=>some (decide (0≤a))
theorem zL:∀(s:List qa) (b0_Course_School:Int) (b0_Course_Code:ByteArray) (b0_Credits b0_Grade b0_Day:Int) (b0_Sources:List Int) (b0_Bundle:Int) (b0_Path:List Int),ev 47 1 [rL 8 qc s,R.c (C.fn 46 [] [dP 0])] [(0,B.blk 52 [dI b0_Course_School,dS b0_Course_Code,dI b0_Credits,dI b0_Grade,dI b0_Day,dL 1 eI b0_Sources,dI b0_Bundle,dL 1 eI b0_Path])]=(qp s (qa.mk (qb.mk b0_Course_School b0_Course_Code) b0_Credits b0_Grade b0_Day b0_Sources b0_Bundle b0_Path)).bind (fun(e:Bool)=>some (rB e,[(0,B.blk 52 [dI b0_Course_School,dS b0_Course_Code,dI b0_Credits,dI b0_Grade,dI b0_Day,dL 1 eI b0_Sources,dI b0_Bundle,dL 1 eI b0_Path])])):=
 fun s b0_Course_School b0_Course_Code b0_Credits b0_Grade b0_Day b0_Sources b0_Bundle b0_Path=>by
  rw[qD qqo qsH.2.2.2 qtX]
  have:=qu7;have:=@zX;have:=@qp.eq_1;exact gA
def Qd (l:List qa) (t6:List qa) (t7:Int):Int→Option (Int⊕(Unit⊕Unit))|t8=>if t8<t7 then if 0≤t8∧t8<((t6.length:Nat):Int) then Option.bind t6[Int.toNat t8]? fun(a:qa)=>if 0≤w64 (t8+1)∧w64 (t8+1)≤((l.length:Nat):Int) then Option.bind (qp (List.take (l.length-Int.toNat (w64 (t8+1))) (List.drop (Int.toNat (w64 (t8+1))) l)) a) fun(a2:Bool)=>if a2=Bool.true then some (Sum.inr (Sum.inl ())) else some (Sum.inl (w64 (t8+1))) else none else none else some (Sum.inr (Sum.inr ()))
theorem q2n:∀(l t6:List qa) (t7 t8:Int),XL2 evo 21 0 2 ⟨[(0,rL 8 qc l),(6,rL 8 qc t6),(7,rI t7),(8,rI t8)],[],0,21⟩=(qG (Qd l t6 t7) t8).bind (Sum.elim (fun(e:Unit)=>some (Exit.ret,⟨[(2,rB Bool.false)],[],0,21⟩)) (fun(e:Unit)=>some (Exit.exit 0,⟨[(2,R.any)],[],0,21⟩))):=
 fun l t6 t7 t8=>by
  revert t8;exact q8X qkU qna (fun e=>by rcases e with _|_<;>exact⟨_,rfl,fun h=>by cases h⟩) fun x=>by
   have:=qt5;have:=@qbp.eq_1;have:=@zL;have:=@Qd.eq_1;exact gA
def Zn (l:List qa):Option Bool:=Option.bind (qG (Qd l l ((l.length:Nat):Int)) 0) fun(a:Sum Unit Unit)=>Sum.elim (fun(a2:Unit)=>some Bool.false) (fun(a3:Unit)=>some Bool.true) a
theorem q4E:∀(l:List qa),ev 21 0 [rL 8 qc l] []=(Zn l).bind (fun(e:Bool)=>some (rB e,[])):=
 fun l=>by
  rw[qD qoI qtb.2.2.2 qsU]
  have:=qt5;have:=@q2n;have:=@Zn.eq_1;exact gA
theorem q2o:∀(l2:List qa) (l2_len:Nat),l2_len=l2.length→ev 21 0 [R.c (C.d (D.sl 8 l2_len (l2.flatMap qc)))] []=(Zn l2).bind (fun(e:Bool)=>some (rB e,[])):=by
 intro l2 l2_len h0;subst h0;have h:=q4E l2
 first
  | exact h
  | (simp only[rL,dL,bR,bZ,Nat.reduceAdd] at h;exact h)
def z8 (x:(List qa×Int×Int×List qa)):List R×List (Nat×B):=([R.c (C.d (D.sl 8 x.1.length (x.1.flatMap qc))),R.c (C.d (D.int .i64 x.2.1)),R.c (C.ptr 0 0),R.c (C.ptr 3 0),R.c (C.ptr 4 0)],[(0,B.blk 60 [C.hd .yield 1]),(1,B.ob (AO.lp 16 [R.any,R.any,R.any,R.any,R.c (C.ptr 2 0),R.any,R.any,R.any,R.any,R.any,R.any,R.any,R.any,R.any,R.any,R.any,R.any] [11] (raO 16 6) (rbO 16 6) LoopState.ready none)),(2,B.blk 3 [C.d (D.int .i64 x.2.2.1)]),(3,B.blk 32 [C.d (D.sl 8 x.2.2.2.length (x.2.2.2.flatMap qc))]),(4,B.blk 105 [C.fn 67 [] [C.ptr 0 0,C.ptr 3 0,C.ptr 4 0]])])
def zj:(Bool×Int×List qa)→R×List (Nat×B):=fun(e:Bool×Int×List qa)=>(R.c (C.d (D.bool e.1)),[(0,B.blk 60 [C.hd .yield 1]),(1,B.ob (AO.lp 16 [R.any,R.any,R.any,R.any,R.c (C.ptr 2 0),R.any,R.any,R.any,R.any,R.any,R.any,R.any,R.any,R.any,R.any,R.any,R.any] [11] (raO 16 6) (rbO 16 6) LoopState.ready none)),(2,B.blk 3 [C.d (D.int .i64 e.2.1)]),(3,B.blk 32 [C.d (D.sl 8 e.2.2.length (e.2.2.flatMap qc))]),(4,B.blk 105 [C.fn 67 [] [C.ptr 0 0,C.ptr 3 0,C.ptr 4 0]])])
def zi (rF:(List qa×Int×Int×List qa)→Option (Bool×Int×List qa)) (set0:List qa):(Int×List qa×Int)→Option ((Int×List qa×Int)⊕((Int×List qa)⊕(Int×List qa)))|(b2,b3,k)=>if k<((b3.length:Nat):Int) then if 0≤k∧k<((b3.length:Nat):Int) then Option.bind b3[Int.toNat k]? fun(a2:qa)=>if set0.length+1≤maxLen∧(set0.length+1)*104≤140737488355328 then Option.bind (Zn (set0++[a2])) fun(a3:Bool)=>if a3=Bool.true then Option.bind (rF (set0++[a2],(w64 (k+1),(b2,b3)))) fun(a4:Prod Bool (Prod Int (List qa)))=>if(!a4.1)=Bool.true then some (Sum.inr (Sum.inl (a4.2.1,a4.2.2))) else some (Sum.inl (a4.2.1,a4.2.2,w64 (k+1))) else some (Sum.inl (b2,b3,w64 (k+1))) else none else none else some (Sum.inr (Sum.inr (b2,b3)))
theorem q0c (rE:Orc) (rF:(List qa×Int×Int×List qa)→Option (Bool×Int×List qa)) (hF:∀y,rE (.fn 67) 5 (z8 y).1 (z8 y).2=(rF y).bind fun e=>some (zj e)) (hM:∀g k a G,g≠67→rE (.fn g) k a G=ev g k a G) (hR:∀g asg bd k a G,rE (.rd g asg bd) k a G=evr g asg bd k a G):∀(b2:Int) (b3 set0:List qa) (k:Int),XL2 rE 67 5 4 ⟨[(0,rL 8 qc set0),(3,rP 3),(4,rP 4),(8,rI k)],[(0,B.blk 60 [C.hd .yield 1]),(1,B.ob (AO.lp 16 (R.any::R.any::R.any::R.any::rP 2::q6Y) [11] (raO 16 6) (rbO 16 6) LoopState.ready none)),(2,B.blk 3 [dI b2]),(3,B.blk 32 [dL 8 qc b3]),(4,B.blk 105 [C.fn 67 [] [dP 0,dP 3,dP 4]])],5,39⟩=(qG (zi rF set0) (b2,b3,k)).bind (Sum.elim (fun(e:Int×List qa)=>some (Exit.ret,⟨[(7,rB Bool.false)],[(0,B.blk 60 [C.hd .yield 1]),(1,B.ob (AO.lp 16 (R.any::R.any::R.any::R.any::rP 2::q6Y) [11] (raO 16 6) (rbO 16 6) LoopState.ready none)),(2,B.blk 3 [dI e.1]),(3,B.blk 32 [dL 8 qc e.2]),(4,B.blk 105 [C.fn 67 [] [dP 0,dP 3,dP 4]])],5,39⟩)) (fun(e:Int×List qa)=>some (Exit.exit 0,⟨[(7,R.any)],[(0,B.blk 60 [C.hd .yield 1]),(1,B.ob (AO.lp 16 (R.any::R.any::R.any::R.any::rP 2::q6Y) [11] (raO 16 6) (rbO 16 6) LoopState.ready none)),(2,B.blk 3 [dI e.1]),(3,B.blk 32 [dL 8 qc e.2]),(4,B.blk 105 [C.fn 67 [] [dP 0,dP 3,dP 4]])],5,39⟩))):=
 fun b2 b3 set0 k=>by
  revert k;revert b3;revert b2;exact qq4 qms qnU (fun e=>by rcases e with _|_<;>exact⟨_,rfl,fun h=>by cases h⟩) fun b2 b3 k=>by
   have hF':∀(set0:List qa) (from0 b2:Int) (v:List qa) (set0_len:Nat),set0_len=set0.length→rE (.fn 67) 5 [R.c (C.d (D.sl 8 set0_len (set0.flatMap qc))),rI from0,rP 0,rP 3,rP 4] [(0,B.blk 60 [C.hd .yield 1]),(1,B.ob (AO.lp 16 (R.any::R.any::R.any::R.any::rP 2::q6Y) [11] (raO 16 6) (rbO 16 6) LoopState.ready none)),(2,B.blk 3 [dI b2]),(3,B.blk 32 [dL 8 qc v]),(4,B.blk 105 [C.fn 67 [] [dP 0,dP 3,dP 4]])]=(rF (set0,from0,b2,v)).bind (fun e=>some (rB e.1,[(0,B.blk 60 [C.hd .yield 1]),(1,B.ob (AO.lp 16 (R.any::R.any::R.any::R.any::rP 2::q6Y) [11] (raO 16 6) (rbO 16 6) LoopState.ready none)),(2,B.blk 3 [dI e.2.1]),(3,B.blk 32 [dL 8 qc e.2.2]),(4,B.blk 105 [C.fn 67 [] [dP 0,dP 3,dP 4]])])):=by intro set0 from0 b2 v set0_len h0;subst h0;exact hF (set0,from0,b2,v)
   have:=qtj;have:=@qbG.eq_1;have:=@Qa;have:=@q2o;have:=@zi.eq_1;exact gA
def zF (rF:(List qa×Int×Int×List qa)→Option (Bool×Int×List qa)):(List qa×Int×Int×List qa)→Option (Bool×Int×List qa)|(set0,from0,b2,v)=>Option.bind (QA set0 b2) fun(a2:Int)=>Option.bind (qG (zi rF set0) (a2,(v,from0))) fun(a3:Sum (Prod Int (List qa)) (Prod Int (List qa)))=>Sum.elim (fun(a4:Prod Int (List qa))=>some (Bool.false,a4.1,a4.2)) (fun(a5:Prod Int (List qa))=>some (Bool.true,a5.1,a5.2)) a3
theorem ZS:q6i 67 5 z8 zj zF:=by
 intro rE rF hF hM hR x
 obtain⟨set0,from0,b2,v⟩:=x
 show q6G rE 67 5 [rL 8 qc set0,rI from0,rP 0,rP 3,rP 4] [(0,B.blk 60 [C.hd .yield 1]),(1,B.ob (AO.lp 16 (R.any::R.any::R.any::R.any::rP 2::q6Y) [11] (raO 16 6) (rbO 16 6) LoopState.ready none)),(2,B.blk 3 [dI b2]),(3,B.blk 32 [dL 8 qc v]),(4,B.blk 105 [C.fn 67 [] [dP 0,dP 3,dP 4]])]=_
 have hF':∀(set0:List qa) (from0 b2:Int) (v:List qa) (set0_len:Nat),set0_len=set0.length→rE (.fn 67) 5 [R.c (C.d (D.sl 8 set0_len (set0.flatMap qc))),rI from0,rP 0,rP 3,rP 4] [(0,B.blk 60 [C.hd .yield 1]),(1,B.ob (AO.lp 16 (R.any::R.any::R.any::R.any::rP 2::q6Y) [11] (raO 16 6) (rbO 16 6) LoopState.ready none)),(2,B.blk 3 [dI b2]),(3,B.blk 32 [dL 8 qc v]),(4,B.blk 105 [C.fn 67 [] [dP 0,dP 3,dP 4]])]=(rF (set0,from0,b2,v)).bind (fun e=>some (rB e.1,[(0,B.blk 60 [C.hd .yield 1]),(1,B.ob (AO.lp 16 (R.any::R.any::R.any::R.any::rP 2::q6Y) [11] (raO 16 6) (rbO 16 6) LoopState.ready none)),(2,B.blk 3 [dI e.2.1]),(3,B.blk 32 [dL 8 qc e.2.2]),(4,B.blk 105 [C.fn 67 [] [dP 0,dP 3,dP 4]])])):=by intro set0 from0 b2 v set0_len h0;subst h0;exact hF (set0,from0,b2,v)
 rw[q5g qoB qsN]
 have:=qtj;have:=@q1Z;have:=q0c rE rF hF hM hR;have:=@zF.eq_1;have:=@zj.eq_1;exact gA
theorem Zc:∀x y,z8 x=z8 y→x=y:=by
 rintro⟨a0,a1,a2,a3⟩ ⟨b0,b1,b2,b3⟩ h
 simp only[z8,Prod.mk.injEq,List.cons.injEq,R.c.injEq,R.agg.injEq,R.tup.injEq,C.d.injEq,C.own.injEq,C.ptr.injEq,C.eptr.injEq,C.clp.injEq,D.int.injEq,D.bool.injEq,D.str.injEq,D.sl.injEq,B.blk.injEq,B.row.injEq,q3h,q1X,JP,q2e,q2d,q3Z,q3v,q4f,q49,q3I,q6K,q3i,true_and,and_true,qwf] at h
 simp only[h]
theorem q0a:∀x y,zj x=zj y→x=y:=by
 rintro⟨a0,a1,a2⟩ ⟨b0,b1,b2⟩ h
 simp only[zj,Prod.mk.injEq,List.cons.injEq,R.c.injEq,R.agg.injEq,R.tup.injEq,C.d.injEq,C.own.injEq,C.ptr.injEq,C.eptr.injEq,C.clp.injEq,D.int.injEq,D.bool.injEq,D.str.injEq,D.sl.injEq,B.blk.injEq,B.row.injEq,q3h,q1X,JP,q2e,q2d,q3Z,q3v,q4f,q49,q3I,q6K,q3i,true_and,and_true,qwf] at h
 simp only[h]
def zU:(List qa×Int×Int×List qa)→Option (Bool×Int×List qa):=q4B 67 5 z8 zj
theorem ZX (x:(List qa×Int×Int×List qa)):zU x=zF zU x:=qgp qpN.2.2.2 Zc q0a ZS x
theorem q19 (set0:List qa) (from0 b2:Int) (v:List qa):ev 67 5 [rL 8 qc set0,rI from0,rP 0,rP 3,rP 4] [(0,B.blk 60 [C.hd .yield 1]),(1,B.ob (AO.lp 16 (R.any::R.any::R.any::R.any::rP 2::q6Y) [11] (raO 16 6) (rbO 16 6) LoopState.ready none)),(2,B.blk 3 [dI b2]),(3,B.blk 32 [dL 8 qc v]),(4,B.blk 105 [C.fn 67 [] [dP 0,dP 3,dP 4]])]=(zU (set0,from0,b2,v)).bind (fun(e:Bool×Int×List qa)=>some (rB e.1,[(0,B.blk 60 [C.hd .yield 1]),(1,B.ob (AO.lp 16 (R.any::R.any::R.any::R.any::rP 2::q6Y) [11] (raO 16 6) (rbO 16 6) LoopState.ready none)),(2,B.blk 3 [dI e.2.1]),(3,B.blk 32 [dL 8 qc e.2.2]),(4,B.blk 105 [C.fn 67 [] [dP 0,dP 3,dP 4]])])):=(q8k qpN.2.2.2 Zc ZS (set0,from0,b2,v))
theorem q0b:∀  (from0 b2:Int) (v:List qa),ev 67 5 [R.c (C.d (D.sl 8 0 [])),rI from0,rP 0,rP 3,rP 4] [(0,B.blk 60 [C.hd .yield 1]),(1,B.ob (AO.lp 16 (R.any::R.any::R.any::R.any::rP 2::q6Y) [11] (raO 16 6) (rbO 16 6) LoopState.ready none)),(2,B.blk 3 [dI b2]),(3,B.blk 32 [dL 8 qc v]),(4,B.blk 105 [C.fn 67 [] [dP 0,dP 3,dP 4]])]=(zU ([],from0,b2,v)).bind (fun(e:Bool×Int×List qa)=>some (rB e.1,[(0,B.blk 60 [C.hd .yield 1]),(1,B.ob (AO.lp 16 (R.any::R.any::R.any::R.any::rP 2::q6Y) [11] (raO 16 6) (rbO 16 6) LoopState.ready none)),(2,B.blk 3 [dI e.2.1]),(3,B.blk 32 [dL 8 qc e.2.2]),(4,B.blk 105 [C.fn 67 [] [dP 0,dP 3,dP 4]])])):=by
 intro from0 b2 v;have h:=q19 [] from0 b2 v
 first
  | exact h
  | (simp only[rL,dL,bR,bZ,Nat.reduceAdd] at h;exact h)
def Zt (b1:Int) (v:List qa):Option (Int×List qa):=Option.bind (zU ([],(0,(b1,v)))) fun(a:Prod Bool (Prod Int (List qa)))=>some (a.2.1,a.2.2)
theorem q2E:∀(b1:Int) (v:List qa),ev 66 3 [R.c (C.hd .yield 0),rP 2] [(0,B.ob (AO.lp 16 (R.any::R.any::R.any::R.any::rP 1::q6Y) [11] (raO 16 6) (rbO 16 6) LoopState.ready none)),(1,B.blk 3 [dI b1]),(2,B.blk 32 [dL 8 qc v])]=(Zt b1 v).bind (fun(e:Int×List qa)=>some (R.tup [],[(0,B.ob (AO.lp 16 (R.any::R.any::R.any::R.any::rP 1::q6Y) [11] (raO 16 6) (rbO 16 6) LoopState.ready none)),(1,B.blk 3 [dI e.1]),(2,B.blk 32 [dL 8 qc e.2])])):=
 fun b1 v=>by
  rw[qD qrD qsj.2.2.2 qtO]
  have:=qtD;have:=@q0b;have:=@Zt.eq_1;exact gA
def QE (l:List qa):Option (Int×Int):=if 10<((l.length:Nat):Int) then some (0,2) else Option.bind (Zt 0 l) fun(a:Prod Int (List qa))=>some (a.1,0)
theorem q3F:∀(l:List qa),ev 16 0 [rL 8 qc l] []=(QE l).bind (fun(e:Int×Int)=>some (R.tup [rI e.1,rI e.2],[])):=
 fun l=>by
  rw[qD qlq qsz.2.2.2 qsk]
  have:=qt7;have:=@q3J;have:=@q2E;have:=@QE.eq_1;have:=@qgW;exact gA
theorem q1O:∀(l0_Course_School:Int) (l0_Course_Code:ByteArray) (l0_Credits l0_Grade l0_Day l0_Sources0 l0_Bundle l1_Course_School:Int) (l1_Course_Code:ByteArray) (l1_Credits l1_Grade l1_Day l1_Sources0 l1_Bundle l2_Course_School:Int) (l2_Course_Code:ByteArray) (l2_Credits l2_Grade l2_Day l2_Sources0 l2_Bundle:Int) , ev 16 0 [R.c (C.d (D.sl 8 3 [D.int .i64 l0_Course_School,D.str l0_Course_Code,D.int .i64 l0_Credits,D.int .i64 l0_Grade,D.int .i64 l0_Day,D.sl 1 1 [D.int .i64 l0_Sources0],D.int .i64 l0_Bundle,D.sl 1 0 [],D.int .i64 l1_Course_School,D.str l1_Course_Code,D.int .i64 l1_Credits,D.int .i64 l1_Grade,D.int .i64 l1_Day,D.sl 1 1 [D.int .i64 l1_Sources0],D.int .i64 l1_Bundle,D.sl 1 0 [],D.int .i64 l2_Course_School,D.str l2_Course_Code,D.int .i64 l2_Credits,D.int .i64 l2_Grade,D.int .i64 l2_Day,D.sl 1 1 [D.int .i64 l2_Sources0],D.int .i64 l2_Bundle,D.sl 1 0 []]))] []=(QE [(qa.mk (qb.mk l0_Course_School l0_Course_Code) l0_Credits l0_Grade l0_Day [l0_Sources0] l0_Bundle ([]:List Int)),(qa.mk (qb.mk l1_Course_School l1_Course_Code) l1_Credits l1_Grade l1_Day [l1_Sources0] l1_Bundle ([]:List Int)),(qa.mk (qb.mk l2_Course_School l2_Course_Code) l2_Credits l2_Grade l2_Day [l2_Sources0] l2_Bundle ([]:List Int))]).bind (fun(e:Int×Int)=>some (R.tup [rI e.1,rI e.2],[])):=by
 intro l0_Course_School l0_Course_Code l0_Credits l0_Grade l0_Day l0_Sources0 l0_Bundle l1_Course_School l1_Course_Code l1_Credits l1_Grade l1_Day l1_Sources0 l1_Bundle l2_Course_School l2_Course_Code l2_Credits l2_Grade l2_Day l2_Sources0 l2_Bundle;have h:=q3F [(qa.mk (qb.mk l0_Course_School l0_Course_Code) l0_Credits l0_Grade l0_Day [l0_Sources0] l0_Bundle ([]:List Int)),(qa.mk (qb.mk l1_Course_School l1_Course_Code) l1_Credits l1_Grade l1_Day [l1_Sources0] l1_Bundle ([]:List Int)),(qa.mk (qb.mk l2_Course_School l2_Course_Code) l2_Credits l2_Grade l2_Day [l2_Sources0] l2_Bundle ([]:List Int))]
 first
  | exact h
  | (simp only[rL,dL,bR,bZ,Nat.reduceAdd] at h;exact h)
theorem qlT:okL 11 q68:=qI (qi qi6) (by kernel_rfl) (by kernel_rfl)
def qi3:=JA_ @q68.eq_1 (JA_ @Try.f11.eq_1 @qi6)
theorem qdI:lbO 11 3=q6T:=Q3 (qi qi6) rfl
theorem qcm:okL 11 q6T:=zh qlT (qvW (i:=0) (by kernel_rfl))
theorem qe4:lbO 11 9=q6q:=Q3 (qi qi6) rfl
theorem qdT:okL 11 q6q:=zh qlT (qvW (i:=1) (by kernel_rfl))
theorem qvJ:okL 25 qcM:=qI (qi qr9) (by kernel_rfl) (by kernel_rfl)
def qvK:=JA_ @qcM.eq_1 (JA_ @Try.f25.eq_1 @qr9)
theorem qv6:okL 50 qdg:=qI (qi qpG) (by kernel_rfl) (by kernel_rfl)
def qvF:=JA_ @qdg.eq_1 (JA_ @Try.f50.eq_1 @qpG)
theorem qvx:okL 76 qbi:=qI (qi qqd) (by kernel_rfl) (by kernel_rfl)
def qun:=JA_ @qbi.eq_1 (JA_ @Try.f76.eq_1 @qqd)
def QH (n:Int) (by0:Int):Option Int:=if by0=0 then none else if by0=0 then none else if by0=0 then none else some (w64 (Int.tdiv (w64 (n-Int.tmod (w64 (Int.tmod n by0+by0)) by0)) by0))
theorem q34:∀(n by0:Int),ev 76 0 [rI n,rI by0] []=(QH n by0).bind (fun(e:Int)=>some (rI e,[])):=
 fun n by0=>by
  rw[qD qqd qsP.2.2.2 qvx]
  have:=qun;have:=@QH.eq_1;exact gA
def Zk (day:Int):Option Int:=if day<(-4611686018427387904) then Option.bind (QH (w64 (day+100)) 100) fun(a:Int)=>some (w64 (a-1)) else Option.bind (QH day 100) fun(e0:Int)=>some e0
theorem q4J:∀(day:Int),ev 50 0 [rI day] []=(Zk day).bind (fun(e:Int)=>some (rI e,[])):=
 fun day=>by
  rw[qD qpG qsn.2.2.2 qv6]
  have:=qvF;have:=@q34;have:=@Zk.eq_1;exact gA
def qs (p:qe) (a:qa) (day:Int):Option Bool:=if 0<p.Age then Option.bind (Zk day) fun(a2:Int)=>Option.bind (Zk a.Day) fun(a3:Int)=>some (decide (p.Age<w64 (a2-a3))) else some Bool.false
theorem QB:∀(p_School p_Id p_Version p_From:Int) (p_Name:ByteArray) (p_Need_Kind p_Need_N p_Need_Min:Int) (p_Need_Set:List qb) (p_Need_L:List qg) (p_Total p_Own p_Age:Int) (p_Exclude:List (QF qb)) (a_Course_School:Int) (a_Course_Code:ByteArray) (a_Credits a_Grade a_Day:Int) (a_Sources:List Int) (a_Bundle:Int) (a_Path:List Int) (day:Int),ev 25 0 [R.agg [dI p_School,dI p_Id,dI p_Version,dI p_From,dS p_Name,dI p_Need_Kind,dI p_Need_N,dI p_Need_Min,dL 2 qh p_Need_Set,dL 5 qq p_Need_L,dI p_Total,dI p_Own,dI p_Age,dL 4 (eA2 qh) p_Exclude],R.agg [dI a_Course_School,dS a_Course_Code,dI a_Credits,dI a_Grade,dI a_Day,dL 1 eI a_Sources,dI a_Bundle,dL 1 eI a_Path],rI day] []=(qs (qe.mk p_School p_Id p_Version p_From p_Name (qg.mk p_Need_Kind p_Need_N p_Need_Min p_Need_Set p_Need_L) p_Total p_Own p_Age p_Exclude) (qa.mk (qb.mk a_Course_School a_Course_Code) a_Credits a_Grade a_Day a_Sources a_Bundle a_Path) day).bind (fun(e:Bool)=>some (rB e,[])):=
 fun p_School p_Id p_Version p_From p_Name p_Need_Kind p_Need_N p_Need_Min p_Need_Set p_Need_L p_Total p_Own p_Age p_Exclude a_Course_School a_Course_Code a_Credits a_Grade a_Day a_Sources a_Bundle a_Path day=>by
  rw[qD qr9 qsr.2.2.2 qvJ]
  have:=qvK;have:=@q4J;have:=@qs.eq_1;exact gA
theorem quy:okL 31 qbh:=qI (qi qrC) (by kernel_rfl) (by kernel_rfl)
def qvU:=JA_ @qbh.eq_1 (JA_ @Try.f31.eq_1 @qrC)
def qL (s:List Int):Option Unit:=if s.length≤maxLen∧s.length*8≤140737488355328 then some () else none
theorem QQ:∀(s:List Int),ev 57 0 [rL 1 eI s] []=(qL s).bind (fun(e:Unit)=>some (rO 0 1 s.length,[(0,bR 3 1 eI s)])):=
 fun s=>by
  rw[qdQ,qtu.2.2.2]
  have:=@qL.eq_1;exact gA
def qv (a:qa):Option Unit:=Option.bind (qL a.Sources) fun(a2:Unit)=>Option.bind (qL a.Path) fun(a3:Unit)=>some ()
theorem Zo:∀(a_Course_School:Int) (a_Course_Code:ByteArray) (a_Credits a_Grade a_Day:Int) (a_Sources:List Int) (a_Bundle:Int) (a_Path:List Int),ev 31 0 [R.agg [dI a_Course_School,dS a_Course_Code,dI a_Credits,dI a_Grade,dI a_Day,dL 1 eI a_Sources,dI a_Bundle,dL 1 eI a_Path]] []=(qv (qa.mk (qb.mk a_Course_School a_Course_Code) a_Credits a_Grade a_Day a_Sources a_Bundle a_Path)).bind (fun(e:Unit)=>some (R.agg [dI a_Course_School,dS a_Course_Code,dI a_Credits,dI a_Grade,dI a_Day,dL 1 eI a_Sources,dI a_Bundle,dL 1 eI a_Path],[])):=
 fun a_Course_School a_Course_Code a_Credits a_Grade a_Day a_Sources a_Bundle a_Path=>by
  rw[qD qrC qt0.2.2.2 quy]
  have:=qvU;have:=@QQ;have:=@qv.eq_1;exact gA
theorem qsK:okL 32 q8m:=qI (qi qoR) (by kernel_rfl) (by kernel_rfl)
def qsx:=JA_ @q8m.eq_1 (JA_ @Try.f32.eq_1 @qoR)
theorem qoq:lbO 32 3=qbP:=Q3 (qi qoR) rfl
theorem qme:okL 32 qbP:=zh qsK (qvW (i:=0) (by kernel_rfl))
theorem qqq:okL 58 q6n:=qI (qi qm6) (by kernel_rfl) (by kernel_rfl)
def qqD:=JA_ @q6n.eq_1 (JA_ @Try.f58.eq_1 @qm6)
theorem qkf:lbO 58 3=qdO:=Q3 (qi qm6) rfl
theorem qlp:okL 58 qdO:=zh qqq (qvW (i:=0) (by kernel_rfl))
theorem qnL:lbO 58 8=qc8:=Q3 (qi qm6) rfl
theorem qlb:okL 58 qc8:=zh qqq (qvW (i:=1) (by kernel_rfl))
def zP (s:List Int):Option (List Int):=
 some (@cpI s)
def qF (s:List Int):List Int:=
 @cpI s
theorem ZK (s:List Int):zP s=some (qF s):=by
 unfold zP qF
 simp only[ZG]
theorem ZW:∀(s:List Int) (s_len:Nat),s_len=s.length→ev 79 0 [rO 0 1 s_len] [(0,bR 3 1 eI s)]=some (rO 0 1 (qF s).length,[(0,B.row 3 1 (((qF s).flatMap eI).map C.d))]):=
 by
 intro s s_len h0
 subst h0
 have h:ev 79 0 [rO 0 1 s.length] [(0,bR 3 1 eI s)]=(zP s).bind (fun(e:List Int)=>some (rO 0 1 e.length,[(0,bR 3 1 eI e)])):=by
  rw[qdQ,qsf.2.2.2]
  have:=@zP.eq_1;exact gA
 rw[ZK] at h
 exact h
def Qe (w1:List Int) (t10:List qa) (t11:Int) (t12:Int) (t23:Int):((List (Int×Int))×Int)→Option (((List (Int×Int))×Int)⊕((List (Int×Int))))|(m0,t24)=>if t24<t23 then if 0≤t24∧t24<((w1.length:Nat):Int) then Option.bind w1[Int.toNat t24]? fun(a:Int)=>some (Sum.inl (q2R m0 a (w64 (Z6 0 m0 a+1)),w64 (t24+1))) else none else some (Sum.inr m0)
theorem q2k:∀(w1:List Int) (m0:List (Int×Int)) (t10:List qa) (t11 t12 t23 t24:Int) (w1_len:Nat),w1_len=w1.length→XL2 evo 58 0 8 ⟨[(3,R.c (C.hd .map 0)),(10,rL 8 qc t10),(11,rI t11),(12,rI t12),(22,rO 1 1 w1_len),(23,rI t23),(24,rI t24)],[(0,B.ob (mpB (Jr .i64) Q5 m0)),(1,bR 3 1 eI w1)],2,35⟩=(qG (Qe w1 t10 t11 t12 t23) (m0,t24)).bind (fun(e:(List (Int×Int)))=>some (Exit.exit 2,⟨[(3,R.c (C.hd .map 0)),(10,rL 8 qc t10),(11,rI t11),(12,rI t12)],[(0,B.ob (mpB (Jr .i64) Q5 e))],1,35⟩)):=
 by
 intro w1 m0 t10 t11 t12 t23 t24 w1_len h0
 subst h0
 revert t24;revert m0;exact q8h qnL qlb (fun e=>by exact⟨_,rfl,fun h=>by cases h⟩) fun m0 t24=>by
  have:=qqD;have:=@qc8.eq_1;have:=@Qe.eq_1;exact gA
def Qt (t10:List qa) (t11:Int):((List (Int×Int))×Int)→Option (((List (Int×Int))×Int)⊕((List (Int×Int))))|(m0,t12)=>if t12<t11 then if 0≤t12∧t12<((t10.length:Nat):Int) then Option.bind t10[Int.toNat t12]? fun(a:qa)=>Option.bind (qL a.Sources) fun(a2:Unit)=>if a.Sources.length<4611686018427387904 then Option.bind (qG (Qe (qF (@ZJ a.Sources)) t10 t11 t12 (((qF (@ZJ a.Sources)).length:Nat):Int)) (m0,0)) fun(a3:List (Prod Int Int))=>some (Sum.inl (a3,w64 (t12+1))) else none else none else some (Sum.inr m0)
theorem q2r:∀(m0:List (Int×Int)) (t10:List qa) (t11 t12:Int),XL2 evo 58 0 3 ⟨[(3,R.c (C.hd .map 0)),(10,rL 8 qc t10),(11,rI t11),(12,rI t12)],[(0,B.ob (mpB (Jr .i64) Q5 m0))],1,35⟩=(qG (Qt t10 t11) (m0,t12)).bind (fun(e:(List (Int×Int)))=>some (Exit.exit 0,⟨[(3,R.c (C.hd .map 0))],[(0,B.ob (mpB (Jr .i64) Q5 e))],1,35⟩)):=
 fun m0 t10 t11 t12=>by
  revert t12;revert m0;exact q8h qkf qlp (fun e=>by exact⟨_,rfl,fun h=>by cases h⟩) fun m0 t12=>by
   have:=qqD;have:=@qdO.eq_1;have:=@QQ;have:=@ZW;have:=@q2k;have:=@Qt.eq_1;exact gA
def ZV (l:List qa):Option ((List (Int×Int))):=Option.bind (qG (Qt l ((l.length:Nat):Int)) ([],0)) fun(a:List (Prod Int Int))=>some a
theorem q4I:∀(l:List qa),ev 58 0 [rL 8 qc l] []=(ZV l).bind (fun(e:(List (Int×Int)))=>some (R.c (C.hd .map 0),[(0,B.ob (mpB (Jr .i64) Q5 e))])):=
 fun l=>by
  rw[qD qm6 qsB.2.2.2 qqq]
  have:=qqD;have:=@q2r;have:=@ZV.eq_1;exact gA
theorem qvO:okL 14 qbs:=qI (qi qqy) (by kernel_rfl) (by kernel_rfl)
def qtK:=JA_ @qbs.eq_1 (JA_ @Try.f14.eq_1 @qqy)
theorem qvd:okL 39 qcf:=qI (qi qq1) (by kernel_rfl) (by kernel_rfl)
def qum:=JA_ @qcf.eq_1 (JA_ @Try.f39.eq_1 @qq1)
theorem qvE:okL 64 qcs:=qI (qi qqc) (by kernel_rfl) (by kernel_rfl)
def qug:=JA_ @qcs.eq_1 (JA_ @Try.f64.eq_1 @qqc)
theorem qsb:okL 84 q8s:=qI (qi qoy) (by kernel_rfl) (by kernel_rfl)
def qsV:=JA_ @q8s.eq_1 (JA_ @Try.f84.eq_1 @qoy)
theorem qki:lbO 84 2=qaA:=Q3 (qi qoy) rfl
theorem qnB:okL 84 qaA:=zh qsb (qvW (i:=0) (by kernel_rfl))
theorem qui:okL 85 qdD:=qI (qi qr3) (by kernel_rfl) (by kernel_rfl)
def qvD:=JA_ @qdD.eq_1 (JA_ @Try.f85.eq_1 @qr3)
def Qs (n:Int) (a:Int) (b:Int):Option Int:=
 some (max (min a b) (min n (max a b)))
def qQ (n:Int) (a:Int) (b:Int):Int:=
 max (min a b) (min n (max a b))
theorem JS (n a b:Int):Qs n a b=some (qQ n a b):=by
 unfold Qs qQ
 simp only[ZG]
theorem Qv:∀(n a b:Int),ev 85 0 [rI n,rI a,rI b] []=some (rI (qQ n a b),[]):=
 fun n a b=>by
  have h:ev 85 0 [rI n,rI a,rI b] []=(Qs n a b).bind (fun(e:Int)=>some (rI e,[])):=by
   rw[qD qr3 qsO.2.2.2 qui]
   have:=qvD;have:=@Qs.eq_1;exact gA
  rw[JS] at h
  exact h
end
noncomputable section
open Go.RowKit
set_option maxRecDepth 20000
set_option maxHeartbeats 8000000
def zV (w1:List Int) (s:qf) (t10:Int):Int→Option (Int⊕(Unit⊕Unit))|t11=>if t11<t10 then if 0≤t11∧t11<((w1.length:Nat):Int) then Option.bind w1[Int.toNat t11]? fun(a:Int)=>if(qQ a (-1000) 1000 != a)=Bool.true then some (Sum.inr (Sum.inl ())) else some (Sum.inl (w64 (t11+1))) else none else some (Sum.inr (Sum.inr ()))
theorem q1l:∀(w1:List Int) (s_Worst s_Best s_Pass t10 t11:Int) (w1_len:Nat),w1_len=w1.length→XL2 evo 84 0 2 ⟨[(1,rP 0),(9,rO 1 1 w1_len),(10,rI t10),(11,rI t11)],[(0,B.blk 30 [dI s_Worst,dI s_Best,dI s_Pass]),(1,bR 3 1 eI w1)],2,37⟩=(qG (zV w1 (qf.mk s_Worst s_Best s_Pass) t10) t11).bind (Sum.elim (fun(e:Unit)=>some (Exit.ret,⟨[(1,rP 0),(2,rI 10)],[(0,B.blk 30 [dI s_Worst,dI s_Best,dI s_Pass])],1,37⟩)) (fun(e:Unit)=>some (Exit.exit 0,⟨[(1,rP 0),(2,R.any)],[(0,B.blk 30 [dI s_Worst,dI s_Best,dI s_Pass])],1,37⟩))):=
 by
 intro w1 s_Worst s_Best s_Pass t10 t11 w1_len h0
 subst h0
 revert t11;exact q8X qki qnB (fun e=>by rcases e with _|_<;>exact⟨_,rfl,fun h=>by cases h⟩) fun x=>by
  have:=qsV;have:=@qaA.eq_1;have:=@Qv;have:=@zV.eq_1;exact gA
theorem q07:∀(w10 w11 s_Worst s_Best s_Pass t10 t11:Int),XL2 evo 84 0 2 ⟨[(1,rP 0),(9,rO 1 1 2),(10,rI t10),(11,rI t11)],[(0,B.blk 30 [dI s_Worst,dI s_Best,dI s_Pass]),(1,B.row 3 1 [dI w10,dI w11])],2,37⟩=(qG (zV [w10,w11] (qf.mk s_Worst s_Best s_Pass) t10) t11).bind (Sum.elim (fun(e:Unit)=>some (Exit.ret,⟨[(1,rP 0),(2,rI 10)],[(0,B.blk 30 [dI s_Worst,dI s_Best,dI s_Pass])],1,37⟩)) (fun(e:Unit)=>some (Exit.exit 0,⟨[(1,rP 0),(2,R.any)],[(0,B.blk 30 [dI s_Worst,dI s_Best,dI s_Pass])],1,37⟩))):=by
 intro w10 w11 s_Worst s_Best s_Pass t10 t11;have h:=q1l [w10,w11] ((qf.mk s_Worst s_Best s_Pass)).Worst ((qf.mk s_Worst s_Best s_Pass)).Best ((qf.mk s_Worst s_Best s_Pass)).Pass t10 t11 _ rfl
 first
  | exact h
  | (simp only[rL,dL,bR,bZ,Nat.reduceAdd] at h;exact h)
def Z7 (s:qf):Option Int:=Option.bind (qG (zV [s.Worst,s.Best] s 2) 0) fun(a:Sum Unit Unit)=>Sum.elim (fun(a2:Unit)=>some 10) (fun(a3:Unit)=>if(s.Worst==s.Best)=Bool.true then some 10 else if(qQ s.Pass s.Worst s.Best != s.Pass)=Bool.true then some 10 else some 0) a
theorem q37:∀(s_Worst s_Best s_Pass:Int),ev 84 0 [R.agg [dI s_Worst,dI s_Best,dI s_Pass]] []=(Z7 (qf.mk s_Worst s_Best s_Pass)).bind (fun(e:Int)=>some (rI e,[])):=
 fun s_Worst s_Best s_Pass=>by
  rw[qD qoy qtm.2.2.2 qsb]
  have:=qsV;have:=@q07;have:=@Qv;have:=@Z7.eq_1;exact gA
def Z8 (s:qf) (g:Int):Option Bool:=Option.bind (Z7 s) fun(a:Int)=>if(a==0)=Bool.true then some (qQ g s.Worst s.Best==g) else some Bool.false
theorem q2V:∀(s_Worst s_Best s_Pass g:Int),ev 64 0 [R.agg [dI s_Worst,dI s_Best,dI s_Pass],rI g] []=(Z8 (qf.mk s_Worst s_Best s_Pass) g).bind (fun(e:Bool)=>some (rB e,[])):=
 fun s_Worst s_Best s_Pass g=>by
  rw[qD qqc qrY.2.2.2 qvE]
  have:=qug;have:=@q37;have:=@Qv;have:=@Z8.eq_1;exact gA
def QC (s:qf) (g:Int) (min:Int):Option Bool:=Option.bind (Z8 s g) fun(a:Bool)=>if a=Bool.true then if(g==min)=Bool.true then some Bool.true else some (decide (min<g)==decide (s.Worst<s.Best)) else some Bool.false
theorem q27:∀(s_Worst s_Best s_Pass g min:Int),ev 39 0 [R.agg [dI s_Worst,dI s_Best,dI s_Pass],rI g,rI min] []=(QC (qf.mk s_Worst s_Best s_Pass) g min).bind (fun(e:Bool)=>some (rB e,[])):=
 fun s_Worst s_Best s_Pass g min=>by
  rw[qD qq1 qsT.2.2.2 qvd]
  have:=qum;have:=@q2V;have:=@QC.eq_1;exact gA
def QS (s:qf) (a:qa) (b:qa):Option Bool:=if(a.Course.School==b.Course.School)=Bool.true∧(ByteArray.toList a.Course.Code==ByteArray.toList b.Course.Code)=Bool.true then if(a.Bundle==b.Bundle)=Bool.true then Option.bind (zb a.Path b.Path) fun(a2:Bool)=>if a2=Bool.true then if b.Credits≤a.Credits then if b.Day≤a.Day then Option.bind (QC s a.Grade b.Grade) fun(e0:Bool)=>some e0 else some Bool.false else some Bool.false else some Bool.false else some Bool.false else some Bool.false
theorem q2v:∀(s_Worst s_Best s_Pass a_Course_School:Int) (a_Course_Code:ByteArray) (a_Credits a_Grade a_Day:Int) (a_Sources:List Int) (a_Bundle:Int) (a_Path:List Int) (b_Course_School:Int) (b_Course_Code:ByteArray) (b_Credits b_Grade b_Day:Int) (b_Sources:List Int) (b_Bundle:Int) (b_Path:List Int),ev 14 0 [R.agg [dI s_Worst,dI s_Best,dI s_Pass],R.agg [dI a_Course_School,dS a_Course_Code,dI a_Credits,dI a_Grade,dI a_Day,dL 1 eI a_Sources,dI a_Bundle,dL 1 eI a_Path],R.agg [dI b_Course_School,dS b_Course_Code,dI b_Credits,dI b_Grade,dI b_Day,dL 1 eI b_Sources,dI b_Bundle,dL 1 eI b_Path]] []=(QS (qf.mk s_Worst s_Best s_Pass) (qa.mk (qb.mk a_Course_School a_Course_Code) a_Credits a_Grade a_Day a_Sources a_Bundle a_Path) (qa.mk (qb.mk b_Course_School b_Course_Code) b_Credits b_Grade b_Day b_Sources b_Bundle b_Path)).bind (fun(e:Bool)=>some (rB e,[])):=
 fun s_Worst s_Best s_Pass a_Course_School a_Course_Code a_Credits a_Grade a_Day a_Sources a_Bundle a_Path b_Course_School b_Course_Code b_Credits b_Grade b_Day b_Sources b_Bundle b_Path=>by
  rw[qD qqy qti.2.2.2 qvO]
  have:=qtK;have:=@QP;have:=@q27;have:=@QS.eq_1;exact gA
theorem qvG:okL 59 qe1:=qI (qi qpI) (by kernel_rfl) (by kernel_rfl)
def qvI:=JA_ @qe1.eq_1 (JA_ @Try.f59.eq_1 @qpI)
def Qk (n:Int) (m1:List (Int×Int)) (v:List qa) (v2:Int):Option Bool:=if 1<Z6 0 m1 n then if 0≤v2∧v2<((v.length:Nat):Int) then Option.bind v[Int.toNat v2]? fun(a:qa)=>Option.bind (qS a.Sources n) fun(a2:Bool)=>some (!a2) else none else some Bool.false
theorem q0W:∀(n:Int) (m1:List (Int×Int)) (v:List qa) (v2:Int),ev 59 4 [rI n,rP 0,rP 2,rP 3] [(0,B.blk 82 [C.hd .map 1]),(1,B.ob (mpB (Jr .i64) Q5 m1)),(2,B.blk 32 [dL 8 qc v]),(3,B.blk 3 [dI v2])]=(Qk n m1 v v2).bind (fun(e:Bool)=>some (rB e,[(0,B.blk 82 [C.hd .map 1]),(1,B.ob (mpB (Jr .i64) Q5 m1)),(2,B.blk 32 [dL 8 qc v]),(3,B.blk 3 [dI v2])])):=
 fun n m1 v v2=>by
  rw[qD qpI qs7.2.2.2 qvG]
  have:=qvI;have:=@Qw;have:=@Qk.eq_1;exact gA
def ql (i:Int) (j:Int) (s:List qa):Option (List qa):=if 0≤i∧j=i+1∧i<((s.length:Nat):Int) then some (@List.eraseIdx qa s (Int.toNat i)) else none
theorem qC:∀(i j:Int) (s:List qa) (s_len:Nat),s_len=s.length→ev 33 0 [rO 0 8 s_len,rI i,rI j] [(0,bR 52 8 qc s)]=(ql i j s).bind (fun(e:List qa)=>some (rO 0 8 e.length,[(0,bR 52 8 qc e)])):=
 by
 intro i j s s_len h0
 subst h0
 rw[qdQ,qse.2.2.2]
 have:=@ql.eq_1;exact gA
def qA (m1:List (Int×Int)) (b2:List qa) (b3:Int) (s:List Int) (t7:Int):Int→Option (Int⊕(Int⊕Unit))|t8=>if t8<t7 then if 0≤t8∧t8<((s.length:Nat):Int) then Option.bind s[Int.toNat t8]? fun(a:Int)=>Option.bind (Qk a m1 b2 b3) fun(a2:Bool)=>if a2=Bool.true then some (Sum.inr (Sum.inl t8)) else some (Sum.inl (w64 (t8+1))) else none else some (Sum.inr (Sum.inr ()))
theorem Z4:∀(m1:List (Int×Int)) (b2:List qa) (b3:Int) (s:List Int) (t7 t8:Int),XL2 evo 81 4 2 ⟨[(0,rL 1 eI s),(1,R.c (C.fn 59 [] [dP 0,dP 2,dP 3])),(7,rI t7),(8,rI t8)],[(0,B.blk 82 [C.hd .map 1]),(1,B.ob (mpB (Jr .i64) Q5 m1)),(2,B.blk 32 [dL 8 qc b2]),(3,B.blk 3 [dI b3])],4,19⟩=(qG (qA m1 b2 b3 s t7) t8).bind (Sum.elim (fun(e:Int)=>some (Exit.ret,⟨[(4,rI e)],[(0,B.blk 82 [C.hd .map 1]),(1,B.ob (mpB (Jr .i64) Q5 m1)),(2,B.blk 32 [dL 8 qc b2]),(3,B.blk 3 [dI b3])],4,19⟩)) (fun(e:Unit)=>some (Exit.exit 0,⟨[(4,R.any)],[(0,B.blk 82 [C.hd .map 1]),(1,B.ob (mpB (Jr .i64) Q5 m1)),(2,B.blk 32 [dL 8 qc b2]),(3,B.blk 3 [dI b3])],4,19⟩))):=
 fun m1 b2 b3 s t7 t8=>by
  revert t8;exact q8X qgG qgr (fun e=>by rcases e with _|_<;>exact⟨_,rfl,fun h=>by cases h⟩) fun x=>by
   have:=qoD;have:=@q8w.eq_1;have:=@q0W;have:=@qA.eq_1;exact gA
def zp (s:List Int) (m1:List (Int×Int)) (b2:List qa) (b3:Int):Option Int:=Option.bind (qG (qA m1 b2 b3 s ((s.length:Nat):Int)) 0) fun(a:Sum Int Unit)=>Sum.elim (fun(a2:Int)=>some a2) (fun(a3:Unit)=>some (-1)) a
theorem Zl:∀(s:List Int) (m1:List (Int×Int)) (b2:List qa) (b3:Int),ev 81 4 [rL 1 eI s,R.c (C.fn 59 [] [dP 0,dP 2,dP 3])] [(0,B.blk 82 [C.hd .map 1]),(1,B.ob (mpB (Jr .i64) Q5 m1)),(2,B.blk 32 [dL 8 qc b2]),(3,B.blk 3 [dI b3])]=(zp s m1 b2 b3).bind (fun(e:Int)=>some (rI e,[(0,B.blk 82 [C.hd .map 1]),(1,B.ob (mpB (Jr .i64) Q5 m1)),(2,B.blk 32 [dL 8 qc b2]),(3,B.blk 3 [dI b3])])):=
 fun s m1 b2 b3=>by
  rw[qD qm1 qrq.2.2.2 qqr]
  have:=qoD;have:=@Z4;have:=@zp.eq_1;exact gA
def qN (s:List Int) (m1:List (Int×Int)) (b2:List qa) (b3:Int):Option Bool:=Option.bind (zp s m1 b2 b3) fun(a:Int)=>some (decide (0≤a))
theorem Z5:∀(s:List Int) (m1:List (Int×Int)) (b2:List qa) (b3:Int),ev 61 4 [rL 1 eI s,R.c (C.fn 59 [] [dP 0,dP 2,dP 3])] [(0,B.blk 82 [C.hd .map 1]),(1,B.ob (mpB (Jr .i64) Q5 m1)),(2,B.blk 32 [dL 8 qc b2]),(3,B.blk 3 [dI b3])]=(qN s m1 b2 b3).bind (fun(e:Bool)=>some (rB e,[(0,B.blk 82 [C.hd .map 1]),(1,B.ob (mpB (Jr .i64) Q5 m1)),(2,B.blk 32 [dL 8 qc b2]),(3,B.blk 3 [dI b3])])):=
 fun s m1 b2 b3=>by
  rw[qD qov qpH.2.2.2 qsG]
  have:=qsX;have:=@Zl;have:=@qN.eq_1;exact gA
def zM (l:List qa) (s:qf) (at0:Int) (m4:List (Int×Int)) (t13:List qa) (t14:Int):Int→Option (Int⊕(Unit⊕Unit))|t15=>if t15<t14 then if 0≤t15∧t15<((t13.length:Nat):Int) then Option.bind t13[Int.toNat t15]? fun(a:qa)=>if(t15==at0)=Bool.true then some (Sum.inl (w64 (t15+1))) else if 0≤at0∧at0<((l.length:Nat):Int) then Option.bind l[Int.toNat at0]? fun(a2:qa)=>Option.bind (QS s a a2) fun(a3:Bool)=>if(!a3)=Bool.true then some (Sum.inl (w64 (t15+1))) else Option.bind (qN a.Sources m4 l at0) fun(a4:Bool)=>if(!a4)=Bool.true then some (Sum.inr (Sum.inl ())) else some (Sum.inl (w64 (t15+1))) else none else none else some (Sum.inr (Sum.inr ()))
theorem q0K:∀(l:List qa) (s_Worst s_Best s_Pass at0:Int) (m4:List (Int×Int)) (t13:List qa) (t14 t15:Int),XL2 evo 32 0 3 ⟨[(3,rP 0),(4,rP 1),(5,rP 2),(7,rP 3),(13,rL 8 qc t13),(14,rI t14),(15,rI t15)],[(0,B.blk 32 [dL 8 qc l]),(1,B.blk 30 [dI s_Worst,dI s_Best,dI s_Pass]),(2,B.blk 3 [dI at0]),(3,B.blk 82 [C.hd .map 4]),(4,B.ob (mpB (Jr .i64) Q5 m4))],5,40⟩=(qG (zM l (qf.mk s_Worst s_Best s_Pass) at0 m4 t13 t14) t15).bind (Sum.elim (fun(e:Unit)=>some (Exit.ret,⟨[(6,rB Bool.true)],[],0,40⟩)) (fun(e:Unit)=>some (Exit.exit 0,⟨[(6,R.any)],[],0,40⟩))):=
 fun l s_Worst s_Best s_Pass at0 m4 t13 t14 t15=>by
  revert t15;exact q8X qoq qme (fun e=>by rcases e with _|_<;>exact⟨_,rfl,fun h=>by cases h⟩) fun x=>by
   have:=qsx;have:=@qbP.eq_1;have:=@q2v;have:=@Z5;have:=@zM.eq_1;exact gA
def zI (l:List qa) (s:qf) (at0:Int):Option Bool:=Option.bind (ZV l) fun(a:List (Prod Int Int))=>Option.bind (qG (zM l s at0 a l ((l.length:Nat):Int)) 0) fun(a2:Sum Unit Unit)=>Sum.elim (fun(a3:Unit)=>some Bool.true) (fun(a4:Unit)=>some Bool.false) a2
theorem Z9:∀(l:List qa) (s_Worst s_Best s_Pass at0:Int),ev 32 0 [rL 8 qc l,R.agg [dI s_Worst,dI s_Best,dI s_Pass],rI at0] []=(zI l (qf.mk s_Worst s_Best s_Pass) at0).bind (fun(e:Bool)=>some (rB e,[])):=
 fun l s_Worst s_Best s_Pass at0=>by
  rw[qD qoR qsQ.2.2.2 qsK]
  have:=qsx;have:=@q4I;have:=@q0K;have:=@zI.eq_1;exact gA
theorem lo8:okL 8 qiW:=qI (qi bd8) (by kernel_rfl) (by kernel_rfl)
def cx8:=JA_ @qiW.eq_1 (JA_ @Try.f8.eq_1 @bd8)
theorem quh:okL 26 qcT:=qI (qi qqB) (by kernel_rfl) (by kernel_rfl)
def qvM:=JA_ @qcT.eq_1 (JA_ @Try.f26.eq_1 @qqB)
theorem q4w:∀(code:ByteArray) (grade source day:Int),ev 26 0 [rS code,rI grade,rI source,rI day] []=some (R.agg [C.d (D.int IntKind.i64 1),dS code,C.d (D.int IntKind.i64 5),C.d (D.int IntKind.i64 grade),C.d (D.int IntKind.i64 day),C.d (D.sl 1 1 [D.int IntKind.i64 source]),C.d (D.int IntKind.i64 0),C.d (D.sl 1 0 [])],[]):=
 fun code grade source day=>by
  rw[qD qqB qsJ.2.2.2 quh]
  have:=qvM;exact gA
theorem qux:okL 10 qaP:=qI (qi qqF) (by kernel_rfl) (by kernel_rfl)
def quD:=JA_ @qaP.eq_1 (JA_ @Try.f10.eq_1 @qqF)
theorem J6:ev 10 0 [] []=some (R.agg [C.d (D.int IntKind.i64 0),C.d (D.int IntKind.i64 100),C.d (D.int IntKind.i64 50)],[]):=
 by
  rw[qD qqF qte.2.2.2 qux]
  have:=quD;exact gA
theorem lo9:okL 9 qfs:=qI (qi bd9) (by kernel_rfl) (by kernel_rfl)
def cx9:=JA_ @qfs.eq_1 (JA_ @Try.f9.eq_1 @bd9)
theorem qq3:lbO 9 3=qhH:=Q3 (qi bd9) rfl
theorem qpM:okL 9 qhH:=zh lo9 (qvW (i:=0) (by kernel_rfl))
theorem qsa:okL 27 q8B:=qI (qi qp5) (by kernel_rfl) (by kernel_rfl)
def qta:=JA_ @q8B.eq_1 (JA_ @Try.f27.eq_1 @qp5)
theorem qnq:lbO 27 3=qd5:=Q3 (qi qp5) rfl
theorem qlN:okL 27 qd5:=zh qsa (qvW (i:=0) (by kernel_rfl))
theorem qvn:okL 51 qdJ:=qI (qi qrw) (by kernel_rfl) (by kernel_rfl)
def qvR:=JA_ @qdJ.eq_1 (JA_ @Try.f51.eq_1 @qrw)
def ZH:Option (List ByteArray):=
 some [ByteArray.mk (List.toArray [65,49]),ByteArray.mk (List.toArray [66,49]),ByteArray.mk (List.toArray [66,50]),ByteArray.mk (List.toArray [67,49]),ByteArray.mk (List.toArray [68,49]),ByteArray.mk (List.toArray [69,57])]
def qw:List ByteArray:=
 [ByteArray.mk (List.toArray [65,49]),ByteArray.mk (List.toArray [66,49]),ByteArray.mk (List.toArray [66,50]),ByteArray.mk (List.toArray [67,49]),ByteArray.mk (List.toArray [68,49]),ByteArray.mk (List.toArray [69,57])]
theorem q2y:ZH=some (qw):=by
 unfold ZH qw
 simp only[ZG]
theorem q01:ev 51 0 [] []=some (R.c (C.d (D.sl 1 (qw).length ((qw).flatMap eS))),[]):=
 by
  have h:ev 51 0 [] []=(ZH).bind (fun(e:List ByteArray)=>some (rL 1 eS e,[])):=by
   rw[qD qrw qsi.2.2.2 qvn]
   have:=qvR;have:=@ZH.eq_1;exact gA
  rw[q2y] at h
  exact h
theorem qtL:okL 52 qbB:=qI (qi qpu) (by kernel_rfl) (by kernel_rfl)
def qvz:=JA_ @qbB.eq_1 (JA_ @Try.f52.eq_1 @qpu)
theorem qtR:okL 28 qdy:=qI (qi qpm) (by kernel_rfl) (by kernel_rfl)
def qvr:=JA_ @qdy.eq_1 (JA_ @Try.f28.eq_1 @qpm)
def zS (n:Int) (m:Int):Option Int:=if m=0 then none else if m=0 then none else some (Int.tmod (w64 (Int.tmod n m+m)) m)
theorem Jk:∀(n m:Int),ev 28 0 [rI n,rI m] []=(zS n m).bind (fun(e:Int)=>some (rI e,[])):=
 fun n m=>by
  rw[qD qpm qs6.2.2.2 qtR]
  have:=qvr;have:=@zS.eq_1;exact gA
def qt (n:Int) (d:qd):Option (Int×qd):=if((d.L.length:Nat):Int)≤d.At then some (0,d) else if 0≤w64 (w64 (d.At+1)-1)∧w64 (w64 (d.At+1)-1)<((d.L.length:Nat):Int) then Option.bind d.L[Int.toNat (w64 (w64 (d.At+1)-1))]? fun(a:Int)=>Option.bind (zS a n) fun(a2:Int)=>some (a2,qd.mk d.L (w64 (d.At+1))) else none
theorem q12:∀(n:Int) (d_L:List Int) (d_At:Int),ev 52 1 [rP 0,rI n] [(0,B.blk 89 [dL 1 eI d_L,dI d_At])]=(qt n (qd.mk d_L d_At)).bind (fun(e:Int×qd)=>some (rI e.1,[(0,B.blk 89 [dL 1 eI e.2.L,dI e.2.At])])):=
 fun n d_L d_At=>by
  rw[qD qpu qsC.2.2.2 qtL]
  have:=qvz;have:=@Jk;have:=@qt.eq_1;exact gA
theorem qu0:okL 30 qcS:=qI (qi qrh) (by kernel_rfl) (by kernel_rfl)
def quc:=JA_ @qcS.eq_1 (JA_ @Try.f30.eq_1 @qrh)
theorem qua:okL 53 qbq:=qI (qi qrv) (by kernel_rfl) (by kernel_rfl)
def qve:=JA_ @qbq.eq_1 (JA_ @Try.f53.eq_1 @qrv)
def qj (most:Int) (d:qd):Option (Int×qd):=if((d.L.length:Nat):Int)≤d.At then some (0,d) else if 0≤d.At∧d.At<((d.L.length:Nat):Int) then Option.bind d.L[Int.toNat d.At]? fun(a:Int)=>if most=0 then none else if most=0 then none else some (Int.tmod (w64 (Int.tmod a most+most)) most,qd.mk d.L (w64 (d.At+1))) else none
theorem Qi:∀(most:Int) (d_L:List Int) (d_At:Int),ev 53 1 [rP 0,rI most] [(0,B.blk 93 [dL 1 eI d_L,dI d_At])]=(qj most (qd.mk d_L d_At)).bind (fun(e:Int×qd)=>some (rI e.1,[(0,B.blk 93 [dL 1 eI e.2.L,dI e.2.At])])):=
 fun most d_L d_At=>by
  rw[qD qrv qsA.2.2.2 qua]
  have:=qve;have:=@qj.eq_1;exact gA
theorem qv0:okL 54 qcP:=qI (qi qpp) (by kernel_rfl) (by kernel_rfl)
def qvp:=JA_ @qcP.eq_1 (JA_ @Try.f54.eq_1 @qpp)
def Qf (d:qd):Option (qb×qd):=Option.bind (qj 6 d) fun(a:Prod Int qd)=>if 0≤a.1∧a.1<6 then Option.bind [(1:Int),1,1,2,2,3][Int.toNat a.1]? fun(a2:Int)=>Option.bind (qj ((qw.length:Nat):Int) a.2) fun(a3:Prod Int qd)=>if 0≤a3.1∧a3.1<((qw.length:Nat):Int) then Option.bind qw[Int.toNat a3.1]? fun(a4:ByteArray)=>some (qb.mk a2 a4,a3.2) else none else none
theorem Jy:∀(d_L:List Int) (d_At:Int),ev 54 1 [rP 0] [(0,B.blk 93 [dL 1 eI d_L,dI d_At])]=(Qf (qd.mk d_L d_At)).bind (fun(e:qb×qd)=>some (R.agg [dI e.1.School,dS e.1.Code],[(0,B.blk 93 [dL 1 eI e.2.L,dI e.2.At])])):=
 fun d_L d_At=>by
  rw[qD qpp qsh.2.2.2 qv0]
  have:=qvp;have:=@Qi;have:=@q01;have:=@Qf.eq_1;exact gA
theorem qtn:okL 56 q9c:=qI (qi qpa) (by kernel_rfl) (by kernel_rfl)
def qt4:=JA_ @q9c.eq_1 (JA_ @Try.f56.eq_1 @qpa)
theorem qlJ:lbO 56 9=qaX:=Q3 (qi qpa) rfl
theorem qmI:okL 56 qaX:=zh qtn (qvW (i:=0) (by kernel_rfl))
theorem qrs:okL 77 q6B:=qI (qi qks) (by kernel_rfl) (by kernel_rfl)
def qqV:=JA_ @q6B.eq_1 (JA_ @Try.f77.eq_1 @qks)
theorem qm0:lbO 77 4=qcO:=Q3 (qi qks) rfl
theorem qmY:okL 77 qcO:=zh qrs (qvW (i:=0) (by kernel_rfl))
theorem qlM:lbO 77 8=qcv:=Q3 (qi qks) rfl
theorem qmP:okL 77 qcv:=zh qrs (qvW (i:=1) (by kernel_rfl))
theorem qv9:okL 55 qbU:=qI (qi qrI) (by kernel_rfl) (by kernel_rfl)
def qud:=JA_ @qbU.eq_1 (JA_ @Try.f55.eq_1 @qrI)
def QW (a:qb) (b:qb):Option Bool:=if a.School<b.School then some Bool.true else if(a.School==b.School)=Bool.true then some (Op.bytesLess (ByteArray.toList a.Code) (ByteArray.toList b.Code)) else some Bool.false
def zu (a:qb) (b:qb):Bool:=if a.School<b.School then Bool.true else if(a.School==b.School)=Bool.true then Op.bytesLess (ByteArray.toList a.Code) (ByteArray.toList b.Code) else Bool.false
theorem q13 (a b:qb):QW a b=some (zu a b):=by
 unfold QW zu
 simp only[ZG]
theorem ZT:∀(a_School:Int) (a_Code:ByteArray) (b_School:Int) (b_Code:ByteArray),ev 55 0 [R.agg [dI a_School,dS a_Code],R.agg [dI b_School,dS b_Code]] []=some (rB (zu (qb.mk a_School a_Code) (qb.mk b_School b_Code)),[]):=
 fun a_School a_Code b_School b_Code=>by
  have h:ev 55 0 [R.agg [dI a_School,dS a_Code],R.agg [dI b_School,dS b_Code]] []=(QW (qb.mk a_School a_Code) (qb.mk b_School b_Code)).bind (fun(e:Bool)=>some (rB e,[])):=by
   rw[qD qrI qtC.2.2.2 qv9]
   have:=qud;have:=@QW.eq_1;exact gA
  rw[q13] at h
  exact h
def Qh (out:List qb) (d:qd) (c:qb) (many:Int) (k:Int):Int→Option (Int⊕Int)|at0=>if at0<((out.length:Nat):Int) then if 0≤at0∧at0<((out.length:Nat):Int) then Option.bind out[Int.toNat at0]? fun(a:qb)=>if zu a c=Bool.true then some (Sum.inl (w64 (at0+1))) else some (Sum.inr at0) else none else some (Sum.inr at0)
theorem q2F:∀(out:List qb) (d_L:List Int) (d_At c_School:Int) (c_Code:ByteArray) (many k at0:Int) (out_len:Nat),out_len=out.length→XL2 evo 77 1 8 ⟨[(0,rP 0),(3,rI many),(4,rO 1 2 out_len),(5,rI k),(6,rP 2),(7,rI at0)],[(0,B.blk 93 [dL 1 eI d_L,dI d_At]),(1,bR 50 2 qh out),(2,B.blk 50 [dI c_School,dS c_Code])],3,61⟩=(qG (Qh out (qd.mk d_L d_At) (qb.mk c_School c_Code) many k) at0).bind (fun(e:Int)=>some (Exit.exit 2,⟨[(0,rP 0),(3,rI many),(4,rO 1 2 out.length),(5,rI k),(6,rP 2),(7,rI e)],[(0,B.blk 93 [dL 1 eI d_L,dI d_At]),(1,bR 50 2 qh out),(2,B.blk 50 [dI c_School,dS c_Code])],3,61⟩)):=
 by
 intro out d_L d_At c_School c_Code many k at0 out_len h0
 subst h0
 revert at0;exact q8X qlM qmP (fun e=>by exact⟨_,rfl,fun h=>by cases h⟩) fun x=>by
  have:=qqV;have:=@qcv.eq_1;have:=@ZT;have:=@Qh.eq_1;exact gA
def zE (many:Int):(List qb×qd×Int)→Option ((List qb×qd×Int)⊕(List qb×qd))|(out,d,k)=>if k<many then Option.bind (Qf d) fun(a:Prod qb qd)=>Option.bind (qG (Qh out a.2 a.1 many k) 0) fun(a2:Int)=>if a2<((out.length:Nat):Int) then if 0≤a2∧a2<((out.length:Nat):Int) then Option.bind out[Int.toNat a2]? fun(a3:qb)=>if(a3.School==a.1.School)=Bool.true∧(ByteArray.toList a3.Code==ByteArray.toList a.1.Code)=Bool.true then some (Sum.inl (out,a.2,w64 (k+1))) else if out.length+1≤maxLen∧(out.length+1)*24≤140737488355328 then if 0≤w64 (a2+1)∧w64 (a2+1)≤((out.length+1:Nat):Int) then if w64 (a2+1)=0∨w64 (a2+1)<((out.length+1:Nat):Int) then if 0≤a2∧a2≤((out.length+1:Nat):Int) then if a2=0∨a2<((out.length+1:Nat):Int) then if(List.take (out.length+1-Int.toNat a2) (List.drop (Int.toNat a2) (out++[qb.mk 0 (ByteArray.mk (List.toArray []))]))).length*2=(out.length+1-Int.toNat a2)*2∧Int.toNat (w64 (a2+1))*2+(out.length+1-Int.toNat (w64 (a2+1)))*2≤(out.length+1)*2 then if 0≤a2∧a2<((out.length+1:Nat):Int) then if Int.toNat a2*2+2≤(out.length+1)*2 then some (Sum.inl (List.set (spl (out++[qb.mk 0 (ByteArray.mk (List.toArray []))]) (Int.toNat (w64 (a2+1))) (List.take (min (out.length+1-Int.toNat a2) (out.length+1-Int.toNat (w64 (a2+1)))) (List.take (out.length+1-Int.toNat a2) (List.drop (Int.toNat a2) (out++[qb.mk 0 (ByteArray.mk (List.toArray []))]))))) (Int.toNat a2) a.1,a.2,w64 (k+1))) else none else none else none else if Int.toNat (w64 (a2+1))*2+(out.length+1-Int.toNat (w64 (a2+1)))*2≤(out.length+1)*2 then if 0≤a2∧a2<((out.length+1:Nat):Int) then if Int.toNat a2*2+2≤(out.length+1)*2 then some (Sum.inl (List.set (out++[qb.mk 0 (ByteArray.mk (List.toArray []))]) (Int.toNat a2) a.1,a.2,w64 (k+1))) else none else none else none else none else if 0≤a2∧a2≤((out.length+1:Nat):Int) then if a2=0∨a2<((out.length+1:Nat):Int) then if(List.take (out.length+1-Int.toNat a2) (List.drop (Int.toNat a2) (out++[qb.mk 0 (ByteArray.mk (List.toArray []))]))).length*2=(out.length+1-Int.toNat a2)*2 then if 0≤a2∧a2<((out.length+1:Nat):Int) then if Int.toNat a2*2+2≤(out.length+1)*2 then some (Sum.inl (List.set (out++[qb.mk 0 (ByteArray.mk (List.toArray []))]) (Int.toNat a2) a.1,a.2,w64 (k+1))) else none else none else none else if 0≤a2∧a2<((out.length+1:Nat):Int) then if Int.toNat a2*2+2≤(out.length+1)*2 then some (Sum.inl (List.set (out++[qb.mk 0 (ByteArray.mk (List.toArray []))]) (Int.toNat a2) a.1,a.2,w64 (k+1))) else none else none else none else none else none else none else if out.length+1≤maxLen∧(out.length+1)*24≤140737488355328 then if 0≤w64 (a2+1)∧w64 (a2+1)≤((out.length+1:Nat):Int) then if w64 (a2+1)=0∨w64 (a2+1)<((out.length+1:Nat):Int) then if 0≤a2∧a2≤((out.length+1:Nat):Int) then if a2=0∨a2<((out.length+1:Nat):Int) then if(List.take (out.length+1-Int.toNat a2) (List.drop (Int.toNat a2) (out++[qb.mk 0 (ByteArray.mk (List.toArray []))]))).length*2=(out.length+1-Int.toNat a2)*2∧Int.toNat (w64 (a2+1))*2+(out.length+1-Int.toNat (w64 (a2+1)))*2≤(out.length+1)*2 then if 0≤a2∧a2<((out.length+1:Nat):Int) then if Int.toNat a2*2+2≤(out.length+1)*2 then some (Sum.inl (List.set (spl (out++[qb.mk 0 (ByteArray.mk (List.toArray []))]) (Int.toNat (w64 (a2+1))) (List.take (min (out.length+1-Int.toNat a2) (out.length+1-Int.toNat (w64 (a2+1)))) (List.take (out.length+1-Int.toNat a2) (List.drop (Int.toNat a2) (out++[qb.mk 0 (ByteArray.mk (List.toArray []))]))))) (Int.toNat a2) a.1,a.2,w64 (k+1))) else none else none else none else if Int.toNat (w64 (a2+1))*2+(out.length+1-Int.toNat (w64 (a2+1)))*2≤(out.length+1)*2 then if 0≤a2∧a2<((out.length+1:Nat):Int) then if Int.toNat a2*2+2≤(out.length+1)*2 then some (Sum.inl (List.set (out++[qb.mk 0 (ByteArray.mk (List.toArray []))]) (Int.toNat a2) a.1,a.2,w64 (k+1))) else none else none else none else none else if 0≤a2∧a2≤((out.length+1:Nat):Int) then if a2=0∨a2<((out.length+1:Nat):Int) then if(List.take (out.length+1-Int.toNat a2) (List.drop (Int.toNat a2) (out++[qb.mk 0 (ByteArray.mk (List.toArray []))]))).length*2=(out.length+1-Int.toNat a2)*2 then if 0≤a2∧a2<((out.length+1:Nat):Int) then if Int.toNat a2*2+2≤(out.length+1)*2 then some (Sum.inl (List.set (out++[qb.mk 0 (ByteArray.mk (List.toArray []))]) (Int.toNat a2) a.1,a.2,w64 (k+1))) else none else none else none else if 0≤a2∧a2<((out.length+1:Nat):Int) then if Int.toNat a2*2+2≤(out.length+1)*2 then some (Sum.inl (List.set (out++[qb.mk 0 (ByteArray.mk (List.toArray []))]) (Int.toNat a2) a.1,a.2,w64 (k+1))) else none else none else none else none else none else some (Sum.inr (out,d))
theorem q2f:∀(out:List qb) (d_L:List Int) (d_At many k:Int) (out_len:Nat),out_len=out.length→XL2 evo 77 1 4 ⟨[(0,rP 0),(3,rI many),(4,rO 1 2 out_len),(5,rI k)],[(0,B.blk 93 [dL 1 eI d_L,dI d_At]),(1,bR 50 2 qh out)],2,61⟩=(qG (zE many) (out,(qd.mk d_L d_At),k)).bind (fun(e:List qb×qd)=>some (Exit.exit 0,⟨[(4,rO 1 2 e.1.length)],[(0,B.blk 93 [dL 1 eI e.2.L,dI e.2.At]),(1,bR 50 2 qh e.1)],2,61⟩)):=
 by
 intro out d_L d_At many k out_len h0
 subst h0
 have h:=q7X (E:=evo) (f:=77) (k:=1) (st:=fun x:List qb×qd×Int=>(⟨[(0,rP 0),(3,rI many),(4,rO 1 2 x.1.length),(5,rI x.2.2)],[(0,B.blk 93 [dL 1 eI x.2.1.L,dI x.2.1.At]),(1,bR 50 2 qh x.1)],2,61⟩:S)) (ex:=fun(e:List qb×qd)=>(Exit.exit 0,⟨[(4,rO 1 2 e.1.length)],[(0,B.blk 93 [dL 1 eI e.2.L,dI e.2.At]),(1,bR 50 2 qh e.1)],2,61⟩)) (step:=(zE many)) qm0 qmY (fun e h=>by cases h) (fun x=>by
  obtain⟨out,d,k⟩:=x;have:=qqV;have:=@qcO.eq_1;have:=@Jy;have:=@q2F;have:=@zE.eq_1;exact gA) (out,(qd.mk d_L d_At),k)
 exact h
theorem q1a:∀  (d_L:List Int) (d_At many k:Int),XL2 evo 77 1 4 ⟨[(0,rP 0),(3,rI many),(4,rO 1 2 0),(5,rI k)],[(0,B.blk 93 [dL 1 eI d_L,dI d_At]),(1,B.row 50 2 [])],2,61⟩=(qG (zE many) ([],(qd.mk d_L d_At),k)).bind (fun(e:List qb×qd)=>some (Exit.exit 0,⟨[(4,rO 1 2 e.1.length)],[(0,B.blk 93 [dL 1 eI e.2.L,dI e.2.At]),(1,bR 50 2 qh e.1)],2,61⟩)):=by
 intro d_L d_At many k;have h:=q2f [] ((qd.mk d_L d_At)).L ((qd.mk d_L d_At)).At many k _ rfl
 first
  | exact h
  | (simp only[rL,dL,bR,bZ,Nat.reduceAdd] at h;exact h)
def zT (d:qd):Option (List qb×qd):=Option.bind (qj 3 d) fun(a:Prod Int qd)=>Option.bind (qG (zE (w64 (1+a.1))) ([],(a.2,0))) fun(a2:Prod (List qb) qd)=>some (a2.1,a2.2)
theorem q4K:∀(d_L:List Int) (d_At:Int),ev 77 1 [rP 0] [(0,B.blk 93 [dL 1 eI d_L,dI d_At])]=(zT (qd.mk d_L d_At)).bind (fun(e:List qb×qd)=>some (rL 2 qh e.1,[(0,B.blk 93 [dL 1 eI e.2.L,dI e.2.At])])):=
 fun d_L d_At=>by
  rw[qD qks qsW.2.2.2 qrs]
  have:=qqV;have:=@Qi;have:=@q1a;have:=@zT.eq_1;exact gA
def zg (x:(Int×Int×qd)):List R×List (Nat×B):=([R.c (C.ptr 0 0),R.c (C.d (D.int .i64 x.1)),R.c (C.d (D.int .i64 x.2.1))],[(0,B.blk 93 [C.d (D.sl 1 x.2.2.L.length (x.2.2.L.flatMap eI)),C.d (D.int .i64 x.2.2.At)])])
def zG:(qg×qd)→R×List (Nat×B):=fun(e:qg×qd)=>(R.agg [C.d (D.int .i64 e.1.Kind),C.d (D.int .i64 e.1.N),C.d (D.int .i64 e.1.Min),C.d (D.sl 2 e.1.Set.length (e.1.Set.flatMap qh)),C.d (D.sl 5 e.1.L.length (e.1.L.flatMap qq))],[(0,B.blk 93 [C.d (D.sl 1 e.2.L.length (e.2.L.flatMap eI)),C.d (D.int .i64 e.2.At)])])
def zd (rF:(Int×Int×qd)→Option (qg×qd)) (b1_Kind:Int) (b1_N:Int) (b1_Min:Int) (b2_Kind:Int) (b2_N:Int) (b2_Min:Int) (t1:Int) (t2:Int) (t7:Int) (t8:Int):(List qg×qd×Int)→Option ((List qg×qd×Int)⊕(List qg×qd))|(w3,b0,t10)=>if t10<t8 then if t8=0 then none else Option.bind (rF (w64 (t1-1),(w64 (Int.tdiv t2 t8),b0))) fun(a2:Prod qg qd)=>if w3.length+1≤maxLen∧(w3.length+1)*72≤140737488355328 then some (Sum.inl (w3++[a2.1],a2.2,w64 (t10+1))) else none else some (Sum.inr (w3,b0))
theorem q1A (rE:Orc) (rF:(Int×Int×qd)→Option (qg×qd)) (hF:∀y,rE (.fn 56) 1 (zg y).1 (zg y).2=(rF y).bind fun e=>some (zG e)) (hM:∀g k a G,g≠56→rE (.fn g) k a G=ev g k a G) (hR:∀g asg bd k a G,rE (.rd g asg bd) k a G=evr g asg bd k a G):∀(w3:List qg) (b0_L:List Int) (b0_At b1_Kind b1_N b1_Min b2_Kind b2_N b2_Min t1 t2 t7 t8 t10:Int) (w3_len:Nat),w3_len=w3.length→XL2 rE 56 1 9 ⟨[(0,rP 0),(1,rI t1),(2,rI t2),(6,rP 1),(7,rI t7),(8,rI t8),(9,rP 2),(10,rI t10)],[(0,B.blk 93 [dL 1 eI b0_L,dI b0_At]),(1,B.blk 36 [dI b1_Kind,dI b1_N,dI b1_Min,C.nils,C.nils]),(2,B.blk 36 [dI b2_Kind,dI b2_N,dI b2_Min,C.nils,dO 3 5 w3_len]),(3,bR 36 5 qq w3)],4,77⟩=(qG (zd rF b1_Kind b1_N b1_Min b2_Kind b2_N b2_Min t1 t2 t7 t8) (w3,(qd.mk b0_L b0_At),t10)).bind (fun(e:List qg×qd)=>some (Exit.exit 0,⟨[(0,rP 0),(6,rP 1),(7,rI t7),(8,rI t8),(9,rP 2)],[(0,B.blk 93 [dL 1 eI e.2.L,dI e.2.At]),(1,B.blk 36 [dI b1_Kind,dI b1_N,dI b1_Min,C.nils,C.nils]),(2,B.blk 36 [dI b2_Kind,dI b2_N,dI b2_Min,C.nils,dO 3 5 e.1.length]),(3,bR 36 5 qq e.1)],4,77⟩)):=
 by
 intro w3 b0_L b0_At b1_Kind b1_N b1_Min b2_Kind b2_N b2_Min t1 t2 t7 t8 t10 w3_len h0
 subst h0
 have h:=q7X (E:=rE) (f:=56) (k:=1) (st:=fun x:List qg×qd×Int=>(⟨[(0,rP 0),(1,rI t1),(2,rI t2),(6,rP 1),(7,rI t7),(8,rI t8),(9,rP 2),(10,rI x.2.2)],[(0,B.blk 93 [dL 1 eI x.2.1.L,dI x.2.1.At]),(1,B.blk 36 [dI b1_Kind,dI b1_N,dI b1_Min,C.nils,C.nils]),(2,B.blk 36 [dI b2_Kind,dI b2_N,dI b2_Min,C.nils,dO 3 5 x.1.length]),(3,bR 36 5 qq x.1)],4,77⟩:S)) (ex:=fun(e:List qg×qd)=>(Exit.exit 0,⟨[(0,rP 0),(6,rP 1),(7,rI t7),(8,rI t8),(9,rP 2)],[(0,B.blk 93 [dL 1 eI e.2.L,dI e.2.At]),(1,B.blk 36 [dI b1_Kind,dI b1_N,dI b1_Min,C.nils,C.nils]),(2,B.blk 36 [dI b2_Kind,dI b2_N,dI b2_Min,C.nils,dO 3 5 e.1.length]),(3,bR 36 5 qq e.1)],4,77⟩)) (step:=(zd rF b1_Kind b1_N b1_Min b2_Kind b2_N b2_Min t1 t2 t7 t8)) qlJ qmI (fun e h=>by cases h) (fun x=>by
  obtain⟨w3,b0,t10⟩:=x;have hF':∀(x1 x2:Int) (v_L:List Int) (v_At:Int),rE (.fn 56) 1 [rP 0,rI x1,rI x2] [(0,B.blk 93 [dL 1 eI v_L,dI v_At])]=(rF (x1,x2,(qd.mk v_L v_At))).bind (fun e=>some (R.agg [dI e.1.Kind,dI e.1.N,dI e.1.Min,dL 2 qh e.1.Set,dL 5 qq e.1.L],[(0,B.blk 93 [dL 1 eI e.2.L,dI e.2.At])])):=fun x1 x2 v_L v_At=>hF (x1,x2,(qd.mk v_L v_At))
  have:=qt4;have:=@qaX.eq_1;have:=@zd.eq_1;exact gA) (w3,(qd.mk b0_L b0_At),t10)
 exact h
theorem q0t:∀(rE:Orc) (rF:(Int×Int×qd)→Option (qg×qd)) (hF:∀y,rE (.fn 56) 1 (zg y).1 (zg y).2=(rF y).bind fun e=>some (zG e)) (hM:∀g k a G,g≠56→rE (.fn g) k a G=ev g k a G) (hR:∀g asg bd k a G,rE (.rd g asg bd) k a G=evr g asg bd k a G),∀  (b0_L:List Int) (b0_At b1_Kind b1_N b1_Min b2_Kind b2_N b2_Min t1 t2 t7 t8 t10:Int),XL2 rE 56 1 9 ⟨[(0,rP 0),(1,rI t1),(2,rI t2),(6,rP 1),(7,rI t7),(8,rI t8),(9,rP 2),(10,rI t10)],[(0,B.blk 93 [dL 1 eI b0_L,dI b0_At]),(1,B.blk 36 [dI b1_Kind,dI b1_N,dI b1_Min,C.nils,C.nils]),(2,B.blk 36 [dI b2_Kind,dI b2_N,dI b2_Min,C.nils,dO 3 5 0]),(3,B.row 36 5 [])],4,77⟩=(qG (zd rF b1_Kind b1_N b1_Min b2_Kind b2_N b2_Min t1 t2 t7 t8) ([],(qd.mk b0_L b0_At),t10)).bind (fun(e:List qg×qd)=>some (Exit.exit 0,⟨[(0,rP 0),(6,rP 1),(7,rI t7),(8,rI t8),(9,rP 2)],[(0,B.blk 93 [dL 1 eI e.2.L,dI e.2.At]),(1,B.blk 36 [dI b1_Kind,dI b1_N,dI b1_Min,C.nils,C.nils]),(2,B.blk 36 [dI b2_Kind,dI b2_N,dI b2_Min,C.nils,dO 3 5 e.1.length]),(3,bR 36 5 qq e.1)],4,77⟩)):=by
 intro rE rF hF hM hR b0_L b0_At b1_Kind b1_N b1_Min b2_Kind b2_N b2_Min t1 t2 t7 t8 t10;have h:=q1A rE rF hF hM hR [] ((qd.mk b0_L b0_At)).L ((qd.mk b0_L b0_At)).At b1_Kind b1_N b1_Min b2_Kind b2_N b2_Min t1 t2 t7 t8 t10 _ rfl
 first
  | exact h
  | (simp only[rL,dL,bR,bZ,Nat.reduceAdd] at h;exact h)
def QL (rF:(Int×Int×qd)→Option (qg×qd)):(Int×Int×qd)→Option (qg×qd)|(x1,x2,v)=>Option.bind (qj 6 v) fun(a2:Prod Int qd)=>if x1≤0 then Option.bind (qj 3 a2.2) fun(a3:Prod Int qd)=>if(a3.1==0)=Bool.true then Option.bind (qj 12 a3.2) fun(a4:Prod Int qd)=>Option.bind (qj 3 a4.2) fun(a5:Prod Int qd)=>if 0≤a5.1∧a5.1<3 then Option.bind [(0:Int),50,60][Int.toNat a5.1]? fun(a6:Int)=>Option.bind (zT a5.2) fun(a7:Prod (List qb) qd)=>some (qg.mk 2 (w64 (1+a4.1)) a6 a7.1 [],a7.2) else none else Option.bind (qj 4 a3.2) fun(a8:Prod Int qd)=>if 0≤a8.1∧a8.1<4 then Option.bind [(0:Int),50,60,80][Int.toNat a8.1]? fun(a9:Int)=>Option.bind (zT a8.2) fun(a10:Prod (List qb) qd)=>some (qg.mk 1 0 a9 a10.1 [],a10.2) else none else if x2<2 then Option.bind (qj 3 a2.2) fun(a11:Prod Int qd)=>if(a11.1==0)=Bool.true then Option.bind (qj 12 a11.2) fun(a12:Prod Int qd)=>Option.bind (qj 3 a12.2) fun(a13:Prod Int qd)=>if 0≤a13.1∧a13.1<3 then Option.bind [(0:Int),50,60][Int.toNat a13.1]? fun(a14:Int)=>Option.bind (zT a13.2) fun(a15:Prod (List qb) qd)=>some (qg.mk 2 (w64 (1+a12.1)) a14 a15.1 [],a15.2) else none else Option.bind (qj 4 a11.2) fun(a16:Prod Int qd)=>if 0≤a16.1∧a16.1<4 then Option.bind [(0:Int),50,60,80][Int.toNat a16.1]? fun(a17:Int)=>Option.bind (zT a16.2) fun(a18:Prod (List qb) qd)=>some (qg.mk 1 0 a17 a18.1 [],a18.2) else none else if a2.1<2 then Option.bind (qj 3 a2.2) fun(a19:Prod Int qd)=>if(a19.1==0)=Bool.true then Option.bind (qj 12 a19.2) fun(a20:Prod Int qd)=>Option.bind (qj 3 a20.2) fun(a21:Prod Int qd)=>if 0≤a21.1∧a21.1<3 then Option.bind [(0:Int),50,60][Int.toNat a21.1]? fun(a22:Int)=>Option.bind (zT a21.2) fun(a23:Prod (List qb) qd)=>some (qg.mk 2 (w64 (1+a20.1)) a22 a23.1 [],a23.2) else none else Option.bind (qj 4 a19.2) fun(a24:Prod Int qd)=>if 0≤a24.1∧a24.1<4 then Option.bind [(0:Int),50,60,80][Int.toNat a24.1]? fun(a25:Int)=>Option.bind (zT a24.2) fun(a26:Prod (List qb) qd)=>some (qg.mk 1 0 a25 a26.1 [],a26.2) else none else Option.bind (qj (min 3 x2) a2.2) fun(a27:Prod Int qd)=>Option.bind (qG (zd rF 0 0 0 3 0 0 x1 x2 a2.1 (w64 (1+a27.1))) ([],(a27.2,0))) fun(a28:Prod (List qg) qd)=>if 3<a2.1 then Option.bind (qj (w64 (1+a27.1)) a28.2) fun(a29:Prod Int qd)=>some (qg.mk 4 (w64 (1+a29.1)) 0 [] a28.1,a29.2) else some (qg.mk 3 0 0 [] a28.1,a28.2)
theorem q0i:q6i 56 1 zg zG QL:=by
 intro rE rF hF hM hR x
 obtain⟨x1,x2,v⟩:=x
 show q6G rE 56 1 [rP 0,rI x1,rI x2] [(0,B.blk 93 [dL 1 eI v.L,dI v.At])]=_
 have hF':∀(x1 x2:Int) (v_L:List Int) (v_At:Int),rE (.fn 56) 1 [rP 0,rI x1,rI x2] [(0,B.blk 93 [dL 1 eI v_L,dI v_At])]=(rF (x1,x2,(qd.mk v_L v_At))).bind (fun e=>some (R.agg [dI e.1.Kind,dI e.1.N,dI e.1.Min,dL 2 qh e.1.Set,dL 5 qq e.1.L],[(0,B.blk 93 [dL 1 eI e.2.L,dI e.2.At])])):=fun x1 x2 v_L v_At=>hF (x1,x2,(qd.mk v_L v_At))
 rw[q5g qpa qtn]
 have:=qt4;have:=@Qi;have:=@q4K;have:=q0t rE rF hF hM hR;have:=@QL.eq_1;have:=@zG.eq_1;exact gA
theorem ZY:∀x y,zg x=zg y→x=y:=by
 rintro⟨a0,a1,⟨a2_0,a2_1⟩⟩ ⟨b0,b1,⟨b2_0,b2_1⟩⟩ h
 simp only[zg,Prod.mk.injEq,List.cons.injEq,R.c.injEq,R.agg.injEq,R.tup.injEq,C.d.injEq,C.own.injEq,C.ptr.injEq,C.eptr.injEq,C.clp.injEq,D.int.injEq,D.bool.injEq,D.str.injEq,D.sl.injEq,B.blk.injEq,B.row.injEq,q3h,q1X,JP,q2e,q2d,q3Z,q3v,q4f,q49,q3I,q6K,q3i,true_and,and_true,qwf] at h
 simp only[h]
theorem q1J:∀x y,zG x=zG y→x=y:=by
 rintro⟨⟨a0_0,a0_1,a0_2,a0_3,a0_4⟩,⟨a1_0,a1_1⟩⟩ ⟨⟨b0_0,b0_1,b0_2,b0_3,b0_4⟩,⟨b1_0,b1_1⟩⟩ h
 simp only[zG,Prod.mk.injEq,List.cons.injEq,R.c.injEq,R.agg.injEq,R.tup.injEq,C.d.injEq,C.own.injEq,C.ptr.injEq,C.eptr.injEq,C.clp.injEq,D.int.injEq,D.bool.injEq,D.str.injEq,D.sl.injEq,B.blk.injEq,B.row.injEq,q3h,q1X,JP,q2e,q2d,q3Z,q3v,q4f,q49,q3I,q6K,q3i,true_and,and_true,qwf] at h
 simp only[h]
def zz:(Int×Int×qd)→Option (qg×qd):=q4B 56 1 zg zG
theorem q0z (x:(Int×Int×qd)):zz x=QL zz x:=qgp qqg.2.2.2 ZY q1J q0i x
theorem q2Z (x1 x2:Int) (v:qd):ev 56 1 [rP 0,rI x1,rI x2] [(0,B.blk 93 [dL 1 eI v.L,dI v.At])]=(zz (x1,x2,v)).bind (fun(e:qg×qd)=>some (R.agg [dI e.1.Kind,dI e.1.N,dI e.1.Min,dL 2 qh e.1.Set,dL 5 qq e.1.L],[(0,B.blk 93 [dL 1 eI e.2.L,dI e.2.At])])):=(q8k qqg.2.2.2 ZY q0i (x1,x2,v))
theorem q4o:∀(x1 x2:Int) (v_L:List Int) (v_At:Int),ev 56 1 [rP 0,rI x1,rI x2] [(0,B.blk 93 [dL 1 eI v_L,dI v_At])]=(zz (x1,x2,(qd.mk v_L v_At))).bind (fun(e:qg×qd)=>some (R.agg [dI e.1.Kind,dI e.1.N,dI e.1.Min,dL 2 qh e.1.Set,dL 5 qq e.1.L],[(0,B.blk 93 [dL 1 eI e.2.L,dI e.2.At])])):=
 fun x1 x2 v_L v_At=>q2Z x1 x2 (qd.mk v_L v_At)
def qP (l:List Int):Option qe:=Option.bind (qj 3 (qd.mk l 0)) fun(a:Prod Int qd)=>Option.bind (qj 3 a.2) fun(a2:Prod Int qd)=>Option.bind (qj 5 a2.2) fun(a3:Prod Int qd)=>Option.bind (qj 3 a3.2) fun(a4:Prod Int qd)=>if 0≤a4.1∧a4.1<3 then Option.bind [ByteArray.mk (List.toArray [77,117,115,105,99]),ByteArray.mk (List.toArray [76,97,119]),ByteArray.mk (List.toArray [79,108,100,32,109,97,112,115])][Int.toNat a4.1]? fun(a5:ByteArray)=>Option.bind (qj 20 a4.2) fun(a6:Prod Int qd)=>Option.bind (qj 3 a6.2) fun(a7:Prod Int qd)=>Option.bind (qj 6 a7.2) fun(a8:Prod Int qd)=>Option.bind (qj 5 a8.2) fun(a9:Prod Int qd)=>if 0≤a9.1∧a9.1<5 then Option.bind [(0:Int),0,0,2,5][Int.toNat a9.1]? fun(a10:Int)=>Option.bind (qj 3 a9.2) fun(a11:Prod Int qd)=>if(a11.1==0)=Bool.true then Option.bind (Qf a11.2) fun(a12:Prod qb qd)=>Option.bind (Qf a12.2) fun(a13:Prod qb qd)=>if zu a12.1 a13.1=Bool.true then Option.bind (zz (3,(6,a13.2))) fun(a14:Prod qg qd)=>some (qe.mk 1 (w64 (1+a.1)) (w64 (1+a2.1)) (w64 (100*a3.1)) a5 a14.1 a6.1 (w64 (a7.1*a8.1)) a10 [QF.mk a12.1 a13.1]) else Option.bind (zz (3,(6,a13.2))) fun(a15:Prod qg qd)=>some (qe.mk 1 (w64 (1+a.1)) (w64 (1+a2.1)) (w64 (100*a3.1)) a5 a15.1 a6.1 (w64 (a7.1*a8.1)) a10 []) else Option.bind (zz (3,(6,a11.2))) fun(a16:Prod qg qd)=>some (qe.mk 1 (w64 (1+a.1)) (w64 (1+a2.1)) (w64 (100*a3.1)) a5 a16.1 a6.1 (w64 (a7.1*a8.1)) a10 []) else none else none
theorem q1K:∀(l:List Int),ev 30 0 [rL 1 eI l] []=(qP l).bind (fun(e:qe)=>some (R.agg [dI e.School,dI e.Id,dI e.Version,dI e.From,dS e.Name,dI e.Need.Kind,dI e.Need.N,dI e.Need.Min,dL 2 qh e.Need.Set,dL 5 qq e.Need.L,dI e.Total,dI e.Own,dI e.Age,dL 4 (eA2 qh) e.Exclude],[])):=
 fun l=>by
  rw[qD qrh qtc.2.2.2 qu0]
  have:=quc;have:=@Qi;have:=@Jy;have:=@q4o;have:=@ZT;have:=@qP.eq_1;exact gA
theorem quC:okL 29 qbg:=qI (qi qps) (by kernel_rfl) (by kernel_rfl)
def qtU:=JA_ @qbg.eq_1 (JA_ @Try.f29.eq_1 @qps)
theorem qvC:okL 35 qc9:=qI (qi qq6) (by kernel_rfl) (by kernel_rfl)
def qvh:=JA_ @qc9.eq_1 (JA_ @Try.f35.eq_1 @qq6)
def Zy (a:qa):Option (Int×ByteArray×Int×Int×Int×Int×List Int×List Int):=if a.Sources.length≤maxLen∧a.Sources.length*8≤140737488355328 then if a.Path.length≤maxLen∧a.Path.length*8≤140737488355328 then some (a.Course.School,a.Course.Code,a.Credits,a.Grade,a.Day,a.Bundle,a.Sources,a.Path) else none else none
theorem q4b:∀(a_Course_School:Int) (a_Course_Code:ByteArray) (a_Credits a_Grade a_Day:Int) (a_Sources:List Int) (a_Bundle:Int) (a_Path:List Int),ev 35 0 [R.agg [dI a_Course_School,dS a_Course_Code,dI a_Credits,dI a_Grade,dI a_Day,dL 1 eI a_Sources,dI a_Bundle,dL 1 eI a_Path]] []=(Zy (qa.mk (qb.mk a_Course_School a_Course_Code) a_Credits a_Grade a_Day a_Sources a_Bundle a_Path)).bind (fun(e:Int×ByteArray×Int×Int×Int×Int×List Int×List Int)=>some (R.agg [dI e.1,dS e.2.1,dI e.2.2.1,dI e.2.2.2.1,dI e.2.2.2.2.1,dO 0 1 e.2.2.2.2.2.2.1.length,dI e.2.2.2.2.2.1,dO 1 1 e.2.2.2.2.2.2.2.length],[(0,bR 3 1 eI e.2.2.2.2.2.2.1),(1,bR 3 1 eI e.2.2.2.2.2.2.2)])):=
 fun a_Course_School a_Course_Code a_Credits a_Grade a_Day a_Sources a_Bundle a_Path=>by
  rw[qD qq6 qtz.2.2.2 qvC]
  have:=qvh;have:=@Zy.eq_1;exact gA
def Qq (x0:qa) (x1:QF Int):Option qa:=Option.bind (Zy x0) fun(a:Prod Int (Prod ByteArray (Prod Int (Prod Int (Prod Int (Prod Int (Prod (List Int) (List Int))))))))=>Option.bind (zS x1.a1 40) fun(a2:Int)=>Option.bind (zS x1.a0 8) fun(a3:Int)=>if(a3==0)=Bool.true then some (qa.mk (qb.mk (Int.tmod a2 9) a.2.1) a.2.2.1 a.2.2.2.1 a.2.2.2.2.1 a.2.2.2.2.2.2.1 a.2.2.2.2.2.1 a.2.2.2.2.2.2.2) else if(a3==1)=Bool.true then if 0≤Int.tmod a2 4∧Int.tmod a2 4<4 then Option.bind [ByteArray.mk (List.toArray [65,49]),ByteArray.mk (List.toArray [66,49]),ByteArray.mk (List.toArray []),ByteArray.mk (List.toArray [65])][Int.toNat (Int.tmod a2 4)]? fun(a4:ByteArray)=>some (qa.mk (qb.mk a.1 a4) a.2.2.1 a.2.2.2.1 a.2.2.2.2.1 a.2.2.2.2.2.2.1 a.2.2.2.2.2.1 a.2.2.2.2.2.2.2) else none else if(a3==2)=Bool.true then some (qa.mk (qb.mk a.1 a.2.1) a2 a.2.2.2.1 a.2.2.2.2.1 a.2.2.2.2.2.2.1 a.2.2.2.2.2.1 a.2.2.2.2.2.2.2) else if(a3==3)=Bool.true then some (qa.mk (qb.mk a.1 a.2.1) a.2.2.1 (w64 (w64 (5*a2)-50)) a.2.2.2.2.1 a.2.2.2.2.2.2.1 a.2.2.2.2.2.1 a.2.2.2.2.2.2.2) else if(a3==4)=Bool.true then some (qa.mk (qb.mk a.1 a.2.1) a.2.2.1 a.2.2.2.1 (w64 (20*a2)) a.2.2.2.2.2.2.1 a.2.2.2.2.2.1 a.2.2.2.2.2.2.2) else if(a3==5)=Bool.true then if a.2.2.2.2.2.2.1.length+1≤maxLen∧(a.2.2.2.2.2.2.1.length+1)*8≤140737488355328 then some (qa.mk (qb.mk a.1 a.2.1) a.2.2.1 a.2.2.2.1 a.2.2.2.2.1 (a.2.2.2.2.2.2.1++[w64 (1000000+a2)]) a.2.2.2.2.2.1 a.2.2.2.2.2.2.2) else none else if(a3==6)=Bool.true then some (qa.mk (qb.mk a.1 a.2.1) a.2.2.1 a.2.2.2.1 a.2.2.2.2.1 a.2.2.2.2.2.2.1 (w64 (Int.tmod a2 5-1)) a.2.2.2.2.2.2.2) else if(a3==7)=Bool.true then if a.2.2.2.2.2.2.2.length+1≤maxLen∧(a.2.2.2.2.2.2.2.length+1)*8≤140737488355328 then some (qa.mk (qb.mk a.1 a.2.1) a.2.2.1 a.2.2.2.1 a.2.2.2.2.1 a.2.2.2.2.2.2.1 a.2.2.2.2.2.1 (a.2.2.2.2.2.2.2++[Int.tmod a2 3])) else none else some (qa.mk (qb.mk a.1 a.2.1) a.2.2.1 a.2.2.2.1 a.2.2.2.2.1 a.2.2.2.2.2.2.1 a.2.2.2.2.2.1 a.2.2.2.2.2.2.2)
theorem q4v:∀(x0_Course_School:Int) (x0_Course_Code:ByteArray) (x0_Credits x0_Grade x0_Day:Int) (x0_Sources:List Int) (x0_Bundle:Int) (x0_Path:List Int) (x1_0 x1_1:Int),ev 29 0 [R.agg [dI x0_Course_School,dS x0_Course_Code,dI x0_Credits,dI x0_Grade,dI x0_Day,dL 1 eI x0_Sources,dI x0_Bundle,dL 1 eI x0_Path],R.agg [dI x1_0,dI x1_1]] []=(Qq (qa.mk (qb.mk x0_Course_School x0_Course_Code) x0_Credits x0_Grade x0_Day x0_Sources x0_Bundle x0_Path) (QF.mk x1_0 x1_1)).bind (fun(e:qa)=>some (R.agg [dI e.Course.School,dS e.Course.Code,dI e.Credits,dI e.Grade,dI e.Day,dL 1 eI e.Sources,dI e.Bundle,dL 1 eI e.Path],[])):=
 fun x0_Course_School x0_Course_Code x0_Credits x0_Grade x0_Day x0_Sources x0_Bundle x0_Path x1_0 x1_1=>by
  rw[qD qps qtB.2.2.2 quC]
  have:=qtU;have:=@q4b;have:=@Jk;have:=@Qq.eq_1;exact gA
def zJ (t0:List (List Int)):(List qa×Int)→Option ((List qa×Int)⊕(List qa))|(w0,t4)=>if t4<((t0.length:Nat):Int) then if t4<8 then if 0≤t4∧t4<((t0.length:Nat):Int) then Option.bind t0[Int.toNat t4]? fun(a:List Int)=>Option.bind (qt 6 (qd.mk a 0)) fun(a2:Prod Int qd)=>if 0≤a2.1∧a2.1<((qw.length:Nat):Int) then Option.bind qw[Int.toNat a2.1]? fun(a3:ByteArray)=>Option.bind (qt 3 a2.2) fun(a4:Prod Int qd)=>if 0≤a4.1∧a4.1<3 then Option.bind [(5:Int),6,10][Int.toNat a4.1]? fun(a5:Int)=>Option.bind (qt 11 a4.2) fun(a6:Prod Int qd)=>Option.bind (qt 60 a6.2) fun(a7:Prod Int qd)=>Option.bind (qt 9 a7.2) fun(a8:Prod Int qd)=>Option.bind (qt 3 a8.2) fun(a9:Prod Int qd)=>if(a9.1==0)=Bool.true then Option.bind (qt 3 a9.2) fun(a10:Prod Int qd)=>Option.bind (qt 4 a10.2) fun(a11:Prod Int qd)=>Option.bind (qt 3 a11.2) fun(a12:Prod Int qd)=>if(a12.1==0)=Bool.true then Option.bind (qt 3 a12.2) fun(a13:Prod Int qd)=>Option.bind (qt 3 a13.2) fun(a14:Prod Int qd)=>if w0.length+1≤maxLen∧(w0.length+1)*104≤140737488355328 then some (Sum.inl (w0++[qa.mk (qb.mk (w64 (1+a10.1)) a3) a5 (w64 (50+w64 (5*a6.1))) (w64 (10*a7.1)) [w64 (2000001+a11.1),w64 (w64 (w64 (2000001+a11.1)+1)+a13.1)] (w64 (1+a14.1)) [w64 (1+a14.1)]],w64 (t4+1))) else none else Option.bind (qt 3 a12.2) fun(a15:Prod Int qd)=>if w0.length+1≤maxLen∧(w0.length+1)*104≤140737488355328 then some (Sum.inl (w0++[qa.mk (qb.mk (w64 (1+a10.1)) a3) a5 (w64 (50+w64 (5*a6.1))) (w64 (10*a7.1)) [w64 (2000001+a11.1)] (w64 (1+a15.1)) [w64 (1+a15.1)]],w64 (t4+1))) else none else if w0.length+1≤maxLen∧(w0.length+1)*104≤140737488355328 then some (Sum.inl (w0++[qa.mk (qb.mk 1 a3) a5 (w64 (50+w64 (5*a6.1))) (w64 (10*a7.1)) [w64 (1000001+a8.1)] 0 []],w64 (t4+1))) else none else none else none else none else some (Sum.inr w0) else some (Sum.inr w0)
theorem q1G:∀(w0:List qa) (t0:List (List Int)) (t4:Int) (w0_len:Nat),w0_len=w0.length→XL2 evo 27 0 3 ⟨[(0,rL 1 (eL 1 eI) t0),(3,rO 0 8 w0_len),(4,rI t4)],[(0,bR 52 8 qc w0)],1,89⟩=(qG (zJ t0) (w0,t4)).bind (fun(e:List qa)=>some (Exit.exit 0,⟨[(3,rO 0 8 e.length)],[(0,bR 52 8 qc e)],1,89⟩)):=
 by
 intro w0 t0 t4 w0_len h0
 subst h0
 revert t4;revert w0;exact q8h qnq qlN (fun e=>by exact⟨_,rfl,fun h=>by cases h⟩) fun w0 t4=>by
  have:=qta;have:=@qd5.eq_1;have:=@q01;have:=@q12;have:=@zJ.eq_1;exact gA
theorem q0n:∀  (t0:List (List Int)) (t4:Int),XL2 evo 27 0 3 ⟨[(0,rL 1 (eL 1 eI) t0),(3,rO 0 8 0),(4,rI t4)],[(0,B.row 52 8 [])],1,89⟩=(qG (zJ t0) ([],t4)).bind (fun(e:List qa)=>some (Exit.exit 0,⟨[(3,rO 0 8 e.length)],[(0,bR 52 8 qc e)],1,89⟩)):=by
 intro t0 t4;have h:=q1G [] t0 t4 _ rfl
 first
  | exact h
  | (simp only[rL,dL,bR,bZ,Nat.reduceAdd] at h;exact h)
def Zu (x0:List (List Int)):Option (List qa):=Option.bind (qG (zJ x0) ([],0)) fun(a:List qa)=>some a
theorem q3H:∀(x0:List (List Int)),ev 27 0 [rL 1 (eL 1 eI) x0] []=(Zu x0).bind (fun(e:List qa)=>some (rO 0 8 e.length,[(0,bR 52 8 qc e)])):=
 fun x0=>by
  rw[qD qp5 qsu.2.2.2 qsa]
  have:=qta;have:=@q0n;have:=@Zu.eq_1;exact gA
def Q0 (c:Ql):Option (List qa×qe×Int):=Option.bind (Zu c.Has) fun(a:List qa)=>if 0<((a.length:Nat):Int) then if 0<c.Odd.a0.a0 then Option.bind (zS c.Odd.a0.a2 ((a.length:Nat):Int)) fun(a2:Int)=>if 0≤a2∧a2<((a.length:Nat):Int) then Option.bind a[Int.toNat a2]? fun(a3:qa)=>Option.bind (Qq a3 (QF.mk c.Odd.a0.a0 c.Odd.a0.a1)) fun(a4:qa)=>if 0≤a2∧a2<((a.length:Nat):Int) then if Int.toNat a2*8+8≤a.length*8 then if 0<((a.length:Nat):Int) then if 0<c.Odd.a1.a0 then Option.bind (zS c.Odd.a1.a2 ((a.length:Nat):Int)) fun(a5:Int)=>if 0≤a5∧a5<((a.length:Nat):Int) then Option.bind (List.set a (Int.toNat a2) a4)[Int.toNat a5]? fun(a6:qa)=>Option.bind (Qq a6 (QF.mk c.Odd.a1.a0 c.Odd.a1.a1)) fun(a7:qa)=>if 0≤a5∧a5<((a.length:Nat):Int) then if Int.toNat a5*8+8≤a.length*8 then Option.bind (qP c.Programme) fun(a8:qe)=>some (List.set (List.set a (Int.toNat a2) a4) (Int.toNat a5) a7,a8,Int.tmod (w64 c.Day) 800) else none else none else none else Option.bind (qP c.Programme) fun(a9:qe)=>some (List.set a (Int.toNat a2) a4,a9,Int.tmod (w64 c.Day) 800) else Option.bind (qP c.Programme) fun(a10:qe)=>some (List.set a (Int.toNat a2) a4,a10,Int.tmod (w64 c.Day) 800) else none else none else none else if 0<((a.length:Nat):Int) then if 0<c.Odd.a1.a0 then Option.bind (zS c.Odd.a1.a2 ((a.length:Nat):Int)) fun(a11:Int)=>if 0≤a11∧a11<((a.length:Nat):Int) then Option.bind a[Int.toNat a11]? fun(a12:qa)=>Option.bind (Qq a12 (QF.mk c.Odd.a1.a0 c.Odd.a1.a1)) fun(a13:qa)=>if 0≤a11∧a11<((a.length:Nat):Int) then if Int.toNat a11*8+8≤a.length*8 then Option.bind (qP c.Programme) fun(a14:qe)=>some (List.set a (Int.toNat a11) a13,a14,Int.tmod (w64 c.Day) 800) else none else none else none else Option.bind (qP c.Programme) fun(a15:qe)=>some (a,a15,Int.tmod (w64 c.Day) 800) else Option.bind (qP c.Programme) fun(a16:qe)=>some (a,a16,Int.tmod (w64 c.Day) 800) else if 0<((a.length:Nat):Int) then if 0<c.Odd.a1.a0 then Option.bind (zS c.Odd.a1.a2 ((a.length:Nat):Int)) fun(a17:Int)=>if 0≤a17∧a17<((a.length:Nat):Int) then Option.bind a[Int.toNat a17]? fun(a18:qa)=>Option.bind (Qq a18 (QF.mk c.Odd.a1.a0 c.Odd.a1.a1)) fun(a19:qa)=>if 0≤a17∧a17<((a.length:Nat):Int) then if Int.toNat a17*8+8≤a.length*8 then Option.bind (qP c.Programme) fun(a20:qe)=>some (List.set a (Int.toNat a17) a19,a20,Int.tmod (w64 c.Day) 800) else none else none else none else Option.bind (qP c.Programme) fun(a21:qe)=>some (a,a21,Int.tmod (w64 c.Day) 800) else Option.bind (qP c.Programme) fun(a22:qe)=>some (a,a22,Int.tmod (w64 c.Day) 800)
theorem q17:∀(c_Has:List (List Int)) (c_Odd_0_0 c_Odd_0_1 c_Odd_0_2 c_Odd_1_0 c_Odd_1_1 c_Odd_1_2:Int) (c_Programme:List Int) (c_Day:Int),ev 9 0 [R.agg [dL 1 (eL 1 eI) c_Has,dI c_Odd_0_0,dI c_Odd_0_1,dI c_Odd_0_2,dI c_Odd_1_0,dI c_Odd_1_1,dI c_Odd_1_2,dL 1 eI c_Programme,C.d (D.int .u16 c_Day)]] []=(Q0 (Ql.mk c_Has (QF.mk (qgP.mk c_Odd_0_0 c_Odd_0_1 c_Odd_0_2) (qgP.mk c_Odd_1_0 c_Odd_1_1 c_Odd_1_2)) c_Programme c_Day)).bind (fun(e:List qa×qe×Int)=>some (R.tup [rL 8 qc e.1,R.agg [dI e.2.1.School,dI e.2.1.Id,dI e.2.1.Version,dI e.2.1.From,dS e.2.1.Name,dI e.2.1.Need.Kind,dI e.2.1.Need.N,dI e.2.1.Need.Min,dL 2 qh e.2.1.Need.Set,dL 5 qq e.2.1.Need.L,dI e.2.1.Total,dI e.2.1.Own,dI e.2.1.Age,dL 4 (eA2 qh) e.2.1.Exclude],rI e.2.2],[])):=
 fun c_Has c_Odd_0_0 c_Odd_0_1 c_Odd_0_2 c_Odd_1_0 c_Odd_1_1 c_Odd_1_2 c_Programme c_Day=>by
  rw[qD bd9 pw9.2.2.2 lo9]
  have:=cx9;have:=@q3H;have:=@Jk;have:=@q1K;have:=@q4v;have:=@Q0.eq_1;have:=fun(E:Orc) (k:Nat) (s:S)=>q7Y (E:=E) (k:=k) (s:=s) qq3 qpM;have:=@qhH.eq_1;have:=@q4j;have:=@q7C;have:=@qca;have:=@q84;have:=@qaO;have:=@q7p;have:=@qaT;exact gA
end
end Go.Proofs.Ytofbcijbpfjliaa.Vc
